/- Operations that leave memory alone: the laws of the rest, and all of them under one name. -/
import Derived.Test.YtgcomonjkcpkaaaQngC
import Derived.Laws.StructEq
import Derived.Laws.Cover3
namespace Go.Eng
open Go.RowKit

section
variable {P : Program} {T : Tab} (hT : T.ok P) {B : Nat} {I : Nat → Prop} {w : World} {ρ : Nat → Option Value} {H : List (Nat × Blk)} (hw : HW B I w ρ H)

theorem getD_extract (us : Array Value) (o n j : Nat) (h : o + n ≤ us.size) (hj : j < n) : (us.extract o (o + n)).getD j undef = us.getD (o + j) undef := by
  rw [Array.getD_eq_getD_getElem?, Array.getD_eq_getD_getElem?, Array.getElem?_extract, if_pos (by rw [Nat.min_eq_left h]; omega)]

include hT in
theorem pvField_ok {s : TypeId} {x : AV} {k : Nat} {u : Value} {φ : Prop} {r : AV} (h : pvField T s x k = some (φ, r)) (hφ : φ) (hx : Conc B I w ρ x u) :
    ∃ v, (Instr.field s u k).run P w = .ok v w ∧ Conc B I w ρ r v := by
  unfold pvField at h
  split at h
  · rename_i fs _ _ _ hs
    obtain ⟨F, hF, hfs, _⟩ := (hT _ _ hs).kind
    split at h
    · rename_i o ty ho
      rw [← hfs, List.getElem?_map] at ho
      have : ∃ f, F[k]? = some f ∧ f.offset = o ∧ f.type = ty := by
        rw [Array.getElem?_toList] at ho
        cases hf : F[k]? with
        | none => rw [hf] at ho; cases ho
        | some f => rw [hf] at ho; simp at ho; exact ⟨f, rfl, ho.1, ho.2⟩
      obtain ⟨f, hf, rfl, rfl⟩ := this
      split at h
      · rename_i tf cs htf hst
        have hsz := (hT _ _ htf).size w
        have hag := (hT _ _ htf).agg w
        split at h
        · rename_i hagg
          simp only [Option.some.injEq, Prod.mk.injEq] at h
          obtain ⟨rfl, rfl⟩ := h
          have hc := hx.strip hφ.1
          rw [hst] at hc
          cases hc with
          | a _ us hl hcs =>
            refine ⟨.agg (us.extract f.offset (f.offset + tf.sz)), by simp [Instr.field, run_underlying hF, hf, part, hag, hagg, hsz, asAgg], .a _ _ ?_ ?_⟩
            · have := hφ.2; simp; omega
            · intro j hj
              have h2 := hφ.2
              have hj' : j < tf.sz := by simp at hj; omega
              rw [getD_extract _ _ _ _ (by omega) hj']
              have := hcs (f.offset + j) (by omega)
              have e : ((cs.drop f.offset).take tf.sz).getD j .top = cs.getD (f.offset + j) .top := by
                simp [List.getD_eq_getElem?_getD, hj']
              rw [e]; exact this
        · rename_i hagg
          simp only [Option.some.injEq, Prod.mk.injEq] at h
          obtain ⟨rfl, rfl⟩ := h
          have hc := hx.strip hφ.1
          rw [hst] at hc
          cases hc with
          | a _ us hl hcs =>
            have h2 := hφ.2
            have hlt : f.offset < us.size := by omega
            refine ⟨us.getD f.offset undef, ?_, hcs _ h2⟩
            simp [Instr.field, run_underlying hF, hf, part, hag, hagg, asAgg, hlt, Array.getD_eq_getD_getElem?]
      · cases h
    · cases h
  · cases h

theorem pvExtract_ok {x : AV} {k : Nat} {u : Value} {φ : Prop} {r : AV} (h : pvExtract x k = some (φ, r)) (hφ : φ) (hx : Conc B I w ρ x u) :
    ∃ v, (Instr.extract u k).run P w = .ok v w ∧ Conc B I w ρ r v := by
  unfold pvExtract at h
  split at h
  · rename_i cs hst
    simp only [Option.some.injEq, Prod.mk.injEq] at h
    obtain ⟨rfl, rfl⟩ := h
    have hc := hx.strip hφ.1
    rw [hst] at hc
    cases hc with
    | t _ us hl hcs =>
      have h2 := hφ.2
      have hlt : k < us.size := by omega
      refine ⟨us.getD k undef, ?_, hcs _ h2⟩
      simp [Instr.extract, hlt, Array.getD_eq_getD_getElem?]
  · cases h

theorem intOp_ok {op : BinOp} {t : TypeId} {k : IntKind} {a b : Int} {φ : Prop} {r : Value} (h : intOp op k a b = some (φ, r)) (hφ : φ) (x y : Operand) :
    (do eqGuard op t x y (.int k a) (.int k b); binOp op t (.int k a) (.int k b) : Sem Value).run P w = .ok r w := by
  cases op <;> simp only [intOp, Option.some.injEq, Prod.mk.injEq] at h <;> first | (cases h; done) | (obtain ⟨rfl, rfl⟩ := h; simp [eqGuard, binOp, Op.intArith, Op.intCmp]; done) | (obtain ⟨rfl, rfl⟩ := h; simp [eqGuard, binOp, Op.intDiv, hφ]; done) | (obtain ⟨rfl, rfl⟩ := h; have h1 : ¬ b < 0 := (by have := hφ.1; omega); simp [eqGuard, binOp, Op.shift, h1, Nat.min_eq_left hφ.2])

theorem strOp_ok {op : BinOp} {t : TypeId} {a b : ByteArray} {φ : Prop} {r : Value} (h : strOp op a b = some (φ, r)) (x y : Operand) :
    (do eqGuard op t x y (.string a) (.string b); binOp op t (.string a) (.string b) : Sem Value).run P w = .ok r w := by
  cases op <;> simp only [strOp, Option.some.injEq, Prod.mk.injEq] at h <;> first | (cases h; done) | (obtain ⟨rfl, rfl⟩ := h; simp [eqGuard, binOp, Op.stringOp])

theorem eqBool {t : TypeId} (hu : P.underlying t = some .bool) (a b : Bool) : (Op.equal t (.bool a) (.bool b)).run P w = .ok (a == b) w := by
  have h : ∀ d, (Op.equalIn (d + 1) t (.bool a) (.bool b)).run P w = .ok (a == b) w := fun d => by simp [Op.equalIn, run_underlying hu]
  simp only [Op.equal, Op.maxDepth]; exact h 9999

include hT in
theorem eqA_ok {cs ds : List AV} {us vs : Array Value} (hu : ∀ j, j < cs.length → Conc B I w ρ (cs.getD j .top) (us.getD j undef)) (hul : us.size = cs.length) (hv : ∀ j, j < ds.length → Conc B I w ρ (ds.getD j .top) (vs.getD j undef)) (hvl : vs.size = ds.length) (d : Nat) :
    ∀ (F : List Field) (b : Bool), eqA T cs ds (F.map fun f => (f.offset, f.type)) = some b → (F.all fun f => f.name != "_") = true → (Op.eqFields (d + 1) us vs F).run P w = .ok b w := by
  have lt : ∀ (cs : List AV) (o : Nat) (x : Value), cs.getD o .top = .v x → o < cs.length := fun cs o x h => by
    rcases Nat.lt_or_ge o cs.length with h1 | h1
    · exact h1
    · rw [List.getD_eq_getElem?_getD, List.getElem?_eq_none h1] at h; cases h
  have pt : ∀ (ty : TypeId) (ti : TI) (us : Array Value) (o : Nat), T ty = some ti → ti.k.agg = false → o < us.size → (part ty us o).run P w = .ok (us.getD o undef) w := fun ty ti us o hty hag ho => by
    have := (hT _ _ hty).agg w
    rw [hag] at this
    simp [part, this, ho, Array.getD_eq_getD_getElem?]
  intro F
  induction F with
  | nil => intro b h _; simp [eqA] at h; subst h; simp [Op.eqFields]
  | cons f F ih =>
    intro b h hn
    simp only [List.all_cons, Bool.and_eq_true] at hn
    have hne : f.name ≠ "_" := by simpa using hn.1
    simp only [List.map_cons, eqA] at h
    split at h
    · rename_i k0 _ _ _ k a k' b' hty h1 h2
      split at h <;> first | (cases h; done) | skip
      rename_i hk; subst hk
      split at h <;> first | (cases h; done) | skip
      rename_i t ht
      injection h with h; subst h
      have l1 := lt _ _ _ h1
      have l2 := lt _ _ _ h2
      have c1 := hu _ l1
      have c2 := hv _ l2
      rw [h1] at c1; rw [h2] at c2
      have c1 := c1.v_inv
      have c2 := c2.v_inv
      have e1 := pt f.type _ us f.offset hty rfl (by omega)
      have e2 := pt f.type _ vs f.offset hty rfl (by omega)
      have hU : P.underlying f.type = some (.int k0) := (hT _ _ hty).kind
      simp only [Op.eqFields, hne, ne_eq, not_false_eq_true, if_true, Sem.run_bind, e1, e2, Result.andThen_ok, c1, c2, run_equalIn_int w d f.type _ k0 a b' hU]
      cases hab : (a == b')
      · simp
      · simp [ih t ht hn.2]
    · rename_i _ _ _ a b' hty h1 h2
      split at h <;> first | (cases h; done) | skip
      rename_i t ht
      injection h with h; subst h
      have l1 := lt _ _ _ h1
      have l2 := lt _ _ _ h2
      have c1 := hu _ l1
      have c2 := hv _ l2
      rw [h1] at c1; rw [h2] at c2
      have c1 := c1.v_inv
      have c2 := c2.v_inv
      have e1 := pt f.type _ us f.offset hty rfl (by omega)
      have e2 := pt f.type _ vs f.offset hty rfl (by omega)
      have hU : P.underlying f.type = some .bool := (hT _ _ hty).kind
      simp only [Op.eqFields, hne, ne_eq, not_false_eq_true, if_true, Sem.run_bind, e1, e2, Result.andThen_ok, c1, c2, run_equalIn_bool' w d f.type a b' hU]
      cases hab : (a == b')
      · simp
      · simp [ih t ht hn.2]
    · rename_i _ _ _ a b' hty h1 h2
      split at h <;> first | (cases h; done) | skip
      rename_i t ht
      injection h with h; subst h
      have l1 := lt _ _ _ h1
      have l2 := lt _ _ _ h2
      have c1 := hu _ l1
      have c2 := hv _ l2
      rw [h1] at c1; rw [h2] at c2
      have c1 := c1.v_inv
      have c2 := c2.v_inv
      have e1 := pt f.type _ us f.offset hty rfl (by omega)
      have e2 := pt f.type _ vs f.offset hty rfl (by omega)
      have hU : P.underlying f.type = some .string := (hT _ _ hty).kind
      simp only [Op.eqFields, hne, ne_eq, not_false_eq_true, if_true, Sem.run_bind, e1, e2, Result.andThen_ok, c1, c2, run_equalIn_string w d f.type a b' hU, ← beq_toListBytes]
      cases hab : (a == b')
      · simp
      · simp [ih t ht hn.2]
    · cases h

include hT in
theorem pvBin_ok {op : BinOp} {t : TypeId} {x y : AV} {u v : Value} {φ : Prop} {r : AV} (h : pvBin T op t x y = some (φ, r)) (hφ : φ) (hx : Conc B I w ρ x u) (hy : Conc B I w ρ y v) (ox oy : Operand) :
    ∃ z, (do eqGuard op t ox oy u v; binOp op t u v : Sem Value).run P w = .ok z w ∧ Conc B I w ρ r z := by
  unfold pvBin at h
  split at h
  · rename_i k a k' b h1 h2
    split at h
    · rename_i hk; subst hk
      split at h
      · rename_i ψ r' hi
        simp only [Option.some.injEq, Prod.mk.injEq] at h
        obtain ⟨rfl, rfl⟩ := h
        have hc := hx.strip hφ.1
        have hd := hy.strip hφ.2.1
        rw [h1] at hc; rw [h2] at hd
        obtain rfl := hc.v_inv; obtain rfl := hd.v_inv
        exact ⟨r', intOp_ok hi hφ.2.2 ox oy, .v _⟩
      · cases h
    · cases h
  · rename_i a b h1 h2
    split at h
    · rename_i ψ r' hi
      simp only [Option.some.injEq, Prod.mk.injEq] at h
      obtain ⟨rfl, rfl⟩ := h
      have hc := hx.strip hφ.1
      have hd := hy.strip hφ.2.1
      rw [h1] at hc; rw [h2] at hd
      obtain rfl := hc.v_inv; obtain rfl := hd.v_inv
      exact ⟨r', strOp_ok hi ox oy, .v _⟩
    · cases h
  · rename_i a b h1 h2
    split at h
    · rename_i ht
      have hu : P.underlying t = some .bool := (hT _ _ ht).kind
      simp only [Option.some.injEq, Prod.mk.injEq] at h
      obtain ⟨rfl, rfl⟩ := h
      have hc := hx.strip hφ.1
      have hd := hy.strip hφ.2
      rw [h1] at hc; rw [h2] at hd
      obtain rfl := hc.v_inv; obtain rfl := hd.v_inv
      refine ⟨_, ?_, .v _⟩
      simp only [eqGuard, binOp]; simp [eqBool hu]
    · rename_i ht
      have hu : P.underlying t = some .bool := (hT _ _ ht).kind
      simp only [Option.some.injEq, Prod.mk.injEq] at h
      obtain ⟨rfl, rfl⟩ := h
      have hc := hx.strip hφ.1
      have hd := hy.strip hφ.2
      rw [h1] at hc; rw [h2] at hd
      obtain rfl := hc.v_inv; obtain rfl := hd.v_inv
      refine ⟨_, ?_, .v _⟩
      simp only [eqGuard, binOp]; simp [eqBool hu]
    · cases h
  · rename_i cs ds h1 h2
    split at h <;> first | (cases h; done) | skip
    rename_i fs _ _ _ ht
    obtain ⟨F, hF, hfs, hq⟩ := (hT _ _ ht).kind
    obtain ⟨q1, q2, q3⟩ := hq rfl
    have hfo : P.fieldsOf t = F := by simp only [Program.fieldsOf, hF]
    have hF' : P.underlying t = some (.struct (P.fieldsOf t)) := by rw [hfo]; exact hF
    have key : ∀ r, eqA T cs ds fs = some r → x.cond → y.cond → ∃ us vs, u = .agg us ∧ v = .agg vs ∧ (Op.equalIn 10000 t (.agg us) (.agg vs)).run P w = .ok r w := fun r hr hx1 hy1 => by
      have hc := hx.strip hx1
      have hd := hy.strip hy1
      rw [h1] at hc; rw [h2] at hd
      cases hc with
      | a _ us hul hus =>
        cases hd with
        | a _ vs hvl hvs =>
          refine ⟨us, vs, rfl, rfl, ?_⟩
          rw [run_equalIn_struct w 9999 t us vs hF' q1, hfo]
          exact eqA_ok hT hus hul hvs hvl 9998 F.toList r (by rw [hfs]; exact hr) q3
    split at h <;> first | (cases h; done) | skip
    · rename_i r hr
      simp only [Option.some.injEq, Prod.mk.injEq] at h
      obtain ⟨rfl, rfl⟩ := h
      obtain ⟨us, vs, rfl, rfl, hrun⟩ := key _ hr hφ.1 hφ.2
      refine ⟨_, ?_, .v _⟩
      simp only [Sem.run_bind, run_eqGuard_agg w .eql t ox oy us vs q2, Result.andThen_ok, run_eql_struct w t us vs, hrun]
    · rename_i r hr
      simp only [Option.some.injEq, Prod.mk.injEq] at h
      obtain ⟨rfl, rfl⟩ := h
      obtain ⟨us, vs, rfl, rfl, hrun⟩ := key _ hr hφ.1 hφ.2
      refine ⟨_, ?_, .v _⟩
      simp only [Sem.run_bind, run_eqGuard_agg w .neq t ox oy us vs q2, Result.andThen_ok, run_neq_struct w t us vs, hrun]
  · rename_i fr c sz off len h1 h2
    have key : x.cond → y.cond → 0 < len → ∃ ad n cp, u = .slice (some ad) n cp ∧ v = .slice none 0 0 := fun hx1 hy1 hl => by
      have hc := hx.strip hx1
      have hd := hy.strip hy1
      rw [h1] at hc; rw [h2] at hd
      cases hc with
      | i _ _ _ _ _ cap A uu hcap hA hcc =>
        obtain ⟨ad, rfl, _⟩ := hA hl
        exact ⟨ad, _, _, rfl, hd.v_inv⟩
    split at h <;> first | (cases h; done) | skip
    · rename_i e _ _ _ ht
      have hu : P.underlying t = some (.slice e) := (hT _ _ ht).kind
      simp only [Option.some.injEq, Prod.mk.injEq] at h
      obtain ⟨rfl, rfl⟩ := h
      obtain ⟨ad, n, cp, rfl, rfl⟩ := key hφ.1 hφ.2.1 hφ.2.2
      refine ⟨_, ?_, .v _⟩
      have := run_equal_slice_nil w t e (some ad) n cp hu
      simp [eqGuard, binOp, this]
    · rename_i e _ _ _ ht
      have hu : P.underlying t = some (.slice e) := (hT _ _ ht).kind
      simp only [Option.some.injEq, Prod.mk.injEq] at h
      obtain ⟨rfl, rfl⟩ := h
      obtain ⟨ad, n, cp, rfl, rfl⟩ := key hφ.1 hφ.2.1 hφ.2.2
      refine ⟨_, ?_, .v _⟩
      have := run_neq_slice_nil w t e (some ad) n cp hu
      simp [eqGuard, this]
  · rename_i A n cp h1 h2
    split at h <;> first | (cases h; done) | skip
    · rename_i e _ _ _ ht
      have hu : P.underlying t = some (.slice e) := (hT _ _ ht).kind
      simp only [Option.some.injEq, Prod.mk.injEq] at h
      obtain ⟨rfl, rfl⟩ := h
      have hc := hx.strip hφ.1
      have hd := hy.strip hφ.2
      rw [h1] at hc; rw [h2] at hd
      obtain rfl := hc.v_inv; obtain rfl := hd.v_inv
      refine ⟨_, ?_, .v _⟩
      have := run_equal_slice_nil w t e A n cp hu
      simp [eqGuard, binOp, this]
    · rename_i e _ _ _ ht
      have hu : P.underlying t = some (.slice e) := (hT _ _ ht).kind
      simp only [Option.some.injEq, Prod.mk.injEq] at h
      obtain ⟨rfl, rfl⟩ := h
      have hc := hx.strip hφ.1
      have hd := hy.strip hφ.2
      rw [h1] at hc; rw [h2] at hd
      obtain rfl := hc.v_inv; obtain rfl := hd.v_inv
      refine ⟨_, ?_, .v _⟩
      have := run_neq_slice_nil w t e A n cp hu
      simp [eqGuard, this]
  · cases h

theorem pvUn_ok {op : UnOp} {x : AV} {u : Value} {φ : Prop} {r : AV} (h : pvUn op x = some (φ, r)) (hφ : φ) (hx : Conc B I w ρ x u) :
    ∃ z, (Op.unary op u).run P w = .ok z w ∧ Conc B I w ρ r z := by
  unfold pvUn at h
  split at h
  · rename_i k n h1
    simp only [Option.some.injEq, Prod.mk.injEq] at h
    obtain ⟨rfl, rfl⟩ := h
    have hc := hx.strip hφ
    rw [h1] at hc; obtain rfl := hc.v_inv
    exact ⟨_, by simp [Op.unary, Op.intArith], .v _⟩
  · rename_i b h1
    simp only [Option.some.injEq, Prod.mk.injEq] at h
    obtain ⟨rfl, rfl⟩ := h
    have hc := hx.strip hφ
    rw [h1] at hc; obtain rfl := hc.v_inv
    exact ⟨_, by simp [Op.unary], .v _⟩
  · cases h

theorem pvPick_ok {c x y : AV} {uc ux uy : Value} {φ : Prop} {r : AV} (h : pvPick c x y = some (φ, r)) (hφ : φ) (hc : Conc B I w ρ c uc) (hx : Conc B I w ρ x ux) (hy : Conc B I w ρ y uy) :
    ∃ z, (do pure (Next.value (if ← asBool uc then ux else uy)) : Sem Next).run P w = .ok (.value z) w ∧ Conc B I w ρ r z := by
  unfold pvPick at h
  split at h
  · rename_i b h1
    have key : ∀ (p q : Value), x.strip = .v p → y.strip = .v q → (c.cond ∧ (b = true → x.cond) ∧ (b = false → y.cond)) → ∃ z, (do pure (Next.value (if ← asBool uc then ux else uy)) : Sem Next).run P w = .ok (.value z) w ∧ z = (bif b then p else q) := by
      intro p q hp hq hφ
      have hcc := hc.strip hφ.1
      rw [h1] at hcc; obtain rfl := hcc.v_inv
      cases b
      · have := hy.strip (hφ.2.2 rfl)
        rw [hq] at this
        exact ⟨uy, by simp [asBool], by rw [this.v_inv]; rfl⟩
      · have := hx.strip (hφ.2.1 rfl)
        rw [hp] at this
        exact ⟨ux, by simp [asBool], by rw [this.v_inv]; rfl⟩
    split at h
    · rename_i p q hp hq
      simp only [Option.some.injEq, Prod.mk.injEq] at h
      obtain ⟨rfl, rfl⟩ := h
      obtain ⟨z, h3, rfl⟩ := key _ _ hp hq hφ
      refine ⟨_, h3, ?_⟩
      cases b <;> exact .v _
    · rename_i k p k' q hp hq
      split at h
      · rename_i hk; subst hk
        simp only [Option.some.injEq, Prod.mk.injEq] at h
        obtain ⟨rfl, rfl⟩ := h
        obtain ⟨z, h3, rfl⟩ := key _ _ hp hq hφ
        refine ⟨_, h3, ?_⟩
        cases b <;> exact .v _
      · cases h
    · rename_i p q _ _ hp hq
      simp only [Option.some.injEq, Prod.mk.injEq] at h
      obtain ⟨rfl, rfl⟩ := h
      obtain ⟨z, h3, rfl⟩ := key _ _ hp hq hφ
      exact ⟨_, h3, .v _⟩
    · cases h
  · cases h

include hT hw in
theorem pvLen_ok {t ty : TypeId} {x : AV} {u : Value} {φ : Prop} {r : AV} (h : pvLen T H t x = some (φ, r)) (hφ : φ) (hx : Conc B I w ρ x u) :
    ∃ z, (Builtin.len_ #[t] ty #[u]).run P w = .ok z w ∧ Conc B I w ρ r z := by
  unfold pvLen at h
  split at h
  · rename_i e _ _ _ ht
    have hu : P.underlying t = some (.slice e) := (hT _ _ ht).kind
    split at h
    · rename_i fr c sz off len hst
      simp only [Option.some.injEq, Prod.mk.injEq] at h
      obtain ⟨rfl, rfl⟩ := h
      have hc := hx.strip hφ
      rw [hst] at hc
      cases hc
      exact ⟨_, by simp [Builtin.len_, run_underlying hu, goInt], .v _⟩
    · rename_i id off len hst
      simp only [Option.some.injEq, Prod.mk.injEq] at h
      obtain ⟨rfl, rfl⟩ := h
      have hc := hx.strip hφ
      rw [hst] at hc
      cases hc
      exact ⟨_, by simp [Builtin.len_, run_underlying hu, goInt], .v _⟩
    · rename_i id hst
      split at h
      · rename_i e' sz c hk
        simp only [Option.some.injEq, Prod.mk.injEq] at h
        obtain ⟨rfl, rfl⟩ := h
        have hc := hx.strip hφ.1
        rw [hst] at hc
        cases hc with
        | s _ x hr _ =>
          obtain ⟨x', hr', hok⟩ := hw.ok _ _ hk
          rw [hr] at hr'; injection hr' with hr'; subst hr'
          obtain ⟨m, xs, ho, hl, _⟩ := hok
          have : c.len / sz = m := by rw [hl]; exact Nat.mul_div_cancel _ hφ.2
          rw [this]
          rcases ho.2 with ⟨rfl, h00⟩ | ⟨g, cap, cur, rfl, _⟩
          · subst h00; exact ⟨_, by simp [Builtin.len_, run_underlying hu, goInt], .v _⟩
          · exact ⟨_, by simp [Builtin.len_, run_underlying hu, goInt], .v _⟩
      · cases h
    · rename_i A n c hst
      simp only [Option.some.injEq, Prod.mk.injEq] at h
      obtain ⟨rfl, rfl⟩ := h
      have hc := hx.strip hφ
      rw [hst] at hc
      obtain rfl := hc.v_inv
      exact ⟨_, by simp [Builtin.len_, run_underlying hu, goInt], .v _⟩
    · cases h
  · rename_i ht
    have hu : P.underlying t = some .string := (hT _ _ ht).kind
    split at h
    · rename_i s hst
      simp only [Option.some.injEq, Prod.mk.injEq] at h
      obtain ⟨rfl, rfl⟩ := h
      have hc := hx.strip hφ
      rw [hst] at hc
      obtain rfl := hc.v_inv
      exact ⟨_, by simp [Builtin.len_, run_underlying hu, goInt], .v _⟩
    · cases h
  · rename_i n e _ _ _ ht
    have hu : P.underlying t = some (.array n e) := (hT _ _ ht).kind
    simp only [Option.some.injEq, Prod.mk.injEq] at h
    obtain ⟨rfl, rfl⟩ := h
    exact ⟨_, by simp [Builtin.len_, run_underlying hu, goInt], .v _⟩
  · cases h

theorem pvMin_ok {xs : List AV} {us : List Value} {ts : Array TypeId} {ty : TypeId} {φ : Prop} {r : AV} (h : pvMin xs = some (φ, r)) (hφ : φ) (hl : us.length = xs.length) (hx : ∀ j, j < xs.length → Conc B I w ρ (xs.getD j .top) (us.getD j undef)) :
    ∃ z, (Builtin.min_ ts ty us.toArray).run P w = .ok z w ∧ Conc B I w ρ r z := by
  unfold pvMin at h
  split at h
  · rename_i x y
    match us, hl with
    | [u, v], _ =>
      split at h
      · rename_i k a k' b h1 h2
        simp only [Option.some.injEq, Prod.mk.injEq] at h
        obtain ⟨rfl, rfl⟩ := h
        have hc := (hx 0 (by simp)).strip hφ.1
        have hd := (hx 1 (by simp)).strip hφ.2
        simp only [List.getD_cons_zero, List.getD_cons_succ] at hc hd
        rw [h1] at hc; rw [h2] at hd
        obtain rfl := hc.v_inv; obtain rfl := hd.v_inv
        refine ⟨_, by simp [Builtin.min_, Builtin.min2]; rfl, ?_⟩
        have : (if b < a then b else a) = min a b := by omega
        rw [this]; exact .v _
      · cases h
  · rename_i x y z
    match us, hl with
    | [u, v, t], _ =>
      split at h
      · rename_i k a k2 b k3 c h1 h2 h3
        simp only [Option.some.injEq, Prod.mk.injEq] at h
        obtain ⟨rfl, rfl⟩ := h
        obtain ⟨q1, q2, q3, rfl, rfl⟩ := hφ
        have hc := (hx 0 (by simp)).strip q1
        have hd := (hx 1 (by simp)).strip q2
        have he := (hx 2 (by simp)).strip q3
        simp only [List.getD_cons_zero, List.getD_cons_succ] at hc hd he
        rw [h1] at hc; rw [h2] at hd; rw [h3] at he
        obtain rfl := hc.v_inv; obtain rfl := hd.v_inv; obtain rfl := he.v_inv
        have e1 : (if b < a then b else a) = min a b := by omega
        have e2 : (if c < min a b then c else min a b) = min (min a b) c := by omega
        refine ⟨_, by simp [Builtin.min_, Builtin.min2, e1, e2]; rfl, ?_⟩
        rw [show min (min a b) c = min a (min b c) by omega]; exact .v _
      · cases h
  · cases h

theorem pvMax_ok {xs : List AV} {us : List Value} {ts : Array TypeId} {ty : TypeId} {φ : Prop} {r : AV} (h : pvMax xs = some (φ, r)) (hφ : φ) (hl : us.length = xs.length) (hx : ∀ j, j < xs.length → Conc B I w ρ (xs.getD j .top) (us.getD j undef)) :
    ∃ z, (Builtin.max_ ts ty us.toArray).run P w = .ok z w ∧ Conc B I w ρ r z := by
  unfold pvMax at h
  split at h
  · rename_i x y
    match us, hl with
    | [u, v], _ =>
      split at h
      · rename_i k a k' b h1 h2
        simp only [Option.some.injEq, Prod.mk.injEq] at h
        obtain ⟨rfl, rfl⟩ := h
        have hc := (hx 0 (by simp)).strip hφ.1
        have hd := (hx 1 (by simp)).strip hφ.2
        simp only [List.getD_cons_zero, List.getD_cons_succ] at hc hd
        rw [h1] at hc; rw [h2] at hd
        obtain rfl := hc.v_inv; obtain rfl := hd.v_inv
        refine ⟨_, by simp [Builtin.max_, Builtin.max2]; rfl, ?_⟩
        have : (if a < b then b else a) = max a b := by omega
        rw [this]; exact .v _
      · cases h
  · cases h

include hT in
theorem pvConvert_ok {src dst : TypeId} {x : AV} {u : Value} {φ : Prop} {r : AV} (h : pvConvert T src dst x = some (φ, r)) (hφ : φ) (hx : Conc B I w ρ x u) :
    ∃ z, (convert src dst u).run P w = .ok z w ∧ Conc B I w ρ r z := by
  unfold pvConvert at h
  split at h
  · rename_i si k _ _ _ k' n hs hd hst
    have hu : P.underlying dst = some (.int k) := (hT _ _ hd).kind
    have hsu : ∃ d, P.underlying src = some d := by
      have := (hT _ _ hs).kind
      cases hk : si.k <;> rw [hk] at this <;> simp only [TK.ok] at this
      case st q fs => obtain ⟨F, hF, _⟩ := this; exact ⟨_, hF⟩
      case oth => obtain ⟨d, hd, _⟩ := this; exact ⟨_, hd⟩
      all_goals exact ⟨_, this⟩
    obtain ⟨d, hd'⟩ := hsu
    simp only [Option.some.injEq, Prod.mk.injEq] at h
    obtain ⟨rfl, rfl⟩ := h
    have hc := hx.strip hφ
    rw [hst] at hc
    obtain rfl := hc.v_inv
    exact ⟨_, by simp [convert, run_underlying hu, run_underlying hd', Conv.intToInt], .v _⟩
  · cases h

include hT in
theorem pvIndex_ok {t : TypeId} {x i : AV} {u ui : Value} {φ : Prop} {r : AV} (h : pvIndex T t x i = some (φ, r)) (hφ : φ) (hx : Conc B I w ρ x u) (hi : Conc B I w ρ i ui) :
    ∃ z, (Instr.index t u ui).run P w = .ok z w ∧ Conc B I w ρ r z := by
  unfold pvIndex at h
  split at h
  · rename_i _ _ _ s k n ht hst hin
    have hu : P.underlying t = some .string := (hT _ _ ht).kind
    simp only [Option.some.injEq, Prod.mk.injEq] at h
    obtain ⟨rfl, rfl⟩ := h
    obtain ⟨c1, c2, h0, h1⟩ := hφ
    have hc := hx.strip c1
    have hci := hi.strip c2
    rw [hst] at hc; rw [hin] at hci
    obtain rfl := hc.v_inv; obtain rfl := hci.v_inv
    have hlt : n.toNat < s.size := by omega
    refine ⟨_, ?_, .v _⟩
    have : s[n.toNat]? = some (s.data.getD n.toNat 0) := by
      have h3 : n.toNat < s.data.size := hlt
      rw [getElem?_pos s n.toNat hlt, Array.getD_eq_getD_getElem?, getElem?_pos s.data n.toNat h3]
      rfl
    simp only [Instr.index, asIntOf, Sem.run_bind, Sem.run_pure, Result.andThen_ok, run_underlying hu, h0, if_true, this]
  · cases h

theorem pvNil_ok {x : AV} {u : Value} {φ : Prop} {r : AV} {o : Oper} {xx : Operand} {ρv : Operand → Value} (ho : o.op = .nilCheck xx) (hu : ρv xx = u) (h : pvNil x = some (φ, r)) (hφ : φ) (hx : Conc B I w ρ x u) :
    ∃ z, (execOp ρv o).run P w = .ok (.value z) w ∧ Conc B I w ρ r z := by
  unfold pvNil at h
  split at h
  · rename_i id off hst
    simp only [Option.some.injEq, Prod.mk.injEq] at h
    obtain ⟨rfl, rfl⟩ := h
    have hc := hx.strip hφ
    rw [hst] at hc
    refine ⟨u, ?_, hc⟩
    cases hc
    simp [execOp, ho, hu]
  · rename_i fr c sz e f hst
    simp only [Option.some.injEq, Prod.mk.injEq] at h
    obtain ⟨rfl, rfl⟩ := h
    have hc := hx.strip hφ
    rw [hst] at hc
    refine ⟨u, ?_, hc⟩
    cases hc
    simp [execOp, ho, hu]
  · rename_i k cs hst
    simp only [Option.some.injEq, Prod.mk.injEq] at h
    obtain ⟨rfl, rfl⟩ := h
    have hc := hx.strip hφ
    rw [hst] at hc
    refine ⟨u, ?_, hc⟩
    cases hc
    simp [execOp, ho, hu]
  · cases h
end
end Go.Eng
