/- All operations that leave memory alone, under one name: pv. -/
import Derived.Test.YtgcomonjkcpkaaaQngE
namespace Go.Eng
open Go.RowKit

def pv (T : Tab) (H : List (Nat × Blk)) (ev : Operand → AV) : Op → Option (Prop × AV)
  | .move x => some (True, ev x)
  | .assign x => some (True, ev x)
  | .pick c a b => pvPick (ev c) (ev a) (ev b)
  | .load t x => pvLoad T H t (ev x)
  | .nilCheck x => pvNil (ev x)
  | .binOp op t x y _ => pvBin T op t (ev x) (ev y)
  | .unOp op _ x => pvUn op (ev x)
  | .convert s d x => pvConvert T s d (ev x)
  | .makeFunc fn first caps => match first.toList with
    | [] => some (True, .f fn (caps.toList.map ev))
    | _ => none
  | .slice t x lo hi mx => match mx with
    | none => pvSlice T H t (ev x) (lo.map ev) (hi.map ev)
    | some _ => none
  | .fieldAddr s x k => pvFieldAddr T s (ev x) k
  | .field s x k => pvField T s (ev x) k
  | .indexAddr t x i => pvIndexAddr T H t (ev x) (ev i)
  | .index t x i => pvIndex T t (ev x) (ev i)
  | .extract x k => pvExtract (ev x) k
  | .build t parts => pvBuild T t (parts.toList.map fun p => (p.1, ev p.2))
  | .call c => match c.callee with
    | .builtin .len => match c.args.toList, c.argTypes.toList with
      | [x], [t] => pvLen T H t (ev x)
      | _, _ => none
    | .builtin .min => pvMin (c.args.toList.map ev)
    | .builtin .max => pvMax (c.args.toList.map ev)
    | _ => none
  | .alloc _ => none
  | .box _ _ => none
  | .buildSlice _ _ _ => none
  | .insert _ _ _ _ => none
  | .store _ _ _ => none
  | .ready _ => none
  | .waits _ => none
  | .sliceToArrayPointer _ _ => none
  | .makeInterface _ _ => none
  | .makeMap _ _ => none
  | .makeChan _ _ => none
  | .makeSlice _ _ _ => none
  | .lookup _ _ _ _ => none
  | .mapUpdate _ _ _ _ => none
  | .mapEntry _ _ _ => none
  | .entryStore _ _ _ _ => none
  | .range _ _ => none
  | .next _ _ => none
  | .entry _ => none
  | .typeAssert _ _ _ _ => none
  | .go _ => none
  | .defer _ => none
  | .panic _ => none
  | .send _ _ => none
  | .recv _ _ _ => none
  | .select _ _ => none

section
variable {P : Program} {T : Tab} (hT : T.ok P) {B : Nat} {I : Nat → Prop} {w : World} {ρ : Nat → Option Value} {H : List (Nat × Blk)} (hw : HW B I w ρ H)

theorem run_sliceBound {k : IntKind} {n : Int} {y : Nat} {code : BoundsCode} (h0 : 0 ≤ n) (h1 : n.toNat ≤ y) : (Instr.sliceBound (.int k n) y code).run P w = .ok n.toNat w := by
  have : n ≤ (y : Int) := by omega
  simp [Instr.sliceBound, asIntOf, h0, this]

theorem run_sliceBounds {b : Bool} {len cap l h : Nat} {lo hi : Option Value} (hlo : (lo = none ∧ l = 0) ∨ ∃ k n, lo = some (.int k n) ∧ 0 ≤ n ∧ l = n.toNat) (hhi : (hi = none ∧ h = len) ∨ ∃ k n, hi = some (.int k n) ∧ 0 ≤ n ∧ h = n.toNat)
    (h1 : l ≤ h) (h2 : h ≤ cap) : (Instr.sliceBounds b len cap lo hi none).run P w = .ok (l, h, cap) w := by
  rcases hlo with ⟨rfl, rfl⟩ | ⟨k, n, rfl, h0, rfl⟩ <;> rcases hhi with ⟨rfl, rfl⟩ | ⟨k', n', rfl, h0', rfl⟩
  · simp [Instr.sliceBounds]
  · simp [Instr.sliceBounds, run_sliceBound h0' h2]
  · simp [Instr.sliceBounds, run_sliceBound h0 h1]
  · simp [Instr.sliceBounds, run_sliceBound h0 h1, run_sliceBound h0' h2]

include hT hw in
theorem pvSlice_ok {t : TypeId} {x : AV} {lo hi : Option AV} {u : Value} {ulo uhi : Option Value} {φ : Prop} {r : AV} (h : pvSlice T H t x lo hi = some (φ, r)) (hφ : φ) (hx : Conc B I w ρ x u)
    (hlo : ∀ y, lo = some y → ∃ v, ulo = some v ∧ Conc B I w ρ y v) (hlo0 : lo = none → ulo = none) (hhi : ∀ y, hi = some y → ∃ v, uhi = some v ∧ Conc B I w ρ y v) (hhi0 : hi = none → uhi = none) :
    ∃ v, (Instr.sliceAt t u ulo uhi none).run P w = .ok v w ∧ Conc B I w ρ r v := by
  have conv : ∀ {x : Option AV} {u : Option Value} {d l : Nat} {φ : Prop}, asNat? x d = some (φ, l) → φ → (∀ y, x = some y → ∃ v, u = some v ∧ Conc B I w ρ y v) → (x = none → u = none) → (u = none ∧ l = d) ∨ ∃ k n, u = some (.int k n) ∧ 0 ≤ n ∧ l = n.toNat :=
    fun h hφ hx hn => by
      rcases asNat?_ok h hφ hx hn with ⟨_, h1, h2⟩ | h1
      · exact .inl ⟨h1, h2⟩
      · exact .inr h1
  unfold pvSlice at h
  split at h
  · rename_i e _ _ _ ht
    have hu : P.underlying t = some (.slice e) := (hT _ _ ht).kind
    split at h
    · rename_i te p l hte hl
      have hsz := (hT _ _ hte).size w
      split at h
      · rename_i fr c sz off len hst
        split at h
        · rename_i q hh hhv
          simp only [Option.some.injEq, Prod.mk.injEq] at h
          obtain ⟨rfl, rfl⟩ := h
          obtain ⟨c1, c2, c3, rfl, h1, h2⟩ := hφ
          have hc := hx.strip c1
          rw [hst] at hc
          cases hc with
          | i _ _ _ _ _ cap A uu hcap hA hcc =>
            have hb := run_sliceBounds (P := P) (w := w) (b := true) (len := len) (cap := cap) (conv hl c2 hlo hlo0) (conv hhv c3 hhi hhi0) h1 (by omega)
            refine ⟨.slice (if cap = l then A else A.map (·.add (l * te.sz))) (hh - l) (cap - l), ?_, .i _ _ _ _ _ _ _ (fun e f => uu (l + e) f) (by omega) (fun hp => ?_) (fun e f he hf => ?_)⟩
            · simp [Instr.sliceAt, Instr.slice, run_underlying hu, hb, hsz]
            · obtain ⟨ad, rfl, h3, h4, h5⟩ := hA (by omega)
              refine ⟨ad.add (l * te.sz), by rw [if_neg (by omega)]; rfl, by rw [add_block]; exact h3, by rw [add_block]; exact h4, fun e f he hf => ?_⟩
              rw [add_add]
              have := h5 (l + e) f (by omega) hf
              rwa [Nat.add_mul, Nat.add_assoc] at this
            · have := hcc (l + e) f (by omega) hf
              rwa [← Nat.add_assoc] at this
        · cases h
      · rename_i id hst
        split at h
        · rename_i e' sz c hk
          split at h
          · rename_i q hh hhv
            simp only [Option.some.injEq, Prod.mk.injEq] at h
            obtain ⟨rfl, rfl⟩ := h
            obtain ⟨c1, c2, c3, rfl, hpos, h1, h2⟩ := hφ
            have hc := hx.strip c1
            rw [hst] at hc
            cases hc with
            | s _ x hr _ =>
              obtain ⟨x', hr', hok⟩ := hw.ok _ _ hk
              rw [hr] at hr'; injection hr' with hr'; subst hr'
              obtain ⟨m, xs, ho, hlen, _⟩ := hok
              have hm : c.len / te.sz = m := by rw [hlen]; exact Nat.mul_div_cancel _ hpos
              rw [hm] at hhv h2
              rcases ho.2 with ⟨rfl, rfl⟩ | ⟨g, cap, cur, rfl, _, _, hmc, _⟩
              · have hb := run_sliceBounds (P := P) (w := w) (b := true) (len := 0) (cap := 0) (conv hl c2 hlo hlo0) (conv hhv c3 hhi hhi0) h1 h2
                have : l = 0 := by omega
                have : hh = 0 := by omega
                subst l; subst hh
                refine ⟨.slice none 0 0, by simp [Instr.sliceAt, Instr.slice, run_underlying hu, hb, hsz], .w _ _ _ _ _ _ hr (by omega) (fun hp => by omega)⟩
              · have hb := run_sliceBounds (P := P) (w := w) (b := true) (len := m) (cap := cap) (conv hl c2 hlo hlo0) (conv hhv c3 hhi hhi0) h1 (by omega)
                refine ⟨.slice (if cap = l then some ⟨g, 0, none⟩ else some ⟨g, l * te.sz, none⟩) (hh - l) (cap - l), ?_, .w _ _ _ _ _ _ hr (by omega) (fun hp => ⟨g, rfl, by rw [if_neg (by omega)]⟩)⟩
                simp [Instr.sliceAt, Instr.slice, run_underlying hu, hb, hsz, add_none]
          · cases h
        · cases h
      · rename_i id off len hst
        split at h
        · rename_i q hh hhv
          simp only [Option.some.injEq, Prod.mk.injEq] at h
          obtain ⟨rfl, rfl⟩ := h
          obtain ⟨c1, c2, c3, h1, h2⟩ := hφ
          have hc := hx.strip c1
          rw [hst] at hc
          cases hc with
          | w _ _ _ cap A x hr hcap hA =>
            have hb := run_sliceBounds (P := P) (w := w) (b := true) (len := len) (cap := cap) (conv hl c2 hlo hlo0) (conv hhv c3 hhi hhi0) h1 (by omega)
            refine ⟨.slice (if cap = l then A else A.map (·.add (l * te.sz))) (hh - l) (cap - l), ?_, .w _ _ _ _ _ _ hr (by omega) (fun hp => ?_)⟩
            · simp [Instr.sliceAt, Instr.slice, run_underlying hu, hb, hsz]
            · obtain ⟨b, hb1, rfl⟩ := hA (by omega)
              exact ⟨b, hb1, by rw [if_neg (by omega)]; simp [add_none]⟩
        · cases h
      · cases h
    · cases h
  · rename_i ht
    have hu : P.underlying t = some .string := (hT _ _ ht).kind
    split at h
    · rename_i s p l hst hl
      split at h
      · rename_i q hh hhv
        simp only [Option.some.injEq, Prod.mk.injEq] at h
        obtain ⟨rfl, rfl⟩ := h
        obtain ⟨c1, c2, c3, h1, h2⟩ := hφ
        have hc := hx.strip c1
        rw [hst] at hc
        obtain rfl := hc.v_inv
        have hb := run_sliceBounds (P := P) (w := w) (b := false) (len := s.size) (cap := s.size) (conv hl c2 hlo hlo0) (conv hhv c3 hhi hhi0) h1 h2
        exact ⟨_, by simp [Instr.sliceAt, Instr.slice, run_underlying hu, hb], .v _⟩
      · cases h
    · cases h
  · rename_i m e _ _ _ ht
    have hu : P.underlying t = some (.array m e) := (hT _ _ ht).kind
    split at h
    · rename_i te p l q hh id off hte hl hhv hst
      have hsz := (hT _ _ hte).size w
      simp only [Option.some.injEq, Prod.mk.injEq] at h
      obtain ⟨rfl, rfl⟩ := h
      obtain ⟨c1, c2, c3, h1, h2⟩ := hφ
      have hc := hx.strip c1
      rw [hst] at hc
      cases hc with
      | p _ _ b x hr hb =>
        have hbb := run_sliceBounds (P := P) (w := w) (b := false) (len := m) (cap := m) (conv hl c2 hlo hlo0) (conv hhv c3 hhi hhi0) h1 h2
        refine ⟨.slice (some (if m = l then ⟨b, off, none⟩ else (⟨b, off, none⟩ : Addr).add (l * te.sz))) (hh - l) (m - l), ?_, .w _ _ _ _ _ _ hr (by omega) (fun hp => ⟨b, hb, by rw [if_neg (by omega), add_none]⟩)⟩
        simp [Instr.sliceAt, run_underlying hu, hbb, hsz, Instr.sureAddr]
    · cases h
  · cases h

include hT hw in
theorem pv_ok {ev : Operand → AV} {ρv : Operand → Value} (hev : ∀ x, Conc B I w ρ (ev x) (ρv x)) {o : Oper} {φ : Prop} {r : AV} (h : pv T H ev o.op = some (φ, r)) (hφ : φ) :
    ∃ z, (execOp ρv o).run P w = .ok (.value z) w ∧ Conc B I w ρ r z := by
  obtain ⟨dst, op, ty, pos, aft, gd⟩ := o
  have lift : ∀ {m : Sem Value} {z : Value}, m.run P w = .ok z w → (do pure (Next.value (← m)) : Sem Next).run P w = .ok (.value z) w := fun h => by simp only [Sem.run_bind, h, Result.andThen_ok, Sem.run_pure]
  have mapL : ∀ (l : List Operand), ConcL B I w ρ (l.map ev) (l.map ρv) := fun l => ⟨by simp, fun j hj => by
    simp at hj
    have h1 : (l.map ev).getD j .top = ev l[j] := by simp [List.getD_eq_getElem?_getD, hj]
    have h2 : (l.map ρv).getD j undef = ρv l[j] := by simp [List.getD_eq_getElem?_getD, hj]
    rw [h1, h2]; exact hev _⟩
  cases op <;> simp only [pv] at h <;> first | (cases h; done) | skip
  case move x => simp only [Option.some.injEq, Prod.mk.injEq] at h; obtain ⟨rfl, rfl⟩ := h; exact ⟨_, by simp [execOp], hev x⟩
  case assign x => simp only [Option.some.injEq, Prod.mk.injEq] at h; obtain ⟨rfl, rfl⟩ := h; exact ⟨_, by simp [execOp], hev x⟩
  case pick c a b => exact pvPick_ok h hφ (hev c) (hev a) (hev b)
  case load t x => obtain ⟨z, h1, h2⟩ := pvLoad_ok hT hw h hφ (hev x); exact ⟨z, lift h1, h2⟩
  case nilCheck x => exact pvNil_ok rfl rfl h hφ (hev x)
  case binOp op t x y yt => obtain ⟨z, h1, h2⟩ := pvBin_ok hT h hφ (hev x) (hev y) x y; exact ⟨z, lift h1, h2⟩
  case unOp op t x => obtain ⟨z, h1, h2⟩ := pvUn_ok (P := P) h hφ (hev x); exact ⟨z, lift h1, h2⟩
  case convert s d x => obtain ⟨z, h1, h2⟩ := pvConvert_ok hT h hφ (hev x); exact ⟨z, lift h1, h2⟩
  case makeFunc fn first caps =>
    split at h
    · rename_i hf
      simp only [Option.some.injEq, Prod.mk.injEq] at h; obtain ⟨rfl, rfl⟩ := h
      have hf' : first = #[] := by simpa using hf
      subst hf'
      refine ⟨.func fn #[] (caps.map ρv), by simp [execOp, Instr.makeFunc], .f _ _ _ (by simp) fun j hj => ?_⟩
      have := (mapL caps.toList).2 j hj
      simpa [List.getD_eq_getElem?_getD, Array.getD_eq_getD_getElem?] using this
    · cases h
  case slice t x lo hi mx =>
    split at h
    · obtain ⟨z, h1, h2⟩ := pvSlice_ok hT hw h hφ (hev x) (ulo := lo.map ρv) (uhi := hi.map ρv)
        (fun y hy => by cases lo with | none => cases hy | some l => injection hy with hy; subst hy; exact ⟨_, rfl, hev l⟩) (fun hn => by cases lo with | none => rfl | some l => cases hn)
        (fun y hy => by cases hi with | none => cases hy | some l => injection hy with hy; subst hy; exact ⟨_, rfl, hev l⟩) (fun hn => by cases hi with | none => rfl | some l => cases hn)
      exact ⟨z, lift h1, h2⟩
    · cases h
  case fieldAddr s x k => obtain ⟨z, h1, h2⟩ := pvFieldAddr_ok hT h hφ (hev x); exact ⟨z, lift h1, h2⟩
  case field s x k => obtain ⟨z, h1, h2⟩ := pvField_ok hT h hφ (hev x); exact ⟨z, lift h1, h2⟩
  case indexAddr t x i => obtain ⟨z, h1, h2⟩ := pvIndexAddr_ok hT hw h hφ (hev x) (hev i); exact ⟨z, lift h1, h2⟩
  case index t x i => obtain ⟨z, h1, h2⟩ := pvIndex_ok hT h hφ (hev x) (hev i); exact ⟨z, lift h1, h2⟩
  case extract x k => obtain ⟨z, h1, h2⟩ := pvExtract_ok (P := P) h hφ (hev x); exact ⟨z, lift h1, h2⟩
  case build t parts =>
    obtain ⟨z, h1, h2⟩ := pvBuild_ok (w := w) (B := B) (I := I) (ρ := ρ) hT (vs := parts.map fun p => (p.1, ρv p.2)) h hφ (by simp) (fun j hj => by
      simp at hj
      have h1 : ((parts.toList.map fun p => (p.1, ev p.2)).getD j (0, .top)).2 = ev parts[j].2 := by simp [List.getD_eq_getElem?_getD, hj]
      have h2 : ((parts.map fun p => (p.1, ρv p.2)).toList.getD j (0, undef)).2 = ρv parts[j].2 := by simp [List.getD_eq_getElem?_getD, hj]
      rw [h1, h2]; exact hev _)
    exact ⟨z, lift h1, h2⟩
  case call c =>
    obtain ⟨callee, args, ats⟩ := c
    simp only at h
    split at h
    · skip
      split at h
      · rename_i x t ha hat
        have ha' : args = #[x] := Array.toList_inj.1 (by simpa using ha)
        have hat' : ats = #[t] := Array.toList_inj.1 (by simpa using hat)
        subst ha'; subst hat'
        obtain ⟨z, h1, h2⟩ := pvLen_ok (ty := ty) hT hw h hφ (hev x)
        refine ⟨z, ?_, h2⟩
        simp only [execOp, resolve, invoke, builtin, Sem.run_bind, Sem.run_pure, Result.andThen_ok, List.map_toArray, List.map_cons, List.map_nil, h1]
      · cases h
    · skip
      obtain ⟨z, h1, h2⟩ := pvMin_ok (P := P) (ts := ats) (ty := ty) h hφ (mapL args.toList).1 (mapL args.toList).2
      refine ⟨z, ?_, h2⟩
      have e : (List.map ρv args.toList).toArray = args.map ρv := by rw [← Array.toList_map]
      rw [e] at h1
      simp only [execOp, resolve, invoke, builtin, Sem.run_bind, Sem.run_pure, Result.andThen_ok, h1]
    · skip
      obtain ⟨z, h1, h2⟩ := pvMax_ok (P := P) (ts := ats) (ty := ty) h hφ (mapL args.toList).1 (mapL args.toList).2
      refine ⟨z, ?_, h2⟩
      have e : (List.map ρv args.toList).toArray = args.map ρv := by rw [← Array.toList_map]
      rw [e] at h1
      simp only [execOp, resolve, invoke, builtin, Sem.run_bind, Sem.run_pure, Result.andThen_ok, h1]
    · cases h
end
end Go.Eng
