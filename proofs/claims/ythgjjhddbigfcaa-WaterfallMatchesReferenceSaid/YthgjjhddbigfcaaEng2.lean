/- Part of a proof about the given program: contracts of its functions (see the comment of the last text). -/
import Derived.Test.YthgjjhddbigfcaaEng1
import Derived.Laws.Rows
import Derived.Laws.NewFold
import Derived.Laws.CopyRow
set_option linter.unusedSimpArgs false
set_option linter.unusedVariables false
namespace Go.Eng
open Go.RowKit

def pv (T : Tab) (H : List (Nat × Blk)) (ev : Operand → AV) : Op → Option (Prop × AV)
  | .move x => some (True, ev x)
  | .assign x => some (True, ev x)
  | .pick c a b => pvPick (ev c) (ev a) (ev b)
  | .load t x => pvLoad T H t (ev x)
  | .nilCheck x => pvNil (ev x)
  | .binOp op t x y _ => pvBin T op t (ev x) (ev y)
  | .unOp op _ x => pvUn op (ev x)
  | .convert s d x => pvConvert T s d (ev x)
  | .makeFunc fn first caps => match first.toList with
    | [] => some (True, .f fn (caps.toList.map ev))
    | _ => none
  | .slice t x lo hi mx => match mx with
    | none => pvSlice T H t (ev x) (lo.map ev) (hi.map ev)
    | some _ => none
  | .fieldAddr s x k => pvFieldAddr T s (ev x) k
  | .field s x k => pvField T s (ev x) k
  | .indexAddr t x i => pvIndexAddr T H t (ev x) (ev i)
  | .index t x i => pvIndex T t (ev x) (ev i)
  | .extract x k => pvExtract (ev x) k
  | .build t parts => pvBuild T t (parts.toList.map fun p => (p.1, ev p.2))
  | .call c => match c.callee with
    | .builtin .len => match c.args.toList, c.argTypes.toList with
      | [x], [t] => pvLen T H t (ev x)
      | _, _ => none
    | .builtin .min => pvMin (c.args.toList.map ev)
    | .builtin .max => pvMax (c.args.toList.map ev)
    | _ => none
  | .alloc _ => none
  | .box _ _ => none
  | .buildSlice _ _ _ => none
  | .insert _ _ _ _ => none
  | .store _ _ _ => none
  | .ready _ => none
  | .waits _ => none
  | .sliceToArrayPointer _ _ => none
  | .makeInterface _ _ => none
  | .makeMap _ _ => none
  | .makeChan _ _ => none
  | .makeSlice _ _ _ => none
  | .lookup t x i c => match c with
    | false => pvLookup T H t (ev x) (ev i)
    | true => none
  | .mapUpdate _ _ _ _ => none
  | .mapEntry _ _ _ => none
  | .entryStore _ _ _ _ => none
  | .range _ _ => none
  | .next _ _ => none
  | .entry _ => none
  | .typeAssert _ _ _ _ => none
  | .go _ => none
  | .defer _ => none
  | .panic _ => none
  | .send _ _ => none
  | .recv _ _ _ => none
  | .select _ _ => none

section
variable {P : Program} {T : Tab} (hT : T.ok P) {B : Nat} {I : Nat → Prop} {w : World} {ρ : Nat → Option Value} {H : List (Nat × Blk)} (hw : HW B I w ρ H)

theorem run_sliceBound {k : IntKind} {n : Int} {y : Nat} {code : BoundsCode} (h0 : 0 ≤ n) (h1 : n.toNat ≤ y) : (Instr.sliceBound (.int k n) y code).run P w = .ok n.toNat w := by
  have : n ≤ (y : Int) := by omega
  simp [Instr.sliceBound, asIntOf, h0, this]

theorem run_sliceBounds {b : Bool} {len cap l h : Nat} {lo hi : Option Value} (hlo : (lo = none ∧ l = 0) ∨ ∃ k n, lo = some (.int k n) ∧ 0 ≤ n ∧ l = n.toNat) (hhi : (hi = none ∧ h = len) ∨ ∃ k n, hi = some (.int k n) ∧ 0 ≤ n ∧ h = n.toNat)
    (h1 : l ≤ h) (h2 : h ≤ cap) : (Instr.sliceBounds b len cap lo hi none).run P w = .ok (l, h, cap) w := by
  rcases hlo with ⟨rfl, rfl⟩ | ⟨k, n, rfl, h0, rfl⟩ <;> rcases hhi with ⟨rfl, rfl⟩ | ⟨k', n', rfl, h0', rfl⟩
  · simp [Instr.sliceBounds]
  · simp [Instr.sliceBounds, run_sliceBound h0' h2]
  · simp [Instr.sliceBounds, run_sliceBound h0 h1]
  · simp [Instr.sliceBounds, run_sliceBound h0 h1, run_sliceBound h0' h2]

include hT hw in
theorem pvSlice_ok {t : TypeId} {x : AV} {lo hi : Option AV} {u : Value} {ulo uhi : Option Value} {φ : Prop} {r : AV} (h : pvSlice T H t x lo hi = some (φ, r)) (hφ : φ) (hx : Conc B I w ρ x u)
    (hlo : ∀ y, lo = some y → ∃ v, ulo = some v ∧ Conc B I w ρ y v) (hlo0 : lo = none → ulo = none) (hhi : ∀ y, hi = some y → ∃ v, uhi = some v ∧ Conc B I w ρ y v) (hhi0 : hi = none → uhi = none) :
    ∃ v, (Instr.sliceAt t u ulo uhi none).run P w = .ok v w ∧ Conc B I w ρ r v := by
  have conv : ∀ {x : Option AV} {u : Option Value} {d l : Nat} {φ : Prop}, asNat? x d = some (φ, l) → φ → (∀ y, x = some y → ∃ v, u = some v ∧ Conc B I w ρ y v) → (x = none → u = none) → (u = none ∧ l = d) ∨ ∃ k n, u = some (.int k n) ∧ 0 ≤ n ∧ l = n.toNat :=
    fun h hφ hx hn => by
      rcases ZHY h hφ hx hn with ⟨_, h1, h2⟩ | h1
      · exact .inl ⟨h1, h2⟩
      · exact .inr h1
  unfold pvSlice at h
  split at h
  · rename_i e _ _ _ ht
    have hu : P.underlying t = some (.slice e) := (hT _ _ ht).kind
    split at h
    · rename_i te p l hte hl
      have hsz := (hT _ _ hte).size w
      split at h
      · rename_i fr c sz off len hst
        split at h
        · rename_i q hh hhv
          simp only [Option.some.injEq, Prod.mk.injEq] at h
          obtain ⟨rfl, rfl⟩ := h
          obtain ⟨c1, c2, c3, rfl, h1, h2⟩ := hφ
          have hc := hx.strip c1
          rw [hst] at hc
          cases hc with
          | i _ _ _ _ _ cap A uu hcap hA hcc =>
            have hb := run_sliceBounds (P := P) (w := w) (b := true) (len := len) (cap := cap) (conv hl c2 hlo hlo0) (conv hhv c3 hhi hhi0) h1 (by omega)
            refine ⟨.slice (if cap = l then A else A.map (·.add (l * te.sz))) (hh - l) (cap - l), ?_, .i _ _ _ _ _ _ _ (fun e f => uu (l + e) f) (by omega) (fun hp => ?_) (fun e f he hf => ?_)⟩
            · simp [Instr.sliceAt, Instr.slice, run_underlying hu, hb, hsz]
            · obtain ⟨ad, rfl, h3, h4, h5⟩ := hA (by omega)
              refine ⟨ad.add (l * te.sz), by rw [if_neg (by omega)]; rfl, by rw [add_block]; exact h3, by rw [add_block]; exact h4, fun e f he hf => ?_⟩
              rw [add_add]
              have := h5 (l + e) f (by omega) hf
              rwa [Nat.add_mul, Nat.add_assoc] at this
            · have := hcc (l + e) f (by omega) hf
              rwa [← Nat.add_assoc] at this
        · cases h
      · rename_i id hst
        split at h
        · rename_i e' sz c hk
          split at h
          · rename_i q hh hhv
            simp only [Option.some.injEq, Prod.mk.injEq] at h
            obtain ⟨rfl, rfl⟩ := h
            obtain ⟨c1, c2, c3, rfl, hpos, h1, h2⟩ := hφ
            have hc := hx.strip c1
            rw [hst] at hc
            cases hc with
            | s _ x hr _ =>
              obtain ⟨x', hr', hok⟩ := hw.ok _ _ hk
              rw [hr] at hr'; injection hr' with hr'; subst hr'
              obtain ⟨m, xs, ho, hlen, _⟩ := hok
              have hm : c.len / te.sz = m := by rw [hlen]; exact Nat.mul_div_cancel _ hpos
              rw [hm] at hhv h2
              rcases ho.2 with ⟨rfl, rfl⟩ | ⟨g, cap, cur, rfl, _, _, hmc, _⟩
              · have hb := run_sliceBounds (P := P) (w := w) (b := true) (len := 0) (cap := 0) (conv hl c2 hlo hlo0) (conv hhv c3 hhi hhi0) h1 h2
                have : l = 0 := by omega
                have : hh = 0 := by omega
                subst l; subst hh
                refine ⟨.slice none 0 0, by simp [Instr.sliceAt, Instr.slice, run_underlying hu, hb, hsz], .w _ _ _ _ _ _ hr (by omega) (fun hp => by omega)⟩
              · have hb := run_sliceBounds (P := P) (w := w) (b := true) (len := m) (cap := cap) (conv hl c2 hlo hlo0) (conv hhv c3 hhi hhi0) h1 (by omega)
                refine ⟨.slice (if cap = l then some ⟨g, 0, none⟩ else some ⟨g, l * te.sz, none⟩) (hh - l) (cap - l), ?_, .w _ _ _ _ _ _ hr (by omega) (fun hp => ⟨g, rfl, by rw [if_neg (by omega)]⟩)⟩
                simp [Instr.sliceAt, Instr.slice, run_underlying hu, hb, hsz, ZAf]
          · cases h
        · cases h
      · rename_i id off len hst
        split at h
        · rename_i q hh hhv
          simp only [Option.some.injEq, Prod.mk.injEq] at h
          obtain ⟨rfl, rfl⟩ := h
          obtain ⟨c1, c2, c3, h1, h2⟩ := hφ
          have hc := hx.strip c1
          rw [hst] at hc
          cases hc with
          | w _ _ _ cap A x hr hcap hA =>
            have hb := run_sliceBounds (P := P) (w := w) (b := true) (len := len) (cap := cap) (conv hl c2 hlo hlo0) (conv hhv c3 hhi hhi0) h1 (by omega)
            refine ⟨.slice (if cap = l then A else A.map (·.add (l * te.sz))) (hh - l) (cap - l), ?_, .w _ _ _ _ _ _ hr (by omega) (fun hp => ?_)⟩
            · simp [Instr.sliceAt, Instr.slice, run_underlying hu, hb, hsz]
            · obtain ⟨b, hb1, rfl⟩ := hA (by omega)
              exact ⟨b, hb1, by rw [if_neg (by omega)]; simp [ZAf]⟩
        · cases h
      · cases h
    · cases h
  · rename_i ht
    have hu : P.underlying t = some .string := (hT _ _ ht).kind
    split at h
    · rename_i s p l hst hl
      split at h
      · rename_i q hh hhv
        simp only [Option.some.injEq, Prod.mk.injEq] at h
        obtain ⟨rfl, rfl⟩ := h
        obtain ⟨c1, c2, c3, h1, h2⟩ := hφ
        have hc := hx.strip c1
        rw [hst] at hc
        obtain rfl := hc.v_inv
        have hb := run_sliceBounds (P := P) (w := w) (b := false) (len := s.size) (cap := s.size) (conv hl c2 hlo hlo0) (conv hhv c3 hhi hhi0) h1 h2
        exact ⟨_, by simp [Instr.sliceAt, Instr.slice, run_underlying hu, hb], .v _⟩
      · cases h
    · cases h
  · rename_i m e _ _ _ ht
    have hu : P.underlying t = some (.array m e) := (hT _ _ ht).kind
    split at h
    · rename_i te p l q hh id off hte hl hhv hst
      have hsz := (hT _ _ hte).size w
      simp only [Option.some.injEq, Prod.mk.injEq] at h
      obtain ⟨rfl, rfl⟩ := h
      obtain ⟨c1, c2, c3, h1, h2⟩ := hφ
      have hc := hx.strip c1
      rw [hst] at hc
      cases hc with
      | p _ _ b x hr hb =>
        have hbb := run_sliceBounds (P := P) (w := w) (b := false) (len := m) (cap := m) (conv hl c2 hlo hlo0) (conv hhv c3 hhi hhi0) h1 h2
        refine ⟨.slice (some (if m = l then ⟨b, off, none⟩ else (⟨b, off, none⟩ : Addr).add (l * te.sz))) (hh - l) (m - l), ?_, .w _ _ _ _ _ _ hr (by omega) (fun hp => ⟨b, hb, by rw [if_neg (by omega), ZAf]⟩)⟩
        simp [Instr.sliceAt, run_underlying hu, hbb, hsz, Instr.sureAddr]
    · cases h
  · cases h

include hT hw in
theorem pv_ok {ev : Operand → AV} {ρv : Operand → Value} (hev : ∀ x, Conc B I w ρ (ev x) (ρv x)) {o : Oper} {φ : Prop} {r : AV} (h : pv T H ev o.op = some (φ, r)) (hφ : φ) :
    ∃ z, (execOp ρv o).run P w = .ok (.value z) w ∧ Conc B I w ρ r z := by
  obtain ⟨dst, op, ty, pos, aft, gd⟩ := o
  have lift : ∀ {m : Sem Value} {z : Value}, m.run P w = .ok z w → (do pure (Next.value (← m)) : Sem Next).run P w = .ok (.value z) w := fun h => by simp only [Sem.run_bind, h, Result.andThen_ok, Sem.run_pure]
  have mapL : ∀ (l : List Operand), ConcL B I w ρ (l.map ev) (l.map ρv) := fun l => ⟨by simp, fun j hj => by
    simp at hj
    have h1 : (l.map ev).getD j .top = ev l[j] := by simp [List.getD_eq_getElem?_getD, hj]
    have h2 : (l.map ρv).getD j undef = ρv l[j] := by simp [List.getD_eq_getElem?_getD, hj]
    rw [h1, h2]; exact hev _⟩
  cases op <;> simp only [pv] at h <;> first | (cases h; done) | skip
  case move x => simp only [Option.some.injEq, Prod.mk.injEq] at h; obtain ⟨rfl, rfl⟩ := h; exact ⟨_, by simp [execOp], hev x⟩
  case assign x => simp only [Option.some.injEq, Prod.mk.injEq] at h; obtain ⟨rfl, rfl⟩ := h; exact ⟨_, by simp [execOp], hev x⟩
  case pick c a b => exact ZHZ h hφ (hev c) (hev a) (hev b)
  case load t x => obtain ⟨z, h1, h2⟩ := ZFe hT hw h hφ (hev x); exact ⟨z, lift h1, h2⟩
  case nilCheck x => exact ZI3 rfl rfl h hφ (hev x)
  case binOp op t x y yt => obtain ⟨z, h1, h2⟩ := ZIz hT h hφ (hev x) (hev y) x y; exact ⟨z, lift h1, h2⟩
  case unOp op t x => obtain ⟨z, h1, h2⟩ := ZJp (P := P) h hφ (hev x); exact ⟨z, lift h1, h2⟩
  case convert s d x => obtain ⟨z, h1, h2⟩ := ZFh hT h hφ (hev x); exact ⟨z, lift h1, h2⟩
  case makeFunc fn first caps =>
    split at h
    · rename_i hf
      simp only [Option.some.injEq, Prod.mk.injEq] at h; obtain ⟨rfl, rfl⟩ := h
      have hf' : first = #[] := by simpa using hf
      subst hf'
      refine ⟨.func fn #[] (caps.map ρv), by simp [execOp, Instr.makeFunc], .f _ _ _ (by simp) fun j hj => ?_⟩
      have := (mapL caps.toList).2 j hj
      simpa [List.getD_eq_getElem?_getD, Array.getD_eq_getD_getElem?] using this
    · cases h
  case slice t x lo hi mx =>
    split at h
    · obtain ⟨z, h1, h2⟩ := pvSlice_ok hT hw h hφ (hev x) (ulo := lo.map ρv) (uhi := hi.map ρv)
        (fun y hy => by cases lo with | none => cases hy | some l => injection hy with hy; subst hy; exact ⟨_, rfl, hev l⟩) (fun hn => by cases lo with | none => rfl | some l => cases hn)
        (fun y hy => by cases hi with | none => cases hy | some l => injection hy with hy; subst hy; exact ⟨_, rfl, hev l⟩) (fun hn => by cases hi with | none => rfl | some l => cases hn)
      exact ⟨z, lift h1, h2⟩
    · cases h
  case fieldAddr s x k => obtain ⟨z, h1, h2⟩ := ZEM hT h hφ (hev x); exact ⟨z, lift h1, h2⟩
  case field s x k => obtain ⟨z, h1, h2⟩ := ZG9 hT h hφ (hev x); exact ⟨z, lift h1, h2⟩
  case indexAddr t x i => obtain ⟨z, h1, h2⟩ := ZEN hT hw h hφ (hev x) (hev i); exact ⟨z, lift h1, h2⟩
  case index t x i => obtain ⟨z, h1, h2⟩ := ZHA hT h hφ (hev x) (hev i); exact ⟨z, lift h1, h2⟩
  case lookup t x i c =>
    split at h
    · obtain ⟨z, h1, h2⟩ := ZGA hT hw h hφ (hev x) (hev i); exact ⟨z, lift h1, h2⟩
    · cases h
  case extract x k => obtain ⟨z, h1, h2⟩ := ZFg (P := P) h hφ (hev x); exact ⟨z, lift h1, h2⟩
  case build t parts =>
    obtain ⟨z, h1, h2⟩ := ZHB (w := w) (B := B) (I := I) (ρ := ρ) hT (vs := parts.map fun p => (p.1, ρv p.2)) h hφ (by simp) (fun j hj => by
      simp at hj
      have h1 : ((parts.toList.map fun p => (p.1, ev p.2)).getD j (0, .top)).2 = ev parts[j].2 := by simp [List.getD_eq_getElem?_getD, hj]
      have h2 : ((parts.map fun p => (p.1, ρv p.2)).toList.getD j (0, undef)).2 = ρv parts[j].2 := by simp [List.getD_eq_getElem?_getD, hj]
      rw [h1, h2]; exact hev _)
    exact ⟨z, lift h1, h2⟩
  case call c =>
    obtain ⟨callee, args, ats⟩ := c
    simp only at h
    split at h
    · skip
      split at h
      · rename_i x t ha hat
        have ha' : args = #[x] := Array.toList_inj.1 (by simpa using ha)
        have hat' : ats = #[t] := Array.toList_inj.1 (by simpa using hat)
        subst ha'; subst hat'
        obtain ⟨z, h1, h2⟩ := ZI0 (ty := ty) hT hw h hφ (hev x)
        refine ⟨z, ?_, h2⟩
        simp only [execOp, resolve, invoke, builtin, Sem.run_bind, Sem.run_pure, Result.andThen_ok, List.map_toArray, List.map_cons, List.map_nil, h1]
      · cases h
    · skip
      obtain ⟨z, h1, h2⟩ := ZI1 (P := P) (ts := ats) (ty := ty) h hφ (mapL args.toList).1 (mapL args.toList).2
      refine ⟨z, ?_, h2⟩
      have e : (List.map ρv args.toList).toArray = args.map ρv := by rw [← Array.toList_map]
      rw [e] at h1
      simp only [execOp, resolve, invoke, builtin, Sem.run_bind, Sem.run_pure, Result.andThen_ok, h1]
    · skip
      obtain ⟨z, h1, h2⟩ := ZI2 (P := P) (ts := ats) (ty := ty) h hφ (mapL args.toList).1 (mapL args.toList).2
      refine ⟨z, ?_, h2⟩
      have e : (List.map ρv args.toList).toArray = args.map ρv := by rw [← Array.toList_map]
      rw [e] at h1
      simp only [execOp, resolve, invoke, builtin, Sem.run_bind, Sem.run_pure, Result.andThen_ok, h1]
    · cases h
end
end Go.Eng
namespace Go.Eng
open Go.RowKit

mutual
def AV.fresh : AV → Prop
  | .v _ => True
  | .s _ => False
  | .w _ _ _ => False
  | .p _ _ => False
  | .i fr c _ _ _ => fr = true ∧ ∀ e j, AV.fresh (c e j)
  | .q fr c _ _ _ => fr = true ∧ ∀ e j, AV.fresh (c e j)
  | .a cs => AV.freshL cs
  | .t cs => AV.freshL cs
  | .f _ cs => AV.freshL cs
  | .g _ x => AV.fresh x
  | .top => True
def AV.freshL : List AV → Prop
  | [] => True
  | x :: r => AV.fresh x ∧ AV.freshL r
end
theorem ZB4 : ∀ {cs : List AV} (_ : AV.freshL cs) (j : Nat), (cs.getD j .top).fresh
  | [], _, _ => by simp [AV.fresh]
  | x :: r, h, 0 => by simpa using h.1
  | x :: r, h, j + 1 => by simpa using ZB4 h.2 j

theorem Conc.fresh {B : Nat} {I I' : Nat → Prop} {w : World} {ρ : Nat → Option Value} {x : AV} {u : Value} (h : Conc B I w ρ x u) (hf : x.fresh) (hI : ∀ b, B ≤ b → I b → I' b) : Conc B I' w ρ x u := by
  induction h with
  | v x => exact .v x
  | s id x h h1 => rw [AV.fresh] at hf; exact hf.elim
  | w id off len cap A x h hcap hA => rw [AV.fresh] at hf; exact hf.elim
  | p id off b x h hb => rw [AV.fresh] at hf; exact hf.elim
  | i fr c sz off len cap A u hcap hA hc ih =>
    rw [AV.fresh] at hf
    refine .i fr c sz off len cap A u hcap (fun hl => ?_) (fun e f he hf' => ih e f he hf' (hf.2 _ _))
    obtain ⟨ad, h1, h2, h3, h4⟩ := hA hl
    exact ⟨ad, h1, hI _ (h3 hf.1) h2, h3, h4⟩
  | q fr c sz e f ad u h2 h3 hcell hc ih =>
    rw [AV.fresh] at hf
    exact .q fr c sz e f ad u (hI _ (h3 hf.1) h2) h3 hcell (fun j hj => ih j hj (hf.2 _ _))
  | a cs us hl h ih => rw [AV.fresh] at hf; exact .a cs us hl fun j hj => ih j hj (ZB4 hf j)
  | t cs us hl h ih => rw [AV.fresh] at hf; exact .t cs us hl fun j hj => ih j hj (ZB4 hf j)
  | f fn cs us hl h ih => rw [AV.fresh] at hf; exact .f fn cs us hl fun j hj => ih j hj (ZB4 hf j)
  | g b x u h h0 ih => rw [AV.fresh] at hf; exact .g b x u (fun hb => ih hb hf) h0
  | top u => exact .top u

def AV.pub (fl : Bool) (H : List (Nat × Blk)) : Nat → AV → AV
  | 0, _ => .top
  | n + 1, x => match x with
    | .v y => .v y
    | .s id => match lkH H id with
      | some (.row _ sz (.ints k l)) => if sz = 1 then .i fl (fun e _ => .v (.int k (l.getD e 0))) 1 0 l.length else .top
      | some (.row _ sz (.vals l)) => if 0 < sz then .i fl (fun e j => .v (l.getD (e * sz + j) undef)) sz 0 (l.length / sz) else .top
      | some (.row _ sz (.avs l)) => if 0 < sz then .i fl (fun e j => AV.pub fl H n (l.getD (e * sz + j) .top)) sz 0 (l.length / sz) else .top
      | some (.nst _ c) => .i fl (fun e _ => AV.pub fl H n (c.at e)) 1 0 c.len
      | _ => .top
    | .w id off len => match lkH H id with
      | some (.row _ sz (.ints k l)) => if sz = 1 ∧ off + len ≤ l.length then .i fl (fun e _ => .v (.int k (l.getD e 0))) 1 off len else .top
      | _ => .top
    | .p id off => match lkH H id with
      | some blk => .q fl (fun _ j => AV.pub fl H n (blk.cont.at j)) blk.cont.len 0 off
      | none => .top
    | .i fr c sz off len => .i (fr && fl) (fun e j => AV.pub fl H n (c e j)) sz off len
    | .q fr c sz e j => .q (fr && fl) (fun e j => AV.pub fl H n (c e j)) sz e j
    | .a cs => .a (cs.map (AV.pub fl H n))
    | .t cs => .t (cs.map (AV.pub fl H n))
    | .f fn cs => .f fn (cs.map (AV.pub fl H n))
    | .g b y => .g b (AV.pub fl H n y)
    | .top => .top

theorem ZAm (fl : Bool) (H : List (Nat × Blk)) (n : Nat) (cs : List AV) (j : Nat) (hj : j < cs.length) : (cs.map (AV.pub fl H n)).getD j .top = AV.pub fl H n (cs.getD j .top) := by
  simp [List.getD_eq_getElem?_getD, hj]

def allB (w : World) : Nat → Prop := fun b => b < w.heap.size

theorem ZCZ {B B' : Nat} {J : Nat → Prop} {fl : Bool} {w : World} {x : Value} {e : TypeId} {sz m : Nat} {xs : List Value} (ho : w.ownsRow B e sz x m xs) (hB : fl = true → B' ≤ B) (hJ : ∀ b, B ≤ b → b < w.heap.size → J b) (c : Nat → Nat → AV)
    (hc : ∀ el j, el < m → j < sz → Conc B' J w noId (c el j) (xs.getD (el * sz + j) undef)) : Conc B' J w noId (.i fl c sz 0 m) x := by
  rcases ho.2 with ⟨rfl, rfl⟩ | ⟨g, cap, cur, rfl, hbg, hg, hnc, _⟩
  · exact .i _ _ _ _ _ _ _ (fun _ _ => undef) (by omega) (fun hp => by omega) (fun e f he => by omega)
  · refine .i _ _ _ _ _ _ _ (fun el j => xs.getD (el * sz + j) undef) hnc (fun hp => ⟨_, rfl, hJ g hbg (Array.getElem?_eq_some_iff.1 hg).1, (fun h => Nat.le_trans (hB h) hbg), fun el j he hj => ?_⟩) (fun el j he hj => by rw [Nat.zero_add]; exact hc el j he hj)
    have hlt : el * sz + j < xs.length := by
      rw [ho.1]
      have : (el + 1) * sz ≤ m * sz := Nat.mul_le_mul_right _ he
      rw [Nat.add_mul, Nat.one_mul] at this; omega
    exact ho.cells rfl _ _ (by simp [List.getD_eq_getElem?_getD, hlt])

theorem ZA9 {m sz el j : Nat} (he : el < m) (hj : j < sz) : el * sz + j < m * sz := by
  have : (el + 1) * sz ≤ m * sz := Nat.mul_le_mul_right _ he
  rw [Nat.add_mul, Nat.one_mul] at this; omega

theorem ZFi {B B' : Nat} {I J : Nat → Prop} {w : World} {ρ : Nat → Option Value} {H : List (Nat × Blk)} (fl : Bool) (hw : HW B I w ρ H) (hB : fl = true → B' ≤ B) (hIJ : ∀ b, I b → J b) (hJ : ∀ b, B ≤ b → b < w.heap.size → J b) : ∀ (n : Nat) {ρ' : Nat → Option Value} {x : AV} {u : Value}, (ρ' = ρ ∨ ρ' = noId) → Conc B I w ρ' x u → Conc B' J w noId (AV.pub fl H n x) u := by
  intro n
  induction n with
  | zero => intro ρ' x u _ h; exact .top u
  | succ n ih =>
    intro ρ' x u hρ h
    cases h with
    | v => exact .v _
    | s id _ h h1 =>
      rcases hρ with rfl | rfl
      · simp only [AV.pub]
        split
        · rename_i e sz k l hk
          split
          · rename_i hsz; subst hsz
            obtain ⟨x', hx', m, xs, ho, hl, hc⟩ := hw.ok _ _ hk
            rw [h] at hx'; injection hx' with hx'; subst hx'
            simp only [Cont.len, Nat.mul_one] at hl
            rw [hl]
            refine ZCZ ho hB hJ _ (fun el j he hj => ?_)
            have hj0 : j = 0 := by omega
            subst hj0
            rw [Nat.mul_one, Nat.add_zero]
            have hlt : el < xs.length := by rw [ho.1]; omega
            have := hc el xs[el] (by simp [hlt])
            have e2 : xs.getD el undef = xs[el] := by simp [List.getD_eq_getElem?_getD, hlt]
            rw [e2, this.v_inv]; exact .v _
          · exact .top _
        · rename_i e sz l hk
          split
          · rename_i hsz
            obtain ⟨x', hx', m, xs, ho, hl, hc⟩ := hw.ok _ _ hk
            rw [h] at hx'; injection hx' with hx'; subst hx'
            simp only [Cont.len] at hl
            rw [hl, Nat.mul_div_cancel _ hsz]
            refine ZCZ ho hB hJ _ (fun el j he hj => ?_)
            have hlt : el * sz + j < xs.length := by rw [ho.1]; exact ZA9 he hj
            have := hc (el * sz + j) xs[el * sz + j] (by simp [hlt])
            have e2 : xs.getD (el * sz + j) undef = xs[el * sz + j] := by simp [List.getD_eq_getElem?_getD, hlt]
            rw [e2, this.v_inv]; exact .v _
          · exact .top _
        · rename_i e sz l hk
          split
          · rename_i hsz
            obtain ⟨x', hx', m, xs, ho, hl, hc⟩ := hw.ok _ _ hk
            rw [h] at hx'; injection hx' with hx'; subst hx'
            simp only [Cont.len] at hl
            rw [hl, Nat.mul_div_cancel _ hsz]
            refine ZCZ ho hB hJ _ (fun el j he hj => ?_)
            have hlt : el * sz + j < xs.length := by rw [ho.1]; exact ZA9 he hj
            have := hc (el * sz + j) xs[el * sz + j] (by simp [hlt])
            have e2 : xs.getD (el * sz + j) undef = xs[el * sz + j] := by simp [List.getD_eq_getElem?_getD, hlt]
            rw [e2]
            exact ih (.inr rfl) this
          · exact .top _
        · rename_i e c hk
          obtain ⟨x', hx', m, xs, ho, hl, hc⟩ := hw.ok _ _ hk
          rw [h] at hx'; injection hx' with hx'; subst hx'
          rw [Nat.mul_one] at hl
          rw [hl]
          refine ZCZ ho hB hJ _ (fun el j he hj => ?_)
          have hj0 : j = 0 := by omega
          subst hj0
          rw [Nat.mul_one, Nat.add_zero]
          have hlt : el < xs.length := by rw [ho.1]; omega
          have := hc el xs[el] (by simp [hlt])
          have e2 : xs.getD el undef = xs[el] := by simp [List.getD_eq_getElem?_getD, hlt]
          rw [e2]; exact ih (.inl rfl) this
        · exact .top _
      · cases h
    | w id off len cap A x h hcap hA =>
      rcases hρ with rfl | rfl
      · simp only [AV.pub]
        split
        · rename_i e sz k l hk
          split
          · rename_i hsz; obtain ⟨hsz, hol⟩ := hsz; subst hsz
            obtain ⟨x', hx', m, xs, ho, hl, hc⟩ := hw.ok _ _ hk
            rw [h] at hx'; injection hx' with hx'; subst hx'
            simp only [Cont.len, Nat.mul_one] at hl
            refine .i _ _ _ _ _ _ _ (fun el _ => .int k (l.getD (off + el) 0)) hcap (fun hp => ?_) (fun e f he hf => .v _)
            obtain ⟨b, hb, rfl⟩ := hA hp
            rw [ZAi ho] at hb
            refine ⟨_, rfl, hJ b (ho.lt b hb).1 (ho.lt b hb).2, (fun h => Nat.le_trans (hB h) (ho.lt b hb).1), fun el j he hj => ?_⟩
            have hj0 : j = 0 := by omega
            subst hj0
            rw [Nat.mul_one, Nat.add_zero, ZAf]
            have hlt : off + el < xs.length := by rw [ho.1]; omega
            have h2 := ho.cells hb (off + el) xs[off + el] (by simp [hlt])
            have h3 := hc (off + el) xs[off + el] (by simp [hlt])
            rw [ZAf, Nat.zero_add] at h2
            rw [h2, h3.v_inv]
          · exact .top _
        · exact .top _
      · cases h
    | p id off b x h hb =>
      rcases hρ with rfl | rfl
      · simp only [AV.pub]
        split
        · rename_i blk hk
          have key : ∀ j, off + j < blk.cont.len → ∃ u, w.cell? ⟨b, off + j, none⟩ = some u ∧ Conc B I w ρ' (blk.cont.at (off + j)) u := fun j hj => hw.cell hk h hb hj
          have hu : ∃ f : Nat → Value, ∀ j, off + j < blk.cont.len → w.cell? ⟨b, off + j, none⟩ = some (f j) ∧ Conc B I w ρ' (blk.cont.at (off + j)) (f j) :=
            ⟨fun j => if hj : off + j < blk.cont.len then Classical.choose (key j hj) else undef, fun j hj => by simp only [hj, dif_pos]; exact Classical.choose_spec (key j hj)⟩
          obtain ⟨f, hf⟩ := hu
          obtain ⟨x', hx', hok⟩ := hw.ok _ _ hk
          rw [h] at hx'; injection hx' with hx'; subst hx'
          exact .q _ _ _ _ _ ⟨b, off, none⟩ f (hJ b (hok.lt hb).1 (hok.lt hb).2) (fun h => Nat.le_trans (hB h) (hok.lt hb).1) (fun j hj => by rw [ZAf]; exact (hf j hj).1) (fun j hj => ih (.inl rfl) (hf j hj).2)
        · exact .top _
      · cases h
    | i fr c sz off len cap A u hcap hA hc =>
      refine .i _ _ _ _ _ _ _ u hcap (fun hl => ?_) (fun e f he hf => ih (.inr rfl) (hc e f he hf))
      obtain ⟨ad, h1, h2, h3, h4⟩ := hA hl
      exact ⟨ad, h1, hIJ _ h2, (fun h => by simp only [Bool.and_eq_true] at h; exact Nat.le_trans (hB h.2) (h3 h.1)), h4⟩
    | q fr c sz e f ad u h2 h3 hcell hc =>
      exact .q _ _ _ _ _ ad u (hIJ _ h2) (fun h => by simp only [Bool.and_eq_true] at h; exact Nat.le_trans (hB h.2) (h3 h.1)) hcell (fun j hj => ih (.inr rfl) (hc j hj))
    | a cs us hl h => exact .a _ us (by simpa using hl) fun j hj => by rw [List.length_map] at hj; rw [ZAm _ _ _ _ _ hj]; exact ih hρ (h j hj)
    | t cs us hl h => exact .t _ us (by simpa using hl) fun j hj => by rw [List.length_map] at hj; rw [ZAm _ _ _ _ _ hj]; exact ih hρ (h j hj)
    | f fn cs us hl h => exact .f fn _ us (by simpa using hl) fun j hj => by rw [List.length_map] at hj; rw [ZAm _ _ _ _ _ hj]; exact ih hρ (h j hj)
    | g b x _ h h0 => exact .g b _ _ (fun hb => ih hρ (h hb)) h0
    | top => exact .top _

def Pure (P : Program) (f : FuncId) (args : List AV) (r : AV) : Prop :=
  (∃ fn, P.funcs[f]? = some fn ∧ (fn.name == "runtime.NumGoroutine") = false ∧ fn.body.isNone = false) ∧
  ∀ (w : World) (I : Nat → Prop) (vs : Array Value), (∀ b, I b → b < w.heap.size) → ConcL w.heap.size I w noId args vs.toList →
    Calls P f vs w fun e w' => ∃ v, e = .returned v ∧ Below w.heap.size w w' ∧ Conc w.heap.size (fun b => I b ∨ (w.heap.size ≤ b ∧ b < w'.heap.size)) w' noId r v

end Go.Eng
namespace Go.Eng
open Go.RowKit

def updρ (ρ : Nat → Option Value) (d : Nat) (x : Value) : Nat → Option Value := fun id => if id = d then some x else ρ id
theorem ZAo (ρ : Nat → Option Value) (d : Nat) (x : Value) : updρ ρ d x d = some x := if_pos rfl
theorem ZBB (ρ : Nat → Option Value) (d : Nat) (x : Value) {id : Nat} (h : id ≠ d) : updρ ρ d x id = ρ id := if_neg h

def killH (d : Nat) : List (Nat × Blk) → List (Nat × Blk)
  | [] => []
  | (k, b) :: r => if k = d then killH d r else (k, b.kill d) :: killH d r
def killE (d : Nat) : List (Nat × AV) → List (Nat × AV)
  | [] => []
  | (k, x) :: r => (k, x.kill d) :: killE d r
def delH (d : Nat) : List (Nat × Blk) → List (Nat × Blk)
  | [] => []
  | (k, b) :: r => if k = d then delH d r else (k, b) :: delH d r

theorem ZGa (d : Nat) (env : List (Nat × AV)) (s : Nat) : lk (killE d env) s = (lk env s).kill d := by
  induction env with
  | nil => simp [killE, lk, AV.kill]
  | cons p r ih =>
    obtain ⟨k, x⟩ := p
    simp only [killE, lk]
    split <;> simp_all
theorem ZDp (d : Nat) (H : List (Nat × Blk)) (id : Nat) : lkH (killH d H) id = if id = d then none else (lkH H id).map (Blk.kill d) := by
  induction H with
  | nil => simp [killH, lkH]
  | cons p r ih =>
    obtain ⟨k, b⟩ := p
    simp only [killH, lkH]
    by_cases hk : k = d
    · subst hk
      rw [if_pos rfl, ih]
      by_cases hi : id = k
      · simp [hi]
      · rw [if_neg hi, if_neg hi, if_neg (Ne.symm hi)]
    · rw [if_neg hk]
      simp only [lkH]
      by_cases hi : k = id
      · subst hi; rw [if_pos rfl, if_neg hk, if_pos rfl]; rfl
      · rw [if_neg hi, if_neg hi, ih]
theorem ZEy (d : Nat) (H : List (Nat × Blk)) (id : Nat) : lkH (delH d H) id = if id = d then none else lkH H id := by
  induction H with
  | nil => simp [delH, lkH]
  | cons p r ih =>
    obtain ⟨k, b⟩ := p
    simp only [delH, lkH]
    by_cases hk : k = d
    · subst hk
      rw [if_pos rfl, ih]
      by_cases hi : id = k
      · simp [hi]
      · rw [if_neg hi, if_neg hi, if_neg (Ne.symm hi)]
    · rw [if_neg hk]
      simp only [lkH]
      by_cases hi : k = id
      · subst hi; rw [if_pos rfl, if_neg hk, if_pos rfl]
      · rw [if_neg hi, if_neg hi, ih]

theorem BlkOK.killed {B : Nat} {I : Nat → Prop} {w : World} {ρ ρ' : Nat → Option Value} {x : Value} {blk : Blk} (h : BlkOK B I w ρ x blk) (d : Nat) (hρ : ∀ id, id ≠ d → ρ' id = ρ id) : BlkOK B I w ρ' x (blk.kill d) := by
  cases blk with
  | box t c =>
    obtain ⟨b, us, rfl, hB, hh, hl, hc⟩ := h
    exact ⟨b, us, rfl, hB, hh, by rw [Cont.kill_len]; exact hl, fun j u hu => by rw [Cont.kill_at]; exact (hc j u hu).kill d _ hρ⟩
  | row e sz c => exact h
  | mp c => exact h
  | mpa kd ks c =>
    obtain ⟨b, vals, rfl, hB, hm, hl, hl2, hc⟩ := h
    exact ⟨b, vals, rfl, hB, hm, hl, by rw [Cont.kill_len]; exact hl2, fun j u hu => by rw [Cont.kill_at]; exact (hc j u hu).kill d _ hρ⟩
  | nst e c =>
    obtain ⟨n, xs, ho, hl, hc⟩ := h
    exact ⟨n, xs, ho, by rw [Cont.kill_len]; exact hl, fun j u hu => by rw [Cont.kill_at]; exact (hc j u hu).kill d _ hρ⟩

theorem HW.replace {B : Nat} {I : Nat → Prop} {w w' : World} {ρ : Nat → Option Value} {H H0 : List (Nat × Blk)} (h : HW B I w ρ H) (hsub : ∀ id blk, lkH H0 id = some blk → lkH H id = some blk) (d : Nat) (x : Value) (blk : Blk)
    (hx : BlkOK B I w' (updρ ρ d x) x blk) (hsz : w.heap.size ≤ w'.heap.size)
    (hkI : ∀ b, I b → w'.heap[b]? = w.heap[b]?)
    (hkeep : ∀ id blk y b, id ≠ d → lkH H0 id = some blk → ρ id = some y → rootBlk y = some b → w'.heap[b]? = w.heap[b]?)
    (hap : ∀ id blk y b, id ≠ d → lkH H0 id = some blk → ρ id = some y → rootBlk y = some b → rootBlk x ≠ some b)
    (him : ∀ b, rootBlk x = some b → ¬ I b) : HW B I w' (updρ ρ d x) ((d, blk) :: killH d H0) := by
  have look : ∀ id blk', lkH ((d, blk) :: killH d H0) id = some blk' → (id = d ∧ blk' = blk) ∨ (id ≠ d ∧ ∃ b0, lkH H0 id = some b0 ∧ blk' = b0.kill d) := by
    intro id blk' hk
    simp only [lkH] at hk
    by_cases e : d = id
    · rw [if_pos e] at hk; injection hk with hk; exact .inl ⟨e.symm, hk.symm⟩
    · rw [if_neg e, ZDp, if_neg (Ne.symm e)] at hk
      cases h0 : lkH H0 id with
      | none => rw [h0] at hk; cases hk
      | some b0 => rw [h0] at hk; injection hk with hk; exact .inr ⟨Ne.symm e, b0, rfl, hk.symm⟩
  refine ⟨fun id blk' hk => ?_, fun id id' b1 b2 y y' b hne h1 h2 hy hy' hb => ?_, fun id blk' y b hk hy hb => ?_, fun b hb => Nat.lt_of_lt_of_le (h.lt b hb) hsz⟩
  · rcases look id blk' hk with ⟨rfl, rfl⟩ | ⟨hne, b0, h0, rfl⟩
    · exact ⟨x, ZAo _ _ _, hx⟩
    · obtain ⟨y, hy, hok⟩ := h.ok id b0 (hsub _ _ h0)
      refine ⟨y, by rw [ZBB _ _ _ hne]; exact hy, ?_⟩
      have h2 := hok.move (I' := I) (w' := w') (ρ' := ρ) (fun b hb => hkeep id b0 y b hne h0 hy hb) (fun b hb => ⟨hb, hkI b hb⟩) (fun _ _ h => h)
      exact h2.killed d (fun id hid => ZBB _ _ _ hid)
  · rcases look id b1 h1 with ⟨rfl, rfl⟩ | ⟨hn1, c1, hc1, rfl⟩
    · rcases look id' b2 h2 with ⟨rfl, rfl⟩ | ⟨hn2, c2, hc2, rfl⟩
      · exact absurd rfl hne
      · rw [ZAo] at hy; injection hy with hy; subst hy
        rw [ZBB _ _ _ hn2] at hy'
        intro hb'
        exact hap id' c2 y' b hn2 hc2 hy' hb' hb
    · rw [ZBB _ _ _ hn1] at hy
      rcases look id' b2 h2 with ⟨rfl, rfl⟩ | ⟨hn2, c2, hc2, rfl⟩
      · rw [ZAo] at hy'; injection hy' with hy'; subst hy'
        exact hap id c1 y b hn1 hc1 hy hb
      · rw [ZBB _ _ _ hn2] at hy'
        exact h.apart id id' c1 c2 y y' b hne (hsub _ _ hc1) (hsub _ _ hc2) hy hy' hb
  · rcases look id blk' hk with ⟨rfl, rfl⟩ | ⟨hne, b0, h0, rfl⟩
    · rw [ZAo] at hy; injection hy with hy; subst hy; exact him b hb
    · rw [ZBB _ _ _ hne] at hy
      exact h.imm id b0 y b (hsub _ _ h0) hy hb

theorem Gam.replace {n B : Nat} {w0 : Orig} {st : St} {a : Act} {w w' : World} {ρ : Nat → Option Value} {I : Nat → Prop} (h : Gam n B w0 st a w ρ I) {H0 : List (Nat × Blk)} (hsub : ∀ id blk, lkH H0 id = some blk → lkH st.heap id = some blk) (d : Nat) (x : Value) (blk : Blk)
    (hx : BlkOK B I w' (updρ ρ d x) x blk) (hbel : Below B w w')
    (hkI : ∀ b, I b → w'.heap[b]? = w.heap[b]?)
    (hkeep : ∀ id blk y b, id ≠ d → lkH H0 id = some blk → ρ id = some y → rootBlk y = some b → w'.heap[b]? = w.heap[b]?)
    (hap : ∀ id blk y b, id ≠ d → lkH H0 id = some blk → ρ id = some y → rootBlk y = some b → rootBlk x ≠ some b)
    (him : ∀ b, rootBlk x = some b → ¬ I b) (hgd : w0.gh d = none) : Gam n B w0 ⟨killE d st.env, (d, blk) :: killH d H0⟩ a w' (updρ ρ d x) I :=
  ⟨h.defers.mono (fun b hb => ⟨hb, hkI b hb⟩), h.size, fun s => by
      show Conc B I w' (updρ ρ d x) (lk (killE d st.env) s) _
      rw [ZGa]
      exact ((h.env s).kill d _ (fun id hid => ZBB _ _ _ hid)).same hkI,
    h.hw.replace hsub d x blk hx hbel.size hkI hkeep hap him, h.below.trans hbel, Nat.le_trans h.base hbel.size, ⟨h.old.up, fun id y hy => by
      by_cases e : id = d
      · rw [e, hgd] at hy; cases hy
      · rw [ZBB _ _ _ e]; exact h.old.gh id y hy, h.old.ghn, fun b hb => ⟨(h.old.keep b hb).1, by rw [hkI b (h.old.keep b hb).1]; exact (h.old.keep b hb).2⟩⟩⟩

theorem Gam.new {n B : Nat} {w0 : Orig} {st : St} {a : Act} {w w1 : World} {ρ : Nat → Option Value} {I : Nat → Prop} (h : Gam n B w0 st a w ρ I) (hb : Below w.heap.size w w1) (d : Nat) (x : Value) (blk : Blk)
    (hx : BlkOK B I w1 (updρ ρ d x) x blk) (hroot : ∀ b, rootBlk x = some b → w.heap.size ≤ b) (hgd : w0.gh d = none) : Gam n B w0 ⟨killE d st.env, (d, blk) :: killH d st.heap⟩ a w1 (updρ ρ d x) I := by
  have hlt : ∀ id blk y b, lkH st.heap id = some blk → ρ id = some y → rootBlk y = some b → b < w.heap.size := fun id blk y b hk hy hb => by
    obtain ⟨y', hy', hok⟩ := h.hw.ok id blk hk
    rw [hy] at hy'; injection hy' with hy'; subst hy'
    exact (hok.lt hb).2
  exact h.replace (fun _ _ h => h) d x blk hx (hb.mono h.base) (fun b hI => hb.block b (h.hw.lt b hI)) (fun id blk y b _ hk hy hr => hb.block b (hlt id blk y b hk hy hr))
    (fun id blk y b _ hk hy hr hxr => by have := hlt id blk y b hk hy hr; have := hroot b hxr; omega) (fun b hr hI => by have := hroot b hr; have := h.hw.lt b hI; omega) hgd

theorem Gam.store {n B : Nat} {w0 : Orig} {st : St} {a : Act} {w w' : World} {ρ : Nat → Option Value} {I : Nat → Prop} (h : Gam n B w0 st a w ρ I) {id : Nat} {blk blk' : Blk} {x : Value} (hk : lkH st.heap id = some blk) (hx : ρ id = some x)
    (hok' : BlkOK B I w' ρ x blk') (hbel : Below B w w') (hkeep : ∀ b, rootBlk x ≠ some b → w'.heap[b]? = w.heap[b]?) : Gam n B w0 ⟨st.env, (id, blk') :: st.heap⟩ a w' ρ I := by
  have hnI : ∀ b, I b → rootBlk x ≠ some b := fun b hb hr => h.hw.imm id blk x b hk hx hr hb
  refine ⟨h.defers.mono (fun b hb => ⟨hb, hkeep b (hnI b hb)⟩), h.size, fun s => (h.env s).same (fun b hb => hkeep b (hnI b hb)), ⟨fun id' b' hk' => ?_, fun i1 i2 b1 b2 y1 y2 b hne h1 h2 hy1 hy2 hb => ?_, fun i1 b1 y b h1 hy hb => ?_, fun b hb => Nat.lt_of_lt_of_le (h.hw.lt b hb) hbel.size⟩, h.below.trans hbel, Nat.le_trans h.base hbel.size, ⟨h.old.up, h.old.gh, h.old.ghn, fun b hb => ⟨(h.old.keep b hb).1, by rw [hkeep b (hnI b (h.old.keep b hb).1)]; exact (h.old.keep b hb).2⟩⟩⟩
  · simp only [lkH] at hk'
    by_cases e : id = id'
    · subst e; rw [if_pos rfl] at hk'; injection hk' with hk'; subst hk'; exact ⟨x, hx, hok'⟩
    · rw [if_neg e] at hk'
      obtain ⟨y, hy, hoky⟩ := h.hw.ok id' b' hk'
      exact ⟨y, hy, hoky.move (fun b hb => hkeep b (fun hr => h.hw.apart id id' blk b' x y b e hk hk' hx hy hr hb)) (fun b hb => ⟨hb, hkeep b (hnI b hb)⟩) (fun _ _ h => h)⟩
  · have conv : ∀ i b, lkH ((id, blk') :: st.heap) i = some b → ∃ b', lkH st.heap i = some b' := fun i b hb => by
      simp only [lkH] at hb
      by_cases e : id = i
      · subst e; exact ⟨blk, hk⟩
      · rw [if_neg e] at hb; exact ⟨b, hb⟩
    obtain ⟨c1, hc1⟩ := conv i1 b1 h1
    obtain ⟨c2, hc2⟩ := conv i2 b2 h2
    exact h.hw.apart i1 i2 c1 c2 y1 y2 b hne hc1 hc2 hy1 hy2 hb
  · simp only [lkH] at h1
    by_cases e : id = i1
    · subst e; exact h.hw.imm id blk y b hk hy hb
    · rw [if_neg e] at h1; exact h.hw.imm i1 b1 y b h1 hy hb

def Cont.updL0 : Cont → Nat → List AV → Option Cont
  | c, _, [] => some c
  | c, j, x :: r => match c.upd j x with
    | some c' => c'.updL0 (j + 1) r
    | none => none
theorem Cont.updL0_spec : ∀ {xs : List AV} {c c' : Cont} {j : Nat}, c.updL0 j xs = some c' → j + xs.length ≤ c.len →
    c'.len = c.len ∧ (∀ k, k < xs.length → c'.at (j + k) = xs.getD k .top) ∧ ∀ k, (k < j ∨ j + xs.length ≤ k) → c'.at k = c.at k
  | [], c, c', j, h, hl => by simp [Cont.updL0] at h; subst h; exact ⟨rfl, fun k hk => by simp at hk, fun _ _ => rfl⟩
  | x :: r, c, c', j, h, hl => by
    simp only [Cont.updL0] at h
    split at h
    · rename_i c1 h1
      simp at hl
      obtain ⟨a1, a2, a3⟩ := Cont.upd_spec h1 (by omega)
      obtain ⟨b1, b2, b3⟩ := Cont.updL0_spec h (by rw [a1]; omega)
      refine ⟨b1.trans a1, fun k hk => ?_, fun k hk => ?_⟩
      · cases k with
        | zero => rw [Nat.add_zero, b3 j (by omega), a2]; simp
        | succ k => simp at hk; rw [show j + (k + 1) = j + 1 + k from by omega, b2 k hk]; simp
      · simp at hk; rw [b3 k (by omega), a3 k (by omega)]
    · cases h

def Cont.updL (c : Cont) (j : Nat) (xs : List AV) : Option Cont :=
  if 8 < xs.length then (if j = 0 ∧ xs.length = c.len then some (.avs xs) else none) else c.updL0 j xs
theorem Cont.updL_spec {xs : List AV} {c c' : Cont} {j : Nat} (h : c.updL j xs = some c') (hl : j + xs.length ≤ c.len) :
    c'.len = c.len ∧ (∀ k, k < xs.length → c'.at (j + k) = xs.getD k .top) ∧ ∀ k, k < c.len → (k < j ∨ j + xs.length ≤ k) → c'.at k = c.at k := by
  unfold Cont.updL at h
  split at h
  · split at h
    · rename_i hh
      injection h with h; subst h
      obtain ⟨rfl, h2⟩ := hh
      refine ⟨by simpa [Cont.len] using h2, fun k _ => by simp [Cont.at], fun k hk hk2 => by omega⟩
    · cases h
  · obtain ⟨h1, h2, h3⟩ := Cont.updL0_spec h hl
    exact ⟨h1, h2, fun k _ => h3 k⟩

mutual
def AV.nor : AV → Bool
  | .v _ => true
  | .s _ => false
  | .w _ _ _ => false
  | .p _ _ => false
  | .i _ _ _ _ _ => true
  | .q _ _ _ _ _ => true
  | .a cs => AV.norL cs
  | .t cs => AV.norL cs
  | .f _ cs => AV.norL cs
  | .g _ x => AV.nor x
  | .top => true
def AV.norL : List AV → Bool
  | [] => true
  | x :: r => AV.nor x && AV.norL r
end
theorem ZBc : ∀ {cs : List AV} (_ : AV.norL cs = true) (j : Nat), (cs.getD j .top).nor = true
  | [], _, _ => by simp [AV.nor]
  | x :: r, h, 0 => by simp [AV.norL] at h; simpa using h.1
  | x :: r, h, j + 1 => by simp [AV.norL] at h; simpa using ZBc h.2 j

theorem Conc.nor {B : Nat} {I : Nat → Prop} {w : World} {ρ : Nat → Option Value} {x : AV} {u : Value} (h : Conc B I w ρ x u) (hf : x.nor = true) : Conc B I w noId x u := by
  induction h with
  | v x => exact .v x
  | s id x h h1 => simp [AV.nor] at hf
  | w id off len cap A x h hcap hA => simp [AV.nor] at hf
  | p id off b x h hb => simp [AV.nor] at hf
  | i fr c sz off len cap A u hcap hA hc ih => exact .i fr c sz off len cap A u hcap hA hc
  | q fr c sz e f ad u h2 h3 hcell hc ih => exact .q fr c sz e f ad u h2 h3 hcell hc
  | a cs us hl h ih => rw [AV.nor] at hf; exact .a cs us hl fun j hj => ih j hj (ZBc hf j)
  | t cs us hl h ih => rw [AV.nor] at hf; exact .t cs us hl fun j hj => ih j hj (ZBc hf j)
  | f fn cs us hl h ih => rw [AV.nor] at hf; exact .f fn cs us hl fun j hj => ih j hj (ZBc hf j)
  | g b x u h h0 ih => rw [AV.nor] at hf; exact .g b x u (fun hb => ih hb hf) h0
  | top u => exact .top u

end Go.Eng
namespace Go.Eng
open Go.RowKit

def toInts (k : IntKind) : List AV → Option (List Int)
  | [] => some []
  | x :: r => match x with
    | .v (.int k' n) => if k' = k then (match toInts k r with | some l => some (n :: l) | none => none) else none
    | _ => none
theorem ZCk {k : IntKind} : ∀ {cs : List AV} {l : List Int}, toInts k cs = some l → l.length = cs.length ∧ ∀ j, j < cs.length → cs.getD j .top = .v (.int k (l.getD j 0))
  | [], l, h => by simp [toInts] at h; subst h; exact ⟨rfl, fun j hj => by simp at hj⟩
  | x :: r, l, h => by
    simp only [toInts] at h
    split at h
    · split at h
      · rename_i hk; subst hk
        split at h
        · rename_i l' hl'
          injection h with h; subst h
          obtain ⟨h1, h2⟩ := ZCk hl'
          refine ⟨by simp [h1], fun j hj => ?_⟩
          cases j with
          | zero => simp
          | succ j => simpa using h2 j (by simpa using hj)
        · cases h
      · cases h
    · cases h

def qb (T : Tab) (ev : Operand → AV) : Op → Option (Prop × AV)
  | .buildSlice t len parts =>
    match T t with
    | some ⟨.sl e, _, _, _⟩ =>
      match T e with
      | some te =>
        match fillA (fun i => some (i * te.sz, te.sz)) (cellsFrom (fun j => ofVal (te.z.cells.getD (j % te.sz) undef)) 0 (len * te.sz)) (parts.toList.map fun p => (p.1, ev p.2)) with
        | some (φ, cs) =>
          match te.k with
          | .int k => match toInts k cs with
            | some l => some (φ ∧ te.sz = 1 ∧ te.z.cells.size = 1 ∧ len ≤ 16777216, .i true (fun e _ => .v (.int k (l.getD e 0))) 1 0 l.length)
            | none => none
          | _ => some (φ ∧ 0 < te.sz ∧ te.z.cells.size = te.sz ∧ len * te.sz ≤ 16777216 ∧ AV.norL cs = true, .i true (fun e j => cs.getD (e * te.sz + j) .top) te.sz 0 len)
        | none => none
      | none => none
    | _ => none
  | _ => none

section
variable {P : Program} {T : Tab} (hT : T.ok P) {B : Nat} {I : Nat → Prop} {w : World} {ρ : Nat → Option Value}

theorem ConcL.nor {cs : List AV} {us : List Value} (h : ConcL B I w ρ cs us) (hn : AV.norL cs = true) : ConcL B I w noId cs us := ⟨h.1, fun j hj => (h.2 j hj).nor (ZBc hn j)⟩

theorem ZI5 {t : TypeId} {us : Array Value} {c : Nat → Nat → AV} {sz len cap : Nat} {I' : Nat → Prop} (hI : I' w.heap.size) (hB : B ≤ w.heap.size) (hcap : len ≤ cap) (hl : len * sz ≤ us.size)
    (hc : ∀ e j, e < len → j < sz → Conc B I' (w.alloc (.cells us t)) noId (c e j) (us.getD (e * sz + j) undef)) : Conc B I' (w.alloc (.cells us t)) ρ (.i true c sz 0 len) (.slice (some ⟨w.heap.size, 0, none⟩) len cap) := by
  refine .i _ _ _ _ _ _ _ (fun e j => us.getD (e * sz + j) undef) hcap (fun _ => ⟨_, rfl, hI, fun _ => hB, fun e j he hj => ?_⟩) (fun e j he hj => by rw [Nat.zero_add]; exact hc e j he hj)
  have hlt : e * sz + j < us.size := Nat.lt_of_lt_of_le (ZA9 he hj) hl
  have hb : (w.alloc (.cells us t)).heap[w.heap.size]? = some (.cells us t (0, 0)) := heap_alloc_new w _
  rw [ZAf, Nat.zero_add, cell_of_row _ _ _ us t (0, 0) hb]
  simp [hlt, Array.getD_eq_getD_getElem?]

include hT in
theorem qb_ok {n : Nat} {w0 : Orig} {st : St} {a : Act} (hG : Gam n B w0 st a w ρ I) {o : Oper} {φ : Prop} {r : AV} (h : qb T st.ev o.op = some (φ, r)) (hφ : φ) (next : Act → World → Prop) (Q : Exit → Act → World → Prop)
    (hn : ∀ v w' I', Quiet I w I' w' → Conc B I' w' ρ r v → next (a.put o.dst v) w') : o.wp P a w next Q := by
  obtain ⟨dst, op, ty, pos, aft, gd⟩ := o
  simp only [qb] at h
  split at h
  · rename_i t len parts
    split at h
    · rename_i e _ _ _ ht
      have hu : P.underlying t = some (.slice e) := (hT _ _ ht).kind
      split at h
      · rename_i te hte
        obtain ⟨inf, hi1, hi2, hi3, hz⟩ := (hT _ _ hte).info
        have hsz := (hT _ _ hte).size w
        split at h
        · rename_i ψ cs hfill
          -- what is common
          have common : ψ → te.z.cells.size = te.sz → len * te.sz ≤ 16777216 →
              ∃ us, us.size = len * te.sz ∧ ConcL B I w ρ cs us.toList ∧ (execOp a.eval ⟨dst, .buildSlice t len parts, ty, pos, aft, gd⟩).run P w = .ok (.value (.slice (some ⟨w.heap.size, 0, none⟩) len len)) (w.alloc (.cells us e)) := by
            intro hψ hzs hlen
            have hz0 : ConcL B I w ρ (cellsFrom (fun j => ofVal (te.z.cells.getD (j % te.sz) undef)) 0 (len * te.sz)) ((Array.range (len * te.sz)).map fun j => (if len * te.sz = 0 then #[] else te.z.cells)[j % (if len * te.sz = 0 then #[] else te.z.cells).size]!).toList := by
              refine ⟨by simp [ZAq], fun j hj => ?_⟩
              rw [ZAq] at hj
              have hne : ¬ len * te.sz = 0 := by omega
              rw [ZBv _ _ _ _ hj, Nat.zero_add, if_neg hne, hzs]
              have e1 : ((Array.range (len * te.sz)).map fun j => te.z.cells[j % te.sz]!).toList.getD j undef = te.z.cells.getD (j % te.sz) undef := by
                have hlt : j % te.sz < te.z.cells.size := by
                  rw [hzs]; apply Nat.mod_lt
                  rcases Nat.eq_zero_or_pos te.sz with h0 | h0
                  · rw [h0] at hne; simp at hne
                  · exact h0
                simp [List.getD_eq_getElem?_getD, hj, Array.getD_eq_getD_getElem?, hlt]
              rw [e1]; exact ZBx _
            obtain ⟨us, h1, h2⟩ := ZDe _ ((parts.map fun p => (p.1, a.eval p.2)).toList) _ _ hfill hψ hz0 (by simp) (fun j hj => by
              simp at hj
              have h1 : ((parts.toList.map fun p => (p.1, st.ev p.2)).getD j (0, .top)).2 = st.ev parts[j].2 := by simp [List.getD_eq_getElem?_getD, hj]
              have h2 : ((parts.map fun p => (p.1, a.eval p.2)).toList.getD j (0, undef)).2 = a.eval parts[j].2 := by simp [List.getD_eq_getElem?_getD, hj]
              rw [h1, h2]; exact hG.ev _)
            have hsize : us.size = len * te.sz := by
              have hfl : ∀ (place : Nat → Option (Nat × Nat)) (l : List (Nat × Value)) (us us' : Array Value), Instr.fill place us l = some us' → us'.size = us.size := by
                intro place l
                induction l with
                | nil => intro us us' h; simp [Instr.fill] at h; rw [h]
                | cons p l ih =>
                  intro us us' h
                  obtain ⟨i, v⟩ := p
                  simp only [Instr.fill] at h
                  split at h
                  · cases h
                  · split at h
                    · cases h
                    · rw [ih _ _ h]
                      have : ∀ (l : List (Value × Nat)) (off : Nat) (us : Array Value), (l.foldl (fun cs (x : Value × Nat) => cs.setIfInBounds (off + x.2) x.1) us).size = us.size := by
                        intro l
                        induction l with
                        | nil => intro off us; rfl
                        | cons q l ih => intro off us; simp [ih]
                      rw [← Array.foldl_toList]
                      exact this _ _ _
              rw [hfl _ _ _ _ h1]; simp
            refine ⟨us, hsize, h2, ?_⟩
            have hlen' : ¬ (len * te.sz > 2 ^ 24) := by omega
            by_cases h0 : len * te.sz = 0
            · rw [if_pos h0] at h1
              rw [h0] at h1
              have h024 : ¬ ((0 : Nat) > 2 ^ 24) := by decide
              simp only [execOp, Instr.buildSlice, Sem.run_bind, run_underlying hu, Result.andThen_ok, hsz, h0, h024, if_false, if_true, Sem.run_pure, h1]
              simp [newRow]
            · rw [if_neg h0] at h1
              simp only [execOp, Instr.buildSlice, Sem.run_bind, run_underlying hu, Result.andThen_ok, hsz, hlen', if_false, h0, Sem.run_pure, zeroValue, typeInfo, run_program, hi1, hz, h1]
              simp [newRow]
          have finish : ∀ (us : Array Value) (c : Nat → Nat → AV), us.size = len * te.sz → (∀ e j, e < len → j < te.sz → Conc B I w noId (c e j) (us.getD (e * te.sz + j) undef)) →
              (execOp a.eval ⟨dst, .buildSlice t len parts, ty, pos, aft, gd⟩).run P w = .ok (.value (.slice (some ⟨w.heap.size, 0, none⟩) len len)) (w.alloc (.cells us e)) → r = .i true c te.sz 0 len → Oper.wp P ⟨dst, .buildSlice t len parts, ty, pos, aft, gd⟩ a w next Q := by
            intro us c hus hc hrun hr
            unfold Oper.wp
            rw [hrun, Oper.upon_value]
            have hq : Quiet I w (fun b => I b ∨ b = w.heap.size) (w.alloc (.cells us e)) :=
              ⟨(Below.refl _ _).alloc (Nat.le_refl _) _, fun b hb => .inl hb, fun b hb hn => by rcases hb with hb | hb; exact absurd hb hn; omega, fun b hb => by
                have : (w.alloc (.cells us e)).heap.size = w.heap.size + 1 := by simp
                rcases hb with hb | hb
                · have := hG.hw.lt b hb; omega
                · omega⟩
            refine hn _ _ _ hq ?_
            rw [hr]
            refine ZI5 (ρ := ρ) (.inr rfl) hG.base (Nat.le_refl _) (by omega) (fun el j he hj => ?_)
            exact (hc el j he hj).quiet hq hG.hw.lt
          split at h
          · rename_i k hk
            split at h
            · rename_i l hl
              simp only [Option.some.injEq, Prod.mk.injEq] at h
              obtain ⟨rfl, rfl⟩ := h
              obtain ⟨us, h1, h2, h3⟩ := common hφ.1 (by rw [hφ.2.1, hφ.2.2.1]) (by rw [hφ.2.1]; omega)
              obtain ⟨l1, l2⟩ := ZCk hl
              have hcl : cs.length = len := by
                have := h2.1
                rw [Array.length_toList, h1, hφ.2.1] at this; omega
              refine finish us _ h1 (fun el j he hj => ?_) h3 (by rw [hφ.2.1, l1, hcl])
              have hj0 : j = 0 := by rw [hφ.2.1] at hj; omega
              subst hj0
              rw [hφ.2.1, Nat.mul_one, Nat.add_zero]
              have := h2.2 el (by omega)
              rw [l2 el (by omega)] at this
              have e2 : us.toList.getD el undef = us.getD el undef := by simp [List.getD_eq_getElem?_getD, Array.getD_eq_getD_getElem?]
              rw [← e2, this.v_inv]; exact .v _
            · cases h
          · simp only [Option.some.injEq, Prod.mk.injEq] at h
            obtain ⟨rfl, rfl⟩ := h
            obtain ⟨us, h1, h2, h3⟩ := common hφ.1 hφ.2.2.1 hφ.2.2.2.1
            have h2 := h2.nor hφ.2.2.2.2
            refine finish us _ h1 (fun el j he hj => ?_) h3 rfl
            have hlt : el * te.sz + j < cs.length := by
              have := h2.1
              rw [Array.length_toList, h1] at this
              rw [← this]; exact ZA9 he hj
            have := h2.2 _ hlt
            have e2 : us.toList.getD (el * te.sz + j) undef = us.getD (el * te.sz + j) undef := by simp [List.getD_eq_getElem?_getD, Array.getD_eq_getD_getElem?]
            rwa [e2] at this
        · cases h
      · cases h
    · cases h
  · cases h
end

def callee? (ev : Operand → AV) : Op → Option (Prop × FuncId × List AV)
  | .call c => match c.callee with
    | .value f => match (ev f).strip with
      | .v (.func (.func k) first caps) => match first.toList, caps.toList with
        | [], [] => some ((ev f).cond, k, c.args.toList.map ev)
        | _, _ => none
      | .f (.func k) cs => some ((ev f).cond, k, c.args.toList.map ev ++ cs)
      | _ => none
    | _ => none
  | _ => none

def condL : List AV → Prop
  | [] => True
  | x :: r => x.cond ∧ condL r
theorem ZA4 : ∀ {cs : List AV} (_ : condL cs) (j : Nat), (cs.getD j .top).cond
  | [], _, _ => by simp [AV.cond]
  | x :: r, h, 0 => by simpa using h.1
  | x :: r, h, j + 1 => by simpa using ZA4 h.2 j

def pubL (H : List (Nat × Blk)) : List AV → List AV
  | [] => []
  | x :: r => AV.pub false H 6 x.strip :: pubL H r
theorem ZAp (H : List (Nat × Blk)) : ∀ cs, (pubL H cs).length = cs.length
  | [] => rfl
  | x :: r => by simp [pubL, ZAp H r]
theorem ZBy (H : List (Nat × Blk)) : ∀ (cs : List AV) (j : Nat), j < cs.length → (pubL H cs).getD j .top = AV.pub false H 6 (cs.getD j .top).strip
  | [], j, h => by simp at h
  | x :: r, 0, h => by simp [pubL]
  | x :: r, j + 1, h => by simpa [pubL] using ZBy H r j (by simpa using h)

section
variable {P : Program} {B : Nat} {I : Nat → Prop} {w : World} {ρ : Nat → Option Value}

theorem ZBM {ev : Operand → AV} {ρv : Operand → Value} (hev : ∀ x, Conc B I w ρ (ev x) (ρv x)) {o : Oper} {ψ : Prop} {k : FuncId} {args : List AV} (h : callee? ev o.op = some (ψ, k, args)) (hψ : ψ)
    {fn : Func} (hf : P.funcs[k]? = some fn) (hname : (fn.name == "runtime.NumGoroutine") = false) (hbody : fn.body.isNone = false) :
    ∃ vs, (execOp ρv o).run P w = .ok (.enter k vs) w ∧ ConcL B I w ρ args vs.toList := by
  obtain ⟨dst, op, ty, pos, aft, gd⟩ := o
  have mapL : ∀ (l : List Operand), ConcL B I w ρ (l.map ev) (l.map ρv) := fun l => ⟨by simp, fun j hj => by
    simp at hj
    have h1 : (l.map ev).getD j .top = ev l[j] := by simp [List.getD_eq_getElem?_getD, hj]
    have h2 : (l.map ρv).getD j undef = ρv l[j] := by simp [List.getD_eq_getElem?_getD, hj]
    rw [h1, h2]; exact hev _⟩
  have hname' : ¬ fn.name = "runtime.NumGoroutine" := by simpa using hname
  have hbody' : ¬ fn.body = none := fun h => by rw [h] at hbody; cases hbody
  simp only [callee?] at h
  split at h
  · rename_i c
    split at h
    · rename_i f hc
      split at h
      · rename_i k' first caps hst
        split at h
        · rename_i h1 h2
          simp only [Option.some.injEq, Prod.mk.injEq] at h
          obtain ⟨rfl, rfl, rfl⟩ := h
          have e1 : first = #[] := by simpa using h1
          have e2 : caps = #[] := by simpa using h2
          subst e1; subst e2
          have hfv := (hev f).strip hψ
          rw [hst] at hfv
          have hfv := hfv.v_inv
          refine ⟨c.args.map ρv, ?_, by simpa using mapL c.args.toList⟩
          simp [execOp, resolve, hc, hfv, Deferred.ofValue, invoke, callFunc, hf, hname', hbody']
        · cases h
      · rename_i k' cs hst
        simp only [Option.some.injEq, Prod.mk.injEq] at h
        obtain ⟨rfl, rfl, rfl⟩ := h
        have hfv := (hev f).strip hψ
        rw [hst] at hfv
        generalize hfu : ρv f = fu at hfv
        cases hfv with
        | f _ _ us hl hcs =>
          refine ⟨c.args.map ρv ++ us, ?_, ?_⟩
          · simp [execOp, resolve, hc, hfu, Deferred.ofValue, invoke, callFunc, hf, hname', hbody']
          · have hm := mapL c.args.toList
            refine ⟨by simp [hl], fun j hj => ?_⟩
            by_cases hj' : j < c.args.size
            · have := hm.2 j (by simpa using hj')
              have e1 : (c.args.toList.map ev ++ cs).getD j .top = (c.args.toList.map ev).getD j .top := by simp [List.getD_eq_getElem?_getD, List.getElem?_append, hj']
              have e2 : (c.args.map ρv ++ us).toList.getD j undef = (c.args.toList.map ρv).getD j undef := by simp [List.getD_eq_getElem?_getD, List.getElem?_append, hj']
              rw [e1, e2]; exact this
            · simp at hj
              have := hcs (j - c.args.size) (by omega)
              have e1 : (c.args.toList.map ev ++ cs).getD j .top = cs.getD (j - c.args.size) .top := by simp [List.getD_eq_getElem?_getD, List.getElem?_append, hj']
              have e2 : (c.args.map ρv ++ us).toList.getD j undef = us.getD (j - c.args.size) undef := by simp [List.getD_eq_getElem?_getD, List.getElem?_append, hj', Array.getD_eq_getD_getElem?]
              rw [e1, e2]; exact this
      · cases h
    · cases h
  · cases h

theorem ZI6 {B B' : Nat} {I : Nat → Prop} {w : World} (H : List (Nat × Blk)) : ∀ (n : Nat) {x : AV} {u : Value}, Conc B I w noId x u → Conc B' I w noId (AV.pub false H n x) u := by
  intro n
  induction n with
  | zero => intro x u h; exact .top u
  | succ n ih =>
    intro x u h
    cases h with
    | v => exact .v _
    | s id _ h h1 => cases h
    | w id off len cap A x h hcap hA => cases h
    | p id off b x h hb => cases h
    | i fr c sz off len cap A u hcap hA hc =>
      refine .i _ _ _ _ _ _ _ u hcap (fun hl => ?_) (fun e f he hf => ih (hc e f he hf))
      obtain ⟨ad, h1, h2, h3, h4⟩ := hA hl
      exact ⟨ad, h1, h2, (fun hh => by simp at hh), h4⟩
    | q fr c sz e f ad u h2 h3 hcell hc => exact .q _ _ _ _ _ _ u h2 (fun hh => by simp at hh) hcell (fun j hj => ih (hc j hj))
    | a cs us hl h => exact .a _ _ (by simpa using hl) fun j hj => by simp only [List.length_map] at hj; rw [ZAm _ _ _ _ _ hj]; exact ih (h j hj)
    | t cs us hl h => exact .t _ _ (by simpa using hl) fun j hj => by simp only [List.length_map] at hj; rw [ZAm _ _ _ _ _ hj]; exact ih (h j hj)
    | f fn cs us hl h => exact .f _ _ _ (by simpa using hl) fun j hj => by simp only [List.length_map] at hj; rw [ZAm _ _ _ _ _ hj]; exact ih (h j hj)
    | g b x _ h h0 => exact .g b _ _ (fun hb => ih (h hb)) h0
    | top => exact .top _
theorem ZFj : ∀ {x : AV}, x.nor = true → x.strip.nor = true
  | .g b x, h => by rw [AV.strip]; exact ZFj (x := x) (by rwa [AV.nor] at h)
  | .v _, h => h
  | .s _, h => h
  | .w _ _ _, h => h
  | .p _ _, h => h
  | .i _ _ _ _ _, h => h
  | .q _ _ _ _ _, h => h
  | .a _, h => h
  | .t _, h => h
  | .f _ _, h => h
  | .top, h => h

def okR (args : List AV) (r : AV) : Prop := r.fresh ∨ AV.norL args = true

theorem ZHa {n : Nat} {w0 : Orig} {st : St} {a : Act} (hG : Gam n B w0 st a w ρ I) {o : Oper} {ψ : Prop} {k : FuncId} {args : List AV} {r : AV} (h : callee? st.ev o.op = some (ψ, k, args)) (hψ : ψ) (hcond : condL args) (hp : Pure P k (pubL st.heap args) r) (hfr : okR args r)
    (next : Act → World → Prop) (Q : Exit → Act → World → Prop) (hn : ∀ v w' I', Quiet I w I' w' → Conc B I' w' ρ r v → next (a.put o.dst v) w') : o.wp P a w next Q := by
  obtain ⟨⟨fn, hf, hname, hbody⟩, hcall⟩ := hp
  obtain ⟨vs, hrun, hvs⟩ := ZBM (fun x => hG.ev x) h hψ hf hname hbody
  unfold Oper.wp
  rw [hrun, Oper.upon_enter]
  have quiet : ∀ w', Below w.heap.size w w' → Quiet I w (fun b => I b ∨ (w.heap.size ≤ b ∧ b < w'.heap.size)) w' := fun w' hb =>
    ⟨hb, fun b hb => .inl hb, fun b hb hn => by rcases hb with hb | hb; exact absurd hb hn; exact hb.1, fun b hb' => by
        rcases hb' with hb' | hb'
        · exact Nat.lt_of_lt_of_le (hG.hw.lt b hb') hb.size
        · exact hb'.2⟩
  rcases hfr with hfr | hnor
  · refine (hcall w (allB w) vs (fun b hb => hb) ⟨by rw [ZAp]; exact hvs.1, fun j hj => ?_⟩).mono fun e w' he => ?_
    · rw [ZAp] at hj
      rw [ZBy _ _ _ hj]
      exact ZFi false hG.hw (fun h => by cases h) hG.hw.lt (fun b _ h => h) 6 (.inl rfl) ((hvs.2 j hj).strip (ZA4 hcond j))
    · obtain ⟨v, rfl, hb, hc⟩ := he
      refine hn v w' _ (quiet w' hb) ?_
      have h2 := hc.fresh (I' := fun b => I b ∨ (w.heap.size ≤ b ∧ b < w'.heap.size)) hfr (fun b hb1 hb2 => by
        rcases hb2 with hb2 | hb2
        · have : b < w.heap.size := hb2; omega
        · exact .inr hb2)
      exact (h2.mono hG.base (fun b hb => ⟨hb, rfl⟩) ρ (fun _ _ h => by cases h))
  · refine (hcall w I vs hG.hw.lt ⟨by rw [ZAp]; exact hvs.1, fun j hj => ?_⟩).mono fun e w' he => ?_
    · rw [ZAp] at hj
      rw [ZBy _ _ _ hj]
      exact ZI6 _ _ (((hvs.2 j hj).strip (ZA4 hcond j)).nor (ZFj (ZBc hnor j)))
    · obtain ⟨v, rfl, hb, hc⟩ := he
      exact hn v w' _ (quiet w' hb) (hc.mono hG.base (fun b hb => ⟨hb, rfl⟩) ρ (fun _ _ h => by cases h))
end
end Go.Eng
namespace Go.Eng
open Go.RowKit

def oneL : List AV → Bool
  | [] => true
  | x :: r => x.one && oneL r
theorem ZCz : ∀ {cs : List AV} (_ : oneL cs = true) (j : Nat), j < cs.length → (cs.getD j .top).one = true
  | [], _, j, h => by simp at h
  | x :: r, h, 0, _ => by simp [oneL] at h; simpa using h.1
  | x :: r, h, j + 1, hj => by simp [oneL] at h; simpa using ZCz h.2 j (by simpa using hj)

def srcOf (H : List (Nat × Blk)) (sz : Nat) (x : AV) : Option (Prop × Nat × (Nat → Nat → AV)) :=
  match x with
  | .i _ c sz' off len => some (sz' = sz, len, fun e j => c (off + e) j)
  | .s id => match lkH H id with
    | some (.row _ sz' c) => some (sz' = sz ∧ 0 < sz, c.len / sz, fun e j => c.at (e * sz + j))
    | _ => none
  | .w id off len => match lkH H id with
    | some (.row _ sz' c) => some (sz' = sz ∧ off + len * sz ≤ c.len, len, fun e j => c.at (off + e * sz + j))
    | _ => none
  | .v (.slice _ 0 _) => some (True, 0, fun _ _ => .top)
  | _ => none

def baseOf (H : List (Nat × Blk)) (x : AV) : Option (Option (Nat × TypeId × Nat × Cont)) :=
  match x with
  | .v (.slice none 0 0) => some none
  | .s id => match lkH H id with
    | some (.row e sz c) => some (some (id, e, sz, c))
    | _ => none
  | _ => none

def lessH (H : List (Nat × Blk)) : Option (Nat × TypeId × Nat × Cont) → List (Nat × Blk)
  | none => H
  | some (id, _, _, _) => delH id H

def al (T : Tab) (st : St) (o : Oper) (K : St → Prop) : Prop :=
  match o.op with
  | .store t x y =>
    match (st.ev x).strip, cellsOf (st.ev y).strip, T t with
    | .p id off, some cs, some ti =>
      match lkH st.heap id with
      | some (.box tb c) =>
        match c.updL off cs with
        | some c' => ((st.ev x).cond ∧ (st.ev y).cond ∧ cs.length = ti.sz ∧ off + cs.length ≤ c.len ∧ oneL cs = true ∧ o.dst = none) ∧ K ⟨st.env, (id, .box tb c') :: st.heap⟩
        | none => False
      | some (.row e sz c) =>
        match c.updL off cs with
        | some c' => ((st.ev x).cond ∧ (st.ev y).cond ∧ cs.length = ti.sz ∧ off + cs.length ≤ c.len ∧ oneL cs = true ∧ AV.norL cs = true ∧ o.dst = none) ∧ K ⟨st.env, (id, .row e sz c') :: st.heap⟩
        | none => False
      | some (.nst e c) =>
        match c.updL off cs with
        | some c' => ((st.ev x).cond ∧ (st.ev y).cond ∧ cs.length = ti.sz ∧ off + cs.length ≤ c.len ∧ oneL cs = true ∧ o.dst = none) ∧ K ⟨st.env, (id, .nst e c') :: st.heap⟩
        | none => False
      | some (.mp _) => False
      | some (.mpa _ _ _) => False
      | none => False
    | _, _, _ => False
  | .box t x =>
    match o.dst, cellsOf (st.ev x).strip with
    | some d, some cs => (st.ev x).cond ∧ K ⟨(d, .p d 0) :: killE d st.env, (d, .box t (.avs (AV.killL d cs))) :: killH d st.heap⟩
    | _, _ => False
  | .alloc t =>
    match o.dst, T t with
    | some d, some ti => K ⟨(d, .p d 0) :: killE d st.env, (d, .box t (match ti.k, ti.z with | .arr _ _, _ => .vals ti.z.cells.toList | _, _ => .avs (ti.z.cells.toList.map .v))) :: killH d st.heap⟩
    | _, _ => False
  | .makeSlice t l c =>
    match o.dst, T t, (st.ev l).strip, (st.ev c).strip with
    | some d, some ⟨.sl e, _, _, _⟩, .v (.int _ nl), .v (.int _ nc) =>
      match T e with
      | some te => ((st.ev l).cond ∧ (st.ev c).cond ∧ 0 ≤ nl ∧ nl ≤ nc ∧ (te.by_ : Int) * nc ≤ 281474976710656 ∧ nc ≤ 9223372036854775807 ∧ te.z.cells.size = te.sz ∧ te.sz = 1 ∧ (match te.k, te.z with | .int k, .int k2 _ => k2 = k | _, _ => True)) ∧
          K ⟨(d, .s d) :: killE d st.env, (d, .row e te.sz (match te.k, te.z with | .int k, .int _ z => .ints k (List.replicate nl.toNat z) | _, _ => .vals (List.replicate nl.toNat (te.z.cells.getD 0 undef)))) :: killH d st.heap⟩
      | none => False
    | _, _, _, _ => False
  | .call c =>
    match c.callee, c.args.toList, c.argTypes.toList with
    | .builtin .append, [x, y], [t, t'] =>
      match o.dst, T t with
      | some d, some ⟨.sl e, _, _, _⟩ =>
        match T e, baseOf st.heap (st.ev x).strip with
        | some te, some bs =>
          match srcOf st.heap te.sz (st.ev y).strip with
          | some (ψ, m, src) =>
            match te.k, (match bs with | none => Cont.ints .i64 [] | some (_, _, _, c) => c) with
            | .int k, .ints k' l =>
              ∃ ys : List Int, ((st.ev x).cond ∧ (st.ev y).cond ∧ ψ ∧ t' = t ∧ te.sz = 1 ∧ te.z.cells.size = 1 ∧ (match bs with | none => True | some (_, e', sz, _) => e' = e ∧ sz = 1 ∧ k' = k) ∧ ys.length = m ∧ (∀ j, j < m → src j 0 = .v (.int k (ys.getD j 0))) ∧ (l.length + m) * te.by_ ≤ 140737488355328 ∧ l.length + m ≤ 9223372036854775807) ∧
                K ⟨(d, .s d) :: killE d st.env, (d, .row e 1 (.ints k (l ++ ys))) :: killH d (lessH st.heap bs)⟩
            | _, c0 =>
              match (match bs with | none => Cont.avs [] | some _ => c0) with
              | .avs l => ∃ ys : List AV, ((st.ev x).cond ∧ (st.ev y).cond ∧ ψ ∧ t' = t ∧ 0 < te.sz ∧ te.z.cells.size = te.sz ∧ (match bs with | none => True | some (_, e', sz, _) => e' = e ∧ sz = te.sz) ∧ ys.length = m * te.sz ∧ (∀ el j, el < m → j < te.sz → src el j = ys.getD (el * te.sz + j) .top) ∧ oneL ys = true ∧ (l.length / te.sz + m) * te.by_ ≤ 140737488355328 ∧ l.length / te.sz + m ≤ 9223372036854775807) ∧
                K ⟨(d, .s d) :: killE d st.env, (d, .row e te.sz (.avs (l ++ ys))) :: killH d (lessH st.heap bs)⟩
              | _ => False
          | none => False
        | _, _ => False
      | _, _ => False
    | _, _, _ => False
  | _ => False

section
variable {P : Program} {T : Tab} (hT : T.ok P) {n B : Nat} {w0 : Orig} {st : St} {a : Act} {w : World} {ρ : Nat → Option Value} {I : Nat → Prop}

def StepOk (P : Program) (n B : Nat) (w0 : Orig) (o : Oper) (a : Act) (w : World) (K : St → Prop) : Prop :=
  ∀ (next : Act → World → Prop) (Q : Exit → Act → World → Prop), (∀ st' a' w', K st' → G n B w0 st' a' w' → next a' w') → o.wp P a w next Q

theorem below_setRow {B : Nat} {a w : World} (h : Below B a w) {g : Nat} (hg : B ≤ g) (cs : Array Value) : Below B a (w.setRow g cs) :=
  h.trans ⟨rfl, rfl, rfl, by simp [World.setRow], fun k hk => by
    simp only [World.setRow, Array.getElem?_modify]; rw [if_neg (by omega)]⟩
theorem ZB5 (w : World) (g : Nat) (cs cur : Array Value) (t : TypeId) (h : w.heap[g]? = some (.cells cur t (0, 0))) : (w.setRow g cs).heap[g]? = some (.cells cs t (0, 0)) := by
  simp [World.setRow, Array.getElem?_modify, h]
theorem ZA5 (w : World) (g k : Nat) (cs : Array Value) (h : g ≠ k) : (w.setRow g cs).heap[k]? = w.heap[k]? := by
  simp only [World.setRow, Array.getElem?_modify]; rw [if_neg h]

theorem ZEz (u : Value) : u.oneCell' = oneC u := by cases u <;> rfl

theorem ConcL.oneCells {cs : List AV} {us : List Value} (h : ConcL B I w ρ cs us) (h1 : oneL cs = true) : ∀ u ∈ us, u.oneCell' = true := by
  intro u hu
  obtain ⟨j, hj, rfl⟩ := List.getElem_of_mem hu
  have hj' : j < cs.length := by rw [← h.1]; exact hj
  have := (h.2 j hj').one (ZCz h1 j hj')
  rw [ZEz]
  simpa [List.getD_eq_getElem?_getD, hj] using this

theorem ZGB (cur : Array Value) (off : Nat) (vs : List Value) (hl : off + vs.length ≤ cur.size) (j : Nat) (hj : j < cur.size) :
    ((cur.toList.take off ++ vs ++ cur.toList.drop (off + vs.length)).toArray)[j]? = some (if off ≤ j ∧ j < off + vs.length then vs.getD (j - off) undef else cur.getD j undef) := by
  rw [List.getElem?_toArray]
  have ht : (cur.toList.take off).length = off := by simp; omega
  by_cases h1 : j < off
  · rw [if_neg (by omega), List.append_assoc, List.getElem?_append_left (by omega)]
    simp [h1, hj, Array.getD_eq_getD_getElem?]
  · by_cases h2 : j < off + vs.length
    · rw [if_pos ⟨by omega, h2⟩, List.append_assoc, List.getElem?_append_right (by omega), ht, List.getElem?_append_left (by omega)]
      simp [List.getD_eq_getElem?_getD, show j - off < vs.length by omega]
    · rw [if_neg (by omega), List.getElem?_append_right (by simp; omega)]
      simp only [List.length_append, ht, List.getElem?_drop]
      rw [show off + vs.length + (j - (off + vs.length)) = j from by omega]
      simp [hj, Array.getD_eq_getD_getElem?]

include hT in
theorem ZI7 (hG : Gam n B w0 st a w ρ I) {o : Oper} {t : TypeId} {x y : Operand} (ho : o.op = .store t x y) {K : St → Prop} (h : al T st o K) : StepOk P n B w0 o a w K := by
  intro next Q hn
  unfold al at h
  simp only [ho] at h
  split at h
  · rename_i id off cs ti hst hcs hti
    have run : ∀ {b : Nat} {cur : Array Value} {tb : TypeId}, (st.ev x).cond → (st.ev y).cond → cs.length = ti.sz → off + cs.length ≤ cur.size → oneL cs = true → w.heap[b]? = some (.cells cur tb (0, 0)) → a.eval x = .pointer (some ⟨b, off, none⟩) →
        ConcL B I w ρ cs (a.eval y).cells.toList ∧ (execOp a.eval o).run P w = .ok .skip (w.setRow b (cur.toList.take off ++ (a.eval y).cells.toList ++ cur.toList.drop (off + (a.eval y).cells.toList.length)).toArray) := by
      intro b cur tb c1 c2 hl hle h1 hh hx
      have hv := ZEx ((hG.ev y).strip c2) hcs
      refine ⟨hv, ?_⟩
      have hst := run_storeCells_at (P := P) b off tb (a.eval y).cells.toList 0 cur w hh (by rw [hv.1]; omega) (hv.oneCells h1)
      have hsz : (a.eval y).cells.size = ti.sz := by rw [← Array.length_toList, hv.1, hl]
      simp only [Nat.add_zero] at hst
      simp [execOp, ho, Instr.storeAt, hx, Instr.sureAddr, storeVar, (hT _ _ hti).size w, hsz]
      rw [hst]
      simp [hsz]
    have hnew : ∀ {b : Nat} {cur : Array Value} (c c' : Cont) (ρ1 : Nat → Option Value), c.updL off cs = some c' → off + cs.length ≤ c.len → c.len ≤ cur.size → ConcL B I w ρ1 cs (a.eval y).cells.toList → (∀ b', I b' → b' ≠ b) →
        (∀ j u, j < c.len → cur[j]? = some u → Conc B I w ρ1 (c.at j) u) →
        ∀ j u, j < c.len → ((cur.toList.take off ++ (a.eval y).cells.toList ++ cur.toList.drop (off + (a.eval y).cells.toList.length)).toArray)[j]? = some u → Conc B I (w.setRow b (cur.toList.take off ++ (a.eval y).cells.toList ++ cur.toList.drop (off + (a.eval y).cells.toList.length)).toArray) ρ1 (c'.at j) u := by
      intro b cur c c' ρ1 hup hle hcl hv hI hold j u hj hu
      obtain ⟨_, s2, s3⟩ := Cont.updL_spec hup hle
      rw [ZGB cur off _ (by rw [hv.1]; omega) j (by omega)] at hu
      injection hu with hu
      refine Conc.same (w := w) ?_ (fun b' hb' => ZA5 w b b' _ (Ne.symm (hI b' hb')))
      subst hu
      split
      · rename_i hin
        rw [hv.1] at hin
        have := hv.2 (j - off) (by omega)
        rw [← s2 (j - off) (by omega), show off + (j - off) = j from by omega] at this
        exact this
      · rename_i hout
        rw [hv.1] at hout
        rw [s3 j hj (by omega)]
        exact hold j _ hj (by simp [Array.getD_eq_getD_getElem?, show j < cur.size by omega])
    split at h
    · rename_i tb c hk
      split at h
      · rename_i c' hup
        obtain ⟨⟨c1, c2, hl, hle, h1, hd⟩, hK⟩ := h
        have hc := (hG.ev x).strip c1
        rw [hst] at hc
        generalize hxv : a.eval x = xv at hc
        cases hc with
        | p _ _ b xx hr hb =>
          obtain ⟨y', hy', hok⟩ := hG.hw.ok id _ hk
          rw [hr] at hy'; injection hy' with hy'; subst hy'
          have hok0 := hok
          obtain ⟨b', us, rfl, hB, hh, hsz, hcc⟩ := hok
          simp [rootBlk] at hb; subst hb
          obtain ⟨hv, hrun⟩ := run c1 c2 hl (by omega) h1 hh hxv
          unfold Oper.wp
          rw [hrun, Oper.upon_skip, hd]
          obtain ⟨s1, _, _⟩ := Cont.updL_spec hup hle
          have hI : ∀ b1, I b1 → b1 ≠ b' := fun b1 h1 e => by subst e; exact hG.hw.imm id _ _ _ hk hr rfl h1
          refine hn _ _ _ hK ⟨ρ, I, hG.store hk hr ?_ (below_setRow (Below.refl _ _) hB _) (fun b1 hb1 => ZA5 w _ _ _ (fun e => hb1 (by rw [e]; rfl)))⟩
          refine ⟨b', _, rfl, hB, ZB5 w b' _ us tb hh, by simp; rw [s1, ← hsz]; have := hv.1; simp at this; omega, fun j u hu => ?_⟩
          have hj : j < c.len := by
            have := (Array.getElem?_eq_some_iff.1 hu).1
            simp at this; have h3 := hv.1; simp at h3; omega
          exact hnew c c' ρ hup hle (by omega) hv hI (fun j u hj hu => hcc j u hu) j u hj hu
      · exact h.elim
    · rename_i e sz c hk
      split at h
      · rename_i c' hup
        obtain ⟨⟨c1, c2, hl, hle, h1, hnor, hd⟩, hK⟩ := h
        have hc := (hG.ev x).strip c1
        rw [hst] at hc
        generalize hxv : a.eval x = xv at hc
        cases hc with
        | p _ _ b xx hr hb =>
          obtain ⟨y', hy', hok⟩ := hG.hw.ok id _ hk
          rw [hr] at hy'; injection hy' with hy'; subst hy'
          have hok0 := hok
          obtain ⟨m, xs, ho', hlen, hcc⟩ := hok
          rcases ho'.2 with ⟨rfl, _⟩ | ⟨g, cap, cur, rfl, hB, hh, hmc, hmax, hcs2, htake⟩
          · simp [rootBlk] at hb
          simp [rootBlk] at hb; subst hb
          have hcap : m * sz ≤ cap * sz := Nat.mul_le_mul_right _ hmc
          obtain ⟨hv, hrun⟩ := run c1 c2 hl (by omega) h1 hh hxv
          unfold Oper.wp
          rw [hrun, Oper.upon_skip, hd]
          obtain ⟨s1, _, _⟩ := Cont.updL_spec hup hle
          have hI : ∀ b1, I b1 → b1 ≠ g := fun b1 h1 e => by subst e; exact hG.hw.imm id _ _ _ hk hr rfl h1
          refine hn _ _ _ hK ⟨ρ, I, hG.store hk hr ?_ (below_setRow (Below.refl _ _) hB _) (fun b1 hb1 => ZA5 w _ _ _ (fun e => hb1 (by rw [e]; rfl)))⟩
          have hvl := hv.1
          simp at hvl
          have hsize : (cur.toList.take off ++ (a.eval y).cells.toList ++ cur.toList.drop (off + (a.eval y).cells.toList.length)).toArray.size = cap * sz := by simp; omega
          refine ⟨m, _, ⟨?_, .inr ⟨g, cap, _, rfl, hB, ZB5 w g _ cur e hh, hmc, hmax, hsize, rfl⟩⟩, by rw [s1]; exact hlen, fun j u hu => ?_⟩
          · rw [List.length_take, Array.length_toList, hsize]; omega
          · have hj : j < m * sz := by
              have := (List.getElem?_eq_some_iff.1 hu).1
              rw [List.length_take] at this; omega
            rw [List.getElem?_take_of_lt hj] at hu
            refine hnew c c' noId hup hle (by omega) (hv.nor hnor) hI (fun j u hj hu => hcc j u ?_) j u (by omega) (by simpa using hu)
            rw [← htake, List.getElem?_take_of_lt (by omega)]
            simpa using hu
      · exact h.elim
    · rename_i e c hk
      split at h
      · rename_i c' hup
        obtain ⟨⟨c1, c2, hl, hle, h1, hd⟩, hK⟩ := h
        have hc := (hG.ev x).strip c1
        rw [hst] at hc
        generalize hxv : a.eval x = xv at hc
        cases hc with
        | p _ _ b xx hr hb =>
          obtain ⟨y', hy', hok⟩ := hG.hw.ok id _ hk
          rw [hr] at hy'; injection hy' with hy'; subst hy'
          have hok0 := hok
          obtain ⟨m, xs, ho', hlen, hcc⟩ := hok
          rcases ho'.2 with ⟨rfl, _⟩ | ⟨g, cap, cur, rfl, hB, hh, hmc, hmax, hcs2, htake⟩
          · simp [rootBlk] at hb
          simp [rootBlk] at hb; subst hb
          have hcap : m * 1 ≤ cap * 1 := Nat.mul_le_mul_right _ hmc
          obtain ⟨hv, hrun⟩ := run c1 c2 hl (by omega) h1 hh hxv
          unfold Oper.wp
          rw [hrun, Oper.upon_skip, hd]
          obtain ⟨s1, _, _⟩ := Cont.updL_spec hup hle
          have hI : ∀ b1, I b1 → b1 ≠ g := fun b1 h1 e => by subst e; exact hG.hw.imm id _ _ _ hk hr rfl h1
          refine hn _ _ _ hK ⟨ρ, I, hG.store hk hr ?_ (below_setRow (Below.refl _ _) hB _) (fun b1 hb1 => ZA5 w _ _ _ (fun e => hb1 (by rw [e]; rfl)))⟩
          have hvl := hv.1
          simp at hvl
          have hsize : (cur.toList.take off ++ (a.eval y).cells.toList ++ cur.toList.drop (off + (a.eval y).cells.toList.length)).toArray.size = cap * 1 := by simp; omega
          refine ⟨m, _, ⟨?_, .inr ⟨g, cap, _, rfl, hB, ZB5 w g _ cur e hh, hmc, hmax, hsize, rfl⟩⟩, by rw [s1]; exact hlen, fun j u hu => ?_⟩
          · rw [List.length_take, Array.length_toList, hsize]; omega
          · have hj : j < m * 1 := by
              have := (List.getElem?_eq_some_iff.1 hu).1
              rw [List.length_take] at this; omega
            rw [List.getElem?_take_of_lt hj] at hu
            refine hnew c c' ρ hup hle (by omega) hv hI (fun j u hj hu => hcc j u ?_) j u (by omega) (by simpa using hu)
            rw [← htake, List.getElem?_take_of_lt (by omega)]
            simpa using hu
      · exact h.elim
    · exact h.elim
    · exact h.elim
    · exact h.elim
  · exact h.elim
end
end Go.Eng
namespace Go.Eng
open Go.RowKit

section
variable {P : Program} {T : Tab} (hT : T.ok P) {n B : Nat} {w0 : Orig} {st : St} {a : Act} {w : World} {ρ : Nat → Option Value} {I : Nat → Prop}

theorem ConcL.killed {cs : List AV} {us : List Value} (h : ConcL B I w ρ cs us) (d : Nat) (ρ' : Nat → Option Value) (hρ : ∀ id, id ≠ d → ρ' id = ρ id) : ConcL B I w ρ' (AV.killL d cs) us :=
  ⟨by rw [ZAa]; exact h.1, fun j hj => by rw [ZAa] at hj; rw [ZBL]; exact (h.2 j hj).kill d ρ' hρ⟩

theorem ZHb (hG : Gam n B w0 st a w ρ I) (d : Nat) (hd : d < n) (t : TypeId) (us : Array Value) (c : Cont) (hl : us.size = c.len)
    (hc : ∀ j u, us[j]? = some u → Conc B I w (updρ ρ d (.pointer (some ⟨w.heap.size, 0, none⟩))) (c.at j) u) :
    G n B w0 ⟨(d, .p d 0) :: killE d st.env, (d, .box t c) :: killH d st.heap⟩ (a.put (some d) (.pointer (some ⟨w.heap.size, 0, none⟩))) (w.alloc (.cells us t)) := by
  have hb : Below w.heap.size w (w.alloc (.cells us t)) := (Below.refl _ _).alloc (Nat.le_refl _) _
  have h1 := hG.new hb d (.pointer (some ⟨w.heap.size, 0, none⟩)) (.box t c)
    ⟨w.heap.size, us, rfl, hG.base, heap_alloc_new w _, hl, fun j u hu => (hc j u hu).same (fun b hI => hb.block b (hG.hw.lt b hI))⟩ (fun b hr => by simp [rootBlk] at hr; omega) (hG.old.ghn d hd)
  exact ⟨_, I, h1.put (d := some d) (fun k hk => by injection hk with hk; omega) (.p d 0 w.heap.size _ (ZAo _ _ _) rfl)⟩

theorem box_ok (hG : Gam n B w0 st a w ρ I) {o : Oper} {t : TypeId} {x : Operand} (ho : o.op = .box t x) (hd : ∀ d, o.dst = some d → d < n) {K : St → Prop} (h : al T st o K) : StepOk P n B w0 o a w K := by
  intro next Q hn
  unfold al at h
  simp only [ho] at h
  split at h
  · rename_i d cs hdst hcs
    obtain ⟨c1, hK⟩ := h
    have hv := ZEx ((hG.ev x).strip c1) hcs
    unfold Oper.wp
    have hrun : (execOp a.eval o).run P w = .ok (.value (.pointer (some ⟨w.heap.size, 0, none⟩))) (w.alloc (.cells (a.eval x).cells t)) := by
      simp [execOp, ho, Instr.box, newVar, newRow]
    rw [hrun, Oper.upon_value, hdst]
    refine hn _ _ _ hK (ZHb hG d (hd d hdst) t _ _ (by simp [Cont.len, ZAa, ← hv.1]) fun j u hu => ?_)
    have hk := hv.killed d (updρ ρ d (.pointer (some ⟨w.heap.size, 0, none⟩))) (fun id hid => ZBB _ _ _ hid)
    have hj : j < (a.eval x).cells.size := (Array.getElem?_eq_some_iff.1 hu).1
    have := hk.2 j (by rw [ZAa, ← hv.1, Array.length_toList]; exact hj)
    have e : (a.eval x).cells.toList.getD j undef = u := by simp [List.getD_eq_getElem?_getD, hu]
    rw [e] at this
    exact this
  · exact h.elim

include hT in
theorem ZI8 (hG : Gam n B w0 st a w ρ I) {o : Oper} {t : TypeId} (ho : o.op = .alloc t) (hd : ∀ d, o.dst = some d → d < n) {K : St → Prop} (h : al T st o K) : StepOk P n B w0 o a w K := by
  intro next Q hn
  unfold al at h
  simp only [ho] at h
  split at h
  · rename_i d ti hdst hti
    obtain ⟨inf, hi1, _, _, hz⟩ := (hT _ _ hti).info
    unfold Oper.wp
    have hrun : (execOp a.eval o).run P w = .ok (.value (.pointer (some ⟨w.heap.size, 0, none⟩))) (w.alloc (.cells ti.z.cells t)) := by
      simp [execOp, ho, Instr.alloc, zeroValue, typeInfo, hi1, hz, newVar, newRow]
    rw [hrun, Oper.upon_value, hdst]
    refine hn _ _ _ h (ZHb hG d (hd d hdst) t _ _ ?_ fun j u hu => ?_)
    · split <;> simp [Cont.len]
    · have hj : j < ti.z.cells.size := (Array.getElem?_eq_some_iff.1 hu).1
      have he := (Array.getElem?_eq_some_iff.1 hu).2
      split
      · simp only [Cont.at]
        have e : ti.z.cells.toList.getD j undef = u := by simp [List.getD_eq_getElem?_getD, hu]
        rw [e]; exact .v _
      · simp only [Cont.at]
        have e : (ti.z.cells.toList.map AV.v).getD j .top = .v u := by simp [List.getD_eq_getElem?_getD, hu]
        rw [e]; exact .v _
  · exact h.elim

theorem ZDJ (hG : Gam n B w0 st a w ρ I) (d : Nat) (hd : d < n) {w1 : World} (hb : Below w.heap.size w w1) {x : Value} {e : TypeId} {sz m : Nat} {xs : List Value} (ho : w1.ownsRow B e sz x m xs) (hroot : ∀ b, rootBlk x = some b → w.heap.size ≤ b) (c : Cont) (hl : c.len = m * sz)
    (hc : ∀ j u, xs[j]? = some u → Conc B I w noId (c.at j) u) :
    G n B w0 ⟨(d, .s d) :: killE d st.env, (d, .row e sz c) :: killH d st.heap⟩ (a.put (some d) x) w1 := by
  have h1 := hG.new hb d x (.row e sz c) ⟨m, xs, ho, hl, fun j u hu => (hc j u hu).same (fun b hI => hb.block b (hG.hw.lt b hI))⟩ hroot (hG.old.ghn d hd)
  have hone : oneC x = true := by rcases ho.2 with ⟨rfl, _⟩ | ⟨g, cap, cur, rfl, _⟩ <;> rfl
  exact ⟨_, I, h1.put (d := some d) (fun k hk => by injection hk with hk; omega) (.s d x (ZAo _ _ _) hone)⟩

include hT in
theorem ZJq (hG : Gam n B w0 st a w ρ I) {o : Oper} {t : TypeId} {l c : Operand} (ho : o.op = .makeSlice t l c) (hd : ∀ d, o.dst = some d → d < n) {K : St → Prop} (h : al T st o K) : StepOk P n B w0 o a w K := by
  intro next Q hn
  unfold al at h
  simp only [ho] at h
  split at h
  · rename_i d e _ _ _ k1 nl k2 nc hdst ht hl hc
    have hu : P.underlying t = some (.slice e) := (hT _ _ ht).kind
    split at h
    · rename_i te hte
      obtain ⟨inf, hi1, hi2, hi3, hz⟩ := (hT _ _ hte).info
      obtain ⟨⟨c1, c2, h0, h1, hby, h63, hzs, hsz, hkk⟩, hK⟩ := h
      have e1 := (hG.ev l).strip c1
      have e2 := (hG.ev c).strip c2
      rw [hl] at e1; rw [hc] at e2
      have e1 := e1.v_inv
      have e2 := e2.v_inv
      have hr := run_make (P := P) w t e inf te.z hu hi1 hz k1 k2 nl nc h0 h1 (by rw [hi3]; exact hby) h63
      unfold Oper.wp
      have hrun : (execOp a.eval o).run P w = .ok (.value (.slice (some ⟨w.heap.size, 0, none⟩) nl.toNat nc.toNat)) (w.alloc (.cells (madeCells te.z.cells (nc.toNat * inf.size)) e)) := by
        simp only [execOp, ho, e1, e2, Sem.run_bind, hr, Result.andThen_ok, Sem.run_pure]
      rw [hrun, Oper.upon_value, hdst]
      have hb : Below w.heap.size w (w.alloc (.cells (madeCells te.z.cells (nc.toNat * inf.size)) e)) := (Below.refl _ _).alloc (Nat.le_refl _) _
      have hz1 : te.z.cells.size = 1 := by rw [hzs, hsz]
      have hcell : ∀ j, j < nc.toNat → (madeCells te.z.cells (nc.toNat * inf.size))[j]? = some (te.z.cells.getD 0 undef) := fun j hj => by
        have hj2 : j < nc.toNat * inf.size := by rw [hi2, hsz]; omega
        unfold madeCells
        rw [Array.getElem?_map, Array.getElem?_range, if_pos hj2]
        simp [hz1, Array.getD_eq_getD_getElem?, Nat.mod_one]
      have hown : (w.alloc (.cells (madeCells te.z.cells (nc.toNat * inf.size)) e)).ownsRow B e te.sz (.slice (some ⟨w.heap.size, 0, none⟩) nl.toNat nc.toNat) nl.toNat ((madeCells te.z.cells (nc.toNat * inf.size)).toList.take (nl.toNat * te.sz)) := by
        refine ⟨?_, .inr ⟨w.heap.size, nc.toNat, _, rfl, hG.base, heap_alloc_new w _, by omega, by simp only [maxLen]; omega, by rw [size_madeCells, hi2], rfl⟩⟩
        rw [List.length_take, Array.length_toList, size_madeCells, hi2, hsz]; omega
      refine hn _ _ _ hK (ZDJ hG d (hd d hdst) hb hown (fun b hr => by simp [rootBlk] at hr; omega) _ ?_ fun j u hu => ?_)
      · split <;> simp [Cont.len, hsz]
      · have hj : j < nl.toNat := by
          have := (List.getElem?_eq_some_iff.1 hu).1
          rw [List.length_take, hsz] at this; omega
        rw [List.getElem?_take_of_lt (by rw [hsz]; omega), Array.getElem?_toList, hcell j (by omega)] at hu
        injection hu with hu
        subst hu
        split
        · rename_i k kz z hk hzv
          rw [hk, hzv] at hkk
          simp only at hkk
          subst hkk
          simp only [Cont.at, hzv, Value.cells]
          have : (List.replicate nl.toNat z).getD j 0 = z := by simp [List.getD_eq_getElem?_getD, hj]
          rw [this]; exact .v _
        · simp only [Cont.at]
          have : (List.replicate nl.toNat (te.z.cells.getD 0 undef)).getD j undef = te.z.cells.getD 0 undef := by simp [List.getD_eq_getElem?_getD, hj]
          rw [this]; exact .v _
    · exact h.elim
  · exact h.elim

theorem ZBz (base : Nat) (t ty e : TypeId) (i : TypeInfo) (size : Nat) (ht : P.underlying t = some (.slice e)) (hi : P.info? e = some i)
    (v : Value) (n : Nat) (xs : List Value) (hown : w.ownsRow base e size v n xs) (c : Nat) : (Builtin.append_ #[t, t] ty #[v, .slice none 0 c]).run P w = .ok v w := by
  rcases hown.2 with ⟨rfl, rfl⟩ | ⟨g, cap, cur, rfl, _, _, hnc, _⟩
  · simp [Builtin.append_, run_underlying ht, sizeOf, typeInfo, hi, Builtin.lenOf, Builtin.firstCells]
  · simp [Builtin.append_, run_underlying ht, sizeOf, typeInfo, hi, Builtin.lenOf, Builtin.firstCells, hnc, storeCells]

theorem ZI9 (hG : Gam n B w0 st a w ρ I) {sz : Nat} {x : AV} {u : Value} {ψ : Prop} {m : Nat} {src : Nat → Nat → AV} (h : srcOf st.heap sz x = some (ψ, m, src)) (hψ : ψ) (hx : Conc B I w ρ x u) :
    ∃ (A : Option Addr) (cap : Nat) (news : List Value), u = .slice A m cap ∧ news.length = m * sz ∧ (0 < m → ∃ ad, A = some ad ∧ ∀ j v, news[j]? = some v → w.cell? (ad.add j) = some v) ∧ ∀ el j, el < m → j < sz → Conc B I w noId (src el j) (news.getD (el * sz + j) undef) := by
  unfold srcOf at h
  split at h
  · rename_i fr c sz' off len
    simp only [Option.some.injEq, Prod.mk.injEq] at h
    obtain ⟨rfl, rfl, rfl⟩ := h
    subst hψ
    cases hx with
    | i _ _ _ _ _ cap A uu hcap hA hcc =>
      have hdiv : ∀ j, j < len * sz' → j / sz' < len ∧ j % sz' < sz' ∧ j / sz' * sz' + j % sz' = j := fun j hj => by
        have hpos : 0 < sz' := by
          rcases Nat.eq_zero_or_pos sz' with h0 | h0
          · rw [h0] at hj; simp at hj
          · exact h0
        exact ⟨Nat.div_lt_of_lt_mul (by rw [Nat.mul_comm]; exact hj), Nat.mod_lt _ hpos, by rw [Nat.mul_comm]; exact Nat.div_add_mod j sz'⟩
      refine ⟨A, cap, (List.range (len * sz')).map (fun j => uu (j / sz') (j % sz')), rfl, by simp, fun hp => ?_, fun el j he hj => ?_⟩
      · obtain ⟨ad, rfl, _, _, h4⟩ := hA hp
        refine ⟨ad, rfl, fun j v hv => ?_⟩
        have hj : j < len * sz' := by
          have := (List.getElem?_eq_some_iff.1 hv).1
          simpa using this
        simp [hj] at hv
        subst hv
        obtain ⟨h5, h6, h7⟩ := hdiv j hj
        have := h4 _ _ h5 h6
        rwa [h7] at this
      · have hlt := ZA9 he hj
        have hd1 : (el * sz' + j) / sz' = el := by
          rw [Nat.mul_comm, Nat.mul_add_div (by omega), Nat.div_eq_of_lt hj, Nat.add_zero]
        have hd2 : (el * sz' + j) % sz' = j := by
          rw [Nat.mul_comm, Nat.mul_add_mod, Nat.mod_eq_of_lt hj]
        have : ((List.range (len * sz')).map (fun j => uu (j / sz') (j % sz'))).getD (el * sz' + j) undef = uu el j := by
          simp [List.getD_eq_getElem?_getD, hlt, hd1, hd2]
        rw [this]
        exact hcc el j he hj
  · rename_i id
    split at h
    · rename_i e sz' c hk
      simp only [Option.some.injEq, Prod.mk.injEq] at h
      obtain ⟨rfl, rfl, rfl⟩ := h
      obtain ⟨rfl, hpos⟩ := hψ
      cases hx with
      | s _ _ hr _ =>
        obtain ⟨x', hr', hok⟩ := hG.hw.ok _ _ hk
        rw [hr] at hr'; injection hr' with hr'; subst hr'
        obtain ⟨m, xs, ho, hl, hc⟩ := hok
        have hm : c.len / sz' = m := by rw [hl]; exact Nat.mul_div_cancel _ hpos
        rw [hm]
        have hcontent : ∀ el j, el < m → j < sz' → Conc B I w noId (c.at (el * sz' + j)) (xs.getD (el * sz' + j) undef) := fun el j he hj => by
          have hlt : el * sz' + j < xs.length := by rw [ho.1]; exact ZA9 he hj
          have := hc (el * sz' + j) xs[el * sz' + j] (by simp [hlt])
          simpa [List.getD_eq_getElem?_getD, hlt] using this
        rcases ho.2 with ⟨rfl, rfl⟩ | ⟨g, cap, cur, rfl, hrest⟩
        · exact ⟨none, 0, xs, rfl, ho.1, fun hp => by omega, hcontent⟩
        · exact ⟨some ⟨g, 0, none⟩, cap, xs, rfl, ho.1, fun _ => ⟨_, rfl, fun j v hv => ho.cells rfl j v hv⟩, hcontent⟩
    · cases h
  · rename_i id off len
    split at h
    · rename_i e sz' c hk
      simp only [Option.some.injEq, Prod.mk.injEq] at h
      obtain ⟨rfl, rfl, rfl⟩ := h
      obtain ⟨rfl, hle⟩ := hψ
      cases hx with
      | w _ _ _ cap A xx hr hcap hA =>
        obtain ⟨x', hr', hok⟩ := hG.hw.ok _ _ hk
        rw [hr] at hr'; injection hr' with hr'; subst hr'
        obtain ⟨m, xs, ho, hl, hc⟩ := hok
        have hxl : xs.length = c.len := by rw [ho.1, hl]
        refine ⟨A, cap, (xs.drop off).take (len * sz'), rfl, by simp; omega, fun hp => ?_, fun el j he hj => ?_⟩
        · obtain ⟨b, hb, rfl⟩ := hA hp
          rw [ZAi ho] at hb
          refine ⟨_, rfl, fun j v hv => ?_⟩
          have hj : j < len * sz' := by
            have := (List.getElem?_eq_some_iff.1 hv).1
            simp at this; omega
          rw [List.getElem?_take_of_lt hj, List.getElem?_drop] at hv
          have := ho.cells hb _ _ hv
          rw [ZAf, Nat.zero_add] at this
          rw [ZAf]; exact this
        · have hlt := ZA9 he hj
          have hlt2 : off + (el * sz' + j) < xs.length := by omega
          have : ((xs.drop off).take (len * sz')).getD (el * sz' + j) undef = xs[off + (el * sz' + j)] := by
            simp [List.getD_eq_getElem?_getD, hlt, hlt2]
          rw [this]
          show Conc B I w noId (c.at (off + el * sz' + j)) _
          rw [Nat.add_assoc]
          exact hc _ _ (by simp [hlt2])
    · cases h
  · simp only [Option.some.injEq, Prod.mk.injEq] at h
    obtain ⟨rfl, rfl, rfl⟩ := h
    obtain rfl := hx.v_inv
    exact ⟨_, _, [], rfl, by simp, fun hp => by omega, fun el j he => by omega⟩
  · cases h

include hT in
theorem ZDq (hG : Gam n B w0 st a w ρ I) {o : Oper} {x y : Operand} {t e : TypeId} {te : TI} {d : Nat} (ho : o.op = .call ⟨.builtin .append, #[x, y], #[t, t]⟩) (hdst : o.dst = some d) (hd : d < n) {s1 : Nat} {b1 : Nat} {z1 : Value} (ht : T t = some ⟨.sl e, s1, b1, z1⟩) (hte : T e = some te)
    {bs : Option (Nat × TypeId × Nat × Cont)} (hbs : baseOf st.heap (st.ev x).strip = some bs) {ψ : Prop} {m : Nat} {src : Nat → Nat → AV} (hsrc : srcOf st.heap te.sz (st.ev y).strip = some (ψ, m, src)) (hψ : ψ) (cx : (st.ev x).cond) (cy : (st.ev y).cond)
    (hpos : 0 < te.sz) (hz : te.z.cells.size = te.sz) (c0 c1 : Cont) (hbase : ∀ id e' sz' c', bs = some (id, e', sz', c') → e' = e ∧ sz' = te.sz ∧ c' = c0) (hnone : bs = none → c0.len = 0)
    (hlen : c1.len = c0.len + m * te.sz) (h1 : ∀ j, j < c0.len → c1.at j = c0.at j) (h2 : ∀ el j, el < m → j < te.sz → c1.at (c0.len + (el * te.sz + j)) = src el j ∧ (src el j).one = true)
    (hby : (c0.len / te.sz + m) * te.by_ ≤ 140737488355328) (hmax : c0.len / te.sz + m ≤ 9223372036854775807)
    (next : Act → World → Prop) (Q : Exit → Act → World → Prop)
    (hn : ∀ a' w', G n B w0 ⟨(d, .s d) :: killE d st.env, (d, .row e te.sz c1) :: killH d (lessH st.heap bs)⟩ a' w' → next a' w') : o.wp P a w next Q := by
  have hu : P.underlying t = some (.slice e) := (hT _ _ ht).kind
  obtain ⟨inf, hi1, hi2, hi3, hzv⟩ := (hT _ _ hte).info
  obtain ⟨A, cap, news, huv, hnl, hcells, hcont⟩ := ZI9 hG hsrc hψ ((hG.ev y).strip cy)
  -- the row that is appended to
  have hrow : ∃ v0 k xs, a.eval x = v0 ∧ w.ownsRow B e te.sz v0 k xs ∧ c0.len = k * te.sz ∧ (∀ j u, xs[j]? = some u → Conc B I w noId (c0.at j) u) ∧
      (∀ id e' sz' c', bs = some (id, e', sz', c') → lkH st.heap id = some (.row e te.sz c0) ∧ ρ id = some v0) ∧ (bs = none → v0 = .slice none 0 0) := by
    have hx := (hG.ev x).strip cx
    unfold baseOf at hbs
    split at hbs
    · rename_i hst
      injection hbs with hbs; subst hbs
      rw [hst] at hx
      have hl0 := hnone rfl
      exact ⟨.slice none 0 0, 0, [], hx.v_inv, World.ownsRow_nil w B e te.sz, by omega, fun j u hu => by simp at hu, (fun _ _ _ _ h => by cases h), fun _ => rfl⟩
    · rename_i id hst
      split at hbs
      · rename_i e' sz' c' hk
        injection hbs with hbs; subst hbs
        obtain ⟨rfl, rfl, rfl⟩ := hbase _ _ _ _ rfl
        rw [hst] at hx
        generalize hxv : a.eval x = xv at hx
        cases hx with
        | s _ _ hr _ =>
          obtain ⟨x', hr', hok⟩ := hG.hw.ok _ _ hk
          rw [hr] at hr'; injection hr' with hr'; subst hr'
          obtain ⟨k, xs, ho', hl, hc⟩ := hok
          exact ⟨xv, k, xs, rfl, ho', hl, hc, fun id2 e2 s2 c2 h => by injection h with h; injection h with h3 h4; subst h3; exact ⟨hk, hr⟩, fun h => by cases h⟩
      · cases hbs
    · cases hbs
  obtain ⟨v0, k, xs, hv0, hown, hk, hold, hid, hnil⟩ := hrow
  have hkd : c0.len / te.sz = k := by rw [hk]; exact Nat.mul_div_cancel _ hpos
  rw [hkd] at hby hmax
  have hone : ∀ u ∈ news, u.oneCell' = true := by
    intro u hu
    obtain ⟨j, hj, rfl⟩ := List.getElem_of_mem hu
    rw [hnl] at hj
    have hel : j / te.sz < m := Nat.div_lt_of_lt_mul (by rw [Nat.mul_comm]; exact hj)
    have hjm : j % te.sz < te.sz := Nat.mod_lt _ hpos
    have he : j / te.sz * te.sz + j % te.sz = j := by rw [Nat.mul_comm]; exact Nat.div_add_mod j te.sz
    have := (hcont _ _ hel hjm).one (h2 _ _ hel hjm).2
    rw [he] at this
    rw [ZEz]
    have hj2 : j < news.length := by rw [hnl]; exact hj
    simpa [List.getD_eq_getElem?_getD, hj2] using this
  have hrun : ∃ v' w', (Builtin.append_ #[t, t] o.type #[v0, .slice A m cap]).run P w = .ok v' w' ∧ w'.ownsRow B e te.sz v' (k + m) (xs ++ news) ∧ w.grownBy w' v0.ownBlock ∧ (v'.ownBlock = v0.ownBlock ∨ v'.ownBlock = some w.heap.size) := by
    rcases A with _ | ad
    · have hm : m = 0 := by
        rcases Nat.eq_zero_or_pos m with h0 | h0
        · exact h0
        · obtain ⟨ad, h, _⟩ := hcells h0; cases h
      subst hm
      have hnn : news = [] := List.eq_nil_of_length_eq_zero (by simpa using hnl)
      subst hnn
      exact ⟨v0, w, ZBz B t o.type e inf te.sz hu hi1 v0 k xs hown cap, by simpa using hown, ⟨rfl, rfl, rfl, Nat.le_refl _, fun _ _ _ => rfl⟩, .inl rfl⟩
    · have hcells' : ∀ j u, news[j]? = some u → w.cell? (ad.add j) = some u := by
        intro j u hu'
        rcases Nat.eq_zero_or_pos m with h0 | h0
        · subst h0
          have hnn : news = [] := List.eq_nil_of_length_eq_zero (by simpa using hnl)
          subst hnn; simp at hu'
        · obtain ⟨ad', h, hc⟩ := hcells h0
          injection h with h; subst h
          exact hc j u hu'
      obtain ⟨v', w', r1, r2, r3, _, r5⟩ := run_append_own_at (P := P) w B t o.type e inf te.z te.sz te.by_ hu hi1 hzv hi2 hi3 hz hpos v0 k xs hown ad m cap news hnl hcells' hone (by simp only [maxLen]; omega) hby hG.base
      exact ⟨v', w', r1, r2, r3, r5⟩
  obtain ⟨v', w', r1, r2, r3, r4⟩ := hrun
  unfold Oper.wp
  have hexec : (execOp a.eval o).run P w = .ok (.value v') w' := by
    simp only [execOp, ho, resolve, invoke, builtin, Sem.run_bind, Sem.run_pure, Result.andThen_ok, List.map_toArray, List.map_cons, List.map_nil, hv0, huv, r1]
  rw [hexec, Oper.upon_value, hdst]
  refine hn _ _ ?_
  -- what the new row is good for
  have hroot : rootBlk v' = v'.ownBlock := ZAi r2
  have hroot0 : rootBlk v0 = v0.ownBlock := ZAi hown
  have hkI : ∀ b, I b → w'.heap[b]? = w.heap[b]? := fun b hb => r3.block b (hG.hw.lt b hb) (fun e => by
    cases hbs' : bs with
    | none => rw [hnil hbs'] at e; simp [Value.ownBlock] at e
    | some q =>
      obtain ⟨id, e', sz', c'⟩ := q
      obtain ⟨g1, g2⟩ := hid _ _ _ _ hbs'
      exact hG.hw.imm id _ v0 b g1 g2 (by rw [hroot0]; exact e.symm) hb)
  have hbel : Below B w w' := ⟨r3.os, r3.tape, r3.output, r3.size, fun b hb => r3.block b (Nat.lt_of_lt_of_le hb hG.base) (fun e => by
    have := (hown.lt b e.symm).1; omega)⟩
  have hsub : ∀ id blk, lkH (lessH st.heap bs) id = some blk → lkH st.heap id = some blk ∧ (∀ id' e' sz' c', bs = some (id', e', sz', c') → id ≠ id') := by
    intro id blk h
    cases hbs' : bs with
    | none => rw [hbs'] at h; exact ⟨h, (fun _ _ _ _ h => by cases h)⟩
    | some q =>
      obtain ⟨id', e', sz', c'⟩ := q
      rw [hbs'] at h
      simp only [lessH, ZEy] at h
      split at h
      · cases h
      · rename_i hne
        exact ⟨h, fun i1 i2 i3 i4 h5 => by injection h5 with h5; injection h5 with h6; subst h6; exact hne⟩
  have hrootOther : ∀ id blk yv b, lkH (lessH st.heap bs) id = some blk → ρ id = some yv → rootBlk yv = some b → v0.ownBlock ≠ some b ∧ b < w.heap.size := by
    intro id blk yv b hlk hy hb
    obtain ⟨h3, h4⟩ := hsub id blk hlk
    obtain ⟨y', hy', hok⟩ := hG.hw.ok id blk h3
    rw [hy] at hy'; injection hy' with hy'; subst hy'
    refine ⟨fun hv => ?_, (hok.lt hb).2⟩
    cases hbs' : bs with
    | none => rw [hnil hbs'] at hv; simp [Value.ownBlock] at hv
    | some q =>
      obtain ⟨id', e', sz', c'⟩ := q
      obtain ⟨g1, g2⟩ := hid _ _ _ _ hbs'
      exact hG.hw.apart id' id _ _ v0 yv b (Ne.symm (h4 _ _ _ _ hbs')) g1 h3 g2 hy (by rw [hroot0]; exact hv) hb
  have hG' := hG.replace (w' := w') (H0 := (lessH st.heap bs)) (fun id blk h => (hsub id blk h).1) d v' (.row e te.sz c1)
    ⟨k + m, xs ++ news, r2, by rw [hlen, hk, Nat.add_mul], fun j u hu' => by
      have hxl : xs.length = c0.len := by rw [hown.1, hk]
      by_cases hj : j < xs.length
      · rw [List.getElem?_append_left hj] at hu'
        rw [h1 j (by omega)]
        exact (hold j u hu').same hkI
      · rw [List.getElem?_append_right (by omega)] at hu'
        have hj2 : j - xs.length < m * te.sz := by
          have := (List.getElem?_eq_some_iff.1 hu').1; omega
        have hel : (j - xs.length) / te.sz < m := Nat.div_lt_of_lt_mul (by rw [Nat.mul_comm]; exact hj2)
        have hjm : (j - xs.length) % te.sz < te.sz := Nat.mod_lt _ hpos
        have he : (j - xs.length) / te.sz * te.sz + (j - xs.length) % te.sz = j - xs.length := by rw [Nat.mul_comm]; exact Nat.div_add_mod _ te.sz
        have hc := (h2 _ _ hel hjm).1
        rw [he, ← hxl, show xs.length + (j - xs.length) = j from by omega] at hc
        rw [hc]
        have h5 := hcont _ _ hel hjm
        rw [he] at h5
        have : news.getD (j - xs.length) undef = u := by simp [List.getD_eq_getElem?_getD, hu']
        rw [this] at h5
        exact h5.same hkI⟩
    hbel hkI (fun id blk yv b _ hlk hy hb => by
      obtain ⟨g1, g2⟩ := hrootOther id blk yv b hlk hy hb
      exact r3.block b g2 (fun e => g1 e.symm))
    (fun id blk yv b _ hlk hy hb hv => by
      obtain ⟨g1, g2⟩ := hrootOther id blk yv b hlk hy hb
      rw [hroot] at hv
      rcases r4 with r4 | r4
      · rw [r4] at hv; exact g1 hv
      · rw [r4] at hv; injection hv with hv; omega)
    (fun b hb hI => by
      rw [hroot] at hb
      rcases r4 with r4 | r4
      · rw [r4] at hb
        cases hbs' : bs with
        | none => rw [hnil hbs'] at hb; simp [Value.ownBlock] at hb
        | some q =>
          obtain ⟨id, e', sz', c'⟩ := q
          obtain ⟨g1, g2⟩ := hid _ _ _ _ hbs'
          exact hG.hw.imm id _ v0 b g1 g2 (by rw [hroot0]; exact hb) hI
      · rw [r4] at hb; injection hb with hb; have := hG.hw.lt b hI; omega) (hG.old.ghn d hd)
  have hone' : oneC v' = true := by rcases r2.2 with ⟨rfl, _⟩ | ⟨g, cap, cur, rfl, _⟩ <;> rfl
  exact ⟨_, I, hG'.put (d := some d) (fun k hk => by injection hk with hk; omega) (.s d v' (ZAo _ _ _) hone')⟩
end
end Go.Eng
