/- Part of a proof about the given program: contracts of its functions (see the comment of the last text). -/
import Derived.Test.YthgjjhddbigfcaaEng3
set_option linter.unusedSimpArgs false
set_option linter.unusedVariables false
namespace Go.Eng
open Go.RowKit
set_option linter.unusedVariables false

def updKs : List Key → Key → List Key
  | [], k => [k]
  | a :: r, k => if a = k then a :: r else a :: updKs r k
def updVs {α : Type} : List Key → List α → Key → α → List α
  | [], _, _, v => [v]
  | _ :: _, [], _, _ => []
  | a :: r, x :: vs, k, v => if a = k then v :: vs else x :: updVs r vs k v
theorem ZFm {α : Type} : ∀ {ks : List Key} {vals : List α} (k : Key) (v : α), vals.length = ks.length → updK (ks.zip vals) k v = (updKs ks k).zip (updVs ks vals k v) ∧ (updVs ks vals k v).length = (updKs ks k).length
  | [], [], k, v, _ => by simp [updK, updKs, updVs]
  | a :: r, x :: vs, k, v, h => by
    obtain ⟨h1, h2⟩ := ZFm (ks := r) (vals := vs) k v (by simpa using h)
    simp only [List.zip_cons_cons, updK, updKs, updVs]
    by_cases e : a = k
    · simp [e]; simpa using h
    · simp [e, h1, h2]
theorem ZDY {α β : Type} : ∀ {ks : List Key} {vs : List α} {us : List β} (k : Key) (v : α) (u : β), vs.length = us.length → (updVs ks vs k v).length = (updVs ks us k u).length
  | [], _, _, _, _, _, _ => rfl
  | a :: r, [], [], _, _, _, _ => rfl
  | a :: r, x :: vs, y :: us, k, v, u, h => by
    simp only [updVs]
    split
    · simpa using h
    · simp [ZDY (ks := r) (vs := vs) (us := us) k v u (by simpa using h)]
theorem ZJC {ks : List Key} {k : Key} : ∀ {j : Nat}, ks.findIdx (fun x => x = k) = j → j < ks.length → updKs ks k = ks ∧ ∀ {α : Type} (vs : List α) (v : α), vs.length = ks.length → updVs ks vs k v = vs.set j v := by
  induction ks with
  | nil => intro j _ h; simp at h
  | cons a r ih =>
    intro j h hj
    rw [List.findIdx_cons] at h
    by_cases e : a = k
    · simp [e] at h; subst h
      refine ⟨by simp [updKs, e], fun vs v hl => ?_⟩
      cases vs with
      | nil => simp at hl
      | cons x vs => simp [updVs, e]
    · simp [e] at h
      cases j with
      | zero => omega
      | succ j =>
        obtain ⟨h1, h2⟩ := ih (j := j) (by omega) (by simpa using hj)
        refine ⟨by simp [updKs, e, h1], fun vs v hl => ?_⟩
        cases vs with
        | nil => simp at hl
        | cons x vs => simp [updVs, e, h2 vs v (by simpa using hl)]
theorem ZHD {ks : List Key} {k : Key} : (∀ x ∈ ks, x ≠ k) → updKs ks k = ks ++ [k] ∧ ∀ {α : Type} (vs : List α) (v : α), vs.length = ks.length → updVs ks vs k v = vs ++ [v] := by
  induction ks with
  | nil =>
    intro _
    refine ⟨rfl, fun vs v hl => ?_⟩
    have : vs = [] := List.length_eq_zero_iff.1 (by simpa using hl)
    subst this; rfl
  | cons a r ih =>
    intro h
    have e := h a (by simp)
    obtain ⟨h1, h2⟩ := ih (fun x hx => h x (by simp [hx]))
    refine ⟨by simp [updKs, e, h1], fun vs v hl => ?_⟩
    cases vs with
    | nil => simp at hl
    | cons x vs => simp [updVs, e, h2 vs v (by simpa using hl)]
def isRef (H : List (Nat × Blk)) : AV → Prop
  | .s id => (lkH H id).isSome = true
  | .i _ _ _ _ _ => True
  | _ => False
def MapUpdA (T : Tab) (dst : Option Nat) (op : Op) (K : St → Prop) (st : St) : Prop :=
  match op with
  | .mapUpdate t m k v =>
    match T t with
    | some ⟨.mapt kt _, _, _, _⟩ =>
      match T kt, (st.ev m).strip, (st.ev k).strip with
      | some tk, .s id, .v kv =>
        match lkH st.heap id, keyFor tk.k kv with
        | some (.mpa kd ks (.avs l)), some key => ((st.ev m).cond ∧ (st.ev k).cond ∧ (st.ev v).cond ∧ dst = none ∧ key.isI = kd ∧ key.wf ∧ isRef st.heap (st.ev v).strip ∧ ks.length < 9223372036854775807) ∧ K ⟨st.env, (id, .mpa kd (updKs ks key) (.avs (updVs ks l key (st.ev v).strip))) :: st.heap⟩
        | _, _ => False
      | _, _, _ => False
    | _ => False
  | _ => False
theorem ZHE {ks : List Key} : ∀ {vs : List Value} {l : List AV} {k : Key} {v : Value} {x : AV} {R : AV → Value → Prop}, l.length = vs.length → R x v → (∀ j u, vs[j]? = some u → R (l.getD j .top) u) → ∀ j u, (updVs ks vs k v)[j]? = some u → R ((updVs ks l k x).getD j .top) u := by
  induction ks with
  | nil =>
    intro vs l k v x R hl hx h j u hu
    cases j with
    | zero => simp [updVs] at hu; subst hu; simpa [updVs] using hx
    | succ j => simp [updVs] at hu
  | cons a r ih =>
    intro vs l k v x R hl hx h j u hu
    cases vs with
    | nil => simp [updVs] at hu
    | cons y vs =>
      cases l with
      | nil => simp at hl
      | cons z l =>
        have h0 : R z y := by simpa using h 0 y (by simp)
        have hr : ∀ j u, vs[j]? = some u → R (l.getD j .top) u := fun j u hu => by simpa using h (j + 1) u (by simpa using hu)
        simp only [updVs] at hu ⊢
        by_cases e : a = k
        · rw [if_pos e] at hu ⊢
          cases j with
          | zero => simp at hu; subst hu; simpa using hx
          | succ j => simpa using hr j u (by simpa using hu)
        · rw [if_neg e] at hu ⊢
          cases j with
          | zero => simp at hu; subst hu; simpa using h0
          | succ j => simpa using ih (by simpa using hl) hx hr j u (by simpa using hu)
theorem ZET {P : Program} {T : Tab} (hT : T.ok P) {n B : Nat} {w0 : Orig} {st : St} {a : Act} {w : World} {ρ : Nat → Option Value} {I : Nat → Prop} (hG : Gam n B w0 st a w ρ I) {o : Oper} {K : St → Prop} (h : MapUpdA T o.dst o.op K st) : StepOk P n B w0 o a w K := by
  intro next Q hn
  unfold MapUpdA at h
  split at h <;> first | exact h.elim | skip
  rename_i t m k v ho
  split at h <;> first | exact h.elim | skip
  rename_i kt e _ _ _ ht
  have hu : P.underlying t = some (.map kt e) := (hT _ _ ht).kind
  split at h <;> first | exact h.elim | skip
  rename_i tk id kv htk hm hk
  split at h <;> first | exact h.elim | skip
  rename_i kd ks l key hl hkey
  obtain ⟨⟨c1, c2, c3, hdst, hi, hkw, hvw, hlen⟩, hK⟩ := h
  have hm' := (hG.ev m).strip c1
  have hk' := (hG.ev k).strip c2
  have hv' := (hG.ev v).strip c3
  rw [hm] at hm'; rw [hk] at hk'
  have ek := hk'.v_inv
  obtain ⟨e1, e2⟩ := ZB3 hkey
  have hkt : P.underlying kt = some (kdesc kd) := by
    have hh := (hT _ _ htk).kind
    rcases e2 with ⟨e3, e4⟩ | ⟨e3, e4⟩
    · rw [e3] at hh; rw [← hi, e4]; exact hh
    · rw [e3] at hh; rw [← hi, e4]; exact hh
  have hvv : vwf (a.eval v) := by
    generalize (st.ev v).strip = x at hv' hvw
    cases x <;> simp only [isRef] at hvw
    · rename_i id'
      generalize a.eval v = u at hv'
      cases hv' with
      | s _ _ hr _ =>
        cases hk2 : lkH st.heap id' with
        | none => rw [hk2] at hvw; cases hvw
        | some blk =>
          obtain ⟨x', hx', hok⟩ := hG.hw.ok _ _ hk2
          rw [hr] at hx'; injection hx' with hx'; subst hx'
          cases blk with
          | box t c => obtain ⟨b, us, rfl, _⟩ := hok; trivial
          | row e sz c =>
            obtain ⟨m, xs, ho, _⟩ := hok
            rcases ho.2 with ⟨rfl, _⟩ | ⟨g, cap, cur, rfl, _⟩ <;> trivial
          | nst e c =>
            obtain ⟨m, xs, ho, _⟩ := hok
            rcases ho.2 with ⟨rfl, _⟩ | ⟨g, cap, cur, rfl, _⟩ <;> trivial
          | mp c => obtain ⟨b, rfl, _⟩ := hok; trivial
          | mpa kd ks c => obtain ⟨b, vals, rfl, _⟩ := hok; trivial
    · generalize a.eval v = u at hv'
      cases hv' with
      | i => trivial
  generalize hmv : a.eval m = mv at hm'
  cases hm' with
  | s _ x hr _ =>
    obtain ⟨x', hx', hok⟩ := hG.hw.ok _ _ hl
    rw [hr] at hx'; injection hx' with hx'; subst hx'
    obtain ⟨b, vals, rfl, hB, hmap, hvl, hcl, hcc⟩ := hok
    obtain ⟨z1, z2⟩ := ZFm (ks := ks) (vals := vals) key (a.eval v) hvl
    obtain ⟨ob, hrun, hmap'⟩ := ZHX hmap hu hkt key hi hkw hvv (c' := .anys kd (updK (ks.zip vals) key (a.eval v))) rfl (by simp only [MC.ents, List.length_zip]; omega)
    rw [z1] at hmap'
    have hb : b < w.heap.size := by obtain ⟨es, clock, hh, _⟩ := hmap; exact (Array.getElem?_eq_some_iff.1 hh).1
    unfold Oper.wp
    have : (execOp a.eval o).run P w = .ok .skip { w with heap := w.heap.setIfInBounds b ob } := by
      simp [execOp, ho, hmv, ek, e1, hrun, Result.andThen]
    rw [this, Oper.upon_skip, hdst]
    refine hn _ _ _ hK ⟨ρ, I, hG.store hl hr ⟨b, _, rfl, hB, hmap', z2, ?_, ?_⟩ ⟨rfl, rfl, rfl, by simp, fun k hk => by simp only; rw [Array.getElem?_setIfInBounds_ne (by omega)]⟩ (fun b1 hb1 => ?_)⟩
    · show (updVs ks l key _).length = _
      rw [← z2]
      exact ZDY key _ _ (by rw [hvl]; exact hcl)
    · have hw' : ∀ b', I b' → (w.heap.setIfInBounds b ob)[b']? = w.heap[b']? := fun b' hb' => Array.getElem?_setIfInBounds_ne (fun e => hG.hw.imm id _ _ b hl hr rfl (by rw [e]; exact hb'))
      exact ZHE (R := fun x u => Conc B I { w with heap := w.heap.setIfInBounds b ob } ρ x u) (by rw [hvl]; exact hcl) (hv'.same hw') fun j u hu => (hcc j u hu).same hw'
    · show (w.heap.setIfInBounds b ob)[b1]? = _
      rw [Array.getElem?_setIfInBounds_ne (fun e => hb1 (by rw [e]; rfl))]
/-! ### Rows of rows by append -/
def NstLit (T : Tab) (dst : Option Nat) (op : Op) (K : St → Prop) (st : St) : Prop :=
  match op, dst with
  | .buildSlice t len parts, some d =>
    match T t with
    | some ⟨.sl e, _, _, _⟩ =>
      match T e with
      | some te =>
        match fillA (fun i => some (i * te.sz, te.sz)) (cellsFrom (fun j => ofVal (te.z.cells.getD (j % te.sz) undef)) 0 (len * te.sz)) (parts.toList.map fun p => (p.1, st.ev p.2)) with
        | some (φ, cs) => (φ ∧ te.sz = 1 ∧ te.z.cells.size = te.sz ∧ len ≤ 16777216) ∧ K ⟨(d, .s d) :: killE d st.env, (d, .nst e (.avs (AV.killL d cs))) :: killH d st.heap⟩
        | none => False
      | none => False
    | _ => False
  | _, _ => False
theorem ZFn {P : Program} {T : Tab} (hT : T.ok P) {n B : Nat} {w0 : Orig} {st : St} {a : Act} {w : World} {ρ : Nat → Option Value} {I : Nat → Prop} (hG : Gam n B w0 st a w ρ I) {o : Oper} (hd : dstOk n o.dst) {K : St → Prop} (h : NstLit T o.dst o.op K st) : StepOk P n B w0 o a w K := by
  intro next Q hn
  obtain ⟨dst, op, ty, pos, aft, gd⟩ := o
  simp only [NstLit] at h
  split at h <;> first | exact h.elim | skip
  rename_i t len parts d
  split at h <;> first | exact h.elim | skip
  rename_i e s1 b1 z1 ht
  cases hte : T e with
  | none => rw [hte] at h; exact h.elim
  | some te =>
    rw [hte] at h
    simp only at h
    split at h <;> first | exact h.elim | skip
    rename_i ψ cs hfill
    have hdn : d < n := hd
    obtain ⟨⟨hφ, hs1, hz1, h16⟩, hK⟩ := h
    obtain ⟨us, h1, h2, h3⟩ := ZDs hT hG (dst := some d) (ty := ty) (pos := pos) (aft := aft) (gd := gd) ht hte hfill hφ hz1 (by rw [hs1]; omega)
    rw [hs1, Nat.mul_one] at h1
    have hb : Below w.heap.size w (w.alloc (.cells us e)) := (Below.refl _ _).alloc (Nat.le_refl _) _
    have ho : (w.alloc (.cells us e)).ownsRow B e 1 (.slice (some ⟨w.heap.size, 0, none⟩) len len) len us.toList :=
      ⟨by simp [h1], .inr ⟨w.heap.size, len, us, rfl, hG.base, heap_alloc_new w _, Nat.le_refl _, by simp only [maxLen]; omega, by rw [h1, Nat.mul_one], by rw [List.take_of_length_le (by simp [h1])]⟩⟩
    have hlen : us.toList.length = cs.length := h2.1
    unfold Oper.wp
    rw [h3, Oper.upon_value]
    have h1' := hG.new hb d (.slice (some ⟨w.heap.size, 0, none⟩) len len) (.nst e (.avs (AV.killL d cs))) ⟨len, us.toList, ho, by simp only [Cont.len, ZAa]; rw [← hlen, Array.length_toList]; omega, fun j u hu => by
      have hj : j < cs.length := by rw [← hlen]; exact (List.getElem?_eq_some_iff.1 hu).1
      have h4 := h2.2 j hj
      have h5 : us.toList.getD j undef = u := by simp [List.getD_eq_getElem?_getD, hu]
      rw [h5] at h4
      simp only [Cont.at]
      rw [ZBL]
      exact (h4.kill d _ (fun id hid => ZBB _ _ _ hid)).same fun b hb' => hb.block b (hG.hw.lt b hb')⟩ (fun b hr => by simp [rootBlk] at hr; omega) (hG.old.ghn d hdn)
    exact hn _ _ _ hK ⟨_, I, h1'.put (d := some d) (fun k hk => by injection hk with hk; omega) (.s d _ (ZAo _ _ _) rfl)⟩
def lessN (H : List (Nat × Blk)) : Option Nat → List (Nat × Blk)
  | none => H
  | some id => delH id H
theorem ZFo {P : Program} {T : Tab} (hT : T.ok P) {n B : Nat} {w0 : Orig} {st : St} {a : Act} {w : World} {ρ : Nat → Option Value} {I : Nat → Prop} (hG : Gam n B w0 st a w ρ I) {o : Oper} {x y : Operand} {t e e2 : TypeId} {te : TI} {d : Nat} (ho : o.op = .call ⟨.builtin .append, #[x, y], #[t, t]⟩) (hdst : o.dst = some d) (hd : d < n) {s1 : Nat} {b1 : Nat} {z1 : Value} (ht : T t = some ⟨.sl e, s1, b1, z1⟩) (hte : T e = some te)
    {id2 : Nat} {l ys : List AV} {bs : Option Nat} (hy : (st.ev y).strip = .s id2) (hk2 : lkH st.heap id2 = some (.nst e2 (.avs ys))) (cx : (st.ev x).cond) (cy : (st.ev y).cond) (hs1 : te.sz = 1) (hz : te.z.cells.size = te.sz) (h1 : oneL ys = true)
    (hbase : (bs = none ∧ (st.ev x).strip = .v (.slice none 0 0) ∧ l = []) ∨ ∃ id, bs = some id ∧ id ≠ id2 ∧ (st.ev x).strip = .s id ∧ lkH st.heap id = some (.nst e (.avs l)))
    (hby : (l.length + ys.length) * te.by_ ≤ 140737488355328) (hmax : l.length + ys.length ≤ 9223372036854775807)
    (next : Act → World → Prop) (Q : Exit → Act → World → Prop)
    (hn : ∀ a' w', G n B w0 ⟨(d, .s d) :: killE d st.env, (d, .nst e (.avs (AV.killL d (l ++ ys)))) :: killH d (lessN st.heap bs)⟩ a' w' → next a' w') : o.wp P a w next Q := by
  have hu : P.underlying t = some (.slice e) := (hT _ _ ht).kind
  obtain ⟨inf, hi1, hi2, hi3, hzv⟩ := (hT _ _ hte).info
  -- what is appended
  have hsrc : ∃ (A : Option Addr) (cap : Nat) (news : List Value), a.eval y = .slice A ys.length cap ∧ news.length = ys.length ∧ (0 < ys.length → ∃ ad, A = some ad ∧ ∀ j u, news[j]? = some u → w.cell? (ad.add j) = some u) ∧ ∀ j u, news[j]? = some u → Conc B I w ρ (ys.getD j .top) u := by
    have hyv := (hG.ev y).strip cy
    rw [hy] at hyv
    generalize hv : a.eval y = yv at hyv
    cases hyv with
    | s _ _ hr _ =>
      obtain ⟨x', hx', m, xs, ho', hl, hc⟩ := hG.hw.ok _ _ hk2
      rw [hr] at hx'; injection hx' with hx'; subst hx'
      have hm : m = ys.length := by simp only [Cont.len] at hl; omega
      subst hm
      have hxl : xs.length = ys.length := by have := ho'.1; simpa using this
      rcases ho'.2 with ⟨rfl, h0⟩ | ⟨g, cap, cur, rfl, _⟩
      · exact ⟨none, 0, xs, by rw [h0], hxl, fun h => by omega, hc⟩
      · exact ⟨_, cap, xs, rfl, hxl, fun h => ⟨_, rfl, fun j u hu => ho'.cells rfl j u hu⟩, hc⟩
  obtain ⟨A, cap, news, huv, hnl, hcells, hcont⟩ := hsrc
  -- the row that is appended to
  have hrow : ∃ v0 xs, a.eval x = v0 ∧ w.ownsRow B e 1 v0 l.length xs ∧ (∀ j u, xs[j]? = some u → Conc B I w ρ (l.getD j .top) u) ∧
      (∀ id, bs = some id → lkH st.heap id = some (.nst e (.avs l)) ∧ ρ id = some v0) ∧ (bs = none → v0 = .slice none 0 0) := by
    have hx := (hG.ev x).strip cx
    rcases hbase with ⟨hb0, hst, rfl⟩ | ⟨id, hb0, hne, hst, hk⟩
    · rw [hst] at hx
      exact ⟨.slice none 0 0, [], hx.v_inv, World.ownsRow_nil w B e 1, (fun j u hu => by simp at hu), (fun id h => by rw [hb0] at h; cases h), fun _ => rfl⟩
    · rw [hst] at hx
      generalize hxv : a.eval x = xv at hx
      cases hx with
      | s _ _ hr _ =>
        obtain ⟨x', hr', m, xs, ho', hl, hc⟩ := hG.hw.ok _ _ hk
        rw [hr] at hr'; injection hr' with hr'; subst hr'
        have hm : m = l.length := by simp only [Cont.len] at hl; omega
        subst hm
        exact ⟨xv, xs, rfl, ho', hc, (fun i h => by rw [hb0] at h; injection h with h; subst h; exact ⟨hk, hr⟩), fun h => by rw [hb0] at h; cases h⟩
  obtain ⟨v0, xs, hv0, hown, hold, hid, hnil⟩ := hrow
  have hxl : xs.length = l.length := by have := hown.1; simpa using this
  have hone : ∀ u ∈ news, u.oneCell' = true := by
    intro u hu
    obtain ⟨j, hj, rfl⟩ := List.getElem_of_mem hu
    rw [ZEz]
    exact (hcont j _ (List.getElem?_eq_getElem hj)).one (ZCz h1 j (by omega))
  have hrun : ∃ v' w', (Builtin.append_ #[t, t] o.type #[v0, .slice A ys.length cap]).run P w = .ok v' w' ∧ w'.ownsRow B e 1 v' (l.length + ys.length) (xs ++ news) ∧ w.grownBy w' v0.ownBlock ∧ (v'.ownBlock = v0.ownBlock ∨ v'.ownBlock = some w.heap.size) := by
    rcases A with _ | ad
    · have hm : ys.length = 0 := by
        rcases Nat.eq_zero_or_pos ys.length with h0 | h0
        · exact h0
        · obtain ⟨ad, h, _⟩ := hcells h0; cases h
      have hnn : news = [] := List.eq_nil_of_length_eq_zero (by omega)
      subst hnn
      rw [hm]
      exact ⟨v0, w, ZBz B t o.type e inf 1 hu hi1 v0 l.length xs hown cap, by simpa using hown, ⟨rfl, rfl, rfl, Nat.le_refl _, fun _ _ _ => rfl⟩, .inl rfl⟩
    · have hcells' : ∀ j u, news[j]? = some u → w.cell? (ad.add j) = some u := by
        intro j u hu'
        rcases Nat.eq_zero_or_pos ys.length with h0 | h0
        · have hnn : news = [] := List.eq_nil_of_length_eq_zero (by omega)
          subst hnn; simp at hu'
        · obtain ⟨ad', h, hc⟩ := hcells h0
          injection h with h; subst h
          exact hc j u hu'
      rw [hs1] at hz hi2
      obtain ⟨v', w', r1, r2, r3, _, r5⟩ := run_append_own_at (P := P) w B t o.type e inf te.z 1 te.by_ hu hi1 hzv hi2 hi3 hz (by decide) v0 l.length xs hown ad ys.length cap news (by omega) hcells' hone (by simp only [maxLen]; omega) hby hG.base
      exact ⟨v', w', r1, r2, r3, r5⟩
  obtain ⟨v', w', r1, r2, r3, r4⟩ := hrun
  unfold Oper.wp
  have hexec : (execOp a.eval o).run P w = .ok (.value v') w' := by
    simp only [execOp, ho, resolve, invoke, builtin, Sem.run_bind, Sem.run_pure, Result.andThen_ok, List.map_toArray, List.map_cons, List.map_nil, hv0, huv, r1]
  rw [hexec, Oper.upon_value, hdst]
  refine hn _ _ ?_
  have hroot : rootBlk v' = v'.ownBlock := ZAi r2
  have hroot0 : rootBlk v0 = v0.ownBlock := ZAi hown
  have hkI : ∀ b, I b → w'.heap[b]? = w.heap[b]? := fun b hb => r3.block b (hG.hw.lt b hb) (fun e => by
    cases hbs' : bs with
    | none => rw [hnil hbs'] at e; simp [Value.ownBlock] at e
    | some id =>
      obtain ⟨g1, g2⟩ := hid _ hbs'
      exact hG.hw.imm id _ v0 b g1 g2 (by rw [hroot0]; exact e.symm) hb)
  have hbel : Below B w w' := ⟨r3.os, r3.tape, r3.output, r3.size, fun b hb => r3.block b (Nat.lt_of_lt_of_le hb hG.base) (fun e => by
    have := (hown.lt b e.symm).1; omega)⟩
  have hsub : ∀ id blk, lkH (lessN st.heap bs) id = some blk → lkH st.heap id = some blk ∧ (∀ id', bs = some id' → id ≠ id') := by
    intro id blk h
    cases hbs' : bs with
    | none => rw [hbs'] at h; exact ⟨h, (fun _ h => by cases h)⟩
    | some id' =>
      rw [hbs'] at h
      simp only [lessN, ZEy] at h
      split at h
      · cases h
      · rename_i hne
        exact ⟨h, fun i1 h5 => by injection h5 with h5; subst h5; exact hne⟩
  have hrootOther : ∀ id blk yv b, lkH (lessN st.heap bs) id = some blk → ρ id = some yv → rootBlk yv = some b → v0.ownBlock ≠ some b ∧ b < w.heap.size := by
    intro id blk yv b hlk hy hb
    obtain ⟨h3, h4⟩ := hsub id blk hlk
    obtain ⟨y', hy', hok⟩ := hG.hw.ok id blk h3
    rw [hy] at hy'; injection hy' with hy'; subst hy'
    refine ⟨fun hv => ?_, (hok.lt hb).2⟩
    cases hbs' : bs with
    | none => rw [hnil hbs'] at hv; simp [Value.ownBlock] at hv
    | some id' =>
      obtain ⟨g1, g2⟩ := hid _ hbs'
      exact hG.hw.apart id' id _ _ v0 yv b (Ne.symm (h4 _ hbs')) g1 h3 g2 hy (by rw [hroot0]; exact hv) hb
  have hG' := hG.replace (w' := w') (H0 := (lessN st.heap bs)) (fun id blk h => (hsub id blk h).1) d v' (.nst e (.avs (AV.killL d (l ++ ys))))
    ⟨l.length + ys.length, xs ++ news, r2, by simp only [Cont.len, ZAa, List.length_append]; omega, fun j u hu' => by
      simp only [Cont.at]
      rw [ZBL]
      by_cases hj : j < xs.length
      · rw [List.getElem?_append_left hj] at hu'
        have e3 : (l ++ ys).getD j .top = l.getD j .top := by rw [List.getD_eq_getElem?_getD, List.getD_eq_getElem?_getD, List.getElem?_append_left (by omega)]
        rw [e3]
        exact ((hold j u hu').same hkI).kill d _ (fun id hid => ZBB _ _ _ hid)
      · rw [List.getElem?_append_right (by omega)] at hu'
        have e3 : (l ++ ys).getD j .top = ys.getD (j - xs.length) .top := by rw [List.getD_eq_getElem?_getD, List.getD_eq_getElem?_getD, List.getElem?_append_right (by omega), hxl]
        rw [e3]
        exact ((hcont _ u hu').same hkI).kill d _ (fun id hid => ZBB _ _ _ hid)⟩
    hbel hkI (fun id blk yv b _ hlk hy hb => by
      obtain ⟨g1, g2⟩ := hrootOther id blk yv b hlk hy hb
      exact r3.block b g2 (fun e => g1 e.symm))
    (fun id blk yv b _ hlk hy hb hv => by
      obtain ⟨g1, g2⟩ := hrootOther id blk yv b hlk hy hb
      rw [hroot] at hv
      rcases r4 with r4 | r4
      · rw [r4] at hv; exact g1 hv
      · rw [r4] at hv; injection hv with hv; omega)
    (fun b hb hI => by
      rw [hroot] at hb
      rcases r4 with r4 | r4
      · rw [r4] at hb
        cases hbs' : bs with
        | none => rw [hnil hbs'] at hb; simp [Value.ownBlock] at hb
        | some id' =>
          obtain ⟨g1, g2⟩ := hid _ hbs'
          exact hG.hw.imm id' _ v0 b g1 g2 (by rw [hroot0]; exact hb) hI
      · rw [r4] at hb; injection hb with hb; have := hG.hw.lt b hI; omega) (hG.old.ghn d hd)
  have hone' : oneC v' = true := by rcases r2.2 with ⟨rfl, _⟩ | ⟨g, cap, cur, rfl, _⟩ <;> rfl
  exact ⟨_, I, hG'.put (d := some d) (fun k hk => by injection hk with hk; omega) (.s d v' (ZAo _ _ _) hone')⟩
def AppN (T : Tab) (dst : Option Nat) (op : Op) (K : St → Prop) (st : St) : Prop :=
  match op, dst with
  | .call c, some d =>
    match c.callee, c.args.toList, c.argTypes.toList with
    | .builtin .append, [x, y], [t, t'] =>
      match T t with
      | some ⟨.sl e, _, _, _⟩ =>
        match T e, (st.ev y).strip with
        | some te, .s id2 =>
          match lkH st.heap id2 with
          | some (.nst _ (.avs ys)) =>
            match (st.ev x).strip with
            | .v (.slice none 0 0) => ((st.ev x).cond ∧ (st.ev y).cond ∧ t' = t ∧ te.sz = 1 ∧ te.z.cells.size = te.sz ∧ oneL ys = true ∧ (0 + ys.length) * te.by_ ≤ 140737488355328 ∧ 0 + ys.length ≤ 9223372036854775807) ∧ K ⟨(d, .s d) :: killE d st.env, (d, .nst e (.avs (AV.killL d ys))) :: killH d st.heap⟩
            | .s id =>
              match lkH st.heap id with
              | some (.nst e1 (.avs l)) => ((st.ev x).cond ∧ (st.ev y).cond ∧ t' = t ∧ e1 = e ∧ id ≠ id2 ∧ te.sz = 1 ∧ te.z.cells.size = te.sz ∧ oneL ys = true ∧ (l.length + ys.length) * te.by_ ≤ 140737488355328 ∧ l.length + ys.length ≤ 9223372036854775807) ∧ K ⟨(d, .s d) :: killE d st.env, (d, .nst e (.avs (AV.killL d (l ++ ys)))) :: killH d (delH id st.heap)⟩
              | _ => False
            | _ => False
          | _ => False
        | _, _ => False
      | _ => False
    | _, _, _ => False
  | _, _ => False

theorem ZHg {P : Program} {T : Tab} (hT : T.ok P) {n B : Nat} {w0 : Orig} {st : St} {a : Act} {w : World} {ρ : Nat → Option Value} {I : Nat → Prop} (hG : Gam n B w0 st a w ρ I) {o : Oper} (hd : dstOk n o.dst) {K : St → Prop} (h' : AppN T o.dst o.op K st) : StepOk P n B w0 o a w K := by
  intro next Q hnx
  unfold AppN at h'
  split at h' <;> first | exact h'.elim | skip
  rename_i c d ho hdst
  rw [hdst] at hd
  split at h' <;> first | exact h'.elim | skip
  rename_i x y t t' hcal hargs htys
  obtain ⟨cal, cargs, ctys⟩ := c
  simp only at hcal hargs htys
  subst hcal
  split at h' <;> first | exact h'.elim | skip
  rename_i e s1 b1 z1 ht
  split at h' <;> first | exact h'.elim | skip
  rename_i te id2 hte hy
  split at h' <;> first | exact h'.elim | skip
  rename_i e2 ys hk2
  have ea : cargs = #[x, y] := by cases cargs; simp_all
  split at h' <;> first | exact h'.elim | skip
  · rename_i hx
    obtain ⟨⟨cx, cy, rfl, hs1, hz, h1, hby, hmax⟩, hK⟩ := h'
    have et : ctys = #[t', t'] := by cases ctys; simp_all
    subst ea; subst et
    exact ZFo hT hG (l := []) (bs := none) ho hdst hd ht hte hy hk2 cx cy hs1 hz h1 (.inl ⟨rfl, hx, rfl⟩) (by simpa using hby) (by simpa using hmax) next Q fun a' w' hG' => by
      obtain ⟨ρ', I', hg'⟩ := hG'
      exact hnx _ _ _ hK ⟨ρ', I', hg'⟩
  · rename_i id hx
    split at h' <;> first | exact h'.elim | skip
    rename_i e1 l hk1
    obtain ⟨⟨cx, cy, rfl, rfl, hne, hs1, hz, h1, hby, hmax⟩, hK⟩ := h'
    have et : ctys = #[t', t'] := by cases ctys; simp_all
    subst ea; subst et
    exact ZFo hT hG (l := l) (bs := some id) ho hdst hd ht hte hy hk2 cx cy hs1 hz h1 (.inr ⟨id, rfl, hne, hx, hk1⟩) hby hmax next Q fun a' w' hG' => by
      obtain ⟨ρ', I', hg'⟩ := hG'
      exact hnx _ _ _ hK ⟨ρ', I', hg'⟩


def alC (T : Tab) (st : St) (dst : Option Nat) (op : Op) (K : St → Prop) : Prop := MapUpdA T dst op K st ∨ NstLit T dst op K st ∨ AppN T dst op K st
theorem alC_ok {P : Program} {T : Tab} (hT : T.ok P) {n B : Nat} {w0 : Orig} {st : St} {a : Act} {w : World} {ρ : Nat → Option Value} {I : Nat → Prop} (hG : Gam n B w0 st a w ρ I) {o : Oper} (hd : dstOk n o.dst) {K : St → Prop} (h : alC T st o.dst o.op K) : StepOk P n B w0 o a w K := by
  rcases h with h | h | h
  · exact ZET hT hG h
  · exact ZFn hT hG hd h
  · exact ZHg hT hG hd h
theorem ZJS {T : Tab} {st : St} {o : Oper} {K : St → Prop} (h : alC T st o.dst o.op K) : ∀ c, o.op ≠ .defer c := fun c hc => by
  rw [hc] at h
  rcases h with h | h | h
  · exact h
  · exact h
  · exact h
attribute [push_cast] MapUpdA isRef NstLit AppN lessN
end Go.Eng
namespace Go.Eng
open Go.RowKit

def AStepX (P : Program) (T : Tab) (n : Nat) (ops : Array Oper) (o : Oper) (K : St → Prop) (st : St) : Prop :=
  AStep P T n ops o K st ∨ (o.guard = none ∧ dstOk n o.dst ∧ alB T st o.dst o.op K) ∨ (guardB st ops o.guard = some (some false) ∧ dstOk n o.dst ∧ ∃ r, K (st.put o.dst (.g false r))) ∨ (o.guard = none ∧ dstOk n o.dst ∧ alC T st o.dst o.op K)
theorem ZC4 {P : Program} {T : Tab} (hT : T.ok P) {n B : Nat} {w0 : Orig} {st : St} {a : Act} {w : World} {ρ : Nat → Option Value} {I : Nat → Prop} (hG : Gam n B w0 st a w ρ I) {ops : Array Oper} {o : Oper} {K : St → Prop} (h : AStepX P T n ops o K st) (next : Act → World → Prop) (Q : Exit → Act → World → Prop) (hn : ∀ st' a' w', K st' → G n B w0 st' a' w' → next a' w') :
    if Region.wanted o (yielded ops a.tmps) then o.wp P a w next Q else next (a.put o.dst undef) w := by
  rcases h with h | ⟨hg, hd, h⟩ | ⟨hg, hd, h⟩ | ⟨hg, hd, h⟩
  · exact ZE0 hT hG h next Q hn
  · have : Region.wanted o (yielded ops a.tmps) = true := by
      have := ZBC hG (ops := ops) (o := o) (g := none) (by rw [hg]; rfl)
      simpa using this
    rw [if_pos this]
    exact alB_ok hT hG hd h next Q hn
  · obtain ⟨r, h⟩ := h
    have := ZBC hG hg
    rw [this]
    simp only [Option.getD_some, Bool.false_eq_true, if_false]
    exact hn _ _ _ h ⟨ρ, I, hG.put (ZCL hd) (.g false r _ (fun h => by cases h) (fun _ => rfl))⟩
  · have : Region.wanted o (yielded ops a.tmps) = true := by
      have := ZBC hG (ops := ops) (o := o) (g := none) (by rw [hg]; rfl)
      simpa using this
    rw [if_pos this]
    exact alC_ok hT hG hd h next Q hn

theorem ZC5 {P : Program} {T : Tab} {n B : Nat} {w0 : Orig} {st : St} {a : Act} {w : World} {ρ : Nat → Option Value} {I : Nat → Prop} (hG : Gam n B w0 st a w ρ I) {ops : Array Oper} {o : Oper} {K : St → Prop} (h : AStepX P T n ops o K st) (hw : Region.wanted o (yielded ops a.tmps) = true) : ∀ c, o.op ≠ .defer c := by
  rcases h with h | ⟨_, _, h⟩ | ⟨hg, _, _⟩ | ⟨_, _, h⟩
  · exact ZE1 h
  · intro c hc
    rw [hc] at h
    exact h
  · rw [ZBC hG hg] at hw
    cases hw
  · exact ZJS h
def AOpsX (P : Program) (T : Tab) (n : Nat) (ops : Array Oper) (K : St → Prop) : List Oper → St → Prop
  | [], st => K st
  | o :: rest, st => AStepX P T n ops o (fun st' => AOpsX P T n ops K rest st') st

theorem ZGg {P : Program} {T : Tab} (hT : T.ok P) {n B : Nat} {w0 : Orig} {ops : Array Oper} {K : St → Prop} {Q : Exit → Act → World → Prop} (hQ : ∀ st' a' w', K st' → G n B w0 st' a' w' → Q .normal a' w') : ∀ (l : List Oper) (st : St) (a : Act) (w : World), G n B w0 st a w → AOpsX P T n ops K l st → wpListIn (fo w0) 0 P ops Q l a w
  | [], st, a, w, hG, h => hQ st a w h hG
  | o :: rest, st, a, w, ⟨ρ, I, hG⟩, h => by
    have := ZC4 hT hG h (wpListIn (fo w0) 0 P ops Q rest) Q (fun st' a' w' hK hG' => ZGg hT hQ rest st' a' w' hG' hK)
    unfold wpListIn
    exact toIf (ZC5 hG h) this
theorem ZJD {P : Program} {T : Tab} (hT : T.ok P) {n B : Nat} {w0 : Orig} {Q : Exit → St → Prop} {st : St} {id : Nat} {l : List Oper} (h : ∀ K : St → Prop, (∀ s, Q .normal s → K s) → AOpsX P T n l.toArray K l st) : AWP P n B w0 (.region id l.toArray false) Q st := fun a w hG =>
  wpIn_region_lit (ZGg hT (fun st' _ _ hK hG' => ⟨st', hK, hG'⟩) l st a w hG (h (fun s => Q .normal s) fun _ h => h))
theorem ZE5 {P : Program} {T : Tab} (hT : T.ok P) {n B : Nat} {w0 : Orig} {Q : Exit → St → Prop} {st : St} {id : Nat} {l : List Oper} {y : Code} (h : ∀ K : St → Prop, (∀ s, AWP P n B w0 y Q s → K s) → AOpsX P T n l.toArray K l st) : AWP P n B w0 (.seq (.region id l.toArray false) y) Q st :=
  ZAL (ZJD hT (h · ))
theorem ZDt {P : Program} {T : Tab} {n : Nat} {ops : Array Oper} {K : St → Prop} {st : St} (h : K st) : AOpsX P T n ops K [] st := h
theorem ZDK {P : Program} {T : Tab} {n : Nat} {ops : Array Oper} {K : St → Prop} {o : Oper} {rest : List Oper} {st : St} {g : Option (Nat × Bool)} (hg : gOf ops o.guard = some g) (h : ∀ K' : St → Prop, (∀ s, AOpsX P T n ops K rest s → K' s) → StepN P T n o.dst o.op g K' st) : AOpsX P T n ops K (o :: rest) st :=
  .inl (ZBT hg (h _ fun _ h => h))
theorem ZFp {P : Program} {T : Tab} {n : Nat} {ops : Array Oper} {K : St → Prop} {o : Oper} {rest : List Oper} {st : St} (d : Nat) (hd : o.dst = some d) (hg : o.guard = none) (hn : d < n) (h : ∀ K' : St → Prop, (∀ s, AOpsX P T n ops K rest s → K' s) → alB T st (some d) o.op K') : AOpsX P T n ops K (o :: rest) st :=
  .inr (.inl ⟨hg, by rw [hd]; exact hn, by rw [hd]; exact h _ fun _ h => h⟩)
theorem ZDL {P : Program} {T : Tab} {n : Nat} {ops : Array Oper} {K : St → Prop} {o : Oper} {rest : List Oper} {st : St} {g : Option (Nat × Bool)} (hg : gOf ops o.guard = some g) (hs : guardS st g = some (some false)) (hd : dstOk n o.dst) (h : AOpsX P T n ops K rest (st.put o.dst (.g false (.v (.bool false))))) : AOpsX P T n ops K (o :: rest) st :=
  .inr (.inr (.inl ⟨by rw [ZBd hg]; exact hs, hd, _, h⟩))
attribute [push_cast] alB
def frzP (d : Nat) (blk : Blk) : AV → AV
  | .p id off => if id = d then .q true (fun _ j => blk.cont.at j) blk.cont.len 0 off else .p id off
  | x => x.kill d
def frzPL (d : Nat) (blk : Blk) : List AV → List AV
  | [] => []
  | x :: r => frzP d blk x :: frzPL d blk r
theorem ZBp (d : Nat) (blk : Blk) (cs : List AV) : (frzPL d blk cs).length = cs.length := by
  induction cs with
  | nil => rfl
  | cons x r ih => simp [frzPL, ih]
theorem ZEU (d : Nat) (blk : Blk) (cs : List AV) (j : Nat) : (frzPL d blk cs).getD j .top = frzP d blk (cs.getD j .top) := by
  induction cs generalizing j with
  | nil => simp [frzPL, frzP, AV.kill]
  | cons x r ih => cases j with
    | zero => simp [frzPL]
    | succ j => simpa [frzPL] using ih j
def frz1 (d : Nat) (blk : Blk) : AV → AV
  | .p id off => if id = d then .q true (fun _ j => blk.cont.at j) blk.cont.len 0 off else .p id off
  | .f fn cs => .f fn (frzPL d blk cs)
  | .s id => if id = d then (match blk with | .row _ sz c => if 0 < sz then .i true (fun e j => c.at (e * sz + j)) sz 0 (c.len / sz) else .top | _ => .top) else .s id
  | x => x.kill d
def frzE (d : Nat) (blk : Blk) : List (Nat × AV) → List (Nat × AV)
  | [] => []
  | (k, v) :: r => (k, frz1 d blk v) :: frzE d blk r
theorem ZGD (d : Nat) (blk : Blk) : ∀ (env : List (Nat × AV)) (s : Nat), lk (frzE d blk env) s = frz1 d blk (lk env s)
  | [], s => by simp only [frzE, lk, frz1, AV.kill]
  | (k, v) :: r, s => by
    simp only [frzE, lk]
    split
    · rfl
    · exact ZGD d blk r s
def norC (c : Cont) : Prop := match c with | .avs l => AV.norL l = true | _ => True
theorem ZE6 {c : Cont} (h : norC c) (j : Nat) : (c.at j).nor = true := by
  cases c with
  | ints k l => rfl
  | vals l => rfl
  | avs l => exact ZBc h j

theorem G.freeze {n B : Nat} {w0 : Orig} {st : St} {a : Act} {w : World} (hG : G n B w0 st a w) (d : Nat) (blk : Blk) (hk : lkH st.heap d = some blk) (hnor : norC blk.cont) : G n B w0 ⟨frzE d blk st.env, killH d st.heap⟩ a w := by
  obtain ⟨ρ, I, h⟩ := hG
  obtain ⟨x, hx, hok⟩ := h.hw.ok d blk hk
  have hρ : ∀ id, id ≠ d → ρ id = ρ id := fun id hid => rfl
  have hrest : ∀ b, rootBlk x = some b → B ≤ b ∧ b < w.heap.size := fun b hb => hok.lt hb
  have hII : ∀ b, I b → (fun b => I b ∨ rootBlk x = some b) b ∧ w.heap[b]? = w.heap[b]? := fun b hb => ⟨.inl hb, rfl⟩
  have cellC : ∀ b j, rootBlk x = some b → j < blk.cont.len → ∃ u, w.cell? ⟨b, j, none⟩ = some u ∧ Conc B (fun b => I b ∨ rootBlk x = some b) w noId (blk.cont.at j) u := fun b j hb hj => by
    obtain ⟨u, h1, h2⟩ := h.hw.cell hk hx hb hj
    exact ⟨u, h1, ((h2.nor (ZE6 hnor j)).mono (Nat.le_refl _) hII _ (fun _ _ h => h))⟩
  have look : ∀ id blk', lkH (killH d st.heap) id = some blk' → id ≠ d ∧ ∃ b0, lkH st.heap id = some b0 ∧ blk' = b0.kill d := by
    intro id blk' hk'
    rw [ZDp] at hk'
    by_cases e : id = d
    · rw [if_pos e] at hk'; cases hk'
    · rw [if_neg e] at hk'
      cases h0 : lkH st.heap id with
      | none => rw [h0] at hk'; cases hk'
      | some b0 => rw [h0] at hk'; injection hk' with hk'; exact ⟨e, b0, rfl, hk'.symm⟩
  refine ⟨ρ, fun b => I b ∨ rootBlk x = some b, h.defers.mono (fun b hb => ⟨.inl hb, rfl⟩), h.size, fun s => ?_, ⟨fun id blk' hk' => ?_, fun id id' b1 b2 y y' b hne h1 h2 hy hy' hb => ?_, fun id blk' y b hk' hy hb hI => ?_, fun b hb => ?_⟩, h.below, h.base, ⟨fun b hb => ?_, h.old.gh, h.old.ghn, fun b hb => ⟨.inl (h.old.keep b hb).1, (h.old.keep b hb).2⟩⟩⟩
  · show Conc _ _ _ _ (lk (frzE d blk st.env) s) _
    rw [ZGD]
    have hs := h.env s
    have gen : Conc B (fun b => I b ∨ rootBlk x = some b) w ρ ((lk st.env s).kill d) (a.tmps.getD s undef) := (hs.kill d _ hρ).mono (Nat.le_refl _) hII _ (fun _ _ h => h)
    have hP : ∀ (x0 : AV) (uu : Value), Conc B I w ρ x0 uu → Conc B (fun b => I b ∨ rootBlk x = some b) w ρ (frzP d blk x0) uu := fun x0 uu hs => by
      have gen : Conc B (fun b => I b ∨ rootBlk x = some b) w ρ (x0.kill d) uu := (hs.kill d _ hρ).mono (Nat.le_refl _) hII _ (fun _ _ h => h)
      cases x0 with
      | p id off =>
        simp only [frzP]
        by_cases e : id = d
        · subst e
          rw [if_pos rfl]
          cases hs with
          | p _ _ b y hy hb =>
            rw [hx] at hy; injection hy with hy; subst hy
            have hall : ∀ j, off + j < blk.cont.len → ∃ u, w.cell? ((⟨b, off, none⟩ : Addr).add j) = some u ∧ Conc B (fun b => I b ∨ rootBlk x = some b) w noId (blk.cont.at (off + j)) u := fun j hj => by
              obtain ⟨u, h1, h2⟩ := cellC b (off + j) hb hj
              exact ⟨u, by rw [ZAf]; exact h1, h2⟩
            refine .q _ _ _ _ _ _ (fun j => if hj : off + j < blk.cont.len then Classical.choose (hall j hj) else undef) (.inr hb) (fun _ => (hrest b hb).1) (fun j hj => ?_) (fun j hj => ?_)
            · rw [dif_pos hj]; exact (Classical.choose_spec (hall j hj)).1
            · rw [dif_pos hj]; exact (Classical.choose_spec (hall j hj)).2
        · rw [if_neg e]
          rw [AV.kill, if_neg e] at gen
          exact gen
      | _ => exact gen
    cases hv : lk st.env s with
    | p id off => rw [hv] at hs; exact hP _ _ hs
    | f fn cs =>
      rw [hv] at hs
      simp only [frz1]
      generalize a.tmps.getD s undef = uu at *
      cases hs with
      | f _ _ us hl hcs => exact .f fn _ us (by rw [ZBp]; exact hl) fun j hj => by rw [ZBp] at hj; rw [ZEU]; exact hP _ _ (hcs j hj)
    | s id =>
      rw [hv] at hs gen
      simp only [frz1]
      by_cases e : id = d
      · subst e
        rw [if_pos rfl]
        cases blk with
        | box t c => exact .top _
        | mp c => exact .top _
        | mpa kd ks c => exact .top _
        | nst el c => exact .top _
        | row el sz c =>
          simp only
          split
          · rename_i hpos
            generalize a.tmps.getD s undef = uu at *
            cases hs with
            | s _ _ hy h1 =>
              rw [hx] at hy; injection hy with hy; subst hy
              obtain ⟨m, xs, ho, hl, hc⟩ := hok
              have hm : c.len / sz = m := by rw [hl]; exact Nat.mul_div_cancel _ hpos
              rw [hm]
              have := ZCZ (fl := true) (B' := B) (J := fun b => I b ∨ rootBlk x = some b ∨ (B ≤ b ∧ b < w.heap.size)) ho (fun _ => Nat.le_refl _) (fun b h1 h2 => .inr (.inr ⟨h1, h2⟩)) (fun e j => c.at (e * sz + j)) (fun el2 j he hj => by
                have hlt : el2 * sz + j < xs.length := by rw [ho.1]; exact ZA9 he hj
                have := hc (el2 * sz + j) _ (List.getElem?_eq_getElem hlt)
                have e2 : xs.getD (el2 * sz + j) undef = xs[el2 * sz + j] := by simp [List.getD_eq_getElem?_getD, hlt]
                rw [e2]
                exact this.mono (Nat.le_refl _) (fun b hb => ⟨.inl hb, rfl⟩) _ (fun _ _ h => h))
              cases this with
              | i _ _ _ _ _ cap A u hcap hA hcc =>
                refine .i _ _ _ _ _ _ _ u hcap (fun hl0 => ?_) (fun e f he hf => ?_)
                · obtain ⟨ad, h1, h2, h3, h4⟩ := hA hl0
                  subst h1
                  exact ⟨ad, rfl, .inr rfl, h3, h4⟩
                · have hlt : e * sz + f < xs.length := by rw [ho.1]; exact ZA9 he hf
                  have hb : ∃ ad, A = some ad := by obtain ⟨ad, h1, _⟩ := hA (by omega); exact ⟨ad, h1⟩
                  obtain ⟨ad, rfl⟩ := hb
                  obtain ⟨ad', h1, _, _, h4⟩ := hA (by omega)
                  injection h1 with h1; subst h1
                  have hj : e * sz + f < (Blk.row el sz c).cont.len := by show e * sz + f < c.len; rw [hl]; exact ZA9 he hf
                  obtain ⟨v, hv1, hv2⟩ := cellC ad.block (e * sz + f) rfl hj
                  rcases ho.2 with ⟨hn, _⟩ | ⟨g, cap', cur, hsl, _⟩
                  · cases hn
                  · injection hsl with hsl _ _
                    injection hsl with hsl
                    have h5 := h4 e f he hf
                    rw [hsl, ZAf, Nat.zero_add] at h5
                    rw [hsl] at hv1
                    simp only at hv1
                    rw [h5] at hv1
                    injection hv1 with hv1
                    rw [Nat.zero_add, hv1]
                    exact hv2
          · exact .top _
      · rw [if_neg e]
        rw [AV.kill, if_neg e] at gen
        exact gen
    | _ => rw [hv] at gen; exact gen
  · obtain ⟨hne, b0, h0, rfl⟩ := look id blk' hk'
    obtain ⟨y, hy, hok'⟩ := h.hw.ok id b0 h0
    exact ⟨y, hy, (hok'.killed d hρ).move (fun b _ => rfl) hII (fun _ _ h => h)⟩
  · obtain ⟨hn1, c1, hc1, rfl⟩ := look id b1 h1
    obtain ⟨hn2, c2, hc2, rfl⟩ := look id' b2 h2
    exact h.hw.apart id id' c1 c2 y y' b hne hc1 hc2 hy hy' hb
  · obtain ⟨hne, b0, h0, rfl⟩ := look id blk' hk'
    rcases hI with hI | hI
    · exact h.hw.imm id b0 y b h0 hy hb hI
    · exact h.hw.apart id d b0 blk y x b hne h0 hk hy hx hb hI
  · rcases hb with hb | hb
    · exact h.hw.lt b hb
    · exact (hrest b hb).2
  · rcases hb with hb | hb
    · exact h.old.up b hb
    · exact .inr (hrest b hb).1
theorem ZEV {P : Program} {n B : Nat} {w0 : Orig} {c : Code} {Q : Exit → St → Prop} {st : St} (d : Nat) (blk : Blk) (hk : lkH st.heap d = some blk) (hnor : norC blk.cont) (h : AWP P n B w0 c Q ⟨frzE d blk st.env, killH d st.heap⟩) : AWP P n B w0 c Q st := fun a w hG => h a w (hG.freeze d blk hk hnor)
attribute [push_cast] frz1 frzE frzP frzPL
end Go.Eng
namespace Go.Eng
open Go.RowKit

theorem ZJu (H : List (Nat × Blk)) : ∀ (n : Nat) (x : AV), Sub (AV.pub false H n x) (AV.pub false [] n x) := by
  intro n
  induction n with
  | zero => intro x B I w u h; exact h
  | succ n ih =>
    intro x B I w u h
    cases x with
    | v y => exact h
    | s id => exact .top _
    | w id off len => exact .top _
    | p id off => exact .top _
    | i fr c sz off len =>
      cases h with
      | i _ _ _ _ _ cap A u hcap hA hc => exact .i _ _ _ _ _ _ _ u hcap hA (fun e f he hf => ih _ _ _ _ _ (hc e f he hf))
    | q fr c sz e f =>
      cases h with
      | q _ _ _ _ _ ad u h2 h3 hcell hc => exact .q _ _ _ _ _ _ u h2 h3 hcell (fun j hj => ih _ _ _ _ _ (hc j hj))
    | a cs =>
      cases h with
      | a _ us hl h => exact .a _ _ (by simpa using hl) fun j hj => by simp only [List.length_map] at hj; have := h j (by simpa using hj); rw [ZAm _ _ _ _ _ hj] at this ⊢; exact ih _ _ _ _ _ this
    | t cs =>
      cases h with
      | t _ us hl h => exact .t _ _ (by simpa using hl) fun j hj => by simp only [List.length_map] at hj; have := h j (by simpa using hj); rw [ZAm _ _ _ _ _ hj] at this ⊢; exact ih _ _ _ _ _ this
    | f fn cs =>
      cases h with
      | f _ _ us hl h => exact .f _ _ _ (by simpa using hl) fun j hj => by simp only [List.length_map] at hj; have := h j (by simpa using hj); rw [ZAm _ _ _ _ _ hj] at this ⊢; exact ih _ _ _ _ _ this
    | g b y =>
      cases h with
      | g _ _ _ h h0 => exact .g b _ _ (fun hb => ih _ _ _ _ _ (h hb)) h0
    | top => exact .top _
theorem ZDu (H : List (Nat × Blk)) : ∀ args : List AV, SubL (pubL H args) (pubL [] args)
  | [] => trivial
  | x :: r => ⟨ZJu H 6 x.strip, ZDu H r⟩

theorem ZE7 (id : Nat) : lkH [] id = none := rfl
theorem ZGE {T : Tab} {H : List (Nat × Blk)} {t : TypeId} {x : AV} {r : Prop × AV} (h : pvLoad T [] t x = some r) : pvLoad T H t x = some r := by
  unfold pvLoad at h ⊢
  cases hx : x.strip <;> simp only [hx, ZE7] at h ⊢ <;> first | exact h | skip
  cases T t <;> simp at h
theorem ZFq {T : Tab} {H : List (Nat × Blk)} {t : TypeId} {x : AV} {lo hi : Option AV} {r : Prop × AV} (h : pvSlice T [] t x lo hi = some r) : pvSlice T H t x lo hi = some r := by
  unfold pvSlice at h ⊢
  split at h <;> first | exact h | skip
  split at h <;> first | exact h | skip
  cases hx : x.strip <;> simp only [hx, ZE7] at h ⊢ <;> first | exact h | (simp at h; done)
theorem ZDd {T : Tab} {H : List (Nat × Blk)} {t : TypeId} {x i : AV} {r : Prop × AV} (h : pvIndexAddr T [] t x i = some r) : pvIndexAddr T H t x i = some r := by
  unfold pvIndexAddr at h ⊢
  split at h <;> first | exact h | skip
  split at h <;> first | exact h | skip
  split at h <;> first | exact h | skip
  cases hx : x.strip <;> simp only [hx, ZE7] at h ⊢ <;> first | exact h | (simp at h; done)
theorem ZHF {T : Tab} {H : List (Nat × Blk)} {t : TypeId} {x : AV} {r : Prop × AV} (h : pvLen T [] t x = some r) : pvLen T H t x = some r := by
  unfold pvLen at h ⊢
  cases ht : T t with
  | none => rw [ht] at h; cases h
  | some ti =>
    obtain ⟨k, sz, b, z⟩ := ti
    rw [ht] at h
    cases k <;> simp only at h ⊢ <;> first | exact h | (cases h; done) | (cases hx : x.strip <;> simp only [hx, ZE7] at h ⊢ <;> first | exact h | (cases h; done) | (rename_i y; cases y <;> first | exact h | (cases h; done)))
theorem ZE8 {T : Tab} {H : List (Nat × Blk)} {t : TypeId} {x k : AV} {r : Prop × AV} (h : pvLookup T [] t x k = some r) : pvLookup T H t x k = some r := by
  unfold pvLookup at h
  split at h
  · split at h
    · simp only [lkH] at h
      cases h
    · cases h
  · cases h
theorem ZHh {T : Tab} {H : List (Nat × Blk)} {ev : Operand → AV} {op : Op} {x : Prop × AV} (h : pv T [] ev op = some x) : pv T H ev op = some x := by
  cases op <;> simp only [pv] at h ⊢ <;> first | exact h | exact ZGE h | exact ZDd h | skip
  case lookup t y k c => cases c with
    | true => exact h
    | false => exact ZE8 h
  case slice t y lo hi mx => cases mx with
    | some _ => exact h
    | none => exact ZFq h
  case call c =>
    split at h <;> first | exact h | skip
    split at h <;> first | exact h | exact ZHF h
theorem ZEW {T : Tab} {H : List (Nat × Blk)} {ev : Operand → AV} {op : Op} {x : Prop × AV} (h : qb T ev op = some x) : pv T H ev op = none := by
  cases op <;> simp only [qb] at h <;> first | (cases h; done) | rfl
theorem ZBq {T : Tab} {H : List (Nat × Blk)} {ev : Operand → AV} {op : Op} {x : Prop × FuncId × List AV} (h : callee? ev op = some x) : pv T H ev op = none ∧ qb T ev op = none := by
  cases op <;> simp only [callee?] at h <;> first | (cases h; done) | skip
  rename_i c
  split at h <;> first | (cases h; done) | skip
  rename_i f hf
  exact ⟨by simp only [pv, hf], rfl⟩

section
variable {P : Program} {T : Tab} {n : Nat} {ops : Array Oper}

theorem ZFr {st : St} {o : Oper} {K : St → Prop} (hq : quietOp o.op = true) (h : AStep P T n ops o K ⟨st.env, []⟩) :
    ∃ r, K ((⟨st.env, []⟩ : St).put o.dst r) ∧ ∀ st' : St, (∀ t ∈ o.looksAt ops, lk st'.env t = lk st.env t) → AStep P T n ops o (fun s => s = st'.put o.dst r) st' := by
  obtain ⟨hd, h⟩ := h
  have key : ∀ (st' : St), (∀ t ∈ o.looksAt ops, lk st'.env t = lk st.env t) → guardB st' ops o.guard = guardB ⟨st.env, []⟩ ops o.guard ∧ pv T [] st'.ev o.op = pv T [] (St.ev ⟨st.env, []⟩) o.op ∧ qb T st'.ev o.op = qb T (St.ev ⟨st.env, []⟩) o.op ∧ callee? st'.ev o.op = callee? (St.ev ⟨st.env, []⟩) o.op := fun st' hl =>
    ⟨ZCm (st' := ⟨st.env, []⟩) hl, ZGb (ZBS (st' := ⟨st.env, []⟩) hl), ZGc (ZBS (st' := ⟨st.env, []⟩) hl), ZCO (ZBS (st' := ⟨st.env, []⟩) hl)⟩
  cases hg : guardB ⟨st.env, []⟩ ops o.guard with
  | none => rw [hg] at h; exact h.elim
  | some g =>
    rw [hg] at h
    cases g with
    | none =>
      simp only at h
      cases hp : pv T [] (St.ev ⟨st.env, []⟩) o.op with
      | some pr =>
        obtain ⟨φ, r⟩ := pr
        rw [hp] at h
        refine ⟨r, h.2, fun st' hl => ?_⟩
        obtain ⟨k1, k2, k3, k4⟩ := key st' hl
        unfold AStep; rw [k1, hg]; simp only [ZHh (k2.trans hp)]
        exact ⟨hd, h.1, trivial⟩
      | none =>
        rw [hp] at h; simp only at h
        cases hb : qb T (St.ev ⟨st.env, []⟩) o.op with
        | some pr =>
          obtain ⟨φ, r⟩ := pr
          rw [hb] at h
          refine ⟨r, h.2, fun st' hl => ?_⟩
          obtain ⟨k1, k2, k3, k4⟩ := key st' hl
          have hb' := k3.trans hb
          unfold AStep; rw [k1, hg]; simp only [ZEW hb', hb']
          exact ⟨hd, h.1, trivial⟩
        | none =>
          rw [hb] at h; simp only at h
          cases hc : callee? (St.ev ⟨st.env, []⟩) o.op with
          | some pr =>
            obtain ⟨ψ, k, args⟩ := pr
            rw [hc] at h; simp only at h
            obtain ⟨h1, r, h2, h3⟩ := h
            refine ⟨r, h3, fun st' hl => ?_⟩
            obtain ⟨k1, k2, k3, k4⟩ := key st' hl
            have hc' := k4.trans hc
            unfold AStep; rw [k1, hg]; simp only [(ZBq (T := T) (H := st'.heap) hc').1, (ZBq (T := T) (H := st'.heap) hc').2, hc']
            exact ⟨hd, h1, r, ⟨h2.1.sub (ZDu _ _), h2.2⟩, rfl⟩
          | none => rw [hc] at h; exact (ZGd hq h).elim
    | some b =>
      simp only at h
      cases hp : pv T [] (St.ev ⟨st.env, []⟩) o.op with
      | some pr =>
        obtain ⟨φ, r⟩ := pr
        rw [hp] at h
        refine ⟨.g b r, h.2, fun st' hl => ?_⟩
        obtain ⟨k1, k2, k3, k4⟩ := key st' hl
        unfold AStep; rw [k1, hg]; simp only [ZHh (k2.trans hp)]
        exact ⟨hd, h.1, trivial⟩
      | none =>
        rw [hp] at h; simp only at h
        cases hb : qb T (St.ev ⟨st.env, []⟩) o.op with
        | some pr =>
          obtain ⟨φ, r⟩ := pr
          rw [hb] at h
          refine ⟨.g b r, h.2, fun st' hl => ?_⟩
          obtain ⟨k1, k2, k3, k4⟩ := key st' hl
          have hb' := k3.trans hb
          unfold AStep; rw [k1, hg]; simp only [ZEW hb', hb']
          exact ⟨hd, h.1, trivial⟩
        | none =>
          rw [hb] at h; simp only at h
          cases hc : callee? (St.ev ⟨st.env, []⟩) o.op with
          | some pr =>
            obtain ⟨ψ, k, args⟩ := pr
            rw [hc] at h; simp only at h
            obtain ⟨r, h2, h3⟩ := h
            refine ⟨.g b r, h3, fun st' hl => ?_⟩
            obtain ⟨k1, k2, k3, k4⟩ := key st' hl
            have hc' := k4.trans hc
            unfold AStep; rw [k1, hg]; simp only [(ZBq (T := T) (H := st'.heap) hc').1, (ZBq (T := T) (H := st'.heap) hc').2, hc']
            exact ⟨hd, r, fun hb => ⟨(h2 hb).1, (h2 hb).2.1.sub (ZDu _ _), (h2 hb).2.2⟩, rfl⟩
          | none => rw [hc] at h; exact h.elim

def pk (d : Option Nat) (r : AV) (env : List (Nat × AV)) : List (Nat × AV) :=
  match d with
  | some d => (d, r) :: killE d env
  | none => env

theorem ZJv {st : St} {o : Oper} {K : St → Prop} (h : al T st o K) :
    ∃ r h', K ⟨pk o.dst r st.env, h'⟩ ∧ (∀ d d', o.dst = some d → d' ≠ d → r.kill d' = r) ∧ ∀ st' : St, st'.heap = st.heap → (∀ x ∈ o.op.operands, st'.ev x = st.ev x) → al T st' o (fun s => s = ⟨pk o.dst r st'.env, h'⟩) := by
  have ks : ∀ (d d1 d' : Nat), some d = some d1 → d' ≠ d1 → (AV.s d).kill d' = .s d := fun d d1 d' e hne => by injection e with e; subst e; rw [AV.kill, if_neg (Ne.symm hne)]
  have kp : ∀ (d d1 d' : Nat), some d = some d1 → d' ≠ d1 → (AV.p d 0).kill d' = .p d 0 := fun d d1 d' e hne => by injection e with e; subst e; rw [AV.kill, if_neg (Ne.symm hne)]
  obtain ⟨dst, op, ty, ps, af, gd⟩ := o
  cases op <;> simp only [al] at h <;> first | exact h.elim | skip
  case alloc t =>
    cases dst with
    | none => exact h.elim
    | some d =>
      cases ht : T t with
      | none => rw [ht] at h; exact h.elim
      | some ti =>
        rw [ht] at h
        refine ⟨.p d 0, _, h, kp d, fun st' hh hl => ?_⟩
        simp only [al, ht, hh, pk]
  case box t x =>
    cases dst with
    | none => exact h.elim
    | some d =>
      cases hc : cellsOf (st.ev x).strip with
      | none => rw [hc] at h; exact h.elim
      | some cs =>
        rw [hc] at h
        refine ⟨.p d 0, _, h.2, kp d, fun st' hh hl => ?_⟩
        simp only [al, hl x (by simp [Op.operands]), hc, hh, pk]
        exact ⟨h.1, trivial⟩
  case store t x y =>
    cases hx : (st.ev x).strip <;> simp only [hx] at h <;> first | exact h.elim | skip
    rename_i id off
    cases hc : cellsOf (st.ev y).strip <;> simp only [hc] at h <;> first | exact h.elim | skip
    rename_i cs
    cases ht : T t <;> simp only [ht] at h <;> first | exact h.elim | skip
    rename_i ti
    cases hk : lkH st.heap id with
    | none => rw [hk] at h; exact h.elim
    | some blk =>
      rw [hk] at h
      cases blk with
      | mp c => exact h.elim
      | mpa kd ks c => exact h.elim
      | box tb c =>
        simp only at h
        cases hu : c.updL off cs with
        | none => rw [hu] at h; exact h.elim
        | some c' =>
          rw [hu] at h
          have hd : dst = none := h.1.2.2.2.2.2
          subst hd
          refine ⟨.top, _, h.2, (fun d d' e => by cases e), fun st' hh hl => ?_⟩
          simp only [al, hl x (by simp [Op.operands]), hl y (by simp [Op.operands]), hx, hc, ht, hh, hk, hu, pk]
          exact ⟨by simpa using h.1, trivial⟩
      | row e sz c =>
        simp only at h
        cases hu : c.updL off cs with
        | none => rw [hu] at h; exact h.elim
        | some c' =>
          rw [hu] at h
          have hd : dst = none := h.1.2.2.2.2.2.2
          subst hd
          refine ⟨.top, _, h.2, (fun d d' e => by cases e), fun st' hh hl => ?_⟩
          simp only [al, hl x (by simp [Op.operands]), hl y (by simp [Op.operands]), hx, hc, ht, hh, hk, hu, pk]
          exact ⟨by simpa using h.1, trivial⟩
      | nst e c =>
        simp only at h
        cases hu : c.updL off cs with
        | none => rw [hu] at h; exact h.elim
        | some c' =>
          rw [hu] at h
          have hd : dst = none := h.1.2.2.2.2.2
          subst hd
          refine ⟨.top, _, h.2, (fun d d' e => by cases e), fun st' hh hl => ?_⟩
          simp only [al, hl x (by simp [Op.operands]), hl y (by simp [Op.operands]), hx, hc, ht, hh, hk, hu, pk]
          exact ⟨by simpa using h.1, trivial⟩
  case makeSlice t l c =>
    split at h <;> first | exact h.elim | skip
    rename_i d e s1 b1 z1 k1 nl k2 nc ht hl1 hc1
    cases hte : T e with
    | none => rw [hte] at h; exact h.elim
    | some te =>
      rw [hte] at h
      refine ⟨.s d, _, h.2, ks d, fun st' hh hl => ?_⟩
      simp only [al, hl l (by simp [Op.operands]), hl c (by simp [Op.operands]), ht, hl1, hc1, hte, hh, pk]
      exact ⟨h.1, trivial⟩
  case call c =>
    obtain ⟨callee, args, ats⟩ := c
    simp only at h
    split at h <;> first | exact h.elim | skip
    rename_i x y t t' hargs hats
    have hxm : x ∈ args := by have : x ∈ args.toList := by rw [hargs]; simp
                              simpa using this
    have hym : y ∈ args := by have : y ∈ args.toList := by rw [hargs]; simp
                              simpa using this
    split at h <;> first | exact h.elim | skip
    rename_i d e s1 b1 z1 ht
    cases hte : T e with
    | none => rw [hte] at h; exact h.elim
    | some te =>
      rw [hte] at h
      cases hbs : baseOf st.heap (st.ev x).strip with
      | none => rw [hbs] at h; exact h.elim
      | some bs =>
        rw [hbs] at h
        simp only at h
        cases hsr : srcOf st.heap te.sz (st.ev y).strip with
        | none => rw [hsr] at h; exact h.elim
        | some p =>
          obtain ⟨ψ, m, src⟩ := p
          rw [hsr] at h
          simp only at h
          cases bs with
          | none =>
            cases hk : te.k <;> simp only [hk] at h <;> (
              obtain ⟨ys, h1, h2⟩ := h
              refine ⟨.s d, _, h2, ks d, fun st' hh hl => ?_⟩
              simp only [al, hl x (by simp [Op.operands, Call.operands, hxm]), hl y (by simp [Op.operands, Call.operands, hym]), hargs, hats, ht, hte, hh, hbs, hsr, pk, hk]
              exact ⟨ys, h1, rfl⟩)
          | some p =>
            obtain ⟨id, e', sz, c⟩ := p
            cases hk : te.k <;> cases c <;> simp only [hk] at h <;> first | exact h.elim | (
              obtain ⟨ys, h1, h2⟩ := h
              refine ⟨.s d, _, h2, ks d, fun st' hh hl => ?_⟩
              simp only [al, hl x (by simp [Op.operands, Call.operands, hxm]), hl y (by simp [Op.operands, Call.operands, hym]), hargs, hats, ht, hte, hh, hbs, hsr, pk, hk]
              exact ⟨ys, h1, rfl⟩)

theorem ZFs {st : St} {o : Oper} {K : St → Prop} (hq : quietOp o.op = false) (h : AStep P T n ops o K st) :
    ∃ r h', K ⟨pk o.dst r st.env, h'⟩ ∧ (∀ d d', o.dst = some d → d' ≠ d → r.kill d' = r) ∧ ∀ st' : St, st'.heap = st.heap → (∀ t ∈ o.looksAt ops, lk st'.env t = lk st.env t) → AStep P T n ops o (fun s => s = ⟨pk o.dst r st'.env, h'⟩) st' := by
  have hno : ∀ (H : List (Nat × Blk)) (ev : Operand → AV), pv T H ev o.op = none ∧ qb T ev o.op = none ∧ callee? ev o.op = none := fun H ev => by
    cases ho : o.op <;> rw [ho] at hq <;> simp only [quietOp] at hq <;> first | (cases hq; done) | exact ⟨rfl, rfl, rfl⟩ | skip
    rename_i c
    cases hc : c.callee with
    | value f => rw [hc] at hq; cases hq
    | invoke r m => exact ⟨by simp only [pv, hc], rfl, by simp only [callee?, hc]⟩
    | builtin b => cases b <;> rw [hc] at hq <;> first | (cases hq; done) | exact ⟨by simp only [pv, hc], rfl, by simp only [callee?, hc]⟩
  obtain ⟨hd, h⟩ := h
  obtain ⟨n1, n2, n3⟩ := hno st.heap st.ev
  cases hg : guardB st ops o.guard with
  | none => rw [hg] at h; exact h.elim
  | some g =>
    rw [hg] at h
    cases g with
    | some b => simp only [n1, n2, n3] at h
    | none =>
      simp only [n1, n2, n3] at h
      obtain ⟨r, h', h1, h2, h3⟩ := ZJv h
      refine ⟨r, h', h1, h2, fun st' hh hl => ?_⟩
      obtain ⟨m1, m2, m3⟩ := hno st'.heap st'.ev
      unfold AStep
      rw [ZCm hl, hg]
      simp only [m1, m2, m3]
      exact ⟨hd, h3 st' hh (ZBS hl)⟩
def stepB (T : Tab) (n : Nat) (o : Oper) (K : St → Prop) (st : St) : Prop := o.guard = none ∧ dstOk n o.dst ∧ alB T st o.dst o.op K
theorem ZEX {st : St} {o : Oper} {K : St → Prop} (h : stepB T n o K st) :
    ∃ r h', K ⟨pk o.dst r st.env, h'⟩ ∧ (∀ d d', o.dst = some d → d' ≠ d → r.kill d' = r) ∧ ∀ st' : St, st'.heap = st.heap → (∀ t ∈ o.looksAt ops, lk st'.env t = lk st.env t) → stepB T n o (fun s => s = ⟨pk o.dst r st'.env, h'⟩) st' := by
  obtain ⟨hg, hd, h⟩ := h
  have hev : ∀ st' : St, (∀ t ∈ o.looksAt ops, lk st'.env t = lk st.env t) → ∀ x ∈ o.op.operands, st'.ev x = st.ev x := fun st' hl => ZBS hl
  obtain ⟨dst, op, ty, ps, af, gd⟩ := o
  simp only at hev hg hd h ⊢
  cases dst with
  | none => cases op <;> simp only [alB] at h
  | some d =>
    have ks : ∀ (d1 d' : Nat), some d = some d1 → d' ≠ d1 → (AV.s d).kill d' = .s d := fun d1 d' e hne => by injection e with e; subst e; rw [AV.kill, if_neg (Ne.symm hne)]
    cases op <;> simp only [alB] at h
    rename_i t len parts
    have hparts : ∀ st' : St, (∀ t ∈ Oper.looksAt ops ⟨some d, .buildSlice t len parts, ty, ps, af, gd⟩, lk st'.env t = lk st.env t) → (parts.toList.map fun p => (p.1, st'.ev p.2)) = (parts.toList.map fun p => (p.1, st.ev p.2)) := fun st' hl =>
      List.map_congr_left fun p hp => by rw [hev st' hl p.2 (by simp only [Op.operands, List.mem_toArray, List.mem_map]; exact ⟨p, hp, rfl⟩)]
    split at h <;> first | exact h.elim | skip
    rename_i e s1 b1 z1 ht
    cases hte : T e with
    | none => rw [hte] at h; exact h.elim
    | some te =>
      rw [hte] at h
      simp only at h
      split at h <;> first | exact h.elim | skip
      rename_i ψ cs hfill
      cases hk : te.k <;> simp only [hk] at h
      case int k =>
        split at h <;> first | exact h.elim | skip
        rename_i l hl0
        refine ⟨.s d, _, h.2, ks, fun st' hh hl => ⟨hg, hd, ?_⟩⟩
        simp only [alB, ht, hte, hparts st' hl, hfill, hk, hl0, hh, pk]
        exact ⟨h.1, trivial⟩
      all_goals
        refine ⟨.s d, _, h.2, ks, fun st' hh hl => ⟨hg, hd, ?_⟩⟩
        simp only [alB, ht, hte, hparts st' hl, hfill, hk, hh, pk]
        exact ⟨h.1, trivial⟩
def stepC (T : Tab) (n : Nat) (o : Oper) (K : St → Prop) (st : St) : Prop := o.guard = none ∧ dstOk n o.dst ∧ alC T st o.dst o.op K
theorem ZEY {st : St} {o : Oper} {K : St → Prop} (h : stepC T n o K st) :
    ∃ r h', K ⟨pk o.dst r st.env, h'⟩ ∧ (∀ d d', o.dst = some d → d' ≠ d → r.kill d' = r) ∧ ∀ st' : St, st'.heap = st.heap → (∀ t ∈ o.looksAt ops, lk st'.env t = lk st.env t) → stepC T n o (fun s => s = ⟨pk o.dst r st'.env, h'⟩) st' := by
  obtain ⟨hg, hd, h⟩ := h
  have hev : ∀ st' : St, (∀ t ∈ o.looksAt ops, lk st'.env t = lk st.env t) → ∀ x ∈ o.op.operands, st'.ev x = st.ev x := fun st' hl => ZBS hl
  obtain ⟨dst, op, ty, ps, af, gd⟩ := o
  simp only at hev hg hd h ⊢
  have ks : ∀ (d d1 d' : Nat), some d = some d1 → d' ≠ d1 → (AV.s d).kill d' = .s d := fun d d1 d' e hne => by injection e with e; subst e; rw [AV.kill, if_neg (Ne.symm hne)]
  rcases h with h | h | h
  · unfold MapUpdA at h
    split at h <;> first | exact h.elim | skip
    rename_i t m k v
    split at h <;> first | exact h.elim | skip
    rename_i kt e1 s1 b1 z1 ht
    split at h <;> first | exact h.elim | skip
    rename_i tk id kv htk hm hk
    split at h <;> first | exact h.elim | skip
    rename_i kd ks' l key hl hkey
    have hdst : dst = none := h.1.2.2.2.1
    subst hdst
    refine ⟨.top, _, h.2, (fun d d' e => by cases e), fun st' hh hle => ⟨hg, hd, .inl ?_⟩⟩
    have em := hev st' hle m (by simp [Op.operands])
    have ek := hev st' hle k (by simp [Op.operands])
    have ev := hev st' hle v (by simp [Op.operands])
    simp only [MapUpdA, ht, htk, em, ek, ev, hm, hk, hh, hl, hkey, pk]
    exact ⟨by simpa using h.1, trivial⟩
  · unfold NstLit at h
    split at h <;> first | exact h.elim | skip
    rename_i t len parts d
    split at h <;> first | exact h.elim | skip
    rename_i e s1 b1 z1 ht
    cases hte : T e with
    | none => rw [hte] at h; exact h.elim
    | some te =>
      rw [hte] at h
      simp only at h
      split at h <;> first | exact h.elim | skip
      rename_i ψ cs hfill
      have hparts : ∀ st' : St, (∀ t ∈ Oper.looksAt ops ⟨some d, .buildSlice t len parts, ty, ps, af, gd⟩, lk st'.env t = lk st.env t) → (parts.toList.map fun p => (p.1, st'.ev p.2)) = (parts.toList.map fun p => (p.1, st.ev p.2)) := fun st' hl =>
        List.map_congr_left fun p hp => by rw [hev st' hl p.2 (by simp only [Op.operands, List.mem_toArray, List.mem_map]; exact ⟨p, hp, rfl⟩)]
      refine ⟨.s d, _, h.2, ks d, fun st' hh hl => ⟨hg, hd, .inr (.inl ?_)⟩⟩
      simp only [NstLit, ht, hte, hparts st' hl, hfill, hh, pk]
      exact ⟨h.1, trivial⟩
  · unfold AppN at h
    split at h <;> first | exact h.elim | skip
    rename_i c d
    split at h <;> first | exact h.elim | skip
    rename_i x y t t' hcal hargs hats
    have hxm : x ∈ c.args := by have : x ∈ c.args.toList := by rw [hargs]; simp
                                simpa using this
    have hym : y ∈ c.args := by have : y ∈ c.args.toList := by rw [hargs]; simp
                                simpa using this
    split at h <;> first | exact h.elim | skip
    rename_i e s1 b1 z1 ht
    split at h <;> first | exact h.elim | skip
    rename_i te id2 hte hy
    split at h <;> first | exact h.elim | skip
    rename_i e2 ys hk2
    have ex : ∀ st' : St, (∀ t ∈ Oper.looksAt ops ⟨some d, .call c, ty, ps, af, gd⟩, lk st'.env t = lk st.env t) → st'.ev x = st.ev x := fun st' hl => hev st' hl x (by cases hc : c.callee <;> simp [Op.operands, Call.operands, hc, hxm])
    have ey : ∀ st' : St, (∀ t ∈ Oper.looksAt ops ⟨some d, .call c, ty, ps, af, gd⟩, lk st'.env t = lk st.env t) → st'.ev y = st.ev y := fun st' hl => hev st' hl y (by cases hc : c.callee <;> simp [Op.operands, Call.operands, hc, hym])
    split at h <;> first | exact h.elim | skip
    · rename_i hx
      refine ⟨.s d, _, h.2, ks d, fun st' hh hl => ⟨hg, hd, .inr (.inr ?_)⟩⟩
      simp only [AppN, hcal, hargs, hats, ht, hte, ex st' hl, ey st' hl, hy, hx, hh, hk2, pk]
      exact ⟨h.1, trivial⟩
    · rename_i id hx
      split at h <;> first | exact h.elim | skip
      rename_i e1 l hk1
      refine ⟨.s d, _, h.2, ks d, fun st' hh hl => ⟨hg, hd, .inr (.inr ?_)⟩⟩
      simp only [AppN, hcal, hargs, hats, ht, hte, ex st' hl, ey st' hl, hy, hx, hh, hk2, hk1, pk]
      exact ⟨h.1, trivial⟩
end
end Go.Eng
namespace Go.Eng
open Go.RowKit

def killsL : List Nat → AV → Prop
  | [], _ => True
  | d :: r, v => v.kill d = v ∧ killsL r v
theorem ZBO : ∀ {R : List Nat} {v : AV}, killsL R v → ∀ d ∈ R, v.kill d = v
  | [], _, _, d, hd => by simp at hd
  | e :: R, v, h, d, hd => by
    rcases List.mem_cons.1 hd with rfl | hd
    · exact h.1
    · exact ZBO h.2 d hd
def killsE : List Nat → List (Nat × AV) → Prop
  | _, [] => True
  | R, (_, v) :: r => killsL R v ∧ killsE R r
theorem ZCo : ∀ {R : List Nat} {E : List (Nat × AV)}, killsE R E → ∀ p ∈ E, ∀ d ∈ R, p.2.kill d = p.2
  | _, [], _, p, hp, _, _ => by simp at hp
  | R, (k, v) :: r, h, p, hp, d, hd => by
    rcases List.mem_cons.1 hp with rfl | hp
    · exact ZBO h.1 d hd
    · exact ZCo h.2 p hp d hd
def dstV (st : St) : Option Nat → AV
  | some d => lk st.env d
  | none => .top

def qq (p : Nat × List Nat) (o : Oper) : Bool := quietOp o.op && !(p.1 == 3) && !(p.1 == 4)
def qf (rs : List (Nat × List Nat)) (i : Nat) (o : Oper) : Bool := qq (rs.getD i (0, [])) o
def AOps2 (P : Program) (T : Tab) (n : Nat) (ops : Array Oper) (K : St → Prop) : List Oper → List (Nat × List Nat) → St → Prop
  | [], _, st => K st
  | _ :: _, [], _ => False
  | o :: rest, (un, R) :: rs, st =>
    bif qq (un, R) o then
      bif un == 1 then AStep P T n ops o (fun s => killsL R (dstV s o.dst) ∧ AOps2 P T n ops K rest rs ⟨s.env, st.heap⟩) ⟨st.env, []⟩
      else AStep P T n ops o (fun s => killsL R (dstV s o.dst) ∧ AOps2 P T n ops K rest rs s) st
    else bif un == 3 then stepB T n o (fun s => AOps2 P T n ops K rest rs s) st
    else bif un == 4 then stepC T n o (fun s => AOps2 P T n ops K rest rs s) st
    else AStep P T n ops o (fun s => AOps2 P T n ops K rest rs s) st

def loudDs : List Oper → List (Nat × List Nat) → List Nat
  | [], _ => []
  | o :: l, rs => (bif qq (rs.headD (0, [])) o then [] else o.dst.toList) ++ loudDs l rs.tail
theorem ZDM : ∀ {l : List Oper} {rs : List (Nat × List Nat)} {i : Nat} {o : Oper} {d : Nat}, l[i]? = some o → qf rs i o = false → o.dst = some d → d ∈ loudDs l rs
  | [], rs, i, o, d, h, _, _ => by simp at h
  | x :: l, rs, 0, o, d, h, hq, hd => by
    simp at h; subst h
    have : qq (rs.headD (0, [])) x = false := by
      cases rs <;> simpa [qf] using hq
    simp only [loudDs, this, cond_false, hd, Option.toList, List.mem_append]
    exact .inl (by simp)
  | x :: l, rs, i + 1, o, d, h, hq, hd => by
    simp at h
    have : qf rs.tail i o = false := by
      cases rs <;> simpa [qf] using hq
    simp only [loudDs, List.mem_append]
    exact .inr (ZDM h this hd)
def conf2 (qx qy : Bool) (ops : Array Oper) (x y : Oper) : Bool :=
  (match x.dst with | some d => (y.looksAt ops).contains d || y.dst == some d | none => false) ||
  (match y.dst with | some d => (x.looksAt ops).contains d | none => false) || (!qx && !qy)
def drawOk2 (l : List Oper) (ms : List Nat) (rs : List (Nat × List Nat)) : Bool :=
  (List.range l.length).all fun j => match l[j]? with
    | none => true
    | some oj => oj.after.toList.all (fun e => !Region.binds .any e || decide (e.on < j)) && ((ms.getD j 0 &&& uni ms oj.after.toList) == ms.getD j 0) &&
      (List.range l.length).all fun i => match l[i]? with
        | none => true
        | some oi =>
          (!(decide (i < j) && conf2 (qf rs i oi) (qf rs j oj) l.toArray oi oj) || (ms.getD j 0).testBit i) &&
          (!(decide (i < j) && (!qf rs i oi && !qf rs j oj)) || oi.dst.isNone || oi.dst != oj.dst) &&
          (!(qf rs j oj && !qf rs i oi) || ((rs.getD j (0, [])).1 == 1 || (ms.getD j 0).testBit i || (ms.getD i 0).testBit j)) &&
          (!(qf rs j oj && !qf rs i oi) || ((ms.getD j 0).testBit i || match oi.dst with | some d => (rs.getD j (0, [])).2.contains d | none => true))

structure DrawOk2 (l : List Oper) (ms : List Nat) (rs : List (Nat × List Nat)) : Prop where
  lt : ∀ j (o : Oper), l[j]? = some o → ∀ e ∈ o.after, Region.binds .any e = true → e.on < j
  sub : ∀ j (o : Oper), l[j]? = some o → ∀ i, (ms.getD j 0).testBit i = true → ∃ e ∈ o.after, Region.binds .any e = true ∧ (e.on = i ∨ (ms.getD e.on 0).testBit i = true)
  conf : ∀ (i j : Nat) (oi oj : Oper), i < j → l[i]? = some oi → l[j]? = some oj → conf2 (qf rs i oi) (qf rs j oj) l.toArray oi oj = true → (ms.getD j 0).testBit i = true
  apart : ∀ (i j : Nat) (oi oj : Oper) (d : Nat), i ≠ j → l[i]? = some oi → l[j]? = some oj → qf rs i oi = false → qf rs j oj = false → oi.dst = some d → oj.dst ≠ some d
  tied : ∀ (i j : Nat) (oi oj : Oper), l[i]? = some oi → l[j]? = some oj → qf rs j oj = true → qf rs i oi = false → ((rs.getD j (0, [])).1 == 1) = false → (ms.getD j 0).testBit i = true ∨ (ms.getD i 0).testBit j = true
  kills : ∀ (i j : Nat) (oi oj : Oper) (d : Nat), l[i]? = some oi → l[j]? = some oj → qf rs j oj = true → qf rs i oi = false → oi.dst = some d → (ms.getD j 0).testBit i = false → d ∈ (rs.getD j (0, [])).2

theorem ZDZ {l : List Oper} {ms : List Nat} {rs : List (Nat × List Nat)} (h : drawOk2 l ms rs = true) : DrawOk2 l ms rs := by
  unfold drawOk2 at h
  rw [List.all_eq_true] at h
  have hj : ∀ j o, l[j]? = some o → j < l.length := fun j o hj => (List.getElem?_eq_some_iff.1 hj).1
  have key : ∀ i j (oi oj : Oper), l[i]? = some oi → l[j]? = some oj →
      (((!(decide (i < j) && conf2 (qf rs i oi) (qf rs j oj) l.toArray oi oj) || (ms.getD j 0).testBit i) = true ∧
          (!(decide (i < j) && (!qf rs i oi && !qf rs j oj)) || oi.dst.isNone || oi.dst != oj.dst) = true) ∧
          (!(qf rs j oj && !qf rs i oi) || ((rs.getD j (0, [])).1 == 1 || (ms.getD j 0).testBit i || (ms.getD i 0).testBit j)) = true) ∧
          (!(qf rs j oj && !qf rs i oi) || ((ms.getD j 0).testBit i || match oi.dst with | some d => (rs.getD j (0, [])).2.contains d | none => true)) = true := fun i j oi oj hi ho => by
    have h1 := h j (by simp [hj j _ ho])
    simp only [ho, Bool.and_eq_true] at h1
    have := List.all_eq_true.1 h1.2 i (by simp [hj i _ hi])
    simp only [hi] at this
    simpa only [Bool.and_eq_true] using this
  refine ⟨fun j o ho e he hb => ?_, fun j o ho i hi => ?_, fun i j oi oj hij hi ho hc => ?_, fun i j oi oj d hne hi ho q1 q2 hd hd2 => ?_, fun i j oi oj hi ho q1 q2 hu => ?_, fun i j oi oj d hi ho q1 q2 hd ht => ?_⟩
  · have h1 := h j (by simp [hj j _ ho])
    simp only [ho, Bool.and_eq_true] at h1
    have := List.all_eq_true.1 h1.1.1 e (by simpa using he)
    simpa [hb] using this
  · have h1 := h j (by simp [hj j _ ho])
    simp only [ho, Bool.and_eq_true] at h1
    have h2 : (ms.getD j 0 &&& uni ms o.after.toList) = ms.getD j 0 := by simpa using h1.1.2
    rw [← h2, Nat.testBit_and] at hi
    simp only [Bool.and_eq_true] at hi
    obtain ⟨e, h3, h4⟩ := ZDf hi.2
    exact ⟨e, by simpa using h3, h4⟩
  · have := (key i j oi oj hi ho).1.1.1
    simpa [hij, hc] using this
  · rcases Nat.lt_or_ge i j with hlt | hge
    · have := (key i j oi oj hi ho).1.1.2
      simp [hlt, q1, q2, hd, hd2] at this
    · have := (key j i oj oi ho hi).1.1.2
      simp [show j < i by omega, q1, q2, hd, hd2] at this
  · have := (key i j oi oj hi ho).1.2
    rw [hu] at this
    simpa [q1, q2] using this
  · have := (key i j oi oj hi ho).2
    rw [ht] at this
    simpa [q1, q2, hd] using this

theorem ZB8 {d : Nat} : ∀ {E : List (Nat × AV)}, (∀ p ∈ E, p.2.kill d = p.2) → killE d E = E
  | [], _ => rfl
  | (k, v) :: r, h => by
    simp only [killE]
    rw [h (k, v) (by simp), ZB8 (fun p hp => h p (by simp [hp]))]
theorem ZE9 {E : List (Nat × AV)} {l : List Oper} {val : Nat → AV} {L : Nat → Bool} {k d : Nat} (hE : ∀ p ∈ E, p.2.kill d = p.2) (hv : ∀ i, L i = true → (l[i]?).bind (·.dst) ≠ none → (val i).kill d = val i) : ∀ c, ∀ p ∈ elist E l val L k c, p.2.kill d = p.2
  | 0, p, hp => hE p hp
  | c + 1, p, hp => by
    have ih := ZE9 (k := k) hE hv c
    simp only [elist] at hp
    split at hp
    · rename_i d' heq
      split at heq
      · rename_i hL
        rcases List.mem_cons.1 hp with rfl | hp
        · exact hv _ hL (by rw [heq]; simp)
        · exact ih p hp
      · cases heq
    · exact ih p hp

section
variable {P : Program} {T : Tab} (hT : T.ok P) {n B : Nat} {w0 : Orig} {l : List Oper} {ms : List Nat} {rs : List (Nat × List Nat)} (hD : DrawOk2 l ms rs)

theorem trace2_ex {K : St → Prop} : ∀ (q : List Oper) (rs : List (Nat × List Nat)) (st : St), AOps2 P T n l.toArray K q rs st → ∃ (σ : Nat → St) (val : Nat → AV), σ 0 = st ∧ K (σ q.length) ∧
    (∀ i o, q[i]? = some o → qf rs i o = true → σ (i + 1) = (σ i).put o.dst (val i) ∧ (o.dst ≠ none → killsL (rs.getD i (0, [])).2 (val i)) ∧
      ∀ st' : St, (((rs.getD i (0, [])).1 == 1) = false → st'.heap = (σ i).heap) → (∀ t ∈ o.looksAt l.toArray, lk st'.env t = lk (σ i).env t) → AStep P T n l.toArray o (fun s => s = st'.put o.dst (val i)) st') ∧
    (∀ i o, q[i]? = some o → qf rs i o = false → ∃ h', σ (i + 1) = ⟨pk o.dst (val i) (σ i).env, h'⟩ ∧ (∀ d d', o.dst = some d → d' ≠ d → (val i).kill d' = val i) ∧
      ∀ st' : St, st'.heap = (σ i).heap → (∀ t ∈ o.looksAt l.toArray, lk st'.env t = lk (σ i).env t) → AStepX P T n l.toArray o (fun s => s = ⟨pk o.dst (val i) st'.env, h'⟩) st')
  | [], rs, st, h => ⟨fun _ => st, fun _ => .top, rfl, h, fun i o hi => by simp at hi, fun i o hi => by simp at hi⟩
  | o :: q, [], st, h => h.elim
  | o :: q, (un, R) :: rs, st, h => by
    have putV : ∀ (s : St) (r : AV), o.dst ≠ none → dstV (s.put o.dst r) o.dst = r := fun s r hd => by
      cases hd' : o.dst with
      | none => exact absurd hd' hd
      | some d => simp [dstV, St.put, lk]
    simp only [AOps2] at h
    cases hq : qq (un, R) o with
    | true =>
      have hq0 : quietOp o.op = true := by simp only [qq, Bool.and_eq_true] at hq; exact hq.1.1
      rw [hq] at h
      simp only [cond_true] at h
      cases hu : (un == 1) with
      | true =>
        rw [hu] at h
        simp only [cond_true] at h
        obtain ⟨r, ⟨h1, h2⟩, h3⟩ := ZFr hq0 h
        have h2' : AOps2 P T n l.toArray K q rs (st.put o.dst r) := by
          cases hd : o.dst <;> rw [hd] at h2 <;> exact h2
        obtain ⟨σ, val, s0, sN, sq, sl⟩ := trace2_ex q rs _ h2'
        refine ⟨fun i => match i with | 0 => st | i + 1 => σ i, fun i => match i with | 0 => r | i + 1 => val i, rfl, sN, fun i o' hi hq' => ?_, fun i o' hi hq' => ?_⟩
        · cases i with
          | zero =>
            simp at hi; subst hi
            exact ⟨s0, fun hd => by rw [putV _ _ hd] at h1; exact h1, fun st' _ hl => h3 st' hl⟩
          | succ i => simp at hi; exact sq i o' hi (by simpa [qf] using hq')
        · cases i with
          | zero => simp at hi; subst hi; simp [qf, hq] at hq'
          | succ i => simp at hi; exact sl i o' hi (by simpa [qf] using hq')
      | false =>
        rw [hu] at h
        simp only [cond_false] at h
        obtain ⟨r, ⟨h1, h2⟩, h3⟩ := ZCb hq0 h
        obtain ⟨σ, val, s0, sN, sq, sl⟩ := trace2_ex q rs _ h2
        refine ⟨fun i => match i with | 0 => st | i + 1 => σ i, fun i => match i with | 0 => r | i + 1 => val i, rfl, sN, fun i o' hi hq' => ?_, fun i o' hi hq' => ?_⟩
        · cases i with
          | zero =>
            simp at hi; subst hi
            exact ⟨s0, fun hd => by rw [putV _ _ hd] at h1; exact h1, fun st' hh hl => h3 st' (hh hu) hl⟩
          | succ i => simp at hi; exact sq i o' hi (by simpa [qf] using hq')
        · cases i with
          | zero => simp at hi; subst hi; simp [qf, hq] at hq'
          | succ i => simp at hi; exact sl i o' hi (by simpa [qf] using hq')
    | false =>
      rw [hq] at h
      simp only [cond_false] at h
      have hX : ∃ r h', AOps2 P T n l.toArray K q rs ⟨pk o.dst r st.env, h'⟩ ∧ (∀ d d', o.dst = some d → d' ≠ d → r.kill d' = r) ∧
          ∀ st' : St, st'.heap = st.heap → (∀ t ∈ o.looksAt l.toArray, lk st'.env t = lk st.env t) → AStepX P T n l.toArray o (fun s => s = ⟨pk o.dst r st'.env, h'⟩) st' := by
        cases hu : (un == 3) with
        | true =>
          rw [hu] at h
          simp only [cond_true] at h
          obtain ⟨r, h', h1, h2, h3⟩ := ZEX (ops := l.toArray) h
          exact ⟨r, h', h1, h2, fun st' hh hl => .inr (.inl (h3 st' hh hl))⟩
        | false =>
          rw [hu] at h
          simp only [cond_false] at h
          cases hu4 : (un == 4) with
          | true =>
            rw [hu4] at h
            simp only [cond_true] at h
            obtain ⟨r, h', h1, h2, h3⟩ := ZEY (ops := l.toArray) h
            exact ⟨r, h', h1, h2, fun st' hh hl => .inr (.inr (.inr (h3 st' hh hl)))⟩
          | false =>
            rw [hu4] at h
            simp only [cond_false] at h
            have hq0 : quietOp o.op = false := by simpa [qq, hu, hu4] using hq
            obtain ⟨r, h', h1, h2, h3⟩ := ZFs hq0 h
            exact ⟨r, h', h1, h2, fun st' hh hl => .inl (h3 st' hh hl)⟩
      obtain ⟨r, h', h1, h2, h3⟩ := hX
      obtain ⟨σ, val, s0, sN, sq, sl⟩ := trace2_ex q rs _ h1
      refine ⟨fun i => match i with | 0 => st | i + 1 => σ i, fun i => match i with | 0 => r | i + 1 => val i, rfl, sN, fun i o' hi hq' => ?_, fun i o' hi hq' => ?_⟩
      · cases i with
        | zero => simp at hi; subst hi; simp [qf, hq] at hq'
        | succ i => simp at hi; exact sq i o' hi (by simpa [qf] using hq')
      · cases i with
        | zero =>
          simp at hi; subst hi
          exact ⟨h', s0, h2, h3⟩
        | succ i => simp at hi; exact sl i o' hi (by simpa [qf] using hq')

include hD
theorem closed_mask2 {L : Nat → Bool} (hdc : ∀ j o, l[j]? = some o → L j = true → ∀ e ∈ o.after, Region.binds .any e = true → L e.on = true) :
    ∀ (m j : Nat), j < m → ∀ o, l[j]? = some o → (∀ e ∈ o.after, Region.binds .any e = true → L e.on = true) → ∀ i, (ms.getD j 0).testBit i = true → L i = true
  | 0, j, hm => by omega
  | m + 1, j, hm => by
    intro o ho hdep i hi
    obtain ⟨e, he, hb, h⟩ := hD.sub j o ho i hi
    have hlt := hD.lt j o ho e he hb
    have hLe := hdep e he hb
    rcases h with h | h
    · rw [← h]; exact hLe
    · have hjl := (List.getElem?_eq_some_iff.1 ho).1
      have ho' : l[e.on]? = some l[e.on] := List.getElem?_eq_getElem (by omega)
      exact closed_mask2 hdc m e.on (by omega) _ ho' (hdc _ _ ho' hLe) i h
theorem mask_lt : ∀ (m j : Nat), j < m → ∀ o, l[j]? = some o → ∀ i, (ms.getD j 0).testBit i = true → i < j
  | 0, j, hm => by omega
  | m + 1, j, hm => by
    intro o ho i hi
    obtain ⟨e, he, hb, h⟩ := hD.sub j o ho i hi
    have hlt := hD.lt j o ho e he hb
    rcases h with h | h
    · omega
    · have hjl := (List.getElem?_eq_some_iff.1 ho).1
      have ho' : l[e.on]? = some l[e.on] := List.getElem?_eq_getElem (by omega)
      have := mask_lt m e.on (by omega) _ ho' i h
      omega

include hT in
theorem any_ok2 {Q : Exit → Act → World → Prop} (σ : Nat → St) (val : Nat → AV) (h0 : ∀ i o, l[i]? = some o → ∀ d, qf rs i o = false → o.dst = some d → ∀ p ∈ (σ 0).env, p.2.kill d = p.2)
    (hqt : ∀ i o, l[i]? = some o → qf rs i o = true → σ (i + 1) = (σ i).put o.dst (val i) ∧ (o.dst ≠ none → killsL (rs.getD i (0, [])).2 (val i)) ∧
      ∀ st' : St, (((rs.getD i (0, [])).1 == 1) = false → st'.heap = (σ i).heap) → (∀ t ∈ o.looksAt l.toArray, lk st'.env t = lk (σ i).env t) → AStep P T n l.toArray o (fun s => s = st'.put o.dst (val i)) st')
    (hld : ∀ i o, l[i]? = some o → qf rs i o = false → ∃ h', σ (i + 1) = ⟨pk o.dst (val i) (σ i).env, h'⟩ ∧ (∀ d d', o.dst = some d → d' ≠ d → (val i).kill d' = val i) ∧
      ∀ st' : St, st'.heap = (σ i).heap → (∀ t ∈ o.looksAt l.toArray, lk st'.env t = lk (σ i).env t) → AStepX P T n l.toArray o (fun s => s = ⟨pk o.dst (val i) st'.env, h'⟩) st')
    (hQ : ∀ a w, G n B w0 (σ l.length) a w → Q .normal a w) :
    ∀ (fuel : Nat) (listed : Array Bool) (a : Act) (w : World), listed.size = l.length →
      (∀ j o, l[j]? = some o → listed.getD j false = true → ∀ e ∈ o.after, Region.binds .any e = true → listed.getD e.on false = true) →
      (List.range l.length).countP (fun i => !listed.getD i false) ≤ fuel →
      (∃ m, m ≤ l.length ∧ (∀ i o, l[i]? = some o → qf rs i o = false → (listed.getD i false = true ↔ i < m)) ∧
        G n B w0 ⟨elist (σ 0).env l val (fun i => listed.getD i false) 0 l.length, (σ m).heap⟩ a w) →
      wpAnyIn (fo w0) 0 P .any l.toArray Q fuel listed a w := by
  intro fuel
  have hlen : ∀ j o, l[j]? = some o → j < l.length := fun j o hj => (List.getElem?_eq_some_iff.1 hj).1
  -- no reference to what a loud operation makes, ahead of it
  have nr : ∀ i0 o0 d, l[i0]? = some o0 → qf rs i0 o0 = false → o0.dst = some d → ∀ i, i ≤ i0 → (∀ p ∈ (σ i).env, p.2.kill d = p.2) ∧ ∀ i', i' < i → ∀ o', l[i']? = some o' → (σ (i' + 1)).env = ((σ i').put o'.dst (val i')).env := by
    intro i0
    induction i0 using Nat.strongRecOn with
    | _ i0 IH =>
    intro o0 d ho0 hq0 hd0 i
    induction i with
    | zero => intro _; exact ⟨h0 i0 o0 ho0 d hq0 hd0, fun i' hi' => by omega⟩
    | succ i ih =>
      intro hi
      obtain ⟨ih1, ih2⟩ := ih (by omega)
      have hil : i < l.length := by have := hlen _ _ ho0; omega
      have hoi : l[i]? = some l[i] := List.getElem?_eq_getElem hil
      cases hq : qf rs i l[i] with
      | true =>
        obtain ⟨e1, e2, _⟩ := hqt i _ hoi hq
        refine ⟨fun p hp => ?_, fun i' hi' o' ho' => ?_⟩
        · rw [e1] at hp
          cases hdi : (l[i]).dst with
          | none => rw [hdi] at hp; exact ih1 p hp
          | some di =>
            rw [hdi] at hp
            simp only [St.put] at hp
            rcases List.mem_cons.1 hp with rfl | hp
            · refine ZBO (e2 (by rw [hdi]; simp)) d (hD.kills i0 i _ _ d ho0 hoi hq hq0 hd0 ?_)
              cases hb : (ms.getD i 0).testBit i0 with
              | false => rfl
              | true => have := mask_lt hD (i + 1) i (by omega) _ hoi i0 hb; omega
            · exact ih1 p hp
        · rcases Nat.lt_or_ge i' i with h | h
          · exact ih2 i' h o' ho'
          · have : i' = i := by omega
            subst this
            rw [hoi] at ho'; injection ho' with ho'; subst ho'
            rw [e1]
      | false =>
        obtain ⟨h', e1, e2, _⟩ := hld i _ hoi hq
        have henv : (σ (i + 1)).env = ((σ i).put (l[i]).dst (val i)).env := by
          rw [e1]
          cases hdi : (l[i]).dst with
          | none => rfl
          | some di =>
            simp only [pk, St.put]
            rw [ZB8 (IH i (by omega) _ di hoi hq hdi i (Nat.le_refl _)).1]
        refine ⟨fun p hp => ?_, fun i' hi' o' ho' => ?_⟩
        · rw [henv] at hp
          cases hdi : (l[i]).dst with
          | none => rw [hdi] at hp; exact ih1 p hp
          | some di =>
            rw [hdi] at hp
            simp only [St.put] at hp
            rcases List.mem_cons.1 hp with rfl | hp
            · exact e2 di d hdi (fun e => hD.apart i i0 _ _ di (by omega) hoi ho0 hq hq0 hdi (by rw [hd0, e]))
            · exact ih1 p hp
        · rcases Nat.lt_or_ge i' i with h | h
          · exact ih2 i' h o' ho'
          · have : i' = i := by omega
            subst this
            rw [hoi] at ho'; injection ho' with ho'; subst ho'
            exact henv
  have stepE : ∀ i o, l[i]? = some o → (σ (i + 1)).env = ((σ i).put o.dst (val i)).env := by
    intro i o ho
    cases hq : qf rs i o with
    | true => rw [(hqt i o ho hq).1]
    | false =>
      obtain ⟨h', e1, _, _⟩ := hld i o ho hq
      rw [e1]
      cases hdi : o.dst with
      | none => rfl
      | some di =>
        simp only [pk, St.put]
        rw [ZB8 (nr i o di ho hq hdi i (Nat.le_refl _)).1]
  have seg : ∀ k j, k ≤ j → (∀ m o, k ≤ m → m < j → l[m]? = some o → qf rs m o = true) → j ≤ l.length → (σ j).heap = (σ k).heap := by
    intro k j hkj hq hjl
    induction j with
    | zero => have : k = 0 := by omega
              subst this; rfl
    | succ j ih =>
      by_cases e : k = j + 1
      · rw [e]
      · have hj : j < l.length := by omega
        have ho : l[j]? = some l[j] := List.getElem?_eq_getElem hj
        rw [(hqt j _ ho (hq j _ (by omega) (by omega) ho)).1]
        have := ih (by omega) (fun m o h1 h2 => hq m o h1 (by omega)) (by omega)
        rw [← this]
        cases (l[j]).dst <;> rfl
  -- two places with no loud operation between them
  have seg2 : ∀ k j, k ≤ l.length → j ≤ l.length → (∀ m o, l[m]? = some o → qf rs m o = false → (m < k ↔ m < j)) → (σ k).heap = (σ j).heap := by
    intro k j hk hj h
    rcases Nat.le_total k j with hkj | hkj
    · refine (seg k j hkj (fun m o h1 h2 ho => ?_) hj).symm
      cases hq : qf rs m o with
      | true => rfl
      | false => have := h m o ho hq; omega
    · refine seg j k hkj (fun m o h1 h2 ho => ?_) hk
      cases hq : qf rs m o with
      | true => rfl
      | false => have := h m o ho hq; omega
  have done : ∀ (listed : Array Bool) (a : Act) (w : World), (∀ i, i < l.length → listed.getD i false = true) → (∃ m, m ≤ l.length ∧ (∀ i o, l[i]? = some o → qf rs i o = false → (listed.getD i false = true ↔ i < m)) ∧
        G n B w0 ⟨elist (σ 0).env l val (fun i => listed.getD i false) 0 l.length, (σ m).heap⟩ a w) → Q .normal a w := by
    rintro listed a w hall ⟨m, hm, hlo, hG⟩
    have hE := ZBW (l := l) (val := val) (L := fun i => listed.getD i false) (k := 0) σ l.length rfl (fun i o _ _ ho => stepE i o ho) (Nat.le_refl _) (fun i _ h2 => hall i h2) l.length (by omega)
    refine hQ a w (hG.congr (fun s => ?_) ?_)
    · show lk (σ l.length).env s = lk (elist _ _ _ _ _ _) s
      rw [hE, Nat.zero_add]
    · refine seg2 l.length m (Nat.le_refl _) hm (fun i o ho hq => ?_)
      have := hlo i o ho hq
      have h1 := hlen i o ho
      rw [hall i h1] at this
      simp at this
      omega
  have getD_true : ∀ (listed : Array Bool) (j : Nat), listed.size = l.length → j < l.length → listed.getD j true = listed.getD j false := fun listed j hs hj => by
    have : j < listed.size := by omega
    simp [this]
  have notready : ∀ (listed : Array Bool), listed.size = l.length → Region.ready .any l.toArray listed = [] → ∀ i, i < l.length → listed.getD i false = true := by
    intro listed hs hr
    have key : ∀ m i, i < m → i < l.length → listed.getD i false = true := by
      intro m
      induction m with
      | zero => intro i h; omega
      | succ m ih =>
        intro i hm hi
        cases hL : listed.getD i false with
        | true => rfl
        | false =>
          exfalso
          have ho : l[i]? = some l[i] := List.getElem?_eq_getElem hi
          have : i ∈ Region.ready .any l.toArray listed := by
            simp only [Region.ready, List.mem_filter, List.mem_range, Bool.and_eq_true]
            refine ⟨by simpa using hi, by rw [getD_true listed i hs hi, hL]; rfl, ?_⟩
            simp only [List.getElem?_toArray, ho, Option.map_some, Option.getD_some]
            rw [Array.all_eq_true_iff_forall_mem]
            intro e he
            cases hb : Region.binds .any e with
            | false => rfl
            | true =>
              have hlt := hD.lt i _ ho e he hb
              rw [ih e.on (by omega) (by omega)]; rfl
          rw [hr] at this; cases this
    exact fun i hi => key (i + 1) i (by omega) hi
  induction fuel with
  | zero =>
    intro listed a w hs hdc hcnt hinv
    have hall : ∀ i, i < l.length → listed.getD i false = true := by
      intro i hi
      have h0 : (List.range l.length).countP (fun i => !listed.getD i false) = 0 := by omega
      rw [List.countP_eq_zero] at h0
      have := h0 i (by simpa using hi)
      simpa using this
    refine ⟨?_, done listed a w hall hinv⟩
    apply List.eq_nil_iff_forall_not_mem.2
    intro i hi
    simp only [Region.ready, List.mem_filter, List.mem_range, Bool.and_eq_true] at hi
    have hil : i < l.length := by simpa using hi.1
    have := hi.2.1
    rw [getD_true listed i hs hil, hall i hil] at this
    cases this
  | succ fuel ih =>
    intro listed a w hs hdc hcnt hinv
    refine ⟨fun hr => done listed a w (notready listed hs hr) hinv, fun j hj => ?_⟩
    simp only [Region.ready, List.mem_filter, List.mem_range, Bool.and_eq_true] at hj
    obtain ⟨hjl, hjn, hjd⟩ := hj
    have hjl : j < l.length := by simpa using hjl
    have hLj : listed.getD j false = false := by rw [getD_true listed j hs hjl] at hjn; simpa using hjn
    have ho : l[j]? = some l[j] := List.getElem?_eq_getElem hjl
    have hdep : ∀ e ∈ (l[j]).after, Region.binds .any e = true → listed.getD e.on false = true := by
      simp only [List.getElem?_toArray, ho, Option.map_some, Option.getD_some] at hjd
      rw [Array.all_eq_true_iff_forall_mem] at hjd
      intro e he hb
      have := hjd e he
      simpa [hb] using this
    have hcl := closed_mask2 hD hdc (j + 1) j (by omega) _ ho hdep
    have hopen : ∀ i oi, l[i]? = some oi → listed.getD i false = true → (ms.getD i 0).testBit j = false := by
      intro i oi hoi hL
      cases hb : (ms.getD i 0).testBit j with
      | false => rfl
      | true =>
        have := closed_mask2 hD hdc (i + 1) i (by omega) _ hoi (hdc i oi hoi hL) j hb
        rw [hLj] at this; cases this
    have hafter : ∀ i oi, j < i → l[i]? = some oi → conf2 (qf rs j l[j]) (qf rs i oi) l.toArray l[j] oi = true → listed.getD i false = false := by
      intro i oi hji hoi hc
      cases hL : listed.getD i false with
      | false => rfl
      | true =>
        have := hopen i oi hoi hL
        rw [hD.conf j i _ _ hji ho hoi hc] at this; cases this
    have hbefore : ∀ i oi, i < j → l[i]? = some oi → conf2 (qf rs i oi) (qf rs j l[j]) l.toArray oi l[j] = true → listed.getD i false = true := fun i oi hij hoi hc => hcl i (hD.conf i j _ _ hij hoi ho hc)
    obtain ⟨m, hm, hlo, hG⟩ := hinv
    have hM : ∀ i, (listed.setIfInBounds j true).getD i false = (listed.getD i false || i == j) := by
      intro i
      by_cases e : j = i
      · subst e
        have : j < listed.size := by omega
        simp [this]
      · have : (i == j) = false := by simp; omega
        rw [this, Bool.or_false]
        simp [Array.getD_eq_getD_getElem?, Array.getElem?_setIfInBounds_ne e]
    have hs' : (listed.setIfInBounds j true).size = l.length := by simp [hs]
    have hdc' : ∀ i o, l[i]? = some o → (listed.setIfInBounds j true).getD i false = true → ∀ e ∈ o.after, Region.binds .any e = true → (listed.setIfInBounds j true).getD e.on false = true := by
      intro i o hoi hL e he hb
      rw [hM] at hL ⊢
      rcases Bool.or_eq_true_iff.1 hL with hL | hL
      · rw [hdc i o hoi hL e he hb]; rfl
      · have : i = j := by simpa using hL
        subst this
        rw [ho] at hoi; injection hoi with hoi; subst hoi
        rw [hdep e he hb]; rfl
    have hcnt' : (List.range l.length).countP (fun i => !(listed.setIfInBounds j true).getD i false) ≤ fuel := by
      have : (List.range l.length).countP (fun i => !(listed.setIfInBounds j true).getD i false) < (List.range l.length).countP (fun i => !listed.getD i false) := by
        refine ZC1 (fun i _ h => ?_) ⟨j, by simpa using hjl, by rw [hLj]; rfl, by rw [hM]; simp⟩
        rw [hM] at h
        cases h1 : listed.getD i false <;> simp_all
      omega
    have hwp : ∀ (st : St) (K : St → Prop), G n B w0 st a w → AStepX P T n l.toArray l[j] K st → (∀ st' a' w', K st' → G n B w0 st' a' w' → wpAnyIn (fo w0) 0 P .any l.toArray Q fuel (listed.setIfInBounds j true) a' w') → wpOpIn (fo w0) 0 P l.toArray Q j (wpAnyIn (fo w0) 0 P .any l.toArray Q fuel (listed.setIfInBounds j true)) a w := by
      rintro st K ⟨ρ, I, hg⟩ hst hnext
      have := ZC4 hT hg hst (wpAnyIn (fo w0) 0 P .any l.toArray Q fuel (listed.setIfInBounds j true)) Q hnext
      unfold wpOpIn
      simp only [List.getElem?_toArray, ho]
      exact toIf (ZC5 hg hst) this
    have hlook : ∀ t ∈ (l[j]).looksAt l.toArray, lk (elist (σ 0).env l val (fun i => listed.getD i false) 0 l.length) t = lk (σ j).env t := by
      intro t ht
      have e1 := ZB7 (E := (σ 0).env) (l := l) (val := val) (L := fun i => listed.getD i false) (M := fun i => decide (i < j)) (k := 0) t l.length (fun i h1 h2 hd => by
        have hil : i < l.length := by omega
        have hoi : l[i]? = some l[i] := List.getElem?_eq_getElem hil
        rw [hoi] at hd
        simp only [Option.bind_some] at hd
        rcases Nat.lt_trichotomy i j with h | h | h
        · rw [hbefore i _ h hoi (by simp [conf2, hd, ht])]; simp [h]
        · subst h; rw [hLj]; simp
        · rw [hafter i _ h hoi (by simp [conf2, hd, ht])]; simp; omega)
      rw [e1]
      have e2 := ZBD (E := (σ 0).env) (l := l) (val := val) (L := fun i => decide (i < j)) (k := 0) j (fun i hi => by simp; omega) l.length (by omega)
      have e3 := ZBW (l := l) (val := val) (L := fun i => decide (i < j)) (k := 0) σ j rfl (fun i o _ _ ho => stepE i o ho) (by omega) (fun i _ h2 => by simp [h2]) j (by omega)
      rw [e2, e3, Nat.zero_add]
    have hput : ∀ d s, (l[j]).dst = some d → lk (elist (σ 0).env l val (fun i => (listed.setIfInBounds j true).getD i false) 0 l.length) s = if d = s then val j else lk (elist (σ 0).env l val (fun i => listed.getD i false) 0 l.length) s := by
      intro d s hd
      have e := ZC2 (E := (σ 0).env) (l := l) (val := val) (L := fun i => listed.getD i false) (M := fun i => (listed.setIfInBounds j true).getD i false) (k := 0) j d (Nat.zero_le _) (by rw [ho]; exact hd) hLj hM (fun i hji hL hdi => by
        have hil : i < l.length := by
          rcases Nat.lt_or_ge i l.length with h | h
          · exact h
          · rw [List.getElem?_eq_none h] at hdi; cases hdi
        have hoi : l[i]? = some l[i] := List.getElem?_eq_getElem hil
        rw [hoi] at hdi
        simp only [Option.bind_some] at hdi
        have := hafter i _ hji hoi (by simp [conf2, hd, hdi])
        rw [this] at hL; cases hL) s l.length
      rw [e]
      by_cases hds : d = s
      · rw [if_pos ⟨by omega, hds⟩, if_pos hds]
      · rw [if_neg (fun hh => hds hh.2), if_neg hds]
    have hput0 : (l[j]).dst = none → elist (σ 0).env l val (fun i => (listed.setIfInBounds j true).getD i false) 0 l.length = elist (σ 0).env l val (fun i => listed.getD i false) 0 l.length := fun hd =>
      ZCc (E := (σ 0).env) (l := l) (val := val) (L := fun i => listed.getD i false) (M := fun i => (listed.setIfInBounds j true).getD i false) (k := 0) j (by rw [ho]; exact hd) hM l.length
    cases hq : qf rs j l[j] with
    | true =>
      obtain ⟨_, _, hv2⟩ := hqt j _ ho hq
      have hst := hv2 ⟨elist (σ 0).env l val (fun i => listed.getD i false) 0 l.length, (σ m).heap⟩ (fun hu => by
        refine seg2 m j hm (by omega) (fun i oi hoi hqi => ?_)
        have h1 := hlo i oi hoi hqi
        rcases hD.tied i j oi _ hoi ho hq hqi hu with h | h
        · have h2 := hcl i h
          have h3 := mask_lt hD (j + 1) j (by omega) _ ho i h
          exact ⟨fun _ => h3, fun _ => h1.1 h2⟩
        · have h3 := mask_lt hD (i + 1) i (by omega) _ hoi j h
          refine ⟨fun h4 => ?_, fun h4 => by omega⟩
          have := hopen i oi hoi (h1.2 h4)
          rw [h] at this; cases this) hlook
      refine hwp _ _ hG (.inl hst) ?_
      rintro st' a' w' rfl hG'
      refine ih _ a' w' hs' hdc' hcnt' ⟨m, hm, fun i o hoi hqi => ?_, ?_⟩
      · rw [hM]
        have hne : (i == j) = false := by
          simp only [beq_eq_false_iff_ne]
          intro e; subst e
          rw [ho] at hoi; injection hoi with hoi; subst hoi
          rw [hq] at hqi; cases hqi
        rw [hne, Bool.or_false]
        exact hlo i o hoi hqi
      · refine hG'.congr (fun s => ?_) (by cases (l[j]).dst <;> rfl)
        cases hd : (l[j]).dst with
        | none =>
          show lk (elist _ _ _ _ _ _) s = lk (elist _ _ _ _ _ _) s
          rw [hput0 hd]
        | some d =>
          show lk (elist _ _ _ _ _ _) s = lk ((d, val j) :: elist _ _ _ _ _ _) s
          rw [hput d s hd]
          simp only [lk]
    | false =>
      obtain ⟨h', e1, _, hv⟩ := hld j _ ho hq
      have hb : ∀ i oi, i < j → l[i]? = some oi → qf rs i oi = false → listed.getD i false = true := fun i oi hij hoi hqi => hbefore i oi hij hoi (by simp [conf2, hqi, hq])
      have ha : ∀ i oi, j < i → l[i]? = some oi → qf rs i oi = false → listed.getD i false = false := fun i oi hij hoi hqi => hafter i oi hij hoi (by simp [conf2, hqi, hq])
      have hheap : (σ m).heap = (σ j).heap := by
        refine seg2 m j hm (by omega) (fun i oi hoi hqi => ?_)
        have h1 := hlo i oi hoi hqi
        rcases Nat.lt_trichotomy i j with h | h | h
        · exact ⟨fun _ => h, fun _ => h1.1 (hb i oi h hoi hqi)⟩
        · subst h
          rw [hLj] at h1
          simp at h1
          omega
        · have := ha i oi h hoi hqi
          rw [this] at h1
          simp at h1
          omega
      have hst := hv ⟨elist (σ 0).env l val (fun i => listed.getD i false) 0 l.length, (σ m).heap⟩ hheap hlook
      refine hwp _ _ hG hst ?_
      rintro st' a' w' rfl hG'
      refine ih _ a' w' hs' hdc' hcnt' ⟨j + 1, by omega, fun i o hoi hqi => ?_, ?_⟩
      · rw [hM]
        rcases Nat.lt_trichotomy i j with h | h | h
        · rw [hb i o h hoi hqi]; simp; omega
        · subst h; simp
        · rw [ha i o h hoi hqi]; simp; omega
      · refine hG'.congr (fun s => ?_) (by rw [e1])
        cases hd : (l[j]).dst with
        | none =>
          show lk (elist _ _ _ _ _ _) s = lk (elist _ _ _ _ _ _) s
          rw [hput0 hd]
        | some d =>
          show lk (elist _ _ _ _ _ _) s = lk ((d, val j) :: killE d (elist _ _ _ _ _ _)) s
          rw [hput d s hd, ZB8]
          · simp only [lk]
          · refine ZE9 (h0 j _ ho d hq hd) (fun i hL hdi => ?_) _
            have hil : i < l.length := by
              rcases Nat.lt_or_ge i l.length with h | h
              · exact h
              · rw [List.getElem?_eq_none h] at hdi; exact absurd rfl hdi
            have hoi : l[i]? = some l[i] := List.getElem?_eq_getElem hil
            rw [hoi] at hdi
            simp only [Option.bind_some] at hdi
            cases hqi : qf rs i l[i] with
            | true => exact ZBO ((hqt i _ hoi hqi).2.1 hdi) d (hD.kills j i _ _ d ho hoi hqi hq hd (hopen i _ hoi hL))
            | false =>
              obtain ⟨_, _, e2, _⟩ := hld i _ hoi hqi
              cases hdi' : (l[i]).dst with
              | none => exact absurd hdi' hdi
              | some di =>
                refine e2 di d hdi' (fun e => ?_)
                have hij : i ≠ j := fun e => by subst e; rw [hLj] at hL; cases hL
                exact hD.apart i j _ _ di hij hoi ho hqi hq hdi' (by rw [hd, e])
end

theorem awp_draw2 {P : Program} {T : Tab} (hT : T.ok P) {n B : Nat} {w0 : Orig} {Q : Exit → St → Prop} {st : St} {id : Nat} {l : List Oper} (rs : List (Nat × List Nat)) (hm : P.follows .mixedOrders = true) (hD : drawOk2 l (Region.before l.toArray).toList rs = true)
    (hE : killsE (loudDs l rs) st.env) (h : AOps2 P T n l.toArray (fun st' => Q .normal st') l rs st) : AWP P n B w0 (.region id l.toArray true) Q st := by
  intro a w hG
  have hD' := ZDZ hD
  obtain ⟨σ, val, s0, sN, sq, sl⟩ := trace2_ex l rs st h
  refine wpIn_region_any hm ?_
  have hG' : G n B w0 st a { w with drawn := w.drawn + 1 } := by
    obtain ⟨ρ, I, hg⟩ := hG
    exact ⟨ρ, I, hg.quiet ⟨⟨rfl, rfl, rfl, Nat.le_refl _, fun _ _ => rfl⟩, fun _ h => h, fun _ h h' => absurd h h', hg.hw.lt⟩⟩
  have hfalse : ∀ i, (Array.replicate l.toArray.size false).getD i false = false := fun i => by
    by_cases hi : i < l.length <;> simp [Array.getD_eq_getD_getElem?, hi]
  refine any_ok2 hT hD' σ val (fun i o ho d hq hd p hp => ?_) sq sl (fun a w hg => ⟨_, sN, hg⟩) _ _ a _ (by simp) (fun j o _ hL => by rw [hfalse] at hL; cases hL) ?_ ⟨0, Nat.zero_le _, (fun i o _ _ => by rw [hfalse]; simp), ?_⟩
  · rw [s0] at hp
    exact ZCo hE p hp d (ZDM ho hq hd)
  · have := List.countP_le_length (p := fun i => !(Array.replicate l.toArray.size false).getD i false) (l := List.range l.length)
    simpa using this
  · refine hG'.congr (fun s => ?_) (by rw [s0])
    have e := ZBD (E := (σ 0).env) (l := l) (val := val) (L := fun i => (Array.replicate l.toArray.size false).getD i false) (k := 0) 0 (fun i _ => hfalse i) l.length (Nat.zero_le _)
    show lk (elist _ _ _ _ _ _) s = _
    rw [e]
    show lk (σ 0).env s = _
    rw [s0]

theorem aops2_nil {P : Program} {T : Tab} {n : Nat} {ops : Array Oper} {K : St → Prop} {st : St} {rs : List (Nat × List Nat)} (h : K st) : AOps2 P T n ops K [] rs st := h
theorem aops2_quiet {P : Program} {T : Tab} {n : Nat} {ops : Array Oper} {K : St → Prop} {o : Oper} {rest : List Oper} {R : List Nat} {rs : List (Nat × List Nat)} {st : St} {g : Option (Nat × Bool)} (hq : quietOp o.op = true) (hg : gOf ops o.guard = some g)
    (h : ∀ K' : St → Prop, (∀ s, killsL R (dstV s o.dst) → AOps2 P T n ops K rest rs s → K' s) → StepN P T n o.dst o.op g K' st) : AOps2 P T n ops K (o :: rest) ((0, R) :: rs) st := by
  have e : qq (0, R) o = true := by simp [qq, hq]
  simp only [AOps2, e, cond_true]
  show AStep P T n ops o (fun s => killsL R (dstV s o.dst) ∧ AOps2 P T n ops K rest rs s) st
  exact ZBT hg (h _ fun _ h1 h2 => ⟨h1, h2⟩)
theorem aops2_free {P : Program} {T : Tab} {n : Nat} {ops : Array Oper} {K : St → Prop} {o : Oper} {rest : List Oper} {R : List Nat} {rs : List (Nat × List Nat)} {st : St} {g : Option (Nat × Bool)} (hq : quietOp o.op = true) (hg : gOf ops o.guard = some g)
    (h : ∀ K' : St → Prop, (∀ s, killsL R (dstV s o.dst) → AOps2 P T n ops K rest rs ⟨s.env, st.heap⟩ → K' s) → StepN P T n o.dst o.op g K' ⟨st.env, []⟩) : AOps2 P T n ops K (o :: rest) ((1, R) :: rs) st := by
  have e : qq (1, R) o = true := by simp [qq, hq]
  simp only [AOps2, e, cond_true]
  show AStep P T n ops o (fun s => killsL R (dstV s o.dst) ∧ AOps2 P T n ops K rest rs ⟨s.env, st.heap⟩) ⟨st.env, []⟩
  exact ZBT hg (h _ fun _ h1 h2 => ⟨h1, h2⟩)
theorem aops2_loud {P : Program} {T : Tab} {n : Nat} {ops : Array Oper} {K : St → Prop} {o : Oper} {rest : List Oper} {R : List Nat} {rs : List (Nat × List Nat)} {st : St} {g : Option (Nat × Bool)} (hq : quietOp o.op = false) (hg : gOf ops o.guard = some g)
    (h : ∀ K' : St → Prop, (∀ s, AOps2 P T n ops K rest rs s → K' s) → StepN P T n o.dst o.op g K' st) : AOps2 P T n ops K (o :: rest) ((0, R) :: rs) st := by
  have e : qq (0, R) o = false := by simp [qq, hq]
  simp only [AOps2, e, cond_false]
  show AStep P T n ops o (fun s => AOps2 P T n ops K rest rs s) st
  exact ZBT hg (h _ fun _ h => h)
theorem aops2_own {P : Program} {T : Tab} {n : Nat} {ops : Array Oper} {K : St → Prop} {o : Oper} {rest : List Oper} {R : List Nat} {rs : List (Nat × List Nat)} {st : St} {d : Nat} (hd : o.dst = some d) (hg : o.guard = none) (hn : d < n)
    (h : ∀ K' : St → Prop, (∀ s, AOps2 P T n ops K rest rs s → K' s) → alB T st (some d) o.op K') : AOps2 P T n ops K (o :: rest) ((3, R) :: rs) st := by
  have : qq (3, R) o = false := by simp [qq]
  simp only [AOps2, this, cond_false]
  show stepB T n o (fun s => AOps2 P T n ops K rest rs s) st
  exact ⟨hg, by rw [hd]; exact hn, by rw [hd]; exact h _ fun _ h => h⟩
theorem aops2_map {P : Program} {T : Tab} {n : Nat} {ops : Array Oper} {K : St → Prop} {o : Oper} {rest : List Oper} {R : List Nat} {rs : List (Nat × List Nat)} {st : St} (hg : o.guard = none) (hd : dstOk n o.dst)
    (h : ∀ K' : St → Prop, (∀ s, AOps2 P T n ops K rest rs s → K' s) → MapUpdA T o.dst o.op K' st) : AOps2 P T n ops K (o :: rest) ((4, R) :: rs) st := by
  have : qq (4, R) o = false := by simp [qq]
  simp only [AOps2, this, cond_false]
  show stepC T n o (fun s => AOps2 P T n ops K rest rs s) st
  exact ⟨hg, hd, .inl (h _ fun _ h => h)⟩
theorem aops2_lit {P : Program} {T : Tab} {n : Nat} {ops : Array Oper} {K : St → Prop} {o : Oper} {rest : List Oper} {R : List Nat} {rs : List (Nat × List Nat)} {st : St} (hg : o.guard = none) (hd : dstOk n o.dst)
    (h : ∀ K' : St → Prop, (∀ s, AOps2 P T n ops K rest rs s → K' s) → NstLit T o.dst o.op K' st) : AOps2 P T n ops K (o :: rest) ((4, R) :: rs) st := by
  have : qq (4, R) o = false := by simp [qq]
  simp only [AOps2, this, cond_false]
  show stepC T n o (fun s => AOps2 P T n ops K rest rs s) st
  exact ⟨hg, hd, .inr (.inl (h _ fun _ h => h))⟩
theorem aops2_appN {P : Program} {T : Tab} {n : Nat} {ops : Array Oper} {K : St → Prop} {o : Oper} {rest : List Oper} {R : List Nat} {rs : List (Nat × List Nat)} {st : St} (hg : o.guard = none) (hd : dstOk n o.dst)
    (h : ∀ K' : St → Prop, (∀ s, AOps2 P T n ops K rest rs s → K' s) → AppN T o.dst o.op K' st) : AOps2 P T n ops K (o :: rest) ((4, R) :: rs) st := by
  have : qq (4, R) o = false := by simp [qq]
  simp only [AOps2, this, cond_false]
  show stepC T n o (fun s => AOps2 P T n ops K rest rs s) st
  exact ⟨hg, hd, .inr (.inr (h _ fun _ h => h))⟩
theorem awp_v {P : Program} {T : Tab} (hT : T.ok P) {n B : Nat} {w0 : Orig} {Q : Exit → St → Prop} {st : St} {id : Nat} {l : List Oper} (ds : List Nat) (rs : List (Nat × List Nat)) (hm : P.follows .mixedOrders = true) (hD : (decide (loudDs l rs = ds) && drawOk2 l (Region.before l.toArray).toList rs) = true)
    (hE : killsE ds st.env) (h : ∀ K : St → Prop, (∀ s, Q .normal s → K s) → AOps2 P T n l.toArray K l rs st) : AWP P n B w0 (.region id l.toArray true) Q st := by
  rw [Bool.and_eq_true, decide_eq_true_eq] at hD
  exact awp_draw2 hT rs hm hD.2 (by rw [hD.1]; exact hE) (h _ fun _ h => h)
theorem ZHi (l : List Int) (off m j : Nat) (hj : j < m) : ((l.drop off).take m).getD j 0 = l.getD (off + j) 0 := by
  simp [List.getD_eq_getElem?_getD, hj]
theorem ZEZ {k : IntKind} (l : List Int) (off m : Nat) : ∀ j, j < m → AV.v (.int k (l.getD (off + j) 0)) = AV.v (.int k (((l.drop off).take m).getD j 0)) := fun j hj => by rw [ZHi _ _ _ _ hj]
theorem ZHG {k : IntKind} (l : List Int) (m : Nat) : ∀ j, j < m → AV.v (.int k (l.getD j 0)) = AV.v (.int k ((l.take m).getD j 0)) := fun j hj => by
  have := ZHi l 0 m j hj
  simp only [List.drop_zero, Nat.zero_add] at this
  rw [this]
attribute [push_cast] killsL killsE dstV
end Go.Eng
namespace Go.Eng
open Go.RowKit
theorem Sub.trans {x y z : AV} (h : Sub x y) (k : Sub y z) : Sub x z := fun B I w u hu => k B I w u (h B I w u hu)
theorem Sub.of_eq {x y : AV} (h : x = y) : Sub x y := h ▸ Sub.refl x
theorem Pure.res {P : Program} {f : FuncId} {args : List AV} {r r' : AV} (h : Pure P f args r) (hs : Sub r r') : Pure P f args r' :=
  ⟨h.1, fun w I vs hI hc => (h.2 w I vs hI hc).mono fun _ _ ⟨v, h1, h2, h3⟩ => ⟨v, h1, h2, hs _ _ _ _ h3⟩⟩
theorem Pure.empty {P : Program} {f : FuncId} {fr : Bool} {c : Nat → Nat → AV} {sz off : Nat} {r : AV} (h : ∀ A cap, Pure P f [.v (.slice A 0 cap)] r) : Pure P f [.i fr c sz off 0] r := by
  refine ⟨(h none 0).1, fun w I vs hI hc => ?_⟩
  have h0 := hc.2 0 (by simp)
  simp only [List.getD_cons_zero] at h0
  generalize hv : vs.toList.getD 0 undef = u at h0
  cases h0 with
  | i _ _ _ _ _ cap A uu hcap hA hcc =>
    refine (h A cap).2 w I vs hI ⟨by have := hc.1; simpa using this, fun j hj => ?_⟩
    have : j = 0 := by simp at hj; omega
    subst this
    simp only [List.getD_cons_zero]
    rw [hv]; exact .v _
theorem ZFA {fr : Bool} {c : Nat → Nat → AV} {sz : Nat} : Sub (.v (.slice none 0 0)) (.i fr c sz 0 0) := fun B I w u hu => by
  obtain rfl := hu.v_inv
  exact .i _ _ _ _ _ _ _ (fun _ _ => undef) (Nat.le_refl _) (fun h => by omega) (fun e f he => by omega)
end Go.Eng
