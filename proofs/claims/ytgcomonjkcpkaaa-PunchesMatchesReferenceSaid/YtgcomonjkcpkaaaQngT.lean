/- A region whose order is drawn, in which memory is made beside other operations. -/
import Derived.Test.YtgcomonjkcpkaaaQngW
namespace Go.Eng
open Go.RowKit

/-- What sees less of memory stands for more. -/
theorem pub_sub (H : List (Nat × Blk)) : ∀ (n : Nat) (x : AV), Sub (AV.pub false H n x) (AV.pub false [] n x) := by
  intro n
  induction n with
  | zero => intro x B I w u h; exact h
  | succ n ih =>
    intro x B I w u h
    cases x with
    | v y => exact h
    | s id => exact .top _
    | w id off len => exact .top _
    | p id off => exact .top _
    | i fr c sz off len =>
      cases h with
      | i _ _ _ _ _ cap A u hcap hA hc => exact .i _ _ _ _ _ _ _ u hcap hA (fun e f he hf => ih _ _ _ _ _ (hc e f he hf))
    | q fr c sz e f =>
      cases h with
      | q _ _ _ _ _ ad u h2 h3 hcell hc => exact .q _ _ _ _ _ _ u h2 h3 hcell (fun j hj => ih _ _ _ _ _ (hc j hj))
    | a cs =>
      cases h with
      | a _ us hl h => exact .a _ _ (by simpa using hl) fun j hj => by simp only [List.length_map] at hj; have := h j (by simpa using hj); rw [getD_map_pub _ _ _ _ _ hj] at this ⊢; exact ih _ _ _ _ _ this
    | t cs =>
      cases h with
      | t _ us hl h => exact .t _ _ (by simpa using hl) fun j hj => by simp only [List.length_map] at hj; have := h j (by simpa using hj); rw [getD_map_pub _ _ _ _ _ hj] at this ⊢; exact ih _ _ _ _ _ this
    | f fn cs =>
      cases h with
      | f _ _ us hl h => exact .f _ _ _ (by simpa using hl) fun j hj => by simp only [List.length_map] at hj; have := h j (by simpa using hj); rw [getD_map_pub _ _ _ _ _ hj] at this ⊢; exact ih _ _ _ _ _ this
    | g b y =>
      cases h with
      | g _ _ _ h h0 => exact .g b _ _ (fun hb => ih _ _ _ _ _ (h hb)) h0
    | top => exact .top _
theorem subL_pubL (H : List (Nat × Blk)) : ∀ args : List AV, SubL (pubL H args) (pubL [] args)
  | [] => trivial
  | x :: r => ⟨pub_sub H 4 x.strip, subL_pubL H r⟩

theorem lkH_nil (id : Nat) : lkH [] id = none := rfl
theorem pvLoad_free {T : Tab} {H : List (Nat × Blk)} {t : TypeId} {x : AV} {r : Prop × AV} (h : pvLoad T [] t x = some r) : pvLoad T H t x = some r := by
  unfold pvLoad at h ⊢
  cases hx : x.strip <;> simp only [hx, lkH_nil] at h ⊢ <;> first | exact h | skip
  cases T t <;> simp at h
theorem pvSlice_free {T : Tab} {H : List (Nat × Blk)} {t : TypeId} {x : AV} {lo hi : Option AV} {r : Prop × AV} (h : pvSlice T [] t x lo hi = some r) : pvSlice T H t x lo hi = some r := by
  unfold pvSlice at h ⊢
  split at h <;> first | exact h | skip
  split at h <;> first | exact h | skip
  cases hx : x.strip <;> simp only [hx, lkH_nil] at h ⊢ <;> first | exact h | (simp at h; done)
theorem pvIndexAddr_free {T : Tab} {H : List (Nat × Blk)} {t : TypeId} {x i : AV} {r : Prop × AV} (h : pvIndexAddr T [] t x i = some r) : pvIndexAddr T H t x i = some r := by
  unfold pvIndexAddr at h ⊢
  split at h <;> first | exact h | skip
  split at h <;> first | exact h | skip
  split at h <;> first | exact h | skip
  cases hx : x.strip <;> simp only [hx, lkH_nil] at h ⊢ <;> first | exact h | (simp at h; done)
theorem pvLen_free {T : Tab} {H : List (Nat × Blk)} {t : TypeId} {x : AV} {r : Prop × AV} (h : pvLen T [] t x = some r) : pvLen T H t x = some r := by
  unfold pvLen at h ⊢
  cases ht : T t with
  | none => rw [ht] at h; cases h
  | some ti =>
    obtain ⟨k, sz, b, z⟩ := ti
    rw [ht] at h
    cases k <;> simp only at h ⊢ <;> first | exact h | (cases h; done) | (cases hx : x.strip <;> simp only [hx, lkH_nil] at h ⊢ <;> first | exact h | (cases h; done) | (rename_i y; cases y <;> first | exact h | (cases h; done)))
theorem pv_free {T : Tab} {H : List (Nat × Blk)} {ev : Operand → AV} {op : Op} {x : Prop × AV} (h : pv T [] ev op = some x) : pv T H ev op = some x := by
  cases op <;> simp only [pv] at h ⊢ <;> first | exact h | exact pvLoad_free h | exact pvIndexAddr_free h | skip
  case slice t y lo hi mx => cases mx with
    | some _ => exact h
    | none => exact pvSlice_free h
  case call c =>
    split at h <;> first | exact h | skip
    split at h <;> first | exact h | exact pvLen_free h
theorem pv_none_qb {T : Tab} {H : List (Nat × Blk)} {ev : Operand → AV} {op : Op} {x : Prop × AV} (h : qb T ev op = some x) : pv T H ev op = none := by
  cases op <;> simp only [qb] at h <;> first | (cases h; done) | rfl
theorem pv_none_call {T : Tab} {H : List (Nat × Blk)} {ev : Operand → AV} {op : Op} {x : Prop × FuncId × List AV} (h : callee? ev op = some x) : pv T H ev op = none ∧ qb T ev op = none := by
  cases op <;> simp only [callee?] at h <;> first | (cases h; done) | skip
  rename_i c
  split at h <;> first | (cases h; done) | skip
  rename_i f hf
  exact ⟨by simp only [pv, hf], rfl⟩

section
variable {P : Program} {T : Tab} {n : Nat} {ops : Array Oper}

/-- A quiet operation that needs nothing of memory. -/
theorem free_step {st : St} {o : Oper} {K : St → Prop} (hq : quietOp o.op = true) (h : AStep P T n ops o K ⟨st.env, []⟩) :
    ∃ r, K ((⟨st.env, []⟩ : St).put o.dst r) ∧ ∀ st' : St, (∀ t ∈ o.looksAt ops, lk st'.env t = lk st.env t) → AStep P T n ops o (fun s => s = st'.put o.dst r) st' := by
  obtain ⟨hd, h⟩ := h
  have key : ∀ (st' : St), (∀ t ∈ o.looksAt ops, lk st'.env t = lk st.env t) → guardB st' ops o.guard = guardB ⟨st.env, []⟩ ops o.guard ∧ pv T [] st'.ev o.op = pv T [] (St.ev ⟨st.env, []⟩) o.op ∧ qb T st'.ev o.op = qb T (St.ev ⟨st.env, []⟩) o.op ∧ callee? st'.ev o.op = callee? (St.ev ⟨st.env, []⟩) o.op := fun st' hl =>
    ⟨guard_congr (st' := ⟨st.env, []⟩) hl, pv_congr (ev_congr (st' := ⟨st.env, []⟩) hl), qb_congr (ev_congr (st' := ⟨st.env, []⟩) hl), callee_congr (ev_congr (st' := ⟨st.env, []⟩) hl)⟩
  cases hg : guardB ⟨st.env, []⟩ ops o.guard with
  | none => rw [hg] at h; exact h.elim
  | some g =>
    rw [hg] at h
    cases g with
    | none =>
      simp only at h
      cases hp : pv T [] (St.ev ⟨st.env, []⟩) o.op with
      | some pr =>
        obtain ⟨φ, r⟩ := pr
        rw [hp] at h
        refine ⟨r, h.2, fun st' hl => ?_⟩
        obtain ⟨k1, k2, k3, k4⟩ := key st' hl
        unfold AStep; rw [k1, hg]; simp only [pv_free (k2.trans hp)]
        exact ⟨hd, h.1, trivial⟩
      | none =>
        rw [hp] at h; simp only at h
        cases hb : qb T (St.ev ⟨st.env, []⟩) o.op with
        | some pr =>
          obtain ⟨φ, r⟩ := pr
          rw [hb] at h
          refine ⟨r, h.2, fun st' hl => ?_⟩
          obtain ⟨k1, k2, k3, k4⟩ := key st' hl
          have hb' := k3.trans hb
          unfold AStep; rw [k1, hg]; simp only [pv_none_qb hb', hb']
          exact ⟨hd, h.1, trivial⟩
        | none =>
          rw [hb] at h; simp only at h
          cases hc : callee? (St.ev ⟨st.env, []⟩) o.op with
          | some pr =>
            obtain ⟨ψ, k, args⟩ := pr
            rw [hc] at h; simp only at h
            obtain ⟨h1, r, h2, h3⟩ := h
            refine ⟨r, h3, fun st' hl => ?_⟩
            obtain ⟨k1, k2, k3, k4⟩ := key st' hl
            have hc' := k4.trans hc
            unfold AStep; rw [k1, hg]; simp only [(pv_none_call (T := T) (H := st'.heap) hc').1, (pv_none_call (T := T) (H := st'.heap) hc').2, hc']
            exact ⟨hd, h1, r, ⟨h2.1.sub (subL_pubL _ _), h2.2⟩, rfl⟩
          | none => rw [hc] at h; exact (al_quiet hq h).elim
    | some b =>
      simp only at h
      cases hp : pv T [] (St.ev ⟨st.env, []⟩) o.op with
      | some pr =>
        obtain ⟨φ, r⟩ := pr
        rw [hp] at h
        refine ⟨.g b r, h.2, fun st' hl => ?_⟩
        obtain ⟨k1, k2, k3, k4⟩ := key st' hl
        unfold AStep; rw [k1, hg]; simp only [pv_free (k2.trans hp)]
        exact ⟨hd, h.1, trivial⟩
      | none =>
        rw [hp] at h; simp only at h
        cases hb : qb T (St.ev ⟨st.env, []⟩) o.op with
        | some pr =>
          obtain ⟨φ, r⟩ := pr
          rw [hb] at h
          refine ⟨.g b r, h.2, fun st' hl => ?_⟩
          obtain ⟨k1, k2, k3, k4⟩ := key st' hl
          have hb' := k3.trans hb
          unfold AStep; rw [k1, hg]; simp only [pv_none_qb hb', hb']
          exact ⟨hd, h.1, trivial⟩
        | none =>
          rw [hb] at h; simp only at h
          cases hc : callee? (St.ev ⟨st.env, []⟩) o.op with
          | some pr =>
            obtain ⟨ψ, k, args⟩ := pr
            rw [hc] at h; simp only at h
            obtain ⟨r, h2, h3⟩ := h
            refine ⟨.g b r, h3, fun st' hl => ?_⟩
            obtain ⟨k1, k2, k3, k4⟩ := key st' hl
            have hc' := k4.trans hc
            unfold AStep; rw [k1, hg]; simp only [(pv_none_call (T := T) (H := st'.heap) hc').1, (pv_none_call (T := T) (H := st'.heap) hc').2, hc']
            exact ⟨hd, r, fun hb => ⟨(h2 hb).1, (h2 hb).2.1.sub (subL_pubL _ _), (h2 hb).2.2⟩, rfl⟩
          | none => rw [hc] at h; exact h.elim

/-- What a loud operation does to the slots. -/
def pk (d : Option Nat) (r : AV) (env : List (Nat × AV)) : List (Nat × AV) :=
  match d with
  | some d => (d, r) :: killE d env
  | none => env

theorem al_loud {st : St} {o : Oper} {K : St → Prop} (h : al T st o K) :
    ∃ r h', K ⟨pk o.dst r st.env, h'⟩ ∧ (∀ d d', o.dst = some d → d' ≠ d → r.kill d' = r) ∧ ∀ st' : St, st'.heap = st.heap → (∀ x ∈ o.op.operands, st'.ev x = st.ev x) → al T st' o (fun s => s = ⟨pk o.dst r st'.env, h'⟩) := by
  have ks : ∀ (d d1 d' : Nat), some d = some d1 → d' ≠ d1 → (AV.s d).kill d' = .s d := fun d d1 d' e hne => by injection e with e; subst e; rw [AV.kill, if_neg (Ne.symm hne)]
  have kp : ∀ (d d1 d' : Nat), some d = some d1 → d' ≠ d1 → (AV.p d 0).kill d' = .p d 0 := fun d d1 d' e hne => by injection e with e; subst e; rw [AV.kill, if_neg (Ne.symm hne)]
  obtain ⟨dst, op, ty, ps, af, gd⟩ := o
  cases op <;> simp only [al] at h <;> first | exact h.elim | skip
  case alloc t =>
    cases dst with
    | none => exact h.elim
    | some d =>
      cases ht : T t with
      | none => rw [ht] at h; exact h.elim
      | some ti =>
        rw [ht] at h
        refine ⟨.p d 0, _, h, kp d, fun st' hh hl => ?_⟩
        simp only [al, ht, hh, pk]
  case box t x =>
    cases dst with
    | none => exact h.elim
    | some d =>
      cases hc : cellsOf (st.ev x).strip with
      | none => rw [hc] at h; exact h.elim
      | some cs =>
        rw [hc] at h
        refine ⟨.p d 0, _, h.2, kp d, fun st' hh hl => ?_⟩
        simp only [al, hl x (by simp [Op.operands]), hc, hh, pk]
        exact ⟨h.1, trivial⟩
  case store t x y =>
    cases hx : (st.ev x).strip <;> simp only [hx] at h <;> first | exact h.elim | skip
    rename_i id off
    cases hc : cellsOf (st.ev y).strip <;> simp only [hc] at h <;> first | exact h.elim | skip
    rename_i cs
    cases ht : T t <;> simp only [ht] at h <;> first | exact h.elim | skip
    rename_i ti
    cases hk : lkH st.heap id with
    | none => rw [hk] at h; exact h.elim
    | some blk =>
      rw [hk] at h
      cases blk with
      | box tb c =>
        simp only at h
        cases hu : c.updL off cs with
        | none => rw [hu] at h; exact h.elim
        | some c' =>
          rw [hu] at h
          have hd : dst = none := h.1.2.2.2.2.2
          subst hd
          refine ⟨.top, _, h.2, (fun d d' e => by cases e), fun st' hh hl => ?_⟩
          simp only [al, hl x (by simp [Op.operands]), hl y (by simp [Op.operands]), hx, hc, ht, hh, hk, hu, pk]
          exact ⟨by simpa using h.1, trivial⟩
      | row e sz c =>
        simp only at h
        cases hu : c.updL off cs with
        | none => rw [hu] at h; exact h.elim
        | some c' =>
          rw [hu] at h
          have hd : dst = none := h.1.2.2.2.2.2.2
          subst hd
          refine ⟨.top, _, h.2, (fun d d' e => by cases e), fun st' hh hl => ?_⟩
          simp only [al, hl x (by simp [Op.operands]), hl y (by simp [Op.operands]), hx, hc, ht, hh, hk, hu, pk]
          exact ⟨by simpa using h.1, trivial⟩
      | nst e c =>
        simp only at h
        cases hu : c.updL off cs with
        | none => rw [hu] at h; exact h.elim
        | some c' =>
          rw [hu] at h
          have hd : dst = none := h.1.2.2.2.2.2
          subst hd
          refine ⟨.top, _, h.2, (fun d d' e => by cases e), fun st' hh hl => ?_⟩
          simp only [al, hl x (by simp [Op.operands]), hl y (by simp [Op.operands]), hx, hc, ht, hh, hk, hu, pk]
          exact ⟨by simpa using h.1, trivial⟩
  case makeSlice t l c =>
    split at h <;> first | exact h.elim | skip
    rename_i d e s1 b1 z1 k1 nl k2 nc ht hl1 hc1
    cases hte : T e with
    | none => rw [hte] at h; exact h.elim
    | some te =>
      rw [hte] at h
      refine ⟨.s d, _, h.2, ks d, fun st' hh hl => ?_⟩
      simp only [al, hl l (by simp [Op.operands]), hl c (by simp [Op.operands]), ht, hl1, hc1, hte, hh, pk]
      exact ⟨h.1, trivial⟩
  case call c =>
    obtain ⟨callee, args, ats⟩ := c
    simp only at h
    split at h <;> first | exact h.elim | skip
    rename_i x y t t' hargs hats
    have hxm : x ∈ args := by have : x ∈ args.toList := by rw [hargs]; simp
                              simpa using this
    have hym : y ∈ args := by have : y ∈ args.toList := by rw [hargs]; simp
                              simpa using this
    split at h <;> first | exact h.elim | skip
    rename_i d e s1 b1 z1 ht
    cases hte : T e with
    | none => rw [hte] at h; exact h.elim
    | some te =>
      rw [hte] at h
      cases hbs : baseOf st.heap (st.ev x).strip with
      | none => rw [hbs] at h; exact h.elim
      | some bs =>
        rw [hbs] at h
        simp only at h
        cases hsr : srcOf st.heap te.sz (st.ev y).strip with
        | none => rw [hsr] at h; exact h.elim
        | some p =>
          obtain ⟨ψ, m, src⟩ := p
          rw [hsr] at h
          simp only at h
          cases bs with
          | none =>
            cases hk : te.k <;> simp only [hk] at h <;> (
              obtain ⟨ys, h1, h2⟩ := h
              refine ⟨.s d, _, h2, ks d, fun st' hh hl => ?_⟩
              simp only [al, hl x (by simp [Op.operands, Call.operands, hxm]), hl y (by simp [Op.operands, Call.operands, hym]), hargs, hats, ht, hte, hh, hbs, hsr, pk, hk]
              exact ⟨ys, h1, rfl⟩)
          | some p =>
            obtain ⟨id, e', sz, c⟩ := p
            cases hk : te.k <;> cases c <;> simp only [hk] at h <;> first | exact h.elim | (
              obtain ⟨ys, h1, h2⟩ := h
              refine ⟨.s d, _, h2, ks d, fun st' hh hl => ?_⟩
              simp only [al, hl x (by simp [Op.operands, Call.operands, hxm]), hl y (by simp [Op.operands, Call.operands, hym]), hargs, hats, ht, hte, hh, hbs, hsr, pk, hk]
              exact ⟨ys, h1, rfl⟩)

theorem loud_step {st : St} {o : Oper} {K : St → Prop} (hq : quietOp o.op = false) (h : AStep P T n ops o K st) :
    ∃ r h', K ⟨pk o.dst r st.env, h'⟩ ∧ (∀ d d', o.dst = some d → d' ≠ d → r.kill d' = r) ∧ ∀ st' : St, st'.heap = st.heap → (∀ t ∈ o.looksAt ops, lk st'.env t = lk st.env t) → AStep P T n ops o (fun s => s = ⟨pk o.dst r st'.env, h'⟩) st' := by
  have hno : ∀ (H : List (Nat × Blk)) (ev : Operand → AV), pv T H ev o.op = none ∧ qb T ev o.op = none ∧ callee? ev o.op = none := fun H ev => by
    cases ho : o.op <;> rw [ho] at hq <;> simp only [quietOp] at hq <;> first | (cases hq; done) | exact ⟨rfl, rfl, rfl⟩ | skip
    rename_i c
    cases hc : c.callee with
    | value f => rw [hc] at hq; cases hq
    | invoke r m => exact ⟨by simp only [pv, hc], rfl, by simp only [callee?, hc]⟩
    | builtin b => cases b <;> rw [hc] at hq <;> first | (cases hq; done) | exact ⟨by simp only [pv, hc], rfl, by simp only [callee?, hc]⟩
  obtain ⟨hd, h⟩ := h
  obtain ⟨n1, n2, n3⟩ := hno st.heap st.ev
  cases hg : guardB st ops o.guard with
  | none => rw [hg] at h; exact h.elim
  | some g =>
    rw [hg] at h
    cases g with
    | some b => simp only [n1, n2, n3] at h
    | none =>
      simp only [n1, n2, n3] at h
      obtain ⟨r, h', h1, h2, h3⟩ := al_loud h
      refine ⟨r, h', h1, h2, fun st' hh hl => ?_⟩
      obtain ⟨m1, m2, m3⟩ := hno st'.heap st'.ev
      unfold AStep
      rw [guard_congr hl, hg]
      simp only [m1, m2, m3]
      exact ⟨hd, h3 st' hh (ev_congr hl)⟩
/-- A literal as a row of one's own. -/
def stepB (T : Tab) (n : Nat) (o : Oper) (K : St → Prop) (st : St) : Prop := o.guard = none ∧ dstOk n o.dst ∧ alB T st o.dst o.op K
theorem loudB_step {st : St} {o : Oper} {K : St → Prop} (h : stepB T n o K st) :
    ∃ r h', K ⟨pk o.dst r st.env, h'⟩ ∧ (∀ d d', o.dst = some d → d' ≠ d → r.kill d' = r) ∧ ∀ st' : St, st'.heap = st.heap → (∀ t ∈ o.looksAt ops, lk st'.env t = lk st.env t) → stepB T n o (fun s => s = ⟨pk o.dst r st'.env, h'⟩) st' := by
  obtain ⟨hg, hd, h⟩ := h
  have hev : ∀ st' : St, (∀ t ∈ o.looksAt ops, lk st'.env t = lk st.env t) → ∀ x ∈ o.op.operands, st'.ev x = st.ev x := fun st' hl => ev_congr hl
  obtain ⟨dst, op, ty, ps, af, gd⟩ := o
  simp only at hev hg hd h ⊢
  cases dst with
  | none => cases op <;> simp only [alB] at h
  | some d =>
    have ks : ∀ (d1 d' : Nat), some d = some d1 → d' ≠ d1 → (AV.s d).kill d' = .s d := fun d1 d' e hne => by injection e with e; subst e; rw [AV.kill, if_neg (Ne.symm hne)]
    cases op <;> simp only [alB] at h
    rename_i t len parts
    have hparts : ∀ st' : St, (∀ t ∈ Oper.looksAt ops ⟨some d, .buildSlice t len parts, ty, ps, af, gd⟩, lk st'.env t = lk st.env t) → (parts.toList.map fun p => (p.1, st'.ev p.2)) = (parts.toList.map fun p => (p.1, st.ev p.2)) := fun st' hl =>
      List.map_congr_left fun p hp => by rw [hev st' hl p.2 (by simp only [Op.operands, List.mem_toArray, List.mem_map]; exact ⟨p, hp, rfl⟩)]
    split at h <;> first | exact h.elim | skip
    rename_i e s1 b1 z1 ht
    cases hte : T e with
    | none => rw [hte] at h; exact h.elim
    | some te =>
      rw [hte] at h
      simp only at h
      split at h <;> first | exact h.elim | skip
      rename_i ψ cs hfill
      cases hk : te.k <;> simp only [hk] at h
      case int k =>
        split at h <;> first | exact h.elim | skip
        rename_i l hl0
        refine ⟨.s d, _, h.2, ks, fun st' hh hl => ⟨hg, hd, ?_⟩⟩
        simp only [alB, ht, hte, hparts st' hl, hfill, hk, hl0, hh, pk]
        exact ⟨h.1, trivial⟩
      all_goals
        refine ⟨.s d, _, h.2, ks, fun st' hh hl => ⟨hg, hd, ?_⟩⟩
        simp only [alB, ht, hte, hparts st' hl, hfill, hk, hh, pk]
        exact ⟨h.1, trivial⟩
end
end Go.Eng
