/- Regions in whatever order, by steps that know their frame; a function that hands over a row of an empty slice; the keys of a map, sorted. -/
import Derived.Test.YtflclkbkgcfliaaEngR2
namespace Go.Eng
open Go.RowKit
set_option linter.unusedVariables false

/-- Whatever order is picked. -/
def AAnyS (P : Program) (n B : Nat) (w0 : Orig) (ops : Array Oper) (K : St → Prop) : Nat → Array Bool → St → Prop
  | 0, listed, st => Region.ready .any ops listed = [] ∧ K st
  | fuel + 1, listed, st => (Region.ready .any ops listed = [] → K st) ∧ ∀ i ∈ Region.ready .any ops listed, ∃ o, ops[i]? = some o ∧ SStep P n B w0 ops o (fun s => AAnyS P n B w0 ops K fuel (listed.setIfInBounds i true) s) st
theorem aanys_ok {P : Program} {n B : Nat} {w0 : Orig} {ops : Array Oper} {K : St → Prop} {Q : Exit → Act → World → Prop} (hQ : ∀ st' a' w', K st' → G n B w0 st' a' w' → Q .normal a' w') : ∀ (fuel : Nat) (listed : Array Bool) (st : St) (a : Act) (w : World), G n B w0 st a w → AAnyS P n B w0 ops K fuel listed st → wpAnyIn (fo w0) 0 P .any ops Q fuel listed a w
  | 0, listed, st, a, w, hG, h => ⟨h.1, hQ st a w h.2 hG⟩
  | fuel + 1, listed, st, a, w, hG, h => ⟨fun he => hQ st a w (h.1 he) hG, fun i hi => by
      obtain ⟨o, ho, hst⟩ := h.2 i hi
      obtain ⟨ρ, I, hg⟩ := hG
      have := hst a w ρ I hg (wpAnyIn (fo w0) 0 P .any ops Q fuel (listed.setIfInBounds i true)) Q (fun st' a' w' hK hG' => aanys_ok hQ fuel _ st' a' w' hG' hK)
      unfold wpOpIn
      simp only [ho]
      exact this⟩
theorem awp_anys {P : Program} {n B : Nat} {w0 : Orig} {Q : Exit → St → Prop} {st : St} {id : Nat} {ops : Array Oper} (hm : P.follows .mixedOrders = true) (h : ∀ K : St → Prop, (∀ s, Q .normal s → K s) → AAnyS P n B w0 ops K ops.size (Array.replicate ops.size false) st) : AWP P n B w0 (.region id ops true) Q st := by
  intro a w hG
  refine wpIn_region_any hm ?_
  have hG' : G n B w0 st a { w with drawn := w.drawn + 1 } := by
    obtain ⟨ρ, I, hg⟩ := hG
    exact ⟨ρ, I, hg.quiet ⟨⟨rfl, rfl, rfl, Nat.le_refl _, fun _ _ => rfl⟩, fun _ h => h, fun _ h h' => absurd h h', hg.hw.lt⟩⟩
  exact aanys_ok (fun st' _ _ hK hG' => ⟨st', hK, hG'⟩) _ _ st a _ hG' (h (fun s => Q .normal s) fun _ h => h)
def AllJS (P : Program) (n B : Nat) (w0 : Orig) (ops : Array Oper) (K : St → Prop) (fuel : Nat) (listed : Array Bool) (st : St) : List Nat → Prop
  | [] => True
  | i :: r => (∃ o, ops.toList[i]? = some o ∧ ∀ K' : St → Prop, (∀ s, AAnyS P n B w0 ops K fuel (listed.setIfInBounds i true) s → K' s) → AOpsS P n B w0 ops K' [o] st) ∧ AllJS P n B w0 ops K fuel listed st r
theorem AllJS.spec {P : Program} {n B : Nat} {w0 : Orig} {ops : Array Oper} {K : St → Prop} {fuel : Nat} {listed : Array Bool} {st : St} : ∀ {js : List Nat}, AllJS P n B w0 ops K fuel listed st js → ∀ i ∈ js, ∃ o, ops[i]? = some o ∧ SStep P n B w0 ops o (fun s => AAnyS P n B w0 ops K fuel (listed.setIfInBounds i true) s) st
  | [], _, i, hi => by cases hi
  | j :: r, h, i, hi => by
    rcases List.mem_cons.1 hi with rfl | hi
    · obtain ⟨o, ho, h1⟩ := h.1
      exact ⟨o, by rw [← Array.getElem?_toList]; exact ho, h1 _ fun _ h => h⟩
    · exact AllJS.spec h.2 i hi
theorem aanys_nil {P : Program} {n B : Nat} {w0 : Orig} {ops : Array Oper} {K : St → Prop} {listed : Array Bool} {st : St} (hr : Region.ready .any ops listed = []) (h : K st) : AAnyS P n B w0 ops K 0 listed st := ⟨hr, h⟩
theorem aanys_step {P : Program} {n B : Nat} {w0 : Orig} {ops : Array Oper} {K : St → Prop} {fuel : Nat} {listed : Array Bool} {st : St} (j : Nat) (js : List Nat) (hr : decide (Region.ready .any ops listed = j :: js) = true)
    (h : AllJS P n B w0 ops K fuel listed st (j :: js)) : AAnyS P n B w0 ops K (fuel + 1) listed st :=
  ⟨fun he => (by rw [of_decide_eq_true hr] at he; cases he), fun i hi => by rw [of_decide_eq_true hr] at hi; exact h.spec i hi⟩
theorem alljs_cons {P : Program} {n B : Nat} {w0 : Orig} {ops : Array Oper} {K : St → Prop} {fuel : Nat} {listed : Array Bool} {st : St} {i : Nat} {r : List Nat} {o : Oper} (ho : ops.toList[i]? = some o) (h : ∀ K' : St → Prop, (∀ s, AAnyS P n B w0 ops K fuel (listed.setIfInBounds i true) s → K' s) → AOpsS P n B w0 ops K' [o] st) (hr : AllJS P n B w0 ops K fuel listed st r) : AllJS P n B w0 ops K fuel listed st (i :: r) := ⟨⟨o, ho, h⟩, hr⟩

theorem PureRow.empty {P : Program} {f : FuncId} {fr : Bool} {c : Nat → Nat → AV} {sz off : Nat} {e : TypeId} {sz' : Nat} {cc : Cont} (h : ∀ A cap, PureRow P f [.v (.slice A 0 cap)] e sz' cc) : PureRow P f [.i fr c sz off 0] e sz' cc := by
  refine ⟨(h none 0).1, fun w I vs hI hc => ?_⟩
  have h0 := hc.2 0 (by simp)
  simp only [List.getD_cons_zero] at h0
  generalize hv : vs.toList.getD 0 undef = u at h0
  cases h0 with
  | i _ _ _ _ _ cap A uu hcap hA hcc =>
    refine (h A cap).2 w I vs hI ⟨by have := hc.1; simpa using this, fun j hj => ?_⟩
    have : j = 0 := by simp at hj; omega
    subst this
    simp only [List.getD_cons_zero]
    rw [hv]; exact .v _

/-! ### The keys of a map, sorted -/
/-- maps.Keys. -/
def KeysCalls (P : Program) (k : FuncId) (g : Nat) (t : TypeId) : Prop :=
  (∃ fn, P.funcs[k]? = some fn ∧ (fn.name == "runtime.NumGoroutine") = false ∧ fn.body.isNone = false) ∧
  ∀ (mb : Option Nat) (w : World), Calls P k #[.map mb] w fun e w' => e = .returned (.func (.func g) #[] #[.pointer (some ⟨w.heap.size, 0, none⟩)]) ∧ w' = w.alloc (.cells #[.map mb] t)
def KeysStep (P : Program) (dst : Option Nat) (op : Op) (K : St → Prop) (st : St) : Prop :=
  match callee? st.ev op, dst with
  | some (ψ, k, args), some d =>
    match stripL args with
    | [.s mid] => (ψ ∧ condL args ∧ mid ≠ d) ∧ ∃ g t c, lkH st.heap mid = some (.mp c) ∧ KeysCalls P k g t ∧ K ⟨(d, .f (.func g) [.p d 0]) :: killE d st.env, (d, .box t (.avs [.s mid])) :: killH d st.heap⟩
    | _ => False
  | _, _ => False
theorem keysStep_ok {P : Program} {n B : Nat} {w0 : Orig} {st : St} {a : Act} {w : World} {ρ : Nat → Option Value} {I : Nat → Prop} (hG : Gam n B w0 st a w ρ I) {o : Oper} (hd : dstOk n o.dst) {K : St → Prop} (h : KeysStep P o.dst o.op K st) : StepOk P n B w0 o a w K := by
  intro next Q hn
  unfold KeysStep at h
  split at h <;> first | exact h.elim | skip
  rename_i ψ k args d hc hdst
  rw [hdst] at hd
  split at h <;> first | exact h.elim | skip
  rename_i mid hargs
  obtain ⟨⟨hψ, hcond, hne⟩, g, t, c, hk, ⟨⟨fn, hf, hname, hbody⟩, hcall⟩, hK⟩ := h
  obtain ⟨vs, hrun, hvs⟩ := callee_run (fun x => hG.ev x) hc hψ hf hname hbody
  have hlen : args.length = 1 := by rw [← stripL_length args, hargs]; rfl
  have h0 := (hvs.2 0 (by omega)).strip (condL_getD hcond 0)
  rw [← stripL_getD _ _ (by omega), hargs] at h0
  simp only [List.getD_cons_zero] at h0
  have hvl : vs.toList.length = 1 := by rw [hvs.1, hlen]
  obtain ⟨v0, hv0⟩ : ∃ v0, vs.toList = [v0] := by
    match hh : vs.toList, hvl with
    | [x], _ => exact ⟨x, rfl⟩
  rw [hv0] at h0
  simp only [List.getD_cons_zero] at h0
  cases h0 with
  | s _ x hr h1 =>
    obtain ⟨x', hx', b, rfl, hB, hmap⟩ := hG.hw.ok _ _ hk
    rw [hr] at hx'; injection hx' with hx'; subst hx'
    have hvs' : vs = #[.map (some b)] := by cases vs; simp_all
    unfold Oper.wp
    rw [hrun, Oper.upon_enter, hvs']
    refine (hcall (some b) w).mono fun en w' he => ?_
    obtain ⟨rfl, rfl⟩ := he
    rw [hdst]
    have hb : Below w.heap.size w (w.alloc (.cells #[.map (some b)] t)) := (Below.refl _ _).alloc (Nat.le_refl _) _
    have h1' := hG.new hb d (.pointer (some ⟨w.heap.size, 0, none⟩)) (.box t (.avs [.s mid]))
      ⟨w.heap.size, #[.map (some b)], rfl, hG.base, heap_alloc_new w _, rfl, fun j u hu => by
        have hj : j = 0 := by
          have := (Array.getElem?_eq_some_iff.1 hu).1
          simp at this; exact this
        subst hj
        simp at hu; subst hu
        exact .s mid _ (by rw [updρ_ne _ _ _ hne]; exact hr) rfl⟩ (fun b hr => by simp [rootBlk] at hr; omega) (hG.old.ghn d hd)
    refine hn _ _ _ hK ⟨_, I, h1'.put (d := some d) (fun k hk => by injection hk with hk; subst hk; exact hd) (.f _ _ _ (by simp) fun j hj => ?_)⟩
    have hj : j = 0 := by simpa using hj
    subst hj
    simp only [List.getD_cons_zero]
    exact .p d 0 w.heap.size _ (updρ_self _ _ _) rfl
theorem aopss_keys {P : Program} {n B : Nat} {w0 : Orig} {ops : Array Oper} {K : St → Prop} {o : Oper} {rest : List Oper} {st : St} (hg : o.guard = none) (hd : dstOk n o.dst) (h : ∀ K' : St → Prop, (∀ s, AOpsS P n B w0 ops K rest s → K' s) → KeysStep P o.dst o.op K' st) : AOpsS P n B w0 ops K (o :: rest) st := by
  intro a w ρ I hG next Q hnx
  rw [wanted_of hg hG]
  have h' := h _ fun _ h => h
  refine toIn (fun c' hc' => ?_) (keysStep_ok hG hd h' next Q hnx)
  rw [hc'] at h'; exact h'

/-- slices.Sorted of a map's keys. -/
def SortCalls (P : Program) (k : FuncId) (g : Nat) (t e : TypeId) (c : MC) (out : List Value) : Prop :=
  (∃ fn, P.funcs[k]? = some fn ∧ (fn.name == "runtime.NumGoroutine") = false ∧ fn.body.isNone = false) ∧
  ∀ (w : World) (bp bm : Nat), w.heap[bp]? = some (.cells #[.map (some bm)] t (0, 0)) → MapAt w bm c →
    Calls P k #[.func (.func g) #[] #[.pointer (some ⟨bp, 0, none⟩)]] w fun en w' => ∃ v, en = .returned v ∧ Below w.heap.size w w' ∧ w'.ownsRow w.heap.size e 1 v out.length out
def SortStep (P : Program) (dst : Option Nat) (op : Op) (K : St → Prop) (st : St) : Prop :=
  match callee? st.ev op, dst with
  | some (ψ, k, args), some d =>
    match stripL args with
    | [.f (.func g) [.p bid 0]] => (ψ ∧ condL args) ∧ ∃ t mid c e out, lkH st.heap bid = some (.box t (.avs [.s mid])) ∧ lkH st.heap mid = some (.mp c) ∧ SortCalls P k g t e c out ∧ K ⟨(d, .s d) :: killE d st.env, (d, .row e 1 (.vals out)) :: killH d st.heap⟩
    | _ => False
  | _, _ => False
theorem sortStep_ok {P : Program} {n B : Nat} {w0 : Orig} {st : St} {a : Act} {w : World} {ρ : Nat → Option Value} {I : Nat → Prop} (hG : Gam n B w0 st a w ρ I) {o : Oper} (hd : dstOk n o.dst) {K : St → Prop} (h : SortStep P o.dst o.op K st) : StepOk P n B w0 o a w K := by
  intro next Q hn
  unfold SortStep at h
  split at h <;> first | exact h.elim | skip
  rename_i ψ k args d hc hdst
  rw [hdst] at hd
  split at h <;> first | exact h.elim | skip
  rename_i g bid hargs
  obtain ⟨⟨hψ, hcond⟩, t, mid, c, e, out, hkb, hk, ⟨⟨fn, hf, hname, hbody⟩, hcall⟩, hK⟩ := h
  obtain ⟨vs, hrun, hvs⟩ := callee_run (fun x => hG.ev x) hc hψ hf hname hbody
  have hlen : args.length = 1 := by rw [← stripL_length args, hargs]; rfl
  have h0 := (hvs.2 0 (by omega)).strip (condL_getD hcond 0)
  rw [← stripL_getD _ _ (by omega), hargs] at h0
  simp only [List.getD_cons_zero] at h0
  have hvl : vs.toList.length = 1 := by rw [hvs.1, hlen]
  obtain ⟨v0, hv0⟩ : ∃ v0, vs.toList = [v0] := by
    match hh : vs.toList, hvl with
    | [x], _ => exact ⟨x, rfl⟩
  rw [hv0] at h0
  simp only [List.getD_cons_zero] at h0
  cases h0 with
  | f _ _ us hul hus =>
    have hu0 := hus 0 (by simp)
    simp only [List.getD_cons_zero] at hu0
    obtain ⟨u0, rfl⟩ : ∃ u0, us = #[u0] := by
      have hl1 : us.toList.length = 1 := by simpa using hul
      match hh : us.toList, hl1 with
      | [x], _ => exact ⟨x, by cases us; simp_all⟩
    have e0 : (#[u0] : Array Value).getD 0 undef = u0 := rfl
    rw [e0] at hu0
    cases hu0 with
    | p _ _ b x hr hb =>
      obtain ⟨x', hx', b', us', rfl, hB, hh, hl, hcc⟩ := hG.hw.ok _ _ hkb
      rw [hr] at hx'; injection hx' with hx'; subst hx'
      simp only [rootBlk, Option.some.injEq] at hb; subst hb
      obtain ⟨u1, rfl⟩ : ∃ u1, us' = #[u1] := by
        have hl1 : us'.toList.length = 1 := by simpa [Cont.len] using hl
        match hh : us'.toList, hl1 with
        | [x], _ => exact ⟨x, by cases us'; simp_all⟩
      have h2 := hcc 0 u1 rfl
      simp only [Cont.at, List.getD_cons_zero] at h2
      cases h2 with
      | s _ x2 hr2 _ =>
        obtain ⟨x3, hx3, bm, rfl, hBm, hmap⟩ := hG.hw.ok _ _ hk
        rw [hr2] at hx3; injection hx3 with hx3; subst hx3
        have hvs' : vs = #[.func (.func g) #[] #[.pointer (some ⟨b', 0, none⟩)]] := by cases vs; simp_all
        unfold Oper.wp
        rw [hrun, Oper.upon_enter, hvs']
        refine (hcall w b' bm hh hmap).mono fun en w' he => ?_
        obtain ⟨v, rfl, hbel, ho⟩ := he
        have ho' : w'.ownsRow B e 1 v out.length out := ownsRow_base ho hG.base
        have := new_row hG d hd hbel ho' (fun b hb' => (ho.lt b (by rw [← rootBlk_own ho]; exact hb')).1) (.vals out) (by simp [Cont.len]) (fun j u hu => by
          have : (Cont.vals out).at j = .v u := by simp [Cont.at, List.getD_eq_getElem?_getD, hu]
          rw [this]; exact .v _)
        rw [hdst]
        exact hn _ _ _ hK this
theorem aopss_sorted {P : Program} {n B : Nat} {w0 : Orig} {ops : Array Oper} {K : St → Prop} {o : Oper} {rest : List Oper} {st : St} (hg : o.guard = none) (hd : dstOk n o.dst) (h : ∀ K' : St → Prop, (∀ s, AOpsS P n B w0 ops K rest s → K' s) → SortStep P o.dst o.op K' st) : AOpsS P n B w0 ops K (o :: rest) st := by
  intro a w ρ I hG next Q hnx
  rw [wanted_of hg hG]
  have h' := h _ fun _ h => h
  refine toIn (fun c' hc' => ?_) (sortStep_ok hG hd h' next Q hnx)
  rw [hc'] at h'; exact h'
attribute [push_cast] KeysStep SortStep stripL
end Go.Eng
