/- Steps within a walk that knows its own frame; maps; calls that hand over a row. -/
import Derived.Test.YtflclkbkgcfliaaEngZ3
import Derived.Test.YtflclkbkgcfliaaEngY
namespace Go.Eng
open Go.RowKit
set_option linter.unusedVariables false

/-- One operation, by what it does. -/
def SStep (P : Program) (n B : Nat) (w0 : Orig) (ops : Array Oper) (o : Oper) (K : St → Prop) (st : St) : Prop :=
  ∀ (a : Act) (w : World) (ρ : Nat → Option Value) (I : Nat → Prop), Gam n B w0 st a w ρ I → ∀ (next : Act → World → Prop) (Q : Exit → Act → World → Prop), (∀ st' a' w', K st' → G n B w0 st' a' w' → next a' w') →
    if Region.wanted o (yielded ops a.tmps) then o.wpIn (fo w0) 0 P a w next Q else (∀ f, o.about P w a.eval = some f → (fo w0).fn f) ∧ next (a.put o.dst undef) w
def AOpsS (P : Program) (n B : Nat) (w0 : Orig) (ops : Array Oper) (K : St → Prop) : List Oper → St → Prop
  | [], st => K st
  | o :: rest, st => SStep P n B w0 ops o (fun st' => AOpsS P n B w0 ops K rest st') st
theorem sstep_mono {P : Program} {n B : Nat} {w0 : Orig} {ops : Array Oper} {o : Oper} {K K' : St → Prop} {st : St} (h : SStep P n B w0 ops o K st) (hk : ∀ s, K s → K' s) : SStep P n B w0 ops o K' st :=
  fun a w ρ I hG next Q hn => h a w ρ I hG next Q fun st' a' w' h1 h2 => hn st' a' w' (hk _ h1) h2
theorem sstep_F {P : Program} {T : Tab} (hT : T.ok P) {n B : Nat} {w0 : Orig} {ops : Array Oper} {o : Oper} {K : St → Prop} {st : St} (h : AStepF P T n ops o K st) : SStep P n B w0 ops o K st := fun a w ρ I hG next Q hn =>
  toIf (astepF_nd hG h) (astepF_ok hT hG h next Q hn)
theorem aopsS_ok {P : Program} {n B : Nat} {w0 : Orig} {ops : Array Oper} {K : St → Prop} {Q : Exit → Act → World → Prop} (hQ : ∀ st' a' w', K st' → G n B w0 st' a' w' → Q .normal a' w') : ∀ (l : List Oper) (st : St) (a : Act) (w : World), G n B w0 st a w → AOpsS P n B w0 ops K l st → wpListIn (fo w0) 0 P ops Q l a w
  | [], st, a, w, hG, h => hQ st a w h hG
  | o :: rest, st, a, w, ⟨ρ, I, hG⟩, h => by
    unfold wpListIn
    exact h a w ρ I hG _ Q fun st' a' w' hK hG' => aopsS_ok hQ rest st' a' w' hG' hK
theorem awp_s {P : Program} {n B : Nat} {w0 : Orig} {Q : Exit → St → Prop} {st : St} {id : Nat} {l : List Oper} (h : ∀ K : St → Prop, (∀ s, Q .normal s → K s) → AOpsS P n B w0 l.toArray K l st) : AWP P n B w0 (.region id l.toArray false) Q st := fun a w hG =>
  wpIn_region_lit (aopsS_ok (fun st' _ _ hK hG' => ⟨st', hK, hG'⟩) l st a w hG (h (fun s => Q .normal s) fun _ h => h))
theorem awp_sseq {P : Program} {n B : Nat} {w0 : Orig} {Q : Exit → St → Prop} {st : St} {id : Nat} {l : List Oper} {y : Code} (h : ∀ K : St → Prop, (∀ s, AWP P n B w0 y Q s → K s) → AOpsS P n B w0 l.toArray K l st) : AWP P n B w0 (.seq (.region id l.toArray false) y) Q st :=
  awp_seq (awp_s (h · ))

section
variable {P : Program} {T : Tab} (hT : T.ok P) {n B : Nat} {w0 : Orig} {ops : Array Oper} {K : St → Prop} {o : Oper} {rest : List Oper} {st : St}
theorem aopss_nil (h : K st) : AOpsS P n B w0 ops K [] st := h
include hT
theorem aopss_cons {g : Option (Nat × Bool)} (hg : gOf ops o.guard = some g) (h : ∀ K' : St → Prop, (∀ s, AOpsS P n B w0 ops K rest s → K' s) → StepN P T n o.dst o.op g K' st) : AOpsS P n B w0 ops K (o :: rest) st :=
  sstep_F hT (.inl (.inl (stepN_ok hg (h _ fun _ h => h))))
theorem aopss_make (hg : o.guard = none) (hd : dstOk n o.dst) (h : ∀ K' : St → Prop, (∀ s, AOpsS P n B w0 ops K rest s → K' s) → MakeAny T o.dst o.op K' st) : AOpsS P n B w0 ops K (o :: rest) st :=
  sstep_F hT (.inr ⟨hg, hd, .inr (.inl (h _ fun _ h => h))⟩)
theorem aopss_copy (hg : o.guard = none) (hd : dstOk n o.dst) (h : ∀ K' : St → Prop, (∀ s, AOpsS P n B w0 ops K rest s → K' s) → CopyAll T o.dst o.op K' st) : AOpsS P n B w0 ops K (o :: rest) st :=
  sstep_F hT (.inr ⟨hg, hd, .inr (.inr (h _ fun _ h => h))⟩)
theorem aopss_own (d : Nat) (hd : o.dst = some d) (hg : o.guard = none) (hn : d < n) (h : ∀ K' : St → Prop, (∀ s, AOpsS P n B w0 ops K rest s → K' s) → alB T st (some d) o.op K') : AOpsS P n B w0 ops K (o :: rest) st :=
  sstep_F hT (.inl (.inr (.inl ⟨hg, by rw [hd]; exact hn, by rw [hd]; exact h _ fun _ h => h⟩)))
theorem aopss_skip {g : Option (Nat × Bool)} (hg : gOf ops o.guard = some g) (hs : guardS st g = some (some false)) (hd : dstOk n o.dst) (h : AOpsS P n B w0 ops K rest (st.put o.dst (.g false (.v (.bool false))))) : AOpsS P n B w0 ops K (o :: rest) st :=
  sstep_F hT (.inl (.inr (.inr ⟨by rw [guardS_eq hg]; exact hs, hd, _, h⟩)))
theorem aopss_eff (N : Nat) {ψ : Prop} {k : FuncId} {args : List AV} {fn : Func} {c : Code} {n' : Nat} {res : List ResultVar} (hg : o.guard = none) (hd : dstOk n o.dst) (hc : callee? st.ev o.op = some (ψ, k, args)) (hψ : ψ ∧ condL args)
    (hf : P.funcs[k]? = some fn) (hb : fn.body = some c) (hname : (fn.name == "runtime.NumGoroutine") = false) (hres : fn.results.toList = res) (hn : fn.ntmps = n') (hle : args.length ≤ n') (hN : n' ≤ N)
    (h : ∀ K' : St → Prop, (∀ s, AOpsS P n B w0 ops K rest s → K' s) → ∀ B w0, AWP P n' B w0 c (EndsE T N res fun r H => K' (St.put ⟨st.env, H⟩ o.dst r)) ⟨argEnv 0 (stripL args), st.heap⟩) : AOpsS P n B w0 ops K (o :: rest) st := by
  refine sstep_F hT (.inr ⟨hg, hd, .inl ?_⟩)
  unfold EffCall
  rw [hc]
  subst hres
  subst hn
  exact ⟨hψ, fn, c, N, hf, hb, hname, hle, hN, h _ fun _ h => h⟩
omit hT
theorem wanted_of (hg : o.guard = none) {a : Act} {w : World} {ρ : Nat → Option Value} {I : Nat → Prop} (hG : Gam n B w0 st a w ρ I) : Region.wanted o (yielded ops a.tmps) = true := by
  have := guard_ok hG (ops := ops) (o := o) (g := none) (by rw [hg]; rfl)
  simpa using this
include hT
/-- A call in place whose new blocks may go on to live (by names from M on). -/
theorem aopss_effm (N M : Nat) {ψ : Prop} {k : FuncId} {args : List AV} {fn : Func} {c : Code} {n' : Nat} {res : List ResultVar} (hg : o.guard = none) (hd : dstOk n o.dst) (hc : callee? st.ev o.op = some (ψ, k, args)) (hψ : ψ ∧ condL args)
    (hf : P.funcs[k]? = some fn) (hb : fn.body = some c) (hname : (fn.name == "runtime.NumGoroutine") = false) (hres : fn.results.toList = res) (hn : fn.ntmps = n') (hle : args.length ≤ n') (hN : n' ≤ N) (hids : idsE (· < M) st.env) (hfree : ∀ id, M ≤ id → w0.gh id = none)
    (h : ∀ K' : St → Prop, (∀ s, AOpsS P n B w0 ops K rest s → K' s) → ∀ B w0, (∀ id, M ≤ id → w0.gh id = none) → AWP P n' B w0 c (EndsE T N res fun r H => K' (St.put ⟨st.env, H⟩ o.dst r)) ⟨argEnv 0 (stripL args), st.heap⟩) : AOpsS P n B w0 ops K (o :: rest) st := by
  intro a w ρ I hG next Q hnx
  rw [wanted_of hg hG]
  refine toIn (fun c' hc' => ?_) (effM_ok hT hG hd (K := fun st' => AOpsS P n B w0 ops K rest st') ?_ next Q hnx)
  · rw [hc'] at hc; cases hc
  · unfold EffCallM
    rw [hc]
    subst hres
    subst hn
    exact ⟨hψ, fn, c, N, M, hf, hb, hname, hle, hN, hids, hfree, h _ fun _ h => h⟩
end

/-! ### Maps -/
def MapUpd (T : Tab) (dst : Option Nat) (op : Op) (K : St → Prop) (st : St) : Prop :=
  match op with
  | .mapUpdate t m k v =>
    match T t with
    | some ⟨.mapt kt _, _, _, _⟩ =>
      match T kt, (st.ev m).strip, (st.ev k).strip, (st.ev v).strip with
      | some tk, .s id, .v kv, .v vv =>
        match lkH st.heap id, keyFor tk.k kv with
        | some (.mp c), some key =>
          match c.upd key vv with
          | some c' => ((st.ev m).cond ∧ (st.ev k).cond ∧ (st.ev v).cond ∧ dst = none ∧ key.isI = c.kd ∧ key.wf ∧ vwf vv ∧ c.ents.length < 9223372036854775807) ∧ K ⟨st.env, (id, .mp c') :: st.heap⟩
          | none => False
        | _, _ => False
      | _, _, _, _ => False
    | _ => False
  | _ => False
def kdOf : TK → Bool
  | .int _ => true
  | _ => false
def MapNew (T : Tab) (dst : Option Nat) (op : Op) (K : St → Prop) (st : St) : Prop :=
  match op, dst with
  | .makeMap t none, some d =>
    match T t with
    | some ⟨.mapt kt e, _, _, _⟩ =>
      match T kt, T e with
      | some tk, some te => K ⟨(d, .s d) :: killE d st.env, (d, .mp (match te.k with | .int q => .ints (kdOf tk.k) q [] | _ => .bools (kdOf tk.k) [])) :: killH d st.heap⟩
      | _, _ => False
    | _ => False
  | _, _ => False

section
variable {P : Program} {T : Tab} (hT : T.ok P) {n B : Nat} {w0 : Orig} {st : St} {a : Act} {w : World} {ρ : Nat → Option Value} {I : Nat → Prop}
include hT in
theorem mapUpd_ok (hG : Gam n B w0 st a w ρ I) {o : Oper} {K : St → Prop} (h : MapUpd T o.dst o.op K st) : StepOk P n B w0 o a w K := by
  intro next Q hn
  unfold MapUpd at h
  split at h <;> first | exact h.elim | skip
  rename_i t m k v ho
  split at h <;> first | exact h.elim | skip
  rename_i kt e _ _ _ ht
  have hu : P.underlying t = some (.map kt e) := (hT _ _ ht).kind
  split at h <;> first | exact h.elim | skip
  rename_i tk id kv vv htk hm hk hv
  split at h <;> first | exact h.elim | skip
  rename_i c key hl hkey
  split at h <;> first | exact h.elim | skip
  rename_i c' hc
  obtain ⟨⟨c1, c2, c3, hdst, hi, hkw, hvw, hlen⟩, hK⟩ := h
  have hm' := (hG.ev m).strip c1
  have hk' := (hG.ev k).strip c2
  have hv' := (hG.ev v).strip c3
  rw [hm] at hm'; rw [hk] at hk'; rw [hv] at hv'
  have ek := hk'.v_inv
  have ev := hv'.v_inv
  obtain ⟨e1, e2⟩ := keyFor_spec hkey
  have hkt : P.underlying kt = some (kdesc c.kd) := by
    have hh := (hT _ _ htk).kind
    rcases e2 with ⟨e3, e4⟩ | ⟨e3, e4⟩
    · rw [e3] at hh; rw [← hi, e4]; exact hh
    · rw [e3] at hh; rw [← hi, e4]; exact hh
  generalize hmv : a.eval m = mv at hm'
  cases hm' with
  | s _ x hr _ =>
    obtain ⟨x', hx', hok⟩ := hG.hw.ok _ _ hl
    rw [hr] at hx'; injection hx' with hx'; subst hx'
    obtain ⟨b, rfl, hB, hmap⟩ := hok
    obtain ⟨ob, hrun, hmap'⟩ := map_upd hmap hu hkt key hi hkw hvw hc hlen
    have hb : b < w.heap.size := by obtain ⟨es, clock, hh, _⟩ := hmap; exact (Array.getElem?_eq_some_iff.1 hh).1
    unfold Oper.wp
    have : (execOp a.eval o).run P w = .ok .skip { w with heap := w.heap.setIfInBounds b ob } := by
      simp [execOp, ho, hmv, ek, ev, e1, hrun, Result.andThen]
    rw [this, Oper.upon_skip, hdst]
    refine hn _ _ _ hK ⟨ρ, I, hG.store hl hr ⟨b, rfl, hB, hmap'⟩ ⟨rfl, rfl, rfl, by simp, fun k hk => by simp only; rw [Array.getElem?_setIfInBounds_ne (by omega)]⟩ (fun b1 hb1 => ?_)⟩
    show (w.heap.setIfInBounds b ob)[b1]? = _
    rw [Array.getElem?_setIfInBounds_ne (fun e => hb1 (by rw [e]; rfl))]
theorem mapNew_ok (hG : Gam n B w0 st a w ρ I) {o : Oper} (hd : dstOk n o.dst) {K : St → Prop} (h : MapNew T o.dst o.op K st) : StepOk P n B w0 o a w K := by
  intro next Q hn
  unfold MapNew at h
  split at h <;> first | exact h.elim | skip
  rename_i t d ho hdst
  rw [hdst] at hd
  split at h <;> first | exact h.elim | skip
  split at h <;> first | exact h.elim | skip
  rename_i kt e _ _ _ ht tk te htk hte
  unfold Oper.wp
  have : (execOp a.eval o).run P w = .ok (.value (.map (some w.heap.size))) (w.alloc (.map #[] 0)) := by
    simp [execOp, ho, run_makeMap, Result.andThen]
  rw [this, Oper.upon_value, hdst]
  have hmap : ∀ c : MC, c.ents = [] → MapAt (w.alloc (.map #[] 0)) w.heap.size c := fun c hc => ⟨#[], 0, World.alloc_heap_new w _, by simp [hc], ⟨by simp, by simp, by simp⟩, by simp, by simp [hc]⟩
  refine hn _ _ _ h ⟨_, I, (hG.new (w1 := w.alloc (.map #[] 0)) ((Below.refl _ w).alloc (Nat.le_refl _) _) d (.map (some w.heap.size)) (.mp _) ⟨_, rfl, hG.base, hmap _ ?_⟩ (fun b hb => by simp [rootBlk] at hb; omega) (hG.old.ghn d hd)).put (d := some d) (fun k hk => by injection hk with hk; subst hk; exact hd) (.s d _ (updρ_self _ _ _) rfl)⟩
  cases te.k <;> rfl
end
section
variable {P : Program} {T : Tab} (hT : T.ok P) {n B : Nat} {w0 : Orig} {ops : Array Oper} {K : St → Prop} {o : Oper} {rest : List Oper} {st : St}
include hT
theorem aopss_upd (hg : o.guard = none) (h : ∀ K' : St → Prop, (∀ s, AOpsS P n B w0 ops K rest s → K' s) → MapUpd T o.dst o.op K' st) : AOpsS P n B w0 ops K (o :: rest) st := by
  intro a w ρ I hG next Q hnx
  rw [wanted_of hg hG]
  have h' := h _ fun _ h => h
  refine toIn (fun c' hc' => ?_) (mapUpd_ok hT hG h' next Q hnx)
  rw [hc'] at h'; exact h'
omit hT
theorem aopss_map (T : Tab) (hg : o.guard = none) (hd : dstOk n o.dst) (h : ∀ K' : St → Prop, (∀ s, AOpsS P n B w0 ops K rest s → K' s) → MapNew T o.dst o.op K' st) : AOpsS P n B w0 ops K (o :: rest) st := by
  intro a w ρ I hG next Q hnx
  rw [wanted_of hg hG]
  have h' := h _ fun _ h => h
  refine toIn (fun c' hc' => ?_) (mapNew_ok hG hd h' next Q hnx)
  rw [hc'] at h'; exact h'
end

/-! ### A function that hands over a row -/
def plainC (c : Cont) : Prop := match c with | .avs l => ∀ j, j < l.length → ∃ u, l.getD j .top = .v u | _ => True
theorem plainC_at {c : Cont} (h : plainC c) {j : Nat} (hj : j < c.len) : ∃ u, c.at j = .v u := by
  cases c with
  | ints k l => exact ⟨_, rfl⟩
  | vals l => exact ⟨_, rfl⟩
  | avs l => exact h j hj
def PureRow (P : Program) (f : FuncId) (args : List AV) (e : TypeId) (sz : Nat) (c : Cont) : Prop :=
  (∃ fn, P.funcs[f]? = some fn ∧ (fn.name == "runtime.NumGoroutine") = false ∧ fn.body.isNone = false) ∧
  ∀ (w : World) (I : Nat → Prop) (vs : Array Value), (∀ b, I b → b < w.heap.size) → ConcL w.heap.size I w noId args vs.toList →
    Calls P f vs w fun en w' => ∃ v m xs, en = .returned v ∧ Below w.heap.size w w' ∧ w'.ownsRow w.heap.size e sz v m xs ∧ c.len = m * sz ∧ ∀ j u, xs[j]? = some u → c.at j = .v u
def finR (T : Tab) (res : List ResultVar) (e : TypeId) (sz : Nat) (c : Cont) (st : St) : Prop :=
  match resOf T st res with
  | some (φ, [.s d]) => φ ∧ lkH st.heap d = some (.row e sz c)
  | some (φ, [.v (.slice none 0 0)]) => φ ∧ c.len = 0
  | _ => False
def EndsR (T : Tab) (res : List ResultVar) (e : TypeId) (sz : Nat) (c : Cont) : Exit → St → Prop
  | .ret, st => finR T res e sz c st
  | .normal, st => finR T res e sz c st
  | _, _ => False
theorem pureRow_of {P : Program} {T : Tab} (hT : T.ok P) {n : Nat} {f : FuncId} {fn : Func} {c : Code} {res : List ResultVar} {args : List AV} {e : TypeId} {sz : Nat} {cc : Cont} (hpl : plainC cc) (hf : P.funcs[f]? = some fn) (hb : fn.body = some c) (hname : (fn.name == "runtime.NumGoroutine") = false) (hres : fn.results.toList = res) (hn : fn.ntmps = n) (hle : args.length ≤ n)
    (h : ∀ B w0, (∀ id, w0.gh id = none) → w0.rd = none → AWP P n B w0 c (EndsR T res e sz cc) ⟨argEnv 0 args, []⟩) : PureRow P f args e sz cc := by
  refine ⟨⟨fn, hf, hname, by rw [hb]; rfl⟩, fun w I vs hI hargs => ?_⟩
  refine calls_of_awp hf hb rfl rfl (h w.heap.size ⟨w, I, fun _ => none, [], none⟩ (fun _ => rfl) rfl) ⟨noId, I, ?_⟩ fun en st' a' w' ρ I' h1 hG => ?_
  · have hsz : vs.size = args.length := by rw [← Array.length_toList, hargs.1]
    exact ⟨Marks.nil, by simp [hn]; omega, fun s => start_env hargs s, ⟨fun id blk hk => (by cases hk), fun _ _ _ _ _ _ _ _ hk => (by cases hk), fun _ _ _ _ hk => (by cases hk), hI⟩, Below.refl _ _, Nat.le_refl _, ⟨fun b hb => .inl hb, (fun _ _ h => nomatch h), fun _ _ => rfl, fun b hb => ⟨hb, rfl⟩⟩⟩
  · have key : finR T res e sz cc st' → ∃ v, (results fn a'.tmps).run P w' = .ok v w' ∧ ∃ v1 m xs, Ending.returned v = .returned v1 ∧ Below w.heap.size w w' ∧ w'.ownsRow w.heap.size e sz v1 m xs ∧ cc.len = m * sz ∧ ∀ j u, xs[j]? = some u → cc.at j = .v u := fun hfin => by
      unfold finR at hfin
      split at hfin
      · rename_i φ d hl
        obtain ⟨hφ, hk⟩ := hfin
        subst hres
        obtain ⟨v, h2, h3⟩ := res_ok hT hG hl hφ
        simp only [retOf] at h3
        cases h3 with
        | s _ x hr _ =>
          obtain ⟨x', hx', m, xs, ho, hlen, hc⟩ := hG.hw.ok _ _ hk
          rw [hr] at hx'; injection hx' with hx'; subst hx'
          refine ⟨_, h2, _, m, xs, rfl, hG.below, ho, hlen, fun j u hu => ?_⟩
          have hj : j < cc.len := by have := (List.getElem?_eq_some_iff.1 hu).1; rw [hlen, ← ho.1]; exact this
          obtain ⟨u', hu'⟩ := plainC_at hpl hj
          have := hc j u hu
          rw [hu'] at this
          rw [hu', this.v_inv]
      · rename_i φ hl
        obtain ⟨hφ, hk⟩ := hfin
        subst hres
        obtain ⟨v, h2, h3⟩ := res_ok hT hG hl hφ
        simp only [retOf] at h3
        obtain rfl := h3.v_inv
        exact ⟨_, h2, _, 0, [], rfl, hG.below, World.ownsRow_nil _ _ _ _, by rw [hk]; simp, fun j u hu => by simp at hu⟩
      · exact hfin.elim
    cases en with
    | ret => exact ⟨.inl rfl, key h1⟩
    | normal => exact ⟨.inr rfl, key h1⟩
    | _ => exact h1.elim
theorem ownsRow_base {w : World} {b b' : Nat} {e : TypeId} {sz : Nat} {v : Value} {m : Nat} {xs : List Value} (h : w.ownsRow b e sz v m xs) (hle : b' ≤ b) : w.ownsRow b' e sz v m xs := by
  refine ⟨h.1, ?_⟩
  rcases h.2 with hn | ⟨g, cap, cur, rfl, h1, r⟩
  · exact .inl hn
  · exact .inr ⟨g, cap, cur, rfl, Nat.le_trans hle h1, r⟩
/-- The caller's side. -/
def RowCall (P : Program) (dst : Option Nat) (op : Op) (K : St → Prop) (st : St) : Prop :=
  match callee? st.ev op, dst with
  | some (ψ, k, args), some d => (ψ ∧ condL args) ∧ ∃ e sz c, PureRow P k (pubL st.heap args) e sz c ∧ K ⟨(d, .s d) :: killE d st.env, (d, .row e sz c) :: killH d st.heap⟩
  | _, _ => False
theorem rowCall_ok {P : Program} {n B : Nat} {w0 : Orig} {st : St} {a : Act} {w : World} {ρ : Nat → Option Value} {I : Nat → Prop} (hG : Gam n B w0 st a w ρ I) {o : Oper} (hd : dstOk n o.dst) {K : St → Prop} (h : RowCall P o.dst o.op K st) : StepOk P n B w0 o a w K := by
  intro next Q hn
  unfold RowCall at h
  split at h <;> first | exact h.elim | skip
  rename_i ψ k args d hc hdst
  rw [hdst] at hd
  obtain ⟨⟨hψ, hcond⟩, e, sz, c, ⟨⟨fn, hf, hname, hbody⟩, hcall⟩, hK⟩ := h
  obtain ⟨vs, hrun, hvs⟩ := callee_run (fun x => hG.ev x) hc hψ hf hname hbody
  unfold Oper.wp
  rw [hrun, Oper.upon_enter]
  refine (hcall w (allB w) vs (fun b hb => hb) ⟨by rw [pubL_length]; exact hvs.1, fun j hj => ?_⟩).mono fun en w' he => ?_
  · rw [pubL_length] at hj
    rw [pubL_getD _ _ _ hj]
    exact pub_ok false hG.hw (fun h => by cases h) hG.hw.lt (fun b _ h => h) 4 (.inl rfl) ((hvs.2 j hj).strip (condL_getD hcond j))
  · obtain ⟨v, m, xs, rfl, hb, ho, hlen, hcc⟩ := he
    have ho' : w'.ownsRow B e sz v m xs := ownsRow_base ho hG.base
    have := new_row hG d hd hb ho' (fun b hb' => (ho.lt b (by rw [← rootBlk_own ho]; exact hb')).1) c hlen (fun j u hu => by rw [hcc j u hu]; exact .v _)
    rw [hdst]
    exact hn _ _ _ hK this
theorem aopss_row {P : Program} {n B : Nat} {w0 : Orig} {ops : Array Oper} {K : St → Prop} {o : Oper} {rest : List Oper} {st : St} (hg : o.guard = none) (hd : dstOk n o.dst) (h : ∀ K' : St → Prop, (∀ s, AOpsS P n B w0 ops K rest s → K' s) → RowCall P o.dst o.op K' st) : AOpsS P n B w0 ops K (o :: rest) st := by
  intro a w ρ I hG next Q hnx
  rw [wanted_of hg hG]
  have h' := h _ fun _ h => h
  refine toIn (fun c' hc' => ?_) (rowCall_ok hG hd h' next Q hnx)
  rw [hc'] at h'; exact h'

attribute [push_cast] MapUpd MapNew kdOf MC.upd MC.kd MC.ents Key.isI Key.wf vwf keyFor pvLookup RowCall EndsR finR
end Go.Eng
