/- Part of a proof about the given program: contracts of its functions (see the comment of the last text). -/
import Derived.Test.YthgjjhddbigfcaaEng5
import Derived.RangeFuncOwn
set_option linter.unusedSimpArgs false
set_option linter.unusedVariables false
namespace Go.Eng
open Go.RowKit

def AStepF (P : Program) (T : Tab) (n : Nat) (ops : Array Oper) (o : Oper) (K : St → Prop) (st : St) : Prop :=
  AStepX P T n ops o K st ∨ (o.guard = none ∧ dstOk n o.dst ∧ (EffCall P T o.dst o.op K st ∨ MakeAny T o.dst o.op K st ∨ CopyAll T o.dst o.op K st))
theorem astepF_ok {P : Program} {T : Tab} (hT : T.ok P) {n B : Nat} {w0 : Orig} {st : St} {a : Act} {w : World} {ρ : Nat → Option Value} {I : Nat → Prop} (hG : Gam n B w0 st a w ρ I) {ops : Array Oper} {o : Oper} {K : St → Prop} (h : AStepF P T n ops o K st)
    (next : Act → World → Prop) (Q : Exit → Act → World → Prop) (hn : ∀ st' a' w', K st' → G n B w0 st' a' w' → next a' w') :
    if Region.wanted o (yielded ops a.tmps) then o.wp P a w next Q else next (a.put o.dst undef) w := by
  rcases h with h | ⟨hg, hd, h⟩
  · exact astepX_ok hT hG h next Q hn
  · have : Region.wanted o (yielded ops a.tmps) = true := by
      have := guard_ok hG (ops := ops) (o := o) (g := none) (by rw [hg]; rfl)
      simpa using this
    rw [if_pos this]
    rcases h with h | h | h
    · exact eff_ok hT hG hd h next Q hn
    · exact makeAny_ok hT hG hd h next Q hn
    · exact copyAll_ok hT hG hd h next Q hn
theorem astepF_nd {P : Program} {T : Tab} {n B : Nat} {w0 : Orig} {st : St} {a : Act} {w : World} {ρ : Nat → Option Value} {I : Nat → Prop} (hG : Gam n B w0 st a w ρ I) {ops : Array Oper} {o : Oper} {K : St → Prop} (h : AStepF P T n ops o K st) (hw : Region.wanted o (yielded ops a.tmps) = true) : ∀ c, o.op ≠ .defer c := by
  rcases h with h | ⟨_, _, h⟩
  · exact astepX_nd hG h hw
  · intro c hc
    rw [hc] at h
    rcases h with h | h | h
    · exact h
    · exact h
    · exact h
def AOpsF (P : Program) (T : Tab) (n : Nat) (ops : Array Oper) (K : St → Prop) : List Oper → St → Prop
  | [], st => K st
  | o :: rest, st => AStepF P T n ops o (fun st' => AOpsF P T n ops K rest st') st
theorem aopsF_ok {P : Program} {T : Tab} (hT : T.ok P) {n B : Nat} {w0 : Orig} {ops : Array Oper} {K : St → Prop} {Q : Exit → Act → World → Prop} (hQ : ∀ st' a' w', K st' → G n B w0 st' a' w' → Q .normal a' w') : ∀ (l : List Oper) (st : St) (a : Act) (w : World), G n B w0 st a w → AOpsF P T n ops K l st → wpListIn (fo w0) 0 P ops Q l a w
  | [], st, a, w, hG, h => hQ st a w h hG
  | o :: rest, st, a, w, ⟨ρ, I, hG⟩, h => by
    have := astepF_ok hT hG h (wpListIn (fo w0) 0 P ops Q rest) Q (fun st' a' w' hK hG' => aopsF_ok hT hQ rest st' a' w' hG' hK)
    unfold wpListIn
    exact toIf (astepF_nd hG h) this
theorem awp_f {P : Program} {T : Tab} (hT : T.ok P) {n B : Nat} {w0 : Orig} {Q : Exit → St → Prop} {st : St} {id : Nat} {l : List Oper} (h : ∀ K : St → Prop, (∀ s, Q .normal s → K s) → AOpsF P T n l.toArray K l st) : AWP P n B w0 (.region id l.toArray false) Q st := fun a w hG =>
  wpIn_region_lit (aopsF_ok hT (fun st' _ _ hK hG' => ⟨st', hK, hG'⟩) l st a w hG (h (fun s => Q .normal s) fun _ h => h))
theorem awp_fseq {P : Program} {T : Tab} (hT : T.ok P) {n B : Nat} {w0 : Orig} {Q : Exit → St → Prop} {st : St} {id : Nat} {l : List Oper} {y : Code} (h : ∀ K : St → Prop, (∀ s, AWP P n B w0 y Q s → K s) → AOpsF P T n l.toArray K l st) : AWP P n B w0 (.seq (.region id l.toArray false) y) Q st :=
  awp_seq (awp_f hT (h · ))
theorem aopsf_nil {P : Program} {T : Tab} {n : Nat} {ops : Array Oper} {K : St → Prop} {st : St} (h : K st) : AOpsF P T n ops K [] st := h
theorem aopsf_cons {P : Program} {T : Tab} {n : Nat} {ops : Array Oper} {K : St → Prop} {o : Oper} {rest : List Oper} {st : St} {g : Option (Nat × Bool)} (hg : gOf ops o.guard = some g) (h : ∀ K' : St → Prop, (∀ s, AOpsF P T n ops K rest s → K' s) → StepN P T n o.dst o.op g K' st) : AOpsF P T n ops K (o :: rest) st :=
  .inl (.inl (stepN_ok hg (h _ fun _ h => h)))
theorem aopsf_call {P : Program} {T : Tab} {n : Nat} {ops : Array Oper} {K : St → Prop} {o : Oper} {rest : List Oper} {st : St} (hg : o.guard = none) (hd : dstOk n o.dst) (h : ∀ K' : St → Prop, (∀ s, AOpsF P T n ops K rest s → K' s) → EffCall P T o.dst o.op K' st) : AOpsF P T n ops K (o :: rest) st :=
  .inr ⟨hg, hd, .inl (h _ fun _ h => h)⟩
theorem aopsf_make {P : Program} {T : Tab} {n : Nat} {ops : Array Oper} {K : St → Prop} {o : Oper} {rest : List Oper} {st : St} (hg : o.guard = none) (hd : dstOk n o.dst) (h : ∀ K' : St → Prop, (∀ s, AOpsF P T n ops K rest s → K' s) → MakeAny T o.dst o.op K' st) : AOpsF P T n ops K (o :: rest) st :=
  .inr ⟨hg, hd, .inr (.inl (h _ fun _ h => h))⟩
theorem aopsf_copy {P : Program} {T : Tab} {n : Nat} {ops : Array Oper} {K : St → Prop} {o : Oper} {rest : List Oper} {st : St} (hg : o.guard = none) (hd : dstOk n o.dst) (h : ∀ K' : St → Prop, (∀ s, AOpsF P T n ops K rest s → K' s) → CopyAll T o.dst o.op K' st) : AOpsF P T n ops K (o :: rest) st :=
  .inr ⟨hg, hd, .inr (.inr (h _ fun _ h => h))⟩

/-- Whatever order is picked. -/
def AAny (P : Program) (T : Tab) (n : Nat) (ops : Array Oper) (K : St → Prop) : Nat → Array Bool → St → Prop
  | 0, listed, st => Region.ready .any ops listed = [] ∧ K st
  | fuel + 1, listed, st => (Region.ready .any ops listed = [] → K st) ∧ ∀ i ∈ Region.ready .any ops listed, ∃ o, ops[i]? = some o ∧ AStepF P T n ops o (fun s => AAny P T n ops K fuel (listed.setIfInBounds i true) s) st
theorem aany_ok {P : Program} {T : Tab} (hT : T.ok P) {n B : Nat} {w0 : Orig} {ops : Array Oper} {K : St → Prop} {Q : Exit → Act → World → Prop} (hQ : ∀ st' a' w', K st' → G n B w0 st' a' w' → Q .normal a' w') : ∀ (fuel : Nat) (listed : Array Bool) (st : St) (a : Act) (w : World), G n B w0 st a w → AAny P T n ops K fuel listed st → wpAnyIn (fo w0) 0 P .any ops Q fuel listed a w
  | 0, listed, st, a, w, hG, h => ⟨h.1, hQ st a w h.2 hG⟩
  | fuel + 1, listed, st, a, w, hG, h => ⟨fun he => hQ st a w (h.1 he) hG, fun i hi => by
      obtain ⟨o, ho, hst⟩ := h.2 i hi
      obtain ⟨ρ, I, hg⟩ := hG
      have := astepF_ok hT hg hst (wpAnyIn (fo w0) 0 P .any ops Q fuel (listed.setIfInBounds i true)) Q (fun st' a' w' hK hG' => aany_ok hT hQ fuel _ st' a' w' hG' hK)
      unfold wpOpIn
      simp only [ho]
      exact toIf (astepF_nd hg hst) this⟩
theorem awp_any {P : Program} {T : Tab} (hT : T.ok P) {n B : Nat} {w0 : Orig} {Q : Exit → St → Prop} {st : St} {id : Nat} {ops : Array Oper} (hm : P.follows .mixedOrders = true) (h : ∀ K : St → Prop, (∀ s, Q .normal s → K s) → AAny P T n ops K ops.size (Array.replicate ops.size false) st) : AWP P n B w0 (.region id ops true) Q st := by
  intro a w hG
  refine wpIn_region_any hm ?_
  have hG' : G n B w0 st a { w with drawn := w.drawn + 1 } := by
    obtain ⟨ρ, I, hg⟩ := hG
    exact ⟨ρ, I, hg.quiet ⟨⟨rfl, rfl, rfl, Nat.le_refl _, fun _ _ => rfl⟩, fun _ h => h, fun _ h h' => absurd h h', hg.hw.lt⟩⟩
  exact aany_ok hT (fun st' _ _ hK hG' => ⟨st', hK, hG'⟩) _ _ st a _ hG' (h (fun s => Q .normal s) fun _ h => h)
def AllJ (P : Program) (T : Tab) (n : Nat) (ops : Array Oper) (K : St → Prop) (fuel : Nat) (listed : Array Bool) (st : St) : List Nat → Prop
  | [] => True
  | i :: r => (∃ o, ops.toList[i]? = some o ∧ ∃ g, gOf ops o.guard = some g ∧ ∀ K' : St → Prop, (∀ s, AAny P T n ops K fuel (listed.setIfInBounds i true) s → K' s) → StepN P T n o.dst o.op g K' st) ∧ AllJ P T n ops K fuel listed st r
theorem AllJ.spec {P : Program} {T : Tab} {n : Nat} {ops : Array Oper} {K : St → Prop} {fuel : Nat} {listed : Array Bool} {st : St} : ∀ {js : List Nat}, AllJ P T n ops K fuel listed st js → ∀ i ∈ js, ∃ o, ops[i]? = some o ∧ AStepF P T n ops o (fun s => AAny P T n ops K fuel (listed.setIfInBounds i true) s) st
  | [], _, i, hi => by cases hi
  | j :: r, h, i, hi => by
    rcases List.mem_cons.1 hi with rfl | hi
    · obtain ⟨o, ho, g, hg, h1⟩ := h.1
      exact ⟨o, by rw [← Array.getElem?_toList]; exact ho, .inl (.inl (stepN_ok hg (h1 _ fun _ h => h)))⟩
    · exact AllJ.spec h.2 i hi
theorem aany_nil {P : Program} {T : Tab} {n : Nat} {ops : Array Oper} {K : St → Prop} {listed : Array Bool} {st : St} (hr : Region.ready .any ops listed = []) (h : K st) : AAny P T n ops K 0 listed st := ⟨hr, h⟩
theorem aany_step {P : Program} {T : Tab} {n : Nat} {ops : Array Oper} {K : St → Prop} {fuel : Nat} {listed : Array Bool} {st : St} (j : Nat) (js : List Nat) (hr : decide (Region.ready .any ops listed = j :: js) = true)
    (h : AllJ P T n ops K fuel listed st (j :: js)) : AAny P T n ops K (fuel + 1) listed st :=
  ⟨fun he => (by rw [of_decide_eq_true hr] at he; cases he), fun i hi => by rw [of_decide_eq_true hr] at hi; exact h.spec i hi⟩
theorem awp_seqS {P : Program} {n B : Nat} {w0 : Orig} {c1 c2 : Code} {Q : Exit → St → Prop} {st : St} (S : St) (h1 : AWP P n B w0 c1 (fun e s => e = .normal ∧ ∀ a w, G n B w0 s a w → G n B w0 S a w) st) (h2 : AWP P n B w0 c2 Q S) : AWP P n B w0 (.seq c1 c2) Q st := by
  refine awp_seq (fun a w hG => wpIn_mono (h1 a w hG) fun e a' w' ⟨s, ⟨he, hs⟩, hG'⟩ => ?_)
  subst he
  exact ⟨s, fun a w hg => h2 a w (hs a w hg), hG'⟩
theorem awp_thenS {P : Program} {n B : Nat} {w0 : Orig} {c1 c2 : Code} {Q Q2 : Exit → St → Prop} {st : St} (S : St) (h1 : AWP P n B w0 c1 (fun e s => e = .normal ∧ ∀ a w, G n B w0 s a w → G n B w0 S a w) st) (h2 : AWP P n B w0 c2 Q2 S) : AWP P n B w0 c1 (Ex.then (AWP P n B w0 c2 Q2) Q) st := fun a w hG => wpIn_mono (h1 a w hG) fun e a' w' ⟨s, ⟨he, hs⟩, hG'⟩ => by
  subst he
  exact ⟨s, fun a w hg => h2 a w (hs a w hg), hG'⟩
theorem aopsf_own {P : Program} {T : Tab} {n : Nat} {ops : Array Oper} {K : St → Prop} {o : Oper} {rest : List Oper} {st : St} (d : Nat) (hd : o.dst = some d) (hg : o.guard = none) (hn : d < n) (h : ∀ K' : St → Prop, (∀ s, AOpsF P T n ops K rest s → K' s) → alB T st (some d) o.op K') : AOpsF P T n ops K (o :: rest) st :=
  .inl (.inr (.inl ⟨hg, by rw [hd]; exact hn, by rw [hd]; exact h _ fun _ h => h⟩))
theorem aopsf_skip {P : Program} {T : Tab} {n : Nat} {ops : Array Oper} {K : St → Prop} {o : Oper} {rest : List Oper} {st : St} {g : Option (Nat × Bool)} (hg : gOf ops o.guard = some g) (hs : guardS st g = some (some false)) (hd : dstOk n o.dst) (h : AOpsF P T n ops K rest (st.put o.dst (.g false (.v (.bool false))))) : AOpsF P T n ops K (o :: rest) st :=
  .inl (.inr (.inr (.inl ⟨by rw [guardS_eq hg]; exact hs, hd, _, h⟩)))
theorem aopsf_eff {P : Program} {T : Tab} {n : Nat} {ops : Array Oper} {K : St → Prop} {o : Oper} {rest : List Oper} {st : St} (N : Nat) {ψ : Prop} {k : FuncId} {args : List AV} {fn : Func} {c : Code} {n' : Nat} {res : List ResultVar} (hg : o.guard = none) (hd : dstOk n o.dst) (hc : callee? st.ev o.op = some (ψ, k, args)) (hψ : ψ ∧ condL args)
    (hf : P.funcs[k]? = some fn) (hb : fn.body = some c) (hname : (fn.name == "runtime.NumGoroutine") = false) (hres : fn.results.toList = res) (hn : fn.ntmps = n') (hle : args.length ≤ n') (hN : n' ≤ N)
    (h : ∀ K' : St → Prop, (∀ s, AOpsF P T n ops K rest s → K' s) → ∀ B w0, AWP P n' B w0 c (EndsE T N res fun r H => K' (St.put ⟨st.env, H⟩ o.dst r)) ⟨argEnv 0 (stripL args), st.heap⟩) : AOpsF P T n ops K (o :: rest) st := by
  refine aopsf_call hg hd fun K' hK' => ?_
  unfold EffCall
  rw [hc]
  subst hres
  subst hn
  exact ⟨hψ, fn, c, N, hf, hb, hname, hle, hN, h K' hK'⟩

attribute [push_cast] MakeAny CopyAll
end Go.Eng
namespace Go.Eng
open Go.RowKit
set_option linter.unusedVariables false

/-- One operation, by what it does. -/
def SStep (P : Program) (n B : Nat) (w0 : Orig) (ops : Array Oper) (o : Oper) (K : St → Prop) (st : St) : Prop :=
  ∀ (a : Act) (w : World) (ρ : Nat → Option Value) (I : Nat → Prop), Gam n B w0 st a w ρ I → ∀ (next : Act → World → Prop) (Q : Exit → Act → World → Prop), (∀ st' a' w', K st' → G n B w0 st' a' w' → next a' w') →
    if Region.wanted o (yielded ops a.tmps) then o.wpIn (fo w0) 0 P a w next Q else (∀ f, o.about P w a.eval = some f → (fo w0).fn f) ∧ next (a.put o.dst undef) w
def AOpsS (P : Program) (n B : Nat) (w0 : Orig) (ops : Array Oper) (K : St → Prop) : List Oper → St → Prop
  | [], st => K st
  | o :: rest, st => SStep P n B w0 ops o (fun st' => AOpsS P n B w0 ops K rest st') st
theorem sstep_mono {P : Program} {n B : Nat} {w0 : Orig} {ops : Array Oper} {o : Oper} {K K' : St → Prop} {st : St} (h : SStep P n B w0 ops o K st) (hk : ∀ s, K s → K' s) : SStep P n B w0 ops o K' st :=
  fun a w ρ I hG next Q hn => h a w ρ I hG next Q fun st' a' w' h1 h2 => hn st' a' w' (hk _ h1) h2
theorem sstep_F {P : Program} {T : Tab} (hT : T.ok P) {n B : Nat} {w0 : Orig} {ops : Array Oper} {o : Oper} {K : St → Prop} {st : St} (h : AStepF P T n ops o K st) : SStep P n B w0 ops o K st := fun a w ρ I hG next Q hn =>
  toIf (astepF_nd hG h) (astepF_ok hT hG h next Q hn)
theorem aopsS_ok {P : Program} {n B : Nat} {w0 : Orig} {ops : Array Oper} {K : St → Prop} {Q : Exit → Act → World → Prop} (hQ : ∀ st' a' w', K st' → G n B w0 st' a' w' → Q .normal a' w') : ∀ (l : List Oper) (st : St) (a : Act) (w : World), G n B w0 st a w → AOpsS P n B w0 ops K l st → wpListIn (fo w0) 0 P ops Q l a w
  | [], st, a, w, hG, h => hQ st a w h hG
  | o :: rest, st, a, w, ⟨ρ, I, hG⟩, h => by
    unfold wpListIn
    exact h a w ρ I hG _ Q fun st' a' w' hK hG' => aopsS_ok hQ rest st' a' w' hG' hK
theorem awp_s {P : Program} {n B : Nat} {w0 : Orig} {Q : Exit → St → Prop} {st : St} {id : Nat} {l : List Oper} (h : ∀ K : St → Prop, (∀ s, Q .normal s → K s) → AOpsS P n B w0 l.toArray K l st) : AWP P n B w0 (.region id l.toArray false) Q st := fun a w hG =>
  wpIn_region_lit (aopsS_ok (fun st' _ _ hK hG' => ⟨st', hK, hG'⟩) l st a w hG (h (fun s => Q .normal s) fun _ h => h))
theorem awp_sseq {P : Program} {n B : Nat} {w0 : Orig} {Q : Exit → St → Prop} {st : St} {id : Nat} {l : List Oper} {y : Code} (h : ∀ K : St → Prop, (∀ s, AWP P n B w0 y Q s → K s) → AOpsS P n B w0 l.toArray K l st) : AWP P n B w0 (.seq (.region id l.toArray false) y) Q st :=
  awp_seq (awp_s (h · ))

section
variable {P : Program} {T : Tab} (hT : T.ok P) {n B : Nat} {w0 : Orig} {ops : Array Oper} {K : St → Prop} {o : Oper} {rest : List Oper} {st : St}
theorem aopss_nil (h : K st) : AOpsS P n B w0 ops K [] st := h
include hT
theorem aopss_cons {g : Option (Nat × Bool)} (hg : gOf ops o.guard = some g) (h : ∀ K' : St → Prop, (∀ s, AOpsS P n B w0 ops K rest s → K' s) → StepN P T n o.dst o.op g K' st) : AOpsS P n B w0 ops K (o :: rest) st :=
  sstep_F hT (.inl (.inl (stepN_ok hg (h _ fun _ h => h))))
theorem aopss_make (hg : o.guard = none) (hd : dstOk n o.dst) (h : ∀ K' : St → Prop, (∀ s, AOpsS P n B w0 ops K rest s → K' s) → MakeAny T o.dst o.op K' st) : AOpsS P n B w0 ops K (o :: rest) st :=
  sstep_F hT (.inr ⟨hg, hd, .inr (.inl (h _ fun _ h => h))⟩)
theorem aopss_copy (hg : o.guard = none) (hd : dstOk n o.dst) (h : ∀ K' : St → Prop, (∀ s, AOpsS P n B w0 ops K rest s → K' s) → CopyAll T o.dst o.op K' st) : AOpsS P n B w0 ops K (o :: rest) st :=
  sstep_F hT (.inr ⟨hg, hd, .inr (.inr (h _ fun _ h => h))⟩)
theorem aopss_own (d : Nat) (hd : o.dst = some d) (hg : o.guard = none) (hn : d < n) (h : ∀ K' : St → Prop, (∀ s, AOpsS P n B w0 ops K rest s → K' s) → alB T st (some d) o.op K') : AOpsS P n B w0 ops K (o :: rest) st :=
  sstep_F hT (.inl (.inr (.inl ⟨hg, by rw [hd]; exact hn, by rw [hd]; exact h _ fun _ h => h⟩)))
theorem aopss_skip {g : Option (Nat × Bool)} (hg : gOf ops o.guard = some g) (hs : guardS st g = some (some false)) (hd : dstOk n o.dst) (h : AOpsS P n B w0 ops K rest (st.put o.dst (.g false (.v (.bool false))))) : AOpsS P n B w0 ops K (o :: rest) st :=
  sstep_F hT (.inl (.inr (.inr (.inl ⟨by rw [guardS_eq hg]; exact hs, hd, _, h⟩))))
theorem aopss_eff (N : Nat) {ψ : Prop} {k : FuncId} {args : List AV} {fn : Func} {c : Code} {n' : Nat} {res : List ResultVar} (hg : o.guard = none) (hd : dstOk n o.dst) (hc : callee? st.ev o.op = some (ψ, k, args)) (hψ : ψ ∧ condL args)
    (hf : P.funcs[k]? = some fn) (hb : fn.body = some c) (hname : (fn.name == "runtime.NumGoroutine") = false) (hres : fn.results.toList = res) (hn : fn.ntmps = n') (hle : args.length ≤ n') (hN : n' ≤ N)
    (h : ∀ K' : St → Prop, (∀ s, AOpsS P n B w0 ops K rest s → K' s) → ∀ B w0, AWP P n' B w0 c (EndsE T N res fun r H => K' (St.put ⟨st.env, H⟩ o.dst r)) ⟨argEnv 0 (stripL args), st.heap⟩) : AOpsS P n B w0 ops K (o :: rest) st := by
  refine sstep_F hT (.inr ⟨hg, hd, .inl ?_⟩)
  unfold EffCall
  rw [hc]
  subst hres
  subst hn
  exact ⟨hψ, fn, c, N, hf, hb, hname, hle, hN, h _ fun _ h => h⟩
omit hT
theorem wanted_of (hg : o.guard = none) {a : Act} {w : World} {ρ : Nat → Option Value} {I : Nat → Prop} (hG : Gam n B w0 st a w ρ I) : Region.wanted o (yielded ops a.tmps) = true := by
  have := guard_ok hG (ops := ops) (o := o) (g := none) (by rw [hg]; rfl)
  simpa using this
include hT
/-- A call in place whose new blocks may go on to live (by names from M on). -/
theorem aopss_effm (N M : Nat) {ψ : Prop} {k : FuncId} {args : List AV} {fn : Func} {c : Code} {n' : Nat} {res : List ResultVar} (hg : o.guard = none) (hd : dstOk n o.dst) (hc : callee? st.ev o.op = some (ψ, k, args)) (hψ : ψ ∧ condL args)
    (hf : P.funcs[k]? = some fn) (hb : fn.body = some c) (hname : (fn.name == "runtime.NumGoroutine") = false) (hres : fn.results.toList = res) (hn : fn.ntmps = n') (hle : args.length ≤ n') (hN : n' ≤ N) (hids : idsE (· < M) st.env) (hfree : ∀ id, M ≤ id → w0.gh id = none)
    (h : ∀ K' : St → Prop, (∀ s, AOpsS P n B w0 ops K rest s → K' s) → ∀ B w0, (∀ id, M ≤ id → w0.gh id = none) → AWP P n' B w0 c (EndsE T N res fun r H => K' (St.put ⟨st.env, H⟩ o.dst r)) ⟨argEnv 0 (stripL args), st.heap⟩) : AOpsS P n B w0 ops K (o :: rest) st := by
  intro a w ρ I hG next Q hnx
  rw [wanted_of hg hG]
  refine toIn (fun c' hc' => ?_) (effM_ok hT hG hd (K := fun st' => AOpsS P n B w0 ops K rest st') ?_ next Q hnx)
  · rw [hc'] at hc; cases hc
  · unfold EffCallM
    rw [hc]
    subst hres
    subst hn
    exact ⟨hψ, fn, c, N, M, hf, hb, hname, hle, hN, hids, hfree, h _ fun _ h => h⟩
end

/-! ### Maps -/
def MapUpd (T : Tab) (dst : Option Nat) (op : Op) (K : St → Prop) (st : St) : Prop :=
  match op with
  | .mapUpdate t m k v =>
    match T t with
    | some ⟨.mapt kt _, _, _, _⟩ =>
      match T kt, (st.ev m).strip, (st.ev k).strip, (st.ev v).strip with
      | some tk, .s id, .v kv, .v vv =>
        match lkH st.heap id, keyFor tk.k kv with
        | some (.mp c), some key =>
          match c.upd key vv with
          | some c' => ((st.ev m).cond ∧ (st.ev k).cond ∧ (st.ev v).cond ∧ dst = none ∧ key.isI = c.kd ∧ key.wf ∧ vwf vv ∧ c.ents.length < 9223372036854775807) ∧ K ⟨st.env, (id, .mp c') :: st.heap⟩
          | none => False
        | _, _ => False
      | _, _, _, _ => False
    | _ => False
  | _ => False
def kdOf : TK → Bool
  | .int _ => true
  | _ => false
def MapNew (T : Tab) (dst : Option Nat) (op : Op) (K : St → Prop) (st : St) : Prop :=
  match op, dst with
  | .makeMap t none, some d =>
    match T t with
    | some ⟨.mapt kt e, _, _, _⟩ =>
      match T kt, T e with
      | some tk, some te => K ⟨(d, .s d) :: killE d st.env, (d, match te.k with | .int q => .mp (.ints (kdOf tk.k) q []) | .bool => .mp (.bools (kdOf tk.k) []) | _ => .mpa (kdOf tk.k) [] (.avs [])) :: killH d st.heap⟩
      | _, _ => False
    | _ => False
  | _, _ => False

section
variable {P : Program} {T : Tab} (hT : T.ok P) {n B : Nat} {w0 : Orig} {st : St} {a : Act} {w : World} {ρ : Nat → Option Value} {I : Nat → Prop}
include hT in
theorem mapUpd_ok (hG : Gam n B w0 st a w ρ I) {o : Oper} {K : St → Prop} (h : MapUpd T o.dst o.op K st) : StepOk P n B w0 o a w K := by
  intro next Q hn
  unfold MapUpd at h
  split at h <;> first | exact h.elim | skip
  rename_i t m k v ho
  split at h <;> first | exact h.elim | skip
  rename_i kt e _ _ _ ht
  have hu : P.underlying t = some (.map kt e) := (hT _ _ ht).kind
  split at h <;> first | exact h.elim | skip
  rename_i tk id kv vv htk hm hk hv
  split at h <;> first | exact h.elim | skip
  rename_i c key hl hkey
  split at h <;> first | exact h.elim | skip
  rename_i c' hc
  obtain ⟨⟨c1, c2, c3, hdst, hi, hkw, hvw, hlen⟩, hK⟩ := h
  have hm' := (hG.ev m).strip c1
  have hk' := (hG.ev k).strip c2
  have hv' := (hG.ev v).strip c3
  rw [hm] at hm'; rw [hk] at hk'; rw [hv] at hv'
  have ek := hk'.v_inv
  have ev := hv'.v_inv
  obtain ⟨e1, e2⟩ := keyFor_spec hkey
  have hkt : P.underlying kt = some (kdesc c.kd) := by
    have hh := (hT _ _ htk).kind
    rcases e2 with ⟨e3, e4⟩ | ⟨e3, e4⟩
    · rw [e3] at hh; rw [← hi, e4]; exact hh
    · rw [e3] at hh; rw [← hi, e4]; exact hh
  generalize hmv : a.eval m = mv at hm'
  cases hm' with
  | s _ x hr _ =>
    obtain ⟨x', hx', hok⟩ := hG.hw.ok _ _ hl
    rw [hr] at hx'; injection hx' with hx'; subst hx'
    obtain ⟨b, rfl, hB, hmap⟩ := hok
    obtain ⟨ob, hrun, hmap'⟩ := map_upd hmap hu hkt key hi hkw hvw hc hlen
    have hb : b < w.heap.size := by obtain ⟨es, clock, hh, _⟩ := hmap; exact (Array.getElem?_eq_some_iff.1 hh).1
    unfold Oper.wp
    have : (execOp a.eval o).run P w = .ok .skip { w with heap := w.heap.setIfInBounds b ob } := by
      simp [execOp, ho, hmv, ek, ev, e1, hrun, Result.andThen]
    rw [this, Oper.upon_skip, hdst]
    refine hn _ _ _ hK ⟨ρ, I, hG.store hl hr ⟨b, rfl, hB, hmap'⟩ ⟨rfl, rfl, rfl, by simp, fun k hk => by simp only; rw [Array.getElem?_setIfInBounds_ne (by omega)]⟩ (fun b1 hb1 => ?_)⟩
    show (w.heap.setIfInBounds b ob)[b1]? = _
    rw [Array.getElem?_setIfInBounds_ne (fun e => hb1 (by rw [e]; rfl))]
theorem mapNew_ok (hG : Gam n B w0 st a w ρ I) {o : Oper} (hd : dstOk n o.dst) {K : St → Prop} (h : MapNew T o.dst o.op K st) : StepOk P n B w0 o a w K := by
  intro next Q hn
  unfold MapNew at h
  split at h <;> first | exact h.elim | skip
  rename_i t d ho hdst
  rw [hdst] at hd
  split at h <;> first | exact h.elim | skip
  split at h <;> first | exact h.elim | skip
  rename_i kt e _ _ _ ht tk te htk hte
  unfold Oper.wp
  have : (execOp a.eval o).run P w = .ok (.value (.map (some w.heap.size))) (w.alloc (.map #[] 0)) := by
    simp [execOp, ho, run_makeMap, Result.andThen]
  rw [this, Oper.upon_value, hdst]
  have hmap : ∀ c : MC, c.ents = [] → MapAt (w.alloc (.map #[] 0)) w.heap.size c := fun c hc => ⟨#[], 0, World.alloc_heap_new w _, by simp [hc], ⟨by simp, by simp, by simp⟩, by simp, by simp [hc]⟩
  refine hn _ _ _ h ⟨_, I, (hG.new (w1 := w.alloc (.map #[] 0)) ((Below.refl _ w).alloc (Nat.le_refl _) _) d (.map (some w.heap.size)) _ ?_ (fun b hb => by simp [rootBlk] at hb; omega) (hG.old.ghn d hd)).put (d := some d) (fun k hk => by injection hk with hk; subst hk; exact hd) (.s d _ (updρ_self _ _ _) rfl)⟩
  have hA : BlkOK B I (w.alloc (.map #[] 0)) (updρ ρ d (.map (some w.heap.size))) (.map (some w.heap.size)) (.mpa (kdOf tk.k) [] (.avs [])) := ⟨_, [], rfl, hG.base, hmap _ rfl, rfl, rfl, fun j u hu => by simp at hu⟩
  cases te.k <;> first | exact ⟨_, rfl, hG.base, hmap _ rfl⟩ | exact hA
end
section
variable {P : Program} {T : Tab} (hT : T.ok P) {n B : Nat} {w0 : Orig} {ops : Array Oper} {K : St → Prop} {o : Oper} {rest : List Oper} {st : St}
include hT
theorem aopss_upd (hg : o.guard = none) (h : ∀ K' : St → Prop, (∀ s, AOpsS P n B w0 ops K rest s → K' s) → MapUpd T o.dst o.op K' st) : AOpsS P n B w0 ops K (o :: rest) st := by
  intro a w ρ I hG next Q hnx
  rw [wanted_of hg hG]
  have h' := h _ fun _ h => h
  refine toIn (fun c' hc' => ?_) (mapUpd_ok hT hG h' next Q hnx)
  rw [hc'] at h'; exact h'
theorem aopss_updA (hg : o.guard = none) (h : ∀ K' : St → Prop, (∀ s, AOpsS P n B w0 ops K rest s → K' s) → MapUpdA T o.dst o.op K' st) : AOpsS P n B w0 ops K (o :: rest) st := by
  intro a w ρ I hG next Q hnx
  rw [wanted_of hg hG]
  have h' := h _ fun _ h => h
  refine toIn (fun c' hc' => ?_) (mapUpdA_ok hT hG h' next Q hnx)
  rw [hc'] at h'; exact h'
omit hT
theorem aopss_map (T : Tab) (hg : o.guard = none) (hd : dstOk n o.dst) (h : ∀ K' : St → Prop, (∀ s, AOpsS P n B w0 ops K rest s → K' s) → MapNew T o.dst o.op K' st) : AOpsS P n B w0 ops K (o :: rest) st := by
  intro a w ρ I hG next Q hnx
  rw [wanted_of hg hG]
  have h' := h _ fun _ h => h
  refine toIn (fun c' hc' => ?_) (mapNew_ok hG hd h' next Q hnx)
  rw [hc'] at h'; exact h'
end

/-! ### A function that hands over a row -/
def plainC (c : Cont) : Prop := match c with | .avs l => ∀ j, j < l.length → ∃ u, l.getD j .top = .v u | _ => True
theorem plainC_at {c : Cont} (h : plainC c) {j : Nat} (hj : j < c.len) : ∃ u, c.at j = .v u := by
  cases c with
  | ints k l => exact ⟨_, rfl⟩
  | vals l => exact ⟨_, rfl⟩
  | avs l => exact h j hj
def PureRow (P : Program) (f : FuncId) (args : List AV) (e : TypeId) (sz : Nat) (c : Cont) : Prop :=
  (∃ fn, P.funcs[f]? = some fn ∧ (fn.name == "runtime.NumGoroutine") = false ∧ fn.body.isNone = false) ∧
  ∀ (w : World) (I : Nat → Prop) (vs : Array Value), (∀ b, I b → b < w.heap.size) → ConcL w.heap.size I w noId args vs.toList →
    Calls P f vs w fun en w' => ∃ v m xs, en = .returned v ∧ Below w.heap.size w w' ∧ w'.ownsRow w.heap.size e sz v m xs ∧ c.len = m * sz ∧ ∀ j u, xs[j]? = some u → c.at j = .v u
def finR (T : Tab) (res : List ResultVar) (e : TypeId) (sz : Nat) (c : Cont) (st : St) : Prop :=
  match resOf T st res with
  | some (φ, [.s d]) => φ ∧ lkH st.heap d = some (.row e sz c)
  | some (φ, [.v (.slice none 0 0)]) => φ ∧ c.len = 0
  | _ => False
def EndsR (T : Tab) (res : List ResultVar) (e : TypeId) (sz : Nat) (c : Cont) : Exit → St → Prop
  | .ret, st => finR T res e sz c st
  | .normal, st => finR T res e sz c st
  | _, _ => False
theorem pureRow_of {P : Program} {T : Tab} (hT : T.ok P) {n : Nat} {f : FuncId} {fn : Func} {c : Code} {res : List ResultVar} {args : List AV} {e : TypeId} {sz : Nat} {cc : Cont} (hpl : plainC cc) (hf : P.funcs[f]? = some fn) (hb : fn.body = some c) (hname : (fn.name == "runtime.NumGoroutine") = false) (hres : fn.results.toList = res) (hn : fn.ntmps = n) (hle : args.length ≤ n)
    (h : ∀ B w0, (∀ id, w0.gh id = none) → w0.rd = none → AWP P n B w0 c (EndsR T res e sz cc) ⟨argEnv 0 args, []⟩) : PureRow P f args e sz cc := by
  refine ⟨⟨fn, hf, hname, by rw [hb]; rfl⟩, fun w I vs hI hargs => ?_⟩
  refine calls_of_awp hf hb rfl rfl (h w.heap.size ⟨w, I, fun _ => none, [], none⟩ (fun _ => rfl) rfl) ⟨noId, I, ?_⟩ fun en st' a' w' ρ I' h1 hG => ?_
  · have hsz : vs.size = args.length := by rw [← Array.length_toList, hargs.1]
    exact ⟨Marks.nil, by simp [hn]; omega, fun s => start_env hargs s, ⟨fun id blk hk => (by cases hk), fun _ _ _ _ _ _ _ _ hk => (by cases hk), fun _ _ _ _ hk => (by cases hk), hI⟩, Below.refl _ _, Nat.le_refl _, ⟨fun b hb => .inl hb, (fun _ _ h => nomatch h), fun _ _ => rfl, fun b hb => ⟨hb, rfl⟩⟩⟩
  · have key : finR T res e sz cc st' → ∃ v, (results fn a'.tmps).run P w' = .ok v w' ∧ ∃ v1 m xs, Ending.returned v = .returned v1 ∧ Below w.heap.size w w' ∧ w'.ownsRow w.heap.size e sz v1 m xs ∧ cc.len = m * sz ∧ ∀ j u, xs[j]? = some u → cc.at j = .v u := fun hfin => by
      unfold finR at hfin
      split at hfin
      · rename_i φ d hl
        obtain ⟨hφ, hk⟩ := hfin
        subst hres
        obtain ⟨v, h2, h3⟩ := res_ok hT hG hl hφ
        simp only [retOf] at h3
        cases h3 with
        | s _ x hr _ =>
          obtain ⟨x', hx', m, xs, ho, hlen, hc⟩ := hG.hw.ok _ _ hk
          rw [hr] at hx'; injection hx' with hx'; subst hx'
          refine ⟨_, h2, _, m, xs, rfl, hG.below, ho, hlen, fun j u hu => ?_⟩
          have hj : j < cc.len := by have := (List.getElem?_eq_some_iff.1 hu).1; rw [hlen, ← ho.1]; exact this
          obtain ⟨u', hu'⟩ := plainC_at hpl hj
          have := hc j u hu
          rw [hu'] at this
          rw [hu', this.v_inv]
      · rename_i φ hl
        obtain ⟨hφ, hk⟩ := hfin
        subst hres
        obtain ⟨v, h2, h3⟩ := res_ok hT hG hl hφ
        simp only [retOf] at h3
        obtain rfl := h3.v_inv
        exact ⟨_, h2, _, 0, [], rfl, hG.below, World.ownsRow_nil _ _ _ _, by rw [hk]; simp, fun j u hu => by simp at hu⟩
      · exact hfin.elim
    cases en with
    | ret => exact ⟨.inl rfl, key h1⟩
    | normal => exact ⟨.inr rfl, key h1⟩
    | _ => exact h1.elim
theorem ownsRow_base {w : World} {b b' : Nat} {e : TypeId} {sz : Nat} {v : Value} {m : Nat} {xs : List Value} (h : w.ownsRow b e sz v m xs) (hle : b' ≤ b) : w.ownsRow b' e sz v m xs := by
  refine ⟨h.1, ?_⟩
  rcases h.2 with hn | ⟨g, cap, cur, rfl, h1, r⟩
  · exact .inl hn
  · exact .inr ⟨g, cap, cur, rfl, Nat.le_trans hle h1, r⟩
/-- The caller's side. -/
def RowCall (P : Program) (dst : Option Nat) (op : Op) (K : St → Prop) (st : St) : Prop :=
  match callee? st.ev op, dst with
  | some (ψ, k, args), some d => (ψ ∧ condL args) ∧ ∃ e sz c, PureRow P k (pubL st.heap args) e sz c ∧ K ⟨(d, .s d) :: killE d st.env, (d, .row e sz c) :: killH d st.heap⟩
  | _, _ => False
theorem rowCall_ok {P : Program} {n B : Nat} {w0 : Orig} {st : St} {a : Act} {w : World} {ρ : Nat → Option Value} {I : Nat → Prop} (hG : Gam n B w0 st a w ρ I) {o : Oper} (hd : dstOk n o.dst) {K : St → Prop} (h : RowCall P o.dst o.op K st) : StepOk P n B w0 o a w K := by
  intro next Q hn
  unfold RowCall at h
  split at h <;> first | exact h.elim | skip
  rename_i ψ k args d hc hdst
  rw [hdst] at hd
  obtain ⟨⟨hψ, hcond⟩, e, sz, c, ⟨⟨fn, hf, hname, hbody⟩, hcall⟩, hK⟩ := h
  obtain ⟨vs, hrun, hvs⟩ := callee_run (fun x => hG.ev x) hc hψ hf hname hbody
  unfold Oper.wp
  rw [hrun, Oper.upon_enter]
  refine (hcall w (allB w) vs (fun b hb => hb) ⟨by rw [pubL_length]; exact hvs.1, fun j hj => ?_⟩).mono fun en w' he => ?_
  · rw [pubL_length] at hj
    rw [pubL_getD _ _ _ hj]
    exact pub_ok false hG.hw (fun h => by cases h) hG.hw.lt (fun b _ h => h) 6 (.inl rfl) ((hvs.2 j hj).strip (condL_getD hcond j))
  · obtain ⟨v, m, xs, rfl, hb, ho, hlen, hcc⟩ := he
    have ho' : w'.ownsRow B e sz v m xs := ownsRow_base ho hG.base
    have := new_row hG d hd hb ho' (fun b hb' => (ho.lt b (by rw [← rootBlk_own ho]; exact hb')).1) c hlen (fun j u hu => by rw [hcc j u hu]; exact .v _)
    rw [hdst]
    exact hn _ _ _ hK this
theorem aopss_row {P : Program} {n B : Nat} {w0 : Orig} {ops : Array Oper} {K : St → Prop} {o : Oper} {rest : List Oper} {st : St} (hg : o.guard = none) (hd : dstOk n o.dst) (h : ∀ K' : St → Prop, (∀ s, AOpsS P n B w0 ops K rest s → K' s) → RowCall P o.dst o.op K' st) : AOpsS P n B w0 ops K (o :: rest) st := by
  intro a w ρ I hG next Q hnx
  rw [wanted_of hg hG]
  have h' := h _ fun _ h => h
  refine toIn (fun c' hc' => ?_) (rowCall_ok hG hd h' next Q hnx)
  rw [hc'] at h'; exact h'

attribute [push_cast] MapUpd MapNew kdOf MC.upd MC.kd MC.ents Key.isI Key.wf vwf keyFor pvLookup RowCall EndsR finR
/-- A call's contract, in three shapes of its guard. -/
theorem con1 {α : Type} {A B C : α → Prop} (r : α) (p : A r) (o : B r) (k : C r) : ∃ r, (A r ∧ B r) ∧ C r := ⟨r, ⟨p, o⟩, k⟩
theorem con2 {α : Type} {b : Prop} {A B C : α → Prop} (r : α) (p : b → A r) (o : b → B r) (k : C r) : ∃ r, (b → A r ∧ B r) ∧ C r := ⟨r, fun hb => ⟨p hb, o hb⟩, k⟩
theorem con3 {α : Type} {b g : Prop} {A B C : α → Prop} (hg : b → g) (r : α) (p : b → A r) (o : b → B r) (k : C r) : ∃ r, (b → g ∧ A r ∧ B r) ∧ C r := ⟨r, fun hb => ⟨hg hb, p hb, o hb⟩, k⟩
end Go.Eng
namespace Go.Eng
open Go.RowKit
set_option linter.unusedVariables false

theorem cell_putL {w : World} {l : Nat} {r : Loop} {o' : Obj} (hl : w.heap[l]? = some (.loop r)) {ad : Addr} {v : Value} (h : w.cell? ad = some v) : (w.putObj l o').cell? ad = some v := by
  have hn : ad.block ≠ l := fun hm => by
    unfold World.cell? at h
    rw [hm] at h
    simp [hl] at h
  rw [World.cell?_of_block (w := w) (a := ad) (World.putObj_heap_other hn)]; exact h
theorem below_putL {w : World} {B l : Nat} {o' : Obj} (hB : B ≤ l) : Below B w (w.putObj l o') :=
  ⟨rfl, rfl, rfl, by simp [World.putObj], fun k hk => World.putObj_heap_other (by omega)⟩

section
variable {n B : Nat} {w0 : Orig} {st : St} {a : Act} {w : World} {ρ : Nat → Option Value} {I : Nat → Prop}

theorem Gam.hwL (h : Gam n B w0 st a w ρ I) {l : Nat} {r : Loop} (o' : Obj) (hl : w.heap[l]? = some (.loop r)) (hI : I l) : HW B I (w.putObj l o') ρ st.heap := by
  have hc : ∀ {ρ' : Nat → Option Value} {x : AV} {u : Value}, Conc B I w ρ' x u → Conc B I (w.putObj l o') ρ' x u := fun h => h.monoC (Nat.le_refl _) (fun _ h => h) (fun ad v _ hv => cell_putL hl hv) _ (fun _ _ h => h)
  refine ⟨fun id blk hk => ?_, h.hw.apart, h.hw.imm, fun b hb => by rw [World.putObj_size]; exact h.hw.lt b hb⟩
  obtain ⟨x, hx, hok⟩ := h.hw.ok id blk hk
  have hr : ∀ b, rootBlk x = some b → (w.putObj l o').heap[b]? = w.heap[b]? := fun b hb => World.putObj_heap_other (fun e => h.hw.imm id blk x b hk hx hb (e ▸ hI))
  refine ⟨x, hx, ?_⟩
  cases blk with
  | box t c =>
    obtain ⟨b, us, rfl, hB, hh, hl, hcc⟩ := hok
    exact ⟨b, us, rfl, hB, by rw [hr b rfl]; exact hh, hl, fun j u hu => hc (hcc j u hu)⟩
  | row e sz c =>
    obtain ⟨m, xs, ho, hl, hcc⟩ := hok
    exact ⟨m, xs, ownsRow_block ho hr, hl, fun j u hu => hc (hcc j u hu)⟩
  | mp c =>
    obtain ⟨b', rfl, hB, es, clock, hh, r⟩ := hok
    exact ⟨b', rfl, hB, es, clock, by rw [hr b' rfl]; exact hh, r⟩
  | mpa kd ks c =>
    obtain ⟨b', vals, rfl, hB, ⟨es, clock, hh, r⟩, hl, hl2, hcc⟩ := hok
    exact ⟨b', vals, rfl, hB, ⟨es, clock, by rw [hr b' rfl]; exact hh, r⟩, hl, hl2, fun j u hu => hc (hcc j u hu)⟩
  | nst e c =>
    obtain ⟨m, xs, ho, hl, hcc⟩ := hok
    exact ⟨m, xs, ownsRow_block ho hr, hl, fun j u hu => hc (hcc j u hu)⟩
theorem Gam.envL (h : Gam n B w0 st a w ρ I) {l : Nat} {r : Loop} (o' : Obj) (hl : w.heap[l]? = some (.loop r)) (s : Nat) : Conc B I (w.putObj l o') ρ (lk st.env s) (a.tmps.getD s undef) :=
  (h.env s).monoC (Nat.le_refl _) (fun _ h => h) (fun ad v _ hv => cell_putL hl hv) _ (fun _ _ h => h)
/-- The base of a frame's word is laid anew. -/
theorem Gam.rebase (h : Gam n B w0 st a w ρ I) (gh : Nat → Option (Option Value)) (hgh : ∀ id x, gh id = some x → ρ id = x) (hghn : ∀ d, d < n → gh d = none) (ds : List Deferred) (rd : Option Nat) : Gam n B ⟨w, I, gh, ds, rd⟩ st { tmps := a.tmps, defers := ds } w ρ I :=
  ⟨Marks.nil, h.size, h.env, h.hw, Below.refl _ _, h.base, ⟨fun b hb => .inl hb, hgh, hghn, fun b hb => ⟨hb, rfl⟩⟩⟩
theorem Gam.rebaseL (h : Gam n B w0 st a w ρ I) {l : Nat} {r : Loop} (o' : Obj) (hl : w.heap[l]? = some (.loop r)) (hI : I l) (gh : Nat → Option (Option Value)) (hgh : ∀ id x, gh id = some x → ρ id = x) (hghn : ∀ d, d < n → gh d = none) (ds : List Deferred) (rd : Option Nat) :
    Gam n B ⟨w.putObj l o', I, gh, ds, rd⟩ st { tmps := a.tmps, defers := ds } (w.putObj l o') ρ I :=
  ⟨Marks.nil, h.size, h.envL o' hl, h.hwL o' hl hI, Below.refl _ _, by rw [World.putObj_size]; exact h.base, ⟨fun b hb => .inl hb, hgh, hghn, fun b hb => ⟨hb, rfl⟩⟩⟩
end

/-- Slots are set. -/
def setE : List Nat → List AV → List (Nat × AV) → List (Nat × AV)
  | p :: ps, x :: xs, E => setE ps xs ((p, x) :: E)
  | _, _, E => E
theorem Gam.setE {n B : Nat} {w0 : Orig} {H : List (Nat × Blk)} {w : World} {ρ : Nat → Option Value} {I : Nat → Prop} {ds : List Deferred} : ∀ (ps : List Nat) (xs : List AV) (vs : List Value) (E : List (Nat × AV)) (tmps : Array Value), (∀ p ∈ ps, p < n) → ConcL B I w ρ xs vs → ps.length = xs.length →
    Gam n B w0 ⟨E, H⟩ { tmps := tmps, defers := ds } w ρ I → Gam n B w0 ⟨Eng.setE ps xs E, H⟩ { tmps := (ps.zip vs).foldl (fun t (p : Nat × Value) => t.setIfInBounds p.1 p.2) tmps, defers := ds } w ρ I
  | [], xs, vs, E, tmps, _, _, _, h => by simpa [Eng.setE] using h
  | p :: ps, x :: xs, v :: vs, E, tmps, hp, hc, hl, h => by
    have h1 := h.put (d := some p) (fun k hk => by injection hk with hk; subst hk; exact hp _ (by simp)) (x := x) (u := v) (by simpa using hc.2 0 (by simp))
    have := Gam.setE ps xs vs ((p, x) :: E) (tmps.setIfInBounds p v) (fun q hq => hp q (by simp [hq])) ⟨by simpa using hc.1, fun j hj => by simpa using hc.2 (j + 1) (by simpa using hj)⟩ (by simpa using hl) h1
    simpa [Eng.setE] using this
  | p :: ps, [], vs, E, tmps, _, _, hl, h => by simp at hl
  | p :: ps, x :: xs, [], E, tmps, _, hc, _, h => by have := hc.1; simp at this

/-- How the body of a loop over a function ends: it goes on. -/
def EndsB (N : Nat) (R : List (Nat × Blk) → Prop) : Exit → St → Prop
  | .normal, st => geH N (keepH N st.heap) ∧ R (keepH N st.heap)
  | _, _ => False
def EndsRf (N : Nat) (R : List (Nat × Blk) → Prop) : Exit → St → Prop
  | .normal, st => geH N (keepH N st.heap) ∧ R (keepH N st.heap)
  | .ret, st => geH N (keepH N st.heap) ∧ R (keepH N st.heap)
  | _, _ => False
def allGe (N : Nat) : List AV → Prop
  | [] => True
  | x :: r => x.ge N ∧ allGe N r
theorem allGe_getD {N : Nat} : ∀ {cs : List AV} (_ : allGe N cs) (j : Nat), (cs.getD j .top).ge N
  | [], _, _ => by simp [AV.ge]
  | x :: r, h, 0 => by simpa using h.1
  | x :: r, h, j + 1 => by simpa using allGe_getD h.2 j
/-- yield's law, within the walk of the function that is ranged over. -/
def YRule (P : Program) (n ng N M B l : Nat) (wg : Orig) (ps : List Nat) (assign body : Code) (env0 : List (Nat × AV)) : Prop :=
  ∀ (M' : Nat), M ≤ M' → ∀ (ops : Array Oper) (K : St → Prop) (o : Oper) (rest : List Oper) (env : List (Nat × AV)) (H : List (Nat × Blk)) (y : Operand) (as : Array Operand) (ats : Array TypeId) (g : Option (Nat × Bool)),
    o.op = .call ⟨.value y, as, ats⟩ → gOf ops o.guard = some g → (guardS ⟨env, H⟩ g = some none ∨ guardS ⟨env, H⟩ g = some (some true)) → dstOk ng o.dst → ((St.mk env H).ev y).cond ∧ ((St.mk env H).ev y).strip = .v (.func (.yield l) #[] #[]) → as.size = ps.length →
    condL (as.toList.map (St.mk env H).ev) → allGe N (stripL (as.toList.map (St.mk env H).ev)) → idsE (· < M') env → geH N (keepH N H) →
    (∀ wb, (∀ id, (id < N ∨ M' ≤ id) → wb.gh id = none) → AWP P n B wb assign (Ex.then (fun s => ∀ wb2, (∀ id, (id < N ∨ M' ≤ id) → wb2.gh id = none) → AWP P n B wb2 body (EndsB N fun H2 => AOpsS P ng B wg ops K rest (St.put ⟨env, H2⟩ o.dst (BL true))) s) (fun _ _ => False))
      ⟨setE ps (stripL (as.toList.map (St.mk env H).ev)) env0, keepH N H⟩) →
    AOpsS P ng B wg ops K (o :: rest) ⟨env, H⟩

theorem awp_rf {P : Program} {n B : Nat} {w0 : Orig} {st : St} {Q : Exit → St → Prop} {g : Operand} {ps : Array Tmp} {assign body : Code} (N M : Nat) {gf : FuncId} {caps : List AV} {fn : Func} {cg : Code} {ng : Nat} (hrd : w0.rd = none) (hev : st.ev g = .f (.func gf) caps)
    (hf : P.funcs[gf]? = some fn) (hb : fn.body = some cg) (hname : (fn.name == "runtime.NumGoroutine") = false) (hres : fn.results = #[]) (hng : fn.ntmps = ng) (hle : caps.length + 1 ≤ ng) (hnN : n ≤ N) (hgN : ng ≤ N) (hcl : condL caps) (hps : ∀ p ∈ ps.toList, p < n)
    (hids : idsE (· < M) st.env) (hfree : ∀ id, M ≤ id → w0.gh id = none)
    (h : ∀ (l : Nat) (wg : Orig), (∀ id, M ≤ id → wg.gh id = none) → YRule P n ng N M B l wg ps.toList assign body st.env → AWP P ng B wg cg (EndsRf N fun H => Q .normal ⟨st.env, H⟩) ⟨argEnv 0 (stripL (.v (.func (.yield l) #[] #[]) :: caps)), st.heap⟩) :
    AWP P n B w0 (.rangeFunc g ps assign body) Q st := by
  rintro a w ⟨ρ0, I0, hG0⟩
  have hfo : fo w0 = Fence.wide := by unfold fo; rw [hrd]; rfl
  rw [hfo]
  refine wpIn_rangeFunc fun fid _ => ?_
  have hgv := hG0.ev g
  rw [hev] at hgv
  generalize hgu : a.eval g = gu at hgv
  cases hgv with
  | f _ _ us hul hus =>
  subst hng
  obtain ⟨rec0, hrec⟩ : ∃ rec0 : LoopState → Loop, rec0 = fun s => { state := s, pending := none, fn := fid, tmps := a.tmps, params := ps, assign, body, defers := w.heap.size } := ⟨_, rfl⟩
  obtain ⟨W1, hW1⟩ : ∃ W1, (w.alloc (.deferred (some []))).alloc (.loop (rec0 .ready)) = W1 := ⟨_, rfl⟩
  obtain ⟨l, hl⟩ : ∃ l, l = w.heap.size + 1 := ⟨_, rfl⟩
  have hL1 : W1.heap[l]? = some (.loop (rec0 .ready)) := by
    rw [← hW1, hl]; have := World.alloc_heap_new (w.alloc (.deferred (some []))) (.loop (rec0 .ready)); rwa [World.size_alloc] at this
  have hD1 : W1.heap[w.heap.size]? = some (.deferred (some [])) := by
    rw [← hW1]; exact (Below.heap_alloc _ _ _ (by simp)).trans (World.alloc_heap_new w _)
  have hsz1 : W1.heap.size = w.heap.size + 2 := by rw [← hW1]; simp
  have hbel1 : Below w.heap.size w W1 := by rw [← hW1]; exact ((Below.refl _ w).alloc (Nat.le_refl _) _).alloc (by simp) _
  have hq : Quiet I0 w (fun b => I0 b ∨ b = w.heap.size ∨ b = l) W1 := ⟨hbel1, fun b hb => .inl hb, fun b hb hn => by rcases hb with hb | rfl | rfl; exact absurd hb hn; exact Nat.le_refl _; omega, fun b hb => by
    rcases hb with hb | rfl | rfl
    · have := hG0.hw.lt b hb; omega
    · omega
    · omega⟩
  have hG1 := hG0.quiet hq
  have hBl : B ≤ l := by have := hG0.base; omega
  refine ⟨l, [{ target := .collected w.heap.size, args := #[] }], W1, { target := .fn (.func gf) us, args := #[.func (.yield l) #[] #[]] }, W1, gf, #[.func (.yield l) #[] #[]] ++ us, W1, ?_, ?_, fun _ _ => trivial, ?_, (fun hd => by cases hd), ?_⟩
  · rw [← hW1, hrec, hl]; exact run_enterLoop_outer _ _ _ _ _
  · show (resolve a.eval (rangeCall g l) 0).run P W1 = _
    simp only [resolve, hgu]
    simp [Deferred.ofValue, Act.eval]
  · have h1 : fn.name ≠ "runtime.NumGoroutine" := by simpa using hname
    simp [invoke, callFunc, hf, h1, hb]
  -- the function that is ranged over
  have hvs : ConcL B (fun b => I0 b ∨ b = w.heap.size ∨ b = l) W1 ρ0 (.v (.func (.yield l) #[] #[]) :: caps) (#[Value.func (.yield l) #[] #[]] ++ us).toList := by
    have : (#[Value.func (.yield l) #[] #[]] ++ us).toList = Value.func (.yield l) #[] #[] :: us.toList := by simp
    rw [this]
    refine ConcL.cons (.v _) ⟨by simpa using hul, fun j hj => ?_⟩
    have := (hus j hj).quiet hq hG0.hw.lt
    simpa [List.getD_eq_getElem?_getD, Array.getD_eq_getD_getElem?] using this
  have hstart := start_in (n' := fn.ntmps) (N := N) (M := M) hG1 hvs ⟨trivial, hcl⟩ (by simpa using hle) hgN
  generalize hwg : (⟨W1, fun b => I0 b ∨ b = w.heap.size ∨ b = l, fun id => if N ≤ id ∧ id < M then some (ρ0 id) else none, [], none⟩ : Orig) = wg at hstart
  have hgfree : ∀ id, M ≤ id → wg.gh id = none := fun id hid => by rw [← hwg]; exact if_neg (by omega)
  have hgpin : ∀ id, N ≤ id → id < M → wg.gh id = some (ρ0 id) := fun id h1 h2 => by rw [← hwg]; exact if_pos ⟨h1, h2⟩
  have hgI : wg.I = fun b => I0 b ∨ b = w.heap.size ∨ b = l := by rw [← hwg]
  have hgw : wg.w = W1 := by rw [← hwg]
  -- the caller, whatever the function has done so far
  have back : ∀ (st' : St) (a' : Act) (W : World) (ρg : Nat → Option Value) (Ig : Nat → Prop), Gam fn.ntmps B wg st' a' W ρg Ig → geH N (keepH N st'.heap) → Gam n B w0 ⟨st.env, keepH N st'.heap⟩ a W (fun id => if id < N then ρ0 id else ρg id) Ig := fun st' a' W ρg Ig hGg hge =>
    resume hids hG1 hGg (fun id h1 h2 => hGg.old.gh id _ (hgpin id h1 h2)) hfree (fun b hb => by have := hGg.old.keep b (by rw [hgI]; exact hb); rwa [hgw] at this) (fun b hb => by have := hGg.old.up b hb; rwa [hgI] at this) (by have := hGg.below; rwa [hgw] at this) hge
  have recAt : ∀ {st' : St} {a' : Act} {W : World} {ρg : Nat → Option Value} {Ig : Nat → Prop}, Gam fn.ntmps B wg st' a' W ρg Ig → Ig l ∧ W.heap[l]? = some (.loop (rec0 .ready)) ∧ Ig w.heap.size ∧ W.heap[w.heap.size]? = some (.deferred (some [])) := fun hGg => by
    have k1 := hGg.old.keep l (by rw [hgI]; exact .inr (.inr rfl))
    have k2 := hGg.old.keep w.heap.size (by rw [hgI]; exact .inr (.inl rfl))
    rw [hgw] at k1 k2
    exact ⟨k1.1, k1.2.trans hL1, k2.1, k2.2.trans hD1⟩
  have hY : YRule P n fn.ntmps N M B l wg ps.toList assign body st.env := by
    intro M' hMM ops K o rest env H y as ats g0 hop hgo hgs hd hy hsz hcond hge0 hidg hgeH hA
    intro ag W ρg Ig hGg next QQ hnx
    obtain ⟨hIl, hWl, _, _⟩ := recAt hGg
    have hwant : Region.wanted o (yielded ops ag.tmps) = true := by
      rcases hgs with hgs | hgs
      · have := guard_ok hGg (ops := ops) (o := o) (g := none) (by rw [guardS_eq hgo]; exact hgs)
        simpa using this
      · have := guard_ok hGg (ops := ops) (o := o) (g := some true) (by rw [guardS_eq hgo]; exact hgs)
        simpa using this
    rw [hwant]
    have hyv := (hGg.ev y).strip hy.1
    rw [hy.2] at hyv
    have hyv := hyv.v_inv
    have hargs : ConcL B Ig W ρg (stripL (as.toList.map (St.mk env H).ev)) (as.map ag.eval).toList := by
      refine ⟨by simp [stripL_length], fun j hj => ?_⟩
      rw [stripL_length, List.length_map] at hj
      rw [stripL_getD _ _ (by simpa using hj)]
      have hj' : j < as.size := by simpa using hj
      have e1 : (as.toList.map (St.mk env H).ev).getD j .top = (St.mk env H).ev as[j] := by simp [List.getD_eq_getElem?_getD, hj']
      have e2 : (as.map ag.eval).toList.getD j undef = ag.eval as[j] := by simp [List.getD_eq_getElem?_getD, hj']
      have hcj := condL_getD hcond j
      rw [e1] at hcj ⊢
      rw [e2]
      exact (hGg.ev as[j]).strip hcj
    have hrun : (execOp ag.eval o).run P W = .ok (.round l fid ((ps.zip (as.map ag.eval)).foldl (fun tmps (t, a) => tmps.setIfInBounds t a) a.tmps) assign body) W := by
      have hyl := run_yield (P := P) (args := as.map ag.eval) hWl (by rw [hrec]; simpa using hsz)
      rw [hrec] at hyl
      simp only [execOp, hop, resolve, hyv, Deferred.ofValue, Sem.run_bind, Sem.run_pure, Result.andThen_ok, invoke, Array.empty_append]
      exact hyl
    refine ⟨fun _ _ => trivial, ?_⟩
    rw [Oper.semAt_eq _ _ _ (fun c hc => by rw [hop] at hc; cases hc), hrun, Oper.uponIn_round]
    refine ⟨(fun hd => by cases hd), roundIn_of_wpIn trivial ?_⟩
    -- the loop's body starts
    have hb0 := back ⟨env, H⟩ ag W ρg Ig hGg hgeH
    obtain ⟨pin, hpin⟩ : ∃ pin : Nat → Option (Option Value), pin = fun id => if N ≤ id ∧ id < M' then some (ρg id) else none := ⟨_, rfl⟩
    have pin1 : ∀ id x, pin id = some x → N ≤ id ∧ id < M' ∧ x = ρg id := fun id x hx => by
      rw [hpin] at hx
      simp only at hx
      split at hx
      · rename_i hh; injection hx with hx; exact ⟨hh.1, hh.2, hx.symm⟩
      · cases hx
    have pin2 : ∀ id, N ≤ id → id < M' → pin id = some (ρg id) := fun id h1 h2 => by rw [hpin]; exact if_pos ⟨h1, h2⟩
    have pin3 : ∀ id, (id < N ∨ M' ≤ id) → pin id = none := fun id hid => by rw [hpin]; exact if_neg (by omega)
    have hb1 := hb0.rebase pin (fun id x hx => by obtain ⟨h1, _, h3⟩ := pin1 id x hx; rw [h3]; exact if_neg (by omega)) (fun d hd => pin3 d (.inl (by omega))) [] (some l)
    have hargs' : ConcL B Ig W (fun id => if id < N then ρ0 id else ρg id) (stripL (as.toList.map (St.mk env H).ev)) (as.map ag.eval).toList := ⟨hargs.1, fun j hj => (hargs.2 j hj).ge (allGe_getD hge0 j) _ (fun id hid => if_neg (by omega))⟩
    have hb2 := Gam.setE ps.toList _ _ st.env a.tmps hps hargs' (by rw [stripL_length]; simpa using hsz.symm) hb1
    have hfold : ((ps.zip (as.map ag.eval)).foldl (fun tmps (t, a) => tmps.setIfInBounds t a) a.tmps) = (ps.toList.zip (as.map ag.eval).toList).foldl (fun t (p : Nat × Value) => t.setIfInBounds p.1 p.2) a.tmps := by
      rw [← Array.foldl_toList, Array.toList_zip]
    rw [hfold]
    refine wpIn_mono (hA ⟨W, Ig, pin, [], some l⟩ pin3 _ W ⟨_, _, hb2⟩) fun e a1 Wa hq1 => ?_
    obtain ⟨s1, hq1, ρ1, I1, hGa⟩ := hq1
    cases e with
    | normal =>
      have ka := hGa.old.keep l hIl
      have hWal : Wa.heap[l]? = some (.loop (rec0 .ready)) := ka.2.trans hWl
      refine ⟨_, run_beginRound hWal (by rw [hrec]), ?_⟩
      have hGb := hGa.rebaseL (.loop { rec0 .ready with state := .busy }) hWal ka.1 pin (fun id x hx => by obtain ⟨h1, h2, h3⟩ := pin1 id x hx; rw [h3]; exact hGa.old.gh id _ (pin2 id h1 h2)) (fun d hd => pin3 d (.inl (by omega))) a1.defers (some l)
      have hWbl : (Wa.putObj l (.loop { rec0 .ready with state := .busy })).heap[l]? = some (.loop { rec0 .ready with state := .busy }) := World.putObj_heap_same (Array.getElem?_eq_some_iff.1 hWal).1
      refine wpIn_mono (hq1 ⟨_, I1, pin, a1.defers, some l⟩ pin3 a1 _ ⟨ρ1, I1, hGb⟩) fun e a3 W3 hq3 => ?_
      obtain ⟨s3, hq3, ρ3, I3, hG3⟩ := hq3
      cases e with
      | normal =>
        obtain ⟨hge3, hK3⟩ := hq3
        have k3 := hG3.old.keep l ka.1
        have hW3l : W3.heap[l]? = some (.loop { rec0 .ready with state := .busy }) := k3.2.trans hWbl
        have hend := run_endRound (P := P) none hW3l
        have hrecE : (({ ({ rec0 .ready with state := .busy } : Loop) with state := if (none : Option Code).isNone then .ready else .done, pending := none } : Loop)) = rec0 .ready := by rw [hrec]; rfl
        rw [hrecE] at hend
        refine ⟨_, _, hend, ?_⟩
        have hG4 := hG3.rebaseL (.loop (rec0 .ready)) hW3l k3.1 (fun _ => none) (fun id x hx => by cases hx) (fun _ _ => rfl) [] none
        have hW4l : (W3.putObj l (.loop (rec0 .ready))).heap[l]? = some (.loop (rec0 .ready)) := World.putObj_heap_same (Array.getElem?_eq_some_iff.1 hW3l).1
        have hkeep : ∀ b, Ig b → I3 b ∧ (W3.putObj l (.loop (rec0 .ready))).heap[b]? = W.heap[b]? := fun b hb => by
          have g1 := hGa.old.keep b hb
          have g2 := hG3.old.keep b g1.1
          refine ⟨g2.1, ?_⟩
          by_cases e : b = l
          · subst e; rw [hW4l, hWl]
          · rw [World.putObj_heap_other e, g2.2]
            show (Wa.putObj l _).heap[b]? = _
            rw [World.putObj_heap_other e]; exact g1.2
        have hup : ∀ b, I3 b → Ig b ∨ B ≤ b := fun b hb => by
          rcases hG3.old.up b hb with h1 | h1
          · exact hGa.old.up b h1
          · exact .inr h1
        have hbel : Below B W (W3.putObj l (.loop (rec0 .ready))) := hGa.below.trans ((below_putL hBl).trans (hG3.below.trans (below_putL hBl)))
        have hfin := resume (N := N) (M := M') hidg hGg hG4 (fun id h1 h2 => hG3.old.gh id _ (pin2 id h1 h2)) (fun id hid => hgfree id (Nat.le_trans hMM hid)) hkeep hup hbel hge3
        exact hnx _ _ _ hK3 ⟨_, I3, hfin.put (d := o.dst) (fun k hk => by rw [hk] at hd; exact hd) (.v _)⟩
      | exit id => exact hq3.elim
      | goto t => exact hq3.elim
      | ret => exact hq3.elim
      | panic c => exact hq3.elim
      | outgrown => exact hq3.elim
    | exit id => exact hq1.elim
    | goto t => exact hq1.elim
    | ret => exact hq1.elim
    | panic c => exact hq1.elim
    | outgrown => exact hq1.elim
  refine callsIn_wide.2 (calls_of_awp (w0 := wg) hf hb (by rw [← hwg]) (by rw [← hwg]) (h l wg hgfree hY) ⟨ρ0, _, hstart⟩ fun e st' a' W' ρg Ig h1 hGg => ?_)
  have key : (geH N (keepH N st'.heap) ∧ Q .normal ⟨st.env, keepH N st'.heap⟩) → ∃ v, (results fn a'.tmps).run P W' = .ok v W' ∧ rangePost Fence.wide 0 P l (fun e a' w' => ∃ st', Q e st' ∧ G n B w0 st' a' w') { a with defers := [{ target := .collected w.heap.size, args := #[] }] ++ a.defers } (.returned v) W' := fun hh => by
    obtain ⟨hge, hQ⟩ := hh
    obtain ⟨hIl, hWl, hID, hWD⟩ := recAt hGg
    have hbk := back st' a' W' ρg Ig hGg hge
    have hel := run_endLoop (P := P) hWl (by rw [hrec]; simp)
    rw [show (rec0 .ready).pending = none by rw [hrec]] at hel
    refine ⟨.tuple #[], by simp [results, hres], none, _, hel, ?_⟩
    · refine ⟨_, hQ, fun id => if id < N then ρ0 id else ρg id, Ig, ?_⟩
      obtain ⟨Ds, d1, d2, d3⟩ := hG0.defers
      have hnI : ∀ b, w.heap.size ≤ b → ¬ w0.I b := fun b hb hI => by have := hG0.hw.lt b (hG0.old.keep b hI).1; omega
      refine ⟨⟨w.heap.size :: Ds, by simp [d1], List.nodup_cons.2 ⟨fun hm => by have := hG0.hw.lt _ (d3 _ hm).2.2.1; omega, d2⟩, fun D hD => ?_⟩, hbk.size, hbk.envL _ hWl, hbk.hwL _ hWl hIl, hbk.below.trans (below_putL hBl), by rw [World.putObj_size]; exact hbk.base, ⟨hbk.old.up, hbk.old.gh, hbk.old.ghn, fun b hb => ⟨(hbk.old.keep b hb).1, ?_⟩⟩⟩
      · rcases List.mem_cons.1 hD with rfl | hD
        · exact ⟨hG0.base, hnI _ (Nat.le_refl _), hID, by rw [World.putObj_heap_other (by omega)]; exact hWD⟩
        · obtain ⟨e1, e2, e3, e4⟩ := d3 D hD
          have hlt := hG0.hw.lt D e3
          have k := hGg.old.keep D (by rw [hgI]; exact .inl e3)
          rw [hgw] at k
          exact ⟨e1, e2, k.1, by rw [World.putObj_heap_other (by omega), k.2, hbel1.block D hlt]; exact e4⟩
      · rw [World.putObj_heap_other (show b ≠ l from fun e => hnI l (by omega) (by rw [← e]; exact hb))]; exact (hbk.old.keep b hb).2
  cases e with
  | ret => exact ⟨.inl rfl, key h1⟩
  | normal => exact ⟨.inr rfl, key h1⟩
  | _ => exact h1.elim

attribute [push_cast] setE EndsB EndsRf allGe
end Go.Eng
namespace Go.Eng
open Go.RowKit
set_option linter.unusedVariables false

/-- Whatever order is picked. -/
def AAnyS (P : Program) (n B : Nat) (w0 : Orig) (ops : Array Oper) (K : St → Prop) : Nat → Array Bool → St → Prop
  | 0, listed, st => Region.ready .any ops listed = [] ∧ K st
  | fuel + 1, listed, st => (Region.ready .any ops listed = [] → K st) ∧ ∀ i ∈ Region.ready .any ops listed, ∃ o, ops[i]? = some o ∧ SStep P n B w0 ops o (fun s => AAnyS P n B w0 ops K fuel (listed.setIfInBounds i true) s) st
theorem aanys_ok {P : Program} {n B : Nat} {w0 : Orig} {ops : Array Oper} {K : St → Prop} {Q : Exit → Act → World → Prop} (hQ : ∀ st' a' w', K st' → G n B w0 st' a' w' → Q .normal a' w') : ∀ (fuel : Nat) (listed : Array Bool) (st : St) (a : Act) (w : World), G n B w0 st a w → AAnyS P n B w0 ops K fuel listed st → wpAnyIn (fo w0) 0 P .any ops Q fuel listed a w
  | 0, listed, st, a, w, hG, h => ⟨h.1, hQ st a w h.2 hG⟩
  | fuel + 1, listed, st, a, w, hG, h => ⟨fun he => hQ st a w (h.1 he) hG, fun i hi => by
      obtain ⟨o, ho, hst⟩ := h.2 i hi
      obtain ⟨ρ, I, hg⟩ := hG
      have := hst a w ρ I hg (wpAnyIn (fo w0) 0 P .any ops Q fuel (listed.setIfInBounds i true)) Q (fun st' a' w' hK hG' => aanys_ok hQ fuel _ st' a' w' hG' hK)
      unfold wpOpIn
      simp only [ho]
      exact this⟩
theorem awp_anys {P : Program} {n B : Nat} {w0 : Orig} {Q : Exit → St → Prop} {st : St} {id : Nat} {ops : Array Oper} (hm : P.follows .mixedOrders = true) (h : ∀ K : St → Prop, (∀ s, Q .normal s → K s) → AAnyS P n B w0 ops K ops.size (Array.replicate ops.size false) st) : AWP P n B w0 (.region id ops true) Q st := by
  intro a w hG
  refine wpIn_region_any hm ?_
  have hG' : G n B w0 st a { w with drawn := w.drawn + 1 } := by
    obtain ⟨ρ, I, hg⟩ := hG
    exact ⟨ρ, I, hg.quiet ⟨⟨rfl, rfl, rfl, Nat.le_refl _, fun _ _ => rfl⟩, fun _ h => h, fun _ h h' => absurd h h', hg.hw.lt⟩⟩
  exact aanys_ok (fun st' _ _ hK hG' => ⟨st', hK, hG'⟩) _ _ st a _ hG' (h (fun s => Q .normal s) fun _ h => h)
def AllJS (P : Program) (n B : Nat) (w0 : Orig) (ops : Array Oper) (K : St → Prop) (fuel : Nat) (listed : Array Bool) (st : St) : List Nat → Prop
  | [] => True
  | i :: r => (∃ o, ops.toList[i]? = some o ∧ ∀ K' : St → Prop, (∀ s, AAnyS P n B w0 ops K fuel (listed.setIfInBounds i true) s → K' s) → AOpsS P n B w0 ops K' [o] st) ∧ AllJS P n B w0 ops K fuel listed st r
theorem AllJS.spec {P : Program} {n B : Nat} {w0 : Orig} {ops : Array Oper} {K : St → Prop} {fuel : Nat} {listed : Array Bool} {st : St} : ∀ {js : List Nat}, AllJS P n B w0 ops K fuel listed st js → ∀ i ∈ js, ∃ o, ops[i]? = some o ∧ SStep P n B w0 ops o (fun s => AAnyS P n B w0 ops K fuel (listed.setIfInBounds i true) s) st
  | [], _, i, hi => by cases hi
  | j :: r, h, i, hi => by
    rcases List.mem_cons.1 hi with rfl | hi
    · obtain ⟨o, ho, h1⟩ := h.1
      exact ⟨o, by rw [← Array.getElem?_toList]; exact ho, h1 _ fun _ h => h⟩
    · exact AllJS.spec h.2 i hi
theorem aanys_nil {P : Program} {n B : Nat} {w0 : Orig} {ops : Array Oper} {K : St → Prop} {listed : Array Bool} {st : St} (hr : Region.ready .any ops listed = []) (h : K st) : AAnyS P n B w0 ops K 0 listed st := ⟨hr, h⟩
theorem aanys_step {P : Program} {n B : Nat} {w0 : Orig} {ops : Array Oper} {K : St → Prop} {fuel : Nat} {listed : Array Bool} {st : St} (j : Nat) (js : List Nat) (hr : decide (Region.ready .any ops listed = j :: js) = true)
    (h : AllJS P n B w0 ops K fuel listed st (j :: js)) : AAnyS P n B w0 ops K (fuel + 1) listed st :=
  ⟨fun he => (by rw [of_decide_eq_true hr] at he; cases he), fun i hi => by rw [of_decide_eq_true hr] at hi; exact h.spec i hi⟩
theorem alljs_cons {P : Program} {n B : Nat} {w0 : Orig} {ops : Array Oper} {K : St → Prop} {fuel : Nat} {listed : Array Bool} {st : St} {i : Nat} {r : List Nat} {o : Oper} (ho : ops.toList[i]? = some o) (h : ∀ K' : St → Prop, (∀ s, AAnyS P n B w0 ops K fuel (listed.setIfInBounds i true) s → K' s) → AOpsS P n B w0 ops K' [o] st) (hr : AllJS P n B w0 ops K fuel listed st r) : AllJS P n B w0 ops K fuel listed st (i :: r) := ⟨⟨o, ho, h⟩, hr⟩

theorem PureRow.empty {P : Program} {f : FuncId} {fr : Bool} {c : Nat → Nat → AV} {sz off : Nat} {e : TypeId} {sz' : Nat} {cc : Cont} (h : ∀ A cap, PureRow P f [.v (.slice A 0 cap)] e sz' cc) : PureRow P f [.i fr c sz off 0] e sz' cc := by
  refine ⟨(h none 0).1, fun w I vs hI hc => ?_⟩
  have h0 := hc.2 0 (by simp)
  simp only [List.getD_cons_zero] at h0
  generalize hv : vs.toList.getD 0 undef = u at h0
  cases h0 with
  | i _ _ _ _ _ cap A uu hcap hA hcc =>
    refine (h A cap).2 w I vs hI ⟨by have := hc.1; simpa using this, fun j hj => ?_⟩
    have : j = 0 := by simp at hj; omega
    subst this
    simp only [List.getD_cons_zero]
    rw [hv]; exact .v _

/-! ### The keys of a map, sorted -/
/-- maps.Keys. -/
def KeysCalls (P : Program) (k : FuncId) (g : Nat) (t : TypeId) : Prop :=
  (∃ fn, P.funcs[k]? = some fn ∧ (fn.name == "runtime.NumGoroutine") = false ∧ fn.body.isNone = false) ∧
  ∀ (mb : Option Nat) (w : World), Calls P k #[.map mb] w fun e w' => e = .returned (.func (.func g) #[] #[.pointer (some ⟨w.heap.size, 0, none⟩)]) ∧ w' = w.alloc (.cells #[.map mb] t)
def KeysStep (P : Program) (dst : Option Nat) (op : Op) (K : St → Prop) (st : St) : Prop :=
  match callee? st.ev op, dst with
  | some (ψ, k, args), some d =>
    match stripL args with
    | [.s mid] => (ψ ∧ condL args ∧ mid ≠ d) ∧ ∃ g t c, lkH st.heap mid = some (.mp c) ∧ KeysCalls P k g t ∧ K ⟨(d, .f (.func g) [.p d 0]) :: killE d st.env, (d, .box t (.avs [.s mid])) :: killH d st.heap⟩
    | _ => False
  | _, _ => False
theorem keysStep_ok {P : Program} {n B : Nat} {w0 : Orig} {st : St} {a : Act} {w : World} {ρ : Nat → Option Value} {I : Nat → Prop} (hG : Gam n B w0 st a w ρ I) {o : Oper} (hd : dstOk n o.dst) {K : St → Prop} (h : KeysStep P o.dst o.op K st) : StepOk P n B w0 o a w K := by
  intro next Q hn
  unfold KeysStep at h
  split at h <;> first | exact h.elim | skip
  rename_i ψ k args d hc hdst
  rw [hdst] at hd
  split at h <;> first | exact h.elim | skip
  rename_i mid hargs
  obtain ⟨⟨hψ, hcond, hne⟩, g, t, c, hk, ⟨⟨fn, hf, hname, hbody⟩, hcall⟩, hK⟩ := h
  obtain ⟨vs, hrun, hvs⟩ := callee_run (fun x => hG.ev x) hc hψ hf hname hbody
  have hlen : args.length = 1 := by rw [← stripL_length args, hargs]; rfl
  have h0 := (hvs.2 0 (by omega)).strip (condL_getD hcond 0)
  rw [← stripL_getD _ _ (by omega), hargs] at h0
  simp only [List.getD_cons_zero] at h0
  have hvl : vs.toList.length = 1 := by rw [hvs.1, hlen]
  obtain ⟨v0, hv0⟩ : ∃ v0, vs.toList = [v0] := by
    match hh : vs.toList, hvl with
    | [x], _ => exact ⟨x, rfl⟩
  rw [hv0] at h0
  simp only [List.getD_cons_zero] at h0
  cases h0 with
  | s _ x hr h1 =>
    obtain ⟨x', hx', b, rfl, hB, hmap⟩ := hG.hw.ok _ _ hk
    rw [hr] at hx'; injection hx' with hx'; subst hx'
    have hvs' : vs = #[.map (some b)] := by cases vs; simp_all
    unfold Oper.wp
    rw [hrun, Oper.upon_enter, hvs']
    refine (hcall (some b) w).mono fun en w' he => ?_
    obtain ⟨rfl, rfl⟩ := he
    rw [hdst]
    have hb : Below w.heap.size w (w.alloc (.cells #[.map (some b)] t)) := (Below.refl _ _).alloc (Nat.le_refl _) _
    have h1' := hG.new hb d (.pointer (some ⟨w.heap.size, 0, none⟩)) (.box t (.avs [.s mid]))
      ⟨w.heap.size, #[.map (some b)], rfl, hG.base, heap_alloc_new w _, rfl, fun j u hu => by
        have hj : j = 0 := by
          have := (Array.getElem?_eq_some_iff.1 hu).1
          simp at this; exact this
        subst hj
        simp at hu; subst hu
        exact .s mid _ (by rw [updρ_ne _ _ _ hne]; exact hr) rfl⟩ (fun b hr => by simp [rootBlk] at hr; omega) (hG.old.ghn d hd)
    refine hn _ _ _ hK ⟨_, I, h1'.put (d := some d) (fun k hk => by injection hk with hk; subst hk; exact hd) (.f _ _ _ (by simp) fun j hj => ?_)⟩
    have hj : j = 0 := by simpa using hj
    subst hj
    simp only [List.getD_cons_zero]
    exact .p d 0 w.heap.size _ (updρ_self _ _ _) rfl
theorem aopss_keys {P : Program} {n B : Nat} {w0 : Orig} {ops : Array Oper} {K : St → Prop} {o : Oper} {rest : List Oper} {st : St} (hg : o.guard = none) (hd : dstOk n o.dst) (h : ∀ K' : St → Prop, (∀ s, AOpsS P n B w0 ops K rest s → K' s) → KeysStep P o.dst o.op K' st) : AOpsS P n B w0 ops K (o :: rest) st := by
  intro a w ρ I hG next Q hnx
  rw [wanted_of hg hG]
  have h' := h _ fun _ h => h
  refine toIn (fun c' hc' => ?_) (keysStep_ok hG hd h' next Q hnx)
  rw [hc'] at h'; exact h'

/-- slices.Sorted of a map's keys. -/
def SortCalls (P : Program) (k : FuncId) (g : Nat) (t e : TypeId) (c : MC) (out : List Value) : Prop :=
  (∃ fn, P.funcs[k]? = some fn ∧ (fn.name == "runtime.NumGoroutine") = false ∧ fn.body.isNone = false) ∧
  ∀ (w : World) (bp bm : Nat), w.heap[bp]? = some (.cells #[.map (some bm)] t (0, 0)) → MapAt w bm c →
    Calls P k #[.func (.func g) #[] #[.pointer (some ⟨bp, 0, none⟩)]] w fun en w' => ∃ v, en = .returned v ∧ Below w.heap.size w w' ∧ w'.ownsRow w.heap.size e 1 v out.length out
def SortStep (P : Program) (dst : Option Nat) (op : Op) (K : St → Prop) (st : St) : Prop :=
  match callee? st.ev op, dst with
  | some (ψ, k, args), some d =>
    match stripL args with
    | [.f (.func g) [.p bid 0]] => (ψ ∧ condL args) ∧ ∃ t mid c e out, lkH st.heap bid = some (.box t (.avs [.s mid])) ∧ lkH st.heap mid = some (.mp c) ∧ SortCalls P k g t e c out ∧ K ⟨(d, .s d) :: killE d st.env, (d, .row e 1 (.vals out)) :: killH d st.heap⟩
    | _ => False
  | _, _ => False
theorem sortStep_ok {P : Program} {n B : Nat} {w0 : Orig} {st : St} {a : Act} {w : World} {ρ : Nat → Option Value} {I : Nat → Prop} (hG : Gam n B w0 st a w ρ I) {o : Oper} (hd : dstOk n o.dst) {K : St → Prop} (h : SortStep P o.dst o.op K st) : StepOk P n B w0 o a w K := by
  intro next Q hn
  unfold SortStep at h
  split at h <;> first | exact h.elim | skip
  rename_i ψ k args d hc hdst
  rw [hdst] at hd
  split at h <;> first | exact h.elim | skip
  rename_i g bid hargs
  obtain ⟨⟨hψ, hcond⟩, t, mid, c, e, out, hkb, hk, ⟨⟨fn, hf, hname, hbody⟩, hcall⟩, hK⟩ := h
  obtain ⟨vs, hrun, hvs⟩ := callee_run (fun x => hG.ev x) hc hψ hf hname hbody
  have hlen : args.length = 1 := by rw [← stripL_length args, hargs]; rfl
  have h0 := (hvs.2 0 (by omega)).strip (condL_getD hcond 0)
  rw [← stripL_getD _ _ (by omega), hargs] at h0
  simp only [List.getD_cons_zero] at h0
  have hvl : vs.toList.length = 1 := by rw [hvs.1, hlen]
  obtain ⟨v0, hv0⟩ : ∃ v0, vs.toList = [v0] := by
    match hh : vs.toList, hvl with
    | [x], _ => exact ⟨x, rfl⟩
  rw [hv0] at h0
  simp only [List.getD_cons_zero] at h0
  cases h0 with
  | f _ _ us hul hus =>
    have hu0 := hus 0 (by simp)
    simp only [List.getD_cons_zero] at hu0
    obtain ⟨u0, rfl⟩ : ∃ u0, us = #[u0] := by
      have hl1 : us.toList.length = 1 := by simpa using hul
      match hh : us.toList, hl1 with
      | [x], _ => exact ⟨x, by cases us; simp_all⟩
    have e0 : (#[u0] : Array Value).getD 0 undef = u0 := rfl
    rw [e0] at hu0
    cases hu0 with
    | p _ _ b x hr hb =>
      obtain ⟨x', hx', b', us', rfl, hB, hh, hl, hcc⟩ := hG.hw.ok _ _ hkb
      rw [hr] at hx'; injection hx' with hx'; subst hx'
      simp only [rootBlk, Option.some.injEq] at hb; subst hb
      obtain ⟨u1, rfl⟩ : ∃ u1, us' = #[u1] := by
        have hl1 : us'.toList.length = 1 := by simpa [Cont.len] using hl
        match hh : us'.toList, hl1 with
        | [x], _ => exact ⟨x, by cases us'; simp_all⟩
      have h2 := hcc 0 u1 rfl
      simp only [Cont.at, List.getD_cons_zero] at h2
      cases h2 with
      | s _ x2 hr2 _ =>
        obtain ⟨x3, hx3, bm, rfl, hBm, hmap⟩ := hG.hw.ok _ _ hk
        rw [hr2] at hx3; injection hx3 with hx3; subst hx3
        have hvs' : vs = #[.func (.func g) #[] #[.pointer (some ⟨b', 0, none⟩)]] := by cases vs; simp_all
        unfold Oper.wp
        rw [hrun, Oper.upon_enter, hvs']
        refine (hcall w b' bm hh hmap).mono fun en w' he => ?_
        obtain ⟨v, rfl, hbel, ho⟩ := he
        have ho' : w'.ownsRow B e 1 v out.length out := ownsRow_base ho hG.base
        have := new_row hG d hd hbel ho' (fun b hb' => (ho.lt b (by rw [← rootBlk_own ho]; exact hb')).1) (.vals out) (by simp [Cont.len]) (fun j u hu => by
          have : (Cont.vals out).at j = .v u := by simp [Cont.at, List.getD_eq_getElem?_getD, hu]
          rw [this]; exact .v _)
        rw [hdst]
        exact hn _ _ _ hK this
theorem aopss_sorted {P : Program} {n B : Nat} {w0 : Orig} {ops : Array Oper} {K : St → Prop} {o : Oper} {rest : List Oper} {st : St} (hg : o.guard = none) (hd : dstOk n o.dst) (h : ∀ K' : St → Prop, (∀ s, AOpsS P n B w0 ops K rest s → K' s) → SortStep P o.dst o.op K' st) : AOpsS P n B w0 ops K (o :: rest) st := by
  intro a w ρ I hG next Q hnx
  rw [wanted_of hg hG]
  have h' := h _ fun _ h => h
  refine toIn (fun c' hc' => ?_) (sortStep_ok hG hd h' next Q hnx)
  rw [hc'] at h'; exact h'
attribute [push_cast] KeysStep SortStep stripL
end Go.Eng
namespace Go.Eng
open Go.RowKit
set_option linter.unusedVariables false

def lookL : List (List Bool × St) → List Bool → Option St
  | [], _ => none
  | (L, S) :: r, M => if L = M then some S else lookL r M
def falses : List Bool → Nat
  | [] => 0
  | true :: r => falses r
  | false :: r => falses r + 1
theorem falses_set : ∀ (L : List Bool) (i : Nat), L[i]? = some false → falses (L.set i true) + 1 = falses L
  | [], i, h => by simp at h
  | b :: r, 0, h => by
    simp at h; subst h; simp [falses]
  | b :: r, i + 1, h => by
    have := falses_set r i (by simpa using h)
    cases b <;> simp [falses] <;> omega
theorem falses_zero : ∀ (L : List Bool) (i : Nat), falses L = 0 → L[i]? ≠ some false
  | [], i, _ => by simp
  | true :: r, 0, _ => by simp
  | true :: r, i + 1, h => by simpa using falses_zero r i h
  | false :: r, _, h => by simp [falses] at h
theorem getFalse {L : List Bool} {j : Nat} (h : L.toArray.getD j true = false) : L[j]? = some false := by
  simp only [Array.getD_eq_getD_getElem?, List.getElem?_toArray] at h
  cases hj : L[j]? with
  | none => rw [hj] at h; simp at h
  | some b => rw [hj] at h; simp at h; rw [h]
/-- One set of what has been done, with its state. -/
def DagN (P : Program) (n B : Nat) (w0 : Orig) (ops : Array Oper) (K : St → Prop) (all : List (List Bool × St)) (p : List Bool × St) : Prop :=
  (Region.ready .any ops p.1.toArray = [] → K p.2) ∧ ∀ i ∈ Region.ready .any ops p.1.toArray, ∃ o, ops.toList[i]? = some o ∧ ∀ K' : St → Prop, (∀ s S', lookL all (p.1.set i true) = some S' → (∀ a w, G n B w0 s a w → G n B w0 S' a w) → K' s) → AOpsS P n B w0 ops K' [o] p.2
def DagL (P : Program) (n B : Nat) (w0 : Orig) (ops : Array Oper) (K : St → Prop) (all : List (List Bool × St)) : List (List Bool × St) → Prop
  | [] => True
  | p :: r => DagN P n B w0 ops K all p ∧ DagL P n B w0 ops K all r
theorem lookL_dag {P : Program} {n B : Nat} {w0 : Orig} {ops : Array Oper} {K : St → Prop} {all : List (List Bool × St)} : ∀ {l : List (List Bool × St)}, DagL P n B w0 ops K all l → ∀ {L S}, lookL l L = some S → DagN P n B w0 ops K all (L, S)
  | [], _, L, S, h => by cases h
  | (M, S') :: r, hd, L, S, h => by
    simp only [lookL] at h
    split at h
    · rename_i e; subst e; injection h with h; subst h; exact hd.1
    · exact lookL_dag hd.2 h
theorem dag_ok {P : Program} {n B : Nat} {w0 : Orig} {ops : Array Oper} {K : St → Prop} {all : List (List Bool × St)} (hall : DagL P n B w0 ops K all all) {Q : Exit → Act → World → Prop} (hQ : ∀ st' a' w', K st' → G n B w0 st' a' w' → Q .normal a' w') :
    ∀ (fuel : Nat) (L : List Bool) (S : St) (a : Act) (w : World), lookL all L = some S → falses L ≤ fuel → L.length = ops.size → G n B w0 S a w → wpAnyIn (fo w0) 0 P .any ops Q fuel L.toArray a w
  | 0, L, S, a, w, hl, hf, hs, hG => by
    have hr : Region.ready .any ops L.toArray = [] := by
      refine List.eq_nil_iff_forall_not_mem.2 fun j hj => ?_
      exact falses_zero L j (by omega) (getFalse (mem_ready.1 hj).1)
    exact ⟨hr, hQ S a w ((lookL_dag hall hl).1 hr) hG⟩
  | fuel + 1, L, S, a, w, hl, hf, hs, hG => by
    have hN := lookL_dag hall hl
    refine ⟨fun he => hQ S a w (hN.1 he) hG, fun i hi => ?_⟩
    obtain ⟨o, ho, hst⟩ := hN.2 i hi
    have hL : L[i]? = some false := getFalse (mem_ready.1 hi).1
    obtain ⟨ρ, I, hg⟩ := hG
    have ho' : ops[i]? = some o := by rw [← Array.getElem?_toList]; exact ho
    have := hst (fun s => ∃ S', lookL all (L.set i true) = some S' ∧ ∀ a w, G n B w0 s a w → G n B w0 S' a w) (fun s S' h1 h2 => ⟨S', h1, h2⟩) a w ρ I hg (wpAnyIn (fo w0) 0 P .any ops Q fuel (L.toArray.setIfInBounds i true)) Q (fun st' a' w' hK hG' => by
      obtain ⟨S', h1, h2⟩ := hK
      have h5 := falses_set L i hL
      have h6 := dag_ok hall hQ fuel (L.set i true) S' a' w' h1 (by omega) (by simpa using hs) (h2 _ _ hG')
      simpa using h6)
    unfold wpOpIn
    simp only [ho']
    exact this
theorem awp_dag {P : Program} {n B : Nat} {w0 : Orig} {Q : Exit → St → Prop} {st : St} {id : Nat} {ops : Array Oper} (hm : P.follows .mixedOrders = true) (all : List (List Bool × St)) (h0 : lookL all (List.replicate ops.size false) = some st) (h : ∀ K : St → Prop, (∀ s, Q .normal s → K s) → DagL P n B w0 ops K all all) : AWP P n B w0 (.region id ops true) Q st := by
  intro a w hG
  refine wpIn_region_any hm ?_
  have hG' : G n B w0 st a { w with drawn := w.drawn + 1 } := by
    obtain ⟨ρ, I, hg⟩ := hG
    exact ⟨ρ, I, hg.quiet ⟨⟨rfl, rfl, rfl, Nat.le_refl _, fun _ _ => rfl⟩, fun _ h => h, fun _ h h' => absurd h h', hg.hw.lt⟩⟩
  have hle : ∀ n, falses (List.replicate n false) ≤ n := fun n => by
    induction n with
    | zero => simp [falses]
    | succ n ih => simp only [List.replicate_succ, falses]; omega
  have := dag_ok (h (fun s => Q .normal s) fun _ h => h) (Q := fun e a' w' => ∃ st', Q e st' ∧ G n B w0 st' a' w') (fun st' _ _ hK hG' => ⟨st', hK, hG'⟩) ops.size (List.replicate ops.size false) st a _ h0 (hle _) (by simp) hG'
  simpa using this
def DagJ (P : Program) (n B : Nat) (w0 : Orig) (ops : Array Oper) (all : List (List Bool × St)) (L : List Bool) (S : St) : List Nat → Prop
  | [] => True
  | i :: r => (∃ o, ops.toList[i]? = some o ∧ ∀ K' : St → Prop, (∀ s S', lookL all (L.set i true) = some S' → (∀ a w, G n B w0 s a w → G n B w0 S' a w) → K' s) → AOpsS P n B w0 ops K' [o] S) ∧ DagJ P n B w0 ops all L S r
theorem DagJ.spec {P : Program} {n B : Nat} {w0 : Orig} {ops : Array Oper} {all : List (List Bool × St)} {L : List Bool} {S : St} : ∀ {js : List Nat}, DagJ P n B w0 ops all L S js → ∀ i ∈ js, ∃ o, ops.toList[i]? = some o ∧ ∀ K' : St → Prop, (∀ s S', lookL all (L.set i true) = some S' → (∀ a w, G n B w0 s a w → G n B w0 S' a w) → K' s) → AOpsS P n B w0 ops K' [o] S
  | [], _, i, hi => by cases hi
  | j :: r, h, i, hi => by
    rcases List.mem_cons.1 hi with rfl | hi
    · exact h.1
    · exact DagJ.spec h.2 i hi
theorem dag_cons {P : Program} {n B : Nat} {w0 : Orig} {ops : Array Oper} {K : St → Prop} {all : List (List Bool × St)} {L : List Bool} {S : St} {r : List (List Bool × St)} (j : Nat) (js : List Nat) (hr : decide (Region.ready .any ops L.toArray = j :: js) = true) (h : DagJ P n B w0 ops all L S (j :: js)) (h2 : DagL P n B w0 ops K all r) : DagL P n B w0 ops K all ((L, S) :: r) :=
  ⟨⟨fun he => (by rw [of_decide_eq_true hr] at he; cases he), fun i hi => by rw [of_decide_eq_true hr] at hi; exact h.spec i hi⟩, h2⟩
theorem dag_last {P : Program} {n B : Nat} {w0 : Orig} {ops : Array Oper} {K : St → Prop} {all : List (List Bool × St)} {L : List Bool} {S : St} (hr : decide (Region.ready .any ops L.toArray = []) = true) (h : K S) : DagL P n B w0 ops K all [(L, S)] :=
  ⟨⟨fun _ => h, fun i hi => by rw [of_decide_eq_true hr] at hi; cases hi⟩, trivial⟩
theorem dagj_cons {P : Program} {n B : Nat} {w0 : Orig} {ops : Array Oper} {all : List (List Bool × St)} {L : List Bool} {S : St} {i : Nat} {r : List Nat} {o : Oper} (ho : ops.toList[i]? = some o) (h : ∀ K' : St → Prop, (∀ s S', lookL all (L.set i true) = some S' → (∀ a w, G n B w0 s a w → G n B w0 S' a w) → K' s) → AOpsS P n B w0 ops K' [o] S) (hr : DagJ P n B w0 ops all L S r) : DagJ P n B w0 ops all L S (i :: r) := ⟨⟨o, ho, h⟩, hr⟩
theorem dagj_nil {P : Program} {n B : Nat} {w0 : Orig} {ops : Array Oper} {all : List (List Bool × St)} {L : List Bool} {S : St} : DagJ P n B w0 ops all L S [] := trivial
/-- Saying less, where what is shadowed is not asked. -/
def wkE2 (env : List (Nat × AV)) : List Nat → List (Nat × AV) → Prop
  | _, [] => True
  | seen, (k, x) :: r => (seen.contains k = true ∨ lk env k = x) ∧ wkE2 env (k :: seen) r
def wkH2 (H : List (Nat × Blk)) : List Nat → List (Nat × Blk) → Prop
  | _, [] => True
  | seen, (k, x) :: r => (seen.contains k = true ∨ lkH H k = some x) ∧ wkH2 H (k :: seen) r
theorem lk_wk2 {env : List (Nat × AV)} : ∀ {l : List (Nat × AV)} {seen : List Nat}, wkE2 env seen l → ∀ s, seen.contains s = false → lk l s = .top ∨ lk l s = lk env s
  | [], _, _, _, _ => .inl rfl
  | (k, x) :: r, seen, h, s, hs => by
    simp only [lk]
    by_cases e : k = s
    · rw [if_pos e]; subst e
      rcases h.1 with h1 | h1
      · rw [hs] at h1; cases h1
      · exact .inr h1.symm
    · rw [if_neg e]
      exact lk_wk2 h.2 s (by simp only [List.contains_cons, hs, Bool.or_false, beq_eq_false_iff_ne]; exact fun h => e h.symm)
theorem lkH_wk2 {H : List (Nat × Blk)} : ∀ {l : List (Nat × Blk)} {seen : List Nat}, wkH2 H seen l → ∀ s b, seen.contains s = false → lkH l s = some b → lkH H s = some b
  | [], _, _, _, _, _, h => by cases h
  | (k, x) :: r, seen, h, s, b, hs, hb => by
    simp only [lkH] at hb
    by_cases e : k = s
    · rw [if_pos e] at hb; subst e
      injection hb with hb; subst hb
      rcases h.1 with h1 | h1
      · rw [hs] at h1; cases h1
      · exact h1
    · rw [if_neg e] at hb
      exact lkH_wk2 h.2 s b (by simp only [List.contains_cons, hs, Bool.or_false, beq_eq_false_iff_ne]; exact fun h => e h.symm) hb
theorem G.wk2 {n B : Nat} {w0 : Orig} {st st' : St} (hE : wkE2 st.env [] st'.env) (hH : wkH2 st.heap [] st'.heap) : ∀ a w, G n B w0 st a w → G n B w0 st' a w := fun a w ⟨ρ, I, h⟩ =>
  ⟨ρ, I, h.defers, h.size, fun s => by
    rcases lk_wk2 hE s rfl with e | e
    · rw [e]; exact .top _
    · rw [e]; exact h.env s, ⟨fun id blk hk => h.hw.ok id blk (lkH_wk2 hH _ _ rfl hk), fun id id' blk blk' x x' b hne h1 h2 => h.hw.apart id id' blk blk' x x' b hne (lkH_wk2 hH _ _ rfl h1) (lkH_wk2 hH _ _ rfl h2), fun id blk x b h1 => h.hw.imm id blk x b (lkH_wk2 hH _ _ rfl h1), h.hw.lt⟩, h.below, h.base, h.old⟩
end Go.Eng
namespace Go.Eng
open Go.RowKit
set_option linter.unusedVariables false

def mvI (N k id : Nat) : Nat := if id < N then id + k else id
def AV.mv (N k : Nat) : AV → AV
  | .v x => .v x
  | .s id => .s (mvI N k id)
  | .w id off len => .w (mvI N k id) off len
  | .p id off => .p (mvI N k id) off
  | .i fr c sz off len => .i fr c sz off len
  | .q fr c sz e j => .q fr c sz e j
  | .a cs => .a (mvL N k cs)
  | .t cs => .t (mvL N k cs)
  | .f fn cs => .f fn (mvL N k cs)
  | .g b x => .g b (AV.mv N k x)
  | .top => .top
where mvL (N k : Nat) : List AV → List AV
  | [] => []
  | x :: r => AV.mv N k x :: mvL N k r
theorem mvL_length (N k : Nat) (cs : List AV) : (AV.mv.mvL N k cs).length = cs.length := by
  induction cs with
  | nil => rfl
  | cons x r ih => simp [AV.mv.mvL, ih]
theorem mvL_getD (N k : Nat) (cs : List AV) (j : Nat) : (AV.mv.mvL N k cs).getD j .top = (cs.getD j .top).mv N k := by
  induction cs generalizing j with
  | nil => simp [AV.mv.mvL, AV.mv]
  | cons x r ih => cases j with
    | zero => simp [AV.mv.mvL]
    | succ j => simpa [AV.mv.mvL] using ih j
theorem Conc.mv {N k B : Nat} {I : Nat → Prop} {w : World} {ρ : Nat → Option Value} {x : AV} {u : Value} (h : Conc B I w ρ x u) : x.ids (fun id => id < k ∨ k + N ≤ id) → ∀ ρ', (∀ id, (id < k ∨ k + N ≤ id) → ρ' (mvI N k id) = ρ id) → Conc B I w ρ' (x.mv N k) u := by
  induction h with
  | v x => intro _ ρ' _; rw [AV.mv]; exact .v x
  | s id x h h1 => intro hi ρ' hr; rw [AV.mv]; rw [AV.ids] at hi; exact .s _ x (by rw [hr id hi]; exact h) h1
  | w id off len cap A x h hcap hA => intro hi ρ' hr; rw [AV.mv]; rw [AV.ids] at hi; exact .w _ off len cap A x (by rw [hr id hi]; exact h) hcap hA
  | p id off b x h hb => intro hi ρ' hr; rw [AV.mv]; rw [AV.ids] at hi; exact .p _ off b x (by rw [hr id hi]; exact h) hb
  | i fr c sz off len cap A u hcap hA hc ih => intro _ ρ' _; rw [AV.mv]; exact .i fr c sz off len cap A u hcap hA hc
  | q fr c sz e f ad u h2 h3 hcell hc ih => intro _ ρ' _; rw [AV.mv]; exact .q fr c sz e f ad u h2 h3 hcell hc
  | a cs us hl h ih => intro hi ρ' hr; rw [AV.mv]; rw [AV.ids] at hi; exact .a _ us (by rw [mvL_length]; exact hl) fun j hj => by rw [mvL_length] at hj; rw [mvL_getD]; exact ih j hj (idsL_getD hi j) ρ' hr
  | t cs us hl h ih => intro hi ρ' hr; rw [AV.mv]; rw [AV.ids] at hi; exact .t _ us (by rw [mvL_length]; exact hl) fun j hj => by rw [mvL_length] at hj; rw [mvL_getD]; exact ih j hj (idsL_getD hi j) ρ' hr
  | f fn cs us hl h ih => intro hi ρ' hr; rw [AV.mv]; rw [AV.ids] at hi; exact .f fn _ us (by rw [mvL_length]; exact hl) fun j hj => by rw [mvL_length] at hj; rw [mvL_getD]; exact ih j hj (idsL_getD hi j) ρ' hr
  | g b x u h h0 ih => intro hi ρ' hr; rw [AV.mv]; rw [AV.ids] at hi; exact .g b _ u (fun hb => ih hb hi ρ' hr) h0
  | top u => intro _ ρ' _; rw [AV.mv]; exact .top u
def Cont.mv (N k : Nat) : Cont → Cont
  | .ints q l => .ints q l
  | .vals l => .vals l
  | .avs l => .avs (AV.mv.mvL N k l)
def Blk.mv (N k : Nat) : Blk → Blk
  | .box t c => .box t (c.mv N k)
  | .row e sz c => .row e sz c
  | .mp c => .mp c
  | .mpa kd ks c => .mpa kd ks (c.mv N k)
  | .nst e c => .nst e (c.mv N k)
def Blk.ids (p : Nat → Prop) : Blk → Prop
  | .box _ (.avs l) => AV.idsL p l
  | .nst _ (.avs l) => AV.idsL p l
  | .mpa _ _ (.avs l) => AV.idsL p l
  | _ => True
def idsH (p : Nat → Prop) : List (Nat × Blk) → Prop
  | [] => True
  | (d, b) :: r => p d ∧ b.ids p ∧ idsH p r
theorem idsH_lk {p : Nat → Prop} : ∀ {H : List (Nat × Blk)}, idsH p H → ∀ {id b}, lkH H id = some b → p id ∧ b.ids p
  | [], _, _, _, h => by cases h
  | (d, c) :: r, hi, id, b, h => by
    simp only [lkH] at h
    split at h
    · rename_i e; injection h with h; subst h; subst e; exact ⟨hi.1, hi.2.1⟩
    · exact idsH_lk hi.2.2 h
theorem Cont.mv_len (N k : Nat) (c : Cont) : (c.mv N k).len = c.len := by cases c <;> simp [Cont.mv, Cont.len, mvL_length]
theorem Cont.mv_at (N k : Nat) (c : Cont) (j : Nat) : (c.mv N k).at j = (c.at j).mv N k := by cases c <;> simp only [Cont.mv, Cont.at, AV.mv, mvL_getD]
theorem Cont.ids_at {p : Nat → Prop} {t : TypeId} {c : Cont} (h : (Blk.box t c).ids p) (j : Nat) : (c.at j).ids p := by
  cases c with
  | ints q l => simp only [Cont.at, AV.ids]
  | vals l => simp only [Cont.at, AV.ids]
  | avs l => exact idsL_getD h j
theorem Cont.ids_nst {p : Nat → Prop} {t : TypeId} {c : Cont} (h : (Blk.nst t c).ids p) (j : Nat) : (c.at j).ids p := by
  cases c with
  | ints q l => simp only [Cont.at, AV.ids]
  | vals l => simp only [Cont.at, AV.ids]
  | avs l => exact idsL_getD h j
theorem Cont.ids_mpa {p : Nat → Prop} {kd : Bool} {ks : List Key} {c : Cont} (h : (Blk.mpa kd ks c).ids p) (j : Nat) : (c.at j).ids p := by
  cases c with
  | ints k l => simp [Cont.at, AV.ids]
  | vals l => simp [Cont.at, AV.ids]
  | avs l => exact idsL_getD h j
def mvE (N k : Nat) : List (Nat × AV) → List (Nat × AV)
  | [] => []
  | (s, x) :: r => (s, x.mv N k) :: mvE N k r
def mvH (N k : Nat) : List (Nat × Blk) → List (Nat × Blk)
  | [] => []
  | (d, b) :: r => (mvI N k d, b.mv N k) :: mvH N k r
theorem lk_mvE (N k : Nat) : ∀ (E : List (Nat × AV)) (s : Nat), lk (mvE N k E) s = (lk E s).mv N k
  | [], s => by simp [mvE, lk, AV.mv]
  | (t, x) :: r, s => by
    simp only [mvE, lk]
    split
    · rfl
    · exact lk_mvE N k r s
theorem lkH_mvH (N k : Nat) : ∀ {H : List (Nat × Blk)} (_ : idsH (fun id => id < k ∨ k + N ≤ id) H) {id : Nat} {b : Blk}, lkH (mvH N k H) id = some b → ∃ id0 b0, id = mvI N k id0 ∧ (id0 < k ∨ k + N ≤ id0) ∧ lkH H id0 = some b0 ∧ b = b0.mv N k
  | [], _, _, _, h => by cases h
  | (d, c) :: r, hi, id, b, h => by
    simp only [mvH, lkH] at h
    split at h
    · rename_i e; injection h with h; exact ⟨d, c, e.symm, hi.1, by simp [lkH], h.symm⟩
    · rename_i e
      obtain ⟨id0, b0, e1, e0, e2, e3⟩ := lkH_mvH N k hi.2.2 h
      refine ⟨id0, b0, e1, e0, ?_, e3⟩
      simp only [lkH]
      rw [if_neg (fun hh => e (by rw [hh, e1]))]; exact e2
theorem G.mv {n B : Nat} {w0 : Orig} {st : St} {a : Act} {w : World} (hG : G n B w0 st a w) (N k : Nat) (hNk : N ≤ k) (hn : n ≤ k) (hE : idsE (fun id => id < k ∨ k + N ≤ id) st.env) (hH : idsH (fun id => id < k ∨ k + N ≤ id) st.heap) (hgh : ∀ id, k ≤ id → w0.gh id = none) : G n B w0 ⟨mvE N k st.env, mvH N k st.heap⟩ a w := by
  obtain ⟨ρ, I, h⟩ := hG
  have hρ : ∀ id, (id < k ∨ k + N ≤ id) → (fun j => if k ≤ j ∧ j < k + N then ρ (j - k) else ρ j) (mvI N k id) = ρ id := fun id hid => by
    unfold mvI
    split
    · simp only; rw [if_pos (by omega)]; congr 1; omega
    · simp only; rw [if_neg (by omega)]
  refine ⟨fun j => if k ≤ j ∧ j < k + N then ρ (j - k) else ρ j, I, h.defers, h.size, fun s => ?_, ⟨fun id blk hk => ?_, fun id id' b1 b2 x x' b hne k1 k2 hx hx' hb => ?_, fun id blk x b hk hx hb => ?_, h.hw.lt⟩, h.below, h.base, ⟨h.old.up, fun id x hx => ?_, h.old.ghn, h.old.keep⟩⟩
  · show Conc _ _ _ _ (lk (mvE N k st.env) s) _
    rw [lk_mvE]; exact (h.env s).mv (idsE_lk hE s) _ hρ
  · obtain ⟨id0, b0, rfl, e0, h2, rfl⟩ := lkH_mvH N k hH hk
    obtain ⟨x, hx, hok⟩ := h.hw.ok id0 b0 h2
    refine ⟨x, by rw [← hx]; exact hρ id0 e0, ?_⟩
    cases b0 with
    | box t c =>
      obtain ⟨b, us, rfl, hB, hh, hl, hc⟩ := hok
      exact ⟨b, us, rfl, hB, hh, by rw [Cont.mv_len]; exact hl, fun j u hu => by rw [Cont.mv_at]; exact (hc j u hu).mv (Cont.ids_at (idsH_lk hH h2).2 j) _ hρ⟩
    | row e sz c => exact hok
    | mp c => exact hok
    | mpa kd ks c =>
      obtain ⟨b, vals, rfl, hB, hm, hl, hl2, hc⟩ := hok
      exact ⟨b, vals, rfl, hB, hm, hl, by rw [Cont.mv_len]; exact hl2, fun j u hu => by rw [Cont.mv_at]; exact (hc j u hu).mv (Cont.ids_mpa (idsH_lk hH h2).2 j) _ hρ⟩
    | nst e c =>
      obtain ⟨m, xs, ho, hl, hc⟩ := hok
      exact ⟨m, xs, ho, by rw [Cont.mv_len]; exact hl, fun j u hu => by rw [Cont.mv_at]; exact (hc j u hu).mv (Cont.ids_nst (idsH_lk hH h2).2 j) _ hρ⟩
  · obtain ⟨i1, c1, rfl, e1, g1, rfl⟩ := lkH_mvH N k hH k1
    obtain ⟨i2, c2, rfl, e2, g2, rfl⟩ := lkH_mvH N k hH k2
    have hx2 : ρ i1 = some x := by rw [← hρ i1 e1]; exact hx
    have hx3 : ρ i2 = some x' := by rw [← hρ i2 e2]; exact hx'
    exact h.hw.apart i1 i2 c1 c2 x x' b (fun e => hne (by rw [e])) g1 g2 hx2 hx3 hb
  · obtain ⟨i1, c1, rfl, e1, g1, rfl⟩ := lkH_mvH N k hH hk
    have hx2 : ρ i1 = some x := by rw [← hρ i1 e1]; exact hx
    exact h.hw.imm i1 c1 x b g1 hx2 hb
  · have : ¬ (k ≤ id ∧ id < k + N) := fun hh => by rw [hgh id hh.1] at hx; cases hx
    show (if k ≤ id ∧ id < k + N then ρ (id - k) else ρ id) = x
    rw [if_neg this]; exact h.old.gh id x hx
/-- The blocks below N get names from k on. -/
theorem awp_mv {P : Program} {n B : Nat} {w0 : Orig} {c : Code} {Q : Exit → St → Prop} {st : St} (N k : Nat) (hNk : N ≤ k) (hn : n ≤ k) (hE : idsE (fun id => id < k ∨ k + N ≤ id) st.env) (hH : idsH (fun id => id < k ∨ k + N ≤ id) st.heap) (hgh : ∀ id, k ≤ id → w0.gh id = none) (h : AWP P n B w0 c Q ⟨mvE N k st.env, mvH N k st.heap⟩) : AWP P n B w0 c Q st := fun a w hG => h a w (hG.mv N k hNk hn hE hH hgh)
attribute [push_cast] mvI AV.mv AV.mv.mvL Cont.mv Blk.mv Blk.ids idsH mvE mvH
end Go.Eng
namespace Go.Eng
open Go.RowKit
set_option linter.unusedVariables false
theorem aopss_conv {P : Program} {n B : Nat} {w0 : Orig} {ops : Array Oper} {K : St → Prop} {o : Oper} {rest : List Oper} {st : St} (st' : St) (h : ∀ a w, G n B w0 st a w → G n B w0 st' a w) (h2 : AOpsS P n B w0 ops K (o :: rest) st') : AOpsS P n B w0 ops K (o :: rest) st := by
  intro a w ρ I hG next Q hnx
  obtain ⟨ρ', I', hG'⟩ := h a w ⟨ρ, I, hG⟩
  exact h2 a w ρ' I' hG' next Q hnx
theorem aopss_ren {P : Program} {n B : Nat} {w0 : Orig} {ops : Array Oper} {K : St → Prop} {o : Oper} {rest : List Oper} {st : St} (hgh : ∀ id, w0.gh id = none) (k : Nat) (h2 : AOpsS P n B w0 ops K (o :: rest) ⟨renE k st.env, renH k st.heap⟩) : AOpsS P n B w0 ops K (o :: rest) st :=
  aopss_conv _ (fun a w h => h.ren hgh k) h2
theorem aopss_wk {P : Program} {n B : Nat} {w0 : Orig} {ops : Array Oper} {K : St → Prop} {o : Oper} {rest : List Oper} {st : St} (st' : St) (hE : wkE st.env st'.env) (hH : wkH st.heap st'.heap) (h2 : AOpsS P n B w0 ops K (o :: rest) st') : AOpsS P n B w0 ops K (o :: rest) st :=
  aopss_conv st' (G.wk hE hH) h2
theorem aopss_mv {P : Program} {n B : Nat} {w0 : Orig} {ops : Array Oper} {K : St → Prop} {o : Oper} {rest : List Oper} {st : St} (N k : Nat) (hNk : N ≤ k) (hn : n ≤ k) (hE : idsE (fun id => id < k ∨ k + N ≤ id) st.env) (hH : idsH (fun id => id < k ∨ k + N ≤ id) st.heap) (hgh : ∀ id, k ≤ id → w0.gh id = none) (h2 : AOpsS P n B w0 ops K (o :: rest) ⟨mvE N k st.env, mvH N k st.heap⟩) : AOpsS P n B w0 ops K (o :: rest) st :=
  aopss_conv _ (fun a w h => h.mv N k hNk hn hE hH hgh) h2
theorem lkH_app : ∀ (A C : List (Nat × Blk)) (s : Nat), lkH (A ++ C) s = match lkH A s with | some b => some b | none => lkH C s
  | [], C, s => rfl
  | (k, x) :: r, C, s => by
    simp only [List.cons_append, lkH]
    by_cases e : k = s
    · rw [if_pos e, if_pos e]
    · rw [if_neg e, if_neg e]; exact lkH_app r C s
def outB (lo hi : Nat) : List (Nat × Blk) → Bool
  | [] => true
  | (k, _) :: r => (decide (k < lo) || decide (hi ≤ k)) && outB lo hi r
theorem outB_lk {lo hi : Nat} : ∀ {A : List (Nat × Blk)}, outB lo hi A = true → ∀ {s}, lo ≤ s → s < hi → lkH A s = none
  | [], _, s, _, _ => rfl
  | (k, x) :: r, h, s, h1, h2 => by
    simp only [outB, Bool.and_eq_true, Bool.or_eq_true, decide_eq_true_eq] at h
    simp only [lkH]
    rw [if_neg (by omega)]
    exact outB_lk h.2 h1 h2
/-- Saying less, where a part of memory stands by its name alone. -/
theorem G.wkT {n B : Nat} {w0 : Orig} {st st' : St} {lo hi : Nat} (pre pre' : List (Nat × Blk)) (C : List (Nat × Blk)) (e1 : st.heap = pre ++ C) (e2 : st'.heap = pre' ++ C) (hE : wkE2 st.env [] st'.env) (hC : ∀ s b, lkH C s = some b → lo ≤ s ∧ s < hi) (hpre : outB lo hi pre = true) (hw : wkH2 pre [] pre') : ∀ a w, G n B w0 st a w → G n B w0 st' a w := fun a w ⟨ρ, I, h⟩ => by
  have hH : ∀ s b, lkH st'.heap s = some b → lkH st.heap s = some b := fun s b hs => by
    rw [e2, lkH_app] at hs
    rw [e1, lkH_app]
    cases hp : lkH pre' s with
    | some b' =>
      rw [hp] at hs
      rw [lkH_wk2 hw s b' rfl hp]; exact hs
    | none =>
      rw [hp] at hs
      obtain ⟨h1, h2⟩ := hC s b hs
      rw [outB_lk hpre h1 h2]; exact hs
  exact ⟨ρ, I, h.defers, h.size, fun s => by
    rcases lk_wk2 hE s rfl with e | e
    · rw [e]; exact .top _
    · rw [e]; exact h.env s, ⟨fun id blk hk => h.hw.ok id blk (hH _ _ hk), fun id id' blk blk' x x' b hne h1 h2 => h.hw.apart id id' blk blk' x x' b hne (hH _ _ h1) (hH _ _ h2), fun id blk x b h1 => h.hw.imm id blk x b (hH _ _ h1), h.hw.lt⟩, h.below, h.base, h.old⟩

/-! ### A part of memory that a walk does not look at -/
def norBlk : Blk → Bool
  | .box _ (.avs l) => AV.norL l
  | .nst _ (.avs l) => AV.norL l
  | .mpa _ _ (.avs l) => AV.norL l
  | _ => true
/-- Blocks with names from lo to hi that hold nothing of one's own. -/
def yOk (lo hi : Nat) : List (Nat × Blk) → Bool
  | [] => true
  | (k, b) :: r => decide (lo ≤ k) && decide (k < hi) && norBlk b && yOk lo hi r
theorem yOk_keep {lo hi N : Nat} (hN : N ≤ lo) : ∀ {Y : List (Nat × Blk)}, yOk lo hi Y = true → keepH N Y = Y
  | [], _ => rfl
  | (k, b) :: r, h => by
    simp only [yOk, Bool.and_eq_true, decide_eq_true_eq] at h
    rw [keepH, if_pos (by omega), yOk_keep hN h.2]
theorem norBlk_ge {b : Blk} (h : norBlk b = true) (N : Nat) : b.ge N := by
  cases b with
  | box t c =>
    cases c with
    | avs l => exact norL_ge N l h
    | _ => trivial
  | nst t c =>
    cases c with
    | avs l => exact norL_ge N l h
    | _ => trivial
  | mpa kd ks c =>
    cases c with
    | avs l => exact norL_ge N l h
    | _ => trivial
  | _ => trivial
theorem norBlk_kill {b : Blk} (h : norBlk b = true) (d : Nat) : b.kill d = b := by
  cases b with
  | box t c =>
    cases c with
    | avs l => simp only [Blk.kill, Cont.kill]; rw [norL_kill d l h]
    | _ => rfl
  | nst t c =>
    cases c with
    | avs l => simp only [Blk.kill, Cont.kill]; rw [norL_kill d l h]
    | _ => rfl
  | mpa kd ks c =>
    cases c with
    | avs l => simp only [Blk.kill, Cont.kill]; rw [norL_kill d l h]
    | _ => rfl
  | _ => rfl
theorem yOk_ge {lo hi : Nat} (N : Nat) : ∀ {Y : List (Nat × Blk)}, yOk lo hi Y = true → geH N Y
  | [], _ => trivial
  | (k, b) :: r, h => by
    simp only [yOk, Bool.and_eq_true] at h
    exact ⟨norBlk_ge h.1.2 N, yOk_ge N h.2⟩
theorem yOk_kill {lo hi d : Nat} (hd : d < lo) : ∀ {Y : List (Nat × Blk)}, yOk lo hi Y = true → killH d Y = Y
  | [], _ => rfl
  | (k, b) :: r, h => by
    simp only [yOk, Bool.and_eq_true, decide_eq_true_eq] at h
    rw [killH, if_neg (by omega), yOk_kill hd h.2, norBlk_kill h.1.2]
theorem yOk_in {lo hi : Nat} : ∀ {Y : List (Nat × Blk)}, yOk lo hi Y = true → ∀ s b, lkH Y s = some b → lo ≤ s ∧ s < hi
  | [], _, s, b, h => by cases h
  | (k, c) :: r, hy, s, b, h => by
    simp only [yOk, Bool.and_eq_true, decide_eq_true_eq] at hy
    simp only [lkH] at h
    split at h
    · rename_i e; subst e; exact hy.1.1
    · exact yOk_in hy.2 s b h
theorem keepH_app (N : Nat) : ∀ (A C : List (Nat × Blk)), keepH N (A ++ C) = keepH N A ++ keepH N C
  | [], C => rfl
  | (k, b) :: r, C => by
    simp only [List.cons_append, keepH]
    split
    · rw [keepH_app N r C]; rfl
    · exact keepH_app N r C
theorem geH_app (N : Nat) : ∀ {A C : List (Nat × Blk)}, geH N A → geH N C → geH N (A ++ C)
  | [], C, _, h => h
  | (k, b) :: r, C, h, h2 => ⟨h.1, geH_app N h.2 h2⟩
/-- The loop's body is walked once, for whatever part of memory is not its own. -/
theorem y_cut {P : Program} {n ng N M B l : Nat} {wg : Orig} {ps : List Nat} {assign body : Code} {env0 : List (Nat × AV)} (hY : YRule P n ng N M B l wg ps assign body env0) {α : Type} (C : α → Prop) (A : α → List AV) (HI HO : α → List (Nat × Blk)) (M' lo : Nat) (hM : M ≤ M') (hlo : N ≤ lo) {Goal : Prop}
    (hA : ∀ x, allGe N (A x)) (hH : ∀ x, keepH N (HI x) = HI x ∧ geH N (HI x))
    (h1 : ∀ x, C x → ∀ Y, yOk lo M' Y = true → ∀ R : List (Nat × Blk) → Prop, R (HO x ++ Y) → ∀ wb, (∀ id, (id < N ∨ M' ≤ id) → wb.gh id = none) →
      AWP P n B wb assign (Ex.then (fun s => ∀ wb2, (∀ id, (id < N ∨ M' ≤ id) → wb2.gh id = none) → AWP P n B wb2 body (EndsB N R) s) (fun _ _ => False)) ⟨setE ps (A x) env0, HI x ++ Y⟩)
    (h2 : (∀ x, C x → ∀ Y, yOk lo M' Y = true → ∀ (ops : Array Oper) (K : St → Prop) (o : Oper) (rest : List Oper) (env : List (Nat × AV)) (y : Operand) (as : Array Operand) (ats : Array TypeId) (g : Option (Nat × Bool)),
      o.op = .call ⟨.value y, as, ats⟩ → gOf ops o.guard = some g → (guardS ⟨env, HI x ++ Y⟩ g = some none ∨ guardS ⟨env, HI x ++ Y⟩ g = some (some true)) → dstOk ng o.dst → ((St.mk env (HI x ++ Y)).ev y).cond ∧ ((St.mk env (HI x ++ Y)).ev y).strip = .v (.func (.yield l) #[] #[]) → as.size = ps.length →
      condL (as.toList.map (St.mk env (HI x ++ Y)).ev) → stripL (as.toList.map (St.mk env (HI x ++ Y)).ev) = A x → idsE (· < M') env →
      AOpsS P ng B wg ops K rest (St.put ⟨env, HO x ++ Y⟩ o.dst (BL true)) → AOpsS P ng B wg ops K (o :: rest) ⟨env, HI x ++ Y⟩) → Goal) : Goal := by
  refine h2 fun x hx Y hYo ops K o rest env y as ats g e1 e2 e3 e4 e5 e6 e7 e8 e9 e10 => ?_
  have hk : keepH N (HI x ++ Y) = HI x ++ Y := by rw [keepH_app, (hH x).1, yOk_keep hlo hYo]
  refine hY M' hM ops K o rest env (HI x ++ Y) y as ats g e1 e2 e3 e4 e5 e6 e7 (by rw [e8]; exact hA x) e9 (by rw [hk]; exact geH_app N (hH x).2 (yOk_ge N hYo)) fun wb hwb => ?_
  rw [e8, hk]
  exact h1 x hx Y hYo _ e10 wb hwb
theorem awp_conv {P : Program} {n B : Nat} {w0 : Orig} {c : Code} {Q : Exit → St → Prop} {st : St} (st' : St) (h : ∀ a w, G n B w0 st a w → G n B w0 st' a w) (h2 : AWP P n B w0 c Q st') : AWP P n B w0 c Q st :=
  fun a w hG => h2 a w (h a w hG)
/-- Walked on to its end, where the state is said in other words. -/
theorem awp_endS {P : Program} {n B : Nat} {w0 : Orig} {c : Code} {Q : Exit → St → Prop} {st : St} (S : St) (h2 : Q .normal S) (h1 : AWP P n B w0 c (fun e s => e = .normal ∧ ∀ a w, G n B w0 s a w → G n B w0 S a w) st) : AWP P n B w0 c Q st := fun a w hG =>
  wpIn_mono (h1 a w hG) fun e a' w' ⟨s, ⟨he, hs⟩, hG'⟩ => by subst he; exact ⟨S, h2, hs _ _ hG'⟩
/-- A variable that holds a nil slice holds an owned row of no element. -/
theorem G.nilBox {n B : Nat} {w0 : Orig} {st : St} {a : Act} {w : World} (hG : G n B w0 st a w) (id d : Nat) (t e : TypeId) (sz : Nat) (c : Cont) (hk : lkH st.heap id = some (.box t (.avs [.v (.slice none 0 0)]))) (hne : id ≠ d) (hc : c.len = 0) (hgd : w0.gh d = none) :
    G n B w0 ⟨killE d st.env, (id, .box t (.avs [.s d])) :: (d, .row e sz c) :: killH d st.heap⟩ a w := by
  obtain ⟨ρ, I, hg⟩ := hG
  have h1 := hg.new (Below.refl _ w) d (.slice none 0 0) (.row e sz c) ⟨0, [], World.ownsRow_nil w B e sz, by simp [hc], fun j u hu => by simp at hu⟩ (fun b hb => by simp [rootBlk] at hb) hgd
  have hk2 : lkH ((d, .row e sz c) :: killH d st.heap) id = some (.box t (.avs [.v (.slice none 0 0)])) := by
    simp only [lkH]
    rw [if_neg (fun e => hne e.symm), lkH_killH, if_neg hne, hk]
    rfl
  refine ⟨_, I, h1.defers, h1.size, h1.env, ⟨fun id' blk hk' => ?_, fun i1 i2 b1 b2 x x' b hne' k1 k2 => ?_, fun i1 b1 x b k1 => ?_, h1.hw.lt⟩, h1.below, h1.base, h1.old⟩
  · simp only [lkH] at hk'
    by_cases e1 : id = id'
    · rw [if_pos e1] at hk'
      injection hk' with hk'; subst hk'; subst e1
      obtain ⟨x, hx, b, us, rfl, hB, hh, hl, hcc⟩ := h1.hw.ok _ _ hk2
      refine ⟨_, hx, b, us, rfl, hB, hh, hl, fun j u hu => ?_⟩
      have hj : j = 0 := by
        have := (Array.getElem?_eq_some_iff.1 hu).1
        rw [hl] at this; simpa [Cont.len] using this
      subst hj
      have h2 := hcc 0 u hu
      simp only [Cont.at, List.getD_cons_zero] at h2 ⊢
      rw [h2.v_inv]
      exact .s d _ (updρ_self _ _ _) rfl
    · rw [if_neg e1] at hk'
      exact h1.hw.ok id' blk hk'
  · have conv : ∀ {i1 b1}, lkH ((id, .box t (.avs [.s d])) :: (d, .row e sz c) :: killH d st.heap) i1 = some b1 → ∃ b2, lkH ((d, .row e sz c) :: killH d st.heap) i1 = some b2 := fun {i1 b1} h => by
      simp only [lkH] at h
      by_cases e1 : id = i1
      · subst e1; exact ⟨_, hk2⟩
      · rw [if_neg e1] at h; exact ⟨b1, h⟩
    obtain ⟨c1, q1⟩ := conv k1
    obtain ⟨c2, q2⟩ := conv k2
    exact h1.hw.apart i1 i2 c1 c2 x x' b hne' q1 q2
  · have : ∃ b2, lkH ((d, .row e sz c) :: killH d st.heap) i1 = some b2 := by
      simp only [lkH] at k1
      by_cases e1 : id = i1
      · subst e1; exact ⟨_, hk2⟩
      · rw [if_neg e1] at k1; exact ⟨b1, k1⟩
    obtain ⟨c1, q1⟩ := this
    exact h1.hw.imm i1 c1 x b q1
theorem norL_ids (p : Nat → Prop) : ∀ (l : List AV), AV.norL l = true → AV.idsL p l
  | [], _ => by simp only [AV.idsL]
  | x :: r, h => by
    simp only [AV.norL, Bool.and_eq_true] at h
    simp only [AV.idsL]
    exact ⟨nor_ids p x h.1, norL_ids p r h.2⟩
where nor_ids (p : Nat → Prop) : ∀ (x : AV), x.nor = true → x.ids p
  | .v _, _ => by simp only [AV.ids]
  | .s _, h => by simp [AV.nor] at h
  | .w _ _ _, h => by simp [AV.nor] at h
  | .p _ _, h => by simp [AV.nor] at h
  | .i _ _ _ _ _, _ => by simp only [AV.ids]
  | .q _ _ _ _ _, _ => by simp only [AV.ids]
  | .a cs, h => by simp only [AV.nor] at h; simp only [AV.ids]; exact norL_ids p cs h
  | .t cs, h => by simp only [AV.nor] at h; simp only [AV.ids]; exact norL_ids p cs h
  | .f _ cs, h => by simp only [AV.nor] at h; simp only [AV.ids]; exact norL_ids p cs h
  | .g _ x, h => by simp only [AV.nor] at h; simp only [AV.ids]; exact nor_ids p x h
  | .top, _ => by simp only [AV.ids]
theorem norL_mv (N k : Nat) : ∀ (l : List AV), AV.norL l = true → AV.mv.mvL N k l = l
  | [], _ => rfl
  | x :: r, h => by
    simp only [AV.norL, Bool.and_eq_true] at h
    simp only [AV.mv.mvL]
    rw [nor_mv N k x h.1, norL_mv N k r h.2]
where nor_mv (N k : Nat) : ∀ (x : AV), x.nor = true → x.mv N k = x
  | .v _, _ => rfl
  | .s _, h => by simp [AV.nor] at h
  | .w _ _ _, h => by simp [AV.nor] at h
  | .p _ _, h => by simp [AV.nor] at h
  | .i _ _ _ _ _, _ => rfl
  | .q _ _ _ _ _, _ => rfl
  | .a cs, h => by simp only [AV.nor] at h; simp only [AV.mv]; rw [norL_mv N k cs h]
  | .t cs, h => by simp only [AV.nor] at h; simp only [AV.mv]; rw [norL_mv N k cs h]
  | .f _ cs, h => by simp only [AV.nor] at h; simp only [AV.mv]; rw [norL_mv N k cs h]
  | .g _ x, h => by simp only [AV.nor] at h; simp only [AV.mv]; rw [nor_mv N k x h]
  | .top, _ => rfl
theorem yOk_ids {lo hi k N : Nat} (hk : hi ≤ k) : ∀ {Y : List (Nat × Blk)}, yOk lo hi Y = true → idsH (fun id => id < k ∨ k + N ≤ id) Y
  | [], _ => trivial
  | (d, b) :: r, h => by
    simp only [yOk, Bool.and_eq_true, decide_eq_true_eq] at h
    refine ⟨by show d < k ∨ k + N ≤ d; omega, ?_, yOk_ids hk h.2⟩
    have hb := h.1.2
    cases b with
    | box t c =>
      cases c with
      | avs l => exact norL_ids _ l hb
      | _ => trivial
    | nst t c =>
      cases c with
      | avs l => exact norL_ids _ l hb
      | _ => trivial
    | mpa kd ks c =>
      cases c with
      | avs l => exact norL_ids _ l hb
      | _ => trivial
    | _ => trivial
theorem yOk_mv {lo hi N k : Nat} (hN : N ≤ lo) : ∀ {Y : List (Nat × Blk)}, yOk lo hi Y = true → mvH N k Y = Y
  | [], _ => rfl
  | (d, b) :: r, h => by
    simp only [yOk, Bool.and_eq_true, decide_eq_true_eq] at h
    have hb := h.1.2
    have hd : mvI N k d = d := by unfold mvI; rw [if_neg (by omega)]
    have hbm : b.mv N k = b := by
      cases b with
      | box t c =>
        cases c with
        | avs l => simp only [Blk.mv, Cont.mv]; rw [norL_mv N k l hb]
        | _ => rfl
      | nst t c =>
        cases c with
        | avs l => simp only [Blk.mv, Cont.mv]; rw [norL_mv N k l hb]
        | _ => rfl
      | mpa kd ks c =>
        cases c with
        | avs l => simp only [Blk.mv, Cont.mv]; rw [norL_mv N k l hb]
        | _ => rfl
      | _ => rfl
    simp only [mvH]
    rw [hd, hbm, yOk_mv hN h.2]
theorem yOk_del {lo hi d : Nat} (hd : hi ≤ d) : ∀ {Y : List (Nat × Blk)}, yOk lo hi Y = true → delH d Y = Y
  | [], _ => rfl
  | (k, b) :: r, h => by
    simp only [yOk, Bool.and_eq_true, decide_eq_true_eq] at h
    rw [delH, if_neg (by omega), yOk_del hd h.2]
def SortStepI (P : Program) (dst : Option Nat) (op : Op) (K : St → Prop) (st : St) : Prop :=
  match callee? st.ev op, dst with
  | some (ψ, k, args), some d =>
    match stripL args with
    | [.f (.func g) [.p bid 0]] => (ψ ∧ condL args) ∧ ∃ t mid c e ds, lkH st.heap bid = some (.box t (.avs [.s mid])) ∧ lkH st.heap mid = some (.mp c) ∧ SortCalls P k g t e c (ds.map fun x => .int .i64 x) ∧ K ⟨(d, .s d) :: killE d st.env, (d, .row e 1 (.ints .i64 ds)) :: killH d st.heap⟩
    | _ => False
  | _, _ => False
theorem sortStepI_ok {P : Program} {n B : Nat} {w0 : Orig} {st : St} {a : Act} {w : World} {ρ : Nat → Option Value} {I : Nat → Prop} (hG : Gam n B w0 st a w ρ I) {o : Oper} (hd : dstOk n o.dst) {K : St → Prop} (h : SortStepI P o.dst o.op K st) : StepOk P n B w0 o a w K := by
  intro next Q hn
  unfold SortStepI at h
  split at h <;> first | exact h.elim | skip
  rename_i ψ k args d hc hdst
  rw [hdst] at hd
  split at h <;> first | exact h.elim | skip
  rename_i g bid hargs
  obtain ⟨⟨hψ, hcond⟩, t, mid, c, e, ds, hkb, hk, ⟨⟨fn, hf, hname, hbody⟩, hcall⟩, hK⟩ := h
  obtain ⟨vs, hrun, hvs⟩ := callee_run (fun x => hG.ev x) hc hψ hf hname hbody
  have hlen : args.length = 1 := by rw [← stripL_length args, hargs]; rfl
  have h0 := (hvs.2 0 (by omega)).strip (condL_getD hcond 0)
  rw [← stripL_getD _ _ (by omega), hargs] at h0
  simp only [List.getD_cons_zero] at h0
  have hvl : vs.toList.length = 1 := by rw [hvs.1, hlen]
  obtain ⟨v0, hv0⟩ : ∃ v0, vs.toList = [v0] := by
    match hh : vs.toList, hvl with
    | [x], _ => exact ⟨x, rfl⟩
  rw [hv0] at h0
  simp only [List.getD_cons_zero] at h0
  cases h0 with
  | f _ _ us hul hus =>
    have hu0 := hus 0 (by simp)
    simp only [List.getD_cons_zero] at hu0
    obtain ⟨u0, rfl⟩ : ∃ u0, us = #[u0] := by
      have hl1 : us.toList.length = 1 := by simpa using hul
      match hh : us.toList, hl1 with
      | [x], _ => exact ⟨x, by cases us; simp_all⟩
    have e0 : (#[u0] : Array Value).getD 0 undef = u0 := rfl
    rw [e0] at hu0
    cases hu0 with
    | p _ _ b x hr hb =>
      obtain ⟨x', hx', b', us', rfl, hB, hh, hl, hcc⟩ := hG.hw.ok _ _ hkb
      rw [hr] at hx'; injection hx' with hx'; subst hx'
      simp only [rootBlk, Option.some.injEq] at hb; subst hb
      obtain ⟨u1, rfl⟩ : ∃ u1, us' = #[u1] := by
        have hl1 : us'.toList.length = 1 := by simpa [Cont.len] using hl
        match hh : us'.toList, hl1 with
        | [x], _ => exact ⟨x, by cases us'; simp_all⟩
      have h2 := hcc 0 u1 rfl
      simp only [Cont.at, List.getD_cons_zero] at h2
      cases h2 with
      | s _ x2 hr2 _ =>
        obtain ⟨x3, hx3, bm, rfl, hBm, hmap⟩ := hG.hw.ok _ _ hk
        rw [hr2] at hx3; injection hx3 with hx3; subst hx3
        have hvs' : vs = #[.func (.func g) #[] #[.pointer (some ⟨b', 0, none⟩)]] := by cases vs; simp_all
        unfold Oper.wp
        rw [hrun, Oper.upon_enter, hvs']
        refine (hcall w b' bm hh hmap).mono fun en w' he => ?_
        obtain ⟨v, rfl, hbel, ho⟩ := he
        have ho' := ownsRow_base ho hG.base
        have := new_row hG d hd hbel ho' (fun b hb' => (ho.lt b (by rw [← rootBlk_own ho]; exact hb')).1) (.ints .i64 ds) (by simp [Cont.len]) (fun j u hu => by
          have hj : j < ds.length := by have := (List.getElem?_eq_some_iff.1 hu).1; simpa using this
          have hu' : u = .int .i64 (ds.getD j 0) := by
            rw [List.getElem?_map, List.getElem?_eq_getElem hj] at hu
            simp only [Option.map_some, Option.some.injEq] at hu
            rw [← hu, List.getD_eq_getElem?_getD, List.getElem?_eq_getElem hj]; rfl
          rw [hu']; exact .v _)
        rw [hdst]
        exact hn _ _ _ hK this
theorem aopss_sortedI {P : Program} {n B : Nat} {w0 : Orig} {ops : Array Oper} {K : St → Prop} {o : Oper} {rest : List Oper} {st : St} (hg : o.guard = none) (hd : dstOk n o.dst) (h : ∀ K' : St → Prop, (∀ s, AOpsS P n B w0 ops K rest s → K' s) → SortStepI P o.dst o.op K' st) : AOpsS P n B w0 ops K (o :: rest) st := by
  intro a w ρ I hG next Q hnx
  rw [wanted_of hg hG]
  have h' := h _ fun _ h => h
  refine toIn (fun c' hc' => ?_) (sortStepI_ok hG hd h' next Q hnx)
  rw [hc'] at h'; exact h'
attribute [push_cast] SortStepI
end Go.Eng
namespace Go.Eng
open Go.RowKit
theorem G.nilBoxAt {n B : Nat} {w0 : Orig} {st : St} {a : Act} {w : World} (hG : G n B w0 st a w) (id d k : Nat) (t e : TypeId) (sz : Nat) (c : Cont) (l : List AV) (hk : lkH st.heap id = some (.box t (.avs l))) (hkl : AV.killL d l = l) (hat : l.getD k .top = .v (.slice none 0 0)) (hkn : k < l.length) (hne : id ≠ d) (hc : c.len = 0) (hgd : w0.gh d = none) :
    G n B w0 ⟨killE d st.env, (id, .box t (.avs (l.set k (.s d)))) :: (d, .row e sz c) :: killH d st.heap⟩ a w := by
  obtain ⟨ρ, I, hg⟩ := hG
  have h1 := hg.new (Below.refl _ w) d (.slice none 0 0) (.row e sz c) ⟨0, [], World.ownsRow_nil w B e sz, by simp [hc], fun j u hu => by simp at hu⟩ (fun b hb => by simp [rootBlk] at hb) hgd
  have hk2 : lkH ((d, .row e sz c) :: killH d st.heap) id = some (.box t (.avs l)) := by
    simp only [lkH]
    rw [if_neg (fun e => hne e.symm), lkH_killH, if_neg hne, hk]
    show some (Blk.box t (.avs (AV.killL d l))) = _
    rw [hkl]
  refine ⟨_, I, h1.defers, h1.size, h1.env, ⟨fun id' blk hk' => ?_, fun i1 i2 b1 b2 x x' b hne' k1 k2 => ?_, fun i1 b1 x b k1 => ?_, h1.hw.lt⟩, h1.below, h1.base, h1.old⟩
  · simp only [lkH] at hk'
    by_cases e1 : id = id'
    · rw [if_pos e1] at hk'
      injection hk' with hk'; subst hk'; subst e1
      obtain ⟨x, hx, b, us, rfl, hB, hh, hl, hcc⟩ := h1.hw.ok _ _ hk2
      refine ⟨_, hx, b, us, rfl, hB, hh, by rw [hl]; simp [Cont.len], fun j u hu => ?_⟩
      by_cases hj : j = k
      · subst hj
        have h2 := hcc j u hu
        simp only [Cont.at] at h2 ⊢
        rw [hat] at h2
        rw [getD_set_self _ _ _ _ hkn, h2.v_inv]
        exact .s d _ (updρ_self _ _ _) rfl
      · have h2 := hcc j u hu
        simp only [Cont.at] at h2 ⊢
        rw [getD_set_ne _ _ _ _ _ (fun e => hj e.symm)]
        exact h2
    · rw [if_neg e1] at hk'
      exact h1.hw.ok id' blk hk'
  · have conv : ∀ {i1 b1}, lkH ((id, .box t (.avs (l.set k (.s d)))) :: (d, .row e sz c) :: killH d st.heap) i1 = some b1 → ∃ b2, lkH ((d, .row e sz c) :: killH d st.heap) i1 = some b2 := fun {i1 b1} h => by
      simp only [lkH] at h
      by_cases e1 : id = i1
      · subst e1; exact ⟨_, hk2⟩
      · rw [if_neg e1] at h; exact ⟨b1, h⟩
    obtain ⟨c1, q1⟩ := conv k1
    obtain ⟨c2, q2⟩ := conv k2
    exact h1.hw.apart i1 i2 c1 c2 x x' b hne' q1 q2
  · have : ∃ b2, lkH ((d, .row e sz c) :: killH d st.heap) i1 = some b2 := by
      simp only [lkH] at k1
      by_cases e1 : id = i1
      · subst e1; exact ⟨_, hk2⟩
      · rw [if_neg e1] at k1; exact ⟨b1, k1⟩
    obtain ⟨c1, q1⟩ := this
    exact h1.hw.imm i1 c1 x b q1
/-- A state at the end, with its blocks under other names. -/
theorem mv_end {n B : Nat} {w0 : Orig} {st st1 st2 : St} (N k : Nat) (h1 : ∀ a w, G n B w0 st a w → G n B w0 st1 a w) (hNk : N ≤ k) (hn : n ≤ k) (hE : idsE (fun id => id < k ∨ k + N ≤ id) st1.env) (hH : idsH (fun id => id < k ∨ k + N ≤ id) st1.heap) (hgh : ∀ id, k ≤ id → w0.gh id = none) (h2 : ∀ a w, G n B w0 ⟨mvE N k st1.env, mvH N k st1.heap⟩ a w → G n B w0 st2 a w) : ∀ a w, G n B w0 st a w → G n B w0 st2 a w :=
  fun a w h => h2 a w ((h1 a w h).mv N k hNk hn hE hH hgh)
end Go.Eng
