/- Regions with calls in place, rows made and copied; regions in any order, one by one. -/
import Derived.Test.YtgcomonjkcpkaaaQngZ2
namespace Go.Eng
open Go.RowKit

def AStepF (P : Program) (T : Tab) (n : Nat) (ops : Array Oper) (o : Oper) (K : St → Prop) (st : St) : Prop :=
  AStepX P T n ops o K st ∨ (o.guard = none ∧ dstOk n o.dst ∧ (EffCall P T o.dst o.op K st ∨ MakeAny T o.dst o.op K st ∨ CopyAll T o.dst o.op K st))
theorem astepF_ok {P : Program} {T : Tab} (hT : T.ok P) {n B : Nat} {w0 : Orig} {st : St} {a : Act} {w : World} {ρ : Nat → Option Value} {I : Nat → Prop} (hG : Gam n B w0 st a w ρ I) {ops : Array Oper} {o : Oper} {K : St → Prop} (h : AStepF P T n ops o K st)
    (next : Act → World → Prop) (Q : Exit → Act → World → Prop) (hn : ∀ st' a' w', K st' → G n B w0 st' a' w' → next a' w') :
    if Region.wanted o (yielded ops a.tmps) then o.wp P a w next Q else next (a.put o.dst undef) w := by
  rcases h with h | ⟨hg, hd, h⟩
  · exact astepX_ok hT hG h next Q hn
  · have : Region.wanted o (yielded ops a.tmps) = true := by
      have := guard_ok hG (ops := ops) (o := o) (g := none) (by rw [hg]; rfl)
      simpa using this
    rw [if_pos this]
    rcases h with h | h | h
    · exact eff_ok hT hG hd h next Q hn
    · exact makeAny_ok hT hG hd h next Q hn
    · exact copyAll_ok hT hG hd h next Q hn
def AOpsF (P : Program) (T : Tab) (n : Nat) (ops : Array Oper) (K : St → Prop) : List Oper → St → Prop
  | [], st => K st
  | o :: rest, st => AStepF P T n ops o (fun st' => AOpsF P T n ops K rest st') st
theorem aopsF_ok {P : Program} {T : Tab} (hT : T.ok P) {n B : Nat} {w0 : Orig} {ops : Array Oper} {K : St → Prop} {Q : Exit → Act → World → Prop} (hQ : ∀ st' a' w', K st' → G n B w0 st' a' w' → Q .normal a' w') : ∀ (l : List Oper) (st : St) (a : Act) (w : World), G n B w0 st a w → AOpsF P T n ops K l st → wpList P ops Q l a w
  | [], st, a, w, hG, h => hQ st a w h hG
  | o :: rest, st, a, w, ⟨ρ, I, hG⟩, h => by
    have := astepF_ok hT hG h (wpList P ops Q rest) Q (fun st' a' w' hK hG' => aopsF_ok hT hQ rest st' a' w' hG' hK)
    unfold wpList
    split
    · rename_i hw; rw [if_pos hw] at this; exact .inl this
    · rename_i hw; rw [if_neg hw] at this; exact this
theorem awp_f {P : Program} {T : Tab} (hT : T.ok P) {n B : Nat} {w0 : Orig} {Q : Exit → St → Prop} {st : St} {id : Nat} {l : List Oper} (h : ∀ K : St → Prop, (∀ s, Q .normal s → K s) → AOpsF P T n l.toArray K l st) : AWP P n B w0 (.region id l.toArray false) Q st := fun a w hG =>
  wp_region_lit (aopsF_ok hT (fun st' _ _ hK hG' => ⟨st', hK, hG'⟩) l st a w hG (h (fun s => Q .normal s) fun _ h => h))
theorem awp_fseq {P : Program} {T : Tab} (hT : T.ok P) {n B : Nat} {w0 : Orig} {Q : Exit → St → Prop} {st : St} {id : Nat} {l : List Oper} {y : Code} (h : ∀ K : St → Prop, (∀ s, AWP P n B w0 y Q s → K s) → AOpsF P T n l.toArray K l st) : AWP P n B w0 (.seq (.region id l.toArray false) y) Q st :=
  awp_seq (awp_f hT (h · ))
theorem aopsf_nil {P : Program} {T : Tab} {n : Nat} {ops : Array Oper} {K : St → Prop} {st : St} (h : K st) : AOpsF P T n ops K [] st := h
theorem aopsf_cons {P : Program} {T : Tab} {n : Nat} {ops : Array Oper} {K : St → Prop} {o : Oper} {rest : List Oper} {st : St} {g : Option (Nat × Bool)} (hg : gOf ops o.guard = some g) (h : ∀ K' : St → Prop, (∀ s, AOpsF P T n ops K rest s → K' s) → StepN P T n o.dst o.op g K' st) : AOpsF P T n ops K (o :: rest) st :=
  .inl (.inl (stepN_ok hg (h _ fun _ h => h)))
theorem aopsf_call {P : Program} {T : Tab} {n : Nat} {ops : Array Oper} {K : St → Prop} {o : Oper} {rest : List Oper} {st : St} (hg : o.guard = none) (hd : dstOk n o.dst) (h : ∀ K' : St → Prop, (∀ s, AOpsF P T n ops K rest s → K' s) → EffCall P T o.dst o.op K' st) : AOpsF P T n ops K (o :: rest) st :=
  .inr ⟨hg, hd, .inl (h _ fun _ h => h)⟩
theorem aopsf_make {P : Program} {T : Tab} {n : Nat} {ops : Array Oper} {K : St → Prop} {o : Oper} {rest : List Oper} {st : St} (hg : o.guard = none) (hd : dstOk n o.dst) (h : ∀ K' : St → Prop, (∀ s, AOpsF P T n ops K rest s → K' s) → MakeAny T o.dst o.op K' st) : AOpsF P T n ops K (o :: rest) st :=
  .inr ⟨hg, hd, .inr (.inl (h _ fun _ h => h))⟩
theorem aopsf_copy {P : Program} {T : Tab} {n : Nat} {ops : Array Oper} {K : St → Prop} {o : Oper} {rest : List Oper} {st : St} (hg : o.guard = none) (hd : dstOk n o.dst) (h : ∀ K' : St → Prop, (∀ s, AOpsF P T n ops K rest s → K' s) → CopyAll T o.dst o.op K' st) : AOpsF P T n ops K (o :: rest) st :=
  .inr ⟨hg, hd, .inr (.inr (h _ fun _ h => h))⟩

/-- Whatever order is picked. -/
def AAny (P : Program) (T : Tab) (n : Nat) (ops : Array Oper) (K : St → Prop) : Nat → Array Bool → St → Prop
  | 0, listed, st => Region.ready .any ops listed = [] ∧ K st
  | fuel + 1, listed, st => (Region.ready .any ops listed = [] → K st) ∧ ∀ i ∈ Region.ready .any ops listed, ∃ o, ops[i]? = some o ∧ AStepF P T n ops o (fun s => AAny P T n ops K fuel (listed.setIfInBounds i true) s) st
theorem aany_ok {P : Program} {T : Tab} (hT : T.ok P) {n B : Nat} {w0 : Orig} {ops : Array Oper} {K : St → Prop} {Q : Exit → Act → World → Prop} (hQ : ∀ st' a' w', K st' → G n B w0 st' a' w' → Q .normal a' w') : ∀ (fuel : Nat) (listed : Array Bool) (st : St) (a : Act) (w : World), G n B w0 st a w → AAny P T n ops K fuel listed st → wpAny P .any ops Q fuel listed a w
  | 0, listed, st, a, w, hG, h => ⟨h.1, hQ st a w h.2 hG⟩
  | fuel + 1, listed, st, a, w, hG, h => ⟨fun he => hQ st a w (h.1 he) hG, fun i hi => by
      obtain ⟨o, ho, hst⟩ := h.2 i hi
      obtain ⟨ρ, I, hg⟩ := hG
      have := astepF_ok hT hg hst (wpAny P .any ops Q fuel (listed.setIfInBounds i true)) Q (fun st' a' w' hK hG' => aany_ok hT hQ fuel _ st' a' w' hG' hK)
      unfold wpOp
      simp only [ho]
      split
      · rename_i hw; rw [if_pos hw] at this; exact .inl this
      · rename_i hw; rw [if_neg hw] at this; exact this⟩
theorem awp_any {P : Program} {T : Tab} (hT : T.ok P) {n B : Nat} {w0 : Orig} {Q : Exit → St → Prop} {st : St} {id : Nat} {ops : Array Oper} (hm : P.follows .mixedOrders = true) (h : ∀ K : St → Prop, (∀ s, Q .normal s → K s) → AAny P T n ops K ops.size (Array.replicate ops.size false) st) : AWP P n B w0 (.region id ops true) Q st := by
  intro a w hG
  refine wp_region_any hm ?_
  have hG' : G n B w0 st a { w with drawn := w.drawn + 1 } := by
    obtain ⟨ρ, I, hg⟩ := hG
    exact ⟨ρ, I, hg.quiet ⟨⟨rfl, rfl, rfl, Nat.le_refl _, fun _ _ => rfl⟩, fun _ h => h, fun _ h h' => absurd h h', hg.hw.lt⟩⟩
  exact aany_ok hT (fun st' _ _ hK hG' => ⟨st', hK, hG'⟩) _ _ st a _ hG' (h (fun s => Q .normal s) fun _ h => h)
def AllJ (P : Program) (T : Tab) (n : Nat) (ops : Array Oper) (K : St → Prop) (fuel : Nat) (listed : Array Bool) (st : St) : List Nat → Prop
  | [] => True
  | i :: r => (∃ o, ops.toList[i]? = some o ∧ ∃ g, gOf ops o.guard = some g ∧ ∀ K' : St → Prop, (∀ s, AAny P T n ops K fuel (listed.setIfInBounds i true) s → K' s) → StepN P T n o.dst o.op g K' st) ∧ AllJ P T n ops K fuel listed st r
theorem AllJ.spec {P : Program} {T : Tab} {n : Nat} {ops : Array Oper} {K : St → Prop} {fuel : Nat} {listed : Array Bool} {st : St} : ∀ {js : List Nat}, AllJ P T n ops K fuel listed st js → ∀ i ∈ js, ∃ o, ops[i]? = some o ∧ AStepF P T n ops o (fun s => AAny P T n ops K fuel (listed.setIfInBounds i true) s) st
  | [], _, i, hi => by cases hi
  | j :: r, h, i, hi => by
    rcases List.mem_cons.1 hi with rfl | hi
    · obtain ⟨o, ho, g, hg, h1⟩ := h.1
      exact ⟨o, by rw [← Array.getElem?_toList]; exact ho, .inl (.inl (stepN_ok hg (h1 _ fun _ h => h)))⟩
    · exact AllJ.spec h.2 i hi
theorem aany_nil {P : Program} {T : Tab} {n : Nat} {ops : Array Oper} {K : St → Prop} {listed : Array Bool} {st : St} (hr : Region.ready .any ops listed = []) (h : K st) : AAny P T n ops K 0 listed st := ⟨hr, h⟩
theorem aany_step {P : Program} {T : Tab} {n : Nat} {ops : Array Oper} {K : St → Prop} {fuel : Nat} {listed : Array Bool} {st : St} (j : Nat) (js : List Nat) (hr : decide (Region.ready .any ops listed = j :: js) = true)
    (h : AllJ P T n ops K fuel listed st (j :: js)) : AAny P T n ops K (fuel + 1) listed st :=
  ⟨fun he => (by rw [of_decide_eq_true hr] at he; cases he), fun i hi => by rw [of_decide_eq_true hr] at hi; exact h.spec i hi⟩
theorem awp_seqS {P : Program} {n B : Nat} {w0 : Orig} {c1 c2 : Code} {Q : Exit → St → Prop} {st : St} (S : St) (h1 : AWP P n B w0 c1 (fun e s => e = .normal ∧ ∀ a w, G n B w0 s a w → G n B w0 S a w) st) (h2 : AWP P n B w0 c2 Q S) : AWP P n B w0 (.seq c1 c2) Q st := by
  refine awp_seq (fun a w hG => wp_mono (h1 a w hG) fun e a' w' ⟨s, ⟨he, hs⟩, hG'⟩ => ?_)
  subst he
  exact ⟨s, fun a w hg => h2 a w (hs a w hg), hG'⟩
theorem awp_thenS {P : Program} {n B : Nat} {w0 : Orig} {c1 c2 : Code} {Q Q2 : Exit → St → Prop} {st : St} (S : St) (h1 : AWP P n B w0 c1 (fun e s => e = .normal ∧ ∀ a w, G n B w0 s a w → G n B w0 S a w) st) (h2 : AWP P n B w0 c2 Q2 S) : AWP P n B w0 c1 (Ex.then (AWP P n B w0 c2 Q2) Q) st := fun a w hG => wp_mono (h1 a w hG) fun e a' w' ⟨s, ⟨he, hs⟩, hG'⟩ => by
  subst he
  exact ⟨s, fun a w hg => h2 a w (hs a w hg), hG'⟩
theorem aopsf_own {P : Program} {T : Tab} {n : Nat} {ops : Array Oper} {K : St → Prop} {o : Oper} {rest : List Oper} {st : St} (d : Nat) (hd : o.dst = some d) (hg : o.guard = none) (hn : d < n) (h : ∀ K' : St → Prop, (∀ s, AOpsF P T n ops K rest s → K' s) → alB T st (some d) o.op K') : AOpsF P T n ops K (o :: rest) st :=
  .inl (.inr (.inl ⟨hg, by rw [hd]; exact hn, by rw [hd]; exact h _ fun _ h => h⟩))
theorem aopsf_skip {P : Program} {T : Tab} {n : Nat} {ops : Array Oper} {K : St → Prop} {o : Oper} {rest : List Oper} {st : St} {g : Option (Nat × Bool)} (hg : gOf ops o.guard = some g) (hs : guardS st g = some (some false)) (hd : dstOk n o.dst) (h : AOpsF P T n ops K rest (st.put o.dst (.g false (.v (.bool false))))) : AOpsF P T n ops K (o :: rest) st :=
  .inl (.inr (.inr ⟨by rw [guardS_eq hg]; exact hs, hd, _, h⟩))
theorem aopsf_eff {P : Program} {T : Tab} {n : Nat} {ops : Array Oper} {K : St → Prop} {o : Oper} {rest : List Oper} {st : St} (N : Nat) {ψ : Prop} {k : FuncId} {args : List AV} {fn : Func} {c : Code} {n' : Nat} {res : List ResultVar} (hg : o.guard = none) (hd : dstOk n o.dst) (hc : callee? st.ev o.op = some (ψ, k, args)) (hψ : ψ ∧ condL args)
    (hf : P.funcs[k]? = some fn) (hb : fn.body = some c) (hname : (fn.name == "runtime.NumGoroutine") = false) (hres : fn.results.toList = res) (hn : fn.ntmps = n') (hle : args.length ≤ n') (hN : n' ≤ N)
    (h : ∀ K' : St → Prop, (∀ s, AOpsF P T n ops K rest s → K' s) → ∀ B w0, AWP P n' B w0 c (EndsE T N res fun r H => K' (St.put ⟨st.env, H⟩ o.dst r)) ⟨argEnv 0 (stripL args), st.heap⟩) : AOpsF P T n ops K (o :: rest) st := by
  refine aopsf_call hg hd fun K' hK' => ?_
  unfold EffCall
  rw [hc]
  subst hres
  subst hn
  exact ⟨hψ, fn, c, N, hf, hb, hname, hle, hN, h K' hK'⟩

/-- The contract of a function that calls what it walks in place: no id is pinned. -/
theorem pure_of2 {P : Program} {T : Tab} (hT : T.ok P) {n : Nat} {f : FuncId} {fn : Func} {c : Code} {res : List ResultVar} {args : List AV} {r : AV} (hf : P.funcs[f]? = some fn) (hb : fn.body = some c) (hname : (fn.name == "runtime.NumGoroutine") = false) (hres : fn.results.toList = res) (hn : fn.ntmps = n) (hle : args.length ≤ n)
    (h : ∀ B w0, (∀ id, w0.gh id = none) → AWP P n B w0 c (EndsA T res r) ⟨argEnv 0 args, []⟩) : Pure P f args r := by
  refine ⟨⟨fn, hf, hname, by rw [hb]; rfl⟩, fun w I vs hI hargs => ?_⟩
  refine calls_of_wp hf hb (wp_mono (h w.heap.size ⟨w, I, fun _ => none⟩ (fun _ => rfl) _ w ⟨noId, I, ?_⟩) fun e a' w' ⟨st', h1, ρ, I', hG⟩ => ?_)
  · have hsz : vs.size = args.length := by rw [← Array.length_toList, hargs.1]
    refine ⟨rfl, by simp [hn]; omega, fun s => ?_, ⟨fun id blk hk => (by cases hk), fun _ _ _ _ _ _ _ _ hk => (by cases hk), fun _ _ _ _ hk => (by cases hk), hI⟩, Below.refl _ _, Nat.le_refl _, ⟨fun b hb => .inl hb, (fun _ _ h => nomatch h), fun _ _ => rfl, fun b hb => ⟨hb, rfl⟩⟩⟩
    show Conc _ _ _ _ (lk (argEnv 0 args) s) _
    rw [lk_argEnv, if_pos (Nat.zero_le _), Nat.sub_zero]
    by_cases hs : s < args.length
    · have h2 := hargs.2 s hs
      have e : (vs ++ Array.replicate (fn.ntmps - vs.size) undef).getD s undef = vs.toList.getD s undef := by
        have : s < vs.size := by omega
        rw [Array.getD_eq_getD_getElem?, Array.getElem?_append_left this]
        simp [List.getD_eq_getElem?_getD]
      show Conc _ _ _ _ _ ((vs ++ Array.replicate (fn.ntmps - vs.size) undef).getD s undef)
      rw [e]; exact h2
    · have e : args.getD s .top = .top := by simp [List.getD_eq_getElem?_getD]; rw [List.getElem?_eq_none (by omega)]; rfl
      rw [e]; exact .top _
  · have key : fin T res r st' → a'.defers = [] ∧ ∃ v, (results fn a'.tmps).run P w' = .ok v w' ∧ ∃ v_1, Ending.returned v = .returned v_1 ∧ Below w.heap.size w w' ∧ Conc w.heap.size (fun b => I b ∨ (w.heap.size ≤ b ∧ b < w'.heap.size)) w' noId r v_1 := fun hfin => by
      obtain ⟨v, h2, h3⟩ := fin_ok hT hres hG hfin
      exact ⟨hG.defers, v, h2, v, rfl, hG.below, h3⟩
    cases e with
    | ret => exact key h1
    | normal => exact key h1
    | _ => exact h1.elim
attribute [push_cast] MakeAny CopyAll
end Go.Eng
