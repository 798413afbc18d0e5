/- A function's contract out of its body. -/
import Derived.Test.YtflclkbkgcfliaaEngL
import Derived.RangeFuncOwn
namespace Go.Eng
open Go.RowKit

/-- The results of a function, out of the abstract state at its end. -/
def resOf (T : Tab) (st : St) : List ResultVar → Option (Prop × List AV)
  | [] => some (True, [])
  | .tmp t :: r => match resOf T st r with
    | some (φ, l) => some ((lk st.env t).cond ∧ φ, (lk st.env t).strip :: l)
    | none => none
  | .cell t ty :: r => match pvLoad T st.heap ty (lk st.env t), resOf T st r with
    | some (ψ, x), some (φ, l) => some (ψ ∧ φ, x :: l)
    | _, _ => none
def retOf : List AV → AV
  | [x] => x
  | l => .t l
def fin (T : Tab) (res : List ResultVar) (r : AV) (st : St) : Prop :=
  match resOf T st res with
  | some (φ, l) => φ ∧ AV.pub true st.heap 4 (retOf l) = r
  | none => False
def EndsA (T : Tab) (res : List ResultVar) (r : AV) : Exit → St → Prop
  | .ret, st => fin T res r st
  | .normal, st => fin T res r st
  | _, _ => False
def argEnv (k : Nat) : List AV → List (Nat × AV)
  | [] => []
  | x :: r => (k, x) :: argEnv (k + 1) r

theorem lk_argEnv : ∀ (args : List AV) (k s : Nat), lk (argEnv k args) s = if k ≤ s then args.getD (s - k) .top else .top
  | [], k, s => by simp [argEnv, lk]
  | x :: r, k, s => by
    simp only [argEnv, lk]
    rw [lk_argEnv r (k + 1) s]
    by_cases h : k = s
    · subst h; simp
    · rw [if_neg h]
      by_cases h2 : k ≤ s
      · rw [if_pos (by omega), if_pos h2, show s - k = (s - (k + 1)) + 1 from by omega]; simp
      · rw [if_neg (by omega), if_neg h2]

theorem ti_ok {P : Program} {t : TypeId} {k : TK} {sz b : Nat} {z : Value} (h : (P.info? t).map (fun i => (i.zero, i.size, i.bytes)) = some (some z, sz, b)) (hk : k.ok P t) : TI.ok P t ⟨k, sz, b, z⟩ := by
  cases hi : P.info? t with
  | none => rw [hi] at h; cases h
  | some i => rw [hi] at h; simp at h; exact ⟨⟨i, hi, h.2.1, h.2.2, h.1⟩, hk⟩

section
variable {P : Program} {T : Tab} (hT : T.ok P) {n B : Nat} {w0 : Orig} {st : St} {a : Act} {w : World} {ρ : Nat → Option Value} {I : Nat → Prop}

include hT in
theorem results_ok (hG : Gam n B w0 st a w ρ I) : ∀ (res : List ResultVar) {φ : Prop} {l : List AV}, resOf T st res = some (φ, l) → φ →
    ∃ vs : List Value, (res.mapM (fun r => match r with | .tmp t => pure (a.tmps.getD t undef) | .cell x t => do loadVar t (← asAddr (a.tmps.getD x undef))) : Sem (List Value)).run P w = .ok vs w ∧ ConcL B I w ρ l vs
  | [], φ, l, h, hφ => by
    simp only [resOf, Option.some.injEq, Prod.mk.injEq] at h
    obtain ⟨_, rfl⟩ := h
    exact ⟨[], by simp, rfl, fun j hj => by simp at hj⟩
  | .tmp t :: r, φ, l, h, hφ => by
    simp only [resOf] at h
    split at h
    · rename_i ψ l' hr
      simp only [Option.some.injEq, Prod.mk.injEq] at h
      obtain ⟨rfl, rfl⟩ := h
      obtain ⟨vs, h1, h2⟩ := results_ok hG r hr hφ.2
      refine ⟨a.tmps.getD t undef :: vs, by simp only [List.mapM_cons, Sem.run_bind, Sem.run_pure, Result.andThen_ok, h1], by simp [h2.1], fun j hj => ?_⟩
      cases j with
      | zero => simpa using (hG.env t).strip hφ.1
      | succ j => simpa using h2.2 j (by simpa using hj)
    · cases h
  | .cell t ty :: r, φ, l, h, hφ => by
    simp only [resOf] at h
    split at h
    · rename_i ψ x φ' l' hx hr
      simp only [Option.some.injEq, Prod.mk.injEq] at h
      obtain ⟨rfl, rfl⟩ := h
      obtain ⟨vs, h1, h2⟩ := results_ok hG r hr hφ.2
      obtain ⟨v, h3, h4⟩ := pvLoad_ok hT hG.hw hx hφ.1 (hG.env t)
      have haddr : ∃ ad, a.tmps.getD t undef = .pointer (some ad) ∧ (loadVar ty ad).run P w = .ok v w := by
        generalize a.tmps.getD t undef = u at h3
        unfold Instr.loadAt at h3
        cases u with
        | pointer p =>
          cases p with
          | none => simp [Instr.sureAddr, stuck, Sem.run] at h3
          | some ad => exact ⟨ad, rfl, by simpa [Instr.sureAddr] using h3⟩
        | _ => simp [Instr.sureAddr, stuck, Sem.run] at h3
      obtain ⟨ad, h5, h6⟩ := haddr
      have h7 : (asAddr (a.tmps.getD t undef)).run P w = .ok ad w := by rw [h5]; simp [asAddr]
      refine ⟨v :: vs, by simp only [List.mapM_cons, Sem.run_bind, h7, Sem.run_pure, Result.andThen_ok, h6, h1], by simp [h2.1], fun j hj => ?_⟩
      cases j with
      | zero => simpa using h4
      | succ j => simpa using h2.2 j (by simpa using hj)
    · cases h

include hT in
theorem fin_ok {fn : Func} {res : List ResultVar} (hres : fn.results.toList = res) {r : AV} (hG : Gam n B w0 st a w ρ I) (h : fin T res r st) :
    ∃ v, (results fn a.tmps).run P w = .ok v w ∧ Conc B (fun b => w0.I b ∨ (B ≤ b ∧ b < w.heap.size)) w noId r v := by
  unfold fin at h
  split at h
  · rename_i φ l hl
    obtain ⟨hφ, rfl⟩ := h
    obtain ⟨vs, h1, h2⟩ := results_ok hT hG res hl hφ
    refine ⟨if h : vs.toArray.size = 1 then vs.toArray[0] else .tuple vs.toArray, ?_, ?_⟩
    · unfold results
      have : (fn.results.mapM fun r => match r with | .tmp t => pure (a.tmps.getD t undef) | .cell x t => do loadVar t (← asAddr (a.tmps.getD x undef)) : Sem (Array Value)).run P w = .ok vs.toArray w := by
        rw [Array.mapM_eq_mapM_toList, hres, ← bind_pure_comp]
        simp only [Sem.run_bind, h1, Result.andThen_ok, Sem.run_pure]
      simp only [Sem.run_bind, Sem.run_pure]
      exact congrArg (fun q : Result (Array Value) => q.andThen fun vs w' => Result.ok (if h : vs.size = 1 then vs[0] else Value.tuple vs) w') this
    · refine pub_ok true hG.hw (fun _ => Nat.le_refl _) (fun b hb => ?_) (fun b h3 h4 => .inr ⟨h3, h4⟩) 4 (.inl rfl) ?_
      · rcases hG.old.up b hb with h3 | h3
        · exact .inl h3
        · exact .inr ⟨h3, hG.hw.lt b hb⟩
      · match l, vs, h2 with
        | [x], [v], h2 => simpa [retOf] using h2.2 0 (by simp)
        | [], [], h2 => exact .t _ _ (by simp) (fun j hj => by simp at hj)
        | x :: y :: l, v :: u :: vs, h2 =>
          rw [dif_neg (by simp)]
          exact .t _ _ (by simpa using h2.1) (fun j hj => by have := h2.2 j hj; simpa [List.getD_eq_getElem?_getD, Array.getD_eq_getD_getElem?] using this)
        | [], _ :: _, h2 => exact absurd h2.1 (by simp)
        | [_], [], h2 => exact absurd h2.1 (by simp)
        | [_], _ :: _ :: _, h2 => exact absurd h2.1 (by simp)
        | _ :: _ :: _, [], h2 => exact absurd h2.1 (by simp)
        | _ :: _ :: _, [_], h2 => exact absurd h2.1 (by simp)
  · exact h.elim

end

/-- The blocks of the marks are shut. -/
def shut (w : World) : List Nat → World
  | [] => w
  | D :: r => shut (w.putObj D (.deferred none)) r
theorem shut_size : ∀ (Ds : List Nat) (w : World), (shut w Ds).heap.size = w.heap.size
  | [], w => rfl
  | D :: r, w => by rw [shut, shut_size r]; simp
theorem shut_ne : ∀ (Ds : List Nat) (w : World) (b : Nat), b ∉ Ds → (shut w Ds).heap[b]? = w.heap[b]?
  | [], w, b, _ => rfl
  | D :: r, w, b, h => by
    rw [shut, shut_ne r _ b (fun hh => h (by simp [hh]))]
    exact World.putObj_heap_other (fun e => h (by simp [e]))
theorem shut_below : ∀ (Ds : List Nat) (w : World) (B : Nat), (∀ D ∈ Ds, B ≤ D) → Below B w (shut w Ds)
  | [], w, B, _ => Below.refl _ _
  | D :: r, w, B, h => by
    rw [shut]
    refine Below.trans ?_ (shut_below r _ B (fun D' hD' => h D' (by simp [hD'])))
    exact ⟨rfl, rfl, rfl, by simp [World.putObj], fun k hk => World.putObj_heap_other (fun e => by have := h D (by simp); omega)⟩
theorem shut_cell {Ds : List Nat} {w : World} (hD : ∀ D ∈ Ds, w.heap[D]? = some (.deferred (some []))) {ad : Addr} {v : Value} (h : w.cell? ad = some v) : (shut w Ds).cell? ad = some v := by
  have hn : ad.block ∉ Ds := fun hm => by
    have := hD _ hm
    unfold World.cell? at h
    simp [this] at h
  rw [World.cell?_of_block (w := w) (a := ad) (shut_ne Ds w _ hn)]; exact h
theorem leaves_marks {F : Fence} {m : Nat} {P : Program} {fn : Func} {tmps : Array Value} {R : Ending → World → Prop} : ∀ (Ds : List Nat) (w : World), Ds.Nodup → (∀ D ∈ Ds, w.heap[D]? = some (.deferred (some []))) → (∃ v, (results fn tmps).run P (shut w Ds) = .ok v (shut w Ds) ∧ R (.returned v) (shut w Ds)) →
    LeavesInM F m P fn tmps R (Ds.map (fun D => { target := .collected D, args := #[] })) .returning w
  | [], w, _, _, h => h
  | D :: r, w, hn, hD, h => by
    refine ⟨by simp, .inl ⟨D, _, rfl, run_takeDeferred (hD D (by simp)), ?_⟩⟩
    refine leaves_marks r _ (List.nodup_cons.1 hn).2 (fun D' hD' => ?_) h
    rw [World.putObj_heap_other (fun e => (List.nodup_cons.1 hn).1 (by rw [← e]; exact hD'))]
    exact hD D' (by simp [hD'])

theorem Gam.shut {n B : Nat} {w0 : Orig} {st : St} {a : Act} {w : World} {ρ : Nat → Option Value} {I : Nat → Prop} (h : Gam n B w0 st a w ρ I) : ∃ Ds : List Nat, a.defers = Ds.map (fun D => { target := .collected D, args := #[] }) ++ w0.ds ∧ Ds.Nodup ∧ (∀ D ∈ Ds, w.heap[D]? = some (.deferred (some []))) ∧
    Gam n B w0 st { a with defers := w0.ds } (shut w Ds) ρ I := by
  obtain ⟨Ds, h1, h2, h3⟩ := h.defers
  have hD : ∀ D ∈ Ds, w.heap[D]? = some (.deferred (some [])) := fun D hD => (h3 D hD).2.2.2
  have hc : ∀ {ρ' : Nat → Option Value} {x : AV} {u : Value}, Conc B I w ρ' x u → Conc B I (Eng.shut w Ds) ρ' x u := fun h => h.monoC (Nat.le_refl _) (fun _ h => h) (fun ad v _ hv => shut_cell hD hv) _ (fun _ _ h => h)
  refine ⟨Ds, h1, h2, hD, Marks.nil, h.size, fun s => hc (h.env s), ⟨fun id blk hk => ?_, h.hw.apart, h.hw.imm, fun b hb => by rw [shut_size]; exact h.hw.lt b hb⟩, h.below.trans (shut_below Ds w B fun D hD' => (h3 D hD').1), by rw [shut_size]; exact h.base, ⟨h.old.up, h.old.gh, h.old.ghn, fun b hb => ⟨(h.old.keep b hb).1, by rw [shut_ne Ds w b (fun hm => (h3 b hm).2.1 hb)]; exact (h.old.keep b hb).2⟩⟩⟩
  obtain ⟨x, hx, hok⟩ := h.hw.ok id blk hk
  have hr : ∀ b, rootBlk x = some b → (Eng.shut w Ds).heap[b]? = w.heap[b]? := fun b hb => shut_ne Ds w b (fun hm => h.hw.imm id blk x b hk hx hb (h3 b hm).2.2.1)
  refine ⟨x, hx, ?_⟩
  cases blk with
  | box t c =>
    obtain ⟨b, us, rfl, hB, hh, hl, hcc⟩ := hok
    exact ⟨b, us, rfl, hB, by rw [hr b rfl]; exact hh, hl, fun j u hu => hc (hcc j u hu)⟩
  | row e sz c =>
    obtain ⟨m, xs, ho, hl, hcc⟩ := hok
    exact ⟨m, xs, ownsRow_block ho hr, hl, fun j u hu => hc (hcc j u hu)⟩
  | mp c =>
    obtain ⟨b', rfl, hB, es, clock, hh, r⟩ := hok
    exact ⟨b', rfl, hB, es, clock, by rw [hr b' rfl]; exact hh, r⟩

/-- A call, out of the walk of the callee's body. -/
theorem calls_of_awp {P : Program} {f : FuncId} {fn : Func} {c : Code} {n B : Nat} {w0 : Orig} {Q : Exit → St → Prop} {st : St} {vs : Array Value} {w : World} {R : Ending → World → Prop} (hf : P.funcs[f]? = some fn) (hb : fn.body = some c) (hrd : w0.rd = none) (hds : w0.ds = [])
    (h : AWP P n B w0 c Q st) (hG : G n B w0 st { tmps := vs ++ Array.replicate (fn.ntmps - vs.size) undef, defers := [] } w)
    (hend : ∀ e st' a' w' ρ I, Q e st' → Gam n B w0 st' a' w' ρ I → (e = .ret ∨ e = .normal) ∧ ∃ v, (results fn a'.tmps).run P w' = .ok v w' ∧ R (.returned v) w') : Calls P f vs w R := by
  have hfo : fo w0 = Fence.wide := by unfold fo; rw [hrd]; rfl
  have hw := h _ w hG
  rw [hfo] at hw
  refine (callsIn_wide (n := 0)).1 (callsIn_of_wp_marks hf hb trivial (wpIn_mono hw fun e a' w' ⟨st', h1, ρ, I, hG'⟩ => ?_) rfl)
  obtain ⟨Ds, d1, d2, d3, hG2⟩ := hG'.shut
  obtain ⟨he, v, hv, hR⟩ := hend e st' _ _ ρ I h1 hG2
  rw [hds, List.append_nil] at d1
  rcases he with rfl | rfl
  · show LeavesInM _ _ _ _ _ _ _ _ _
    rw [d1]
    exact leaves_marks Ds w' d2 d3 ⟨v, hv, hR⟩
  · show LeavesInM _ _ _ _ _ _ _ _ _
    rw [d1]
    exact leaves_marks Ds w' d2 d3 ⟨v, hv, hR⟩

section
variable {P : Program} {T : Tab} (hT : T.ok P) {n B : Nat} {w0 : Orig} {st : St} {a : Act} {w : World} {ρ : Nat → Option Value} {I : Nat → Prop}
/-- What a function starts with. -/
theorem start_env {args : List AV} {vs : Array Value} {m : Nat} {B : Nat} {I : Nat → Prop} {w : World} {ρ : Nat → Option Value} (hargs : ConcL B I w ρ args vs.toList) (s : Nat) : Conc B I w ρ (lk (argEnv 0 args) s) ((vs ++ Array.replicate m undef).getD s undef) := by
  have hsz : vs.size = args.length := by rw [← Array.length_toList, hargs.1]
  rw [lk_argEnv, if_pos (Nat.zero_le _), Nat.sub_zero]
  by_cases hs : s < args.length
  · have h2 := hargs.2 s hs
    have e : (vs ++ Array.replicate m undef).getD s undef = vs.toList.getD s undef := by
      have : s < vs.size := by omega
      rw [Array.getD_eq_getD_getElem?, Array.getElem?_append_left this]
      simp [List.getD_eq_getElem?_getD]
    rw [e]; exact h2
  · have e : args.getD s .top = .top := by simp [List.getD_eq_getElem?_getD]; rw [List.getElem?_eq_none (by omega)]; rfl
    rw [e]; exact .top _
include hT in
/-- The contract of a function that calls what it walks in place: no id is pinned. -/
theorem pure_of2 {f : FuncId} {fn : Func} {c : Code} {res : List ResultVar} {args : List AV} {r : AV} (hf : P.funcs[f]? = some fn) (hb : fn.body = some c) (hname : (fn.name == "runtime.NumGoroutine") = false) (hres : fn.results.toList = res) (hn : fn.ntmps = n) (hle : args.length ≤ n)
    (h : ∀ B w0, (∀ id, w0.gh id = none) → w0.rd = none → AWP P n B w0 c (EndsA T res r) ⟨argEnv 0 args, []⟩) : Pure P f args r := by
  refine ⟨⟨fn, hf, hname, by rw [hb]; rfl⟩, fun w I vs hI hargs => ?_⟩
  refine calls_of_awp hf hb rfl rfl (h w.heap.size ⟨w, I, fun _ => none, [], none⟩ (fun _ => rfl) rfl) ⟨noId, I, ?_⟩ fun e st' a' w' ρ I' h1 hG => ?_
  · have hsz : vs.size = args.length := by rw [← Array.length_toList, hargs.1]
    exact ⟨Marks.nil, by simp [hn]; omega, fun s => start_env hargs s, ⟨fun id blk hk => (by cases hk), fun _ _ _ _ _ _ _ _ hk => (by cases hk), fun _ _ _ _ hk => (by cases hk), hI⟩, Below.refl _ _, Nat.le_refl _, ⟨fun b hb => .inl hb, (fun _ _ h => nomatch h), fun _ _ => rfl, fun b hb => ⟨hb, rfl⟩⟩⟩
  · have key : fin T res r st' → ∃ v, (results fn a'.tmps).run P w' = .ok v w' ∧ ∃ v_1, Ending.returned v = .returned v_1 ∧ Below w.heap.size w w' ∧ Conc w.heap.size (fun b => I b ∨ (w.heap.size ≤ b ∧ b < w'.heap.size)) w' noId r v_1 := fun hfin => by
      obtain ⟨v, h2, h3⟩ := fin_ok hT hres hG hfin
      exact ⟨v, h2, v, rfl, hG.below, h3⟩
    cases e with
    | ret => exact ⟨.inl rfl, key h1⟩
    | normal => exact ⟨.inr rfl, key h1⟩
    | _ => exact h1.elim
include hT in
theorem pure_of {f : FuncId} {fn : Func} {c : Code} {res : List ResultVar} {args : List AV} {r : AV} (hf : P.funcs[f]? = some fn) (hb : fn.body = some c) (hname : (fn.name == "runtime.NumGoroutine") = false) (hres : fn.results.toList = res) (hn : fn.ntmps = n) (hle : args.length ≤ n)
    (h : ∀ B w0, AWP P n B w0 c (EndsA T res r) ⟨argEnv 0 args, []⟩) : Pure P f args r := pure_of2 hT hf hb hname hres hn hle fun B w0 _ _ => h B w0
end
end Go.Eng
