/- A loop over a function: the function is walked in place, and at each call of yield the loop's body. -/
import Derived.Test.YtflclkbkgcfliaaEngR1
import Derived.RangeFuncOwn
namespace Go.Eng
open Go.RowKit
set_option linter.unusedVariables false

theorem cell_putL {w : World} {l : Nat} {r : Loop} {o' : Obj} (hl : w.heap[l]? = some (.loop r)) {ad : Addr} {v : Value} (h : w.cell? ad = some v) : (w.putObj l o').cell? ad = some v := by
  have hn : ad.block ≠ l := fun hm => by
    unfold World.cell? at h
    rw [hm] at h
    simp [hl] at h
  rw [World.cell?_of_block (w := w) (a := ad) (World.putObj_heap_other hn)]; exact h
theorem below_putL {w : World} {B l : Nat} {o' : Obj} (hB : B ≤ l) : Below B w (w.putObj l o') :=
  ⟨rfl, rfl, rfl, by simp [World.putObj], fun k hk => World.putObj_heap_other (by omega)⟩

section
variable {n B : Nat} {w0 : Orig} {st : St} {a : Act} {w : World} {ρ : Nat → Option Value} {I : Nat → Prop}

theorem Gam.hwL (h : Gam n B w0 st a w ρ I) {l : Nat} {r : Loop} (o' : Obj) (hl : w.heap[l]? = some (.loop r)) (hI : I l) : HW B I (w.putObj l o') ρ st.heap := by
  have hc : ∀ {ρ' : Nat → Option Value} {x : AV} {u : Value}, Conc B I w ρ' x u → Conc B I (w.putObj l o') ρ' x u := fun h => h.monoC (Nat.le_refl _) (fun _ h => h) (fun ad v _ hv => cell_putL hl hv) _ (fun _ _ h => h)
  refine ⟨fun id blk hk => ?_, h.hw.apart, h.hw.imm, fun b hb => by rw [World.putObj_size]; exact h.hw.lt b hb⟩
  obtain ⟨x, hx, hok⟩ := h.hw.ok id blk hk
  have hr : ∀ b, rootBlk x = some b → (w.putObj l o').heap[b]? = w.heap[b]? := fun b hb => World.putObj_heap_other (fun e => h.hw.imm id blk x b hk hx hb (e ▸ hI))
  refine ⟨x, hx, ?_⟩
  cases blk with
  | box t c =>
    obtain ⟨b, us, rfl, hB, hh, hl, hcc⟩ := hok
    exact ⟨b, us, rfl, hB, by rw [hr b rfl]; exact hh, hl, fun j u hu => hc (hcc j u hu)⟩
  | row e sz c =>
    obtain ⟨m, xs, ho, hl, hcc⟩ := hok
    exact ⟨m, xs, ownsRow_block ho hr, hl, fun j u hu => hc (hcc j u hu)⟩
  | mp c =>
    obtain ⟨b', rfl, hB, es, clock, hh, r⟩ := hok
    exact ⟨b', rfl, hB, es, clock, by rw [hr b' rfl]; exact hh, r⟩
theorem Gam.envL (h : Gam n B w0 st a w ρ I) {l : Nat} {r : Loop} (o' : Obj) (hl : w.heap[l]? = some (.loop r)) (s : Nat) : Conc B I (w.putObj l o') ρ (lk st.env s) (a.tmps.getD s undef) :=
  (h.env s).monoC (Nat.le_refl _) (fun _ h => h) (fun ad v _ hv => cell_putL hl hv) _ (fun _ _ h => h)
/-- The base of a frame's word is laid anew. -/
theorem Gam.rebase (h : Gam n B w0 st a w ρ I) (gh : Nat → Option (Option Value)) (hgh : ∀ id x, gh id = some x → ρ id = x) (hghn : ∀ d, d < n → gh d = none) (ds : List Deferred) (rd : Option Nat) : Gam n B ⟨w, I, gh, ds, rd⟩ st { tmps := a.tmps, defers := ds } w ρ I :=
  ⟨Marks.nil, h.size, h.env, h.hw, Below.refl _ _, h.base, ⟨fun b hb => .inl hb, hgh, hghn, fun b hb => ⟨hb, rfl⟩⟩⟩
theorem Gam.rebaseL (h : Gam n B w0 st a w ρ I) {l : Nat} {r : Loop} (o' : Obj) (hl : w.heap[l]? = some (.loop r)) (hI : I l) (gh : Nat → Option (Option Value)) (hgh : ∀ id x, gh id = some x → ρ id = x) (hghn : ∀ d, d < n → gh d = none) (ds : List Deferred) (rd : Option Nat) :
    Gam n B ⟨w.putObj l o', I, gh, ds, rd⟩ st { tmps := a.tmps, defers := ds } (w.putObj l o') ρ I :=
  ⟨Marks.nil, h.size, h.envL o' hl, h.hwL o' hl hI, Below.refl _ _, by rw [World.putObj_size]; exact h.base, ⟨fun b hb => .inl hb, hgh, hghn, fun b hb => ⟨hb, rfl⟩⟩⟩
end

/-- Slots are set. -/
def setE : List Nat → List AV → List (Nat × AV) → List (Nat × AV)
  | p :: ps, x :: xs, E => setE ps xs ((p, x) :: E)
  | _, _, E => E
theorem Gam.setE {n B : Nat} {w0 : Orig} {H : List (Nat × Blk)} {w : World} {ρ : Nat → Option Value} {I : Nat → Prop} {ds : List Deferred} : ∀ (ps : List Nat) (xs : List AV) (vs : List Value) (E : List (Nat × AV)) (tmps : Array Value), (∀ p ∈ ps, p < n) → ConcL B I w ρ xs vs → ps.length = xs.length →
    Gam n B w0 ⟨E, H⟩ { tmps := tmps, defers := ds } w ρ I → Gam n B w0 ⟨Eng.setE ps xs E, H⟩ { tmps := (ps.zip vs).foldl (fun t (p : Nat × Value) => t.setIfInBounds p.1 p.2) tmps, defers := ds } w ρ I
  | [], xs, vs, E, tmps, _, _, _, h => by simpa [Eng.setE] using h
  | p :: ps, x :: xs, v :: vs, E, tmps, hp, hc, hl, h => by
    have h1 := h.put (d := some p) (fun k hk => by injection hk with hk; subst hk; exact hp _ (by simp)) (x := x) (u := v) (by simpa using hc.2 0 (by simp))
    have := Gam.setE ps xs vs ((p, x) :: E) (tmps.setIfInBounds p v) (fun q hq => hp q (by simp [hq])) ⟨by simpa using hc.1, fun j hj => by simpa using hc.2 (j + 1) (by simpa using hj)⟩ (by simpa using hl) h1
    simpa [Eng.setE] using this
  | p :: ps, [], vs, E, tmps, _, _, hl, h => by simp at hl
  | p :: ps, x :: xs, [], E, tmps, _, hc, _, h => by have := hc.1; simp at this

/-- How the body of a loop over a function ends: it goes on. -/
def EndsB (N : Nat) (R : List (Nat × Blk) → Prop) : Exit → St → Prop
  | .normal, st => geH N (keepH N st.heap) ∧ R (keepH N st.heap)
  | _, _ => False
def EndsRf (N : Nat) (R : List (Nat × Blk) → Prop) : Exit → St → Prop
  | .normal, st => geH N (keepH N st.heap) ∧ R (keepH N st.heap)
  | .ret, st => geH N (keepH N st.heap) ∧ R (keepH N st.heap)
  | _, _ => False
def allGe (N : Nat) : List AV → Prop
  | [] => True
  | x :: r => x.ge N ∧ allGe N r
theorem allGe_getD {N : Nat} : ∀ {cs : List AV} (_ : allGe N cs) (j : Nat), (cs.getD j .top).ge N
  | [], _, _ => by simp [AV.ge]
  | x :: r, h, 0 => by simpa using h.1
  | x :: r, h, j + 1 => by simpa using allGe_getD h.2 j
/-- yield's law, within the walk of the function that is ranged over. -/
def YRule (P : Program) (n ng N M B l : Nat) (wg : Orig) (ps : List Nat) (assign body : Code) (env0 : List (Nat × AV)) : Prop :=
  ∀ (M' : Nat), M ≤ M' → ∀ (ops : Array Oper) (K : St → Prop) (o : Oper) (rest : List Oper) (env : List (Nat × AV)) (H : List (Nat × Blk)) (y : Operand) (as : Array Operand) (ats : Array TypeId) (g : Option (Nat × Bool)),
    o.op = .call ⟨.value y, as, ats⟩ → gOf ops o.guard = some g → (guardS ⟨env, H⟩ g = some none ∨ guardS ⟨env, H⟩ g = some (some true)) → dstOk ng o.dst → ((St.mk env H).ev y).cond ∧ ((St.mk env H).ev y).strip = .v (.func (.yield l) #[] #[]) → as.size = ps.length →
    condL (as.toList.map (St.mk env H).ev) → allGe N (stripL (as.toList.map (St.mk env H).ev)) → idsE (· < M') env → geH N (keepH N H) →
    (∀ wb, (∀ id, (id < N ∨ M' ≤ id) → wb.gh id = none) → AWP P n B wb assign (Ex.then (fun s => ∀ wb2, (∀ id, (id < N ∨ M' ≤ id) → wb2.gh id = none) → AWP P n B wb2 body (EndsB N fun H2 => AOpsS P ng B wg ops K rest (St.put ⟨env, H2⟩ o.dst (BL true))) s) (fun _ _ => False))
      ⟨setE ps (stripL (as.toList.map (St.mk env H).ev)) env0, keepH N H⟩) →
    AOpsS P ng B wg ops K (o :: rest) ⟨env, H⟩

theorem awp_rf {P : Program} {n B : Nat} {w0 : Orig} {st : St} {Q : Exit → St → Prop} {g : Operand} {ps : Array Tmp} {assign body : Code} (N M : Nat) {gf : FuncId} {caps : List AV} {fn : Func} {cg : Code} {ng : Nat} (hrd : w0.rd = none) (hev : st.ev g = .f (.func gf) caps)
    (hf : P.funcs[gf]? = some fn) (hb : fn.body = some cg) (hname : (fn.name == "runtime.NumGoroutine") = false) (hres : fn.results = #[]) (hng : fn.ntmps = ng) (hle : caps.length + 1 ≤ ng) (hnN : n ≤ N) (hgN : ng ≤ N) (hcl : condL caps) (hps : ∀ p ∈ ps.toList, p < n)
    (hids : idsE (· < M) st.env) (hfree : ∀ id, M ≤ id → w0.gh id = none)
    (h : ∀ (l : Nat) (wg : Orig), (∀ id, M ≤ id → wg.gh id = none) → YRule P n ng N M B l wg ps.toList assign body st.env → AWP P ng B wg cg (EndsRf N fun H => Q .normal ⟨st.env, H⟩) ⟨argEnv 0 (stripL (.v (.func (.yield l) #[] #[]) :: caps)), st.heap⟩) :
    AWP P n B w0 (.rangeFunc g ps assign body) Q st := by
  rintro a w ⟨ρ0, I0, hG0⟩
  have hfo : fo w0 = Fence.wide := by unfold fo; rw [hrd]; rfl
  rw [hfo]
  refine wpIn_rangeFunc fun fid _ => ?_
  have hgv := hG0.ev g
  rw [hev] at hgv
  generalize hgu : a.eval g = gu at hgv
  cases hgv with
  | f _ _ us hul hus =>
  subst hng
  obtain ⟨rec0, hrec⟩ : ∃ rec0 : LoopState → Loop, rec0 = fun s => { state := s, pending := none, fn := fid, tmps := a.tmps, params := ps, assign, body, defers := w.heap.size } := ⟨_, rfl⟩
  obtain ⟨W1, hW1⟩ : ∃ W1, (w.alloc (.deferred (some []))).alloc (.loop (rec0 .ready)) = W1 := ⟨_, rfl⟩
  obtain ⟨l, hl⟩ : ∃ l, l = w.heap.size + 1 := ⟨_, rfl⟩
  have hL1 : W1.heap[l]? = some (.loop (rec0 .ready)) := by
    rw [← hW1, hl]; have := World.alloc_heap_new (w.alloc (.deferred (some []))) (.loop (rec0 .ready)); rwa [World.size_alloc] at this
  have hD1 : W1.heap[w.heap.size]? = some (.deferred (some [])) := by
    rw [← hW1]; exact (Below.heap_alloc _ _ _ (by simp)).trans (World.alloc_heap_new w _)
  have hsz1 : W1.heap.size = w.heap.size + 2 := by rw [← hW1]; simp
  have hbel1 : Below w.heap.size w W1 := by rw [← hW1]; exact ((Below.refl _ w).alloc (Nat.le_refl _) _).alloc (by simp) _
  have hq : Quiet I0 w (fun b => I0 b ∨ b = w.heap.size ∨ b = l) W1 := ⟨hbel1, fun b hb => .inl hb, fun b hb hn => by rcases hb with hb | rfl | rfl; exact absurd hb hn; exact Nat.le_refl _; omega, fun b hb => by
    rcases hb with hb | rfl | rfl
    · have := hG0.hw.lt b hb; omega
    · omega
    · omega⟩
  have hG1 := hG0.quiet hq
  have hBl : B ≤ l := by have := hG0.base; omega
  refine ⟨l, [{ target := .collected w.heap.size, args := #[] }], W1, { target := .fn (.func gf) us, args := #[.func (.yield l) #[] #[]] }, W1, gf, #[.func (.yield l) #[] #[]] ++ us, W1, ?_, ?_, fun _ _ => trivial, ?_, (fun hd => by cases hd), ?_⟩
  · rw [← hW1, hrec, hl]; exact run_enterLoop_outer _ _ _ _ _
  · show (resolve a.eval (rangeCall g l) 0).run P W1 = _
    simp only [resolve, hgu]
    simp [Deferred.ofValue, Act.eval]
  · have h1 : fn.name ≠ "runtime.NumGoroutine" := by simpa using hname
    simp [invoke, callFunc, hf, h1, hb]
  -- the function that is ranged over
  have hvs : ConcL B (fun b => I0 b ∨ b = w.heap.size ∨ b = l) W1 ρ0 (.v (.func (.yield l) #[] #[]) :: caps) (#[Value.func (.yield l) #[] #[]] ++ us).toList := by
    have : (#[Value.func (.yield l) #[] #[]] ++ us).toList = Value.func (.yield l) #[] #[] :: us.toList := by simp
    rw [this]
    refine ConcL.cons (.v _) ⟨by simpa using hul, fun j hj => ?_⟩
    have := (hus j hj).quiet hq hG0.hw.lt
    simpa [List.getD_eq_getElem?_getD, Array.getD_eq_getD_getElem?] using this
  have hstart := start_in (n' := fn.ntmps) (N := N) (M := M) hG1 hvs ⟨trivial, hcl⟩ (by simpa using hle) hgN
  generalize hwg : (⟨W1, fun b => I0 b ∨ b = w.heap.size ∨ b = l, fun id => if N ≤ id ∧ id < M then some (ρ0 id) else none, [], none⟩ : Orig) = wg at hstart
  have hgfree : ∀ id, M ≤ id → wg.gh id = none := fun id hid => by rw [← hwg]; exact if_neg (by omega)
  have hgpin : ∀ id, N ≤ id → id < M → wg.gh id = some (ρ0 id) := fun id h1 h2 => by rw [← hwg]; exact if_pos ⟨h1, h2⟩
  have hgI : wg.I = fun b => I0 b ∨ b = w.heap.size ∨ b = l := by rw [← hwg]
  have hgw : wg.w = W1 := by rw [← hwg]
  -- the caller, whatever the function has done so far
  have back : ∀ (st' : St) (a' : Act) (W : World) (ρg : Nat → Option Value) (Ig : Nat → Prop), Gam fn.ntmps B wg st' a' W ρg Ig → geH N (keepH N st'.heap) → Gam n B w0 ⟨st.env, keepH N st'.heap⟩ a W (fun id => if id < N then ρ0 id else ρg id) Ig := fun st' a' W ρg Ig hGg hge =>
    resume hids hG1 hGg (fun id h1 h2 => hGg.old.gh id _ (hgpin id h1 h2)) hfree (fun b hb => by have := hGg.old.keep b (by rw [hgI]; exact hb); rwa [hgw] at this) (fun b hb => by have := hGg.old.up b hb; rwa [hgI] at this) (by have := hGg.below; rwa [hgw] at this) hge
  have recAt : ∀ {st' : St} {a' : Act} {W : World} {ρg : Nat → Option Value} {Ig : Nat → Prop}, Gam fn.ntmps B wg st' a' W ρg Ig → Ig l ∧ W.heap[l]? = some (.loop (rec0 .ready)) ∧ Ig w.heap.size ∧ W.heap[w.heap.size]? = some (.deferred (some [])) := fun hGg => by
    have k1 := hGg.old.keep l (by rw [hgI]; exact .inr (.inr rfl))
    have k2 := hGg.old.keep w.heap.size (by rw [hgI]; exact .inr (.inl rfl))
    rw [hgw] at k1 k2
    exact ⟨k1.1, k1.2.trans hL1, k2.1, k2.2.trans hD1⟩
  have hY : YRule P n fn.ntmps N M B l wg ps.toList assign body st.env := by
    intro M' hMM ops K o rest env H y as ats g0 hop hgo hgs hd hy hsz hcond hge0 hidg hgeH hA
    intro ag W ρg Ig hGg next QQ hnx
    obtain ⟨hIl, hWl, _, _⟩ := recAt hGg
    have hwant : Region.wanted o (yielded ops ag.tmps) = true := by
      rcases hgs with hgs | hgs
      · have := guard_ok hGg (ops := ops) (o := o) (g := none) (by rw [guardS_eq hgo]; exact hgs)
        simpa using this
      · have := guard_ok hGg (ops := ops) (o := o) (g := some true) (by rw [guardS_eq hgo]; exact hgs)
        simpa using this
    rw [hwant]
    have hyv := (hGg.ev y).strip hy.1
    rw [hy.2] at hyv
    have hyv := hyv.v_inv
    have hargs : ConcL B Ig W ρg (stripL (as.toList.map (St.mk env H).ev)) (as.map ag.eval).toList := by
      refine ⟨by simp [stripL_length], fun j hj => ?_⟩
      rw [stripL_length, List.length_map] at hj
      rw [stripL_getD _ _ (by simpa using hj)]
      have hj' : j < as.size := by simpa using hj
      have e1 : (as.toList.map (St.mk env H).ev).getD j .top = (St.mk env H).ev as[j] := by simp [List.getD_eq_getElem?_getD, hj']
      have e2 : (as.map ag.eval).toList.getD j undef = ag.eval as[j] := by simp [List.getD_eq_getElem?_getD, hj']
      have hcj := condL_getD hcond j
      rw [e1] at hcj ⊢
      rw [e2]
      exact (hGg.ev as[j]).strip hcj
    have hrun : (execOp ag.eval o).run P W = .ok (.round l fid ((ps.zip (as.map ag.eval)).foldl (fun tmps (t, a) => tmps.setIfInBounds t a) a.tmps) assign body) W := by
      have hyl := run_yield (P := P) (args := as.map ag.eval) hWl (by rw [hrec]; simpa using hsz)
      rw [hrec] at hyl
      simp only [execOp, hop, resolve, hyv, Deferred.ofValue, Sem.run_bind, Sem.run_pure, Result.andThen_ok, invoke, Array.empty_append]
      exact hyl
    refine ⟨fun _ _ => trivial, ?_⟩
    rw [Oper.semAt_eq _ _ _ (fun c hc => by rw [hop] at hc; cases hc), hrun, Oper.uponIn_round]
    refine ⟨(fun hd => by cases hd), roundIn_of_wpIn trivial ?_⟩
    -- the loop's body starts
    have hb0 := back ⟨env, H⟩ ag W ρg Ig hGg hgeH
    obtain ⟨pin, hpin⟩ : ∃ pin : Nat → Option (Option Value), pin = fun id => if N ≤ id ∧ id < M' then some (ρg id) else none := ⟨_, rfl⟩
    have pin1 : ∀ id x, pin id = some x → N ≤ id ∧ id < M' ∧ x = ρg id := fun id x hx => by
      rw [hpin] at hx
      simp only at hx
      split at hx
      · rename_i hh; injection hx with hx; exact ⟨hh.1, hh.2, hx.symm⟩
      · cases hx
    have pin2 : ∀ id, N ≤ id → id < M' → pin id = some (ρg id) := fun id h1 h2 => by rw [hpin]; exact if_pos ⟨h1, h2⟩
    have pin3 : ∀ id, (id < N ∨ M' ≤ id) → pin id = none := fun id hid => by rw [hpin]; exact if_neg (by omega)
    have hb1 := hb0.rebase pin (fun id x hx => by obtain ⟨h1, _, h3⟩ := pin1 id x hx; rw [h3]; exact if_neg (by omega)) (fun d hd => pin3 d (.inl (by omega))) [] (some l)
    have hargs' : ConcL B Ig W (fun id => if id < N then ρ0 id else ρg id) (stripL (as.toList.map (St.mk env H).ev)) (as.map ag.eval).toList := ⟨hargs.1, fun j hj => (hargs.2 j hj).ge (allGe_getD hge0 j) _ (fun id hid => if_neg (by omega))⟩
    have hb2 := Gam.setE ps.toList _ _ st.env a.tmps hps hargs' (by rw [stripL_length]; simpa using hsz.symm) hb1
    have hfold : ((ps.zip (as.map ag.eval)).foldl (fun tmps (t, a) => tmps.setIfInBounds t a) a.tmps) = (ps.toList.zip (as.map ag.eval).toList).foldl (fun t (p : Nat × Value) => t.setIfInBounds p.1 p.2) a.tmps := by
      rw [← Array.foldl_toList, Array.toList_zip]
    rw [hfold]
    refine wpIn_mono (hA ⟨W, Ig, pin, [], some l⟩ pin3 _ W ⟨_, _, hb2⟩) fun e a1 Wa hq1 => ?_
    obtain ⟨s1, hq1, ρ1, I1, hGa⟩ := hq1
    cases e with
    | normal =>
      have ka := hGa.old.keep l hIl
      have hWal : Wa.heap[l]? = some (.loop (rec0 .ready)) := ka.2.trans hWl
      refine ⟨_, run_beginRound hWal (by rw [hrec]), ?_⟩
      have hGb := hGa.rebaseL (.loop { rec0 .ready with state := .busy }) hWal ka.1 pin (fun id x hx => by obtain ⟨h1, h2, h3⟩ := pin1 id x hx; rw [h3]; exact hGa.old.gh id _ (pin2 id h1 h2)) (fun d hd => pin3 d (.inl (by omega))) a1.defers (some l)
      have hWbl : (Wa.putObj l (.loop { rec0 .ready with state := .busy })).heap[l]? = some (.loop { rec0 .ready with state := .busy }) := World.putObj_heap_same (Array.getElem?_eq_some_iff.1 hWal).1
      refine wpIn_mono (hq1 ⟨_, I1, pin, a1.defers, some l⟩ pin3 a1 _ ⟨ρ1, I1, hGb⟩) fun e a3 W3 hq3 => ?_
      obtain ⟨s3, hq3, ρ3, I3, hG3⟩ := hq3
      cases e with
      | normal =>
        obtain ⟨hge3, hK3⟩ := hq3
        have k3 := hG3.old.keep l ka.1
        have hW3l : W3.heap[l]? = some (.loop { rec0 .ready with state := .busy }) := k3.2.trans hWbl
        have hend := run_endRound (P := P) none hW3l
        have hrecE : (({ ({ rec0 .ready with state := .busy } : Loop) with state := if (none : Option Code).isNone then .ready else .done, pending := none } : Loop)) = rec0 .ready := by rw [hrec]; rfl
        rw [hrecE] at hend
        refine ⟨_, _, hend, ?_⟩
        have hG4 := hG3.rebaseL (.loop (rec0 .ready)) hW3l k3.1 (fun _ => none) (fun id x hx => by cases hx) (fun _ _ => rfl) [] none
        have hW4l : (W3.putObj l (.loop (rec0 .ready))).heap[l]? = some (.loop (rec0 .ready)) := World.putObj_heap_same (Array.getElem?_eq_some_iff.1 hW3l).1
        have hkeep : ∀ b, Ig b → I3 b ∧ (W3.putObj l (.loop (rec0 .ready))).heap[b]? = W.heap[b]? := fun b hb => by
          have g1 := hGa.old.keep b hb
          have g2 := hG3.old.keep b g1.1
          refine ⟨g2.1, ?_⟩
          by_cases e : b = l
          · subst e; rw [hW4l, hWl]
          · rw [World.putObj_heap_other e, g2.2]
            show (Wa.putObj l _).heap[b]? = _
            rw [World.putObj_heap_other e]; exact g1.2
        have hup : ∀ b, I3 b → Ig b ∨ B ≤ b := fun b hb => by
          rcases hG3.old.up b hb with h1 | h1
          · exact hGa.old.up b h1
          · exact .inr h1
        have hbel : Below B W (W3.putObj l (.loop (rec0 .ready))) := hGa.below.trans ((below_putL hBl).trans (hG3.below.trans (below_putL hBl)))
        have hfin := resume (N := N) (M := M') hidg hGg hG4 (fun id h1 h2 => hG3.old.gh id _ (pin2 id h1 h2)) (fun id hid => hgfree id (Nat.le_trans hMM hid)) hkeep hup hbel hge3
        exact hnx _ _ _ hK3 ⟨_, I3, hfin.put (d := o.dst) (fun k hk => by rw [hk] at hd; exact hd) (.v _)⟩
      | exit id => exact hq3.elim
      | goto t => exact hq3.elim
      | ret => exact hq3.elim
      | panic c => exact hq3.elim
      | outgrown => exact hq3.elim
    | exit id => exact hq1.elim
    | goto t => exact hq1.elim
    | ret => exact hq1.elim
    | panic c => exact hq1.elim
    | outgrown => exact hq1.elim
  refine callsIn_wide.2 (calls_of_awp (w0 := wg) hf hb (by rw [← hwg]) (by rw [← hwg]) (h l wg hgfree hY) ⟨ρ0, _, hstart⟩ fun e st' a' W' ρg Ig h1 hGg => ?_)
  have key : (geH N (keepH N st'.heap) ∧ Q .normal ⟨st.env, keepH N st'.heap⟩) → ∃ v, (results fn a'.tmps).run P W' = .ok v W' ∧ rangePost Fence.wide 0 P l (fun e a' w' => ∃ st', Q e st' ∧ G n B w0 st' a' w') { a with defers := [{ target := .collected w.heap.size, args := #[] }] ++ a.defers } (.returned v) W' := fun hh => by
    obtain ⟨hge, hQ⟩ := hh
    obtain ⟨hIl, hWl, hID, hWD⟩ := recAt hGg
    have hbk := back st' a' W' ρg Ig hGg hge
    have hel := run_endLoop (P := P) hWl (by rw [hrec]; simp)
    rw [show (rec0 .ready).pending = none by rw [hrec]] at hel
    refine ⟨.tuple #[], by simp [results, hres], none, _, hel, ?_⟩
    · refine ⟨_, hQ, fun id => if id < N then ρ0 id else ρg id, Ig, ?_⟩
      obtain ⟨Ds, d1, d2, d3⟩ := hG0.defers
      have hnI : ∀ b, w.heap.size ≤ b → ¬ w0.I b := fun b hb hI => by have := hG0.hw.lt b (hG0.old.keep b hI).1; omega
      refine ⟨⟨w.heap.size :: Ds, by simp [d1], List.nodup_cons.2 ⟨fun hm => by have := hG0.hw.lt _ (d3 _ hm).2.2.1; omega, d2⟩, fun D hD => ?_⟩, hbk.size, hbk.envL _ hWl, hbk.hwL _ hWl hIl, hbk.below.trans (below_putL hBl), by rw [World.putObj_size]; exact hbk.base, ⟨hbk.old.up, hbk.old.gh, hbk.old.ghn, fun b hb => ⟨(hbk.old.keep b hb).1, ?_⟩⟩⟩
      · rcases List.mem_cons.1 hD with rfl | hD
        · exact ⟨hG0.base, hnI _ (Nat.le_refl _), hID, by rw [World.putObj_heap_other (by omega)]; exact hWD⟩
        · obtain ⟨e1, e2, e3, e4⟩ := d3 D hD
          have hlt := hG0.hw.lt D e3
          have k := hGg.old.keep D (by rw [hgI]; exact .inl e3)
          rw [hgw] at k
          exact ⟨e1, e2, k.1, by rw [World.putObj_heap_other (by omega), k.2, hbel1.block D hlt]; exact e4⟩
      · rw [World.putObj_heap_other (show b ≠ l from fun e => hnI l (by omega) (by rw [← e]; exact hb))]; exact (hbk.old.keep b hb).2
  cases e with
  | ret => exact ⟨.inl rfl, key h1⟩
  | normal => exact ⟨.inr rfl, key h1⟩
  | _ => exact h1.elim

attribute [push_cast] setE EndsB EndsRf allGe
end Go.Eng
