/- Callees that write what they were handed: walked in place, over the caller's own blocks. -/
import Derived.Test.YtgcomonjkcpkaaaQngX
namespace Go.Eng
open Go.RowKit

mutual
/-- All ids are N or more. -/
def AV.ge (N : Nat) : AV → Prop
  | .v _ => True
  | .s id => N ≤ id
  | .w id _ _ => N ≤ id
  | .p id _ => N ≤ id
  | .i _ _ _ _ _ => True
  | .q _ _ _ _ _ => True
  | .a cs => AV.geL N cs
  | .t cs => AV.geL N cs
  | .f _ cs => AV.geL N cs
  | .g _ x => AV.ge N x
  | .top => True
def AV.geL (N : Nat) : List AV → Prop
  | [] => True
  | x :: r => AV.ge N x ∧ AV.geL N r
end
theorem geL_getD {N : Nat} : ∀ {cs : List AV} (_ : AV.geL N cs) (j : Nat), (cs.getD j .top).ge N
  | [], _, _ => by simp [AV.ge]
  | x :: r, h, 0 => by simp only [AV.geL] at h; simpa using h.1
  | x :: r, h, j + 1 => by simp only [AV.geL] at h; simpa using geL_getD h.2 j
theorem Conc.ge {N B : Nat} {I : Nat → Prop} {w : World} {ρ : Nat → Option Value} {x : AV} {u : Value} (h : Conc B I w ρ x u) : x.ge N → ∀ ρ', (∀ id, N ≤ id → ρ' id = ρ id) → Conc B I w ρ' x u := by
  induction h with
  | v x => intro _ ρ' _; exact .v x
  | s id x h h1 => intro hg ρ' hr; exact .s id x (by rw [hr id hg]; exact h) h1
  | w id off len cap A x h hcap hA => intro hg ρ' hr; exact .w id off len cap A x (by rw [hr id hg]; exact h) hcap hA
  | p id off b x h hb => intro hg ρ' hr; exact .p id off b x (by rw [hr id hg]; exact h) hb
  | i fr c sz off len cap A u hcap hA hc ih => intro _ ρ' _; exact .i fr c sz off len cap A u hcap hA hc
  | q fr c sz e f ad u h2 h3 hcell hc ih => intro _ ρ' _; exact .q fr c sz e f ad u h2 h3 hcell hc
  | a cs us hl h ih => intro hg ρ' hr; exact .a cs us hl fun j hj => ih j hj (geL_getD (by simpa only [AV.ge] using hg) j) ρ' hr
  | t cs us hl h ih => intro hg ρ' hr; exact .t cs us hl fun j hj => ih j hj (geL_getD (by simpa only [AV.ge] using hg) j) ρ' hr
  | f fn cs us hl h ih => intro hg ρ' hr; exact .f fn cs us hl fun j hj => ih j hj (geL_getD (by simpa only [AV.ge] using hg) j) ρ' hr
  | g b x u h h0 ih => intro hg ρ' hr; exact .g b x u (fun hb => ih hb (by simpa only [AV.ge] using hg) ρ' hr) h0
  | top u => intro _ ρ' _; exact .top u

mutual
theorem nor_kill (d : Nat) : ∀ (x : AV), x.nor = true → x.kill d = x
  | .v _, _ => by rw [AV.kill]
  | .s _, h => by simp [AV.nor] at h
  | .w _ _ _, h => by simp [AV.nor] at h
  | .p _ _, h => by simp [AV.nor] at h
  | .i _ _ _ _ _, _ => by rw [AV.kill]
  | .q _ _ _ _ _, _ => by rw [AV.kill]
  | .a cs, h => by rw [AV.kill, norL_kill d cs (by simpa [AV.nor] using h)]
  | .t cs, h => by rw [AV.kill, norL_kill d cs (by simpa [AV.nor] using h)]
  | .f _ cs, h => by rw [AV.kill, norL_kill d cs (by simpa [AV.nor] using h)]
  | .g _ x, h => by rw [AV.kill, nor_kill d x (by simpa [AV.nor] using h)]
  | .top, _ => by rw [AV.kill]
theorem norL_kill (d : Nat) : ∀ (l : List AV), AV.norL l = true → AV.killL d l = l
  | [], _ => rfl
  | x :: r, h => by
    simp only [AV.norL, Bool.and_eq_true] at h
    rw [AV.killL, nor_kill d x h.1, norL_kill d r h.2]
end
mutual
theorem nor_ge (N : Nat) : ∀ (x : AV), x.nor = true → x.ge N
  | .v _, _ => by simp [AV.ge]
  | .s _, h => by simp [AV.nor] at h
  | .w _ _ _, h => by simp [AV.nor] at h
  | .p _ _, h => by simp [AV.nor] at h
  | .i _ _ _ _ _, _ => by simp [AV.ge]
  | .q _ _ _ _ _, _ => by simp [AV.ge]
  | .a cs, h => by rw [AV.ge]; exact norL_ge N cs (by simpa [AV.nor] using h)
  | .t cs, h => by rw [AV.ge]; exact norL_ge N cs (by simpa [AV.nor] using h)
  | .f _ cs, h => by rw [AV.ge]; exact norL_ge N cs (by simpa [AV.nor] using h)
  | .g _ x, h => by rw [AV.ge]; exact nor_ge N x (by simpa [AV.nor] using h)
  | .top, _ => by simp [AV.ge]
theorem norL_ge (N : Nat) : ∀ (l : List AV), AV.norL l = true → AV.geL N l
  | [], _ => trivial
  | x :: r, h => by
    simp only [AV.norL, Bool.and_eq_true] at h
    exact ⟨nor_ge N x h.1, norL_ge N r h.2⟩
end
theorem norL_set (v : Value) : ∀ (L : List AV) (j : Nat), AV.norL L = true → AV.norL (L.set j (.v v)) = true
  | [], j, _ => rfl
  | x :: r, 0, h => by
    simp only [AV.norL, Bool.and_eq_true] at h
    simp only [List.set_cons_zero, AV.norL, AV.nor, Bool.true_and]; exact h.2
  | x :: r, j + 1, h => by
    simp only [AV.norL, Bool.and_eq_true] at h
    simp only [List.set_cons_succ, AV.norL, Bool.and_eq_true]; exact ⟨h.1, norL_set v r j h.2⟩
def Cont.ge (N : Nat) : Cont → Prop
  | .avs l => AV.geL N l
  | _ => True
theorem Cont.ge_at {N : Nat} {c : Cont} (h : c.ge N) (j : Nat) : (c.at j).ge N := by
  cases c with
  | ints k l => trivial
  | vals l => trivial
  | avs l => exact geL_getD h j
def Blk.ge (N : Nat) : Blk → Prop
  | .box _ c => c.ge N
  | .row _ _ _ => True
  | .nst _ c => c.ge N
def keepH (N : Nat) : List (Nat × Blk) → List (Nat × Blk)
  | [] => []
  | (k, b) :: r => if N ≤ k then (k, b) :: keepH N r else keepH N r
def geH (N : Nat) : List (Nat × Blk) → Prop
  | [] => True
  | (_, b) :: r => b.ge N ∧ geH N r
theorem keepH_lk {N : Nat} : ∀ {H : List (Nat × Blk)} {id : Nat} {b : Blk}, lkH (keepH N H) id = some b → N ≤ id ∧ lkH H id = some b
  | [], _, _, h => by cases h
  | (k, c) :: r, id, b, h => by
    unfold keepH at h
    by_cases hk : N ≤ k
    · rw [if_pos hk] at h
      simp only [lkH] at h ⊢
      split at h
      · rename_i e; subst e; rw [if_pos rfl]; exact ⟨hk, h⟩
      · rename_i e; rw [if_neg e]; exact keepH_lk h
    · rw [if_neg hk] at h
      obtain ⟨h1, h2⟩ := keepH_lk h
      refine ⟨h1, ?_⟩
      simp only [lkH]
      rw [if_neg (by omega)]; exact h2
theorem geH_lk {N : Nat} : ∀ {H : List (Nat × Blk)} {id : Nat} {b : Blk}, geH N H → lkH H id = some b → b.ge N
  | [], _, _, _, h => by cases h
  | (k, c) :: r, id, b, hg, h => by
    simp only [lkH] at h
    split at h
    · injection h with h; subst h; exact hg.1
    · exact geH_lk hg.2 h

/-- The end of a callee that is walked in place. -/
def finE (T : Tab) (N : Nat) (res : List ResultVar) (R : AV → List (Nat × Blk) → Prop) (st : St) : Prop :=
  match resOf T st res with
  | some (φ, l) => φ ∧ (retOf l).ge N ∧ geH N (keepH N st.heap) ∧ R (retOf l) (keepH N st.heap)
  | none => False
def EndsE (T : Tab) (N : Nat) (res : List ResultVar) (R : AV → List (Nat × Blk) → Prop) : Exit → St → Prop
  | .ret, st => finE T N res R st
  | .normal, st => finE T N res R st
  | _, _ => False
def stripL : List AV → List AV
  | [] => []
  | x :: r => x.strip :: stripL r
theorem stripL_length : ∀ cs, (stripL cs).length = cs.length
  | [] => rfl
  | x :: r => by simp [stripL, stripL_length r]
theorem stripL_getD : ∀ (cs : List AV) (j : Nat), j < cs.length → (stripL cs).getD j .top = (cs.getD j .top).strip
  | [], j, h => by simp at h
  | x :: r, 0, h => by simp [stripL]
  | x :: r, j + 1, h => by simpa [stripL] using stripL_getD r j (by simpa using h)

/-- A call whose body is walked in place. -/
def EffCall (P : Program) (T : Tab) (dst : Option Nat) (op : Op) (K : St → Prop) (st : St) : Prop :=
  match callee? st.ev op with
  | some (ψ, k, args) => (ψ ∧ condL args) ∧ ∃ (fn : Func) (c : Code) (N : Nat), P.funcs[k]? = some fn ∧ fn.body = some c ∧ (fn.name == "runtime.NumGoroutine") = false ∧ args.length ≤ fn.ntmps ∧ fn.ntmps ≤ N ∧
      ∀ B w0, AWP P fn.ntmps B w0 c (EndsE T N fn.results.toList fun r H => K (St.put ⟨st.env, H⟩ dst r)) ⟨argEnv 0 (stripL args), st.heap⟩
  | none => False

theorem res_ok {P : Program} {T : Tab} (hT : T.ok P) {n B : Nat} {w0 : Orig} {st : St} {a : Act} {w : World} {ρ : Nat → Option Value} {I : Nat → Prop} {fn : Func} (hG : Gam n B w0 st a w ρ I) {φ : Prop} {l : List AV} (hl : resOf T st fn.results.toList = some (φ, l)) (hφ : φ) :
    ∃ v, (results fn a.tmps).run P w = .ok v w ∧ Conc B I w ρ (retOf l) v := by
  obtain ⟨vs, h1, h2⟩ := results_ok hT hG fn.results.toList hl hφ
  refine ⟨if h : vs.toArray.size = 1 then vs.toArray[0] else .tuple vs.toArray, ?_, ?_⟩
  · unfold results
    have : (fn.results.mapM fun r => match r with | .tmp t => pure (a.tmps.getD t undef) | .cell x t => do loadVar t (← asAddr (a.tmps.getD x undef)) : Sem (Array Value)).run P w = .ok vs.toArray w := by
      rw [Array.mapM_eq_mapM_toList, ← bind_pure_comp]
      simp only [Sem.run_bind, Sem.run_pure]
      exact congrArg (fun q : Result (List Value) => q.andThen fun a w' => Result.ok a.toArray w') h1
    simp only [Sem.run_bind, Sem.run_pure]
    exact congrArg (fun q : Result (Array Value) => q.andThen fun vs w' => Result.ok (if h : vs.size = 1 then vs[0] else Value.tuple vs) w') this
  · match l, vs, h2 with
    | [x], [v], h2 => simpa [retOf] using h2.2 0 (by simp)
    | [], [], h2 => exact .t _ _ (by simp) (fun j hj => by simp at hj)
    | x :: y :: l, v :: u :: vs, h2 =>
      rw [dif_neg (by simp)]
      exact .t _ _ (by simpa using h2.1) (fun j hj => by have := h2.2 j hj; simpa [List.getD_eq_getElem?_getD, Array.getD_eq_getD_getElem?] using this)
    | [], _ :: _, h2 => exact absurd h2.1 (by simp)
    | [_], [], h2 => exact absurd h2.1 (by simp)
    | [_], _ :: _ :: _, h2 => exact absurd h2.1 (by simp)
    | _ :: _ :: _, [], h2 => exact absurd h2.1 (by simp)
    | _ :: _ :: _, [_], h2 => exact absurd h2.1 (by simp)

theorem eff_ok {P : Program} {T : Tab} (hT : T.ok P) {n B : Nat} {w0 : Orig} {st : St} {a : Act} {w : World} {ρ : Nat → Option Value} {I : Nat → Prop} (hG : Gam n B w0 st a w ρ I) {o : Oper} (hd : dstOk n o.dst) {K : St → Prop} (h : EffCall P T o.dst o.op K st) : StepOk P n B w0 o a w K := by
  intro next Q hn
  unfold EffCall at h
  split at h
  · rename_i ψ k args hcal
    obtain ⟨⟨hψ, hcond⟩, fn, c, N, hf, hb, hname, hle, hnN, hA⟩ := h
    obtain ⟨vs, hrun, hvs⟩ := callee_run (fun x => hG.ev x) hcal hψ hf hname (by rw [hb]; rfl)
    unfold Oper.wp
    rw [hrun, Oper.upon_enter]
    refine calls_of_wp hf hb (wp_mono (hA B ⟨w, I, fun id => if N ≤ id then some (ρ id) else none⟩ _ w ⟨ρ, I, ?_⟩) fun e a' w' ⟨st', h1, ρ', I', hG'⟩ => ?_)
    · have hsz : vs.size = args.length := by rw [← Array.length_toList, hvs.1]
      refine ⟨rfl, by simp; omega, fun s => ?_, hG.hw, Below.refl _ _, hG.base, ⟨fun b hb => .inl hb, fun id x hx => ?_, fun d hd => if_neg (by omega), fun b hb => ⟨hb, rfl⟩⟩⟩
      · show Conc _ _ _ _ (lk (argEnv 0 (stripL args)) s) _
        rw [lk_argEnv, if_pos (Nat.zero_le _), Nat.sub_zero]
        by_cases hs : s < args.length
        · have h2 := hvs.2 s hs
          have e : (vs ++ Array.replicate (fn.ntmps - vs.size) undef).getD s undef = vs.toList.getD s undef := by
            have : s < vs.size := by omega
            rw [Array.getD_eq_getD_getElem?, Array.getElem?_append_left this]
            simp [List.getD_eq_getElem?_getD]
          show Conc _ _ _ _ _ ((vs ++ Array.replicate (fn.ntmps - vs.size) undef).getD s undef)
          rw [e, stripL_getD _ _ hs]; exact h2.strip (condL_getD hcond s)
        · have e : (stripL args).getD s .top = .top := by simp only [List.getD_eq_getElem?_getD]; rw [List.getElem?_eq_none (by rw [stripL_length]; omega)]; rfl
          rw [e]; exact .top _
      · simp only at hx
        split at hx
        · injection hx
        · cases hx
    · have key : finE T N fn.results.toList (fun r H => K (St.put ⟨st.env, H⟩ o.dst r)) st' → a'.defers = [] ∧ ∃ v, (results fn a'.tmps).run P w' = .ok v w' ∧ next (a.put o.dst v) w' := fun hfin => by
        unfold finE at hfin
        split at hfin
        · rename_i φ l hl
          obtain ⟨hφ, hge, hgeH, hK⟩ := hfin
          obtain ⟨v, h2, h3⟩ := res_ok hT hG' hl hφ
          refine ⟨hG'.defers, v, h2, ?_⟩
          have hρ : ∀ id, N ≤ id → ρ id = ρ' id := fun id hid => (hG'.old.gh id (ρ id) (if_pos hid)).symm
          refine hn _ _ _ hK ⟨ρ, I', Gam.put (st := ⟨st.env, keepH N st'.heap⟩) (d := o.dst) ⟨hG.defers, hG.size, fun s => (hG.env s).mono (Nat.le_refl _) hG'.old.keep ρ (fun _ _ h => h), ⟨fun id blk hk => ?_, fun id id' b1 b2 x x' b hne k1 k2 hx hx' hb => ?_, fun id blk x b hk hx hb => ?_, hG'.hw.lt⟩, hG.below.trans hG'.below, hG'.base, ⟨fun b hb => ?_, hG.old.gh, hG.old.ghn, fun b hb => ?_⟩⟩ (fun k hk => by rw [hk] at hd; exact hd) (h3.ge hge ρ hρ)⟩
          · obtain ⟨hid, hk'⟩ := keepH_lk hk
            obtain ⟨x, hx, hok⟩ := hG'.hw.ok id blk hk'
            refine ⟨x, by rw [hρ id hid]; exact hx, ?_⟩
            cases blk with
            | box t c =>
              obtain ⟨b, us, rfl, hB, hh, hl, hc⟩ := hok
              exact ⟨b, us, rfl, hB, hh, hl, fun j u hu => (hc j u hu).ge (Cont.ge_at (geH_lk hgeH hk) j) ρ hρ⟩
            | row e sz c => exact hok
            | nst e c =>
              obtain ⟨m, xs, ho, hl, hc⟩ := hok
              exact ⟨m, xs, ho, hl, fun j u hu => (hc j u hu).ge (Cont.ge_at (geH_lk hgeH hk) j) ρ hρ⟩
          · obtain ⟨i1, k1'⟩ := keepH_lk k1
            obtain ⟨i2, k2'⟩ := keepH_lk k2
            exact hG'.hw.apart id id' b1 b2 x x' b hne k1' k2' (by rw [← hρ id i1]; exact hx) (by rw [← hρ id' i2]; exact hx') hb
          · obtain ⟨i1, k1'⟩ := keepH_lk hk
            exact hG'.hw.imm id blk x b k1' (by rw [← hρ id i1]; exact hx) hb
          · rcases hG'.old.up b hb with h | h
            · exact hG.old.up b h
            · exact .inr h
          · obtain ⟨g1, g2⟩ := hG.old.keep b hb
            obtain ⟨g3, g4⟩ := hG'.old.keep b g1
            exact ⟨g3, g4.trans g2⟩
        · exact hfin.elim
      cases e with
      | ret => exact key h1
      | normal => exact key h1
      | _ => exact h1.elim
  · exact h.elim

/-- Other names for the own blocks. -/
def AV.ren (k : Nat) : AV → AV
  | .v x => .v x
  | .s id => .s (id + k)
  | .w id off len => .w (id + k) off len
  | .p id off => .p (id + k) off
  | .i fr c sz off len => .i fr c sz off len
  | .q fr c sz e j => .q fr c sz e j
  | .a cs => .a (renL k cs)
  | .t cs => .t (renL k cs)
  | .f fn cs => .f fn (renL k cs)
  | .g b x => .g b (AV.ren k x)
  | .top => .top
where renL (k : Nat) : List AV → List AV
  | [] => []
  | x :: r => AV.ren k x :: renL k r
theorem renL_length (k : Nat) (cs : List AV) : (AV.ren.renL k cs).length = cs.length := by
  induction cs with
  | nil => rfl
  | cons x r ih => simp [AV.ren.renL, ih]
theorem renL_getD (k : Nat) (cs : List AV) (j : Nat) : (AV.ren.renL k cs).getD j .top = (cs.getD j .top).ren k := by
  induction cs generalizing j with
  | nil => simp [AV.ren.renL, AV.ren]
  | cons x r ih => cases j with
    | zero => simp [AV.ren.renL]
    | succ j => simpa [AV.ren.renL] using ih j
theorem Conc.ren {B : Nat} {I : Nat → Prop} {w : World} {ρ : Nat → Option Value} {x : AV} {u : Value} (k : Nat) (h : Conc B I w ρ x u) : ∀ ρ', (∀ id, ρ' (id + k) = ρ id) → Conc B I w ρ' (x.ren k) u := by
  induction h with
  | v x => intro ρ' _; rw [AV.ren]; exact .v x
  | s id x h h1 => intro ρ' hr; rw [AV.ren]; exact .s _ x (by rw [hr id]; exact h) h1
  | w id off len cap A x h hcap hA => intro ρ' hr; rw [AV.ren]; exact .w _ off len cap A x (by rw [hr id]; exact h) hcap hA
  | p id off b x h hb => intro ρ' hr; rw [AV.ren]; exact .p _ off b x (by rw [hr id]; exact h) hb
  | i fr c sz off len cap A u hcap hA hc ih => intro ρ' _; rw [AV.ren]; exact .i fr c sz off len cap A u hcap hA hc
  | q fr c sz e f ad u h2 h3 hcell hc ih => intro ρ' _; rw [AV.ren]; exact .q fr c sz e f ad u h2 h3 hcell hc
  | a cs us hl h ih => intro ρ' hr; rw [AV.ren]; exact .a _ us (by rw [renL_length]; exact hl) fun j hj => by rw [renL_length] at hj; rw [renL_getD]; exact ih j hj ρ' hr
  | t cs us hl h ih => intro ρ' hr; rw [AV.ren]; exact .t _ us (by rw [renL_length]; exact hl) fun j hj => by rw [renL_length] at hj; rw [renL_getD]; exact ih j hj ρ' hr
  | f fn cs us hl h ih => intro ρ' hr; rw [AV.ren]; exact .f fn _ us (by rw [renL_length]; exact hl) fun j hj => by rw [renL_length] at hj; rw [renL_getD]; exact ih j hj ρ' hr
  | g b x u h h0 ih => intro ρ' hr; rw [AV.ren]; exact .g b _ u (fun hb => ih hb ρ' hr) h0
  | top u => intro ρ' _; rw [AV.ren]; exact .top u
def Cont.ren (k : Nat) : Cont → Cont
  | .ints q l => .ints q l
  | .vals l => .vals l
  | .avs l => .avs (AV.ren.renL k l)
def Blk.ren (k : Nat) : Blk → Blk
  | .box t c => .box t (c.ren k)
  | .row e sz c => .row e sz c
  | .nst e c => .nst e (c.ren k)
theorem Cont.ren_len (k : Nat) (c : Cont) : (c.ren k).len = c.len := by cases c <;> simp [Cont.ren, Cont.len, renL_length]
theorem Cont.ren_at (k : Nat) (c : Cont) (j : Nat) : (c.ren k).at j = (c.at j).ren k := by cases c <;> simp only [Cont.ren, Cont.at, AV.ren, renL_getD]
def renE (k : Nat) : List (Nat × AV) → List (Nat × AV)
  | [] => []
  | (s, x) :: r => (s, x.ren k) :: renE k r
def renH (k : Nat) : List (Nat × Blk) → List (Nat × Blk)
  | [] => []
  | (d, b) :: r => (d + k, b.ren k) :: renH k r
theorem lk_renE (k : Nat) : ∀ (E : List (Nat × AV)) (s : Nat), lk (renE k E) s = (lk E s).ren k
  | [], s => by simp [renE, lk, AV.ren]
  | (t, x) :: r, s => by
    simp only [renE, lk]
    split
    · rfl
    · exact lk_renE k r s
theorem lkH_renH (k : Nat) : ∀ {H : List (Nat × Blk)} {id : Nat} {b : Blk}, lkH (renH k H) id = some b → ∃ id0 b0, id = id0 + k ∧ lkH H id0 = some b0 ∧ b = b0.ren k
  | [], _, _, h => by cases h
  | (d, c) :: r, id, b, h => by
    simp only [renH, lkH] at h
    split at h
    · rename_i e; injection h with h; exact ⟨d, c, e.symm, by simp [lkH], h.symm⟩
    · rename_i e
      obtain ⟨id0, b0, e1, e2, e3⟩ := lkH_renH k h
      refine ⟨id0, b0, e1, ?_, e3⟩
      simp only [lkH]
      rw [if_neg (fun hh => e (by rw [hh, e1]))]; exact e2
theorem G.ren {n B : Nat} {w0 : Orig} {st : St} {a : Act} {w : World} (hG : G n B w0 st a w) (hgh : ∀ id, w0.gh id = none) (k : Nat) : G n B w0 ⟨renE k st.env, renH k st.heap⟩ a w := by
  obtain ⟨ρ, I, h⟩ := hG
  have hρ : ∀ id, (if k ≤ id + k then ρ (id + k - k) else none) = ρ id := fun id => by simp
  refine ⟨fun id => if k ≤ id then ρ (id - k) else none, I, h.defers, h.size, fun s => ?_, ⟨fun id blk hk => ?_, fun id id' b1 b2 x x' b hne k1 k2 hx hx' hb => ?_, fun id blk x b hk hx hb => ?_, h.hw.lt⟩, h.below, h.base, ⟨h.old.up, fun id x hx => (by rw [hgh] at hx; cases hx), h.old.ghn, h.old.keep⟩⟩
  · show Conc _ _ _ _ (lk (renE k st.env) s) _
    rw [lk_renE]; exact (h.env s).ren k _ hρ
  · obtain ⟨id0, b0, rfl, h2, rfl⟩ := lkH_renH k hk
    obtain ⟨x, hx, hok⟩ := h.hw.ok id0 b0 h2
    refine ⟨x, by rw [hρ id0]; exact hx, ?_⟩
    cases b0 with
    | box t c =>
      obtain ⟨b, us, rfl, hB, hh, hl, hc⟩ := hok
      exact ⟨b, us, rfl, hB, hh, by rw [Cont.ren_len]; exact hl, fun j u hu => by rw [Cont.ren_at]; exact (hc j u hu).ren k _ hρ⟩
    | row e sz c => exact hok
    | nst e c =>
      obtain ⟨m, xs, ho, hl, hc⟩ := hok
      exact ⟨m, xs, ho, by rw [Cont.ren_len]; exact hl, fun j u hu => by rw [Cont.ren_at]; exact (hc j u hu).ren k _ hρ⟩
  · obtain ⟨i1, c1, rfl, g1, rfl⟩ := lkH_renH k k1
    obtain ⟨i2, c2, rfl, g2, rfl⟩ := lkH_renH k k2
    rw [hρ] at hx hx'
    exact h.hw.apart i1 i2 c1 c2 x x' b (fun e => hne (by rw [e])) g1 g2 hx hx' hb
  · obtain ⟨i1, c1, rfl, g1, rfl⟩ := lkH_renH k hk
    rw [hρ] at hx
    exact h.hw.imm i1 c1 x b g1 hx hb
theorem awp_ren {P : Program} {n B : Nat} {w0 : Orig} {c : Code} {Q : Exit → St → Prop} {st : St} (hgh : ∀ id, w0.gh id = none) (k : Nat) (h : AWP P n B w0 c Q ⟨renE k st.env, renH k st.heap⟩) : AWP P n B w0 c Q st := fun a w hG => h a w (hG.ren hgh k)
attribute [push_cast] AV.ren AV.ren.renL Cont.ren Blk.ren renE renH EffCall EndsE finE stripL keepH geH AV.ge AV.geL Cont.ge Blk.ge
end Go.Eng
