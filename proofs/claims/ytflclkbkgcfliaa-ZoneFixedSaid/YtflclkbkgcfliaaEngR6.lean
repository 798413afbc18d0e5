/- A region in the midst of which the state is said in other words. -/
import Derived.Test.YtflclkbkgcfliaaEngR5
namespace Go.Eng
open Go.RowKit
set_option linter.unusedVariables false
theorem aopss_conv {P : Program} {n B : Nat} {w0 : Orig} {ops : Array Oper} {K : St → Prop} {o : Oper} {rest : List Oper} {st : St} (st' : St) (h : ∀ a w, G n B w0 st a w → G n B w0 st' a w) (h2 : AOpsS P n B w0 ops K (o :: rest) st') : AOpsS P n B w0 ops K (o :: rest) st := by
  intro a w ρ I hG next Q hnx
  obtain ⟨ρ', I', hG'⟩ := h a w ⟨ρ, I, hG⟩
  exact h2 a w ρ' I' hG' next Q hnx
theorem aopss_ren {P : Program} {n B : Nat} {w0 : Orig} {ops : Array Oper} {K : St → Prop} {o : Oper} {rest : List Oper} {st : St} (hgh : ∀ id, w0.gh id = none) (k : Nat) (h2 : AOpsS P n B w0 ops K (o :: rest) ⟨renE k st.env, renH k st.heap⟩) : AOpsS P n B w0 ops K (o :: rest) st :=
  aopss_conv _ (fun a w h => h.ren hgh k) h2
theorem aopss_wk {P : Program} {n B : Nat} {w0 : Orig} {ops : Array Oper} {K : St → Prop} {o : Oper} {rest : List Oper} {st : St} (st' : St) (hE : wkE st.env st'.env) (hH : wkH st.heap st'.heap) (h2 : AOpsS P n B w0 ops K (o :: rest) st') : AOpsS P n B w0 ops K (o :: rest) st :=
  aopss_conv st' (G.wk hE hH) h2
theorem aopss_mv {P : Program} {n B : Nat} {w0 : Orig} {ops : Array Oper} {K : St → Prop} {o : Oper} {rest : List Oper} {st : St} (N k : Nat) (hNk : N ≤ k) (hn : n ≤ k) (hE : idsE (fun id => id < k ∨ k + N ≤ id) st.env) (hH : idsH (fun id => id < k ∨ k + N ≤ id) st.heap) (hgh : ∀ id, k ≤ id → w0.gh id = none) (h2 : AOpsS P n B w0 ops K (o :: rest) ⟨mvE N k st.env, mvH N k st.heap⟩) : AOpsS P n B w0 ops K (o :: rest) st :=
  aopss_conv _ (fun a w h => h.mv N k hNk hn hE hH hgh) h2
theorem lkH_app : ∀ (A C : List (Nat × Blk)) (s : Nat), lkH (A ++ C) s = match lkH A s with | some b => some b | none => lkH C s
  | [], C, s => rfl
  | (k, x) :: r, C, s => by
    simp only [List.cons_append, lkH]
    by_cases e : k = s
    · rw [if_pos e, if_pos e]
    · rw [if_neg e, if_neg e]; exact lkH_app r C s
def outB (lo hi : Nat) : List (Nat × Blk) → Bool
  | [] => true
  | (k, _) :: r => (decide (k < lo) || decide (hi ≤ k)) && outB lo hi r
theorem outB_lk {lo hi : Nat} : ∀ {A : List (Nat × Blk)}, outB lo hi A = true → ∀ {s}, lo ≤ s → s < hi → lkH A s = none
  | [], _, s, _, _ => rfl
  | (k, x) :: r, h, s, h1, h2 => by
    simp only [outB, Bool.and_eq_true, Bool.or_eq_true, decide_eq_true_eq] at h
    simp only [lkH]
    rw [if_neg (by omega)]
    exact outB_lk h.2 h1 h2
/-- Saying less, where a part of memory stands by its name alone. -/
theorem G.wkT {n B : Nat} {w0 : Orig} {st st' : St} {lo hi : Nat} (pre pre' : List (Nat × Blk)) (C : List (Nat × Blk)) (e1 : st.heap = pre ++ C) (e2 : st'.heap = pre' ++ C) (hE : wkE2 st.env [] st'.env) (hC : ∀ s b, lkH C s = some b → lo ≤ s ∧ s < hi) (hpre : outB lo hi pre = true) (hw : wkH2 pre [] pre') : ∀ a w, G n B w0 st a w → G n B w0 st' a w := fun a w ⟨ρ, I, h⟩ => by
  have hH : ∀ s b, lkH st'.heap s = some b → lkH st.heap s = some b := fun s b hs => by
    rw [e2, lkH_app] at hs
    rw [e1, lkH_app]
    cases hp : lkH pre' s with
    | some b' =>
      rw [hp] at hs
      rw [lkH_wk2 hw s b' rfl hp]; exact hs
    | none =>
      rw [hp] at hs
      obtain ⟨h1, h2⟩ := hC s b hs
      rw [outB_lk hpre h1 h2]; exact hs
  exact ⟨ρ, I, h.defers, h.size, fun s => by
    rcases lk_wk2 hE s rfl with e | e
    · rw [e]; exact .top _
    · rw [e]; exact h.env s, ⟨fun id blk hk => h.hw.ok id blk (hH _ _ hk), fun id id' blk blk' x x' b hne h1 h2 => h.hw.apart id id' blk blk' x x' b hne (hH _ _ h1) (hH _ _ h2), fun id blk x b h1 => h.hw.imm id blk x b (hH _ _ h1), h.hw.lt⟩, h.below, h.base, h.old⟩

/-! ### A part of memory that a walk does not look at -/
def norBlk : Blk → Bool
  | .box _ (.avs l) => AV.norL l
  | _ => true
/-- Blocks with names from lo to hi that hold nothing of one's own. -/
def yOk (lo hi : Nat) : List (Nat × Blk) → Bool
  | [] => true
  | (k, b) :: r => decide (lo ≤ k) && decide (k < hi) && norBlk b && yOk lo hi r
theorem yOk_keep {lo hi N : Nat} (hN : N ≤ lo) : ∀ {Y : List (Nat × Blk)}, yOk lo hi Y = true → keepH N Y = Y
  | [], _ => rfl
  | (k, b) :: r, h => by
    simp only [yOk, Bool.and_eq_true, decide_eq_true_eq] at h
    rw [keepH, if_pos (by omega), yOk_keep hN h.2]
theorem norBlk_ge {b : Blk} (h : norBlk b = true) (N : Nat) : b.ge N := by
  cases b with
  | box t c =>
    cases c with
    | avs l => exact norL_ge N l h
    | _ => trivial
  | _ => trivial
theorem norBlk_kill {b : Blk} (h : norBlk b = true) (d : Nat) : b.kill d = b := by
  cases b with
  | box t c =>
    cases c with
    | avs l => simp only [Blk.kill, Cont.kill]; rw [norL_kill d l h]
    | _ => rfl
  | _ => rfl
theorem yOk_ge {lo hi : Nat} (N : Nat) : ∀ {Y : List (Nat × Blk)}, yOk lo hi Y = true → geH N Y
  | [], _ => trivial
  | (k, b) :: r, h => by
    simp only [yOk, Bool.and_eq_true] at h
    exact ⟨norBlk_ge h.1.2 N, yOk_ge N h.2⟩
theorem yOk_kill {lo hi d : Nat} (hd : d < lo) : ∀ {Y : List (Nat × Blk)}, yOk lo hi Y = true → killH d Y = Y
  | [], _ => rfl
  | (k, b) :: r, h => by
    simp only [yOk, Bool.and_eq_true, decide_eq_true_eq] at h
    rw [killH, if_neg (by omega), yOk_kill hd h.2, norBlk_kill h.1.2]
theorem yOk_in {lo hi : Nat} : ∀ {Y : List (Nat × Blk)}, yOk lo hi Y = true → ∀ s b, lkH Y s = some b → lo ≤ s ∧ s < hi
  | [], _, s, b, h => by cases h
  | (k, c) :: r, hy, s, b, h => by
    simp only [yOk, Bool.and_eq_true, decide_eq_true_eq] at hy
    simp only [lkH] at h
    split at h
    · rename_i e; subst e; exact hy.1.1
    · exact yOk_in hy.2 s b h
theorem keepH_app (N : Nat) : ∀ (A C : List (Nat × Blk)), keepH N (A ++ C) = keepH N A ++ keepH N C
  | [], C => rfl
  | (k, b) :: r, C => by
    simp only [List.cons_append, keepH]
    split
    · rw [keepH_app N r C]; rfl
    · exact keepH_app N r C
theorem geH_app (N : Nat) : ∀ {A C : List (Nat × Blk)}, geH N A → geH N C → geH N (A ++ C)
  | [], C, _, h => h
  | (k, b) :: r, C, h, h2 => ⟨h.1, geH_app N h.2 h2⟩
/-- The loop's body is walked once, for whatever part of memory is not its own. -/
theorem y_cut {P : Program} {n ng N M B l : Nat} {wg : Orig} {ps : List Nat} {assign body : Code} {env0 : List (Nat × AV)} (hY : YRule P n ng N M B l wg ps assign body env0) {α : Type} (C : α → Prop) (A : α → List AV) (HI HO : α → List (Nat × Blk)) (M' lo : Nat) (hM : M ≤ M') (hlo : N ≤ lo) {Goal : Prop}
    (hA : ∀ x, allGe N (A x)) (hH : ∀ x, keepH N (HI x) = HI x ∧ geH N (HI x))
    (h1 : ∀ x, C x → ∀ Y, yOk lo M' Y = true → ∀ R : List (Nat × Blk) → Prop, R (HO x ++ Y) → ∀ wb, (∀ id, (id < N ∨ M' ≤ id) → wb.gh id = none) →
      AWP P n B wb assign (Ex.then (fun s => ∀ wb2, (∀ id, (id < N ∨ M' ≤ id) → wb2.gh id = none) → AWP P n B wb2 body (EndsB N R) s) (fun _ _ => False)) ⟨setE ps (A x) env0, HI x ++ Y⟩)
    (h2 : (∀ x, C x → ∀ Y, yOk lo M' Y = true → ∀ (ops : Array Oper) (K : St → Prop) (o : Oper) (rest : List Oper) (env : List (Nat × AV)) (y : Operand) (as : Array Operand) (ats : Array TypeId) (g : Option (Nat × Bool)),
      o.op = .call ⟨.value y, as, ats⟩ → gOf ops o.guard = some g → (guardS ⟨env, HI x ++ Y⟩ g = some none ∨ guardS ⟨env, HI x ++ Y⟩ g = some (some true)) → dstOk ng o.dst → ((St.mk env (HI x ++ Y)).ev y).cond ∧ ((St.mk env (HI x ++ Y)).ev y).strip = .v (.func (.yield l) #[] #[]) → as.size = ps.length →
      condL (as.toList.map (St.mk env (HI x ++ Y)).ev) → stripL (as.toList.map (St.mk env (HI x ++ Y)).ev) = A x → idsE (· < M') env →
      AOpsS P ng B wg ops K rest (St.put ⟨env, HO x ++ Y⟩ o.dst (BL true)) → AOpsS P ng B wg ops K (o :: rest) ⟨env, HI x ++ Y⟩) → Goal) : Goal := by
  refine h2 fun x hx Y hYo ops K o rest env y as ats g e1 e2 e3 e4 e5 e6 e7 e8 e9 e10 => ?_
  have hk : keepH N (HI x ++ Y) = HI x ++ Y := by rw [keepH_app, (hH x).1, yOk_keep hlo hYo]
  refine hY M' hM ops K o rest env (HI x ++ Y) y as ats g e1 e2 e3 e4 e5 e6 e7 (by rw [e8]; exact hA x) e9 (by rw [hk]; exact geH_app N (hH x).2 (yOk_ge N hYo)) fun wb hwb => ?_
  rw [e8, hk]
  exact h1 x hx Y hYo _ e10 wb hwb
theorem awp_conv {P : Program} {n B : Nat} {w0 : Orig} {c : Code} {Q : Exit → St → Prop} {st : St} (st' : St) (h : ∀ a w, G n B w0 st a w → G n B w0 st' a w) (h2 : AWP P n B w0 c Q st') : AWP P n B w0 c Q st :=
  fun a w hG => h2 a w (h a w hG)
/-- Walked on to its end, where the state is said in other words. -/
theorem awp_endS {P : Program} {n B : Nat} {w0 : Orig} {c : Code} {Q : Exit → St → Prop} {st : St} (S : St) (h2 : Q .normal S) (h1 : AWP P n B w0 c (fun e s => e = .normal ∧ ∀ a w, G n B w0 s a w → G n B w0 S a w) st) : AWP P n B w0 c Q st := fun a w hG =>
  wpIn_mono (h1 a w hG) fun e a' w' ⟨s, ⟨he, hs⟩, hG'⟩ => by subst he; exact ⟨S, h2, hs _ _ hG'⟩
/-- A variable that holds a nil slice holds an owned row of no element. -/
theorem G.nilBox {n B : Nat} {w0 : Orig} {st : St} {a : Act} {w : World} (hG : G n B w0 st a w) (id d : Nat) (t e : TypeId) (sz : Nat) (c : Cont) (hk : lkH st.heap id = some (.box t (.avs [.v (.slice none 0 0)]))) (hne : id ≠ d) (hc : c.len = 0) (hgd : w0.gh d = none) :
    G n B w0 ⟨killE d st.env, (id, .box t (.avs [.s d])) :: (d, .row e sz c) :: killH d st.heap⟩ a w := by
  obtain ⟨ρ, I, hg⟩ := hG
  have h1 := hg.new (Below.refl _ w) d (.slice none 0 0) (.row e sz c) ⟨0, [], World.ownsRow_nil w B e sz, by simp [hc], fun j u hu => by simp at hu⟩ (fun b hb => by simp [rootBlk] at hb) hgd
  have hk2 : lkH ((d, .row e sz c) :: killH d st.heap) id = some (.box t (.avs [.v (.slice none 0 0)])) := by
    simp only [lkH]
    rw [if_neg (fun e => hne e.symm), lkH_killH, if_neg hne, hk]
    rfl
  refine ⟨_, I, h1.defers, h1.size, h1.env, ⟨fun id' blk hk' => ?_, fun i1 i2 b1 b2 x x' b hne' k1 k2 => ?_, fun i1 b1 x b k1 => ?_, h1.hw.lt⟩, h1.below, h1.base, h1.old⟩
  · simp only [lkH] at hk'
    by_cases e1 : id = id'
    · rw [if_pos e1] at hk'
      injection hk' with hk'; subst hk'; subst e1
      obtain ⟨x, hx, b, us, rfl, hB, hh, hl, hcc⟩ := h1.hw.ok _ _ hk2
      refine ⟨_, hx, b, us, rfl, hB, hh, hl, fun j u hu => ?_⟩
      have hj : j = 0 := by
        have := (Array.getElem?_eq_some_iff.1 hu).1
        rw [hl] at this; simpa [Cont.len] using this
      subst hj
      have h2 := hcc 0 u hu
      simp only [Cont.at, List.getD_cons_zero] at h2 ⊢
      rw [h2.v_inv]
      exact .s d _ (updρ_self _ _ _) rfl
    · rw [if_neg e1] at hk'
      exact h1.hw.ok id' blk hk'
  · have conv : ∀ {i1 b1}, lkH ((id, .box t (.avs [.s d])) :: (d, .row e sz c) :: killH d st.heap) i1 = some b1 → ∃ b2, lkH ((d, .row e sz c) :: killH d st.heap) i1 = some b2 := fun {i1 b1} h => by
      simp only [lkH] at h
      by_cases e1 : id = i1
      · subst e1; exact ⟨_, hk2⟩
      · rw [if_neg e1] at h; exact ⟨b1, h⟩
    obtain ⟨c1, q1⟩ := conv k1
    obtain ⟨c2, q2⟩ := conv k2
    exact h1.hw.apart i1 i2 c1 c2 x x' b hne' q1 q2
  · have : ∃ b2, lkH ((d, .row e sz c) :: killH d st.heap) i1 = some b2 := by
      simp only [lkH] at k1
      by_cases e1 : id = i1
      · subst e1; exact ⟨_, hk2⟩
      · rw [if_neg e1] at k1; exact ⟨b1, k1⟩
    obtain ⟨c1, q1⟩ := this
    exact h1.hw.imm i1 c1 x b q1
theorem norL_ids (p : Nat → Prop) : ∀ (l : List AV), AV.norL l = true → AV.idsL p l
  | [], _ => by simp only [AV.idsL]
  | x :: r, h => by
    simp only [AV.norL, Bool.and_eq_true] at h
    simp only [AV.idsL]
    exact ⟨nor_ids p x h.1, norL_ids p r h.2⟩
where nor_ids (p : Nat → Prop) : ∀ (x : AV), x.nor = true → x.ids p
  | .v _, _ => by simp only [AV.ids]
  | .s _, h => by simp [AV.nor] at h
  | .w _ _ _, h => by simp [AV.nor] at h
  | .p _ _, h => by simp [AV.nor] at h
  | .i _ _ _ _ _, _ => by simp only [AV.ids]
  | .q _ _ _ _ _, _ => by simp only [AV.ids]
  | .a cs, h => by simp only [AV.nor] at h; simp only [AV.ids]; exact norL_ids p cs h
  | .t cs, h => by simp only [AV.nor] at h; simp only [AV.ids]; exact norL_ids p cs h
  | .f _ cs, h => by simp only [AV.nor] at h; simp only [AV.ids]; exact norL_ids p cs h
  | .g _ x, h => by simp only [AV.nor] at h; simp only [AV.ids]; exact nor_ids p x h
  | .top, _ => by simp only [AV.ids]
theorem norL_mv (N k : Nat) : ∀ (l : List AV), AV.norL l = true → AV.mv.mvL N k l = l
  | [], _ => rfl
  | x :: r, h => by
    simp only [AV.norL, Bool.and_eq_true] at h
    simp only [AV.mv.mvL]
    rw [nor_mv N k x h.1, norL_mv N k r h.2]
where nor_mv (N k : Nat) : ∀ (x : AV), x.nor = true → x.mv N k = x
  | .v _, _ => rfl
  | .s _, h => by simp [AV.nor] at h
  | .w _ _ _, h => by simp [AV.nor] at h
  | .p _ _, h => by simp [AV.nor] at h
  | .i _ _ _ _ _, _ => rfl
  | .q _ _ _ _ _, _ => rfl
  | .a cs, h => by simp only [AV.nor] at h; simp only [AV.mv]; rw [norL_mv N k cs h]
  | .t cs, h => by simp only [AV.nor] at h; simp only [AV.mv]; rw [norL_mv N k cs h]
  | .f _ cs, h => by simp only [AV.nor] at h; simp only [AV.mv]; rw [norL_mv N k cs h]
  | .g _ x, h => by simp only [AV.nor] at h; simp only [AV.mv]; rw [nor_mv N k x h]
  | .top, _ => rfl
theorem yOk_ids {lo hi k N : Nat} (hk : hi ≤ k) : ∀ {Y : List (Nat × Blk)}, yOk lo hi Y = true → idsH (fun id => id < k ∨ k + N ≤ id) Y
  | [], _ => trivial
  | (d, b) :: r, h => by
    simp only [yOk, Bool.and_eq_true, decide_eq_true_eq] at h
    refine ⟨by show d < k ∨ k + N ≤ d; omega, ?_, yOk_ids hk h.2⟩
    have hb := h.1.2
    cases b with
    | box t c =>
      cases c with
      | avs l => exact norL_ids _ l hb
      | _ => trivial
    | _ => trivial
theorem yOk_mv {lo hi N k : Nat} (hN : N ≤ lo) : ∀ {Y : List (Nat × Blk)}, yOk lo hi Y = true → mvH N k Y = Y
  | [], _ => rfl
  | (d, b) :: r, h => by
    simp only [yOk, Bool.and_eq_true, decide_eq_true_eq] at h
    have hb := h.1.2
    have hd : mvI N k d = d := by unfold mvI; rw [if_neg (by omega)]
    have hbm : b.mv N k = b := by
      cases b with
      | box t c =>
        cases c with
        | avs l => simp only [Blk.mv, Cont.mv]; rw [norL_mv N k l hb]
        | _ => rfl
      | _ => rfl
    simp only [mvH]
    rw [hd, hbm, yOk_mv hN h.2]
theorem yOk_del {lo hi d : Nat} (hd : hi ≤ d) : ∀ {Y : List (Nat × Blk)}, yOk lo hi Y = true → delH d Y = Y
  | [], _ => rfl
  | (k, b) :: r, h => by
    simp only [yOk, Bool.and_eq_true, decide_eq_true_eq] at h
    rw [delH, if_neg (by omega), yOk_del hd h.2]
def SortStepI (P : Program) (dst : Option Nat) (op : Op) (K : St → Prop) (st : St) : Prop :=
  match callee? st.ev op, dst with
  | some (ψ, k, args), some d =>
    match stripL args with
    | [.f (.func g) [.p bid 0]] => (ψ ∧ condL args) ∧ ∃ t mid c e ds, lkH st.heap bid = some (.box t (.avs [.s mid])) ∧ lkH st.heap mid = some (.mp c) ∧ SortCalls P k g t e c (ds.map fun x => .int .i64 x) ∧ K ⟨(d, .s d) :: killE d st.env, (d, .row e 1 (.ints .i64 ds)) :: killH d st.heap⟩
    | _ => False
  | _, _ => False
theorem sortStepI_ok {P : Program} {n B : Nat} {w0 : Orig} {st : St} {a : Act} {w : World} {ρ : Nat → Option Value} {I : Nat → Prop} (hG : Gam n B w0 st a w ρ I) {o : Oper} (hd : dstOk n o.dst) {K : St → Prop} (h : SortStepI P o.dst o.op K st) : StepOk P n B w0 o a w K := by
  intro next Q hn
  unfold SortStepI at h
  split at h <;> first | exact h.elim | skip
  rename_i ψ k args d hc hdst
  rw [hdst] at hd
  split at h <;> first | exact h.elim | skip
  rename_i g bid hargs
  obtain ⟨⟨hψ, hcond⟩, t, mid, c, e, ds, hkb, hk, ⟨⟨fn, hf, hname, hbody⟩, hcall⟩, hK⟩ := h
  obtain ⟨vs, hrun, hvs⟩ := callee_run (fun x => hG.ev x) hc hψ hf hname hbody
  have hlen : args.length = 1 := by rw [← stripL_length args, hargs]; rfl
  have h0 := (hvs.2 0 (by omega)).strip (condL_getD hcond 0)
  rw [← stripL_getD _ _ (by omega), hargs] at h0
  simp only [List.getD_cons_zero] at h0
  have hvl : vs.toList.length = 1 := by rw [hvs.1, hlen]
  obtain ⟨v0, hv0⟩ : ∃ v0, vs.toList = [v0] := by
    match hh : vs.toList, hvl with
    | [x], _ => exact ⟨x, rfl⟩
  rw [hv0] at h0
  simp only [List.getD_cons_zero] at h0
  cases h0 with
  | f _ _ us hul hus =>
    have hu0 := hus 0 (by simp)
    simp only [List.getD_cons_zero] at hu0
    obtain ⟨u0, rfl⟩ : ∃ u0, us = #[u0] := by
      have hl1 : us.toList.length = 1 := by simpa using hul
      match hh : us.toList, hl1 with
      | [x], _ => exact ⟨x, by cases us; simp_all⟩
    have e0 : (#[u0] : Array Value).getD 0 undef = u0 := rfl
    rw [e0] at hu0
    cases hu0 with
    | p _ _ b x hr hb =>
      obtain ⟨x', hx', b', us', rfl, hB, hh, hl, hcc⟩ := hG.hw.ok _ _ hkb
      rw [hr] at hx'; injection hx' with hx'; subst hx'
      simp only [rootBlk, Option.some.injEq] at hb; subst hb
      obtain ⟨u1, rfl⟩ : ∃ u1, us' = #[u1] := by
        have hl1 : us'.toList.length = 1 := by simpa [Cont.len] using hl
        match hh : us'.toList, hl1 with
        | [x], _ => exact ⟨x, by cases us'; simp_all⟩
      have h2 := hcc 0 u1 rfl
      simp only [Cont.at, List.getD_cons_zero] at h2
      cases h2 with
      | s _ x2 hr2 _ =>
        obtain ⟨x3, hx3, bm, rfl, hBm, hmap⟩ := hG.hw.ok _ _ hk
        rw [hr2] at hx3; injection hx3 with hx3; subst hx3
        have hvs' : vs = #[.func (.func g) #[] #[.pointer (some ⟨b', 0, none⟩)]] := by cases vs; simp_all
        unfold Oper.wp
        rw [hrun, Oper.upon_enter, hvs']
        refine (hcall w b' bm hh hmap).mono fun en w' he => ?_
        obtain ⟨v, rfl, hbel, ho⟩ := he
        have ho' := ownsRow_base ho hG.base
        have := new_row hG d hd hbel ho' (fun b hb' => (ho.lt b (by rw [← rootBlk_own ho]; exact hb')).1) (.ints .i64 ds) (by simp [Cont.len]) (fun j u hu => by
          have hj : j < ds.length := by have := (List.getElem?_eq_some_iff.1 hu).1; simpa using this
          have hu' : u = .int .i64 (ds.getD j 0) := by
            rw [List.getElem?_map, List.getElem?_eq_getElem hj] at hu
            simp only [Option.map_some, Option.some.injEq] at hu
            rw [← hu, List.getD_eq_getElem?_getD, List.getElem?_eq_getElem hj]; rfl
          rw [hu']; exact .v _)
        rw [hdst]
        exact hn _ _ _ hK this
theorem aopss_sortedI {P : Program} {n B : Nat} {w0 : Orig} {ops : Array Oper} {K : St → Prop} {o : Oper} {rest : List Oper} {st : St} (hg : o.guard = none) (hd : dstOk n o.dst) (h : ∀ K' : St → Prop, (∀ s, AOpsS P n B w0 ops K rest s → K' s) → SortStepI P o.dst o.op K' st) : AOpsS P n B w0 ops K (o :: rest) st := by
  intro a w ρ I hG next Q hnx
  rw [wanted_of hg hG]
  have h' := h _ fun _ h => h
  refine toIn (fun c' hc' => ?_) (sortStepI_ok hG hd h' next Q hnx)
  rw [hc'] at h'; exact h'
attribute [push_cast] SortStepI
end Go.Eng
