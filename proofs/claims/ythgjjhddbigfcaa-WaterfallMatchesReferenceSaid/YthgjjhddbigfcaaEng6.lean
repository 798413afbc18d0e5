/- Part of a proof about the given program: contracts of its functions (see the comment of the last text). -/
import Derived.Test.YthgjjhddbigfcaaEng5
set_option linter.unusedSimpArgs false
set_option linter.unusedVariables false
namespace Go.Eng
open Go.RowKit
set_option linter.unusedVariables false

def Eff (P : Program) (f : FuncId) (args : List AV) (H : List (Nat × Blk)) (r : AV) (H' : List (Nat × Blk)) : Prop :=
  (∃ fn, P.funcs[f]? = some fn ∧ (fn.name == "runtime.NumGoroutine") = false ∧ fn.body.isNone = false) ∧
  ∀ (B : Nat) (w : World) (I : Nat → Prop) (ρ : Nat → Option Value) (vs : Array Value), ConcL B I w ρ args vs.toList → HW B I w ρ H → B ≤ w.heap.size →
    Calls P f vs w fun e w' => ∃ v ρ' I', e = .returned v ∧ Conc B I' w' ρ' r v ∧ HW B I' w' ρ' H' ∧ (∀ id, lkH H id ≠ none → ρ' id = ρ id) ∧ (∀ b, I b → I' b ∧ w'.heap[b]? = w.heap[b]?) ∧ (∀ b, I' b → I b ∨ B ≤ b) ∧ Below B w w'
def finF (T : Tab) (res : List ResultVar) (r : AV) (H' : List (Nat × Blk)) (st : St) : Prop :=
  match resOf T st res with
  | some (φ, l) => φ ∧ retOf l = r ∧ ∀ id blk, lkH H' id = some blk → lkH st.heap id = some blk
  | none => False
def EndsF (T : Tab) (res : List ResultVar) (r : AV) (H' : List (Nat × Blk)) : Exit → St → Prop
  | .ret, st => finF T res r H' st
  | .normal, st => finF T res r H' st
  | _, _ => False
theorem HW.sub {B : Nat} {I : Nat → Prop} {w : World} {ρ : Nat → Option Value} {H H' : List (Nat × Blk)} (h : HW B I w ρ H) (hs : ∀ id blk, lkH H' id = some blk → lkH H id = some blk) : HW B I w ρ H' :=
  ⟨fun id blk hk => h.ok id blk (hs _ _ hk), fun id id' b1 b2 x x' b hne k1 k2 => h.apart id id' b1 b2 x x' b hne (hs _ _ k1) (hs _ _ k2), fun id blk x b hk => h.imm id blk x b (hs _ _ hk), h.lt⟩
theorem ZGl {P : Program} {T : Tab} (hT : T.ok P) {n : Nat} {f : FuncId} {fn : Func} {c : Code} {res : List ResultVar} {args : List AV} {H H' : List (Nat × Blk)} {r : AV} (hf : P.funcs[f]? = some fn) (hb : fn.body = some c) (hname : (fn.name == "runtime.NumGoroutine") = false) (hres : fn.results.toList = res) (hn : fn.ntmps = n) (hle : args.length ≤ n) (hH : ∀ id, id < n → lkH H id = none)
    (h : ∀ B w0, (∀ id, lkH H id = none → w0.gh id = none) → w0.rd = none → AWP P n B w0 c (EndsF T res r H') ⟨argEnv 0 args, H⟩) : Eff P f args H r H' := by
  refine ⟨⟨fn, hf, hname, by rw [hb]; rfl⟩, fun B w I ρ vs hargs hH0 hB => ?_⟩
  refine ZBo hf hb rfl rfl (h B ⟨w, I, fun id => if (lkH H id).isSome then some (ρ id) else none, [], none⟩ (fun id hid => by simp [hid]) rfl) ⟨ρ, I, ?_⟩ fun en st' a' w' ρ' I' h1 hG => ?_
  · have hsz : vs.size = args.length := by rw [← Array.length_toList, hargs.1]
    exact ⟨Marks.nil, by simp [hn]; omega, fun s => ZC0 hargs s, hH0, Below.refl _ _, hB, ⟨fun b hb => .inl hb, (fun id x hx => by
      simp only at hx
      split at hx
      · injection hx
      · cases hx), (fun d hd => by simp [hH d hd]), fun b hb => ⟨hb, rfl⟩⟩⟩
  · have key : finF T res r H' st' → ∃ v, (results fn a'.tmps).run P w' = .ok v w' ∧ ∃ v1 ρ1 I1, Ending.returned v = .returned v1 ∧ Conc B I1 w' ρ1 r v1 ∧ HW B I1 w' ρ1 H' ∧ (∀ id, lkH H id ≠ none → ρ1 id = ρ id) ∧ (∀ b, I b → I1 b ∧ w'.heap[b]? = w.heap[b]?) ∧ (∀ b, I1 b → I b ∨ B ≤ b) ∧ Below B w w' := fun hfin => by
      unfold finF at hfin
      split at hfin
      · rename_i φ l hl
        obtain ⟨hφ, rfl, hk⟩ := hfin
        subst hres
        obtain ⟨v, h2, h3⟩ := ZGi hT hG hl hφ
        refine ⟨v, h2, v, ρ', I', rfl, h3, hG.hw.sub hk, fun id hid => hG.old.gh id (ρ id) ?_, fun b hb => hG.old.keep b hb, fun b hb => hG.old.up b hb, hG.below⟩
        cases hh : lkH H id with
        | none => exact absurd hh hid
        | some x => simp [hh]
      · exact hfin.elim
    cases en with
    | ret => exact ⟨.inl rfl, key h1⟩
    | normal => exact ⟨.inr rfl, key h1⟩
    | _ => exact h1.elim

mutual
def AV.own (p : Nat → Prop) : AV → Prop
  | .v _ => True
  | .s id => p id
  | .w id _ _ => p id
  | .p id _ => p id
  | .i _ _ _ _ _ => False
  | .q _ _ _ _ _ => False
  | .a cs => AV.ownL p cs
  | .t cs => AV.ownL p cs
  | .f _ cs => AV.ownL p cs
  | .g _ x => AV.own p x
  | .top => True
def AV.ownL (p : Nat → Prop) : List AV → Prop
  | [] => True
  | x :: r => AV.own p x ∧ AV.ownL p r
end
theorem ZCQ {p : Nat → Prop} : ∀ {cs : List AV} (_ : AV.ownL p cs) (j : Nat), (cs.getD j .top).own p
  | [], _, _ => by simp [AV.own]
  | x :: r, h, 0 => by simp only [AV.ownL] at h; simpa using h.1
  | x :: r, h, j + 1 => by simp only [AV.ownL] at h; simpa using ZCQ h.2 j
theorem Conc.own {p : Nat → Prop} {B : Nat} {I I' : Nat → Prop} {w : World} {ρ : Nat → Option Value} {x : AV} {u : Value} (h : Conc B I w ρ x u) : x.own p → ∀ ρ', (∀ id, p id → ρ' id = ρ id) → Conc B I' w ρ' x u := by
  induction h with
  | v x => intro _ ρ' _; exact .v x
  | s id x h h1 => intro hg ρ' hr; exact .s id x (by rw [hr id hg]; exact h) h1
  | w id off len cap A x h hcap hA => intro hg ρ' hr; exact .w id off len cap A x (by rw [hr id hg]; exact h) hcap hA
  | p id off b x h hb => intro hg ρ' hr; exact .p id off b x (by rw [hr id hg]; exact h) hb
  | i fr c sz off len cap A u hcap hA hc ih => intro hg; rw [AV.own] at hg; exact hg.elim
  | q fr c sz e f ad u h2 h3 hcell hc ih => intro hg; rw [AV.own] at hg; exact hg.elim
  | a cs us hl h ih => intro hg ρ' hr; rw [AV.own] at hg; exact .a cs us hl fun j hj => ih j hj (ZCQ hg j) ρ' hr
  | t cs us hl h ih => intro hg ρ' hr; rw [AV.own] at hg; exact .t cs us hl fun j hj => ih j hj (ZCQ hg j) ρ' hr
  | f fn cs us hl h ih => intro hg ρ' hr; rw [AV.own] at hg; exact .f fn cs us hl fun j hj => ih j hj (ZCQ hg j) ρ' hr
  | g b x u h h0 ih => intro hg ρ' hr; rw [AV.own] at hg; exact .g b x u (fun hb => ih hb hg ρ' hr) h0
  | top u => intro _ ρ' _; exact .top u
def Cont.own (p : Nat → Prop) : Cont → Prop
  | .avs l => AV.ownL p l
  | _ => True
theorem Cont.own_at {p : Nat → Prop} {c : Cont} (h : c.own p) (j : Nat) : (c.at j).own p := by
  cases c with
  | ints k l => simp only [Cont.at, AV.own]
  | vals l => simp only [Cont.at, AV.own]
  | avs l => exact ZCQ h j
def Blk.own (p : Nat → Prop) : Blk → Prop
  | .box _ c => c.own p
  | .row _ _ c => c.own (fun _ => False)
  | .mp _ => True
  | .nst _ c => c.own p
  | .mpa _ _ c => c.own p
theorem BlkOK.own {p : Nat → Prop} {B : Nat} {I I' : Nat → Prop} {w : World} {ρ ρ' : Nat → Option Value} {x : Value} {blk : Blk} (h : BlkOK B I w ρ x blk) (ho : blk.own p) (hr : ∀ id, p id → ρ' id = ρ id) : BlkOK B I' w ρ' x blk := by
  cases blk with
  | box t c =>
    obtain ⟨b, us, rfl, hB, hh, hl, hc⟩ := h
    exact ⟨b, us, rfl, hB, hh, hl, fun j u hu => (hc j u hu).own (Cont.own_at ho j) _ hr⟩
  | row e sz c =>
    obtain ⟨m, xs, ho', hl, hc⟩ := h
    exact ⟨m, xs, ho', hl, fun j u hu => (hc j u hu).own (Cont.own_at ho j) _ (fun _ h => h.elim)⟩
  | mp c => exact h
  | nst e c =>
    obtain ⟨m, xs, ho', hl, hc⟩ := h
    exact ⟨m, xs, ho', hl, fun j u hu => (hc j u hu).own (Cont.own_at ho j) _ hr⟩
  | mpa kd ks c =>
    obtain ⟨b, vals, rfl, hB, hm, hl, hl2, hc⟩ := h
    exact ⟨b, vals, rfl, hB, hm, hl, hl2, fun j u hu => (hc j u hu).own (Cont.own_at ho j) _ hr⟩
def ownH (p : Nat → Prop) : List (Nat × Blk) → Prop
  | [] => True
  | (_, b) :: r => b.own p ∧ ownH p r
theorem ZHu {p : Nat → Prop} : ∀ {H : List (Nat × Blk)} {id : Nat} {b : Blk}, ownH p H → lkH H id = some b → b.own p
  | [], _, _, _, h => by cases h
  | (k, c) :: r, id, b, hg, h => by
    simp only [lkH] at h
    split at h
    · injection h with h; subst h; exact hg.1
    · exact ZHu hg.2 h
theorem ZDk (H1 H2 : List (Nat × Blk)) (id : Nat) : lkH (H1 ++ H2) id = match lkH H1 id with | some b => some b | none => lkH H2 id := by
  induction H1 with
  | nil => rfl
  | cons p r ih =>
    obtain ⟨k, b⟩ := p
    simp only [List.cons_append, lkH]
    split
    · rfl
    · exact ih
def viewA (Hc H : List (Nat × Blk)) : AV → AV
  | .s id => match lkH H id with
    | some _ => .s id
    | none => match lkH Hc id with
      | some (.row _ 1 (.ints k l)) => .i false (fun e _ => .v (.int k (l.getD e 0))) 1 0 l.length
      | _ => .top
  | x => x
def viewC (H : List (Nat × Blk)) : AV → Prop
  | .s _ => True
  | x => x.ids (fun id => lkH H id ≠ none)
def viewCL (H : List (Nat × Blk)) : List AV → Prop
  | [] => True
  | x :: r => viewC H x ∧ viewCL H r
def offH (ρ : Nat → Option Value) (H : List (Nat × Blk)) (w : World) (b : Nat) : Prop := b < w.heap.size ∧ ∀ id blk x, lkH H id = some blk → ρ id = some x → rootBlk x ≠ some b
theorem ZJw {B : Nat} {I : Nat → Prop} {w : World} {ρ : Nat → Option Value} {Hc H : List (Nat × Blk)} (hw : HW B I w ρ Hc) (hsub : ∀ id blk, lkH H id = some blk → lkH Hc id = some blk) {x : AV} {u : Value} (h : Conc B I w ρ x u) : Conc B (offH ρ H w) w ρ (viewA Hc H x) u := by
  have hI1 : ∀ b, I b → offH ρ H w b := fun b hb => ⟨hw.lt b hb, fun id blk x h1 h2 h3 => hw.imm id blk x b (hsub _ _ h1) h2 h3 hb⟩
  have gen : Conc B (offH ρ H w) w ρ x u := h.mono (Nat.le_refl _) (fun b hb => ⟨hI1 b hb, rfl⟩) ρ (fun _ _ h => h)
  cases hx : x with
  | s id =>
    rw [hx] at h gen
    simp only [viewA]
    cases hl : lkH H id with
    | some b => exact gen
    | none =>
      cases hk : lkH Hc id with
      | none => exact .top _
      | some blk =>
        cases blk with
        | row e sz c =>
          by_cases hsz : sz = 1
          · subst hsz
            cases c with
            | ints k l =>
              cases h with
              | s _ _ hr h1 =>
                obtain ⟨y, hy, m, xs, ho, hlen, hc⟩ := hw.ok id _ hk
                rw [hr] at hy; injection hy with hy; subst hy
                have hm : m = l.length := by simp only [Cont.len] at hlen; omega
                subst hm
                have hxs : xs.length = l.length := by have := ho.1; simpa using this
                have hcell : ∀ e, e < l.length → xs[e]? = some (.int k (l.getD e 0)) := fun e he => by
                  have h3 := hc e xs[e] (List.getElem?_eq_getElem (by omega))
                  simp only [Cont.at] at h3
                  rw [List.getElem?_eq_getElem (by omega), h3.v_inv]
                show Conc _ _ _ _ (.i false (fun e _ => .v (.int k (l.getD e 0))) 1 0 l.length) _
                rcases ho.2 with ⟨rfl, h0⟩ | ⟨g, cap, cur, rfl, hbg, hg, hnc, _⟩
                · obtain rfl : l = [] := List.length_eq_zero_iff.1 h0
                  exact .i _ _ _ _ _ 0 none (fun _ _ => undef) (Nat.le_refl _) (fun hp => by omega) (fun e f he => by omega)
                · refine .i _ _ _ _ _ _ _ (fun el j => .int k (l.getD el 0)) hnc (fun hp => ⟨_, rfl, ⟨(Array.getElem?_eq_some_iff.1 hg).1, fun id' blk' x' h1 h2 h3 => ?_⟩, (fun h => by cases h), fun el j he hj => ?_⟩) (fun el j he hj => by rw [Nat.zero_add]; exact .v _)
                  · have hne : id' ≠ id := fun e => by rw [e, hl] at h1; cases h1
                    exact hw.apart id' id blk' _ x' _ g hne (hsub _ _ h1) hk h2 hr h3 rfl
                  · have := ho.cells rfl el _ (hcell el he)
                    have hj0 : j = 0 := by omega
                    subst hj0
                    simpa using this
            | _ => exact .top _
          · have : viewA Hc H (.s id) = .top := by
              simp only [viewA, hl, hk]
              split
              · rename_i heq; cases heq; exact absurd rfl hsz
              · rfl
            simp only [viewA, hl, hk] at this
            rw [this]; exact .top _
        | _ => exact .top _
  | _ => rw [hx] at gen; exact gen
def EffStep (P : Program) (dst : Option Nat) (op : Op) (K : St → Prop) (st : St) : Prop :=
  match callee? st.ev op with
  | some (ψ, k, args) => (ψ ∧ condL args) ∧ ∃ H r H', Eff P k ((stripL args).map (viewA st.heap H)) H r H' ∧ (∀ id blk, lkH H id = some blk → lkH st.heap id = some blk) ∧ (∀ id, lkH H' id = none ↔ lkH H id = none) ∧ AV.own (fun id => lkH H id ≠ none) r ∧ ownH (fun id => lkH H id ≠ none) H' ∧ K (St.put ⟨st.env, H' ++ st.heap⟩ dst r)
  | none => False
theorem ZEd {P : Program} {n B : Nat} {w0 : Orig} {st : St} {a : Act} {w : World} {ρ : Nat → Option Value} {I : Nat → Prop} (hG : Gam n B w0 st a w ρ I) {o : Oper} (hd : dstOk n o.dst) {K : St → Prop} (h : EffStep P o.dst o.op K st) : StepOk P n B w0 o a w K := by
  intro next Q hn
  unfold EffStep at h
  split at h <;> first | exact h.elim | skip
  rename_i ψ k args hc
  obtain ⟨⟨hψ, hcond⟩, H, r, H', ⟨⟨fn, hf, hname, hbody⟩, hcall⟩, hsub, hdom, hro, hHo, hK⟩ := h
  obtain ⟨vs, hrun, hvs⟩ := ZBM (fun x => hG.ev x) hc hψ hf hname hbody
  unfold Oper.wp
  rw [hrun, Oper.upon_enter]
  have hI1 : ∀ b, I b → offH ρ H w b := fun b hb => ⟨hG.hw.lt b hb, fun id blk x h1 h2 h3 => hG.hw.imm id blk x b (hsub _ _ h1) h2 h3 hb⟩
  have hHW : HW B (offH ρ H w) w ρ H := ⟨fun id blk hk => by
      obtain ⟨x, hx, hok⟩ := hG.hw.ok id blk (hsub _ _ hk)
      exact ⟨x, hx, hok.move (fun _ _ => rfl) (fun b hb => ⟨hI1 b hb, rfl⟩) (fun _ _ h => h)⟩,
    fun id id' b1 b2 x x' b hne k1 k2 => hG.hw.apart id id' b1 b2 x x' b hne (hsub _ _ k1) (hsub _ _ k2), fun id blk x b hk hx hb hI => hI.2 id blk x hk hx hb, fun b hb => hb.1⟩
  have hargs : ConcL B (offH ρ H w) w ρ ((stripL args).map (viewA st.heap H)) vs.toList := ⟨by rw [List.length_map, ZAr]; exact hvs.1, fun j hj => by
    rw [List.length_map, ZAr] at hj
    have h0 := (hvs.2 j hj).strip (ZA4 hcond j)
    rw [← ZBe _ _ hj] at h0
    have e : ((stripL args).map (viewA st.heap H)).getD j .top = viewA st.heap H ((stripL args).getD j .top) := by
      have : j < (stripL args).length := by rw [ZAr]; exact hj
      simp [List.getD_eq_getElem?_getD, this]
    rw [e]
    exact ZJw hG.hw hsub h0⟩
  refine (hcall B w _ ρ vs hargs hHW hG.base).mono fun en w' he => ?_
  obtain ⟨v, ρ', I', rfl, hv, hHW', hpin, hkeep, hup, hbel⟩ := he
  have hk1 : ∀ b, I b → w'.heap[b]? = w.heap[b]? := fun b hb => (hkeep b (hI1 b hb)).2
  have unch : ∀ id blk x b, lkH H id = none → lkH st.heap id = some blk → ρ id = some x → rootBlk x = some b → offH ρ H w b := fun id blk x b h0 hk hx hb => by
    obtain ⟨x', hx', hok⟩ := hG.hw.ok id blk hk
    rw [hx] at hx'; injection hx' with hx'; subst hx'
    refine ⟨(hok.lt hb).2, fun id' blk' x' h1 h2 h3 => ?_⟩
    have hne : id' ≠ id := fun e => by rw [e, h0] at h1; cases h1
    exact hG.hw.apart id' id blk' blk x' x b hne (hsub _ _ h1) hk h2 hx h3 hb
  have look : ∀ id blk, lkH (H' ++ st.heap) id = some blk → (lkH H' id = some blk ∧ ρ' id = ρ id) ∨ (lkH H id = none ∧ lkH st.heap id = some blk) := fun id blk hk => by
    rw [ZDk] at hk
    cases h1 : lkH H' id with
    | some b => rw [h1] at hk; injection hk with hk; subst hk; exact .inl ⟨rfl, hpin id fun h => by rw [(hdom id).2 h] at h1; cases h1⟩
    | none => rw [h1] at hk; exact .inr ⟨(hdom id).1 h1, hk⟩
  have hII : ∀ b, I b → (fun b => I b ∨ (I' b ∧ w.heap.size ≤ b)) b ∧ w'.heap[b]? = w.heap[b]? := fun b hb => ⟨.inl hb, hk1 b hb⟩
  refine hn _ _ _ hK ⟨ρ, fun b => I b ∨ (I' b ∧ w.heap.size ≤ b), Gam.put (st := ⟨st.env, H' ++ st.heap⟩) (d := o.dst) ⟨hG.defers.mono hII, hG.size, fun s => (hG.env s).mono (Nat.le_refl _) hII ρ (fun _ _ h => h), ⟨fun id blk hk => ?_, fun id id' b1 b2 x x' b hne k1 k2 hx hx' hb => ?_, fun id blk x b hk hx hb hI => ?_, fun b hb => ?_⟩, hG.below.trans hbel, Nat.le_trans hG.base hbel.size, ⟨fun b hb => ?_, hG.old.gh, hG.old.ghn, fun b hb => ?_⟩⟩ (fun k hk => by rw [hk] at hd; exact hd) (hv.own hro _ fun id hid => (hpin id hid).symm)⟩
  · rcases look id blk hk with ⟨h1, h2⟩ | ⟨h1, h2⟩
    · obtain ⟨x, hx, hok⟩ := hHW'.ok id blk h1
      exact ⟨x, by rw [← h2]; exact hx, hok.own (ZHu hHo h1) fun id hid => (hpin id hid).symm⟩
    · obtain ⟨x, hx, hok⟩ := hG.hw.ok id blk h2
      exact ⟨x, hx, hok.move (fun b hb => (hkeep b (unch id blk x b h1 h2 hx hb)).2) hII (fun _ _ h => h)⟩
  · rcases look id b1 k1 with ⟨h1, h2⟩ | ⟨h1, h2⟩
    · rcases look id' b2 k2 with ⟨g1, g2⟩ | ⟨g1, g2⟩
      · exact hHW'.apart id id' b1 b2 x x' b hne h1 g1 (by rw [h2]; exact hx) (by rw [g2]; exact hx') hb
      · exact fun hb' => hHW'.imm id b1 x b h1 (by rw [h2]; exact hx) hb (hkeep b (unch id' b2 x' b g1 g2 hx' hb')).1
    · rcases look id' b2 k2 with ⟨g1, g2⟩ | ⟨g1, g2⟩
      · exact fun hb' => hHW'.imm id' b2 x' b g1 (by rw [g2]; exact hx') hb' (hkeep b (unch id b1 x b h1 h2 hx hb)).1
      · exact hG.hw.apart id id' b1 b2 x x' b hne h2 g2 hx hx' hb
  · rcases look id blk hk with ⟨h1, h2⟩ | ⟨h1, h2⟩
    · refine hHW'.imm id blk x b h1 (by rw [h2]; exact hx) hb ?_
      rcases hI with hI | hI
      · exact (hkeep b (hI1 b hI)).1
      · exact hI.1
    · rcases hI with hI | hI
      · exact hG.hw.imm id blk x b h2 hx hb hI
      · have := (unch id blk x b h1 h2 hx hb).1; omega
  · rcases hb with hb | hb
    · exact Nat.lt_of_lt_of_le (hG.hw.lt b hb) hbel.size
    · exact hHW'.lt b hb.1
  · rcases hb with hb | hb
    · exact hG.old.up b hb
    · exact .inr (Nat.le_trans hG.base hb.2)
  · obtain ⟨g1, g2⟩ := hG.old.keep b hb
    exact ⟨.inl g1, (hk1 b g1).trans g2⟩
theorem ZBb {P : Program} {n B : Nat} {w0 : Orig} {ops : Array Oper} {K : St → Prop} {o : Oper} {rest : List Oper} {st : St} (hg : o.guard = none) (hd : dstOk n o.dst) (h : ∀ K' : St → Prop, (∀ s, AOpsS P n B w0 ops K rest s → K' s) → EffStep P o.dst o.op K' st) : AOpsS P n B w0 ops K (o :: rest) st := by
  intro a w ρ I hG next Q hnx
  rw [ZA3 hg hG]
  have h' := h _ fun _ h => h
  refine toIn (fun c' hc' => ?_) (ZEd hG hd h' next Q hnx)
  rw [hc'] at h'; exact h'

mutual
def AV.fo (p : Nat → Prop) : AV → Prop
  | .v _ => True
  | .s id => p id
  | .w id _ _ => p id
  | .p id _ => p id
  | .i fr c _ _ _ => fr = true ∧ ∀ e j, AV.fresh (c e j)
  | .q fr c _ _ _ => fr = true ∧ ∀ e j, AV.fresh (c e j)
  | .a cs => AV.foL p cs
  | .t cs => AV.foL p cs
  | .f _ cs => AV.foL p cs
  | .g _ x => AV.fo p x
  | .top => True
def AV.foL (p : Nat → Prop) : List AV → Prop
  | [] => True
  | x :: r => AV.fo p x ∧ AV.foL p r
end
theorem ZDA {p : Nat → Prop} : ∀ {cs : List AV} (_ : AV.foL p cs) (j : Nat), (cs.getD j .top).fo p
  | [], _, _ => by simp [AV.fo]
  | x :: r, h, 0 => by simp only [AV.foL] at h; simpa using h.1
  | x :: r, h, j + 1 => by simp only [AV.foL] at h; simpa using ZDA h.2 j
theorem ZHv {p : Nat → Prop} : ∀ {cs : List AV}, (∀ x ∈ cs, x.fo p) → AV.foL p cs
  | [], _ => by simp only [AV.foL]
  | x :: r, h => by simp only [AV.foL]; exact ⟨h x (by simp), ZHv fun y hy => h y (by simp [hy])⟩
theorem Conc.fo {p : Nat → Prop} {B : Nat} {I I' : Nat → Prop} {w : World} {ρ : Nat → Option Value} {x : AV} {u : Value} (h : Conc B I w ρ x u) : x.fo p → (∀ b, B ≤ b → I b → I' b) → ∀ ρ', (∀ id, p id → ρ' id = ρ id) → Conc B I' w ρ' x u := by
  induction h with
  | v x => intro _ _ ρ' _; exact .v x
  | s id x h h1 => intro hg _ ρ' hr; exact .s id x (by rw [hr id hg]; exact h) h1
  | w id off len cap A x h hcap hA => intro hg _ ρ' hr; exact .w id off len cap A x (by rw [hr id hg]; exact h) hcap hA
  | p id off b x h hb => intro hg _ ρ' hr; exact .p id off b x (by rw [hr id hg]; exact h) hb
  | i fr c sz off len cap A u hcap hA hc ih =>
    intro hg hI ρ' _
    rw [AV.fo] at hg
    refine .i fr c sz off len cap A u hcap (fun hl => ?_) (fun e f he hf' => (hc e f he hf').fresh (hg.2 _ _) hI)
    obtain ⟨ad, h1, h2, h3, h4⟩ := hA hl
    exact ⟨ad, h1, hI _ (h3 hg.1) h2, h3, h4⟩
  | q fr c sz e f ad u h2 h3 hcell hc ih =>
    intro hg hI ρ' _
    rw [AV.fo] at hg
    exact .q fr c sz e f ad u (hI _ (h3 hg.1) h2) h3 hcell (fun j hj => (hc j hj).fresh (hg.2 _ _) hI)
  | a cs us hl h ih => intro hg hI ρ' hr; rw [AV.fo] at hg; exact .a cs us hl fun j hj => ih j hj (ZDA hg j) hI ρ' hr
  | t cs us hl h ih => intro hg hI ρ' hr; rw [AV.fo] at hg; exact .t cs us hl fun j hj => ih j hj (ZDA hg j) hI ρ' hr
  | f fn cs us hl h ih => intro hg hI ρ' hr; rw [AV.fo] at hg; exact .f fn cs us hl fun j hj => ih j hj (ZDA hg j) hI ρ' hr
  | g b x u h h0 ih => intro hg hI ρ' hr; rw [AV.fo] at hg; exact .g b x u (fun hb => ih hb hg hI ρ' hr) h0
  | top u => intro _ _ ρ' _; exact .top u
def Cont.fo (p : Nat → Prop) : Cont → Prop
  | .avs l => AV.foL p l
  | _ => True
theorem Cont.fo_at {p : Nat → Prop} {c : Cont} (h : c.fo p) (j : Nat) : (c.at j).fo p := by
  cases c with
  | ints k l => simp only [Cont.at, AV.fo]
  | vals l => simp only [Cont.at, AV.fo]
  | avs l => exact ZDA h j
def Blk.fo (p : Nat → Prop) : Blk → Prop
  | .box _ c => c.fo p
  | .row _ _ c => c.fo (fun _ => False)
  | .mp _ => True
  | .nst _ c => c.fo p
  | .mpa _ _ c => c.fo p
theorem BlkOK.fo {p : Nat → Prop} {B : Nat} {I I' : Nat → Prop} {w : World} {ρ ρ' : Nat → Option Value} {x : Value} {blk : Blk} (h : BlkOK B I w ρ x blk) (ho : blk.fo p) (hI : ∀ b, B ≤ b → I b → I' b) (hr : ∀ id, p id → ρ' id = ρ id) : BlkOK B I' w ρ' x blk := by
  cases blk with
  | box t c =>
    obtain ⟨b, us, rfl, hB, hh, hl, hc⟩ := h
    exact ⟨b, us, rfl, hB, hh, hl, fun j u hu => (hc j u hu).fo (Cont.fo_at ho j) hI _ hr⟩
  | row e sz c =>
    obtain ⟨m, xs, ho', hl, hc⟩ := h
    exact ⟨m, xs, ho', hl, fun j u hu => (hc j u hu).fo (Cont.fo_at ho j) hI _ (fun _ h => h.elim)⟩
  | mp c => exact h
  | nst e c =>
    obtain ⟨m, xs, ho', hl, hc⟩ := h
    exact ⟨m, xs, ho', hl, fun j u hu => (hc j u hu).fo (Cont.fo_at ho j) hI _ hr⟩
  | mpa kd ks c =>
    obtain ⟨b, vals, rfl, hB, hm, hl, hl2, hc⟩ := h
    exact ⟨b, vals, rfl, hB, hm, hl, hl2, fun j u hu => (hc j u hu).fo (Cont.fo_at ho j) hI _ hr⟩
theorem BlkOK.base {B B' : Nat} {I : Nat → Prop} {w : World} {ρ : Nat → Option Value} {x : Value} {blk : Blk} (h : BlkOK B I w ρ x blk) (hB' : B' ≤ B) : BlkOK B' I w ρ x blk := by
  have hc' : ∀ {ρ' : Nat → Option Value} {x : AV} {u : Value}, Conc B I w ρ' x u → Conc B' I w ρ' x u := fun h => h.mono hB' (fun b hb => ⟨hb, rfl⟩) _ (fun _ _ h => h)
  cases blk with
  | box t c =>
    obtain ⟨b, us, rfl, hB, hh, hl, hc⟩ := h
    exact ⟨b, us, rfl, Nat.le_trans hB' hB, hh, hl, fun j u hu => hc' (hc j u hu)⟩
  | row e sz c =>
    obtain ⟨m, xs, ho', hl, hc⟩ := h
    exact ⟨m, xs, ZBr ho' hB', hl, fun j u hu => hc' (hc j u hu)⟩
  | mp c =>
    obtain ⟨b, rfl, hB, hm⟩ := h
    exact ⟨b, rfl, Nat.le_trans hB' hB, hm⟩
  | nst e c =>
    obtain ⟨m, xs, ho', hl, hc⟩ := h
    exact ⟨m, xs, ZBr ho' hB', hl, fun j u hu => hc' (hc j u hu)⟩
  | mpa kd ks c =>
    obtain ⟨b, vals, rfl, hB, hm, hl, hl2, hc⟩ := h
    exact ⟨b, vals, rfl, Nat.le_trans hB' hB, hm, hl, hl2, fun j u hu => hc' (hc j u hu)⟩
def foH (p : Nat → Prop) : List (Nat × Blk) → Prop
  | [] => True
  | (_, b) :: r => b.fo p ∧ foH p r
theorem ZJX {p : Nat → Prop} : ∀ {H : List (Nat × Blk)} {id : Nat} {b : Blk}, foH p H → lkH H id = some b → b.fo p
  | [], _, _, _, h => by cases h
  | (k, c) :: r, id, b, hg, h => by
    simp only [lkH] at h
    split at h
    · injection h with h; subst h; exact hg.1
    · exact ZJX hg.2 h
theorem BlkOK.ids {p : Nat → Prop} {B : Nat} {I : Nat → Prop} {w : World} {ρ ρ' : Nat → Option Value} {x : Value} {blk : Blk} (h : BlkOK B I w ρ x blk) (ho : blk.ids p) (hr : ∀ id, p id → ρ' id = ρ id) : BlkOK B I w ρ' x blk := by
  cases blk with
  | box t c =>
    obtain ⟨b, us, rfl, hB, hh, hl, hc⟩ := h
    exact ⟨b, us, rfl, hB, hh, hl, fun j u hu => (hc j u hu).ids (Cont.ids_at ho j) _ hr⟩
  | row e sz c => exact h
  | mp c => exact h
  | nst e c =>
    obtain ⟨m, xs, ho', hl, hc⟩ := h
    exact ⟨m, xs, ho', hl, fun j u hu => (hc j u hu).ids (Cont.ids_nst ho j) _ hr⟩
  | mpa kd ks c =>
    obtain ⟨b, vals, rfl, hB, hm, hl, hl2, hc⟩ := h
    exact ⟨b, vals, rfl, hB, hm, hl, hl2, fun j u hu => (hc j u hu).ids (Cont.ids_mpa ho j) _ hr⟩
def NewStep (P : Program) (dst : Option Nat) (op : Op) (K : St → Prop) (gh : Nat → Option (Option Value)) (st : St) : Prop :=
  match callee? st.ev op with
  | some (ψ, k, args) => (ψ ∧ condL args) ∧ ∃ r H' M, Eff P k (pubL st.heap args) [] r H' ∧ (∀ id blk, lkH H' id = some blk → M ≤ id) ∧ idsE (· < M) st.env ∧ idsH (· < M) st.heap ∧ (∀ id, M ≤ id → gh id = none) ∧ AV.fo (M ≤ ·) r ∧ foH (M ≤ ·) H' ∧ K (St.put ⟨st.env, H' ++ st.heap⟩ dst r)
  | none => False
theorem ZHK {P : Program} {n B : Nat} {w0 : Orig} {st : St} {a : Act} {w : World} {ρ : Nat → Option Value} {I : Nat → Prop} (hG : Gam n B w0 st a w ρ I) {o : Oper} (hd : dstOk n o.dst) {K : St → Prop} (h : NewStep P o.dst o.op K w0.gh st) : StepOk P n B w0 o a w K := by
  intro next Q hn
  unfold NewStep at h
  split at h <;> first | exact h.elim | skip
  rename_i ψ k args hc
  obtain ⟨⟨hψ, hcond⟩, r, H', M, ⟨⟨fn, hf, hname, hbody⟩, hcall⟩, hM, hE, hH, hgh, hro, hHo, hK⟩ := h
  obtain ⟨vs, hrun, hvs⟩ := ZBM (fun x => hG.ev x) hc hψ hf hname hbody
  unfold Oper.wp
  rw [hrun, Oper.upon_enter]
  have hargs : ConcL w.heap.size (allB w) w noId (pubL st.heap args) vs.toList := ⟨by rw [ZAp]; exact hvs.1, fun j hj => by
    rw [ZAp] at hj
    rw [ZBy _ _ _ hj]
    exact ZFi false hG.hw (fun h => by cases h) hG.hw.lt (fun b _ h => h) 6 (.inl rfl) ((hvs.2 j hj).strip (ZA4 hcond j))⟩
  refine (hcall w.heap.size w (allB w) noId vs hargs ⟨fun id blk hk => (by cases hk), fun _ _ _ _ _ _ _ _ hk => (by cases hk), fun _ _ _ _ hk => (by cases hk), fun b hb => hb⟩ (Nat.le_refl _)).mono fun en w' he => ?_
  obtain ⟨v, ρ', I', rfl, hv, hHW', hpin, hkeep, hup, hbel⟩ := he
  have hbw : ∀ b, b < w.heap.size → w'.heap[b]? = w.heap[b]? := fun b hb => hbel.block b hb
  have hII : ∀ b, I b → (fun b => I b ∨ (I' b ∧ w.heap.size ≤ b)) b ∧ w'.heap[b]? = w.heap[b]? := fun b hb => ⟨.inl hb, hbw b (hG.hw.lt b hb)⟩
  have hI2 : ∀ b, w.heap.size ≤ b → I' b → I b ∨ (I' b ∧ w.heap.size ≤ b) := fun b h1 h2 => .inr ⟨h2, h1⟩
  have hlo : ∀ id, id < M → (if id < M then ρ id else ρ' id) = ρ id := fun id h => if_pos h
  have hhi : ∀ id, M ≤ id → (if id < M then ρ id else ρ' id) = ρ' id := fun id h => if_neg (by omega)
  have look : ∀ id blk, lkH (H' ++ st.heap) id = some blk → (lkH H' id = some blk ∧ M ≤ id) ∨ (id < M ∧ lkH st.heap id = some blk ∧ blk.ids (· < M)) := fun id blk hk => by
    rw [ZDk] at hk
    cases h1 : lkH H' id with
    | some b => rw [h1] at hk; injection hk with hk; subst hk; exact .inl ⟨rfl, hM id _ h1⟩
    | none => rw [h1] at hk; exact .inr ⟨(ZCB hH hk).1, hk, (ZCB hH hk).2⟩
  have ok1 : ∀ id blk, lkH H' id = some blk → ∃ x, ρ' id = some x ∧ BlkOK B (fun b => I b ∨ (I' b ∧ w.heap.size ≤ b)) w' (fun id => if id < M then ρ id else ρ' id) x blk ∧ ∀ b, rootBlk x = some b → w.heap.size ≤ b := fun id blk h1 => by
    obtain ⟨x, hx, hok⟩ := hHW'.ok id blk h1
    exact ⟨x, hx, (hok.fo (ZJX hHo h1) hI2 (fun id hid => hhi id hid)).base hG.base, fun b hb => (hok.lt hb).1⟩
  refine hn _ _ _ hK ⟨fun id => if id < M then ρ id else ρ' id, fun b => I b ∨ (I' b ∧ w.heap.size ≤ b), Gam.put (st := ⟨st.env, H' ++ st.heap⟩) (d := o.dst) ⟨hG.defers.mono hII, hG.size, fun s => ?_, ⟨fun id blk hk => ?_, fun id id' b1 b2 x x' b hne k1 k2 hx hx' hb => ?_, fun id blk x b hk hx hb hI => ?_, fun b hb => ?_⟩, hG.below.trans (hbel.mono hG.base), Nat.le_trans hG.base hbel.size, ⟨fun b hb => ?_, fun id x hx => ?_, hG.old.ghn, fun b hb => ?_⟩⟩ (fun k hk => by rw [hk] at hd; exact hd) ((hv.fo hro hI2 _ (fun id hid => hhi id hid)).mono hG.base (fun b hb => ⟨hb, rfl⟩) _ (fun _ _ h => h))⟩
  · exact ((hG.env s).mono (Nat.le_refl _) hII ρ (fun _ _ h => h)).ids (ZFB hE s) _ hlo
  · rcases look id blk hk with ⟨h1, h2⟩ | ⟨h1, h2, h3⟩
    · obtain ⟨x, hx, hok, _⟩ := ok1 id blk h1
      exact ⟨x, by rw [hhi id h2]; exact hx, hok⟩
    · obtain ⟨x, hx, hok⟩ := hG.hw.ok id blk h2
      exact ⟨x, by rw [hlo id h1]; exact hx, (hok.move (fun b hb => hbw b (hok.lt hb).2) hII (fun _ _ h => h)).ids h3 hlo⟩
  · rcases look id b1 k1 with ⟨h1, h2⟩ | ⟨h1, h2, h3⟩
    · rw [hhi id h2] at hx
      rcases look id' b2 k2 with ⟨g1, g2⟩ | ⟨g1, g2, g3⟩
      · rw [hhi id' g2] at hx'
        exact hHW'.apart id id' b1 b2 x x' b hne h1 g1 hx hx' hb
      · rw [hlo id' g1] at hx'
        obtain ⟨y, hy, _, hroot⟩ := ok1 id b1 h1
        rw [hx] at hy; injection hy with hy; subst hy
        obtain ⟨y, hy, hok⟩ := hG.hw.ok id' b2 g2
        rw [hx'] at hy; injection hy with hy; subst hy
        exact fun hb' => by have := (hok.lt hb').2; have := hroot b hb; omega
    · rw [hlo id h1] at hx
      rcases look id' b2 k2 with ⟨g1, g2⟩ | ⟨g1, g2, g3⟩
      · rw [hhi id' g2] at hx'
        obtain ⟨y, hy, _, hroot⟩ := ok1 id' b2 g1
        rw [hx'] at hy; injection hy with hy; subst hy
        obtain ⟨y, hy, hok⟩ := hG.hw.ok id b1 h2
        rw [hx] at hy; injection hy with hy; subst hy
        exact fun hb' => by have := (hok.lt hb).2; have := hroot b hb'; omega
      · rw [hlo id' g1] at hx'
        exact hG.hw.apart id id' b1 b2 x x' b hne h2 g2 hx hx' hb
  · rcases look id blk hk with ⟨h1, h2⟩ | ⟨h1, h2, h3⟩
    · rw [hhi id h2] at hx
      obtain ⟨y, hy, _, hroot⟩ := ok1 id blk h1
      rw [hx] at hy; injection hy with hy; subst hy
      rcases hI with hI | hI
      · have := hG.hw.lt b hI; have := hroot b hb; omega
      · exact hHW'.imm id blk x b h1 hx hb hI.1
    · rw [hlo id h1] at hx
      obtain ⟨y, hy, hok⟩ := hG.hw.ok id blk h2
      rw [hx] at hy; injection hy with hy; subst hy
      rcases hI with hI | hI
      · exact hG.hw.imm id blk x b h2 hx hb hI
      · have := (hok.lt hb).2; omega
  · rcases hb with hb | hb
    · exact Nat.lt_of_lt_of_le (hG.hw.lt b hb) hbel.size
    · exact hHW'.lt b hb.1
  · rcases hb with hb | hb
    · exact hG.old.up b hb
    · exact .inr (Nat.le_trans hG.base hb.2)
  · by_cases e : id < M
    · show (if id < M then ρ id else ρ' id) = x
      rw [if_pos e]; exact hG.old.gh id x hx
    · rw [hgh id (by omega)] at hx; cases hx
  · obtain ⟨g1, g2⟩ := hG.old.keep b hb
    exact ⟨.inl g1, (hII b g1).2.trans g2⟩
theorem ZFt {P : Program} {n B : Nat} {w0 : Orig} {ops : Array Oper} {K : St → Prop} {o : Oper} {rest : List Oper} {st : St} (hg : o.guard = none) (hd : dstOk n o.dst) (h : ∀ K' : St → Prop, (∀ s, AOpsS P n B w0 ops K rest s → K' s) → NewStep P o.dst o.op K' w0.gh st) : AOpsS P n B w0 ops K (o :: rest) st := by
  intro a w ρ I hG next Q hnx
  rw [ZA3 hg hG]
  have h' := h _ fun _ h => h
  refine toIn (fun c' hc' => ?_) (ZHK hG hd h' next Q hnx)
  rw [hc'] at h'; exact h'
attribute [push_cast] EffStep NewStep EndsF finF viewA viewC viewCL AV.own AV.ownL Cont.own Blk.own ownH AV.fo AV.foL Cont.fo Blk.fo foH
end Go.Eng
namespace Go.Eng
open Go.RowKit
set_option linter.unusedVariables false

/-! ### Families -/
def fam : Nat → List Blk → List (Nat × Blk)
  | _, [] => []
  | base, b :: r => (base, b) :: fam (base + 1) r
theorem ZGH : ∀ (L : List Blk) (base id : Nat), lkH (fam base L) id = if base ≤ id then L[id - base]? else none
  | [], base, id => by simp [fam, lkH]
  | b :: r, base, id => by
    simp only [fam, lkH]
    by_cases e : base = id
    · subst e; simp
    · rw [if_neg e, ZGH r (base + 1) id]
      by_cases h : base ≤ id
      · rw [if_pos h, if_pos (by omega), show id - base = (id - (base + 1)) + 1 by omega]; simp
      · rw [if_neg h, if_neg (by omega)]
theorem G.wkL {n B : Nat} {w0 : Orig} {st st' : St} (hE : ∀ s, lk st'.env s = .top ∨ lk st'.env s = lk st.env s) (hH : ∀ s b, lkH st'.heap s = some b → lkH st.heap s = some b) : ∀ a w, G n B w0 st a w → G n B w0 st' a w := fun a w ⟨ρ, I, h⟩ =>
  ⟨ρ, I, h.defers, h.size, fun s => by
    rcases hE s with e | e
    · rw [e]; exact .top _
    · rw [e]; exact h.env s, h.hw.sub hH, h.below, h.base, h.old⟩
def frzF (base : Nat) (L : List (List Int)) : AV → AV
  | .s id => if base ≤ id ∧ id < base + L.length then .i true (fun e _ => .v (.int .i64 ((L.getD (id - base) []).getD e 0))) 1 0 (L.getD (id - base) []).length else .s id
  | x => x
def frzFC (base : Nat) (L : List (List Int)) : Cont → Cont
  | .avs l => .avs (l.map (frzF base L))
  | .ints k l => .ints k l
  | .vals l => .vals l
def frzFB (base : Nat) (L : List (List Int)) : Blk → Blk
  | .nst e c => .nst e (frzFC base L c)
  | .box t c => .box t (frzFC base L c)
  | .row e sz c => .row e sz c
  | .mp c => .mp c
  | .mpa kd ks c => .mpa kd ks (frzFC base L c)
def frzFH (base : Nat) (L : List (List Int)) : List (Nat × Blk) → List (Nat × Blk)
  | [] => []
  | (k, b) :: r => (k, frzFB base L b) :: frzFH base L r
theorem ZCR {base : Nat} {L : List (List Int)} : ∀ {H : List (Nat × Blk)} {id : Nat} {b' : Blk}, lkH (frzFH base L H) id = some b' → ∃ b, lkH H id = some b ∧ b' = frzFB base L b
  | [], _, _, h => by cases h
  | (k, b) :: r, id, b', h => by
    simp only [frzFH, lkH] at h ⊢
    split at h
    · rename_i e; injection h with h; exact ⟨b, by rw [if_pos e], h.symm⟩
    · rename_i e; rw [if_neg e]; exact ZCR h
theorem ZD0 (base : Nat) (L : List (List Int)) (c : Cont) : (frzFC base L c).len = c.len := by cases c <;> simp [frzFC, Cont.len]
theorem ZFF (base : Nat) (L : List (List Int)) (c : Cont) (j : Nat) : (frzFC base L c).at j = frzF base L (c.at j) := by
  cases c with
  | ints k l => rfl
  | vals l => rfl
  | avs l =>
    simp only [frzFC, Cont.at, List.getD_eq_getElem?_getD, List.getElem?_map]
    cases l[j]? <;> rfl
theorem G.freezeF {n B : Nat} {w0 : Orig} {st : St} {a : Act} {w : World} (hG : G n B w0 st a w) (base : Nat) (e : TypeId) (L : List (List Int)) (hrows : ∀ j, j < L.length → lkH st.heap (base + j) = some (.row e 1 (.ints .i64 (L.getD j [])))) (H0 : List (Nat × Blk)) (hsub : ∀ id b, lkH H0 id = some b → id < base ∧ lkH st.heap id = some b) : G n B w0 ⟨st.env.map fun p => (p.1, frzF base L p.2), frzFH base L H0⟩ a w := by
  obtain ⟨ρ, I, h⟩ := hG
  have hII : ∀ b, I b → (fun b => I b ∨ ∃ j x, j < L.length ∧ ρ (base + j) = some x ∧ rootBlk x = some b) b ∧ w.heap[b]? = w.heap[b]? := fun b hb => ⟨.inl hb, rfl⟩
  have hF : ∀ (x1 : AV) (u1 : Value), Conc B I w ρ x1 u1 → Conc B (fun b => I b ∨ ∃ j x, j < L.length ∧ ρ (base + j) = some x ∧ rootBlk x = some b) w ρ (frzF base L x1) u1 := by
    intro x1 u1 hs
    have gen := hs.mono (Nat.le_refl _) hII ρ (fun _ _ h => h)
    cases hv : x1 with
    | s id =>
      rw [hv] at hs gen
      simp only [frzF]
      split
      · rename_i hid
        cases hs with
        | s _ _ hr h1 =>
          obtain ⟨y, hy, m, xs, ho, hlen, hc⟩ := h.hw.ok _ _ (hrows (id - base) (by omega))
          rw [show base + (id - base) = id by omega] at hy
          rw [hr] at hy; injection hy with hy; subst hy
          generalize hl : L.getD (id - base) [] = l at *
          have hm : m = l.length := by simp only [Cont.len] at hlen; omega
          subst hm
          have hxs : xs.length = l.length := by have := ho.1; simpa using this
          have hcell : ∀ e, e < l.length → xs[e]? = some (.int .i64 (l.getD e 0)) := fun e he => by
            have h3 := hc e xs[e] (List.getElem?_eq_getElem (by omega))
            simp only [Cont.at] at h3
            rw [List.getElem?_eq_getElem (by omega), h3.v_inv]
          rcases ho.2 with ⟨rfl, h0⟩ | ⟨g, cap, cur, rfl, hbg, hg, hnc, _⟩
          · obtain rfl : l = [] := List.length_eq_zero_iff.1 h0
            exact .i _ _ _ _ _ 0 none (fun _ _ => undef) (Nat.le_refl _) (fun hp => absurd hp (by simp)) (fun e f he => absurd he (by simp))
          · refine .i _ _ _ _ _ _ _ (fun el j => .int .i64 (l.getD el 0)) hnc (fun hp => ⟨_, rfl, .inr ⟨id - base, _, by omega, by rw [show base + (id - base) = id by omega]; exact hr, rfl⟩, (fun _ => hbg), fun el j he hj => ?_⟩) (fun el j he hj => by rw [Nat.zero_add]; exact .v _)
            have := ho.cells rfl el _ (hcell el he)
            have hj0 : j = 0 := by omega
            subst hj0
            simpa using this
      · exact gen
    | _ => rw [hv] at gen; exact gen
  have hE : ∀ s, lk (st.env.map fun p => (p.1, frzF base L p.2)) s = frzF base L (lk st.env s) := fun s => by
    induction st.env with
    | nil => rfl
    | cons p r ih =>
      obtain ⟨k, x⟩ := p
      simp only [List.map_cons, lk]
      split
      · rfl
      · exact ih
  refine ⟨ρ, fun b => I b ∨ ∃ j x, j < L.length ∧ ρ (base + j) = some x ∧ rootBlk x = some b, h.defers.mono hII, h.size, fun s => ?_, ⟨fun id blk' hk' => ?_, fun id id' b1 b2 y y' b hne h1 h2 hy hy' hb => ?_, fun id blk' y b hk' hy hb hI => ?_, fun b hb => ?_⟩, h.below, h.base, ⟨fun b hb => ?_, h.old.gh, h.old.ghn, fun b hb => ⟨.inl (h.old.keep b hb).1, (h.old.keep b hb).2⟩⟩⟩
  · show Conc _ _ _ _ (lk (st.env.map _) s) _
    rw [hE]; exact hF _ _ (h.env s)
  · obtain ⟨b0, h0, rfl⟩ := ZCR hk'
    obtain ⟨hid, h1⟩ := hsub id b0 h0
    obtain ⟨y, hy, hok⟩ := h.hw.ok id b0 h1
    refine ⟨y, hy, ?_⟩
    cases b0 with
    | nst el c =>
      obtain ⟨m, xs, ho, hl, hc⟩ := hok
      exact ⟨m, xs, ho, by rw [ZD0]; exact hl, fun j u hu => by rw [ZFF]; exact hF _ _ (hc j u hu)⟩
    | box t c =>
      obtain ⟨b, us, rfl, hB, hh, hl, hc⟩ := hok
      exact ⟨b, us, rfl, hB, hh, by rw [ZD0]; exact hl, fun j u hu => by rw [ZFF]; exact hF _ _ (hc j u hu)⟩
    | row el sz c => exact BlkOK.move hok (fun b _ => rfl) hII (fun _ _ h => h)
    | mp c => exact hok
    | mpa kd ks c =>
      obtain ⟨b, vals, rfl, hB, hm, hl, hl2, hc⟩ := hok
      exact ⟨b, vals, rfl, hB, hm, hl, by rw [ZD0]; exact hl2, fun j u hu => by rw [ZFF]; exact hF _ _ (hc j u hu)⟩
  · obtain ⟨c1, hc1, rfl⟩ := ZCR h1
    obtain ⟨c2, hc2, rfl⟩ := ZCR h2
    exact h.hw.apart id id' c1 c2 y y' b hne (hsub _ _ hc1).2 (hsub _ _ hc2).2 hy hy' hb
  · obtain ⟨b0, h0, rfl⟩ := ZCR hk'
    obtain ⟨hid, h1⟩ := hsub id b0 h0
    rcases hI with hI | ⟨j, x, hj, hx, hbx⟩
    · exact h.hw.imm id b0 y b h1 hy hb hI
    · exact h.hw.apart id (base + j) b0 _ y x b (by omega) h1 (hrows j hj) hy hx hb hbx
  · rcases hb with hb | ⟨j, x, hj, hx, hbx⟩
    · exact h.hw.lt b hb
    · obtain ⟨y, hy, hok⟩ := h.hw.ok _ _ (hrows j hj)
      rw [hx] at hy; injection hy with hy; subst hy
      exact (hok.lt hbx).2
  · rcases hb with hb | ⟨j, x, hj, hx, hbx⟩
    · exact h.old.up b hb
    · obtain ⟨y, hy, hok⟩ := h.hw.ok _ _ (hrows j hj)
      rw [hx] at hy; injection hy with hy; subst hy
      exact .inr (hok.lt hbx).1

/-! ### Interfaces whose value is known -/
def InvStep (P : Program) (g : Option (Nat × Bool)) (dst : Option Nat) (op : Op) (K : St → Prop) (st : St) : Prop :=
  match op with
  | .call c => match c.callee with
    | .invoke r m => match (st.ev r).strip, guardS st g with
      | .v (.iface t pl), some (some true) => ((st.ev r).cond ∧ condL (c.args.toList.map st.ev)) ∧ ∃ k rcv res, (∀ w : World, (method (P.types.size + Made.depth) t pl m).run P w = .ok (k, rcv) w) ∧ Pure P k (ofVal rcv :: pubL st.heap (c.args.toList.map st.ev)) res ∧ res.fresh ∧ K (st.put dst (.g true res))
      | .v (.iface t pl), some none => ((st.ev r).cond ∧ condL (c.args.toList.map st.ev)) ∧ ∃ k rcv res, (∀ w : World, (method (P.types.size + Made.depth) t pl m).run P w = .ok (k, rcv) w) ∧ Pure P k (ofVal rcv :: pubL st.heap (c.args.toList.map st.ev)) res ∧ res.fresh ∧ K (st.put dst res)
      | _, _ => False
    | _ => False
  | _ => False
theorem ZJx {P : Program} {w : World} {ρv : Operand → Value} {o : Oper} {c : Call} {r : Operand} {m : String} {t : TypeId} {pl rcv : Value} {k : FuncId} (ho : o.op = .call c) (hc : c.callee = .invoke r m) (hr : ρv r = .iface t pl) (hm : ∀ w : World, (method (P.types.size + Made.depth) t pl m).run P w = .ok (k, rcv) w)
    {fn : Func} (hf : P.funcs[k]? = some fn) (hname : (fn.name == "runtime.NumGoroutine") = false) (hbody : fn.body.isNone = false) : (execOp ρv o).run P w = .ok (.enter k (#[rcv] ++ c.args.map ρv)) w := by
  have hname' : ¬ fn.name = "runtime.NumGoroutine" := by simpa using hname
  have hbody' : ¬ fn.body = none := fun h => by rw [h] at hbody; cases hbody
  have e0 : (#[Value.iface t pl] ++ c.args.map ρv)[0]? = some (.iface t pl) := by simp [Array.getElem?_append]
  have e1 : (c.args.map ρv).extract 0 c.args.size = c.args.map ρv := by
    have : c.args.size = (c.args.map ρv).size := by simp
    rw [this]; exact Array.extract_size
  simp [execOp, ho, resolve, hc, invoke, callMethod, hr, e0, e1, hm, callFunc, hf, hname', hbody', Result.andThen]
theorem ZGm {P : Program} {n B : Nat} {w0 : Orig} {st : St} {a : Act} {w : World} {ρ : Nat → Option Value} {I : Nat → Prop} (hG : Gam n B w0 st a w ρ I) {o : Oper} {c : Call} {r : Operand} {m : String} {t : TypeId} {pl rcv : Value} {k : FuncId} {res : AV} (ho : o.op = .call c) (hc : c.callee = .invoke r m) (hr : (st.ev r).strip = .v (.iface t pl)) (cr : (st.ev r).cond) (hcond : condL (c.args.toList.map st.ev)) (hm : ∀ w : World, (method (P.types.size + Made.depth) t pl m).run P w = .ok (k, rcv) w) (hp : Pure P k (ofVal rcv :: pubL st.heap (c.args.toList.map st.ev)) res) (hfr : res.fresh)
    (next : Act → World → Prop) (Q : Exit → Act → World → Prop) (hn : ∀ v w' I', Quiet I w I' w' → Conc B I' w' ρ res v → next (a.put o.dst v) w') : o.wp P a w next Q := by
  obtain ⟨⟨fn, hf, hname, hbody⟩, hcall⟩ := hp
  have hrv := (hG.ev r).strip cr
  rw [hr] at hrv
  have hrv := hrv.v_inv
  unfold Oper.wp
  rw [ZJx ho hc hrv hm hf hname hbody, Oper.upon_enter]
  have mapL : ∀ (l : List Operand), ConcL B I w ρ (l.map st.ev) (l.map a.eval) := fun l => ⟨by simp, fun j hj => by
    simp at hj
    have h1 : (l.map st.ev).getD j .top = st.ev l[j] := by simp [List.getD_eq_getElem?_getD, hj]
    have h2 : (l.map a.eval).getD j undef = a.eval l[j] := by simp [List.getD_eq_getElem?_getD, hj]
    rw [h1, h2]; exact hG.ev _⟩
  have quiet : ∀ w', Below w.heap.size w w' → Quiet I w (fun b => I b ∨ (w.heap.size ≤ b ∧ b < w'.heap.size)) w' := fun w' hb =>
    ⟨hb, fun b hb => .inl hb, fun b hb hn => by rcases hb with hb | hb; exact absurd hb hn; exact hb.1, fun b hb' => by
        rcases hb' with hb' | hb'
        · exact Nat.lt_of_lt_of_le (hG.hw.lt b hb') hb.size
        · exact hb'.2⟩
  have hargs : ConcL w.heap.size (allB w) w noId (ofVal rcv :: pubL st.heap (c.args.toList.map st.ev)) (#[rcv] ++ c.args.map a.eval).toList := by
    have h0 := mapL c.args.toList
    have h1 : ConcL w.heap.size (allB w) w noId (pubL st.heap (c.args.toList.map st.ev)) (c.args.toList.map a.eval) := ⟨by rw [ZAp]; exact h0.1, fun j hj => by
      rw [ZAp] at hj
      rw [ZBy _ _ _ hj]
      exact ZFi false hG.hw (fun h => by cases h) hG.hw.lt (fun b _ h => h) 6 (.inl rfl) ((h0.2 j hj).strip (ZA4 hcond j))⟩
    have e : (#[rcv] ++ c.args.map a.eval).toList = rcv :: c.args.toList.map a.eval := by simp
    rw [e]
    exact ConcL.cons (ZBx _) h1
  refine (hcall w (allB w) _ (fun b hb => hb) hargs).mono fun e w' he => ?_
  obtain ⟨v, rfl, hb, hcv⟩ := he
  refine hn v w' _ (quiet w' hb) ?_
  have h2 := hcv.fresh (I' := fun b => I b ∨ (w.heap.size ≤ b ∧ b < w'.heap.size)) hfr (fun b hb1 hb2 => by
    rcases hb2 with hb2 | hb2
    · have : b < w.heap.size := hb2; omega
    · exact .inr hb2)
  exact (h2.mono hG.base (fun b hb => ⟨hb, rfl⟩) ρ (fun _ _ h => by cases h))
theorem ZFu {P : Program} {n B : Nat} {w0 : Orig} {ops : Array Oper} {K : St → Prop} {o : Oper} {rest : List Oper} {st : St} {g : Option (Nat × Bool)} (hg : gOf ops o.guard = some g) (hd : dstOk n o.dst) (h : ∀ K' : St → Prop, (∀ s, AOpsS P n B w0 ops K rest s → K' s) → InvStep P g o.dst o.op K' st) : AOpsS P n B w0 ops K (o :: rest) st := by
  intro a w ρ I hG next Q hnx
  have h' := h _ fun _ h => h
  unfold InvStep at h'
  split at h' <;> first | exact h'.elim | skip
  rename_i c ho
  split at h' <;> first | exact h'.elim | skip
  rename_i r m hc
  have hnd : ∀ c', o.op ≠ .defer c' := fun c' hc' => by rw [hc'] at ho; cases ho
  split at h' <;> first | exact h'.elim | skip
  · rename_i t pl hr hgs
    obtain ⟨⟨cr, hcond⟩, k, rcv, res, hm, hp, hfr, hK⟩ := h'
    have hw := ZBC hG (ops := ops) (o := o) (g := some true) (by rw [ZBd hg]; exact hgs)
    rw [hw]
    exact toIn hnd (ZGm hG ho hc hr cr hcond hm hp hfr next Q fun v w' I' hq hv => hnx _ _ _ hK ⟨ρ, I', (hG.quiet hq).put (ZCL hd) (.g true res _ (fun _ => hv) (fun h => by cases h))⟩)
  · rename_i t pl hr hgs
    obtain ⟨⟨cr, hcond⟩, k, rcv, res, hm, hp, hfr, hK⟩ := h'
    have hw := ZBC hG (ops := ops) (o := o) (g := none) (by rw [ZBd hg]; exact hgs)
    rw [hw]
    exact toIn hnd (ZGm hG ho hc hr cr hcond hm hp hfr next Q fun v w' I' hq hv => hnx _ _ _ hK ⟨ρ, I', (hG.quiet hq).put (ZCL hd) hv⟩)
def MkiStep (T : Tab) (dst : Option Nat) (op : Op) (K : St → Prop) (st : St) : Prop :=
  match op with
  | .makeInterface t x => match T t, (st.ev x).strip with
    | some ⟨.st _ _, _, _, _⟩, .a [] => (st.ev x).cond ∧ K (st.put dst (.v (.iface t (.agg #[]))))
    | _, _ => False
  | _ => False
theorem ZFv {P : Program} {T : Tab} (hT : T.ok P) {n B : Nat} {w0 : Orig} {ops : Array Oper} {K : St → Prop} {o : Oper} {rest : List Oper} {st : St} (hg : o.guard = none) (hd : dstOk n o.dst) (h : ∀ K' : St → Prop, (∀ s, AOpsS P n B w0 ops K rest s → K' s) → MkiStep T o.dst o.op K' st) : AOpsS P n B w0 ops K (o :: rest) st := by
  intro a w ρ I hG next Q hnx
  rw [ZA3 hg hG]
  have h' := h _ fun _ h => h
  unfold MkiStep at h'
  split at h' <;> first | exact h'.elim | skip
  rename_i t x ho
  split at h' <;> first | exact h'.elim | skip
  rename_i fs b s1 b1 z1 ht hx
  obtain ⟨F, hF, _⟩ := (hT _ _ ht).kind
  have hxv := (hG.ev x).strip h'.1
  rw [hx] at hxv
  generalize hv : a.eval x = v at hxv
  cases hxv with
  | a _ us hl _ =>
    have hus : us = #[] := by simpa using hl
    subst hus
    refine toIn (fun c' hc' => by rw [hc'] at ho; cases ho) ?_
    unfold Oper.wp
    have : (execOp a.eval o).run P w = .ok (.value (.iface t (.agg #[]))) w := by
      simp [execOp, ho, Instr.makeInterface, run_underlying hF, hv, Result.andThen]
    rw [this, Oper.upon_value]
    exact hnx _ _ _ h'.2 ⟨ρ, I, hG.put (ZCL hd) (.v _)⟩

theorem ZFw {P : Program} {T : Tab} (hT : T.ok P) {n B : Nat} {w0 : Orig} {ops : Array Oper} {K : St → Prop} {o : Oper} {rest : List Oper} {st : St} (d : Nat) (hdst : o.dst = some d) (hg : o.guard = none) (hd : dstOk n o.dst) (h : ∀ K' : St → Prop, (∀ s, AOpsS P n B w0 ops K rest s → K' s) → NstLit T o.dst o.op K' st) : AOpsS P n B w0 ops K (o :: rest) st := by
  intro a w ρ I hG next Q hnx
  rw [ZA3 hg hG]
  have h' := h _ fun _ h => h
  refine toIn (fun c' hc' => ?_) (ZFn hT hG hd h' next Q hnx)
  rw [hc'] at h'; exact h'
theorem ZEe {P : Program} {T : Tab} (hT : T.ok P) {n B : Nat} {w0 : Orig} {ops : Array Oper} {K : St → Prop} {o : Oper} {rest : List Oper} {st : St} (hg : o.guard = none) (hd : dstOk n o.dst) (h : ∀ K' : St → Prop, (∀ s, AOpsS P n B w0 ops K rest s → K' s) → AppN T o.dst o.op K' st) : AOpsS P n B w0 ops K (o :: rest) st := by
  intro a w ρ I hG next Q hnx
  rw [ZA3 hg hG]
  have h' := h _ fun _ h => h
  exact toIn (ZJS (.inr (.inr h'))) (ZHg hT hG hd h' next Q hnx)

/-! ### Keys of maps whose values are known by their places -/
def KeysStepA (P : Program) (dst : Option Nat) (op : Op) (K : St → Prop) (st : St) : Prop :=
  match callee? st.ev op, dst with
  | some (ψ, k, args), some d =>
    match stripL args with
    | [.s mid] => (ψ ∧ condL args ∧ mid ≠ d) ∧ ∃ g t kd ks c, lkH st.heap mid = some (.mpa kd ks c) ∧ KeysCalls P k g t ∧ K ⟨(d, .f (.func g) [.p d 0]) :: killE d st.env, (d, .box t (.avs [.s mid])) :: killH d st.heap⟩
    | _ => False
  | _, _ => False

end Go.Eng
namespace Go.Eng
open Go.RowKit
set_option linter.unusedVariables false

theorem ZFx {P : Program} {n B : Nat} {w0 : Orig} {st : St} {a : Act} {w : World} {ρ : Nat → Option Value} {I : Nat → Prop} (hG : Gam n B w0 st a w ρ I) {o : Oper} (hd : dstOk n o.dst) {K : St → Prop} (h : KeysStepA P o.dst o.op K st) : StepOk P n B w0 o a w K := by
  intro next Q hn
  unfold KeysStepA at h
  split at h <;> first | exact h.elim | skip
  rename_i ψ k args d hc hdst
  rw [hdst] at hd
  split at h <;> first | exact h.elim | skip
  rename_i mid hargs
  obtain ⟨⟨hψ, hcond, hne⟩, g, t, kd, ks, c, hk, ⟨⟨fn, hf, hname, hbody⟩, hcall⟩, hK⟩ := h
  obtain ⟨vs, hrun, hvs⟩ := ZBM (fun x => hG.ev x) hc hψ hf hname hbody
  have hlen : args.length = 1 := by rw [← ZAr args, hargs]; rfl
  have h0 := (hvs.2 0 (by omega)).strip (ZA4 hcond 0)
  rw [← ZBe _ _ (by omega), hargs] at h0
  simp only [List.getD_cons_zero] at h0
  have hvl : vs.toList.length = 1 := by rw [hvs.1, hlen]
  obtain ⟨v0, hv0⟩ : ∃ v0, vs.toList = [v0] := by
    match hh : vs.toList, hvl with
    | [x], _ => exact ⟨x, rfl⟩
  rw [hv0] at h0
  simp only [List.getD_cons_zero] at h0
  cases h0 with
  | s _ x hr h1 =>
    obtain ⟨x', hx', b, vals, rfl, hB, hmap, _⟩ := hG.hw.ok _ _ hk
    rw [hr] at hx'; injection hx' with hx'; subst hx'
    have hvs' : vs = #[.map (some b)] := by cases vs; simp_all
    unfold Oper.wp
    rw [hrun, Oper.upon_enter, hvs']
    refine (hcall (some b) w).mono fun en w' he => ?_
    obtain ⟨rfl, rfl⟩ := he
    rw [hdst]
    have hb : Below w.heap.size w (w.alloc (.cells #[.map (some b)] t)) := (Below.refl _ _).alloc (Nat.le_refl _) _
    have h1' := hG.new hb d (.pointer (some ⟨w.heap.size, 0, none⟩)) (.box t (.avs [.s mid]))
      ⟨w.heap.size, #[.map (some b)], rfl, hG.base, heap_alloc_new w _, rfl, fun j u hu => by
        have hj : j = 0 := by
          have := (Array.getElem?_eq_some_iff.1 hu).1
          simp at this; exact this
        subst hj
        simp at hu; subst hu
        exact .s mid _ (by rw [ZBB _ _ _ hne]; exact hr) rfl⟩ (fun b hr => by simp [rootBlk] at hr; omega) (hG.old.ghn d hd)
    refine hn _ _ _ hK ⟨_, I, h1'.put (d := some d) (fun k hk => by injection hk with hk; subst hk; exact hd) (.f _ _ _ (by simp) fun j hj => ?_)⟩
    have hj : j = 0 := by simpa using hj
    subst hj
    simp only [List.getD_cons_zero]
    exact .p d 0 w.heap.size _ (ZAo _ _ _) rfl
theorem ZGI {P : Program} {n B : Nat} {w0 : Orig} {ops : Array Oper} {K : St → Prop} {o : Oper} {rest : List Oper} {st : St} (hg : o.guard = none) (hd : dstOk n o.dst) (h : ∀ K' : St → Prop, (∀ s, AOpsS P n B w0 ops K rest s → K' s) → KeysStepA P o.dst o.op K' st) : AOpsS P n B w0 ops K (o :: rest) st := by
  intro a w ρ I hG next Q hnx
  rw [ZA3 hg hG]
  have h' := h _ fun _ h => h
  refine toIn (fun c' hc' => ?_) (ZFx hG hd h' next Q hnx)
  rw [hc'] at h'; exact h'

def SortStepIA (P : Program) (dst : Option Nat) (op : Op) (K : St → Prop) (st : St) : Prop :=
  match callee? st.ev op, dst with
  | some (ψ, k, args), some d =>
    match stripL args with
    | [.f (.func g) [.p bid 0]] => (ψ ∧ condL args) ∧ ∃ t mid kd ks c e ds, lkH st.heap bid = some (.box t (.avs [.s mid])) ∧ lkH st.heap mid = some (.mpa kd ks c) ∧ (∀ vals : List Value, vals.length = ks.length → SortCalls P k g t e (.anys kd (ks.zip vals)) (ds.map fun x => .int .i64 x)) ∧ K ⟨(d, .s d) :: killE d st.env, (d, .row e 1 (.ints .i64 ds)) :: killH d st.heap⟩
    | _ => False
  | _, _ => False
theorem ZFG {P : Program} {n B : Nat} {w0 : Orig} {st : St} {a : Act} {w : World} {ρ : Nat → Option Value} {I : Nat → Prop} (hG : Gam n B w0 st a w ρ I) {o : Oper} (hd : dstOk n o.dst) {K : St → Prop} (h : SortStepIA P o.dst o.op K st) : StepOk P n B w0 o a w K := by
  intro next Q hn
  unfold SortStepIA at h
  split at h <;> first | exact h.elim | skip
  rename_i ψ k args d hc hdst
  rw [hdst] at hd
  split at h <;> first | exact h.elim | skip
  rename_i g bid hargs
  obtain ⟨⟨hψ, hcond⟩, t, mid, kd, ks, c, e, ds, hkb, hk, hsort, hK⟩ := h
  obtain ⟨fn, hf, hname, hbody⟩ := (hsort (ks.map fun _ => undef) (by simp)).1
  obtain ⟨vs, hrun, hvs⟩ := ZBM (fun x => hG.ev x) hc hψ hf hname hbody
  have hlen : args.length = 1 := by rw [← ZAr args, hargs]; rfl
  have h0 := (hvs.2 0 (by omega)).strip (ZA4 hcond 0)
  rw [← ZBe _ _ (by omega), hargs] at h0
  simp only [List.getD_cons_zero] at h0
  have hvl : vs.toList.length = 1 := by rw [hvs.1, hlen]
  obtain ⟨v0, hv0⟩ : ∃ v0, vs.toList = [v0] := by
    match hh : vs.toList, hvl with
    | [x], _ => exact ⟨x, rfl⟩
  rw [hv0] at h0
  simp only [List.getD_cons_zero] at h0
  cases h0 with
  | f _ _ us hul hus =>
    have hu0 := hus 0 (by simp)
    simp only [List.getD_cons_zero] at hu0
    obtain ⟨u0, rfl⟩ : ∃ u0, us = #[u0] := by
      have hl1 : us.toList.length = 1 := by simpa using hul
      match hh : us.toList, hl1 with
      | [x], _ => exact ⟨x, by cases us; simp_all⟩
    have e0 : (#[u0] : Array Value).getD 0 undef = u0 := rfl
    rw [e0] at hu0
    cases hu0 with
    | p _ _ b x hr hb =>
      obtain ⟨x', hx', b', us', rfl, hB, hh, hl, hcc⟩ := hG.hw.ok _ _ hkb
      rw [hr] at hx'; injection hx' with hx'; subst hx'
      simp only [rootBlk, Option.some.injEq] at hb; subst hb
      obtain ⟨u1, rfl⟩ : ∃ u1, us' = #[u1] := by
        have hl1 : us'.toList.length = 1 := by simpa [Cont.len] using hl
        match hh : us'.toList, hl1 with
        | [x], _ => exact ⟨x, by cases us'; simp_all⟩
      have h2 := hcc 0 u1 rfl
      simp only [Cont.at, List.getD_cons_zero] at h2
      cases h2 with
      | s _ x2 hr2 _ =>
        obtain ⟨x3, hx3, bm, vals, rfl, hBm, hmap, hvl, _⟩ := hG.hw.ok _ _ hk
        rw [hr2] at hx3; injection hx3 with hx3; subst hx3
        have hvs' : vs = #[.func (.func g) #[] #[.pointer (some ⟨b', 0, none⟩)]] := by cases vs; simp_all
        unfold Oper.wp
        rw [hrun, Oper.upon_enter, hvs']
        refine ((hsort vals hvl).2 w b' bm hh hmap).mono fun en w' he => ?_
        obtain ⟨v, rfl, hbel, ho⟩ := he
        have ho' := ZBr ho hG.base
        have := ZDJ hG d hd hbel ho' (fun b hb' => (ho.lt b (by rw [← ZAi ho]; exact hb')).1) (.ints .i64 ds) (by simp [Cont.len]) (fun j u hu => by
          have hj : j < ds.length := by have := (List.getElem?_eq_some_iff.1 hu).1; simpa using this
          have hu' : u = .int .i64 (ds.getD j 0) := by
            rw [List.getElem?_map, List.getElem?_eq_getElem hj] at hu
            simp only [Option.map_some, Option.some.injEq] at hu
            rw [← hu, List.getD_eq_getElem?_getD, List.getElem?_eq_getElem hj]; rfl
          rw [hu']; exact .v _)
        rw [hdst]
        exact hn _ _ _ hK this
theorem ZEO {P : Program} {n B : Nat} {w0 : Orig} {ops : Array Oper} {K : St → Prop} {o : Oper} {rest : List Oper} {st : St} (hg : o.guard = none) (hd : dstOk n o.dst) (h : ∀ K' : St → Prop, (∀ s, AOpsS P n B w0 ops K rest s → K' s) → SortStepIA P o.dst o.op K' st) : AOpsS P n B w0 ops K (o :: rest) st := by
  intro a w ρ I hG next Q hnx
  rw [ZA3 hg hG]
  have h' := h _ fun _ h => h
  refine toIn (fun c' hc' => ?_) (ZFG hG hd h' next Q hnx)
  rw [hc'] at h'; exact h'
attribute [push_cast] KeysStepA SortStepIA InvStep MkiStep
end Go.Eng
namespace Go.Eng
open Go
set_option linter.unusedVariables false
theorem ff {p : Prop} (h : p := by first | omega | exact (fun hh => hh) | (simp only [List.length_take, List.length_drop, List.length_append, List.length_map, List.length_cons, List.length_nil, List.length_replicate, List.length_set]; omega) | (intro hh; (try simp only [hh, Bool.not_false, Bool.not_true, Bool.true_and, Bool.and_true, eq_self, true_and, and_true]); (try simp only [bh, decide_eq_true_eq, decide_eq_false_iff_not] at hh); (first | done | omega | (simp only [List.length_take, List.length_drop, List.length_append, List.length_map, List.length_cons, List.length_nil, List.length_replicate, List.length_set]; omega) | (intro h2; simp only [h2, Bool.not_false, Bool.not_true]; done))) | exact rfl) : p := h
theorem gd {p : Prop} (h : p := by intro hb; first | exact hb | exact ⟨hb, hb⟩ | exact ⟨hb, hb, hb⟩ | exact ⟨hb, hb, hb, hb⟩ | (simp only [hb, true_and, and_true, Bool.and_true, Bool.true_and]; done)) : p := h
theorem okr {p : Prop} (h : p := by (try intro hb); first | exact .inr rfl | exact .inl (by simp [AV.fresh, AV.freshL])) : p := h
theorem bh2 : ((∀ a b : Bool, ((a && b) = true) = (a = true ∧ b = true)) ∧ (∀ a b : Bool, ((a || b) = true) = (a = true ∨ b = true)) ∧ (∀ a b : Bool, ((a && b) = false) = (a = false ∨ b = false)) ∧ (∀ a b : Bool, ((a || b) = false) = (a = false ∧ b = false)) ∧
    (∀ a : Bool, ((!a) = true) = (a = false)) ∧ (∀ a : Bool, ((!a) = false) = (a = true)) ∧ (∀ a b : Int, (¬ a < b) = (b ≤ a)) ∧ (∀ a b : Int, (¬ a ≤ b) = (b < a)) ∧ (∀ a b : Int, ((a == b) = true) = (a = b)) ∧ (∀ a b : Int, ((a == b) = false) = (¬ a = b)) ∧ (∀ a b : Int, ((a != b) = true) = (¬ a = b)) ∧ (∀ a b : Int, ((a != b) = false) = (a = b))) ∧
    (∀ (q : Prop) [Decidable q], (decide q = true) = q) ∧ (∀ (q : Prop) [Decidable q], (decide q = false) = ¬ q) ∧ (∀ a : Bool, (a = a) = True) ∧ ((¬ True) = False) ∧ ((¬ False) = True) ∧ ((true = false) = False) ∧ ((false = true) = False) ∧ (∀ a : Bool, (a != a) = false) ∧ (∀ a : Bool, (a == a) = true) ∧ (∀ a : Int, (a == a) = true) ∧ (∀ a : Int, (a != a) = false) ∧ (∀ a : Int, (a = a) = True) :=
  ⟨bh, fun q _ => by simp, fun q _ => by simp, fun a => by simp, by simp, by simp, by simp, by simp, by decide, by decide, fun a => by simp, fun a => by simp, fun a => by simp⟩
end Go.Eng
namespace Go.Eng
open Go
set_option linter.unusedVariables false
section
variable {P : Program} {T : Tab} (hT : T.ok P) {n B : Nat} {w0 : Orig} {ops : Array Oper} {K : St → Prop} {o : Oper} {rest : List Oper} {st : St} {g : Option (Nat × Bool)}
theorem oC (h : ∀ K' : St → Prop, (∀ s, AOps P T n ops K rest s → K' s) → StepN P T n o.dst o.op g K' st) (hg : gOf ops o.guard = some g := by rfl) : AOps P T n ops K (o :: rest) st := ZAw hg h
include hT
theorem sC (h : ∀ K' : St → Prop, (∀ s, AOpsS P n B w0 ops K rest s → K' s) → StepN P T n o.dst o.op g K' st) (hg : gOf ops o.guard = some g := by rfl) : AOpsS P n B w0 ops K (o :: rest) st := ZA6 hT hg h
theorem sK (h : AOpsS P n B w0 ops K rest (st.put o.dst (.g false (.v (.bool false))))) (hg : gOf ops o.guard = some g := by rfl) (hs : guardS st g = some (some false) := by rfl) (hd : dstOk n o.dst := by simp only [dstOk, Nat.reduceLT]) : AOpsS P n B w0 ops K (o :: rest) st := ZA7 hT hg hs hd h
theorem dQ (hm : P.follows .mixedOrders = true) {Q : Exit → St → Prop} {id : Nat} {l : List Oper} {y : Code} (h : ∀ K : St → Prop, (∀ s, AWP P n B w0 y Q s → K s) → AOps P T n l.toArray K l st) (hD : drawOk l (Region.before l.toArray).toList = true := by decide +kernel) : AWP P n B w0 (.seq (.region id l.toArray true) y) Q st := ZAP hT hm hD h
theorem dL (hm : P.follows .mixedOrders = true) {Q : Exit → St → Prop} {id : Nat} {l : List Oper} (h : ∀ K : St → Prop, (∀ s, Q .normal s → K s) → AOps P T n l.toArray K l st) (hD : drawOk l (Region.before l.toArray).toList = true := by decide +kernel) : AWP P n B w0 (.region id l.toArray true) Q st := ZAe hT hm hD h
end
end Go.Eng
namespace Go.Eng
open Go.RowKit
set_option linter.unusedVariables false

def idsL (base n : Nat) : List AV := (List.range n).map fun i => .s (base + i)
theorem ZCH (base n : Nat) : (idsL base n).length = n := by simp [idsL]
theorem idsLn (base : Nat) {n i : Nat} (h : i < n) : (idsL base n).getD i .top = .s (base + i) := by simp [idsL, List.getD_eq_getElem?_getD, h]
theorem ZAt (base n d : Nat) (h : d < base) : AV.killL d (idsL base n) = idsL base n := by
  unfold idsL
  induction (List.range n) with
  | nil => rfl
  | cons i r ih => rw [List.map_cons, AV.killL, AV.kill, if_neg (by omega), ih]
def rowB (e : TypeId) (l : List Int) : Blk := .row e 1 (.ints .i64 l)
def famI (base : Nat) (e : TypeId) (L : List (List Int)) : List (Nat × Blk) := fam base (L.map (rowB e))
theorem ZAv (base : Nat) (e : TypeId) (L : List (List Int)) {i : Nat} (h : i < L.length) : lkH (famI base e L) (base + i) = some (.row e 1 (.ints .i64 (L.getD i []))) := by
  unfold famI
  rw [ZGH, if_pos (by omega), show base + i - base = i by omega, List.getElem?_map, List.getElem?_eq_getElem h]
  simp [rowB, List.getD_eq_getElem?_getD, h]
theorem ZBF {base : Nat} {e : TypeId} {L : List (List Int)} {id : Nat} {b : Blk} (h : lkH (famI base e L) id = some b) : ∃ i, i < L.length ∧ id = base + i ∧ b = .row e 1 (.ints .i64 (L.getD i [])) := by
  unfold famI at h
  rw [ZGH] at h
  split at h
  · rw [List.getElem?_map] at h
    cases hh : L[id - base]? with
    | none => rw [hh] at h; cases h
    | some l =>
      rw [hh] at h
      have hl := (List.getElem?_eq_some_iff.1 hh).1
      refine ⟨id - base, hl, by omega, ?_⟩
      simp only [Option.map_some, Option.some.injEq] at h
      rw [← h, List.getD_eq_getElem?_getD, hh]; rfl
  · cases h
theorem ZGv (d : Nat) (e : TypeId) : ∀ (L : List (List Int)) (base : Nat), d < base → killH d (fam base (L.map (rowB e))) = fam base (L.map (rowB e))
  | [], _, _ => rfl
  | l :: r, base, h => by
    simp only [List.map_cons, fam, killH]
    rw [if_neg (by omega), ZGv d e r (base + 1) (by omega)]; rfl
theorem ZAj (d base : Nat) (e : TypeId) (L : List (List Int)) (h : d < base) : killH d (famI base e L) = famI base e L := ZGv d e L base h
def famD (base : Nat) (e : TypeId) (L : List (List Int)) (j : Nat) : List (Nat × Blk) := delH (base + j) (famI base e L)
theorem ZH6 {d : Nat} {k : Nat} {H : List (Nat × Blk)} (h : killH d H = H) : killH d (delH k H) = delH k H := by
  induction H with
  | nil => rfl
  | cons p r ih =>
    obtain ⟨i, b⟩ := p
    have hi : i ≠ d := fun e => by
      subst e
      simp only [killH, if_true] at h
      have h1 : ∀ (R : List (Nat × Blk)), (killH i R).length ≤ R.length := by
        intro R
        induction R with
        | nil => exact Nat.le_refl _
        | cons q s ih2 =>
          obtain ⟨x, y⟩ := q
          simp only [killH]
          split
          · exact Nat.le_trans ih2 (by simp)
          · simp only [List.length_cons]; omega
      have := h1 r
      rw [h] at this
      simp at this
      omega
    simp only [killH, if_neg hi, List.cons.injEq, Prod.mk.injEq, true_and] at h
    simp only [delH]
    split
    · exact ih h.2
    · simp only [killH, if_neg hi, h.1, ih h.2]
theorem ZH7 (d base : Nat) (e : TypeId) (L : List (List Int)) (j : Nat) (h : d < base) : killH d (famD base e L j) = famD base e L j := ZH6 (ZAj d base e L h)
theorem ZJM (base : Nat) (e : TypeId) (L : List (List Int)) {i j : Nat} (h : i < L.length) (hne : i ≠ j) : lkH (famD base e L j) (base + i) = some (.row e 1 (.ints .i64 (L.getD i []))) := by
  unfold famD
  rw [ZEy, if_neg (by omega), ZAv base e L h]
theorem G.wk3 {n B : Nat} {w0 : Orig} {st st' : St} (hE : wkE2 st.env [] st'.env) (hH : st'.heap = st.heap) : ∀ a w, G n B w0 st a w → G n B w0 st' a w :=
  G.wkL (fun s => ZHs hE s rfl) (fun s b h => by rw [← hH]; exact h)
def Retell (mk : Cont → Blk) : Prop := ∀ {B : Nat} {I : Nat → Prop} {w : World} {ρ ρ' : Nat → Option Value} {x : Value} {c c' : Cont}, c'.len = c.len → (∀ j u, j < c.len → Conc B I w ρ (c.at j) u → Conc B I w ρ' (c'.at j) u) → BlkOK B I w ρ x (mk c) → BlkOK B I w ρ' x (mk c')
theorem ZEn (kd : Bool) (ks : List Key) : Retell (.mpa kd ks) := fun hl hc h => by
  obtain ⟨b, vals, rfl, hB, hm, h1, h2, h3⟩ := h
  exact ⟨b, vals, rfl, hB, hm, h1, by omega, fun j u hu => hc j u (by have := (List.getElem?_eq_some_iff.1 hu).1; omega) (h3 j u hu)⟩
theorem ZEo (e : TypeId) : Retell (.nst e) := fun hl hc h => by
  obtain ⟨m, xs, ho, h2, h3⟩ := h
  exact ⟨m, xs, ho, by omega, fun j u hu => hc j u (by have := (List.getElem?_eq_some_iff.1 hu).1; have := ho.1; omega) (h3 j u hu)⟩
theorem G.refam {n B : Nat} {w0 : Orig} {st : St} {a : Act} {w : World} (hG : G n B w0 st a w) (mk : Cont → Blk) (hmk : Retell mk) (m d base j : Nat) (e : TypeId) (L : List (List Int)) (ids : List AV) (E' : List (Nat × AV)) (R : List (Nat × Blk))
    (hm : lkH st.heap m = some (mk (.avs ids))) (hil : ids.length = L.length) (hids : ∀ i, i < L.length → ids.getD i .top = if i = j then .s d else .s (base + i))
    (hd : lkH st.heap d = some (.row e 1 (.ints .i64 (L.getD j [])))) (hrows : ∀ i, i < L.length → i ≠ j → lkH st.heap (base + i) = some (.row e 1 (.ints .i64 (L.getD i [])))) (hj : j < L.length)
    (hmb : m < base) (hdb : d < base) (hmd : m ≠ d) (hE : ∀ s, lk E' s = .top ∨ (lk E' s = lk st.env s ∧ (lk st.env s).ids (fun id => id < base))) (hgh : w0.gh (base + j) = none)
    (hR : ∀ id b, lkH R id = some b → (id < base ∧ id ≠ m ∧ id ≠ d) ∧ lkH st.heap id = some b ∧ b.ids (fun id => id < base)) :
    G n B w0 ⟨E', (m, mk (.avs (idsL base L.length))) :: (famI base e L ++ R)⟩ a w := by
  obtain ⟨ρ, I, h⟩ := hG
  have hlo : ∀ id, id < base → (if id = base + j then ρ d else ρ id) = ρ id := fun id h => if_neg (by omega)
  have hbi : ∀ i, i ≠ j → (if base + i = base + j then ρ d else ρ (base + i)) = ρ (base + i) := fun i h => if_neg (by omega)
  have look : ∀ id b, lkH ((m, mk (.avs (idsL base L.length))) :: (famI base e L ++ R)) id = some b → (id = m ∧ b = mk (.avs (idsL base L.length))) ∨ (id = base + j ∧ b = .row e 1 (.ints .i64 (L.getD j []))) ∨ (∃ i, i < L.length ∧ i ≠ j ∧ id = base + i ∧ b = .row e 1 (.ints .i64 (L.getD i []))) ∨ ((id < base ∧ id ≠ m ∧ id ≠ d) ∧ lkH st.heap id = some b ∧ b.ids (fun id => id < base)) := fun id b hk => by
    simp only [lkH] at hk
    split at hk
    · rename_i e1; injection hk with hk; exact .inl ⟨e1.symm, hk.symm⟩
    · rw [ZDk] at hk
      cases hf : lkH (famI base e L) id with
      | some b' =>
        rw [hf] at hk; injection hk with hk; subst hk
        obtain ⟨i, h1, h2, h3⟩ := ZBF hf
        by_cases e2 : i = j
        · subst e2; exact .inr (.inl ⟨h2, h3⟩)
        · exact .inr (.inr (.inl ⟨i, h1, e2, h2, h3⟩))
      | none => rw [hf] at hk; exact .inr (.inr (.inr (hR id b hk)))
  -- each new name stands for an old one
  have back : ∀ id b, lkH ((m, mk (.avs (idsL base L.length))) :: (famI base e L ++ R)) id = some b → ∃ id0 b0, lkH st.heap id0 = some b0 ∧ (if id = base + j then ρ d else ρ id) = ρ id0 ∧ ((id = base + j ∧ id0 = d) ∨ (id ≠ base + j ∧ id0 = id ∧ id ≠ d)) ∧ ∀ x, BlkOK B I w ρ x b0 → BlkOK B I w (fun id => if id = base + j then ρ d else ρ id) x b := fun id b hk => by
    rcases look id b hk with ⟨rfl, rfl⟩ | ⟨rfl, rfl⟩ | ⟨i, h1, h2, rfl, rfl⟩ | ⟨h1, h2, h3⟩
    · refine ⟨id, _, hm, hlo id hmb, .inr ⟨by omega, rfl, hmd⟩, fun x hx => hmk (by simp only [Cont.len]; rw [ZCH, hil]) (fun i u hi hc => ?_) hx⟩
      simp only [Cont.len, hil] at hi
      simp only [Cont.at] at hc ⊢
      rw [hids i hi] at hc
      rw [idsLn base hi]
      by_cases e1 : i = j
      · rw [if_pos e1] at hc
        cases hc with
        | s _ _ hr h1 => exact .s _ _ (by rw [if_pos (by omega)]; exact hr) h1
      · rw [if_neg e1] at hc
        cases hc with
        | s _ _ hr h1 => exact .s _ _ (by rw [if_neg (by omega)]; exact hr) h1
    · exact ⟨d, _, hd, if_pos rfl, .inl ⟨rfl, rfl⟩, fun x hx => hx⟩
    · exact ⟨base + i, _, hrows i h1 h2, hbi i h2, .inr ⟨by omega, rfl, by omega⟩, fun x hx => hx⟩
    · exact ⟨id, _, h2, hlo id h1.1, .inr ⟨by omega, rfl, h1.2.2⟩, fun x hx => hx.ids h3 hlo⟩
  refine ⟨fun id => if id = base + j then ρ d else ρ id, I, h.defers, h.size, fun s => ?_, ⟨fun id b hk => ?_, fun id id' b1 b2 x x' b hne k1 k2 hx hx' hb => ?_, fun id b x r hk hx hb => ?_, h.hw.lt⟩, h.below, h.base, ⟨h.old.up, fun id x hx => ?_, h.old.ghn, h.old.keep⟩⟩
  · show Conc _ _ _ _ (lk E' s) _
    rcases hE s with e1 | ⟨e1, e2⟩
    · rw [e1]; exact .top _
    · rw [e1]; exact (h.env s).ids e2 _ hlo
  · obtain ⟨id0, b0, h0, h1, _, h2⟩ := back id b hk
    obtain ⟨x, hx, hok⟩ := h.hw.ok id0 b0 h0
    exact ⟨x, by rw [h1]; exact hx, h2 x hok⟩
  · obtain ⟨i0, c0, h0, h1, hq, _⟩ := back id b1 k1
    obtain ⟨i0', c0', h0', h1', hq', _⟩ := back id' b2 k2
    rw [h1] at hx
    rw [h1'] at hx'
    refine h.hw.apart i0 i0' c0 c0' x x' b ?_ h0 h0' hx hx' hb
    rcases hq with ⟨q1, q2⟩ | ⟨q1, q2, q3⟩ <;> rcases hq' with ⟨q1', q2'⟩ | ⟨q1', q2', q3'⟩ <;> omega
  · obtain ⟨i0, c0, h0, h1, _, _⟩ := back id b hk
    rw [h1] at hx
    exact h.hw.imm i0 c0 x r h0 hx hb
  · by_cases e1 : id = base + j
    · subst e1; rw [hgh] at hx; cases hx
    · show (if id = base + j then ρ d else ρ id) = x
      rw [if_neg e1]; exact h.old.gh id x hx
end Go.Eng
namespace Go.Eng
open Go.RowKit
set_option linter.unusedVariables false
theorem G.unNst {n B : Nat} {w0 : Orig} {st : St} {a : Act} {w : World} (hG : G n B w0 st a w) (d : Nat) (e : TypeId) (c : Cont) (hk : lkH st.heap d = some (.nst e c)) (hn : norC c) : G n B w0 ⟨st.env, (d, .row e 1 c) :: st.heap⟩ a w := by
  obtain ⟨ρ, I, h⟩ := hG
  have conv : ∀ {i1 b1}, lkH ((d, .row e 1 c) :: st.heap) i1 = some b1 → ∃ b2, lkH st.heap i1 = some b2 := fun {i1 b1} hh => by
    simp only [lkH] at hh
    by_cases e1 : d = i1
    · subst e1; exact ⟨_, hk⟩
    · rw [if_neg e1] at hh; exact ⟨b1, hh⟩
  refine ⟨ρ, I, h.defers, h.size, h.env, ⟨fun id' blk hk' => ?_, fun i1 i2 b1 b2 x x' b hne' k1 k2 => ?_, fun i1 b1 x b k1 => ?_, h.hw.lt⟩, h.below, h.base, h.old⟩
  · simp only [lkH] at hk'
    by_cases e1 : d = id'
    · rw [if_pos e1] at hk'
      injection hk' with hk'; subst hk'; subst e1
      obtain ⟨x, hx, m, xs, ho, hl2, hc⟩ := h.hw.ok _ _ hk
      exact ⟨x, hx, m, xs, ho, by rw [hl2], fun j u hu => (hc j u hu).nor (ZE6 hn j)⟩
    · rw [if_neg e1] at hk'
      exact h.hw.ok id' blk hk'
  · obtain ⟨c1, q1⟩ := conv k1
    obtain ⟨c2, q2⟩ := conv k2
    exact h.hw.apart i1 i2 c1 c2 x x' b hne' q1 q2
  · obtain ⟨c1, q1⟩ := conv k1
    exact h.hw.imm i1 c1 x b q1
def frzB2 (d : Nat) (blk : Blk) : Blk → Blk
  | .nst e c => .nst e (frzC d blk c)
  | .box t c => .box t (frzC d blk c)
  | .row e sz c => .row e sz c
  | .mp c => .mp c
  | .mpa kd ks c => .mpa kd ks (frzC d blk c)
def frzH2 (d : Nat) (blk : Blk) : List (Nat × Blk) → List (Nat × Blk)
  | [] => []
  | (k, b) :: r => if k = d then frzH2 d blk r else (k, frzB2 d blk b) :: frzH2 d blk r
theorem ZEI {d : Nat} {blk : Blk} : ∀ {H : List (Nat × Blk)} {id : Nat} {b' : Blk}, lkH (frzH2 d blk H) id = some b' → id ≠ d ∧ ∃ b0, lkH H id = some b0 ∧ b' = frzB2 d blk b0
  | [], _, _, h => by cases h
  | (k, b) :: r, id, b', h => by
    simp only [frzH2] at h
    by_cases e : k = d
    · rw [if_pos e] at h
      obtain ⟨h1, b0, h2, h3⟩ := ZEI h
      refine ⟨h1, b0, ?_, h3⟩
      simp only [lkH]
      rw [if_neg (fun hh => h1 (by rw [← hh, e]))]; exact h2
    · rw [if_neg e] at h
      simp only [lkH] at h ⊢
      by_cases e2 : k = id
      · rw [if_pos e2] at h ⊢
        injection h with h
        exact ⟨fun hh => e (by rw [e2, hh]), b, rfl, h.symm⟩
      · rw [if_neg e2] at h ⊢
        exact ZEI h
theorem G.freezeB {n B : Nat} {w0 : Orig} {st : St} {a : Act} {w : World} (hG : G n B w0 st a w) (d : Nat) (blk : Blk) (hk : lkH st.heap d = some blk) (hnor : norC blk.cont) : G n B w0 ⟨frzE d blk st.env, frzH2 d blk st.heap⟩ a w := by
  obtain ⟨ρ, I, h⟩ := hG
  obtain ⟨x, hx, hok⟩ := h.hw.ok d blk hk
  have hρ : ∀ id, id ≠ d → ρ id = ρ id := fun id hid => rfl
  have hrest : ∀ b, rootBlk x = some b → B ≤ b ∧ b < w.heap.size := fun b hb => hok.lt hb
  have hII : ∀ b, I b → (fun b => I b ∨ rootBlk x = some b) b ∧ w.heap[b]? = w.heap[b]? := fun b hb => ⟨.inl hb, rfl⟩
  have cellC : ∀ b j, rootBlk x = some b → j < blk.cont.len → ∃ u, w.cell? ⟨b, j, none⟩ = some u ∧ Conc B (fun b => I b ∨ rootBlk x = some b) w noId (blk.cont.at j) u := fun b j hb hj => by
    obtain ⟨u, h1, h2⟩ := h.hw.cell hk hx hb hj
    exact ⟨u, h1, ((h2.nor (ZE6 hnor j)).mono (Nat.le_refl _) hII _ (fun _ _ h => h))⟩
  have look : ∀ id blk', lkH (frzH2 d blk st.heap) id = some blk' → id ≠ d ∧ ∃ b0, lkH st.heap id = some b0 ∧ blk' = frzB2 d blk b0 := fun id blk' hk' => ZEI hk'
  have hF : ∀ (x1 : AV) (u1 : Value), Conc B I w ρ x1 u1 → Conc B (fun b => I b ∨ rootBlk x = some b) w ρ (frz1 d blk x1) u1 := by
    intro x1 u1 hs
    have gen : Conc B (fun b => I b ∨ rootBlk x = some b) w ρ ((x1).kill d) (u1) := (hs.kill d _ hρ).mono (Nat.le_refl _) hII _ (fun _ _ h => h)
    have hP : ∀ (x0 : AV) (uu : Value), Conc B I w ρ x0 uu → Conc B (fun b => I b ∨ rootBlk x = some b) w ρ (frzP d blk x0) uu := fun x0 uu hs => by
      have gen : Conc B (fun b => I b ∨ rootBlk x = some b) w ρ (x0.kill d) uu := (hs.kill d _ hρ).mono (Nat.le_refl _) hII _ (fun _ _ h => h)
      cases x0 with
      | p id off =>
        simp only [frzP]
        by_cases e : id = d
        · subst e
          rw [if_pos rfl]
          cases hs with
          | p _ _ b y hy hb =>
            rw [hx] at hy; injection hy with hy; subst hy
            have hall : ∀ j, off + j < blk.cont.len → ∃ u, w.cell? ((⟨b, off, none⟩ : Addr).add j) = some u ∧ Conc B (fun b => I b ∨ rootBlk x = some b) w noId (blk.cont.at (off + j)) u := fun j hj => by
              obtain ⟨u, h1, h2⟩ := cellC b (off + j) hb hj
              exact ⟨u, by rw [ZAf]; exact h1, h2⟩
            refine .q _ _ _ _ _ _ (fun j => if hj : off + j < blk.cont.len then Classical.choose (hall j hj) else undef) (.inr hb) (fun _ => (hrest b hb).1) (fun j hj => ?_) (fun j hj => ?_)
            · rw [dif_pos hj]; exact (Classical.choose_spec (hall j hj)).1
            · rw [dif_pos hj]; exact (Classical.choose_spec (hall j hj)).2
        · rw [if_neg e]
          rw [AV.kill, if_neg e] at gen
          exact gen
      | _ => exact gen
    cases hv : x1 with
    | p id off => rw [hv] at hs; exact hP _ _ hs
    | f fn cs =>
      rw [hv] at hs
      simp only [frz1]
      cases hs with
      | f _ _ us hl hcs => exact .f fn _ us (by rw [ZBp]; exact hl) fun j hj => by rw [ZBp] at hj; rw [ZEU]; exact hP _ _ (hcs j hj)
    | s id =>
      rw [hv] at hs gen
      simp only [frz1]
      by_cases e : id = d
      · subst e
        rw [if_pos rfl]
        cases blk with
        | box t c => exact .top _
        | mp c => exact .top _
        | mpa kd ks c => exact .top _
        | nst el c => exact .top _
        | row el sz c =>
          simp only
          split
          · rename_i hpos
            cases hs with
            | s _ _ hy h1 =>
              rw [hx] at hy; injection hy with hy; subst hy
              obtain ⟨m, xs, ho, hl, hc⟩ := hok
              have hm : c.len / sz = m := by rw [hl]; exact Nat.mul_div_cancel _ hpos
              rw [hm]
              have := ZCZ (fl := true) (B' := B) (J := fun b => I b ∨ rootBlk x = some b ∨ (B ≤ b ∧ b < w.heap.size)) ho (fun _ => Nat.le_refl _) (fun b h1 h2 => .inr (.inr ⟨h1, h2⟩)) (fun e j => c.at (e * sz + j)) (fun el2 j he hj => by
                have hlt : el2 * sz + j < xs.length := by rw [ho.1]; exact ZA9 he hj
                have := hc (el2 * sz + j) _ (List.getElem?_eq_getElem hlt)
                have e2 : xs.getD (el2 * sz + j) undef = xs[el2 * sz + j] := by simp [List.getD_eq_getElem?_getD, hlt]
                rw [e2]
                exact this.mono (Nat.le_refl _) (fun b hb => ⟨.inl hb, rfl⟩) _ (fun _ _ h => h))
              cases this with
              | i _ _ _ _ _ cap A u hcap hA hcc =>
                refine .i _ _ _ _ _ _ _ u hcap (fun hl0 => ?_) (fun e f he hf => ?_)
                · obtain ⟨ad, h1, h2, h3, h4⟩ := hA hl0
                  subst h1
                  exact ⟨ad, rfl, .inr rfl, h3, h4⟩
                · have hlt : e * sz + f < xs.length := by rw [ho.1]; exact ZA9 he hf
                  have hb : ∃ ad, A = some ad := by obtain ⟨ad, h1, _⟩ := hA (by omega); exact ⟨ad, h1⟩
                  obtain ⟨ad, rfl⟩ := hb
                  obtain ⟨ad', h1, _, _, h4⟩ := hA (by omega)
                  injection h1 with h1; subst h1
                  have hj : e * sz + f < (Blk.row el sz c).cont.len := by show e * sz + f < c.len; rw [hl]; exact ZA9 he hf
                  obtain ⟨v, hv1, hv2⟩ := cellC ad.block (e * sz + f) rfl hj
                  rcases ho.2 with ⟨hn, _⟩ | ⟨g, cap', cur, hsl, _⟩
                  · cases hn
                  · injection hsl with hsl _ _
                    injection hsl with hsl
                    have h5 := h4 e f he hf
                    rw [hsl, ZAf, Nat.zero_add] at h5
                    rw [hsl] at hv1
                    simp only at hv1
                    rw [h5] at hv1
                    injection hv1 with hv1
                    rw [Nat.zero_add, hv1]
                    exact hv2
          · exact .top _
      · rw [if_neg e]
        rw [AV.kill, if_neg e] at gen
        exact gen
    | _ => rw [hv] at gen; exact gen
  refine ⟨ρ, fun b => I b ∨ rootBlk x = some b, h.defers.mono (fun b hb => ⟨.inl hb, rfl⟩), h.size, fun s => ?_, ⟨fun id blk' hk' => ?_, fun id id' b1 b2 y y' b hne h1 h2 hy hy' hb => ?_, fun id blk' y b hk' hy hb hI => ?_, fun b hb => ?_⟩, h.below, h.base, ⟨fun b hb => ?_, h.old.gh, h.old.ghn, fun b hb => ⟨.inl (h.old.keep b hb).1, (h.old.keep b hb).2⟩⟩⟩
  · show Conc _ _ _ _ (lk (frzE d blk st.env) s) _
    rw [ZGD]
    exact hF _ _ (h.env s)
  · obtain ⟨hne, b0, h0, rfl⟩ := look id blk' hk'
    obtain ⟨y, hy, hok'⟩ := h.hw.ok id b0 h0
    refine ⟨y, hy, ?_⟩
    cases b0 with
    | nst el c =>
      obtain ⟨m, xs, ho, hl, hc⟩ := hok'
      exact ⟨m, xs, ho, by rw [ZFE]; exact hl, fun j u hu => by rw [ZGG]; exact hF _ _ (hc j u hu)⟩
    | box t c =>
      obtain ⟨b, us, rfl, hB, hh, hl, hc⟩ := hok'
      exact ⟨b, us, rfl, hB, hh, by rw [ZFE]; exact hl, fun j u hu => by rw [ZGG]; exact hF _ _ (hc j u hu)⟩
    | row el sz c => exact (hok'.killed d hρ).move (fun b _ => rfl) hII (fun _ _ h => h)
    | mp c => exact (hok'.killed d hρ).move (fun b _ => rfl) hII (fun _ _ h => h)
    | mpa kd ks c =>
      obtain ⟨b, vals, rfl, hB, hm, hl, hl2, hc⟩ := hok'
      exact ⟨b, vals, rfl, hB, hm, hl, by rw [ZFE]; exact hl2, fun j u hu => by rw [ZGG]; exact hF _ _ (hc j u hu)⟩
  · obtain ⟨hn1, c1, hc1, rfl⟩ := look id b1 h1
    obtain ⟨hn2, c2, hc2, rfl⟩ := look id' b2 h2
    exact h.hw.apart id id' c1 c2 y y' b hne hc1 hc2 hy hy' hb
  · obtain ⟨hne, b0, h0, rfl⟩ := look id blk' hk'
    rcases hI with hI | hI
    · exact h.hw.imm id b0 y b h0 hy hb hI
    · exact h.hw.apart id d b0 blk y x b hne h0 hk hy hx hb hI
  · rcases hb with hb | hb
    · exact h.hw.lt b hb
    · exact (hrest b hb).2
  · rcases hb with hb | hb
    · exact h.old.up b hb
    · exact .inr (hrest b hb).1
attribute [push_cast] frzB2 frzH2
end Go.Eng
