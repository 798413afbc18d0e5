/- Part of a proof about the given program: contracts of its functions (see the comment of the last text). -/
import Derived.Test.YthgjjhddbigfcaaEng3
import Derived.OpenShut
import Derived.ChangeOld
set_option linter.unusedSimpArgs false
set_option linter.unusedVariables false
namespace Go.Eng
theorem al_mono {T : Tab} {st : St} {o : Oper} {K K' : St → Prop} (h : al T st o K) (hk : ∀ s, K s → K' s) : al T st o K' := by
  cases ho : o.op <;> simp only [al, ho] at h ⊢ <;> first | exact h.elim | skip
  case alloc t => split at h <;> first | exact h.elim | exact hk _ h
  case box t x => split at h <;> first | exact h.elim | exact ⟨h.1, hk _ h.2⟩
  case store t x y =>
    split at h <;> first | exact h.elim | skip
    split at h <;> first | exact h.elim | skip
    · split at h <;> first | exact h.elim | exact ⟨h.1, hk _ h.2⟩
    · split at h <;> first | exact h.elim | exact ⟨h.1, hk _ h.2⟩
    · split at h <;> first | exact h.elim | exact ⟨h.1, hk _ h.2⟩
  case makeSlice t l c =>
    split at h <;> first | exact h.elim | skip
    split at h <;> first | exact h.elim | exact ⟨h.1, hk _ h.2⟩
  case call c =>
    split at h <;> first | exact h.elim | skip
    split at h <;> first | exact h.elim | skip
    split at h <;> first | exact h.elim | skip
    split at h <;> first | exact h.elim | skip
    split at h
    · obtain ⟨ys, h1, h2⟩ := h
      exact ⟨ys, h1, hk _ h2⟩
    · split at h <;> first | exact h.elim | skip
      obtain ⟨ys, h1, h2⟩ := h
      exact ⟨ys, h1, hk _ h2⟩

theorem aops_append {P : Program} {T : Tab} {n : Nat} {ops : Array Oper} {K : St → Prop} : ∀ (l1 l2 : List Oper) (st : St), AOps P T n ops (fun s => AOps P T n ops K l2 s) l1 st → AOps P T n ops K (l1 ++ l2) st
  | [], _, _, h => h
  | o :: l1, l2, st, h => by
    obtain ⟨st', h1, h2⟩ := step_ex h
    have h3 := aops_append l1 l2 st' h2
    show AStep P T n ops o (fun s => AOps P T n ops K (l1 ++ l2) s) st
    obtain ⟨hd, h1⟩ := h1
    refine ⟨hd, ?_⟩
    split at h1
    · exact h1.elim
    · split at h1
      · exact ⟨h1.1, by rw [h1.2]; exact h3⟩
      · split at h1
        · exact ⟨h1.1, by rw [h1.2]; exact h3⟩
        · split at h1
          · obtain ⟨a, r, b, c⟩ := h1; exact ⟨a, r, b, by rw [c]; exact h3⟩
          · obtain ⟨s2, a, b⟩ := al_ex h1
            subst b
            exact al_mono a (fun s hs => by subst hs; exact h3)
    · split at h1
      · exact ⟨h1.1, by rw [h1.2]; exact h3⟩
      · split at h1
        · exact ⟨h1.1, by rw [h1.2]; exact h3⟩
        · split at h1
          · obtain ⟨r, b, c⟩ := h1; exact ⟨r, b, by rw [c]; exact h3⟩
          · exact h1.elim
theorem aops_at {P : Program} {T : Tab} {n : Nat} {ops : Array Oper} {K : St → Prop} {l : List Oper} {st : St} (k : Nat) (h : ∀ K' : St → Prop, (∀ s, AOps P T n ops K (l.drop k) s → K' s) → AOps P T n ops K' (l.take k) st) : AOps P T n ops K l st := by
  have := aops_append (l.take k) (l.drop k) st (h _ fun _ h => h)
  rwa [List.take_append_drop] at this
end Go.Eng
namespace Go.Eng
open Go.RowKit

/-- A slice of integers that came in: nil, or a row of which the first 'len' are its elements. -/
def InRow (k : IntKind) (w : World) (a : Option Addr) (len cap : Nat) (zs : List Int) : Prop :=
  (a = none ∧ len = 0 ∧ cap = 0 ∧ zs = []) ∨
  ∃ x, a = some x ∧ len ≤ cap ∧ cap ≤ maxLen ∧ zs.length = cap ∧ (∀ i, i < zs.length → w.cell? (x.add i) = some (.int k (zs.getD i 0))) ∧ ∀ n ∈ zs, (Lit.int k n).wf = true

theorem InRow.conc {k : IntKind} {w : World} {a : Option Addr} {len cap : Nat} {zs : List Int} (h : InRow k w a len cap zs) {B : Nat} {ρ : Nat → Option Value} :
    Conc B (allB w) w ρ (.i false (fun e _ => .v (.int k ((zs.take len).getD e 0))) 1 0 (zs.take len).length) (.slice a len cap) := by
  rcases h with ⟨rfl, rfl, rfl, rfl⟩ | ⟨x, rfl, h1, h2, h3, h4, _⟩
  · exact .i _ _ _ _ _ _ _ (fun _ _ => undef) (Nat.le_refl _) (fun hp => by simp at hp) (fun e f he => by simp at he)
  · have hl : (zs.take len).length = len := by simp; omega
    rw [hl]
    have hg : ∀ e, e < len → (zs.take len).getD e 0 = zs.getD e 0 := fun e he => by
      simp [List.getD_eq_getElem?_getD, he]
    refine .i _ _ _ _ _ _ _ (fun e _ => .int k (zs.getD e 0)) h1 (fun hp => ⟨x, rfl, ?_, (fun hh => by cases hh), fun e f he hf => ?_⟩) (fun e f he hf => ?_)
    · have := World.block_lt_of_cell? w _ (h4 0 (by omega))
      simpa [Addr.add, allB] using this
    · obtain rfl : f = 0 := by omega
      simpa using h4 e (by omega)
    · rw [Nat.zero_add, hg e he]; exact .v _

theorem wf64 {n : Int} (h : (Lit.int .i64 n).wf = true) : -9223372036854775808 ≤ n ∧ n ≤ 9223372036854775807 := by
  simp only [Lit.wf, Bool.and_eq_true, decide_eq_true_eq] at h
  have h1 : IntKind.i64.min = -9223372036854775808 := by decide
  have h2 : IntKind.i64.max = 9223372036854775807 := by decide
  omega

theorem InRow.mem {k : IntKind} {w : World} {a : Option Addr} {len cap : Nat} {zs : List Int} (h : InRow k w a len cap zs) : ∀ n ∈ zs.take len, (Lit.int k n).wf = true := by
  intro n hn
  have hn' := List.mem_of_mem_take hn
  rcases h with ⟨_, _, _, rfl⟩ | ⟨x, _, _, _, _, _, h⟩
  · cases hn'
  · exact h n hn'

theorem ConcL.cons {B : Nat} {I : Nat → Prop} {w : World} {ρ : Nat → Option Value} {x : AV} {u : Value} {cs : List AV} {us : List Value} (h : Conc B I w ρ x u) (hl : ConcL B I w ρ cs us) : ConcL B I w ρ (x :: cs) (u :: us) := by
  refine ⟨by simp [hl.1], fun j hj => ?_⟩
  cases j with
  | zero => simpa using h
  | succ j => simpa using hl.2 j (by simpa using hj)

theorem ConcL.nil {B : Nat} {I : Nat → Prop} {w : World} {ρ : Nat → Option Value} : ConcL B I w ρ [] [] := ⟨rfl, fun j hj => by simp at hj⟩

/-- What a frame asks of a law: it returns true and writes nothing that was there. -/
theorem Pure.walk {P : Program} {f : FuncId} {args : List AV} {b : Value} (h : Pure P f args (.v b)) {vs : Array Value} {w : World} (hc : ConcL w.heap.size (allB w) w noId args vs.toList) :
    Calls P f vs w fun e w' => e = .returned b ∧ Below w.heap.size w w' :=
  (h.2 w (allB w) vs (fun _ h => h) hc).mono fun e w' ⟨v, he, hb, hv⟩ => ⟨by rw [he, hv.v_inv], hb⟩
end Go.Eng
namespace Go.Eng
open Go.RowKit
attribute [push_cast] AOps AStep dstOk guardB AV.cnd pv pvLoad pvIndexAddr pvFieldAddr pvField pvExtract pvBin pvUn pvPick pvSlice pvLen pvMin pvMax pvConvert pvIndex pvNil pvBuild intOp strOp asNat? AV.strip AV.cond qb callee? condL pubL al lk lkH St.ev ofVal St.put TK.agg cellsFrom Blk.cont Cont.at Cont.len Cont.upd Cont.updL Cont.updL0 cellsOf AV.one oneC oneL AV.nor AV.norL killE killH AV.kill AV.killL Blk.kill Cont.kill delH lessH srcOf baseOf fillA setFrom toInts argEnv AV.fresh AV.freshL Nat.mul_one Nat.one_mul Nat.div_one Nat.zero_add Nat.add_zero Nat.mul_zero Nat.zero_mul Nat.sub_zero true_and and_true and_self if_true if_false Bool.false_eq_true List.map_cons List.map_nil List.getElem?_toArray List.getElem?_cons_succ List.getElem?_cons_zero List.getD_cons_zero List.getD_cons_succ Option.bind_some Option.map_some Option.map_none List.length_cons List.length_nil List.size_toArray cond_true cond_false ne_eq Nat.zero_lt_one Nat.lt_add_one implies_true false_implies true_implies Bool.and_true Bool.true_and Bool.true_or Bool.or_true Bool.false_or Bool.or_false Bool.not_true Bool.not_false Bool.and_self List.cons_append List.nil_append List.set_cons_zero List.set_cons_succ Value.cells forall_const Nat.lt_irrefl not_true_eq_false not_false_eq_true List.append_nil List.drop_zero eq_self Bool.and_false Bool.false_and and_false false_and bif_and bif_or bif_nand I64 BL ints intsF
section
variable (fl : Bool) (H : List (Nat × Blk)) (n : Nat)
theorem pub_v (y : Value) : AV.pub fl H (n + 1) (.v y) = .v y := rfl
theorem pub_s (id : Nat) : AV.pub fl H (n + 1) (.s id) = (match lkH H id with
      | some (.row _ sz (.ints k l)) => if sz = 1 then .i fl (fun e _ => .v (.int k (l.getD e 0))) 1 0 l.length else .top
      | some (.row _ sz (.vals l)) => if 0 < sz then .i fl (fun e j => .v (l.getD (e * sz + j) undef)) sz 0 (l.length / sz) else .top
      | some (.row _ sz (.avs l)) => if 0 < sz then .i fl (fun e j => AV.pub fl H n (l.getD (e * sz + j) .top)) sz 0 (l.length / sz) else .top
      | some (.nst _ c) => .i fl (fun e _ => AV.pub fl H n (c.at e)) 1 0 c.len
      | _ => .top) := rfl
theorem pub_w (id off len : Nat) : AV.pub fl H (n + 1) (.w id off len) = (match lkH H id with
      | some (.row _ sz (.ints k l)) => if sz = 1 ∧ off + len ≤ l.length then .i fl (fun e _ => .v (.int k (l.getD e 0))) 1 off len else .top
      | _ => .top) := rfl
theorem pub_p (id off : Nat) : AV.pub fl H (n + 1) (.p id off) = (match lkH H id with
      | some blk => .q fl (fun _ j => AV.pub fl H n (blk.cont.at j)) blk.cont.len 0 off
      | none => .top) := rfl
theorem pub_i (fr : Bool) (c : Nat → Nat → AV) (sz off len : Nat) : AV.pub fl H (n + 1) (.i fr c sz off len) = .i (fr && fl) (fun e j => AV.pub fl H n (c e j)) sz off len := rfl
theorem pub_q (fr : Bool) (c : Nat → Nat → AV) (sz e j : Nat) : AV.pub fl H (n + 1) (.q fr c sz e j) = .q (fr && fl) (fun e j => AV.pub fl H n (c e j)) sz e j := rfl
theorem pub_a (cs : List AV) : AV.pub fl H (n + 1) (.a cs) = .a (cs.map (AV.pub fl H n)) := rfl
theorem pub_t (cs : List AV) : AV.pub fl H (n + 1) (.t cs) = .t (cs.map (AV.pub fl H n)) := rfl
theorem pub_f (fn : Fn) (cs : List AV) : AV.pub fl H (n + 1) (.f fn cs) = .f fn (cs.map (AV.pub fl H n)) := rfl
theorem pub_g (b : Bool) (y : AV) : AV.pub fl H (n + 1) (.g b y) = .g b (AV.pub fl H n y) := rfl
theorem pub_top : AV.pub fl H (n + 1) .top = .top := rfl
theorem pub_getD (l : List AV) (j : Nat) : AV.pub fl H (n + 1) (l.getD j .top) = (l.map (AV.pub fl H (n + 1))).getD j .top := by
  by_cases h : j < l.length
  · rw [getD_map_pub _ _ _ _ _ h]
  · have e1 : l.getD j .top = .top := by simp [List.getD_eq_getElem?_getD, List.getElem?_eq_none (show l.length ≤ j by omega)]
    have e2 : (l.map (AV.pub fl H (n + 1))).getD j .top = .top := by simp [List.getD_eq_getElem?_getD, List.getElem?_eq_none (show l.length ≤ j by omega)]
    rw [e1, e2]; rfl
end
attribute [push_cast] eqA pub_v pub_s pub_w pub_p pub_i pub_q pub_a pub_t pub_f pub_g pub_top pub_getD
end Go.Eng
namespace Go.Eng
open Go.RowKit

/-- A guard, by the slot that it reads. -/
def gOf (ops : Array Oper) : Option (Nat × Bool) → Option (Option (Nat × Bool))
  | none => some none
  | some (j, want) => match (ops[j]?).bind (·.dst) with
    | some d => some (some (d, want))
    | none => none
def guardS (st : St) : Option (Nat × Bool) → Option (Option Bool)
  | none => some none
  | some (d, want) => match (lk st.env d).strip with
    | .v (.bool y) => some (some ((lk st.env d).cnd && (bif want then y else !y)))
    | _ => none
theorem guardS_eq {st : St} {ops : Array Oper} {g : Option (Nat × Bool)} {g' : Option (Nat × Bool)} (h : gOf ops g = some g') : guardB st ops g = guardS st g' := by
  cases g with
  | none => simp [gOf] at h; subst h; rfl
  | some p =>
    obtain ⟨j, want⟩ := p
    simp only [gOf] at h
    simp only [guardB]
    cases hd : (ops[j]?).bind (·.dst) with
    | none => rw [hd] at h; cases h
    | some d => rw [hd] at h; injection h with h; subst h; rfl

/-- One operation, without what the evaluation does not look at. -/
def StepN (P : Program) (T : Tab) (n : Nat) (dst : Option Nat) (op : Op) (g : Option (Nat × Bool)) (K : St → Prop) (st : St) : Prop :=
  dstOk n dst ∧
  match guardS st g with
  | none => False
  | some none =>
    match pv T st.heap st.ev op with
    | some (φ, r) => φ ∧ K (st.put dst r)
    | none =>
      match qb T st.ev op with
      | some (φ, r) => φ ∧ K (st.put dst r)
      | none =>
        match callee? st.ev op with
        | some (ψ, k, args) => (ψ ∧ condL args) ∧ ∃ r, (Pure P k (pubL st.heap args) r ∧ okR args r) ∧ K (st.put dst r)
        | none => al T st ⟨dst, op, 0, "", #[], none⟩ K
  | some (some b) =>
    match pv T st.heap st.ev op with
    | some (φ, r) => (b = true → φ) ∧ K (st.put dst (.g b r))
    | none =>
      match qb T st.ev op with
      | some (φ, r) => (b = true → φ) ∧ K (st.put dst (.g b r))
      | none =>
        match callee? st.ev op with
        | some (ψ, k, args) => ∃ r, (b = true → (ψ ∧ condL args) ∧ Pure P k (pubL st.heap args) r ∧ okR args r) ∧ K (st.put dst (.g b r))
        | none => False
theorem stepN_ok {P : Program} {T : Tab} {n : Nat} {ops : Array Oper} {o : Oper} {g : Option (Nat × Bool)} (hg : gOf ops o.guard = some g) {K : St → Prop} {st : St} (h : StepN P T n o.dst o.op g K st) : AStep P T n ops o K st := by
  unfold AStep
  rw [guardS_eq hg]
  exact h

theorem aops_nil {P : Program} {T : Tab} {n : Nat} {ops : Array Oper} {K : St → Prop} {st : St} (h : K st) : AOps P T n ops K [] st := h
theorem aops_cons {P : Program} {T : Tab} {n : Nat} {ops : Array Oper} {K : St → Prop} {o : Oper} {rest : List Oper} {st : St} {g : Option (Nat × Bool)} (hg : gOf ops o.guard = some g) (h : ∀ K' : St → Prop, (∀ s, AOps P T n ops K rest s → K' s) → StepN P T n o.dst o.op g K' st) : AOps P T n ops K (o :: rest) st :=
  stepN_ok hg (h _ fun _ h => h)
attribute [push_cast] StepN guardS beq_self_eq_true bne_self_eq_false List.replicate_zero
end Go.Eng
namespace Go.Eng
open Go.RowKit

section
variable {P : Program} {T : Tab} (hT : T.ok P) {n B : Nat} {w0 : Orig} {st : St} {a : Act} {w : World} {ρ : Nat → Option Value} {I : Nat → Prop}
include hT

theorem build_run (hG : Gam n B w0 st a w ρ I) {dst : Option Nat} {t e : TypeId} {len : Nat} {parts : Array (Nat × Operand)} {ty : TypeId} {pos : String} {aft : Array Edge} {gd : Option (Nat × Bool)} {te : TI} {ψ : Prop} {cs : List AV} {s1 b1 : Nat} {z1 : Value} (ht : T t = some ⟨.sl e, s1, b1, z1⟩) (hte : T e = some te)
    (hfill : fillA (fun i => some (i * te.sz, te.sz)) (cellsFrom (fun j => ofVal (te.z.cells.getD (j % te.sz) undef)) 0 (len * te.sz)) (parts.toList.map fun p => (p.1, st.ev p.2)) = some (ψ, cs)) :
    ψ → te.z.cells.size = te.sz → len * te.sz ≤ 16777216 →
      ∃ us, us.size = len * te.sz ∧ ConcL B I w ρ cs us.toList ∧ (execOp a.eval ⟨dst, .buildSlice t len parts, ty, pos, aft, gd⟩).run P w = .ok (.value (.slice (some ⟨w.heap.size, 0, none⟩) len len)) (w.alloc (.cells us e)) := by
  have hu : P.underlying t = some (.slice e) := (hT _ _ ht).kind
  obtain ⟨inf, hi1, hi2, hi3, hz⟩ := (hT _ _ hte).info
  have hsz := (hT _ _ hte).size w
  intro hψ hzs hlen
  have hz0 : ConcL B I w ρ (cellsFrom (fun j => ofVal (te.z.cells.getD (j % te.sz) undef)) 0 (len * te.sz)) ((Array.range (len * te.sz)).map fun j => (if len * te.sz = 0 then #[] else te.z.cells)[j % (if len * te.sz = 0 then #[] else te.z.cells).size]!).toList := by
    refine ⟨by simp [cellsFrom_length], fun j hj => ?_⟩
    rw [cellsFrom_length] at hj
    have hne : ¬ len * te.sz = 0 := by omega
    rw [cellsFrom_getD _ _ _ _ hj, Nat.zero_add, if_neg hne, hzs]
    have e1 : ((Array.range (len * te.sz)).map fun j => te.z.cells[j % te.sz]!).toList.getD j undef = te.z.cells.getD (j % te.sz) undef := by
      have hlt : j % te.sz < te.z.cells.size := by
        rw [hzs]; apply Nat.mod_lt
        rcases Nat.eq_zero_or_pos te.sz with h0 | h0
        · rw [h0] at hne; simp at hne
        · exact h0
      simp [List.getD_eq_getElem?_getD, hj, Array.getD_eq_getD_getElem?, hlt]
    rw [e1]; exact conc_ofVal _
  obtain ⟨us, h1, h2⟩ := fillA_ok _ ((parts.map fun p => (p.1, a.eval p.2)).toList) _ _ hfill hψ hz0 (by simp) (fun j hj => by
    simp at hj
    have h1 : ((parts.toList.map fun p => (p.1, st.ev p.2)).getD j (0, .top)).2 = st.ev parts[j].2 := by simp [List.getD_eq_getElem?_getD, hj]
    have h2 : ((parts.map fun p => (p.1, a.eval p.2)).toList.getD j (0, undef)).2 = a.eval parts[j].2 := by simp [List.getD_eq_getElem?_getD, hj]
    rw [h1, h2]; exact hG.ev _)
  have hsize : us.size = len * te.sz := by
    have hfl : ∀ (place : Nat → Option (Nat × Nat)) (l : List (Nat × Value)) (us us' : Array Value), Instr.fill place us l = some us' → us'.size = us.size := by
      intro place l
      induction l with
      | nil => intro us us' h; simp [Instr.fill] at h; rw [h]
      | cons p l ih =>
        intro us us' h
        obtain ⟨i, v⟩ := p
        simp only [Instr.fill] at h
        split at h
        · cases h
        · split at h
          · cases h
          · rw [ih _ _ h]
            have : ∀ (l : List (Value × Nat)) (off : Nat) (us : Array Value), (l.foldl (fun cs (x : Value × Nat) => cs.setIfInBounds (off + x.2) x.1) us).size = us.size := by
              intro l
              induction l with
              | nil => intro off us; rfl
              | cons q l ih => intro off us; simp [ih]
            rw [← Array.foldl_toList]
            exact this _ _ _
    rw [hfl _ _ _ _ h1]; simp
  refine ⟨us, hsize, h2, ?_⟩
  have hlen' : ¬ (len * te.sz > 2 ^ 24) := by omega
  by_cases h0 : len * te.sz = 0
  · rw [if_pos h0] at h1
    rw [h0] at h1
    have h024 : ¬ ((0 : Nat) > 2 ^ 24) := by decide
    simp only [execOp, Instr.buildSlice, Sem.run_bind, run_underlying hu, Result.andThen_ok, hsz, h0, h024, if_false, if_true, Sem.run_pure, h1]
    simp [newRow]
  · rw [if_neg h0] at h1
    simp only [execOp, Instr.buildSlice, Sem.run_bind, run_underlying hu, Result.andThen_ok, hsz, hlen', if_false, h0, Sem.run_pure, zeroValue, typeInfo, run_program, hi1, hz, h1]
    simp [newRow]

omit hT in
/-- A slice that is written out, as a row of one's own. -/
def alB (T : Tab) (st : St) (dst : Option Nat) (op : Op) (K : St → Prop) : Prop :=
  match op, dst with
  | .buildSlice t len parts, some d =>
    match T t with
    | some ⟨.sl e, _, _, _⟩ =>
      match T e with
      | some te =>
        match fillA (fun i => some (i * te.sz, te.sz)) (cellsFrom (fun j => ofVal (te.z.cells.getD (j % te.sz) undef)) 0 (len * te.sz)) (parts.toList.map fun p => (p.1, st.ev p.2)) with
        | some (φ, cs) =>
          match te.k with
          | .int k => match toInts k cs with
            | some l => (φ ∧ te.sz = 1 ∧ te.z.cells.size = 1 ∧ len ≤ 16777216) ∧ K ⟨(d, .s d) :: killE d st.env, (d, .row e 1 (.ints k l)) :: killH d st.heap⟩
            | none => False
          | _ => (φ ∧ 0 < te.sz ∧ te.z.cells.size = te.sz ∧ len * te.sz ≤ 16777216 ∧ AV.norL cs = true) ∧ K ⟨(d, .s d) :: killE d st.env, (d, .row e te.sz (.avs cs)) :: killH d st.heap⟩
        | none => False
      | none => False
    | _ => False
  | _, _ => False

theorem alB_ok (hG : Gam n B w0 st a w ρ I) {o : Oper} (hd : dstOk n o.dst) {K : St → Prop} (h : alB T st o.dst o.op K) : StepOk P n B w0 o a w K := by
  intro next Q hn
  obtain ⟨dst, op, ty, pos, aft, gd⟩ := o
  simp only [alB] at h
  split at h <;> first | exact h.elim | skip
  rename_i t len parts d
  split at h <;> first | exact h.elim | skip
  rename_i e s1 b1 z1 ht
  cases hte : T e with
  | none => rw [hte] at h; exact h.elim
  | some te =>
    rw [hte] at h
    simp only at h
    split at h <;> first | exact h.elim | skip
    rename_i ψ cs hfill
    have hdn : d < n := hd
    have own : ∀ us : Array Value, us.size = len * te.sz → len ≤ 16777216 → (w.alloc (.cells us e)).ownsRow B e te.sz (.slice (some ⟨w.heap.size, 0, none⟩) len len) len us.toList := fun us hs hl16 =>
      ⟨by simp [hs], .inr ⟨w.heap.size, len, us, rfl, hG.base, heap_alloc_new w _, Nat.le_refl _, by simp only [maxLen]; omega, hs, by rw [List.take_of_length_le (by simp [hs])]⟩⟩
    have hb : ∀ us : Array Value, Below w.heap.size w (w.alloc (.cells us e)) := fun us => (Below.refl _ _).alloc (Nat.le_refl _) _
    split at h
    · rename_i k hk
      split at h <;> first | exact h.elim | skip
      rename_i l hl
      obtain ⟨⟨hφ, hs1, hz1, h16⟩, hK⟩ := h
      obtain ⟨us, h1, h2, h3⟩ := build_run hT hG (dst := some d) (ty := ty) (pos := pos) (aft := aft) (gd := gd) ht hte hfill hφ (by rw [hs1, hz1]) (by rw [hs1]; omega)
      obtain ⟨l1, l2⟩ := toInts_spec hl
      have hcl : cs.length = len := by
        have := h2.1
        rw [Array.length_toList, h1, hs1] at this; omega
      unfold Oper.wp
      rw [h3, Oper.upon_value]
      have ho := own us h1 h16
      rw [hs1] at ho
      refine hn _ _ _ hK (new_row hG d hdn (hb us) ho (fun b hr => by simp [rootBlk] at hr; omega) _ (by simp [Cont.len, l1, hcl]) fun j u hu => ?_)
      have hj : j < cs.length := by
        have := (List.getElem?_eq_some_iff.1 hu).1
        simp [h1, hs1] at this; omega
      have := h2.2 j hj
      rw [l2 j hj] at this
      have e2 : us.toList.getD j undef = u := by simp [List.getD_eq_getElem?_getD, hu]
      rw [← e2, this.v_inv]; exact .v _
    · obtain ⟨⟨hφ, hpos, hzs, h16, hnor⟩, hK⟩ := h
      obtain ⟨us, h1, h2, h3⟩ := build_run hT hG (dst := some d) (ty := ty) (pos := pos) (aft := aft) (gd := gd) ht hte hfill hφ hzs h16
      have hcl : cs.length = len * te.sz := by
        have := h2.1
        rw [Array.length_toList, h1] at this; omega
      unfold Oper.wp
      rw [h3, Oper.upon_value]
      have hl16 : len ≤ 16777216 := by
        have : len * 1 ≤ len * te.sz := Nat.mul_le_mul_left _ hpos
        omega
      refine hn _ _ _ hK (new_row hG d hdn (hb us) (own us h1 hl16) (fun b hr => by simp [rootBlk] at hr; omega) _ (by simp [Cont.len, hcl]) fun j u hu => ?_)
      have hj : j < cs.length := by
        have := (List.getElem?_eq_some_iff.1 hu).1
        simp [h1] at this; omega
      have := (h2.nor hnor).2 j hj
      have e2 : us.toList.getD j undef = u := by simp [List.getD_eq_getElem?_getD, hu]
      rw [e2] at this
      exact this
end
end Go.Eng
namespace Go.Eng
open Go.RowKit
set_option linter.unusedVariables false

def updKs : List Key → Key → List Key
  | [], k => [k]
  | a :: r, k => if a = k then a :: r else a :: updKs r k
def updVs {α : Type} : List Key → List α → Key → α → List α
  | [], _, _, v => [v]
  | _ :: _, [], _, _ => []
  | a :: r, x :: vs, k, v => if a = k then v :: vs else x :: updVs r vs k v
theorem updKs_zip {α : Type} : ∀ {ks : List Key} {vals : List α} (k : Key) (v : α), vals.length = ks.length → updK (ks.zip vals) k v = (updKs ks k).zip (updVs ks vals k v) ∧ (updVs ks vals k v).length = (updKs ks k).length
  | [], [], k, v, _ => by simp [updK, updKs, updVs]
  | a :: r, x :: vs, k, v, h => by
    obtain ⟨h1, h2⟩ := updKs_zip (ks := r) (vals := vs) k v (by simpa using h)
    simp only [List.zip_cons_cons, updK, updKs, updVs]
    by_cases e : a = k
    · simp [e]; simpa using h
    · simp [e, h1, h2]
theorem updVs_length {α β : Type} : ∀ {ks : List Key} {vs : List α} {us : List β} (k : Key) (v : α) (u : β), vs.length = us.length → (updVs ks vs k v).length = (updVs ks us k u).length
  | [], _, _, _, _, _, _ => rfl
  | a :: r, [], [], _, _, _, _ => rfl
  | a :: r, x :: vs, y :: us, k, v, u, h => by
    simp only [updVs]
    split
    · simpa using h
    · simp [updVs_length (ks := r) (vs := vs) (us := us) k v u (by simpa using h)]
theorem updKs_at {ks : List Key} {k : Key} : ∀ {j : Nat}, ks.findIdx (fun x => x = k) = j → j < ks.length → updKs ks k = ks ∧ ∀ {α : Type} (vs : List α) (v : α), vs.length = ks.length → updVs ks vs k v = vs.set j v := by
  induction ks with
  | nil => intro j _ h; simp at h
  | cons a r ih =>
    intro j h hj
    rw [List.findIdx_cons] at h
    by_cases e : a = k
    · simp [e] at h; subst h
      refine ⟨by simp [updKs, e], fun vs v hl => ?_⟩
      cases vs with
      | nil => simp at hl
      | cons x vs => simp [updVs, e]
    · simp [e] at h
      cases j with
      | zero => omega
      | succ j =>
        obtain ⟨h1, h2⟩ := ih (j := j) (by omega) (by simpa using hj)
        refine ⟨by simp [updKs, e, h1], fun vs v hl => ?_⟩
        cases vs with
        | nil => simp at hl
        | cons x vs => simp [updVs, e, h2 vs v (by simpa using hl)]
theorem updKs_none {ks : List Key} {k : Key} : (∀ x ∈ ks, x ≠ k) → updKs ks k = ks ++ [k] ∧ ∀ {α : Type} (vs : List α) (v : α), vs.length = ks.length → updVs ks vs k v = vs ++ [v] := by
  induction ks with
  | nil =>
    intro _
    refine ⟨rfl, fun vs v hl => ?_⟩
    have : vs = [] := List.length_eq_zero_iff.1 (by simpa using hl)
    subst this; rfl
  | cons a r ih =>
    intro h
    have e := h a (by simp)
    obtain ⟨h1, h2⟩ := ih (fun x hx => h x (by simp [hx]))
    refine ⟨by simp [updKs, e, h1], fun vs v hl => ?_⟩
    cases vs with
    | nil => simp at hl
    | cons x vs => simp [updVs, e, h2 vs v (by simpa using hl)]
/-- A value of a map that refers to no integer. -/
def isRef (H : List (Nat × Blk)) : AV → Prop
  | .s id => (lkH H id).isSome = true
  | .i _ _ _ _ _ => True
  | _ => False
/-- m[k] = v, where the values are known by their places. -/
def MapUpdA (T : Tab) (dst : Option Nat) (op : Op) (K : St → Prop) (st : St) : Prop :=
  match op with
  | .mapUpdate t m k v =>
    match T t with
    | some ⟨.mapt kt _, _, _, _⟩ =>
      match T kt, (st.ev m).strip, (st.ev k).strip with
      | some tk, .s id, .v kv =>
        match lkH st.heap id, keyFor tk.k kv with
        | some (.mpa kd ks (.avs l)), some key => ((st.ev m).cond ∧ (st.ev k).cond ∧ (st.ev v).cond ∧ dst = none ∧ key.isI = kd ∧ key.wf ∧ isRef st.heap (st.ev v).strip ∧ ks.length < 9223372036854775807) ∧ K ⟨st.env, (id, .mpa kd (updKs ks key) (.avs (updVs ks l key (st.ev v).strip))) :: st.heap⟩
        | _, _ => False
      | _, _, _ => False
    | _ => False
  | _ => False
theorem updVs_getD {ks : List Key} : ∀ {vs : List Value} {l : List AV} {k : Key} {v : Value} {x : AV} {R : AV → Value → Prop}, l.length = vs.length → R x v → (∀ j u, vs[j]? = some u → R (l.getD j .top) u) → ∀ j u, (updVs ks vs k v)[j]? = some u → R ((updVs ks l k x).getD j .top) u := by
  induction ks with
  | nil =>
    intro vs l k v x R hl hx h j u hu
    cases j with
    | zero => simp [updVs] at hu; subst hu; simpa [updVs] using hx
    | succ j => simp [updVs] at hu
  | cons a r ih =>
    intro vs l k v x R hl hx h j u hu
    cases vs with
    | nil => simp [updVs] at hu
    | cons y vs =>
      cases l with
      | nil => simp at hl
      | cons z l =>
        have h0 : R z y := by simpa using h 0 y (by simp)
        have hr : ∀ j u, vs[j]? = some u → R (l.getD j .top) u := fun j u hu => by simpa using h (j + 1) u (by simpa using hu)
        simp only [updVs] at hu ⊢
        by_cases e : a = k
        · rw [if_pos e] at hu ⊢
          cases j with
          | zero => simp at hu; subst hu; simpa using hx
          | succ j => simpa using hr j u (by simpa using hu)
        · rw [if_neg e] at hu ⊢
          cases j with
          | zero => simp at hu; subst hu; simpa using h0
          | succ j => simpa using ih (by simpa using hl) hx hr j u (by simpa using hu)
theorem mapUpdA_ok {P : Program} {T : Tab} (hT : T.ok P) {n B : Nat} {w0 : Orig} {st : St} {a : Act} {w : World} {ρ : Nat → Option Value} {I : Nat → Prop} (hG : Gam n B w0 st a w ρ I) {o : Oper} {K : St → Prop} (h : MapUpdA T o.dst o.op K st) : StepOk P n B w0 o a w K := by
  intro next Q hn
  unfold MapUpdA at h
  split at h <;> first | exact h.elim | skip
  rename_i t m k v ho
  split at h <;> first | exact h.elim | skip
  rename_i kt e _ _ _ ht
  have hu : P.underlying t = some (.map kt e) := (hT _ _ ht).kind
  split at h <;> first | exact h.elim | skip
  rename_i tk id kv htk hm hk
  split at h <;> first | exact h.elim | skip
  rename_i kd ks l key hl hkey
  obtain ⟨⟨c1, c2, c3, hdst, hi, hkw, hvw, hlen⟩, hK⟩ := h
  have hm' := (hG.ev m).strip c1
  have hk' := (hG.ev k).strip c2
  have hv' := (hG.ev v).strip c3
  rw [hm] at hm'; rw [hk] at hk'
  have ek := hk'.v_inv
  obtain ⟨e1, e2⟩ := keyFor_spec hkey
  have hkt : P.underlying kt = some (kdesc kd) := by
    have hh := (hT _ _ htk).kind
    rcases e2 with ⟨e3, e4⟩ | ⟨e3, e4⟩
    · rw [e3] at hh; rw [← hi, e4]; exact hh
    · rw [e3] at hh; rw [← hi, e4]; exact hh
  have hvv : vwf (a.eval v) := by
    generalize (st.ev v).strip = x at hv' hvw
    cases x <;> simp only [isRef] at hvw
    · rename_i id'
      generalize a.eval v = u at hv'
      cases hv' with
      | s _ _ hr _ =>
        cases hk2 : lkH st.heap id' with
        | none => rw [hk2] at hvw; cases hvw
        | some blk =>
          obtain ⟨x', hx', hok⟩ := hG.hw.ok _ _ hk2
          rw [hr] at hx'; injection hx' with hx'; subst hx'
          cases blk with
          | box t c => obtain ⟨b, us, rfl, _⟩ := hok; trivial
          | row e sz c =>
            obtain ⟨m, xs, ho, _⟩ := hok
            rcases ho.2 with ⟨rfl, _⟩ | ⟨g, cap, cur, rfl, _⟩ <;> trivial
          | nst e c =>
            obtain ⟨m, xs, ho, _⟩ := hok
            rcases ho.2 with ⟨rfl, _⟩ | ⟨g, cap, cur, rfl, _⟩ <;> trivial
          | mp c => obtain ⟨b, rfl, _⟩ := hok; trivial
          | mpa kd ks c => obtain ⟨b, vals, rfl, _⟩ := hok; trivial
    · generalize a.eval v = u at hv'
      cases hv' with
      | i => trivial
  generalize hmv : a.eval m = mv at hm'
  cases hm' with
  | s _ x hr _ =>
    obtain ⟨x', hx', hok⟩ := hG.hw.ok _ _ hl
    rw [hr] at hx'; injection hx' with hx'; subst hx'
    obtain ⟨b, vals, rfl, hB, hmap, hvl, hcl, hcc⟩ := hok
    obtain ⟨z1, z2⟩ := updKs_zip (ks := ks) (vals := vals) key (a.eval v) hvl
    obtain ⟨ob, hrun, hmap'⟩ := map_upd hmap hu hkt key hi hkw hvv (c' := .anys kd (updK (ks.zip vals) key (a.eval v))) rfl (by simp only [MC.ents, List.length_zip]; omega)
    rw [z1] at hmap'
    have hb : b < w.heap.size := by obtain ⟨es, clock, hh, _⟩ := hmap; exact (Array.getElem?_eq_some_iff.1 hh).1
    unfold Oper.wp
    have : (execOp a.eval o).run P w = .ok .skip { w with heap := w.heap.setIfInBounds b ob } := by
      simp [execOp, ho, hmv, ek, e1, hrun, Result.andThen]
    rw [this, Oper.upon_skip, hdst]
    refine hn _ _ _ hK ⟨ρ, I, hG.store hl hr ⟨b, _, rfl, hB, hmap', z2, ?_, ?_⟩ ⟨rfl, rfl, rfl, by simp, fun k hk => by simp only; rw [Array.getElem?_setIfInBounds_ne (by omega)]⟩ (fun b1 hb1 => ?_)⟩
    · show (updVs ks l key _).length = _
      rw [← z2]
      exact updVs_length key _ _ (by rw [hvl]; exact hcl)
    · have hw' : ∀ b', I b' → (w.heap.setIfInBounds b ob)[b']? = w.heap[b']? := fun b' hb' => Array.getElem?_setIfInBounds_ne (fun e => hG.hw.imm id _ _ b hl hr rfl (by rw [e]; exact hb'))
      exact updVs_getD (R := fun x u => Conc B I { w with heap := w.heap.setIfInBounds b ob } ρ x u) (by rw [hvl]; exact hcl) (hv'.same hw') fun j u hu => (hcc j u hu).same hw'
    · show (w.heap.setIfInBounds b ob)[b1]? = _
      rw [Array.getElem?_setIfInBounds_ne (fun e => hb1 (by rw [e]; rfl))]
/-! ### Rows of rows by append -/
/-- A slice literal of slices of one's own. -/
def NstLit (T : Tab) (dst : Option Nat) (op : Op) (K : St → Prop) (st : St) : Prop :=
  match op, dst with
  | .buildSlice t len parts, some d =>
    match T t with
    | some ⟨.sl e, _, _, _⟩ =>
      match T e with
      | some te =>
        match fillA (fun i => some (i * te.sz, te.sz)) (cellsFrom (fun j => ofVal (te.z.cells.getD (j % te.sz) undef)) 0 (len * te.sz)) (parts.toList.map fun p => (p.1, st.ev p.2)) with
        | some (φ, cs) => (φ ∧ te.sz = 1 ∧ te.z.cells.size = te.sz ∧ len ≤ 16777216) ∧ K ⟨(d, .s d) :: killE d st.env, (d, .nst e (.avs (AV.killL d cs))) :: killH d st.heap⟩
        | none => False
      | none => False
    | _ => False
  | _, _ => False
theorem nstLit_ok {P : Program} {T : Tab} (hT : T.ok P) {n B : Nat} {w0 : Orig} {st : St} {a : Act} {w : World} {ρ : Nat → Option Value} {I : Nat → Prop} (hG : Gam n B w0 st a w ρ I) {o : Oper} (hd : dstOk n o.dst) {K : St → Prop} (h : NstLit T o.dst o.op K st) : StepOk P n B w0 o a w K := by
  intro next Q hn
  obtain ⟨dst, op, ty, pos, aft, gd⟩ := o
  simp only [NstLit] at h
  split at h <;> first | exact h.elim | skip
  rename_i t len parts d
  split at h <;> first | exact h.elim | skip
  rename_i e s1 b1 z1 ht
  cases hte : T e with
  | none => rw [hte] at h; exact h.elim
  | some te =>
    rw [hte] at h
    simp only at h
    split at h <;> first | exact h.elim | skip
    rename_i ψ cs hfill
    have hdn : d < n := hd
    obtain ⟨⟨hφ, hs1, hz1, h16⟩, hK⟩ := h
    obtain ⟨us, h1, h2, h3⟩ := build_run hT hG (dst := some d) (ty := ty) (pos := pos) (aft := aft) (gd := gd) ht hte hfill hφ hz1 (by rw [hs1]; omega)
    rw [hs1, Nat.mul_one] at h1
    have hb : Below w.heap.size w (w.alloc (.cells us e)) := (Below.refl _ _).alloc (Nat.le_refl _) _
    have ho : (w.alloc (.cells us e)).ownsRow B e 1 (.slice (some ⟨w.heap.size, 0, none⟩) len len) len us.toList :=
      ⟨by simp [h1], .inr ⟨w.heap.size, len, us, rfl, hG.base, heap_alloc_new w _, Nat.le_refl _, by simp only [maxLen]; omega, by rw [h1, Nat.mul_one], by rw [List.take_of_length_le (by simp [h1])]⟩⟩
    have hlen : us.toList.length = cs.length := h2.1
    unfold Oper.wp
    rw [h3, Oper.upon_value]
    have h1' := hG.new hb d (.slice (some ⟨w.heap.size, 0, none⟩) len len) (.nst e (.avs (AV.killL d cs))) ⟨len, us.toList, ho, by simp only [Cont.len, killL_length]; rw [← hlen, Array.length_toList]; omega, fun j u hu => by
      have hj : j < cs.length := by rw [← hlen]; exact (List.getElem?_eq_some_iff.1 hu).1
      have h4 := h2.2 j hj
      have h5 : us.toList.getD j undef = u := by simp [List.getD_eq_getElem?_getD, hu]
      rw [h5] at h4
      simp only [Cont.at]
      rw [killL_getD]
      exact (h4.kill d _ (fun id hid => updρ_ne _ _ _ hid)).same fun b hb' => hb.block b (hG.hw.lt b hb')⟩ (fun b hr => by simp [rootBlk] at hr; omega) (hG.old.ghn d hdn)
    exact hn _ _ _ hK ⟨_, I, h1'.put (d := some d) (fun k hk => by injection hk with hk; omega) (.s d _ (updρ_self _ _ _) rfl)⟩
def lessN (H : List (Nat × Blk)) : Option Nat → List (Nat × Blk)
  | none => H
  | some id => delH id H
theorem appN_core {P : Program} {T : Tab} (hT : T.ok P) {n B : Nat} {w0 : Orig} {st : St} {a : Act} {w : World} {ρ : Nat → Option Value} {I : Nat → Prop} (hG : Gam n B w0 st a w ρ I) {o : Oper} {x y : Operand} {t e e2 : TypeId} {te : TI} {d : Nat} (ho : o.op = .call ⟨.builtin .append, #[x, y], #[t, t]⟩) (hdst : o.dst = some d) (hd : d < n) {s1 : Nat} {b1 : Nat} {z1 : Value} (ht : T t = some ⟨.sl e, s1, b1, z1⟩) (hte : T e = some te)
    {id2 : Nat} {l ys : List AV} {bs : Option Nat} (hy : (st.ev y).strip = .s id2) (hk2 : lkH st.heap id2 = some (.nst e2 (.avs ys))) (cx : (st.ev x).cond) (cy : (st.ev y).cond) (hs1 : te.sz = 1) (hz : te.z.cells.size = te.sz) (h1 : oneL ys = true)
    (hbase : (bs = none ∧ (st.ev x).strip = .v (.slice none 0 0) ∧ l = []) ∨ ∃ id, bs = some id ∧ id ≠ id2 ∧ (st.ev x).strip = .s id ∧ lkH st.heap id = some (.nst e (.avs l)))
    (hby : (l.length + ys.length) * te.by_ ≤ 140737488355328) (hmax : l.length + ys.length ≤ 9223372036854775807)
    (next : Act → World → Prop) (Q : Exit → Act → World → Prop)
    (hn : ∀ a' w', G n B w0 ⟨(d, .s d) :: killE d st.env, (d, .nst e (.avs (AV.killL d (l ++ ys)))) :: killH d (lessN st.heap bs)⟩ a' w' → next a' w') : o.wp P a w next Q := by
  have hu : P.underlying t = some (.slice e) := (hT _ _ ht).kind
  obtain ⟨inf, hi1, hi2, hi3, hzv⟩ := (hT _ _ hte).info
  -- what is appended
  have hsrc : ∃ (A : Option Addr) (cap : Nat) (news : List Value), a.eval y = .slice A ys.length cap ∧ news.length = ys.length ∧ (0 < ys.length → ∃ ad, A = some ad ∧ ∀ j u, news[j]? = some u → w.cell? (ad.add j) = some u) ∧ ∀ j u, news[j]? = some u → Conc B I w ρ (ys.getD j .top) u := by
    have hyv := (hG.ev y).strip cy
    rw [hy] at hyv
    generalize hv : a.eval y = yv at hyv
    cases hyv with
    | s _ _ hr _ =>
      obtain ⟨x', hx', m, xs, ho', hl, hc⟩ := hG.hw.ok _ _ hk2
      rw [hr] at hx'; injection hx' with hx'; subst hx'
      have hm : m = ys.length := by simp only [Cont.len] at hl; omega
      subst hm
      have hxl : xs.length = ys.length := by have := ho'.1; simpa using this
      rcases ho'.2 with ⟨rfl, h0⟩ | ⟨g, cap, cur, rfl, _⟩
      · exact ⟨none, 0, xs, by rw [h0], hxl, fun h => by omega, hc⟩
      · exact ⟨_, cap, xs, rfl, hxl, fun h => ⟨_, rfl, fun j u hu => ho'.cells rfl j u hu⟩, hc⟩
  obtain ⟨A, cap, news, huv, hnl, hcells, hcont⟩ := hsrc
  -- the row that is appended to
  have hrow : ∃ v0 xs, a.eval x = v0 ∧ w.ownsRow B e 1 v0 l.length xs ∧ (∀ j u, xs[j]? = some u → Conc B I w ρ (l.getD j .top) u) ∧
      (∀ id, bs = some id → lkH st.heap id = some (.nst e (.avs l)) ∧ ρ id = some v0) ∧ (bs = none → v0 = .slice none 0 0) := by
    have hx := (hG.ev x).strip cx
    rcases hbase with ⟨hb0, hst, rfl⟩ | ⟨id, hb0, hne, hst, hk⟩
    · rw [hst] at hx
      exact ⟨.slice none 0 0, [], hx.v_inv, World.ownsRow_nil w B e 1, (fun j u hu => by simp at hu), (fun id h => by rw [hb0] at h; cases h), fun _ => rfl⟩
    · rw [hst] at hx
      generalize hxv : a.eval x = xv at hx
      cases hx with
      | s _ _ hr _ =>
        obtain ⟨x', hr', m, xs, ho', hl, hc⟩ := hG.hw.ok _ _ hk
        rw [hr] at hr'; injection hr' with hr'; subst hr'
        have hm : m = l.length := by simp only [Cont.len] at hl; omega
        subst hm
        exact ⟨xv, xs, rfl, ho', hc, (fun i h => by rw [hb0] at h; injection h with h; subst h; exact ⟨hk, hr⟩), fun h => by rw [hb0] at h; cases h⟩
  obtain ⟨v0, xs, hv0, hown, hold, hid, hnil⟩ := hrow
  have hxl : xs.length = l.length := by have := hown.1; simpa using this
  have hone : ∀ u ∈ news, u.oneCell' = true := by
    intro u hu
    obtain ⟨j, hj, rfl⟩ := List.getElem_of_mem hu
    rw [oneC_eq]
    exact (hcont j _ (List.getElem?_eq_getElem hj)).one (oneL_getD h1 j (by omega))
  have hrun : ∃ v' w', (Builtin.append_ #[t, t] o.type #[v0, .slice A ys.length cap]).run P w = .ok v' w' ∧ w'.ownsRow B e 1 v' (l.length + ys.length) (xs ++ news) ∧ w.grownBy w' v0.ownBlock ∧ (v'.ownBlock = v0.ownBlock ∨ v'.ownBlock = some w.heap.size) := by
    rcases A with _ | ad
    · have hm : ys.length = 0 := by
        rcases Nat.eq_zero_or_pos ys.length with h0 | h0
        · exact h0
        · obtain ⟨ad, h, _⟩ := hcells h0; cases h
      have hnn : news = [] := List.eq_nil_of_length_eq_zero (by omega)
      subst hnn
      rw [hm]
      exact ⟨v0, w, run_append_of_nil B t o.type e inf 1 hu hi1 v0 l.length xs hown cap, by simpa using hown, ⟨rfl, rfl, rfl, Nat.le_refl _, fun _ _ _ => rfl⟩, .inl rfl⟩
    · have hcells' : ∀ j u, news[j]? = some u → w.cell? (ad.add j) = some u := by
        intro j u hu'
        rcases Nat.eq_zero_or_pos ys.length with h0 | h0
        · have hnn : news = [] := List.eq_nil_of_length_eq_zero (by omega)
          subst hnn; simp at hu'
        · obtain ⟨ad', h, hc⟩ := hcells h0
          injection h with h; subst h
          exact hc j u hu'
      rw [hs1] at hz hi2
      obtain ⟨v', w', r1, r2, r3, _, r5⟩ := run_append_own_at (P := P) w B t o.type e inf te.z 1 te.by_ hu hi1 hzv hi2 hi3 hz (by decide) v0 l.length xs hown ad ys.length cap news (by omega) hcells' hone (by simp only [maxLen]; omega) hby hG.base
      exact ⟨v', w', r1, r2, r3, r5⟩
  obtain ⟨v', w', r1, r2, r3, r4⟩ := hrun
  unfold Oper.wp
  have hexec : (execOp a.eval o).run P w = .ok (.value v') w' := by
    simp only [execOp, ho, resolve, invoke, builtin, Sem.run_bind, Sem.run_pure, Result.andThen_ok, List.map_toArray, List.map_cons, List.map_nil, hv0, huv, r1]
  rw [hexec, Oper.upon_value, hdst]
  refine hn _ _ ?_
  have hroot : rootBlk v' = v'.ownBlock := rootBlk_own r2
  have hroot0 : rootBlk v0 = v0.ownBlock := rootBlk_own hown
  have hkI : ∀ b, I b → w'.heap[b]? = w.heap[b]? := fun b hb => r3.block b (hG.hw.lt b hb) (fun e => by
    cases hbs' : bs with
    | none => rw [hnil hbs'] at e; simp [Value.ownBlock] at e
    | some id =>
      obtain ⟨g1, g2⟩ := hid _ hbs'
      exact hG.hw.imm id _ v0 b g1 g2 (by rw [hroot0]; exact e.symm) hb)
  have hbel : Below B w w' := ⟨r3.os, r3.tape, r3.output, r3.size, fun b hb => r3.block b (Nat.lt_of_lt_of_le hb hG.base) (fun e => by
    have := (hown.lt b e.symm).1; omega)⟩
  have hsub : ∀ id blk, lkH (lessN st.heap bs) id = some blk → lkH st.heap id = some blk ∧ (∀ id', bs = some id' → id ≠ id') := by
    intro id blk h
    cases hbs' : bs with
    | none => rw [hbs'] at h; exact ⟨h, (fun _ h => by cases h)⟩
    | some id' =>
      rw [hbs'] at h
      simp only [lessN, lkH_delH] at h
      split at h
      · cases h
      · rename_i hne
        exact ⟨h, fun i1 h5 => by injection h5 with h5; subst h5; exact hne⟩
  have hrootOther : ∀ id blk yv b, lkH (lessN st.heap bs) id = some blk → ρ id = some yv → rootBlk yv = some b → v0.ownBlock ≠ some b ∧ b < w.heap.size := by
    intro id blk yv b hlk hy hb
    obtain ⟨h3, h4⟩ := hsub id blk hlk
    obtain ⟨y', hy', hok⟩ := hG.hw.ok id blk h3
    rw [hy] at hy'; injection hy' with hy'; subst hy'
    refine ⟨fun hv => ?_, (hok.lt hb).2⟩
    cases hbs' : bs with
    | none => rw [hnil hbs'] at hv; simp [Value.ownBlock] at hv
    | some id' =>
      obtain ⟨g1, g2⟩ := hid _ hbs'
      exact hG.hw.apart id' id _ _ v0 yv b (Ne.symm (h4 _ hbs')) g1 h3 g2 hy (by rw [hroot0]; exact hv) hb
  have hG' := hG.replace (w' := w') (H0 := (lessN st.heap bs)) (fun id blk h => (hsub id blk h).1) d v' (.nst e (.avs (AV.killL d (l ++ ys))))
    ⟨l.length + ys.length, xs ++ news, r2, by simp only [Cont.len, killL_length, List.length_append]; omega, fun j u hu' => by
      simp only [Cont.at]
      rw [killL_getD]
      by_cases hj : j < xs.length
      · rw [List.getElem?_append_left hj] at hu'
        have e3 : (l ++ ys).getD j .top = l.getD j .top := by rw [List.getD_eq_getElem?_getD, List.getD_eq_getElem?_getD, List.getElem?_append_left (by omega)]
        rw [e3]
        exact ((hold j u hu').same hkI).kill d _ (fun id hid => updρ_ne _ _ _ hid)
      · rw [List.getElem?_append_right (by omega)] at hu'
        have e3 : (l ++ ys).getD j .top = ys.getD (j - xs.length) .top := by rw [List.getD_eq_getElem?_getD, List.getD_eq_getElem?_getD, List.getElem?_append_right (by omega), hxl]
        rw [e3]
        exact ((hcont _ u hu').same hkI).kill d _ (fun id hid => updρ_ne _ _ _ hid)⟩
    hbel hkI (fun id blk yv b _ hlk hy hb => by
      obtain ⟨g1, g2⟩ := hrootOther id blk yv b hlk hy hb
      exact r3.block b g2 (fun e => g1 e.symm))
    (fun id blk yv b _ hlk hy hb hv => by
      obtain ⟨g1, g2⟩ := hrootOther id blk yv b hlk hy hb
      rw [hroot] at hv
      rcases r4 with r4 | r4
      · rw [r4] at hv; exact g1 hv
      · rw [r4] at hv; injection hv with hv; omega)
    (fun b hb hI => by
      rw [hroot] at hb
      rcases r4 with r4 | r4
      · rw [r4] at hb
        cases hbs' : bs with
        | none => rw [hnil hbs'] at hb; simp [Value.ownBlock] at hb
        | some id' =>
          obtain ⟨g1, g2⟩ := hid _ hbs'
          exact hG.hw.imm id' _ v0 b g1 g2 (by rw [hroot0]; exact hb) hI
      · rw [r4] at hb; injection hb with hb; have := hG.hw.lt b hI; omega) (hG.old.ghn d hd)
  have hone' : oneC v' = true := by rcases r2.2 with ⟨rfl, _⟩ | ⟨g, cap, cur, rfl, _⟩ <;> rfl
  exact ⟨_, I, hG'.put (d := some d) (fun k hk => by injection hk with hk; omega) (.s d v' (updρ_self _ _ _) hone')⟩
/-- append(x, y...) where both are rows of rows. -/
def AppN (T : Tab) (dst : Option Nat) (op : Op) (K : St → Prop) (st : St) : Prop :=
  match op, dst with
  | .call c, some d =>
    match c.callee, c.args.toList, c.argTypes.toList with
    | .builtin .append, [x, y], [t, t'] =>
      match T t with
      | some ⟨.sl e, _, _, _⟩ =>
        match T e, (st.ev y).strip with
        | some te, .s id2 =>
          match lkH st.heap id2 with
          | some (.nst _ (.avs ys)) =>
            match (st.ev x).strip with
            | .v (.slice none 0 0) => ((st.ev x).cond ∧ (st.ev y).cond ∧ t' = t ∧ te.sz = 1 ∧ te.z.cells.size = te.sz ∧ oneL ys = true ∧ (0 + ys.length) * te.by_ ≤ 140737488355328 ∧ 0 + ys.length ≤ 9223372036854775807) ∧ K ⟨(d, .s d) :: killE d st.env, (d, .nst e (.avs (AV.killL d ys))) :: killH d st.heap⟩
            | .s id =>
              match lkH st.heap id with
              | some (.nst e1 (.avs l)) => ((st.ev x).cond ∧ (st.ev y).cond ∧ t' = t ∧ e1 = e ∧ id ≠ id2 ∧ te.sz = 1 ∧ te.z.cells.size = te.sz ∧ oneL ys = true ∧ (l.length + ys.length) * te.by_ ≤ 140737488355328 ∧ l.length + ys.length ≤ 9223372036854775807) ∧ K ⟨(d, .s d) :: killE d st.env, (d, .nst e (.avs (AV.killL d (l ++ ys)))) :: killH d (delH id st.heap)⟩
              | _ => False
            | _ => False
          | _ => False
        | _, _ => False
      | _ => False
    | _, _, _ => False
  | _, _ => False

theorem appN_ok {P : Program} {T : Tab} (hT : T.ok P) {n B : Nat} {w0 : Orig} {st : St} {a : Act} {w : World} {ρ : Nat → Option Value} {I : Nat → Prop} (hG : Gam n B w0 st a w ρ I) {o : Oper} (hd : dstOk n o.dst) {K : St → Prop} (h' : AppN T o.dst o.op K st) : StepOk P n B w0 o a w K := by
  intro next Q hnx
  unfold AppN at h'
  split at h' <;> first | exact h'.elim | skip
  rename_i c d ho hdst
  rw [hdst] at hd
  split at h' <;> first | exact h'.elim | skip
  rename_i x y t t' hcal hargs htys
  obtain ⟨cal, cargs, ctys⟩ := c
  simp only at hcal hargs htys
  subst hcal
  split at h' <;> first | exact h'.elim | skip
  rename_i e s1 b1 z1 ht
  split at h' <;> first | exact h'.elim | skip
  rename_i te id2 hte hy
  split at h' <;> first | exact h'.elim | skip
  rename_i e2 ys hk2
  have ea : cargs = #[x, y] := by cases cargs; simp_all
  split at h' <;> first | exact h'.elim | skip
  · rename_i hx
    obtain ⟨⟨cx, cy, rfl, hs1, hz, h1, hby, hmax⟩, hK⟩ := h'
    have et : ctys = #[t', t'] := by cases ctys; simp_all
    subst ea; subst et
    exact appN_core hT hG (l := []) (bs := none) ho hdst hd ht hte hy hk2 cx cy hs1 hz h1 (.inl ⟨rfl, hx, rfl⟩) (by simpa using hby) (by simpa using hmax) next Q fun a' w' hG' => by
      obtain ⟨ρ', I', hg'⟩ := hG'
      exact hnx _ _ _ hK ⟨ρ', I', hg'⟩
  · rename_i id hx
    split at h' <;> first | exact h'.elim | skip
    rename_i e1 l hk1
    obtain ⟨⟨cx, cy, rfl, rfl, hne, hs1, hz, h1, hby, hmax⟩, hK⟩ := h'
    have et : ctys = #[t', t'] := by cases ctys; simp_all
    subst ea; subst et
    exact appN_core hT hG (l := l) (bs := some id) ho hdst hd ht hte hy hk2 cx cy hs1 hz h1 (.inr ⟨id, rfl, hne, hx, hk1⟩) hby hmax next Q fun a' w' hG' => by
      obtain ⟨ρ', I', hg'⟩ := hG'
      exact hnx _ _ _ hK ⟨ρ', I', hg'⟩


/-- The operations of this text under one name. -/
def alC (T : Tab) (st : St) (dst : Option Nat) (op : Op) (K : St → Prop) : Prop := MapUpdA T dst op K st ∨ NstLit T dst op K st ∨ AppN T dst op K st
theorem alC_ok {P : Program} {T : Tab} (hT : T.ok P) {n B : Nat} {w0 : Orig} {st : St} {a : Act} {w : World} {ρ : Nat → Option Value} {I : Nat → Prop} (hG : Gam n B w0 st a w ρ I) {o : Oper} (hd : dstOk n o.dst) {K : St → Prop} (h : alC T st o.dst o.op K) : StepOk P n B w0 o a w K := by
  rcases h with h | h | h
  · exact mapUpdA_ok hT hG h
  · exact nstLit_ok hT hG hd h
  · exact appN_ok hT hG hd h
theorem alC_nd {T : Tab} {st : St} {o : Oper} {K : St → Prop} (h : alC T st o.dst o.op K) : ∀ c, o.op ≠ .defer c := fun c hc => by
  rw [hc] at h
  rcases h with h | h | h
  · exact h
  · exact h
  · exact h
attribute [push_cast] MapUpdA isRef NstLit AppN lessN
end Go.Eng
namespace Go.Eng
open Go.RowKit

/-- One operation: as before, or a literal as a row of one's own. -/
def AStepX (P : Program) (T : Tab) (n : Nat) (ops : Array Oper) (o : Oper) (K : St → Prop) (st : St) : Prop :=
  AStep P T n ops o K st ∨ (o.guard = none ∧ dstOk n o.dst ∧ alB T st o.dst o.op K) ∨ (guardB st ops o.guard = some (some false) ∧ dstOk n o.dst ∧ ∃ r, K (st.put o.dst (.g false r))) ∨ (o.guard = none ∧ dstOk n o.dst ∧ alC T st o.dst o.op K)
theorem astepX_ok {P : Program} {T : Tab} (hT : T.ok P) {n B : Nat} {w0 : Orig} {st : St} {a : Act} {w : World} {ρ : Nat → Option Value} {I : Nat → Prop} (hG : Gam n B w0 st a w ρ I) {ops : Array Oper} {o : Oper} {K : St → Prop} (h : AStepX P T n ops o K st) (next : Act → World → Prop) (Q : Exit → Act → World → Prop) (hn : ∀ st' a' w', K st' → G n B w0 st' a' w' → next a' w') :
    if Region.wanted o (yielded ops a.tmps) then o.wp P a w next Q else next (a.put o.dst undef) w := by
  rcases h with h | ⟨hg, hd, h⟩ | ⟨hg, hd, h⟩ | ⟨hg, hd, h⟩
  · exact astep_ok hT hG h next Q hn
  · have : Region.wanted o (yielded ops a.tmps) = true := by
      have := guard_ok hG (ops := ops) (o := o) (g := none) (by rw [hg]; rfl)
      simpa using this
    rw [if_pos this]
    exact alB_ok hT hG hd h next Q hn
  · obtain ⟨r, h⟩ := h
    have := guard_ok hG hg
    rw [this]
    simp only [Option.getD_some, Bool.false_eq_true, if_false]
    exact hn _ _ _ h ⟨ρ, I, hG.put (dst_ok hd) (.g false r _ (fun h => by cases h) (fun _ => rfl))⟩
  · have : Region.wanted o (yielded ops a.tmps) = true := by
      have := guard_ok hG (ops := ops) (o := o) (g := none) (by rw [hg]; rfl)
      simpa using this
    rw [if_pos this]
    exact alC_ok hT hG hd h next Q hn

theorem astepX_nd {P : Program} {T : Tab} {n B : Nat} {w0 : Orig} {st : St} {a : Act} {w : World} {ρ : Nat → Option Value} {I : Nat → Prop} (hG : Gam n B w0 st a w ρ I) {ops : Array Oper} {o : Oper} {K : St → Prop} (h : AStepX P T n ops o K st) (hw : Region.wanted o (yielded ops a.tmps) = true) : ∀ c, o.op ≠ .defer c := by
  rcases h with h | ⟨_, _, h⟩ | ⟨hg, _, _⟩ | ⟨_, _, h⟩
  · exact astep_nd h
  · intro c hc
    rw [hc] at h
    exact h
  · rw [guard_ok hG hg] at hw
    cases hw
  · exact alC_nd h
def AOpsX (P : Program) (T : Tab) (n : Nat) (ops : Array Oper) (K : St → Prop) : List Oper → St → Prop
  | [], st => K st
  | o :: rest, st => AStepX P T n ops o (fun st' => AOpsX P T n ops K rest st') st

theorem aopsX_ok {P : Program} {T : Tab} (hT : T.ok P) {n B : Nat} {w0 : Orig} {ops : Array Oper} {K : St → Prop} {Q : Exit → Act → World → Prop} (hQ : ∀ st' a' w', K st' → G n B w0 st' a' w' → Q .normal a' w') : ∀ (l : List Oper) (st : St) (a : Act) (w : World), G n B w0 st a w → AOpsX P T n ops K l st → wpListIn (fo w0) 0 P ops Q l a w
  | [], st, a, w, hG, h => hQ st a w h hG
  | o :: rest, st, a, w, ⟨ρ, I, hG⟩, h => by
    have := astepX_ok hT hG h (wpListIn (fo w0) 0 P ops Q rest) Q (fun st' a' w' hK hG' => aopsX_ok hT hQ rest st' a' w' hG' hK)
    unfold wpListIn
    exact toIf (astepX_nd hG h) this
theorem awp_x {P : Program} {T : Tab} (hT : T.ok P) {n B : Nat} {w0 : Orig} {Q : Exit → St → Prop} {st : St} {id : Nat} {l : List Oper} (h : ∀ K : St → Prop, (∀ s, Q .normal s → K s) → AOpsX P T n l.toArray K l st) : AWP P n B w0 (.region id l.toArray false) Q st := fun a w hG =>
  wpIn_region_lit (aopsX_ok hT (fun st' _ _ hK hG' => ⟨st', hK, hG'⟩) l st a w hG (h (fun s => Q .normal s) fun _ h => h))
theorem awp_xseq {P : Program} {T : Tab} (hT : T.ok P) {n B : Nat} {w0 : Orig} {Q : Exit → St → Prop} {st : St} {id : Nat} {l : List Oper} {y : Code} (h : ∀ K : St → Prop, (∀ s, AWP P n B w0 y Q s → K s) → AOpsX P T n l.toArray K l st) : AWP P n B w0 (.seq (.region id l.toArray false) y) Q st :=
  awp_seq (awp_x hT (h · ))
theorem aopsx_nil {P : Program} {T : Tab} {n : Nat} {ops : Array Oper} {K : St → Prop} {st : St} (h : K st) : AOpsX P T n ops K [] st := h
theorem aopsx_cons {P : Program} {T : Tab} {n : Nat} {ops : Array Oper} {K : St → Prop} {o : Oper} {rest : List Oper} {st : St} {g : Option (Nat × Bool)} (hg : gOf ops o.guard = some g) (h : ∀ K' : St → Prop, (∀ s, AOpsX P T n ops K rest s → K' s) → StepN P T n o.dst o.op g K' st) : AOpsX P T n ops K (o :: rest) st :=
  .inl (stepN_ok hg (h _ fun _ h => h))
theorem aopsx_own {P : Program} {T : Tab} {n : Nat} {ops : Array Oper} {K : St → Prop} {o : Oper} {rest : List Oper} {st : St} (d : Nat) (hd : o.dst = some d) (hg : o.guard = none) (hn : d < n) (h : ∀ K' : St → Prop, (∀ s, AOpsX P T n ops K rest s → K' s) → alB T st (some d) o.op K') : AOpsX P T n ops K (o :: rest) st :=
  .inr (.inl ⟨hg, by rw [hd]; exact hn, by rw [hd]; exact h _ fun _ h => h⟩)
theorem aopsx_skip {P : Program} {T : Tab} {n : Nat} {ops : Array Oper} {K : St → Prop} {o : Oper} {rest : List Oper} {st : St} {g : Option (Nat × Bool)} (hg : gOf ops o.guard = some g) (hs : guardS st g = some (some false)) (hd : dstOk n o.dst) (h : AOpsX P T n ops K rest (st.put o.dst (.g false (.v (.bool false))))) : AOpsX P T n ops K (o :: rest) st :=
  .inr (.inr (.inl ⟨by rw [guardS_eq hg]; exact hs, hd, _, h⟩))
attribute [push_cast] alB

/-- A block that is written no more: whoever pointed to it sees what it holds. -/
def frzP (d : Nat) (blk : Blk) : AV → AV
  | .p id off => if id = d then .q true (fun _ j => blk.cont.at j) blk.cont.len 0 off else .p id off
  | x => x.kill d
def frzPL (d : Nat) (blk : Blk) : List AV → List AV
  | [] => []
  | x :: r => frzP d blk x :: frzPL d blk r
theorem frzPL_length (d : Nat) (blk : Blk) (cs : List AV) : (frzPL d blk cs).length = cs.length := by
  induction cs with
  | nil => rfl
  | cons x r ih => simp [frzPL, ih]
theorem frzPL_getD (d : Nat) (blk : Blk) (cs : List AV) (j : Nat) : (frzPL d blk cs).getD j .top = frzP d blk (cs.getD j .top) := by
  induction cs generalizing j with
  | nil => simp [frzPL, frzP, AV.kill]
  | cons x r ih => cases j with
    | zero => simp [frzPL]
    | succ j => simpa [frzPL] using ih j
def frz1 (d : Nat) (blk : Blk) : AV → AV
  | .p id off => if id = d then .q true (fun _ j => blk.cont.at j) blk.cont.len 0 off else .p id off
  | .f fn cs => .f fn (frzPL d blk cs)
  | .s id => if id = d then (match blk with | .row _ sz c => if 0 < sz then .i true (fun e j => c.at (e * sz + j)) sz 0 (c.len / sz) else .top | _ => .top) else .s id
  | x => x.kill d
def frzE (d : Nat) (blk : Blk) : List (Nat × AV) → List (Nat × AV)
  | [] => []
  | (k, v) :: r => (k, frz1 d blk v) :: frzE d blk r
theorem lk_frzE (d : Nat) (blk : Blk) : ∀ (env : List (Nat × AV)) (s : Nat), lk (frzE d blk env) s = frz1 d blk (lk env s)
  | [], s => by simp only [frzE, lk, frz1, AV.kill]
  | (k, v) :: r, s => by
    simp only [frzE, lk]
    split
    · rfl
    · exact lk_frzE d blk r s
def norC (c : Cont) : Prop := match c with | .avs l => AV.norL l = true | _ => True
theorem norC_at {c : Cont} (h : norC c) (j : Nat) : (c.at j).nor = true := by
  cases c with
  | ints k l => rfl
  | vals l => rfl
  | avs l => exact norL_getD h j

theorem G.freeze {n B : Nat} {w0 : Orig} {st : St} {a : Act} {w : World} (hG : G n B w0 st a w) (d : Nat) (blk : Blk) (hk : lkH st.heap d = some blk) (hnor : norC blk.cont) : G n B w0 ⟨frzE d blk st.env, killH d st.heap⟩ a w := by
  obtain ⟨ρ, I, h⟩ := hG
  obtain ⟨x, hx, hok⟩ := h.hw.ok d blk hk
  have hρ : ∀ id, id ≠ d → ρ id = ρ id := fun id hid => rfl
  have hrest : ∀ b, rootBlk x = some b → B ≤ b ∧ b < w.heap.size := fun b hb => hok.lt hb
  have hII : ∀ b, I b → (fun b => I b ∨ rootBlk x = some b) b ∧ w.heap[b]? = w.heap[b]? := fun b hb => ⟨.inl hb, rfl⟩
  have cellC : ∀ b j, rootBlk x = some b → j < blk.cont.len → ∃ u, w.cell? ⟨b, j, none⟩ = some u ∧ Conc B (fun b => I b ∨ rootBlk x = some b) w noId (blk.cont.at j) u := fun b j hb hj => by
    obtain ⟨u, h1, h2⟩ := h.hw.cell hk hx hb hj
    exact ⟨u, h1, ((h2.nor (norC_at hnor j)).mono (Nat.le_refl _) hII _ (fun _ _ h => h))⟩
  have look : ∀ id blk', lkH (killH d st.heap) id = some blk' → id ≠ d ∧ ∃ b0, lkH st.heap id = some b0 ∧ blk' = b0.kill d := by
    intro id blk' hk'
    rw [lkH_killH] at hk'
    by_cases e : id = d
    · rw [if_pos e] at hk'; cases hk'
    · rw [if_neg e] at hk'
      cases h0 : lkH st.heap id with
      | none => rw [h0] at hk'; cases hk'
      | some b0 => rw [h0] at hk'; injection hk' with hk'; exact ⟨e, b0, rfl, hk'.symm⟩
  refine ⟨ρ, fun b => I b ∨ rootBlk x = some b, h.defers.mono (fun b hb => ⟨.inl hb, rfl⟩), h.size, fun s => ?_, ⟨fun id blk' hk' => ?_, fun id id' b1 b2 y y' b hne h1 h2 hy hy' hb => ?_, fun id blk' y b hk' hy hb hI => ?_, fun b hb => ?_⟩, h.below, h.base, ⟨fun b hb => ?_, h.old.gh, h.old.ghn, fun b hb => ⟨.inl (h.old.keep b hb).1, (h.old.keep b hb).2⟩⟩⟩
  · show Conc _ _ _ _ (lk (frzE d blk st.env) s) _
    rw [lk_frzE]
    have hs := h.env s
    have gen : Conc B (fun b => I b ∨ rootBlk x = some b) w ρ ((lk st.env s).kill d) (a.tmps.getD s undef) := (hs.kill d _ hρ).mono (Nat.le_refl _) hII _ (fun _ _ h => h)
    have hP : ∀ (x0 : AV) (uu : Value), Conc B I w ρ x0 uu → Conc B (fun b => I b ∨ rootBlk x = some b) w ρ (frzP d blk x0) uu := fun x0 uu hs => by
      have gen : Conc B (fun b => I b ∨ rootBlk x = some b) w ρ (x0.kill d) uu := (hs.kill d _ hρ).mono (Nat.le_refl _) hII _ (fun _ _ h => h)
      cases x0 with
      | p id off =>
        simp only [frzP]
        by_cases e : id = d
        · subst e
          rw [if_pos rfl]
          cases hs with
          | p _ _ b y hy hb =>
            rw [hx] at hy; injection hy with hy; subst hy
            have hall : ∀ j, off + j < blk.cont.len → ∃ u, w.cell? ((⟨b, off, none⟩ : Addr).add j) = some u ∧ Conc B (fun b => I b ∨ rootBlk x = some b) w noId (blk.cont.at (off + j)) u := fun j hj => by
              obtain ⟨u, h1, h2⟩ := cellC b (off + j) hb hj
              exact ⟨u, by rw [add_none]; exact h1, h2⟩
            refine .q _ _ _ _ _ _ (fun j => if hj : off + j < blk.cont.len then Classical.choose (hall j hj) else undef) (.inr hb) (fun _ => (hrest b hb).1) (fun j hj => ?_) (fun j hj => ?_)
            · rw [dif_pos hj]; exact (Classical.choose_spec (hall j hj)).1
            · rw [dif_pos hj]; exact (Classical.choose_spec (hall j hj)).2
        · rw [if_neg e]
          rw [AV.kill, if_neg e] at gen
          exact gen
      | _ => exact gen
    cases hv : lk st.env s with
    | p id off => rw [hv] at hs; exact hP _ _ hs
    | f fn cs =>
      rw [hv] at hs
      simp only [frz1]
      generalize a.tmps.getD s undef = uu at *
      cases hs with
      | f _ _ us hl hcs => exact .f fn _ us (by rw [frzPL_length]; exact hl) fun j hj => by rw [frzPL_length] at hj; rw [frzPL_getD]; exact hP _ _ (hcs j hj)
    | s id =>
      rw [hv] at hs gen
      simp only [frz1]
      by_cases e : id = d
      · subst e
        rw [if_pos rfl]
        cases blk with
        | box t c => exact .top _
        | mp c => exact .top _
        | mpa kd ks c => exact .top _
        | nst el c => exact .top _
        | row el sz c =>
          simp only
          split
          · rename_i hpos
            generalize a.tmps.getD s undef = uu at *
            cases hs with
            | s _ _ hy h1 =>
              rw [hx] at hy; injection hy with hy; subst hy
              obtain ⟨m, xs, ho, hl, hc⟩ := hok
              have hm : c.len / sz = m := by rw [hl]; exact Nat.mul_div_cancel _ hpos
              rw [hm]
              have := view_row (fl := true) (B' := B) (J := fun b => I b ∨ rootBlk x = some b ∨ (B ≤ b ∧ b < w.heap.size)) ho (fun _ => Nat.le_refl _) (fun b h1 h2 => .inr (.inr ⟨h1, h2⟩)) (fun e j => c.at (e * sz + j)) (fun el2 j he hj => by
                have hlt : el2 * sz + j < xs.length := by rw [ho.1]; exact row_elem he hj
                have := hc (el2 * sz + j) _ (List.getElem?_eq_getElem hlt)
                have e2 : xs.getD (el2 * sz + j) undef = xs[el2 * sz + j] := by simp [List.getD_eq_getElem?_getD, hlt]
                rw [e2]
                exact this.mono (Nat.le_refl _) (fun b hb => ⟨.inl hb, rfl⟩) _ (fun _ _ h => h))
              cases this with
              | i _ _ _ _ _ cap A u hcap hA hcc =>
                refine .i _ _ _ _ _ _ _ u hcap (fun hl0 => ?_) (fun e f he hf => ?_)
                · obtain ⟨ad, h1, h2, h3, h4⟩ := hA hl0
                  subst h1
                  exact ⟨ad, rfl, .inr rfl, h3, h4⟩
                · have hlt : e * sz + f < xs.length := by rw [ho.1]; exact row_elem he hf
                  have hb : ∃ ad, A = some ad := by obtain ⟨ad, h1, _⟩ := hA (by omega); exact ⟨ad, h1⟩
                  obtain ⟨ad, rfl⟩ := hb
                  obtain ⟨ad', h1, _, _, h4⟩ := hA (by omega)
                  injection h1 with h1; subst h1
                  have hj : e * sz + f < (Blk.row el sz c).cont.len := by show e * sz + f < c.len; rw [hl]; exact row_elem he hf
                  obtain ⟨v, hv1, hv2⟩ := cellC ad.block (e * sz + f) rfl hj
                  rcases ho.2 with ⟨hn, _⟩ | ⟨g, cap', cur, hsl, _⟩
                  · cases hn
                  · injection hsl with hsl _ _
                    injection hsl with hsl
                    have h5 := h4 e f he hf
                    rw [hsl, add_none, Nat.zero_add] at h5
                    rw [hsl] at hv1
                    simp only at hv1
                    rw [h5] at hv1
                    injection hv1 with hv1
                    rw [Nat.zero_add, hv1]
                    exact hv2
          · exact .top _
      · rw [if_neg e]
        rw [AV.kill, if_neg e] at gen
        exact gen
    | _ => rw [hv] at gen; exact gen
  · obtain ⟨hne, b0, h0, rfl⟩ := look id blk' hk'
    obtain ⟨y, hy, hok'⟩ := h.hw.ok id b0 h0
    exact ⟨y, hy, (hok'.killed d hρ).move (fun b _ => rfl) hII (fun _ _ h => h)⟩
  · obtain ⟨hn1, c1, hc1, rfl⟩ := look id b1 h1
    obtain ⟨hn2, c2, hc2, rfl⟩ := look id' b2 h2
    exact h.hw.apart id id' c1 c2 y y' b hne hc1 hc2 hy hy' hb
  · obtain ⟨hne, b0, h0, rfl⟩ := look id blk' hk'
    rcases hI with hI | hI
    · exact h.hw.imm id b0 y b h0 hy hb hI
    · exact h.hw.apart id d b0 blk y x b hne h0 hk hy hx hb hI
  · rcases hb with hb | hb
    · exact h.hw.lt b hb
    · exact (hrest b hb).2
  · rcases hb with hb | hb
    · exact h.old.up b hb
    · exact .inr (hrest b hb).1
theorem awp_freeze {P : Program} {n B : Nat} {w0 : Orig} {c : Code} {Q : Exit → St → Prop} {st : St} (d : Nat) (blk : Blk) (hk : lkH st.heap d = some blk) (hnor : norC blk.cont) (h : AWP P n B w0 c Q ⟨frzE d blk st.env, killH d st.heap⟩) : AWP P n B w0 c Q st := fun a w hG => h a w (hG.freeze d blk hk hnor)
attribute [push_cast] frz1 frzE frzP frzPL
end Go.Eng
namespace Go.Eng
open Go.RowKit

/-- What sees less of memory stands for more. -/
theorem pub_sub (H : List (Nat × Blk)) : ∀ (n : Nat) (x : AV), Sub (AV.pub false H n x) (AV.pub false [] n x) := by
  intro n
  induction n with
  | zero => intro x B I w u h; exact h
  | succ n ih =>
    intro x B I w u h
    cases x with
    | v y => exact h
    | s id => exact .top _
    | w id off len => exact .top _
    | p id off => exact .top _
    | i fr c sz off len =>
      cases h with
      | i _ _ _ _ _ cap A u hcap hA hc => exact .i _ _ _ _ _ _ _ u hcap hA (fun e f he hf => ih _ _ _ _ _ (hc e f he hf))
    | q fr c sz e f =>
      cases h with
      | q _ _ _ _ _ ad u h2 h3 hcell hc => exact .q _ _ _ _ _ _ u h2 h3 hcell (fun j hj => ih _ _ _ _ _ (hc j hj))
    | a cs =>
      cases h with
      | a _ us hl h => exact .a _ _ (by simpa using hl) fun j hj => by simp only [List.length_map] at hj; have := h j (by simpa using hj); rw [getD_map_pub _ _ _ _ _ hj] at this ⊢; exact ih _ _ _ _ _ this
    | t cs =>
      cases h with
      | t _ us hl h => exact .t _ _ (by simpa using hl) fun j hj => by simp only [List.length_map] at hj; have := h j (by simpa using hj); rw [getD_map_pub _ _ _ _ _ hj] at this ⊢; exact ih _ _ _ _ _ this
    | f fn cs =>
      cases h with
      | f _ _ us hl h => exact .f _ _ _ (by simpa using hl) fun j hj => by simp only [List.length_map] at hj; have := h j (by simpa using hj); rw [getD_map_pub _ _ _ _ _ hj] at this ⊢; exact ih _ _ _ _ _ this
    | g b y =>
      cases h with
      | g _ _ _ h h0 => exact .g b _ _ (fun hb => ih _ _ _ _ _ (h hb)) h0
    | top => exact .top _
theorem subL_pubL (H : List (Nat × Blk)) : ∀ args : List AV, SubL (pubL H args) (pubL [] args)
  | [] => trivial
  | x :: r => ⟨pub_sub H 6 x.strip, subL_pubL H r⟩

theorem lkH_nil (id : Nat) : lkH [] id = none := rfl
theorem pvLoad_free {T : Tab} {H : List (Nat × Blk)} {t : TypeId} {x : AV} {r : Prop × AV} (h : pvLoad T [] t x = some r) : pvLoad T H t x = some r := by
  unfold pvLoad at h ⊢
  cases hx : x.strip <;> simp only [hx, lkH_nil] at h ⊢ <;> first | exact h | skip
  cases T t <;> simp at h
theorem pvSlice_free {T : Tab} {H : List (Nat × Blk)} {t : TypeId} {x : AV} {lo hi : Option AV} {r : Prop × AV} (h : pvSlice T [] t x lo hi = some r) : pvSlice T H t x lo hi = some r := by
  unfold pvSlice at h ⊢
  split at h <;> first | exact h | skip
  split at h <;> first | exact h | skip
  cases hx : x.strip <;> simp only [hx, lkH_nil] at h ⊢ <;> first | exact h | (simp at h; done)
theorem pvIndexAddr_free {T : Tab} {H : List (Nat × Blk)} {t : TypeId} {x i : AV} {r : Prop × AV} (h : pvIndexAddr T [] t x i = some r) : pvIndexAddr T H t x i = some r := by
  unfold pvIndexAddr at h ⊢
  split at h <;> first | exact h | skip
  split at h <;> first | exact h | skip
  split at h <;> first | exact h | skip
  cases hx : x.strip <;> simp only [hx, lkH_nil] at h ⊢ <;> first | exact h | (simp at h; done)
theorem pvLen_free {T : Tab} {H : List (Nat × Blk)} {t : TypeId} {x : AV} {r : Prop × AV} (h : pvLen T [] t x = some r) : pvLen T H t x = some r := by
  unfold pvLen at h ⊢
  cases ht : T t with
  | none => rw [ht] at h; cases h
  | some ti =>
    obtain ⟨k, sz, b, z⟩ := ti
    rw [ht] at h
    cases k <;> simp only at h ⊢ <;> first | exact h | (cases h; done) | (cases hx : x.strip <;> simp only [hx, lkH_nil] at h ⊢ <;> first | exact h | (cases h; done) | (rename_i y; cases y <;> first | exact h | (cases h; done)))
theorem pvLookup_free {T : Tab} {H : List (Nat × Blk)} {t : TypeId} {x k : AV} {r : Prop × AV} (h : pvLookup T [] t x k = some r) : pvLookup T H t x k = some r := by
  unfold pvLookup at h
  split at h
  · split at h
    · simp only [lkH] at h
      cases h
    · cases h
  · cases h
theorem pv_free {T : Tab} {H : List (Nat × Blk)} {ev : Operand → AV} {op : Op} {x : Prop × AV} (h : pv T [] ev op = some x) : pv T H ev op = some x := by
  cases op <;> simp only [pv] at h ⊢ <;> first | exact h | exact pvLoad_free h | exact pvIndexAddr_free h | skip
  case lookup t y k c => cases c with
    | true => exact h
    | false => exact pvLookup_free h
  case slice t y lo hi mx => cases mx with
    | some _ => exact h
    | none => exact pvSlice_free h
  case call c =>
    split at h <;> first | exact h | skip
    split at h <;> first | exact h | exact pvLen_free h
theorem pv_none_qb {T : Tab} {H : List (Nat × Blk)} {ev : Operand → AV} {op : Op} {x : Prop × AV} (h : qb T ev op = some x) : pv T H ev op = none := by
  cases op <;> simp only [qb] at h <;> first | (cases h; done) | rfl
theorem pv_none_call {T : Tab} {H : List (Nat × Blk)} {ev : Operand → AV} {op : Op} {x : Prop × FuncId × List AV} (h : callee? ev op = some x) : pv T H ev op = none ∧ qb T ev op = none := by
  cases op <;> simp only [callee?] at h <;> first | (cases h; done) | skip
  rename_i c
  split at h <;> first | (cases h; done) | skip
  rename_i f hf
  exact ⟨by simp only [pv, hf], rfl⟩

section
variable {P : Program} {T : Tab} {n : Nat} {ops : Array Oper}

/-- A quiet operation that needs nothing of memory. -/
theorem free_step {st : St} {o : Oper} {K : St → Prop} (hq : quietOp o.op = true) (h : AStep P T n ops o K ⟨st.env, []⟩) :
    ∃ r, K ((⟨st.env, []⟩ : St).put o.dst r) ∧ ∀ st' : St, (∀ t ∈ o.looksAt ops, lk st'.env t = lk st.env t) → AStep P T n ops o (fun s => s = st'.put o.dst r) st' := by
  obtain ⟨hd, h⟩ := h
  have key : ∀ (st' : St), (∀ t ∈ o.looksAt ops, lk st'.env t = lk st.env t) → guardB st' ops o.guard = guardB ⟨st.env, []⟩ ops o.guard ∧ pv T [] st'.ev o.op = pv T [] (St.ev ⟨st.env, []⟩) o.op ∧ qb T st'.ev o.op = qb T (St.ev ⟨st.env, []⟩) o.op ∧ callee? st'.ev o.op = callee? (St.ev ⟨st.env, []⟩) o.op := fun st' hl =>
    ⟨guard_congr (st' := ⟨st.env, []⟩) hl, pv_congr (ev_congr (st' := ⟨st.env, []⟩) hl), qb_congr (ev_congr (st' := ⟨st.env, []⟩) hl), callee_congr (ev_congr (st' := ⟨st.env, []⟩) hl)⟩
  cases hg : guardB ⟨st.env, []⟩ ops o.guard with
  | none => rw [hg] at h; exact h.elim
  | some g =>
    rw [hg] at h
    cases g with
    | none =>
      simp only at h
      cases hp : pv T [] (St.ev ⟨st.env, []⟩) o.op with
      | some pr =>
        obtain ⟨φ, r⟩ := pr
        rw [hp] at h
        refine ⟨r, h.2, fun st' hl => ?_⟩
        obtain ⟨k1, k2, k3, k4⟩ := key st' hl
        unfold AStep; rw [k1, hg]; simp only [pv_free (k2.trans hp)]
        exact ⟨hd, h.1, trivial⟩
      | none =>
        rw [hp] at h; simp only at h
        cases hb : qb T (St.ev ⟨st.env, []⟩) o.op with
        | some pr =>
          obtain ⟨φ, r⟩ := pr
          rw [hb] at h
          refine ⟨r, h.2, fun st' hl => ?_⟩
          obtain ⟨k1, k2, k3, k4⟩ := key st' hl
          have hb' := k3.trans hb
          unfold AStep; rw [k1, hg]; simp only [pv_none_qb hb', hb']
          exact ⟨hd, h.1, trivial⟩
        | none =>
          rw [hb] at h; simp only at h
          cases hc : callee? (St.ev ⟨st.env, []⟩) o.op with
          | some pr =>
            obtain ⟨ψ, k, args⟩ := pr
            rw [hc] at h; simp only at h
            obtain ⟨h1, r, h2, h3⟩ := h
            refine ⟨r, h3, fun st' hl => ?_⟩
            obtain ⟨k1, k2, k3, k4⟩ := key st' hl
            have hc' := k4.trans hc
            unfold AStep; rw [k1, hg]; simp only [(pv_none_call (T := T) (H := st'.heap) hc').1, (pv_none_call (T := T) (H := st'.heap) hc').2, hc']
            exact ⟨hd, h1, r, ⟨h2.1.sub (subL_pubL _ _), h2.2⟩, rfl⟩
          | none => rw [hc] at h; exact (al_quiet hq h).elim
    | some b =>
      simp only at h
      cases hp : pv T [] (St.ev ⟨st.env, []⟩) o.op with
      | some pr =>
        obtain ⟨φ, r⟩ := pr
        rw [hp] at h
        refine ⟨.g b r, h.2, fun st' hl => ?_⟩
        obtain ⟨k1, k2, k3, k4⟩ := key st' hl
        unfold AStep; rw [k1, hg]; simp only [pv_free (k2.trans hp)]
        exact ⟨hd, h.1, trivial⟩
      | none =>
        rw [hp] at h; simp only at h
        cases hb : qb T (St.ev ⟨st.env, []⟩) o.op with
        | some pr =>
          obtain ⟨φ, r⟩ := pr
          rw [hb] at h
          refine ⟨.g b r, h.2, fun st' hl => ?_⟩
          obtain ⟨k1, k2, k3, k4⟩ := key st' hl
          have hb' := k3.trans hb
          unfold AStep; rw [k1, hg]; simp only [pv_none_qb hb', hb']
          exact ⟨hd, h.1, trivial⟩
        | none =>
          rw [hb] at h; simp only at h
          cases hc : callee? (St.ev ⟨st.env, []⟩) o.op with
          | some pr =>
            obtain ⟨ψ, k, args⟩ := pr
            rw [hc] at h; simp only at h
            obtain ⟨r, h2, h3⟩ := h
            refine ⟨.g b r, h3, fun st' hl => ?_⟩
            obtain ⟨k1, k2, k3, k4⟩ := key st' hl
            have hc' := k4.trans hc
            unfold AStep; rw [k1, hg]; simp only [(pv_none_call (T := T) (H := st'.heap) hc').1, (pv_none_call (T := T) (H := st'.heap) hc').2, hc']
            exact ⟨hd, r, fun hb => ⟨(h2 hb).1, (h2 hb).2.1.sub (subL_pubL _ _), (h2 hb).2.2⟩, rfl⟩
          | none => rw [hc] at h; exact h.elim

/-- What a loud operation does to the slots. -/
def pk (d : Option Nat) (r : AV) (env : List (Nat × AV)) : List (Nat × AV) :=
  match d with
  | some d => (d, r) :: killE d env
  | none => env

theorem al_loud {st : St} {o : Oper} {K : St → Prop} (h : al T st o K) :
    ∃ r h', K ⟨pk o.dst r st.env, h'⟩ ∧ (∀ d d', o.dst = some d → d' ≠ d → r.kill d' = r) ∧ ∀ st' : St, st'.heap = st.heap → (∀ x ∈ o.op.operands, st'.ev x = st.ev x) → al T st' o (fun s => s = ⟨pk o.dst r st'.env, h'⟩) := by
  have ks : ∀ (d d1 d' : Nat), some d = some d1 → d' ≠ d1 → (AV.s d).kill d' = .s d := fun d d1 d' e hne => by injection e with e; subst e; rw [AV.kill, if_neg (Ne.symm hne)]
  have kp : ∀ (d d1 d' : Nat), some d = some d1 → d' ≠ d1 → (AV.p d 0).kill d' = .p d 0 := fun d d1 d' e hne => by injection e with e; subst e; rw [AV.kill, if_neg (Ne.symm hne)]
  obtain ⟨dst, op, ty, ps, af, gd⟩ := o
  cases op <;> simp only [al] at h <;> first | exact h.elim | skip
  case alloc t =>
    cases dst with
    | none => exact h.elim
    | some d =>
      cases ht : T t with
      | none => rw [ht] at h; exact h.elim
      | some ti =>
        rw [ht] at h
        refine ⟨.p d 0, _, h, kp d, fun st' hh hl => ?_⟩
        simp only [al, ht, hh, pk]
  case box t x =>
    cases dst with
    | none => exact h.elim
    | some d =>
      cases hc : cellsOf (st.ev x).strip with
      | none => rw [hc] at h; exact h.elim
      | some cs =>
        rw [hc] at h
        refine ⟨.p d 0, _, h.2, kp d, fun st' hh hl => ?_⟩
        simp only [al, hl x (by simp [Op.operands]), hc, hh, pk]
        exact ⟨h.1, trivial⟩
  case store t x y =>
    cases hx : (st.ev x).strip <;> simp only [hx] at h <;> first | exact h.elim | skip
    rename_i id off
    cases hc : cellsOf (st.ev y).strip <;> simp only [hc] at h <;> first | exact h.elim | skip
    rename_i cs
    cases ht : T t <;> simp only [ht] at h <;> first | exact h.elim | skip
    rename_i ti
    cases hk : lkH st.heap id with
    | none => rw [hk] at h; exact h.elim
    | some blk =>
      rw [hk] at h
      cases blk with
      | mp c => exact h.elim
      | mpa kd ks c => exact h.elim
      | box tb c =>
        simp only at h
        cases hu : c.updL off cs with
        | none => rw [hu] at h; exact h.elim
        | some c' =>
          rw [hu] at h
          have hd : dst = none := h.1.2.2.2.2.2
          subst hd
          refine ⟨.top, _, h.2, (fun d d' e => by cases e), fun st' hh hl => ?_⟩
          simp only [al, hl x (by simp [Op.operands]), hl y (by simp [Op.operands]), hx, hc, ht, hh, hk, hu, pk]
          exact ⟨by simpa using h.1, trivial⟩
      | row e sz c =>
        simp only at h
        cases hu : c.updL off cs with
        | none => rw [hu] at h; exact h.elim
        | some c' =>
          rw [hu] at h
          have hd : dst = none := h.1.2.2.2.2.2.2
          subst hd
          refine ⟨.top, _, h.2, (fun d d' e => by cases e), fun st' hh hl => ?_⟩
          simp only [al, hl x (by simp [Op.operands]), hl y (by simp [Op.operands]), hx, hc, ht, hh, hk, hu, pk]
          exact ⟨by simpa using h.1, trivial⟩
      | nst e c =>
        simp only at h
        cases hu : c.updL off cs with
        | none => rw [hu] at h; exact h.elim
        | some c' =>
          rw [hu] at h
          have hd : dst = none := h.1.2.2.2.2.2
          subst hd
          refine ⟨.top, _, h.2, (fun d d' e => by cases e), fun st' hh hl => ?_⟩
          simp only [al, hl x (by simp [Op.operands]), hl y (by simp [Op.operands]), hx, hc, ht, hh, hk, hu, pk]
          exact ⟨by simpa using h.1, trivial⟩
  case makeSlice t l c =>
    split at h <;> first | exact h.elim | skip
    rename_i d e s1 b1 z1 k1 nl k2 nc ht hl1 hc1
    cases hte : T e with
    | none => rw [hte] at h; exact h.elim
    | some te =>
      rw [hte] at h
      refine ⟨.s d, _, h.2, ks d, fun st' hh hl => ?_⟩
      simp only [al, hl l (by simp [Op.operands]), hl c (by simp [Op.operands]), ht, hl1, hc1, hte, hh, pk]
      exact ⟨h.1, trivial⟩
  case call c =>
    obtain ⟨callee, args, ats⟩ := c
    simp only at h
    split at h <;> first | exact h.elim | skip
    rename_i x y t t' hargs hats
    have hxm : x ∈ args := by have : x ∈ args.toList := by rw [hargs]; simp
                              simpa using this
    have hym : y ∈ args := by have : y ∈ args.toList := by rw [hargs]; simp
                              simpa using this
    split at h <;> first | exact h.elim | skip
    rename_i d e s1 b1 z1 ht
    cases hte : T e with
    | none => rw [hte] at h; exact h.elim
    | some te =>
      rw [hte] at h
      cases hbs : baseOf st.heap (st.ev x).strip with
      | none => rw [hbs] at h; exact h.elim
      | some bs =>
        rw [hbs] at h
        simp only at h
        cases hsr : srcOf st.heap te.sz (st.ev y).strip with
        | none => rw [hsr] at h; exact h.elim
        | some p =>
          obtain ⟨ψ, m, src⟩ := p
          rw [hsr] at h
          simp only at h
          cases bs with
          | none =>
            cases hk : te.k <;> simp only [hk] at h <;> (
              obtain ⟨ys, h1, h2⟩ := h
              refine ⟨.s d, _, h2, ks d, fun st' hh hl => ?_⟩
              simp only [al, hl x (by simp [Op.operands, Call.operands, hxm]), hl y (by simp [Op.operands, Call.operands, hym]), hargs, hats, ht, hte, hh, hbs, hsr, pk, hk]
              exact ⟨ys, h1, rfl⟩)
          | some p =>
            obtain ⟨id, e', sz, c⟩ := p
            cases hk : te.k <;> cases c <;> simp only [hk] at h <;> first | exact h.elim | (
              obtain ⟨ys, h1, h2⟩ := h
              refine ⟨.s d, _, h2, ks d, fun st' hh hl => ?_⟩
              simp only [al, hl x (by simp [Op.operands, Call.operands, hxm]), hl y (by simp [Op.operands, Call.operands, hym]), hargs, hats, ht, hte, hh, hbs, hsr, pk, hk]
              exact ⟨ys, h1, rfl⟩)

theorem loud_step {st : St} {o : Oper} {K : St → Prop} (hq : quietOp o.op = false) (h : AStep P T n ops o K st) :
    ∃ r h', K ⟨pk o.dst r st.env, h'⟩ ∧ (∀ d d', o.dst = some d → d' ≠ d → r.kill d' = r) ∧ ∀ st' : St, st'.heap = st.heap → (∀ t ∈ o.looksAt ops, lk st'.env t = lk st.env t) → AStep P T n ops o (fun s => s = ⟨pk o.dst r st'.env, h'⟩) st' := by
  have hno : ∀ (H : List (Nat × Blk)) (ev : Operand → AV), pv T H ev o.op = none ∧ qb T ev o.op = none ∧ callee? ev o.op = none := fun H ev => by
    cases ho : o.op <;> rw [ho] at hq <;> simp only [quietOp] at hq <;> first | (cases hq; done) | exact ⟨rfl, rfl, rfl⟩ | skip
    rename_i c
    cases hc : c.callee with
    | value f => rw [hc] at hq; cases hq
    | invoke r m => exact ⟨by simp only [pv, hc], rfl, by simp only [callee?, hc]⟩
    | builtin b => cases b <;> rw [hc] at hq <;> first | (cases hq; done) | exact ⟨by simp only [pv, hc], rfl, by simp only [callee?, hc]⟩
  obtain ⟨hd, h⟩ := h
  obtain ⟨n1, n2, n3⟩ := hno st.heap st.ev
  cases hg : guardB st ops o.guard with
  | none => rw [hg] at h; exact h.elim
  | some g =>
    rw [hg] at h
    cases g with
    | some b => simp only [n1, n2, n3] at h
    | none =>
      simp only [n1, n2, n3] at h
      obtain ⟨r, h', h1, h2, h3⟩ := al_loud h
      refine ⟨r, h', h1, h2, fun st' hh hl => ?_⟩
      obtain ⟨m1, m2, m3⟩ := hno st'.heap st'.ev
      unfold AStep
      rw [guard_congr hl, hg]
      simp only [m1, m2, m3]
      exact ⟨hd, h3 st' hh (ev_congr hl)⟩
/-- A literal as a row of one's own. -/
def stepB (T : Tab) (n : Nat) (o : Oper) (K : St → Prop) (st : St) : Prop := o.guard = none ∧ dstOk n o.dst ∧ alB T st o.dst o.op K
theorem loudB_step {st : St} {o : Oper} {K : St → Prop} (h : stepB T n o K st) :
    ∃ r h', K ⟨pk o.dst r st.env, h'⟩ ∧ (∀ d d', o.dst = some d → d' ≠ d → r.kill d' = r) ∧ ∀ st' : St, st'.heap = st.heap → (∀ t ∈ o.looksAt ops, lk st'.env t = lk st.env t) → stepB T n o (fun s => s = ⟨pk o.dst r st'.env, h'⟩) st' := by
  obtain ⟨hg, hd, h⟩ := h
  have hev : ∀ st' : St, (∀ t ∈ o.looksAt ops, lk st'.env t = lk st.env t) → ∀ x ∈ o.op.operands, st'.ev x = st.ev x := fun st' hl => ev_congr hl
  obtain ⟨dst, op, ty, ps, af, gd⟩ := o
  simp only at hev hg hd h ⊢
  cases dst with
  | none => cases op <;> simp only [alB] at h
  | some d =>
    have ks : ∀ (d1 d' : Nat), some d = some d1 → d' ≠ d1 → (AV.s d).kill d' = .s d := fun d1 d' e hne => by injection e with e; subst e; rw [AV.kill, if_neg (Ne.symm hne)]
    cases op <;> simp only [alB] at h
    rename_i t len parts
    have hparts : ∀ st' : St, (∀ t ∈ Oper.looksAt ops ⟨some d, .buildSlice t len parts, ty, ps, af, gd⟩, lk st'.env t = lk st.env t) → (parts.toList.map fun p => (p.1, st'.ev p.2)) = (parts.toList.map fun p => (p.1, st.ev p.2)) := fun st' hl =>
      List.map_congr_left fun p hp => by rw [hev st' hl p.2 (by simp only [Op.operands, List.mem_toArray, List.mem_map]; exact ⟨p, hp, rfl⟩)]
    split at h <;> first | exact h.elim | skip
    rename_i e s1 b1 z1 ht
    cases hte : T e with
    | none => rw [hte] at h; exact h.elim
    | some te =>
      rw [hte] at h
      simp only at h
      split at h <;> first | exact h.elim | skip
      rename_i ψ cs hfill
      cases hk : te.k <;> simp only [hk] at h
      case int k =>
        split at h <;> first | exact h.elim | skip
        rename_i l hl0
        refine ⟨.s d, _, h.2, ks, fun st' hh hl => ⟨hg, hd, ?_⟩⟩
        simp only [alB, ht, hte, hparts st' hl, hfill, hk, hl0, hh, pk]
        exact ⟨h.1, trivial⟩
      all_goals
        refine ⟨.s d, _, h.2, ks, fun st' hh hl => ⟨hg, hd, ?_⟩⟩
        simp only [alB, ht, hte, hparts st' hl, hfill, hk, hh, pk]
        exact ⟨h.1, trivial⟩
/-- A store into a map, a row of rows. -/
def stepC (T : Tab) (n : Nat) (o : Oper) (K : St → Prop) (st : St) : Prop := o.guard = none ∧ dstOk n o.dst ∧ alC T st o.dst o.op K
theorem loudC_step {st : St} {o : Oper} {K : St → Prop} (h : stepC T n o K st) :
    ∃ r h', K ⟨pk o.dst r st.env, h'⟩ ∧ (∀ d d', o.dst = some d → d' ≠ d → r.kill d' = r) ∧ ∀ st' : St, st'.heap = st.heap → (∀ t ∈ o.looksAt ops, lk st'.env t = lk st.env t) → stepC T n o (fun s => s = ⟨pk o.dst r st'.env, h'⟩) st' := by
  obtain ⟨hg, hd, h⟩ := h
  have hev : ∀ st' : St, (∀ t ∈ o.looksAt ops, lk st'.env t = lk st.env t) → ∀ x ∈ o.op.operands, st'.ev x = st.ev x := fun st' hl => ev_congr hl
  obtain ⟨dst, op, ty, ps, af, gd⟩ := o
  simp only at hev hg hd h ⊢
  have ks : ∀ (d d1 d' : Nat), some d = some d1 → d' ≠ d1 → (AV.s d).kill d' = .s d := fun d d1 d' e hne => by injection e with e; subst e; rw [AV.kill, if_neg (Ne.symm hne)]
  rcases h with h | h | h
  · unfold MapUpdA at h
    split at h <;> first | exact h.elim | skip
    rename_i t m k v
    split at h <;> first | exact h.elim | skip
    rename_i kt e1 s1 b1 z1 ht
    split at h <;> first | exact h.elim | skip
    rename_i tk id kv htk hm hk
    split at h <;> first | exact h.elim | skip
    rename_i kd ks' l key hl hkey
    have hdst : dst = none := h.1.2.2.2.1
    subst hdst
    refine ⟨.top, _, h.2, (fun d d' e => by cases e), fun st' hh hle => ⟨hg, hd, .inl ?_⟩⟩
    have em := hev st' hle m (by simp [Op.operands])
    have ek := hev st' hle k (by simp [Op.operands])
    have ev := hev st' hle v (by simp [Op.operands])
    simp only [MapUpdA, ht, htk, em, ek, ev, hm, hk, hh, hl, hkey, pk]
    exact ⟨by simpa using h.1, trivial⟩
  · unfold NstLit at h
    split at h <;> first | exact h.elim | skip
    rename_i t len parts d
    split at h <;> first | exact h.elim | skip
    rename_i e s1 b1 z1 ht
    cases hte : T e with
    | none => rw [hte] at h; exact h.elim
    | some te =>
      rw [hte] at h
      simp only at h
      split at h <;> first | exact h.elim | skip
      rename_i ψ cs hfill
      have hparts : ∀ st' : St, (∀ t ∈ Oper.looksAt ops ⟨some d, .buildSlice t len parts, ty, ps, af, gd⟩, lk st'.env t = lk st.env t) → (parts.toList.map fun p => (p.1, st'.ev p.2)) = (parts.toList.map fun p => (p.1, st.ev p.2)) := fun st' hl =>
        List.map_congr_left fun p hp => by rw [hev st' hl p.2 (by simp only [Op.operands, List.mem_toArray, List.mem_map]; exact ⟨p, hp, rfl⟩)]
      refine ⟨.s d, _, h.2, ks d, fun st' hh hl => ⟨hg, hd, .inr (.inl ?_)⟩⟩
      simp only [NstLit, ht, hte, hparts st' hl, hfill, hh, pk]
      exact ⟨h.1, trivial⟩
  · unfold AppN at h
    split at h <;> first | exact h.elim | skip
    rename_i c d
    split at h <;> first | exact h.elim | skip
    rename_i x y t t' hcal hargs hats
    have hxm : x ∈ c.args := by have : x ∈ c.args.toList := by rw [hargs]; simp
                                simpa using this
    have hym : y ∈ c.args := by have : y ∈ c.args.toList := by rw [hargs]; simp
                                simpa using this
    split at h <;> first | exact h.elim | skip
    rename_i e s1 b1 z1 ht
    split at h <;> first | exact h.elim | skip
    rename_i te id2 hte hy
    split at h <;> first | exact h.elim | skip
    rename_i e2 ys hk2
    have ex : ∀ st' : St, (∀ t ∈ Oper.looksAt ops ⟨some d, .call c, ty, ps, af, gd⟩, lk st'.env t = lk st.env t) → st'.ev x = st.ev x := fun st' hl => hev st' hl x (by cases hc : c.callee <;> simp [Op.operands, Call.operands, hc, hxm])
    have ey : ∀ st' : St, (∀ t ∈ Oper.looksAt ops ⟨some d, .call c, ty, ps, af, gd⟩, lk st'.env t = lk st.env t) → st'.ev y = st.ev y := fun st' hl => hev st' hl y (by cases hc : c.callee <;> simp [Op.operands, Call.operands, hc, hym])
    split at h <;> first | exact h.elim | skip
    · rename_i hx
      refine ⟨.s d, _, h.2, ks d, fun st' hh hl => ⟨hg, hd, .inr (.inr ?_)⟩⟩
      simp only [AppN, hcal, hargs, hats, ht, hte, ex st' hl, ey st' hl, hy, hx, hh, hk2, pk]
      exact ⟨h.1, trivial⟩
    · rename_i id hx
      split at h <;> first | exact h.elim | skip
      rename_i e1 l hk1
      refine ⟨.s d, _, h.2, ks d, fun st' hh hl => ⟨hg, hd, .inr (.inr ?_)⟩⟩
      simp only [AppN, hcal, hargs, hats, ht, hte, ex st' hl, ey st' hl, hy, hx, hh, hk2, hk1, pk]
      exact ⟨h.1, trivial⟩
end
end Go.Eng
