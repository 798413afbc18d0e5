/- A function's contract out of its body. -/
import Derived.Test.YtgcomonjkcpkaaaQngL
namespace Go.Eng
open Go.RowKit

/-- The results of a function, out of the abstract state at its end. -/
def resOf (T : Tab) (st : St) : List ResultVar → Option (Prop × List AV)
  | [] => some (True, [])
  | .tmp t :: r => match resOf T st r with
    | some (φ, l) => some ((lk st.env t).cond ∧ φ, (lk st.env t).strip :: l)
    | none => none
  | .cell t ty :: r => match pvLoad T st.heap ty (lk st.env t), resOf T st r with
    | some (ψ, x), some (φ, l) => some (ψ ∧ φ, x :: l)
    | _, _ => none
def retOf : List AV → AV
  | [x] => x
  | l => .t l
def fin (T : Tab) (res : List ResultVar) (r : AV) (st : St) : Prop :=
  match resOf T st res with
  | some (φ, l) => φ ∧ AV.pub true st.heap 4 (retOf l) = r
  | none => False
def EndsA (T : Tab) (res : List ResultVar) (r : AV) : Exit → St → Prop
  | .ret, st => fin T res r st
  | .normal, st => fin T res r st
  | _, _ => False
def argEnv (k : Nat) : List AV → List (Nat × AV)
  | [] => []
  | x :: r => (k, x) :: argEnv (k + 1) r

theorem lk_argEnv : ∀ (args : List AV) (k s : Nat), lk (argEnv k args) s = if k ≤ s then args.getD (s - k) .top else .top
  | [], k, s => by simp [argEnv, lk]
  | x :: r, k, s => by
    simp only [argEnv, lk]
    rw [lk_argEnv r (k + 1) s]
    by_cases h : k = s
    · subst h; simp
    · rw [if_neg h]
      by_cases h2 : k ≤ s
      · rw [if_pos (by omega), if_pos h2, show s - k = (s - (k + 1)) + 1 from by omega]; simp
      · rw [if_neg (by omega), if_neg h2]

theorem ti_ok {P : Program} {t : TypeId} {k : TK} {sz b : Nat} {z : Value} (h : (P.info? t).map (fun i => (i.zero, i.size, i.bytes)) = some (some z, sz, b)) (hk : k.ok P t) : TI.ok P t ⟨k, sz, b, z⟩ := by
  cases hi : P.info? t with
  | none => rw [hi] at h; cases h
  | some i => rw [hi] at h; simp at h; exact ⟨⟨i, hi, h.2.1, h.2.2, h.1⟩, hk⟩

section
variable {P : Program} {T : Tab} (hT : T.ok P) {n B : Nat} {w0 : Orig} {st : St} {a : Act} {w : World} {ρ : Nat → Option Value} {I : Nat → Prop}

include hT in
theorem results_ok (hG : Gam n B w0 st a w ρ I) : ∀ (res : List ResultVar) {φ : Prop} {l : List AV}, resOf T st res = some (φ, l) → φ →
    ∃ vs : List Value, (res.mapM (fun r => match r with | .tmp t => pure (a.tmps.getD t undef) | .cell x t => do loadVar t (← asAddr (a.tmps.getD x undef))) : Sem (List Value)).run P w = .ok vs w ∧ ConcL B I w ρ l vs
  | [], φ, l, h, hφ => by
    simp only [resOf, Option.some.injEq, Prod.mk.injEq] at h
    obtain ⟨_, rfl⟩ := h
    exact ⟨[], by simp, rfl, fun j hj => by simp at hj⟩
  | .tmp t :: r, φ, l, h, hφ => by
    simp only [resOf] at h
    split at h
    · rename_i ψ l' hr
      simp only [Option.some.injEq, Prod.mk.injEq] at h
      obtain ⟨rfl, rfl⟩ := h
      obtain ⟨vs, h1, h2⟩ := results_ok hG r hr hφ.2
      refine ⟨a.tmps.getD t undef :: vs, by simp only [List.mapM_cons, Sem.run_bind, Sem.run_pure, Result.andThen_ok, h1], by simp [h2.1], fun j hj => ?_⟩
      cases j with
      | zero => simpa using (hG.env t).strip hφ.1
      | succ j => simpa using h2.2 j (by simpa using hj)
    · cases h
  | .cell t ty :: r, φ, l, h, hφ => by
    simp only [resOf] at h
    split at h
    · rename_i ψ x φ' l' hx hr
      simp only [Option.some.injEq, Prod.mk.injEq] at h
      obtain ⟨rfl, rfl⟩ := h
      obtain ⟨vs, h1, h2⟩ := results_ok hG r hr hφ.2
      obtain ⟨v, h3, h4⟩ := pvLoad_ok hT hG.hw hx hφ.1 (hG.env t)
      have haddr : ∃ ad, a.tmps.getD t undef = .pointer (some ad) ∧ (loadVar ty ad).run P w = .ok v w := by
        generalize a.tmps.getD t undef = u at h3
        unfold Instr.loadAt at h3
        cases u with
        | pointer p =>
          cases p with
          | none => simp [Instr.sureAddr, stuck, Sem.run] at h3
          | some ad => exact ⟨ad, rfl, by simpa [Instr.sureAddr] using h3⟩
        | _ => simp [Instr.sureAddr, stuck, Sem.run] at h3
      obtain ⟨ad, h5, h6⟩ := haddr
      have h7 : (asAddr (a.tmps.getD t undef)).run P w = .ok ad w := by rw [h5]; simp [asAddr]
      refine ⟨v :: vs, by simp only [List.mapM_cons, Sem.run_bind, h7, Sem.run_pure, Result.andThen_ok, h6, h1], by simp [h2.1], fun j hj => ?_⟩
      cases j with
      | zero => simpa using h4
      | succ j => simpa using h2.2 j (by simpa using hj)
    · cases h

include hT in
theorem fin_ok {fn : Func} {res : List ResultVar} (hres : fn.results.toList = res) {r : AV} (hG : Gam n B w0 st a w ρ I) (h : fin T res r st) :
    ∃ v, (results fn a.tmps).run P w = .ok v w ∧ Conc B (fun b => w0.I b ∨ (B ≤ b ∧ b < w.heap.size)) w noId r v := by
  unfold fin at h
  split at h
  · rename_i φ l hl
    obtain ⟨hφ, rfl⟩ := h
    obtain ⟨vs, h1, h2⟩ := results_ok hT hG res hl hφ
    refine ⟨if h : vs.toArray.size = 1 then vs.toArray[0] else .tuple vs.toArray, ?_, ?_⟩
    · unfold results
      have : (fn.results.mapM fun r => match r with | .tmp t => pure (a.tmps.getD t undef) | .cell x t => do loadVar t (← asAddr (a.tmps.getD x undef)) : Sem (Array Value)).run P w = .ok vs.toArray w := by
        rw [Array.mapM_eq_mapM_toList, hres, ← bind_pure_comp]
        simp only [Sem.run_bind, h1, Result.andThen_ok, Sem.run_pure]
      simp only [Sem.run_bind, Sem.run_pure]
      exact congrArg (fun q : Result (Array Value) => q.andThen fun vs w' => Result.ok (if h : vs.size = 1 then vs[0] else Value.tuple vs) w') this
    · refine pub_ok true hG.hw (fun _ => Nat.le_refl _) (fun b hb => ?_) (fun b h3 h4 => .inr ⟨h3, h4⟩) 4 (.inl rfl) ?_
      · rcases hG.old.up b hb with h3 | h3
        · exact .inl h3
        · exact .inr ⟨h3, hG.hw.lt b hb⟩
      · match l, vs, h2 with
        | [x], [v], h2 => simpa [retOf] using h2.2 0 (by simp)
        | [], [], h2 => exact .t _ _ (by simp) (fun j hj => by simp at hj)
        | x :: y :: l, v :: u :: vs, h2 =>
          rw [dif_neg (by simp)]
          exact .t _ _ (by simpa using h2.1) (fun j hj => by have := h2.2 j hj; simpa [List.getD_eq_getElem?_getD, Array.getD_eq_getD_getElem?] using this)
        | [], _ :: _, h2 => exact absurd h2.1 (by simp)
        | [_], [], h2 => exact absurd h2.1 (by simp)
        | [_], _ :: _ :: _, h2 => exact absurd h2.1 (by simp)
        | _ :: _ :: _, [], h2 => exact absurd h2.1 (by simp)
        | _ :: _ :: _, [_], h2 => exact absurd h2.1 (by simp)
  · exact h.elim

include hT in
theorem pure_of {f : FuncId} {fn : Func} {c : Code} {res : List ResultVar} {args : List AV} {r : AV} (hf : P.funcs[f]? = some fn) (hb : fn.body = some c) (hname : (fn.name == "runtime.NumGoroutine") = false) (hres : fn.results.toList = res) (hn : fn.ntmps = n) (hle : args.length ≤ n)
    (h : ∀ B w0, AWP P n B w0 c (EndsA T res r) ⟨argEnv 0 args, []⟩) : Pure P f args r := by
  refine ⟨⟨fn, hf, hname, by rw [hb]; rfl⟩, fun w I vs hI hargs => ?_⟩
  refine calls_of_wp hf hb (wp_mono (h w.heap.size ⟨w, I, fun _ => none⟩ _ w ⟨noId, I, ?_⟩) fun e a' w' ⟨st', h1, ρ, I', hG⟩ => ?_)
  · have hsz : vs.size = args.length := by rw [← Array.length_toList, hargs.1]
    refine ⟨rfl, by simp [hn]; omega, fun s => ?_, ⟨fun id blk hk => (by cases hk), fun _ _ _ _ _ _ _ _ hk => (by cases hk), fun _ _ _ _ hk => (by cases hk), hI⟩, Below.refl _ _, Nat.le_refl _, ⟨fun b hb => .inl hb, (fun _ _ h => nomatch h), fun _ _ => rfl, fun b hb => ⟨hb, rfl⟩⟩⟩
    show Conc _ _ _ _ (lk (argEnv 0 args) s) _
    rw [lk_argEnv, if_pos (Nat.zero_le _), Nat.sub_zero]
    by_cases hs : s < args.length
    · have h2 := hargs.2 s hs
      have e : (vs ++ Array.replicate (fn.ntmps - vs.size) undef).getD s undef = vs.toList.getD s undef := by
        have : s < vs.size := by omega
        rw [Array.getD_eq_getD_getElem?, Array.getElem?_append_left this]
        simp [List.getD_eq_getElem?_getD]
      show Conc _ _ _ _ _ ((vs ++ Array.replicate (fn.ntmps - vs.size) undef).getD s undef)
      rw [e]; exact h2
    · have e : args.getD s .top = .top := by simp [List.getD_eq_getElem?_getD]; rw [List.getElem?_eq_none (by omega)]; rfl
      rw [e]; exact .top _
  · have key : fin T res r st' → a'.defers = [] ∧ ∃ v, (results fn a'.tmps).run P w' = .ok v w' ∧ ∃ v_1, Ending.returned v = .returned v_1 ∧ Below w.heap.size w w' ∧ Conc w.heap.size (fun b => I b ∨ (w.heap.size ≤ b ∧ b < w'.heap.size)) w' noId r v_1 := fun hfin => by
      obtain ⟨v, h2, h3⟩ := fin_ok hT hres hG hfin
      exact ⟨hG.defers, v, h2, v, rfl, hG.below, h3⟩
    cases e with
    | ret => exact key h1
    | normal => exact key h1
    | _ => exact h1.elim
end
end Go.Eng
