/- Regions in whatever order, by the sets of what has been done. -/
import Derived.Test.YtflclkbkgcfliaaEngR3
namespace Go.Eng
open Go.RowKit
set_option linter.unusedVariables false

def lookL : List (List Bool × St) → List Bool → Option St
  | [], _ => none
  | (L, S) :: r, M => if L = M then some S else lookL r M
def falses : List Bool → Nat
  | [] => 0
  | true :: r => falses r
  | false :: r => falses r + 1
theorem falses_set : ∀ (L : List Bool) (i : Nat), L[i]? = some false → falses (L.set i true) + 1 = falses L
  | [], i, h => by simp at h
  | b :: r, 0, h => by
    simp at h; subst h; simp [falses]
  | b :: r, i + 1, h => by
    have := falses_set r i (by simpa using h)
    cases b <;> simp [falses] <;> omega
theorem falses_zero : ∀ (L : List Bool) (i : Nat), falses L = 0 → L[i]? ≠ some false
  | [], i, _ => by simp
  | true :: r, 0, _ => by simp
  | true :: r, i + 1, h => by simpa using falses_zero r i h
  | false :: r, _, h => by simp [falses] at h
theorem getFalse {L : List Bool} {j : Nat} (h : L.toArray.getD j true = false) : L[j]? = some false := by
  simp only [Array.getD_eq_getD_getElem?, List.getElem?_toArray] at h
  cases hj : L[j]? with
  | none => rw [hj] at h; simp at h
  | some b => rw [hj] at h; simp at h; rw [h]
/-- One set of what has been done, with its state. -/
def DagN (P : Program) (n B : Nat) (w0 : Orig) (ops : Array Oper) (K : St → Prop) (all : List (List Bool × St)) (p : List Bool × St) : Prop :=
  (Region.ready .any ops p.1.toArray = [] → K p.2) ∧ ∀ i ∈ Region.ready .any ops p.1.toArray, ∃ o, ops.toList[i]? = some o ∧ ∀ K' : St → Prop, (∀ s S', lookL all (p.1.set i true) = some S' → (∀ a w, G n B w0 s a w → G n B w0 S' a w) → K' s) → AOpsS P n B w0 ops K' [o] p.2
def DagL (P : Program) (n B : Nat) (w0 : Orig) (ops : Array Oper) (K : St → Prop) (all : List (List Bool × St)) : List (List Bool × St) → Prop
  | [] => True
  | p :: r => DagN P n B w0 ops K all p ∧ DagL P n B w0 ops K all r
theorem lookL_dag {P : Program} {n B : Nat} {w0 : Orig} {ops : Array Oper} {K : St → Prop} {all : List (List Bool × St)} : ∀ {l : List (List Bool × St)}, DagL P n B w0 ops K all l → ∀ {L S}, lookL l L = some S → DagN P n B w0 ops K all (L, S)
  | [], _, L, S, h => by cases h
  | (M, S') :: r, hd, L, S, h => by
    simp only [lookL] at h
    split at h
    · rename_i e; subst e; injection h with h; subst h; exact hd.1
    · exact lookL_dag hd.2 h
theorem dag_ok {P : Program} {n B : Nat} {w0 : Orig} {ops : Array Oper} {K : St → Prop} {all : List (List Bool × St)} (hall : DagL P n B w0 ops K all all) {Q : Exit → Act → World → Prop} (hQ : ∀ st' a' w', K st' → G n B w0 st' a' w' → Q .normal a' w') :
    ∀ (fuel : Nat) (L : List Bool) (S : St) (a : Act) (w : World), lookL all L = some S → falses L ≤ fuel → L.length = ops.size → G n B w0 S a w → wpAnyIn (fo w0) 0 P .any ops Q fuel L.toArray a w
  | 0, L, S, a, w, hl, hf, hs, hG => by
    have hr : Region.ready .any ops L.toArray = [] := by
      refine List.eq_nil_iff_forall_not_mem.2 fun j hj => ?_
      exact falses_zero L j (by omega) (getFalse (mem_ready.1 hj).1)
    exact ⟨hr, hQ S a w ((lookL_dag hall hl).1 hr) hG⟩
  | fuel + 1, L, S, a, w, hl, hf, hs, hG => by
    have hN := lookL_dag hall hl
    refine ⟨fun he => hQ S a w (hN.1 he) hG, fun i hi => ?_⟩
    obtain ⟨o, ho, hst⟩ := hN.2 i hi
    have hL : L[i]? = some false := getFalse (mem_ready.1 hi).1
    obtain ⟨ρ, I, hg⟩ := hG
    have ho' : ops[i]? = some o := by rw [← Array.getElem?_toList]; exact ho
    have := hst (fun s => ∃ S', lookL all (L.set i true) = some S' ∧ ∀ a w, G n B w0 s a w → G n B w0 S' a w) (fun s S' h1 h2 => ⟨S', h1, h2⟩) a w ρ I hg (wpAnyIn (fo w0) 0 P .any ops Q fuel (L.toArray.setIfInBounds i true)) Q (fun st' a' w' hK hG' => by
      obtain ⟨S', h1, h2⟩ := hK
      have h5 := falses_set L i hL
      have h6 := dag_ok hall hQ fuel (L.set i true) S' a' w' h1 (by omega) (by simpa using hs) (h2 _ _ hG')
      simpa using h6)
    unfold wpOpIn
    simp only [ho']
    exact this
theorem awp_dag {P : Program} {n B : Nat} {w0 : Orig} {Q : Exit → St → Prop} {st : St} {id : Nat} {ops : Array Oper} (hm : P.follows .mixedOrders = true) (all : List (List Bool × St)) (h0 : lookL all (List.replicate ops.size false) = some st) (h : ∀ K : St → Prop, (∀ s, Q .normal s → K s) → DagL P n B w0 ops K all all) : AWP P n B w0 (.region id ops true) Q st := by
  intro a w hG
  refine wpIn_region_any hm ?_
  have hG' : G n B w0 st a { w with drawn := w.drawn + 1 } := by
    obtain ⟨ρ, I, hg⟩ := hG
    exact ⟨ρ, I, hg.quiet ⟨⟨rfl, rfl, rfl, Nat.le_refl _, fun _ _ => rfl⟩, fun _ h => h, fun _ h h' => absurd h h', hg.hw.lt⟩⟩
  have hle : ∀ n, falses (List.replicate n false) ≤ n := fun n => by
    induction n with
    | zero => simp [falses]
    | succ n ih => simp only [List.replicate_succ, falses]; omega
  have := dag_ok (h (fun s => Q .normal s) fun _ h => h) (Q := fun e a' w' => ∃ st', Q e st' ∧ G n B w0 st' a' w') (fun st' _ _ hK hG' => ⟨st', hK, hG'⟩) ops.size (List.replicate ops.size false) st a _ h0 (hle _) (by simp) hG'
  simpa using this
def DagJ (P : Program) (n B : Nat) (w0 : Orig) (ops : Array Oper) (all : List (List Bool × St)) (L : List Bool) (S : St) : List Nat → Prop
  | [] => True
  | i :: r => (∃ o, ops.toList[i]? = some o ∧ ∀ K' : St → Prop, (∀ s S', lookL all (L.set i true) = some S' → (∀ a w, G n B w0 s a w → G n B w0 S' a w) → K' s) → AOpsS P n B w0 ops K' [o] S) ∧ DagJ P n B w0 ops all L S r
theorem DagJ.spec {P : Program} {n B : Nat} {w0 : Orig} {ops : Array Oper} {all : List (List Bool × St)} {L : List Bool} {S : St} : ∀ {js : List Nat}, DagJ P n B w0 ops all L S js → ∀ i ∈ js, ∃ o, ops.toList[i]? = some o ∧ ∀ K' : St → Prop, (∀ s S', lookL all (L.set i true) = some S' → (∀ a w, G n B w0 s a w → G n B w0 S' a w) → K' s) → AOpsS P n B w0 ops K' [o] S
  | [], _, i, hi => by cases hi
  | j :: r, h, i, hi => by
    rcases List.mem_cons.1 hi with rfl | hi
    · exact h.1
    · exact DagJ.spec h.2 i hi
theorem dag_cons {P : Program} {n B : Nat} {w0 : Orig} {ops : Array Oper} {K : St → Prop} {all : List (List Bool × St)} {L : List Bool} {S : St} {r : List (List Bool × St)} (j : Nat) (js : List Nat) (hr : decide (Region.ready .any ops L.toArray = j :: js) = true) (h : DagJ P n B w0 ops all L S (j :: js)) (h2 : DagL P n B w0 ops K all r) : DagL P n B w0 ops K all ((L, S) :: r) :=
  ⟨⟨fun he => (by rw [of_decide_eq_true hr] at he; cases he), fun i hi => by rw [of_decide_eq_true hr] at hi; exact h.spec i hi⟩, h2⟩
theorem dag_last {P : Program} {n B : Nat} {w0 : Orig} {ops : Array Oper} {K : St → Prop} {all : List (List Bool × St)} {L : List Bool} {S : St} (hr : decide (Region.ready .any ops L.toArray = []) = true) (h : K S) : DagL P n B w0 ops K all [(L, S)] :=
  ⟨⟨fun _ => h, fun i hi => by rw [of_decide_eq_true hr] at hi; cases hi⟩, trivial⟩
theorem dagj_cons {P : Program} {n B : Nat} {w0 : Orig} {ops : Array Oper} {all : List (List Bool × St)} {L : List Bool} {S : St} {i : Nat} {r : List Nat} {o : Oper} (ho : ops.toList[i]? = some o) (h : ∀ K' : St → Prop, (∀ s S', lookL all (L.set i true) = some S' → (∀ a w, G n B w0 s a w → G n B w0 S' a w) → K' s) → AOpsS P n B w0 ops K' [o] S) (hr : DagJ P n B w0 ops all L S r) : DagJ P n B w0 ops all L S (i :: r) := ⟨⟨o, ho, h⟩, hr⟩
theorem dagj_nil {P : Program} {n B : Nat} {w0 : Orig} {ops : Array Oper} {all : List (List Bool × St)} {L : List Bool} {S : St} : DagJ P n B w0 ops all L S [] := trivial
/-- Saying less, where what is shadowed is not asked. -/
def wkE2 (env : List (Nat × AV)) : List Nat → List (Nat × AV) → Prop
  | _, [] => True
  | seen, (k, x) :: r => (seen.contains k = true ∨ lk env k = x) ∧ wkE2 env (k :: seen) r
def wkH2 (H : List (Nat × Blk)) : List Nat → List (Nat × Blk) → Prop
  | _, [] => True
  | seen, (k, x) :: r => (seen.contains k = true ∨ lkH H k = some x) ∧ wkH2 H (k :: seen) r
theorem lk_wk2 {env : List (Nat × AV)} : ∀ {l : List (Nat × AV)} {seen : List Nat}, wkE2 env seen l → ∀ s, seen.contains s = false → lk l s = .top ∨ lk l s = lk env s
  | [], _, _, _, _ => .inl rfl
  | (k, x) :: r, seen, h, s, hs => by
    simp only [lk]
    by_cases e : k = s
    · rw [if_pos e]; subst e
      rcases h.1 with h1 | h1
      · rw [hs] at h1; cases h1
      · exact .inr h1.symm
    · rw [if_neg e]
      exact lk_wk2 h.2 s (by simp only [List.contains_cons, hs, Bool.or_false, beq_eq_false_iff_ne]; exact fun h => e h.symm)
theorem lkH_wk2 {H : List (Nat × Blk)} : ∀ {l : List (Nat × Blk)} {seen : List Nat}, wkH2 H seen l → ∀ s b, seen.contains s = false → lkH l s = some b → lkH H s = some b
  | [], _, _, _, _, _, h => by cases h
  | (k, x) :: r, seen, h, s, b, hs, hb => by
    simp only [lkH] at hb
    by_cases e : k = s
    · rw [if_pos e] at hb; subst e
      injection hb with hb; subst hb
      rcases h.1 with h1 | h1
      · rw [hs] at h1; cases h1
      · exact h1
    · rw [if_neg e] at hb
      exact lkH_wk2 h.2 s b (by simp only [List.contains_cons, hs, Bool.or_false, beq_eq_false_iff_ne]; exact fun h => e h.symm) hb
theorem G.wk2 {n B : Nat} {w0 : Orig} {st st' : St} (hE : wkE2 st.env [] st'.env) (hH : wkH2 st.heap [] st'.heap) : ∀ a w, G n B w0 st a w → G n B w0 st' a w := fun a w ⟨ρ, I, h⟩ =>
  ⟨ρ, I, h.defers, h.size, fun s => by
    rcases lk_wk2 hE s rfl with e | e
    · rw [e]; exact .top _
    · rw [e]; exact h.env s, ⟨fun id blk hk => h.hw.ok id blk (lkH_wk2 hH _ _ rfl hk), fun id id' blk blk' x x' b hne h1 h2 => h.hw.apart id id' blk blk' x x' b hne (lkH_wk2 hH _ _ rfl h1) (lkH_wk2 hH _ _ rfl h2), fun id blk x b h1 => h.hw.imm id blk x b (lkH_wk2 hH _ _ rfl h1), h.hw.lt⟩, h.below, h.base, h.old⟩
end Go.Eng
