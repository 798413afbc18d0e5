/- Part of a proof about the given program: contracts of its functions (see the comment of the last text). -/
import Derived.Test.YthgjjhddbigfcaaPl1
set_option linter.unusedSimpArgs false
set_option linter.unusedVariables false
namespace Go.Wf
set_option linter.unusedVariables false

structure Po where
  c : Int
  f : Bool
  deriving Inhabited, DecidableEq
structure Cl where
  r : Int
  c : Int
  f : Bool
  deriving Inhabited, DecidableEq

def sumBy {α : Type} (g : α → Int) : List α → Int
  | [] => 0
  | x :: r => g x + sumBy g r
theorem ZDa {α : Type} (g : α → Int) (a b : List α) : sumBy g (a ++ b) = sumBy g a + sumBy g b := by
  induction a with
  | nil => simp [sumBy]
  | cons x r ih => simp only [List.cons_append, sumBy, ih]; omega
theorem ZAb {α : Type} [Inhabited α] (g : α → Int) (l : List α) (k : Nat) (h : k < l.length) : sumBy g (l.take (k + 1)) = sumBy g (l.take k) + g (l.getD k default) := by
  rw [List.take_succ_eq_append_getElem h, ZDa]
  simp [sumBy, List.getD_eq_getElem?_getD, h]
theorem ZA1 {α : Type} (g : α → Int) (l : List α) (h : ∀ x ∈ l, 0 ≤ g x) : 0 ≤ sumBy g l := by
  induction l with
  | nil => exact Int.le_refl _
  | cons x r ih =>
    have := h x (by simp)
    have := ih fun y hy => h y (by simp [hy])
    simp only [sumBy]; omega
theorem ZGn {α : Type} (g : α → Int) (m : Int) (l : List α) (h : ∀ x ∈ l, g x ≤ m) : sumBy g l ≤ m * l.length := by
  induction l with
  | nil => simp [sumBy]
  | cons x r ih =>
    have := h x (by simp)
    have := ih fun y hy => h y (by simp [hy])
    simp only [sumBy, List.length_cons]
    have e : m * ((r.length + 1 : Nat) : Int) = m * (r.length : Int) + m := by rw [Int.natCast_add, Int.mul_add]; simp
    omega
theorem ZCC {α : Type} (g : α → Int) (l : List α) (k : Nat) (h : ∀ x ∈ l, 0 ≤ g x) : sumBy g (l.take k) ≤ sumBy g l := by
  have h1 := ZDa g (l.take k) (l.drop k)
  rw [List.take_append_drop] at h1
  have := ZA1 g (l.drop k) fun x hx => h x (List.mem_of_mem_drop hx)
  omega
theorem ZAc {α : Type} [Inhabited α] {l : List α} {i : Nat} (h : i < l.length) : l.getD i default ∈ l := by
  simp [List.getD_eq_getElem?_getD, h]
theorem ZHw {α : Type} [Inhabited α] {l : List α} {x : α} (h : x ∈ l) : ∃ i, i < l.length ∧ l.getD i default = x := by
  obtain ⟨i, hi, rfl⟩ := List.getElem_of_mem h
  exact ⟨i, hi, by simp [List.getD_eq_getElem?_getD, hi]⟩

abbrev maxC : Int := 1000000000000
def vP (ps : List Po) : Prop := ps.length ≤ 4 ∧ (∀ p ∈ ps, 0 ≤ p.c) ∧ sumBy Po.c ps ≤ maxC
def okCl (c : Cl) : Prop := ((0 ≤ c.r ∧ c.r ≤ 1000000) ∧ 0 ≤ c.c) ∧ c.c ≤ maxC
instance (c : Cl) : Decidable (okCl c) := by unfold okCl; exact inferInstance
def vC (cs : List Cl) : Prop := cs.length ≤ 64 ∧ ∀ c ∈ cs, okCl c
instance (ps : List Po) : Decidable (vP ps) := by unfold vP; exact inferInstance
instance (cs : List Cl) : Decidable (vC cs) := by unfold vC; exact inferInstance
theorem ZCS {ps : List Po} (h : vP ps) {p : Po} (hp : p ∈ ps) : 0 ≤ p.c ∧ p.c ≤ maxC := by
  refine ⟨h.2.1 p hp, ?_⟩
  have h3 := h.2.2
  have key : ∀ l : List Po, (∀ q ∈ l, 0 ≤ q.c) → p ∈ l → p.c ≤ sumBy Po.c l := by
    intro l
    induction l with
    | nil => intro _ h; cases h
    | cons x r ih =>
      intro h0 hm
      have hr := ZA1 Po.c r fun y hy => h0 y (by simp [hy])
      have hx := h0 x (by simp)
      simp only [sumBy]
      rcases List.mem_cons.1 hm with rfl | hm
      · omega
      · have := ih (fun y hy => h0 y (by simp [hy])) hm; omega
  have := key ps h.2.1 hp
  omega

def kP (b : Bool) (p : Po) : Int := if p.f = b then p.c else 0
def sumP (ps : List Po) (b : Bool) : Int := sumBy (kP b) ps
def kC (r : Int) (b : Bool) (c : Cl) : Int := if c.r ≤ r ∧ c.f = b then c.c else 0
def upC (cs : List Cl) (r : Int) (b : Bool) : Int := sumBy (kC r b) cs
theorem ZCe {ps : List Po} (h : vP ps) (b : Bool) : ∀ p ∈ ps, 0 ≤ kP b p := fun p hp => by
  have := (ZCS h hp).1
  unfold kP; split <;> omega
theorem ZFH (ps : List Po) : sumP ps false + sumP ps true = sumBy Po.c ps := by
  unfold sumP
  induction ps with
  | nil => rfl
  | cons p r ih =>
    simp only [sumBy]
    have : kP false p + kP true p = p.c := by unfold kP; cases p.f <;> simp
    omega
theorem ZAW {ps : List Po} (h : vP ps) (b : Bool) : 0 ≤ sumP ps b ∧ sumP ps b ≤ maxC := by
  have h0 := ZA1 _ ps (ZCe h false)
  have h1 := ZA1 _ ps (ZCe h true)
  have h2 := ZFH ps
  have h3 := h.2.2
  unfold sumP at h2 ⊢
  cases b <;> omega
theorem ZJE {cs : List Cl} (h : vC cs) (r : Int) (b : Bool) : ∀ c ∈ cs, 0 ≤ kC r b c ∧ kC r b c ≤ maxC := fun c hc => by
  obtain ⟨⟨_, h1⟩, h2⟩ := h.2 c hc
  unfold kC; split <;> constructor <;> first | omega | (simp only [maxC] at *; omega)
theorem ZBf {cs : List Cl} (h : vC cs) (r : Int) (b : Bool) (k : Nat) : 0 ≤ sumBy (kC r b) (cs.take k) ∧ sumBy (kC r b) (cs.take k) ≤ 64 * maxC := by
  have hm : ∀ c ∈ cs.take k, 0 ≤ kC r b c ∧ kC r b c ≤ maxC := fun c hc => ZJE h r b c (List.mem_of_mem_take hc)
  refine ⟨ZA1 _ _ fun c hc => (hm c hc).1, ?_⟩
  have h1 := ZGn (kC r b) maxC (cs.take k) fun c hc => (hm c hc).2
  have h2 : (cs.take k).length ≤ 64 := by have := h.1; simp; omega
  simp only [maxC] at *
  omega
def mostF (ps : List Po) (cs : List Cl) (r : Int) : Int := min (sumP ps false + sumP ps true) (min (upC cs r false) (sumP ps false) + upC cs r true)
def cutF (ps : List Po) (cs : List Cl) (r : Int) : List Bool :=
  ps.map fun p => if mostF ps cs r = upC cs r false + upC cs r true then false else if mostF ps cs r = sumP ps false + upC cs r true then !p.f else true
end Go.Wf
namespace Go.Wf
set_option linter.unusedVariables false

def sumN (g : Nat → Int) : Nat → Int
  | 0 => 0
  | n + 1 => sumN g n + g n
theorem ZA8 (g : Nat → Int) (m : Int) : ∀ n, (∀ i, i < n → 0 ≤ g i ∧ g i ≤ m) → 0 ≤ sumN g n ∧ sumN g n ≤ m * n
  | 0, _ => by simp [sumN]
  | n + 1, h => by
    have h1 := ZA8 g m n fun i hi => h i (by omega)
    have h2 := h n (by omega)
    have e : m * ((n + 1 : Nat) : Int) = m * (n : Int) + m := by rw [Int.natCast_add, Int.mul_add]; simp
    simp only [sumN]; omega
theorem ZAY {g h : Nat → Int} : ∀ {n}, (∀ i, i < n → g i = h i) → sumN g n = sumN h n
  | 0, _ => rfl
  | n + 1, e => by simp only [sumN]; rw [ZAY fun i hi => e i (by omega), e n (by omega)]
theorem ZCE (g h : Nat → Int) : ∀ n, sumN (fun i => g i + h i) n = sumN g n + sumN h n
  | 0 => rfl
  | n + 1 => by simp only [sumN, ZCE g h n]; omega
theorem ZGK {g h : Nat → Int} : ∀ {n}, (∀ i, i < n → g i ≤ h i) → sumN g n ≤ sumN h n
  | 0, _ => Int.le_refl _
  | n + 1, e => by have := ZGK (n := n) fun i hi => e i (by omega); have := e n (by omega); simp only [sumN]; omega
theorem ZBg {g : Nat → Int} : ∀ {n}, (∀ i, i < n → 0 ≤ g i) → 0 ≤ sumN g n
  | 0, _ => Int.le_refl _
  | n + 1, e => by have := ZBg (n := n) fun i hi => e i (by omega); have := e n (by omega); simp only [sumN]; omega
theorem ZBK {g : Nat → Int} : ∀ {n}, (∀ i, i < n → g i = 0) → sumN g n = 0
  | 0, _ => rfl
  | n + 1, e => by simp only [sumN]; rw [ZBK fun i hi => e i (by omega), e n (by omega)]; rfl
theorem ZEi {α : Type} [Inhabited α] (g : α → Int) (l : List α) : sumBy g l = sumN (fun i => g (l.getD i default)) l.length := by
  have key : ∀ k, k ≤ l.length → sumBy g (l.take k) = sumN (fun i => g (l.getD i default)) k := by
    intro k
    induction k with
    | zero => intro _; rfl
    | succ k ih => intro h; rw [ZAb g l k (by omega), ih (by omega)]; rfl
  have := key l.length (Nat.le_refl _)
  rwa [List.take_length] at this

def idx (n : Nat) (p : Nat → Bool) : List Nat := (List.range n).filter p
theorem ZFI (n : Nat) (p : Nat → Bool) : idx (n + 1) p = if p n then idx n p ++ [n] else idx n p := by
  unfold idx
  rw [List.range_succ, List.filter_append]
  by_cases h : p n <;> simp [h]
theorem ZBh {n : Nat} {p : Nat → Bool} {i : Nat} : i ∈ idx n p ↔ i < n ∧ p i = true := by simp [idx]
theorem ZD5 (n : Nat) (p : Nat → Bool) : (idx n p).length ≤ n := by
  have := List.length_filter_le p (List.range n)
  simpa [idx] using this
def toI (l : List Nat) : List Int := l.map fun (i : Nat) => (i : Int)
theorem ZBR (l : List Nat) : (toI l).length = l.length := by simp [toI]
theorem ZBU {l : List Nat} {k : Nat} (h : k < l.length) : (toI l).getD k 0 = (l.getD k 0 : Nat) := by simp [toI, List.getD_eq_getElem?_getD, h]
theorem ZA2 {l : List Nat} {k : Nat} (h : k < l.length) : l.getD k 0 ∈ l := by simp [List.getD_eq_getElem?_getD, h]
theorem ZCp {n : Nat} {p : Nat → Bool} {k : Nat} (h : k < (idx n p).length) : (idx n p).getD k 0 < n ∧ p ((idx n p).getD k 0) = true := ZBh.1 (ZA2 h)
def sel (d : List Int) (l : List Nat) : List Int := l.map fun i => d.getD i 0
theorem ZCF (d : List Int) (l : List Nat) : (sel d l).length = l.length := by simp [sel]
theorem ZAs {d : List Int} {l : List Nat} {k : Nat} (h : k < l.length) : (sel d l).getD k 0 = d.getD (l.getD k 0) 0 := by simp [sel, List.getD_eq_getElem?_getD, h]
theorem ZJG (d : List Int) (l : List Nat) (k : Nat) (h : k < l.length) : sel d (l.take (k + 1)) = sel d (l.take k) ++ [d.getD (l.getD k 0) 0] := by
  unfold sel
  rw [List.take_succ_eq_append_getElem h, List.map_append]
  simp [List.getD_eq_getElem?_getD, h]
def put (d : List Int) : List Nat → List Int → List Int
  | i :: l, x :: p => put (d.set i x) l p
  | _, _ => d
theorem ZBi : ∀ (l : List Nat) (d p : List Int), (put d l p).length = d.length
  | [], d, p => by cases p <;> rfl
  | i :: l, d, [] => rfl
  | i :: l, d, x :: p => by simp only [put]; rw [ZBi l]; simp
theorem ZFJ {d : List Int} : ∀ {l : List Nat} {p : List Int} {k : Nat}, l.length = p.length → k < l.length → put d (l.take (k + 1)) (p.take (k + 1)) = (put d (l.take k) (p.take k)).set (l.getD k 0) (p.getD k 0)
  | i :: l, x :: p, 0, _, _ => rfl
  | i :: l, x :: p, k + 1, h, hk => by
    have := ZFJ (d := d.set i x) (l := l) (p := p) (k := k) (by simpa using h) (by simpa using hk)
    simpa [put] using this
theorem ZB1 {l : List Nat} : ∀ {d p : List Int} {i : Nat}, i ∉ l → (put d l p).getD i 0 = d.getD i 0 := by
  induction l with
  | nil => intro d p i _; cases p <;> rfl
  | cons a l ih =>
    intro d p i hi
    cases p with
    | nil => rfl
    | cons x p =>
      simp only [put]
      rw [ih (fun h => hi (by simp [h]))]
      have : a ≠ i := fun e => hi (by simp [e])
      simp [List.getD_eq_getElem?_getD, List.getElem?_set_ne this]
theorem ZJZ {l : List Nat} : ∀ {d p : List Int} {k : Nat}, l.Nodup → l.length = p.length → (∀ i ∈ l, i < d.length) → k < l.length → (put d l p).getD (l.getD k 0) 0 = p.getD k 0 := by
  induction l with
  | nil => intro d p k _ _ _ h; simp at h
  | cons a l ih =>
    intro d p k hn hl hb hk
    cases p with
    | nil => simp at hl
    | cons x p =>
      simp only [put]
      rw [List.nodup_cons] at hn
      cases k with
      | zero =>
        simp only [List.getD_cons_zero]
        rw [ZB1 hn.1]
        have := hb a (by simp)
        simp [List.getD_eq_getElem?_getD, this]
      | succ k =>
        simp only [List.getD_cons_succ]
        exact ih hn.2 (by simpa using hl) (fun i hi => by rw [List.length_set]; exact hb i (by simp [hi])) (by simpa using hk)
theorem ZBj (n : Nat) (p : Nat → Bool) : (idx n p).Nodup := (List.filter_sublist (l := List.range n) (p := p)).nodup List.nodup_range
theorem ZFK {l : List Nat} {d p : List Int} (hn : l.Nodup) (hl : l.length = p.length) (hb : ∀ i ∈ l, i < d.length) : sel (put d l p) l = p := by
  apply List.ext_getElem (by rw [ZCF, hl])
  intro k h1 h2
  have hk : k < l.length := by rw [ZCF] at h1; exact h1
  have h3 := ZJZ (k := k) hn hl hb hk
  rw [← ZAs hk] at h3
  simpa [List.getD_eq_getElem?_getD, h1, h2] using h3
def sumI (l : List Int) : Int := sumN (fun i => l.getD i 0) l.length
theorem ZGq (d : List Int) (l : List Nat) : sumI (sel d l) = sumN (fun k => d.getD (l.getD k 0) 0) l.length := by
  unfold sumI
  rw [ZCF]
  exact ZAY fun i hi => ZAs hi
def bd (m : Int) (d : List Int) : Prop := ∀ i, i < d.length → 0 ≤ d.getD i 0 ∧ d.getD i 0 ≤ m
def wants (cs : List Cl) (l : List Nat) : List Int := l.map fun i => (cs.getD i default).c
theorem ZAU (cs : List Cl) (l : List Nat) : (wants cs l).length = l.length := by simp [wants]
end Go.Wf
namespace Go.Wf
set_option linter.unusedVariables false

def pR (cs : List Cl) (r : Int) (i : Nat) : Bool := decide ((cs.getD i default).r = r)
def pK (cs : List Cl) (r : Int) (b : Bool) (i : Nat) : Bool := decide ((cs.getD i default).r = r ∧ (cs.getD i default).f = b)
def memb (cs : List Cl) (r : Int) : List Nat := idx cs.length (pR cs r)
def membK (cs : List Cl) (r : Int) (b : Bool) : List Nat := idx cs.length (pK cs r b)

def kys (cs : List Cl) : Nat → List Int
  | 0 => []
  | k + 1 => if (cs.getD k default).r ∈ kys cs k then kys cs k else kys cs k ++ [(cs.getD k default).r]
theorem ZFN {cs : List Cl} {r : Int} : ∀ {k : Nat}, r ∈ kys cs k ↔ ∃ i, i < k ∧ (cs.getD i default).r = r
  | 0 => by simp [kys]
  | k + 1 => by
    have ih := ZFN (cs := cs) (r := r) (k := k)
    have step : (∃ i, i < k + 1 ∧ (cs.getD i default).r = r) ↔ (∃ i, i < k ∧ (cs.getD i default).r = r) ∨ (cs.getD k default).r = r := by
      constructor
      · rintro ⟨i, hi, h⟩
        rcases Nat.lt_or_ge i k with h1 | h1
        · exact .inl ⟨i, h1, h⟩
        · rw [show i = k by omega] at h; exact .inr h
      · rintro (⟨i, hi, h⟩ | h)
        · exact ⟨i, by omega, h⟩
        · exact ⟨k, by omega, h⟩
    rw [step, ← ih]
    simp only [kys]
    split
    · rename_i hm
      constructor
      · exact .inl
      · rintro (h | h)
        · exact h
        · rw [← h]; exact hm
    · rw [List.mem_append, List.mem_singleton]
      constructor
      · rintro (h | h)
        · exact .inl h
        · exact .inr h.symm
      · rintro (h | h)
        · exact .inl h
        · exact .inr h.symm
theorem ZGM (cs : List Cl) : ∀ k, (kys cs k).length ≤ k
  | 0 => Nat.le_refl _
  | k + 1 => by
    have := ZGM cs k
    simp only [kys]
    split
    · omega
    · simp; omega
theorem ZD7 (cs : List Cl) : ∀ k, (kys cs k).Nodup
  | 0 => List.nodup_nil
  | k + 1 => by
    have ih := ZD7 cs k
    simp only [kys]
    split
    · exact ih
    · rename_i h
      rw [List.nodup_append]
      refine ⟨ih, by simp, fun a ha b hb => ?_⟩
      rw [List.mem_singleton] at hb
      subst hb
      exact fun e => h (e ▸ ha)
def rws (cs : List Cl) (k : Nat) : List (List Int) := (kys cs k).map fun r => toI (idx k (pR cs r))
theorem ZFO (cs : List Cl) (k : Nat) : (rws cs k).length = (kys cs k).length := by simp [rws]
theorem ZDE {cs : List Cl} {k j : Nat} (h : j < (kys cs k).length) : (rws cs k).getD j [] = toI (idx k (pR cs ((kys cs k).getD j 0))) := by
  simp [rws, List.getD_eq_getElem?_getD, h]
theorem ZD8 (n : Nat) (p : Nat → Bool) : toI (idx (n + 1) p) = if p n then toI (idx n p) ++ [(n : Int)] else toI (idx n p) := by
  rw [ZFI]
  split
  · unfold toI; rw [List.map_append]; rfl
  · rfl
theorem ZJ0 {cs : List Cl} {k j : Nat} (hj : j < (kys cs k).length) (h : (kys cs k).getD j 0 = (cs.getD k default).r) : kys cs (k + 1) = kys cs k ∧ rws cs (k + 1) = (rws cs k).set j ((rws cs k).getD j [] ++ [(k : Int)]) := by
  have hm : (cs.getD k default).r ∈ kys cs k := by rw [← h]; exact nth_mem0I hj
  have e : kys cs (k + 1) = kys cs k := by simp only [kys]; rw [if_pos hm]
  refine ⟨e, ?_⟩
  apply List.ext_getElem (by simp [rws, e])
  intro i h1 h2
  have hi : i < (kys cs k).length := by rw [ZFO, e] at h1; exact h1
  have a1 : (rws cs (k + 1))[i] = toI (idx (k + 1) (pR cs ((kys cs k).getD i 0))) := by
    have := ZDE (cs := cs) (k := k + 1) (j := i) (by rw [e]; exact hi)
    rw [e] at this
    simpa [List.getD_eq_getElem?_getD, h1] using this
  rw [a1, List.getElem_set, ZD8]
  by_cases hij : j = i
  · subst hij
    rw [if_pos rfl, ZDE hi, h]
    rw [if_pos (by unfold pR; exact decide_eq_true rfl)]
  · rw [if_neg hij]
    have hne : (kys cs k).getD i 0 ≠ (cs.getD k default).r := fun he => by
      have hn := ZD7 cs k
      have hl : (kys cs k)[i] = (kys cs k)[j] := by
        have q1 : (kys cs k).getD i 0 = (kys cs k)[i] := by simp [List.getD_eq_getElem?_getD, hi]
        have q2 : (kys cs k).getD j 0 = (kys cs k)[j] := by simp [List.getD_eq_getElem?_getD, hj]
        rw [← q1, ← q2, he, h]
      exact hij ((List.getElem_inj hn).1 hl).symm
    rw [if_neg (by unfold pR; rw [decide_eq_true_eq]; exact fun e => hne e.symm)]
    have := ZDE (cs := cs) (k := k) (j := i) hi
    rw [← this]
    have h3 : i < (rws cs k).length := by rw [ZFO]; exact hi
    simp [List.getD_eq_getElem?_getD, h3]
where
  nth_mem0I {l : List Int} {k : Nat} (h : k < l.length) : l.getD k 0 ∈ l := by simp [List.getD_eq_getElem?_getD, h]
theorem ZJ1 {cs : List Cl} {k : Nat} (h : (cs.getD k default).r ∉ kys cs k) : kys cs (k + 1) = kys cs k ++ [(cs.getD k default).r] ∧ rws cs (k + 1) = rws cs k ++ [[(k : Int)]] := by
  have e : kys cs (k + 1) = kys cs k ++ [(cs.getD k default).r] := by simp only [kys]; rw [if_neg h]
  refine ⟨e, ?_⟩
  unfold rws
  rw [e, List.map_append]
  congr 1
  · refine List.map_congr_left fun r hr => ?_
    rw [ZD8, if_neg (by unfold pR; rw [decide_eq_true_eq]; exact fun he => h (by rw [he]; exact hr))]
  · rw [List.map_singleton, ZD8, if_pos (by unfold pR; exact decide_eq_true rfl)]
    have : idx k (pR cs (cs.getD k default).r) = [] := by
      rw [List.eq_nil_iff_forall_not_mem]
      intro i hi
      obtain ⟨h1, h2⟩ := ZBh.1 hi
      exact h (ZFN.2 ⟨i, h1, of_decide_eq_true h2⟩)
    rw [this]; rfl

def insR (x : Int) : List Int → List Int
  | [] => [x]
  | a :: r => if a < x then a :: insR x r else if a = x then a :: r else x :: a :: r
theorem ZH0 (x : Int) : ∀ (l : List Int) (k : Nat), k ≤ l.length → (∀ i, i < k → l.getD i 0 < x) → (k = l.length ∨ x ≤ l.getD k 0) → insR x l = if k = l.length ∨ l.getD k 0 ≠ x then l.take k ++ x :: l.drop k else l
  | [], k, hk, _, _ => by
    have : k = 0 := by simpa using hk
    subst this
    simp [insR]
  | a :: r, 0, _, _, h => by
    rcases h with h | h
    · simp at h
    · simp only [List.getD_cons_zero] at h
      simp only [insR]
      rw [if_neg (by omega)]
      by_cases e : a = x
      · rw [if_pos e, if_neg (by simp [e])]
      · rw [if_neg e, if_pos (.inr (by simpa using e))]; rfl
  | a :: r, k + 1, hk, h1, h2 => by
    have h0 := h1 0 (by omega)
    simp only [List.getD_cons_zero] at h0
    have ih := ZH0 x r k (by simpa using hk) (fun i hi => by have := h1 (i + 1) (by omega); simpa using this) (by simpa using h2)
    simp only [insR]
    rw [if_pos h0, ih]
    by_cases c : k = r.length ∨ r.getD k 0 ≠ x
    · rw [if_pos c, if_pos (by simpa using c)]; rfl
    · rw [if_neg c, if_neg (by simpa using c)]
theorem ZFP {x y : Int} : ∀ {l : List Int}, y ∈ insR x l ↔ y = x ∨ y ∈ l
  | [] => by simp [insR]
  | a :: r => by
    have ih := ZFP (x := x) (y := y) (l := r)
    simp only [insR]
    split
    · rw [List.mem_cons, ih, List.mem_cons]; constructor
      · rintro (h | h | h)
        · exact .inr (.inl h)
        · exact .inl h
        · exact .inr (.inr h)
      · rintro (h | h | h)
        · exact .inr (.inl h)
        · exact .inl h
        · exact .inr (.inr h)
    · split
      · rename_i e; subst e
        rw [List.mem_cons]; constructor
        · exact .inr
        · rintro (h | h)
          · exact .inl h
          · exact h
      · rw [List.mem_cons]
theorem ZH1 {x : Int} : ∀ {l : List Int}, l.Pairwise (· < ·) → (insR x l).Pairwise (· < ·)
  | [], _ => by simp [insR]
  | a :: r, h => by
    rw [List.pairwise_cons] at h
    simp only [insR]
    split
    · rename_i hlt
      rw [List.pairwise_cons]
      refine ⟨fun y hy => ?_, ZH1 h.2⟩
      rcases ZFP.1 hy with rfl | hy
      · exact hlt
      · exact h.1 y hy
    · split
      · exact List.pairwise_cons.2 h
      · rename_i h1 h2
        rw [List.pairwise_cons]
        refine ⟨fun y hy => ?_, List.pairwise_cons.2 h⟩
        rcases List.mem_cons.1 hy with rfl | hy
        · omega
        · have := h.1 y hy; omega
theorem ZGr (x : Int) : ∀ l : List Int, (insR x l).length ≤ l.length + 1
  | [] => by simp [insR]
  | a :: r => by
    have := ZGr x r
    simp only [insR]
    split
    · simp; omega
    · split <;> simp
def rkN (cs : List Cl) : Nat → List Int
  | 0 => []
  | k + 1 => insR (cs.getD k default).r (rkN cs k)
def rkF (cs : List Cl) : List Int := rkN cs cs.length
theorem ZCq {cs : List Cl} {r : Int} : ∀ {k : Nat}, r ∈ rkN cs k ↔ ∃ i, i < k ∧ (cs.getD i default).r = r
  | 0 => by simp [rkN]
  | k + 1 => by
    have ih := ZCq (cs := cs) (r := r) (k := k)
    rw [rkN, ZFP, ih]
    constructor
    · rintro (h | ⟨i, hi, h⟩)
      · exact ⟨k, by omega, h.symm⟩
      · exact ⟨i, by omega, h⟩
    · rintro ⟨i, hi, h⟩
      rcases Nat.lt_or_ge i k with h1 | h1
      · exact .inr ⟨i, h1, h⟩
      · rw [show i = k by omega] at h; exact .inl h.symm
theorem ZEk (cs : List Cl) : ∀ k, (rkN cs k).Pairwise (· < ·)
  | 0 => List.Pairwise.nil
  | k + 1 => ZH1 (ZEk cs k)
theorem ZD9 (cs : List Cl) : ∀ k, (rkN cs k).length ≤ k
  | 0 => Nat.le_refl _
  | k + 1 => by have := ZGr (cs.getD k default).r (rkN cs k); have := ZD9 cs k; rw [rkN]; omega
theorem ZJH {l : List Int} (h : l.Pairwise (· < ·)) : l.Nodup := h.imp fun h e => by omega
theorem ZFz (cs : List Cl) (k : Nat) : (kys cs k).mergeSort (fun x y => decide (x ≤ y)) = rkN cs k := by
  have tr : ∀ a b c : Int, decide (a ≤ b) = true → decide (b ≤ c) = true → decide (a ≤ c) = true := fun a b c h1 h2 => by simp only [decide_eq_true_eq] at *; omega
  have to : ∀ a b : Int, (decide (a ≤ b) || decide (b ≤ a)) = true := fun a b => by simp only [Bool.or_eq_true, decide_eq_true_eq]; omega
  have hp : ((kys cs k).mergeSort (fun x y => decide (x ≤ y))).Perm (rkN cs k) := by
    refine (List.mergeSort_perm _ _).trans ((List.perm_ext_iff_of_nodup (ZD7 cs k) (ZJH (ZEk cs k))).2 fun r => ?_)
    rw [ZFN, ZCq]
  refine List.Perm.eq_of_pairwise (le := fun a b => decide (a ≤ b) = true) (fun a b _ _ h1 h2 => ?_) (List.pairwise_mergeSort tr to _) ((ZEk cs k).imp fun h => by rw [decide_eq_true_eq]; omega) hp
  simp only [decide_eq_true_eq] at h1 h2
  omega
end Go.Wf
namespace Go.Wf
open Go.Proofs.Share
set_option linter.unusedVariables false

theorem ZEs (l : List Int) : sumI l = sumL l := by
  unfold sumI
  induction l with
  | nil => rfl
  | cons x r ih =>
    simp only [sumL, ← ih]
    have key : ∀ n, sumN (fun i => (x :: r).getD i 0) (n + 1) = x + sumN (fun i => r.getD i 0) n := by
      intro n
      induction n with
      | zero => simp [sumN]
      | succ n ih2 =>
        rw [sumN, ih2]
        simp only [sumN, List.getD_cons_succ]; omega
    exact key r.length
theorem ZCI (d : List Int) (p : Nat → Bool) : ∀ n, sumI (sel d (idx n p)) = sumN (fun i => if p i then d.getD i 0 else 0) n
  | 0 => by simp [idx, sel, sumI, sumN]
  | n + 1 => by
    rw [ZFI]
    have ih := ZCI d p n
    simp only [sumN]
    split
    · rename_i h
      rw [ZEs] at ih ⊢
      unfold sel at ih ⊢
      rw [List.map_append, ZCr, ih]
      simp [sumL]
    · rw [ih]; simp
theorem ZH9 (cs : List Cl) (p : Nat → Bool) (n : Nat) : sumL (wants cs (idx n p)) = sumN (fun i => if p i then (cs.getD i default).c else 0) n := by
  induction n with
  | zero => simp [idx, wants, sumL, sumN]
  | succ n ih =>
    rw [ZFI]
    simp only [sumN]
    split
    · unfold wants at ih ⊢
      rw [List.map_append, ZCr, ih]
      simp [sumL]
    · rw [ih]; simp
def lev (t : Int) (l : List Int) : Nat → Nat
  | 0 => 0
  | m + 1 => if costF l ((m + 1 : Nat) : Int) ≤ t then m + 1 else lev t l m
theorem ZGx {t : Int} {l : List Int} (h0 : costF l 0 ≤ t) : ∀ m, costF l (lev t l m) ≤ t ∧ (lev t l m = m ∨ t < costF l ((lev t l m : Int) + 1))
  | 0 => ⟨h0, .inl rfl⟩
  | m + 1 => by
    have ih := ZGx h0 m
    simp only [lev]
    split
    · rename_i h; exact ⟨h, .inl rfl⟩
    · rename_i h
      refine ⟨ih.1, .inr ?_⟩
      rcases ih.2 with h1 | h1
      · rw [h1]; rw [show ((m + 1 : Nat) : Int) = (m : Int) + 1 by omega] at h; omega
      · exact h1
def fairF (t : Int) (l : List Int) : List Int := dist (lev t l (sumL l).toNat) (t - costF l (lev t l (sumL l).toNat)) l
theorem ZIA : ∀ {l : List Int}, (∀ c ∈ l, 0 ≤ c) → ∀ c ∈ l, c ≤ sumL l
  | x :: r, h, c, hc => by
    have h1 := ZCG r (fun c hc => h c (by simp [hc]))
    have h2 := h x (by simp)
    simp only [sumL]
    rcases List.mem_cons.1 hc with e | e
    · omega
    · have := ZIA (l := r) (fun c hc => h c (by simp [hc])) c e; omega
theorem ZCf {t : Int} {l : List Int} (hl : ∀ c ∈ l, 0 ≤ c ∧ c ≤ maxC) (ht : 0 ≤ t) : DF t l (fairF t l) := by
  have h0 : ∀ c ∈ l, 0 ≤ c := fun c hc => (hl c hc).1
  have hs := ZCG l h0
  obtain ⟨h1, h2⟩ := ZGx (t := t) (l := l) (by rw [ZEC l h0]; exact ht) (sumL l).toNat
  unfold fairF
  generalize lev t l (sumL l).toNat = e at *
  refine DF.of_dist h0 (by omega) h1 ?_
  rcases h2 with h2 | h2
  · exact .inr (ZEl l e fun c hc => by have := ZIA h0 c hc; omega)
  · rw [ZEA] at h2; exact .inl (by omega)
theorem ZA0 {cs : List Cl} (hv : vC cs) {l : List Nat} (hl : ∀ i ∈ l, i < cs.length) : ∀ c ∈ wants cs l, 0 ≤ c ∧ c ≤ maxC := fun c hc => by
  obtain ⟨i, hi, rfl⟩ := List.mem_map.1 hc
  have := hv.2 _ (ZAc (hl i hi))
  exact ⟨this.1.2, this.2⟩
structure Dv where
  d : List Int
  g : Int
  a : Int
def st1 (ps : List Po) (cs : List Cl) (r : Int) (s : Dv) : List Int := put s.d (memb cs r) (fairF (sumP ps false + sumP ps true - s.a) (wants cs (memb cs r)))
def st2 (ps : List Po) (cs : List Cl) (r : Int) (s : Dv) : List Int :=
  if sumP ps false - s.g < sumI (sel (st1 ps cs r s) (membK cs r false)) then
    put (put (st1 ps cs r s) (membK cs r false) (fairF (sumP ps false - s.g) (wants cs (membK cs r false)))) (membK cs r true) (fairF (sumP ps false + sumP ps true - s.a - (sumP ps false - s.g)) (wants cs (membK cs r true)))
  else st1 ps cs r s
def stepD (ps : List Po) (cs : List Cl) (r : Int) (s : Dv) : Dv := ⟨st2 ps cs r s, s.g + sumI (sel (st2 ps cs r s) (membK cs r false)), s.a + sumI (sel (st2 ps cs r s) (memb cs r))⟩
def divS (ps : List Po) (cs : List Cl) (rs : List Int) : Dv := rs.foldl (fun s r => stepD ps cs r s) ⟨List.replicate cs.length 0, 0, 0⟩
theorem ZDG (ps : List Po) (cs : List Cl) (rs : List Int) (k : Nat) (h : k < rs.length) : divS ps cs (rs.take (k + 1)) = stepD ps cs (rs.getD k 0) (divS ps cs (rs.take k)) := by
  unfold divS
  rw [List.take_succ_eq_append_getElem h, List.foldl_append]
  simp [List.getD_eq_getElem?_getD, h]
def divF (ps : List Po) (cs : List Cl) : List Int := (divS ps cs (rkF cs)).d

theorem ZBA {cs : List Cl} {r : Int} : ∀ i ∈ memb cs r, i < cs.length := fun i hi => (ZBh.1 hi).1
theorem ZAh {cs : List Cl} {r : Int} {b : Bool} : ∀ i ∈ membK cs r b, i < cs.length := fun i hi => (ZBh.1 hi).1
theorem ZDl (cs : List Cl) (r : Int) : (memb cs r).length ≤ cs.length := ZD5 _ _
theorem ZDH (cs : List Cl) (r : Int) (b : Bool) : (membK cs r b).length ≤ cs.length := ZD5 _ _
theorem ZIB {d p : List Int} {l : List Nat} {m : Int} (hd : bd m d) (hn : l.Nodup) (hl : l.length = p.length) (hb : ∀ i ∈ l, i < d.length) (hp : bd m p) : bd m (put d l p) := fun i hi => by
  rw [ZBi] at hi
  by_cases h : i ∈ l
  · obtain ⟨k, hk, rfl⟩ := List.getElem_of_mem h
    have e : l.getD k 0 = l[k] := by simp [List.getD_eq_getElem?_getD, hk]
    have := ZJZ (k := k) hn hl hb hk
    rw [e] at this
    rw [this]
    exact hp k (by omega)
  · rw [ZB1 h]; exact hd i hi
theorem ZJ2 {t : Int} {l p : List Int} (h : DF t l p) (hl : ∀ c ∈ l, 0 ≤ c ∧ c ≤ maxC) : bd maxC p := fun i hi => by
  rw [h.len] at hi
  have h1 := h.lo i hi
  have h2 := h.hi i hi
  have h3 : l.getD i 0 ∈ l := by simp [List.getD_eq_getElem?_getD, hi]
  have := (hl _ h3).2
  exact ⟨h1, by omega⟩
structure InvD (ps : List Po) (cs : List Cl) (s : Dv) : Prop where
  len : s.d.length = cs.length
  bd : bd maxC s.d
  g0 : 0 ≤ s.g
  g1 : s.g ≤ sumP ps false
  a0 : 0 ≤ s.a
  a1 : s.a ≤ sumP ps false + sumP ps true
theorem InvD.init {ps : List Po} (hp : vP ps) (cs : List Cl) : InvD ps cs ⟨List.replicate cs.length 0, 0, 0⟩ := by
  have h1 := ZAW hp false
  have h2 := ZAW hp true
  refine ⟨by simp, fun i hi => ?_, by simp, h1.1, by simp, by simp only; omega⟩
  have e : (List.replicate cs.length (0 : Int)).getD i 0 = 0 := by
    simp only [List.length_replicate] at hi
    simp [List.getD_eq_getElem?_getD, hi]
  rw [e]; exact ⟨Int.le_refl _, by decide⟩
section
variable {ps : List Po} {cs : List Cl} (hp : vP ps) (hv : vC cs) {s : Dv} (hi : InvD ps cs s) (r : Int)
include hp hv hi
theorem ZEt : DF (sumP ps false + sumP ps true - s.a) (wants cs (memb cs r)) (fairF (sumP ps false + sumP ps true - s.a) (wants cs (memb cs r))) := ZCf (ZA0 hv ZBA) (by have _u := And.intro hp (And.intro hv hi); have := hi.a1; omega)
theorem ZCJ : (st1 ps cs r s).length = cs.length := by
  have _u := And.intro hp (And.intro hv hi)
  unfold st1; rw [ZBi, hi.len]
theorem ZIC : sel (st1 ps cs r s) (memb cs r) = fairF (sumP ps false + sumP ps true - s.a) (wants cs (memb cs r)) := by
  have h := ZEt hp hv hi r
  unfold st1
  exact ZFK (ZBj _ _) (by rw [h.len, ZAU]) (fun i h => by rw [hi.len]; exact ZBA i h)
theorem ZF7 : bd maxC (st1 ps cs r s) := by
  have h := ZEt hp hv hi r
  exact ZIB hi.bd (ZBj _ _) (by rw [h.len, ZAU]) (fun i h => by rw [hi.len]; exact ZBA i h) (ZJ2 h (ZA0 hv ZBA))
theorem ZID (d : List Int) : sumI (sel d (memb cs r)) = sumI (sel d (membK cs r false)) + sumI (sel d (membK cs r true)) := by
  have _u := And.intro hp (And.intro hv hi)
  unfold memb membK
  rw [ZCI, ZCI, ZCI, ← ZCE]
  refine ZAY fun i _ => ?_
  unfold pR pK
  generalize cs.getD i default = c
  by_cases h : c.r = r
  · cases hf : c.f <;> simp [h]
  · simp [h]
theorem ZB2 {d : List Int} (hd : bd maxC d) (hl : d.length = cs.length) (p : Nat → Bool) : 0 ≤ sumI (sel d (idx cs.length p)) := by
  have _u := And.intro hp (And.intro hv hi)
  rw [ZCI]
  refine ZBg fun i hi => ?_
  split
  · exact (hd i (by omega)).1
  · exact Int.le_refl _
theorem ZIE : sumI (sel (st1 ps cs r s) (memb cs r)) ≤ sumP ps false + sumP ps true - s.a := by
  rw [ZIC hp hv hi, ZEs, (ZEt hp hv hi r).sum]
  omega
theorem ZCw (h : sumP ps false - s.g < sumI (sel (st1 ps cs r s) (membK cs r false))) : 0 ≤ sumP ps false + sumP ps true - s.a - (sumP ps false - s.g) := by
  have h1 := ZIE hp hv hi r
  have h2 := ZID hp hv hi r (st1 ps cs r s)
  have h3 := ZB2 hp hv hi (ZF7 hp hv hi r) (ZCJ hp hv hi r) (pK cs r true)
  unfold membK at h h2
  omega
theorem ZDQ : DF (sumP ps false - s.g) (wants cs (membK cs r false)) (fairF (sumP ps false - s.g) (wants cs (membK cs r false))) := ZCf (ZA0 hv ZAh) (by have _u := And.intro hp (And.intro hv hi); have := hi.g1; omega)
theorem ZDR (h : sumP ps false - s.g < sumI (sel (st1 ps cs r s) (membK cs r false))) : DF (sumP ps false + sumP ps true - s.a - (sumP ps false - s.g)) (wants cs (membK cs r true)) (fairF (sumP ps false + sumP ps true - s.a - (sumP ps false - s.g)) (wants cs (membK cs r true))) := ZCf (ZA0 hv ZAh) (ZCw hp hv hi r h)
theorem disj {i : Nat} (h : i ∈ membK cs r false) : i ∉ membK cs r true :=
  have _u := And.intro hp (And.intro hv hi)
  fun h2 => by
  have a := (ZBh.1 h).2
  have b := (ZBh.1 h2).2
  unfold pK at a b
  rw [decide_eq_true_eq] at a b
  rw [a.2] at b
  cases b.2
theorem ZGT : (st2 ps cs r s).length = cs.length := by
  unfold st2
  split
  · rw [ZBi, ZBi, ZCJ hp hv hi]
  · exact ZCJ hp hv hi r
theorem ZGy (h : sumP ps false - s.g < sumI (sel (st1 ps cs r s) (membK cs r false))) : sel (st2 ps cs r s) (membK cs r false) = fairF (sumP ps false - s.g) (wants cs (membK cs r false)) := by
  have h1 := ZDQ hp hv hi r
  unfold st2
  rw [if_pos h]
  have e : ∀ (x : List Int) (y : List Int), sel (put x (membK cs r true) y) (membK cs r false) = sel x (membK cs r false) := fun x y => List.map_congr_left fun i hi2 => ZB1 (disj hp hv hi r hi2)
  rw [e]
  exact ZFK (ZBj _ _) (by rw [h1.len, ZAU]) (fun i h => by rw [ZCJ hp hv hi]; exact ZAh i h)
theorem ZGz (h : sumP ps false - s.g < sumI (sel (st1 ps cs r s) (membK cs r false))) : sel (st2 ps cs r s) (membK cs r true) = fairF (sumP ps false + sumP ps true - s.a - (sumP ps false - s.g)) (wants cs (membK cs r true)) := by
  have h1 := ZDR hp hv hi r h
  unfold st2
  rw [if_pos h]
  exact ZFK (ZBj _ _) (by rw [h1.len, ZAU]) (fun i h => by rw [ZBi, ZCJ hp hv hi]; exact ZAh i h)
theorem ZIF : bd maxC (put (st1 ps cs r s) (membK cs r false) (fairF (sumP ps false - s.g) (wants cs (membK cs r false)))) := by
  have h1 := ZDQ hp hv hi r
  exact ZIB (ZF7 hp hv hi r) (ZBj _ _) (by rw [h1.len, ZAU]) (fun i h => by rw [ZCJ hp hv hi]; exact ZAh i h) (ZJ2 h1 (ZA0 hv ZAh))
theorem ZIG : bd maxC (st2 ps cs r s) := by
  unfold st2
  split
  · rename_i h
    have h1 := ZDR hp hv hi r h
    exact ZIB (ZIF hp hv hi r) (ZBj _ _) (by rw [h1.len, ZAU]) (fun i h => by rw [ZBi, ZCJ hp hv hi]; exact ZAh i h) (ZJ2 h1 (ZA0 hv ZAh))
  · exact ZF7 hp hv hi r
theorem InvD.step : InvD ps cs (stepD ps cs r s) := by
  have hb := ZIG hp hv hi r
  have hl := ZGT hp hv hi r
  have n1 := ZB2 hp hv hi hb hl (pK cs r false)
  have n2 := ZB2 hp hv hi hb hl (pR cs r)
  have h2 := ZID hp hv hi r (st2 ps cs r s)
  have g0 := hi.g0; have g1 := hi.g1; have a0 := hi.a0; have a1 := hi.a1
  have key : sumI (sel (st2 ps cs r s) (membK cs r false)) ≤ sumP ps false - s.g ∧ sumI (sel (st2 ps cs r s) (memb cs r)) ≤ sumP ps false + sumP ps true - s.a := by
    by_cases h : sumP ps false - s.g < sumI (sel (st1 ps cs r s) (membK cs r false))
    · have e1 := ZGy hp hv hi r h
      have e2 := ZGz hp hv hi r h
      have q1 := (ZDQ hp hv hi r).sum
      have q2 := (ZDR hp hv hi r h).sum
      rw [h2, e1, e2, ZEs, ZEs, q1, q2]
      omega
    · have e : st2 ps cs r s = st1 ps cs r s := by unfold st2; rw [if_neg h]
      rw [e]
      exact ⟨by omega, ZIE hp hv hi r⟩
  unfold memb membK at *
  exact ⟨hl, hb, by simp only [stepD, membK]; omega, by simp only [stepD, membK]; omega, by simp only [stepD, memb]; omega, by simp only [stepD, memb]; omega⟩
end
theorem InvD.all {ps : List Po} {cs : List Cl} (hp : vP ps) (hv : vC cs) (rs : List Int) : ∀ k, k ≤ rs.length → InvD ps cs (divS ps cs (rs.take k))
  | 0, _ => InvD.init hp cs
  | k + 1, h => by rw [ZDG ps cs rs k (by omega)]; exact InvD.step hp hv (InvD.all hp hv rs k (by omega)) _
end Go.Wf
namespace Go.Wf
set_option linter.unusedVariables false
set_option linter.unusedSimpArgs false

structure Sr where
  n : Int
  l : List Int
  w : List Int
def srS (ps : List Po) (b : Bool) (s : Sr) (j : Nat) : Sr :=
  if (ps.getD j default).f = b then ⟨s.n - min s.n (s.l.getD j 0), s.l.set j (s.l.getD j 0 - min s.n (s.l.getD j 0)), s.w.set j (s.w.getD j 0 + min s.n (s.l.getD j 0))⟩ else s
def srF (ps : List Po) (b : Bool) (s : Sr) : Nat → Sr
  | 0 => s
  | k + 1 => srS ps b (srF ps b s k) k
structure InvS (m : Nat) (s : Sr) : Prop where
  n0 : 0 ≤ s.n
  n1 : s.n ≤ maxC
  ll : s.l.length = m
  wl : s.w.length = m
  l0 : ∀ j, j < m → 0 ≤ s.l.getD j 0
  w0 : ∀ j, j < m → 0 ≤ s.w.getD j 0
  lw : ∀ j, j < m → s.l.getD j 0 + s.w.getD j 0 ≤ maxC
theorem ZAd {l : List Int} {j : Nat} (x : Int) (h : j < l.length) : (l.set j x).getD j 0 = x := by simp [List.getD_eq_getElem?_getD, h]
theorem ZAX {l : List Int} {i j : Nat} (x : Int) (h : i ≠ j) : (l.set i x).getD j 0 = l.getD j 0 := by simp [List.getD_eq_getElem?_getD, List.getElem?_set, h]
theorem InvS.step {m : Nat} {s : Sr} (h : InvS m s) (ps : List Po) (b : Bool) {j : Nat} (hj : j < m) : InvS m (srS ps b s j) := by
  unfold srS
  split
  · have a1 := h.l0 j hj
    have a2 := h.w0 j hj
    have a3 := h.lw j hj
    have a4 := h.n0
    have a5 := h.n1
    refine ⟨by simp only; omega, by simp only; omega, by simp only [List.length_set]; exact h.ll, by simp only [List.length_set]; exact h.wl, fun i hi => ?_, fun i hi => ?_, fun i hi => ?_⟩
    all_goals
      by_cases e : j = i
      · subst e
        simp only [ZAd _ (show j < s.l.length by rw [h.ll]; exact hj), ZAd _ (show j < s.w.length by rw [h.wl]; exact hj)]
        omega
      · simp only [ZAX _ e]
        first | exact h.l0 i hi | exact h.w0 i hi | exact h.lw i hi
  · exact h
theorem InvS.all {m : Nat} {s : Sr} (h : InvS m s) (ps : List Po) (b : Bool) : ∀ k, k ≤ m → InvS m (srF ps b s k)
  | 0, _ => h
  | k + 1, hk => InvS.step (InvS.all h ps b k (by omega)) ps b (by omega)
theorem srS_le {m : Nat} {s : Sr} (h : InvS m s) (ps : List Po) (b : Bool) {j : Nat} (hj : j < m) : ∀ i, i < m → (srS ps b s j).l.getD i 0 ≤ s.l.getD i 0 := fun i hi => by
  unfold srS
  split
  · have a1 := h.l0 j hj
    have a4 := h.n0
    by_cases e : j = i
    · subst e
      simp only [ZAd _ (show j < s.l.length by rw [h.ll]; exact hj)]
      omega
    · simp only [ZAX _ e]; exact Int.le_refl _
  · exact Int.le_refl _
theorem ZIM {m : Nat} {s : Sr} (h : InvS m s) (ps : List Po) (b : Bool) : ∀ k, k ≤ m → ∀ i, i < m → (srF ps b s k).l.getD i 0 ≤ s.l.getD i 0
  | 0, _, i, _ => Int.le_refl _
  | k + 1, hk, i, hi => Int.le_trans (srS_le (InvS.all h ps b k (by omega)) ps b (by omega) i hi) (ZIM h ps b k (by omega) i hi)

structure Ta where
  n : List Int
  l : List Int
  fr : List (List Int)
def taS (ps : List Po) (cs : List Cl) (a b : Bool) (s : Ta) (i : Nat) : Ta :=
  if (cs.getD i default).f = a then ⟨s.n.set i (srF ps b ⟨s.n.getD i 0, s.l, s.fr.getD i []⟩ ps.length).n, (srF ps b ⟨s.n.getD i 0, s.l, s.fr.getD i []⟩ ps.length).l, s.fr.set i (srF ps b ⟨s.n.getD i 0, s.l, s.fr.getD i []⟩ ps.length).w⟩ else s
def taF (ps : List Po) (cs : List Cl) (a b : Bool) (s : Ta) : Nat → Ta
  | 0 => s
  | k + 1 => taS ps cs a b (taF ps cs a b s k) k
structure InvT (m c : Nat) (s : Ta) : Prop where
  nl : s.n.length = c
  n0 : ∀ i, i < c → 0 ≤ s.n.getD i 0
  n1 : ∀ i, i < c → s.n.getD i 0 ≤ maxC
  ll : s.l.length = m
  l0 : ∀ j, j < m → 0 ≤ s.l.getD j 0
  fl : s.fr.length = c
  wl : ∀ i, i < c → (s.fr.getD i []).length = m
  w0 : ∀ i, i < c → ∀ j, j < m → 0 ≤ (s.fr.getD i []).getD j 0
  lw : ∀ i, i < c → ∀ j, j < m → s.l.getD j 0 + (s.fr.getD i []).getD j 0 ≤ maxC
theorem InvT.row {m c : Nat} {s : Ta} (h : InvT m c s) {i : Nat} (hi : i < c) : InvS m ⟨s.n.getD i 0, s.l, s.fr.getD i []⟩ := ⟨h.n0 i hi, h.n1 i hi, h.ll, h.wl i hi, h.l0, h.w0 i hi, h.lw i hi⟩
theorem ZDm {l : List (List Int)} {j : Nat} (x : List Int) (h : j < l.length) : (l.set j x).getD j [] = x := by simp [List.getD_eq_getElem?_getD, h]
theorem ZCx {l : List (List Int)} {i j : Nat} (x : List Int) (h : i ≠ j) : (l.set i x).getD j [] = l.getD j [] := by simp [List.getD_eq_getElem?_getD, List.getElem?_set, h]
theorem InvT.step {m c : Nat} {s : Ta} (h : InvT m c s) {ps : List Po} (hm : ps.length = m) (cs : List Cl) (a b : Bool) {i : Nat} (hi : i < c) : InvT m c (taS ps cs a b s i) := by
  unfold taS
  split
  · have hr := InvS.all (h.row hi) ps b ps.length (by omega)
    have hle := ZIM (h.row hi) ps b ps.length (by omega)
    generalize srF ps b ⟨s.n.getD i 0, s.l, s.fr.getD i []⟩ ps.length = r at *
    have b1 : i < s.n.length := by rw [h.nl]; exact hi
    have b2 : i < s.fr.length := by rw [h.fl]; exact hi
    refine ⟨by simp only [List.length_set]; exact h.nl, fun k hk => ?_, fun k hk => ?_, hr.ll, hr.l0, by simp only [List.length_set]; exact h.fl, fun k hk => ?_, fun k hk => ?_, fun k hk => ?_⟩
    all_goals
      by_cases e : i = k
      · subst e
        simp only [ZAd _ b1, ZDm _ b2]
        first | exact hr.n0 | exact hr.n1 | exact hr.wl | exact hr.w0 | exact hr.lw
      · simp only [ZAX _ e, ZCx _ e]
        first
          | exact h.n0 k hk
          | exact h.n1 k hk
          | exact h.wl k hk
          | exact h.w0 k hk
          | (intro j hj; have a1 := hle j hj; have a2 := h.lw k hk j hj; simp only at a1; omega)
  · exact h
theorem InvT.all {m c : Nat} {s : Ta} (h : InvT m c s) {ps : List Po} (hm : ps.length = m) (cs : List Cl) (a b : Bool) : ∀ k, k ≤ c → InvT m c (taF ps cs a b s k)
  | 0, _ => h
  | k + 1, hk => InvT.step (InvT.all h hm cs a b k (by omega)) hm cs a b (by omega)
def ta0 (ps : List Po) (cs : List Cl) : Ta := ⟨divF ps cs, ps.map Po.c, List.replicate cs.length (List.replicate ps.length 0)⟩
def ta1 (ps : List Po) (cs : List Cl) : Ta := taF ps cs true true (ta0 ps cs) cs.length
def ta2 (ps : List Po) (cs : List Cl) : Ta := taF ps cs true false (ta1 ps cs) cs.length
def ta3 (ps : List Po) (cs : List Cl) : Ta := taF ps cs false false (ta2 ps cs) cs.length
theorem ZFU (ps : List Po) {j : Nat} (h : j < ps.length) : (ps.map Po.c).getD j 0 = (ps.getD j default).c := by simp [List.getD_eq_getElem?_getD, h]
theorem ZFV {ps : List Po} {cs : List Cl} (hp : vP ps) (hv : vC cs) : InvT ps.length cs.length (ta0 ps cs) := by
  have hd := InvD.all hp hv (rkF cs) (rkF cs).length (Nat.le_refl _)
  rw [List.take_length] at hd
  have hl : (divF ps cs).length = cs.length := hd.len
  have hb := hd.bd
  have rep : ∀ i, i < cs.length → (List.replicate cs.length (List.replicate ps.length (0 : Int))).getD i [] = List.replicate ps.length 0 := fun i hi => by simp [List.getD_eq_getElem?_getD, hi]
  have rep0 : ∀ j, j < ps.length → (List.replicate ps.length (0 : Int)).getD j 0 = 0 := fun j hj => by simp [List.getD_eq_getElem?_getD, hj]
  have pb : ∀ j, j < ps.length → 0 ≤ (ps.map Po.c).getD j 0 ∧ (ps.map Po.c).getD j 0 ≤ maxC := fun j hj => by rw [ZFU ps hj]; exact ZCS hp (ZAc hj)
  refine ⟨hl, fun i hi => (hb i (by rw [hd.len]; exact hi)).1, fun i hi => (hb i (by rw [hd.len]; exact hi)).2, by simp [ta0], fun j hj => (pb j hj).1, by simp [ta0], fun i hi => by simp only [ta0, rep i hi, List.length_replicate], fun i hi j hj => by simp only [ta0, rep i hi, rep0 j hj, Int.le_refl], fun i hi j hj => by simp only [ta0, rep i hi, rep0 j hj]; have := (pb j hj).2; omega⟩
theorem ZEG {ps : List Po} {cs : List Cl} (hp : vP ps) (hv : vC cs) : InvT ps.length cs.length (ta1 ps cs) := InvT.all (ZFV hp hv) rfl cs _ _ _ (Nat.le_refl _)
theorem ZFW {ps : List Po} {cs : List Cl} (hp : vP ps) (hv : vC cs) : InvT ps.length cs.length (ta2 ps cs) := InvT.all (ZEG hp hv) rfl cs _ _ _ (Nat.le_refl _)
theorem ZCy {ps : List Po} {cs : List Cl} (hp : vP ps) (hv : vC cs) : InvT ps.length cs.length (ta3 ps cs) := InvT.all (ZFW hp hv) rfl cs _ _ _ (Nat.le_refl _)
end Go.Wf
namespace Go.Wf
open Go.Proofs.Share
set_option linter.unusedVariables false

abbrev dv (d : List Int) (i : Nat) : Int := d.getD i 0
abbrev cv (cs : List Cl) (i : Nat) : Int := (cs.getD i default).c
/-- The sum over the indices of a kind. -/
def su (n : Nat) (p : Nat → Bool) (v : Nat → Int) : Int := sumN (fun i => if p i then v i else 0) n
theorem su_congr {n : Nat} {p q : Nat → Bool} {v u : Nat → Int} (h : ∀ i, i < n → p i = q i) (h2 : ∀ i, i < n → p i = true → v i = u i) : su n p v = su n q u := ZAY fun i hi => by
  rw [← h i hi]
  by_cases e : p i = true
  · rw [if_pos e, if_pos e, h2 i hi e]
  · rw [if_neg e, if_neg e]
theorem su_le {n : Nat} {p : Nat → Bool} {v u : Nat → Int} (h2 : ∀ i, i < n → p i = true → v i ≤ u i) : su n p v ≤ su n p u := ZGK fun i hi => by
  by_cases e : p i = true
  · rw [if_pos e, if_pos e]; exact h2 i hi e
  · rw [if_neg e, if_neg e]; exact Int.le_refl _
theorem su_nonneg {n : Nat} {p : Nat → Bool} {v : Nat → Int} (h2 : ∀ i, i < n → p i = true → 0 ≤ v i) : 0 ≤ su n p v := ZBg fun i hi => by
  by_cases e : p i = true
  · rw [if_pos e]; exact h2 i hi e
  · rw [if_neg e]; exact Int.le_refl _
theorem su_zero {n : Nat} {p : Nat → Bool} {v : Nat → Int} (h2 : ∀ i, i < n → p i = true → v i = 0) : su n p v = 0 := ZBK fun i hi => by
  by_cases e : p i = true
  · rw [if_pos e]; exact h2 i hi e
  · rw [if_neg e]
/-- Two kinds that exclude each other. -/
theorem su_two {n : Nat} {p q r : Nat → Bool} (v : Nat → Int) (h : ∀ i, i < n → r i = (p i || q i) ∧ (p i && q i) = false) : su n r v = su n p v + su n q v := by
  unfold su
  rw [← ZCE]
  refine ZAY fun i hi => ?_
  obtain ⟨h1, h2⟩ := h i hi
  rw [h1]
  cases hp : p i <;> cases hq : q i <;> simp_all
/-- One index taken out. -/
theorem su_one {n : Nat} {p : Nat → Bool} {v u : Nat → Int} {j : Nat} (hj : j < n) (hp : p j = true) (h : ∀ i, i < n → i ≠ j → p i = true → v i ≤ u i) : su n p v ≤ su n p u + (v j - u j) := by
  unfold su
  have key : ∀ m, m ≤ n → sumN (fun i => if p i then v i else 0) m ≤ sumN (fun i => if p i then u i else 0) m + (if j < m then v j - u j else 0) := by
    intro m
    induction m with
    | zero => intro _; simp [sumN]
    | succ m ih =>
      intro hm
      have h0 := ih (by omega)
      simp only [sumN]
      by_cases e : m = j
      · subst e
        rw [if_pos hp, if_pos hp, if_pos (show m < m + 1 by omega)]
        rw [if_neg (show ¬ m < m by omega)] at h0
        omega
      · have h1 : (if p m = true then v m else 0) ≤ (if p m = true then u m else 0) := by
          by_cases e2 : p m = true
          · rw [if_pos e2, if_pos e2]; exact h m (by omega) e e2
          · rw [if_neg e2, if_neg e2]; exact Int.le_refl _
        by_cases e3 : j < m
        · rw [if_pos (show j < m + 1 by omega)]; rw [if_pos e3] at h0; omega
        · rw [if_neg (show ¬ j < m + 1 by omega)]; rw [if_neg e3] at h0; omega
  have := key n (Nat.le_refl _)
  rw [if_pos hj] at this
  exact this
/-- If the sums are the same and no element is greater, then all are the same. -/
theorem su_eq {n : Nat} {p : Nat → Bool} {v u : Nat → Int} (h : ∀ i, i < n → p i = true → v i ≤ u i) (hs : su n p u ≤ su n p v) : ∀ i, i < n → p i = true → v i = u i := fun i hi hp => by
  have := su_one hi hp (fun k hk _ hpk => h k hk hpk)
  have := h i hi hp
  omega
/-- The division of t is fair among the claims of a kind. -/
structure FO (cs : List Cl) (d : List Int) (p : Nat → Bool) (t : Int) : Prop where
  lo : ∀ i, i < cs.length → p i = true → 0 ≤ dv d i
  hi : ∀ i, i < cs.length → p i = true → dv d i ≤ cv cs i
  sum : su cs.length p (dv d) = min t (su cs.length p (cv cs))
  fair : ∀ i k, i < cs.length → k < cs.length → p i = true → p k = true → dv d k < cv cs k → dv d i ≤ dv d k ∨ (dv d i = dv d k + 1 ∧ i < k)
theorem idx_up (n : Nat) (p : Nat → Bool) : (idx n p).Pairwise (· < ·) := List.pairwise_lt_range.sublist (List.filter_sublist (l := List.range n) (p := p))
theorem idx_lt {n : Nat} {p : Nat → Bool} {a b : Nat} (h : a < b) (hb : b < (idx n p).length) : (idx n p).getD a 0 < (idx n p).getD b 0 := by
  have := (List.pairwise_iff_getElem.1 (idx_up n p)) a b (by omega) hb h
  simpa [List.getD_eq_getElem?_getD, hb, show a < (idx n p).length by omega] using this
theorem idx_pos {n : Nat} {p : Nat → Bool} {i : Nat} (hi : i < n) (hp : p i = true) : ∃ a, a < (idx n p).length ∧ (idx n p).getD a 0 = i := by
  obtain ⟨a, ha, e⟩ := List.getElem_of_mem (ZBh.2 ⟨hi, hp⟩)
  exact ⟨a, ha, by simp [List.getD_eq_getElem?_getD, ha, e]⟩
theorem wants_getD {cs : List Cl} {l : List Nat} {k : Nat} (h : k < l.length) : (wants cs l).getD k 0 = cv cs (l.getD k 0) := by simp [wants, cv, List.getD_eq_getElem?_getD, h]
theorem wants_su (cs : List Cl) (p : Nat → Bool) : sumL (wants cs (idx cs.length p)) = su cs.length p (cv cs) := ZH9 cs p _
theorem sel_su (d : List Int) (n : Nat) (p : Nat → Bool) : sumL (sel d (idx n p)) = su n p (dv d) := by rw [← ZEs, ZCI]; rfl
theorem fo_iff {cs : List Cl} {d : List Int} {p : Nat → Bool} {t : Int} : DF t (wants cs (idx cs.length p)) (sel d (idx cs.length p)) ↔ FO cs d p t := by
  constructor
  · intro h
    refine ⟨fun i hi hp => ?_, fun i hi hp => ?_, ?_, fun i k hi hk hpi hpk hlt => ?_⟩
    · obtain ⟨a, ha, rfl⟩ := idx_pos hi hp
      have := h.lo a (by rw [ZAU]; exact ha)
      rwa [ZAs ha] at this
    · obtain ⟨a, ha, rfl⟩ := idx_pos hi hp
      have := h.hi a (by rw [ZAU]; exact ha)
      rwa [ZAs ha, wants_getD ha] at this
    · have := h.sum
      rwa [sel_su, wants_su] at this
    · obtain ⟨a, ha, rfl⟩ := idx_pos hi hpi
      obtain ⟨b, hb, rfl⟩ := idx_pos hk hpk
      have := h.fair a b (by rw [ZAU]; exact ha) (by rw [ZAU]; exact hb) (by rw [ZAs hb, wants_getD hb]; exact hlt)
      rw [ZAs ha, ZAs hb] at this
      rcases this with h1 | ⟨h1, h2⟩
      · exact .inl h1
      · exact .inr ⟨h1, idx_lt h2 hb⟩
  · intro h
    refine ⟨by rw [ZCF, ZAU], fun a ha => ?_, fun a ha => ?_, by rw [sel_su, wants_su]; exact h.sum, fun a b ha hb hlt => ?_⟩
    · rw [ZAU] at ha
      have := ZCp ha
      rw [ZAs ha]; exact h.lo _ this.1 this.2
    · rw [ZAU] at ha
      have := ZCp ha
      rw [ZAs ha, wants_getD ha]; exact h.hi _ this.1 this.2
    · rw [ZAU] at ha hb
      have h1 := ZCp ha
      have h2 := ZCp hb
      rw [ZAs hb, wants_getD hb] at hlt
      rw [ZAs ha, ZAs hb]
      rcases h.fair _ _ h1.1 h2.1 h1.2 h2.2 hlt with h3 | ⟨h3, h4⟩
      · exact .inl h3
      · refine .inr ⟨h3, ?_⟩
        rcases Nat.lt_or_ge a b with h5 | h5
        · exact h5
        · rcases Nat.lt_or_ge b a with h6 | h6
          · have := idx_lt h6 ha; omega
          · obtain rfl : a = b := by omega
            omega
theorem FO.unique {cs : List Cl} {d e : List Int} {p : Nat → Bool} {t : Int} (h : FO cs d p t) (h2 : FO cs e p t) : ∀ i, i < cs.length → p i = true → dv d i = dv e i := fun i hi hp => by
  have := (fo_iff.2 h).unique (fo_iff.2 h2)
  obtain ⟨a, ha, rfl⟩ := idx_pos hi hp
  have h3 := ZAs (d := d) ha
  rw [this, ZAs ha] at h3
  exact h3.symm
theorem FO.self {cs : List Cl} {d : List Int} {p : Nat → Bool} {t : Int} (h : FO cs d p t) : FO cs d p (su cs.length p (dv d)) := ⟨h.lo, h.hi, by have := h.sum; omega, h.fair⟩
theorem FO.mono {cs : List Cl} {d e : List Int} {p : Nat → Bool} {t u : Int} (h : FO cs d p t) (h2 : FO cs e p u) (hle : su cs.length p (dv d) ≤ su cs.length p (dv e)) : ∀ i, i < cs.length → p i = true → dv d i ≤ dv e i := fun i hi hp => by
  obtain ⟨a, ha, rfl⟩ := idx_pos hi hp
  have h3 := fo_iff.2 h2.self
  have h4 := DF.mono (m := su cs.length p (dv e) - su cs.length p (dv d)) (fo_iff.2 h.self) (by rw [show su cs.length p (dv d) + (su cs.length p (dv e) - su cs.length p (dv d)) = su cs.length p (dv e) by omega]; exact h3) (by omega) a (by rw [ZAU]; exact ha)
  rwa [ZAs ha, ZAs ha] at h4
theorem FO.sub {cs : List Cl} {d : List Int} {p q : Nat → Bool} {t : Int} (h : FO cs d p t) (hq : ∀ i, i < cs.length → q i = true → p i = true) : FO cs d q (su cs.length q (dv d)) :=
  ⟨fun i hi hp => h.lo i hi (hq i hi hp), fun i hi hp => h.hi i hi (hq i hi hp), by have := su_le (n := cs.length) (p := q) (v := dv d) (u := cv cs) (fun i hi hp => h.hi i hi (hq i hi hp)); omega, fun i k hi hk hpi hpk => h.fair i k hi hk (hq i hi hpi) (hq k hk hpk)⟩
theorem FO.congr {cs : List Cl} {d e : List Int} {p : Nat → Bool} {t : Int} (h : FO cs d p t) (he : ∀ i, i < cs.length → p i = true → dv d i = dv e i) : FO cs e p t :=
  ⟨fun i hi hp => by rw [← he i hi hp]; exact h.lo i hi hp, fun i hi hp => by rw [← he i hi hp]; exact h.hi i hi hp, by rw [← su_congr (fun _ _ => rfl) he]; exact h.sum, fun i k hi hk hpi hpk => by rw [← he i hi hpi, ← he k hk hpk]; exact h.fair i k hi hk hpi hpk⟩
end Go.Wf
namespace Go.Wf
open Go.Proofs.Share
set_option linter.unusedVariables false
set_option linter.unusedSimpArgs false

def pU (cs : List Cl) (r : Int) (b : Bool) (i : Nat) : Bool := decide ((cs.getD i default).r ≤ r ∧ (cs.getD i default).f = b)
def pB (cs : List Cl) (r : Int) (b : Bool) (i : Nat) : Bool := decide ((cs.getD i default).r < r ∧ (cs.getD i default).f = b)
theorem ZBn (cs : List Cl) (v : Nat → Int) (r : Int) (b : Bool) : su cs.length (pU cs r b) v = su cs.length (pB cs r b) v + su cs.length (pK cs r b) v := su_two v fun i _ => by
  unfold pU pB pK
  generalize cs.getD i default = c
  by_cases h1 : c.f = b
  · by_cases h2 : c.r < r
    · simp [h1, h2, show c.r ≤ r by omega, show ¬ c.r = r by omega]
    · by_cases h3 : c.r = r
      · simp [h1, h3]
      · simp [h1, h2, h3, show ¬ c.r ≤ r by omega]
  · simp [h1]
theorem ZCj (cs : List Cl) (v : Nat → Int) (r : Int) : su cs.length (pR cs r) v = su cs.length (pK cs r false) v + su cs.length (pK cs r true) v := su_two v fun i _ => by
  unfold pR pK
  generalize cs.getD i default = c
  by_cases h : c.r = r
  · cases hf : c.f <;> simp [h]
  · simp [h]
theorem ZKC (cs : List Cl) (r : Int) (b : Bool) (i : Nat) : pB cs r b i = pU cs (r - 1) b i := by
  unfold pB pU
  generalize cs.getD i default = c
  by_cases h : c.f = b
  · by_cases h2 : c.r < r
    · simp [h, h2, show c.r ≤ r - 1 by omega]
    · simp [h, h2, show ¬ c.r ≤ r - 1 by omega]
  · simp [h]
theorem ZDW (cs : List Cl) (v : Nat → Int) (r : Int) (b : Bool) : su cs.length (pB cs r b) v = su cs.length (pU cs (r - 1) b) v := su_congr (fun i _ => ZKC cs r b i) (fun _ _ _ => rfl)
theorem ZBu (cs : List Cl) (r : Int) (b : Bool) : upC cs r b = su cs.length (pU cs r b) (cv cs) := by
  unfold upC su
  rw [ZEi]
  refine ZAY fun i _ => ?_
  unfold kC pU
  by_cases h : (cs.getD i default).r ≤ r ∧ (cs.getD i default).f = b
  · rw [if_pos h, if_pos (decide_eq_true h)]
  · rw [if_neg h, if_neg (by rw [decide_eq_false h]; simp)]
def reT (A B : Int) (cs : List Cl) (d : List Int) (r : Int) : Int := A + B - (su cs.length (pB cs r false) (dv d) + su cs.length (pB cs r true) (dv d))
def reC (A : Int) (cs : List Cl) (d : List Int) (r : Int) : Int := A - su cs.length (pB cs r false) (dv d)
def Sp (A B : Int) (cs : List Cl) (d : List Int) (r : Int) : Prop :=
  (FO cs d (pR cs r) (reT A B cs d r) ∧ su cs.length (pK cs r false) (dv d) ≤ reC A cs d r) ∨
  (∃ e, FO cs e (pR cs r) (reT A B cs d r) ∧ reC A cs d r < su cs.length (pK cs r false) (dv e) ∧ FO cs d (pK cs r false) (reC A cs d r) ∧ FO cs d (pK cs r true) (reT A B cs d r - reC A cs d r))
theorem ZKD {cs : List Cl} {r : Int} {b : Bool} {i : Nat} (h : pB cs r b i = true) : (cs.getD i default).r < r := (of_decide_eq_true h).1
theorem ZIX {cs : List Cl} {r : Int} {i : Nat} (h : pR cs r i = true) : (cs.getD i default).r = r := of_decide_eq_true h
theorem ZGV {cs : List Cl} {r : Int} {b : Bool} {i : Nat} (h : pK cs r b i = true) : (cs.getD i default).r = r ∧ (cs.getD i default).f = b := of_decide_eq_true h
theorem ZCi {cs : List Cl} {r : Int} {b : Bool} {i : Nat} (h : pK cs r b i = true) : pR cs r i = true := decide_eq_true (ZGV h).1
theorem Sp.congr {A B : Int} {cs : List Cl} {d d' : List Int} {r : Int} (h : Sp A B cs d r) (he : ∀ i, i < cs.length → (cs.getD i default).r ≤ r → dv d i = dv d' i) : Sp A B cs d' r := by
  have e1 : ∀ b, su cs.length (pB cs r b) (dv d) = su cs.length (pB cs r b) (dv d') := fun b => su_congr (fun _ _ => rfl) fun i hi hp => he i hi (by have := ZKD hp; omega)
  have e2 : ∀ b, su cs.length (pK cs r b) (dv d) = su cs.length (pK cs r b) (dv d') := fun b => su_congr (fun _ _ => rfl) fun i hi hp => he i hi (by have := (ZGV hp).1; omega)
  have e3 : reT A B cs d' r = reT A B cs d r := by unfold reT; rw [e1, e1]
  have e4 : reC A cs d' r = reC A cs d r := by unfold reC; rw [e1]
  unfold Sp
  rw [e3, e4, ← e2]
  rcases h with ⟨h1, h2⟩ | ⟨e, h1, h2, h3, h4⟩
  · exact .inl ⟨h1.congr fun i hi hp => he i hi (by have := ZIX hp; omega), h2⟩
  · exact .inr ⟨e, h1, h2, h3.congr fun i hi hp => he i hi (by have := (ZGV hp).1; omega), h4.congr fun i hi hp => he i hi (by have := (ZGV hp).1; omega)⟩

structure InvR (ps : List Po) (cs : List Cl) (k : Nat) (s : Dv) : Prop where
  zero : ∀ i, i < cs.length → (cs.getD i default).r ∉ (rkF cs).take k → dv s.d i = 0
  g : s.g = sumN (fun i => if (cs.getD i default).f = false then dv s.d i else 0) cs.length
  a : s.a = sumN (fun i => dv s.d i) cs.length
  sp : ∀ r ∈ (rkF cs).take k, Sp (sumP ps false) (sumP ps true) cs s.d r
theorem rk_lt {cs : List Cl} {k : Nat} (h : k < (rkF cs).length) {r : Int} (hr : r ∈ (rkF cs).take k) : r < (rkF cs).getD k 0 := by
  obtain ⟨j, hj, rfl⟩ := List.getElem_of_mem hr
  rw [List.length_take] at hj
  have := (List.pairwise_iff_getElem.1 (ZEk cs cs.length)) j k (by unfold rkF at h; omega) h (by omega)
  simp only [List.getElem_take]
  have e : (rkF cs).getD k 0 = (rkF cs)[k] := by simp [List.getD_eq_getElem?_getD, h]
  rw [e]; exact this
theorem ZDX {cs : List Cl} {r : Int} : r ∈ rkF cs ↔ ∃ i, i < cs.length ∧ (cs.getD i default).r = r := ZCq
theorem InvR.all {ps : List Po} {cs : List Cl} (hp : vP ps) (hv : vC cs) : ∀ k, k ≤ (rkF cs).length → InvR ps cs k (divS ps cs ((rkF cs).take k))
  | 0, _ => by
    have z : ∀ i, i < cs.length → dv (List.replicate cs.length (0 : Int)) i = 0 := fun i hi => by simp [dv, List.getD_eq_getElem?_getD, hi]
    refine ⟨fun i hi _ => by simpa [divS] using z i hi, ?_, ?_, fun r hr => by simp at hr⟩
    · simp only [divS, List.take_zero, List.foldl_nil]
      exact (ZBK fun i hi => by rw [z i hi]; simp).symm
    · simp only [divS, List.take_zero, List.foldl_nil]
      exact (ZBK fun i hi => z i hi).symm
  | k + 1, hk => by
    have ih := InvR.all hp hv k (by omega)
    have hi := InvD.all hp hv (rkF cs) k (by omega)
    rw [ZDG ps cs (rkF cs) k (by omega)]
    generalize divS ps cs ((rkF cs).take k) = s at *
    have hkl : k < (rkF cs).length := by omega
    have hmt : ∀ r, r ∈ (rkF cs).take (k + 1) ↔ r ∈ (rkF cs).take k ∨ r = (rkF cs).getD k 0 := fun r => by
      have e : (rkF cs).getD k 0 = (rkF cs)[k] := by simp [List.getD_eq_getElem?_getD, hkl]
      rw [List.take_succ_eq_append_getElem hkl, e, List.mem_append, List.mem_singleton]
    have hlt := fun {r} (hr : r ∈ (rkF cs).take k) => rk_lt hkl hr
    generalize (rkF cs).getD k 0 = r at *
    have off : ∀ i, pR cs r i = false → dv (st2 ps cs r s) i = dv s.d i := fun i h => by
      have n0 : i ∉ memb cs r := fun h2 => by have := (ZBh.1 h2).2; rw [h] at this; cases this
      have n1 : ∀ b, i ∉ membK cs r b := fun b h2 => n0 (ZBh.2 ⟨(ZBh.1 h2).1, ZCi (ZBh.1 h2).2⟩)
      have e1 : dv (st1 ps cs r s) i = dv s.d i := by unfold st1; exact ZB1 n0
      unfold st2
      split
      · unfold dv; rw [ZB1 (n1 _), ZB1 (n1 _)]; exact e1
      · exact e1
    have zr : ∀ i, i < cs.length → r ≤ (cs.getD i default).r → dv s.d i = 0 := fun i hi2 h => ih.zero i hi2 fun h2 => by have := hlt h2; omega
    have nR : ∀ i, (cs.getD i default).r ≠ r → pR cs r i = false := fun i h => decide_eq_false h
    have eB : ∀ b, su cs.length (pB cs r b) (dv (st2 ps cs r s)) = sumN (fun i => if (cs.getD i default).f = b then dv s.d i else 0) cs.length := fun b => by
      unfold su
      refine ZAY fun i hi2 => ?_
      unfold pB
      by_cases h1 : (cs.getD i default).r < r
      · rw [off i (nR i (by omega))]
        by_cases h2 : (cs.getD i default).f = b
        · rw [if_pos (decide_eq_true ⟨h1, h2⟩), if_pos h2]
        · rw [if_neg h2, if_neg (by rw [decide_eq_false (fun h => h2 h.2)]; simp)]
      · rw [if_neg (by rw [decide_eq_false (fun h => h1 h.1)]; simp), zr i hi2 (by omega)]; simp
    have eA : su cs.length (pB cs r false) (dv (st2 ps cs r s)) + su cs.length (pB cs r true) (dv (st2 ps cs r s)) = s.a := by
      rw [eB, eB, ih.a, ← ZCE]
      refine ZAY fun i _ => ?_
      cases (cs.getD i default).f <;> simp
    have eG : su cs.length (pB cs r false) (dv (st2 ps cs r s)) = s.g := by rw [eB, ih.g]
    have selS : ∀ (d : List Int) (p : Nat → Bool), sumI (sel d (idx cs.length p)) = su cs.length p (dv d) := fun d p => by rw [ZEs, sel_su]
    refine ⟨fun i hi2 h => ?_, ?_, ?_, fun r' hr' => ?_⟩
    · rw [hmt] at h
      have hn : (cs.getD i default).r ≠ r := fun h2 => h (.inr h2)
      exact (off i (nR i hn)).trans (ih.zero i hi2 fun h2 => h (.inl h2))
    · simp only [stepD]
      rw [ih.g, show membK cs r false = idx cs.length (pK cs r false) from rfl, selS]
      unfold su
      rw [← ZCE]
      refine ZAY fun i hi2 => ?_
      by_cases h1 : (cs.getD i default).r = r
      · rw [zr i hi2 (by omega)]
        by_cases h2 : (cs.getD i default).f = false
        · rw [if_pos h2, if_pos h2, if_pos (show pK cs r false i = true from decide_eq_true ⟨h1, h2⟩)]; omega
        · rw [if_neg h2, if_neg h2, if_neg (by unfold pK; rw [decide_eq_false (fun h => h2 h.2)]; simp)]; omega
      · rw [off i (nR i h1), if_neg (show ¬ pK cs r false i = true by unfold pK; rw [decide_eq_false (fun h => h1 h.1)]; simp)]; omega
    · simp only [stepD]
      rw [ih.a, show memb cs r = idx cs.length (pR cs r) from rfl, selS]
      unfold su
      rw [← ZCE]
      refine ZAY fun i hi2 => ?_
      by_cases h1 : (cs.getD i default).r = r
      · rw [zr i hi2 (by omega), if_pos (show pR cs r i = true from decide_eq_true h1)]; omega
      · rw [off i (nR i h1), nR i h1]; simp
    · rcases (hmt r').1 hr' with h | h
      · have hr'' := hlt h
        refine (ih.sp r' h).congr fun i hi2 h2 => ?_
        exact (off i (nR i (by omega))).symm
      · subst h
        have eT : reT (sumP ps false) (sumP ps true) cs (st2 ps cs r' s) r' = sumP ps false + sumP ps true - s.a := by unfold reT; rw [eA]
        have eC : reC (sumP ps false) cs (st2 ps cs r' s) r' = sumP ps false - s.g := by unfold reC; rw [eG]
        show Sp _ _ cs (st2 ps cs r' s) r'
        unfold Sp
        rw [eT, eC]
        have f1 : FO cs (st1 ps cs r' s) (pR cs r') (sumP ps false + sumP ps true - s.a) := fo_iff.1 (by
          have := ZEt hp hv hi r'
          rw [← ZIC hp hv hi r'] at this
          exact this)
        have e1 := selS (st1 ps cs r' s) (pK cs r' false)
        by_cases h : sumP ps false - s.g < sumI (sel (st1 ps cs r' s) (membK cs r' false))
        · refine .inr ⟨st1 ps cs r' s, f1, by rw [← e1]; exact h, fo_iff.1 ?_, fo_iff.1 ?_⟩
          · have := ZDQ hp hv hi r'
            rw [← ZGy hp hv hi r' h] at this
            exact this
          · have := ZDR hp hv hi r' h
            rw [← ZGz hp hv hi r' h] at this
            exact this
        · have e : st2 ps cs r' s = st1 ps cs r' s := by unfold st2; rw [if_neg h]
          rw [e]
          refine .inl ⟨f1, ?_⟩
          rw [← e1]
          exact Int.not_lt.1 h
theorem ZFa {ps : List Po} {cs : List Cl} (hp : vP ps) (hv : vC cs) : ∀ r ∈ rkF cs, Sp (sumP ps false) (sumP ps true) cs (divF ps cs) r := fun r hr => by
  have := (InvR.all hp hv (rkF cs).length (Nat.le_refl _)).sp r
  rw [List.take_length] at this
  exact this hr
theorem ZDI {ps : List Po} {cs : List Cl} (hp : vP ps) (hv : vC cs) : (divF ps cs).length = cs.length := by
  have hd := InvD.all hp hv (rkF cs) (rkF cs).length (Nat.le_refl _)
  rw [List.take_length] at hd
  exact hd.len
theorem ZKE {ps : List Po} {cs : List Cl} (hp : vP ps) (hv : vC cs) : bd maxC (divF ps cs) := by
  have hd := InvD.all hp hv (rkF cs) (rkF cs).length (Nat.le_refl _)
  rw [List.take_length] at hd
  exact hd.bd
theorem Sp.le {A B : Int} {cs : List Cl} {d : List Int} {r : Int} (h : Sp A B cs d r) : ∀ i, i < cs.length → (cs.getD i default).r = r → 0 ≤ dv d i ∧ dv d i ≤ cv cs i := fun i hi e => by
  rcases h with ⟨h1, _⟩ | ⟨_, _, _, h3, h4⟩
  · exact ⟨h1.lo i hi (decide_eq_true e), h1.hi i hi (decide_eq_true e)⟩
  · cases hf : (cs.getD i default).f
    · exact ⟨h3.lo i hi (decide_eq_true ⟨e, hf⟩), h3.hi i hi (decide_eq_true ⟨e, hf⟩)⟩
    · exact ⟨h4.lo i hi (decide_eq_true ⟨e, hf⟩), h4.hi i hi (decide_eq_true ⟨e, hf⟩)⟩
theorem sp_le {A B : Int} {cs : List Cl} {d : List Int} (h : ∀ r ∈ rkF cs, Sp A B cs d r) : ∀ i, i < cs.length → 0 ≤ dv d i ∧ dv d i ≤ cv cs i := fun i hi => (h _ (ZDX.2 ⟨i, hi, rfl⟩)).le i hi rfl

structure Pre (A B : Int) (cs : List Cl) (d : List Int) (r : Int) : Prop where
  all : su cs.length (pU cs r false) (dv d) + su cs.length (pU cs r true) (dv d) = min (A + B) (min (upC cs r false) A + upC cs r true)
  pl : su cs.length (pU cs r false) (dv d) ≤ A
theorem ZIY {A B : Int} {cs : List Cl} {d : List Int} (hA : 0 ≤ A) (hB : 0 ≤ B) (hv : vC cs) (h : ∀ r ∈ rkF cs, Sp A B cs d r) (r : Int) : Pre A B cs d r := by
  have hle := sp_le h
  have z : ∀ r : Int, r < 0 → Pre A B cs d r := fun r hr => by
    have n : ∀ b i, i < cs.length → pU cs r b i = true → False := fun b i hi hp => by
      have h1 := (of_decide_eq_true hp : _ ∧ _).1
      have h2 := (hv.2 _ (ZAc hi)).1.1.1
      omega
    have e1 : ∀ b v, su cs.length (pU cs r b) v = 0 := fun b v => su_zero fun i hi hp => (n b i hi hp).elim
    refine ⟨?_, ?_⟩
    · rw [ZBu, ZBu, e1, e1, e1, e1]; omega
    · rw [e1]; exact hA
  have key : ∀ m : Nat, Pre A B cs d ((m : Int) - 1) := by
    intro m
    induction m with
    | zero => exact z _ (by omega)
    | succ m ih =>
      have er : ((m + 1 : Nat) : Int) - 1 = (m : Int) := by omega
      rw [er]
      have i1 := ih.all
      have i2 := ih.pl
      have s1 := ZBn cs (dv d) m false
      have s2 := ZBn cs (dv d) m true
      have s3 := ZBn cs (cv cs) m false
      have s4 := ZBn cs (cv cs) m true
      rw [ZDW] at s1 s2 s3 s4
      rw [ZBu, ZBu] at i1
      have l1 := su_le (n := cs.length) (p := pU cs ((m : Int) - 1) false) (fun i hi _ => (hle i hi).2)
      have l2 := su_le (n := cs.length) (p := pU cs ((m : Int) - 1) true) (fun i hi _ => (hle i hi).2)
      have l3 := su_le (n := cs.length) (p := pK cs m false) (fun i hi _ => (hle i hi).2)
      have l4 := su_le (n := cs.length) (p := pK cs m true) (fun i hi _ => (hle i hi).2)
      have l5 := su_nonneg (n := cs.length) (p := pK cs m false) (fun i hi _ => (hle i hi).1)
      have l6 := su_nonneg (n := cs.length) (p := pK cs m true) (fun i hi _ => (hle i hi).1)
      by_cases hm : (m : Int) ∈ rkF cs
      · have hs := h _ hm
        unfold Sp reT reC at hs
        rw [ZDW, ZDW] at hs
        rcases hs with ⟨h1, h2⟩ | ⟨e, h1, h2, h3, h4⟩
        · have h5 := h1.sum
          rw [ZCj, ZCj] at h5
          refine ⟨?_, by omega⟩
          rw [ZBu, ZBu]; omega
        · have h5 := h3.sum
          have h6 := h4.sum
          have h7 := su_le (n := cs.length) (p := pK cs m false) (v := dv e) (u := cv cs) (fun i hi hp => h1.hi i hi (ZCi hp))
          refine ⟨?_, by omega⟩
          rw [ZBu, ZBu]
          have h8 := h1.sum
          rw [ZCj, ZCj] at h8
          have h9 := su_nonneg (n := cs.length) (p := pK cs m true) (v := dv e) (fun i hi hp => h1.lo i hi (ZCi hp))
          omega
      · have n : ∀ b i, i < cs.length → pK cs m b i = true → False := fun b i hi hp => hm (ZDX.2 ⟨i, hi, (ZGV hp).1⟩)
        have e1 : ∀ b v, su cs.length (pK cs m b) v = 0 := fun b v => su_zero fun i hi hp => (n b i hi hp).elim
        rw [e1] at s1 s2 s3 s4
        refine ⟨?_, by omega⟩
        rw [ZBu, ZBu]; omega
  by_cases hr : r < 0
  · exact z r hr
  · have := key (r.toNat + 1)
    rwa [show ((r.toNat + 1 : Nat) : Int) - 1 = r by omega] at this
end Go.Wf
