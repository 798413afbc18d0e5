/- Part of a proof about the given program: contracts of its functions (see the comment of the last text). -/
import Derived.Test.YthgjjhddbigfcaaPl2
set_option linter.unusedSimpArgs false
set_option linter.unusedVariables false
namespace Go.Wf
open Go.Proofs.Share
set_option linter.unusedVariables false
set_option linter.unusedSimpArgs false

abbrev at2 (fr : List (List Int)) (i k : Nat) : Int := (fr.getD i []).getD k 0
def rowS (fr : List (List Int)) (m i : Nat) : Int := sumN (fun k => at2 fr i k) m
def colS (fr : List (List Int)) (c k : Nat) : Int := sumN (fun i => at2 fr i k) c
theorem ZCh {v u : Nat → Int} {j : Nat} : ∀ {n : Nat}, j < n → (∀ i, i < n → i ≠ j → v i = u i) → sumN v n = sumN u n + (v j - u j)
  | n + 1, hj, h => by
    simp only [sumN]
    by_cases e : n = j
    · subst e
      rw [ZAY (n := n) (fun i hi => h i (by omega) (by omega))]; omega
    · rw [ZCh (n := n) (by omega) (fun i hi hn => h i (by omega) hn), h n (by omega) e]; omega
theorem ZF8 (g : Nat → Nat → Int) (m : Nat) : ∀ n, sumN (fun i => sumN (fun k => g i k) m) n = sumN (fun k => sumN (fun i => g i k) n) m
  | 0 => (ZBK fun _ _ => rfl).symm
  | n + 1 => by
    simp only [sumN]
    rw [ZF8 g m n, ← ZCE]
abbrev pf (ps : List Po) (b : Bool) (k : Nat) : Bool := (ps.getD k default).f == b
abbrev cf (cs : List Cl) (b : Bool) (i : Nat) : Bool := (cs.getD i default).f == b

theorem pf_eq {ps : List Po} {b : Bool} {k : Nat} (h : (ps.getD k default).f = b) : pf ps b k = true := by unfold pf; rw [h]; exact beq_self_eq_true b
theorem pf_ne {ps : List Po} {b : Bool} {k : Nat} (h : (ps.getD k default).f = !b) : pf ps b k = false := by unfold pf; rw [h]; cases b <;> rfl
theorem cf_eq {cs : List Cl} {b : Bool} {k : Nat} (h : (cs.getD k default).f = b) : cf cs b k = true := by unfold cf; rw [h]; exact beq_self_eq_true b
theorem cf_ne {cs : List Cl} {b : Bool} {k : Nat} (h : (cs.getD k default).f = !b) : cf cs b k = false := by unfold cf; rw [h]; cases b <;> rfl
structure SK (ps : List Po) (b : Bool) (m : Nat) (s0 s : Sr) (j : Nat) : Prop where
  sum : s.n + sumN (fun k => s.w.getD k 0) m = s0.n + sumN (fun k => s0.w.getD k 0) m
  lw : ∀ k, k < m → s.l.getD k 0 + s.w.getD k 0 = s0.l.getD k 0 + s0.w.getD k 0
  oth : ∀ k, k < m → pf ps b k = false → s.l.getD k 0 = s0.l.getD k 0
  nb : s.n - su m (pf ps b) (dv s.l) = s0.n - su m (pf ps b) (dv s0.l)
  nle : s.n ≤ s0.n
  gr : ∀ k, k < j → pf ps b k = true → s.n = 0 ∨ s.l.getD k 0 = 0
theorem SK.step {ps : List Po} {b : Bool} {m : Nat} {s0 s : Sr} {j : Nat} (h : SK ps b m s0 s j) (hi : InvS m s) (hj : j < m) : SK ps b m s0 (srS ps b s j) (j + 1) := by
  unfold srS
  split
  · rename_i hf
    have hl : j < s.l.length := by rw [hi.ll]; exact hj
    have hw : j < s.w.length := by rw [hi.wl]; exact hj
    have l0 := hi.l0 j hj
    have n0 := hi.n0
    have pj : pf ps b j = true := pf_eq hf
    refine ⟨?_, fun k hk => ?_, fun k hk hp => ?_, ?_, ?_, fun k hk hp => ?_⟩
    · simp only
      have := ZCh (v := fun k => (s.w.set j (s.w.getD j 0 + min s.n (s.l.getD j 0))).getD k 0) (u := fun k => s.w.getD k 0) hj (fun i hi2 hn => ZAX _ (Ne.symm hn))
      simp only [ZAd _ hw] at this
      have := h.sum
      omega
    · by_cases e : j = k
      · subst e
        simp only [ZAd _ hl, ZAd _ hw]
        have := h.lw j hk
        omega
      · simp only [ZAX _ e]; exact h.lw k hk
    · have e : j ≠ k := fun e => by subst e; rw [pj] at hp; cases hp
      simp only [ZAX _ e]; exact h.oth k hk hp
    · simp only
      have h1 := ZCh (v := fun k => if pf ps b k then dv (s.l.set j (s.l.getD j 0 - min s.n (s.l.getD j 0))) k else 0) (u := fun k => if pf ps b k then dv s.l k else 0) hj (fun i hi2 hn => by simp only [dv, ZAX _ (Ne.symm hn)])
      simp only [dv, pj, if_true, ZAd _ hl] at h1
      have h2 := h.nb
      unfold su dv at *
      omega
    · have := h.nle; simp only; omega
    · simp only
      by_cases e : j = k
      · subst e
        rw [ZAd _ hl]; omega
      · rw [ZAX _ e]
        rcases h.gr k (by omega) hp with h1 | h1
        · exact .inl (by omega)
        · exact .inr h1
  · rename_i hf
    refine ⟨h.sum, h.lw, h.oth, h.nb, h.nle, fun k hk hp => ?_⟩
    by_cases e : k = j
    · subst e; exact absurd (by simpa [pf] using hp) hf
    · exact h.gr k (by omega) hp
theorem SK.all {ps : List Po} {b : Bool} {m : Nat} {s0 : Sr} (hi : InvS m s0) : ∀ k, k ≤ m → SK ps b m s0 (srF ps b s0 k) k
  | 0, _ => ⟨rfl, fun _ _ => rfl, fun _ _ _ => rfl, rfl, Int.le_refl _, fun k hk => by omega⟩
  | k + 1, hk => (SK.all hi k (by omega)).step (InvS.all hi ps b k (by omega)) (by omega)

structure TK (ps : List Po) (cs : List Cl) (a b : Bool) (s0 s : Ta) (j : Nat) : Prop where
  row : ∀ i, i < cs.length → s.n.getD i 0 + rowS s.fr ps.length i = s0.n.getD i 0 + rowS s0.fr ps.length i
  col : ∀ k, k < ps.length → s.l.getD k 0 + colS s.fr cs.length k = s0.l.getD k 0 + colS s0.fr cs.length k
  oth : ∀ i k, i < cs.length → k < ps.length → (cf cs a i = false ∨ pf ps b k = false) → at2 s.fr i k = at2 s0.fr i k
  on : ∀ i, i < cs.length → cf cs a i = false → s.n.getD i 0 = s0.n.getD i 0
  ol : ∀ k, k < ps.length → pf ps b k = false → s.l.getD k 0 = s0.l.getD k 0
  nb : su cs.length (cf cs a) (dv s.n) - su ps.length (pf ps b) (dv s.l) = su cs.length (cf cs a) (dv s0.n) - su ps.length (pf ps b) (dv s0.l)
  nle : ∀ i, i < cs.length → s.n.getD i 0 ≤ s0.n.getD i 0
  gr : ∀ i, i < j → cf cs a i = true → s.n.getD i 0 = 0 ∨ ∀ k, k < ps.length → pf ps b k = true → s.l.getD k 0 = 0
theorem TK.step {ps : List Po} {cs : List Cl} {a b : Bool} {s0 s : Ta} {j : Nat} (h : TK ps cs a b s0 s j) (hi : InvT ps.length cs.length s) (hj : j < cs.length) : TK ps cs a b s0 (taS ps cs a b s j) (j + 1) := by
  unfold taS
  split
  · rename_i hf
    have hr := hi.row hj
    have hs := SK.all (ps := ps) (b := b) hr ps.length (Nat.le_refl _)
    have hI := InvS.all hr ps b ps.length (Nat.le_refl _)
    have hle := ZIM hr ps b ps.length (Nat.le_refl _)
    generalize srF ps b ⟨s.n.getD j 0, s.l, s.fr.getD j []⟩ ps.length = r at *
    have b1 : j < s.n.length := by rw [hi.nl]; exact hj
    have b2 : j < s.fr.length := by rw [hi.fl]; exact hj
    have cj : cf cs a j = true := cf_eq hf
    have aj : ∀ k, at2 (s.fr.set j r.w) j k = r.w.getD k 0 := fun k => by simp only [at2, ZDm _ b2]
    have ao : ∀ i k, i ≠ j → at2 (s.fr.set j r.w) i k = at2 s.fr i k := fun i k e => by simp only [at2, ZCx _ (Ne.symm e)]
    refine ⟨fun i hi2 => ?_, fun k hk => ?_, fun i k hi2 hk hp => ?_, fun i hi2 hp => ?_, fun k hk hp => ?_, ?_, fun i hi2 => ?_, fun i hi2 hp => ?_⟩
    · by_cases e : i = j
      · subst e
        have h1 := h.row i hj
        have h2 := hs.sum
        have e3 : rowS (s.fr.set i r.w) ps.length i = sumN (fun k => r.w.getD k 0) ps.length := ZAY fun k _ => aj k
        simp only [ZAd _ b1, e3]
        unfold rowS at h1 ⊢
        simp only [at2] at h1 ⊢
        simp only at h2
        omega
      · have e3 : rowS (s.fr.set j r.w) ps.length i = rowS s.fr ps.length i := ZAY fun k _ => ao i k e
        simp only [ZAX _ (Ne.symm e), e3]; exact h.row i hi2
    · simp only
      have h1 := ZCh (v := fun i => at2 (s.fr.set j r.w) i k) (u := fun i => at2 s.fr i k) hj (fun i _ hn => ao i k hn)
      simp only [aj] at h1
      have h2 := h.col k hk
      have h3 := hs.lw k hk
      unfold colS at *
      simp only at h3
      simp only [at2] at h1 h2 ⊢
      omega
    · simp only
      by_cases e : i = j
      · subst e
        rw [aj]
        rcases hp with hp | hp
        · rw [cj] at hp; cases hp
        · have h1 := hs.oth k hk hp
          have h2 := hs.lw k hk
          have h3 := h.oth i k hi2 hk (.inr hp)
          simp only [at2] at h3 ⊢
          simp only at h1 h2
          omega
      · rw [ao i k e]; exact h.oth i k hi2 hk hp
    · have e : j ≠ i := fun e => by subst e; rw [cj] at hp; cases hp
      simp only [ZAX _ e]; exact h.on i hi2 hp
    · simp only
      rw [hs.oth k hk hp]; exact h.ol k hk hp
    · simp only
      have h1 := ZCh (v := fun i => if cf cs a i then dv (s.n.set j r.n) i else 0) (u := fun i => if cf cs a i then dv s.n i else 0) hj (fun i hi2 hn => by simp only [dv, ZAX _ (Ne.symm hn)])
      simp only [dv, cj, if_true, ZAd _ b1] at h1
      have h2 := h.nb
      have h3 := hs.nb
      unfold su dv at *
      simp only at h3
      omega
    · by_cases e : j = i
      · subst e
        simp only [ZAd _ b1]
        have h1 := hs.nle
        have h2 := h.nle j hj
        simp only at h1
        omega
      · simp only [ZAX _ e]; exact h.nle i hi2
    · by_cases e : j = i
      · subst e
        simp only [ZAd _ b1]
        by_cases z : r.n = 0
        · exact .inl z
        · exact .inr fun k hk hp2 => (hs.gr k hk hp2).resolve_left z
      · simp only [ZAX _ e]
        rcases h.gr i (by omega) hp with h1 | h1
        · exact .inl h1
        · refine .inr fun k hk hp2 => ?_
          have h2 := hle k hk
          have h3 := h1 k hk hp2
          have h4 := hI.l0 k hk
          simp only at h2
          omega
  · rename_i hf
    refine ⟨h.row, h.col, h.oth, h.on, h.ol, h.nb, h.nle, fun i hi2 hp => ?_⟩
    by_cases e : i = j
    · subst e; exact absurd (by simpa [cf] using hp) hf
    · exact h.gr i (by omega) hp
theorem TK.all {ps : List Po} {cs : List Cl} {a b : Bool} {s0 : Ta} (hi : InvT ps.length cs.length s0) : ∀ k, k ≤ cs.length → TK ps cs a b s0 (taF ps cs a b s0 k) k
  | 0, _ => ⟨fun _ _ => rfl, fun _ _ => rfl, fun _ _ _ _ _ => rfl, fun _ _ _ => rfl, fun _ _ _ => rfl, rfl, fun _ _ => Int.le_refl _, fun i hi => by omega⟩
  | k + 1, hk => (TK.all hi k (by omega)).step (InvT.all hi rfl cs a b k (by omega)) (by omega)
theorem TK.empty {ps : List Po} {cs : List Cl} {a b : Bool} {s0 s : Ta} (h : TK ps cs a b s0 s cs.length) (hi : InvT ps.length cs.length s) : su cs.length (cf cs a) (dv s.n) = 0 ∨ su ps.length (pf ps b) (dv s.l) = 0 := by
  by_cases e : su ps.length (pf ps b) (dv s.l) = 0
  · exact .inr e
  · refine .inl (su_zero fun i hi2 hp => ?_)
    rcases h.gr i hi2 hp with h1 | h1
    · exact h1
    · exact absurd (su_zero fun k hk hp2 => h1 k hk hp2) e

def rowOk (ps : List Po) (cs : List Cl) (c : List Int) (fr : List (List Int)) (i : Nat) : Prop :=
  ((fr.getD i []).length = ps.length ∧ dv c i ≤ cv cs i) ∧ (∀ k, k < ps.length → 0 ≤ at2 fr i k ∧ at2 fr i k ≤ (ps.getD k default).c ∧ ¬ (0 < at2 fr i k ∧ (ps.getD k default).f = true ∧ (cs.getD i default).f = false)) ∧ rowS fr ps.length i = dv c i
def fea (ps : List Po) (cs : List Cl) (c : List Int) (fr : List (List Int)) : Prop :=
  (c.length = cs.length ∧ fr.length = cs.length) ∧ (∀ i, i < cs.length → rowOk ps cs c fr i) ∧ ∀ k, k < ps.length → colS fr cs.length k ≤ (ps.getD k default).c
instance (ps : List Po) (cs : List Cl) (c : List Int) (fr : List (List Int)) (i : Nat) : Decidable (rowOk ps cs c fr i) := by unfold rowOk; exact inferInstance
instance (ps : List Po) (cs : List Cl) (c : List Int) (fr : List (List Int)) : Decidable (fea ps cs c fr) := by unfold fea; exact inferInstance
theorem ZJf {fr : List (List Int)} {c i k : Nat} (hi : i < c) (h : ∀ i, i < c → 0 ≤ at2 fr i k) : at2 fr i k ≤ colS fr c k := by
  have h1 := ZCh (v := fun j => at2 fr j k) (u := fun j => if j = i then 0 else at2 fr j k) hi (fun j _ hn => by rw [if_neg hn])
  have h2 : 0 ≤ sumN (fun j => if j = i then 0 else at2 fr j k) c := ZBg fun j hj => by
    split
    · exact Int.le_refl _
    · exact h j hj
  unfold colS
  simp only [if_true] at h1
  omega
theorem ZFb (ps : List Po) (b : Bool) : sumP ps b = su ps.length (pf ps b) (fun k => (ps.getD k default).c) := by
  unfold sumP su
  rw [ZEi]
  refine ZAY fun k _ => ?_
  unfold kP pf
  by_cases h : (ps.getD k default).f = b
  · rw [if_pos h, if_pos (by rw [h]; simp)]
  · rw [if_neg h, if_neg (by simpa using h)]
theorem ZIZ {cs : List Cl} (hv : vC cs) (b : Bool) (v : Nat → Int) : su cs.length (pU cs 1000000 b) v = su cs.length (cf cs b) v := su_congr (fun i hi => by
  have := (hv.2 _ (ZAc hi)).1.1.2
  unfold pU cf
  by_cases h : (cs.getD i default).f = b
  · rw [decide_eq_true ⟨this, h⟩, h]; simp
  · rw [decide_eq_false (fun h2 => h h2.2)]; simpa using h) (fun _ _ _ => rfl)
theorem ZJQ {ps : List Po} {cs : List Cl} (hp : vP ps) (hv : vC cs) (r : Int) : Pre (sumP ps false) (sumP ps true) cs (divF ps cs) r := ZIY (ZAW hp false).1 (ZAW hp true).1 hv (ZFa hp hv) r
theorem ZIa {ps : List Po} {cs : List Cl} (hp : vP ps) (hv : vC cs) : fea ps cs (divF ps cs) (ta3 ps cs).fr := by
  have i0 := ZFV hp hv
  have i1 := ZEG hp hv
  have i2 := ZFW hp hv
  have i3 := ZCy hp hv
  have k1 : TK ps cs true true (ta0 ps cs) (ta1 ps cs) cs.length := TK.all i0 _ (Nat.le_refl _)
  have k2 : TK ps cs true false (ta1 ps cs) (ta2 ps cs) cs.length := TK.all i1 _ (Nat.le_refl _)
  have k3 : TK ps cs false false (ta2 ps cs) (ta3 ps cs) cs.length := TK.all i2 _ (Nat.le_refl _)
  have z0 : ∀ i k, i < cs.length → k < ps.length → at2 (ta0 ps cs).fr i k = 0 := fun i k hi hk => by
    simp [at2, ta0, List.getD_eq_getElem?_getD, hi, hk]
  have pre := ZJQ hp hv 1000000
  have p1 := pre.all
  have p2 := pre.pl
  rw [ZIZ hv, ZIZ hv] at p1
  rw [ZIZ hv] at p2
  have len := ZDI hp hv
  have nn : ∀ (a : Bool) (s : Ta), InvT ps.length cs.length s → 0 ≤ su cs.length (cf cs a) (dv s.n) := fun a s hs => su_nonneg fun i hi _ => hs.n0 i hi
  have ln : ∀ (b : Bool) (s : Ta), InvT ps.length cs.length s → 0 ≤ su ps.length (pf ps b) (dv s.l) := fun b s hs => su_nonneg fun k hk _ => hs.l0 k hk
  have on : ∀ {a b : Bool} {s0 s : Ta}, TK ps cs a b s0 s cs.length → su cs.length (cf cs (!a)) (dv s.n) = su cs.length (cf cs (!a)) (dv s0.n) := fun {a b s0 s} h => su_congr (fun _ _ => rfl) fun i hi hq => h.on i hi (by
    simp only [cf] at hq ⊢; cases a <;> simp_all)
  have ol : ∀ {a b : Bool} {s0 s : Ta}, TK ps cs a b s0 s cs.length → su ps.length (pf ps (!b)) (dv s.l) = su ps.length (pf ps (!b)) (dv s0.l) := fun {a b s0 s} h => su_congr (fun _ _ => rfl) fun i hi hq => h.ol i hi (by
    simp only [pf] at hq ⊢; cases b <;> simp_all)
  have l0 : ∀ b, su ps.length (pf ps b) (dv (ta0 ps cs).l) = sumP ps b := fun b => by
    rw [ZFb]
    exact su_congr (fun _ _ => rfl) fun k hk _ => ZFU ps hk
  have e1 := k1.nb; have e2 := k2.nb; have e3 := k3.nb
  have g1 := k1.empty i1; have g2 := k2.empty i2; have g3 := k3.empty i3
  have o1 := on k1; have o2 := on k2; have o3 := on k3
  have q1 := ol k1; have q2 := ol k2; have q3 := ol k3
  have le2 := su_le (n := cs.length) (p := cf cs true) (fun i hi _ => k2.nle i hi)
  simp only [Bool.not_true, Bool.not_false] at o1 o2 o3 q1 q2 q3
  rw [l0] at e1 q1
  have d0 : ∀ b, su cs.length (cf cs b) (dv (ta0 ps cs).n) = su cs.length (cf cs b) (dv (divF ps cs)) := fun b => rfl
  have a0 := nn false _ i0; rw [d0] at a0
  have a1 := nn true _ i1; have a2 := nn true _ i2; have a3 := nn false _ i3
  have b1 := ln true _ i1; have b2 := ln false _ i2; have b3 := ln false _ i3
  rw [d0] at e1 o1
  have bp := ZAW hp false
  have bq := ZAW hp true
  unfold dv at *
  have zt : su cs.length (cf cs true) (dv (ta3 ps cs).n) = 0 ∧ su cs.length (cf cs false) (dv (ta3 ps cs).n) = 0 := by
    unfold dv
    constructor <;> omega
  have zn : ∀ i, i < cs.length → (ta3 ps cs).n.getD i 0 = 0 := fun i hi => by
    have key : ∀ b, cf cs b i = true → (ta3 ps cs).n.getD i 0 = 0 := fun b hb => by
      have h1 := su_eq (n := cs.length) (p := cf cs b) (v := fun _ => 0) (u := dv (ta3 ps cs).n) (fun i hi _ => i3.n0 i hi) (by
        rw [su_zero (v := fun _ => 0) (fun _ _ _ => rfl)]
        cases b
        · exact Int.le_of_eq zt.2
        · exact Int.le_of_eq zt.1) i hi hb
      exact h1.symm
    exact key (cs.getD i default).f (cf_eq rfl)
  have col : ∀ k, k < ps.length → colS (ta3 ps cs).fr cs.length k ≤ (ps.getD k default).c := fun k hk => by
    have h1 := k1.col k hk
    have h2 := k2.col k hk
    have h3 := k3.col k hk
    have h4 : colS (ta0 ps cs).fr cs.length k = 0 := ZBK fun i hi => z0 i k hi hk
    have h5 : (ta0 ps cs).l.getD k 0 = (ps.getD k default).c := ZFU ps hk
    have h6 := i3.l0 k hk
    omega
  refine ⟨⟨len, i3.fl⟩, fun i hi => ⟨⟨i3.wl i hi, (sp_le (ZFa hp hv) i hi).2⟩, fun k hk => ⟨i3.w0 i hi k hk, ?_, fun ⟨h1, h2, h3⟩ => ?_⟩, ?_⟩, col⟩
  · have := col k hk
    have := ZJf (fr := (ta3 ps cs).fr) (k := k) hi (fun i hi => i3.w0 i hi k hk)
    omega
  · have h4 := k1.oth i k hi hk (.inl (cf_ne h3))
    have h5 := k2.oth i k hi hk (.inl (cf_ne h3))
    have h6 := k3.oth i k hi hk (.inr (pf_ne h2))
    have h7 := z0 i k hi hk
    omega
  · have h1 := k1.row i hi
    have h2 := k2.row i hi
    have h3 := k3.row i hi
    have h4 : rowS (ta0 ps cs).fr ps.length i = 0 := ZBK fun k hk => z0 i k hi hk
    have h5 := zn i hi
    have h6 : (ta0 ps cs).n.getD i 0 = (divF ps cs).getD i 0 := rfl
    show rowS (ta3 ps cs).fr ps.length i = (divF ps cs).getD i 0
    omega
end Go.Wf
namespace Go.Wf
open Go.Proofs.Share
set_option linter.unusedVariables false
set_option linter.unusedSimpArgs false

section
variable {ps : List Po} {cs : List Cl} {c : List Int} {fr : List (List Int)}
theorem flow (h : fea ps cs c fr) (p q : Nat → Bool) (hz : ∀ i, i < cs.length → p i = true → ∀ k, k < ps.length → q k = false → at2 fr i k = 0) :
    su cs.length p (dv c) = su ps.length q (fun k => su cs.length p (fun i => at2 fr i k)) := by
  have e1 : su cs.length p (dv c) = sumN (fun i => sumN (fun k => if p i then at2 fr i k else 0) ps.length) cs.length := ZAY fun i hi => by
    by_cases hp : p i = true
    · simp only [hp, if_true]
      exact ((h.2.1 i hi).2.2).symm
    · simp only [hp, Bool.false_eq_true, if_false]
      exact (ZBK fun _ _ => rfl).symm
  rw [e1, ZF8]
  refine ZAY fun k hk => ?_
  by_cases hq : q k = true
  · rw [if_pos hq]; rfl
  · rw [if_neg hq]
    refine ZBK fun i hi => ?_
    by_cases hp : p i = true
    · rw [if_pos hp]; exact hz i hi hp k hk (by simpa using hq)
    · rw [if_neg hp]
theorem ZKF (h : fea ps cs c fr) (p : Nat → Bool) {k : Nat} (hk : k < ps.length) : su cs.length p (fun i => at2 fr i k) ≤ (ps.getD k default).c := by
  have h1 := h.2.2 k hk
  have h2 : su cs.length p (fun i => at2 fr i k) ≤ colS fr cs.length k := ZGK fun i hi => by
    have := ((h.2.1 i hi).2.1 k hk).1
    split
    · exact Int.le_refl _
    · exact this
  omega
theorem ZIb (h : fea ps cs c fr) (p q : Nat → Bool) (hz : ∀ i, i < cs.length → p i = true → ∀ k, k < ps.length → q k = false → at2 fr i k = 0) : su cs.length p (dv c) ≤ su ps.length q (fun k => (ps.getD k default).c) := by
  rw [flow h p q hz]
  exact su_le fun k hk _ => ZKF h p hk
theorem ZKG (h : fea ps cs c fr) (r : Int) : ∀ i, i < cs.length → pU cs r false i = true → ∀ k, k < ps.length → pf ps false k = false → at2 fr i k = 0 := fun i hi hp k hk hq => by
  have h1 := (h.2.1 i hi).2.1 k hk
  have h2 : (ps.getD k default).f = true := by
    unfold pf at hq
    cases hf : (ps.getD k default).f
    · rw [hf] at hq; cases hq
    · rfl
  have h3 : (cs.getD i default).f = false := (of_decide_eq_true hp : _ ∧ _).2
  have h4 : ¬ 0 < at2 fr i k := fun h5 => h1.2.2 ⟨h5, h2, h3⟩
  omega
def pA (cs : List Cl) (r : Int) (i : Nat) : Bool := decide ((cs.getD i default).r ≤ r)
theorem pA_two (cs : List Cl) (v : Nat → Int) (r : Int) : su cs.length (pA cs r) v = su cs.length (pU cs r false) v + su cs.length (pU cs r true) v := su_two v fun i _ => by
  unfold pA pU
  generalize cs.getD i default = c
  by_cases h : c.r ≤ r
  · cases hf : c.f <;> simp [h]
  · simp [h]
theorem ZIc (ps : List Po) : su ps.length (fun _ => true) (fun k => (ps.getD k default).c) = sumP ps false + sumP ps true := by
  rw [ZFb, ZFb]
  refine su_two _ fun k _ => ?_
  unfold pf
  cases (ps.getD k default).f <;> simp
theorem ZG3 (h : fea ps cs c fr) (hp : vP ps) (r : Int) : su cs.length (pU cs r false) (dv c) + su cs.length (pU cs r true) (dv c) ≤ mostF ps cs r ∧ su cs.length (pU cs r false) (dv c) ≤ sumP ps false := by
  have h1 := ZIb h (pA cs r) (fun _ => true) (fun i _ _ k _ hq => by cases hq)
  have h2 := ZIb h (pU cs r false) (pf ps false) (ZKG h r)
  rw [pA_two, ZIc] at h1
  rw [← ZFb] at h2
  have h3 := fun b => su_le (n := cs.length) (p := pU cs r b) (v := dv c) (u := cv cs) (fun i hi _ => (h.2.1 i hi).1.2)
  have h4 := h3 false
  have h5 := h3 true
  unfold mostF
  rw [ZBu, ZBu]
  omega
end
theorem ZKH {A B : Int} {cs : List Cl} {d : List Int} {i j : Nat} (h : Sp A B cs d (cs.getD i default).r) (hi : i < cs.length) (hj : j < cs.length) (hr : (cs.getD i default).r = (cs.getD j default).r) (hf : (cs.getD i default).f = (cs.getD j default).f) (hlt : dv d i < cv cs i) : dv d j ≤ dv d i ∨ (dv d j = dv d i + 1 ∧ j < i) := by
  rcases h with ⟨h1, _⟩ | ⟨_, _, _, h3, h4⟩
  · exact h1.fair j i hj hi (decide_eq_true hr.symm) (decide_eq_true rfl) hlt
  · cases e : (cs.getD i default).f
    · exact h3.fair j i hj hi (decide_eq_true ⟨hr.symm, by rw [← hf, e]⟩) (decide_eq_true ⟨rfl, e⟩) hlt
    · exact h4.fair j i hj hi (decide_eq_true ⟨hr.symm, by rw [← hf, e]⟩) (decide_eq_true ⟨rfl, e⟩) hlt
theorem ZId {A B : Int} {cs : List Cl} {d e : List Int} (hv : vC cs) (h : ∀ r ∈ rkF cs, Sp A B cs d r) (h2 : ∀ r ∈ rkF cs, Sp A B cs e r) : ∀ i, i < cs.length → dv d i = dv e i := by
  have key : ∀ m : Nat, ∀ i, i < cs.length → (cs.getD i default).r < m → dv d i = dv e i := by
    intro m
    induction m with
    | zero => intro i hi hr; have := (hv.2 _ (ZAc hi)).1.1.1; omega
    | succ m ih =>
      intro i hi hr
      by_cases hlt : (cs.getD i default).r < m
      · exact ih i hi hlt
      · have hm : (cs.getD i default).r = m := by omega
        have hmem : (m : Int) ∈ rkF cs := ZDX.2 ⟨i, hi, hm⟩
        have s1 := h _ hmem
        have s2 := h2 _ hmem
        have eB : ∀ b, su cs.length (pB cs m b) (dv d) = su cs.length (pB cs m b) (dv e) := fun b => su_congr (fun _ _ => rfl) fun i hi hp => ih i hi (ZKD hp)
        have eT : reT A B cs e m = reT A B cs d m := by unfold reT; rw [eB, eB]
        have eC : reC A cs e m = reC A cs d m := by unfold reC; rw [eB]
        unfold Sp at s1 s2
        rw [eT, eC] at s2
        have pi : pR cs m i = true := decide_eq_true hm
        have sub : ∀ {x y : List Int}, FO cs x (pR cs m) (reT A B cs d m) → FO cs y (pR cs m) (reT A B cs d m) → su cs.length (pK cs m false) (dv x) = su cs.length (pK cs m false) (dv y) := fun hx hy => su_congr (fun _ _ => rfl) fun i hi hp => hx.unique hy i hi (ZCi hp)
        rcases s1 with ⟨a1, a2⟩ | ⟨x, a1, a2, a3, a4⟩
        · rcases s2 with ⟨b1, b2⟩ | ⟨y, b1, b2, b3, b4⟩
          · exact a1.unique b1 i hi pi
          · have := sub a1 b1; omega
        · rcases s2 with ⟨b1, b2⟩ | ⟨y, b1, b2, b3, b4⟩
          · have := sub a1 b1; omega
          · cases hf : (cs.getD i default).f
            · exact a3.unique b3 i hi (decide_eq_true ⟨hm, hf⟩)
            · exact a4.unique b4 i hi (decide_eq_true ⟨hm, hf⟩)
  intro i hi
  exact key ((cs.getD i default).r.toNat + 1) i hi (by omega)

def evA (cs : List Cl) (c : List Int) (r : Int) (full : Bool) (i j : Nat) : Prop :=
  (cs.getD i default).r = r → (cs.getD j default).r = r → dv c i < cv cs i →
    ((cs.getD i default).f = false ∧ (cs.getD j default).f = true ∧ full = true) ∨ (dv c j ≤ dv c i + 1 ∧ ¬ (i < j ∧ dv c i < dv c j))
instance (cs : List Cl) (c : List Int) (r : Int) (full : Bool) (i j : Nat) : Decidable (evA cs c r full i j) := by unfold evA; exact inferInstance
def evn (cs : List Cl) (c : List Int) (r : Int) (full : Bool) : Prop := ∀ i, i < cs.length → ∀ j, j < cs.length → evA cs c r full i j
instance (cs : List Cl) (c : List Int) (r : Int) (full : Bool) : Decidable (evn cs c r full) := by unfold evn; exact inferInstance
def rkOk (ps : List Po) (cs : List Cl) (c : List Int) (r : Int) : Prop :=
  su cs.length (pU cs r false) (dv c) + su cs.length (pU cs r true) (dv c) = mostF ps cs r ∧ evn cs c r (decide (su cs.length (pU cs r false) (dv c) = sumP ps false))
instance (ps : List Po) (cs : List Cl) (c : List Int) (r : Int) : Decidable (rkOk ps cs c r) := by unfold rkOk; exact inferInstance
def chk (ps : List Po) (cs : List Cl) (c : List Int) (fr : List (List Int)) : Prop := fea ps cs c fr ∧ ∀ r ∈ rkF cs, rkOk ps cs c r
instance (ps : List Po) (cs : List Cl) (c : List Int) (fr : List (List Int)) : Decidable (chk ps cs c fr) := by unfold chk; exact inferInstance
theorem ZG4 {ps : List Po} {cs : List Cl} {c : List Int} {fr : List (List Int)} (h : fea ps cs c fr) {i : Nat} (hi : i < cs.length) : 0 ≤ dv c i := by
  rw [← (h.2.1 i hi).2.2]
  exact ZBg fun k hk => ((h.2.1 i hi).2.1 k hk).1
theorem chk_sp {ps : List Po} {cs : List Cl} {c : List Int} {fr : List (List Int)} (hp : vP ps) (hv : vC cs) (h : chk ps cs c fr) : ∀ r ∈ rkF cs, Sp (sumP ps false) (sumP ps true) cs c r := fun r hr => by
  have hA := (ZAW hp false).1
  have hB := (ZAW hp true).1
  obtain ⟨hf, h⟩ := h
  obtain ⟨h1, h2⟩ := h r hr
  have lo := fun i hi => ZG4 hf (i := i) hi
  have hi' := fun i hi => (hf.2.1 i hi).1.2
  have m1 := ZG3 hf hp r
  have m0 := ZG3 hf hp (r - 1)
  have s1 := ZBn cs (dv c) r false
  have s2 := ZBn cs (dv c) r true
  have s3 := ZBn cs (cv cs) r false
  have s4 := ZBn cs (cv cs) r true
  rw [ZDW] at s1 s2 s3 s4
  have le : ∀ p : Nat → Bool, su cs.length p (dv c) ≤ su cs.length p (cv cs) := fun p => su_le fun i hi _ => hi' i hi
  have nn : ∀ p : Nat → Bool, 0 ≤ su cs.length p (dv c) := fun p => su_nonneg fun i hi _ => lo i hi
  have l1 := le (pU cs (r - 1) false); have l2 := le (pU cs (r - 1) true); have l3 := le (pK cs r false); have l4 := le (pK cs r true)
  have n1 := nn (pU cs (r - 1) false); have n2 := nn (pU cs (r - 1) true); have n3 := nn (pK cs r false); have n4 := nn (pK cs r true)
  unfold mostF at h1 m1 m0
  rw [ZBu, ZBu] at h1 m1 m0
  have kfair : ∀ b, FO cs c (pK cs r b) (su cs.length (pK cs r b) (dv c)) := fun b => ⟨fun i hi _ => lo i hi, fun i hi _ => hi' i hi, by have := le (pK cs r b); omega, fun i k hi hk hpi hpk hlt => by
    have a1 := ZGV hpi
    have a2 := ZGV hpk
    rcases h2 k hk i hi a2.1 a1.1 hlt with ⟨b1, b2, _⟩ | ⟨b1, b2⟩
    · rw [a2.2] at b1; rw [a1.2, b1] at b2; cases b2
    · rcases Nat.lt_or_ge k i with e | e
      · exact .inl (by omega)
      · by_cases e2 : dv c i ≤ dv c k
        · exact .inl e2
        · refine .inr ⟨by omega, ?_⟩
          rcases Nat.eq_or_lt_of_le e with e3 | e3
          · subst e3; omega
          · exact e3⟩
  have ra : ∀ t, (su cs.length (pR cs r) (dv c) = min t (su cs.length (pR cs r) (cv cs))) → (∀ i k, i < cs.length → k < cs.length → (cs.getD i default).r = r → (cs.getD k default).r = r → dv c k < cv cs k → (cs.getD k default).f = false → (cs.getD i default).f = true → su cs.length (pU cs r false) (dv c) = sumP ps false → dv c i ≤ dv c k ∨ (dv c i = dv c k + 1 ∧ i < k)) → FO cs c (pR cs r) t := fun t hs hx => ⟨fun i hi _ => lo i hi, fun i hi _ => hi' i hi, hs, fun i k hi hk hpi hpk hlt => by
    have a1 := ZIX hpi
    have a2 := ZIX hpk
    rcases h2 k hk i hi a2 a1 hlt with ⟨b1, b2, b3⟩ | ⟨b1, b2⟩
    · exact hx i k hi hk a1 a2 hlt b1 b2 (of_decide_eq_true b3)
    · rcases Nat.lt_or_ge k i with e | e
      · exact .inl (by omega)
      · by_cases e2 : dv c i ≤ dv c k
        · exact .inl e2
        · refine .inr ⟨by omega, ?_⟩
          rcases Nat.eq_or_lt_of_le e with e3 | e3
          · subst e3; omega
          · exact e3⟩
  have tw := ZCj cs (dv c) r
  have tw2 := ZCj cs (cv cs) r
  unfold Sp reT reC
  rw [ZDW, ZDW]
  by_cases full : su cs.length (pU cs r false) (dv c) = sumP ps false
  · -- the plain claims have all ordinary pools
    have hT0 : 0 ≤ sumP ps false + sumP ps true - (su cs.length (pU cs (r - 1) false) (dv c) + su cs.length (pU cs (r - 1) true) (dv c)) := by omega
    have hW : ∀ x ∈ wants cs (memb cs r), 0 ≤ x ∧ x ≤ maxC := ZA0 hv ZBA
    obtain ⟨x, hx⟩ := DF.ex (m := maxC) hW hT0 (by decide)
    have hxs : sel (put c (memb cs r) x) (memb cs r) = x := ZFK (ZBj _ _) (by rw [hx.len, ZAU]) (fun i hi => by rw [hf.1.1]; exact ZBA i hi)
    rw [← hxs] at hx
    have he : FO cs (put c (memb cs r) x) (pR cs r) _ := fo_iff.1 hx
    generalize put c (memb cs r) x = e at he
    have tw3 := ZCj cs (dv e) r
    have es := he.sum
    have ef := su_le (n := cs.length) (p := pK cs r false) (fun i hi hq => he.hi i hi (ZCi hq))
    have et := su_le (n := cs.length) (p := pK cs r true) (fun i hi hq => he.hi i hi (ZCi hq))
    by_cases hC : sumP ps false - su cs.length (pU cs (r - 1) false) (dv c) < su cs.length (pK cs r false) (dv e)
    · refine .inr ⟨e, he, hC, ?_, ?_⟩
      · have := kfair false
        rwa [show su cs.length (pK cs r false) (dv c) = sumP ps false - su cs.length (pU cs (r - 1) false) (dv c) by omega] at this
      · have := kfair true
        exact ⟨this.lo, this.hi, by omega, this.fair⟩
    · refine .inl ⟨ra _ (by omega) (fun i k hi hk ri rk hlt fk fi _ => ?_), by omega⟩
      have pi : pK cs r true i = true := decide_eq_true ⟨ri, fi⟩
      have pk : pK cs r false k = true := decide_eq_true ⟨rk, fk⟩
      have h5 := (he.sub (q := pK cs r false) (fun i _ hq => ZCi hq)).mono (kfair false) (by omega) k hk pk
      have h6 := (kfair true).mono (he.sub (q := pK cs r true) (fun i _ hq => ZCi hq)) (by omega) i hi pi
      rcases he.fair i k hi hk (ZCi pi) (ZCi pk) (by omega) with h7 | ⟨h7, h8⟩
      · exact .inl (by omega)
      · by_cases h9 : dv c i ≤ dv c k
        · exact .inl h9
        · exact .inr ⟨by omega, h8⟩
  · exact .inl ⟨ra _ (by omega) (fun i k _ _ _ _ _ _ _ hx => absurd hx full), by omega⟩
theorem sp_chk {ps : List Po} {cs : List Cl} {c : List Int} {fr : List (List Int)} (hp : vP ps) (hv : vC cs) (hf : fea ps cs c fr) (h : ∀ r ∈ rkF cs, Sp (sumP ps false) (sumP ps true) cs c r) : chk ps cs c fr := by
  refine ⟨hf, fun r hr => ?_⟩
  have pre := ZIY (ZAW hp false).1 (ZAW hp true).1 hv h r
  refine ⟨pre.all, fun i hi j hj ri rj hlt => ?_⟩
  have go : ∀ {x : Prop}, (dv c j ≤ dv c i ∨ (dv c j = dv c i + 1 ∧ j < i)) → x ∨ (dv c j ≤ dv c i + 1 ∧ ¬ (i < j ∧ dv c i < dv c j)) := fun {x} hx => .inr (by
    rcases hx with h1 | ⟨h1, h2⟩
    · exact ⟨by omega, fun h => by omega⟩
    · exact ⟨by omega, fun h => by omega⟩)
  have hs := h r hr
  by_cases ef : (cs.getD i default).f = (cs.getD j default).f
  · exact go (ZKH (by rw [ri]; exact hs) hi hj (by omega) ef hlt)
  · rcases hs with ⟨h1, _⟩ | ⟨e, h1, h2, h3, h4⟩
    · exact go (h1.fair j i hj hi (decide_eq_true rj) (decide_eq_true ri) hlt)
    · have s1 := ZBn cs (dv c) r false
      have c1 := h3.sum
      have c2 := h4.sum
      have e1 := h1.sum
      rw [ZCj, ZCj] at e1
      have l1 := su_le (n := cs.length) (p := pK cs r false) (v := dv e) (u := cv cs) (fun i hi hq => h1.hi i hi (ZCi hq))
      have l2 := su_le (n := cs.length) (p := pK cs r true) (v := dv e) (u := cv cs) (fun i hi hq => h1.hi i hi (ZCi hq))
      cases fi : (cs.getD i default).f
      · cases fj : (cs.getD j default).f
        · rw [fi, fj] at ef; exact absurd rfl ef
        · refine .inl ⟨rfl, rfl, decide_eq_true ?_⟩
          unfold reC at *
          omega
      · cases fj : (cs.getD j default).f
        · have pi : pK cs r true i = true := decide_eq_true ⟨ri, fi⟩
          have pj : pK cs r false j = true := decide_eq_true ⟨rj, fj⟩
          have h5 := h3.mono (h1.sub (q := pK cs r false) (fun i _ hq => ZCi hq)) (by omega) j hj pj
          have h6 := (h1.sub (q := pK cs r true) (fun i _ hq => ZCi hq)).mono h4 (by omega) i hi pi
          refine go ?_
          rcases h1.fair j i hj hi (ZCi pj) (ZCi pi) (by omega) with h7 | ⟨h7, h8⟩
          · exact .inl (by omega)
          · by_cases h9 : dv c j ≤ dv c i
            · exact .inl h9
            · exact .inr ⟨by omega, h8⟩
        · rw [fi, fj] at ef; exact absurd rfl ef
theorem ZJR {a b : List Int} (hl : a.length = b.length) (h : ∀ i, i < a.length → dv a i = dv b i) : a = b := by
  apply List.ext_getElem hl
  intro i h1 h2
  have := h i h1
  simpa [dv, List.getD_eq_getElem?_getD, h1, h2] using this
theorem ZKI {ps : List Po} {cs : List Cl} {c : List Int} {fr : List (List Int)} (hp : vP ps) (hv : vC cs) (h : chk ps cs c fr) : c = divF ps cs :=
  ZJR (by rw [h.1.1.1, ZDI hp hv]) fun i hi => ZId hv (chk_sp hp hv h) (ZFa hp hv) i (by rw [← h.1.1.1]; exact hi)
theorem ZKJ {ps : List Po} {cs : List Cl} (hp : vP ps) (hv : vC cs) : chk ps cs (divF ps cs) (ta3 ps cs).fr := sp_chk hp hv (ZIa hp hv) (ZFa hp hv)
end Go.Wf
namespace Go.Wf
open Go.Proofs.Share
set_option linter.unusedVariables false
set_option linter.unusedSimpArgs false

def gvn (fr : List (List Int)) (m i q : Nat) : List Int := (List.range m).map fun x => colS fr (if x < q then i + 1 else i) x
theorem ZFc (fr : List (List Int)) (m i q : Nat) : (gvn fr m i q).length = m := by simp [gvn]
theorem ZF9 (fr : List (List Int)) {m i q x : Nat} (h : x < m) : (gvn fr m i q).getD x 0 = colS fr (if x < q then i + 1 else i) x := by simp [gvn, List.getD_eq_getElem?_getD, h]
theorem ZG5 (fr : List (List Int)) (m : Nat) : gvn fr m 0 0 = List.replicate m 0 := by
  apply List.ext_getElem (by simp [gvn])
  intro x h1 h2
  simp [gvn, colS, sumN]
theorem ZG6 (fr : List (List Int)) (m i : Nat) : gvn fr m i m = gvn fr m (i + 1) 0 := by
  unfold gvn
  refine List.map_congr_left fun x hx => ?_
  rw [if_pos (List.mem_range.1 hx), if_neg (by omega)]
theorem ZIe (fr : List (List Int)) {m i q : Nat} (h : q < m) : (gvn fr m i q).set q ((gvn fr m i q).getD q 0 + (fr.getD i []).getD q 0) = gvn fr m i (q + 1) := by
  apply List.ext_getElem (by simp [gvn])
  intro x h1 h2
  have hx : x < m := by simpa [gvn] using h2
  have e0 := ZF9 fr (i := i) (q := q) h
  generalize (gvn fr m i q).getD q 0 = y at *
  simp only [List.getElem_set, gvn, List.getElem_map, List.getElem_range]
  by_cases e : q = x
  · subst e
    rw [if_neg (by omega)] at e0
    rw [if_pos rfl, if_pos (by omega), e0]
    simp only [colS, sumN, at2]
  · rw [if_neg e]
    by_cases e2 : x < q
    · rw [if_pos e2, if_pos (by omega)]
    · rw [if_neg e2, if_neg (by omega)]
def rowQ (ps : List Po) (cs : List Cl) (c : List Int) (fr : List (List Int)) (i : Nat) : Prop :=
  ((fr.getD i default).length = ps.length ∧ 0 ≤ c.getD i 0 ∧ c.getD i 0 ≤ (cs.getD i default).c) ∧ (∀ k, k < ps.length → (0 ≤ (fr.getD i default).getD k 0 ∧ (fr.getD i default).getD k 0 ≤ maxC) ∧ ¬ (0 < (fr.getD i default).getD k 0 ∧ (ps.getD k default).f = true ∧ (cs.getD i default).f = false)) ∧ sumI (fr.getD i default) = c.getD i 0
theorem ZBV {ps : List Po} {cs : List Cl} {c : List Int} {fr : List (List Int)} (hp : vP ps) (h : fea ps cs c fr) {i : Nat} (hi : i < cs.length) : rowQ ps cs c fr i := by
  obtain ⟨⟨h1, h2⟩, h3, h4⟩ := h.2.1 i hi
  refine ⟨⟨h1, ZG4 h hi, h2⟩, fun k hk => ⟨⟨(h3 k hk).1, ?_⟩, (h3 k hk).2.2⟩, ?_⟩
  · have a1 := (h3 k hk).2.1
    have a2 := (ZCS hp (ZAc hk)).2
    exact Int.le_trans a1 a2
  · unfold rowS at h4
    unfold sumI
    show sumN (fun k => (fr.getD i []).getD k 0) (fr.getD i []).length = _
    rw [h1]; exact h4
theorem ZG7 {ps : List Po} {cs : List Cl} {c : List Int} {fr : List (List Int)} (h1 : c.length = cs.length) (h2 : fr.length = cs.length) (h : ∀ i, i < cs.length → rowQ ps cs c fr i) (hc : ∀ k, k < ps.length → colS fr cs.length k ≤ (ps.getD k default).c) : fea ps cs c fr := by
  refine ⟨⟨h1, h2⟩, fun i hi => ?_, hc⟩
  obtain ⟨⟨q1, q2, q3⟩, q4, q5⟩ := h i hi
  refine ⟨⟨q1, q3⟩, fun k hk => ⟨(q4 k hk).1.1, ?_, (q4 k hk).2⟩, ?_⟩
  · exact Int.le_trans (ZJf (fr := fr) (k := k) hi fun j hj => ((h j hj).2.1 k hk).1.1) (hc k hk)
  · unfold sumI at q5
    rw [q1] at q5
    exact q5
theorem ZJg {ps : List Po} {cs : List Cl} {c : List Int} {fr : List (List Int)} {i : Nat} (hi : i ≤ cs.length) (h : ∀ j, j < i → rowQ ps cs c fr j) {k : Nat} (hk : k < ps.length) : 0 ≤ colS fr i k ∧ colS fr i k ≤ maxC * i := by
  unfold colS
  exact ZA8 _ _ _ fun j hj => ((h j hj).2.1 k hk).1
end Go.Wf
namespace Go.Wf
open Go.Proofs.Share
set_option linter.unusedVariables false
set_option linter.unusedSimpArgs false

theorem ZIj (n : Nat) (p : Nat → Bool) (g : Nat → Int) : sumN (fun a => g ((idx n p).getD a 0)) (idx n p).length = su n p g := by
  have hd : ∀ i, i < n → ((List.range n).map g).getD i 0 = g i := fun i hi => by simp [List.getD_eq_getElem?_getD, hi]
  have h1 := ZGq ((List.range n).map g) (idx n p)
  have h2 := ZCI ((List.range n).map g) p n
  rw [h1] at h2
  have h3 : sumN (fun k => ((List.range n).map g).getD ((idx n p).getD k 0) 0) (idx n p).length = sumN (fun a => g ((idx n p).getD a 0)) (idx n p).length := ZAY fun a ha => hd _ (ZCp ha).1
  rw [← h3, h2]
  exact ZAY fun i hi => by
    by_cases e : p i = true
    · rw [if_pos e, if_pos e, hd i hi]
    · rw [if_neg e, if_neg e]
def acc (cs : List Cl) (v : Nat → Int) (b : Bool) : Nat → Int
  | 0 => 0
  | k + 1 => acc cs v b k + su cs.length (pK cs ((rkF cs).getD k 0) b) v
theorem ZFd {cs : List Cl} {j k : Nat} (h : j < k) (hk : k < (rkF cs).length) : (rkF cs).getD j 0 < (rkF cs).getD k 0 := by
  have := (List.pairwise_iff_getElem.1 (ZEk cs cs.length)) j k (by unfold rkF at hk; omega) hk h
  have e1 : (rkF cs).getD k 0 = (rkF cs)[k] := by simp [List.getD_eq_getElem?_getD, hk]
  have e2 : (rkF cs).getD j 0 = (rkF cs)[j] := by simp [List.getD_eq_getElem?_getD, show j < (rkF cs).length by omega]
  rw [e1, e2]; exact this
theorem ZJj {cs : List Cl} {i : Nat} (hi : i < cs.length) : ∃ j, j < (rkF cs).length ∧ (rkF cs).getD j 0 = (cs.getD i default).r := by
  obtain ⟨j, hj, e⟩ := List.getElem_of_mem (ZDX.2 ⟨i, hi, rfl⟩)
  exact ⟨j, hj, by simp [List.getD_eq_getElem?_getD, hj, e]⟩
theorem ZIk (cs : List Cl) (v : Nat → Int) (b : Bool) : ∀ k, k < (rkF cs).length → acc cs v b k = su cs.length (pB cs ((rkF cs).getD k 0) b) v
  | 0, hk => by
    refine (su_zero fun i hi hp => ?_).symm
    have h1 := ZKD hp
    obtain ⟨j, hj, e⟩ := ZJj hi
    rcases Nat.eq_zero_or_pos j with h | h
    · subst h; omega
    · have := ZFd h hj; omega
  | k + 1, hk => by
    simp only [acc]
    rw [ZIk cs v b k (by omega), ← ZBn]
    refine su_congr (fun i hi => ?_) (fun _ _ _ => rfl)
    unfold pU pB
    obtain ⟨j, hj, e⟩ := ZJj hi
    have h1 := ZFd (cs := cs) (j := k) (k := k + 1) (by omega) hk
    have : ((cs.getD i default).r ≤ (rkF cs).getD k 0) ↔ ((cs.getD i default).r < (rkF cs).getD (k + 1) 0) := by
      rw [← e]
      rcases Nat.lt_or_ge k j with h | h
      · rcases Nat.eq_or_lt_of_le (show k + 1 ≤ j from h) with h2 | h2
        · subst h2; omega
        · have := ZFd h2 hj; omega
      · rcases Nat.eq_or_lt_of_le h with h2 | h2
        · subst h2; omega
        · have := ZFd h2 (by omega : k < (rkF cs).length); omega
    exact decide_eq_decide.2 (and_congr_left' this)
theorem ZIl (cs : List Cl) (v : Nat → Int) (b : Bool) {k : Nat} (hk : k < (rkF cs).length) : acc cs v b (k + 1) = su cs.length (pU cs ((rkF cs).getD k 0) b) v := by
  simp only [acc]
  rw [ZIk cs v b k hk, ← ZBn]
end Go.Wf
