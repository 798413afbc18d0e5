/- Part of a proof about the given program: contracts of its functions (see the comment of the last text). -/
import Derived.Test.YthgjjhddbigfcaaWfU
import Derived.Test.YthgjjhddbigfcaaWfT
import Derived.Test.YthgjjhddbigfcaaWfD
namespace Go.Proofs.Ythgjjhddbigfcaa
open Go.Eng Go.Proofs Go.Wf
set_option linter.unusedSimpArgs false
set_option linter.unusedVariables false
attribute [local irreducible] AOps AOpsX AOps2 AOpsS AWP AAnyS Go.Eng.Pure PureRow Eff
theorem ZEv (cs : List Cl) (d : List Int) (r : Int) (b : Bool) : gotF cs d r b = su cs.length (pU cs r b) (dv d) := ZAY fun i _ => by
  unfold gotG pU
  by_cases h : (cs.getD i default).r ≤ r ∧ (cs.getD i default).f = b
  · rw [if_pos h, if_pos (decide_eq_true h)]
  · rw [if_neg h, if_neg (by rw [decide_eq_false h]; simp)]
def frP (ps : List Po) (cs : List Cl) (d : List Int) (i j : Nat) : Prop :=
  i = j ∨ ¬ (cs.getD i default).r = (cs.getD j default).r ∨ (cs.getD i default).c ≤ d.getD i 0 ∨ d.getD j 0 < d.getD i 0 + 1 ∨ (d.getD i 0 + 1 = d.getD j 0 ∧ j < i) ∨ ((cs.getD i default).f = false ∧ (cs.getD j default).f = true ∧ gotF cs d (cs.getD i default).r false = sumP ps false)
instance (ps : List Po) (cs : List Cl) (d : List Int) (i j : Nat) : Decidable (frP ps cs d i j) := by unfold frP; exact inferInstance
def rkI (ps : List Po) (cs : List Cl) (d : List Int) (i : Nat) : Prop := gotF cs d (cs.getD i default).r false + gotF cs d (cs.getD i default).r true = mostF ps cs (cs.getD i default).r ∧ ∀ j, j < cs.length → frP ps cs d i j
theorem chk_r (ps : List Po) (cs : List Cl) (c : List Int) (fr : List (List Int)) : chk ps cs c fr ↔ fea ps cs c fr ∧ ∀ i, i < cs.length → rkI ps cs c i := by
  constructor
  · intro ⟨h1, h2⟩
    refine ⟨h1, fun i hi => ?_⟩
    obtain ⟨a1, a2⟩ := h2 _ (ZDX.2 ⟨i, hi, rfl⟩)
    refine ⟨by rw [ZEv, ZEv]; exact a1, fun j hj => ?_⟩
    have := a2 i hi j hj
    unfold frP
    by_cases b1 : i = j
    · exact .inl b1
    by_cases b2 : (cs.getD i default).r = (cs.getD j default).r
    · by_cases b3 : (cs.getD i default).c ≤ c.getD i 0
      · exact .inr (.inr (.inl b3))
      · rcases this rfl b2.symm (by show c.getD i 0 < (cs.getD i default).c; omega) with ⟨e1, e2, e3⟩ | ⟨e1, e2⟩
        · exact .inr (.inr (.inr (.inr (.inr ⟨e1, e2, by rw [ZEv]; exact of_decide_eq_true e3⟩))))
        · have e1 : c.getD j 0 ≤ c.getD i 0 + 1 := e1
          have e2 : ¬ (i < j ∧ c.getD i 0 < c.getD j 0) := e2
          by_cases e4 : c.getD j 0 < c.getD i 0 + 1
          · exact .inr (.inr (.inr (.inl e4)))
          · exact .inr (.inr (.inr (.inr (.inl ⟨by omega, by omega⟩))))
    · exact .inr (.inl b2)
  · intro ⟨h1, h2⟩
    refine ⟨h1, fun r hr => ?_⟩
    obtain ⟨i0, hi0, e0⟩ := ZDX.1 hr
    refine ⟨by have := (h2 i0 hi0).1; rw [ZEv, ZEv, e0] at this; exact this, fun i hi j hj => ?_⟩
    intro r1 r2 hlt
    have hlt : c.getD i 0 < (cs.getD i default).c := hlt
    have := (h2 i hi).2 j hj
    unfold frP at this
    rcases this with b1 | b1 | b1 | b1 | ⟨b1, b2⟩ | ⟨b1, b2, b3⟩
    · subst b1; exact .inr ⟨by show c.getD i 0 ≤ c.getD i 0 + 1; omega, by omega⟩
    · exact absurd (r1.trans r2.symm) b1
    · omega
    · exact .inr ⟨by show c.getD j 0 ≤ c.getD i 0 + 1; omega, fun h => by have h2 : c.getD i 0 < c.getD j 0 := h.2; omega⟩
    · exact .inr ⟨by show c.getD j 0 ≤ c.getD i 0 + 1; omega, by omega⟩
    · exact .inl ⟨b1, b2, decide_eq_true (by rw [ZEv, r1] at b3; exact b3)⟩
theorem ZEw {cs : List Cl} {d : List Int} (r : Int) (b : Bool) (hv : vC cs) (hl : d.length = cs.length) (hd : bd maxC d) : 0 ≤ gotF cs d r b ∧ gotF cs d r b ≤ 64000000000000 := by
  have h := ZA8 (gotG cs d r b) maxC cs.length fun i hi => ZEj r b hl hd i hi
  have := hv.1
  simp only [maxC] at h
  unfold gotF
  omega
set_option maxHeartbeats 64000000 in
theorem ZIm (ps : List Po) (cs : List Cl) (d : List Int) (i j : Nat) (hp : vP ps) (hv : vC cs) (hi : i < cs.length) (hj : j < cs.length) (hl : d.length = cs.length) (hd : bd maxC d) : Pure Try.prog 47 [avPs ps, avCs cs, ints d, I64 i, I64 j] (BL (decide (frP ps cs d i j))) := by
  have h64 := hv.1
  have hri := (hv.2 _ (ZAc hi)).1.1
  have hg := ZGL cs d (cs.getD i default).r false ⟨by omega, by omega⟩ hv hl hd
  have hs := ZD2 ps false hp
  have d1 := hd i (by omega)
  have d2 := hd j (by omega)
  simp only [maxC] at d1 d2
  have hdd : decide (frP ps cs d i j) = decide (frP ps cs d i j) := rfl
  have F0 : ∀ b : Bool, (frP ps cs d i j ↔ b = true) → decide (frP ps cs d i j) = b := fun b h => by cases b <;> simp_all
  unfold frP at F0
  generalize hD : decide (frP ps cs d i j) = D at *
  have F : ∀ b : Bool, ((i = j ∨ ¬ (cs.getD i default).r = (cs.getD j default).r ∨ (cs.getD i default).c ≤ d.getD i 0 ∨ d.getD j 0 < d.getD i 0 + 1 ∨ (d.getD i 0 + 1 = d.getD j 0 ∧ j < i) ∨ ((cs.getD i default).f = false ∧ (cs.getD j default).f = true ∧ gotF cs d (cs.getD i default).r false = sumP ps false)) ↔ b = true) → D = b := fun b h => by rw [← hD]; exact F0 b h
  clear hD hdd F0
  refine ZAV (n := 92) (res := [.tmp 10]) hT Try.func47 rfl rfl rfl Try.ntmps47 (Nat.le_of_ble_eq_true rfl) fun B w0 => ?_
  generalize gotF cs d (cs.getD i default).r false = X at *
  generalize sumP ps false = Y at *
  by_cases a1 : i = j
  · have c1 : ((i : Int) == (j : Int)) = true := beq_iff_eq.2 (by omega)
    rw [F true ⟨fun _ => rfl, fun _ => .inl a1⟩]
    repeat' (first | ((first | refine sC hT fun K' hK' => ?_ | refine oC fun K' hK' => ?_); push_cast [c1]; (try simp (disch := omega) only [wrap64, Int.toNat_natCast]); (repeat refine ZAD ?_ ?_); (first | refine hK' _ ?_ | refine ⟨.v (.int .i64 0), hK' _ ?_⟩); clear hK' K') | (refine sK hT ?_; simp only [St.put]) | ((first | refine ZAE (hK _ ?_) | refine ZAJ (hK _ ?_)); clear hK K; push_cast) | ((first | apply ZAC | apply ZAF | apply ZAG | apply ZAM); push_cast) | refine ZAK fun K hK => ?_ | refine ZAN fun K hK => ?_ | refine dQ hT hm fun K hK => ?_ | refine dL hT hm fun K hK => ?_ | apply ZAA | apply ZAB | apply ZAL | (refine ZAH _ rfl (fun h => ?_) (fun h => ?_) <;> simp only [bh2, reduceCtorEq] at h))
    all_goals first | exact ff | skip
    all_goals done
  have c1 : ((i : Int) == (j : Int)) = false := beq_eq_false_iff_ne.2 (by omega)
  by_cases a2 : (cs.getD i default).r = (cs.getD j default).r
  · have c2 : ((cs.getD i default).r != (cs.getD j default).r) = false := bne_eq_false_iff_eq.2 a2
    by_cases a3 : (cs.getD i default).c ≤ d.getD i 0
    · have c3 : decide ((cs.getD i default).c ≤ d.getD i 0) = true := decide_eq_true a3
      rw [F true ⟨fun _ => rfl, fun _ => .inr (.inr (.inl a3))⟩]
      repeat' (first | ((first | refine sC hT fun K' hK' => ?_ | refine oC fun K' hK' => ?_); push_cast [c1, c2, c3]; (try simp (disch := omega) only [wrap64, Int.toNat_natCast]); (repeat refine ZAD ?_ ?_); (first | refine hK' _ ?_ | refine ⟨.v (.int .i64 0), hK' _ ?_⟩); clear hK' K') | (refine sK hT ?_; simp only [St.put]) | ((first | refine ZAE (hK _ ?_) | refine ZAJ (hK _ ?_)); clear hK K; push_cast) | ((first | apply ZAC | apply ZAF | apply ZAG | apply ZAM); push_cast) | refine ZAK fun K hK => ?_ | refine ZAN fun K hK => ?_ | refine dQ hT hm fun K hK => ?_ | refine dL hT hm fun K hK => ?_ | apply ZAA | apply ZAB | apply ZAL | (refine ZAH _ rfl (fun h => ?_) (fun h => ?_) <;> simp only [bh2, reduceCtorEq] at h))
      all_goals first | exact ff | skip
      all_goals done
    have c3 : decide ((cs.getD i default).c ≤ d.getD i 0) = false := decide_eq_false a3
    by_cases a4 : d.getD j 0 < d.getD i 0 + 1
    · have c4 : decide (d.getD j 0 < d.getD i 0 + 1) = true := decide_eq_true a4
      rw [F true ⟨fun _ => rfl, fun _ => .inr (.inr (.inr (.inl a4)))⟩]
      repeat' (first | ((first | refine sC hT fun K' hK' => ?_ | refine oC fun K' hK' => ?_); push_cast [c1, c2, c3, c4]; (try simp (disch := omega) only [wrap64, Int.toNat_natCast]); (repeat refine ZAD ?_ ?_); (first | refine hK' _ ?_ | refine ⟨.v (.int .i64 0), hK' _ ?_⟩); clear hK' K') | (refine sK hT ?_; simp only [St.put]) | ((first | refine ZAE (hK _ ?_) | refine ZAJ (hK _ ?_)); clear hK K; push_cast) | ((first | apply ZAC | apply ZAF | apply ZAG | apply ZAM); push_cast) | refine ZAK fun K hK => ?_ | refine ZAN fun K hK => ?_ | refine dQ hT hm fun K hK => ?_ | refine dL hT hm fun K hK => ?_ | apply ZAA | apply ZAB | apply ZAL | (refine ZAH _ rfl (fun h => ?_) (fun h => ?_) <;> simp only [bh2, reduceCtorEq] at h))
      all_goals first | exact ff | skip
      all_goals done
    have c4 : decide (d.getD j 0 < d.getD i 0 + 1) = false := decide_eq_false a4
    by_cases a5 : d.getD i 0 + 1 = d.getD j 0 ∧ j < i
    · have c5 : (d.getD i 0 + 1 == d.getD j 0) = true := beq_iff_eq.2 a5.1
      have c6 : decide ((j : Int) < (i : Int)) = true := decide_eq_true (by omega)
      rw [F true ⟨fun _ => rfl, fun _ => .inr (.inr (.inr (.inr (.inl a5))))⟩]
      repeat' (first | ((first | refine sC hT fun K' hK' => ?_ | refine oC fun K' hK' => ?_); push_cast [c1, c2, c3, c4, c5, c6]; (try simp (disch := omega) only [wrap64, Int.toNat_natCast]); (repeat refine ZAD ?_ ?_); (first | refine hK' _ ?_ | refine ⟨.v (.int .i64 0), hK' _ ?_⟩); clear hK' K') | (refine sK hT ?_; simp only [St.put]) | ((first | refine ZAE (hK _ ?_) | refine ZAJ (hK _ ?_)); clear hK K; push_cast) | ((first | apply ZAC | apply ZAF | apply ZAG | apply ZAM); push_cast) | refine ZAK fun K hK => ?_ | refine ZAN fun K hK => ?_ | refine dQ hT hm fun K hK => ?_ | refine dL hT hm fun K hK => ?_ | apply ZAA | apply ZAB | apply ZAL | (refine ZAH _ rfl (fun h => ?_) (fun h => ?_) <;> simp only [bh2, reduceCtorEq] at h))
      all_goals first | exact ff | skip
      all_goals done
    have hrest : ∀ b : Bool, (((cs.getD i default).f = false ∧ (cs.getD j default).f = true ∧ X = Y) ↔ b = true) → D = b := fun b h => F b ⟨fun h1 => by
      rcases h1 with h1 | h1 | h1 | h1 | h1 | h1
      · exact absurd h1 a1
      · exact absurd a2 h1
      · exact absurd h1 a3
      · exact absurd h1 a4
      · exact absurd h1 a5
      · exact h.1 h1, fun h1 => .inr (.inr (.inr (.inr (.inr (h.2 h1)))))⟩
    clear F
    by_cases e5 : d.getD i 0 + 1 = d.getD j 0
    · have c5 : (d.getD i 0 + 1 == d.getD j 0) = true := beq_iff_eq.2 e5
      have c6 : decide ((j : Int) < (i : Int)) = false := decide_eq_false (by omega)
      cases hfi : (cs.getD i default).f
      · cases hfj : (cs.getD j default).f
        · rw [hrest false ⟨fun h => (by rw [hfj] at h; exact h.2.1), fun h => (by cases h)⟩]
          repeat' (first | ((first | refine sC hT fun K' hK' => ?_ | refine oC fun K' hK' => ?_); push_cast [c1, c2, c3, c4, c5, c6, hfi, hfj]; (try simp (disch := omega) only [wrap64, Int.toNat_natCast]); (repeat refine ZAD ?_ ?_); (first | refine hK' _ ?_ | ((first | apply con1 | (apply con3; exact gd) | apply con2); (try intro hb); (first | exact hg | exact hs); exact okr; refine hK' _ ?_) | refine ⟨.v (.int .i64 0), hK' _ ?_⟩); clear hK' K') | (refine sK hT ?_; simp only [St.put]) | ((first | refine ZAE (hK _ ?_) | refine ZAJ (hK _ ?_)); clear hK K; push_cast) | ((first | apply ZAC | apply ZAF | apply ZAG | apply ZAM); push_cast) | refine ZAK fun K hK => ?_ | refine ZAN fun K hK => ?_ | refine dQ hT hm fun K hK => ?_ | refine dL hT hm fun K hK => ?_ | apply ZAA | apply ZAB | apply ZAL | (refine ZAH _ rfl (fun h => ?_) (fun h => ?_) <;> simp only [bh2, reduceCtorEq] at h))
          all_goals first | exact ff | skip
          all_goals done
        · rw [hrest (X == Y) ⟨fun h => beq_iff_eq.2 h.2.2, fun h => ⟨hfi, hfj, beq_iff_eq.1 h⟩⟩]
          repeat' (first | ((first | refine sC hT fun K' hK' => ?_ | refine oC fun K' hK' => ?_); push_cast [c1, c2, c3, c4, c5, c6, hfi, hfj]; (try simp (disch := omega) only [wrap64, Int.toNat_natCast]); (repeat refine ZAD ?_ ?_); (first | refine hK' _ ?_ | ((first | apply con1 | (apply con3; exact gd) | apply con2); (try intro hb); (first | exact hg | exact hs); exact okr; refine hK' _ ?_) | refine ⟨.v (.int .i64 0), hK' _ ?_⟩); clear hK' K') | (refine sK hT ?_; simp only [St.put]) | ((first | refine ZAE (hK _ ?_) | refine ZAJ (hK _ ?_)); clear hK K; push_cast) | ((first | apply ZAC | apply ZAF | apply ZAG | apply ZAM); push_cast) | refine ZAK fun K hK => ?_ | refine ZAN fun K hK => ?_ | refine dQ hT hm fun K hK => ?_ | refine dL hT hm fun K hK => ?_ | apply ZAA | apply ZAB | apply ZAL | (refine ZAH _ rfl (fun h => ?_) (fun h => ?_) <;> simp only [bh2, reduceCtorEq] at h))
          all_goals first | exact ff | skip
          all_goals done
      · rw [hrest false ⟨fun h => (by rw [hfi] at h; exact h.1.symm), fun h => (by cases h)⟩]
        repeat' (first | ((first | refine sC hT fun K' hK' => ?_ | refine oC fun K' hK' => ?_); push_cast [c1, c2, c3, c4, c5, c6, hfi]; (try simp (disch := omega) only [wrap64, Int.toNat_natCast]); (repeat refine ZAD ?_ ?_); (first | refine hK' _ ?_ | refine ⟨.v (.int .i64 0), hK' _ ?_⟩); clear hK' K') | (refine sK hT ?_; simp only [St.put]) | ((first | refine ZAE (hK _ ?_) | refine ZAJ (hK _ ?_)); clear hK K; push_cast) | ((first | apply ZAC | apply ZAF | apply ZAG | apply ZAM); push_cast) | refine ZAK fun K hK => ?_ | refine ZAN fun K hK => ?_ | refine dQ hT hm fun K hK => ?_ | refine dL hT hm fun K hK => ?_ | apply ZAA | apply ZAB | apply ZAL | (refine ZAH _ rfl (fun h => ?_) (fun h => ?_) <;> simp only [bh2, reduceCtorEq] at h))
        all_goals first | exact ff | skip
        all_goals done
    · have c5 : (d.getD i 0 + 1 == d.getD j 0) = false := beq_eq_false_iff_ne.2 e5
      cases hfi : (cs.getD i default).f
      · cases hfj : (cs.getD j default).f
        · rw [hrest false ⟨fun h => (by rw [hfj] at h; exact h.2.1), fun h => (by cases h)⟩]
          repeat' (first | ((first | refine sC hT fun K' hK' => ?_ | refine oC fun K' hK' => ?_); push_cast [c1, c2, c3, c4, c5, hfi, hfj]; (try simp (disch := omega) only [wrap64, Int.toNat_natCast]); (repeat refine ZAD ?_ ?_); (first | refine hK' _ ?_ | ((first | apply con1 | (apply con3; exact gd) | apply con2); (try intro hb); (first | exact hg | exact hs); exact okr; refine hK' _ ?_) | refine ⟨.v (.int .i64 0), hK' _ ?_⟩); clear hK' K') | (refine sK hT ?_; simp only [St.put]) | ((first | refine ZAE (hK _ ?_) | refine ZAJ (hK _ ?_)); clear hK K; push_cast) | ((first | apply ZAC | apply ZAF | apply ZAG | apply ZAM); push_cast) | refine ZAK fun K hK => ?_ | refine ZAN fun K hK => ?_ | refine dQ hT hm fun K hK => ?_ | refine dL hT hm fun K hK => ?_ | apply ZAA | apply ZAB | apply ZAL | (refine ZAH _ rfl (fun h => ?_) (fun h => ?_) <;> simp only [bh2, reduceCtorEq] at h))
          all_goals first | exact ff | skip
          all_goals done
        · rw [hrest (X == Y) ⟨fun h => beq_iff_eq.2 h.2.2, fun h => ⟨hfi, hfj, beq_iff_eq.1 h⟩⟩]
          repeat' (first | ((first | refine sC hT fun K' hK' => ?_ | refine oC fun K' hK' => ?_); push_cast [c1, c2, c3, c4, c5, hfi, hfj]; (try simp (disch := omega) only [wrap64, Int.toNat_natCast]); (repeat refine ZAD ?_ ?_); (first | refine hK' _ ?_ | ((first | apply con1 | (apply con3; exact gd) | apply con2); (try intro hb); (first | exact hg | exact hs); exact okr; refine hK' _ ?_) | refine ⟨.v (.int .i64 0), hK' _ ?_⟩); clear hK' K') | (refine sK hT ?_; simp only [St.put]) | ((first | refine ZAE (hK _ ?_) | refine ZAJ (hK _ ?_)); clear hK K; push_cast) | ((first | apply ZAC | apply ZAF | apply ZAG | apply ZAM); push_cast) | refine ZAK fun K hK => ?_ | refine ZAN fun K hK => ?_ | refine dQ hT hm fun K hK => ?_ | refine dL hT hm fun K hK => ?_ | apply ZAA | apply ZAB | apply ZAL | (refine ZAH _ rfl (fun h => ?_) (fun h => ?_) <;> simp only [bh2, reduceCtorEq] at h))
          all_goals first | exact ff | skip
          all_goals done
      · rw [hrest false ⟨fun h => (by rw [hfi] at h; exact h.1.symm), fun h => (by cases h)⟩]
        repeat' (first | ((first | refine sC hT fun K' hK' => ?_ | refine oC fun K' hK' => ?_); push_cast [c1, c2, c3, c4, c5, hfi]; (try simp (disch := omega) only [wrap64, Int.toNat_natCast]); (repeat refine ZAD ?_ ?_); (first | refine hK' _ ?_ | refine ⟨.v (.int .i64 0), hK' _ ?_⟩); clear hK' K') | (refine sK hT ?_; simp only [St.put]) | ((first | refine ZAE (hK _ ?_) | refine ZAJ (hK _ ?_)); clear hK K; push_cast) | ((first | apply ZAC | apply ZAF | apply ZAG | apply ZAM); push_cast) | refine ZAK fun K hK => ?_ | refine ZAN fun K hK => ?_ | refine dQ hT hm fun K hK => ?_ | refine dL hT hm fun K hK => ?_ | apply ZAA | apply ZAB | apply ZAL | (refine ZAH _ rfl (fun h => ?_) (fun h => ?_) <;> simp only [bh2, reduceCtorEq] at h))
        all_goals first | exact ff | skip
        all_goals done
  · have c2 : ((cs.getD i default).r != (cs.getD j default).r) = true := bne_iff_ne.2 a2
    rw [F true ⟨fun _ => rfl, fun _ => .inr (.inl a2)⟩]
    repeat' (first | ((first | refine sC hT fun K' hK' => ?_ | refine oC fun K' hK' => ?_); push_cast [c1, c2]; (try simp (disch := omega) only [wrap64, Int.toNat_natCast]); (repeat refine ZAD ?_ ?_); (first | refine hK' _ ?_ | refine ⟨.v (.int .i64 0), hK' _ ?_⟩); clear hK' K') | (refine sK hT ?_; simp only [St.put]) | ((first | refine ZAE (hK _ ?_) | refine ZAJ (hK _ ?_)); clear hK K; push_cast) | ((first | apply ZAC | apply ZAF | apply ZAG | apply ZAM); push_cast) | refine ZAK fun K hK => ?_ | refine ZAN fun K hK => ?_ | refine dQ hT hm fun K hK => ?_ | refine dL hT hm fun K hK => ?_ | apply ZAA | apply ZAB | apply ZAL | (refine ZAH _ rfl (fun h => ?_) (fun h => ?_) <;> simp only [bh2, reduceCtorEq] at h))
    all_goals first | exact ff | skip
    all_goals done

set_option maxHeartbeats 64000000 in
theorem ZIn (ps : List Po) (cs : List Cl) (g : Gr) (hps : okPs ps) (hcs : okCs cs) (hg : okG g) : Pure Try.prog 20 [avPs ps, avCs cs, .a (avG g)] (BL (decide ((vP ps ∧ vC cs) ∧ chk ps cs g.c g.fr))) := by
  have h1 := ZCT ps hps
  have h2 := ZB0 cs hcs
  obtain ⟨gc, gf⟩ := g
  refine ZAV (n := 80) (res := [.tmp 6]) hT Try.func20 rfl rfl rfl Try.ntmps20 (Nat.le_of_ble_eq_true rfl) fun B w0 => ?_
  by_cases hp : vP ps
  · rw [decide_eq_true hp] at h1
    by_cases hv : vC cs
    · rw [decide_eq_true hv] at h2
      have h3 := ZKN ps cs ⟨gc, gf⟩ hp hv hg
      by_cases hf : fea ps cs gc gf
      · rw [decide_eq_true hf] at h3
        have h64 := hv.1
        have hlen := hf.1.1
        have hbd : bd maxC gc := fun i hi => by
          have h1 := ZG4 hf (i := i) (by omega)
          have h2 := (hf.2.1 i (by omega)).1.2
          have h3 := (hv.2 _ (ZAc (show i < cs.length by omega))).2
          exact ⟨h1, Int.le_trans h2 h3⟩
        have hD : decide ((vP ps ∧ vC cs) ∧ chk ps cs gc gf) = decide (chk ps cs gc gf) := by
          by_cases h : chk ps cs gc gf
          · rw [decide_eq_true h, decide_eq_true ⟨⟨hp, hv⟩, h⟩]
          · rw [decide_eq_false h, decide_eq_false (fun h2 => h h2.2)]
        rw [hD]
        have good : (∀ i, i < cs.length → rkI ps cs gc i) → decide (chk ps cs gc gf) = true := fun h => decide_eq_true ((chk_r ps cs gc gf).2 ⟨hf, h⟩)
        have bad : ∀ i, i < cs.length → ¬ rkI ps cs gc i → decide (chk ps cs gc gf) = false := fun i hi h => decide_eq_false fun h2 => h (((chk_r ps cs gc gf).1 h2).2 i hi)
        clear hD
        generalize decide (chk ps cs gc gf) = D at *
        repeat' (first | ((first | refine sC hT fun K' hK' => ?_ | refine oC fun K' hK' => ?_); push_cast; (try simp (disch := omega) only [wrap64, Int.toNat_natCast]); (repeat refine ZAD ?_ ?_); (first | refine hK' _ ?_ | ((first | apply con1 | (apply con3; exact gd) | apply con2); (try intro hb); (first | exact h1 | exact h2 | exact h3); exact okr; refine hK' _ ?_) | refine ⟨.v (.int .i64 0), hK' _ ?_⟩); clear hK' K') | (refine sK hT ?_; simp only [St.put]) | ((first | refine ZAE (hK _ ?_) | refine ZAJ (hK _ ?_)); clear hK K; push_cast) | ((first | apply ZAC | apply ZAF | apply ZAG | apply ZAM); push_cast) | refine ZAK fun K hK => ?_ | refine ZAN fun K hK => ?_ | refine dQ hT hm fun K hK => ?_ | refine dL hT hm fun K hK => ?_ | apply ZAA | apply ZAB | apply ZAL | (refine ZAH _ rfl (fun h => ?_) (fun h => ?_) <;> simp only [bh2, reduceCtorEq] at h))
        all_goals first | exact ff | skip
        refine ZAO (α := Nat) (fun k => ⟨[(0, avPs ps), (1, avCs cs), (5, .p 5 0), (7, I64 k)], [(5, .box 27 (.avs [ints gc, avLL gf]))]⟩) (fun k => k ≤ cs.length ∧ ∀ i, i < k → rkI ps cs gc i) (fun k => cs.length - k) 0 ⟨Nat.zero_le _, fun j hj => by omega⟩ (G.wk ⟨rfl, rfl, rfl, rfl, trivial⟩ ⟨rfl, trivial⟩) fun k hk => ?_
        obtain ⟨hk, hall⟩ := hk
        by_cases hlt : k < cs.length
        · have c1 : decide ((k : Int) < (cs.length : Int)) = true := decide_eq_true (by omega)
          have hr := (hv.2 _ (ZAc hlt)).1.1
          have hin : In64 (cs.getD k default).r := ⟨by omega, by omega⟩
          have hmo := ZGp ps cs _ hin hps hcs ⟨hp, hv⟩
          have hg0 := ZGL cs gc _ false hin hv hlen hbd
          have hg1 := ZGL cs gc _ true hin hv hlen hbd
          have b0 := ZEw (cs.getD k default).r false hv hlen hbd
          have b1 := ZEw (cs.getD k default).r true hv hlen hbd
          by_cases he : gotF cs gc (cs.getD k default).r false + gotF cs gc (cs.getD k default).r true = mostF ps cs (cs.getD k default).r
          · have c2 : ((gotF cs gc (cs.getD k default).r false + gotF cs gc (cs.getD k default).r true) != mostF ps cs (cs.getD k default).r) = false := bne_eq_false_iff_eq.2 he
            have next : (∀ j, j < cs.length → frP ps cs gc k j) → ∀ i, i < k + 1 → rkI ps cs gc i := fun h i hi => by
              rcases Nat.lt_or_ge i k with h2 | h2
              · exact hall i h2
              · rw [show i = k by omega]; exact ⟨he, h⟩
            have bad2 : ∀ j, j < cs.length → ¬ frP ps cs gc k j → D = false := fun j hj h => bad k hlt fun h2 => h (h2.2 j hj)
            clear he
            generalize gotF cs gc (cs.getD k default).r false = X at *
            generalize gotF cs gc (cs.getD k default).r true = Y at *
            generalize mostF ps cs (cs.getD k default).r = Z at *
            repeat' (first | ((first | refine sC hT fun K' hK' => ?_ | refine oC fun K' hK' => ?_); push_cast [c1, c2]; (try simp (disch := omega) only [wrap64, Int.toNat_natCast]); (repeat refine ZAD ?_ ?_); (first | refine hK' _ ?_ | ((first | apply con1 | (apply con3; exact gd) | apply con2); (try intro hb); (first | exact hmo | exact hg0 | exact hg1); exact okr; refine hK' _ ?_) | refine ⟨.v (.int .i64 0), hK' _ ?_⟩); clear hK' K') | (refine sK hT ?_; simp only [St.put]) | ((first | refine ZAE (hK _ ?_) | refine ZAJ (hK _ ?_)); clear hK K; push_cast) | ((first | apply ZAC | apply ZAF | apply ZAG | apply ZAM); push_cast) | refine ZAK fun K hK => ?_ | refine ZAN fun K hK => ?_ | refine dQ hT hm fun K hK => ?_ | refine dL hT hm fun K hK => ?_ | apply ZAA | apply ZAB | apply ZAL | (refine ZAH _ rfl (fun h => ?_) (fun h => ?_) <;> simp only [bh2, reduceCtorEq] at h))
            all_goals first | exact ff | skip
            refine ZAO (α := Nat) (fun j => ⟨[(0, avPs ps), (1, avCs cs), (5, .p 5 0), (7, I64 k), (11, I64 j)], [(5, .box 27 (.avs [ints gc, avLL gf]))]⟩) (fun j => j ≤ cs.length ∧ ∀ i, i < j → frP ps cs gc k i) (fun j => cs.length - j) 0 ⟨Nat.zero_le _, fun j hj => by omega⟩ (G.wk ⟨rfl, rfl, rfl, rfl, rfl, trivial⟩ ⟨rfl, trivial⟩) fun j hj => ?_
            obtain ⟨hj, hin2⟩ := hj
            by_cases hlj : j < cs.length
            · have d1 : decide ((j : Int) < (cs.length : Int)) = true := decide_eq_true (by omega)
              have hfr := ZIm ps cs gc k j hp hv hlt hlj hlen hbd
              by_cases hx : frP ps cs gc k j
              · rw [decide_eq_true hx] at hfr
                repeat' (first | ((first | refine sC hT fun K' hK' => ?_ | refine oC fun K' hK' => ?_); push_cast [d1]; (try simp (disch := omega) only [wrap64, Int.toNat_natCast]); (repeat refine ZAD ?_ ?_); (first | refine hK' _ ?_ | ((first | apply con1 | (apply con3; exact gd) | apply con2); (try intro hb); (first | exact hfr); exact okr; refine hK' _ ?_) | refine ⟨.v (.int .i64 0), hK' _ ?_⟩); clear hK' K') | (refine sK hT ?_; simp only [St.put]) | ((first | refine ZAE (hK _ ?_) | refine ZAJ (hK _ ?_)); clear hK K; push_cast) | ((first | apply ZAC | apply ZAF | apply ZAG | apply ZAM); push_cast) | refine ZAK fun K hK => ?_ | refine ZAN fun K hK => ?_ | refine dQ hT hm fun K hK => ?_ | refine dL hT hm fun K hK => ?_ | apply ZAA | apply ZAB | apply ZAL | (refine ZAH _ rfl (fun h => ?_) (fun h => ?_) <;> simp only [bh2, reduceCtorEq] at h))
                all_goals first | exact ff | skip
                all_goals exact ⟨j + 1, ⟨⟨by omega, fun i hi => by
                  rcases Nat.lt_or_ge i j with h2 | h2
                  · exact hin2 i h2
                  · rw [show i = j by omega]; exact hx⟩, by omega⟩, G.wk ⟨rfl, rfl, rfl, rfl, rfl, trivial⟩ ⟨rfl, trivial⟩⟩
              · rw [decide_eq_false hx] at hfr
                rw [bad2 j hlj hx]
                repeat' (first | ((first | refine sC hT fun K' hK' => ?_ | refine oC fun K' hK' => ?_); push_cast [d1]; (try simp (disch := omega) only [wrap64, Int.toNat_natCast]); (repeat refine ZAD ?_ ?_); (first | refine hK' _ ?_ | ((first | apply con1 | (apply con3; exact gd) | apply con2); (try intro hb); (first | exact hfr); exact okr; refine hK' _ ?_) | refine ⟨.v (.int .i64 0), hK' _ ?_⟩); clear hK' K') | (refine sK hT ?_; simp only [St.put]) | ((first | refine ZAE (hK _ ?_) | refine ZAJ (hK _ ?_)); clear hK K; push_cast) | ((first | apply ZAC | apply ZAF | apply ZAG | apply ZAM); push_cast) | refine ZAK fun K hK => ?_ | refine ZAN fun K hK => ?_ | refine dQ hT hm fun K hK => ?_ | refine dL hT hm fun K hK => ?_ | apply ZAA | apply ZAB | apply ZAL | (refine ZAH _ rfl (fun h => ?_) (fun h => ?_) <;> simp only [bh2, reduceCtorEq] at h))
                all_goals first | exact ff | skip
                all_goals done
            · obtain rfl : j = cs.length := by omega
              have d1 : decide ((cs.length : Int) < (cs.length : Int)) = false := decide_eq_false (by omega)
              repeat' (first | ((first | refine sC hT fun K' hK' => ?_ | refine oC fun K' hK' => ?_); push_cast [d1]; (try simp (disch := omega) only [wrap64, Int.toNat_natCast]); (repeat refine ZAD ?_ ?_); (first | refine hK' _ ?_ | refine ⟨.v (.int .i64 0), hK' _ ?_⟩); clear hK' K') | (refine sK hT ?_; simp only [St.put]) | ((first | refine ZAE (hK _ ?_) | refine ZAJ (hK _ ?_)); clear hK K; push_cast) | ((first | apply ZAC | apply ZAF | apply ZAG | apply ZAM); push_cast) | refine ZAK fun K hK => ?_ | refine ZAN fun K hK => ?_ | refine dQ hT hm fun K hK => ?_ | refine dL hT hm fun K hK => ?_ | apply ZAA | apply ZAB | apply ZAL | (refine ZAH _ rfl (fun h => ?_) (fun h => ?_) <;> simp only [bh2, reduceCtorEq] at h))
              all_goals first | exact ff | skip
              all_goals exact ⟨k + 1, ⟨⟨by omega, next hin2⟩, by omega⟩, G.wk ⟨rfl, rfl, rfl, rfl, trivial⟩ ⟨rfl, trivial⟩⟩
          · have c2 : ((gotF cs gc (cs.getD k default).r false + gotF cs gc (cs.getD k default).r true) != mostF ps cs (cs.getD k default).r) = true := bne_iff_ne.2 he
            rw [bad k hlt fun h => he h.1]
            generalize gotF cs gc (cs.getD k default).r false = X at *
            generalize gotF cs gc (cs.getD k default).r true = Y at *
            generalize mostF ps cs (cs.getD k default).r = Z at *
            repeat' (first | ((first | refine sC hT fun K' hK' => ?_ | refine oC fun K' hK' => ?_); push_cast [c1, c2]; (try simp (disch := omega) only [wrap64, Int.toNat_natCast]); (repeat refine ZAD ?_ ?_); (first | refine hK' _ ?_ | ((first | apply con1 | (apply con3; exact gd) | apply con2); (try intro hb); (first | exact hmo | exact hg0 | exact hg1); exact okr; refine hK' _ ?_) | refine ⟨.v (.int .i64 0), hK' _ ?_⟩); clear hK' K') | (refine sK hT ?_; simp only [St.put]) | ((first | refine ZAE (hK _ ?_) | refine ZAJ (hK _ ?_)); clear hK K; push_cast) | ((first | apply ZAC | apply ZAF | apply ZAG | apply ZAM); push_cast) | refine ZAK fun K hK => ?_ | refine ZAN fun K hK => ?_ | refine dQ hT hm fun K hK => ?_ | refine dL hT hm fun K hK => ?_ | apply ZAA | apply ZAB | apply ZAL | (refine ZAH _ rfl (fun h => ?_) (fun h => ?_) <;> simp only [bh2, reduceCtorEq] at h))
            all_goals first | exact ff | skip
            all_goals done
        · obtain rfl : k = cs.length := by omega
          have c1 : decide ((cs.length : Int) < (cs.length : Int)) = false := decide_eq_false (by omega)
          rw [good hall]
          repeat' (first | ((first | refine sC hT fun K' hK' => ?_ | refine oC fun K' hK' => ?_); push_cast [c1]; (try simp (disch := omega) only [wrap64, Int.toNat_natCast]); (repeat refine ZAD ?_ ?_); (first | refine hK' _ ?_ | refine ⟨.v (.int .i64 0), hK' _ ?_⟩); clear hK' K') | (refine sK hT ?_; simp only [St.put]) | ((first | refine ZAE (hK _ ?_) | refine ZAJ (hK _ ?_)); clear hK K; push_cast) | ((first | apply ZAC | apply ZAF | apply ZAG | apply ZAM); push_cast) | refine ZAK fun K hK => ?_ | refine ZAN fun K hK => ?_ | refine dQ hT hm fun K hK => ?_ | refine dL hT hm fun K hK => ?_ | apply ZAA | apply ZAB | apply ZAL | (refine ZAH _ rfl (fun h => ?_) (fun h => ?_) <;> simp only [bh2, reduceCtorEq] at h))
          all_goals first | exact ff | skip
          all_goals done
      · rw [decide_eq_false hf] at h3
        rw [decide_eq_false (fun h => hf h.2.1)]
        repeat' (first | ((first | refine sC hT fun K' hK' => ?_ | refine oC fun K' hK' => ?_); push_cast; (try simp (disch := omega) only [wrap64, Int.toNat_natCast]); (repeat refine ZAD ?_ ?_); (first | refine hK' _ ?_ | ((first | apply con1 | (apply con3; exact gd) | apply con2); (try intro hb); (first | exact h1 | exact h2 | exact h3); exact okr; refine hK' _ ?_) | refine ⟨.v (.int .i64 0), hK' _ ?_⟩); clear hK' K') | (refine sK hT ?_; simp only [St.put]) | ((first | refine ZAE (hK _ ?_) | refine ZAJ (hK _ ?_)); clear hK K; push_cast) | ((first | apply ZAC | apply ZAF | apply ZAG | apply ZAM); push_cast) | refine ZAK fun K hK => ?_ | refine ZAN fun K hK => ?_ | refine dQ hT hm fun K hK => ?_ | refine dL hT hm fun K hK => ?_ | apply ZAA | apply ZAB | apply ZAL | (refine ZAH _ rfl (fun h => ?_) (fun h => ?_) <;> simp only [bh2, reduceCtorEq] at h))
        all_goals first | exact ff | skip
        all_goals done
    · rw [decide_eq_false hv] at h2
      rw [decide_eq_false (fun h => hv h.1.2)]
      repeat' (first | ((first | refine sC hT fun K' hK' => ?_ | refine oC fun K' hK' => ?_); push_cast; (try simp (disch := omega) only [wrap64, Int.toNat_natCast]); (repeat refine ZAD ?_ ?_); (first | refine hK' _ ?_ | ((first | apply con1 | (apply con3; exact gd) | apply con2); (try intro hb); (first | exact h1 | exact h2); exact okr; refine hK' _ ?_) | refine ⟨.v (.int .i64 0), hK' _ ?_⟩); clear hK' K') | (refine sK hT ?_; simp only [St.put]) | ((first | refine ZAE (hK _ ?_) | refine ZAJ (hK _ ?_)); clear hK K; push_cast) | ((first | apply ZAC | apply ZAF | apply ZAG | apply ZAM); push_cast) | refine ZAK fun K hK => ?_ | refine ZAN fun K hK => ?_ | refine dQ hT hm fun K hK => ?_ | refine dL hT hm fun K hK => ?_ | apply ZAA | apply ZAB | apply ZAL | (refine ZAH _ rfl (fun h => ?_) (fun h => ?_) <;> simp only [bh2, reduceCtorEq] at h))
      all_goals first | exact ff | skip
      all_goals done
  · rw [decide_eq_false hp] at h1
    rw [decide_eq_false (fun h => hp h.1.1)]
    repeat' (first | ((first | refine sC hT fun K' hK' => ?_ | refine oC fun K' hK' => ?_); push_cast; (try simp (disch := omega) only [wrap64, Int.toNat_natCast]); (repeat refine ZAD ?_ ?_); (first | refine hK' _ ?_ | ((first | apply con1 | (apply con3; exact gd) | apply con2); (try intro hb); (first | exact h1); exact okr; refine hK' _ ?_) | refine ⟨.v (.int .i64 0), hK' _ ?_⟩); clear hK' K') | (refine sK hT ?_; simp only [St.put]) | ((first | refine ZAE (hK _ ?_) | refine ZAJ (hK _ ?_)); clear hK K; push_cast) | ((first | apply ZAC | apply ZAF | apply ZAG | apply ZAM); push_cast) | refine ZAK fun K hK => ?_ | refine ZAN fun K hK => ?_ | refine dQ hT hm fun K hK => ?_ | refine dL hT hm fun K hK => ?_ | apply ZAA | apply ZAB | apply ZAL | (refine ZAH _ rfl (fun h => ?_) (fun h => ?_) <;> simp only [bh2, reduceCtorEq] at h))
    all_goals first | exact ff | skip
    all_goals done
end Go.Proofs.Ythgjjhddbigfcaa
