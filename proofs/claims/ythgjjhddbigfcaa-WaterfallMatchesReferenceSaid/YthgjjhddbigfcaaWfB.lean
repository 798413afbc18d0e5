/- Part of a proof about the given program: contracts of its functions (see the comment of the last text). -/
import Derived.Test.YthgjjhddbigfcaaWfA
namespace Go.Proofs.Ythgjjhddbigfcaa
open Go.Eng Go.Proofs Go.Wf
set_option linter.unusedSimpArgs false
set_option linter.unusedVariables false
attribute [local irreducible] AOps AOpsX AOps2 AOpsS AWP AAnyS Go.Eng.Pure PureRow Eff
theorem notP {ps : List Po} (hps : okPs ps) {k : Nat} (hk : k < ps.length) (h : ¬ (0 ≤ (ps.getD k default).c ∧ (ps.getD k default).c ≤ maxC)) : ¬ vP ps := fun hv => h (ZCS hv (ZAc hk))
theorem notC {cs : List Cl} {k : Nat} (hk : k < cs.length) (h : ¬ okCl (cs.getD k default)) : ¬ vC cs := fun hv => h (hv.2 _ (ZAc hk))
theorem ZD1 {α : Type} [Inhabited α] {l : List α} {p : α → Prop} (h : ∀ j, j < l.length → p (l.getD j default)) : ∀ x ∈ l, p x := fun x hx => by
  obtain ⟨i, hi, rfl⟩ := ZHw hx
  exact h i hi
theorem ZDB {α : Type} [Inhabited α] {l : List α} {p : α → Prop} {k : Nat} (h : ∀ j, j < k → p (l.getD j default)) (hk : p (l.getD k default)) : ∀ j, j < k + 1 → p (l.getD j default) := fun j hj => by
  rcases Nat.lt_or_ge j k with h1 | h1
  · exact h j h1
  · have : j = k := by omega
    subst this; exact hk
theorem sum_b {ps : List Po} {k : Nat} (hk : k ≤ 4) (h : ∀ j, j < k → 0 ≤ (ps.getD j default).c ∧ (ps.getD j default).c ≤ maxC) (hl : k ≤ ps.length) : 0 ≤ sumBy Po.c (ps.take k) ∧ sumBy Po.c (ps.take k) ≤ 4 * maxC := by
  have hm : ∀ p ∈ ps.take k, 0 ≤ p.c ∧ p.c ≤ maxC := fun p hp => by
    obtain ⟨i, hi, rfl⟩ := ZHw hp
    simp at hi
    have e : (ps.take k).getD i default = ps.getD i default := by simp [List.getD_eq_getElem?_getD, List.getElem?_take, show i < k by omega]
    rw [e]; exact h i (by omega)
  refine ⟨ZA1 _ _ fun p hp => (hm p hp).1, ?_⟩
  have h1 := ZGn Po.c maxC (ps.take k) fun p hp => (hm p hp).2
  have h2 : (ps.take k).length ≤ 4 := by simp; omega
  simp only [maxC] at *
  omega
theorem ZDC (ps : List Po) (cs : List Cl) (hps : okPs ps) (hcs : okCs cs) : Pure Try.prog 30 [avPs ps, avCs cs] (BL (decide (vP ps ∧ vC cs))) := by
  obtain ⟨hp1, hp2⟩ := id hps
  obtain ⟨hc1, hc2⟩ := id hcs
  refine ZAV (n := 64) (res := [.tmp 4]) hT Try.func30 rfl rfl rfl Try.ntmps30 (Nat.le_of_ble_eq_true rfl) fun B w0 => ?_
  by_cases hl : 4 < ps.length ∨ 64 < cs.length
  · rw [decide_eq_false (fun h => by rcases hl with hl | hl; exact absurd h.1.1 (by omega); exact absurd h.2.1 (by omega))]
    have b1 : (decide (4 < (ps.length : Int)) || decide (64 < (cs.length : Int))) = true := by rw [Bool.or_eq_true, decide_eq_true_eq, decide_eq_true_eq]; omega
    repeat' (first | ((first | refine sC hT fun K' hK' => ?_ | refine oC fun K' hK' => ?_); push_cast [b1]; (try simp (disch := omega) only [wrap64, Int.toNat_natCast]); (repeat refine ZAD ?_ ?_); (first | refine hK' _ ?_ | refine ⟨.v (.int .i64 0), hK' _ ?_⟩); clear hK' K') | (refine sK hT ?_; simp only [St.put]) | ((first | refine ZAE (hK _ ?_) | refine ZAJ (hK _ ?_)); clear hK K; push_cast) | ((first | apply ZAC | apply ZAF | apply ZAG | apply ZAM); push_cast) | refine ZAK fun K hK => ?_ | refine ZAN fun K hK => ?_ | refine dQ hT hm fun K hK => ?_ | refine dL hT hm fun K hK => ?_ | apply ZAA | apply ZAB | apply ZAL | (refine ZAH _ rfl (fun h => ?_) (fun h => ?_) <;> simp only [bh2, reduceCtorEq] at h))
    all_goals first | exact ff | skip
    all_goals done
  · have b1 : decide (4 < (ps.length : Int)) = false := decide_eq_false (by omega)
    have b2 : decide (64 < (cs.length : Int)) = false := decide_eq_false (by omega)
    repeat' (first | ((first | refine sC hT fun K' hK' => ?_ | refine oC fun K' hK' => ?_); push_cast [b1, b2]; (try simp (disch := omega) only [wrap64, Int.toNat_natCast]); (repeat refine ZAD ?_ ?_); (first | refine hK' _ ?_ | refine ⟨.v (.int .i64 0), hK' _ ?_⟩); clear hK' K') | (refine sK hT ?_; simp only [St.put]) | ((first | refine ZAE (hK _ ?_) | refine ZAJ (hK _ ?_)); clear hK K; push_cast) | ((first | apply ZAC | apply ZAF | apply ZAG | apply ZAM); push_cast) | refine ZAK fun K hK => ?_ | refine ZAN fun K hK => ?_ | refine dQ hT hm fun K hK => ?_ | refine dL hT hm fun K hK => ?_ | apply ZAA | apply ZAB | apply ZAL | (refine ZAH _ rfl (fun h => ?_) (fun h => ?_) <;> simp only [bh2, reduceCtorEq] at h))
    all_goals first | exact ff | skip
    refine ZAO (α := Nat) (fun k => ⟨[(0, avPs ps), (1, avCs cs), (5, I64 (sumBy Po.c (ps.take k))), (18, avPs ps), (19, I64 ps.length), (20, I64 k)], []⟩) (fun k => k ≤ ps.length ∧ ∀ j, j < k → 0 ≤ (ps.getD j default).c ∧ (ps.getD j default).c ≤ maxC) (fun k => ps.length - k) 0 ⟨Nat.zero_le _, fun j hj => by omega⟩ (G.wk ⟨rfl, rfl, rfl, rfl, rfl, rfl, trivial⟩ trivial) fun k hk => ?_
    obtain ⟨hkl, hall⟩ := hk
    have hsb := sum_b (ps := ps) (k := k) (by omega) hall hkl
    by_cases hlt : k < ps.length
    · have c1 : decide ((k : Int) < (ps.length : Int)) = true := decide_eq_true (by omega)
      have hst := ZAb Po.c ps k hlt
      by_cases hin : 0 ≤ (ps.getD k default).c ∧ (ps.getD k default).c ≤ maxC
      · have d1 : decide ((ps.getD k default).c < 0) = false := decide_eq_false (by omega)
        have d2 : decide (1000000000000 < (ps.getD k default).c) = false := decide_eq_false (by simp only [maxC] at hin; omega)
        simp only [maxC] at hin hsb
        repeat' (first | ((first | refine sC hT fun K' hK' => ?_ | refine oC fun K' hK' => ?_); push_cast [c1, d1, d2]; (try simp (disch := omega) only [wrap64, Int.toNat_natCast]); (repeat refine ZAD ?_ ?_); (first | refine hK' _ ?_ | refine ⟨.v (.int .i64 0), hK' _ ?_⟩); clear hK' K') | (refine sK hT ?_; simp only [St.put]) | ((first | refine ZAE (hK _ ?_) | refine ZAJ (hK _ ?_)); clear hK K; push_cast) | ((first | apply ZAC | apply ZAF | apply ZAG | apply ZAM); push_cast) | refine ZAK fun K hK => ?_ | refine ZAN fun K hK => ?_ | refine dQ hT hm fun K hK => ?_ | refine dL hT hm fun K hK => ?_ | apply ZAA | apply ZAB | apply ZAL | (refine ZAH _ rfl (fun h => ?_) (fun h => ?_) <;> simp only [bh2, reduceCtorEq] at h))
        all_goals first | exact ff | skip
        all_goals exact ⟨k + 1, ⟨⟨by omega, ZDB (p := fun p : Po => 0 ≤ p.c ∧ p.c ≤ maxC) hall hin⟩, by omega⟩, G.wk ⟨rfl, rfl, by rw [hst]; rfl, rfl, rfl, rfl, trivial⟩ trivial⟩
      · rw [decide_eq_false (fun h => notP hps hlt hin h.1)]
        have d1 : (decide ((ps.getD k default).c < 0) || decide (1000000000000 < (ps.getD k default).c)) = true := by rw [Bool.or_eq_true, decide_eq_true_eq, decide_eq_true_eq]; simp only [maxC] at hin; omega
        repeat' (first | ((first | refine sC hT fun K' hK' => ?_ | refine oC fun K' hK' => ?_); push_cast [c1, d1]; (try simp (disch := omega) only [wrap64, Int.toNat_natCast]); (repeat refine ZAD ?_ ?_); (first | refine hK' _ ?_ | refine ⟨.v (.int .i64 0), hK' _ ?_⟩); clear hK' K') | (refine sK hT ?_; simp only [St.put]) | ((first | refine ZAE (hK _ ?_) | refine ZAJ (hK _ ?_)); clear hK K; push_cast) | ((first | apply ZAC | apply ZAF | apply ZAG | apply ZAM); push_cast) | refine ZAK fun K hK => ?_ | refine ZAN fun K hK => ?_ | refine dQ hT hm fun K hK => ?_ | refine dL hT hm fun K hK => ?_ | apply ZAA | apply ZAB | apply ZAL | (refine ZAH _ rfl (fun h => ?_) (fun h => ?_) <;> simp only [bh2, reduceCtorEq] at h))
        all_goals first | exact ff | skip
        all_goals done
    · obtain rfl : k = ps.length := by omega
      have c1 : decide ((ps.length : Int) < (ps.length : Int)) = false := decide_eq_false (by omega)
      repeat' (first | ((first | refine sC hT fun K' hK' => ?_ | refine oC fun K' hK' => ?_); push_cast [c1]; (try simp (disch := omega) only [wrap64, Int.toNat_natCast]); (repeat refine ZAD ?_ ?_); (first | refine hK' _ ?_ | refine ⟨.v (.int .i64 0), hK' _ ?_⟩); clear hK' K') | (refine sK hT ?_; simp only [St.put]) | ((first | refine ZAE (hK _ ?_) | refine ZAJ (hK _ ?_)); clear hK K; push_cast) | ((first | apply ZAC | apply ZAF | apply ZAG | apply ZAM); push_cast) | refine ZAK fun K hK => ?_ | refine ZAN fun K hK => ?_ | refine dQ hT hm fun K hK => ?_ | refine dL hT hm fun K hK => ?_ | apply ZAA | apply ZAB | apply ZAL | (refine ZAH _ rfl (fun h => ?_) (fun h => ?_) <;> simp only [bh2, reduceCtorEq] at h))
      all_goals first | exact ff | skip
      refine ZAO (α := Nat) (fun k => ⟨[(5, I64 (sumBy Po.c (ps.take ps.length))), (37, avCs cs), (38, I64 cs.length), (39, I64 k)], []⟩) (fun k => k ≤ cs.length ∧ ∀ j, j < k → okCl (cs.getD j default)) (fun k => cs.length - k) 0 ⟨Nat.zero_le _, fun j hj => by omega⟩ (G.wk ⟨rfl, rfl, rfl, rfl, trivial⟩ trivial) fun k hk => ?_
      obtain ⟨hkl2, hall2⟩ := hk
      by_cases hlt2 : k < cs.length
      · have c2 : decide ((k : Int) < (cs.length : Int)) = true := decide_eq_true (by omega)
        by_cases hin : okCl (cs.getD k default)
        · have hin' := hin
          obtain ⟨⟨⟨q1, q2⟩, q3⟩, q4⟩ := hin'
          simp only [maxC] at q4
          have d1 : decide ((cs.getD k default).r < 0) = false := decide_eq_false (by omega)
          have d2 : decide (1000000 < (cs.getD k default).r) = false := decide_eq_false (by omega)
          have d3 : decide ((cs.getD k default).c < 0) = false := decide_eq_false (by omega)
          have d4 : decide (1000000000000 < (cs.getD k default).c) = false := decide_eq_false (by omega)
          repeat' (first | ((first | refine sC hT fun K' hK' => ?_ | refine oC fun K' hK' => ?_); push_cast [c2, d1, d2, d3, d4]; (try simp (disch := omega) only [wrap64, Int.toNat_natCast]); (repeat refine ZAD ?_ ?_); (first | refine hK' _ ?_ | refine ⟨.v (.int .i64 0), hK' _ ?_⟩); clear hK' K') | (refine sK hT ?_; simp only [St.put]) | ((first | refine ZAE (hK _ ?_) | refine ZAJ (hK _ ?_)); clear hK K; push_cast) | ((first | apply ZAC | apply ZAF | apply ZAG | apply ZAM); push_cast) | refine ZAK fun K hK => ?_ | refine ZAN fun K hK => ?_ | refine dQ hT hm fun K hK => ?_ | refine dL hT hm fun K hK => ?_ | apply ZAA | apply ZAB | apply ZAL | (refine ZAH _ rfl (fun h => ?_) (fun h => ?_) <;> simp only [bh2, reduceCtorEq] at h))
          all_goals first | exact ff | skip
          all_goals exact ⟨k + 1, ⟨⟨by omega, ZDB (p := okCl) hall2 hin⟩, by omega⟩, G.wk ⟨rfl, rfl, rfl, rfl, trivial⟩ trivial⟩
        · rw [decide_eq_false (fun h => notC hlt2 hin h.2)]
          have d1 : (((decide ((cs.getD k default).r < 0) || decide (1000000 < (cs.getD k default).r)) || decide ((cs.getD k default).c < 0)) || decide (1000000000000 < (cs.getD k default).c)) = true := by
            cases h : (((decide ((cs.getD k default).r < 0) || decide (1000000 < (cs.getD k default).r)) || decide ((cs.getD k default).c < 0)) || decide (1000000000000 < (cs.getD k default).c)) with
            | true => rfl
            | false =>
              simp only [Bool.or_eq_false_iff, decide_eq_false_iff_not] at h
              exact absurd (show okCl (cs.getD k default) from ⟨⟨⟨by omega, by omega⟩, by omega⟩, by simp only [maxC]; omega⟩) hin
          repeat' (first | ((first | refine sC hT fun K' hK' => ?_ | refine oC fun K' hK' => ?_); push_cast [c2, d1]; (try simp (disch := omega) only [wrap64, Int.toNat_natCast]); (repeat refine ZAD ?_ ?_); (first | refine hK' _ ?_ | refine ⟨.v (.int .i64 0), hK' _ ?_⟩); clear hK' K') | (refine sK hT ?_; simp only [St.put]) | ((first | refine ZAE (hK _ ?_) | refine ZAJ (hK _ ?_)); clear hK K; push_cast) | ((first | apply ZAC | apply ZAF | apply ZAG | apply ZAM); push_cast) | refine ZAK fun K hK => ?_ | refine ZAN fun K hK => ?_ | refine dQ hT hm fun K hK => ?_ | refine dL hT hm fun K hK => ?_ | apply ZAA | apply ZAB | apply ZAL | (refine ZAH _ rfl (fun h => ?_) (fun h => ?_) <;> simp only [bh2, reduceCtorEq] at h))
          all_goals first | exact ff | skip
          all_goals done
      · obtain rfl : k = cs.length := by omega
        have c2 : decide ((cs.length : Int) < (cs.length : Int)) = false := decide_eq_false (by omega)
        have e1 : decide (sumBy Po.c (ps.take ps.length) ≤ 1000000000000) = decide (vP ps ∧ vC cs) := by
          rw [List.take_length]
          refine decide_eq_decide.2 ⟨fun h => ⟨⟨by omega, fun p hp => (ZD1 (l := ps) (p := fun p => 0 ≤ p.c) (fun j hj => (hall j hj).1)) p hp, h⟩, by omega, ZD1 (l := cs) (p := okCl) hall2⟩, fun h => h.1.2.2⟩
        rw [← e1]
        repeat' (first | ((first | refine sC hT fun K' hK' => ?_ | refine oC fun K' hK' => ?_); push_cast [c2]; (try simp (disch := omega) only [wrap64, Int.toNat_natCast]); (repeat refine ZAD ?_ ?_); (first | refine hK' _ ?_ | refine ⟨.v (.int .i64 0), hK' _ ?_⟩); clear hK' K') | (refine sK hT ?_; simp only [St.put]) | ((first | refine ZAE (hK _ ?_) | refine ZAJ (hK _ ?_)); clear hK K; push_cast) | ((first | apply ZAC | apply ZAF | apply ZAG | apply ZAM); push_cast) | refine ZAK fun K hK => ?_ | refine ZAN fun K hK => ?_ | refine dQ hT hm fun K hK => ?_ | refine dL hT hm fun K hK => ?_ | apply ZAA | apply ZAB | apply ZAL | (refine ZAH _ rfl (fun h => ?_) (fun h => ?_) <;> simp only [bh2, reduceCtorEq] at h))
        all_goals first | exact ff | skip
        all_goals done
end Go.Proofs.Ythgjjhddbigfcaa
