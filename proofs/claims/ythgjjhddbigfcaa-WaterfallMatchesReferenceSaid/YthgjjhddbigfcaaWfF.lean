/- Part of a proof about the given program: contracts of its functions (see the comment of the last text). -/
import Derived.Test.YthgjjhddbigfcaaWfE
namespace Go.Proofs.Ythgjjhddbigfcaa
open Go.Eng Go.Proofs Go.Wf
set_option linter.unusedSimpArgs false
set_option linter.unusedVariables false
attribute [local irreducible] AOps AOpsX AOps2 AOpsS AWP AAnyS Go.Eng.Pure PureRow Eff
theorem same_ok (a b : Gr) (ha : okG a) (hb : okG b) : Pure Try.prog 17 [.a (avG a), .a (avG b)] (BL (decide (a = b))) := by
  obtain ⟨ac, af⟩ := a
  obtain ⟨bc, bf⟩ := b
  obtain ⟨⟨a1, a2⟩, a3, a4⟩ := ha
  obtain ⟨⟨b1, b2⟩, b3, b4⟩ := hb
  simp only at a2 a3 a4 b2 b3 b4
  have hc := ZFL ac bc a2 b2
  refine ZAV (n := 40) (res := [.tmp 4]) hT Try.func17 rfl rfl rfl Try.ntmps17 (Nat.le_of_ble_eq_true rfl) fun B w0 => ?_
  by_cases h1 : ac = bc
  · rw [decide_eq_true h1] at hc
    by_cases h2 : af.length = bf.length
    · have d1 : ((af.length : Int) != (bf.length : Int)) = false := bne_eq_false_iff_eq.2 (by omega)
      repeat' (first | ((first | refine sC hT fun K' hK' => ?_ | refine oC fun K' hK' => ?_); push_cast [d1]; (try simp (disch := omega) only [wrap64, Int.toNat_natCast]); (repeat refine ZAD ?_ ?_); (first | refine hK' _ ?_ | ((first | apply con1 | (apply con3; exact gd) | apply con2); (try intro hb); (first | exact hc); exact okr; refine hK' _ ?_) | refine ⟨.v (.int .i64 0), hK' _ ?_⟩); clear hK' K') | (refine sK hT ?_; simp only [St.put]) | ((first | refine ZAE (hK _ ?_) | refine ZAJ (hK _ ?_)); clear hK K; push_cast) | ((first | apply ZAC | apply ZAF | apply ZAG | apply ZAM); push_cast) | refine ZAK fun K hK => ?_ | refine ZAN fun K hK => ?_ | refine dQ hT hm fun K hK => ?_ | refine dL hT hm fun K hK => ?_ | apply ZAA | apply ZAB | apply ZAL | (refine ZAH _ rfl (fun h => ?_) (fun h => ?_) <;> simp only [bh2, reduceCtorEq] at h))
      all_goals first | exact ff | skip
      refine ZAO (α := Nat) (fun k => ⟨[(2, .p 2 0), (3, .p 3 0), (5, I64 k)], [(2, .box 27 (.avs [ints ac, avLL af])), (3, .box 27 (.avs [ints bc, avLL bf]))]⟩) (fun k => k ≤ af.length ∧ ∀ j, j < k → af.getD j default = bf.getD j default) (fun k => af.length - k) 0 ⟨Nat.zero_le _, fun j hj => by omega⟩ (G.wk ⟨rfl, rfl, rfl, trivial⟩ ⟨rfl, rfl, trivial⟩) fun k hk => ?_
      obtain ⟨hk, hall⟩ := hk
      by_cases hlt : k < af.length
      · have c1 : decide ((k : Int) < (af.length : Int)) = true := decide_eq_true (by omega)
        have hi := ZFL (af.getD k default) (bf.getD k default) (a3 _ (ZAc hlt)).2 (b3 _ (ZAc (l := bf) (i := k) (by omega))).2
        by_cases he : af.getD k default = bf.getD k default
        · rw [decide_eq_true he] at hi
          repeat' (first | ((first | refine sC hT fun K' hK' => ?_ | refine oC fun K' hK' => ?_); push_cast [c1]; (try simp (disch := omega) only [wrap64, Int.toNat_natCast]); (repeat refine ZAD ?_ ?_); (first | refine hK' _ ?_ | ((first | apply con1 | (apply con3; exact gd) | apply con2); (try intro hb); (first | exact hi); exact okr; refine hK' _ ?_) | refine ⟨.v (.int .i64 0), hK' _ ?_⟩); clear hK' K') | (refine sK hT ?_; simp only [St.put]) | ((first | refine ZAE (hK _ ?_) | refine ZAJ (hK _ ?_)); clear hK K; push_cast) | ((first | apply ZAC | apply ZAF | apply ZAG | apply ZAM); push_cast) | refine ZAK fun K hK => ?_ | refine ZAN fun K hK => ?_ | refine dQ hT hm fun K hK => ?_ | refine dL hT hm fun K hK => ?_ | apply ZAA | apply ZAB | apply ZAL | (refine ZAH _ rfl (fun h => ?_) (fun h => ?_) <;> simp only [bh2, reduceCtorEq] at h))
          all_goals first | exact ff | skip
          all_goals exact ⟨k + 1, ⟨⟨by omega, fun j hj => by rcases Nat.lt_or_ge j k with h | h; exact hall j h; rw [show j = k by omega]; exact he⟩, by omega⟩, G.wk ⟨rfl, rfl, rfl, trivial⟩ ⟨rfl, rfl, trivial⟩⟩
        · rw [decide_eq_false he] at hi
          rw [decide_eq_false (fun h => he (by injection h with h3 h4; rw [h4]))]
          repeat' (first | ((first | refine sC hT fun K' hK' => ?_ | refine oC fun K' hK' => ?_); push_cast [c1]; (try simp (disch := omega) only [wrap64, Int.toNat_natCast]); (repeat refine ZAD ?_ ?_); (first | refine hK' _ ?_ | ((first | apply con1 | (apply con3; exact gd) | apply con2); (try intro hb); (first | exact hi); exact okr; refine hK' _ ?_) | refine ⟨.v (.int .i64 0), hK' _ ?_⟩); clear hK' K') | (refine sK hT ?_; simp only [St.put]) | ((first | refine ZAE (hK _ ?_) | refine ZAJ (hK _ ?_)); clear hK K; push_cast) | ((first | apply ZAC | apply ZAF | apply ZAG | apply ZAM); push_cast) | refine ZAK fun K hK => ?_ | refine ZAN fun K hK => ?_ | refine dQ hT hm fun K hK => ?_ | refine dL hT hm fun K hK => ?_ | apply ZAA | apply ZAB | apply ZAL | (refine ZAH _ rfl (fun h => ?_) (fun h => ?_) <;> simp only [bh2, reduceCtorEq] at h))
          all_goals first | exact ff | skip
          all_goals done
      · obtain rfl : k = af.length := by omega
        have c1 : decide ((af.length : Int) < (af.length : Int)) = false := decide_eq_false (by omega)
        rw [decide_eq_true (show (⟨ac, af⟩ : Gr) = ⟨bc, bf⟩ by rw [h1, ZD6 default h2 hall])]
        repeat' (first | ((first | refine sC hT fun K' hK' => ?_ | refine oC fun K' hK' => ?_); push_cast [c1]; (try simp (disch := omega) only [wrap64, Int.toNat_natCast]); (repeat refine ZAD ?_ ?_); (first | refine hK' _ ?_ | refine ⟨.v (.int .i64 0), hK' _ ?_⟩); clear hK' K') | (refine sK hT ?_; simp only [St.put]) | ((first | refine ZAE (hK _ ?_) | refine ZAJ (hK _ ?_)); clear hK K; push_cast) | ((first | apply ZAC | apply ZAF | apply ZAG | apply ZAM); push_cast) | refine ZAK fun K hK => ?_ | refine ZAN fun K hK => ?_ | refine dQ hT hm fun K hK => ?_ | refine dL hT hm fun K hK => ?_ | apply ZAA | apply ZAB | apply ZAL | (refine ZAH _ rfl (fun h => ?_) (fun h => ?_) <;> simp only [bh2, reduceCtorEq] at h))
        all_goals first | exact ff | skip
        all_goals done
    · have d1 : ((af.length : Int) != (bf.length : Int)) = true := bne_iff_ne.2 (by omega)
      rw [decide_eq_false (fun h => h2 (by injection h with h3 h4; rw [h4]))]
      repeat' (first | ((first | refine sC hT fun K' hK' => ?_ | refine oC fun K' hK' => ?_); push_cast [d1]; (try simp (disch := omega) only [wrap64, Int.toNat_natCast]); (repeat refine ZAD ?_ ?_); (first | refine hK' _ ?_ | ((first | apply con1 | (apply con3; exact gd) | apply con2); (try intro hb); (first | exact hc); exact okr; refine hK' _ ?_) | refine ⟨.v (.int .i64 0), hK' _ ?_⟩); clear hK' K') | (refine sK hT ?_; simp only [St.put]) | ((first | refine ZAE (hK _ ?_) | refine ZAJ (hK _ ?_)); clear hK K; push_cast) | ((first | apply ZAC | apply ZAF | apply ZAG | apply ZAM); push_cast) | refine ZAK fun K hK => ?_ | refine ZAN fun K hK => ?_ | refine dQ hT hm fun K hK => ?_ | refine dL hT hm fun K hK => ?_ | apply ZAA | apply ZAB | apply ZAL | (refine ZAH _ rfl (fun h => ?_) (fun h => ?_) <;> simp only [bh2, reduceCtorEq] at h))
      all_goals first | exact ff | skip
      all_goals done
  · rw [decide_eq_false h1] at hc
    rw [decide_eq_false (fun h => h1 (by injection h))]
    repeat' (first | ((first | refine sC hT fun K' hK' => ?_ | refine oC fun K' hK' => ?_); push_cast; (try simp (disch := omega) only [wrap64, Int.toNat_natCast]); (repeat refine ZAD ?_ ?_); (first | refine hK' _ ?_ | ((first | apply con1 | (apply con3; exact gd) | apply con2); (try intro hb); (first | exact hc); exact okr; refine hK' _ ?_) | refine ⟨.v (.int .i64 0), hK' _ ?_⟩); clear hK' K') | (refine sK hT ?_; simp only [St.put]) | ((first | refine ZAE (hK _ ?_) | refine ZAJ (hK _ ?_)); clear hK K; push_cast) | ((first | apply ZAC | apply ZAF | apply ZAG | apply ZAM); push_cast) | refine ZAK fun K hK => ?_ | refine ZAN fun K hK => ?_ | refine dQ hT hm fun K hK => ?_ | refine dL hT hm fun K hK => ?_ | apply ZAA | apply ZAB | apply ZAL | (refine ZAH _ rfl (fun h => ?_) (fun h => ?_) <;> simp only [bh2, reduceCtorEq] at h))
    all_goals first | exact ff | skip
    all_goals done
/-- Few pools, claims and grants. -/
def smF (ps : List Po) (cs : List Cl) (g : Gr) : Prop := (((ps.length ≤ 8 ∧ cs.length ≤ 70) ∧ g.c.length ≤ 80) ∧ g.fr.length ≤ 80) ∧ ∀ l ∈ g.fr, l.length ≤ 10
instance (ps : List Po) (cs : List Cl) (g : Gr) : Decidable (smF ps cs g) := by unfold smF; exact inferInstance
theorem small_ok (ps : List Po) (cs : List Cl) (g : Gr) (hps : okPs ps) (hcs : okCs cs) (hg : okG g) : Pure Try.prog 12 [avPs ps, avCs cs, .a (avG g)] (BL (decide (smF ps cs g))) := by
  obtain ⟨gc, gf⟩ := g
  obtain ⟨⟨a1, a2⟩, a3, a4⟩ := hg
  have hp := hps.2
  have hc := hcs.2
  refine ZAV (n := 42) (res := [.tmp 6]) hT Try.func12 rfl rfl rfl Try.ntmps12 (Nat.le_of_ble_eq_true rfl) fun B w0 => ?_
  by_cases hsm : ((ps.length ≤ 8 ∧ cs.length ≤ 70) ∧ gc.length ≤ 80) ∧ gf.length ≤ 80
  · have d1 : decide (8 < (ps.length : Int)) = false := decide_eq_false (by omega)
    have d2 : decide (70 < (cs.length : Int)) = false := decide_eq_false (by omega)
    have d3 : decide (80 < (gc.length : Int)) = false := decide_eq_false (by omega)
    have d4 : decide (80 < (gf.length : Int)) = false := decide_eq_false (by omega)
    repeat' (first | ((first | refine sC hT fun K' hK' => ?_ | refine oC fun K' hK' => ?_); push_cast [d1, d2, d3, d4]; (try simp (disch := omega) only [wrap64, Int.toNat_natCast]); (repeat refine ZAD ?_ ?_); (first | refine hK' _ ?_ | refine ⟨.v (.int .i64 0), hK' _ ?_⟩); clear hK' K') | (refine sK hT ?_; simp only [St.put]) | ((first | refine ZAE (hK _ ?_) | refine ZAJ (hK _ ?_)); clear hK K; push_cast) | ((first | apply ZAC | apply ZAF | apply ZAG | apply ZAM); push_cast) | refine ZAK fun K hK => ?_ | refine ZAN fun K hK => ?_ | refine dQ hT hm fun K hK => ?_ | refine dL hT hm fun K hK => ?_ | apply ZAA | apply ZAB | apply ZAL | (refine ZAH _ rfl (fun h => ?_) (fun h => ?_) <;> simp only [bh2, reduceCtorEq] at h))
    all_goals first | exact ff | skip
    refine ZAO (α := Nat) (fun k => ⟨[(5, .p 5 0), (7, I64 k)], [(5, .box 27 (.avs [ints gc, avLL gf]))]⟩) (fun k => k ≤ gf.length ∧ ∀ j, j < k → (gf.getD j default).length ≤ 10) (fun k => gf.length - k) 0 ⟨Nat.zero_le _, fun j hj => by omega⟩ (G.wk ⟨rfl, rfl, trivial⟩ ⟨rfl, trivial⟩) fun k hk => ?_
    obtain ⟨hk, hall⟩ := hk
    by_cases hlt : k < gf.length
    · have c1 : decide ((k : Int) < (gf.length : Int)) = true := decide_eq_true (by omega)
      by_cases he : (gf.getD k default).length ≤ 10
      · have c2 : decide (10 < ((gf.getD k default).length : Int)) = false := decide_eq_false (by omega)
        repeat' (first | ((first | refine sC hT fun K' hK' => ?_ | refine oC fun K' hK' => ?_); push_cast [c1, c2]; (try simp (disch := omega) only [wrap64, Int.toNat_natCast]); (repeat refine ZAD ?_ ?_); (first | refine hK' _ ?_ | refine ⟨.v (.int .i64 0), hK' _ ?_⟩); clear hK' K') | (refine sK hT ?_; simp only [St.put]) | ((first | refine ZAE (hK _ ?_) | refine ZAJ (hK _ ?_)); clear hK K; push_cast) | ((first | apply ZAC | apply ZAF | apply ZAG | apply ZAM); push_cast) | refine ZAK fun K hK => ?_ | refine ZAN fun K hK => ?_ | refine dQ hT hm fun K hK => ?_ | refine dL hT hm fun K hK => ?_ | apply ZAA | apply ZAB | apply ZAL | (refine ZAH _ rfl (fun h => ?_) (fun h => ?_) <;> simp only [bh2, reduceCtorEq] at h))
        all_goals first | exact ff | skip
        all_goals exact ⟨k + 1, ⟨⟨by omega, ZDB (p := fun l : List Int => l.length ≤ 10) hall he⟩, by omega⟩, G.wk ⟨rfl, rfl, trivial⟩ ⟨rfl, trivial⟩⟩
      · have c2 : decide (10 < ((gf.getD k default).length : Int)) = true := decide_eq_true (by omega)
        rw [decide_eq_false (fun hh => he (hh.2 _ (ZAc hlt)))]
        repeat' (first | ((first | refine sC hT fun K' hK' => ?_ | refine oC fun K' hK' => ?_); push_cast [c1, c2]; (try simp (disch := omega) only [wrap64, Int.toNat_natCast]); (repeat refine ZAD ?_ ?_); (first | refine hK' _ ?_ | refine ⟨.v (.int .i64 0), hK' _ ?_⟩); clear hK' K') | (refine sK hT ?_; simp only [St.put]) | ((first | refine ZAE (hK _ ?_) | refine ZAJ (hK _ ?_)); clear hK K; push_cast) | ((first | apply ZAC | apply ZAF | apply ZAG | apply ZAM); push_cast) | refine ZAK fun K hK => ?_ | refine ZAN fun K hK => ?_ | refine dQ hT hm fun K hK => ?_ | refine dL hT hm fun K hK => ?_ | apply ZAA | apply ZAB | apply ZAL | (refine ZAH _ rfl (fun h => ?_) (fun h => ?_) <;> simp only [bh2, reduceCtorEq] at h))
        all_goals first | exact ff | skip
        all_goals done
    · obtain rfl : k = gf.length := by omega
      have c1 : decide ((gf.length : Int) < (gf.length : Int)) = false := decide_eq_false (by omega)
      rw [decide_eq_true (show smF ps cs ⟨gc, gf⟩ from ⟨hsm, ZD1 (l := gf) (p := fun l => l.length ≤ 10) hall⟩)]
      repeat' (first | ((first | refine sC hT fun K' hK' => ?_ | refine oC fun K' hK' => ?_); push_cast [c1]; (try simp (disch := omega) only [wrap64, Int.toNat_natCast]); (repeat refine ZAD ?_ ?_); (first | refine hK' _ ?_ | refine ⟨.v (.int .i64 0), hK' _ ?_⟩); clear hK' K') | (refine sK hT ?_; simp only [St.put]) | ((first | refine ZAE (hK _ ?_) | refine ZAJ (hK _ ?_)); clear hK K; push_cast) | ((first | apply ZAC | apply ZAF | apply ZAG | apply ZAM); push_cast) | refine ZAK fun K hK => ?_ | refine ZAN fun K hK => ?_ | refine dQ hT hm fun K hK => ?_ | refine dL hT hm fun K hK => ?_ | apply ZAA | apply ZAB | apply ZAL | (refine ZAH _ rfl (fun h => ?_) (fun h => ?_) <;> simp only [bh2, reduceCtorEq] at h))
      all_goals first | exact ff | skip
      all_goals done
  · have d1 : (((decide (8 < (ps.length : Int)) || decide (70 < (cs.length : Int))) || decide (80 < (gc.length : Int))) || decide (80 < (gf.length : Int))) = true := by
      cases h2 : (((decide (8 < (ps.length : Int)) || decide (70 < (cs.length : Int))) || decide (80 < (gc.length : Int))) || decide (80 < (gf.length : Int))) with
      | true => rfl
      | false =>
        simp only [Bool.or_eq_false_iff, decide_eq_false_iff_not] at h2
        exact absurd ⟨⟨⟨by omega, by omega⟩, by omega⟩, by omega⟩ hsm
    rw [decide_eq_false (fun hh => hsm hh.1)]
    repeat' (first | ((first | refine sC hT fun K' hK' => ?_ | refine oC fun K' hK' => ?_); push_cast [d1]; (try simp (disch := omega) only [wrap64, Int.toNat_natCast]); (repeat refine ZAD ?_ ?_); (first | refine hK' _ ?_ | refine ⟨.v (.int .i64 0), hK' _ ?_⟩); clear hK' K') | (refine sK hT ?_; simp only [St.put]) | ((first | refine ZAE (hK _ ?_) | refine ZAJ (hK _ ?_)); clear hK K; push_cast) | ((first | apply ZAC | apply ZAF | apply ZAG | apply ZAM); push_cast) | refine ZAK fun K hK => ?_ | refine ZAN fun K hK => ?_ | refine dQ hT hm fun K hK => ?_ | refine dL hT hm fun K hK => ?_ | apply ZAA | apply ZAB | apply ZAL | (refine ZAH _ rfl (fun h => ?_) (fun h => ?_) <;> simp only [bh2, reduceCtorEq] at h))
    all_goals first | exact ff | skip
    all_goals done
/-- Whether a claim can reach a pool outside of a cut. -/
def reachP (ps : List Po) (cut : List Bool) (c : Cl) (k : Nat) : Prop := cut.getD k false = false ∧ (c.f = true ∨ (ps.getD k default).f = false)
instance (ps : List Po) (cut : List Bool) (c : Cl) (k : Nat) : Decidable (reachP ps cut c k) := by unfold reachP; exact inferInstance
theorem vsum_ok (l : List Int) (h64 : l.length ≤ 64) (hd : bd maxC l) : Pure Try.prog 53 [ints l] (I64 (sumI l)) := by
  have hb : ∀ k, k ≤ l.length → 0 ≤ sumN (fun i => l.getD i 0) k ∧ sumN (fun i => l.getD i 0) k ≤ 1000000000000 * k := fun k hk => ZA8 _ _ k fun i hi => hd i (by omega)
  refine ZAV (n := 17) (res := [.tmp 2]) hT Try.func53 rfl rfl rfl Try.ntmps53 (Nat.le_of_ble_eq_true rfl) fun B w0 => ?_
  repeat' (first | ((first | refine sC hT fun K' hK' => ?_ | refine oC fun K' hK' => ?_); push_cast; (try simp (disch := omega) only [wrap64, Int.toNat_natCast]); (repeat refine ZAD ?_ ?_); (first | refine hK' _ ?_ | refine ⟨.v (.int .i64 0), hK' _ ?_⟩); clear hK' K') | (refine sK hT ?_; simp only [St.put]) | ((first | refine ZAE (hK _ ?_) | refine ZAJ (hK _ ?_)); clear hK K; push_cast) | ((first | apply ZAC | apply ZAF | apply ZAG | apply ZAM); push_cast) | refine ZAK fun K hK => ?_ | refine ZAN fun K hK => ?_ | refine dQ hT hm fun K hK => ?_ | refine dL hT hm fun K hK => ?_ | apply ZAA | apply ZAB | apply ZAL | (refine ZAH _ rfl (fun h => ?_) (fun h => ?_) <;> simp only [bh2, reduceCtorEq] at h))
  all_goals first | exact ff | skip
  refine ZAO (α := Nat) (fun k => ⟨[(3, I64 (sumN (fun i => l.getD i 0) k)), (6, ints l), (7, I64 l.length), (8, I64 k)], []⟩) (fun k => k ≤ l.length) (fun k => l.length - k) 0 (Nat.zero_le _) (G.wk ⟨rfl, rfl, rfl, rfl, trivial⟩ trivial) fun k hk => ?_
  have h1 := hb k hk
  by_cases hlt : k < l.length
  · have c1 : decide ((k : Int) < (l.length : Int)) = true := decide_eq_true (by omega)
    have hdk := hd k (by omega)
    simp only [maxC] at hdk
    repeat' (first | ((first | refine sC hT fun K' hK' => ?_ | refine oC fun K' hK' => ?_); push_cast [c1]; (try simp (disch := omega) only [wrap64, Int.toNat_natCast]); (repeat refine ZAD ?_ ?_); (first | refine hK' _ ?_ | refine ⟨.v (.int .i64 0), hK' _ ?_⟩); clear hK' K') | (refine sK hT ?_; simp only [St.put]) | ((first | refine ZAE (hK _ ?_) | refine ZAJ (hK _ ?_)); clear hK K; push_cast) | ((first | apply ZAC | apply ZAF | apply ZAG | apply ZAM); push_cast) | refine ZAK fun K hK => ?_ | refine ZAN fun K hK => ?_ | refine dQ hT hm fun K hK => ?_ | refine dL hT hm fun K hK => ?_ | apply ZAA | apply ZAB | apply ZAL | (refine ZAH _ rfl (fun h => ?_) (fun h => ?_) <;> simp only [bh2, reduceCtorEq] at h))
    all_goals first | exact ff | skip
    all_goals exact ⟨k + 1, ⟨by omega, by omega⟩, G.wk ⟨rfl, rfl, rfl, rfl, trivial⟩ trivial⟩
  · obtain rfl : k = l.length := by omega
    have c1 : decide ((l.length : Int) < (l.length : Int)) = false := decide_eq_false (by omega)
    unfold sumI
    repeat' (first | ((first | refine sC hT fun K' hK' => ?_ | refine oC fun K' hK' => ?_); push_cast [c1]; (try simp (disch := omega) only [wrap64, Int.toNat_natCast]); (repeat refine ZAD ?_ ?_); (first | refine hK' _ ?_ | refine ⟨.v (.int .i64 0), hK' _ ?_⟩); clear hK' K') | (refine sK hT ?_; simp only [St.put]) | ((first | refine ZAE (hK _ ?_) | refine ZAJ (hK _ ?_)); clear hK K; push_cast) | ((first | apply ZAC | apply ZAF | apply ZAG | apply ZAM); push_cast) | refine ZAK fun K hK => ?_ | refine ZAN fun K hK => ?_ | refine dQ hT hm fun K hK => ?_ | refine dL hT hm fun K hK => ?_ | apply ZAA | apply ZAB | apply ZAL | (refine ZAH _ rfl (fun h => ?_) (fun h => ?_) <;> simp only [bh2, reduceCtorEq] at h))
    all_goals first | exact ff | skip
    all_goals done
theorem rtotal_ok (d : List Int) (l : List Nat) (h64 : l.length ≤ 64) (hl : ∀ i ∈ l, i < d.length) (hd : bd maxC d) (hdl : d.length ≤ 64) : Pure Try.prog 59 [ints d, ints (toI l)] (I64 (sumI (sel d l))) := by
  rw [ZGq]
  have hb : ∀ k, k ≤ l.length → 0 ≤ sumN (fun k => d.getD (l.getD k 0) 0) k ∧ sumN (fun k => d.getD (l.getD k 0) 0) k ≤ 1000000000000 * k := fun k hk => ZA8 _ _ k fun i hi => hd _ (hl _ (ZA2 (by omega)))
  refine ZAV (n := 23) (res := [.tmp 4]) hT Try.func59 rfl rfl rfl Try.ntmps59 (Nat.le_of_ble_eq_true rfl) fun B w0 => ?_
  repeat' (first | ((first | refine sC hT fun K' hK' => ?_ | refine oC fun K' hK' => ?_); push_cast; (try simp (disch := omega) only [wrap64, Int.toNat_natCast]); (repeat refine ZAD ?_ ?_); (first | refine hK' _ ?_ | refine ⟨.v (.int .i64 0), hK' _ ?_⟩); clear hK' K') | (refine sK hT ?_; simp only [St.put]) | ((first | refine ZAE (hK _ ?_) | refine ZAJ (hK _ ?_)); clear hK K; push_cast) | ((first | apply ZAC | apply ZAF | apply ZAG | apply ZAM); push_cast) | refine ZAK fun K hK => ?_ | refine ZAN fun K hK => ?_ | refine dQ hT hm fun K hK => ?_ | refine dL hT hm fun K hK => ?_ | apply ZAA | apply ZAB | apply ZAL | (refine ZAH _ rfl (fun h => ?_) (fun h => ?_) <;> simp only [bh2, reduceCtorEq] at h))
  all_goals first | exact ff | skip
  refine ZAO (α := Nat) (fun k => ⟨[(0, ints d), (1, ints (toI l)), (5, I64 (sumN (fun k => d.getD (l.getD k 0) 0) k)), (6, I64 k)], []⟩) (fun k => k ≤ l.length) (fun k => l.length - k) 0 (Nat.zero_le _) (G.wk ⟨rfl, rfl, rfl, rfl, trivial⟩ trivial) fun k hk => ?_
  have h1 := hb k hk
  have htl := ZBR l
  by_cases hlt : k < l.length
  · have c1 : decide ((k : Int) < (l.length : Int)) = true := decide_eq_true (by omega)
    have hli := hl _ (ZA2 hlt)
    have hdk := hd _ hli
    have hti := ZBU hlt
    simp only [maxC] at hdk
    repeat' (first | ((first | refine sC hT fun K' hK' => ?_ | refine oC fun K' hK' => ?_); push_cast [c1, htl, hti]; (try simp (disch := omega) only [wrap64, Int.toNat_natCast]); (repeat refine ZAD ?_ ?_); (first | refine hK' _ ?_ | refine ⟨.v (.int .i64 0), hK' _ ?_⟩); clear hK' K') | (refine sK hT ?_; simp only [St.put]) | ((first | refine ZAE (hK _ ?_) | refine ZAJ (hK _ ?_)); clear hK K; push_cast) | ((first | apply ZAC | apply ZAF | apply ZAG | apply ZAM); push_cast) | refine ZAK fun K hK => ?_ | refine ZAN fun K hK => ?_ | refine dQ hT hm fun K hK => ?_ | refine dL hT hm fun K hK => ?_ | apply ZAA | apply ZAB | apply ZAL | (refine ZAH _ rfl (fun h => ?_) (fun h => ?_) <;> simp only [bh2, reduceCtorEq] at h))
    all_goals first | exact ff | skip
    all_goals exact ⟨k + 1, ⟨by omega, by omega⟩, G.wk ⟨rfl, by rw [htl]; rfl, rfl, rfl, trivial⟩ trivial⟩
  · obtain rfl : k = l.length := by omega
    have c1 : decide ((l.length : Int) < (l.length : Int)) = false := decide_eq_false (by omega)
    repeat' (first | ((first | refine sC hT fun K' hK' => ?_ | refine oC fun K' hK' => ?_); push_cast [c1, htl]; (try simp (disch := omega) only [wrap64, Int.toNat_natCast]); (repeat refine ZAD ?_ ?_); (first | refine hK' _ ?_ | refine ⟨.v (.int .i64 0), hK' _ ?_⟩); clear hK' K') | (refine sK hT ?_; simp only [St.put]) | ((first | refine ZAE (hK _ ?_) | refine ZAJ (hK _ ?_)); clear hK K; push_cast) | ((first | apply ZAC | apply ZAF | apply ZAG | apply ZAM); push_cast) | refine ZAK fun K hK => ?_ | refine ZAN fun K hK => ?_ | refine dQ hT hm fun K hK => ?_ | refine dL hT hm fun K hK => ?_ | apply ZAA | apply ZAB | apply ZAL | (refine ZAH _ rfl (fun h => ?_) (fun h => ?_) <;> simp only [bh2, reduceCtorEq] at h))
    all_goals first | exact ff | skip
    all_goals done
end Go.Proofs.Ythgjjhddbigfcaa
