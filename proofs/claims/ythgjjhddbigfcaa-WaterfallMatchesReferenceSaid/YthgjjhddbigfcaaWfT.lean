/- Part of a proof about the given program: contracts of its functions (see the comment of the last text). -/
import Derived.Test.YthgjjhddbigfcaaWfF
import Derived.Test.YthgjjhddbigfcaaPl3
namespace Go.Proofs.Ythgjjhddbigfcaa
open Go.Eng Go.Proofs Go.Wf
set_option linter.unusedSimpArgs false
set_option linter.unusedVariables false
attribute [local irreducible] AOps AOpsX AOps2 AOpsS AWP AAnyS Go.Eng.Pure PureRow Eff
set_option maxHeartbeats 64000000 in
theorem ZKN (ps : List Po) (cs : List Cl) (g : Gr) (hp : vP ps) (hv : vC cs) (hg : okG g) : Pure Try.prog 45 [avPs ps, avCs cs, .a (avG g)] (BL (decide (fea ps cs g.c g.fr))) := by
  obtain ⟨gc, gf⟩ := g
  obtain ⟨⟨a1, a2⟩, a3, a4⟩ := hg
  simp only at a1 a2 a3 a4
  have h4 := hp.1
  have h64 := hv.1
  refine ZAV (n := 140) (res := [.tmp 6]) hT Try.func45 rfl rfl rfl Try.ntmps45 (Nat.le_of_ble_eq_true rfl) fun B w0 => ?_
  by_cases h1 : gc.length = cs.length
  · have d1 : ((gc.length : Int) != (cs.length : Int)) = false := bne_eq_false_iff_eq.2 (by omega)
    by_cases h2 : gf.length = cs.length
    · have d2 : ((gf.length : Int) != (cs.length : Int)) = false := bne_eq_false_iff_eq.2 (by omega)
      repeat' (first | ((first | refine sC hT fun K' hK' => ?_ | refine oC fun K' hK' => ?_); push_cast [d1, d2]; (try simp (disch := omega) only [wrap64, Int.toNat_natCast]); (repeat refine ZAD ?_ ?_); (first | refine hK' _ ?_ | refine ⟨.v (.int .i64 0), hK' _ ?_⟩); clear hK' K') | (refine sK hT ?_; simp only [St.put]) | ((first | refine ZAE (hK _ ?_) | refine ZAJ (hK _ ?_)); clear hK K; push_cast) | ((first | apply ZAC | apply ZAF | apply ZAG | apply ZAM); push_cast) | refine ZAK fun K hK => ?_ | refine ZAN fun K hK => ?_ | refine dQ hT hm fun K hK => ?_ | refine dL hT hm fun K hK => ?_ | apply ZAA | apply ZAB | apply ZAL | (refine ZAH _ rfl (fun h => ?_) (fun h => ?_) <;> simp only [bh2, reduceCtorEq] at h))
      all_goals first | exact ff | skip
      refine ZAO (α := Nat) (fun i => ⟨[(0, avPs ps), (1, avCs cs), (5, .p 5 0), (7, .s 29), (8, I64 i)], [(29, .row 3 1 (.ints .i64 (gvn gf ps.length i 0))), (5, .box 27 (.avs [ints gc, avLL gf]))]⟩) (fun i => i ≤ cs.length ∧ ∀ j, j < i → rowQ ps cs gc gf j) (fun i => cs.length - i) 0 ⟨Nat.zero_le _, fun j hj => by omega⟩ (G.wk ⟨rfl, rfl, rfl, rfl, rfl, trivial⟩ ⟨by rw [ZG5]; rfl, rfl, trivial⟩) fun i hi => ?_
      obtain ⟨hi, hall⟩ := hi
      have hgl := ZFc gf ps.length i 0
      by_cases hlt : i < cs.length
      · have c1 : decide ((i : Int) < (cs.length : Int)) = true := decide_eq_true (by omega)
        by_cases hl : (gf.getD i default).length = ps.length
        · have c2 : (((gf.getD i default).length : Int) != (ps.length : Int)) = false := bne_eq_false_iff_eq.2 (by omega)
          by_cases hc0 : 0 ≤ gc.getD i 0
          · have c3 : decide (gc.getD i 0 < 0) = false := decide_eq_false (by omega)
            by_cases hc1 : gc.getD i 0 ≤ (cs.getD i default).c
            · have c4 : decide ((cs.getD i default).c < gc.getD i 0) = false := decide_eq_false (by omega)
              repeat' (first | ((first | refine sC hT fun K' hK' => ?_ | refine oC fun K' hK' => ?_); push_cast [c1, c2, c3, c4]; (try simp (disch := omega) only [wrap64, Int.toNat_natCast]); (repeat refine ZAD ?_ ?_); (first | refine hK' _ ?_ | refine ⟨.v (.int .i64 0), hK' _ ?_⟩); clear hK' K') | (refine sK hT ?_; simp only [St.put]) | ((first | refine ZAE (hK _ ?_) | refine ZAJ (hK _ ?_)); clear hK K; push_cast) | ((first | apply ZAC | apply ZAF | apply ZAG | apply ZAM); push_cast) | refine ZAK fun K hK => ?_ | refine ZAN fun K hK => ?_ | refine dQ hT hm fun K hK => ?_ | refine dL hT hm fun K hK => ?_ | apply ZAA | apply ZAB | apply ZAL | (refine ZAH _ rfl (fun h => ?_) (fun h => ?_) <;> simp only [bh2, reduceCtorEq] at h))
              all_goals first | exact ff | skip
              refine ZAO (α := Nat) (fun q => ⟨[(0, avPs ps), (1, avCs cs), (5, .p 5 0), (7, .s 29), (8, I64 i), (9, I64 (sumN (fun k => (gf.getD i default).getD k 0) q)), (10, I64 q)], [(29, .row 3 1 (.ints .i64 (gvn gf ps.length i q))), (5, .box 27 (.avs [ints gc, avLL gf]))]⟩) (fun q => q ≤ ps.length ∧ ∀ k, k < q → ((0 ≤ (gf.getD i default).getD k 0 ∧ (gf.getD i default).getD k 0 ≤ maxC) ∧ ¬ (0 < (gf.getD i default).getD k 0 ∧ (ps.getD k default).f = true ∧ (cs.getD i default).f = false))) (fun q => ps.length - q) 0 ⟨Nat.zero_le _, fun j hj => by omega⟩ (G.wk ⟨rfl, rfl, rfl, rfl, rfl, rfl, rfl, trivial⟩ ⟨rfl, rfl, trivial⟩) fun q hq => ?_
              obtain ⟨hq, hin⟩ := hq
              have hgl2 := ZFc gf ps.length i q
              have hsn : 0 ≤ sumN (fun k => (gf.getD i default).getD k 0) q ∧ sumN (fun k => (gf.getD i default).getD k 0) q ≤ maxC * q := ZA8 _ _ _ fun k hk => ⟨(hin k hk).1.1, (hin k hk).1.2⟩
              have hqb : (q : Int) ≤ 4 := by omega
              simp only [maxC] at hsn
              by_cases hql : q < ps.length
              · have e1 : decide ((q : Int) < (ps.length : Int)) = true := decide_eq_true (by omega)
                have hbd := ZJg (Nat.le_of_lt hlt) hall hql
                have hga := ZF9 gf (i := i) (q := q) hql
                rw [if_neg (by omega)] at hga
                have hgs : (gvn gf ps.length i q).set q ((gvn gf ps.length i q).getD q 0 + (gf.getD i default).getD q 0) = gvn gf ps.length i (q + 1) := ZIe gf (i := i) hql
                have hib : (i : Int) ≤ 64 := by omega
                have hpc := ZCS hp (ZAc hql)
                have bad : ¬ ((0 ≤ (gf.getD i default).getD q 0 ∧ (gf.getD i default).getD q 0 ≤ maxC) ∧ ¬ (0 < (gf.getD i default).getD q 0 ∧ (ps.getD q default).f = true ∧ (cs.getD i default).f = false)) → decide (fea ps cs gc gf) = false := fun h => decide_eq_false fun hf => h ((ZBV hp hf hlt).2.1 q hql)
                have good : ((0 ≤ (gf.getD i default).getD q 0 ∧ (gf.getD i default).getD q 0 ≤ maxC) ∧ ¬ (0 < (gf.getD i default).getD q 0 ∧ (ps.getD q default).f = true ∧ (cs.getD i default).f = false)) → ∀ k, k < q + 1 → ((0 ≤ (gf.getD i default).getD k 0 ∧ (gf.getD i default).getD k 0 ≤ maxC) ∧ ¬ (0 < (gf.getD i default).getD k 0 ∧ (ps.getD k default).f = true ∧ (cs.getD i default).f = false)) := fun h k hk => by
                  rcases Nat.lt_or_ge k q with h | h
                  · exact hin k h
                  · rw [show k = q by omega]; assumption
                have hsx : sumN (fun k => (gf.getD i default).getD k 0) (q + 1) = sumN (fun k => (gf.getD i default).getD k 0) q + (gf.getD i default).getD q 0 := rfl
                generalize sumN (fun k => (gf.getD i default).getD k 0) q = s0 at *
                generalize hD : decide (fea ps cs gc gf) = D at *
                generalize hG1 : gvn gf ps.length i q = G1 at *
                generalize hx : (gf.getD i default).getD q 0 = x at *
                simp only [maxC] at bad good hbd hpc
                by_cases x0 : x < 0
                · have b := bad (by omega)
                  subst b
                  have f1 : decide (x < 0) = true := decide_eq_true x0
                  repeat' (first | ((first | refine sC hT fun K' hK' => ?_ | refine oC fun K' hK' => ?_); push_cast [e1, f1, hx]; (try simp (disch := omega) only [wrap64, Int.toNat_natCast]); (repeat refine ZAD ?_ ?_); (first | refine hK' _ ?_ | refine ⟨.v (.int .i64 0), hK' _ ?_⟩); clear hK' K') | (refine sK hT ?_; simp only [St.put]) | ((first | refine ZAE (hK _ ?_) | refine ZAJ (hK _ ?_)); clear hK K; push_cast) | ((first | apply ZAC | apply ZAF | apply ZAG | apply ZAM); push_cast) | refine ZAK fun K hK => ?_ | refine ZAN fun K hK => ?_ | refine dQ hT hm fun K hK => ?_ | refine dL hT hm fun K hK => ?_ | apply ZAA | apply ZAB | apply ZAL | (refine ZAH _ rfl (fun h => ?_) (fun h => ?_) <;> simp only [bh2, reduceCtorEq] at h))
                  all_goals first | exact ff | skip
                  all_goals done
                · have f1 : decide (x < 0) = false := decide_eq_false x0
                  by_cases x1 : 1000000000000 < x
                  · have b := bad (by omega)
                    subst b
                    have f2 : decide (1000000000000 < x) = true := decide_eq_true x1
                    repeat' (first | ((first | refine sC hT fun K' hK' => ?_ | refine oC fun K' hK' => ?_); push_cast [e1, f1, f2, hx]; (try simp (disch := omega) only [wrap64, Int.toNat_natCast]); (repeat refine ZAD ?_ ?_); (first | refine hK' _ ?_ | refine ⟨.v (.int .i64 0), hK' _ ?_⟩); clear hK' K') | (refine sK hT ?_; simp only [St.put]) | ((first | refine ZAE (hK _ ?_) | refine ZAJ (hK _ ?_)); clear hK K; push_cast) | ((first | apply ZAC | apply ZAF | apply ZAG | apply ZAM); push_cast) | refine ZAK fun K hK => ?_ | refine ZAN fun K hK => ?_ | refine dQ hT hm fun K hK => ?_ | refine dL hT hm fun K hK => ?_ | apply ZAA | apply ZAB | apply ZAL | (refine ZAH _ rfl (fun h => ?_) (fun h => ?_) <;> simp only [bh2, reduceCtorEq] at h))
                    all_goals first | exact ff | skip
                    all_goals done
                  · have f2 : decide (1000000000000 < x) = false := decide_eq_false x1
                    have hxb : 0 ≤ x ∧ x ≤ 1000000000000 := by omega
                    by_cases x2 : 0 < x
                    · have f3 : decide (0 < x) = true := decide_eq_true x2
                      by_cases hpf : (ps.getD q default).f = true
                      · by_cases hcf : (cs.getD i default).f = true
                        · repeat' (first | ((first | refine sC hT fun K' hK' => ?_ | refine oC fun K' hK' => ?_); push_cast [e1, f1, f2, f3, hpf, hcf, hx, hgs, ← hsx]; (try simp (disch := omega) only [wrap64, Int.toNat_natCast]); (repeat refine ZAD ?_ ?_); (first | refine hK' _ ?_ | refine ⟨.v (.int .i64 0), hK' _ ?_⟩); clear hK' K') | (refine sK hT ?_; simp only [St.put]) | ((first | refine ZAE (hK _ ?_) | refine ZAJ (hK _ ?_)); clear hK K; push_cast) | ((first | apply ZAC | apply ZAF | apply ZAG | apply ZAM); push_cast) | refine ZAK fun K hK => ?_ | refine ZAN fun K hK => ?_ | refine dQ hT hm fun K hK => ?_ | refine dL hT hm fun K hK => ?_ | apply ZAA | apply ZAB | apply ZAL | (refine ZAH _ rfl (fun h => ?_) (fun h => ?_) <;> simp only [bh2, reduceCtorEq] at h))
                          all_goals first | exact ff | skip
                          refine ⟨q + 1, ⟨⟨by omega, good ⟨⟨by omega, by omega⟩, fun h => by rw [hcf] at h; cases h.2.2⟩⟩, by omega⟩, G.wk ⟨rfl, rfl, rfl, rfl, rfl, rfl, rfl, trivial⟩ ⟨rfl, rfl, trivial⟩⟩
                        · have hcf : (cs.getD i default).f = false := by simpa using hcf
                          have b := bad (fun h => h.2 ⟨x2, hpf, hcf⟩)
                          subst b
                          repeat' (first | ((first | refine sC hT fun K' hK' => ?_ | refine oC fun K' hK' => ?_); push_cast [e1, f1, f2, f3, hpf, hcf, hx]; (try simp (disch := omega) only [wrap64, Int.toNat_natCast]); (repeat refine ZAD ?_ ?_); (first | refine hK' _ ?_ | refine ⟨.v (.int .i64 0), hK' _ ?_⟩); clear hK' K') | (refine sK hT ?_; simp only [St.put]) | ((first | refine ZAE (hK _ ?_) | refine ZAJ (hK _ ?_)); clear hK K; push_cast) | ((first | apply ZAC | apply ZAF | apply ZAG | apply ZAM); push_cast) | refine ZAK fun K hK => ?_ | refine ZAN fun K hK => ?_ | refine dQ hT hm fun K hK => ?_ | refine dL hT hm fun K hK => ?_ | apply ZAA | apply ZAB | apply ZAL | (refine ZAH _ rfl (fun h => ?_) (fun h => ?_) <;> simp only [bh2, reduceCtorEq] at h))
                          all_goals first | exact ff | skip
                          all_goals done
                      · have hpf : (ps.getD q default).f = false := by simpa using hpf
                        repeat' (first | ((first | refine sC hT fun K' hK' => ?_ | refine oC fun K' hK' => ?_); push_cast [e1, f1, f2, f3, hpf, hx, hgs, ← hsx]; (try simp (disch := omega) only [wrap64, Int.toNat_natCast]); (repeat refine ZAD ?_ ?_); (first | refine hK' _ ?_ | refine ⟨.v (.int .i64 0), hK' _ ?_⟩); clear hK' K') | (refine sK hT ?_; simp only [St.put]) | ((first | refine ZAE (hK _ ?_) | refine ZAJ (hK _ ?_)); clear hK K; push_cast) | ((first | apply ZAC | apply ZAF | apply ZAG | apply ZAM); push_cast) | refine ZAK fun K hK => ?_ | refine ZAN fun K hK => ?_ | refine dQ hT hm fun K hK => ?_ | refine dL hT hm fun K hK => ?_ | apply ZAA | apply ZAB | apply ZAL | (refine ZAH _ rfl (fun h => ?_) (fun h => ?_) <;> simp only [bh2, reduceCtorEq] at h))
                        all_goals first | exact ff | skip
                        refine ⟨q + 1, ⟨⟨by omega, good ⟨⟨by omega, by omega⟩, fun h => by rw [hpf] at h; cases h.2.1⟩⟩, by omega⟩, G.wk ⟨rfl, rfl, rfl, rfl, rfl, rfl, rfl, trivial⟩ ⟨rfl, rfl, trivial⟩⟩
                    · have f3 : decide (0 < x) = false := decide_eq_false x2
                      repeat' (first | ((first | refine sC hT fun K' hK' => ?_ | refine oC fun K' hK' => ?_); push_cast [e1, f1, f2, f3, hx, hgs, ← hsx]; (try simp (disch := omega) only [wrap64, Int.toNat_natCast]); (repeat refine ZAD ?_ ?_); (first | refine hK' _ ?_ | refine ⟨.v (.int .i64 0), hK' _ ?_⟩); clear hK' K') | (refine sK hT ?_; simp only [St.put]) | ((first | refine ZAE (hK _ ?_) | refine ZAJ (hK _ ?_)); clear hK K; push_cast) | ((first | apply ZAC | apply ZAF | apply ZAG | apply ZAM); push_cast) | refine ZAK fun K hK => ?_ | refine ZAN fun K hK => ?_ | refine dQ hT hm fun K hK => ?_ | refine dL hT hm fun K hK => ?_ | apply ZAA | apply ZAB | apply ZAL | (refine ZAH _ rfl (fun h => ?_) (fun h => ?_) <;> simp only [bh2, reduceCtorEq] at h))
                      all_goals first | exact ff | skip
                      refine ⟨q + 1, ⟨⟨by omega, good (by omega)⟩, by omega⟩, G.wk ⟨rfl, rfl, rfl, rfl, rfl, rfl, rfl, trivial⟩ ⟨rfl, rfl, trivial⟩⟩
              · obtain rfl : q = ps.length := by omega
                have e1 : decide ((ps.length : Int) < (ps.length : Int)) = false := decide_eq_false (by omega)
                have hsI : sumI (gf.getD i default) = sumN (fun k => (gf.getD i default).getD k 0) ps.length := by unfold sumI; rw [hl]
                by_cases hs : sumN (fun k => (gf.getD i default).getD k 0) ps.length = gc.getD i 0
                · have e2 : (sumN (fun k => (gf.getD i default).getD k 0) ps.length != gc.getD i 0) = false := bne_eq_false_iff_eq.2 hs
                  repeat' (first | ((first | refine sC hT fun K' hK' => ?_ | refine oC fun K' hK' => ?_); push_cast [e1, e2]; (try simp (disch := omega) only [wrap64, Int.toNat_natCast]); (repeat refine ZAD ?_ ?_); (first | refine hK' _ ?_ | refine ⟨.v (.int .i64 0), hK' _ ?_⟩); clear hK' K') | (refine sK hT ?_; simp only [St.put]) | ((first | refine ZAE (hK _ ?_) | refine ZAJ (hK _ ?_)); clear hK K; push_cast) | ((first | apply ZAC | apply ZAF | apply ZAG | apply ZAM); push_cast) | refine ZAK fun K hK => ?_ | refine ZAN fun K hK => ?_ | refine dQ hT hm fun K hK => ?_ | refine dL hT hm fun K hK => ?_ | apply ZAA | apply ZAB | apply ZAL | (refine ZAH _ rfl (fun h => ?_) (fun h => ?_) <;> simp only [bh2, reduceCtorEq] at h))
                  all_goals first | exact ff | skip
                  refine ⟨i + 1, ⟨⟨by omega, fun j hj => ?_⟩, by omega⟩, G.wk ⟨rfl, rfl, rfl, rfl, rfl, trivial⟩ ⟨by rw [← ZG6]; rfl, rfl, trivial⟩⟩
                  rcases Nat.lt_or_ge j i with h | h
                  · exact hall j h
                  · rw [show j = i by omega]
                    exact ⟨⟨hl, by omega, hc1⟩, fun k hk => ⟨⟨(hin k hk).1.1, (hin k hk).1.2⟩, (hin k hk).2⟩, by rw [hsI]; exact hs⟩
                · have e2 : (sumN (fun k => (gf.getD i default).getD k 0) ps.length != gc.getD i 0) = true := bne_iff_ne.2 hs
                  rw [decide_eq_false (fun h => hs (by rw [← hsI]; exact (ZBV hp h hlt).2.2))]
                  repeat' (first | ((first | refine sC hT fun K' hK' => ?_ | refine oC fun K' hK' => ?_); push_cast [e1, e2]; (try simp (disch := omega) only [wrap64, Int.toNat_natCast]); (repeat refine ZAD ?_ ?_); (first | refine hK' _ ?_ | refine ⟨.v (.int .i64 0), hK' _ ?_⟩); clear hK' K') | (refine sK hT ?_; simp only [St.put]) | ((first | refine ZAE (hK _ ?_) | refine ZAJ (hK _ ?_)); clear hK K; push_cast) | ((first | apply ZAC | apply ZAF | apply ZAG | apply ZAM); push_cast) | refine ZAK fun K hK => ?_ | refine ZAN fun K hK => ?_ | refine dQ hT hm fun K hK => ?_ | refine dL hT hm fun K hK => ?_ | apply ZAA | apply ZAB | apply ZAL | (refine ZAH _ rfl (fun h => ?_) (fun h => ?_) <;> simp only [bh2, reduceCtorEq] at h))
                  all_goals first | exact ff | skip
                  all_goals done
            · have c4 : decide ((cs.getD i default).c < gc.getD i 0) = true := decide_eq_true (by omega)
              rw [decide_eq_false (fun h => hc1 (ZBV hp h hlt).1.2.2)]
              repeat' (first | ((first | refine sC hT fun K' hK' => ?_ | refine oC fun K' hK' => ?_); push_cast [c1, c2, c3, c4]; (try simp (disch := omega) only [wrap64, Int.toNat_natCast]); (repeat refine ZAD ?_ ?_); (first | refine hK' _ ?_ | refine ⟨.v (.int .i64 0), hK' _ ?_⟩); clear hK' K') | (refine sK hT ?_; simp only [St.put]) | ((first | refine ZAE (hK _ ?_) | refine ZAJ (hK _ ?_)); clear hK K; push_cast) | ((first | apply ZAC | apply ZAF | apply ZAG | apply ZAM); push_cast) | refine ZAK fun K hK => ?_ | refine ZAN fun K hK => ?_ | refine dQ hT hm fun K hK => ?_ | refine dL hT hm fun K hK => ?_ | apply ZAA | apply ZAB | apply ZAL | (refine ZAH _ rfl (fun h => ?_) (fun h => ?_) <;> simp only [bh2, reduceCtorEq] at h))
              all_goals first | exact ff | skip
              all_goals done
          · have c3 : decide (gc.getD i 0 < 0) = true := decide_eq_true (by omega)
            rw [decide_eq_false (fun h => hc0 (ZBV hp h hlt).1.2.1)]
            repeat' (first | ((first | refine sC hT fun K' hK' => ?_ | refine oC fun K' hK' => ?_); push_cast [c1, c2, c3]; (try simp (disch := omega) only [wrap64, Int.toNat_natCast]); (repeat refine ZAD ?_ ?_); (first | refine hK' _ ?_ | refine ⟨.v (.int .i64 0), hK' _ ?_⟩); clear hK' K') | (refine sK hT ?_; simp only [St.put]) | ((first | refine ZAE (hK _ ?_) | refine ZAJ (hK _ ?_)); clear hK K; push_cast) | ((first | apply ZAC | apply ZAF | apply ZAG | apply ZAM); push_cast) | refine ZAK fun K hK => ?_ | refine ZAN fun K hK => ?_ | refine dQ hT hm fun K hK => ?_ | refine dL hT hm fun K hK => ?_ | apply ZAA | apply ZAB | apply ZAL | (refine ZAH _ rfl (fun h => ?_) (fun h => ?_) <;> simp only [bh2, reduceCtorEq] at h))
            all_goals first | exact ff | skip
            all_goals done
        · have c2 : (((gf.getD i default).length : Int) != (ps.length : Int)) = true := bne_iff_ne.2 (by omega)
          rw [decide_eq_false (fun h => hl (ZBV hp h hlt).1.1)]
          repeat' (first | ((first | refine sC hT fun K' hK' => ?_ | refine oC fun K' hK' => ?_); push_cast [c1, c2]; (try simp (disch := omega) only [wrap64, Int.toNat_natCast]); (repeat refine ZAD ?_ ?_); (first | refine hK' _ ?_ | refine ⟨.v (.int .i64 0), hK' _ ?_⟩); clear hK' K') | (refine sK hT ?_; simp only [St.put]) | ((first | refine ZAE (hK _ ?_) | refine ZAJ (hK _ ?_)); clear hK K; push_cast) | ((first | apply ZAC | apply ZAF | apply ZAG | apply ZAM); push_cast) | refine ZAK fun K hK => ?_ | refine ZAN fun K hK => ?_ | refine dQ hT hm fun K hK => ?_ | refine dL hT hm fun K hK => ?_ | apply ZAA | apply ZAB | apply ZAL | (refine ZAH _ rfl (fun h => ?_) (fun h => ?_) <;> simp only [bh2, reduceCtorEq] at h))
          all_goals first | exact ff | skip
          all_goals done
      · obtain rfl : i = cs.length := by omega
        have c1 : decide ((cs.length : Int) < (cs.length : Int)) = false := decide_eq_false (by omega)
        repeat' (first | ((first | refine sC hT fun K' hK' => ?_ | refine oC fun K' hK' => ?_); push_cast [c1]; (try simp (disch := omega) only [wrap64, Int.toNat_natCast]); (repeat refine ZAD ?_ ?_); (first | refine hK' _ ?_ | refine ⟨.v (.int .i64 0), hK' _ ?_⟩); clear hK' K') | (refine sK hT ?_; simp only [St.put]) | ((first | refine ZAE (hK _ ?_) | refine ZAJ (hK _ ?_)); clear hK K; push_cast) | ((first | apply ZAC | apply ZAF | apply ZAG | apply ZAM); push_cast) | refine ZAK fun K hK => ?_ | refine ZAN fun K hK => ?_ | refine dQ hT hm fun K hK => ?_ | refine dL hT hm fun K hK => ?_ | apply ZAA | apply ZAB | apply ZAL | (refine ZAH _ rfl (fun h => ?_) (fun h => ?_) <;> simp only [bh2, reduceCtorEq] at h))
        all_goals first | exact ff | skip
        refine ZAO (α := Nat) (fun k => ⟨[(0, avPs ps), (7, .s 29), (12, I64 k)], [(29, .row 3 1 (.ints .i64 (gvn gf ps.length cs.length 0)))]⟩) (fun k => k ≤ ps.length ∧ ∀ j, j < k → colS gf cs.length j ≤ (ps.getD j default).c) (fun k => ps.length - k) 0 ⟨Nat.zero_le _, fun j hj => by omega⟩ (G.wk ⟨rfl, rfl, rfl, trivial⟩ ⟨rfl, trivial⟩) fun k hk => ?_
        obtain ⟨hk, hck⟩ := hk
        by_cases hkl : k < ps.length
        · have e1 : decide ((k : Int) < (ps.length : Int)) = true := decide_eq_true (by omega)
          have hga := ZF9 gf (i := cs.length) (q := 0) hkl
          rw [if_neg (by omega)] at hga
          by_cases hcc : colS gf cs.length k ≤ (ps.getD k default).c
          · have e2 : decide ((ps.getD k default).c < (gvn gf ps.length cs.length 0).getD k 0) = false := decide_eq_false (by omega)
            repeat' (first | ((first | refine sC hT fun K' hK' => ?_ | refine oC fun K' hK' => ?_); push_cast [e1, e2]; (try simp (disch := omega) only [wrap64, Int.toNat_natCast]); (repeat refine ZAD ?_ ?_); (first | refine hK' _ ?_ | refine ⟨.v (.int .i64 0), hK' _ ?_⟩); clear hK' K') | (refine sK hT ?_; simp only [St.put]) | ((first | refine ZAE (hK _ ?_) | refine ZAJ (hK _ ?_)); clear hK K; push_cast) | ((first | apply ZAC | apply ZAF | apply ZAG | apply ZAM); push_cast) | refine ZAK fun K hK => ?_ | refine ZAN fun K hK => ?_ | refine dQ hT hm fun K hK => ?_ | refine dL hT hm fun K hK => ?_ | apply ZAA | apply ZAB | apply ZAL | (refine ZAH _ rfl (fun h => ?_) (fun h => ?_) <;> simp only [bh2, reduceCtorEq] at h))
            all_goals first | exact ff | skip
            refine ⟨k + 1, ⟨⟨by omega, fun j hj => ?_⟩, by omega⟩, G.wk ⟨rfl, rfl, rfl, trivial⟩ ⟨rfl, trivial⟩⟩
            rcases Nat.lt_or_ge j k with h | h
            · exact hck j h
            · rw [show j = k by omega]; exact hcc
          · have e2 : decide ((ps.getD k default).c < (gvn gf ps.length cs.length 0).getD k 0) = true := decide_eq_true (by omega)
            rw [decide_eq_false (fun h => hcc (h.2.2 k hkl))]
            repeat' (first | ((first | refine sC hT fun K' hK' => ?_ | refine oC fun K' hK' => ?_); push_cast [e1, e2]; (try simp (disch := omega) only [wrap64, Int.toNat_natCast]); (repeat refine ZAD ?_ ?_); (first | refine hK' _ ?_ | refine ⟨.v (.int .i64 0), hK' _ ?_⟩); clear hK' K') | (refine sK hT ?_; simp only [St.put]) | ((first | refine ZAE (hK _ ?_) | refine ZAJ (hK _ ?_)); clear hK K; push_cast) | ((first | apply ZAC | apply ZAF | apply ZAG | apply ZAM); push_cast) | refine ZAK fun K hK => ?_ | refine ZAN fun K hK => ?_ | refine dQ hT hm fun K hK => ?_ | refine dL hT hm fun K hK => ?_ | apply ZAA | apply ZAB | apply ZAL | (refine ZAH _ rfl (fun h => ?_) (fun h => ?_) <;> simp only [bh2, reduceCtorEq] at h))
            all_goals first | exact ff | skip
            all_goals done
        · obtain rfl : k = ps.length := by omega
          have e1 : decide ((ps.length : Int) < (ps.length : Int)) = false := decide_eq_false (by omega)
          rw [decide_eq_true (ZG7 h1 h2 hall hck)]
          repeat' (first | ((first | refine sC hT fun K' hK' => ?_ | refine oC fun K' hK' => ?_); push_cast [e1]; (try simp (disch := omega) only [wrap64, Int.toNat_natCast]); (repeat refine ZAD ?_ ?_); (first | refine hK' _ ?_ | refine ⟨.v (.int .i64 0), hK' _ ?_⟩); clear hK' K') | (refine sK hT ?_; simp only [St.put]) | ((first | refine ZAE (hK _ ?_) | refine ZAJ (hK _ ?_)); clear hK K; push_cast) | ((first | apply ZAC | apply ZAF | apply ZAG | apply ZAM); push_cast) | refine ZAK fun K hK => ?_ | refine ZAN fun K hK => ?_ | refine dQ hT hm fun K hK => ?_ | refine dL hT hm fun K hK => ?_ | apply ZAA | apply ZAB | apply ZAL | (refine ZAH _ rfl (fun h => ?_) (fun h => ?_) <;> simp only [bh2, reduceCtorEq] at h))
          all_goals first | exact ff | skip
          all_goals done
    · have d2 : ((gf.length : Int) != (cs.length : Int)) = true := bne_iff_ne.2 (by omega)
      rw [decide_eq_false (fun h => h2 h.1.2)]
      repeat' (first | ((first | refine sC hT fun K' hK' => ?_ | refine oC fun K' hK' => ?_); push_cast [d1, d2]; (try simp (disch := omega) only [wrap64, Int.toNat_natCast]); (repeat refine ZAD ?_ ?_); (first | refine hK' _ ?_ | refine ⟨.v (.int .i64 0), hK' _ ?_⟩); clear hK' K') | (refine sK hT ?_; simp only [St.put]) | ((first | refine ZAE (hK _ ?_) | refine ZAJ (hK _ ?_)); clear hK K; push_cast) | ((first | apply ZAC | apply ZAF | apply ZAG | apply ZAM); push_cast) | refine ZAK fun K hK => ?_ | refine ZAN fun K hK => ?_ | refine dQ hT hm fun K hK => ?_ | refine dL hT hm fun K hK => ?_ | apply ZAA | apply ZAB | apply ZAL | (refine ZAH _ rfl (fun h => ?_) (fun h => ?_) <;> simp only [bh2, reduceCtorEq] at h))
      all_goals first | exact ff | skip
      all_goals done
  · have d1 : ((gc.length : Int) != (cs.length : Int)) = true := bne_iff_ne.2 (by omega)
    rw [decide_eq_false (fun h => h1 h.1.1)]
    repeat' (first | ((first | refine sC hT fun K' hK' => ?_ | refine oC fun K' hK' => ?_); push_cast [d1]; (try simp (disch := omega) only [wrap64, Int.toNat_natCast]); (repeat refine ZAD ?_ ?_); (first | refine hK' _ ?_ | refine ⟨.v (.int .i64 0), hK' _ ?_⟩); clear hK' K') | (refine sK hT ?_; simp only [St.put]) | ((first | refine ZAE (hK _ ?_) | refine ZAJ (hK _ ?_)); clear hK K; push_cast) | ((first | apply ZAC | apply ZAF | apply ZAG | apply ZAM); push_cast) | refine ZAK fun K hK => ?_ | refine ZAN fun K hK => ?_ | refine dQ hT hm fun K hK => ?_ | refine dL hT hm fun K hK => ?_ | apply ZAA | apply ZAB | apply ZAL | (refine ZAH _ rfl (fun h => ?_) (fun h => ?_) <;> simp only [bh2, reduceCtorEq] at h))
    all_goals first | exact ff | skip
    all_goals done
end Go.Proofs.Ythgjjhddbigfcaa
