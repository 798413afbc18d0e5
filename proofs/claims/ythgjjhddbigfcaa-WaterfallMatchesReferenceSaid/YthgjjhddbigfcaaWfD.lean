/- Part of a proof about the given program: contracts of its functions (see the comment of the last text). -/
import Derived.Test.YthgjjhddbigfcaaWfC
namespace Go.Proofs.Ythgjjhddbigfcaa
open Go.Eng Go.Proofs Go.Wf
set_option linter.unusedSimpArgs false
set_option linter.unusedVariables false
attribute [local irreducible] AOps AOpsX AOps2 AOpsS AWP AAnyS Go.Eng.Pure PureRow Eff
theorem ZCT (ps : List Po) (hps : okPs ps) : Pure Try.prog 26 [avPs ps] (BL (decide (vP ps))) := by
  obtain ⟨hp1, hp2⟩ := id hps
  refine ZAV (n := 37) (res := [.tmp 2]) hT Try.func26 rfl rfl rfl Try.ntmps26 (Nat.le_of_ble_eq_true rfl) fun B w0 => ?_
  repeat' (first | ((first | refine sC hT fun K' hK' => ?_ | refine oC fun K' hK' => ?_); push_cast; (try simp (disch := omega) only [wrap64, Int.toNat_natCast]); (repeat refine ZAD ?_ ?_); (first | refine hK' _ ?_ | refine ⟨.v (.int .i64 0), hK' _ ?_⟩); clear hK' K') | (refine sK hT ?_; simp only [St.put]) | ((first | refine ZAE (hK _ ?_) | refine ZAJ (hK _ ?_)); clear hK K; push_cast) | ((first | apply ZAC | apply ZAF | apply ZAG | apply ZAM); push_cast) | refine ZAK fun K hK => ?_ | refine ZAN fun K hK => ?_ | refine dQ hT hm fun K hK => ?_ | refine dL hT hm fun K hK => ?_ | apply ZAA | apply ZAB | apply ZAL | (refine ZAH _ rfl (fun h => ?_) (fun h => ?_) <;> simp only [bh2, reduceCtorEq] at h))
  all_goals first | exact ff | skip
  refine ZAO (α := Nat) (fun k => ⟨[(0, avPs ps), (3, I64 (sumBy Po.c (ps.take k))), (4, I64 k)], []⟩) (fun k => (k ≤ ps.length ∧ ∀ j, j < k → 0 ≤ (ps.getD j default).c) ∧ 0 ≤ sumBy Po.c (ps.take k) ∧ sumBy Po.c (ps.take k) ≤ 1000000000000) (fun k => ps.length - k) 0 ⟨⟨Nat.zero_le _, fun j hj => by omega⟩, Int.le_refl _, by show (0 : Int) ≤ 1000000000000; decide⟩ (G.wk ⟨rfl, rfl, rfl, trivial⟩ trivial) fun k hk => ?_
  obtain ⟨⟨hkl, hall⟩, hs1, hs2⟩ := hk
  by_cases hlt : k < ps.length
  · have c1 : decide ((k : Int) < (ps.length : Int)) = true := decide_eq_true (by omega)
    have hst := ZAb Po.c ps k hlt
    have hin := ZJy hps hlt
    unfold In64 at hin
    by_cases h0 : 0 ≤ (ps.getD k default).c
    · have d1 : decide ((ps.getD k default).c < 0) = false := decide_eq_false (by omega)
      by_cases h1 : (ps.getD k default).c ≤ 1000000000000 - sumBy Po.c (ps.take k)
      · have d2 : decide (1000000000000 - sumBy Po.c (ps.take k) < (ps.getD k default).c) = false := decide_eq_false (by omega)
        repeat' (first | ((first | refine sC hT fun K' hK' => ?_ | refine oC fun K' hK' => ?_); push_cast [c1, d1, d2]; (try simp (disch := omega) only [wrap64, Int.toNat_natCast]); (repeat refine ZAD ?_ ?_); (first | refine hK' _ ?_ | refine ⟨.v (.int .i64 0), hK' _ ?_⟩); clear hK' K') | (refine sK hT ?_; simp only [St.put]) | ((first | refine ZAE (hK _ ?_) | refine ZAJ (hK _ ?_)); clear hK K; push_cast) | ((first | apply ZAC | apply ZAF | apply ZAG | apply ZAM); push_cast) | refine ZAK fun K hK => ?_ | refine ZAN fun K hK => ?_ | refine dQ hT hm fun K hK => ?_ | refine dL hT hm fun K hK => ?_ | apply ZAA | apply ZAB | apply ZAL | (refine ZAH _ rfl (fun h => ?_) (fun h => ?_) <;> simp only [bh2, reduceCtorEq] at h))
        all_goals first | exact ff | skip
        all_goals exact ⟨k + 1, ⟨⟨⟨by omega, ZDB (p := fun p : Po => 0 ≤ p.c) hall h0⟩, by omega, by omega⟩, by omega⟩, G.wk ⟨rfl, by rw [hst]; rfl, rfl, trivial⟩ trivial⟩
      · rw [decide_eq_false (fun hv => by
          have h5 := ZCC Po.c ps (k + 1) hv.2.1
          have h6 := hv.2.2
          simp only [maxC] at h6
          omega)]
        have d2 : decide (1000000000000 - sumBy Po.c (ps.take k) < (ps.getD k default).c) = true := decide_eq_true (by omega)
        repeat' (first | ((first | refine sC hT fun K' hK' => ?_ | refine oC fun K' hK' => ?_); push_cast [c1, d1, d2]; (try simp (disch := omega) only [wrap64, Int.toNat_natCast]); (repeat refine ZAD ?_ ?_); (first | refine hK' _ ?_ | refine ⟨.v (.int .i64 0), hK' _ ?_⟩); clear hK' K') | (refine sK hT ?_; simp only [St.put]) | ((first | refine ZAE (hK _ ?_) | refine ZAJ (hK _ ?_)); clear hK K; push_cast) | ((first | apply ZAC | apply ZAF | apply ZAG | apply ZAM); push_cast) | refine ZAK fun K hK => ?_ | refine ZAN fun K hK => ?_ | refine dQ hT hm fun K hK => ?_ | refine dL hT hm fun K hK => ?_ | apply ZAA | apply ZAB | apply ZAL | (refine ZAH _ rfl (fun h => ?_) (fun h => ?_) <;> simp only [bh2, reduceCtorEq] at h))
        all_goals first | exact ff | skip
        all_goals done
    · rw [decide_eq_false (fun hv => h0 (hv.2.1 _ (ZAc hlt)))]
      have d1 : decide ((ps.getD k default).c < 0) = true := decide_eq_true (by omega)
      repeat' (first | ((first | refine sC hT fun K' hK' => ?_ | refine oC fun K' hK' => ?_); push_cast [c1, d1, Bool.true_or]; (try simp (disch := omega) only [wrap64, Int.toNat_natCast]); (repeat refine ZAD ?_ ?_); (first | refine hK' _ ?_ | refine ⟨.v (.int .i64 0), hK' _ ?_⟩); clear hK' K') | (refine sK hT ?_; simp only [St.put]) | ((first | refine ZAE (hK _ ?_) | refine ZAJ (hK _ ?_)); clear hK K; push_cast) | ((first | apply ZAC | apply ZAF | apply ZAG | apply ZAM); push_cast) | refine ZAK fun K hK => ?_ | refine ZAN fun K hK => ?_ | refine dQ hT hm fun K hK => ?_ | refine dL hT hm fun K hK => ?_ | apply ZAA | apply ZAB | apply ZAL | (refine ZAH _ rfl (fun h => ?_) (fun h => ?_) <;> simp only [bh2, reduceCtorEq] at h))
      all_goals first | exact ff | skip
      all_goals done
  · obtain rfl : k = ps.length := by omega
    have c1 : decide ((ps.length : Int) < (ps.length : Int)) = false := decide_eq_false (by omega)
    rw [List.take_length] at hs1 hs2
    have e1 : decide ((ps.length : Int) ≤ 4) = decide (vP ps) := decide_eq_decide.2 ⟨fun h => ⟨by omega, ZD1 (l := ps) (p := fun p => 0 ≤ p.c) hall, hs2⟩, fun h => by have := h.1; omega⟩
    rw [← e1]
    repeat' (first | ((first | refine sC hT fun K' hK' => ?_ | refine oC fun K' hK' => ?_); push_cast [c1]; (try simp (disch := omega) only [wrap64, Int.toNat_natCast]); (repeat refine ZAD ?_ ?_); (first | refine hK' _ ?_ | refine ⟨.v (.int .i64 0), hK' _ ?_⟩); clear hK' K') | (refine sK hT ?_; simp only [St.put]) | ((first | refine ZAE (hK _ ?_) | refine ZAJ (hK _ ?_)); clear hK K; push_cast) | ((first | apply ZAC | apply ZAF | apply ZAG | apply ZAM); push_cast) | refine ZAK fun K hK => ?_ | refine ZAN fun K hK => ?_ | refine dQ hT hm fun K hK => ?_ | refine dL hT hm fun K hK => ?_ | apply ZAA | apply ZAB | apply ZAL | (refine ZAH _ rfl (fun h => ?_) (fun h => ?_) <;> simp only [bh2, reduceCtorEq] at h))
    all_goals first | exact ff | skip
    all_goals done
theorem ZB0 (cs : List Cl) (hcs : okCs cs) : Pure Try.prog 35 [avCs cs] (BL (decide (vC cs))) := by
  obtain ⟨hc1, hc2⟩ := id hcs
  refine ZAV (n := 43) (res := [.tmp 2]) hT Try.func35 rfl rfl rfl Try.ntmps35 (Nat.le_of_ble_eq_true rfl) fun B w0 => ?_
  by_cases hl : 64 < cs.length
  · rw [decide_eq_false (fun h => absurd h.1 (by omega))]
    have b1 : decide (64 < (cs.length : Int)) = true := decide_eq_true (by omega)
    repeat' (first | ((first | refine sC hT fun K' hK' => ?_ | refine oC fun K' hK' => ?_); push_cast [b1]; (try simp (disch := omega) only [wrap64, Int.toNat_natCast]); (repeat refine ZAD ?_ ?_); (first | refine hK' _ ?_ | refine ⟨.v (.int .i64 0), hK' _ ?_⟩); clear hK' K') | (refine sK hT ?_; simp only [St.put]) | ((first | refine ZAE (hK _ ?_) | refine ZAJ (hK _ ?_)); clear hK K; push_cast) | ((first | apply ZAC | apply ZAF | apply ZAG | apply ZAM); push_cast) | refine ZAK fun K hK => ?_ | refine ZAN fun K hK => ?_ | refine dQ hT hm fun K hK => ?_ | refine dL hT hm fun K hK => ?_ | apply ZAA | apply ZAB | apply ZAL | (refine ZAH _ rfl (fun h => ?_) (fun h => ?_) <;> simp only [bh2, reduceCtorEq] at h))
    all_goals first | exact ff | skip
    all_goals done
  · have b1 : decide (64 < (cs.length : Int)) = false := decide_eq_false (by omega)
    repeat' (first | ((first | refine sC hT fun K' hK' => ?_ | refine oC fun K' hK' => ?_); push_cast [b1]; (try simp (disch := omega) only [wrap64, Int.toNat_natCast]); (repeat refine ZAD ?_ ?_); (first | refine hK' _ ?_ | refine ⟨.v (.int .i64 0), hK' _ ?_⟩); clear hK' K') | (refine sK hT ?_; simp only [St.put]) | ((first | refine ZAE (hK _ ?_) | refine ZAJ (hK _ ?_)); clear hK K; push_cast) | ((first | apply ZAC | apply ZAF | apply ZAG | apply ZAM); push_cast) | refine ZAK fun K hK => ?_ | refine ZAN fun K hK => ?_ | refine dQ hT hm fun K hK => ?_ | refine dL hT hm fun K hK => ?_ | apply ZAA | apply ZAB | apply ZAL | (refine ZAH _ rfl (fun h => ?_) (fun h => ?_) <;> simp only [bh2, reduceCtorEq] at h))
    all_goals first | exact ff | skip
    refine ZAO (α := Nat) (fun k => ⟨[(0, avCs cs), (3, I64 k)], []⟩) (fun k => k ≤ cs.length ∧ ∀ j, j < k → okCl (cs.getD j default)) (fun k => cs.length - k) 0 ⟨Nat.zero_le _, fun j hj => by omega⟩ (G.wk ⟨rfl, rfl, trivial⟩ trivial) fun k hk => ?_
    obtain ⟨hkl2, hall2⟩ := hk
    by_cases hlt2 : k < cs.length
    · have c2 : decide ((k : Int) < (cs.length : Int)) = true := decide_eq_true (by omega)
      by_cases hin : okCl (cs.getD k default)
      · have hin' := hin
        obtain ⟨⟨⟨q1, q2⟩, q3⟩, q4⟩ := hin'
        simp only [maxC] at q4
        have d1 : decide ((cs.getD k default).r < 0) = false := decide_eq_false (by omega)
        have d2 : decide (1000000 < (cs.getD k default).r) = false := decide_eq_false (by omega)
        have d3 : decide ((cs.getD k default).c < 0) = false := decide_eq_false (by omega)
        have d4 : decide (1000000000000 < (cs.getD k default).c) = false := decide_eq_false (by omega)
        repeat' (first | ((first | refine sC hT fun K' hK' => ?_ | refine oC fun K' hK' => ?_); push_cast [c2, d1, d2, d3, d4]; (try simp (disch := omega) only [wrap64, Int.toNat_natCast]); (repeat refine ZAD ?_ ?_); (first | refine hK' _ ?_ | refine ⟨.v (.int .i64 0), hK' _ ?_⟩); clear hK' K') | (refine sK hT ?_; simp only [St.put]) | ((first | refine ZAE (hK _ ?_) | refine ZAJ (hK _ ?_)); clear hK K; push_cast) | ((first | apply ZAC | apply ZAF | apply ZAG | apply ZAM); push_cast) | refine ZAK fun K hK => ?_ | refine ZAN fun K hK => ?_ | refine dQ hT hm fun K hK => ?_ | refine dL hT hm fun K hK => ?_ | apply ZAA | apply ZAB | apply ZAL | (refine ZAH _ rfl (fun h => ?_) (fun h => ?_) <;> simp only [bh2, reduceCtorEq] at h))
        all_goals first | exact ff | skip
        all_goals exact ⟨k + 1, ⟨⟨by omega, ZDB (p := okCl) hall2 hin⟩, by omega⟩, G.wk ⟨rfl, rfl, trivial⟩ trivial⟩
      · rw [decide_eq_false (fun h => notC hlt2 hin h)]
        have d1 : (((decide ((cs.getD k default).r < 0) || decide (1000000 < (cs.getD k default).r)) || decide ((cs.getD k default).c < 0)) || decide (1000000000000 < (cs.getD k default).c)) = true := by
          cases h : (((decide ((cs.getD k default).r < 0) || decide (1000000 < (cs.getD k default).r)) || decide ((cs.getD k default).c < 0)) || decide (1000000000000 < (cs.getD k default).c)) with
          | true => rfl
          | false =>
            simp only [Bool.or_eq_false_iff, decide_eq_false_iff_not] at h
            exact absurd (show okCl (cs.getD k default) from ⟨⟨⟨by omega, by omega⟩, by omega⟩, by simp only [maxC]; omega⟩) hin
        repeat' (first | ((first | refine sC hT fun K' hK' => ?_ | refine oC fun K' hK' => ?_); push_cast [c2, d1]; (try simp (disch := omega) only [wrap64, Int.toNat_natCast]); (repeat refine ZAD ?_ ?_); (first | refine hK' _ ?_ | refine ⟨.v (.int .i64 0), hK' _ ?_⟩); clear hK' K') | (refine sK hT ?_; simp only [St.put]) | ((first | refine ZAE (hK _ ?_) | refine ZAJ (hK _ ?_)); clear hK K; push_cast) | ((first | apply ZAC | apply ZAF | apply ZAG | apply ZAM); push_cast) | refine ZAK fun K hK => ?_ | refine ZAN fun K hK => ?_ | refine dQ hT hm fun K hK => ?_ | refine dL hT hm fun K hK => ?_ | apply ZAA | apply ZAB | apply ZAL | (refine ZAH _ rfl (fun h => ?_) (fun h => ?_) <;> simp only [bh2, reduceCtorEq] at h))
        all_goals first | exact ff | skip
        all_goals done
    · obtain rfl : k = cs.length := by omega
      have c2 : decide ((cs.length : Int) < (cs.length : Int)) = false := decide_eq_false (by omega)
      rw [decide_eq_true (show vC cs from ⟨by omega, ZD1 (l := cs) (p := okCl) hall2⟩)]
      repeat' (first | ((first | refine sC hT fun K' hK' => ?_ | refine oC fun K' hK' => ?_); push_cast [c2]; (try simp (disch := omega) only [wrap64, Int.toNat_natCast]); (repeat refine ZAD ?_ ?_); (first | refine hK' _ ?_ | refine ⟨.v (.int .i64 0), hK' _ ?_⟩); clear hK' K') | (refine sK hT ?_; simp only [St.put]) | ((first | refine ZAE (hK _ ?_) | refine ZAJ (hK _ ?_)); clear hK K; push_cast) | ((first | apply ZAC | apply ZAF | apply ZAG | apply ZAM); push_cast) | refine ZAK fun K hK => ?_ | refine ZAN fun K hK => ?_ | refine dQ hT hm fun K hK => ?_ | refine dL hT hm fun K hK => ?_ | apply ZAA | apply ZAB | apply ZAL | (refine ZAH _ rfl (fun h => ?_) (fun h => ?_) <;> simp only [bh2, reduceCtorEq] at h))
      all_goals first | exact ff | skip
      all_goals done
def fillV (l : List Bool) (k : Nat) : List Value := (l.take k).map .bool ++ List.replicate (l.length - k) (.bool false)
theorem ZFy (l : List Bool) (k : Nat) (h : k ≤ l.length) : (fillV l k).length = l.length := by simp [fillV]; omega
theorem ZEf (l : List Bool) : fillV l 0 = List.replicate l.length (.bool false) := by simp [fillV]
theorem ZD4 (l : List Bool) : fillV l l.length = l.map .bool := by simp [fillV]
theorem ZCU (l : List Bool) (k : Nat) (h : k < l.length) : (fillV l k).set k (.bool (l.getD k false)) = fillV l (k + 1) := by
  unfold fillV
  rw [List.take_succ_eq_append_getElem h, show l.length - k = (l.length - (k + 1)) + 1 by omega, List.replicate_succ]
  rw [List.set_append_right _ _ (by simp; omega)]
  have e : k - ((l.take k).map Value.bool).length = 0 := by simp; omega
  have e2 : l.getD k false = l[k] := by simp [List.getD_eq_getElem?_getD, h]
  rw [e, e2]
  simp only [List.map_append, List.map_cons, List.map_nil, List.set_cons_zero, List.append_assoc, List.cons_append, List.nil_append]
theorem ZEg (l : List Bool) (k : Nat) (h : k < l.length) (hf : l.getD k false = false) : fillV l k = fillV l (k + 1) := by
  rw [← ZCU l k h, hf]
  unfold fillV
  rw [List.set_append_right _ _ (by simp; omega)]
  have e : k - ((l.take k).map Value.bool).length = 0 := by simp; omega
  rw [e, show l.length - k = (l.length - (k + 1)) + 1 by omega, List.replicate_succ]
  rfl
abbrev bools (l : List Bool) : AV := .i true (fun e _ => .v (.bool (l.getD e false))) 1 0 l.length
abbrev boolsV (l : List Bool) : AV := .i true (fun e j => .v ((l.map Value.bool).getD (e + j) undef)) 1 0 (l.map Value.bool).length
theorem ZEh (l : List Bool) : Sub (boolsV l) (bools l) := ZBG (by simp) fun e j he hj => by
  have hj0 : j = 0 := by omega
  subst hj0
  simp at he
  simp [List.getD_eq_getElem?_getD, he]
theorem ZHL {xs ys : List AV} (h : SubL xs ys) : Sub (.t xs) (.t ys) := by
  obtain ⟨h1, h2⟩ := h.spec
  intro B I w u hu
  cases hu with
  | t _ us hl hc => exact .t _ us (by omega) fun j hj => h2 j _ _ _ _ (hc j (by omega))
theorem ZGJ (ps : List Po) (cs : List Cl) (r : Int) : (cutF ps cs r).length = ps.length := by simp [cutF]
theorem ZJY (ps : List Po) (cs : List Cl) (r : Int) {k : Nat} (h : k < ps.length) : (cutF ps cs r).getD k false = if mostF ps cs r = upC cs r false + upC cs r true then false else if mostF ps cs r = sumP ps false + upC cs r true then !(ps.getD k default).f else true := by
  simp [cutF, List.getD_eq_getElem?_getD, h]
theorem ZJz (ps : List Po) (cs : List Cl) (r : Int) (hps : okPs ps) (hcs : okCs cs) (h : ¬ (vP ps ∧ vC cs)) : Pure Try.prog 15 [avPs ps, avCs cs, I64 r] (.t [I64 0, .v (.slice none 0 0), I64 1]) := by
  have hv := ZDC ps cs hps hcs
  rw [decide_eq_false h] at hv
  refine ZAV (n := 68) (res := [.tmp 6, .tmp 7, .tmp 8]) hT Try.func15 rfl rfl rfl Try.ntmps15 (Nat.le_of_ble_eq_true rfl) fun B w0 => ?_
  repeat' (first | ((first | refine sC hT fun K' hK' => ?_ | refine oC fun K' hK' => ?_); push_cast; (try simp (disch := omega) only [wrap64, Int.toNat_natCast]); (repeat refine ZAD ?_ ?_); (first | refine hK' _ ?_ | ((first | apply con1 | (apply con3; exact gd) | apply con2); (try intro hb); (first | exact hv); exact okr; refine hK' _ ?_) | refine ⟨.v (.int .i64 0), hK' _ ?_⟩); clear hK' K') | (refine sK hT ?_; simp only [St.put]) | ((first | refine ZAE (hK _ ?_) | refine ZAJ (hK _ ?_)); clear hK K; push_cast) | ((first | apply ZAC | apply ZAF | apply ZAG | apply ZAM); push_cast) | refine ZAK fun K hK => ?_ | refine ZAN fun K hK => ?_ | refine dQ hT hm fun K hK => ?_ | refine dL hT hm fun K hK => ?_ | apply ZAA | apply ZAB | apply ZAL | (refine ZAH _ rfl (fun h => ?_) (fun h => ?_) <;> simp only [bh2, reduceCtorEq] at h))
  all_goals first | exact ff | skip
  all_goals done
theorem ZJF (ps : List Po) (cs : List Cl) (r : Int) (hps : okPs ps) (hcs : okCs cs) (h : ¬ (vP ps ∧ vC cs)) : Pure Try.prog 16 [avPs ps, avCs cs, I64 r] (.t [I64 0, .v (.slice none 0 0), I64 1]) := by
  have h1 := ZCT ps hps
  have h2 := ZB0 cs hcs
  refine ZAV (n := 77) (res := [.tmp 6, .tmp 7, .tmp 8]) hT Try.func16 rfl rfl rfl Try.ntmps16 (Nat.le_of_ble_eq_true rfl) fun B w0 => ?_
  by_cases a : vP ps
  · rw [decide_eq_true a] at h1
    rw [decide_eq_false (fun b => h ⟨a, b⟩)] at h2
    repeat' (first | ((first | refine sC hT fun K' hK' => ?_ | refine oC fun K' hK' => ?_); push_cast; (try simp (disch := omega) only [wrap64, Int.toNat_natCast]); (repeat refine ZAD ?_ ?_); (first | refine hK' _ ?_ | ((first | apply con1 | (apply con3; exact gd) | apply con2); (try intro hb); (first | exact h1 | exact h2); exact okr; refine hK' _ ?_) | refine ⟨.v (.int .i64 0), hK' _ ?_⟩); clear hK' K') | (refine sK hT ?_; simp only [St.put]) | ((first | refine ZAE (hK _ ?_) | refine ZAJ (hK _ ?_)); clear hK K; push_cast) | ((first | apply ZAC | apply ZAF | apply ZAG | apply ZAM); push_cast) | refine ZAK fun K hK => ?_ | refine ZAN fun K hK => ?_ | refine dQ hT hm fun K hK => ?_ | refine dL hT hm fun K hK => ?_ | apply ZAA | apply ZAB | apply ZAL | (refine ZAH _ rfl (fun h => ?_) (fun h => ?_) <;> simp only [bh2, reduceCtorEq] at h))
    all_goals first | exact ff | skip
    all_goals done
  · rw [decide_eq_false a] at h1
    repeat' (first | ((first | refine sC hT fun K' hK' => ?_ | refine oC fun K' hK' => ?_); push_cast; (try simp (disch := omega) only [wrap64, Int.toNat_natCast]); (repeat refine ZAD ?_ ?_); (first | refine hK' _ ?_ | ((first | apply con1 | (apply con3; exact gd) | apply con2); (try intro hb); (first | exact h1 | exact h2); exact okr; refine hK' _ ?_) | refine ⟨.v (.int .i64 0), hK' _ ?_⟩); clear hK' K') | (refine sK hT ?_; simp only [St.put]) | ((first | refine ZAE (hK _ ?_) | refine ZAJ (hK _ ?_)); clear hK K; push_cast) | ((first | apply ZAC | apply ZAF | apply ZAG | apply ZAM); push_cast) | refine ZAK fun K hK => ?_ | refine ZAN fun K hK => ?_ | refine dQ hT hm fun K hK => ?_ | refine dL hT hm fun K hK => ?_ | apply ZAA | apply ZAB | apply ZAL | (refine ZAH _ rfl (fun h => ?_) (fun h => ?_) <;> simp only [bh2, reduceCtorEq] at h))
    all_goals first | exact ff | skip
    all_goals done
theorem ZHz (ps : List Po) (cs : List Cl) (r : Int) (hr : In64 r) (hps : okPs ps) (hcs : okCs cs) (h : vP ps ∧ vC cs) : Pure Try.prog 15 [avPs ps, avCs cs, I64 r] (.t [I64 (mostF ps cs r), bools (cutF ps cs r), I64 0]) := by
  have hv := ZDC ps cs hps hcs
  rw [decide_eq_true h] at hv
  obtain ⟨vp, vc⟩ := h
  have hl := vp.1
  have hco := ZCD ps vp
  have hg := ZD3 ps cs r hr vp vc
  have hA := ZAW vp false
  have hb0 := ZBf vc r false cs.length
  have hb1 := ZBf vc r true cs.length
  rw [List.take_length] at hb0 hb1
  have q0 : 0 ≤ upC cs r false ∧ upC cs r false ≤ 64 * maxC := hb0
  have q1 : 0 ≤ upC cs r true ∧ upC cs r true ≤ 64 * maxC := hb1
  simp only [maxC] at hA q0 q1
  refine Pure.res (r := .t [I64 (mostF ps cs r), boolsV (cutF ps cs r), I64 0]) ?_ (ZHL ⟨Sub.refl _, ZEh _, Sub.refl _, trivial⟩)
  have hat := fun k hk => ZJY ps cs r (k := k) hk
  have hcl := ZGJ ps cs r
  clear hb0 hb1
  refine ZAV (n := 68) (res := [.tmp 6, .tmp 7, .tmp 8]) hT Try.func15 rfl rfl rfl Try.ntmps15 (Nat.le_of_ble_eq_true rfl) fun B w0 => ?_
  generalize cutF ps cs r = L at *
  generalize mostF ps cs r = M at *
  generalize upC cs r false = X at *
  generalize upC cs r true = Y at *
  generalize sumP ps false = A at *
  generalize sumP ps true = B' at *
  repeat' (first | ((first | refine sC hT fun K' hK' => ?_ | refine oC fun K' hK' => ?_); push_cast; (try simp (disch := omega) only [wrap64, Int.toNat_natCast]); (repeat refine ZAD ?_ ?_); (first | refine hK' _ ?_ | ((first | apply con1 | (apply con3; exact gd) | apply con2); (try intro hb); (first | exact hv | exact hg | exact hco); exact okr; refine hK' _ ?_) | refine ⟨.v (.int .i64 0), hK' _ ?_⟩); clear hK' K') | (refine sK hT ?_; simp only [St.put]) | ((first | refine ZAE (hK _ ?_) | refine ZAJ (hK _ ?_)); clear hK K; push_cast) | ((first | apply ZAC | apply ZAF | apply ZAG | apply ZAM); push_cast) | refine ZAK fun K hK => ?_ | refine ZAN fun K hK => ?_ | refine dQ hT hm fun K hK => ?_ | refine dL hT hm fun K hK => ?_ | apply ZAA | apply ZAB | apply ZAL | (refine ZAH _ rfl (fun h => ?_) (fun h => ?_) <;> simp only [bh2, reduceCtorEq] at h))
  all_goals first | exact ff | skip
  refine ZAO (α := Nat) (fun k => ⟨[(9, I64 M), (10, I64 X), (11, I64 Y), (12, I64 A), (14, .s 36), (37, avPs ps), (38, I64 ps.length), (39, I64 k)], [(36, .row 4 1 (.vals (fillV L k)))]⟩) (fun k => k ≤ ps.length) (fun k => ps.length - k) 0 (Nat.zero_le _) (G.wk ⟨rfl, rfl, rfl, rfl, rfl, rfl, rfl, rfl, trivial⟩ ⟨by rw [ZEf, hcl]; rfl, trivial⟩) fun k hk => ?_
  have hfl := ZFy L k (by omega)
  by_cases hlt : k < ps.length
  · have c1 : decide ((k : Int) < (ps.length : Int)) = true := decide_eq_true (by omega)
    have hatk := hat k hlt
    by_cases m1 : M = X + Y
    · have d1 : (M == X + Y) = true := beq_iff_eq.2 m1
      rw [if_pos m1] at hatk
      have hke := ZEg L k (by omega) hatk
      repeat' (first | ((first | refine sC hT fun K' hK' => ?_ | refine oC fun K' hK' => ?_); push_cast [c1, d1]; (try simp (disch := omega) only [wrap64, Int.toNat_natCast]); (repeat refine ZAD ?_ ?_); (first | refine hK' _ ?_ | refine ⟨.v (.int .i64 0), hK' _ ?_⟩); clear hK' K') | (refine sK hT ?_; simp only [St.put]) | ((first | refine ZAE (hK _ ?_) | refine ZAJ (hK _ ?_)); clear hK K; push_cast) | ((first | apply ZAC | apply ZAF | apply ZAG | apply ZAM); push_cast) | refine ZAK fun K hK => ?_ | refine ZAN fun K hK => ?_ | refine dQ hT hm fun K hK => ?_ | refine dL hT hm fun K hK => ?_ | apply ZAA | apply ZAB | apply ZAL | (refine ZAH _ rfl (fun h => ?_) (fun h => ?_) <;> simp only [bh2, reduceCtorEq] at h))
      all_goals first | exact ff | skip
      all_goals exact ⟨k + 1, ⟨by omega, by omega⟩, G.wk ⟨rfl, rfl, rfl, rfl, rfl, rfl, rfl, rfl, trivial⟩ ⟨by rw [hke]; rfl, trivial⟩⟩
    · have d1 : (M == X + Y) = false := beq_eq_false_iff_ne.2 m1
      rw [if_neg m1] at hatk
      by_cases m2 : M = A + Y
      · have d2 : (M == A + Y) = true := beq_iff_eq.2 m2
        rw [if_pos m2] at hatk
        have hke := ZCU L k (by omega)
        rw [hatk] at hke
        repeat' (first | ((first | refine sC hT fun K' hK' => ?_ | refine oC fun K' hK' => ?_); push_cast [c1, d1, d2, hfl]; (try simp (disch := omega) only [wrap64, Int.toNat_natCast]); (repeat refine ZAD ?_ ?_); (first | refine hK' _ ?_ | refine ⟨.v (.int .i64 0), hK' _ ?_⟩); clear hK' K') | (refine sK hT ?_; simp only [St.put]) | ((first | refine ZAE (hK _ ?_) | refine ZAJ (hK _ ?_)); clear hK K; push_cast) | ((first | apply ZAC | apply ZAF | apply ZAG | apply ZAM); push_cast) | refine ZAK fun K hK => ?_ | refine ZAN fun K hK => ?_ | refine dQ hT hm fun K hK => ?_ | refine dL hT hm fun K hK => ?_ | apply ZAA | apply ZAB | apply ZAL | (refine ZAH _ rfl (fun h => ?_) (fun h => ?_) <;> simp only [bh2, reduceCtorEq] at h))
        all_goals first | exact ff | skip
        all_goals exact ⟨k + 1, ⟨by omega, by omega⟩, G.wk ⟨rfl, rfl, rfl, rfl, rfl, rfl, rfl, rfl, trivial⟩ ⟨by rw [← hke]; rfl, trivial⟩⟩
      · have d2 : (M == A + Y) = false := beq_eq_false_iff_ne.2 m2
        rw [if_neg m2] at hatk
        have hke := ZCU L k (by omega)
        rw [hatk] at hke
        repeat' (first | ((first | refine sC hT fun K' hK' => ?_ | refine oC fun K' hK' => ?_); push_cast [c1, d1, d2, hfl]; (try simp (disch := omega) only [wrap64, Int.toNat_natCast]); (repeat refine ZAD ?_ ?_); (first | refine hK' _ ?_ | refine ⟨.v (.int .i64 0), hK' _ ?_⟩); clear hK' K') | (refine sK hT ?_; simp only [St.put]) | ((first | refine ZAE (hK _ ?_) | refine ZAJ (hK _ ?_)); clear hK K; push_cast) | ((first | apply ZAC | apply ZAF | apply ZAG | apply ZAM); push_cast) | refine ZAK fun K hK => ?_ | refine ZAN fun K hK => ?_ | refine dQ hT hm fun K hK => ?_ | refine dL hT hm fun K hK => ?_ | apply ZAA | apply ZAB | apply ZAL | (refine ZAH _ rfl (fun h => ?_) (fun h => ?_) <;> simp only [bh2, reduceCtorEq] at h))
        all_goals first | exact ff | skip
        all_goals exact ⟨k + 1, ⟨by omega, by omega⟩, G.wk ⟨rfl, rfl, rfl, rfl, rfl, rfl, rfl, rfl, trivial⟩ ⟨by rw [← hke]; rfl, trivial⟩⟩
  · obtain rfl : k = ps.length := by omega
    have c1 : decide ((ps.length : Int) < (ps.length : Int)) = false := decide_eq_false (by omega)
    have hfa := ZD4 L
    rw [hcl] at hfa
    repeat' (first | ((first | refine sC hT fun K' hK' => ?_ | refine oC fun K' hK' => ?_); push_cast [c1, hfa]; (try simp (disch := omega) only [wrap64, Int.toNat_natCast]); (repeat refine ZAD ?_ ?_); (first | refine hK' _ ?_ | refine ⟨.v (.int .i64 0), hK' _ ?_⟩); clear hK' K') | (refine sK hT ?_; simp only [St.put]) | ((first | refine ZAE (hK _ ?_) | refine ZAJ (hK _ ?_)); clear hK K; push_cast) | ((first | apply ZAC | apply ZAF | apply ZAG | apply ZAM); push_cast) | refine ZAK fun K hK => ?_ | refine ZAN fun K hK => ?_ | refine dQ hT hm fun K hK => ?_ | refine dL hT hm fun K hK => ?_ | apply ZAA | apply ZAB | apply ZAL | (refine ZAH _ rfl (fun h => ?_) (fun h => ?_) <;> simp only [bh2, reduceCtorEq] at h))
    all_goals first | exact ff | skip
    all_goals done
theorem ZGp (ps : List Po) (cs : List Cl) (r : Int) (hr : In64 r) (hps : okPs ps) (hcs : okCs cs) (h : vP ps ∧ vC cs) : Pure Try.prog 16 [avPs ps, avCs cs, I64 r] (.t [I64 (mostF ps cs r), bools (cutF ps cs r), I64 0]) := by
  have h1 := ZCT ps hps
  have h2 := ZB0 cs hcs
  rw [decide_eq_true h.1] at h1
  rw [decide_eq_true h.2] at h2
  obtain ⟨vp, vc⟩ := h
  have hl := vp.1
  have hs0 := ZD2 ps false vp
  have hs1 := ZD2 ps true vp
  have hu0 := ZGo cs r false hr vc
  have hu1 := ZGo cs r true hr vc
  have hA := ZAW vp false
  have hB := ZAW vp true
  have hb0 := ZBf vc r false cs.length
  have hb1 := ZBf vc r true cs.length
  rw [List.take_length] at hb0 hb1
  have q0 : 0 ≤ upC cs r false ∧ upC cs r false ≤ 64 * maxC := hb0
  have q1 : 0 ≤ upC cs r true ∧ upC cs r true ≤ 64 * maxC := hb1
  simp only [maxC] at hA hB q0 q1
  refine Pure.res (r := .t [I64 (mostF ps cs r), boolsV (cutF ps cs r), I64 0]) ?_ (ZHL ⟨Sub.refl _, ZEh _, Sub.refl _, trivial⟩)
  have hat := fun k hk => ZJY ps cs r (k := k) hk
  have hcl := ZGJ ps cs r
  clear hb0 hb1
  have hM : mostF ps cs r = min (sumP ps false + sumP ps true) (min (upC cs r false) (sumP ps false) + upC cs r true) := rfl
  refine ZAV (n := 77) (res := [.tmp 6, .tmp 7, .tmp 8]) hT Try.func16 rfl rfl rfl Try.ntmps16 (Nat.le_of_ble_eq_true rfl) fun B w0 => ?_
  generalize cutF ps cs r = L at *
  generalize mostF ps cs r = M at *
  generalize upC cs r false = X at *
  generalize upC cs r true = Y at *
  generalize sumP ps false = A at *
  generalize sumP ps true = B' at *
  repeat' (first | ((first | refine sC hT fun K' hK' => ?_ | refine oC fun K' hK' => ?_); push_cast; (try simp (disch := omega) only [wrap64, Int.toNat_natCast]); (repeat refine ZAD ?_ ?_); (first | refine hK' _ ?_ | ((first | apply con1 | (apply con3; exact gd) | apply con2); (try intro hb); (first | exact h1 | exact h2 | exact hs0 | exact hs1 | exact hu0 | exact hu1); exact okr; refine hK' _ ?_) | refine ⟨.v (.int .i64 0), hK' _ ?_⟩); clear hK' K') | (refine sK hT ?_; simp only [St.put]) | ((first | refine ZAE (hK _ ?_) | refine ZAJ (hK _ ?_)); clear hK K; push_cast) | ((first | apply ZAC | apply ZAF | apply ZAG | apply ZAM); push_cast) | refine ZAK fun K hK => ?_ | refine ZAN fun K hK => ?_ | refine dQ hT hm fun K hK => ?_ | refine dL hT hm fun K hK => ?_ | apply ZAA | apply ZAB | apply ZAL | (refine ZAH _ rfl (fun h => ?_) (fun h => ?_) <;> simp only [bh2, reduceCtorEq] at h))
  all_goals first | exact ff | skip
  refine ZAO (α := Nat) (fun k => ⟨[(0, avPs ps), (9, I64 A), (11, I64 X), (12, I64 Y), (13, I64 M), (14, .s 45), (15, I64 k)], [(45, .row 4 1 (.vals (fillV L k)))]⟩) (fun k => k ≤ ps.length) (fun k => ps.length - k) 0 (Nat.zero_le _) (G.wk ⟨rfl, rfl, rfl, rfl, by rw [hM]; rfl, rfl, rfl, trivial⟩ ⟨by rw [ZEf, hcl]; rfl, trivial⟩) fun k hk => ?_
  have hfl := ZFy L k (by omega)
  by_cases hlt : k < ps.length
  · have c1 : decide ((k : Int) < (ps.length : Int)) = true := decide_eq_true (by omega)
    have hatk := hat k hlt
    by_cases m1 : M = X + Y
    · have d1 : (M != X + Y) = false := bne_eq_false_iff_eq.2 m1
      have hall : fillV L k = L.map .bool := by
        have key : ∀ m, k + m ≤ L.length → fillV L k = fillV L (k + m) := by
          intro m
          induction m with
          | zero => intro _; rfl
          | succ m ih =>
            intro h
            rw [ih (by omega), ZEg L (k + m) (by omega) (by rw [hat (k + m) (by omega), if_pos m1])]
            rfl
        rw [key (L.length - k) (by omega), show k + (L.length - k) = L.length by omega, ZD4]
      repeat' (first | ((first | refine sC hT fun K' hK' => ?_ | refine oC fun K' hK' => ?_); push_cast [c1, d1, hall]; (try simp (disch := omega) only [wrap64, Int.toNat_natCast]); (repeat refine ZAD ?_ ?_); (first | refine hK' _ ?_ | refine ⟨.v (.int .i64 0), hK' _ ?_⟩); clear hK' K') | (refine sK hT ?_; simp only [St.put]) | ((first | refine ZAE (hK _ ?_) | refine ZAJ (hK _ ?_)); clear hK K; push_cast) | ((first | apply ZAC | apply ZAF | apply ZAG | apply ZAM); push_cast) | refine ZAK fun K hK => ?_ | refine ZAN fun K hK => ?_ | refine dQ hT hm fun K hK => ?_ | refine dL hT hm fun K hK => ?_ | apply ZAA | apply ZAB | apply ZAL | (refine ZAH _ rfl (fun h => ?_) (fun h => ?_) <;> simp only [bh2, reduceCtorEq] at h))
      all_goals first | exact ff | skip
      all_goals done
    · have d1 : (M != X + Y) = true := bne_iff_ne.2 m1
      rw [if_neg m1] at hatk
      by_cases m2 : M = A + Y
      · have d2 : (M != A + Y) = false := bne_eq_false_iff_eq.2 m2
        rw [if_pos m2] at hatk
        have hke := ZCU L k (by omega)
        rw [hatk] at hke
        repeat' (first | ((first | refine sC hT fun K' hK' => ?_ | refine oC fun K' hK' => ?_); push_cast [c1, d1, d2, hfl]; (try simp (disch := omega) only [wrap64, Int.toNat_natCast]); (repeat refine ZAD ?_ ?_); (first | refine hK' _ ?_ | refine ⟨.v (.int .i64 0), hK' _ ?_⟩); clear hK' K') | (refine sK hT ?_; simp only [St.put]) | ((first | refine ZAE (hK _ ?_) | refine ZAJ (hK _ ?_)); clear hK K; push_cast) | ((first | apply ZAC | apply ZAF | apply ZAG | apply ZAM); push_cast) | refine ZAK fun K hK => ?_ | refine ZAN fun K hK => ?_ | refine dQ hT hm fun K hK => ?_ | refine dL hT hm fun K hK => ?_ | apply ZAA | apply ZAB | apply ZAL | (refine ZAH _ rfl (fun h => ?_) (fun h => ?_) <;> simp only [bh2, reduceCtorEq] at h))
        all_goals first | exact ff | skip
        all_goals exact ⟨k + 1, ⟨by omega, by omega⟩, G.wk ⟨rfl, rfl, rfl, rfl, rfl, rfl, rfl, trivial⟩ ⟨by rw [← hke]; rfl, trivial⟩⟩
      · have d2 : (M != A + Y) = true := bne_iff_ne.2 m2
        rw [if_neg m2] at hatk
        have hke := ZCU L k (by omega)
        rw [hatk] at hke
        repeat' (first | ((first | refine sC hT fun K' hK' => ?_ | refine oC fun K' hK' => ?_); push_cast [c1, d1, d2, hfl]; (try simp (disch := omega) only [wrap64, Int.toNat_natCast]); (repeat refine ZAD ?_ ?_); (first | refine hK' _ ?_ | refine ⟨.v (.int .i64 0), hK' _ ?_⟩); clear hK' K') | (refine sK hT ?_; simp only [St.put]) | ((first | refine ZAE (hK _ ?_) | refine ZAJ (hK _ ?_)); clear hK K; push_cast) | ((first | apply ZAC | apply ZAF | apply ZAG | apply ZAM); push_cast) | refine ZAK fun K hK => ?_ | refine ZAN fun K hK => ?_ | refine dQ hT hm fun K hK => ?_ | refine dL hT hm fun K hK => ?_ | apply ZAA | apply ZAB | apply ZAL | (refine ZAH _ rfl (fun h => ?_) (fun h => ?_) <;> simp only [bh2, reduceCtorEq] at h))
        all_goals first | exact ff | skip
        all_goals exact ⟨k + 1, ⟨by omega, by omega⟩, G.wk ⟨rfl, rfl, rfl, rfl, rfl, rfl, rfl, trivial⟩ ⟨by rw [← hke]; rfl, trivial⟩⟩
  · obtain rfl : k = ps.length := by omega
    have c1 : decide ((ps.length : Int) < (ps.length : Int)) = false := decide_eq_false (by omega)
    have hfa := ZD4 L
    rw [hcl] at hfa
    repeat' (first | ((first | refine sC hT fun K' hK' => ?_ | refine oC fun K' hK' => ?_); push_cast [c1, hfa, Bool.false_and]; (try simp (disch := omega) only [wrap64, Int.toNat_natCast]); (repeat refine ZAD ?_ ?_); (first | refine hK' _ ?_ | refine ⟨.v (.int .i64 0), hK' _ ?_⟩); clear hK' K') | (refine sK hT ?_; simp only [St.put]) | ((first | refine ZAE (hK _ ?_) | refine ZAJ (hK _ ?_)); clear hK K; push_cast) | ((first | apply ZAC | apply ZAF | apply ZAG | apply ZAM); push_cast) | refine ZAK fun K hK => ?_ | refine ZAN fun K hK => ?_ | refine dQ hT hm fun K hK => ?_ | refine dL hT hm fun K hK => ?_ | apply ZAA | apply ZAB | apply ZAL | (refine ZAH _ rfl (fun h => ?_) (fun h => ?_) <;> simp only [bh2, reduceCtorEq] at h))
    all_goals first | exact ff | skip
    all_goals done
end Go.Proofs.Ythgjjhddbigfcaa
