/- Part of a proof about the given program: contracts of its functions (see the comment of the last text). -/
import Derived.Test.YthgjjhddbigfcaaWfB
namespace Go.Proofs.Ythgjjhddbigfcaa
open Go.Eng Go.Proofs Go.Wf
set_option linter.unusedSimpArgs false
set_option linter.unusedVariables false
attribute [local irreducible] AOps AOpsX AOps2 AOpsS AWP AAnyS Go.Eng.Pure PureRow Eff
theorem ZDD (p : Po) : Pure Try.prog 60 [.a [], .a (avP p)] (BL (!p.f)) := by
  refine ZAV (n := 8) (res := [.tmp 4]) hT Try.func60 rfl rfl rfl Try.ntmps60 (Nat.le_of_ble_eq_true rfl) fun B w0 => ?_
  repeat' (first | ((first | refine sC hT fun K' hK' => ?_ | refine oC fun K' hK' => ?_); push_cast; (try simp (disch := omega) only [wrap64, Int.toNat_natCast]); (repeat refine ZAD ?_ ?_); (first | refine hK' _ ?_ | refine ⟨.v (.int .i64 0), hK' _ ?_⟩); clear hK' K') | (refine sK hT ?_; simp only [St.put]) | ((first | refine ZAE (hK _ ?_) | refine ZAJ (hK _ ?_)); clear hK K; push_cast) | ((first | apply ZAC | apply ZAF | apply ZAG | apply ZAM); push_cast) | refine ZAK fun K hK => ?_ | refine ZAN fun K hK => ?_ | refine dQ hT hm fun K hK => ?_ | refine dL hT hm fun K hK => ?_ | apply ZAA | apply ZAB | apply ZAL | (refine ZAH _ rfl (fun h => ?_) (fun h => ?_) <;> simp only [bh2, reduceCtorEq] at h))
  all_goals first | exact ff | skip
  all_goals done
theorem ZHy (p : Po) : Pure Try.prog 105 [.a [], .a (avP p)] (BL true) := by
  refine ZAV (n := 5) (res := [.tmp 4]) hT Try.func105 rfl rfl rfl Try.ntmps105 (Nat.le_of_ble_eq_true rfl) fun B w0 => ?_
  repeat' (first | ((first | refine sC hT fun K' hK' => ?_ | refine oC fun K' hK' => ?_); push_cast; (try simp (disch := omega) only [wrap64, Int.toNat_natCast]); (repeat refine ZAD ?_ ?_); (first | refine hK' _ ?_ | refine ⟨.v (.int .i64 0), hK' _ ?_⟩); clear hK' K') | (refine sK hT ?_; simp only [St.put]) | ((first | refine ZAE (hK _ ?_) | refine ZAJ (hK _ ?_)); clear hK K; push_cast) | ((first | apply ZAC | apply ZAF | apply ZAG | apply ZAM); push_cast) | refine ZAK fun K hK => ?_ | refine ZAN fun K hK => ?_ | refine dQ hT hm fun K hK => ?_ | refine dL hT hm fun K hK => ?_ | apply ZAA | apply ZAB | apply ZAL | (refine ZAH _ rfl (fun h => ?_) (fun h => ?_) <;> simp only [bh2, reduceCtorEq] at h))
  all_goals first | exact ff | skip
  all_goals done
theorem ZCD (ps : List Po) (hv : vP ps) : Pure Try.prog 39 [avPs ps] (.t [I64 (sumP ps false), I64 (sumP ps true)]) := by
  have hl := hv.1
  have hb : ∀ b k, 0 ≤ sumBy (kP b) (ps.take k) ∧ sumBy (kP b) (ps.take k) ≤ maxC := fun b k => by
    have h1 := ZA1 (kP b) (ps.take k) fun p hp => ZCe hv b p (List.mem_of_mem_take hp)
    have h2 := ZCC (kP b) ps k (ZCe hv b)
    have := (ZAW hv b).2
    unfold sumP at this
    omega
  refine ZAV (n := 28) (res := [.tmp 2, .tmp 3]) hT Try.func39 rfl rfl rfl Try.ntmps39 (Nat.le_of_ble_eq_true rfl) fun B w0 => ?_
  repeat' (first | ((first | refine sC hT fun K' hK' => ?_ | refine oC fun K' hK' => ?_); push_cast; (try simp (disch := omega) only [wrap64, Int.toNat_natCast]); (repeat refine ZAD ?_ ?_); (first | refine hK' _ ?_ | refine ⟨.v (.int .i64 0), hK' _ ?_⟩); clear hK' K') | (refine sK hT ?_; simp only [St.put]) | ((first | refine ZAE (hK _ ?_) | refine ZAJ (hK _ ?_)); clear hK K; push_cast) | ((first | apply ZAC | apply ZAF | apply ZAG | apply ZAM); push_cast) | refine ZAK fun K hK => ?_ | refine ZAN fun K hK => ?_ | refine dQ hT hm fun K hK => ?_ | refine dL hT hm fun K hK => ?_ | apply ZAA | apply ZAB | apply ZAL | (refine ZAH _ rfl (fun h => ?_) (fun h => ?_) <;> simp only [bh2, reduceCtorEq] at h))
  all_goals first | exact ff | skip
  refine ZAO (α := Nat) (fun k => ⟨[(4, I64 (sumBy (kP false) (ps.take k))), (5, I64 (sumBy (kP true) (ps.take k))), (8, avPs ps), (9, I64 ps.length), (10, I64 k)], []⟩) (fun k => k ≤ ps.length) (fun k => ps.length - k) 0 (Nat.zero_le _) (G.wk ⟨rfl, rfl, rfl, rfl, rfl, trivial⟩ trivial) fun k hk => ?_
  have h1 := hb false k
  have h2 := hb true k
  simp only [maxC] at h1 h2
  by_cases hlt : k < ps.length
  · have c1 : decide ((k : Int) < (ps.length : Int)) = true := decide_eq_true (by omega)
    have s1 := ZAb (kP false) ps k hlt
    have s2 := ZAb (kP true) ps k hlt
    have hc := ZCS hv (ZAc hlt)
    simp only [maxC] at hc
    have hr := ZDD (ps.getD k default)
    have e1 : kP false (ps.getD k default) = if (ps.getD k default).f then 0 else (ps.getD k default).c := by unfold kP; cases (ps.getD k default).f <;> rfl
    have e2 : kP true (ps.getD k default) = if (ps.getD k default).f then (ps.getD k default).c else 0 := by unfold kP; cases (ps.getD k default).f <;> rfl
    cases hf : (ps.getD k default).f with
    | false =>
      have hr := ZDD (ps.getD k default)
      unfold avP at hr
      rw [hf] at hr e1 e2
      simp only [if_false, Bool.false_eq_true] at e1 e2
      repeat' (first | ((first | refine sC hT fun K' hK' => ?_ | refine oC fun K' hK' => ?_); push_cast [c1, hf]; (try simp (disch := omega) only [wrap64, Int.toNat_natCast]); (repeat refine ZAD ?_ ?_); (first | refine hK' _ ?_ | ((first | apply con1 | (apply con3; exact gd) | apply con2); (try intro hb); (first | exact hr); exact okr; refine hK' _ ?_) | refine ⟨.v (.int .i64 0), hK' _ ?_⟩); clear hK' K') | (refine sK hT ?_; simp only [St.put]) | ((first | refine ZAE (hK _ ?_) | refine ZAJ (hK _ ?_)); clear hK K; push_cast) | ((first | apply ZAC | apply ZAF | apply ZAG | apply ZAM); push_cast) | refine ZAK fun K hK => ?_ | refine ZAN fun K hK => ?_ | refine dQ hT hm fun K hK => ?_ | refine dL hT hm fun K hK => ?_ | apply ZAA | apply ZAB | apply ZAL | (refine ZAH _ rfl (fun h => ?_) (fun h => ?_) <;> simp only [bh2, reduceCtorEq] at h))
      all_goals first | exact ff | skip
      all_goals exact ⟨k + 1, ⟨by omega, by omega⟩, G.wk ⟨by rw [s1, e1]; rfl, by rw [s2, e2, Int.add_zero]; rfl, rfl, rfl, rfl, trivial⟩ trivial⟩
    | true =>
      have hr := ZDD (ps.getD k default)
      unfold avP at hr
      rw [hf] at hr e1 e2
      simp only [if_true] at e1 e2
      repeat' (first | ((first | refine sC hT fun K' hK' => ?_ | refine oC fun K' hK' => ?_); push_cast [c1, hf]; (try simp (disch := omega) only [wrap64, Int.toNat_natCast]); (repeat refine ZAD ?_ ?_); (first | refine hK' _ ?_ | ((first | apply con1 | (apply con3; exact gd) | apply con2); (try intro hb); (first | exact hr); exact okr; refine hK' _ ?_) | refine ⟨.v (.int .i64 0), hK' _ ?_⟩); clear hK' K') | (refine sK hT ?_; simp only [St.put]) | ((first | refine ZAE (hK _ ?_) | refine ZAJ (hK _ ?_)); clear hK K; push_cast) | ((first | apply ZAC | apply ZAF | apply ZAG | apply ZAM); push_cast) | refine ZAK fun K hK => ?_ | refine ZAN fun K hK => ?_ | refine dQ hT hm fun K hK => ?_ | refine dL hT hm fun K hK => ?_ | apply ZAA | apply ZAB | apply ZAL | (refine ZAH _ rfl (fun h => ?_) (fun h => ?_) <;> simp only [bh2, reduceCtorEq] at h))
      all_goals first | exact ff | skip
      all_goals exact ⟨k + 1, ⟨by omega, by omega⟩, G.wk ⟨by rw [s1, e1, Int.add_zero]; rfl, by rw [s2, e2]; rfl, rfl, rfl, rfl, trivial⟩ trivial⟩
  · obtain rfl : k = ps.length := by omega
    have c1 : decide ((ps.length : Int) < (ps.length : Int)) = false := decide_eq_false (by omega)
    have e1 : sumP ps false = sumBy (kP false) (ps.take ps.length) := by rw [List.take_length]; rfl
    have e2 : sumP ps true = sumBy (kP true) (ps.take ps.length) := by rw [List.take_length]; rfl
    rw [e1, e2]
    repeat' (first | ((first | refine sC hT fun K' hK' => ?_ | refine oC fun K' hK' => ?_); push_cast [c1]; (try simp (disch := omega) only [wrap64, Int.toNat_natCast]); (repeat refine ZAD ?_ ?_); (first | refine hK' _ ?_ | refine ⟨.v (.int .i64 0), hK' _ ?_⟩); clear hK' K') | (refine sK hT ?_; simp only [St.put]) | ((first | refine ZAE (hK _ ?_) | refine ZAJ (hK _ ?_)); clear hK K; push_cast) | ((first | apply ZAC | apply ZAF | apply ZAG | apply ZAM); push_cast) | refine ZAK fun K hK => ?_ | refine ZAN fun K hK => ?_ | refine dQ hT hm fun K hK => ?_ | refine dL hT hm fun K hK => ?_ | apply ZAA | apply ZAB | apply ZAL | (refine ZAH _ rfl (fun h => ?_) (fun h => ?_) <;> simp only [bh2, reduceCtorEq] at h))
    all_goals first | exact ff | skip
    all_goals done
theorem ZD2 (ps : List Po) (b : Bool) (hv : vP ps) : Pure Try.prog 40 [avPs ps, BL b] (I64 (sumP ps b)) := by
  have hl := hv.1
  have hb : ∀ k, 0 ≤ sumBy (kP b) (ps.take k) ∧ sumBy (kP b) (ps.take k) ≤ maxC := fun k => by
    have h1 := ZA1 (kP b) (ps.take k) fun p hp => ZCe hv b p (List.mem_of_mem_take hp)
    have h2 := ZCC (kP b) ps k (ZCe hv b)
    have := (ZAW hv b).2
    unfold sumP at this
    omega
  refine ZAV (n := 28) (res := [.tmp 4]) hT Try.func40 rfl rfl rfl Try.ntmps40 (Nat.le_of_ble_eq_true rfl) fun B w0 => ?_
  repeat' (first | ((first | refine sC hT fun K' hK' => ?_ | refine oC fun K' hK' => ?_); push_cast; (try simp (disch := omega) only [wrap64, Int.toNat_natCast]); (repeat refine ZAD ?_ ?_); (first | refine hK' _ ?_ | refine ⟨.v (.int .i64 0), hK' _ ?_⟩); clear hK' K') | (refine sK hT ?_; simp only [St.put]) | ((first | refine ZAE (hK _ ?_) | refine ZAJ (hK _ ?_)); clear hK K; push_cast) | ((first | apply ZAC | apply ZAF | apply ZAG | apply ZAM); push_cast) | refine ZAK fun K hK => ?_ | refine ZAN fun K hK => ?_ | refine dQ hT hm fun K hK => ?_ | refine dL hT hm fun K hK => ?_ | apply ZAA | apply ZAB | apply ZAL | (refine ZAH _ rfl (fun h => ?_) (fun h => ?_) <;> simp only [bh2, reduceCtorEq] at h))
  all_goals first | exact ff | skip
  refine ZAO (α := Nat) (fun k => ⟨[(0, avPs ps), (1, BL b), (5, I64 (sumBy (kP b) (ps.take k))), (6, I64 k)], []⟩) (fun k => k ≤ ps.length) (fun k => ps.length - k) 0 (Nat.zero_le _) (G.wk ⟨rfl, rfl, rfl, rfl, trivial⟩ trivial) fun k hk => ?_
  have h1 := hb k
  simp only [maxC] at h1
  by_cases hlt : k < ps.length
  · have c1 : decide ((k : Int) < (ps.length : Int)) = true := decide_eq_true (by omega)
    have s1 := ZAb (kP b) ps k hlt
    have hc := ZCS hv (ZAc hlt)
    simp only [maxC] at hc
    by_cases hf : (ps.getD k default).f = b
    · have e1 : kP b (ps.getD k default) = (ps.getD k default).c := if_pos hf
      have e2 : ((ps.getD k default).f == b) = true := by rw [hf]; exact beq_self_eq_true b
      repeat' (first | ((first | refine sC hT fun K' hK' => ?_ | refine oC fun K' hK' => ?_); push_cast [c1, e2]; (try simp (disch := omega) only [wrap64, Int.toNat_natCast]); (repeat refine ZAD ?_ ?_); (first | refine hK' _ ?_ | refine ⟨.v (.int .i64 0), hK' _ ?_⟩); clear hK' K') | (refine sK hT ?_; simp only [St.put]) | ((first | refine ZAE (hK _ ?_) | refine ZAJ (hK _ ?_)); clear hK K; push_cast) | ((first | apply ZAC | apply ZAF | apply ZAG | apply ZAM); push_cast) | refine ZAK fun K hK => ?_ | refine ZAN fun K hK => ?_ | refine dQ hT hm fun K hK => ?_ | refine dL hT hm fun K hK => ?_ | apply ZAA | apply ZAB | apply ZAL | (refine ZAH _ rfl (fun h => ?_) (fun h => ?_) <;> simp only [bh2, reduceCtorEq] at h))
      all_goals first | exact ff | skip
      all_goals exact ⟨k + 1, ⟨by omega, by omega⟩, G.wk ⟨rfl, rfl, by rw [s1, e1]; rfl, rfl, trivial⟩ trivial⟩
    · have e1 : kP b (ps.getD k default) = 0 := if_neg hf
      have e2 : ((ps.getD k default).f == b) = false := by simpa using hf
      repeat' (first | ((first | refine sC hT fun K' hK' => ?_ | refine oC fun K' hK' => ?_); push_cast [c1, e2]; (try simp (disch := omega) only [wrap64, Int.toNat_natCast]); (repeat refine ZAD ?_ ?_); (first | refine hK' _ ?_ | refine ⟨.v (.int .i64 0), hK' _ ?_⟩); clear hK' K') | (refine sK hT ?_; simp only [St.put]) | ((first | refine ZAE (hK _ ?_) | refine ZAJ (hK _ ?_)); clear hK K; push_cast) | ((first | apply ZAC | apply ZAF | apply ZAG | apply ZAM); push_cast) | refine ZAK fun K hK => ?_ | refine ZAN fun K hK => ?_ | refine dQ hT hm fun K hK => ?_ | refine dL hT hm fun K hK => ?_ | apply ZAA | apply ZAB | apply ZAL | (refine ZAH _ rfl (fun h => ?_) (fun h => ?_) <;> simp only [bh2, reduceCtorEq] at h))
      all_goals first | exact ff | skip
      all_goals exact ⟨k + 1, ⟨by omega, by omega⟩, G.wk ⟨rfl, rfl, by rw [s1, e1, Int.add_zero]; rfl, rfl, trivial⟩ trivial⟩
  · obtain rfl : k = ps.length := by omega
    have c1 : decide ((ps.length : Int) < (ps.length : Int)) = false := decide_eq_false (by omega)
    have e1 : sumP ps b = sumBy (kP b) (ps.take ps.length) := by rw [List.take_length]; rfl
    rw [e1]
    repeat' (first | ((first | refine sC hT fun K' hK' => ?_ | refine oC fun K' hK' => ?_); push_cast [c1]; (try simp (disch := omega) only [wrap64, Int.toNat_natCast]); (repeat refine ZAD ?_ ?_); (first | refine hK' _ ?_ | refine ⟨.v (.int .i64 0), hK' _ ?_⟩); clear hK' K') | (refine sK hT ?_; simp only [St.put]) | ((first | refine ZAE (hK _ ?_) | refine ZAJ (hK _ ?_)); clear hK K; push_cast) | ((first | apply ZAC | apply ZAF | apply ZAG | apply ZAM); push_cast) | refine ZAK fun K hK => ?_ | refine ZAN fun K hK => ?_ | refine dQ hT hm fun K hK => ?_ | refine dL hT hm fun K hK => ?_ | apply ZAA | apply ZAB | apply ZAL | (refine ZAH _ rfl (fun h => ?_) (fun h => ?_) <;> simp only [bh2, reduceCtorEq] at h))
    all_goals first | exact ff | skip
    all_goals done
theorem ZGo (cs : List Cl) (r : Int) (b : Bool) (hr : In64 r) (hv : vC cs) : Pure Try.prog 41 [avCs cs, I64 r, BL b] (I64 (upC cs r b)) := by
  have hl := hv.1
  have hb := ZBf hv r b
  refine ZAV (n := 39) (res := [.tmp 6]) hT Try.func41 rfl rfl rfl Try.ntmps41 (Nat.le_of_ble_eq_true rfl) fun B w0 => ?_
  repeat' (first | ((first | refine sC hT fun K' hK' => ?_ | refine oC fun K' hK' => ?_); push_cast; (try simp (disch := omega) only [wrap64, Int.toNat_natCast]); (repeat refine ZAD ?_ ?_); (first | refine hK' _ ?_ | refine ⟨.v (.int .i64 0), hK' _ ?_⟩); clear hK' K') | (refine sK hT ?_; simp only [St.put]) | ((first | refine ZAE (hK _ ?_) | refine ZAJ (hK _ ?_)); clear hK K; push_cast) | ((first | apply ZAC | apply ZAF | apply ZAG | apply ZAM); push_cast) | refine ZAK fun K hK => ?_ | refine ZAN fun K hK => ?_ | refine dQ hT hm fun K hK => ?_ | refine dL hT hm fun K hK => ?_ | apply ZAA | apply ZAB | apply ZAL | (refine ZAH _ rfl (fun h => ?_) (fun h => ?_) <;> simp only [bh2, reduceCtorEq] at h))
  all_goals first | exact ff | skip
  refine ZAO (α := Nat) (fun k => ⟨[(0, avCs cs), (1, I64 r), (2, BL b), (7, I64 (sumBy (kC r b) (cs.take k))), (8, I64 k)], []⟩) (fun k => k ≤ cs.length) (fun k => cs.length - k) 0 (Nat.zero_le _) (G.wk ⟨rfl, rfl, rfl, rfl, rfl, trivial⟩ trivial) fun k hk => ?_
  have h1 := hb k
  simp only [maxC] at h1
  by_cases hlt : k < cs.length
  · have c1 : decide ((k : Int) < (cs.length : Int)) = true := decide_eq_true (by omega)
    have s1 := ZAb (kC r b) cs k hlt
    have hc := hv.2 _ (ZAc hlt)
    unfold okCl at hc
    simp only [maxC] at hc
    by_cases hf : (cs.getD k default).r ≤ r ∧ (cs.getD k default).f = b
    · have e1 : kC r b (cs.getD k default) = (cs.getD k default).c := if_pos hf
      have e2 : decide ((cs.getD k default).r ≤ r) = true := decide_eq_true hf.1
      have e3 : ((cs.getD k default).f == b) = true := by rw [hf.2]; exact beq_self_eq_true b
      repeat' (first | ((first | refine sC hT fun K' hK' => ?_ | refine oC fun K' hK' => ?_); push_cast [c1, e2, e3]; (try simp (disch := omega) only [wrap64, Int.toNat_natCast]); (repeat refine ZAD ?_ ?_); (first | refine hK' _ ?_ | refine ⟨.v (.int .i64 0), hK' _ ?_⟩); clear hK' K') | (refine sK hT ?_; simp only [St.put]) | ((first | refine ZAE (hK _ ?_) | refine ZAJ (hK _ ?_)); clear hK K; push_cast) | ((first | apply ZAC | apply ZAF | apply ZAG | apply ZAM); push_cast) | refine ZAK fun K hK => ?_ | refine ZAN fun K hK => ?_ | refine dQ hT hm fun K hK => ?_ | refine dL hT hm fun K hK => ?_ | apply ZAA | apply ZAB | apply ZAL | (refine ZAH _ rfl (fun h => ?_) (fun h => ?_) <;> simp only [bh2, reduceCtorEq] at h))
      all_goals first | exact ff | skip
      all_goals exact ⟨k + 1, ⟨by omega, by omega⟩, G.wk ⟨rfl, rfl, rfl, by rw [s1, e1]; rfl, rfl, trivial⟩ trivial⟩
    · have e1 : kC r b (cs.getD k default) = 0 := if_neg hf
      have e2 : (decide ((cs.getD k default).r ≤ r) && ((cs.getD k default).f == b)) = false := by
        rw [Bool.eq_false_iff]; intro h; rw [Bool.and_eq_true, decide_eq_true_eq, beq_iff_eq] at h; exact hf h
      repeat' (first | ((first | refine sC hT fun K' hK' => ?_ | refine oC fun K' hK' => ?_); push_cast [c1, e2]; (try simp (disch := omega) only [wrap64, Int.toNat_natCast]); (repeat refine ZAD ?_ ?_); (first | refine hK' _ ?_ | refine ⟨.v (.int .i64 0), hK' _ ?_⟩); clear hK' K') | (refine sK hT ?_; simp only [St.put]) | ((first | refine ZAE (hK _ ?_) | refine ZAJ (hK _ ?_)); clear hK K; push_cast) | ((first | apply ZAC | apply ZAF | apply ZAG | apply ZAM); push_cast) | refine ZAK fun K hK => ?_ | refine ZAN fun K hK => ?_ | refine dQ hT hm fun K hK => ?_ | refine dL hT hm fun K hK => ?_ | apply ZAA | apply ZAB | apply ZAL | (refine ZAH _ rfl (fun h => ?_) (fun h => ?_) <;> simp only [bh2, reduceCtorEq] at h))
      all_goals first | exact ff | skip
      all_goals exact ⟨k + 1, ⟨by omega, by omega⟩, G.wk ⟨rfl, rfl, rfl, by rw [s1, e1, Int.add_zero]; rfl, rfl, trivial⟩ trivial⟩
  · obtain rfl : k = cs.length := by omega
    have c1 : decide ((cs.length : Int) < (cs.length : Int)) = false := decide_eq_false (by omega)
    have e1 : upC cs r b = sumBy (kC r b) (cs.take cs.length) := by rw [List.take_length]; rfl
    rw [e1]
    repeat' (first | ((first | refine sC hT fun K' hK' => ?_ | refine oC fun K' hK' => ?_); push_cast [c1]; (try simp (disch := omega) only [wrap64, Int.toNat_natCast]); (repeat refine ZAD ?_ ?_); (first | refine hK' _ ?_ | refine ⟨.v (.int .i64 0), hK' _ ?_⟩); clear hK' K') | (refine sK hT ?_; simp only [St.put]) | ((first | refine ZAE (hK _ ?_) | refine ZAJ (hK _ ?_)); clear hK K; push_cast) | ((first | apply ZAC | apply ZAF | apply ZAG | apply ZAM); push_cast) | refine ZAK fun K hK => ?_ | refine ZAN fun K hK => ?_ | refine dQ hT hm fun K hK => ?_ | refine dL hT hm fun K hK => ?_ | apply ZAA | apply ZAB | apply ZAL | (refine ZAH _ rfl (fun h => ?_) (fun h => ?_) <;> simp only [bh2, reduceCtorEq] at h))
    all_goals first | exact ff | skip
    all_goals done
theorem ZD3 (ps : List Po) (cs : List Cl) (r : Int) (hr : In64 r) (hv : vP ps) (hw : vC cs) : Pure Try.prog 38 [avPs ps, avCs cs, I64 r] (.t [I64 (mostF ps cs r), I64 (upC cs r false), I64 (upC cs r true)]) := by
  have hl := hw.1
  have hco := ZCD ps hv
  have hA := ZAW hv false
  have hB := ZAW hv true
  have hb0 := ZBf hw r false
  have hb1 := ZBf hw r true
  simp only [maxC] at hA hB
  refine ZAV (n := 54) (res := [.tmp 6, .tmp 7, .tmp 8]) hT Try.func38 rfl rfl rfl Try.ntmps38 (Nat.le_of_ble_eq_true rfl) fun B w0 => ?_
  repeat' (first | ((first | refine sC hT fun K' hK' => ?_ | refine oC fun K' hK' => ?_); push_cast; (try simp (disch := omega) only [wrap64, Int.toNat_natCast]); (repeat refine ZAD ?_ ?_); (first | refine hK' _ ?_ | ((first | apply con1 | (apply con3; exact gd) | apply con2); (try intro hb); (first | exact hco); exact okr; refine hK' _ ?_) | refine ⟨.v (.int .i64 0), hK' _ ?_⟩); clear hK' K') | (refine sK hT ?_; simp only [St.put]) | ((first | refine ZAE (hK _ ?_) | refine ZAJ (hK _ ?_)); clear hK K; push_cast) | ((first | apply ZAC | apply ZAF | apply ZAG | apply ZAM); push_cast) | refine ZAK fun K hK => ?_ | refine ZAN fun K hK => ?_ | refine dQ hT hm fun K hK => ?_ | refine dL hT hm fun K hK => ?_ | apply ZAA | apply ZAB | apply ZAL | (refine ZAH _ rfl (fun h => ?_) (fun h => ?_) <;> simp only [bh2, reduceCtorEq] at h))
  all_goals first | exact ff | skip
  refine ZAO (α := Nat) (fun k => ⟨[(2, I64 r), (9, I64 (sumP ps false)), (10, I64 (sumP ps true)), (11, I64 (sumBy (kC r false) (cs.take k))), (12, I64 (sumBy (kC r true) (cs.take k))), (20, avCs cs), (21, I64 cs.length), (22, I64 k)], []⟩) (fun k => k ≤ cs.length) (fun k => cs.length - k) 0 (Nat.zero_le _) (G.wk ⟨rfl, rfl, rfl, rfl, rfl, rfl, rfl, rfl, trivial⟩ trivial) fun k hk => ?_
  have h1 := hb0 k
  have h2 := hb1 k
  simp only [maxC] at h1 h2
  by_cases hlt : k < cs.length
  · have c1 : decide ((k : Int) < (cs.length : Int)) = true := decide_eq_true (by omega)
    have s1 := ZAb (kC r false) cs k hlt
    have s2 := ZAb (kC r true) cs k hlt
    have hc := hw.2 _ (ZAc hlt)
    unfold okCl at hc
    simp only [maxC] at hc
    by_cases hf : r < (cs.getD k default).r
    · have e2 : decide (r < (cs.getD k default).r) = true := decide_eq_true hf
      have e0 : ∀ b, kC r b (cs.getD k default) = 0 := fun b => if_neg (fun h => by omega)
      repeat' (first | ((first | refine sC hT fun K' hK' => ?_ | refine oC fun K' hK' => ?_); push_cast [c1, e2]; (try simp (disch := omega) only [wrap64, Int.toNat_natCast]); (repeat refine ZAD ?_ ?_); (first | refine hK' _ ?_ | refine ⟨.v (.int .i64 0), hK' _ ?_⟩); clear hK' K') | (refine sK hT ?_; simp only [St.put]) | ((first | refine ZAE (hK _ ?_) | refine ZAJ (hK _ ?_)); clear hK K; push_cast) | ((first | apply ZAC | apply ZAF | apply ZAG | apply ZAM); push_cast) | refine ZAK fun K hK => ?_ | refine ZAN fun K hK => ?_ | refine dQ hT hm fun K hK => ?_ | refine dL hT hm fun K hK => ?_ | apply ZAA | apply ZAB | apply ZAL | (refine ZAH _ rfl (fun h => ?_) (fun h => ?_) <;> simp only [bh2, reduceCtorEq] at h))
      all_goals first | exact ff | skip
      all_goals exact ⟨k + 1, ⟨by omega, by omega⟩, G.wk ⟨rfl, rfl, rfl, by rw [s1, e0, Int.add_zero]; rfl, by rw [s2, e0, Int.add_zero]; rfl, rfl, rfl, rfl, trivial⟩ trivial⟩
    · have e2 : decide (r < (cs.getD k default).r) = false := decide_eq_false hf
      cases hk2 : (cs.getD k default).f with
      | true =>
        have e0 : kC r false (cs.getD k default) = 0 := if_neg (fun h => by rw [hk2] at h; cases h.2)
        have e1 : kC r true (cs.getD k default) = (cs.getD k default).c := if_pos ⟨by omega, hk2⟩
        repeat' (first | ((first | refine sC hT fun K' hK' => ?_ | refine oC fun K' hK' => ?_); push_cast [c1, e2, hk2]; (try simp (disch := omega) only [wrap64, Int.toNat_natCast]); (repeat refine ZAD ?_ ?_); (first | refine hK' _ ?_ | refine ⟨.v (.int .i64 0), hK' _ ?_⟩); clear hK' K') | (refine sK hT ?_; simp only [St.put]) | ((first | refine ZAE (hK _ ?_) | refine ZAJ (hK _ ?_)); clear hK K; push_cast) | ((first | apply ZAC | apply ZAF | apply ZAG | apply ZAM); push_cast) | refine ZAK fun K hK => ?_ | refine ZAN fun K hK => ?_ | refine dQ hT hm fun K hK => ?_ | refine dL hT hm fun K hK => ?_ | apply ZAA | apply ZAB | apply ZAL | (refine ZAH _ rfl (fun h => ?_) (fun h => ?_) <;> simp only [bh2, reduceCtorEq] at h))
        all_goals first | exact ff | skip
        all_goals exact ⟨k + 1, ⟨by omega, by omega⟩, G.wk ⟨rfl, rfl, rfl, by rw [s1, e0, Int.add_zero]; rfl, by rw [s2, e1]; rfl, rfl, rfl, rfl, trivial⟩ trivial⟩
      | false =>
        have e0 : kC r true (cs.getD k default) = 0 := if_neg (fun h => by rw [hk2] at h; cases h.2)
        have e1 : kC r false (cs.getD k default) = (cs.getD k default).c := if_pos ⟨by omega, hk2⟩
        repeat' (first | ((first | refine sC hT fun K' hK' => ?_ | refine oC fun K' hK' => ?_); push_cast [c1, e2, hk2]; (try simp (disch := omega) only [wrap64, Int.toNat_natCast]); (repeat refine ZAD ?_ ?_); (first | refine hK' _ ?_ | refine ⟨.v (.int .i64 0), hK' _ ?_⟩); clear hK' K') | (refine sK hT ?_; simp only [St.put]) | ((first | refine ZAE (hK _ ?_) | refine ZAJ (hK _ ?_)); clear hK K; push_cast) | ((first | apply ZAC | apply ZAF | apply ZAG | apply ZAM); push_cast) | refine ZAK fun K hK => ?_ | refine ZAN fun K hK => ?_ | refine dQ hT hm fun K hK => ?_ | refine dL hT hm fun K hK => ?_ | apply ZAA | apply ZAB | apply ZAL | (refine ZAH _ rfl (fun h => ?_) (fun h => ?_) <;> simp only [bh2, reduceCtorEq] at h))
        all_goals first | exact ff | skip
        all_goals exact ⟨k + 1, ⟨by omega, by omega⟩, G.wk ⟨rfl, rfl, rfl, by rw [s1, e1]; rfl, by rw [s2, e0, Int.add_zero]; rfl, rfl, rfl, rfl, trivial⟩ trivial⟩
  · obtain rfl : k = cs.length := by omega
    have c1 : decide ((cs.length : Int) < (cs.length : Int)) = false := decide_eq_false (by omega)
    have e1 : upC cs r false = sumBy (kC r false) (cs.take cs.length) := by rw [List.take_length]; rfl
    have e2 : upC cs r true = sumBy (kC r true) (cs.take cs.length) := by rw [List.take_length]; rfl
    unfold mostF
    rw [e1, e2]
    repeat' (first | ((first | refine sC hT fun K' hK' => ?_ | refine oC fun K' hK' => ?_); push_cast [c1]; (try simp (disch := omega) only [wrap64, Int.toNat_natCast]); (repeat refine ZAD ?_ ?_); (first | refine hK' _ ?_ | refine ⟨.v (.int .i64 0), hK' _ ?_⟩); clear hK' K') | (refine sK hT ?_; simp only [St.put]) | ((first | refine ZAE (hK _ ?_) | refine ZAJ (hK _ ?_)); clear hK K; push_cast) | ((first | apply ZAC | apply ZAF | apply ZAG | apply ZAM); push_cast) | refine ZAK fun K hK => ?_ | refine ZAN fun K hK => ?_ | refine dQ hT hm fun K hK => ?_ | refine dL hT hm fun K hK => ?_ | apply ZAA | apply ZAB | apply ZAL | (refine ZAH _ rfl (fun h => ?_) (fun h => ?_) <;> simp only [bh2, reduceCtorEq] at h))
    all_goals first | exact ff | skip
    all_goals done
end Go.Proofs.Ythgjjhddbigfcaa
