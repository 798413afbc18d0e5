/- Part of a proof about the given program: contracts of its functions (see the comment of the last text). -/
import Derived.Test.YthgjjhddbigfcaaWfG
import Derived.Test.YthgjjhddbigfcaaWsG
namespace Go.Proofs.Ythgjjhddbigfcaa
open Go.Eng Go.Proofs Go.Wf Go.Proofs.Share
set_option linter.unusedSimpArgs false
set_option linter.unusedVariables false
attribute [local irreducible] AOps AOpsX AOps2 AOpsS AWP AAnyS Go.Eng.Pure PureRow Eff
theorem ZDV (cs : List Cl) (d : List Int) (l : List Nat) (t : Int) (p : List Int) (hcs : okCs cs) (h64 : l.length ≤ 64) (hl : ∀ i ∈ l, i < cs.length) (hdl : d.length = cs.length) (hc64 : cs.length ≤ 64) (he : errF t (wants cs l) = 0) (hp : DF t (wants cs l) p) :
    Eff Try.prog 57 [avCs cs, ints (toI l), I64 t, .s 9000] [(9000, .row 3 1 (.ints .i64 d))] (.t []) [(9000, .row 3 1 (.ints .i64 (put d l p)))] := by
  have htl := ZBR l
  have hfair := ZJO t (wants cs l) p he hp
  have hpl : p.length = l.length := by rw [hp.len, ZAU]
  refine ZGl (n := 52) (res := []) hT Try.func57 rfl rfl rfl Try.ntmps57 (Nat.le_of_ble_eq_true rfl) (fun id hid => by simp only [lkH]; rw [if_neg (by omega)]) fun B w0 hgh hrd => ?_
  repeat' (first | ((first | refine sC hT fun K' hK' => ?_ | refine oC fun K' hK' => ?_); push_cast [htl]; (try simp (disch := omega) only [wrap64, Int.toNat_natCast]); (repeat refine ZAD ?_ ?_); (first | refine hK' _ ?_ | refine ⟨.v (.int .i64 0), hK' _ ?_⟩); clear hK' K') | (refine sK hT ?_; simp only [St.put]) | ((first | refine ZAE (hK _ ?_) | refine ZAJ (hK _ ?_)); clear hK K; push_cast) | ((first | apply ZAC | apply ZAF | apply ZAG | apply ZAM); push_cast) | refine ZAK fun K hK => ?_ | refine ZAN fun K hK => ?_ | refine dQ hT hm fun K hK => ?_ | refine dL hT hm fun K hK => ?_ | apply ZAA | apply ZAB | apply ZAL | (refine ZAH _ rfl (fun h => ?_) (fun h => ?_) <;> simp only [bh2, reduceCtorEq] at h))
  all_goals first | exact ff | skip
  refine ZAk _ (fun a w h => G.nilRow h 8 29 rfl (by decide) 3 1 (.ints .i64 []) rfl) ?_
  push_cast
  refine ZAO (α := Nat) (fun k => ⟨[(0, avCs cs), (1, .i false (fun e _ => .v (.int .i64 ((toI l).getD e 0))) 1 0 l.length), (2, I64 t), (3, .s 9000), (8, .s 29), (9, I64 k)], [(29, .row 3 1 (.ints .i64 (wants cs (l.take k)))), (9000, .row 3 1 (.ints .i64 d))]⟩) (fun k => k ≤ l.length) (fun k => l.length - k) 0 (Nat.zero_le _) (G.wk ⟨rfl, by rw [← htl]; rfl, rfl, rfl, rfl, rfl, trivial⟩ ⟨rfl, rfl, trivial⟩) fun k hk => ?_
  have hsl : (wants cs (l.take k)).length = k := by rw [ZAU, List.length_take]; omega
  by_cases hlt : k < l.length
  · have c1 : decide ((k : Int) < (l.length : Int)) = true := decide_eq_true (by omega)
    have hli := hl _ (ZA2 hlt)
    have hti := ZBU hlt
    have hst := ZEm cs l k hlt
    have hok := ZHx hcs hli
    repeat' (first | ((first | refine sC hT fun K' hK' => ?_ | refine oC fun K' hK' => ?_); push_cast [c1, hti]; (try simp (disch := omega) only [wrap64, Int.toNat_natCast]); (repeat refine ZAD ?_ ?_); (first | refine hK' _ ?_ | ((first | refine ⟨[(cs.getD (l.getD k 0) default).c], ⟨rfl, (fun j hj => rfl), by rw [hsl]; omega, by rw [hsl]; omega⟩, ?_⟩); refine hK' _ ?_) | refine ⟨.v (.int .i64 0), hK' _ ?_⟩); clear hK' K') | (refine sK hT ?_; simp only [St.put]) | ((first | refine ZAE (hK _ ?_) | refine ZAJ (hK _ ?_)); clear hK K; push_cast) | ((first | apply ZAC | apply ZAF | apply ZAG | apply ZAM); push_cast) | refine ZAK fun K hK => ?_ | refine ZAN fun K hK => ?_ | refine dQ hT hm fun K hK => ?_ | refine dL hT hm fun K hK => ?_ | apply ZAA | apply ZAB | apply ZAL | (refine ZAH _ rfl (fun h => ?_) (fun h => ?_) <;> simp only [bh2, reduceCtorEq] at h))
    all_goals first | exact ff | skip
    all_goals exact ⟨k + 1, ⟨by omega, by omega⟩, G.wk ⟨rfl, rfl, rfl, rfl, rfl, rfl, trivial⟩ ⟨by rw [hst]; rfl, rfl, trivial⟩⟩
  · obtain rfl : k = l.length := by omega
    have c1 : decide ((l.length : Int) < (l.length : Int)) = false := decide_eq_false (by omega)
    have e : wants cs (l.take l.length) = wants cs l := by rw [List.take_length]
    simp only [e]
    have hwl := ZAU cs l
    repeat' (first | ((first | refine sC hT fun K' hK' => ?_ | refine oC fun K' hK' => ?_); push_cast [c1]; (try simp (disch := omega) only [wrap64, Int.toNat_natCast]); (repeat refine ZAD ?_ ?_); (first | refine hK' _ ?_ | ((first | apply con1 | (apply con3; exact gd) | apply con2); (try intro hb); (first | exact hfair); exact okr; refine hK' _ ?_) | refine ⟨.v (.int .i64 0), hK' _ ?_⟩); clear hK' K') | (refine sK hT ?_; simp only [St.put]) | ((first | refine ZAE (hK _ ?_) | refine ZAJ (hK _ ?_)); clear hK K; push_cast) | ((first | apply ZAC | apply ZAF | apply ZAG | apply ZAM); push_cast) | refine ZAK fun K hK => ?_ | refine ZAN fun K hK => ?_ | refine dQ hT hm fun K hK => ?_ | refine dL hT hm fun K hK => ?_ | apply ZAA | apply ZAB | apply ZAL | (refine ZAH _ rfl (fun h => ?_) (fun h => ?_) <;> simp only [bh2, reduceCtorEq] at h))
    all_goals first | exact ff | skip
    refine ZAO (α := Nat) (fun k => ⟨[(1, .i false (fun e _ => .v (.int .i64 ((toI l).getD e 0))) 1 0 l.length), (3, .s 9000), (10, intsF p), (12, I64 k)], [(9000, .row 3 1 (.ints .i64 (put d (l.take k) (p.take k))))]⟩) (fun k => k ≤ l.length) (fun k => l.length - k) 0 (Nat.zero_le _) (G.wk ⟨rfl, rfl, rfl, rfl, trivial⟩ ⟨rfl, trivial⟩) fun k hk => ?_
    have hput := ZBi (l.take k) d (p.take k)
    by_cases hlt : k < l.length
    · have c1 : decide ((k : Int) < (l.length : Int)) = true := decide_eq_true (by omega)
      have hli := hl _ (ZA2 hlt)
      have hti := ZBU hlt
      have hst := ZFJ (d := d) hpl.symm hlt
      repeat' (first | ((first | refine sC hT fun K' hK' => ?_ | refine oC fun K' hK' => ?_); push_cast [c1, hti]; (try simp (disch := omega) only [wrap64, Int.toNat_natCast]); (repeat refine ZAD ?_ ?_); (first | refine hK' _ ?_ | refine ⟨.v (.int .i64 0), hK' _ ?_⟩); clear hK' K') | (refine sK hT ?_; simp only [St.put]) | ((first | refine ZAE (hK _ ?_) | refine ZAJ (hK _ ?_)); clear hK K; push_cast) | ((first | apply ZAC | apply ZAF | apply ZAG | apply ZAM); push_cast) | refine ZAK fun K hK => ?_ | refine ZAN fun K hK => ?_ | refine dQ hT hm fun K hK => ?_ | refine dL hT hm fun K hK => ?_ | apply ZAA | apply ZAB | apply ZAL | (refine ZAH _ rfl (fun h => ?_) (fun h => ?_) <;> simp only [bh2, reduceCtorEq] at h))
      all_goals first | exact ff | skip
      all_goals exact ⟨k + 1, ⟨by omega, by omega⟩, G.wk ⟨rfl, rfl, rfl, rfl, trivial⟩ ⟨by rw [hst]; rfl, trivial⟩⟩
    · obtain rfl : k = l.length := by omega
      have c1 : decide ((l.length : Int) < (l.length : Int)) = false := decide_eq_false (by omega)
      have e2 : put d l p = put d (l.take l.length) (p.take l.length) := by rw [List.take_length, ← hpl, List.take_length]
      rw [e2]
      repeat' (first | ((first | refine sC hT fun K' hK' => ?_ | refine oC fun K' hK' => ?_); push_cast [c1]; (try simp (disch := omega) only [wrap64, Int.toNat_natCast]); (repeat refine ZAD ?_ ?_); (first | refine hK' _ ?_ | refine ⟨.v (.int .i64 0), hK' _ ?_⟩); clear hK' K') | (refine sK hT ?_; simp only [St.put]) | ((first | refine ZAE (hK _ ?_) | refine ZAJ (hK _ ?_)); clear hK K; push_cast) | ((first | apply ZAC | apply ZAF | apply ZAG | apply ZAM); push_cast) | refine ZAK fun K hK => ?_ | refine ZAN fun K hK => ?_ | refine dQ hT hm fun K hK => ?_ | refine dL hT hm fun K hK => ?_ | apply ZAA | apply ZAB | apply ZAL | (refine ZAH _ rfl (fun h => ?_) (fun h => ?_) <;> simp only [bh2, reduceCtorEq] at h))
      all_goals first | exact ff | skip
      all_goals (intro id blk h; exact h)
theorem ZIS (cs : List Cl) (hv : vC cs) : Pure Try.prog 55 [avCs cs] (intsF (rkF cs)) := by
  have h64 := hv.1
  have hlen := ZD9 cs
  have hup := ZEk cs
  refine ZB6 (n := 63) (res := [.tmp 2]) hT Try.func55 rfl rfl rfl Try.ntmps55 (Nat.le_of_ble_eq_true rfl) fun B w0 hgh hrd => ?_
  repeat' (first | ((first | refine sC hT fun K' hK' => ?_ | refine oC fun K' hK' => ?_); push_cast; (try simp (disch := omega) only [wrap64, Int.toNat_natCast]); (repeat refine ZAD ?_ ?_); (first | refine hK' _ ?_ | refine ⟨.v (.int .i64 0), hK' _ ?_⟩); clear hK' K') | (refine sK hT ?_; simp only [St.put]) | ((first | refine ZAE (hK _ ?_) | refine ZAJ (hK _ ?_)); clear hK K; push_cast) | ((first | apply ZAC | apply ZAF | apply ZAG | apply ZAM); push_cast) | refine ZAK fun K hK => ?_ | refine ZAN fun K hK => ?_ | refine dQ hT hm fun K hK => ?_ | refine dL hT hm fun K hK => ?_ | apply ZAA | apply ZAB | apply ZAL | (refine ZAH _ rfl (fun h => ?_) (fun h => ?_) <;> simp only [bh2, reduceCtorEq] at h))
  all_goals first | exact ff | skip
  refine ZAk _ (fun a w h => G.nilRow h 3 61 rfl (by decide) 3 1 (.ints .i64 []) rfl) ?_
  push_cast
  refine ZGk 61 9000 (by push_cast [idsE, AV.ids]) (by push_cast) (hgh 9000) ?_
  push_cast [rnE, rnH, AV.rn, rnI, Blk.rn, Cont.rn, AV.rn.rnL]
  refine ZAO (α := Nat) (fun k => ⟨[(0, avCs cs), (3, .s 9000), (4, I64 k)], [(9000, .row 3 1 (.ints .i64 (rkN cs k)))]⟩) (fun k => k ≤ cs.length) (fun k => cs.length - k) 0 (Nat.zero_le _) (G.wk ⟨rfl, rfl, rfl, trivial⟩ ⟨rfl, trivial⟩) fun k hk => ?_
  have hlk := hlen k
  by_cases hlt : k < cs.length
  · have c1 : decide ((k : Int) < (cs.length : Int)) = true := decide_eq_true (by omega)
    have hc := hv.2 _ (ZAc hlt)
    unfold okCl at hc
    have hst : rkN cs (k + 1) = insR (cs.getD k default).r (rkN cs k) := rfl
    have hat := ZH0 (cs.getD k default).r (rkN cs k)
    have hupk := hup k
    generalize rkN cs k = X at *
    repeat' (first | ((first | refine sC hT fun K' hK' => ?_ | refine oC fun K' hK' => ?_); push_cast [c1]; (try simp (disch := omega) only [wrap64, Int.toNat_natCast]); (repeat refine ZAD ?_ ?_); (first | refine hK' _ ?_ | refine ⟨.v (.int .i64 0), hK' _ ?_⟩); clear hK' K') | (refine sK hT ?_; simp only [St.put]) | ((first | refine ZAE (hK _ ?_) | refine ZAJ (hK _ ?_)); clear hK K; push_cast) | ((first | apply ZAC | apply ZAF | apply ZAG | apply ZAM); push_cast) | refine ZAK fun K hK => ?_ | refine ZAN fun K hK => ?_ | refine dQ hT hm fun K hK => ?_ | refine dL hT hm fun K hK => ?_ | apply ZAA | apply ZAB | apply ZAL | (refine ZAH _ rfl (fun h => ?_) (fun h => ?_) <;> simp only [bh2, reduceCtorEq] at h))
    all_goals first | exact ff | skip
    refine ZAO (α := Nat) (fun q => ⟨[(0, avCs cs), (3, .s 9000), (4, I64 k), (5, I64 q)], [(9000, .row 3 1 (.ints .i64 X))]⟩) (fun q => q ≤ X.length ∧ ∀ i, i < q → X.getD i 0 < (cs.getD k default).r) (fun q => X.length - q) 0 ⟨Nat.zero_le _, fun i hi => by omega⟩ (G.wk ⟨rfl, rfl, rfl, rfl, trivial⟩ ⟨rfl, trivial⟩) fun q hq => ?_
    obtain ⟨hq1, hq2⟩ := hq
    by_cases hql : q < X.length ∧ X.getD q 0 < (cs.getD k default).r
    · have c2 : decide ((q : Int) < (X.length : Int)) = true := decide_eq_true (by omega)
      have c3 : decide (X.getD q 0 < (cs.getD k default).r) = true := decide_eq_true hql.2
      have hql1 := hql.1
      repeat' (first | ((first | refine sC hT fun K' hK' => ?_ | refine oC fun K' hK' => ?_); push_cast [c2, c3]; (try simp (disch := omega) only [wrap64, Int.toNat_natCast]); (repeat refine ZAD ?_ ?_); (first | refine hK' _ ?_ | refine ⟨.v (.int .i64 0), hK' _ ?_⟩); clear hK' K') | (refine sK hT ?_; simp only [St.put]) | ((first | refine ZAE (hK _ ?_) | refine ZAJ (hK _ ?_)); clear hK K; push_cast) | ((first | apply ZAC | apply ZAF | apply ZAG | apply ZAM); push_cast) | refine ZAK fun K hK => ?_ | refine ZAN fun K hK => ?_ | refine dQ hT hm fun K hK => ?_ | refine dL hT hm fun K hK => ?_ | apply ZAA | apply ZAB | apply ZAL | (refine ZAH _ rfl (fun h => ?_) (fun h => ?_) <;> simp only [bh2, reduceCtorEq] at h))
      all_goals first | exact ff | skip
      all_goals exact ⟨q + 1, ⟨⟨by omega, fun i hi => by rcases Nat.lt_or_ge i q with h | h; exact hq2 i h; rw [show i = q by omega]; exact hql.2⟩, by omega⟩, G.wk ⟨rfl, rfl, rfl, rfl, trivial⟩ ⟨rfl, trivial⟩⟩
    · have hh := hat q hq1 hq2 (by
        rcases Nat.lt_or_ge q X.length with h | h
        · exact .inr (by rcases Int.lt_or_le (X.getD q 0) (cs.getD k default).r with h2 | h2; exact absurd ⟨h, h2⟩ hql; exact h2)
        · exact .inl (by omega))
      have c2 : (decide ((q : Int) < (X.length : Int)) && decide (X.getD q 0 < (cs.getD k default).r)) = false := by
        rw [Bool.eq_false_iff]; intro h; rw [Bool.and_eq_true, decide_eq_true_eq, decide_eq_true_eq] at h; exact hql ⟨by omega, h.2⟩
      by_cases hin : q = X.length ∨ X.getD q 0 ≠ (cs.getD k default).r
      · rw [if_pos hin] at hh
        have c3 : (((q : Int) == (X.length : Int)) || (X.getD q 0 != (cs.getD k default).r)) = true := by
          rw [Bool.or_eq_true, beq_iff_eq, bne_iff_ne]
          rcases hin with h | h
          · exact .inl (by omega)
          · exact .inr h
        repeat' (first | ((first | refine sC hT fun K' hK' => ?_ | refine oC fun K' hK' => ?_); push_cast [c2, c3]; (try simp (disch := omega) only [wrap64, Int.toNat_natCast]); (repeat refine ZAD ?_ ?_); (first | refine hK' _ ?_ | refine ⟨.v (.int .i64 0), hK' _ ?_⟩); clear hK' K') | (refine sK hT ?_; simp only [St.put]) | ((first | refine ZAE (hK _ ?_) | refine ZAJ (hK _ ?_)); clear hK K; push_cast) | ((first | apply ZAC | apply ZAF | apply ZAG | apply ZAM); push_cast) | refine ZAK fun K hK => ?_ | refine ZAN fun K hK => ?_ | refine dQ hT hm fun K hK => ?_ | refine dL hT hm fun K hK => ?_ | apply ZAA | apply ZAB | apply ZAL | (refine ZAH _ rfl (fun h => ?_) (fun h => ?_) <;> simp only [bh2, reduceCtorEq] at h))
        all_goals first | exact ff | skip
        refine ZC3 ⟨[(0, avCs cs), (3, .s 9000), (4, I64 k), (5, I64 q)], [(9000, .row 3 1 (.ints .i64 X))]⟩ ⟨rfl, rfl, rfl, rfl, trivial⟩ ⟨rfl, trivial⟩ ?_
        refine ZEV 9000 (.row 3 1 (.ints .i64 X)) rfl trivial ?_
        push_cast [frzE, frz1, frzP, killH, AV.kill, Nat.lt_add_one, Nat.zero_lt_one, if_true, Nat.div_one, Nat.mul_one]
        (refine awp_v hT [46, 50, 57, 61] [(3, []), (1, [46, 50, 57, 61]), (1, [46, 50, 57, 61]), (1, [46, 50, 57, 61]), (0, []), (1, [46, 50, 57, 61]), (1, [46, 50, 57, 61]), (1, [46, 50, 57, 61]), (1, [46, 50, 57, 61]), (1, [46, 50, 57, 61]), (1, [46, 50, 57, 61]), (0, []), (1, [46, 50, 57, 61]), (1, [46, 50, 57, 61]), (1, [46, 50, 57, 61]), (0, []), (0, [])] hm (by decide +kernel) (by push_cast) fun K hKr => ?_; repeat' (first
    | ((first | refine aops2_quiet rfl (by rfl) fun K' hK' => ?_ | refine aops2_free rfl (by rfl) fun K' hK' => ?_ | refine aops2_loud rfl (by rfl) fun K' hK' => ?_ | refine aops2_own rfl rfl (by decide) fun K' hK' => ?_ | refine aops2_map (o := Oper.mk _ (.mapUpdate _ _ _ _) _ _ _ _) rfl (by simp only [dstOk, Nat.reduceLT]) fun K' hK' => ?_ | refine aops2_lit (o := Oper.mk _ (.buildSlice _ _ _) _ _ _ _) rfl (by simp only [dstOk, Nat.reduceLT]) fun K' hK' => ?_ | refine aops2_appN (o := Oper.mk _ (.call _) _ _ _ _) rfl (by simp only [dstOk, Nat.reduceLT]) fun K' hK' => ?_); push_cast; (try simp (disch := omega) only [wrap64, Int.toNat_natCast]); (repeat refine ZAD ?_ ?_); (first | (first | refine hK' _ (by push_cast) ?_ | refine hK' _ ?_) | ((first | refine ⟨[_], ⟨rfl, (fun j hj => rfl), (by first | omega | (simp only [List.length_take, List.length_drop, List.length_append, List.length_map, List.length_cons, List.length_nil, List.length_replicate, List.length_set]; omega)), (by first | omega | (simp only [List.length_take, List.length_drop, List.length_append, List.length_map, List.length_cons, List.length_nil, List.length_replicate, List.length_set]; omega))⟩, ?_⟩ | refine ⟨_, ⟨rfl, (fun j hj => rfl), (by first | omega | (simp only [List.length_take, List.length_drop, List.length_append, List.length_map, List.length_cons, List.length_nil, List.length_replicate, List.length_set]; omega)), (by first | omega | (simp only [List.length_take, List.length_drop, List.length_append, List.length_map, List.length_cons, List.length_nil, List.length_replicate, List.length_set]; omega))⟩, ?_⟩ | refine ⟨_, ⟨(by first | omega | (simp only [List.length_take, List.length_drop, List.length_append, List.length_map, List.length_cons, List.length_nil, List.length_replicate, List.length_set]; omega)), ZHG _ _, (by first | omega | (simp only [List.length_take, List.length_drop, List.length_append, List.length_map, List.length_cons, List.length_nil, List.length_replicate, List.length_set]; omega)), (by first | omega | (simp only [List.length_take, List.length_drop, List.length_append, List.length_map, List.length_cons, List.length_nil, List.length_replicate, List.length_set]; omega))⟩, ?_⟩ | refine ⟨_, ⟨(by first | omega | (simp only [List.length_take, List.length_drop, List.length_append, List.length_map, List.length_cons, List.length_nil, List.length_replicate, List.length_set]; omega)), ZEZ _ _ _, (by first | omega | (simp only [List.length_take, List.length_drop, List.length_append, List.length_map, List.length_cons, List.length_nil, List.length_replicate, List.length_set]; omega)), (by first | omega | (simp only [List.length_take, List.length_drop, List.length_append, List.length_map, List.length_cons, List.length_nil, List.length_replicate, List.length_set]; omega))⟩, ?_⟩ | refine ⟨_, ⟨(by first | omega | (simp only [List.length_take, List.length_drop, List.length_append, List.length_map, List.length_cons, List.length_nil, List.length_replicate, List.length_set]; omega)), (by first | omega | (simp only [List.length_take, List.length_drop, List.length_append, List.length_map, List.length_cons, List.length_nil, List.length_replicate, List.length_set]; omega)), ZHG _ _, (by first | omega | (simp only [List.length_take, List.length_drop, List.length_append, List.length_map, List.length_cons, List.length_nil, List.length_replicate, List.length_set]; omega)), (by first | omega | (simp only [List.length_take, List.length_drop, List.length_append, List.length_map, List.length_cons, List.length_nil, List.length_replicate, List.length_set]; omega))⟩, ?_⟩ | refine ⟨_, ⟨(by first | omega | (simp only [List.length_take, List.length_drop, List.length_append, List.length_map, List.length_cons, List.length_nil, List.length_replicate, List.length_set]; omega)), (by first | omega | (simp only [List.length_take, List.length_drop, List.length_append, List.length_map, List.length_cons, List.length_nil, List.length_replicate, List.length_set]; omega)), ZEZ _ _ _, (by first | omega | (simp only [List.length_take, List.length_drop, List.length_append, List.length_map, List.length_cons, List.length_nil, List.length_replicate, List.length_set]; omega)), (by first | omega | (simp only [List.length_take, List.length_drop, List.length_append, List.length_map, List.length_cons, List.length_nil, List.length_replicate, List.length_set]; omega))⟩, ?_⟩); (first | refine hK' _ (by push_cast) ?_ | refine hK' _ ?_))); clear hK' K')
    | (refine aops2_nil ?_; refine hKr _ ?_; clear hKr K; push_cast)))
        all_goals first | exact ff | skip
        repeat' (first | ((first | refine sC hT fun K' hK' => ?_ | refine oC fun K' hK' => ?_); push_cast; (try simp (disch := omega) only [wrap64, Int.toNat_natCast]); (repeat refine ZAD ?_ ?_); (first | refine hK' _ ?_ | refine ⟨.v (.int .i64 0), hK' _ ?_⟩); clear hK' K') | (refine sK hT ?_; simp only [St.put]) | ((first | refine ZAE (hK _ ?_) | refine ZAJ (hK _ ?_)); clear hK K; push_cast) | ((first | apply ZAC | apply ZAF | apply ZAG | apply ZAM); push_cast) | refine ZAK fun K hK => ?_ | refine ZAN fun K hK => ?_ | refine dQ hT hm fun K hK => ?_ | refine dL hT hm fun K hK => ?_ | apply ZAA | apply ZAB | apply ZAL | (refine ZAH _ rfl (fun h => ?_) (fun h => ?_) <;> simp only [bh2, reduceCtorEq] at h))
        all_goals first | exact ff | skip
        have hrow : X.take q ++ [(cs.getD k default).r] ++ (X.drop q).take (X.length - q) = insR (cs.getD k default).r X := by
          rw [hh, List.take_of_length_le (l := X.drop q) (by rw [List.length_drop]; omega), List.append_assoc]; rfl
        all_goals exact ⟨k + 1, ⟨by omega, by omega⟩, rn_end 61 9000 (st1 := ⟨[(0, avCs cs), (3, .s 61), (4, I64 (k + 1))], [(61, .row 3 1 (.ints .i64 (rkN cs (k + 1))))]⟩) (G.wk ⟨rfl, rfl, rfl, trivial⟩ ⟨by rw [hst, ← hrow]; rfl, trivial⟩) (by push_cast [idsE, AV.ids]) (by push_cast) (hgh 9000) (by push_cast [rnE, rnH, AV.rn, rnI, Blk.rn, Cont.rn, AV.rn.rnL]; exact fun _ _ h => h)⟩
      · rw [if_neg hin] at hh
        have c3 : (((q : Int) == (X.length : Int)) || (X.getD q 0 != (cs.getD k default).r)) = false := by
          rw [Bool.eq_false_iff]; intro h; rw [Bool.or_eq_true, beq_iff_eq, bne_iff_ne] at h
          rcases h with h | h
          · exact hin (.inl (by omega))
          · exact hin (.inr h)
        repeat' (first | ((first | refine sC hT fun K' hK' => ?_ | refine oC fun K' hK' => ?_); push_cast [c2, c3]; (try simp (disch := omega) only [wrap64, Int.toNat_natCast]); (repeat refine ZAD ?_ ?_); (first | refine hK' _ ?_ | refine ⟨.v (.int .i64 0), hK' _ ?_⟩); clear hK' K') | (refine sK hT ?_; simp only [St.put]) | ((first | refine ZAE (hK _ ?_) | refine ZAJ (hK _ ?_)); clear hK K; push_cast) | ((first | apply ZAC | apply ZAF | apply ZAG | apply ZAM); push_cast) | refine ZAK fun K hK => ?_ | refine ZAN fun K hK => ?_ | refine dQ hT hm fun K hK => ?_ | refine dL hT hm fun K hK => ?_ | apply ZAA | apply ZAB | apply ZAL | (refine ZAH _ rfl (fun h => ?_) (fun h => ?_) <;> simp only [bh2, reduceCtorEq] at h))
        all_goals first | exact ff | skip
        all_goals exact ⟨k + 1, ⟨by omega, by omega⟩, G.wk ⟨rfl, rfl, rfl, trivial⟩ ⟨by rw [hst, hh]; rfl, trivial⟩⟩
  · obtain rfl : k = cs.length := by omega
    have c1 : decide ((cs.length : Int) < (cs.length : Int)) = false := decide_eq_false (by omega)
    unfold rkF
    repeat' (first | ((first | refine sC hT fun K' hK' => ?_ | refine oC fun K' hK' => ?_); push_cast [c1]; (try simp (disch := omega) only [wrap64, Int.toNat_natCast]); (repeat refine ZAD ?_ ?_); (first | refine hK' _ ?_ | refine ⟨.v (.int .i64 0), hK' _ ?_⟩); clear hK' K') | (refine sK hT ?_; simp only [St.put]) | ((first | refine ZAE (hK _ ?_) | refine ZAJ (hK _ ?_)); clear hK K; push_cast) | ((first | apply ZAC | apply ZAF | apply ZAG | apply ZAM); push_cast) | refine ZAK fun K hK => ?_ | refine ZAN fun K hK => ?_ | refine dQ hT hm fun K hK => ?_ | refine dL hT hm fun K hK => ?_ | apply ZAA | apply ZAB | apply ZAL | (refine ZAH _ rfl (fun h => ?_) (fun h => ?_) <;> simp only [bh2, reduceCtorEq] at h))
    all_goals first | exact ff | skip
    all_goals done
end Go.Proofs.Ythgjjhddbigfcaa
