/- Part of a proof about the given program: contracts of its functions (see the comment of the last text). -/
import Derived.Test.YthgjjhddbigfcaaWfJ
import Derived.Test.YthgjjhddbigfcaaWfH
namespace Go.Proofs.Ythgjjhddbigfcaa
open Go.Eng Go.Proofs Go.Wf Go.Proofs.Share
set_option linter.unusedSimpArgs false
set_option linter.unusedVariables false
attribute [local irreducible] AOps AOpsX AOps2 AOpsS AWP AAnyS Go.Eng.Pure PureRow Eff
theorem ZHO (ps : List Po) (cs : List Cl) (hps : vP ps) (hv : vC cs) : Pure Try.prog 36 [avPs ps, avCs cs] (intsF (divF ps cs)) := by
  have h64 := hv.1
  have hc1 := ZD2 ps false hps
  have hc2 := ZD2 ps true hps
  have hc3 := ZIS cs hv
  have hrl : (rkF cs).length ≤ cs.length := ZD9 cs _
  refine ZB6 (n := 92) (res := [.tmp 4]) hT Try.func36 rfl rfl rfl Try.ntmps36 (Nat.le_of_ble_eq_true rfl) fun B w0 hgh hrd => ?_
  repeat' (first | ((first | refine sC hT fun K' hK' => ?_ | refine oC fun K' hK' => ?_); push_cast; (try simp (disch := omega) only [wrap64, Int.toNat_natCast]); (repeat refine ZAD ?_ ?_); (first | refine hK' _ ?_ | ((first | apply con1 | (apply con3; exact gd) | apply con2); (try intro hb); (first | exact hc1 | exact hc2 | exact hc3); exact okr; refine hK' _ ?_) | ((first | refine ⟨[_], ⟨rfl, (fun j hj => rfl), (by first | omega | (simp only [List.length_take, List.length_drop, List.length_append, List.length_map, List.length_cons, List.length_nil, List.length_replicate, List.length_set]; omega)), (by first | omega | (simp only [List.length_take, List.length_drop, List.length_append, List.length_map, List.length_cons, List.length_nil, List.length_replicate, List.length_set]; omega))⟩, ?_⟩ | refine ⟨_, ⟨rfl, (fun j hj => rfl), (by first | omega | (simp only [List.length_take, List.length_drop, List.length_append, List.length_map, List.length_cons, List.length_nil, List.length_replicate, List.length_set]; omega)), (by first | omega | (simp only [List.length_take, List.length_drop, List.length_append, List.length_map, List.length_cons, List.length_nil, List.length_replicate, List.length_set]; omega))⟩, ?_⟩ | refine ⟨_, ⟨(by first | omega | (simp only [List.length_take, List.length_drop, List.length_append, List.length_map, List.length_cons, List.length_nil, List.length_replicate, List.length_set]; omega)), ZHG _ _, (by first | omega | (simp only [List.length_take, List.length_drop, List.length_append, List.length_map, List.length_cons, List.length_nil, List.length_replicate, List.length_set]; omega)), (by first | omega | (simp only [List.length_take, List.length_drop, List.length_append, List.length_map, List.length_cons, List.length_nil, List.length_replicate, List.length_set]; omega))⟩, ?_⟩ | refine ⟨_, ⟨(by first | omega | (simp only [List.length_take, List.length_drop, List.length_append, List.length_map, List.length_cons, List.length_nil, List.length_replicate, List.length_set]; omega)), ZEZ _ _ _, (by first | omega | (simp only [List.length_take, List.length_drop, List.length_append, List.length_map, List.length_cons, List.length_nil, List.length_replicate, List.length_set]; omega)), (by first | omega | (simp only [List.length_take, List.length_drop, List.length_append, List.length_map, List.length_cons, List.length_nil, List.length_replicate, List.length_set]; omega))⟩, ?_⟩ | refine ⟨_, ⟨(by first | omega | (simp only [List.length_take, List.length_drop, List.length_append, List.length_map, List.length_cons, List.length_nil, List.length_replicate, List.length_set]; omega)), (by first | omega | (simp only [List.length_take, List.length_drop, List.length_append, List.length_map, List.length_cons, List.length_nil, List.length_replicate, List.length_set]; omega)), ZHG _ _, (by first | omega | (simp only [List.length_take, List.length_drop, List.length_append, List.length_map, List.length_cons, List.length_nil, List.length_replicate, List.length_set]; omega)), (by first | omega | (simp only [List.length_take, List.length_drop, List.length_append, List.length_map, List.length_cons, List.length_nil, List.length_replicate, List.length_set]; omega))⟩, ?_⟩ | refine ⟨_, ⟨(by first | omega | (simp only [List.length_take, List.length_drop, List.length_append, List.length_map, List.length_cons, List.length_nil, List.length_replicate, List.length_set]; omega)), (by first | omega | (simp only [List.length_take, List.length_drop, List.length_append, List.length_map, List.length_cons, List.length_nil, List.length_replicate, List.length_set]; omega)), ZEZ _ _ _, (by first | omega | (simp only [List.length_take, List.length_drop, List.length_append, List.length_map, List.length_cons, List.length_nil, List.length_replicate, List.length_set]; omega)), (by first | omega | (simp only [List.length_take, List.length_drop, List.length_append, List.length_map, List.length_cons, List.length_nil, List.length_replicate, List.length_set]; omega))⟩, ?_⟩); refine hK' _ ?_) | refine ⟨.v (.int .i64 0), hK' _ ?_⟩); clear hK' K') | (refine ZAR hT rfl fun K' hK' => ?_; push_cast; (try simp (disch := omega) only [wrap64, Int.toNat_natCast]); (repeat refine ZAD ?_ ?_); refine hK' _ ?_; clear hK' K') | (refine ZAS T rfl (by simp only [dstOk, Nat.reduceLT]) fun K' hK' => ?_; push_cast; refine hK' _ ?_; clear hK' K') | (refine sK hT ?_; simp only [St.put]) | ((first | refine ZAE (hK _ ?_) | refine ZAJ (hK _ ?_)); clear hK K; push_cast) | ((first | apply ZAC | apply ZAF | apply ZAG | apply ZAM); push_cast) | refine ZAK fun K hK => ?_ | refine ZAN fun K hK => ?_ | refine dQ hT hm fun K hK => ?_ | refine dL hT hm fun K hK => ?_ | apply ZAA | apply ZAB | apply ZAL | (refine ZAH _ rfl (fun h => ?_) (fun h => ?_) <;> simp only [bh2, reduceCtorEq] at h))
  all_goals first | exact ff | skip
  refine ZC3 ⟨[(1, avCs cs), (5, I64 (sumP ps false)), (6, I64 (sumP ps true)), (7, .s 21), (8, intsF (rkF cs)), (9, I64 0), (10, I64 0), (11, I64 0)], [(21, .row 3 1 (.ints .i64 (List.replicate cs.length 0)))]⟩ ⟨rfl, rfl, rfl, rfl, rfl, rfl, rfl, rfl, trivial⟩ ⟨by rfl, trivial⟩ ?_
  refine ZGk 21 9000 (by push_cast [idsE, AV.ids]) (by push_cast) (hgh 9000) ?_
  push_cast [rnE, rnH, AV.rn, rnI, Blk.rn, Cont.rn, AV.rn.rnL]
  refine ZAO (α := Nat) (fun k => ⟨[(1, avCs cs), (5, I64 (sumP ps false)), (6, I64 (sumP ps true)), (7, .s 9000), (8, intsF (rkF cs)), (9, I64 (divS ps cs ((rkF cs).take k)).g), (10, I64 (divS ps cs ((rkF cs).take k)).a), (11, I64 k)], [(9000, .row 3 1 (.ints .i64 (divS ps cs ((rkF cs).take k)).d))]⟩) (fun k => k ≤ (rkF cs).length) (fun k => (rkF cs).length - k) 0 (Nat.zero_le _) (G.wk ⟨rfl, rfl, rfl, rfl, rfl, rfl, rfl, rfl, trivial⟩ ⟨rfl, trivial⟩) fun k hk => ?_
  by_cases hlt : k < (rkF cs).length
  · have c1 : decide ((k : Int) < ((rkF cs).length : Int)) = true := decide_eq_true (by omega)
    have hin := InvD.all hps hv (rkF cs) k hk
    have hst := ZDG ps cs (rkF cs) k hlt
    have hmem : (rkF cs).getD k 0 ∈ rkF cs := ZEF hlt
    have hr : 0 ≤ (rkF cs).getD k 0 ∧ (rkF cs).getD k 0 ≤ 1000000 := by
      obtain ⟨i, hi, e⟩ := ZCq.1 hmem
      have := (hv.2 _ (ZAc hi)).1.1
      rw [e] at this
      exact this
    generalize hs : divS ps cs ((rkF cs).take k) = s at *
    generalize hrk : (rkF cs).getD k 0 = r at *
    have hr64 : In64 r := ⟨by omega, by omega⟩
    have q1 := ZGu cs r false hr64 h64
    have q2 := ZGu cs r true hr64 h64
    have q3 := rof_ok cs r hr64 h64
    have hml := ZDl cs r
    have htl := ZBR (memb cs r)
    obtain ⟨e1, e2, e3, e4, e5, e6⟩ := id hin
    have hs2 := ZFH ps
    have hs3 := hps.2.2
    have hA := ZAW hps false
    have hF := ZAW hps true
    simp only [maxC] at hs3 hA hF
    have hn := InvD.step hps hv hin r
    have hd1 := ZEt hps hv hin r
    have hl1 := ZCJ hps hv hin r
    have hb1 := ZF7 hps hv hin r
    have hl2 := ZGT hps hv hin r
    have hb2 := ZIG hps hv hin r
    have ml := ZBA (cs := cs) (r := r)
    have mf := ZAh (cs := cs) (r := r) (b := false)
    have mt := ZAh (cs := cs) (r := r) (b := true)
    have lf := ZDH cs r false
    have lt := ZDH cs r true
    have k1 := rtotal_ok (st1 ps cs r s) (membK cs r false) (by omega) (fun i hi => by rw [hl1]; exact mf i hi) hb1 (by omega)
    have k3 := rtotal_ok (st2 ps cs r s) (membK cs r false) (by omega) (fun i hi => by rw [hl2]; exact mf i hi) hb2 (by omega)
    have k5 := rtotal_ok (st2 ps cs r s) (memb cs r) (by omega) (fun i hi => by rw [hl2]; exact ml i hi) hb2 (by omega)
    have eff1 : Eff Try.prog 57 [avCs cs, ints (toI (memb cs r)), I64 (sumP ps false + sumP ps true - s.a), .s 9000] [(9000, .row 3 1 (.ints .i64 s.d))] (.t []) [(9000, .row 3 1 (.ints .i64 (st1 ps cs r s)))] := ZDV cs s.d (memb cs r) _ _ (vC.ok hv) (by omega) ZBA e1 h64 (ZDS (by rw [ZAU]; omega) (by omega) (by unfold maxC; omega) (ZA0 hv ZBA)) hd1
    have g1 := hn.g1; have a1 := hn.a1; have g0 := hn.g0; have a0 := hn.a0
    simp only [stepD] at g1 a1 g0 a0
    have s1 := ZB2 hps hv hin hb1 hl1 (pK cs r false)
    change 0 ≤ sumI (sel _ (membK cs r false)) at s1
    repeat' (first | ((first | refine sC hT fun K' hK' => ?_ | refine oC fun K' hK' => ?_); push_cast [c1, hrk]; (try simp (disch := omega) only [wrap64, Int.toNat_natCast]); (repeat refine ZAD ?_ ?_); (first | refine hK' _ ?_ | ((first | apply con1 | (apply con3; exact gd) | apply con2); (try intro hb); (first | exact q1 | exact q2 | exact q3); exact okr; refine hK' _ ?_) | refine ⟨.v (.int .i64 0), hK' _ ?_⟩); clear hK' K') | (refine ZAR hT rfl fun K' hK' => ?_; push_cast [c1, hrk]; (try simp (disch := omega) only [wrap64, Int.toNat_natCast]); (repeat refine ZAD ?_ ?_); refine hK' _ ?_; clear hK' K') | (refine ZAS T rfl (by simp only [dstOk, Nat.reduceLT]) fun K' hK' => ?_; push_cast [c1, hrk]; refine hK' _ ?_; clear hK' K') | (refine sK hT ?_; simp only [St.put]) | ((first | refine ZAE (hK _ ?_) | refine ZAJ (hK _ ?_)); clear hK K; push_cast) | ((first | apply ZAC | apply ZAF | apply ZAG | apply ZAM); push_cast) | refine ZAK fun K hK => ?_ | refine ZAN fun K hK => ?_ | refine dQ hT hm fun K hK => ?_ | refine dL hT hm fun K hK => ?_ | apply ZAA | apply ZAB | apply ZAL | (refine ZAH _ rfl (fun h => ?_) (fun h => ?_) <;> simp only [bh2, reduceCtorEq] at h))
    all_goals first | exact ff | skip
    refine ZBb rfl (by simp only [dstOk, Nat.reduceLT]) fun K' hK' => ?_
    push_cast
    refine ⟨[(9000, _)], _, _, Eff.fr (xs := [_]) (ys := [_, _]) eff1, lkf9 rfl, ZDT _ _, ?_⟩
    push_cast [true_and]
    refine hK' _ ?_; clear hK' K'
    by_cases hov : sumP ps false - s.g < sumI (sel (st1 ps cs r s) (membK cs r false))
    · have c3 : decide (sumP ps false - s.g < sumI (sel (st1 ps cs r s) (membK cs r false))) = true := decide_eq_true hov
      have e0 := ZCw hps hv hin r hov
      have hd2 := ZDQ hps hv hin r
      have hd3 := ZDR hps hv hin r hov
      have e2 : st2 ps cs r s = put (put (st1 ps cs r s) (membK cs r false) (fairF (sumP ps false - s.g) (wants cs (membK cs r false)))) (membK cs r true) (fairF (sumP ps false + sumP ps true - s.a - (sumP ps false - s.g)) (wants cs (membK cs r true))) := by unfold st2; rw [if_pos hov]
      have eff2 := ZDV cs (st1 ps cs r s) (membK cs r false) _ _ (vC.ok hv) (by omega) ZAh hl1 h64 (ZDS (by rw [ZAU]; omega) (by omega) (by unfold maxC; omega) (ZA0 hv ZAh)) hd2
      have eff3 := ZDV cs (put (st1 ps cs r s) (membK cs r false) (fairF (sumP ps false - s.g) (wants cs (membK cs r false)))) (membK cs r true) _ _ (vC.ok hv) (by omega) ZAh (by rw [ZBi]; exact hl1) h64 (ZDS (by rw [ZAU]; omega) e0 (by unfold maxC; omega) (ZA0 hv ZAh)) hd3
      rw [← e2] at eff3
      clear e2
      have hst : divS ps cs ((rkF cs).take (k + 1)) = ⟨st2 ps cs r s, s.g + sumI (sel (st2 ps cs r s) (membK cs r false)), s.a + sumI (sel (st2 ps cs r s) (memb cs r))⟩ := hst
      generalize put (st1 ps cs r s) (membK cs r false) (fairF (sumP ps false - s.g) (wants cs (membK cs r false))) = mid at *
      repeat' (first | ((first | refine sC hT fun K' hK' => ?_ | refine oC fun K' hK' => ?_); push_cast [c3, hrk]; (try simp (disch := omega) only [wrap64, Int.toNat_natCast]); (repeat refine ZAD ?_ ?_); (first | refine hK' _ ?_ | ((first | apply con1 | (apply con3; exact gd) | apply con2); (try intro hb); (first | exact k1 | exact q1 | exact q2 | exact q3); exact okr; refine hK' _ ?_) | refine ⟨.v (.int .i64 0), hK' _ ?_⟩); clear hK' K') | (refine ZAR hT rfl fun K' hK' => ?_; push_cast [c3, hrk]; (try simp (disch := omega) only [wrap64, Int.toNat_natCast]); (repeat refine ZAD ?_ ?_); refine hK' _ ?_; clear hK' K') | (refine ZAS T rfl (by simp only [dstOk, Nat.reduceLT]) fun K' hK' => ?_; push_cast [c3, hrk]; refine hK' _ ?_; clear hK' K') | (refine sK hT ?_; simp only [St.put]) | ((first | refine ZAE (hK _ ?_) | refine ZAJ (hK _ ?_)); clear hK K; push_cast) | ((first | apply ZAC | apply ZAF | apply ZAG | apply ZAM); push_cast) | refine ZAK fun K hK => ?_ | refine ZAN fun K hK => ?_ | refine dQ hT hm fun K hK => ?_ | refine dL hT hm fun K hK => ?_ | apply ZAA | apply ZAB | apply ZAL | (refine ZAH _ rfl (fun h => ?_) (fun h => ?_) <;> simp only [bh2, reduceCtorEq] at h))
      all_goals first | exact ff | skip
      refine ZBb rfl (by simp only [dstOk, Nat.reduceLT]) fun K' hK' => ?_
      push_cast
      refine ⟨[(9000, _)], _, _, Eff.fr (xs := [_]) (ys := [_, _]) eff2, lkf9 rfl, ZDT _ _, ?_⟩
      push_cast [true_and]
      refine hK' _ ?_; clear hK' K'
      repeat' (first | ((first | refine sC hT fun K' hK' => ?_ | refine oC fun K' hK' => ?_); push_cast [hrk]; (try simp (disch := omega) only [wrap64, Int.toNat_natCast]); (repeat refine ZAD ?_ ?_); (first | refine hK' _ ?_ | ((first | apply con1 | (apply con3; exact gd) | apply con2); (try intro hb); (first | exact q1 | exact q2 | exact q3); exact okr; refine hK' _ ?_) | refine ⟨.v (.int .i64 0), hK' _ ?_⟩); clear hK' K') | (refine ZAR hT rfl fun K' hK' => ?_; push_cast [hrk]; (try simp (disch := omega) only [wrap64, Int.toNat_natCast]); (repeat refine ZAD ?_ ?_); refine hK' _ ?_; clear hK' K') | (refine ZAS T rfl (by simp only [dstOk, Nat.reduceLT]) fun K' hK' => ?_; push_cast [hrk]; refine hK' _ ?_; clear hK' K') | (refine sK hT ?_; simp only [St.put]) | ((first | refine ZAE (hK _ ?_) | refine ZAJ (hK _ ?_)); clear hK K; push_cast) | ((first | apply ZAC | apply ZAF | apply ZAG | apply ZAM); push_cast) | refine ZAK fun K hK => ?_ | refine ZAN fun K hK => ?_ | refine dQ hT hm fun K hK => ?_ | refine dL hT hm fun K hK => ?_ | apply ZAA | apply ZAB | apply ZAL | (refine ZAH _ rfl (fun h => ?_) (fun h => ?_) <;> simp only [bh2, reduceCtorEq] at h))
      all_goals first | exact ff | skip
      refine ZBb rfl (by simp only [dstOk, Nat.reduceLT]) fun K' hK' => ?_
      push_cast
      refine ⟨[(9000, _)], _, _, Eff.fr (xs := [_]) (ys := [_, _]) eff3, lkf9 rfl, ZDT _ _, ?_⟩
      push_cast [true_and]
      refine hK' _ ?_; clear hK' K'
      repeat' (first | ((first | refine sC hT fun K' hK' => ?_ | refine oC fun K' hK' => ?_); push_cast [hrk]; (try simp (disch := omega) only [wrap64, Int.toNat_natCast]); (repeat refine ZAD ?_ ?_); (first | refine hK' _ ?_ | ((first | apply con1 | (apply con3; exact gd) | apply con2); (try intro hb); (first | exact k3 | exact k5 | exact q3); exact okr; refine hK' _ ?_) | refine ⟨.v (.int .i64 0), hK' _ ?_⟩); clear hK' K') | (refine ZAR hT rfl fun K' hK' => ?_; push_cast [hrk]; (try simp (disch := omega) only [wrap64, Int.toNat_natCast]); (repeat refine ZAD ?_ ?_); refine hK' _ ?_; clear hK' K') | (refine ZAS T rfl (by simp only [dstOk, Nat.reduceLT]) fun K' hK' => ?_; push_cast [hrk]; refine hK' _ ?_; clear hK' K') | (refine sK hT ?_; simp only [St.put]) | ((first | refine ZAE (hK _ ?_) | refine ZAJ (hK _ ?_)); clear hK K; push_cast) | ((first | apply ZAC | apply ZAF | apply ZAG | apply ZAM); push_cast) | refine ZAK fun K hK => ?_ | refine ZAN fun K hK => ?_ | refine dQ hT hm fun K hK => ?_ | refine dL hT hm fun K hK => ?_ | apply ZAA | apply ZAB | apply ZAL | (refine ZAH _ rfl (fun h => ?_) (fun h => ?_) <;> simp only [bh2, reduceCtorEq] at h))
      all_goals first | exact ff | skip
      all_goals exact ⟨k + 1, ⟨by omega, by omega⟩, G.wk ⟨rfl, rfl, rfl, rfl, rfl, by rw [hst]; rfl, by rw [hst]; rfl, rfl, trivial⟩ ⟨by rw [hst]; rfl, trivial⟩⟩
    · have c3 : decide (sumP ps false - s.g < sumI (sel (st1 ps cs r s) (membK cs r false))) = false := decide_eq_false hov
      have e2 : st2 ps cs r s = st1 ps cs r s := by unfold st2; rw [if_neg hov]
      rw [e2] at k3 k5 g1 a1 g0 a0
      have hst : divS ps cs ((rkF cs).take (k + 1)) = ⟨st1 ps cs r s, s.g + sumI (sel (st1 ps cs r s) (membK cs r false)), s.a + sumI (sel (st1 ps cs r s) (memb cs r))⟩ := by rw [hst]; unfold stepD; rw [e2]
      repeat' (first | ((first | refine sC hT fun K' hK' => ?_ | refine oC fun K' hK' => ?_); push_cast [c3, hrk]; (try simp (disch := omega) only [wrap64, Int.toNat_natCast]); (repeat refine ZAD ?_ ?_); (first | refine hK' _ ?_ | ((first | apply con1 | (apply con3; exact gd) | apply con2); (try intro hb); (first | exact k1 | exact k3 | exact k5 | exact q1 | exact q2 | exact q3); exact okr; refine hK' _ ?_) | refine ⟨.v (.int .i64 0), hK' _ ?_⟩); clear hK' K') | (refine ZAR hT rfl fun K' hK' => ?_; push_cast [c3, hrk]; (try simp (disch := omega) only [wrap64, Int.toNat_natCast]); (repeat refine ZAD ?_ ?_); refine hK' _ ?_; clear hK' K') | (refine ZAS T rfl (by simp only [dstOk, Nat.reduceLT]) fun K' hK' => ?_; push_cast [c3, hrk]; refine hK' _ ?_; clear hK' K') | (refine sK hT ?_; simp only [St.put]) | ((first | refine ZAE (hK _ ?_) | refine ZAJ (hK _ ?_)); clear hK K; push_cast) | ((first | apply ZAC | apply ZAF | apply ZAG | apply ZAM); push_cast) | refine ZAK fun K hK => ?_ | refine ZAN fun K hK => ?_ | refine dQ hT hm fun K hK => ?_ | refine dL hT hm fun K hK => ?_ | apply ZAA | apply ZAB | apply ZAL | (refine ZAH _ rfl (fun h => ?_) (fun h => ?_) <;> simp only [bh2, reduceCtorEq] at h))
      all_goals first | exact ff | skip
      all_goals exact ⟨k + 1, ⟨by omega, by omega⟩, G.wk ⟨rfl, rfl, rfl, rfl, rfl, by rw [hst]; rfl, by rw [hst]; rfl, rfl, trivial⟩ ⟨by rw [hst]; rfl, trivial⟩⟩
  · obtain rfl : k = (rkF cs).length := by omega
    have c1 : decide (((rkF cs).length : Int) < ((rkF cs).length : Int)) = false := decide_eq_false (by omega)
    have e : divF ps cs = (divS ps cs ((rkF cs).take (rkF cs).length)).d := by rw [List.take_length]; rfl
    rw [e]
    repeat' (first | ((first | refine sC hT fun K' hK' => ?_ | refine oC fun K' hK' => ?_); push_cast [c1]; (try simp (disch := omega) only [wrap64, Int.toNat_natCast]); (repeat refine ZAD ?_ ?_); (first | refine hK' _ ?_ | refine ⟨.v (.int .i64 0), hK' _ ?_⟩); clear hK' K') | (refine ZAR hT rfl fun K' hK' => ?_; push_cast [c1]; (try simp (disch := omega) only [wrap64, Int.toNat_natCast]); (repeat refine ZAD ?_ ?_); refine hK' _ ?_; clear hK' K') | (refine ZAS T rfl (by simp only [dstOk, Nat.reduceLT]) fun K' hK' => ?_; push_cast [c1]; refine hK' _ ?_; clear hK' K') | (refine sK hT ?_; simp only [St.put]) | ((first | refine ZAE (hK _ ?_) | refine ZAJ (hK _ ?_)); clear hK K; push_cast) | ((first | apply ZAC | apply ZAF | apply ZAG | apply ZAM); push_cast) | refine ZAK fun K hK => ?_ | refine ZAN fun K hK => ?_ | refine dQ hT hm fun K hK => ?_ | refine dL hT hm fun K hK => ?_ | apply ZAA | apply ZAB | apply ZAL | (refine ZAH _ rfl (fun h => ?_) (fun h => ?_) <;> simp only [bh2, reduceCtorEq] at h))
    all_goals first | exact ff | skip
    all_goals done
end Go.Proofs.Ythgjjhddbigfcaa
