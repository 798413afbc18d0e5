/- Part of a proof about the given program: contracts of its functions (see the comment of the last text). -/
import Derived.Test.YtflclkbkgcfliaaSfD
namespace Go.Proofs.Ytflclkbkgcfliaa
open Go.Eng Go.Proofs Go.Zo
set_option linter.unusedSimpArgs false
set_option linter.unusedVariables false
attribute [local irreducible] AOps AOpsX AOps2 AOpsS AWP AAnyS Go.Eng.Pure PureRow

theorem port_val2 {z : Zn} (hv : validZ z = true) {a b : Int} (hab : a ≤ b) (hl : b - a ≤ 1440) (i : Nat) (hi : i < (portF z a b).length) : 0 < ((portF z a b).getD i default).2 ∧ ((portF z a b).getD i default).2 ≤ 1440 := by
  obtain ⟨h1, h2⟩ := port_at hv hi
  have := cnt_nonneg z hab ((dayL z a b).getD i 0)
  rw [h1]
  exact ⟨h2, by show cnt z a b _ ≤ _; omega⟩
theorem port_ll2 (z : Zn) {a b : Int} (hab : a ≤ b) (hl : b - a ≤ 1440) : (portF z a b).length ≤ 10 := by
  have := filI_len (fun d => decide (0 < cnt z a b d)) ((a - 840) / 1440) ((b + 840) / 1440 + 1)
  unfold portF
  rw [List.length_map]
  unfold dayL
  omega
set_option maxRecDepth 20000 in
set_option maxHeartbeats 16000000 in
theorem lparts_ok (base : Int) (l : List Po) (fr ln nr at_ : Int) (w : Po) (hb : In64 base) (hl : okL2 l) (h1 : In64 fr) (h2 : In64 ln) (h3 : In64 nr) (h4 : In64 at_) (hw : okP2 w) : Pure Try.prog 14 [I64 base, avPs l, I64 fr, I64 ln, I64 nr, I64 at_, .a (avP w)] (BL true) := by
  obtain ⟨w1, w2⟩ := w
  have hh := shead_ok
  have zc := zonec_ok base l hb hl
  have hz := zone_ok base l
  have hv := zone_valid base l
  have dc := dutyc_ok (zoneF base l) fr ln nr hz (fun j hj => by have := zone_at base l hj; omega) h1 h2 h3 (by rw [zone_len]; omega)
  have hdb := duty_bounds base l fr ln nr
  have hdv := duty_valid base l fr ln nr
  have hdo := duty_ok base l fr ln nr
  generalize zoneF base l = Z at *
  generalize dutyF Z fr ln nr = D at *
  obtain ⟨a, b, sk⟩ := D
  simp only at hdb
  simp only [avDu] at dc
  refine pure_of (n := 193) (res := [.tmp 14]) hT Try.func14 rfl rfl rfl Try.ntmps14 (Nat.le_of_ble_eq_true rfl) fun B w0 => ?_
  by_cases hsh : b - a < 2
  · have b1 : decide (b - a < 2) = true := decide_eq_true hsh
    repeat' (first | ((first | refine aopss_cons hT (by rfl) fun K' hK' => ?_ | refine aops_cons (by rfl) fun K' hK' => ?_); simp only [push_cast, reduceIte, reduceCtorEq, Nat.reduceEqDiff, Nat.reduceLT, Nat.reduceLeDiff, Nat.reduceAdd, Nat.reduceMul, Nat.reduceMod, Nat.reduceDiv, Nat.reduceSub, Int.reduceToNat, b1]; (try simp (disch := omega) only [wrap64, Int.toNat_natCast]); (repeat refine and_rev ?_ ?_); (first | refine hK' _ ?_ | ((first | apply con1 | (apply con3; (intro hb; first | exact hb | exact ⟨hb, hb⟩ | exact ⟨hb, hb, hb⟩ | exact ⟨hb, hb, hb, hb⟩ | (simp only [hb, true_and, and_true, Bool.and_true, Bool.true_and]; done))) | apply con2); (try intro hb); (first | exact hh | exact zc | exact dc); (try intro hb); (first | exact .inr rfl | exact .inl (by simp [AV.fresh, AV.freshL])); (try simp only [push_cast, reduceIte, reduceCtorEq, Nat.reduceEqDiff, Nat.reduceLT, Nat.reduceLeDiff, Nat.reduceAdd, Nat.reduceMul, Nat.reduceMod, Nat.reduceDiv, Nat.reduceSub, Int.reduceToNat, b1]); (try simp (disch := omega) only [wrap64, Int.toNat_natCast]); (repeat refine and_rev ?_ ?_); refine hK' _ ?_) | (refine ⟨.v (.int .i64 0), ?_⟩; refine hK' _ ?_)); clear hK' K') | (refine aopss_skip hT (by rfl) (by rfl) (by simp only [dstOk, Nat.reduceLT]) ?_; simp only [St.put]) | ((first | refine aopss_nil ?_ | refine aops_nil ?_); refine hKs _ ?_; clear hKs K) | ((first | ((first | refine aopss_nil ?_ | refine aops_nil ?_); refine hKr _ ?_; clear hKr K) | refine awp_label ?_ | refine awp_skip ?_ | refine awp_exit ?_ | refine awp_ret ?_); simp only [push_cast, reduceIte, reduceCtorEq, Nat.reduceEqDiff, Nat.reduceLT, Nat.reduceLeDiff, Nat.reduceAdd, Nat.reduceMul, Nat.reduceMod, Nat.reduceDiv, Nat.reduceSub, Int.reduceToNat]) | refine awp_sseq fun K hKs => ?_ | refine awp_s fun K hKr => ?_ | refine awp_dseq hT hm (by decide +kernel) fun K hKs => ?_ | refine awp_d hT hm (by decide +kernel) fun K hKr => ?_ | refine awp_block ?_ | refine awp_scope ?_ | refine awp_seq ?_ | (refine awp_cond _ rfl (fun h => ?_) (fun h => ?_) <;> simp only [bh, decide_eq_true_eq, decide_eq_false_iff_not, eq_self, not_true_eq_false, not_false_eq_true, reduceCtorEq, Bool.true_eq_false, Bool.false_eq_true, bne_self_eq_false, beq_self_eq_true] at h))
    all_goals first | omega | exact (fun hh => hh) | (simp only [List.length_take, List.length_drop, List.length_append, List.length_map, List.length_cons, List.length_nil, List.length_replicate, List.length_set]; omega) | (intro hh; (try simp only [hh, Bool.not_false, Bool.not_true, Bool.true_and, Bool.and_true, eq_self, true_and, and_true]); (try simp only [bh, decide_eq_true_eq, decide_eq_false_iff_not] at hh); (first | done | omega | (simp only [List.length_take, List.length_drop, List.length_append, List.length_map, List.length_cons, List.length_nil, List.length_replicate, List.length_set]; omega) | (intro h2; simp only [h2, Bool.not_false, Bool.not_true]; done))) | exact rfl | skip
    all_goals done
  · have b1 : decide (b - a < 2) = false := decide_eq_false hsh
    have p1 := pick_ok w1 1441 hw.1 (by decide) (by decide)
    have p2 := pick_ok w2 1441 hw.2 (by decide) (by decide)
    have p3 := pick_ok at_ (b - a - 1) h4 (by omega) (by omega)
    have c1 := pickF_bounds w1 (n := 1441) (by decide)
    have c2 := pickF_bounds w2 (n := 1441) (by decide)
    have c3 := pickF_bounds at_ (n := b - a - 1) (by omega)
    generalize pickF w1 1441 = f at *
    generalize pickF w2 1441 = g at *
    generalize pickF at_ (b - a - 1) = x at *
    obtain ⟨m, hmE⟩ : ∃ m, m = a + 1 + x := ⟨_, rfl⟩
    have hmE' : a + 1 + x = m := hmE.symm
    have am : a < m ∧ m < b := by omega
    have vA : vD ⟨a, m, sk⟩ = true := decide_eq_true (by simp only; omega)
    have vB : vD ⟨m, b, sk⟩ = true := decide_eq_true (by simp only; omega)
    have oA : okD ⟨a, m, sk⟩ := ⟨hdo.1, ⟨by show _ ≤ m; omega, by show m ≤ _; omega⟩, hdo.2.2⟩
    have oB : okD ⟨m, b, sk⟩ := ⟨⟨by show _ ≤ m; omega, by show m ≤ _; omega⟩, hdo.2.1, hdo.2.2⟩
    have m1 := min_ok Z ⟨a, b, sk⟩ hz hdo
    have m2 := min_ok Z ⟨a, m, sk⟩ hz oA
    have m3 := min_ok Z ⟨m, b, sk⟩ hz oB
    have n1 := nig_ok Z ⟨a, b, sk⟩ f g hz hdo
    have n2 := nig_ok Z ⟨a, m, sk⟩ f g hz oA
    have n3 := nig_ok Z ⟨m, b, sk⟩ f g hz oB
    have r1 := rest_ok ⟨a, m, sk⟩ ⟨m, b, sk⟩ oA oB
    have hr : restF ⟨a, m, sk⟩ ⟨m, b, sk⟩ = 0 := by
      unfold restF
      rw [if_pos ⟨vA, vB⟩, if_neg (by show ¬ m < a; omega)]
      show max (m - m) (-1) = 0
      omega
    rw [hr] at r1
    rw [min_good hv hdv (by show 840 ≤ a; omega) (by show b ≤ _; omega), avSp] at m1
    rw [min_good hv vA (by show 840 ≤ a; omega) (by show m ≤ _; omega), avSp] at m2
    rw [min_good hv vB (by show 840 ≤ m; omega) (by show b ≤ _; omega), avSp] at m3
    rw [nig_good hv hdv (by omega) (by omega), avW] at n1
    rw [nig_good hv vA (by omega) (by omega), avW] at n2
    rw [nig_good hv vB (by omega) (by omega), avW] at n3
    simp only [avDu] at m1 m2 m3 n1 n2 n3 r1
    have wb1 := win_nonneg Z (show a ≤ m by omega) f g
    have wb2 := win_nonneg Z (show m ≤ b by omega) f g
    have hws : (win Z a b f g == win Z a m f g + win Z m b f g) = true := beq_iff_eq.2 (win_split Z f g (show a ≤ m by omega) (show m ≤ b by omega))
    have v1 := port_val2 hv (show a ≤ b by omega) (by omega)
    have v2 := port_val2 hv (show a ≤ m by omega) (by omega)
    have v3 := port_val2 hv (show m ≤ b by omega) (by omega)
    have l1 := port_ll2 Z (show a ≤ b by omega) (by omega)
    have l2 := port_ll2 Z (show a ≤ m by omega) (by omega)
    have l3 := port_ll2 Z (show m ≤ b by omega) (by omega)
    have q1 := sumc_ok (portF Z a b) (by omega) (fun i hi => by have := v1 i hi; omega)
    have q2 := sumc_ok (portF Z a m) (by omega) (fun i hi => by have := v2 i hi; omega)
    have q3 := sumc_ok (portF Z m b) (by omega) (fun i hi => by have := v3 i hi; omega)
    rw [sumP_port hv (by omega)] at q1 q2 q3
    have s1 := fun d => onc_ok (portF Z a m) d (by omega) (fun i hi => by have := v2 i hi; omega)
    have s2 := fun d => onc_ok (portF Z m b) d (by omega) (fun i hi => by have := v3 i hi; omega)
    have hon : ∀ i, i < (portF Z a b).length → ((portF Z a b).getD i default).2 = onF (portF Z a m) ((portF Z a b).getD i default).1 + onF (portF Z m b) ((portF Z a b).getD i default).1 := fun i hi => by
      rw [port_on hv (by omega), port_on hv (by omega), (port_at hv hi).1]
      exact cnt_split Z _ (by omega) (by omega)
    have hob : ∀ d, (0 ≤ onF (portF Z a m) d ∧ onF (portF Z a m) d ≤ 1440) ∧ 0 ≤ onF (portF Z m b) d ∧ onF (portF Z m b) d ≤ 1440 := fun d => by
      rw [port_on hv (by omega), port_on hv (by omega)]
      have := cnt_nonneg Z (show a ≤ m by omega) d
      have := cnt_nonneg Z (show m ≤ b by omega) d
      omega
    have hfin : (b - a == m - a + (b - m)) = true := beq_iff_eq.2 (by omega)
    generalize win Z a b f g = W at *
    generalize win Z a m f g = W1 at *
    generalize win Z m b f g = W2 at *
    generalize portF Z a b = P at *
    generalize portF Z a m = Q at *
    generalize portF Z m b = R at *
    repeat' (first | ((first | refine aopss_cons hT (by rfl) fun K' hK' => ?_ | refine aops_cons (by rfl) fun K' hK' => ?_); simp only [push_cast, reduceIte, reduceCtorEq, Nat.reduceEqDiff, Nat.reduceLT, Nat.reduceLeDiff, Nat.reduceAdd, Nat.reduceMul, Nat.reduceMod, Nat.reduceDiv, Nat.reduceSub, Int.reduceToNat, b1]; (try simp (disch := omega) only [wrap64, Int.toNat_natCast]); (repeat refine and_rev ?_ ?_); (first | refine hK' _ ?_ | ((first | apply con1 | (apply con3; (intro hb; first | exact hb | exact ⟨hb, hb⟩ | exact ⟨hb, hb, hb⟩ | exact ⟨hb, hb, hb, hb⟩ | (simp only [hb, true_and, and_true, Bool.and_true, Bool.true_and]; done))) | apply con2); (try intro hb); (first | exact hh | exact zc | exact dc); (try intro hb); (first | exact .inr rfl | exact .inl (by simp [AV.fresh, AV.freshL])); (try simp only [push_cast, reduceIte, reduceCtorEq, Nat.reduceEqDiff, Nat.reduceLT, Nat.reduceLeDiff, Nat.reduceAdd, Nat.reduceMul, Nat.reduceMod, Nat.reduceDiv, Nat.reduceSub, Int.reduceToNat, b1]); (try simp (disch := omega) only [wrap64, Int.toNat_natCast]); (repeat refine and_rev ?_ ?_); refine hK' _ ?_) | (refine ⟨.v (.int .i64 0), ?_⟩; refine hK' _ ?_)); clear hK' K') | (refine aopss_skip hT (by rfl) (by rfl) (by simp only [dstOk, Nat.reduceLT]) ?_; simp only [St.put]) | ((first | refine aopss_nil ?_ | refine aops_nil ?_); refine hKs _ ?_; clear hKs K) | ((first | ((first | refine aopss_nil ?_ | refine aops_nil ?_); refine hKr _ ?_; clear hKr K) | refine awp_label ?_ | refine awp_skip ?_ | refine awp_exit ?_ | refine awp_ret ?_); simp only [push_cast, reduceIte, reduceCtorEq, Nat.reduceEqDiff, Nat.reduceLT, Nat.reduceLeDiff, Nat.reduceAdd, Nat.reduceMul, Nat.reduceMod, Nat.reduceDiv, Nat.reduceSub, Int.reduceToNat]) | refine awp_sseq fun K hKs => ?_ | refine awp_s fun K hKr => ?_ | refine awp_dseq hT hm (by decide +kernel) fun K hKs => ?_ | refine awp_d hT hm (by decide +kernel) fun K hKr => ?_ | refine awp_block ?_ | refine awp_scope ?_ | refine awp_seq ?_ | (refine awp_cond _ rfl (fun h => ?_) (fun h => ?_) <;> simp only [bh, decide_eq_true_eq, decide_eq_false_iff_not, eq_self, not_true_eq_false, not_false_eq_true, reduceCtorEq, Bool.true_eq_false, Bool.false_eq_true, bne_self_eq_false, beq_self_eq_true] at h))
    all_goals first | omega | exact (fun hh => hh) | (simp only [List.length_take, List.length_drop, List.length_append, List.length_map, List.length_cons, List.length_nil, List.length_replicate, List.length_set]; omega) | (intro hh; (try simp only [hh, Bool.not_false, Bool.not_true, Bool.true_and, Bool.and_true, eq_self, true_and, and_true]); (try simp only [bh, decide_eq_true_eq, decide_eq_false_iff_not] at hh); (first | done | omega | (simp only [List.length_take, List.length_drop, List.length_append, List.length_map, List.length_cons, List.length_nil, List.length_replicate, List.length_set]; omega) | (intro h2; simp only [h2, Bool.not_false, Bool.not_true]; done))) | exact rfl | skip
    refine awp_wk ⟨[(5, I64 at_), (13, .p 13 0), (15, BL true), (16, .p 16 0), (17, .p 17 0)], [(13, .box 68 (.avs [I64 w1, I64 w2])), (16, .box 24 (.avs [STR Z.nm, I64 Z.base, avCs Z.cs])), (17, .box 55 (.avs [I64 a, I64 b, I64 sk]))]⟩ ⟨rfl, rfl, rfl, rfl, rfl, trivial⟩ ⟨rfl, rfl, rfl, trivial⟩ ?_
    refine awp_freeze 13 (.box 68 (.avs [I64 w1, I64 w2])) rfl rfl ?_
    simp only [push_cast, reduceIte, reduceCtorEq, Nat.reduceEqDiff, Nat.reduceLT, Nat.reduceLeDiff, Nat.reduceAdd, Nat.reduceMul, Nat.reduceMod, Nat.reduceDiv, Nat.reduceSub, Int.reduceToNat, frzE, frz1, frzP]
    (refine awp_v hT [18] [(1, [18]), (1, [18]), (1, [18]), (1, [18]), (1, [18]), (1, [18]), (1, [18]), (0, []), (0, [])] hm (by decide +kernel) (by simp only [push_cast, reduceIte, reduceCtorEq, Nat.reduceEqDiff, Nat.reduceLT, Nat.reduceLeDiff, Nat.reduceAdd, Nat.reduceMul, Nat.reduceMod, Nat.reduceDiv, Nat.reduceSub, Int.reduceToNat]) fun K hKr => ?_; repeat' (first
    | ((first | refine aops2_quiet rfl (by rfl) fun K' hK' => ?_ | refine aops2_free rfl (by rfl) fun K' hK' => ?_ | refine aops2_loud rfl (by rfl) fun K' hK' => ?_ | refine aops2_own rfl rfl (by decide) fun K' hK' => ?_); simp only [push_cast, reduceIte, reduceCtorEq, Nat.reduceEqDiff, Nat.reduceLT, Nat.reduceLeDiff, Nat.reduceAdd, Nat.reduceMul, Nat.reduceMod, Nat.reduceDiv, Nat.reduceSub, Int.reduceToNat]; (try simp (disch := omega) only [wrap64, Int.toNat_natCast]); (repeat refine and_rev ?_ ?_); (first | (first | refine hK' _ (by simp only [push_cast, reduceIte, reduceCtorEq, Nat.reduceEqDiff, Nat.reduceLT, Nat.reduceLeDiff, Nat.reduceAdd, Nat.reduceMul, Nat.reduceMod, Nat.reduceDiv, Nat.reduceSub, Int.reduceToNat]) ?_ | refine hK' _ ?_) | ((first | refine ⟨_, ⟨(by first | exact p1 | exact p2), (by first | exact .inr rfl | exact .inl (by simp [AV.fresh, AV.freshL]))⟩, ?_⟩ | refine ⟨_, fun hb => ⟨(by first | exact p1 | exact p2), (by first | exact .inr rfl | exact .inl (by simp [AV.fresh, AV.freshL]))⟩, ?_⟩ | refine ⟨_, fun hb => ⟨(by first | exact hb | exact ⟨hb, hb⟩ | exact ⟨hb, hb, hb⟩ | exact ⟨hb, hb, hb, hb⟩ | (simp only [hb, true_and, and_true, Bool.and_true, Bool.true_and]; done)), (by first | exact p1 | exact p2), (by first | exact .inr rfl | exact .inl (by simp [AV.fresh, AV.freshL]))⟩, ?_⟩); (try simp only [push_cast, reduceIte, reduceCtorEq, Nat.reduceEqDiff, Nat.reduceLT, Nat.reduceLeDiff, Nat.reduceAdd, Nat.reduceMul, Nat.reduceMod, Nat.reduceDiv, Nat.reduceSub, Int.reduceToNat]); (try simp (disch := omega) only [wrap64, Int.toNat_natCast]); (repeat refine and_rev ?_ ?_); (first | refine hK' _ (by simp only [push_cast, reduceIte, reduceCtorEq, Nat.reduceEqDiff, Nat.reduceLT, Nat.reduceLeDiff, Nat.reduceAdd, Nat.reduceMul, Nat.reduceMod, Nat.reduceDiv, Nat.reduceSub, Int.reduceToNat]) ?_ | refine hK' _ ?_))); clear hK' K')
    | (refine aops2_nil ?_; refine hKr _ ?_; clear hKr K; simp only [push_cast, reduceIte, reduceCtorEq, Nat.reduceEqDiff, Nat.reduceLT, Nat.reduceLeDiff, Nat.reduceAdd, Nat.reduceMul, Nat.reduceMod, Nat.reduceDiv, Nat.reduceSub, Int.reduceToNat])))
    all_goals first | omega | exact (fun hh => hh) | (simp only [List.length_take, List.length_drop, List.length_append, List.length_map, List.length_cons, List.length_nil, List.length_replicate, List.length_set]; omega) | (intro hh; (try simp only [hh, Bool.not_false, Bool.not_true, Bool.true_and, Bool.and_true, eq_self, true_and, and_true]); (try simp only [bh, decide_eq_true_eq, decide_eq_false_iff_not] at hh); (first | done | omega | (simp only [List.length_take, List.length_drop, List.length_append, List.length_map, List.length_cons, List.length_nil, List.length_replicate, List.length_set]; omega) | (intro h2; simp only [h2, Bool.not_false, Bool.not_true]; done))) | exact rfl | skip
    refine awp_wk ⟨[(5, I64 at_), (15, BL true), (16, .p 16 0), (17, .p 17 0), (18, .p 18 0)], [(16, .box 24 (.avs [STR Z.nm, I64 Z.base, avCs Z.cs])), (17, .box 55 (.avs [I64 a, I64 b, I64 sk])), (18, .box 26 (.avs [I64 f, I64 g]))]⟩ ⟨rfl, rfl, rfl, rfl, rfl, trivial⟩ ⟨rfl, rfl, rfl, trivial⟩ ?_
    clear hmE c3
    repeat' (first | ((first | refine aopss_cons hT (by rfl) fun K' hK' => ?_ | refine aops_cons (by rfl) fun K' hK' => ?_); simp only [push_cast, reduceIte, reduceCtorEq, Nat.reduceEqDiff, Nat.reduceLT, Nat.reduceLeDiff, Nat.reduceAdd, Nat.reduceMul, Nat.reduceMod, Nat.reduceDiv, Nat.reduceSub, Int.reduceToNat, hmE', hws, beq_self_eq_true]; (try simp (disch := omega) only [wrap64, Int.toNat_natCast]); (repeat refine and_rev ?_ ?_); (first | refine hK' _ ?_ | ((first | apply con1 | (apply con3; (intro hb; first | exact hb | exact ⟨hb, hb⟩ | exact ⟨hb, hb, hb⟩ | exact ⟨hb, hb, hb, hb⟩ | (simp only [hb, true_and, and_true, Bool.and_true, Bool.true_and]; done))) | apply con2); (try intro hb); (first | exact p3 | exact m1 | exact m2 | exact m3 | exact n1 | exact n2 | exact n3 | exact r1); (try intro hb); (first | exact .inr rfl | exact .inl (by simp [AV.fresh, AV.freshL])); (try simp only [push_cast, reduceIte, reduceCtorEq, Nat.reduceEqDiff, Nat.reduceLT, Nat.reduceLeDiff, Nat.reduceAdd, Nat.reduceMul, Nat.reduceMod, Nat.reduceDiv, Nat.reduceSub, Int.reduceToNat, hmE', hws, beq_self_eq_true]); (try simp (disch := omega) only [wrap64, Int.toNat_natCast]); (repeat refine and_rev ?_ ?_); refine hK' _ ?_) | (refine ⟨.v (.int .i64 0), ?_⟩; refine hK' _ ?_)); clear hK' K') | (refine aopss_skip hT (by rfl) (by rfl) (by simp only [dstOk, Nat.reduceLT]) ?_; simp only [St.put]) | ((first | refine aopss_nil ?_ | refine aops_nil ?_); refine hKs _ ?_; clear hKs K) | ((first | ((first | refine aopss_nil ?_ | refine aops_nil ?_); refine hKr _ ?_; clear hKr K) | refine awp_label ?_ | refine awp_skip ?_ | refine awp_exit ?_ | refine awp_ret ?_); simp only [push_cast, reduceIte, reduceCtorEq, Nat.reduceEqDiff, Nat.reduceLT, Nat.reduceLeDiff, Nat.reduceAdd, Nat.reduceMul, Nat.reduceMod, Nat.reduceDiv, Nat.reduceSub, Int.reduceToNat]) | refine awp_sseq fun K hKs => ?_ | refine awp_s fun K hKr => ?_ | refine awp_dseq hT hm (by decide +kernel) fun K hKs => ?_ | refine awp_d hT hm (by decide +kernel) fun K hKr => ?_ | refine awp_block ?_ | refine awp_scope ?_ | refine awp_seq ?_ | (refine awp_cond _ rfl (fun h => ?_) (fun h => ?_) <;> simp only [bh, decide_eq_true_eq, decide_eq_false_iff_not, eq_self, not_true_eq_false, not_false_eq_true, reduceCtorEq, Bool.true_eq_false, Bool.false_eq_true, bne_self_eq_false, beq_self_eq_true] at h))
    all_goals first | omega | exact (fun hh => hh) | (simp only [List.length_take, List.length_drop, List.length_append, List.length_map, List.length_cons, List.length_nil, List.length_replicate, List.length_set]; omega) | (intro hh; (try simp only [hh, Bool.not_false, Bool.not_true, Bool.true_and, Bool.and_true, eq_self, true_and, and_true]); (try simp only [bh, decide_eq_true_eq, decide_eq_false_iff_not] at hh); (first | done | omega | (simp only [List.length_take, List.length_drop, List.length_append, List.length_map, List.length_cons, List.length_nil, List.length_replicate, List.length_set]; omega) | (intro h2; simp only [h2, Bool.not_false, Bool.not_true]; done))) | exact rfl | skip
    refine awp_loop (α := Nat) (fun i => ⟨[(15, BL true), (21, avPs P), (23, avPs Q), (25, avPs R), (33, I64 i)], []⟩) (fun i => i ≤ P.length) (fun i => P.length - i) 0 (Nat.zero_le _) (G.wk ⟨rfl, rfl, rfl, rfl, rfl, trivial⟩ trivial) fun i hi => ?_
    by_cases hlt : i < P.length
    · have bl : decide ((i : Int) < (P.length : Int)) = true := decide_eq_true (by omega)
      have ho := hon i hlt
      have hb2 := hob (P.getD i default).1
      have t1 := s1 (P.getD i default).1
      have t2 := s2 (P.getD i default).1
      have b3 : ((P.getD i default).2 == onF Q (P.getD i default).1 + onF R (P.getD i default).1) = true := beq_iff_eq.2 ho
      generalize onF Q (P.getD i default).1 = X at *
      generalize onF R (P.getD i default).1 = Y at *
      repeat' (first | ((first | refine aopss_cons hT (by rfl) fun K' hK' => ?_ | refine aops_cons (by rfl) fun K' hK' => ?_); simp only [push_cast, reduceIte, reduceCtorEq, Nat.reduceEqDiff, Nat.reduceLT, Nat.reduceLeDiff, Nat.reduceAdd, Nat.reduceMul, Nat.reduceMod, Nat.reduceDiv, Nat.reduceSub, Int.reduceToNat, bl, b3]; (try simp (disch := omega) only [wrap64, Int.toNat_natCast]); (repeat refine and_rev ?_ ?_); (first | refine hK' _ ?_ | ((first | apply con1 | (apply con3; (intro hb; first | exact hb | exact ⟨hb, hb⟩ | exact ⟨hb, hb, hb⟩ | exact ⟨hb, hb, hb, hb⟩ | (simp only [hb, true_and, and_true, Bool.and_true, Bool.true_and]; done))) | apply con2); (try intro hb); (first | exact t1 | exact t2); (try intro hb); (first | exact .inr rfl | exact .inl (by simp [AV.fresh, AV.freshL])); (try simp only [push_cast, reduceIte, reduceCtorEq, Nat.reduceEqDiff, Nat.reduceLT, Nat.reduceLeDiff, Nat.reduceAdd, Nat.reduceMul, Nat.reduceMod, Nat.reduceDiv, Nat.reduceSub, Int.reduceToNat, bl, b3]); (try simp (disch := omega) only [wrap64, Int.toNat_natCast]); (repeat refine and_rev ?_ ?_); refine hK' _ ?_) | (refine ⟨.v (.int .i64 0), ?_⟩; refine hK' _ ?_)); clear hK' K') | (refine aopss_skip hT (by rfl) (by rfl) (by simp only [dstOk, Nat.reduceLT]) ?_; simp only [St.put]) | ((first | refine aopss_nil ?_ | refine aops_nil ?_); refine hKs _ ?_; clear hKs K) | ((first | ((first | refine aopss_nil ?_ | refine aops_nil ?_); refine hKr _ ?_; clear hKr K) | refine awp_label ?_ | refine awp_skip ?_ | refine awp_exit ?_ | refine awp_ret ?_); simp only [push_cast, reduceIte, reduceCtorEq, Nat.reduceEqDiff, Nat.reduceLT, Nat.reduceLeDiff, Nat.reduceAdd, Nat.reduceMul, Nat.reduceMod, Nat.reduceDiv, Nat.reduceSub, Int.reduceToNat]) | refine awp_sseq fun K hKs => ?_ | refine awp_s fun K hKr => ?_ | refine awp_dseq hT hm (by decide +kernel) fun K hKs => ?_ | refine awp_d hT hm (by decide +kernel) fun K hKr => ?_ | refine awp_block ?_ | refine awp_scope ?_ | refine awp_seq ?_ | (refine awp_cond _ rfl (fun h => ?_) (fun h => ?_) <;> simp only [bh, decide_eq_true_eq, decide_eq_false_iff_not, eq_self, not_true_eq_false, not_false_eq_true, reduceCtorEq, Bool.true_eq_false, Bool.false_eq_true, bne_self_eq_false, beq_self_eq_true] at h))
      all_goals first | omega | exact (fun hh => hh) | (simp only [List.length_take, List.length_drop, List.length_append, List.length_map, List.length_cons, List.length_nil, List.length_replicate, List.length_set]; omega) | (intro hh; (try simp only [hh, Bool.not_false, Bool.not_true, Bool.true_and, Bool.and_true, eq_self, true_and, and_true]); (try simp only [bh, decide_eq_true_eq, decide_eq_false_iff_not] at hh); (first | done | omega | (simp only [List.length_take, List.length_drop, List.length_append, List.length_map, List.length_cons, List.length_nil, List.length_replicate, List.length_set]; omega) | (intro h2; simp only [h2, Bool.not_false, Bool.not_true]; done))) | exact rfl | skip
      all_goals exact ⟨i + 1, ⟨by show i + 1 ≤ _; omega, by show _ - (i + 1) < _ - i; omega⟩, G.wk ⟨rfl, rfl, rfl, rfl, rfl, trivial⟩ trivial⟩
    · obtain rfl : i = P.length := by omega
      have bl : decide ((P.length : Int) < (P.length : Int)) = false := decide_eq_false (by omega)
      repeat' (first | ((first | refine aopss_cons hT (by rfl) fun K' hK' => ?_ | refine aops_cons (by rfl) fun K' hK' => ?_); simp only [push_cast, reduceIte, reduceCtorEq, Nat.reduceEqDiff, Nat.reduceLT, Nat.reduceLeDiff, Nat.reduceAdd, Nat.reduceMul, Nat.reduceMod, Nat.reduceDiv, Nat.reduceSub, Int.reduceToNat, bl, hfin]; (try simp (disch := omega) only [wrap64, Int.toNat_natCast]); (repeat refine and_rev ?_ ?_); (first | refine hK' _ ?_ | ((first | apply con1 | (apply con3; (intro hb; first | exact hb | exact ⟨hb, hb⟩ | exact ⟨hb, hb, hb⟩ | exact ⟨hb, hb, hb, hb⟩ | (simp only [hb, true_and, and_true, Bool.and_true, Bool.true_and]; done))) | apply con2); (try intro hb); (first | exact q1 | exact q2 | exact q3); (try intro hb); (first | exact .inr rfl | exact .inl (by simp [AV.fresh, AV.freshL])); (try simp only [push_cast, reduceIte, reduceCtorEq, Nat.reduceEqDiff, Nat.reduceLT, Nat.reduceLeDiff, Nat.reduceAdd, Nat.reduceMul, Nat.reduceMod, Nat.reduceDiv, Nat.reduceSub, Int.reduceToNat, bl, hfin]); (try simp (disch := omega) only [wrap64, Int.toNat_natCast]); (repeat refine and_rev ?_ ?_); refine hK' _ ?_) | (refine ⟨.v (.int .i64 0), ?_⟩; refine hK' _ ?_)); clear hK' K') | (refine aopss_skip hT (by rfl) (by rfl) (by simp only [dstOk, Nat.reduceLT]) ?_; simp only [St.put]) | ((first | refine aopss_nil ?_ | refine aops_nil ?_); refine hKs _ ?_; clear hKs K) | ((first | ((first | refine aopss_nil ?_ | refine aops_nil ?_); refine hKr _ ?_; clear hKr K) | refine awp_label ?_ | refine awp_skip ?_ | refine awp_exit ?_ | refine awp_ret ?_); simp only [push_cast, reduceIte, reduceCtorEq, Nat.reduceEqDiff, Nat.reduceLT, Nat.reduceLeDiff, Nat.reduceAdd, Nat.reduceMul, Nat.reduceMod, Nat.reduceDiv, Nat.reduceSub, Int.reduceToNat]) | refine awp_sseq fun K hKs => ?_ | refine awp_s fun K hKr => ?_ | refine awp_dseq hT hm (by decide +kernel) fun K hKs => ?_ | refine awp_d hT hm (by decide +kernel) fun K hKr => ?_ | refine awp_block ?_ | refine awp_scope ?_ | refine awp_seq ?_ | (refine awp_cond _ rfl (fun h => ?_) (fun h => ?_) <;> simp only [bh, decide_eq_true_eq, decide_eq_false_iff_not, eq_self, not_true_eq_false, not_false_eq_true, reduceCtorEq, Bool.true_eq_false, Bool.false_eq_true, bne_self_eq_false, beq_self_eq_true] at h))
      all_goals first | omega | exact (fun hh => hh) | (simp only [List.length_take, List.length_drop, List.length_append, List.length_map, List.length_cons, List.length_nil, List.length_replicate, List.length_set]; omega) | (intro hh; (try simp only [hh, Bool.not_false, Bool.not_true, Bool.true_and, Bool.and_true, eq_self, true_and, and_true]); (try simp only [bh, decide_eq_true_eq, decide_eq_false_iff_not] at hh); (first | done | omega | (simp only [List.length_take, List.length_drop, List.length_append, List.length_map, List.length_cons, List.length_nil, List.length_replicate, List.length_set]; omega) | (intro h2; simp only [h2, Bool.not_false, Bool.not_true]; done))) | exact rfl | skip
      all_goals done
end Go.Proofs.Ytflclkbkgcfliaa
