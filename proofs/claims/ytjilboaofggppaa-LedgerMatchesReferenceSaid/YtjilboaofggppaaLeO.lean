/- Part of a proof about the given program: contracts of its functions (see the comment of the last text). -/
import Derived.Test.YtjilboaofggppaaLeN
namespace Go.Proofs.Ytjilboaofggppaa
open Go.Eng Go.Proofs
set_option linter.unusedSimpArgs false
set_option linter.unusedVariables false
attribute [local irreducible] AOps AOpsX AOps2 AOpsS AWP AAnyS

set_option maxHeartbeats 16000000 in
theorem lmr_ok (l : List En) (e : En) (acc : ByteArray) (day bk : Int) (hl : okL l) (he : okE e) (ha : acc.size ≤ 9223372036854775807) (hd : In64 day) (hb : In64 bk) : Pure Try.prog 3 [.a (avL l), .a (avE e), STR acc, I64 day, I64 bk] (BL true) := by
  have p1 := post_ok l e hl he
  have p2 := rpost_ok l e hl he
  have v1 := valid_ok l hl
  have v2 := rvalid_ok l hl
  have hn := post_len l e
  have s1 := same_ok (postF l e).1 (postF l e).1 (by omega) (by omega)
  rw [decide_eq_true rfl] at s1
  have b1 := bal_ok l acc day bk hl
  have b2 := rbal_ok l acc day bk hl
  have a1 := acc_ok l hl
  have a2 := racc_ok l hl
  have hn2 := accF_len2 l
  have t1 := strings_ok (accF l) (accF l) (by omega) (by omega)
  rw [decide_eq_true rfl] at t1
  have hh := head_ok
  rw [avPo] at p1 p2
  generalize postF l e = pp at *
  generalize validB l = vv at *
  generalize balF l acc day bk = bb at *
  generalize accF l = aa at *
  refine pure_of (n := 85) (res := [.tmp 10]) hT Try.func3 rfl rfl rfl Try.ntmps3 (Nat.le_of_ble_eq_true rfl) fun B w0 => ?_
  repeat' (first
    | ((first | refine aopss_cons hT (by rfl) fun K' hK' => ?_ | refine aops_cons (by rfl) fun K' hK' => ?_); simp only [push_cast, reduceIte, reduceCtorEq, Nat.reduceEqDiff, Nat.reduceLT, Nat.reduceLeDiff, Nat.reduceAdd, Nat.reduceMul, Nat.reduceMod, Nat.reduceDiv, Nat.reduceSub, Int.reduceToNat]; (try simp (disch := omega) only [wrap64, Int.toNat_natCast]); (repeat refine and_rev ?_ ?_); (first | refine hK' _ ?_ | ((first | refine ⟨_, ⟨(by first | exact hh | exact p1 | exact p2 | exact v1 | exact v2 | exact s1 | exact b1 | exact b2 | exact a1 | exact a2 | exact t1), (by first | exact .inr rfl | exact .inl (by simp [AV.fresh, AV.freshL]))⟩, ?_⟩ | refine ⟨_, fun hb => ⟨(by first | exact hh | exact p1 | exact p2 | exact v1 | exact v2 | exact s1 | exact b1 | exact b2 | exact a1 | exact a2 | exact t1), (by first | exact .inr rfl | exact .inl (by simp [AV.fresh, AV.freshL]))⟩, ?_⟩ | refine ⟨_, fun hb => ⟨(by first | exact hb | exact ⟨hb, hb⟩ | exact ⟨hb, hb, hb⟩ | exact ⟨hb, hb, hb, hb⟩ | (simp only [hb, true_and, and_true, Bool.and_true, Bool.true_and]; done)), (by first | exact hh | exact p1 | exact p2 | exact v1 | exact v2 | exact s1 | exact b1 | exact b2 | exact a1 | exact a2 | exact t1), (by first | exact .inr rfl | exact .inl (by simp [AV.fresh, AV.freshL]))⟩, ?_⟩); (try simp only [push_cast, reduceIte, reduceCtorEq, Nat.reduceEqDiff, Nat.reduceLT, Nat.reduceLeDiff, Nat.reduceAdd, Nat.reduceMul, Nat.reduceMod, Nat.reduceDiv, Nat.reduceSub, Int.reduceToNat]); (try simp (disch := omega) only [wrap64, Int.toNat_natCast]); (repeat refine and_rev ?_ ?_); refine hK' _ ?_) | (refine ⟨.v (.int .i64 0), ?_⟩; refine hK' _ ?_)); clear hK' K')
    | (refine aopss_upd hT rfl fun K' hK' => ?_; simp only [push_cast, reduceIte, reduceCtorEq, Nat.reduceEqDiff, Nat.reduceLT, Nat.reduceLeDiff, Nat.reduceAdd, Nat.reduceMul, Nat.reduceMod, Nat.reduceDiv, Nat.reduceSub, Int.reduceToNat]; (try simp (disch := omega) only [wrap64, Int.toNat_natCast]); (repeat refine and_rev ?_ ?_); refine hK' _ ?_; clear hK' K')
    | (refine aopss_map T rfl (by simp only [dstOk, Nat.reduceLT]) fun K' hK' => ?_; simp only [push_cast, reduceIte, reduceCtorEq, Nat.reduceEqDiff, Nat.reduceLT, Nat.reduceLeDiff, Nat.reduceAdd, Nat.reduceMul, Nat.reduceMod, Nat.reduceDiv, Nat.reduceSub, Int.reduceToNat]; refine hK' _ ?_; clear hK' K')
    | (refine aopss_skip hT (by rfl) (by rfl) (by simp only [dstOk, Nat.reduceLT]) ?_; simp only [St.put])
    | ((first | refine aopss_nil ?_ | refine aops_nil ?_); first | (refine hKs _ ?_; clear hKs K) | (refine hKr _ ?_; clear hKr K; simp only [push_cast, reduceIte, reduceCtorEq, Nat.reduceEqDiff, Nat.reduceLT, Nat.reduceLeDiff, Nat.reduceAdd, Nat.reduceMul, Nat.reduceMod, Nat.reduceDiv, Nat.reduceSub, Int.reduceToNat]))
    | refine awp_sseq fun K hKs => ?_ | refine awp_s fun K hKr => ?_ | refine awp_dseq hT hm (by decide +kernel) fun K hKs => ?_ | refine awp_d hT hm (by decide +kernel) fun K hKr => ?_
    | refine awp_block ?_ | refine awp_scope ?_ | refine awp_seq ?_ | ((first | refine awp_label ?_ | refine awp_skip ?_ | refine awp_exit ?_ | refine awp_ret ?_); simp only [push_cast, reduceIte, reduceCtorEq, Nat.reduceEqDiff, Nat.reduceLT, Nat.reduceLeDiff, Nat.reduceAdd, Nat.reduceMul, Nat.reduceMod, Nat.reduceDiv, Nat.reduceSub, Int.reduceToNat])
    | (refine awp_cond _ rfl (fun h => ?_) (fun h => ?_) <;> simp only [bh, decide_eq_true_eq, decide_eq_false_iff_not, eq_self, not_true_eq_false, not_false_eq_true, reduceCtorEq, Bool.true_eq_false, Bool.false_eq_true, bne_self_eq_false, beq_self_eq_true] at h))
  all_goals first | omega | exact (fun hh => hh) | (simp only [List.length_take, List.length_drop, List.length_append, List.length_map, List.length_cons, List.length_nil, List.length_replicate, List.length_set]; omega) | (intro hh; (try simp only [hh, Bool.not_false, Bool.not_true, Bool.true_and, Bool.and_true, eq_self, true_and, and_true]); (try simp only [bh, decide_eq_true_eq, decide_eq_false_iff_not] at hh); (first | done | omega | (simp only [List.length_take, List.length_drop, List.length_append, List.length_map, List.length_cons, List.length_nil, List.length_replicate, List.length_set]; omega))) | (intro hh; simp only [hh, Bool.not_false, Bool.not_true, Bool.true_and, Bool.and_true, eq_self, true_and, and_true]; intro h2; simp only [h2, Bool.not_false, Bool.not_true]; done) | (exact rfl) | skip
  all_goals done
end Go.Proofs.Ytjilboaofggppaa
