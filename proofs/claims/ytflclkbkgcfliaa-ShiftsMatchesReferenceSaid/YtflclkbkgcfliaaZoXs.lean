/- Part of a proof about the given program: contracts of its functions (see the comment of the last text). -/
import Derived.Test.YtflclkbkgcfliaaZoX
namespace Go.Proofs.Ytflclkbkgcfliaa
open Go.Eng Go.Proofs Go.Zo
set_option linter.unusedSimpArgs false
set_option linter.unusedVariables false
attribute [local irreducible] AOps AOpsX AOps2 AOpsS AWP AAnyS Go.Eng.Pure PureRow

theorem rsplit_ok (z : Zn) (a b : Int) (hz : okZ z) (ha : In64 a) (hb : In64 b) : Pure Try.prog 27 [.a (avZ z), I64 a, I64 b] (avSp (splF z a b)) := by
  have hv := rvalid_ok z hz
  have rs := rstr_ok a b
  have hck0 : chkF z a b = (validZ z && ((decide (0 ≤ a) && decide (a ≤ b)) && decide (b ≤ 52596000))) := by unfold chkF; simp only [Bool.and_assoc]
  by_cases hck : chkF z a b = true
  · by_cases hl : 44640 < b - a
    · have hp : splF z a b = ([], 2) := by unfold splF; rw [if_pos hck, if_pos hl]
      refine spl_res hp sub_nil' ?_
      obtain ⟨v1, a1, a2, a3⟩ := chkF_spec hck
      rw [v1] at hv
      rw [decide_eq_true a1, decide_eq_true a2, decide_eq_true a3] at rs
      simp only [Bool.and_true] at rs
      refine pure_of (n := 44) (res := [.tmp 6, .tmp 7]) hT Try.func27 rfl rfl rfl Try.ntmps27 (Nat.le_of_ble_eq_true rfl) fun B w0 => ?_
      have b5 : decide (44640 < b - a) = true := decide_eq_true hl
      repeat' (first | ((first | refine aopss_cons hT (by rfl) fun K' hK' => ?_ | refine aops_cons (by rfl) fun K' hK' => ?_); simp only [push_cast, reduceIte, reduceCtorEq, Nat.reduceEqDiff, Nat.reduceLT, Nat.reduceLeDiff, Nat.reduceAdd, Nat.reduceMul, Nat.reduceMod, Nat.reduceDiv, Nat.reduceSub, Int.reduceToNat, b5]; (try simp (disch := omega) only [wrap64, Int.toNat_natCast]); (repeat refine and_rev ?_ ?_); (first | refine hK' _ ?_ | ((first | apply con1 | (apply con3; (intro hb; first | exact hb | exact ⟨hb, hb⟩ | exact ⟨hb, hb, hb⟩ | exact ⟨hb, hb, hb, hb⟩ | (simp only [hb, true_and, and_true, Bool.and_true, Bool.true_and]; done))) | apply con2); (try intro hb); (first | exact hv | exact rs); (try intro hb); (first | exact .inr rfl | exact .inl (by simp [AV.fresh, AV.freshL])); (try simp only [push_cast, reduceIte, reduceCtorEq, Nat.reduceEqDiff, Nat.reduceLT, Nat.reduceLeDiff, Nat.reduceAdd, Nat.reduceMul, Nat.reduceMod, Nat.reduceDiv, Nat.reduceSub, Int.reduceToNat, b5]); (try simp (disch := omega) only [wrap64, Int.toNat_natCast]); (repeat refine and_rev ?_ ?_); refine hK' _ ?_) | (refine ⟨.v (.int .i64 0), ?_⟩; refine hK' _ ?_)); clear hK' K') | (refine aopss_skip hT (by rfl) (by rfl) (by simp only [dstOk, Nat.reduceLT]) ?_; simp only [St.put]) | ((first | refine aopss_nil ?_ | refine aops_nil ?_); refine hKs _ ?_; clear hKs K) | ((first | ((first | refine aopss_nil ?_ | refine aops_nil ?_); refine hKr _ ?_; clear hKr K) | refine awp_label ?_ | refine awp_skip ?_ | refine awp_exit ?_ | refine awp_ret ?_); simp only [push_cast, reduceIte, reduceCtorEq, Nat.reduceEqDiff, Nat.reduceLT, Nat.reduceLeDiff, Nat.reduceAdd, Nat.reduceMul, Nat.reduceMod, Nat.reduceDiv, Nat.reduceSub, Int.reduceToNat]) | refine awp_sseq fun K hKs => ?_ | refine awp_s fun K hKr => ?_ | refine awp_dseq hT hm (by decide +kernel) fun K hKs => ?_ | refine awp_d hT hm (by decide +kernel) fun K hKr => ?_ | refine awp_block ?_ | refine awp_scope ?_ | refine awp_seq ?_ | (refine awp_cond _ rfl (fun h => ?_) (fun h => ?_) <;> simp only [bh, decide_eq_true_eq, decide_eq_false_iff_not, eq_self, not_true_eq_false, not_false_eq_true, reduceCtorEq, Bool.true_eq_false, Bool.false_eq_true, bne_self_eq_false, beq_self_eq_true] at h))
      all_goals first | omega | exact (fun hh => hh) | (simp only [List.length_take, List.length_drop, List.length_append, List.length_map, List.length_cons, List.length_nil, List.length_replicate, List.length_set]; omega) | (intro hh; (try simp only [hh, Bool.not_false, Bool.not_true, Bool.true_and, Bool.and_true, eq_self, true_and, and_true]); (try simp only [bh, decide_eq_true_eq, decide_eq_false_iff_not] at hh); (first | done | omega | (simp only [List.length_take, List.length_drop, List.length_append, List.length_map, List.length_cons, List.length_nil, List.length_replicate, List.length_set]; omega) | (intro h2; simp only [h2, Bool.not_false, Bool.not_true]; done))) | exact rfl | skip
      all_goals done
    · cases hal : (dayL z a b).all inD with
      | true =>
        have hp : splF z a b = (portF z a b, 0) := by unfold splF; rw [if_pos hck, if_neg hl, hal]; rfl
        exact spl_res hp (sub_rowP _) (rsplit_raw z a b _ _ hz hck (by omega) (.inl ⟨hal, rfl, rfl⟩))
      | false =>
        have hp : splF z a b = ([], 21) := by unfold splF; rw [if_pos hck, if_neg hl, hal]; rfl
        exact spl_res hp sub_nil' (rsplit_raw z a b _ _ hz hck (by omega) (.inr ⟨hal, rfl, rfl⟩))
  · have hp : splF z a b = ([], 1) := by unfold splF; rw [if_neg hck]
    refine spl_res hp sub_nil' ?_
    refine pure_of (n := 44) (res := [.tmp 6, .tmp 7]) hT Try.func27 rfl rfl rfl Try.ntmps27 (Nat.le_of_ble_eq_true rfl) fun B w0 => ?_
    cases v1 : validZ z with
    | false =>
      rw [v1] at hv
      repeat' (first | ((first | refine aopss_cons hT (by rfl) fun K' hK' => ?_ | refine aops_cons (by rfl) fun K' hK' => ?_); simp only [push_cast, reduceIte, reduceCtorEq, Nat.reduceEqDiff, Nat.reduceLT, Nat.reduceLeDiff, Nat.reduceAdd, Nat.reduceMul, Nat.reduceMod, Nat.reduceDiv, Nat.reduceSub, Int.reduceToNat]; (try simp (disch := omega) only [wrap64, Int.toNat_natCast]); (repeat refine and_rev ?_ ?_); (first | refine hK' _ ?_ | ((first | apply con1 | (apply con3; (intro hb; first | exact hb | exact ⟨hb, hb⟩ | exact ⟨hb, hb, hb⟩ | exact ⟨hb, hb, hb, hb⟩ | (simp only [hb, true_and, and_true, Bool.and_true, Bool.true_and]; done))) | apply con2); (try intro hb); (first | exact hv); (try intro hb); (first | exact .inr rfl | exact .inl (by simp [AV.fresh, AV.freshL])); (try simp only [push_cast, reduceIte, reduceCtorEq, Nat.reduceEqDiff, Nat.reduceLT, Nat.reduceLeDiff, Nat.reduceAdd, Nat.reduceMul, Nat.reduceMod, Nat.reduceDiv, Nat.reduceSub, Int.reduceToNat]); (try simp (disch := omega) only [wrap64, Int.toNat_natCast]); (repeat refine and_rev ?_ ?_); refine hK' _ ?_) | (refine ⟨.v (.int .i64 0), ?_⟩; refine hK' _ ?_)); clear hK' K') | (refine aopss_skip hT (by rfl) (by rfl) (by simp only [dstOk, Nat.reduceLT]) ?_; simp only [St.put]) | ((first | refine aopss_nil ?_ | refine aops_nil ?_); refine hKs _ ?_; clear hKs K) | ((first | ((first | refine aopss_nil ?_ | refine aops_nil ?_); refine hKr _ ?_; clear hKr K) | refine awp_label ?_ | refine awp_skip ?_ | refine awp_exit ?_ | refine awp_ret ?_); simp only [push_cast, reduceIte, reduceCtorEq, Nat.reduceEqDiff, Nat.reduceLT, Nat.reduceLeDiff, Nat.reduceAdd, Nat.reduceMul, Nat.reduceMod, Nat.reduceDiv, Nat.reduceSub, Int.reduceToNat]) | refine awp_sseq fun K hKs => ?_ | refine awp_s fun K hKr => ?_ | refine awp_dseq hT hm (by decide +kernel) fun K hKs => ?_ | refine awp_d hT hm (by decide +kernel) fun K hKr => ?_ | refine awp_block ?_ | refine awp_scope ?_ | refine awp_seq ?_ | (refine awp_cond _ rfl (fun h => ?_) (fun h => ?_) <;> simp only [bh, decide_eq_true_eq, decide_eq_false_iff_not, eq_self, not_true_eq_false, not_false_eq_true, reduceCtorEq, Bool.true_eq_false, Bool.false_eq_true, bne_self_eq_false, beq_self_eq_true] at h))
      all_goals first | omega | exact (fun hh => hh) | (simp only [List.length_take, List.length_drop, List.length_append, List.length_map, List.length_cons, List.length_nil, List.length_replicate, List.length_set]; omega) | (intro hh; (try simp only [hh, Bool.not_false, Bool.not_true, Bool.true_and, Bool.and_true, eq_self, true_and, and_true]); (try simp only [bh, decide_eq_true_eq, decide_eq_false_iff_not] at hh); (first | done | omega | (simp only [List.length_take, List.length_drop, List.length_append, List.length_map, List.length_cons, List.length_nil, List.length_replicate, List.length_set]; omega) | (intro h2; simp only [h2, Bool.not_false, Bool.not_true]; done))) | exact rfl | skip
      all_goals done
    | true =>
      rw [v1] at hv hck0
      rw [Bool.true_and] at hck0
      rw [← hck0, show chkF z a b = false by simpa using hck] at rs
      repeat' (first | ((first | refine aopss_cons hT (by rfl) fun K' hK' => ?_ | refine aops_cons (by rfl) fun K' hK' => ?_); simp only [push_cast, reduceIte, reduceCtorEq, Nat.reduceEqDiff, Nat.reduceLT, Nat.reduceLeDiff, Nat.reduceAdd, Nat.reduceMul, Nat.reduceMod, Nat.reduceDiv, Nat.reduceSub, Int.reduceToNat]; (try simp (disch := omega) only [wrap64, Int.toNat_natCast]); (repeat refine and_rev ?_ ?_); (first | refine hK' _ ?_ | ((first | apply con1 | (apply con3; (intro hb; first | exact hb | exact ⟨hb, hb⟩ | exact ⟨hb, hb, hb⟩ | exact ⟨hb, hb, hb, hb⟩ | (simp only [hb, true_and, and_true, Bool.and_true, Bool.true_and]; done))) | apply con2); (try intro hb); (first | exact hv | exact rs); (try intro hb); (first | exact .inr rfl | exact .inl (by simp [AV.fresh, AV.freshL])); (try simp only [push_cast, reduceIte, reduceCtorEq, Nat.reduceEqDiff, Nat.reduceLT, Nat.reduceLeDiff, Nat.reduceAdd, Nat.reduceMul, Nat.reduceMod, Nat.reduceDiv, Nat.reduceSub, Int.reduceToNat]); (try simp (disch := omega) only [wrap64, Int.toNat_natCast]); (repeat refine and_rev ?_ ?_); refine hK' _ ?_) | (refine ⟨.v (.int .i64 0), ?_⟩; refine hK' _ ?_)); clear hK' K') | (refine aopss_skip hT (by rfl) (by rfl) (by simp only [dstOk, Nat.reduceLT]) ?_; simp only [St.put]) | ((first | refine aopss_nil ?_ | refine aops_nil ?_); refine hKs _ ?_; clear hKs K) | ((first | ((first | refine aopss_nil ?_ | refine aops_nil ?_); refine hKr _ ?_; clear hKr K) | refine awp_label ?_ | refine awp_skip ?_ | refine awp_exit ?_ | refine awp_ret ?_); simp only [push_cast, reduceIte, reduceCtorEq, Nat.reduceEqDiff, Nat.reduceLT, Nat.reduceLeDiff, Nat.reduceAdd, Nat.reduceMul, Nat.reduceMod, Nat.reduceDiv, Nat.reduceSub, Int.reduceToNat]) | refine awp_sseq fun K hKs => ?_ | refine awp_s fun K hKr => ?_ | refine awp_dseq hT hm (by decide +kernel) fun K hKs => ?_ | refine awp_d hT hm (by decide +kernel) fun K hKr => ?_ | refine awp_block ?_ | refine awp_scope ?_ | refine awp_seq ?_ | (refine awp_cond _ rfl (fun h => ?_) (fun h => ?_) <;> simp only [bh, decide_eq_true_eq, decide_eq_false_iff_not, eq_self, not_true_eq_false, not_false_eq_true, reduceCtorEq, Bool.true_eq_false, Bool.false_eq_true, bne_self_eq_false, beq_self_eq_true] at h))
      all_goals first | omega | exact (fun hh => hh) | (simp only [List.length_take, List.length_drop, List.length_append, List.length_map, List.length_cons, List.length_nil, List.length_replicate, List.length_set]; omega) | (intro hh; (try simp only [hh, Bool.not_false, Bool.not_true, Bool.true_and, Bool.and_true, eq_self, true_and, and_true]); (try simp only [bh, decide_eq_true_eq, decide_eq_false_iff_not] at hh); (first | done | omega | (simp only [List.length_take, List.length_drop, List.length_append, List.length_map, List.length_cons, List.length_nil, List.length_replicate, List.length_set]; omega) | (intro h2; simp only [h2, Bool.not_false, Bool.not_true]; done))) | exact rfl | skip
      all_goals done
theorem spl_len (z : Zn) (a b : Int) : (splF z a b).1.length ≤ 100000000 := by
  unfold splF
  split
  · rename_i hc
    obtain ⟨_, _, h, _⟩ := chkF_spec hc
    split
    · exact Nat.zero_le _
    · split
      · have := port_llen z h
        show (portF z a b).length ≤ _
        omega
      · exact Nat.zero_le _
  · exact Nat.zero_le _
end Go.Proofs.Ytflclkbkgcfliaa
