/- Part of a proof about the given program: contracts of its functions (see the comment of the last text). -/
import Derived.Test.YtejafnamkalhiaaTxH
namespace Go.Proofs.Ytejafnamkalhiaa
open Go.Eng Go.Proofs
set_option linter.unusedSimpArgs false
set_option linter.unusedVariables false
attribute [local irreducible] AOps AOpsX AOps2 AWP

theorem sub_a {xs ys : List AV} (h : SubL xs ys) : Sub (.a xs) (.a ys) := by
  intro B I w u hu
  obtain ⟨hl, hs⟩ := SubL.spec h
  cases hu with
  | a _ us hul hc => exact .a _ _ (by omega) fun j hj => hs j _ _ _ _ (hc j (by omega))
/-- The bracket of the examples. -/
def simpleB (y : Int) : Br := ⟨y, ⟨10, [⟨0, 0, 0⟩, ⟨1000, 0, 2⟩]⟩⟩
theorem simple_ok (y : Int) : Pure Try.prog 25 [I64 y] (avBT (simpleB y)) := by
  refine Pure.res (r := .a [I64 y, I64 10, .i true (fun e j => [I64 0, I64 0, I64 0, I64 1000, I64 0, I64 2].getD (e * 3 + j) .top) 3 0 2]) ?_ (sub_a ⟨Sub.refl _, Sub.refl _, sub_slice rfl (fun e j he hj => ?_), trivial⟩)
  · refine pure_of (n := 9) (res := [.cell 2 27]) hT Try.func25 rfl rfl rfl Try.ntmps25 (Nat.le_of_ble_eq_true rfl) fun B w0 => ?_
    repeat' (first
    | ((first | refine aopsx_cons (by rfl) fun K' hK' => ?_ | refine aops_cons (by rfl) fun K' hK' => ?_); simp only [push_cast, reduceIte, reduceCtorEq, Nat.reduceEqDiff, Nat.reduceLT, Nat.reduceLeDiff, Nat.reduceAdd, Nat.reduceMul, Nat.reduceMod, Nat.reduceDiv, Nat.reduceSub, Int.reduceToNat]; (try simp (disch := omega) only [wrap64, Int.toNat_natCast]); (repeat refine and_rev ?_ ?_); (first | refine hK' _ ?_ | (refine ⟨.v (.int .i64 0), ?_⟩; refine hK' _ ?_)); clear hK' K')
    | (refine aopsx_skip (by rfl) (by rfl) (by simp only [dstOk, Nat.reduceLT]) ?_; simp only [St.put])
    | ((first | refine aopsx_nil ?_ | refine aops_nil ?_); first | (refine hKs _ ?_; clear hKs K) | (refine hKr _ ?_; clear hKr K; simp only [push_cast, reduceIte, reduceCtorEq, Nat.reduceEqDiff, Nat.reduceLT, Nat.reduceLeDiff, Nat.reduceAdd, Nat.reduceMul, Nat.reduceMod, Nat.reduceDiv, Nat.reduceSub, Int.reduceToNat]))
    | refine awp_xseq hT fun K hKs => ?_ | refine awp_x hT fun K hKr => ?_ | refine awp_dseq hT hm (by decide +kernel) fun K hKs => ?_ | refine awp_d hT hm (by decide +kernel) fun K hKr => ?_
    | refine awp_block ?_ | refine awp_scope ?_ | refine awp_seq ?_ | ((first | refine awp_label ?_ | refine awp_skip ?_ | refine awp_exit ?_ | refine awp_ret ?_); simp only [push_cast, reduceIte, reduceCtorEq, Nat.reduceEqDiff, Nat.reduceLT, Nat.reduceLeDiff, Nat.reduceAdd, Nat.reduceMul, Nat.reduceMod, Nat.reduceDiv, Nat.reduceSub, Int.reduceToNat])
    | (refine awp_cond _ rfl (fun h => ?_) (fun h => ?_) <;> simp only [bh, decide_eq_true_eq, decide_eq_false_iff_not, eq_self, not_true_eq_false, not_false_eq_true, reduceCtorEq, Bool.true_eq_false, Bool.false_eq_true, bne_self_eq_false, beq_self_eq_true] at h))
    all_goals first | omega | exact (fun hh => hh) | (simp only [List.length_take, List.length_drop, List.length_append, List.length_map, List.length_cons, List.length_nil, List.length_replicate, List.length_set]; omega) | (intro hh; (try simp only [hh, Bool.not_false, Bool.not_true, Bool.true_and, Bool.and_true, eq_self, true_and, and_true]); (try simp only [bh, decide_eq_true_eq, decide_eq_false_iff_not] at hh); (first | done | omega | (simp only [List.length_take, List.length_drop, List.length_append, List.length_map, List.length_cons, List.length_nil, List.length_replicate, List.length_set]; omega))) | (intro hh; simp only [hh, Bool.not_false, Bool.not_true, Bool.true_and, Bool.and_true, eq_self, true_and, and_true]; intro h2; simp only [h2, Bool.not_false, Bool.not_true]; done) | (exact rfl) | skip
    all_goals (try simp only [push_cast, reduceIte, reduceCtorEq, Nat.reduceEqDiff, Nat.reduceLT, Nat.reduceLeDiff, Nat.reduceAdd, Nat.reduceMul, Nat.reduceMod, Nat.reduceDiv, Nat.reduceSub, Int.reduceToNat])
  · rw [Nat.zero_add]
    obtain rfl | rfl : e = 0 ∨ e = 1 := by omega
    · obtain rfl | rfl | rfl : j = 0 ∨ j = 1 ∨ j = 2 := by omega
      all_goals rfl
    · obtain rfl | rfl | rfl : j = 0 ∨ j = 1 ∨ j = 2 := by omega
      all_goals rfl

/-- Short enough to be examined. -/
def ShortOk (bs : List Br) : Prop := (∀ i, i < bs.length → (bs.getD i default).fu.ps.length ≤ 66) ∧ bs.length ≤ 40
instance (bs : List Br) : Decidable (ShortOk bs) := by unfold ShortOk; infer_instance
theorem short_ok (bs : List Br) (hl : bs.length ≤ maxLen) : Pure Try.prog 11 [avBs bs] (BL (decide (ShortOk bs))) := by
  refine pure_of (n := 20) (res := [.tmp 2]) hT Try.func11 rfl rfl rfl Try.ntmps11 (Nat.le_of_ble_eq_true rfl) fun B w0 => ?_
  simp only [maxLen] at hl
  repeat' (first
    | ((first | refine aopsx_cons (by rfl) fun K' hK' => ?_ | refine aops_cons (by rfl) fun K' hK' => ?_); simp only [push_cast, reduceIte, reduceCtorEq, Nat.reduceEqDiff, Nat.reduceLT, Nat.reduceLeDiff, Nat.reduceAdd, Nat.reduceMul, Nat.reduceMod, Nat.reduceDiv, Nat.reduceSub, Int.reduceToNat]; (try simp (disch := omega) only [wrap64, Int.toNat_natCast]); (repeat refine and_rev ?_ ?_); (first | refine hK' _ ?_ | (refine ⟨.v (.int .i64 0), ?_⟩; refine hK' _ ?_)); clear hK' K')
    | (refine aopsx_skip (by rfl) (by rfl) (by simp only [dstOk, Nat.reduceLT]) ?_; simp only [St.put])
    | ((first | refine aopsx_nil ?_ | refine aops_nil ?_); first | (refine hKs _ ?_; clear hKs K) | (refine hKr _ ?_; clear hKr K; simp only [push_cast, reduceIte, reduceCtorEq, Nat.reduceEqDiff, Nat.reduceLT, Nat.reduceLeDiff, Nat.reduceAdd, Nat.reduceMul, Nat.reduceMod, Nat.reduceDiv, Nat.reduceSub, Int.reduceToNat]))
    | refine awp_xseq hT fun K hKs => ?_ | refine awp_x hT fun K hKr => ?_ | refine awp_dseq hT hm (by decide +kernel) fun K hKs => ?_ | refine awp_d hT hm (by decide +kernel) fun K hKr => ?_
    | refine awp_block ?_ | refine awp_scope ?_ | refine awp_seq ?_ | ((first | refine awp_label ?_ | refine awp_skip ?_ | refine awp_exit ?_ | refine awp_ret ?_); simp only [push_cast, reduceIte, reduceCtorEq, Nat.reduceEqDiff, Nat.reduceLT, Nat.reduceLeDiff, Nat.reduceAdd, Nat.reduceMul, Nat.reduceMod, Nat.reduceDiv, Nat.reduceSub, Int.reduceToNat])
    | (refine awp_cond _ rfl (fun h => ?_) (fun h => ?_) <;> simp only [bh, decide_eq_true_eq, decide_eq_false_iff_not, eq_self, not_true_eq_false, not_false_eq_true, reduceCtorEq, Bool.true_eq_false, Bool.false_eq_true, bne_self_eq_false, beq_self_eq_true] at h))
  all_goals first | omega | exact (fun hh => hh) | (simp only [List.length_take, List.length_drop, List.length_append, List.length_map, List.length_cons, List.length_nil, List.length_replicate, List.length_set]; omega) | (intro hh; (try simp only [hh, Bool.not_false, Bool.not_true, Bool.true_and, Bool.and_true, eq_self, true_and, and_true]); (try simp only [bh, decide_eq_true_eq, decide_eq_false_iff_not] at hh); (first | done | omega | (simp only [List.length_take, List.length_drop, List.length_append, List.length_map, List.length_cons, List.length_nil, List.length_replicate, List.length_set]; omega))) | (intro hh; simp only [hh, Bool.not_false, Bool.not_true, Bool.true_and, Bool.and_true, eq_self, true_and, and_true]; intro h2; simp only [h2, Bool.not_false, Bool.not_true]; done) | (exact rfl) | skip
  refine awp_loop (α := Nat) (fun k => ⟨[(0, avBs bs), (5, avBs bs), (6, I64 bs.length), (7, I64 k)], []⟩) (fun k => k ≤ bs.length ∧ ∀ i, i < k → (bs.getD i default).fu.ps.length ≤ 66) (fun k => bs.length - k) 0 ⟨Nat.zero_le _, fun i hi => by omega⟩ (G.wk ⟨rfl, rfl, rfl, rfl, trivial⟩ trivial) fun k hk => ?_
  by_cases hlt : k < bs.length
  · by_cases h : (bs.getD k default).fu.ps.length ≤ 66
    · have b1 : decide (66 < ((bs.getD k default).fu.ps.length : Int)) = false := decide_eq_false (by omega)
      repeat' (first
    | ((first | refine aopsx_cons (by rfl) fun K' hK' => ?_ | refine aops_cons (by rfl) fun K' hK' => ?_); simp only [push_cast, reduceIte, reduceCtorEq, Nat.reduceEqDiff, Nat.reduceLT, Nat.reduceLeDiff, Nat.reduceAdd, Nat.reduceMul, Nat.reduceMod, Nat.reduceDiv, Nat.reduceSub, Int.reduceToNat, b1]; (try simp (disch := omega) only [wrap64, Int.toNat_natCast]); (repeat refine and_rev ?_ ?_); (first | refine hK' _ ?_ | (refine ⟨.v (.int .i64 0), ?_⟩; refine hK' _ ?_)); clear hK' K')
    | (refine aopsx_skip (by rfl) (by rfl) (by simp only [dstOk, Nat.reduceLT]) ?_; simp only [St.put])
    | ((first | refine aopsx_nil ?_ | refine aops_nil ?_); first | (refine hKs _ ?_; clear hKs K) | (refine hKr _ ?_; clear hKr K; simp only [push_cast, reduceIte, reduceCtorEq, Nat.reduceEqDiff, Nat.reduceLT, Nat.reduceLeDiff, Nat.reduceAdd, Nat.reduceMul, Nat.reduceMod, Nat.reduceDiv, Nat.reduceSub, Int.reduceToNat]))
    | refine awp_xseq hT fun K hKs => ?_ | refine awp_x hT fun K hKr => ?_ | refine awp_dseq hT hm (by decide +kernel) fun K hKs => ?_ | refine awp_d hT hm (by decide +kernel) fun K hKr => ?_
    | refine awp_block ?_ | refine awp_scope ?_ | refine awp_seq ?_ | ((first | refine awp_label ?_ | refine awp_skip ?_ | refine awp_exit ?_ | refine awp_ret ?_); simp only [push_cast, reduceIte, reduceCtorEq, Nat.reduceEqDiff, Nat.reduceLT, Nat.reduceLeDiff, Nat.reduceAdd, Nat.reduceMul, Nat.reduceMod, Nat.reduceDiv, Nat.reduceSub, Int.reduceToNat])
    | (refine awp_cond _ rfl (fun h => ?_) (fun h => ?_) <;> simp only [bh, decide_eq_true_eq, decide_eq_false_iff_not, eq_self, not_true_eq_false, not_false_eq_true, reduceCtorEq, Bool.true_eq_false, Bool.false_eq_true, bne_self_eq_false, beq_self_eq_true] at h))
      all_goals first | omega | exact (fun hh => hh) | (simp only [List.length_take, List.length_drop, List.length_append, List.length_map, List.length_cons, List.length_nil, List.length_replicate, List.length_set]; omega) | (intro hh; (try simp only [hh, Bool.not_false, Bool.not_true, Bool.true_and, Bool.and_true, eq_self, true_and, and_true]); (try simp only [bh, decide_eq_true_eq, decide_eq_false_iff_not] at hh); (first | done | omega | (simp only [List.length_take, List.length_drop, List.length_append, List.length_map, List.length_cons, List.length_nil, List.length_replicate, List.length_set]; omega))) | (intro hh; simp only [hh, Bool.not_false, Bool.not_true, Bool.true_and, Bool.and_true, eq_self, true_and, and_true]; intro h2; simp only [h2, Bool.not_false, Bool.not_true]; done) | (exact rfl) | skip
      exact ⟨k + 1, ⟨⟨by omega, fun i hi => by
          rcases Nat.lt_or_ge i k with h | h
          · exact hk.2 i h
          · obtain rfl : i = k := by omega
            assumption⟩, by omega⟩, G.wk ⟨rfl, rfl, rfl, rfl, trivial⟩ trivial⟩
    · have b1 : decide (66 < ((bs.getD k default).fu.ps.length : Int)) = true := decide_eq_true (by omega)
      have : decide (ShortOk bs) = false := decide_eq_false fun hh => h (hh.1 k hlt)
      rw [this]
      repeat' (first
    | ((first | refine aopsx_cons (by rfl) fun K' hK' => ?_ | refine aops_cons (by rfl) fun K' hK' => ?_); simp only [push_cast, reduceIte, reduceCtorEq, Nat.reduceEqDiff, Nat.reduceLT, Nat.reduceLeDiff, Nat.reduceAdd, Nat.reduceMul, Nat.reduceMod, Nat.reduceDiv, Nat.reduceSub, Int.reduceToNat, b1]; (try simp (disch := omega) only [wrap64, Int.toNat_natCast]); (repeat refine and_rev ?_ ?_); (first | refine hK' _ ?_ | (refine ⟨.v (.int .i64 0), ?_⟩; refine hK' _ ?_)); clear hK' K')
    | (refine aopsx_skip (by rfl) (by rfl) (by simp only [dstOk, Nat.reduceLT]) ?_; simp only [St.put])
    | ((first | refine aopsx_nil ?_ | refine aops_nil ?_); first | (refine hKs _ ?_; clear hKs K) | (refine hKr _ ?_; clear hKr K; simp only [push_cast, reduceIte, reduceCtorEq, Nat.reduceEqDiff, Nat.reduceLT, Nat.reduceLeDiff, Nat.reduceAdd, Nat.reduceMul, Nat.reduceMod, Nat.reduceDiv, Nat.reduceSub, Int.reduceToNat]))
    | refine awp_xseq hT fun K hKs => ?_ | refine awp_x hT fun K hKr => ?_ | refine awp_dseq hT hm (by decide +kernel) fun K hKs => ?_ | refine awp_d hT hm (by decide +kernel) fun K hKr => ?_
    | refine awp_block ?_ | refine awp_scope ?_ | refine awp_seq ?_ | ((first | refine awp_label ?_ | refine awp_skip ?_ | refine awp_exit ?_ | refine awp_ret ?_); simp only [push_cast, reduceIte, reduceCtorEq, Nat.reduceEqDiff, Nat.reduceLT, Nat.reduceLeDiff, Nat.reduceAdd, Nat.reduceMul, Nat.reduceMod, Nat.reduceDiv, Nat.reduceSub, Int.reduceToNat])
    | (refine awp_cond _ rfl (fun h => ?_) (fun h => ?_) <;> simp only [bh, decide_eq_true_eq, decide_eq_false_iff_not, eq_self, not_true_eq_false, not_false_eq_true, reduceCtorEq, Bool.true_eq_false, Bool.false_eq_true, bne_self_eq_false, beq_self_eq_true] at h))
      all_goals first | omega | exact (fun hh => hh) | (simp only [List.length_take, List.length_drop, List.length_append, List.length_map, List.length_cons, List.length_nil, List.length_replicate, List.length_set]; omega) | (intro hh; (try simp only [hh, Bool.not_false, Bool.not_true, Bool.true_and, Bool.and_true, eq_self, true_and, and_true]); (try simp only [bh, decide_eq_true_eq, decide_eq_false_iff_not] at hh); (first | done | omega | (simp only [List.length_take, List.length_drop, List.length_append, List.length_map, List.length_cons, List.length_nil, List.length_replicate, List.length_set]; omega))) | (intro hh; simp only [hh, Bool.not_false, Bool.not_true, Bool.true_and, Bool.and_true, eq_self, true_and, and_true]; intro h2; simp only [h2, Bool.not_false, Bool.not_true]; done) | (exact rfl) | skip
  · have : decide (ShortOk bs) = decide ((bs.length : Int) ≤ 40) := by
      by_cases h : bs.length ≤ 40
      · rw [decide_eq_true (show ShortOk bs from ⟨fun i hi => hk.2 i (by omega), h⟩), decide_eq_true (by omega)]
      · rw [decide_eq_false (fun hh : ShortOk bs => h hh.2), decide_eq_false (by omega)]
    rw [this]
    repeat' (first
    | ((first | refine aopsx_cons (by rfl) fun K' hK' => ?_ | refine aops_cons (by rfl) fun K' hK' => ?_); simp only [push_cast, reduceIte, reduceCtorEq, Nat.reduceEqDiff, Nat.reduceLT, Nat.reduceLeDiff, Nat.reduceAdd, Nat.reduceMul, Nat.reduceMod, Nat.reduceDiv, Nat.reduceSub, Int.reduceToNat]; (try simp (disch := omega) only [wrap64, Int.toNat_natCast]); (repeat refine and_rev ?_ ?_); (first | refine hK' _ ?_ | (refine ⟨.v (.int .i64 0), ?_⟩; refine hK' _ ?_)); clear hK' K')
    | (refine aopsx_skip (by rfl) (by rfl) (by simp only [dstOk, Nat.reduceLT]) ?_; simp only [St.put])
    | ((first | refine aopsx_nil ?_ | refine aops_nil ?_); first | (refine hKs _ ?_; clear hKs K) | (refine hKr _ ?_; clear hKr K; simp only [push_cast, reduceIte, reduceCtorEq, Nat.reduceEqDiff, Nat.reduceLT, Nat.reduceLeDiff, Nat.reduceAdd, Nat.reduceMul, Nat.reduceMod, Nat.reduceDiv, Nat.reduceSub, Int.reduceToNat]))
    | refine awp_xseq hT fun K hKs => ?_ | refine awp_x hT fun K hKr => ?_ | refine awp_dseq hT hm (by decide +kernel) fun K hKs => ?_ | refine awp_d hT hm (by decide +kernel) fun K hKr => ?_
    | refine awp_block ?_ | refine awp_scope ?_ | refine awp_seq ?_ | ((first | refine awp_label ?_ | refine awp_skip ?_ | refine awp_exit ?_ | refine awp_ret ?_); simp only [push_cast, reduceIte, reduceCtorEq, Nat.reduceEqDiff, Nat.reduceLT, Nat.reduceLeDiff, Nat.reduceAdd, Nat.reduceMul, Nat.reduceMod, Nat.reduceDiv, Nat.reduceSub, Int.reduceToNat])
    | (refine awp_cond _ rfl (fun h => ?_) (fun h => ?_) <;> simp only [bh, decide_eq_true_eq, decide_eq_false_iff_not, eq_self, not_true_eq_false, not_false_eq_true, reduceCtorEq, Bool.true_eq_false, Bool.false_eq_true, bne_self_eq_false, beq_self_eq_true] at h))
    all_goals first | omega | exact (fun hh => hh) | (simp only [List.length_take, List.length_drop, List.length_append, List.length_map, List.length_cons, List.length_nil, List.length_replicate, List.length_set]; omega) | (intro hh; (try simp only [hh, Bool.not_false, Bool.not_true, Bool.true_and, Bool.and_true, eq_self, true_and, and_true]); (try simp only [bh, decide_eq_true_eq, decide_eq_false_iff_not] at hh); (first | done | omega | (simp only [List.length_take, List.length_drop, List.length_append, List.length_map, List.length_cons, List.length_nil, List.length_replicate, List.length_set]; omega))) | (intro hh; simp only [hh, Bool.not_false, Bool.not_true, Bool.true_and, Bool.and_true, eq_self, true_and, and_true]; intro h2; simp only [h2, Bool.not_false, Bool.not_true]; done) | (exact rfl) | skip
end Go.Proofs.Ytejafnamkalhiaa
