/- Part of a proof about the given program: contracts of its functions (see the comment of the last text). -/
import Derived.Test.YtpgipgmmakhlfaaShG
namespace Go.Proofs.Ytpgipgmmakhlfaa
open Go.Eng Go.Proofs Go.Proofs.Share
set_option linter.unusedSimpArgs false

/-- amounts -/
def amtF (l : List Int) (limit : Int) : List Int := (l.take 64).map (pickF · (limit + 1))
theorem amt_step (l : List Int) (limit : Int) (k : Nat) (h : k < l.length) : (l.take k).map (pickF · (limit + 1)) ++ [pickF (l.getD k 0) (limit + 1)] = (l.take (k + 1)).map (pickF · (limit + 1)) := by
  rw [List.take_succ_eq_append_getElem h, List.map_append]
  simp [List.getD_eq_getElem?_getD, h]

theorem amounts_ok (l : List Int) (limit : Int) (hl : ∀ c ∈ l, In64 c) (h0 : 0 ≤ limit) (h1 : limit ≤ 1000000000001) : Pure Try.prog 9 [ints l, I64 limit] (intsF (amtF l limit)) := by
  refine pure_of (n := 28) (res := [.tmp 4]) hT Try.func9 rfl rfl rfl Try.ntmps9 (Nat.le_of_ble_eq_true rfl) fun B w0 => ?_
  repeat' (first
    | ((first | refine awp_rseq hT fun K hK => ?_ | refine awp_dseq hT hm (by kernel_rfl) fun K hK => ?_); simp only [push_cast, reduceIte, reduceCtorEq, Nat.reduceEqDiff, Nat.reduceLT, Nat.reduceLeDiff, Nat.reduceAdd, Nat.reduceMul, Nat.reduceMod, Nat.reduceDiv, Nat.reduceSub]; (try simp (disch := omega) only [wrap64, Int.toNat_natCast]); (repeat refine and_rev ?_ ?_); refine hK _ ?_; clear hK K)
    | ((first | refine awp_r hT fun K hK => ?_ | refine awp_d hT hm (by kernel_rfl) fun K hK => ?_); simp only [push_cast, reduceIte, reduceCtorEq, Nat.reduceEqDiff, Nat.reduceLT, Nat.reduceLeDiff, Nat.reduceAdd, Nat.reduceMul, Nat.reduceMod, Nat.reduceDiv, Nat.reduceSub]; (try simp (disch := omega) only [wrap64, Int.toNat_natCast]); (repeat refine and_rev ?_ ?_); refine hK _ ?_; clear hK K; simp only [Ex.then, Ex.inBlock, Ex.noGoto, EndsA, fin, resOf, retOf, lk, lkH, AV.cond, AV.strip, AV.pub, reduceIte, Nat.reduceEqDiff, true_and, and_true, List.map_cons, List.map_nil, Bool.and_false, Bool.and_true, I64, BL, ints, intsF])
    | refine awp_block ?_ | refine awp_scope ?_ | refine awp_seq ?_ | ((first | refine awp_label ?_ | refine awp_skip ?_ | refine awp_exit ?_ | refine awp_ret ?_); simp only [Ex.then, Ex.inBlock, Ex.noGoto, EndsA, fin, resOf, retOf, lk, lkH, AV.cond, AV.strip, AV.pub, reduceIte, Nat.reduceEqDiff, true_and, and_true, List.map_cons, List.map_nil, Bool.and_false, Bool.and_true, I64, BL, ints, intsF])
    | (refine awp_cond _ rfl (fun h => ?_) (fun h => ?_) <;> simp only [Bool.and_eq_true, Bool.or_eq_true, decide_eq_true_eq, Bool.and_eq_false_iff, Bool.or_eq_false_iff, decide_eq_false_iff_not, Int.not_lt, Int.not_le, beq_iff_eq, bne_iff_ne, beq_eq_false_iff_ne, ne_eq, Bool.not_eq_true', Bool.not_eq_false', bne_eq_false_iff_eq, eq_self, not_true_eq_false, not_false_eq_true, reduceCtorEq, Bool.true_eq_false, Bool.false_eq_true, bne_self_eq_false, beq_self_eq_true] at h))
  refine awp_loop (α := Nat) (fun k => ⟨[(0, ints l), (1, I64 limit), (5, .s 26), (6, I64 k)], [(26, .row 3 1 (.ints .i64 ((l.take k).map (pickF · (limit + 1)))))]⟩) (fun k => k ≤ l.length ∧ k ≤ 64) (fun k => 64 - k) 0 ⟨Nat.zero_le _, Nat.zero_le _⟩ (fun a w hG => by have h := G.nilRow hG 5 26 rfl (by decide) 3 1 (.ints .i64 []) rfl; exact G.weaken h ⟨rfl, rfl, rfl, rfl, trivial⟩ ⟨rfl, trivial⟩) fun k hk => ?_
  by_cases hlt : k < l.length ∧ k < 64
  · have hck := hl _ (mem_getD hlt.1)
    have hlen : ((l.take k).map (pickF · (limit + 1))).length = k := by simp; omega
    repeat' (first
    | ((first | refine awp_rseq hT fun K hK => ?_ | refine awp_dseq hT hm (by kernel_rfl) fun K hK => ?_); simp only [push_cast, reduceIte, reduceCtorEq, Nat.reduceEqDiff, Nat.reduceLT, Nat.reduceLeDiff, Nat.reduceAdd, Nat.reduceMul, Nat.reduceMod, Nat.reduceDiv, Nat.reduceSub]; (try simp (disch := omega) only [wrap64, Int.toNat_natCast]); (repeat refine and_rev ?_ ?_); refine hK _ ?_; clear hK K)
    | ((first | refine awp_r hT fun K hK => ?_ | refine awp_d hT hm (by kernel_rfl) fun K hK => ?_); simp only [push_cast, reduceIte, reduceCtorEq, Nat.reduceEqDiff, Nat.reduceLT, Nat.reduceLeDiff, Nat.reduceAdd, Nat.reduceMul, Nat.reduceMod, Nat.reduceDiv, Nat.reduceSub]; (try simp (disch := omega) only [wrap64, Int.toNat_natCast]); (repeat refine and_rev ?_ ?_); refine hK _ ?_; clear hK K; simp only [Ex.then, Ex.inBlock, Ex.noGoto, EndsA, fin, resOf, retOf, lk, lkH, AV.cond, AV.strip, AV.pub, reduceIte, Nat.reduceEqDiff, true_and, and_true, List.map_cons, List.map_nil, Bool.and_false, Bool.and_true, I64, BL, ints, intsF])
    | refine awp_block ?_ | refine awp_scope ?_ | refine awp_seq ?_ | ((first | refine awp_label ?_ | refine awp_skip ?_ | refine awp_exit ?_ | refine awp_ret ?_); simp only [Ex.then, Ex.inBlock, Ex.noGoto, EndsA, fin, resOf, retOf, lk, lkH, AV.cond, AV.strip, AV.pub, reduceIte, Nat.reduceEqDiff, true_and, and_true, List.map_cons, List.map_nil, Bool.and_false, Bool.and_true, I64, BL, ints, intsF])
    | (refine awp_cond _ rfl (fun h => ?_) (fun h => ?_) <;> simp only [Bool.and_eq_true, Bool.or_eq_true, decide_eq_true_eq, Bool.and_eq_false_iff, Bool.or_eq_false_iff, decide_eq_false_iff_not, Int.not_lt, Int.not_le, beq_iff_eq, bne_iff_ne, beq_eq_false_iff_ne, ne_eq, Bool.not_eq_true', Bool.not_eq_false', bne_eq_false_iff_eq, eq_self, not_true_eq_false, not_false_eq_true, reduceCtorEq, Bool.true_eq_false, Bool.false_eq_true, bne_self_eq_false, beq_self_eq_true] at h))
    all_goals first | omega | exact (fun hh => hh) | skip
    refine awp_r hT fun K hK => ?_; simp only [push_cast, reduceIte, reduceCtorEq, Nat.reduceEqDiff, Nat.reduceLT, Nat.reduceLeDiff, Nat.reduceAdd, Nat.reduceMul, Nat.reduceMod, Nat.reduceDiv, Nat.reduceSub]; (try simp (disch := omega) only [wrap64, Int.toNat_natCast])
    (repeat refine and_rev ?_ ?_)
    refine ⟨_, ⟨pick_ok (l.getD k 0) (limit + 1) hck (by omega) (by omega), by first | exact .inr rfl | exact .inl (by simp [AV.fresh, AV.freshL])⟩, ?_⟩; simp only [push_cast, reduceIte, reduceCtorEq, Nat.reduceEqDiff, Nat.reduceLT, Nat.reduceLeDiff, Nat.reduceAdd, Nat.reduceMul, Nat.reduceMod, Nat.reduceDiv, Nat.reduceSub]; (try simp (disch := omega) only [wrap64, Int.toNat_natCast])
    · refine ⟨[pickF (l.getD k 0) (limit + 1)], ⟨rfl, fun j hj => rfl, by rw [hlen]; omega, by rw [hlen]; omega⟩, ?_⟩
      rw [amt_step _ _ _ hlt.1]
      refine hK _ ?_
      clear hK K
      simp only [Ex.then, Ex.inBlock, Ex.noGoto, EndsA, fin, resOf, retOf, lk, lkH, AV.cond, AV.strip, AV.pub, reduceIte, Nat.reduceEqDiff, true_and, and_true, List.map_cons, List.map_nil, Bool.and_false, Bool.and_true, I64, BL, ints, intsF]
      repeat' (first
    | ((first | refine awp_rseq hT fun K hK => ?_ | refine awp_dseq hT hm (by kernel_rfl) fun K hK => ?_); simp only [push_cast, reduceIte, reduceCtorEq, Nat.reduceEqDiff, Nat.reduceLT, Nat.reduceLeDiff, Nat.reduceAdd, Nat.reduceMul, Nat.reduceMod, Nat.reduceDiv, Nat.reduceSub]; (try simp (disch := omega) only [wrap64, Int.toNat_natCast]); (repeat refine and_rev ?_ ?_); refine hK _ ?_; clear hK K)
    | ((first | refine awp_r hT fun K hK => ?_ | refine awp_d hT hm (by kernel_rfl) fun K hK => ?_); simp only [push_cast, reduceIte, reduceCtorEq, Nat.reduceEqDiff, Nat.reduceLT, Nat.reduceLeDiff, Nat.reduceAdd, Nat.reduceMul, Nat.reduceMod, Nat.reduceDiv, Nat.reduceSub]; (try simp (disch := omega) only [wrap64, Int.toNat_natCast]); (repeat refine and_rev ?_ ?_); refine hK _ ?_; clear hK K; simp only [Ex.then, Ex.inBlock, Ex.noGoto, EndsA, fin, resOf, retOf, lk, lkH, AV.cond, AV.strip, AV.pub, reduceIte, Nat.reduceEqDiff, true_and, and_true, List.map_cons, List.map_nil, Bool.and_false, Bool.and_true, I64, BL, ints, intsF])
    | refine awp_block ?_ | refine awp_scope ?_ | refine awp_seq ?_ | ((first | refine awp_label ?_ | refine awp_skip ?_ | refine awp_exit ?_ | refine awp_ret ?_); simp only [Ex.then, Ex.inBlock, Ex.noGoto, EndsA, fin, resOf, retOf, lk, lkH, AV.cond, AV.strip, AV.pub, reduceIte, Nat.reduceEqDiff, true_and, and_true, List.map_cons, List.map_nil, Bool.and_false, Bool.and_true, I64, BL, ints, intsF])
    | (refine awp_cond _ rfl (fun h => ?_) (fun h => ?_) <;> simp only [Bool.and_eq_true, Bool.or_eq_true, decide_eq_true_eq, Bool.and_eq_false_iff, Bool.or_eq_false_iff, decide_eq_false_iff_not, Int.not_lt, Int.not_le, beq_iff_eq, bne_iff_ne, beq_eq_false_iff_ne, ne_eq, Bool.not_eq_true', Bool.not_eq_false', bne_eq_false_iff_eq, eq_self, not_true_eq_false, not_false_eq_true, reduceCtorEq, Bool.true_eq_false, Bool.false_eq_true, bne_self_eq_false, beq_self_eq_true] at h))
      all_goals first | omega | exact (fun hh => hh) | skip
      exact ⟨k + 1, ⟨⟨by omega, by omega⟩, by omega⟩, G.wk ⟨rfl, rfl, rfl, rfl, trivial⟩ ⟨rfl, trivial⟩⟩
    · omega
  · have hfin : (l.take k).map (pickF · (limit + 1)) = amtF l limit := by
      unfold amtF
      congr 1
      by_cases h64 : k = 64
      · rw [h64]
      · rw [List.take_of_length_le (by omega), List.take_of_length_le (by omega)]
    simp only [hfin]
    repeat' (first
    | ((first | refine awp_rseq hT fun K hK => ?_ | refine awp_dseq hT hm (by kernel_rfl) fun K hK => ?_); simp only [push_cast, reduceIte, reduceCtorEq, Nat.reduceEqDiff, Nat.reduceLT, Nat.reduceLeDiff, Nat.reduceAdd, Nat.reduceMul, Nat.reduceMod, Nat.reduceDiv, Nat.reduceSub]; (try simp (disch := omega) only [wrap64, Int.toNat_natCast]); (repeat refine and_rev ?_ ?_); refine hK _ ?_; clear hK K)
    | ((first | refine awp_r hT fun K hK => ?_ | refine awp_d hT hm (by kernel_rfl) fun K hK => ?_); simp only [push_cast, reduceIte, reduceCtorEq, Nat.reduceEqDiff, Nat.reduceLT, Nat.reduceLeDiff, Nat.reduceAdd, Nat.reduceMul, Nat.reduceMod, Nat.reduceDiv, Nat.reduceSub]; (try simp (disch := omega) only [wrap64, Int.toNat_natCast]); (repeat refine and_rev ?_ ?_); refine hK _ ?_; clear hK K; simp only [Ex.then, Ex.inBlock, Ex.noGoto, EndsA, fin, resOf, retOf, lk, lkH, AV.cond, AV.strip, AV.pub, reduceIte, Nat.reduceEqDiff, true_and, and_true, List.map_cons, List.map_nil, Bool.and_false, Bool.and_true, I64, BL, ints, intsF])
    | refine awp_block ?_ | refine awp_scope ?_ | refine awp_seq ?_ | ((first | refine awp_label ?_ | refine awp_skip ?_ | refine awp_exit ?_ | refine awp_ret ?_); simp only [Ex.then, Ex.inBlock, Ex.noGoto, EndsA, fin, resOf, retOf, lk, lkH, AV.cond, AV.strip, AV.pub, reduceIte, Nat.reduceEqDiff, true_and, and_true, List.map_cons, List.map_nil, Bool.and_false, Bool.and_true, I64, BL, ints, intsF])
    | (refine awp_cond _ rfl (fun h => ?_) (fun h => ?_) <;> simp only [Bool.and_eq_true, Bool.or_eq_true, decide_eq_true_eq, Bool.and_eq_false_iff, Bool.or_eq_false_iff, decide_eq_false_iff_not, Int.not_lt, Int.not_le, beq_iff_eq, bne_iff_ne, beq_eq_false_iff_ne, ne_eq, Bool.not_eq_true', Bool.not_eq_false', bne_eq_false_iff_eq, eq_self, not_true_eq_false, not_false_eq_true, reduceCtorEq, Bool.true_eq_false, Bool.false_eq_true, bne_self_eq_false, beq_self_eq_true] at h))
    all_goals first | omega | exact (fun hh => hh) | skip

theorem sumTo_eq (l : List Int) : ∀ k, k ≤ l.length → sumTo l k = sumL (l.take k)
  | 0, _ => by simp [sumTo, sumL]
  | k + 1, h => by
    rw [sumTo, sumTo_eq l k (by omega), List.take_succ_eq_append_getElem (by omega), sumL_append]
    simp [sumL, List.getD_eq_getElem?_getD, show k < l.length by omega]
theorem sumL_bound (l : List Int) (m : Int) (h : ∀ c ∈ l, 0 ≤ c ∧ c ≤ m) : 0 ≤ sumL l ∧ sumL l ≤ m * l.length := by
  induction l with
  | nil => simp [sumL]
  | cons c l ih =>
    have h1 := h c (by simp)
    have := ih (fun x hx => h x (by simp [hx]))
    have e : m * ((l.length + 1 : Nat) : Int) = m * (l.length : Int) + m := by rw [Int.natCast_add, Int.mul_add]; simp
    simp only [sumL, List.length_cons]
    omega
theorem sumL_bound64 (l : List Int) (hl : l.length ≤ 64) (h : ∀ c ∈ l, 0 ≤ c ∧ c ≤ 1000000000000) : 0 ≤ sumL l ∧ sumL l ≤ 64000000000000 := by
  have h1 := sumL_bound l _ h
  have h2 : (1000000000000 : Int) * (l.length : Int) ≤ 1000000000000 * 64 := Int.mul_le_mul_of_nonneg_left (by omega) (by omega)
  omega
theorem sumL_ok (l : List Int) (hl : l.length ≤ 64) (h : ∀ c ∈ l, 0 ≤ c ∧ c ≤ 1000000000000) : Pure Try.prog 11 [ints l] (I64 (sumL l)) := by
  refine (sum_ok l (by omega) (fun k hk => ?_)).eq (congrArg I64 (by rw [sumTo_eq l _ (Nat.le_refl _), List.take_length]))
  have := sumL_bound64 (l.take k) (by simp; omega) (fun c hc => h c (List.mem_of_mem_take hc))
  rw [sumTo_eq l k hk]; unfold In64; omega
theorem pickF_range (c n : Int) (hn : 0 < n) : 0 ≤ pickF c n ∧ pickF c n < n := ⟨Int.emod_nonneg _ (by omega), Int.emod_lt_of_pos _ hn⟩
theorem amtF_range (l : List Int) (limit : Int) (h0 : 0 ≤ limit) : (amtF l limit).length ≤ 64 ∧ ∀ c ∈ amtF l limit, 0 ≤ c ∧ c ≤ limit := by
  refine ⟨by simp [amtF]; omega, fun c hc => ?_⟩
  obtain ⟨x, _, rfl⟩ := List.mem_map.1 hc
  have := pickF_range x (limit + 1) (by omega)
  omega
theorem errF_ok {t : Int} {l : List Int} (hl : l.length ≤ 64) (h : ∀ c ∈ l, 0 ≤ c ∧ c ≤ 1000000000000) (h0 : 0 ≤ t) (h1 : t ≤ 1000000000000) : errF t l = 0 := by
  unfold errF
  rw [if_neg (by omega), if_neg (by omega), if_neg (by rintro ⟨c, hc, hh⟩; have := h c hc; omega), if_neg (by omega), if_neg (by rintro ⟨c, hc, hh⟩; have := h c hc; omega)]

theorem df_of {t : Int} {l p : List Int} (h1 : p.length = l.length) (h2 : ∀ i, i < l.length → 0 ≤ p.getD i 0) (h3 : ∀ i, i < l.length → p.getD i 0 ≤ l.getD i 0) (h4 : sumL p = min t (sumL l))
    (h5 : ∀ i, i < l.length → ∀ k, k < l.length → p.getD k 0 < l.getD k 0 → p.getD i 0 ≤ p.getD k 0 ∨ (p.getD i 0 = p.getD k 0 + 1 ∧ i < k)) : DF t l p := ⟨h1, h2, h3, h4, fun i k hi hk => h5 i hi k hk⟩
theorem df1 : DF 10 [3, 9, 4] [3, 4, 3] := df_of rfl (by decide) (by decide) (by decide) (by decide)
theorem df2 : DF 10 [2, 9, 9] [2, 4, 4] := df_of rfl (by decide) (by decide) (by decide) (by decide)
theorem df3 : DF 2 [5, 5, 5] [1, 1, 0] := df_of rfl (by decide) (by decide) (by decide) (by decide)
theorem df4 : DF 100 [5, 7] [5, 7] := df_of rfl (by decide) (by decide) (by decide) (by decide)
theorem same_true (a : List Int) (h : a.length ≤ 1000000) : Pure Try.prog 14 [ints a, ints a] (BL true) := (same_ok a a h h).eq (congrArg BL (by simp))

end Go.Proofs.Ytpgipgmmakhlfaa
