/- Part of a proof about the given program: contracts of its functions (see the comment of the last text). -/
import Derived.Test.YtflclkbkgcfliaaSfB
namespace Go.Proofs.Ytflclkbkgcfliaa
open Go.Eng Go.Proofs Go.Zo
set_option linter.unusedSimpArgs false
set_option linter.unusedVariables false
attribute [local irreducible] AOps AOpsX AOps2 AOpsS AWP AAnyS Go.Eng.Pure PureRow

def onF (l : List Po) (d : Int) : Int := (l.map fun p => if p.1 = d then p.2 else 0).sum
theorem onF_take_succ {l : List Po} {d : Int} {i : Nat} (h : i < l.length) : onF (l.take (i + 1)) d = onF (l.take i) d + (if (l.getD i default).1 = d then (l.getD i default).2 else 0) := by
  have e : l.getD i default = l[i] := by simp [List.getD_eq_getElem?_getD, h]
  unfold onF
  rw [← List.take_append_getElem h, List.map_append, List.sum_append, e]
  simp
theorem sum_filK (p : Int → Bool) (k : Int → Int) : ∀ (n : Nat) (a : Int), ((filN p a n).map k).sum = sumN (fun x => if p x then k x else 0) a n
  | 0, a => rfl
  | n + 1, a => by
    rw [filN, sumN, ← sum_filK p k n (a + 1)]
    split
    · rw [List.map_cons, List.sum_cons]
    · omega
theorem sumI_at {F : Int → Int} {lo hi d : Int} (h : ∀ t, lo ≤ t → t < hi → t ≠ d → F t = 0) : sumI F lo hi = if lo ≤ d ∧ d < hi then F d else 0 := by
  by_cases c : lo ≤ d ∧ d < hi
  · rw [if_pos c, sumI_split F c.1 (show d ≤ hi by omega), sumI_step F c.2, sumI_zero (a := lo) fun t k1 k2 => h t k1 (by omega) (by omega), sumI_zero (a := d + 1) fun t k1 k2 => h t (by omega) k2 (by omega)]
    omega
  · rw [if_neg c]; exact sumI_zero fun t k1 k2 => h t k1 k2 (fun e => c ⟨by omega, by omega⟩)
theorem port_on {z : Zn} (hv : validZ z = true) {a b : Int} (hab : a ≤ b) (d : Int) : onF (portF z a b) d = cnt z a b d := by
  unfold onF portF dayL filI
  rw [List.map_map, sum_filK]
  have e : sumI (fun x => if decide (0 < cnt z a b x) = true then (if x = d then cnt z a b x else 0) else 0) ((a - 840) / 1440) ((b + 840) / 1440 + 1) = cnt z a b d := by
    rw [sumI_at (d := d) fun t _ _ hne => by rw [if_neg hne]; split <;> rfl]
    have hn := cnt_nonneg z hab d
    have hm := @mem_dayL z hv a b d
    by_cases c : 0 < cnt z a b d
    · have := hm.2 c
      unfold dayL at this
      have := mem_filI.1 this
      rw [if_pos ⟨this.1, this.2.1⟩, if_pos (decide_eq_true c), if_pos rfl]
    · rw [show cnt z a b d = 0 by omega]
      split
      · rw [if_pos rfl]; split <;> rfl
      · rfl
  exact e
set_option maxHeartbeats 4000000 in
theorem sumc_ok (l : List Po) (hl : l.length ≤ 1000) (hb : ∀ i, i < l.length → 0 < (l.getD i default).2 ∧ (l.getD i default).2 ≤ 6000) : Pure Try.prog 48 [avPs l] (I64 (sumP l)) := by
  have hsb : ∀ i : Nat, i ≤ l.length → 0 ≤ sumP (l.take i) ∧ sumP (l.take i) ≤ 6000 * i := fun i => by
    induction i with
    | zero => intro _; simp [sumP]
    | succ i ih =>
      intro hi
      have := ih (by omega)
      have := hb i (by omega)
      rw [sumP_take_succ (by omega)]
      omega
  refine pure_of (n := 19) (res := [.tmp 2]) hT Try.func48 rfl rfl rfl Try.ntmps48 (Nat.le_of_ble_eq_true rfl) fun B w0 => ?_
  repeat' (first | ((first | refine aopss_cons hT (by rfl) fun K' hK' => ?_ | refine aops_cons (by rfl) fun K' hK' => ?_); simp only [push_cast, reduceIte, reduceCtorEq, Nat.reduceEqDiff, Nat.reduceLT, Nat.reduceLeDiff, Nat.reduceAdd, Nat.reduceMul, Nat.reduceMod, Nat.reduceDiv, Nat.reduceSub, Int.reduceToNat]; (try simp (disch := omega) only [wrap64, Int.toNat_natCast]); (repeat refine and_rev ?_ ?_); (first | refine hK' _ ?_ | (refine ⟨.v (.int .i64 0), ?_⟩; refine hK' _ ?_)); clear hK' K') | (refine aopss_skip hT (by rfl) (by rfl) (by simp only [dstOk, Nat.reduceLT]) ?_; simp only [St.put]) | ((first | refine aopss_nil ?_ | refine aops_nil ?_); refine hKs _ ?_; clear hKs K) | ((first | ((first | refine aopss_nil ?_ | refine aops_nil ?_); refine hKr _ ?_; clear hKr K) | refine awp_label ?_ | refine awp_skip ?_ | refine awp_exit ?_ | refine awp_ret ?_); simp only [push_cast, reduceIte, reduceCtorEq, Nat.reduceEqDiff, Nat.reduceLT, Nat.reduceLeDiff, Nat.reduceAdd, Nat.reduceMul, Nat.reduceMod, Nat.reduceDiv, Nat.reduceSub, Int.reduceToNat]) | refine awp_sseq fun K hKs => ?_ | refine awp_s fun K hKr => ?_ | refine awp_dseq hT hm (by decide +kernel) fun K hKs => ?_ | refine awp_d hT hm (by decide +kernel) fun K hKr => ?_ | refine awp_block ?_ | refine awp_scope ?_ | refine awp_seq ?_ | (refine awp_cond _ rfl (fun h => ?_) (fun h => ?_) <;> simp only [bh, decide_eq_true_eq, decide_eq_false_iff_not, eq_self, not_true_eq_false, not_false_eq_true, reduceCtorEq, Bool.true_eq_false, Bool.false_eq_true, bne_self_eq_false, beq_self_eq_true] at h))
  all_goals first | omega | exact (fun hh => hh) | (simp only [List.length_take, List.length_drop, List.length_append, List.length_map, List.length_cons, List.length_nil, List.length_replicate, List.length_set]; omega) | (intro hh; (try simp only [hh, Bool.not_false, Bool.not_true, Bool.true_and, Bool.and_true, eq_self, true_and, and_true]); (try simp only [bh, decide_eq_true_eq, decide_eq_false_iff_not] at hh); (first | done | omega | (simp only [List.length_take, List.length_drop, List.length_append, List.length_map, List.length_cons, List.length_nil, List.length_replicate, List.length_set]; omega) | (intro h2; simp only [h2, Bool.not_false, Bool.not_true]; done))) | exact rfl | skip
  refine awp_loop (α := Nat) (fun i => ⟨[(0, avPs l), (3, I64 (sumP (l.take i))), (4, I64 i)], []⟩) (fun i => i ≤ l.length) (fun i => l.length - i) 0 (Nat.zero_le _) (G.wk ⟨rfl, rfl, rfl, trivial⟩ trivial) fun i hi => ?_
  by_cases hlt : i < l.length
  · have bl : decide ((i : Int) < (l.length : Int)) = true := decide_eq_true (by omega)
    have hst := sumP_take_succ hlt
    have h1 := hsb i (by omega)
    have h2 := hb i hlt
    generalize sumP (l.take i) = S at *
    repeat' (first | ((first | refine aopss_cons hT (by rfl) fun K' hK' => ?_ | refine aops_cons (by rfl) fun K' hK' => ?_); simp only [push_cast, reduceIte, reduceCtorEq, Nat.reduceEqDiff, Nat.reduceLT, Nat.reduceLeDiff, Nat.reduceAdd, Nat.reduceMul, Nat.reduceMod, Nat.reduceDiv, Nat.reduceSub, Int.reduceToNat, bl]; (try simp (disch := omega) only [wrap64, Int.toNat_natCast]); (repeat refine and_rev ?_ ?_); (first | refine hK' _ ?_ | (refine ⟨.v (.int .i64 0), ?_⟩; refine hK' _ ?_)); clear hK' K') | (refine aopss_skip hT (by rfl) (by rfl) (by simp only [dstOk, Nat.reduceLT]) ?_; simp only [St.put]) | ((first | refine aopss_nil ?_ | refine aops_nil ?_); refine hKs _ ?_; clear hKs K) | ((first | ((first | refine aopss_nil ?_ | refine aops_nil ?_); refine hKr _ ?_; clear hKr K) | refine awp_label ?_ | refine awp_skip ?_ | refine awp_exit ?_ | refine awp_ret ?_); simp only [push_cast, reduceIte, reduceCtorEq, Nat.reduceEqDiff, Nat.reduceLT, Nat.reduceLeDiff, Nat.reduceAdd, Nat.reduceMul, Nat.reduceMod, Nat.reduceDiv, Nat.reduceSub, Int.reduceToNat]) | refine awp_sseq fun K hKs => ?_ | refine awp_s fun K hKr => ?_ | refine awp_dseq hT hm (by decide +kernel) fun K hKs => ?_ | refine awp_d hT hm (by decide +kernel) fun K hKr => ?_ | refine awp_block ?_ | refine awp_scope ?_ | refine awp_seq ?_ | (refine awp_cond _ rfl (fun h => ?_) (fun h => ?_) <;> simp only [bh, decide_eq_true_eq, decide_eq_false_iff_not, eq_self, not_true_eq_false, not_false_eq_true, reduceCtorEq, Bool.true_eq_false, Bool.false_eq_true, bne_self_eq_false, beq_self_eq_true] at h))
    all_goals first | omega | exact (fun hh => hh) | (simp only [List.length_take, List.length_drop, List.length_append, List.length_map, List.length_cons, List.length_nil, List.length_replicate, List.length_set]; omega) | (intro hh; (try simp only [hh, Bool.not_false, Bool.not_true, Bool.true_and, Bool.and_true, eq_self, true_and, and_true]); (try simp only [bh, decide_eq_true_eq, decide_eq_false_iff_not] at hh); (first | done | omega | (simp only [List.length_take, List.length_drop, List.length_append, List.length_map, List.length_cons, List.length_nil, List.length_replicate, List.length_set]; omega) | (intro h2; simp only [h2, Bool.not_false, Bool.not_true]; done))) | exact rfl | skip
    all_goals exact ⟨i + 1, ⟨by show i + 1 ≤ _; omega, by show _ - (i + 1) < _ - i; omega⟩, G.wk ⟨rfl, by rw [hst]; rfl, rfl, trivial⟩ trivial⟩
  · obtain rfl : i = l.length := by omega
    have bl : decide ((l.length : Int) < (l.length : Int)) = false := decide_eq_false (by omega)
    rw [List.take_length]
    repeat' (first | ((first | refine aopss_cons hT (by rfl) fun K' hK' => ?_ | refine aops_cons (by rfl) fun K' hK' => ?_); simp only [push_cast, reduceIte, reduceCtorEq, Nat.reduceEqDiff, Nat.reduceLT, Nat.reduceLeDiff, Nat.reduceAdd, Nat.reduceMul, Nat.reduceMod, Nat.reduceDiv, Nat.reduceSub, Int.reduceToNat, bl]; (try simp (disch := omega) only [wrap64, Int.toNat_natCast]); (repeat refine and_rev ?_ ?_); (first | refine hK' _ ?_ | (refine ⟨.v (.int .i64 0), ?_⟩; refine hK' _ ?_)); clear hK' K') | (refine aopss_skip hT (by rfl) (by rfl) (by simp only [dstOk, Nat.reduceLT]) ?_; simp only [St.put]) | ((first | refine aopss_nil ?_ | refine aops_nil ?_); refine hKs _ ?_; clear hKs K) | ((first | ((first | refine aopss_nil ?_ | refine aops_nil ?_); refine hKr _ ?_; clear hKr K) | refine awp_label ?_ | refine awp_skip ?_ | refine awp_exit ?_ | refine awp_ret ?_); simp only [push_cast, reduceIte, reduceCtorEq, Nat.reduceEqDiff, Nat.reduceLT, Nat.reduceLeDiff, Nat.reduceAdd, Nat.reduceMul, Nat.reduceMod, Nat.reduceDiv, Nat.reduceSub, Int.reduceToNat]) | refine awp_sseq fun K hKs => ?_ | refine awp_s fun K hKr => ?_ | refine awp_dseq hT hm (by decide +kernel) fun K hKs => ?_ | refine awp_d hT hm (by decide +kernel) fun K hKr => ?_ | refine awp_block ?_ | refine awp_scope ?_ | refine awp_seq ?_ | (refine awp_cond _ rfl (fun h => ?_) (fun h => ?_) <;> simp only [bh, decide_eq_true_eq, decide_eq_false_iff_not, eq_self, not_true_eq_false, not_false_eq_true, reduceCtorEq, Bool.true_eq_false, Bool.false_eq_true, bne_self_eq_false, beq_self_eq_true] at h))
    all_goals first | omega | exact (fun hh => hh) | (simp only [List.length_take, List.length_drop, List.length_append, List.length_map, List.length_cons, List.length_nil, List.length_replicate, List.length_set]; omega) | (intro hh; (try simp only [hh, Bool.not_false, Bool.not_true, Bool.true_and, Bool.and_true, eq_self, true_and, and_true]); (try simp only [bh, decide_eq_true_eq, decide_eq_false_iff_not] at hh); (first | done | omega | (simp only [List.length_take, List.length_drop, List.length_append, List.length_map, List.length_cons, List.length_nil, List.length_replicate, List.length_set]; omega) | (intro h2; simp only [h2, Bool.not_false, Bool.not_true]; done))) | exact rfl | skip
    all_goals done
set_option maxHeartbeats 4000000 in
theorem onc_ok (l : List Po) (d : Int) (hl : l.length ≤ 1000) (hb : ∀ i, i < l.length → 0 < (l.getD i default).2 ∧ (l.getD i default).2 ≤ 6000) : Pure Try.prog 50 [avPs l, I64 d] (I64 (onF l d)) := by
  have hsb : ∀ i : Nat, i ≤ l.length → 0 ≤ onF (l.take i) d ∧ onF (l.take i) d ≤ 6000 * i := fun i => by
    induction i with
    | zero => intro _; simp [onF]
    | succ i ih =>
      intro hi
      have := ih (by omega)
      have := hb i (by omega)
      rw [onF_take_succ (by omega)]
      split <;> omega
  refine pure_of (n := 28) (res := [.tmp 4]) hT Try.func50 rfl rfl rfl Try.ntmps50 (Nat.le_of_ble_eq_true rfl) fun B w0 => ?_
  repeat' (first | ((first | refine aopss_cons hT (by rfl) fun K' hK' => ?_ | refine aops_cons (by rfl) fun K' hK' => ?_); simp only [push_cast, reduceIte, reduceCtorEq, Nat.reduceEqDiff, Nat.reduceLT, Nat.reduceLeDiff, Nat.reduceAdd, Nat.reduceMul, Nat.reduceMod, Nat.reduceDiv, Nat.reduceSub, Int.reduceToNat]; (try simp (disch := omega) only [wrap64, Int.toNat_natCast]); (repeat refine and_rev ?_ ?_); (first | refine hK' _ ?_ | (refine ⟨.v (.int .i64 0), ?_⟩; refine hK' _ ?_)); clear hK' K') | (refine aopss_skip hT (by rfl) (by rfl) (by simp only [dstOk, Nat.reduceLT]) ?_; simp only [St.put]) | ((first | refine aopss_nil ?_ | refine aops_nil ?_); refine hKs _ ?_; clear hKs K) | ((first | ((first | refine aopss_nil ?_ | refine aops_nil ?_); refine hKr _ ?_; clear hKr K) | refine awp_label ?_ | refine awp_skip ?_ | refine awp_exit ?_ | refine awp_ret ?_); simp only [push_cast, reduceIte, reduceCtorEq, Nat.reduceEqDiff, Nat.reduceLT, Nat.reduceLeDiff, Nat.reduceAdd, Nat.reduceMul, Nat.reduceMod, Nat.reduceDiv, Nat.reduceSub, Int.reduceToNat]) | refine awp_sseq fun K hKs => ?_ | refine awp_s fun K hKr => ?_ | refine awp_dseq hT hm (by decide +kernel) fun K hKs => ?_ | refine awp_d hT hm (by decide +kernel) fun K hKr => ?_ | refine awp_block ?_ | refine awp_scope ?_ | refine awp_seq ?_ | (refine awp_cond _ rfl (fun h => ?_) (fun h => ?_) <;> simp only [bh, decide_eq_true_eq, decide_eq_false_iff_not, eq_self, not_true_eq_false, not_false_eq_true, reduceCtorEq, Bool.true_eq_false, Bool.false_eq_true, bne_self_eq_false, beq_self_eq_true] at h))
  all_goals first | omega | exact (fun hh => hh) | (simp only [List.length_take, List.length_drop, List.length_append, List.length_map, List.length_cons, List.length_nil, List.length_replicate, List.length_set]; omega) | (intro hh; (try simp only [hh, Bool.not_false, Bool.not_true, Bool.true_and, Bool.and_true, eq_self, true_and, and_true]); (try simp only [bh, decide_eq_true_eq, decide_eq_false_iff_not] at hh); (first | done | omega | (simp only [List.length_take, List.length_drop, List.length_append, List.length_map, List.length_cons, List.length_nil, List.length_replicate, List.length_set]; omega) | (intro h2; simp only [h2, Bool.not_false, Bool.not_true]; done))) | exact rfl | skip
  refine awp_loop (α := Nat) (fun i => ⟨[(0, avPs l), (1, I64 d), (5, I64 (onF (l.take i) d)), (6, I64 i)], []⟩) (fun i => i ≤ l.length) (fun i => l.length - i) 0 (Nat.zero_le _) (G.wk ⟨rfl, rfl, rfl, rfl, trivial⟩ trivial) fun i hi => ?_
  by_cases hlt : i < l.length
  · have bl : decide ((i : Int) < (l.length : Int)) = true := decide_eq_true (by omega)
    have hst := onF_take_succ (d := d) hlt
    have h1 := hsb i (by omega)
    have h2 := hb i hlt
    generalize onF (l.take i) d = S at *
    by_cases hd : (l.getD i default).1 = d
    · have b2 : ((l.getD i default).1 == d) = true := beq_iff_eq.2 hd
      rw [if_pos hd] at hst
      repeat' (first | ((first | refine aopss_cons hT (by rfl) fun K' hK' => ?_ | refine aops_cons (by rfl) fun K' hK' => ?_); simp only [push_cast, reduceIte, reduceCtorEq, Nat.reduceEqDiff, Nat.reduceLT, Nat.reduceLeDiff, Nat.reduceAdd, Nat.reduceMul, Nat.reduceMod, Nat.reduceDiv, Nat.reduceSub, Int.reduceToNat, bl, b2]; (try simp (disch := omega) only [wrap64, Int.toNat_natCast]); (repeat refine and_rev ?_ ?_); (first | refine hK' _ ?_ | (refine ⟨.v (.int .i64 0), ?_⟩; refine hK' _ ?_)); clear hK' K') | (refine aopss_skip hT (by rfl) (by rfl) (by simp only [dstOk, Nat.reduceLT]) ?_; simp only [St.put]) | ((first | refine aopss_nil ?_ | refine aops_nil ?_); refine hKs _ ?_; clear hKs K) | ((first | ((first | refine aopss_nil ?_ | refine aops_nil ?_); refine hKr _ ?_; clear hKr K) | refine awp_label ?_ | refine awp_skip ?_ | refine awp_exit ?_ | refine awp_ret ?_); simp only [push_cast, reduceIte, reduceCtorEq, Nat.reduceEqDiff, Nat.reduceLT, Nat.reduceLeDiff, Nat.reduceAdd, Nat.reduceMul, Nat.reduceMod, Nat.reduceDiv, Nat.reduceSub, Int.reduceToNat]) | refine awp_sseq fun K hKs => ?_ | refine awp_s fun K hKr => ?_ | refine awp_dseq hT hm (by decide +kernel) fun K hKs => ?_ | refine awp_d hT hm (by decide +kernel) fun K hKr => ?_ | refine awp_block ?_ | refine awp_scope ?_ | refine awp_seq ?_ | (refine awp_cond _ rfl (fun h => ?_) (fun h => ?_) <;> simp only [bh, decide_eq_true_eq, decide_eq_false_iff_not, eq_self, not_true_eq_false, not_false_eq_true, reduceCtorEq, Bool.true_eq_false, Bool.false_eq_true, bne_self_eq_false, beq_self_eq_true] at h))
      all_goals first | omega | exact (fun hh => hh) | (simp only [List.length_take, List.length_drop, List.length_append, List.length_map, List.length_cons, List.length_nil, List.length_replicate, List.length_set]; omega) | (intro hh; (try simp only [hh, Bool.not_false, Bool.not_true, Bool.true_and, Bool.and_true, eq_self, true_and, and_true]); (try simp only [bh, decide_eq_true_eq, decide_eq_false_iff_not] at hh); (first | done | omega | (simp only [List.length_take, List.length_drop, List.length_append, List.length_map, List.length_cons, List.length_nil, List.length_replicate, List.length_set]; omega) | (intro h2; simp only [h2, Bool.not_false, Bool.not_true]; done))) | exact rfl | skip
      all_goals exact ⟨i + 1, ⟨by show i + 1 ≤ _; omega, by show _ - (i + 1) < _ - i; omega⟩, G.wk ⟨rfl, rfl, by rw [hst]; rfl, rfl, trivial⟩ trivial⟩
    · have b2 : ((l.getD i default).1 == d) = false := beq_eq_false_iff_ne.2 hd
      rw [if_neg hd, Int.add_zero] at hst
      repeat' (first | ((first | refine aopss_cons hT (by rfl) fun K' hK' => ?_ | refine aops_cons (by rfl) fun K' hK' => ?_); simp only [push_cast, reduceIte, reduceCtorEq, Nat.reduceEqDiff, Nat.reduceLT, Nat.reduceLeDiff, Nat.reduceAdd, Nat.reduceMul, Nat.reduceMod, Nat.reduceDiv, Nat.reduceSub, Int.reduceToNat, bl, b2]; (try simp (disch := omega) only [wrap64, Int.toNat_natCast]); (repeat refine and_rev ?_ ?_); (first | refine hK' _ ?_ | (refine ⟨.v (.int .i64 0), ?_⟩; refine hK' _ ?_)); clear hK' K') | (refine aopss_skip hT (by rfl) (by rfl) (by simp only [dstOk, Nat.reduceLT]) ?_; simp only [St.put]) | ((first | refine aopss_nil ?_ | refine aops_nil ?_); refine hKs _ ?_; clear hKs K) | ((first | ((first | refine aopss_nil ?_ | refine aops_nil ?_); refine hKr _ ?_; clear hKr K) | refine awp_label ?_ | refine awp_skip ?_ | refine awp_exit ?_ | refine awp_ret ?_); simp only [push_cast, reduceIte, reduceCtorEq, Nat.reduceEqDiff, Nat.reduceLT, Nat.reduceLeDiff, Nat.reduceAdd, Nat.reduceMul, Nat.reduceMod, Nat.reduceDiv, Nat.reduceSub, Int.reduceToNat]) | refine awp_sseq fun K hKs => ?_ | refine awp_s fun K hKr => ?_ | refine awp_dseq hT hm (by decide +kernel) fun K hKs => ?_ | refine awp_d hT hm (by decide +kernel) fun K hKr => ?_ | refine awp_block ?_ | refine awp_scope ?_ | refine awp_seq ?_ | (refine awp_cond _ rfl (fun h => ?_) (fun h => ?_) <;> simp only [bh, decide_eq_true_eq, decide_eq_false_iff_not, eq_self, not_true_eq_false, not_false_eq_true, reduceCtorEq, Bool.true_eq_false, Bool.false_eq_true, bne_self_eq_false, beq_self_eq_true] at h))
      all_goals first | omega | exact (fun hh => hh) | (simp only [List.length_take, List.length_drop, List.length_append, List.length_map, List.length_cons, List.length_nil, List.length_replicate, List.length_set]; omega) | (intro hh; (try simp only [hh, Bool.not_false, Bool.not_true, Bool.true_and, Bool.and_true, eq_self, true_and, and_true]); (try simp only [bh, decide_eq_true_eq, decide_eq_false_iff_not] at hh); (first | done | omega | (simp only [List.length_take, List.length_drop, List.length_append, List.length_map, List.length_cons, List.length_nil, List.length_replicate, List.length_set]; omega) | (intro h2; simp only [h2, Bool.not_false, Bool.not_true]; done))) | exact rfl | skip
      all_goals exact ⟨i + 1, ⟨by show i + 1 ≤ _; omega, by show _ - (i + 1) < _ - i; omega⟩, G.wk ⟨rfl, rfl, by rw [hst]; rfl, rfl, trivial⟩ trivial⟩
  · obtain rfl : i = l.length := by omega
    have bl : decide ((l.length : Int) < (l.length : Int)) = false := decide_eq_false (by omega)
    rw [List.take_length]
    repeat' (first | ((first | refine aopss_cons hT (by rfl) fun K' hK' => ?_ | refine aops_cons (by rfl) fun K' hK' => ?_); simp only [push_cast, reduceIte, reduceCtorEq, Nat.reduceEqDiff, Nat.reduceLT, Nat.reduceLeDiff, Nat.reduceAdd, Nat.reduceMul, Nat.reduceMod, Nat.reduceDiv, Nat.reduceSub, Int.reduceToNat, bl]; (try simp (disch := omega) only [wrap64, Int.toNat_natCast]); (repeat refine and_rev ?_ ?_); (first | refine hK' _ ?_ | (refine ⟨.v (.int .i64 0), ?_⟩; refine hK' _ ?_)); clear hK' K') | (refine aopss_skip hT (by rfl) (by rfl) (by simp only [dstOk, Nat.reduceLT]) ?_; simp only [St.put]) | ((first | refine aopss_nil ?_ | refine aops_nil ?_); refine hKs _ ?_; clear hKs K) | ((first | ((first | refine aopss_nil ?_ | refine aops_nil ?_); refine hKr _ ?_; clear hKr K) | refine awp_label ?_ | refine awp_skip ?_ | refine awp_exit ?_ | refine awp_ret ?_); simp only [push_cast, reduceIte, reduceCtorEq, Nat.reduceEqDiff, Nat.reduceLT, Nat.reduceLeDiff, Nat.reduceAdd, Nat.reduceMul, Nat.reduceMod, Nat.reduceDiv, Nat.reduceSub, Int.reduceToNat]) | refine awp_sseq fun K hKs => ?_ | refine awp_s fun K hKr => ?_ | refine awp_dseq hT hm (by decide +kernel) fun K hKs => ?_ | refine awp_d hT hm (by decide +kernel) fun K hKr => ?_ | refine awp_block ?_ | refine awp_scope ?_ | refine awp_seq ?_ | (refine awp_cond _ rfl (fun h => ?_) (fun h => ?_) <;> simp only [bh, decide_eq_true_eq, decide_eq_false_iff_not, eq_self, not_true_eq_false, not_false_eq_true, reduceCtorEq, Bool.true_eq_false, Bool.false_eq_true, bne_self_eq_false, beq_self_eq_true] at h))
    all_goals first | omega | exact (fun hh => hh) | (simp only [List.length_take, List.length_drop, List.length_append, List.length_map, List.length_cons, List.length_nil, List.length_replicate, List.length_set]; omega) | (intro hh; (try simp only [hh, Bool.not_false, Bool.not_true, Bool.true_and, Bool.and_true, eq_self, true_and, and_true]); (try simp only [bh, decide_eq_true_eq, decide_eq_false_iff_not] at hh); (first | done | omega | (simp only [List.length_take, List.length_drop, List.length_append, List.length_map, List.length_cons, List.length_nil, List.length_replicate, List.length_set]; omega) | (intro h2; simp only [h2, Bool.not_false, Bool.not_true]; done))) | exact rfl | skip
    all_goals done
/-! The examples. -/
def exZ2 : Zn := ⟨⟨#[]⟩, 60, [⟨5000, 120⟩, ⟨20000, 60⟩]⟩
theorem u0 : validZ exZ2 = true := by decide +kernel
theorem okEx2 : okZ exZ2 := valid_okZ u0 (Nat.le_of_ble_eq_true rfl)
theorem u1 : minF exZ2 ⟨4200, 4800, 0⟩ = ([(2, 60), (3, 540)], 0) := by decide +kernel
theorem u2 : nigF exZ2 ⟨4200, 4800, 0⟩ 1380 360 = (420, 0) := by decide +kernel
theorem u3 : minF exZ2 ⟨20, 1500, 0⟩ = ([], 171) := by decide +kernel
theorem u4 : restF ⟨100, 400, 0⟩ ⟨1000, 1100, 0⟩ = 600 := by decide +kernel
theorem u5 : restF ⟨100, 400, 0⟩ ⟨400, 500, 0⟩ = 0 := by decide +kernel
theorem u6 : restF ⟨100, 400, 0⟩ ⟨399, 500, 0⟩ = -1 := by decide +kernel
theorem u7 : vD ⟨4200, 4800, 0⟩ = true := by decide +kernel
theorem u8 : vD ⟨5, 5, 0⟩ = false := by decide +kernel
abbrev exV (fr : Bool) : AV := .a [STR ⟨#[]⟩, I64 60, .i fr (fun e j => [I64 5000, I64 120, I64 20000, I64 60].getD (e * 2 + j) .top) 2 0 2]
theorem ex_sub (fr : Bool) : Sub (exV fr) (.a (avZ exZ2)) := by
  refine sub_a ⟨Sub.refl _, Sub.refl _, Sub.trans (sub_slice (fr := fr) (c' := fun e j => (avC (exZ2.cs.getD e default)).getD j .top) (off' := 0) (len' := 2) rfl (fun e j he hj => ?_)) sub_fresh, trivial⟩
  rcases (by omega : e = 0 ∨ e = 1) with rfl | rfl <;> rcases (by omega : j = 0 ∨ j = 1) with rfl | rfl <;> rfl
theorem smD (a b : Int) (h1 : 0 ≤ a ∧ a ≤ 10000) (h2 : 0 ≤ b ∧ b ≤ 10000) : okD ⟨a, b, 0⟩ := ⟨⟨by show _ ≤ a; omega, by show a ≤ _; omega⟩, ⟨by show _ ≤ b; omega, by show b ≤ _; omega⟩, ⟨by show (-9223372036854775808 : Int) ≤ 0; decide, by show (0 : Int) ≤ 9223372036854775807; decide⟩⟩
abbrev exQ : List Po := [(2, 60), (3, 540)]
theorem y9 : Pure Try.prog 30 [avPs exQ, .i false (fun e j => [I64 2, I64 60, I64 3, I64 540].getD (e * 2 + j) .top) 2 0 2] (BL true) := by
  have := same_ok exQ exQ (by decide) (by decide)
  rw [decide_eq_true rfl] at this
  refine this.sub ⟨Sub.refl _, sub_slice rfl (fun e j he hj => ?_), trivial⟩
  rcases (by omega : e = 0 ∨ e = 1) with rfl | rfl <;> rcases (by omega : j = 0 ∨ j = 1) with rfl | rfl <;> rfl
set_option maxRecDepth 20000 in
set_option maxHeartbeats 16000000 in
theorem shead_ok : Pure Try.prog 37 [] (BL true) := by
  have a1 := fun fr => (min_ok exZ2 ⟨4200, 4800, 0⟩ okEx2 (smD _ _ (by decide) (by decide))).sub (xs := [exV fr, .a [I64 4200, I64 4800, I64 0]]) ⟨ex_sub fr, Sub.refl _, trivial⟩
  have a2 := fun fr => (nig_ok exZ2 ⟨4200, 4800, 0⟩ 1380 360 okEx2 (smD _ _ (by decide) (by decide))).sub (xs := [exV fr, .a [I64 4200, I64 4800, I64 0], .a [I64 1380, I64 360]]) ⟨ex_sub fr, Sub.refl _, Sub.refl _, trivial⟩
  have a3 := fun fr => (min_ok exZ2 ⟨20, 1500, 0⟩ okEx2 (smD _ _ (by decide) (by decide))).sub (xs := [exV fr, .a [I64 20, I64 1500, I64 0]]) ⟨ex_sub fr, Sub.refl _, trivial⟩
  have a4 := rest_ok ⟨100, 400, 0⟩ ⟨1000, 1100, 0⟩ (smD _ _ (by decide) (by decide)) (smD _ _ (by decide) (by decide))
  have a5 := rest_ok ⟨100, 400, 0⟩ ⟨400, 500, 0⟩ (smD _ _ (by decide) (by decide)) (smD _ _ (by decide) (by decide))
  have a6 := rest_ok ⟨100, 400, 0⟩ ⟨399, 500, 0⟩ (smD _ _ (by decide) (by decide)) (smD _ _ (by decide) (by decide))
  have a7 := dvalid_ok ⟨4200, 4800, 0⟩ (smD _ _ (by decide) (by decide))
  have a8 := dvalid_ok ⟨5, 5, 0⟩ (smD _ _ (by decide) (by decide))
  have a9 := y9
  rw [u1] at a1
  rw [u2] at a2
  rw [u3] at a3
  rw [u4] at a4
  rw [u5] at a5
  rw [u6] at a6
  rw [u7] at a7
  rw [u8] at a8
  simp only [avSp, avW, avDu] at a1 a2 a3 a4 a5 a6 a7 a8
  refine pure_of (n := 86) (res := [.tmp 0]) hT Try.func37 rfl rfl rfl Try.ntmps37 (Nat.le_of_ble_eq_true rfl) fun B w0 => ?_
  repeat' (first | ((first | refine aopss_cons hT (by rfl) fun K' hK' => ?_ | refine aops_cons (by rfl) fun K' hK' => ?_); simp only [push_cast, reduceIte, reduceCtorEq, Nat.reduceEqDiff, Nat.reduceLT, Nat.reduceLeDiff, Nat.reduceAdd, Nat.reduceMul, Nat.reduceMod, Nat.reduceDiv, Nat.reduceSub, Int.reduceToNat]; (try simp (disch := omega) only [wrap64, Int.toNat_natCast]); (repeat refine and_rev ?_ ?_); (first | refine hK' _ ?_ | ((first | apply con1 | (apply con3; (intro hb; first | exact hb | exact ⟨hb, hb⟩ | exact ⟨hb, hb, hb⟩ | exact ⟨hb, hb, hb, hb⟩ | (simp only [hb, true_and, and_true, Bool.and_true, Bool.true_and]; done))) | apply con2); (try intro hb); (first | exact a1 true | exact a1 false | exact a2 true | exact a2 false | exact a3 true | exact a3 false | exact a4 | exact a5 | exact a6 | exact a7 | exact a8 | exact a9); (try intro hb); (first | exact .inr rfl | exact .inl (by simp [AV.fresh, AV.freshL])); (try simp only [push_cast, reduceIte, reduceCtorEq, Nat.reduceEqDiff, Nat.reduceLT, Nat.reduceLeDiff, Nat.reduceAdd, Nat.reduceMul, Nat.reduceMod, Nat.reduceDiv, Nat.reduceSub, Int.reduceToNat]); (try simp (disch := omega) only [wrap64, Int.toNat_natCast]); (repeat refine and_rev ?_ ?_); refine hK' _ ?_) | (refine ⟨.v (.int .i64 0), ?_⟩; refine hK' _ ?_)); clear hK' K') | (refine aopss_skip hT (by rfl) (by rfl) (by simp only [dstOk, Nat.reduceLT]) ?_; simp only [St.put]) | ((first | refine aopss_nil ?_ | refine aops_nil ?_); refine hKs _ ?_; clear hKs K) | ((first | ((first | refine aopss_nil ?_ | refine aops_nil ?_); refine hKr _ ?_; clear hKr K) | refine awp_label ?_ | refine awp_skip ?_ | refine awp_exit ?_ | refine awp_ret ?_); simp only [push_cast, reduceIte, reduceCtorEq, Nat.reduceEqDiff, Nat.reduceLT, Nat.reduceLeDiff, Nat.reduceAdd, Nat.reduceMul, Nat.reduceMod, Nat.reduceDiv, Nat.reduceSub, Int.reduceToNat]) | refine awp_sseq fun K hKs => ?_ | refine awp_s fun K hKr => ?_ | refine awp_dseq hT hm (by decide +kernel) fun K hKs => ?_ | refine awp_d hT hm (by decide +kernel) fun K hKr => ?_ | refine awp_block ?_ | refine awp_scope ?_ | refine awp_seq ?_ | (refine awp_cond _ rfl (fun h => ?_) (fun h => ?_) <;> simp only [bh, decide_eq_true_eq, decide_eq_false_iff_not, eq_self, not_true_eq_false, not_false_eq_true, reduceCtorEq, Bool.true_eq_false, Bool.false_eq_true, bne_self_eq_false, beq_self_eq_true] at h))
  all_goals first | omega | exact (fun hh => hh) | (simp only [List.length_take, List.length_drop, List.length_append, List.length_map, List.length_cons, List.length_nil, List.length_replicate, List.length_set]; omega) | (intro hh; (try simp only [hh, Bool.not_false, Bool.not_true, Bool.true_and, Bool.and_true, eq_self, true_and, and_true]); (try simp only [bh, decide_eq_true_eq, decide_eq_false_iff_not] at hh); (first | done | omega | (simp only [List.length_take, List.length_drop, List.length_append, List.length_map, List.length_cons, List.length_nil, List.length_replicate, List.length_set]; omega) | (intro h2; simp only [h2, Bool.not_false, Bool.not_true]; done))) | exact rfl | skip
  all_goals done
/-- What Split and Window say of the duty of numbers. -/
theorem all_in {z : Zn} {a b : Int} (h1 : 840 ≤ a) (h2 : b ≤ 52000000) : (dayL z a b).all inD = true := by
  rw [List.all_eq_true]
  intro x hx
  have := mem_filI.1 hx
  simp only [inD, bh, decide_eq_true_eq]
  omega
theorem min_good {z : Zn} (hv : validZ z = true) {d : Du} (hd : vD d = true) (h1 : 840 ≤ d.fr) (h2 : d.to_ ≤ 52000000) : minF z d = (portF z d.fr d.to_, 0) := by
  have h := of_decide_eq_true (show decide _ = true from hd)
  unfold minF
  rw [if_pos hd, splF_ok (chkF_mk hv (by omega) (by omega) (by omega)) (by omega) (all_in h1 h2)]
theorem nig_good {z : Zn} (hv : validZ z = true) {d : Du} (hd : vD d = true) {f g : Int} (hf : 0 ≤ f ∧ f ≤ 1440) (hg : 0 ≤ g ∧ g ≤ 1440) : nigF z d f g = (win z d.fr d.to_ f g, 0) := by
  have h := of_decide_eq_true (show decide _ = true from hd)
  unfold nigF
  rw [if_pos hd, winF_ok (chkF_mk hv (by omega) (by omega) (by omega)) ⟨⟨hf, hg.1⟩, hg.2⟩ (by omega)]
theorem win_none (z : Zn) (a b f : Int) : win z a b f f = 0 := by
  unfold win
  refine sumI_zero fun t _ _ => ?_
  unfold Zo.b1 inW
  rw [if_neg (show ¬ f < f by omega), if_neg]
  intro h
  rw [Bool.and_eq_true, decide_eq_true_eq, decide_eq_true_eq] at h
  omega
end Go.Proofs.Ytflclkbkgcfliaa
