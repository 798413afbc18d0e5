/- Part of a proof about the given program: contracts of its functions (see the comment of the last text). -/
import Derived.Test.YtjilboaofggppaaLeQ
namespace Go.Proofs.Ytjilboaofggppaa
open Go.Eng Go.Proofs
set_option linter.unusedSimpArgs false
set_option linter.unusedVariables false
attribute [local irreducible] AOps AOpsX AOps2 AOpsS AWP AAnyS

/-- What an entry adds between two days. -/
def dif (acc : ByteArray) (day a b : Int) (e : En) : Int := con acc day b e - con acc day a e
def difS (acc : ByteArray) (day a b : Int) (l : List En) : Int := (l.map (dif acc day a b)).sum
theorem difS_eq (acc : ByteArray) (day a b : Int) (l : List En) : difS acc day a b l = balS acc day b l - balS acc day a l := by
  unfold difS balS
  induction l with
  | nil => rfl
  | cons e r ih => simp only [List.map_cons, List.sum_cons, ih, dif]; omega
theorem difS_succ (acc : ByteArray) (day a b : Int) {l : List En} {i : Nat} (hi : i < l.length) : difS acc day a b (l.take (i + 1)) = difS acc day a b (l.take i) + dif acc day a b (nth l i) := by
  rw [difS_eq, difS_eq, balS_succ _ _ _ hi, balS_succ _ _ _ hi]; unfold dif; omega
theorem dif_no {acc : ByteArray} {day a b : Int} (hab : a ≤ b) {e : En} (h : (e.bk ≤ a ∨ b < e.bk) ∨ day < e.dy) : dif acc day a b e = 0 := by
  unfold dif
  by_cases h1 : e.dy ≤ day
  · by_cases h2 : e.bk ≤ a
    · rw [con_yes ⟨h1, h2⟩, con_yes ⟨h1, by omega⟩]; omega
    · rw [con_no (bk := b) (by omega), con_no (bk := a) (by omega)]; rfl
  · rw [con_no (bk := b) (by omega), con_no (bk := a) (by omega)]; rfl
theorem dif_yes {acc : ByteArray} {day a b : Int} {e : En} (h : (a < e.bk ∧ e.bk ≤ b) ∧ e.dy ≤ day) : dif acc day a b e = (if e.db = acc then e.ct else 0) - (if e.cr = acc then e.ct else 0) := by
  unfold dif
  rw [con_yes ⟨h.2, h.1.2⟩, con_no (bk := a) (by omega)]; omega
set_option maxHeartbeats 16000000 in
theorem ldif_ok (l : List En) (acc : ByteArray) (day a b : Int) (hl : okL l) (ha : acc.size ≤ 9223372036854775807) (hd : In64 day) (h1 : In64 a) (h2 : In64 b) : Pure Try.prog 9 [.a (avL l), STR acc, I64 day, I64 a, I64 b] (BL true) := by
  have hh := head_ok
  have hv := valid_ok l hl
  refine pure_of (n := 91) (res := [.tmp 10]) hT Try.func9 rfl rfl rfl Try.ntmps9 (Nat.le_of_ble_eq_true rfl) fun B w0 => ?_
  by_cases hc : (l.length ≤ 300 ∧ validB l = true) ∧ a ≤ b
  · obtain ⟨⟨h300, v1⟩, hab⟩ := hc
    rw [v1] at hv
    obtain ⟨h20, hat⟩ := validB_spec v1
    have b0 : decide ((300 : Int) < (l.length : Int)) = false := decide_eq_false (by omega)
    have b1 : decide (b < a) = false := decide_eq_false (by omega)
    have r1 := bal_ok l acc day b hl
    have r2 := bal_ok l acc day a hl
    have hx1 := balF_bounds l acc day b
    have hx2 := balF_bounds l acc day a
    have hfin : balF l acc day b - balF l acc day a = difS acc day a b l := by rw [difS_eq]; unfold balF; rw [if_pos v1, if_pos v1]
    repeat' (first
    | ((first | refine aopss_cons hT (by rfl) fun K' hK' => ?_ | refine aops_cons (by rfl) fun K' hK' => ?_); simp only [push_cast, reduceIte, reduceCtorEq, Nat.reduceEqDiff, Nat.reduceLT, Nat.reduceLeDiff, Nat.reduceAdd, Nat.reduceMul, Nat.reduceMod, Nat.reduceDiv, Nat.reduceSub, Int.reduceToNat, b0, b1]; (try simp (disch := omega) only [wrap64, Int.toNat_natCast]); (repeat refine and_rev ?_ ?_); (first | refine hK' _ ?_ | ((first | refine ⟨_, ⟨(by first | exact hh | exact hv), (by first | exact .inr rfl | exact .inl (by simp [AV.fresh, AV.freshL]))⟩, ?_⟩ | refine ⟨_, fun hb => ⟨(by first | exact hh | exact hv), (by first | exact .inr rfl | exact .inl (by simp [AV.fresh, AV.freshL]))⟩, ?_⟩ | refine ⟨_, fun hb => ⟨(by first | exact hb | exact ⟨hb, hb⟩ | exact ⟨hb, hb, hb⟩ | exact ⟨hb, hb, hb, hb⟩ | (simp only [hb, true_and, and_true, Bool.and_true, Bool.true_and]; done)), (by first | exact hh | exact hv), (by first | exact .inr rfl | exact .inl (by simp [AV.fresh, AV.freshL]))⟩, ?_⟩); (try simp only [push_cast, reduceIte, reduceCtorEq, Nat.reduceEqDiff, Nat.reduceLT, Nat.reduceLeDiff, Nat.reduceAdd, Nat.reduceMul, Nat.reduceMod, Nat.reduceDiv, Nat.reduceSub, Int.reduceToNat, b0, b1]); (try simp (disch := omega) only [wrap64, Int.toNat_natCast]); (repeat refine and_rev ?_ ?_); refine hK' _ ?_) | (refine ⟨.v (.int .i64 0), ?_⟩; refine hK' _ ?_)); clear hK' K')
    | (refine aopss_upd hT rfl fun K' hK' => ?_; simp only [push_cast, reduceIte, reduceCtorEq, Nat.reduceEqDiff, Nat.reduceLT, Nat.reduceLeDiff, Nat.reduceAdd, Nat.reduceMul, Nat.reduceMod, Nat.reduceDiv, Nat.reduceSub, Int.reduceToNat, b0, b1]; (try simp (disch := omega) only [wrap64, Int.toNat_natCast]); (repeat refine and_rev ?_ ?_); refine hK' _ ?_; clear hK' K')
    | (refine aopss_map T rfl (by simp only [dstOk, Nat.reduceLT]) fun K' hK' => ?_; simp only [push_cast, reduceIte, reduceCtorEq, Nat.reduceEqDiff, Nat.reduceLT, Nat.reduceLeDiff, Nat.reduceAdd, Nat.reduceMul, Nat.reduceMod, Nat.reduceDiv, Nat.reduceSub, Int.reduceToNat, b0, b1]; refine hK' _ ?_; clear hK' K')
    | (refine aopss_skip hT (by rfl) (by rfl) (by simp only [dstOk, Nat.reduceLT]) ?_; simp only [St.put])
    | ((first | refine aopss_nil ?_ | refine aops_nil ?_); first | (refine hKs _ ?_; clear hKs K) | (refine hKr _ ?_; clear hKr K; simp only [push_cast, reduceIte, reduceCtorEq, Nat.reduceEqDiff, Nat.reduceLT, Nat.reduceLeDiff, Nat.reduceAdd, Nat.reduceMul, Nat.reduceMod, Nat.reduceDiv, Nat.reduceSub, Int.reduceToNat]))
    | refine awp_sseq fun K hKs => ?_ | refine awp_s fun K hKr => ?_ | refine awp_dseq hT hm (by decide +kernel) fun K hKs => ?_ | refine awp_d hT hm (by decide +kernel) fun K hKr => ?_
    | refine awp_block ?_ | refine awp_scope ?_ | refine awp_seq ?_ | ((first | refine awp_label ?_ | refine awp_skip ?_ | refine awp_exit ?_ | refine awp_ret ?_); simp only [push_cast, reduceIte, reduceCtorEq, Nat.reduceEqDiff, Nat.reduceLT, Nat.reduceLeDiff, Nat.reduceAdd, Nat.reduceMul, Nat.reduceMod, Nat.reduceDiv, Nat.reduceSub, Int.reduceToNat])
    | (refine awp_cond _ rfl (fun h => ?_) (fun h => ?_) <;> simp only [bh, decide_eq_true_eq, decide_eq_false_iff_not, eq_self, not_true_eq_false, not_false_eq_true, reduceCtorEq, Bool.true_eq_false, Bool.false_eq_true, bne_self_eq_false, beq_self_eq_true] at h))
    all_goals first | omega | exact (fun hh => hh) | (simp only [List.length_take, List.length_drop, List.length_append, List.length_map, List.length_cons, List.length_nil, List.length_replicate, List.length_set]; omega) | (intro hh; (try simp only [hh, Bool.not_false, Bool.not_true, Bool.true_and, Bool.and_true, eq_self, true_and, and_true]); (try simp only [bh, decide_eq_true_eq, decide_eq_false_iff_not] at hh); (first | done | omega | (simp only [List.length_take, List.length_drop, List.length_append, List.length_map, List.length_cons, List.length_nil, List.length_replicate, List.length_set]; omega))) | (intro hh; simp only [hh, Bool.not_false, Bool.not_true, Bool.true_and, Bool.and_true, eq_self, true_and, and_true]; intro h2; simp only [h2, Bool.not_false, Bool.not_true]; done) | (exact rfl) | skip
    refine awp_loop (α := Nat) (fun i => ⟨[(1, STR acc), (2, I64 day), (3, I64 a), (4, I64 b), (5, .p 5 0), (11, BL true), (12, I64 (difS acc day a b (l.take i))), (13, I64 i)], [(5, .box 24 (.avs [avEs l]))]⟩) (fun i => i ≤ l.length) (fun i => l.length - i) 0 (Nat.zero_le _) (G.wk ⟨rfl, rfl, rfl, rfl, rfl, rfl, rfl, rfl, trivial⟩ ⟨rfl, trivial⟩) fun i hi => ?_
    by_cases hlt : i < l.length
    · have bl : decide ((i : Int) < (l.length : Int)) = true := decide_eq_true (by omega)
      obtain ⟨w1, w2, w3, _, _⟩ := wf_facts (okAt_wf (hat i hlt))
      have s1 := balS_bounds acc day a hat i hi
      have s2 := balS_bounds acc day b hat i hi
      have s3 := difS_eq acc day a b (l.take i)
      have hs := difS_succ acc day a b hlt
      have s4 : -2000000000000000000 ≤ difS acc day a b (l.take i) ∧ difS acc day a b (l.take i) ≤ 2000000000000000000 := by omega
      clear s1 s2 s3
      generalize hS : difS acc day a b (l.take i) = S at *
      have hn : nth l i = l.getD i default := rfl
      rw [hn] at hs w1 w2 w3
      clear hx1 hx2 hfin r1 r2
      repeat' (first
    | ((first | refine aopss_cons hT (by rfl) fun K' hK' => ?_ | refine aops_cons (by rfl) fun K' hK' => ?_); simp only [push_cast, reduceIte, reduceCtorEq, Nat.reduceEqDiff, Nat.reduceLT, Nat.reduceLeDiff, Nat.reduceAdd, Nat.reduceMul, Nat.reduceMod, Nat.reduceDiv, Nat.reduceSub, Int.reduceToNat, bl]; (try simp (disch := omega) only [wrap64, Int.toNat_natCast]); (repeat refine and_rev ?_ ?_); (first | refine hK' _ ?_ | (refine ⟨.v (.int .i64 0), ?_⟩; refine hK' _ ?_)); clear hK' K')
    | (refine aopss_upd hT rfl fun K' hK' => ?_; simp only [push_cast, reduceIte, reduceCtorEq, Nat.reduceEqDiff, Nat.reduceLT, Nat.reduceLeDiff, Nat.reduceAdd, Nat.reduceMul, Nat.reduceMod, Nat.reduceDiv, Nat.reduceSub, Int.reduceToNat, bl]; (try simp (disch := omega) only [wrap64, Int.toNat_natCast]); (repeat refine and_rev ?_ ?_); refine hK' _ ?_; clear hK' K')
    | (refine aopss_map T rfl (by simp only [dstOk, Nat.reduceLT]) fun K' hK' => ?_; simp only [push_cast, reduceIte, reduceCtorEq, Nat.reduceEqDiff, Nat.reduceLT, Nat.reduceLeDiff, Nat.reduceAdd, Nat.reduceMul, Nat.reduceMod, Nat.reduceDiv, Nat.reduceSub, Int.reduceToNat, bl]; refine hK' _ ?_; clear hK' K')
    | (refine aopss_skip hT (by rfl) (by rfl) (by simp only [dstOk, Nat.reduceLT]) ?_; simp only [St.put])
    | ((first | refine aopss_nil ?_ | refine aops_nil ?_); first | (refine hKs _ ?_; clear hKs K) | (refine hKr _ ?_; clear hKr K; simp only [push_cast, reduceIte, reduceCtorEq, Nat.reduceEqDiff, Nat.reduceLT, Nat.reduceLeDiff, Nat.reduceAdd, Nat.reduceMul, Nat.reduceMod, Nat.reduceDiv, Nat.reduceSub, Int.reduceToNat]))
    | refine awp_sseq fun K hKs => ?_ | refine awp_s fun K hKr => ?_ | refine awp_dseq hT hm (by decide +kernel) fun K hKs => ?_ | refine awp_d hT hm (by decide +kernel) fun K hKr => ?_
    | refine awp_block ?_ | refine awp_scope ?_ | refine awp_seq ?_ | ((first | refine awp_label ?_ | refine awp_skip ?_ | refine awp_exit ?_ | refine awp_ret ?_); simp only [push_cast, reduceIte, reduceCtorEq, Nat.reduceEqDiff, Nat.reduceLT, Nat.reduceLeDiff, Nat.reduceAdd, Nat.reduceMul, Nat.reduceMod, Nat.reduceDiv, Nat.reduceSub, Int.reduceToNat])
    | (refine awp_cond _ rfl (fun h => ?_) (fun h => ?_) <;> simp only [bh, decide_eq_true_eq, decide_eq_false_iff_not, eq_self, not_true_eq_false, not_false_eq_true, reduceCtorEq, Bool.true_eq_false, Bool.false_eq_true, bne_self_eq_false, beq_self_eq_true] at h))
      all_goals first | omega | exact (fun hh => hh) | (simp only [List.length_take, List.length_drop, List.length_append, List.length_map, List.length_cons, List.length_nil, List.length_replicate, List.length_set]; omega) | (intro hh; (try simp only [hh, Bool.not_false, Bool.not_true, Bool.true_and, Bool.and_true, eq_self, true_and, and_true]); (try simp only [bh, decide_eq_true_eq, decide_eq_false_iff_not] at hh); (first | done | omega | (simp only [List.length_take, List.length_drop, List.length_append, List.length_map, List.length_cons, List.length_nil, List.length_replicate, List.length_set]; omega))) | (intro hh; simp only [hh, Bool.not_false, Bool.not_true, Bool.true_and, Bool.and_true, eq_self, true_and, and_true]; intro h2; simp only [h2, Bool.not_false, Bool.not_true]; done) | (exact rfl) | skip
      all_goals (refine ⟨i + 1, ⟨by show i + 1 ≤ _; omega, by show _ - (i + 1) < _ - i; omega⟩, G.wk ⟨rfl, rfl, rfl, rfl, rfl, rfl, ?_, rfl, trivial⟩ ⟨rfl, trivial⟩⟩; show AV.v (Value.int .i64 _) = AV.v (Value.int .i64 (difS acc day a b (l.take (i + 1)))); rw [hs]; congr 2)
      all_goals first
        | (rw [dif_no hab h]; omega)
        | (rw [dif_yes (by assumption)]; repeat' split; all_goals first | omega | contradiction | (exfalso; exact w3 (by simp_all)))
    · obtain rfl : i = l.length := by omega
      have bl : decide ((l.length : Int) < (l.length : Int)) = false := decide_eq_false (by omega)
      generalize balF l acc day b = S2 at *
      generalize balF l acc day a = S1 at *
      repeat' (first
    | ((first | refine aopss_cons hT (by rfl) fun K' hK' => ?_ | refine aops_cons (by rfl) fun K' hK' => ?_); simp only [push_cast, reduceIte, reduceCtorEq, Nat.reduceEqDiff, Nat.reduceLT, Nat.reduceLeDiff, Nat.reduceAdd, Nat.reduceMul, Nat.reduceMod, Nat.reduceDiv, Nat.reduceSub, Int.reduceToNat, bl, List.take_length]; (try simp (disch := omega) only [wrap64, Int.toNat_natCast]); (repeat refine and_rev ?_ ?_); (first | refine hK' _ ?_ | ((first | refine ⟨_, ⟨(by first | exact r1 | exact r2), (by first | exact .inr rfl | exact .inl (by simp [AV.fresh, AV.freshL]))⟩, ?_⟩ | refine ⟨_, fun hb => ⟨(by first | exact r1 | exact r2), (by first | exact .inr rfl | exact .inl (by simp [AV.fresh, AV.freshL]))⟩, ?_⟩ | refine ⟨_, fun hb => ⟨(by first | exact hb | exact ⟨hb, hb⟩ | exact ⟨hb, hb, hb⟩ | exact ⟨hb, hb, hb, hb⟩ | (simp only [hb, true_and, and_true, Bool.and_true, Bool.true_and]; done)), (by first | exact r1 | exact r2), (by first | exact .inr rfl | exact .inl (by simp [AV.fresh, AV.freshL]))⟩, ?_⟩); (try simp only [push_cast, reduceIte, reduceCtorEq, Nat.reduceEqDiff, Nat.reduceLT, Nat.reduceLeDiff, Nat.reduceAdd, Nat.reduceMul, Nat.reduceMod, Nat.reduceDiv, Nat.reduceSub, Int.reduceToNat, bl, List.take_length]); (try simp (disch := omega) only [wrap64, Int.toNat_natCast]); (repeat refine and_rev ?_ ?_); refine hK' _ ?_) | (refine ⟨.v (.int .i64 0), ?_⟩; refine hK' _ ?_)); clear hK' K')
    | (refine aopss_upd hT rfl fun K' hK' => ?_; simp only [push_cast, reduceIte, reduceCtorEq, Nat.reduceEqDiff, Nat.reduceLT, Nat.reduceLeDiff, Nat.reduceAdd, Nat.reduceMul, Nat.reduceMod, Nat.reduceDiv, Nat.reduceSub, Int.reduceToNat, bl, List.take_length]; (try simp (disch := omega) only [wrap64, Int.toNat_natCast]); (repeat refine and_rev ?_ ?_); refine hK' _ ?_; clear hK' K')
    | (refine aopss_map T rfl (by simp only [dstOk, Nat.reduceLT]) fun K' hK' => ?_; simp only [push_cast, reduceIte, reduceCtorEq, Nat.reduceEqDiff, Nat.reduceLT, Nat.reduceLeDiff, Nat.reduceAdd, Nat.reduceMul, Nat.reduceMod, Nat.reduceDiv, Nat.reduceSub, Int.reduceToNat, bl, List.take_length]; refine hK' _ ?_; clear hK' K')
    | (refine aopss_skip hT (by rfl) (by rfl) (by simp only [dstOk, Nat.reduceLT]) ?_; simp only [St.put])
    | ((first | refine aopss_nil ?_ | refine aops_nil ?_); first | (refine hKs _ ?_; clear hKs K) | (refine hKr _ ?_; clear hKr K; simp only [push_cast, reduceIte, reduceCtorEq, Nat.reduceEqDiff, Nat.reduceLT, Nat.reduceLeDiff, Nat.reduceAdd, Nat.reduceMul, Nat.reduceMod, Nat.reduceDiv, Nat.reduceSub, Int.reduceToNat]))
    | refine awp_sseq fun K hKs => ?_ | refine awp_s fun K hKr => ?_ | refine awp_dseq hT hm (by decide +kernel) fun K hKs => ?_ | refine awp_d hT hm (by decide +kernel) fun K hKr => ?_
    | refine awp_block ?_ | refine awp_scope ?_ | refine awp_seq ?_ | ((first | refine awp_label ?_ | refine awp_skip ?_ | refine awp_exit ?_ | refine awp_ret ?_); simp only [push_cast, reduceIte, reduceCtorEq, Nat.reduceEqDiff, Nat.reduceLT, Nat.reduceLeDiff, Nat.reduceAdd, Nat.reduceMul, Nat.reduceMod, Nat.reduceDiv, Nat.reduceSub, Int.reduceToNat])
    | (refine awp_cond _ rfl (fun h => ?_) (fun h => ?_) <;> simp only [bh, decide_eq_true_eq, decide_eq_false_iff_not, eq_self, not_true_eq_false, not_false_eq_true, reduceCtorEq, Bool.true_eq_false, Bool.false_eq_true, bne_self_eq_false, beq_self_eq_true] at h))
      all_goals first | omega | exact (fun hh => hh) | (simp only [List.length_take, List.length_drop, List.length_append, List.length_map, List.length_cons, List.length_nil, List.length_replicate, List.length_set]; omega) | (intro hh; (try simp only [hh, Bool.not_false, Bool.not_true, Bool.true_and, Bool.and_true, eq_self, true_and, and_true]); (try simp only [bh, decide_eq_true_eq, decide_eq_false_iff_not] at hh); (first | done | omega | (simp only [List.length_take, List.length_drop, List.length_append, List.length_map, List.length_cons, List.length_nil, List.length_replicate, List.length_set]; omega))) | (intro hh; simp only [hh, Bool.not_false, Bool.not_true, Bool.true_and, Bool.and_true, eq_self, true_and, and_true]; intro h2; simp only [h2, Bool.not_false, Bool.not_true]; done) | (exact rfl) | skip
      all_goals (try (rw [hfin]; simp))
      all_goals done
  · cases v1 : validB l with
    | true =>
      rw [v1] at hv
      have b1 : (decide ((300 : Int) < (l.length : Int)) || decide (b < a)) = true := by
        cases h : (decide ((300 : Int) < (l.length : Int)) || decide (b < a)) with
        | true => rfl
        | false =>
          simp only [Bool.or_eq_false_iff, decide_eq_false_iff_not] at h
          exact absurd ⟨⟨by omega, v1⟩, by omega⟩ hc
      repeat' (first
    | ((first | refine aopss_cons hT (by rfl) fun K' hK' => ?_ | refine aops_cons (by rfl) fun K' hK' => ?_); simp only [push_cast, reduceIte, reduceCtorEq, Nat.reduceEqDiff, Nat.reduceLT, Nat.reduceLeDiff, Nat.reduceAdd, Nat.reduceMul, Nat.reduceMod, Nat.reduceDiv, Nat.reduceSub, Int.reduceToNat, b1, Bool.or_false]; (try simp (disch := omega) only [wrap64, Int.toNat_natCast]); (repeat refine and_rev ?_ ?_); (first | refine hK' _ ?_ | ((first | refine ⟨_, ⟨(by first | exact hh | exact hv), (by first | exact .inr rfl | exact .inl (by simp [AV.fresh, AV.freshL]))⟩, ?_⟩ | refine ⟨_, fun hb => ⟨(by first | exact hh | exact hv), (by first | exact .inr rfl | exact .inl (by simp [AV.fresh, AV.freshL]))⟩, ?_⟩ | refine ⟨_, fun hb => ⟨(by first | exact hb | exact ⟨hb, hb⟩ | exact ⟨hb, hb, hb⟩ | exact ⟨hb, hb, hb, hb⟩ | (simp only [hb, true_and, and_true, Bool.and_true, Bool.true_and]; done)), (by first | exact hh | exact hv), (by first | exact .inr rfl | exact .inl (by simp [AV.fresh, AV.freshL]))⟩, ?_⟩); (try simp only [push_cast, reduceIte, reduceCtorEq, Nat.reduceEqDiff, Nat.reduceLT, Nat.reduceLeDiff, Nat.reduceAdd, Nat.reduceMul, Nat.reduceMod, Nat.reduceDiv, Nat.reduceSub, Int.reduceToNat, b1, Bool.or_false]); (try simp (disch := omega) only [wrap64, Int.toNat_natCast]); (repeat refine and_rev ?_ ?_); refine hK' _ ?_) | (refine ⟨.v (.int .i64 0), ?_⟩; refine hK' _ ?_)); clear hK' K')
    | (refine aopss_upd hT rfl fun K' hK' => ?_; simp only [push_cast, reduceIte, reduceCtorEq, Nat.reduceEqDiff, Nat.reduceLT, Nat.reduceLeDiff, Nat.reduceAdd, Nat.reduceMul, Nat.reduceMod, Nat.reduceDiv, Nat.reduceSub, Int.reduceToNat, b1, Bool.or_false]; (try simp (disch := omega) only [wrap64, Int.toNat_natCast]); (repeat refine and_rev ?_ ?_); refine hK' _ ?_; clear hK' K')
    | (refine aopss_map T rfl (by simp only [dstOk, Nat.reduceLT]) fun K' hK' => ?_; simp only [push_cast, reduceIte, reduceCtorEq, Nat.reduceEqDiff, Nat.reduceLT, Nat.reduceLeDiff, Nat.reduceAdd, Nat.reduceMul, Nat.reduceMod, Nat.reduceDiv, Nat.reduceSub, Int.reduceToNat, b1, Bool.or_false]; refine hK' _ ?_; clear hK' K')
    | (refine aopss_skip hT (by rfl) (by rfl) (by simp only [dstOk, Nat.reduceLT]) ?_; simp only [St.put])
    | ((first | refine aopss_nil ?_ | refine aops_nil ?_); first | (refine hKs _ ?_; clear hKs K) | (refine hKr _ ?_; clear hKr K; simp only [push_cast, reduceIte, reduceCtorEq, Nat.reduceEqDiff, Nat.reduceLT, Nat.reduceLeDiff, Nat.reduceAdd, Nat.reduceMul, Nat.reduceMod, Nat.reduceDiv, Nat.reduceSub, Int.reduceToNat]))
    | refine awp_sseq fun K hKs => ?_ | refine awp_s fun K hKr => ?_ | refine awp_dseq hT hm (by decide +kernel) fun K hKs => ?_ | refine awp_d hT hm (by decide +kernel) fun K hKr => ?_
    | refine awp_block ?_ | refine awp_scope ?_ | refine awp_seq ?_ | ((first | refine awp_label ?_ | refine awp_skip ?_ | refine awp_exit ?_ | refine awp_ret ?_); simp only [push_cast, reduceIte, reduceCtorEq, Nat.reduceEqDiff, Nat.reduceLT, Nat.reduceLeDiff, Nat.reduceAdd, Nat.reduceMul, Nat.reduceMod, Nat.reduceDiv, Nat.reduceSub, Int.reduceToNat])
    | (refine awp_cond _ rfl (fun h => ?_) (fun h => ?_) <;> simp only [bh, decide_eq_true_eq, decide_eq_false_iff_not, eq_self, not_true_eq_false, not_false_eq_true, reduceCtorEq, Bool.true_eq_false, Bool.false_eq_true, bne_self_eq_false, beq_self_eq_true] at h))
      all_goals first | omega | exact (fun hh => hh) | (simp only [List.length_take, List.length_drop, List.length_append, List.length_map, List.length_cons, List.length_nil, List.length_replicate, List.length_set]; omega) | (intro hh; (try simp only [hh, Bool.not_false, Bool.not_true, Bool.true_and, Bool.and_true, eq_self, true_and, and_true]); (try simp only [bh, decide_eq_true_eq, decide_eq_false_iff_not] at hh); (first | done | omega | (simp only [List.length_take, List.length_drop, List.length_append, List.length_map, List.length_cons, List.length_nil, List.length_replicate, List.length_set]; omega))) | (intro hh; simp only [hh, Bool.not_false, Bool.not_true, Bool.true_and, Bool.and_true, eq_self, true_and, and_true]; intro h2; simp only [h2, Bool.not_false, Bool.not_true]; done) | (exact rfl) | skip
      all_goals done
    | false =>
      rw [v1] at hv
      repeat' (first
    | ((first | refine aopss_cons hT (by rfl) fun K' hK' => ?_ | refine aops_cons (by rfl) fun K' hK' => ?_); simp only [push_cast, reduceIte, reduceCtorEq, Nat.reduceEqDiff, Nat.reduceLT, Nat.reduceLeDiff, Nat.reduceAdd, Nat.reduceMul, Nat.reduceMod, Nat.reduceDiv, Nat.reduceSub, Int.reduceToNat, Bool.or_true, Bool.true_or]; (try simp (disch := omega) only [wrap64, Int.toNat_natCast]); (repeat refine and_rev ?_ ?_); (first | refine hK' _ ?_ | ((first | refine ⟨_, ⟨(by first | exact hh | exact hv), (by first | exact .inr rfl | exact .inl (by simp [AV.fresh, AV.freshL]))⟩, ?_⟩ | refine ⟨_, fun hb => ⟨(by first | exact hh | exact hv), (by first | exact .inr rfl | exact .inl (by simp [AV.fresh, AV.freshL]))⟩, ?_⟩ | refine ⟨_, fun hb => ⟨(by first | exact hb | exact ⟨hb, hb⟩ | exact ⟨hb, hb, hb⟩ | exact ⟨hb, hb, hb, hb⟩ | (simp only [hb, true_and, and_true, Bool.and_true, Bool.true_and]; done)), (by first | exact hh | exact hv), (by first | exact .inr rfl | exact .inl (by simp [AV.fresh, AV.freshL]))⟩, ?_⟩); (try simp only [push_cast, reduceIte, reduceCtorEq, Nat.reduceEqDiff, Nat.reduceLT, Nat.reduceLeDiff, Nat.reduceAdd, Nat.reduceMul, Nat.reduceMod, Nat.reduceDiv, Nat.reduceSub, Int.reduceToNat, Bool.or_true, Bool.true_or]); (try simp (disch := omega) only [wrap64, Int.toNat_natCast]); (repeat refine and_rev ?_ ?_); refine hK' _ ?_) | (refine ⟨.v (.int .i64 0), ?_⟩; refine hK' _ ?_)); clear hK' K')
    | (refine aopss_upd hT rfl fun K' hK' => ?_; simp only [push_cast, reduceIte, reduceCtorEq, Nat.reduceEqDiff, Nat.reduceLT, Nat.reduceLeDiff, Nat.reduceAdd, Nat.reduceMul, Nat.reduceMod, Nat.reduceDiv, Nat.reduceSub, Int.reduceToNat, Bool.or_true, Bool.true_or]; (try simp (disch := omega) only [wrap64, Int.toNat_natCast]); (repeat refine and_rev ?_ ?_); refine hK' _ ?_; clear hK' K')
    | (refine aopss_map T rfl (by simp only [dstOk, Nat.reduceLT]) fun K' hK' => ?_; simp only [push_cast, reduceIte, reduceCtorEq, Nat.reduceEqDiff, Nat.reduceLT, Nat.reduceLeDiff, Nat.reduceAdd, Nat.reduceMul, Nat.reduceMod, Nat.reduceDiv, Nat.reduceSub, Int.reduceToNat, Bool.or_true, Bool.true_or]; refine hK' _ ?_; clear hK' K')
    | (refine aopss_skip hT (by rfl) (by rfl) (by simp only [dstOk, Nat.reduceLT]) ?_; simp only [St.put])
    | ((first | refine aopss_nil ?_ | refine aops_nil ?_); first | (refine hKs _ ?_; clear hKs K) | (refine hKr _ ?_; clear hKr K; simp only [push_cast, reduceIte, reduceCtorEq, Nat.reduceEqDiff, Nat.reduceLT, Nat.reduceLeDiff, Nat.reduceAdd, Nat.reduceMul, Nat.reduceMod, Nat.reduceDiv, Nat.reduceSub, Int.reduceToNat]))
    | refine awp_sseq fun K hKs => ?_ | refine awp_s fun K hKr => ?_ | refine awp_dseq hT hm (by decide +kernel) fun K hKs => ?_ | refine awp_d hT hm (by decide +kernel) fun K hKr => ?_
    | refine awp_block ?_ | refine awp_scope ?_ | refine awp_seq ?_ | ((first | refine awp_label ?_ | refine awp_skip ?_ | refine awp_exit ?_ | refine awp_ret ?_); simp only [push_cast, reduceIte, reduceCtorEq, Nat.reduceEqDiff, Nat.reduceLT, Nat.reduceLeDiff, Nat.reduceAdd, Nat.reduceMul, Nat.reduceMod, Nat.reduceDiv, Nat.reduceSub, Int.reduceToNat])
    | (refine awp_cond _ rfl (fun h => ?_) (fun h => ?_) <;> simp only [bh, decide_eq_true_eq, decide_eq_false_iff_not, eq_self, not_true_eq_false, not_false_eq_true, reduceCtorEq, Bool.true_eq_false, Bool.false_eq_true, bne_self_eq_false, beq_self_eq_true] at h))
      all_goals first | omega | exact (fun hh => hh) | (simp only [List.length_take, List.length_drop, List.length_append, List.length_map, List.length_cons, List.length_nil, List.length_replicate, List.length_set]; omega) | (intro hh; (try simp only [hh, Bool.not_false, Bool.not_true, Bool.true_and, Bool.and_true, eq_self, true_and, and_true]); (try simp only [bh, decide_eq_true_eq, decide_eq_false_iff_not] at hh); (first | done | omega | (simp only [List.length_take, List.length_drop, List.length_append, List.length_map, List.length_cons, List.length_nil, List.length_replicate, List.length_set]; omega))) | (intro hh; simp only [hh, Bool.not_false, Bool.not_true, Bool.true_and, Bool.and_true, eq_self, true_and, and_true]; intro h2; simp only [h2, Bool.not_false, Bool.not_true]; done) | (exact rfl) | skip
      all_goals done
end Go.Proofs.Ytjilboaofggppaa
