/- Part of a proof about the given program: contracts of its functions (see the comment of the last text). -/
import Derived.Test.YtjilboaofggppaaLeQ
namespace Go.Proofs.Ytjilboaofggppaa
open Go.Eng Go.Proofs
set_option linter.unusedSimpArgs false
set_option linter.unusedVariables false
attribute [local irreducible] AOps AOpsX AOps2 AOpsS AWP AAnyS

theorem post_found {m : List En} {e : En} {i : Nat} (hv : validB m = true) (hw : wfB e = true) (hi : i < m.length) (h1 : (nth m i).id = e.id) (h2 : ∀ j, j < i → (nth m j).id ≠ e.id) (h3 : agB (nth m i) e = true) : postF m e = (m, 0) := by
  unfold postF
  have hf := findF_at hi h1 h2
  rw [if_pos (by rw [hv, hw]; rfl), if_pos (by rw [hf]; omega), hf]
  have : ((i : Int)).toNat = i := by omega
  rw [this, if_pos h3]
theorem post_new {m : List En} {e : En} (hv : validB m = true) (hw : wfB e = true) (h1 : ∀ j, j < m.length → (nth m j).id ≠ e.id) (h2 : m.length < 2000) (h3 : ¬ (0 < m.length ∧ e.bk < (nth m (m.length - 1)).bk)) : postF m e = (m ++ [e], 0) := by
  unfold postF
  rw [if_pos (by rw [hv, hw]; rfl), if_neg (by rw [findF_none h1]; omega), if_neg (by omega), if_neg h3]
/-- The second of two entries with other ids, booked on one day, behind the first. -/
theorem post_two {l : List En} {a b : En} (h300 : l.length ≤ 300) (hne : a.id ≠ b.id) (hbk : b.bk = a.bk) (ha : (postF l a).2 = 0) (hb : (postF l b).2 = 0) : ∃ xa xb : List En, postF (postF l a).1 b = (l ++ xa ++ xb, 0) ∧ (xa = [] ∨ xa = [a]) ∧ (xb = [] ∨ xb = [b]) ∧ (postF l a).1 = l ++ xa ∧ (postF l b).1 = l ++ xb := by
  obtain ⟨v, wa, ca⟩ := post_good ha
  obtain ⟨_, wb, cb⟩ := post_good hb
  rcases ca with ⟨a1, _⟩ | ⟨a1, a2, a3, a4⟩
  · rcases cb with ⟨b1, i, b2, _, b3, b4, b5⟩ | ⟨b1, b2, b3, b4⟩
    · exact ⟨[], [], by rw [a1, post_found v wb b2 b3 b4 b5]; simp, .inl rfl, .inl rfl, by rw [a1]; simp, by rw [b1]; simp⟩
    · exact ⟨[], [b], by rw [a1, post_new v wb b2 b3 b4]; simp, .inl rfl, .inr rfl, by rw [a1]; simp, by rw [b1]⟩
  · have va := post_valid v wa a2 a3 a4
    rcases cb with ⟨b1, i, b2, _, b3, b4, b5⟩ | ⟨b1, b2, b3, b4⟩
    · refine ⟨[a], [], ?_, .inr rfl, .inl rfl, by rw [a1], by rw [b1]; simp⟩
      rw [a1, post_found (i := i) va wb (by simp; omega) (by rw [nth_app_lt b2]; exact b3) (fun j hj => by rw [nth_app_lt (by omega)]; exact b4 j hj) (by rw [nth_app_lt b2]; exact b5)]
      simp
    · refine ⟨[a], [b], ?_, .inr rfl, .inr rfl, by rw [a1], by rw [b1]⟩
      rw [a1, post_new va wb (fun j hj => ?hj) (by simp; omega) ?hb]
      case hb =>
        have : (l ++ [a]).length - 1 = l.length := by simp
        rw [this, nth_app_last]; omega
      case hj =>
        have hj' : j < l.length + 1 := by simpa using hj
        by_cases h : j < l.length
        · rw [nth_app_lt h]; exact b2 j h
        · obtain rfl : j = l.length := by omega
          rw [nth_app_last]; exact hne
theorem balS_perm {l m : List En} (h : l.Perm m) (acc : ByteArray) (day bk : Int) : balS acc day bk l = balS acc day bk m := by
  unfold balS
  induction h with
  | nil => rfl
  | cons x _ ih => simp only [List.map_cons, List.sum_cons, ih]
  | swap x y l => simp only [List.map_cons, List.sum_cons]; omega
  | trans _ _ ih1 ih2 => rw [ih1, ih2]
theorem balF_perm {l m : List En} (hl : validB l = true) (hm : validB m = true) (h : l.Perm m) (acc : ByteArray) (day bk : Int) : balF l acc day bk = balF m acc day bk := by
  unfold balF; rw [if_pos hl, if_pos hm]; exact balS_perm h acc day bk
theorem accF_perm {l m : List En} (hl : validB l = true) (hm : validB m = true) (h : l.Perm m) : accF l = accF m :=
  asc_ext (accF_asc l) (accF_asc m) fun s => by
    rw [accF_mem hl, accF_mem hm]
    exact ⟨fun ⟨e, he, hs⟩ => ⟨e, h.mem_iff.1 he, hs⟩, fun ⟨e, he, hs⟩ => ⟨e, h.mem_iff.2 he, hs⟩⟩
theorem order_law {l : List En} {a b : En} (h300 : l.length ≤ 300) (hne : a.id ≠ b.id) (hbk : b.bk = a.bk) (ha : (postF l a).2 = 0) (hb : (postF l b).2 = 0) (acc : ByteArray) (day bk : Int) :
    (postF (postF l a).1 b).2 = 0 ∧ (postF (postF l b).1 a).2 = 0 ∧ balF (postF (postF l a).1 b).1 acc day bk = balF (postF (postF l b).1 a).1 acc day bk ∧ accF (postF (postF l a).1 b).1 = accF (postF (postF l b).1 a).1 := by
  obtain ⟨xa, xb, p1, ca, cb, q1, q2⟩ := post_two h300 hne hbk ha hb
  obtain ⟨yb, ya, p2, _, _, r1, r2⟩ := post_two h300 (Ne.symm hne) hbk.symm hb ha
  obtain rfl : ya = xa := by rw [q1] at r2; exact (List.append_cancel_left r2).symm
  obtain rfl : yb = xb := by rw [q2] at r1; exact (List.append_cancel_left r1).symm
  have e1 : (postF (postF l a).1 b).2 = 0 := by rw [p1]
  have e2 : (postF (postF l b).1 a).2 = 0 := by rw [p2]
  have v1 := post_ok_valid e1
  have v2 := post_ok_valid e2
  have hp : (postF (postF l a).1 b).1.Perm (postF (postF l b).1 a).1 := by
    rw [p1, p2]
    show (l ++ ya ++ yb).Perm (l ++ yb ++ ya)
    rw [List.append_assoc, List.append_assoc]
    exact List.Perm.append_left l List.perm_append_comm
  exact ⟨e1, e2, balF_perm v1 v2 hp acc day bk, accF_perm v1 v2 hp⟩
set_option maxHeartbeats 16000000 in
theorem lorder_ok (l : List En) (a b0 : En) (acc : ByteArray) (day bk : Int) (hl : okL l) (ha : okE a) (hb : okE b0) (hacc : acc.size ≤ 9223372036854775807) (hd : In64 day) (hbk : In64 bk) : Pure Try.prog 8 [.a (avL l), .a (avE a), .a (avE b0), STR acc, I64 day, I64 bk] (BL true) := by
  have hh := head_ok
  have okb : okE ⟨b0.id, b0.db, b0.cr, b0.ct, b0.dy, a.bk⟩ := ⟨hb.1, hb.2.1, hb.2.2.1, hb.2.2.2.1, hb.2.2.2.2.1, ha.2.2.2.2.2⟩
  have p1 := post_ok l a hl ha
  have p2 := post_ok l ⟨b0.id, b0.db, b0.cr, b0.ct, b0.dy, a.bk⟩ hl okb
  have k1 := okL_post hl ha
  have k2 := okL_post hl okb
  have p3 := post_ok _ ⟨b0.id, b0.db, b0.cr, b0.ct, b0.dy, a.bk⟩ k1 okb
  have p4 := post_ok _ a k2 ha
  have k3 := okL_post k1 okb
  have k4 := okL_post k2 ha
  have r1 := bal_ok _ acc day bk k3
  have r2 := bal_ok _ acc day bk k4
  have t1 := acc_ok _ k3
  have t2 := acc_ok _ k4
  rw [avPo] at p1 p2 p3 p4
  refine pure_of (n := 101) (res := [.tmp 12]) hT Try.func8 rfl rfl rfl Try.ntmps8 (Nat.le_of_ble_eq_true rfl) fun B w0 => ?_
  by_cases hc0 : l.length ≤ 300 ∧ a.id ≠ b0.id
  · have b0' : decide ((300 : Int) < (l.length : Int)) = false := decide_eq_false (by omega)
    have b1 : (a.id == b0.id) = false := by simpa using hc0.2
    by_cases hc : (postF l a).2 = 0 ∧ (postF l ⟨b0.id, b0.db, b0.cr, b0.ct, b0.dy, a.bk⟩).2 = 0
    · obtain ⟨o1, o2, o3, o4⟩ := order_law (b := ⟨b0.id, b0.db, b0.cr, b0.ct, b0.dy, a.bk⟩) hc0.1 hc0.2 rfl hc.1 hc.2 acc day bk
      have hn := accF_len2 (postF (postF l ⟨b0.id, b0.db, b0.cr, b0.ct, b0.dy, a.bk⟩).1 a).1
      have t3 := strings_ok (accF (postF (postF l ⟨b0.id, b0.db, b0.cr, b0.ct, b0.dy, a.bk⟩).1 a).1) (accF (postF (postF l ⟨b0.id, b0.db, b0.cr, b0.ct, b0.dy, a.bk⟩).1 a).1) (by omega) (by omega)
      rw [decide_eq_true rfl] at t3
      rw [o3] at r1
      rw [o4] at t1
      rw [o1] at p3
      rw [o2] at p4
      rw [hc.1] at p1
      rw [hc.2] at p2
      generalize accF (postF (postF l ⟨b0.id, b0.db, b0.cr, b0.ct, b0.dy, a.bk⟩).1 a).1 = aa at *
      generalize balF (postF (postF l ⟨b0.id, b0.db, b0.cr, b0.ct, b0.dy, a.bk⟩).1 a).1 acc day bk = bb at *
      generalize (postF (postF l ⟨b0.id, b0.db, b0.cr, b0.ct, b0.dy, a.bk⟩).1 a).1 = mm at *
      generalize (postF (postF l a).1 ⟨b0.id, b0.db, b0.cr, b0.ct, b0.dy, a.bk⟩).1 = nn at *
      generalize (postF l a).1 = m1 at *
      generalize (postF l ⟨b0.id, b0.db, b0.cr, b0.ct, b0.dy, a.bk⟩).1 = m2 at *
      repeat' (first
    | ((first | refine aopss_cons hT (by rfl) fun K' hK' => ?_ | refine aops_cons (by rfl) fun K' hK' => ?_); simp only [push_cast, reduceIte, reduceCtorEq, Nat.reduceEqDiff, Nat.reduceLT, Nat.reduceLeDiff, Nat.reduceAdd, Nat.reduceMul, Nat.reduceMod, Nat.reduceDiv, Nat.reduceSub, Int.reduceToNat, b0', b1]; (try simp (disch := omega) only [wrap64, Int.toNat_natCast]); (repeat refine and_rev ?_ ?_); (first | refine hK' _ ?_ | ((first | refine ⟨_, ⟨(by first | exact hh | exact p1 | exact p2 | exact p3 | exact p4 | exact r1 | exact r2 | exact t1 | exact t2 | exact t3), (by first | exact .inr rfl | exact .inl (by simp [AV.fresh, AV.freshL]))⟩, ?_⟩ | refine ⟨_, fun hb => ⟨(by first | exact hh | exact p1 | exact p2 | exact p3 | exact p4 | exact r1 | exact r2 | exact t1 | exact t2 | exact t3), (by first | exact .inr rfl | exact .inl (by simp [AV.fresh, AV.freshL]))⟩, ?_⟩ | refine ⟨_, fun hb => ⟨(by first | exact hb | exact ⟨hb, hb⟩ | exact ⟨hb, hb, hb⟩ | exact ⟨hb, hb, hb, hb⟩ | (simp only [hb, true_and, and_true, Bool.and_true, Bool.true_and]; done)), (by first | exact hh | exact p1 | exact p2 | exact p3 | exact p4 | exact r1 | exact r2 | exact t1 | exact t2 | exact t3), (by first | exact .inr rfl | exact .inl (by simp [AV.fresh, AV.freshL]))⟩, ?_⟩); (try simp only [push_cast, reduceIte, reduceCtorEq, Nat.reduceEqDiff, Nat.reduceLT, Nat.reduceLeDiff, Nat.reduceAdd, Nat.reduceMul, Nat.reduceMod, Nat.reduceDiv, Nat.reduceSub, Int.reduceToNat, b0', b1]); (try simp (disch := omega) only [wrap64, Int.toNat_natCast]); (repeat refine and_rev ?_ ?_); refine hK' _ ?_) | (refine ⟨.v (.int .i64 0), ?_⟩; refine hK' _ ?_)); clear hK' K')
    | (refine aopss_upd hT rfl fun K' hK' => ?_; simp only [push_cast, reduceIte, reduceCtorEq, Nat.reduceEqDiff, Nat.reduceLT, Nat.reduceLeDiff, Nat.reduceAdd, Nat.reduceMul, Nat.reduceMod, Nat.reduceDiv, Nat.reduceSub, Int.reduceToNat, b0', b1]; (try simp (disch := omega) only [wrap64, Int.toNat_natCast]); (repeat refine and_rev ?_ ?_); refine hK' _ ?_; clear hK' K')
    | (refine aopss_map T rfl (by simp only [dstOk, Nat.reduceLT]) fun K' hK' => ?_; simp only [push_cast, reduceIte, reduceCtorEq, Nat.reduceEqDiff, Nat.reduceLT, Nat.reduceLeDiff, Nat.reduceAdd, Nat.reduceMul, Nat.reduceMod, Nat.reduceDiv, Nat.reduceSub, Int.reduceToNat, b0', b1]; refine hK' _ ?_; clear hK' K')
    | (refine aopss_skip hT (by rfl) (by rfl) (by simp only [dstOk, Nat.reduceLT]) ?_; simp only [St.put])
    | ((first | refine aopss_nil ?_ | refine aops_nil ?_); first | (refine hKs _ ?_; clear hKs K) | (refine hKr _ ?_; clear hKr K; simp only [push_cast, reduceIte, reduceCtorEq, Nat.reduceEqDiff, Nat.reduceLT, Nat.reduceLeDiff, Nat.reduceAdd, Nat.reduceMul, Nat.reduceMod, Nat.reduceDiv, Nat.reduceSub, Int.reduceToNat]))
    | refine awp_sseq fun K hKs => ?_ | refine awp_s fun K hKr => ?_ | refine awp_dseq hT hm (by decide +kernel) fun K hKs => ?_ | refine awp_d hT hm (by decide +kernel) fun K hKr => ?_
    | refine awp_block ?_ | refine awp_scope ?_ | refine awp_seq ?_ | ((first | refine awp_label ?_ | refine awp_skip ?_ | refine awp_exit ?_ | refine awp_ret ?_); simp only [push_cast, reduceIte, reduceCtorEq, Nat.reduceEqDiff, Nat.reduceLT, Nat.reduceLeDiff, Nat.reduceAdd, Nat.reduceMul, Nat.reduceMod, Nat.reduceDiv, Nat.reduceSub, Int.reduceToNat])
    | (refine awp_cond _ rfl (fun h => ?_) (fun h => ?_) <;> simp only [bh, decide_eq_true_eq, decide_eq_false_iff_not, eq_self, not_true_eq_false, not_false_eq_true, reduceCtorEq, Bool.true_eq_false, Bool.false_eq_true, bne_self_eq_false, beq_self_eq_true] at h))
      all_goals first | omega | exact (fun hh => hh) | (simp only [List.length_take, List.length_drop, List.length_append, List.length_map, List.length_cons, List.length_nil, List.length_replicate, List.length_set]; omega) | (intro hh; (try simp only [hh, Bool.not_false, Bool.not_true, Bool.true_and, Bool.and_true, eq_self, true_and, and_true]); (try simp only [bh, decide_eq_true_eq, decide_eq_false_iff_not] at hh); (first | done | omega | (simp only [List.length_take, List.length_drop, List.length_append, List.length_map, List.length_cons, List.length_nil, List.length_replicate, List.length_set]; omega))) | (intro hh; simp only [hh, Bool.not_false, Bool.not_true, Bool.true_and, Bool.and_true, eq_self, true_and, and_true]; intro h2; simp only [h2, Bool.not_false, Bool.not_true]; done) | (exact rfl) | skip
      all_goals done
    · have b2 : ((postF l a).2 != 0 || (postF l ⟨b0.id, b0.db, b0.cr, b0.ct, b0.dy, a.bk⟩).2 != 0) = true := by
        cases h : ((postF l a).2 != 0 || (postF l ⟨b0.id, b0.db, b0.cr, b0.ct, b0.dy, a.bk⟩).2 != 0) with
        | true => rfl
        | false =>
          simp only [Bool.or_eq_false_iff, bne_eq_false_iff_eq] at h
          exact absurd h hc
      generalize (postF l a).2 = c1 at *
      generalize (postF l ⟨b0.id, b0.db, b0.cr, b0.ct, b0.dy, a.bk⟩).2 = c2 at *
      clear p3 p4 r1 r2 t1 t2 k3 k4
      generalize (postF l a).1 = m1 at *
      generalize (postF l ⟨b0.id, b0.db, b0.cr, b0.ct, b0.dy, a.bk⟩).1 = m2 at *
      repeat' (first
    | ((first | refine aopss_cons hT (by rfl) fun K' hK' => ?_ | refine aops_cons (by rfl) fun K' hK' => ?_); simp only [push_cast, reduceIte, reduceCtorEq, Nat.reduceEqDiff, Nat.reduceLT, Nat.reduceLeDiff, Nat.reduceAdd, Nat.reduceMul, Nat.reduceMod, Nat.reduceDiv, Nat.reduceSub, Int.reduceToNat, b0', b1, b2]; (try simp (disch := omega) only [wrap64, Int.toNat_natCast]); (repeat refine and_rev ?_ ?_); (first | refine hK' _ ?_ | ((first | refine ⟨_, ⟨(by first | exact hh | exact p1 | exact p2), (by first | exact .inr rfl | exact .inl (by simp [AV.fresh, AV.freshL]))⟩, ?_⟩ | refine ⟨_, fun hb => ⟨(by first | exact hh | exact p1 | exact p2), (by first | exact .inr rfl | exact .inl (by simp [AV.fresh, AV.freshL]))⟩, ?_⟩ | refine ⟨_, fun hb => ⟨(by first | exact hb | exact ⟨hb, hb⟩ | exact ⟨hb, hb, hb⟩ | exact ⟨hb, hb, hb, hb⟩ | (simp only [hb, true_and, and_true, Bool.and_true, Bool.true_and]; done)), (by first | exact hh | exact p1 | exact p2), (by first | exact .inr rfl | exact .inl (by simp [AV.fresh, AV.freshL]))⟩, ?_⟩); (try simp only [push_cast, reduceIte, reduceCtorEq, Nat.reduceEqDiff, Nat.reduceLT, Nat.reduceLeDiff, Nat.reduceAdd, Nat.reduceMul, Nat.reduceMod, Nat.reduceDiv, Nat.reduceSub, Int.reduceToNat, b0', b1, b2]); (try simp (disch := omega) only [wrap64, Int.toNat_natCast]); (repeat refine and_rev ?_ ?_); refine hK' _ ?_) | (refine ⟨.v (.int .i64 0), ?_⟩; refine hK' _ ?_)); clear hK' K')
    | (refine aopss_upd hT rfl fun K' hK' => ?_; simp only [push_cast, reduceIte, reduceCtorEq, Nat.reduceEqDiff, Nat.reduceLT, Nat.reduceLeDiff, Nat.reduceAdd, Nat.reduceMul, Nat.reduceMod, Nat.reduceDiv, Nat.reduceSub, Int.reduceToNat, b0', b1, b2]; (try simp (disch := omega) only [wrap64, Int.toNat_natCast]); (repeat refine and_rev ?_ ?_); refine hK' _ ?_; clear hK' K')
    | (refine aopss_map T rfl (by simp only [dstOk, Nat.reduceLT]) fun K' hK' => ?_; simp only [push_cast, reduceIte, reduceCtorEq, Nat.reduceEqDiff, Nat.reduceLT, Nat.reduceLeDiff, Nat.reduceAdd, Nat.reduceMul, Nat.reduceMod, Nat.reduceDiv, Nat.reduceSub, Int.reduceToNat, b0', b1, b2]; refine hK' _ ?_; clear hK' K')
    | (refine aopss_skip hT (by rfl) (by rfl) (by simp only [dstOk, Nat.reduceLT]) ?_; simp only [St.put])
    | ((first | refine aopss_nil ?_ | refine aops_nil ?_); first | (refine hKs _ ?_; clear hKs K) | (refine hKr _ ?_; clear hKr K; simp only [push_cast, reduceIte, reduceCtorEq, Nat.reduceEqDiff, Nat.reduceLT, Nat.reduceLeDiff, Nat.reduceAdd, Nat.reduceMul, Nat.reduceMod, Nat.reduceDiv, Nat.reduceSub, Int.reduceToNat]))
    | refine awp_sseq fun K hKs => ?_ | refine awp_s fun K hKr => ?_ | refine awp_dseq hT hm (by decide +kernel) fun K hKs => ?_ | refine awp_d hT hm (by decide +kernel) fun K hKr => ?_
    | refine awp_block ?_ | refine awp_scope ?_ | refine awp_seq ?_ | ((first | refine awp_label ?_ | refine awp_skip ?_ | refine awp_exit ?_ | refine awp_ret ?_); simp only [push_cast, reduceIte, reduceCtorEq, Nat.reduceEqDiff, Nat.reduceLT, Nat.reduceLeDiff, Nat.reduceAdd, Nat.reduceMul, Nat.reduceMod, Nat.reduceDiv, Nat.reduceSub, Int.reduceToNat])
    | (refine awp_cond _ rfl (fun h => ?_) (fun h => ?_) <;> simp only [bh, decide_eq_true_eq, decide_eq_false_iff_not, eq_self, not_true_eq_false, not_false_eq_true, reduceCtorEq, Bool.true_eq_false, Bool.false_eq_true, bne_self_eq_false, beq_self_eq_true] at h))
      all_goals first | omega | exact (fun hh => hh) | (simp only [List.length_take, List.length_drop, List.length_append, List.length_map, List.length_cons, List.length_nil, List.length_replicate, List.length_set]; omega) | (intro hh; (try simp only [hh, Bool.not_false, Bool.not_true, Bool.true_and, Bool.and_true, eq_self, true_and, and_true]); (try simp only [bh, decide_eq_true_eq, decide_eq_false_iff_not] at hh); (first | done | omega | (simp only [List.length_take, List.length_drop, List.length_append, List.length_map, List.length_cons, List.length_nil, List.length_replicate, List.length_set]; omega))) | (intro hh; simp only [hh, Bool.not_false, Bool.not_true, Bool.true_and, Bool.and_true, eq_self, true_and, and_true]; intro h2; simp only [h2, Bool.not_false, Bool.not_true]; done) | (exact rfl) | skip
      all_goals done
  · have b1 : (decide ((300 : Int) < (l.length : Int)) || a.id == b0.id) = true := by
      cases h : (decide ((300 : Int) < (l.length : Int)) || a.id == b0.id) with
      | true => rfl
      | false =>
        simp only [Bool.or_eq_false_iff, decide_eq_false_iff_not, beq_eq_false_iff_ne] at h
        exact absurd ⟨by omega, h.2⟩ hc0
    repeat' (first
    | ((first | refine aopss_cons hT (by rfl) fun K' hK' => ?_ | refine aops_cons (by rfl) fun K' hK' => ?_); simp only [push_cast, reduceIte, reduceCtorEq, Nat.reduceEqDiff, Nat.reduceLT, Nat.reduceLeDiff, Nat.reduceAdd, Nat.reduceMul, Nat.reduceMod, Nat.reduceDiv, Nat.reduceSub, Int.reduceToNat, b1]; (try simp (disch := omega) only [wrap64, Int.toNat_natCast]); (repeat refine and_rev ?_ ?_); (first | refine hK' _ ?_ | ((first | refine ⟨_, ⟨(by first | exact hh), (by first | exact .inr rfl | exact .inl (by simp [AV.fresh, AV.freshL]))⟩, ?_⟩ | refine ⟨_, fun hb => ⟨(by first | exact hh), (by first | exact .inr rfl | exact .inl (by simp [AV.fresh, AV.freshL]))⟩, ?_⟩ | refine ⟨_, fun hb => ⟨(by first | exact hb | exact ⟨hb, hb⟩ | exact ⟨hb, hb, hb⟩ | exact ⟨hb, hb, hb, hb⟩ | (simp only [hb, true_and, and_true, Bool.and_true, Bool.true_and]; done)), (by first | exact hh), (by first | exact .inr rfl | exact .inl (by simp [AV.fresh, AV.freshL]))⟩, ?_⟩); (try simp only [push_cast, reduceIte, reduceCtorEq, Nat.reduceEqDiff, Nat.reduceLT, Nat.reduceLeDiff, Nat.reduceAdd, Nat.reduceMul, Nat.reduceMod, Nat.reduceDiv, Nat.reduceSub, Int.reduceToNat, b1]); (try simp (disch := omega) only [wrap64, Int.toNat_natCast]); (repeat refine and_rev ?_ ?_); refine hK' _ ?_) | (refine ⟨.v (.int .i64 0), ?_⟩; refine hK' _ ?_)); clear hK' K')
    | (refine aopss_upd hT rfl fun K' hK' => ?_; simp only [push_cast, reduceIte, reduceCtorEq, Nat.reduceEqDiff, Nat.reduceLT, Nat.reduceLeDiff, Nat.reduceAdd, Nat.reduceMul, Nat.reduceMod, Nat.reduceDiv, Nat.reduceSub, Int.reduceToNat, b1]; (try simp (disch := omega) only [wrap64, Int.toNat_natCast]); (repeat refine and_rev ?_ ?_); refine hK' _ ?_; clear hK' K')
    | (refine aopss_map T rfl (by simp only [dstOk, Nat.reduceLT]) fun K' hK' => ?_; simp only [push_cast, reduceIte, reduceCtorEq, Nat.reduceEqDiff, Nat.reduceLT, Nat.reduceLeDiff, Nat.reduceAdd, Nat.reduceMul, Nat.reduceMod, Nat.reduceDiv, Nat.reduceSub, Int.reduceToNat, b1]; refine hK' _ ?_; clear hK' K')
    | (refine aopss_skip hT (by rfl) (by rfl) (by simp only [dstOk, Nat.reduceLT]) ?_; simp only [St.put])
    | ((first | refine aopss_nil ?_ | refine aops_nil ?_); first | (refine hKs _ ?_; clear hKs K) | (refine hKr _ ?_; clear hKr K; simp only [push_cast, reduceIte, reduceCtorEq, Nat.reduceEqDiff, Nat.reduceLT, Nat.reduceLeDiff, Nat.reduceAdd, Nat.reduceMul, Nat.reduceMod, Nat.reduceDiv, Nat.reduceSub, Int.reduceToNat]))
    | refine awp_sseq fun K hKs => ?_ | refine awp_s fun K hKr => ?_ | refine awp_dseq hT hm (by decide +kernel) fun K hKs => ?_ | refine awp_d hT hm (by decide +kernel) fun K hKr => ?_
    | refine awp_block ?_ | refine awp_scope ?_ | refine awp_seq ?_ | ((first | refine awp_label ?_ | refine awp_skip ?_ | refine awp_exit ?_ | refine awp_ret ?_); simp only [push_cast, reduceIte, reduceCtorEq, Nat.reduceEqDiff, Nat.reduceLT, Nat.reduceLeDiff, Nat.reduceAdd, Nat.reduceMul, Nat.reduceMod, Nat.reduceDiv, Nat.reduceSub, Int.reduceToNat])
    | (refine awp_cond _ rfl (fun h => ?_) (fun h => ?_) <;> simp only [bh, decide_eq_true_eq, decide_eq_false_iff_not, eq_self, not_true_eq_false, not_false_eq_true, reduceCtorEq, Bool.true_eq_false, Bool.false_eq_true, bne_self_eq_false, beq_self_eq_true] at h))
    all_goals first | omega | exact (fun hh => hh) | (simp only [List.length_take, List.length_drop, List.length_append, List.length_map, List.length_cons, List.length_nil, List.length_replicate, List.length_set]; omega) | (intro hh; (try simp only [hh, Bool.not_false, Bool.not_true, Bool.true_and, Bool.and_true, eq_self, true_and, and_true]); (try simp only [bh, decide_eq_true_eq, decide_eq_false_iff_not] at hh); (first | done | omega | (simp only [List.length_take, List.length_drop, List.length_append, List.length_map, List.length_cons, List.length_nil, List.length_replicate, List.length_set]; omega))) | (intro hh; simp only [hh, Bool.not_false, Bool.not_true, Bool.true_and, Bool.and_true, eq_self, true_and, and_true]; intro h2; simp only [h2, Bool.not_false, Bool.not_true]; done) | (exact rfl) | skip
    all_goals done
end Go.Proofs.Ytjilboaofggppaa
