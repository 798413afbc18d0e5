/- Part of a proof about the given program: contracts of its functions (see the comment of the last text). -/
import Derived.Test.YtgcomonjkcpkaaaPtF
import Derived.Test.YtgcomonjkcpkaaaPuM
import Derived.Test.YtgcomonjkcpkaaaPuP
namespace Go.Proofs.Ytgcomonjkcpkaaa
open Go.Eng Go.Proofs
set_option linter.unusedSimpArgs false
set_option linter.unusedVariables false
attribute [local irreducible] AOps AOpsX AOps2 AOpsF AAny AWP zTab zFound zRow

theorem work_len (ds : List Du) (ps : List Pn) (l : List Mt) : (workF ds ps l).length = ds.length := by simp [workF]
theorem subMsT (l : List Mt) : Sub (avMsT l) (avMs l) := sub_fresh
set_option maxRecDepth 20000 in
set_option maxHeartbeats 64000000 in
theorem ref_ok (ds : List Du) (ps : List Pn) (l : List Mt) (hds : (∀ p ∈ ds, okD p) ∧ ds.length ≤ maxLen) (hps : (∀ p ∈ ps, okP p) ∧ ps.length ≤ maxLen) (hls : (∀ p ∈ l, okM p) ∧ l.length ≤ maxLen) : Pure Try.prog 3 [avDs ds, avPs ps, avMs l] (BL true) := by
  have hmd := hds.2
  have hmp := hps.2
  have hml := hls.2
  clear hds hps hls
  simp only [maxLen] at hml
  have hsh := short_ok ds ps
  refine pure_of (n := 111) (res := [.tmp 6]) hT Try.func3 rfl rfl rfl Try.ntmps3 (Nat.le_of_ble_eq_true rfl) fun B w0 => ?_
  by_cases hs : ds.length ≤ 26 ∧ ps.length ≤ 62
  · rw [decide_eq_true hs] at hsh
    by_cases hl : l.length ≤ 200
    · have bl : decide (200 < (l.length : Int)) = false := decide_eq_false (by omega)
      have hS0 := (same_ok [] [] (by decide) (by decide)).sub (xs := [.v (.slice none 0 0), .v (.slice none 0 0)]) ⟨sub_nil', sub_nil', trivial⟩
      rw [decide_eq_true rfl] at hS0
      have hI0 := (sameI_ok [] [] (by decide) (by decide)).sub (xs := [.v (.slice none 0 0), .v (.slice none 0 0)]) ⟨sub_nil', sub_nil', trivial⟩
      rw [decide_eq_true rfl] at hI0
      by_cases hu : usF ds ps = 0
      · obtain ⟨u1, u2, u3, u4, u5⟩ := us_zero hu
        have hP := pair_ok ds ps hu
        have hR := rpair_ok ds ps hu
        have hal := al_pair ds ps
        have hpl : (pathF (marksF 0 ds) ps).length ≤ 200 := Nat.le_trans (path_len _ _ _) (by rw [marks_len]; omega)
        have hWp := worked_ok ds ps (pathF (marksF 0 ds) ps) hu (by omega) hal
        have hQp := rworked_ok ds ps (pathF (marksF 0 ds) ps) hu (by omega) hal
        have hSp := same_ok (pathF (marksF 0 ds) ps) (pathF (marksF 0 ds) ps) (by omega) (by omega)
        rw [decide_eq_true rfl] at hSp
        have hIp := sameI_ok (workF ds ps (pathF (marksF 0 ds) ps)) (workF ds ps (pathF (marksF 0 ds) ps)) (by rw [work_len]; omega) (by rw [work_len]; omega)
        rw [decide_eq_true rfl] at hIp
        clear hal
        cases ha : alI (marksF 0 ds) ps.length 0 0 l with
        | true =>
          have hWl := worked_ok ds ps l hu (by omega) ha
          have hQl := rworked_ok ds ps l hu (by omega) ha
          have hIl := sameI_ok (workF ds ps l) (workF ds ps l) (by rw [work_len]; omega) (by rw [work_len]; omega)
          rw [decide_eq_true rfl] at hIl
          clear hS0 hI0
          generalize pathF (marksF 0 ds) ps = P at *
          generalize workF ds ps P = WP at *
          generalize workF ds ps l = WL at *
          generalize D (marksF 0 ds) ps = dd at *
          repeat' (first
    | ((first | refine aopsx_cons (by rfl) fun K' hK' => ?_ | refine aops_cons (by rfl) fun K' hK' => ?_); simp only [push_cast, reduceIte, reduceCtorEq, Nat.reduceEqDiff, Nat.reduceLT, Nat.reduceLeDiff, Nat.reduceAdd, Nat.reduceMul, Nat.reduceMod, Nat.reduceDiv, Nat.reduceSub, Int.reduceToNat, bl, beq_self_eq_true]; (try simp (disch := omega) only [wrap64, Int.toNat_natCast]); (repeat refine and_rev ?_ ?_); (first | refine hK' _ ?_ | ((first | refine ⟨_, ⟨(by first | exact head_ok | exact hsh | exact hP | exact hR | exact hWl | exact hQl | exact hWp | exact hQp | exact hSp | exact hIl | exact hIp), (by first | exact .inr rfl | exact .inl (by simp [AV.fresh, AV.freshL]))⟩, ?_⟩ | refine ⟨_, fun hb => ⟨(by first | exact head_ok | exact hsh | exact hP | exact hR | exact hWl | exact hQl | exact hWp | exact hQp | exact hSp | exact hIl | exact hIp), (by first | exact .inr rfl | exact .inl (by simp [AV.fresh, AV.freshL]))⟩, ?_⟩); (try simp only [push_cast, reduceIte, reduceCtorEq, Nat.reduceEqDiff, Nat.reduceLT, Nat.reduceLeDiff, Nat.reduceAdd, Nat.reduceMul, Nat.reduceMod, Nat.reduceDiv, Nat.reduceSub, Int.reduceToNat, bl, beq_self_eq_true]); (try simp (disch := omega) only [wrap64, Int.toNat_natCast]); (repeat refine and_rev ?_ ?_); refine hK' _ ?_) | (refine ⟨.v (.int .i64 0), ?_⟩; refine hK' _ ?_)); clear hK' K')
    | (refine aopsx_skip (by rfl) (by rfl) (by simp only [dstOk, Nat.reduceLT]) ?_; simp only [St.put])
    | ((first | refine aopsx_nil ?_ | refine aops_nil ?_); first | (refine hKs _ ?_; clear hKs K) | (refine hKr _ ?_; clear hKr K; simp only [push_cast, reduceIte, reduceCtorEq, Nat.reduceEqDiff, Nat.reduceLT, Nat.reduceLeDiff, Nat.reduceAdd, Nat.reduceMul, Nat.reduceMod, Nat.reduceDiv, Nat.reduceSub, Int.reduceToNat]))
    | refine awp_xseq hT fun K hKs => ?_ | refine awp_x hT fun K hKr => ?_ | refine awp_dseq hT hm (by decide +kernel) fun K hKs => ?_ | refine awp_d hT hm (by decide +kernel) fun K hKr => ?_
    | refine awp_block ?_ | refine awp_scope ?_ | refine awp_seq ?_ | ((first | refine awp_label ?_ | refine awp_skip ?_ | refine awp_exit ?_ | refine awp_ret ?_); simp only [push_cast, reduceIte, reduceCtorEq, Nat.reduceEqDiff, Nat.reduceLT, Nat.reduceLeDiff, Nat.reduceAdd, Nat.reduceMul, Nat.reduceMod, Nat.reduceDiv, Nat.reduceSub, Int.reduceToNat])
    | (refine awp_cond _ rfl (fun h => ?_) (fun h => ?_) <;> simp only [bh, decide_eq_true_eq, decide_eq_false_iff_not, eq_self, not_true_eq_false, not_false_eq_true, reduceCtorEq, Bool.true_eq_false, Bool.false_eq_true, bne_self_eq_false, beq_self_eq_true] at h))
          all_goals first | omega | exact (fun hh => hh) | (simp only [List.length_take, List.length_drop, List.length_append, List.length_map, List.length_cons, List.length_nil, List.length_replicate, List.length_set]; omega) | (intro hh; (try simp only [hh, Bool.not_false, Bool.not_true, Bool.true_and, Bool.and_true, eq_self, true_and, and_true]); (try simp only [bh, decide_eq_true_eq, decide_eq_false_iff_not] at hh); (first | done | omega | (simp only [List.length_take, List.length_drop, List.length_append, List.length_map, List.length_cons, List.length_nil, List.length_replicate, List.length_set]; omega))) | (intro hh; simp only [hh, Bool.not_false, Bool.not_true, Bool.true_and, Bool.and_true, eq_self, true_and, and_true]; intro h2; simp only [h2, Bool.not_false, Bool.not_true]; done) | (exact rfl) | skip
        | false =>
          have hWl := worked_bad ds ps l hu (by omega) ha
          have hQl := rworked_bad ds ps l hu (by omega) ha
          clear hS0
          generalize pathF (marksF 0 ds) ps = P at *
          generalize workF ds ps P = WP at *
          generalize D (marksF 0 ds) ps = dd at *
          repeat' (first
    | ((first | refine aopsx_cons (by rfl) fun K' hK' => ?_ | refine aops_cons (by rfl) fun K' hK' => ?_); simp only [push_cast, reduceIte, reduceCtorEq, Nat.reduceEqDiff, Nat.reduceLT, Nat.reduceLeDiff, Nat.reduceAdd, Nat.reduceMul, Nat.reduceMod, Nat.reduceDiv, Nat.reduceSub, Int.reduceToNat, bl, beq_self_eq_true]; (try simp (disch := omega) only [wrap64, Int.toNat_natCast]); (repeat refine and_rev ?_ ?_); (first | refine hK' _ ?_ | ((first | refine ⟨_, ⟨(by first | exact head_ok | exact hsh | exact hP | exact hR | exact hWl | exact hQl | exact hWp | exact hQp | exact hSp | exact hI0 | exact hIp), (by first | exact .inr rfl | exact .inl (by simp [AV.fresh, AV.freshL]))⟩, ?_⟩ | refine ⟨_, fun hb => ⟨(by first | exact head_ok | exact hsh | exact hP | exact hR | exact hWl | exact hQl | exact hWp | exact hQp | exact hSp | exact hI0 | exact hIp), (by first | exact .inr rfl | exact .inl (by simp [AV.fresh, AV.freshL]))⟩, ?_⟩); (try simp only [push_cast, reduceIte, reduceCtorEq, Nat.reduceEqDiff, Nat.reduceLT, Nat.reduceLeDiff, Nat.reduceAdd, Nat.reduceMul, Nat.reduceMod, Nat.reduceDiv, Nat.reduceSub, Int.reduceToNat, bl, beq_self_eq_true]); (try simp (disch := omega) only [wrap64, Int.toNat_natCast]); (repeat refine and_rev ?_ ?_); refine hK' _ ?_) | (refine ⟨.v (.int .i64 0), ?_⟩; refine hK' _ ?_)); clear hK' K')
    | (refine aopsx_skip (by rfl) (by rfl) (by simp only [dstOk, Nat.reduceLT]) ?_; simp only [St.put])
    | ((first | refine aopsx_nil ?_ | refine aops_nil ?_); first | (refine hKs _ ?_; clear hKs K) | (refine hKr _ ?_; clear hKr K; simp only [push_cast, reduceIte, reduceCtorEq, Nat.reduceEqDiff, Nat.reduceLT, Nat.reduceLeDiff, Nat.reduceAdd, Nat.reduceMul, Nat.reduceMod, Nat.reduceDiv, Nat.reduceSub, Int.reduceToNat]))
    | refine awp_xseq hT fun K hKs => ?_ | refine awp_x hT fun K hKr => ?_ | refine awp_dseq hT hm (by decide +kernel) fun K hKs => ?_ | refine awp_d hT hm (by decide +kernel) fun K hKr => ?_
    | refine awp_block ?_ | refine awp_scope ?_ | refine awp_seq ?_ | ((first | refine awp_label ?_ | refine awp_skip ?_ | refine awp_exit ?_ | refine awp_ret ?_); simp only [push_cast, reduceIte, reduceCtorEq, Nat.reduceEqDiff, Nat.reduceLT, Nat.reduceLeDiff, Nat.reduceAdd, Nat.reduceMul, Nat.reduceMod, Nat.reduceDiv, Nat.reduceSub, Int.reduceToNat])
    | (refine awp_cond _ rfl (fun h => ?_) (fun h => ?_) <;> simp only [bh, decide_eq_true_eq, decide_eq_false_iff_not, eq_self, not_true_eq_false, not_false_eq_true, reduceCtorEq, Bool.true_eq_false, Bool.false_eq_true, bne_self_eq_false, beq_self_eq_true] at h))
          all_goals first | omega | exact (fun hh => hh) | (simp only [List.length_take, List.length_drop, List.length_append, List.length_map, List.length_cons, List.length_nil, List.length_replicate, List.length_set]; omega) | (intro hh; (try simp only [hh, Bool.not_false, Bool.not_true, Bool.true_and, Bool.and_true, eq_self, true_and, and_true]); (try simp only [bh, decide_eq_true_eq, decide_eq_false_iff_not] at hh); (first | done | omega | (simp only [List.length_take, List.length_drop, List.length_append, List.length_map, List.length_cons, List.length_nil, List.length_replicate, List.length_set]; omega))) | (intro hh; simp only [hh, Bool.not_false, Bool.not_true, Bool.true_and, Bool.and_true, eq_self, true_and, and_true]; intro h2; simp only [h2, Bool.not_false, Bool.not_true]; done) | (exact rfl) | skip
      · have hP := pair_no ds ps hmd hmp hu
        have hR := rpair_no ds ps hmd hmp hu
        have hWl := worked_no ds ps l hmd hmp hu
        have hQl := rworked_no ds ps l hmd hmp hu
        have hWp := (worked_no ds ps [] hmd hmp hu).sub (xs := [avDs ds, avPs ps, .v (.slice none 0 0)]) ⟨Sub.refl _, Sub.refl _, sub_nil', trivial⟩
        have hQp := (rworked_no ds ps [] hmd hmp hu).sub (xs := [avDs ds, avPs ps, .v (.slice none 0 0)]) ⟨Sub.refl _, Sub.refl _, sub_nil', trivial⟩
        generalize usF ds ps = uu at *
        repeat' (first
    | ((first | refine aopsx_cons (by rfl) fun K' hK' => ?_ | refine aops_cons (by rfl) fun K' hK' => ?_); simp only [push_cast, reduceIte, reduceCtorEq, Nat.reduceEqDiff, Nat.reduceLT, Nat.reduceLeDiff, Nat.reduceAdd, Nat.reduceMul, Nat.reduceMod, Nat.reduceDiv, Nat.reduceSub, Int.reduceToNat, bl, beq_self_eq_true]; (try simp (disch := omega) only [wrap64, Int.toNat_natCast]); (repeat refine and_rev ?_ ?_); (first | refine hK' _ ?_ | ((first | refine ⟨_, ⟨(by first | exact head_ok | exact hsh | exact hP | exact hR | exact hWl | exact hQl | exact hWp | exact hQp | exact hS0 | exact hI0), (by first | exact .inr rfl | exact .inl (by simp [AV.fresh, AV.freshL]))⟩, ?_⟩ | refine ⟨_, fun hb => ⟨(by first | exact head_ok | exact hsh | exact hP | exact hR | exact hWl | exact hQl | exact hWp | exact hQp | exact hS0 | exact hI0), (by first | exact .inr rfl | exact .inl (by simp [AV.fresh, AV.freshL]))⟩, ?_⟩); (try simp only [push_cast, reduceIte, reduceCtorEq, Nat.reduceEqDiff, Nat.reduceLT, Nat.reduceLeDiff, Nat.reduceAdd, Nat.reduceMul, Nat.reduceMod, Nat.reduceDiv, Nat.reduceSub, Int.reduceToNat, bl, beq_self_eq_true]); (try simp (disch := omega) only [wrap64, Int.toNat_natCast]); (repeat refine and_rev ?_ ?_); refine hK' _ ?_) | (refine ⟨.v (.int .i64 0), ?_⟩; refine hK' _ ?_)); clear hK' K')
    | (refine aopsx_skip (by rfl) (by rfl) (by simp only [dstOk, Nat.reduceLT]) ?_; simp only [St.put])
    | ((first | refine aopsx_nil ?_ | refine aops_nil ?_); first | (refine hKs _ ?_; clear hKs K) | (refine hKr _ ?_; clear hKr K; simp only [push_cast, reduceIte, reduceCtorEq, Nat.reduceEqDiff, Nat.reduceLT, Nat.reduceLeDiff, Nat.reduceAdd, Nat.reduceMul, Nat.reduceMod, Nat.reduceDiv, Nat.reduceSub, Int.reduceToNat]))
    | refine awp_xseq hT fun K hKs => ?_ | refine awp_x hT fun K hKr => ?_ | refine awp_dseq hT hm (by decide +kernel) fun K hKs => ?_ | refine awp_d hT hm (by decide +kernel) fun K hKr => ?_
    | refine awp_block ?_ | refine awp_scope ?_ | refine awp_seq ?_ | ((first | refine awp_label ?_ | refine awp_skip ?_ | refine awp_exit ?_ | refine awp_ret ?_); simp only [push_cast, reduceIte, reduceCtorEq, Nat.reduceEqDiff, Nat.reduceLT, Nat.reduceLeDiff, Nat.reduceAdd, Nat.reduceMul, Nat.reduceMod, Nat.reduceDiv, Nat.reduceSub, Int.reduceToNat])
    | (refine awp_cond _ rfl (fun h => ?_) (fun h => ?_) <;> simp only [bh, decide_eq_true_eq, decide_eq_false_iff_not, eq_self, not_true_eq_false, not_false_eq_true, reduceCtorEq, Bool.true_eq_false, Bool.false_eq_true, bne_self_eq_false, beq_self_eq_true] at h))
        all_goals first | omega | exact (fun hh => hh) | (simp only [List.length_take, List.length_drop, List.length_append, List.length_map, List.length_cons, List.length_nil, List.length_replicate, List.length_set]; omega) | (intro hh; (try simp only [hh, Bool.not_false, Bool.not_true, Bool.true_and, Bool.and_true, eq_self, true_and, and_true]); (try simp only [bh, decide_eq_true_eq, decide_eq_false_iff_not] at hh); (first | done | omega | (simp only [List.length_take, List.length_drop, List.length_append, List.length_map, List.length_cons, List.length_nil, List.length_replicate, List.length_set]; omega))) | (intro hh; simp only [hh, Bool.not_false, Bool.not_true, Bool.true_and, Bool.and_true, eq_self, true_and, and_true]; intro h2; simp only [h2, Bool.not_false, Bool.not_true]; done) | (exact rfl) | skip
    · have bl : decide (200 < (l.length : Int)) = true := decide_eq_true (by omega)
      repeat' (first
    | ((first | refine aopsx_cons (by rfl) fun K' hK' => ?_ | refine aops_cons (by rfl) fun K' hK' => ?_); simp only [push_cast, reduceIte, reduceCtorEq, Nat.reduceEqDiff, Nat.reduceLT, Nat.reduceLeDiff, Nat.reduceAdd, Nat.reduceMul, Nat.reduceMod, Nat.reduceDiv, Nat.reduceSub, Int.reduceToNat, bl]; (try simp (disch := omega) only [wrap64, Int.toNat_natCast]); (repeat refine and_rev ?_ ?_); (first | refine hK' _ ?_ | ((first | refine ⟨_, ⟨(by first | exact head_ok | exact hsh), (by first | exact .inr rfl | exact .inl (by simp [AV.fresh, AV.freshL]))⟩, ?_⟩ | refine ⟨_, fun hb => ⟨(by first | exact head_ok | exact hsh), (by first | exact .inr rfl | exact .inl (by simp [AV.fresh, AV.freshL]))⟩, ?_⟩); (try simp only [push_cast, reduceIte, reduceCtorEq, Nat.reduceEqDiff, Nat.reduceLT, Nat.reduceLeDiff, Nat.reduceAdd, Nat.reduceMul, Nat.reduceMod, Nat.reduceDiv, Nat.reduceSub, Int.reduceToNat, bl]); (try simp (disch := omega) only [wrap64, Int.toNat_natCast]); (repeat refine and_rev ?_ ?_); refine hK' _ ?_) | (refine ⟨.v (.int .i64 0), ?_⟩; refine hK' _ ?_)); clear hK' K')
    | (refine aopsx_skip (by rfl) (by rfl) (by simp only [dstOk, Nat.reduceLT]) ?_; simp only [St.put])
    | ((first | refine aopsx_nil ?_ | refine aops_nil ?_); first | (refine hKs _ ?_; clear hKs K) | (refine hKr _ ?_; clear hKr K; simp only [push_cast, reduceIte, reduceCtorEq, Nat.reduceEqDiff, Nat.reduceLT, Nat.reduceLeDiff, Nat.reduceAdd, Nat.reduceMul, Nat.reduceMod, Nat.reduceDiv, Nat.reduceSub, Int.reduceToNat]))
    | refine awp_xseq hT fun K hKs => ?_ | refine awp_x hT fun K hKr => ?_ | refine awp_dseq hT hm (by decide +kernel) fun K hKs => ?_ | refine awp_d hT hm (by decide +kernel) fun K hKr => ?_
    | refine awp_block ?_ | refine awp_scope ?_ | refine awp_seq ?_ | ((first | refine awp_label ?_ | refine awp_skip ?_ | refine awp_exit ?_ | refine awp_ret ?_); simp only [push_cast, reduceIte, reduceCtorEq, Nat.reduceEqDiff, Nat.reduceLT, Nat.reduceLeDiff, Nat.reduceAdd, Nat.reduceMul, Nat.reduceMod, Nat.reduceDiv, Nat.reduceSub, Int.reduceToNat])
    | (refine awp_cond _ rfl (fun h => ?_) (fun h => ?_) <;> simp only [bh, decide_eq_true_eq, decide_eq_false_iff_not, eq_self, not_true_eq_false, not_false_eq_true, reduceCtorEq, Bool.true_eq_false, Bool.false_eq_true, bne_self_eq_false, beq_self_eq_true] at h))
      all_goals first | omega | exact (fun hh => hh) | (simp only [List.length_take, List.length_drop, List.length_append, List.length_map, List.length_cons, List.length_nil, List.length_replicate, List.length_set]; omega) | (intro hh; (try simp only [hh, Bool.not_false, Bool.not_true, Bool.true_and, Bool.and_true, eq_self, true_and, and_true]); (try simp only [bh, decide_eq_true_eq, decide_eq_false_iff_not] at hh); (first | done | omega | (simp only [List.length_take, List.length_drop, List.length_append, List.length_map, List.length_cons, List.length_nil, List.length_replicate, List.length_set]; omega))) | (intro hh; simp only [hh, Bool.not_false, Bool.not_true, Bool.true_and, Bool.and_true, eq_self, true_and, and_true]; intro h2; simp only [h2, Bool.not_false, Bool.not_true]; done) | (exact rfl) | skip
  · rw [decide_eq_false hs] at hsh
    repeat' (first
    | ((first | refine aopsx_cons (by rfl) fun K' hK' => ?_ | refine aops_cons (by rfl) fun K' hK' => ?_); simp only [push_cast, reduceIte, reduceCtorEq, Nat.reduceEqDiff, Nat.reduceLT, Nat.reduceLeDiff, Nat.reduceAdd, Nat.reduceMul, Nat.reduceMod, Nat.reduceDiv, Nat.reduceSub, Int.reduceToNat]; (try simp (disch := omega) only [wrap64, Int.toNat_natCast]); (repeat refine and_rev ?_ ?_); (first | refine hK' _ ?_ | ((first | refine ⟨_, ⟨(by first | exact head_ok | exact hsh), (by first | exact .inr rfl | exact .inl (by simp [AV.fresh, AV.freshL]))⟩, ?_⟩ | refine ⟨_, fun hb => ⟨(by first | exact head_ok | exact hsh), (by first | exact .inr rfl | exact .inl (by simp [AV.fresh, AV.freshL]))⟩, ?_⟩); (try simp only [push_cast, reduceIte, reduceCtorEq, Nat.reduceEqDiff, Nat.reduceLT, Nat.reduceLeDiff, Nat.reduceAdd, Nat.reduceMul, Nat.reduceMod, Nat.reduceDiv, Nat.reduceSub, Int.reduceToNat]); (try simp (disch := omega) only [wrap64, Int.toNat_natCast]); (repeat refine and_rev ?_ ?_); refine hK' _ ?_) | (refine ⟨.v (.int .i64 0), ?_⟩; refine hK' _ ?_)); clear hK' K')
    | (refine aopsx_skip (by rfl) (by rfl) (by simp only [dstOk, Nat.reduceLT]) ?_; simp only [St.put])
    | ((first | refine aopsx_nil ?_ | refine aops_nil ?_); first | (refine hKs _ ?_; clear hKs K) | (refine hKr _ ?_; clear hKr K; simp only [push_cast, reduceIte, reduceCtorEq, Nat.reduceEqDiff, Nat.reduceLT, Nat.reduceLeDiff, Nat.reduceAdd, Nat.reduceMul, Nat.reduceMod, Nat.reduceDiv, Nat.reduceSub, Int.reduceToNat]))
    | refine awp_xseq hT fun K hKs => ?_ | refine awp_x hT fun K hKr => ?_ | refine awp_dseq hT hm (by decide +kernel) fun K hKs => ?_ | refine awp_d hT hm (by decide +kernel) fun K hKr => ?_
    | refine awp_block ?_ | refine awp_scope ?_ | refine awp_seq ?_ | ((first | refine awp_label ?_ | refine awp_skip ?_ | refine awp_exit ?_ | refine awp_ret ?_); simp only [push_cast, reduceIte, reduceCtorEq, Nat.reduceEqDiff, Nat.reduceLT, Nat.reduceLeDiff, Nat.reduceAdd, Nat.reduceMul, Nat.reduceMod, Nat.reduceDiv, Nat.reduceSub, Int.reduceToNat])
    | (refine awp_cond _ rfl (fun h => ?_) (fun h => ?_) <;> simp only [bh, decide_eq_true_eq, decide_eq_false_iff_not, eq_self, not_true_eq_false, not_false_eq_true, reduceCtorEq, Bool.true_eq_false, Bool.false_eq_true, bne_self_eq_false, beq_self_eq_true] at h))
    all_goals first | omega | exact (fun hh => hh) | (simp only [List.length_take, List.length_drop, List.length_append, List.length_map, List.length_cons, List.length_nil, List.length_replicate, List.length_set]; omega) | (intro hh; (try simp only [hh, Bool.not_false, Bool.not_true, Bool.true_and, Bool.and_true, eq_self, true_and, and_true]); (try simp only [bh, decide_eq_true_eq, decide_eq_false_iff_not] at hh); (first | done | omega | (simp only [List.length_take, List.length_drop, List.length_append, List.length_map, List.length_cons, List.length_nil, List.length_replicate, List.length_set]; omega))) | (intro hh; simp only [hh, Bool.not_false, Bool.not_true, Bool.true_and, Bool.and_true, eq_self, true_and, and_true]; intro h2; simp only [h2, Bool.not_false, Bool.not_true]; done) | (exact rfl) | skip
end Go.Proofs.Ytgcomonjkcpkaaa
