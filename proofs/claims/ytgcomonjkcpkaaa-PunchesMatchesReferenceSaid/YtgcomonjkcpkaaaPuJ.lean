/- Part of a proof about the given program: contracts of its functions (see the comment of the last text). -/
import Derived.Test.YtgcomonjkcpkaaaPuH
namespace Go.Proofs.Ytgcomonjkcpkaaa
open Go.Eng Go.Proofs
set_option linter.unusedSimpArgs false
set_option linter.unusedVariables false
attribute [local irreducible] AOps AOpsX AOps2 AOpsF AAny AWP zTab zFound zRow

/-- Matches are an alignment, from a mark and a punch on. -/
def alI (mks : List Mk) (P : Nat) : Nat → Nat → List Mt → Bool
  | i, k, [] => decide (i = mks.length ∧ k = P)
  | i, k, m :: r =>
    if m.d = -1 then
      if m.i = true ∨ m.p = -1 then false
      else if P ≤ k ∨ m.p ≠ k then false else alI mks P i (k + 1) r
    else if mks.length ≤ i ∨ m.d ≠ (mks.getD i default).d ∨ m.i ≠ (mks.getD i default).i then false
    else if m.p = -1 then alI mks P (i + 1) k r
    else if P ≤ k ∨ m.p ≠ k then false else alI mks P (i + 1) (k + 1) r
theorem al_bound {mks : List Mk} {P : Nat} : ∀ (l : List Mt) (i k : Nat), alI mks P i k l = true → ∀ m ∈ l, m.p ≠ -1 → 0 ≤ m.p ∧ m.p < P
  | [], _, _, _, m, hm', _ => by cases hm'
  | x :: r, i, k, h, m, hm', hp => by
    rw [alI] at h
    split at h
    · split at h
      · cases h
      · split at h
        · cases h
        · rename_i h1 h2 h3
          rcases List.mem_cons.1 hm' with rfl | hm'
          · omega
          · exact al_bound r i (k + 1) h m hm' hp
    · split at h
      · cases h
      · split at h
        · rename_i h1 h2 h3
          rcases List.mem_cons.1 hm' with rfl | hm'
          · exact absurd h3 hp
          · exact al_bound r (i + 1) k h m hm' hp
        · split at h
          · cases h
          · rename_i h1 h2 h3 h4
            rcases List.mem_cons.1 hm' with rfl | hm'
            · omega
            · exact al_bound r (i + 1) (k + 1) h m hm' hp

set_option maxHeartbeats 16000000 in
theorem aligned_ok (mks : List Mk) (ps : List Pn) (l : List Mt) (h1 : mks.length ≤ 1000) (h2 : ps.length ≤ 1000) (h3 : l.length ≤ 1000000) : Pure Try.prog 31 [avKs mks, avPs ps, avMs l] (BL (alI mks ps.length 0 0 l)) := by
  refine pure_of (n := 79) (res := [.tmp 6]) hT Try.func31 rfl rfl rfl Try.ntmps31 (Nat.le_of_ble_eq_true rfl) fun B w0 => ?_
  repeat' (first
    | ((first | refine aopsx_cons (by rfl) fun K' hK' => ?_ | refine aops_cons (by rfl) fun K' hK' => ?_); simp only [push_cast, reduceIte, reduceCtorEq, Nat.reduceEqDiff, Nat.reduceLT, Nat.reduceLeDiff, Nat.reduceAdd, Nat.reduceMul, Nat.reduceMod, Nat.reduceDiv, Nat.reduceSub, Int.reduceToNat]; (try simp (disch := omega) only [wrap64, Int.toNat_natCast]); (repeat refine and_rev ?_ ?_); (first | refine hK' _ ?_ | (refine ⟨.v (.int .i64 0), ?_⟩; refine hK' _ ?_)); clear hK' K')
    | (refine aopsx_skip (by rfl) (by rfl) (by simp only [dstOk, Nat.reduceLT]) ?_; simp only [St.put])
    | ((first | refine aopsx_nil ?_ | refine aops_nil ?_); first | (refine hKs _ ?_; clear hKs K) | (refine hKr _ ?_; clear hKr K; simp only [push_cast, reduceIte, reduceCtorEq, Nat.reduceEqDiff, Nat.reduceLT, Nat.reduceLeDiff, Nat.reduceAdd, Nat.reduceMul, Nat.reduceMod, Nat.reduceDiv, Nat.reduceSub, Int.reduceToNat]))
    | refine awp_xseq hT fun K hKs => ?_ | refine awp_x hT fun K hKr => ?_ | refine awp_dseq hT hm (by decide +kernel) fun K hKs => ?_ | refine awp_d hT hm (by decide +kernel) fun K hKr => ?_
    | refine awp_block ?_ | refine awp_scope ?_ | refine awp_seq ?_ | ((first | refine awp_label ?_ | refine awp_skip ?_ | refine awp_exit ?_ | refine awp_ret ?_); simp only [push_cast, reduceIte, reduceCtorEq, Nat.reduceEqDiff, Nat.reduceLT, Nat.reduceLeDiff, Nat.reduceAdd, Nat.reduceMul, Nat.reduceMod, Nat.reduceDiv, Nat.reduceSub, Int.reduceToNat])
    | (refine awp_cond _ rfl (fun h => ?_) (fun h => ?_) <;> simp only [bh, decide_eq_true_eq, decide_eq_false_iff_not, eq_self, not_true_eq_false, not_false_eq_true, reduceCtorEq, Bool.true_eq_false, Bool.false_eq_true, bne_self_eq_false, beq_self_eq_true] at h))
  all_goals first | omega | exact (fun hh => hh) | (simp only [List.length_take, List.length_drop, List.length_append, List.length_map, List.length_cons, List.length_nil, List.length_replicate, List.length_set]; omega) | (intro hh; (try simp only [hh, Bool.not_false, Bool.not_true, Bool.true_and, Bool.and_true, eq_self, true_and, and_true]); (try simp only [bh, decide_eq_true_eq, decide_eq_false_iff_not] at hh); (first | done | omega | (simp only [List.length_take, List.length_drop, List.length_append, List.length_map, List.length_cons, List.length_nil, List.length_replicate, List.length_set]; omega))) | (intro hh; simp only [hh, Bool.not_false, Bool.not_true, Bool.true_and, Bool.and_true, eq_self, true_and, and_true]; intro h2; simp only [h2, Bool.not_false, Bool.not_true]; done) | (exact rfl) | skip
  refine awp_loop (α := Nat × Nat × Nat) (fun q => ⟨[(0, avKs mks), (1, avPs ps), (7, I64 q.2.1), (8, I64 q.2.2), (11, avMs l), (12, I64 l.length), (13, I64 q.1)], []⟩) (fun q => q.1 ≤ l.length ∧ q.2.1 ≤ mks.length ∧ q.2.2 ≤ ps.length ∧ alI mks ps.length 0 0 l = alI mks ps.length q.2.1 q.2.2 (l.drop q.1)) (fun q => l.length - q.1) (0, 0, 0) ⟨Nat.zero_le _, Nat.zero_le _, Nat.zero_le _, rfl⟩ (G.wk ⟨rfl, rfl, rfl, rfl, rfl, rfl, rfl, trivial⟩ trivial) fun q hq => ?_
  obtain ⟨j, i, k⟩ := q
  simp only at hq ⊢
  obtain ⟨g1, g2, g3, g4⟩ := hq
  rw [g4]
  by_cases hlt : j < l.length
  · have hd : l.drop j = l.getD j default :: l.drop (j + 1) := by rw [List.drop_eq_getElem_cons hlt]; simp [List.getD_eq_getElem?_getD, hlt]
    rw [hd, alI] at g4
    rw [hd, alI]
    by_cases c1 : (l.getD j default).d = -1
    · rw [if_pos c1] at g4
      rw [if_pos c1]
      have b1 : ((l.getD j default).d == -1) = true := beq_iff_eq.2 c1
      by_cases c2 : (l.getD j default).i = true
      · rw [if_pos (.inl c2)]
        repeat' (first
    | ((first | refine aopsx_cons (by rfl) fun K' hK' => ?_ | refine aops_cons (by rfl) fun K' hK' => ?_); simp only [push_cast, reduceIte, reduceCtorEq, Nat.reduceEqDiff, Nat.reduceLT, Nat.reduceLeDiff, Nat.reduceAdd, Nat.reduceMul, Nat.reduceMod, Nat.reduceDiv, Nat.reduceSub, Int.reduceToNat, b1, c2]; (try simp (disch := omega) only [wrap64, Int.toNat_natCast]); (repeat refine and_rev ?_ ?_); (first | refine hK' _ ?_ | (refine ⟨.v (.int .i64 0), ?_⟩; refine hK' _ ?_)); clear hK' K')
    | (refine aopsx_skip (by rfl) (by rfl) (by simp only [dstOk, Nat.reduceLT]) ?_; simp only [St.put])
    | ((first | refine aopsx_nil ?_ | refine aops_nil ?_); first | (refine hKs _ ?_; clear hKs K) | (refine hKr _ ?_; clear hKr K; simp only [push_cast, reduceIte, reduceCtorEq, Nat.reduceEqDiff, Nat.reduceLT, Nat.reduceLeDiff, Nat.reduceAdd, Nat.reduceMul, Nat.reduceMod, Nat.reduceDiv, Nat.reduceSub, Int.reduceToNat]))
    | refine awp_xseq hT fun K hKs => ?_ | refine awp_x hT fun K hKr => ?_ | refine awp_dseq hT hm (by decide +kernel) fun K hKs => ?_ | refine awp_d hT hm (by decide +kernel) fun K hKr => ?_
    | refine awp_block ?_ | refine awp_scope ?_ | refine awp_seq ?_ | ((first | refine awp_label ?_ | refine awp_skip ?_ | refine awp_exit ?_ | refine awp_ret ?_); simp only [push_cast, reduceIte, reduceCtorEq, Nat.reduceEqDiff, Nat.reduceLT, Nat.reduceLeDiff, Nat.reduceAdd, Nat.reduceMul, Nat.reduceMod, Nat.reduceDiv, Nat.reduceSub, Int.reduceToNat])
    | (refine awp_cond _ rfl (fun h => ?_) (fun h => ?_) <;> simp only [bh, decide_eq_true_eq, decide_eq_false_iff_not, eq_self, not_true_eq_false, not_false_eq_true, reduceCtorEq, Bool.true_eq_false, Bool.false_eq_true, bne_self_eq_false, beq_self_eq_true] at h))
        all_goals first | omega | exact (fun hh => hh) | (simp only [List.length_take, List.length_drop, List.length_append, List.length_map, List.length_cons, List.length_nil, List.length_replicate, List.length_set]; omega) | (intro hh; (try simp only [hh, Bool.not_false, Bool.not_true, Bool.true_and, Bool.and_true, eq_self, true_and, and_true]); (try simp only [bh, decide_eq_true_eq, decide_eq_false_iff_not] at hh); (first | done | omega | (simp only [List.length_take, List.length_drop, List.length_append, List.length_map, List.length_cons, List.length_nil, List.length_replicate, List.length_set]; omega))) | (intro hh; simp only [hh, Bool.not_false, Bool.not_true, Bool.true_and, Bool.and_true, eq_self, true_and, and_true]; intro h2; simp only [h2, Bool.not_false, Bool.not_true]; done) | (exact rfl) | skip
      · have c2' : (l.getD j default).i = false := by simpa using c2
        by_cases c3 : (l.getD j default).p = -1
        · rw [if_pos (.inr c3)]
          have b3 : ((l.getD j default).p == -1) = true := beq_iff_eq.2 c3
          repeat' (first
    | ((first | refine aopsx_cons (by rfl) fun K' hK' => ?_ | refine aops_cons (by rfl) fun K' hK' => ?_); simp only [push_cast, reduceIte, reduceCtorEq, Nat.reduceEqDiff, Nat.reduceLT, Nat.reduceLeDiff, Nat.reduceAdd, Nat.reduceMul, Nat.reduceMod, Nat.reduceDiv, Nat.reduceSub, Int.reduceToNat, b1, c2', b3]; (try simp (disch := omega) only [wrap64, Int.toNat_natCast]); (repeat refine and_rev ?_ ?_); (first | refine hK' _ ?_ | (refine ⟨.v (.int .i64 0), ?_⟩; refine hK' _ ?_)); clear hK' K')
    | (refine aopsx_skip (by rfl) (by rfl) (by simp only [dstOk, Nat.reduceLT]) ?_; simp only [St.put])
    | ((first | refine aopsx_nil ?_ | refine aops_nil ?_); first | (refine hKs _ ?_; clear hKs K) | (refine hKr _ ?_; clear hKr K; simp only [push_cast, reduceIte, reduceCtorEq, Nat.reduceEqDiff, Nat.reduceLT, Nat.reduceLeDiff, Nat.reduceAdd, Nat.reduceMul, Nat.reduceMod, Nat.reduceDiv, Nat.reduceSub, Int.reduceToNat]))
    | refine awp_xseq hT fun K hKs => ?_ | refine awp_x hT fun K hKr => ?_ | refine awp_dseq hT hm (by decide +kernel) fun K hKs => ?_ | refine awp_d hT hm (by decide +kernel) fun K hKr => ?_
    | refine awp_block ?_ | refine awp_scope ?_ | refine awp_seq ?_ | ((first | refine awp_label ?_ | refine awp_skip ?_ | refine awp_exit ?_ | refine awp_ret ?_); simp only [push_cast, reduceIte, reduceCtorEq, Nat.reduceEqDiff, Nat.reduceLT, Nat.reduceLeDiff, Nat.reduceAdd, Nat.reduceMul, Nat.reduceMod, Nat.reduceDiv, Nat.reduceSub, Int.reduceToNat])
    | (refine awp_cond _ rfl (fun h => ?_) (fun h => ?_) <;> simp only [bh, decide_eq_true_eq, decide_eq_false_iff_not, eq_self, not_true_eq_false, not_false_eq_true, reduceCtorEq, Bool.true_eq_false, Bool.false_eq_true, bne_self_eq_false, beq_self_eq_true] at h))
          all_goals first | omega | exact (fun hh => hh) | (simp only [List.length_take, List.length_drop, List.length_append, List.length_map, List.length_cons, List.length_nil, List.length_replicate, List.length_set]; omega) | (intro hh; (try simp only [hh, Bool.not_false, Bool.not_true, Bool.true_and, Bool.and_true, eq_self, true_and, and_true]); (try simp only [bh, decide_eq_true_eq, decide_eq_false_iff_not] at hh); (first | done | omega | (simp only [List.length_take, List.length_drop, List.length_append, List.length_map, List.length_cons, List.length_nil, List.length_replicate, List.length_set]; omega))) | (intro hh; simp only [hh, Bool.not_false, Bool.not_true, Bool.true_and, Bool.and_true, eq_self, true_and, and_true]; intro h2; simp only [h2, Bool.not_false, Bool.not_true]; done) | (exact rfl) | skip
        · have b3 : ((l.getD j default).p == -1) = false := beq_eq_false_iff_ne.2 c3
          have b3' : ((l.getD j default).p != -1) = true := bne_iff_ne.2 c3
          rw [if_neg (by rintro (h | h); exact c2 h; exact c3 h)] at g4
          rw [if_neg (by rintro (h | h); exact c2 h; exact c3 h)]
          by_cases c4 : ps.length ≤ k
          · rw [if_pos (.inl c4)]
            have b4 : decide ((ps.length : Int) ≤ (k : Int)) = true := decide_eq_true (by omega)
            repeat' (first
    | ((first | refine aopsx_cons (by rfl) fun K' hK' => ?_ | refine aops_cons (by rfl) fun K' hK' => ?_); simp only [push_cast, reduceIte, reduceCtorEq, Nat.reduceEqDiff, Nat.reduceLT, Nat.reduceLeDiff, Nat.reduceAdd, Nat.reduceMul, Nat.reduceMod, Nat.reduceDiv, Nat.reduceSub, Int.reduceToNat, b1, c2', b3, b3', b4]; (try simp (disch := omega) only [wrap64, Int.toNat_natCast]); (repeat refine and_rev ?_ ?_); (first | refine hK' _ ?_ | (refine ⟨.v (.int .i64 0), ?_⟩; refine hK' _ ?_)); clear hK' K')
    | (refine aopsx_skip (by rfl) (by rfl) (by simp only [dstOk, Nat.reduceLT]) ?_; simp only [St.put])
    | ((first | refine aopsx_nil ?_ | refine aops_nil ?_); first | (refine hKs _ ?_; clear hKs K) | (refine hKr _ ?_; clear hKr K; simp only [push_cast, reduceIte, reduceCtorEq, Nat.reduceEqDiff, Nat.reduceLT, Nat.reduceLeDiff, Nat.reduceAdd, Nat.reduceMul, Nat.reduceMod, Nat.reduceDiv, Nat.reduceSub, Int.reduceToNat]))
    | refine awp_xseq hT fun K hKs => ?_ | refine awp_x hT fun K hKr => ?_ | refine awp_dseq hT hm (by decide +kernel) fun K hKs => ?_ | refine awp_d hT hm (by decide +kernel) fun K hKr => ?_
    | refine awp_block ?_ | refine awp_scope ?_ | refine awp_seq ?_ | ((first | refine awp_label ?_ | refine awp_skip ?_ | refine awp_exit ?_ | refine awp_ret ?_); simp only [push_cast, reduceIte, reduceCtorEq, Nat.reduceEqDiff, Nat.reduceLT, Nat.reduceLeDiff, Nat.reduceAdd, Nat.reduceMul, Nat.reduceMod, Nat.reduceDiv, Nat.reduceSub, Int.reduceToNat])
    | (refine awp_cond _ rfl (fun h => ?_) (fun h => ?_) <;> simp only [bh, decide_eq_true_eq, decide_eq_false_iff_not, eq_self, not_true_eq_false, not_false_eq_true, reduceCtorEq, Bool.true_eq_false, Bool.false_eq_true, bne_self_eq_false, beq_self_eq_true] at h))
            all_goals first | omega | exact (fun hh => hh) | (simp only [List.length_take, List.length_drop, List.length_append, List.length_map, List.length_cons, List.length_nil, List.length_replicate, List.length_set]; omega) | (intro hh; (try simp only [hh, Bool.not_false, Bool.not_true, Bool.true_and, Bool.and_true, eq_self, true_and, and_true]); (try simp only [bh, decide_eq_true_eq, decide_eq_false_iff_not] at hh); (first | done | omega | (simp only [List.length_take, List.length_drop, List.length_append, List.length_map, List.length_cons, List.length_nil, List.length_replicate, List.length_set]; omega))) | (intro hh; simp only [hh, Bool.not_false, Bool.not_true, Bool.true_and, Bool.and_true, eq_self, true_and, and_true]; intro h2; simp only [h2, Bool.not_false, Bool.not_true]; done) | (exact rfl) | skip
          · have b4 : decide ((ps.length : Int) ≤ (k : Int)) = false := decide_eq_false (by omega)
            by_cases c5 : (l.getD j default).p = k
            · have b5 : ((l.getD j default).p != (k : Int)) = false := by rw [c5]; exact bne_self_eq_false _
              rw [if_neg (by rintro (h | h); exact c4 h; exact h c5)] at g4
              rw [if_neg (by rintro (h | h); exact c4 h; exact h c5)]
              repeat' (first
    | ((first | refine aopsx_cons (by rfl) fun K' hK' => ?_ | refine aops_cons (by rfl) fun K' hK' => ?_); simp only [push_cast, reduceIte, reduceCtorEq, Nat.reduceEqDiff, Nat.reduceLT, Nat.reduceLeDiff, Nat.reduceAdd, Nat.reduceMul, Nat.reduceMod, Nat.reduceDiv, Nat.reduceSub, Int.reduceToNat, b1, c2', b3, b3', b4, b5]; (try simp (disch := omega) only [wrap64, Int.toNat_natCast]); (repeat refine and_rev ?_ ?_); (first | refine hK' _ ?_ | (refine ⟨.v (.int .i64 0), ?_⟩; refine hK' _ ?_)); clear hK' K')
    | (refine aopsx_skip (by rfl) (by rfl) (by simp only [dstOk, Nat.reduceLT]) ?_; simp only [St.put])
    | ((first | refine aopsx_nil ?_ | refine aops_nil ?_); first | (refine hKs _ ?_; clear hKs K) | (refine hKr _ ?_; clear hKr K; simp only [push_cast, reduceIte, reduceCtorEq, Nat.reduceEqDiff, Nat.reduceLT, Nat.reduceLeDiff, Nat.reduceAdd, Nat.reduceMul, Nat.reduceMod, Nat.reduceDiv, Nat.reduceSub, Int.reduceToNat]))
    | refine awp_xseq hT fun K hKs => ?_ | refine awp_x hT fun K hKr => ?_ | refine awp_dseq hT hm (by decide +kernel) fun K hKs => ?_ | refine awp_d hT hm (by decide +kernel) fun K hKr => ?_
    | refine awp_block ?_ | refine awp_scope ?_ | refine awp_seq ?_ | ((first | refine awp_label ?_ | refine awp_skip ?_ | refine awp_exit ?_ | refine awp_ret ?_); simp only [push_cast, reduceIte, reduceCtorEq, Nat.reduceEqDiff, Nat.reduceLT, Nat.reduceLeDiff, Nat.reduceAdd, Nat.reduceMul, Nat.reduceMod, Nat.reduceDiv, Nat.reduceSub, Int.reduceToNat])
    | (refine awp_cond _ rfl (fun h => ?_) (fun h => ?_) <;> simp only [bh, decide_eq_true_eq, decide_eq_false_iff_not, eq_self, not_true_eq_false, not_false_eq_true, reduceCtorEq, Bool.true_eq_false, Bool.false_eq_true, bne_self_eq_false, beq_self_eq_true] at h))
              all_goals first | omega | exact (fun hh => hh) | (simp only [List.length_take, List.length_drop, List.length_append, List.length_map, List.length_cons, List.length_nil, List.length_replicate, List.length_set]; omega) | (intro hh; (try simp only [hh, Bool.not_false, Bool.not_true, Bool.true_and, Bool.and_true, eq_self, true_and, and_true]); (try simp only [bh, decide_eq_true_eq, decide_eq_false_iff_not] at hh); (first | done | omega | (simp only [List.length_take, List.length_drop, List.length_append, List.length_map, List.length_cons, List.length_nil, List.length_replicate, List.length_set]; omega))) | (intro hh; simp only [hh, Bool.not_false, Bool.not_true, Bool.true_and, Bool.and_true, eq_self, true_and, and_true]; intro h2; simp only [h2, Bool.not_false, Bool.not_true]; done) | (exact rfl) | skip
              exact ⟨(j + 1, i, k + 1), ⟨⟨by show j + 1 ≤ _; omega, g2, by show k + 1 ≤ _; omega, by first | exact g4 | exact rfl⟩, by show _ - (j + 1) < _ - j; omega⟩, G.wk ⟨rfl, rfl, rfl, rfl, rfl, rfl, rfl, trivial⟩ trivial⟩
            · have b5 : ((l.getD j default).p != (k : Int)) = true := bne_iff_ne.2 c5
              rw [if_pos (.inr c5)]
              repeat' (first
    | ((first | refine aopsx_cons (by rfl) fun K' hK' => ?_ | refine aops_cons (by rfl) fun K' hK' => ?_); simp only [push_cast, reduceIte, reduceCtorEq, Nat.reduceEqDiff, Nat.reduceLT, Nat.reduceLeDiff, Nat.reduceAdd, Nat.reduceMul, Nat.reduceMod, Nat.reduceDiv, Nat.reduceSub, Int.reduceToNat, b1, c2', b3, b3', b4, b5]; (try simp (disch := omega) only [wrap64, Int.toNat_natCast]); (repeat refine and_rev ?_ ?_); (first | refine hK' _ ?_ | (refine ⟨.v (.int .i64 0), ?_⟩; refine hK' _ ?_)); clear hK' K')
    | (refine aopsx_skip (by rfl) (by rfl) (by simp only [dstOk, Nat.reduceLT]) ?_; simp only [St.put])
    | ((first | refine aopsx_nil ?_ | refine aops_nil ?_); first | (refine hKs _ ?_; clear hKs K) | (refine hKr _ ?_; clear hKr K; simp only [push_cast, reduceIte, reduceCtorEq, Nat.reduceEqDiff, Nat.reduceLT, Nat.reduceLeDiff, Nat.reduceAdd, Nat.reduceMul, Nat.reduceMod, Nat.reduceDiv, Nat.reduceSub, Int.reduceToNat]))
    | refine awp_xseq hT fun K hKs => ?_ | refine awp_x hT fun K hKr => ?_ | refine awp_dseq hT hm (by decide +kernel) fun K hKs => ?_ | refine awp_d hT hm (by decide +kernel) fun K hKr => ?_
    | refine awp_block ?_ | refine awp_scope ?_ | refine awp_seq ?_ | ((first | refine awp_label ?_ | refine awp_skip ?_ | refine awp_exit ?_ | refine awp_ret ?_); simp only [push_cast, reduceIte, reduceCtorEq, Nat.reduceEqDiff, Nat.reduceLT, Nat.reduceLeDiff, Nat.reduceAdd, Nat.reduceMul, Nat.reduceMod, Nat.reduceDiv, Nat.reduceSub, Int.reduceToNat])
    | (refine awp_cond _ rfl (fun h => ?_) (fun h => ?_) <;> simp only [bh, decide_eq_true_eq, decide_eq_false_iff_not, eq_self, not_true_eq_false, not_false_eq_true, reduceCtorEq, Bool.true_eq_false, Bool.false_eq_true, bne_self_eq_false, beq_self_eq_true] at h))
              all_goals first | omega | exact (fun hh => hh) | (simp only [List.length_take, List.length_drop, List.length_append, List.length_map, List.length_cons, List.length_nil, List.length_replicate, List.length_set]; omega) | (intro hh; (try simp only [hh, Bool.not_false, Bool.not_true, Bool.true_and, Bool.and_true, eq_self, true_and, and_true]); (try simp only [bh, decide_eq_true_eq, decide_eq_false_iff_not] at hh); (first | done | omega | (simp only [List.length_take, List.length_drop, List.length_append, List.length_map, List.length_cons, List.length_nil, List.length_replicate, List.length_set]; omega))) | (intro hh; simp only [hh, Bool.not_false, Bool.not_true, Bool.true_and, Bool.and_true, eq_self, true_and, and_true]; intro h2; simp only [h2, Bool.not_false, Bool.not_true]; done) | (exact rfl) | skip
    · have b1 : ((l.getD j default).d == -1) = false := beq_eq_false_iff_ne.2 c1
      rw [if_neg c1] at g4
      rw [if_neg c1]
      by_cases c2 : mks.length ≤ i
      · rw [if_pos (.inl c2)]
        have b2 : decide ((mks.length : Int) ≤ (i : Int)) = true := decide_eq_true (by omega)
        repeat' (first
    | ((first | refine aopsx_cons (by rfl) fun K' hK' => ?_ | refine aops_cons (by rfl) fun K' hK' => ?_); simp only [push_cast, reduceIte, reduceCtorEq, Nat.reduceEqDiff, Nat.reduceLT, Nat.reduceLeDiff, Nat.reduceAdd, Nat.reduceMul, Nat.reduceMod, Nat.reduceDiv, Nat.reduceSub, Int.reduceToNat, b1, b2]; (try simp (disch := omega) only [wrap64, Int.toNat_natCast]); (repeat refine and_rev ?_ ?_); (first | refine hK' _ ?_ | (refine ⟨.v (.int .i64 0), ?_⟩; refine hK' _ ?_)); clear hK' K')
    | (refine aopsx_skip (by rfl) (by rfl) (by simp only [dstOk, Nat.reduceLT]) ?_; simp only [St.put])
    | ((first | refine aopsx_nil ?_ | refine aops_nil ?_); first | (refine hKs _ ?_; clear hKs K) | (refine hKr _ ?_; clear hKr K; simp only [push_cast, reduceIte, reduceCtorEq, Nat.reduceEqDiff, Nat.reduceLT, Nat.reduceLeDiff, Nat.reduceAdd, Nat.reduceMul, Nat.reduceMod, Nat.reduceDiv, Nat.reduceSub, Int.reduceToNat]))
    | refine awp_xseq hT fun K hKs => ?_ | refine awp_x hT fun K hKr => ?_ | refine awp_dseq hT hm (by decide +kernel) fun K hKs => ?_ | refine awp_d hT hm (by decide +kernel) fun K hKr => ?_
    | refine awp_block ?_ | refine awp_scope ?_ | refine awp_seq ?_ | ((first | refine awp_label ?_ | refine awp_skip ?_ | refine awp_exit ?_ | refine awp_ret ?_); simp only [push_cast, reduceIte, reduceCtorEq, Nat.reduceEqDiff, Nat.reduceLT, Nat.reduceLeDiff, Nat.reduceAdd, Nat.reduceMul, Nat.reduceMod, Nat.reduceDiv, Nat.reduceSub, Int.reduceToNat])
    | (refine awp_cond _ rfl (fun h => ?_) (fun h => ?_) <;> simp only [bh, decide_eq_true_eq, decide_eq_false_iff_not, eq_self, not_true_eq_false, not_false_eq_true, reduceCtorEq, Bool.true_eq_false, Bool.false_eq_true, bne_self_eq_false, beq_self_eq_true] at h))
        all_goals first | omega | exact (fun hh => hh) | (simp only [List.length_take, List.length_drop, List.length_append, List.length_map, List.length_cons, List.length_nil, List.length_replicate, List.length_set]; omega) | (intro hh; (try simp only [hh, Bool.not_false, Bool.not_true, Bool.true_and, Bool.and_true, eq_self, true_and, and_true]); (try simp only [bh, decide_eq_true_eq, decide_eq_false_iff_not] at hh); (first | done | omega | (simp only [List.length_take, List.length_drop, List.length_append, List.length_map, List.length_cons, List.length_nil, List.length_replicate, List.length_set]; omega))) | (intro hh; simp only [hh, Bool.not_false, Bool.not_true, Bool.true_and, Bool.and_true, eq_self, true_and, and_true]; intro h2; simp only [h2, Bool.not_false, Bool.not_true]; done) | (exact rfl) | skip
      · have b2 : decide ((mks.length : Int) ≤ (i : Int)) = false := decide_eq_false (by omega)
        by_cases c3 : (l.getD j default).d = (mks.getD i default).d
        · have b3 : ((l.getD j default).d != (mks.getD i default).d) = false := by rw [c3]; exact bne_self_eq_false _
          by_cases c4 : (l.getD j default).i = (mks.getD i default).i
          · have b4 : ((l.getD j default).i == (mks.getD i default).i) = true := beq_iff_eq.2 c4
            rw [if_neg (by rintro (h | h | h); exact c2 h; exact h c3; exact h c4)] at g4
            rw [if_neg (by rintro (h | h | h); exact c2 h; exact h c3; exact h c4)]
            by_cases c5 : (l.getD j default).p = -1
            · have b5 : ((l.getD j default).p != -1) = false := by rw [c5]; rfl
              rw [if_pos c5] at g4
              rw [if_pos c5]
              repeat' (first
    | ((first | refine aopsx_cons (by rfl) fun K' hK' => ?_ | refine aops_cons (by rfl) fun K' hK' => ?_); simp only [push_cast, reduceIte, reduceCtorEq, Nat.reduceEqDiff, Nat.reduceLT, Nat.reduceLeDiff, Nat.reduceAdd, Nat.reduceMul, Nat.reduceMod, Nat.reduceDiv, Nat.reduceSub, Int.reduceToNat, b1, b2, b3, b4, b5, Bool.not_true, Bool.not_false]; (try simp (disch := omega) only [wrap64, Int.toNat_natCast]); (repeat refine and_rev ?_ ?_); (first | refine hK' _ ?_ | (refine ⟨.v (.int .i64 0), ?_⟩; refine hK' _ ?_)); clear hK' K')
    | (refine aopsx_skip (by rfl) (by rfl) (by simp only [dstOk, Nat.reduceLT]) ?_; simp only [St.put])
    | ((first | refine aopsx_nil ?_ | refine aops_nil ?_); first | (refine hKs _ ?_; clear hKs K) | (refine hKr _ ?_; clear hKr K; simp only [push_cast, reduceIte, reduceCtorEq, Nat.reduceEqDiff, Nat.reduceLT, Nat.reduceLeDiff, Nat.reduceAdd, Nat.reduceMul, Nat.reduceMod, Nat.reduceDiv, Nat.reduceSub, Int.reduceToNat]))
    | refine awp_xseq hT fun K hKs => ?_ | refine awp_x hT fun K hKr => ?_ | refine awp_dseq hT hm (by decide +kernel) fun K hKs => ?_ | refine awp_d hT hm (by decide +kernel) fun K hKr => ?_
    | refine awp_block ?_ | refine awp_scope ?_ | refine awp_seq ?_ | ((first | refine awp_label ?_ | refine awp_skip ?_ | refine awp_exit ?_ | refine awp_ret ?_); simp only [push_cast, reduceIte, reduceCtorEq, Nat.reduceEqDiff, Nat.reduceLT, Nat.reduceLeDiff, Nat.reduceAdd, Nat.reduceMul, Nat.reduceMod, Nat.reduceDiv, Nat.reduceSub, Int.reduceToNat])
    | (refine awp_cond _ rfl (fun h => ?_) (fun h => ?_) <;> simp only [bh, decide_eq_true_eq, decide_eq_false_iff_not, eq_self, not_true_eq_false, not_false_eq_true, reduceCtorEq, Bool.true_eq_false, Bool.false_eq_true, bne_self_eq_false, beq_self_eq_true] at h))
              all_goals first | omega | exact (fun hh => hh) | (simp only [List.length_take, List.length_drop, List.length_append, List.length_map, List.length_cons, List.length_nil, List.length_replicate, List.length_set]; omega) | (intro hh; (try simp only [hh, Bool.not_false, Bool.not_true, Bool.true_and, Bool.and_true, eq_self, true_and, and_true]); (try simp only [bh, decide_eq_true_eq, decide_eq_false_iff_not] at hh); (first | done | omega | (simp only [List.length_take, List.length_drop, List.length_append, List.length_map, List.length_cons, List.length_nil, List.length_replicate, List.length_set]; omega))) | (intro hh; simp only [hh, Bool.not_false, Bool.not_true, Bool.true_and, Bool.and_true, eq_self, true_and, and_true]; intro h2; simp only [h2, Bool.not_false, Bool.not_true]; done) | (exact rfl) | skip
              exact ⟨(j + 1, i + 1, k), ⟨⟨by show j + 1 ≤ _; omega, by show i + 1 ≤ _; omega, g3, by first | exact g4 | exact rfl⟩, by show _ - (j + 1) < _ - j; omega⟩, G.wk ⟨rfl, rfl, rfl, rfl, rfl, rfl, rfl, trivial⟩ trivial⟩
            · have b5 : ((l.getD j default).p != -1) = true := bne_iff_ne.2 c5
              rw [if_neg c5] at g4
              rw [if_neg c5]
              by_cases c6 : ps.length ≤ k
              · rw [if_pos (.inl c6)]
                have b6 : decide ((ps.length : Int) ≤ (k : Int)) = true := decide_eq_true (by omega)
                repeat' (first
    | ((first | refine aopsx_cons (by rfl) fun K' hK' => ?_ | refine aops_cons (by rfl) fun K' hK' => ?_); simp only [push_cast, reduceIte, reduceCtorEq, Nat.reduceEqDiff, Nat.reduceLT, Nat.reduceLeDiff, Nat.reduceAdd, Nat.reduceMul, Nat.reduceMod, Nat.reduceDiv, Nat.reduceSub, Int.reduceToNat, b1, b2, b3, b4, b5, b6, Bool.not_true, Bool.not_false]; (try simp (disch := omega) only [wrap64, Int.toNat_natCast]); (repeat refine and_rev ?_ ?_); (first | refine hK' _ ?_ | (refine ⟨.v (.int .i64 0), ?_⟩; refine hK' _ ?_)); clear hK' K')
    | (refine aopsx_skip (by rfl) (by rfl) (by simp only [dstOk, Nat.reduceLT]) ?_; simp only [St.put])
    | ((first | refine aopsx_nil ?_ | refine aops_nil ?_); first | (refine hKs _ ?_; clear hKs K) | (refine hKr _ ?_; clear hKr K; simp only [push_cast, reduceIte, reduceCtorEq, Nat.reduceEqDiff, Nat.reduceLT, Nat.reduceLeDiff, Nat.reduceAdd, Nat.reduceMul, Nat.reduceMod, Nat.reduceDiv, Nat.reduceSub, Int.reduceToNat]))
    | refine awp_xseq hT fun K hKs => ?_ | refine awp_x hT fun K hKr => ?_ | refine awp_dseq hT hm (by decide +kernel) fun K hKs => ?_ | refine awp_d hT hm (by decide +kernel) fun K hKr => ?_
    | refine awp_block ?_ | refine awp_scope ?_ | refine awp_seq ?_ | ((first | refine awp_label ?_ | refine awp_skip ?_ | refine awp_exit ?_ | refine awp_ret ?_); simp only [push_cast, reduceIte, reduceCtorEq, Nat.reduceEqDiff, Nat.reduceLT, Nat.reduceLeDiff, Nat.reduceAdd, Nat.reduceMul, Nat.reduceMod, Nat.reduceDiv, Nat.reduceSub, Int.reduceToNat])
    | (refine awp_cond _ rfl (fun h => ?_) (fun h => ?_) <;> simp only [bh, decide_eq_true_eq, decide_eq_false_iff_not, eq_self, not_true_eq_false, not_false_eq_true, reduceCtorEq, Bool.true_eq_false, Bool.false_eq_true, bne_self_eq_false, beq_self_eq_true] at h))
                all_goals first | omega | exact (fun hh => hh) | (simp only [List.length_take, List.length_drop, List.length_append, List.length_map, List.length_cons, List.length_nil, List.length_replicate, List.length_set]; omega) | (intro hh; (try simp only [hh, Bool.not_false, Bool.not_true, Bool.true_and, Bool.and_true, eq_self, true_and, and_true]); (try simp only [bh, decide_eq_true_eq, decide_eq_false_iff_not] at hh); (first | done | omega | (simp only [List.length_take, List.length_drop, List.length_append, List.length_map, List.length_cons, List.length_nil, List.length_replicate, List.length_set]; omega))) | (intro hh; simp only [hh, Bool.not_false, Bool.not_true, Bool.true_and, Bool.and_true, eq_self, true_and, and_true]; intro h2; simp only [h2, Bool.not_false, Bool.not_true]; done) | (exact rfl) | skip
              · have b6 : decide ((ps.length : Int) ≤ (k : Int)) = false := decide_eq_false (by omega)
                by_cases c7 : (l.getD j default).p = k
                · have b7 : ((l.getD j default).p != (k : Int)) = false := by rw [c7]; exact bne_self_eq_false _
                  rw [if_neg (by rintro (h | h); exact c6 h; exact h c7)] at g4
                  rw [if_neg (by rintro (h | h); exact c6 h; exact h c7)]
                  repeat' (first
    | ((first | refine aopsx_cons (by rfl) fun K' hK' => ?_ | refine aops_cons (by rfl) fun K' hK' => ?_); simp only [push_cast, reduceIte, reduceCtorEq, Nat.reduceEqDiff, Nat.reduceLT, Nat.reduceLeDiff, Nat.reduceAdd, Nat.reduceMul, Nat.reduceMod, Nat.reduceDiv, Nat.reduceSub, Int.reduceToNat, b1, b2, b3, b4, b5, b6, b7, Bool.not_true, Bool.not_false]; (try simp (disch := omega) only [wrap64, Int.toNat_natCast]); (repeat refine and_rev ?_ ?_); (first | refine hK' _ ?_ | (refine ⟨.v (.int .i64 0), ?_⟩; refine hK' _ ?_)); clear hK' K')
    | (refine aopsx_skip (by rfl) (by rfl) (by simp only [dstOk, Nat.reduceLT]) ?_; simp only [St.put])
    | ((first | refine aopsx_nil ?_ | refine aops_nil ?_); first | (refine hKs _ ?_; clear hKs K) | (refine hKr _ ?_; clear hKr K; simp only [push_cast, reduceIte, reduceCtorEq, Nat.reduceEqDiff, Nat.reduceLT, Nat.reduceLeDiff, Nat.reduceAdd, Nat.reduceMul, Nat.reduceMod, Nat.reduceDiv, Nat.reduceSub, Int.reduceToNat]))
    | refine awp_xseq hT fun K hKs => ?_ | refine awp_x hT fun K hKr => ?_ | refine awp_dseq hT hm (by decide +kernel) fun K hKs => ?_ | refine awp_d hT hm (by decide +kernel) fun K hKr => ?_
    | refine awp_block ?_ | refine awp_scope ?_ | refine awp_seq ?_ | ((first | refine awp_label ?_ | refine awp_skip ?_ | refine awp_exit ?_ | refine awp_ret ?_); simp only [push_cast, reduceIte, reduceCtorEq, Nat.reduceEqDiff, Nat.reduceLT, Nat.reduceLeDiff, Nat.reduceAdd, Nat.reduceMul, Nat.reduceMod, Nat.reduceDiv, Nat.reduceSub, Int.reduceToNat])
    | (refine awp_cond _ rfl (fun h => ?_) (fun h => ?_) <;> simp only [bh, decide_eq_true_eq, decide_eq_false_iff_not, eq_self, not_true_eq_false, not_false_eq_true, reduceCtorEq, Bool.true_eq_false, Bool.false_eq_true, bne_self_eq_false, beq_self_eq_true] at h))
                  all_goals first | omega | exact (fun hh => hh) | (simp only [List.length_take, List.length_drop, List.length_append, List.length_map, List.length_cons, List.length_nil, List.length_replicate, List.length_set]; omega) | (intro hh; (try simp only [hh, Bool.not_false, Bool.not_true, Bool.true_and, Bool.and_true, eq_self, true_and, and_true]); (try simp only [bh, decide_eq_true_eq, decide_eq_false_iff_not] at hh); (first | done | omega | (simp only [List.length_take, List.length_drop, List.length_append, List.length_map, List.length_cons, List.length_nil, List.length_replicate, List.length_set]; omega))) | (intro hh; simp only [hh, Bool.not_false, Bool.not_true, Bool.true_and, Bool.and_true, eq_self, true_and, and_true]; intro h2; simp only [h2, Bool.not_false, Bool.not_true]; done) | (exact rfl) | skip
                  exact ⟨(j + 1, i + 1, k + 1), ⟨⟨by show j + 1 ≤ _; omega, by show i + 1 ≤ _; omega, by show k + 1 ≤ _; omega, by first | exact g4 | exact rfl⟩, by show _ - (j + 1) < _ - j; omega⟩, G.wk ⟨rfl, rfl, rfl, rfl, rfl, rfl, rfl, trivial⟩ trivial⟩
                · have b7 : ((l.getD j default).p != (k : Int)) = true := bne_iff_ne.2 c7
                  rw [if_pos (.inr c7)]
                  repeat' (first
    | ((first | refine aopsx_cons (by rfl) fun K' hK' => ?_ | refine aops_cons (by rfl) fun K' hK' => ?_); simp only [push_cast, reduceIte, reduceCtorEq, Nat.reduceEqDiff, Nat.reduceLT, Nat.reduceLeDiff, Nat.reduceAdd, Nat.reduceMul, Nat.reduceMod, Nat.reduceDiv, Nat.reduceSub, Int.reduceToNat, b1, b2, b3, b4, b5, b6, b7, Bool.not_true, Bool.not_false]; (try simp (disch := omega) only [wrap64, Int.toNat_natCast]); (repeat refine and_rev ?_ ?_); (first | refine hK' _ ?_ | (refine ⟨.v (.int .i64 0), ?_⟩; refine hK' _ ?_)); clear hK' K')
    | (refine aopsx_skip (by rfl) (by rfl) (by simp only [dstOk, Nat.reduceLT]) ?_; simp only [St.put])
    | ((first | refine aopsx_nil ?_ | refine aops_nil ?_); first | (refine hKs _ ?_; clear hKs K) | (refine hKr _ ?_; clear hKr K; simp only [push_cast, reduceIte, reduceCtorEq, Nat.reduceEqDiff, Nat.reduceLT, Nat.reduceLeDiff, Nat.reduceAdd, Nat.reduceMul, Nat.reduceMod, Nat.reduceDiv, Nat.reduceSub, Int.reduceToNat]))
    | refine awp_xseq hT fun K hKs => ?_ | refine awp_x hT fun K hKr => ?_ | refine awp_dseq hT hm (by decide +kernel) fun K hKs => ?_ | refine awp_d hT hm (by decide +kernel) fun K hKr => ?_
    | refine awp_block ?_ | refine awp_scope ?_ | refine awp_seq ?_ | ((first | refine awp_label ?_ | refine awp_skip ?_ | refine awp_exit ?_ | refine awp_ret ?_); simp only [push_cast, reduceIte, reduceCtorEq, Nat.reduceEqDiff, Nat.reduceLT, Nat.reduceLeDiff, Nat.reduceAdd, Nat.reduceMul, Nat.reduceMod, Nat.reduceDiv, Nat.reduceSub, Int.reduceToNat])
    | (refine awp_cond _ rfl (fun h => ?_) (fun h => ?_) <;> simp only [bh, decide_eq_true_eq, decide_eq_false_iff_not, eq_self, not_true_eq_false, not_false_eq_true, reduceCtorEq, Bool.true_eq_false, Bool.false_eq_true, bne_self_eq_false, beq_self_eq_true] at h))
                  all_goals first | omega | exact (fun hh => hh) | (simp only [List.length_take, List.length_drop, List.length_append, List.length_map, List.length_cons, List.length_nil, List.length_replicate, List.length_set]; omega) | (intro hh; (try simp only [hh, Bool.not_false, Bool.not_true, Bool.true_and, Bool.and_true, eq_self, true_and, and_true]); (try simp only [bh, decide_eq_true_eq, decide_eq_false_iff_not] at hh); (first | done | omega | (simp only [List.length_take, List.length_drop, List.length_append, List.length_map, List.length_cons, List.length_nil, List.length_replicate, List.length_set]; omega))) | (intro hh; simp only [hh, Bool.not_false, Bool.not_true, Bool.true_and, Bool.and_true, eq_self, true_and, and_true]; intro h2; simp only [h2, Bool.not_false, Bool.not_true]; done) | (exact rfl) | skip
          · have b4 : ((l.getD j default).i == (mks.getD i default).i) = false := beq_eq_false_iff_ne.2 c4
            rw [if_pos (.inr (.inr c4))]
            repeat' (first
    | ((first | refine aopsx_cons (by rfl) fun K' hK' => ?_ | refine aops_cons (by rfl) fun K' hK' => ?_); simp only [push_cast, reduceIte, reduceCtorEq, Nat.reduceEqDiff, Nat.reduceLT, Nat.reduceLeDiff, Nat.reduceAdd, Nat.reduceMul, Nat.reduceMod, Nat.reduceDiv, Nat.reduceSub, Int.reduceToNat, b1, b2, b3, b4, Bool.not_true, Bool.not_false]; (try simp (disch := omega) only [wrap64, Int.toNat_natCast]); (repeat refine and_rev ?_ ?_); (first | refine hK' _ ?_ | (refine ⟨.v (.int .i64 0), ?_⟩; refine hK' _ ?_)); clear hK' K')
    | (refine aopsx_skip (by rfl) (by rfl) (by simp only [dstOk, Nat.reduceLT]) ?_; simp only [St.put])
    | ((first | refine aopsx_nil ?_ | refine aops_nil ?_); first | (refine hKs _ ?_; clear hKs K) | (refine hKr _ ?_; clear hKr K; simp only [push_cast, reduceIte, reduceCtorEq, Nat.reduceEqDiff, Nat.reduceLT, Nat.reduceLeDiff, Nat.reduceAdd, Nat.reduceMul, Nat.reduceMod, Nat.reduceDiv, Nat.reduceSub, Int.reduceToNat]))
    | refine awp_xseq hT fun K hKs => ?_ | refine awp_x hT fun K hKr => ?_ | refine awp_dseq hT hm (by decide +kernel) fun K hKs => ?_ | refine awp_d hT hm (by decide +kernel) fun K hKr => ?_
    | refine awp_block ?_ | refine awp_scope ?_ | refine awp_seq ?_ | ((first | refine awp_label ?_ | refine awp_skip ?_ | refine awp_exit ?_ | refine awp_ret ?_); simp only [push_cast, reduceIte, reduceCtorEq, Nat.reduceEqDiff, Nat.reduceLT, Nat.reduceLeDiff, Nat.reduceAdd, Nat.reduceMul, Nat.reduceMod, Nat.reduceDiv, Nat.reduceSub, Int.reduceToNat])
    | (refine awp_cond _ rfl (fun h => ?_) (fun h => ?_) <;> simp only [bh, decide_eq_true_eq, decide_eq_false_iff_not, eq_self, not_true_eq_false, not_false_eq_true, reduceCtorEq, Bool.true_eq_false, Bool.false_eq_true, bne_self_eq_false, beq_self_eq_true] at h))
            all_goals first | omega | exact (fun hh => hh) | (simp only [List.length_take, List.length_drop, List.length_append, List.length_map, List.length_cons, List.length_nil, List.length_replicate, List.length_set]; omega) | (intro hh; (try simp only [hh, Bool.not_false, Bool.not_true, Bool.true_and, Bool.and_true, eq_self, true_and, and_true]); (try simp only [bh, decide_eq_true_eq, decide_eq_false_iff_not] at hh); (first | done | omega | (simp only [List.length_take, List.length_drop, List.length_append, List.length_map, List.length_cons, List.length_nil, List.length_replicate, List.length_set]; omega))) | (intro hh; simp only [hh, Bool.not_false, Bool.not_true, Bool.true_and, Bool.and_true, eq_self, true_and, and_true]; intro h2; simp only [h2, Bool.not_false, Bool.not_true]; done) | (exact rfl) | skip
        · have b3 : ((l.getD j default).d != (mks.getD i default).d) = true := bne_iff_ne.2 c3
          rw [if_pos (.inr (.inl c3))]
          repeat' (first
    | ((first | refine aopsx_cons (by rfl) fun K' hK' => ?_ | refine aops_cons (by rfl) fun K' hK' => ?_); simp only [push_cast, reduceIte, reduceCtorEq, Nat.reduceEqDiff, Nat.reduceLT, Nat.reduceLeDiff, Nat.reduceAdd, Nat.reduceMul, Nat.reduceMod, Nat.reduceDiv, Nat.reduceSub, Int.reduceToNat, b1, b2, b3]; (try simp (disch := omega) only [wrap64, Int.toNat_natCast]); (repeat refine and_rev ?_ ?_); (first | refine hK' _ ?_ | (refine ⟨.v (.int .i64 0), ?_⟩; refine hK' _ ?_)); clear hK' K')
    | (refine aopsx_skip (by rfl) (by rfl) (by simp only [dstOk, Nat.reduceLT]) ?_; simp only [St.put])
    | ((first | refine aopsx_nil ?_ | refine aops_nil ?_); first | (refine hKs _ ?_; clear hKs K) | (refine hKr _ ?_; clear hKr K; simp only [push_cast, reduceIte, reduceCtorEq, Nat.reduceEqDiff, Nat.reduceLT, Nat.reduceLeDiff, Nat.reduceAdd, Nat.reduceMul, Nat.reduceMod, Nat.reduceDiv, Nat.reduceSub, Int.reduceToNat]))
    | refine awp_xseq hT fun K hKs => ?_ | refine awp_x hT fun K hKr => ?_ | refine awp_dseq hT hm (by decide +kernel) fun K hKs => ?_ | refine awp_d hT hm (by decide +kernel) fun K hKr => ?_
    | refine awp_block ?_ | refine awp_scope ?_ | refine awp_seq ?_ | ((first | refine awp_label ?_ | refine awp_skip ?_ | refine awp_exit ?_ | refine awp_ret ?_); simp only [push_cast, reduceIte, reduceCtorEq, Nat.reduceEqDiff, Nat.reduceLT, Nat.reduceLeDiff, Nat.reduceAdd, Nat.reduceMul, Nat.reduceMod, Nat.reduceDiv, Nat.reduceSub, Int.reduceToNat])
    | (refine awp_cond _ rfl (fun h => ?_) (fun h => ?_) <;> simp only [bh, decide_eq_true_eq, decide_eq_false_iff_not, eq_self, not_true_eq_false, not_false_eq_true, reduceCtorEq, Bool.true_eq_false, Bool.false_eq_true, bne_self_eq_false, beq_self_eq_true] at h))
          all_goals first | omega | exact (fun hh => hh) | (simp only [List.length_take, List.length_drop, List.length_append, List.length_map, List.length_cons, List.length_nil, List.length_replicate, List.length_set]; omega) | (intro hh; (try simp only [hh, Bool.not_false, Bool.not_true, Bool.true_and, Bool.and_true, eq_self, true_and, and_true]); (try simp only [bh, decide_eq_true_eq, decide_eq_false_iff_not] at hh); (first | done | omega | (simp only [List.length_take, List.length_drop, List.length_append, List.length_map, List.length_cons, List.length_nil, List.length_replicate, List.length_set]; omega))) | (intro hh; simp only [hh, Bool.not_false, Bool.not_true, Bool.true_and, Bool.and_true, eq_self, true_and, and_true]; intro h2; simp only [h2, Bool.not_false, Bool.not_true]; done) | (exact rfl) | skip
  · obtain rfl : j = l.length := by omega
    rw [List.drop_length, alI]
    by_cases c1 : i = mks.length
    · have b1 : ((i : Int) == (mks.length : Int)) = true := beq_iff_eq.2 (by omega)
      by_cases c2 : k = ps.length
      · have b2 : ((k : Int) == (ps.length : Int)) = true := beq_iff_eq.2 (by omega)
        rw [decide_eq_true ⟨c1, c2⟩]
        repeat' (first
    | ((first | refine aopsx_cons (by rfl) fun K' hK' => ?_ | refine aops_cons (by rfl) fun K' hK' => ?_); simp only [push_cast, reduceIte, reduceCtorEq, Nat.reduceEqDiff, Nat.reduceLT, Nat.reduceLeDiff, Nat.reduceAdd, Nat.reduceMul, Nat.reduceMod, Nat.reduceDiv, Nat.reduceSub, Int.reduceToNat, b1, b2]; (try simp (disch := omega) only [wrap64, Int.toNat_natCast]); (repeat refine and_rev ?_ ?_); (first | refine hK' _ ?_ | (refine ⟨.v (.int .i64 0), ?_⟩; refine hK' _ ?_)); clear hK' K')
    | (refine aopsx_skip (by rfl) (by rfl) (by simp only [dstOk, Nat.reduceLT]) ?_; simp only [St.put])
    | ((first | refine aopsx_nil ?_ | refine aops_nil ?_); first | (refine hKs _ ?_; clear hKs K) | (refine hKr _ ?_; clear hKr K; simp only [push_cast, reduceIte, reduceCtorEq, Nat.reduceEqDiff, Nat.reduceLT, Nat.reduceLeDiff, Nat.reduceAdd, Nat.reduceMul, Nat.reduceMod, Nat.reduceDiv, Nat.reduceSub, Int.reduceToNat]))
    | refine awp_xseq hT fun K hKs => ?_ | refine awp_x hT fun K hKr => ?_ | refine awp_dseq hT hm (by decide +kernel) fun K hKs => ?_ | refine awp_d hT hm (by decide +kernel) fun K hKr => ?_
    | refine awp_block ?_ | refine awp_scope ?_ | refine awp_seq ?_ | ((first | refine awp_label ?_ | refine awp_skip ?_ | refine awp_exit ?_ | refine awp_ret ?_); simp only [push_cast, reduceIte, reduceCtorEq, Nat.reduceEqDiff, Nat.reduceLT, Nat.reduceLeDiff, Nat.reduceAdd, Nat.reduceMul, Nat.reduceMod, Nat.reduceDiv, Nat.reduceSub, Int.reduceToNat])
    | (refine awp_cond _ rfl (fun h => ?_) (fun h => ?_) <;> simp only [bh, decide_eq_true_eq, decide_eq_false_iff_not, eq_self, not_true_eq_false, not_false_eq_true, reduceCtorEq, Bool.true_eq_false, Bool.false_eq_true, bne_self_eq_false, beq_self_eq_true] at h))
        all_goals first | omega | exact (fun hh => hh) | (simp only [List.length_take, List.length_drop, List.length_append, List.length_map, List.length_cons, List.length_nil, List.length_replicate, List.length_set]; omega) | (intro hh; (try simp only [hh, Bool.not_false, Bool.not_true, Bool.true_and, Bool.and_true, eq_self, true_and, and_true]); (try simp only [bh, decide_eq_true_eq, decide_eq_false_iff_not] at hh); (first | done | omega | (simp only [List.length_take, List.length_drop, List.length_append, List.length_map, List.length_cons, List.length_nil, List.length_replicate, List.length_set]; omega))) | (intro hh; simp only [hh, Bool.not_false, Bool.not_true, Bool.true_and, Bool.and_true, eq_self, true_and, and_true]; intro h2; simp only [h2, Bool.not_false, Bool.not_true]; done) | (exact rfl) | skip
      · have b2 : ((k : Int) == (ps.length : Int)) = false := beq_eq_false_iff_ne.2 (by omega)
        rw [decide_eq_false (fun h => c2 h.2)]
        repeat' (first
    | ((first | refine aopsx_cons (by rfl) fun K' hK' => ?_ | refine aops_cons (by rfl) fun K' hK' => ?_); simp only [push_cast, reduceIte, reduceCtorEq, Nat.reduceEqDiff, Nat.reduceLT, Nat.reduceLeDiff, Nat.reduceAdd, Nat.reduceMul, Nat.reduceMod, Nat.reduceDiv, Nat.reduceSub, Int.reduceToNat, b1, b2]; (try simp (disch := omega) only [wrap64, Int.toNat_natCast]); (repeat refine and_rev ?_ ?_); (first | refine hK' _ ?_ | (refine ⟨.v (.int .i64 0), ?_⟩; refine hK' _ ?_)); clear hK' K')
    | (refine aopsx_skip (by rfl) (by rfl) (by simp only [dstOk, Nat.reduceLT]) ?_; simp only [St.put])
    | ((first | refine aopsx_nil ?_ | refine aops_nil ?_); first | (refine hKs _ ?_; clear hKs K) | (refine hKr _ ?_; clear hKr K; simp only [push_cast, reduceIte, reduceCtorEq, Nat.reduceEqDiff, Nat.reduceLT, Nat.reduceLeDiff, Nat.reduceAdd, Nat.reduceMul, Nat.reduceMod, Nat.reduceDiv, Nat.reduceSub, Int.reduceToNat]))
    | refine awp_xseq hT fun K hKs => ?_ | refine awp_x hT fun K hKr => ?_ | refine awp_dseq hT hm (by decide +kernel) fun K hKs => ?_ | refine awp_d hT hm (by decide +kernel) fun K hKr => ?_
    | refine awp_block ?_ | refine awp_scope ?_ | refine awp_seq ?_ | ((first | refine awp_label ?_ | refine awp_skip ?_ | refine awp_exit ?_ | refine awp_ret ?_); simp only [push_cast, reduceIte, reduceCtorEq, Nat.reduceEqDiff, Nat.reduceLT, Nat.reduceLeDiff, Nat.reduceAdd, Nat.reduceMul, Nat.reduceMod, Nat.reduceDiv, Nat.reduceSub, Int.reduceToNat])
    | (refine awp_cond _ rfl (fun h => ?_) (fun h => ?_) <;> simp only [bh, decide_eq_true_eq, decide_eq_false_iff_not, eq_self, not_true_eq_false, not_false_eq_true, reduceCtorEq, Bool.true_eq_false, Bool.false_eq_true, bne_self_eq_false, beq_self_eq_true] at h))
        all_goals first | omega | exact (fun hh => hh) | (simp only [List.length_take, List.length_drop, List.length_append, List.length_map, List.length_cons, List.length_nil, List.length_replicate, List.length_set]; omega) | (intro hh; (try simp only [hh, Bool.not_false, Bool.not_true, Bool.true_and, Bool.and_true, eq_self, true_and, and_true]); (try simp only [bh, decide_eq_true_eq, decide_eq_false_iff_not] at hh); (first | done | omega | (simp only [List.length_take, List.length_drop, List.length_append, List.length_map, List.length_cons, List.length_nil, List.length_replicate, List.length_set]; omega))) | (intro hh; simp only [hh, Bool.not_false, Bool.not_true, Bool.true_and, Bool.and_true, eq_self, true_and, and_true]; intro h2; simp only [h2, Bool.not_false, Bool.not_true]; done) | (exact rfl) | skip
    · have b1 : ((i : Int) == (mks.length : Int)) = false := beq_eq_false_iff_ne.2 (by omega)
      rw [decide_eq_false (fun h => c1 h.1)]
      repeat' (first
    | ((first | refine aopsx_cons (by rfl) fun K' hK' => ?_ | refine aops_cons (by rfl) fun K' hK' => ?_); simp only [push_cast, reduceIte, reduceCtorEq, Nat.reduceEqDiff, Nat.reduceLT, Nat.reduceLeDiff, Nat.reduceAdd, Nat.reduceMul, Nat.reduceMod, Nat.reduceDiv, Nat.reduceSub, Int.reduceToNat, b1]; (try simp (disch := omega) only [wrap64, Int.toNat_natCast]); (repeat refine and_rev ?_ ?_); (first | refine hK' _ ?_ | (refine ⟨.v (.int .i64 0), ?_⟩; refine hK' _ ?_)); clear hK' K')
    | (refine aopsx_skip (by rfl) (by rfl) (by simp only [dstOk, Nat.reduceLT]) ?_; simp only [St.put])
    | ((first | refine aopsx_nil ?_ | refine aops_nil ?_); first | (refine hKs _ ?_; clear hKs K) | (refine hKr _ ?_; clear hKr K; simp only [push_cast, reduceIte, reduceCtorEq, Nat.reduceEqDiff, Nat.reduceLT, Nat.reduceLeDiff, Nat.reduceAdd, Nat.reduceMul, Nat.reduceMod, Nat.reduceDiv, Nat.reduceSub, Int.reduceToNat]))
    | refine awp_xseq hT fun K hKs => ?_ | refine awp_x hT fun K hKr => ?_ | refine awp_dseq hT hm (by decide +kernel) fun K hKs => ?_ | refine awp_d hT hm (by decide +kernel) fun K hKr => ?_
    | refine awp_block ?_ | refine awp_scope ?_ | refine awp_seq ?_ | ((first | refine awp_label ?_ | refine awp_skip ?_ | refine awp_exit ?_ | refine awp_ret ?_); simp only [push_cast, reduceIte, reduceCtorEq, Nat.reduceEqDiff, Nat.reduceLT, Nat.reduceLeDiff, Nat.reduceAdd, Nat.reduceMul, Nat.reduceMod, Nat.reduceDiv, Nat.reduceSub, Int.reduceToNat])
    | (refine awp_cond _ rfl (fun h => ?_) (fun h => ?_) <;> simp only [bh, decide_eq_true_eq, decide_eq_false_iff_not, eq_self, not_true_eq_false, not_false_eq_true, reduceCtorEq, Bool.true_eq_false, Bool.false_eq_true, bne_self_eq_false, beq_self_eq_true] at h))
      all_goals first | omega | exact (fun hh => hh) | (simp only [List.length_take, List.length_drop, List.length_append, List.length_map, List.length_cons, List.length_nil, List.length_replicate, List.length_set]; omega) | (intro hh; (try simp only [hh, Bool.not_false, Bool.not_true, Bool.true_and, Bool.and_true, eq_self, true_and, and_true]); (try simp only [bh, decide_eq_true_eq, decide_eq_false_iff_not] at hh); (first | done | omega | (simp only [List.length_take, List.length_drop, List.length_append, List.length_map, List.length_cons, List.length_nil, List.length_replicate, List.length_set]; omega))) | (intro hh; simp only [hh, Bool.not_false, Bool.not_true, Bool.true_and, Bool.and_true, eq_self, true_and, and_true]; intro h2; simp only [h2, Bool.not_false, Bool.not_true]; done) | (exact rfl) | skip
end Go.Proofs.Ytgcomonjkcpkaaa
