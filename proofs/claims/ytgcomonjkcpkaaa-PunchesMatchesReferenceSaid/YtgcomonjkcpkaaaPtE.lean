/- Part of a proof about the given program: contracts of its functions (see the comment of the last text). -/
import Derived.Test.YtgcomonjkcpkaaaPtB
import Derived.Test.YtgcomonjkcpkaaaPuP
import Derived.Test.YtgcomonjkcpkaaaPuI
namespace Go.Proofs.Ytgcomonjkcpkaaa
open Go.Eng Go.Proofs
set_option linter.unusedSimpArgs false
set_option linter.unusedVariables false
attribute [local irreducible] AOps AOpsX AOps2 AOpsF AAny AWP zTab zFound zRow

instance (ms : List Mk) (P i k : Nat) (m : Mt) : Decidable (badM ms P i k m) := by unfold badM; infer_instance
instance (ms : List Mk) (P i k : Nat) (m : Mt) : Decidable (badN ms P i k m) := by unfold badN; infer_instance
/-- The cost that the reference returns. -/
def rcF (ms : List Mk) (ps : List Pn) : Nat → Nat → Int → List Mt → Int
  | _, _, s, [] => s
  | i, k, s, m :: r => if badM ms ps.length i k m ∨ badN ms ps.length i k m ∨ (0 ≤ m.p ∧ ps.length ≤ k) then 0
    else rcF ms ps (if 0 ≤ m.d then i + 1 else i) (if 0 ≤ m.p then k + 1 else k) (if 0 ≤ m.d ∧ 0 ≤ m.p then s + costF (ms.getD i default) (ps.getD k default) else s + 120) r
set_option maxRecDepth 20000 in
set_option maxHeartbeats 64000000 in
theorem ralign_any (ds : List Du) (ps : List Pn) (l : List Mt) (h : usF ds ps = 0) (hl : l.length ≤ 1000) : Pure Try.prog 20 [avDs ds, avPs ps, avMs l] (.t [I64 (rcF (marksF 0 ds) ps 0 0 0 l), BL (alI (marksF 0 ds) ps.length 0 0 l)]) := by
  obtain ⟨u1, u2, u3, u4, u5⟩ := us_zero h
  have hN := near_of u1 u2 u3 u4
  have hmk := rmarks_ok ds (by omega)
  have hdn0 : ∀ i, i < (marksF 0 ds).length → 0 ≤ ((marksF 0 ds).getD i default).d := fun i hi => by rw [marks_len] at hi; rw [(marks_d ds 0 i hi).1]; omega
  generalize marksF 0 ds = ms at *
  obtain ⟨n1, n2, n3, n4⟩ := hN
  obtain ⟨A, hA0⟩ : ∃ A, alI ms ps.length 0 0 l = A := ⟨_, rfl⟩
  obtain ⟨C, hC0⟩ : ∃ C, rcF ms ps 0 0 0 l = C := ⟨_, rfl⟩
  rw [hA0, hC0]
  refine pure_of (n := 144) (res := [.tmp 6, .tmp 7]) hT Try.func20 rfl rfl rfl Try.ntmps20 (Nat.le_of_ble_eq_true rfl) fun B w0 => ?_
  repeat' (first
    | ((first | refine aopsx_cons (by rfl) fun K' hK' => ?_ | refine aops_cons (by rfl) fun K' hK' => ?_); simp only [push_cast, reduceIte, reduceCtorEq, Nat.reduceEqDiff, Nat.reduceLT, Nat.reduceLeDiff, Nat.reduceAdd, Nat.reduceMul, Nat.reduceMod, Nat.reduceDiv, Nat.reduceSub, Int.reduceToNat]; (try simp (disch := omega) only [wrap64, Int.toNat_natCast]); (repeat refine and_rev ?_ ?_); (first | refine hK' _ ?_ | ((first | refine ⟨_, ⟨(by first | exact hmk), (by first | exact .inr rfl | exact .inl (by simp [AV.fresh, AV.freshL]))⟩, ?_⟩ | refine ⟨_, fun hb => ⟨(by first | exact hmk), (by first | exact .inr rfl | exact .inl (by simp [AV.fresh, AV.freshL]))⟩, ?_⟩); (try simp only [push_cast, reduceIte, reduceCtorEq, Nat.reduceEqDiff, Nat.reduceLT, Nat.reduceLeDiff, Nat.reduceAdd, Nat.reduceMul, Nat.reduceMod, Nat.reduceDiv, Nat.reduceSub, Int.reduceToNat]); (try simp (disch := omega) only [wrap64, Int.toNat_natCast]); (repeat refine and_rev ?_ ?_); refine hK' _ ?_) | (refine ⟨.v (.int .i64 0), ?_⟩; refine hK' _ ?_)); clear hK' K')
    | (refine aopsx_skip (by rfl) (by rfl) (by simp only [dstOk, Nat.reduceLT]) ?_; simp only [St.put])
    | ((first | refine aopsx_nil ?_ | refine aops_nil ?_); first | (refine hKs _ ?_; clear hKs K) | (refine hKr _ ?_; clear hKr K; simp only [push_cast, reduceIte, reduceCtorEq, Nat.reduceEqDiff, Nat.reduceLT, Nat.reduceLeDiff, Nat.reduceAdd, Nat.reduceMul, Nat.reduceMod, Nat.reduceDiv, Nat.reduceSub, Int.reduceToNat]))
    | refine awp_xseq hT fun K hKs => ?_ | refine awp_x hT fun K hKr => ?_ | refine awp_dseq hT hm (by decide +kernel) fun K hKs => ?_ | refine awp_d hT hm (by decide +kernel) fun K hKr => ?_
    | refine awp_block ?_ | refine awp_scope ?_ | refine awp_seq ?_ | ((first | refine awp_label ?_ | refine awp_skip ?_ | refine awp_exit ?_ | refine awp_ret ?_); simp only [push_cast, reduceIte, reduceCtorEq, Nat.reduceEqDiff, Nat.reduceLT, Nat.reduceLeDiff, Nat.reduceAdd, Nat.reduceMul, Nat.reduceMod, Nat.reduceDiv, Nat.reduceSub, Int.reduceToNat])
    | (refine awp_cond _ rfl (fun h => ?_) (fun h => ?_) <;> simp only [bh, decide_eq_true_eq, decide_eq_false_iff_not, eq_self, not_true_eq_false, not_false_eq_true, reduceCtorEq, Bool.true_eq_false, Bool.false_eq_true, bne_self_eq_false, beq_self_eq_true] at h))
  all_goals first | omega | exact (fun hh => hh) | (simp only [List.length_take, List.length_drop, List.length_append, List.length_map, List.length_cons, List.length_nil, List.length_replicate, List.length_set]; omega) | (intro hh; (try simp only [hh, Bool.not_false, Bool.not_true, Bool.true_and, Bool.and_true, eq_self, true_and, and_true]); (try simp only [bh, decide_eq_true_eq, decide_eq_false_iff_not] at hh); (first | done | omega | (simp only [List.length_take, List.length_drop, List.length_append, List.length_map, List.length_cons, List.length_nil, List.length_replicate, List.length_set]; omega))) | (intro hh; simp only [hh, Bool.not_false, Bool.not_true, Bool.true_and, Bool.and_true, eq_self, true_and, and_true]; intro h2; simp only [h2, Bool.not_false, Bool.not_true]; done) | (exact rfl) | skip
  refine awp_loop (α := Nat × Nat × Nat × Int) (fun q => ⟨[(1, avPs ps), (2, avMs l), (8, avKsT ms), (9, I64 q.2.1), (10, I64 q.2.2.1), (11, I64 q.2.2.2), (12, I64 q.1)], []⟩) (fun q => q.1 ≤ l.length ∧ (q.2.1 ≤ ms.length ∧ q.2.2.1 ≤ ps.length) ∧ (0 ≤ q.2.2.2 ∧ q.2.2.2 ≤ q.1 * 60000000) ∧ alI ms ps.length q.2.1 q.2.2.1 (l.drop q.1) = A ∧ rcF ms ps q.2.1 q.2.2.1 q.2.2.2 (l.drop q.1) = C) (fun q => l.length - q.1) (0, 0, 0, 0) ⟨Nat.zero_le _, ⟨Nat.zero_le _, Nat.zero_le _⟩, ⟨Int.le_refl _, by show (0 : Int) ≤ _; omega⟩, hA0, hC0⟩ (G.wk ⟨rfl, rfl, rfl, rfl, rfl, rfl, rfl, trivial⟩ trivial) fun q hq => ?_
  obtain ⟨q, i, k, s⟩ := q
  simp only at hq ⊢
  obtain ⟨q1, ⟨i1, k1⟩, ⟨s1, s2⟩, hA, hC⟩ := hq
  clear hA0 hC0
  by_cases hlt : q < l.length
  · have hd : l.drop q = l.getD q default :: l.drop (q + 1) := by rw [List.drop_eq_getElem_cons hlt]; simp [List.getD_eq_getElem?_getD, hlt]
    have bl : decide ((q : Int) < (l.length : Int)) = true := decide_eq_true (by omega)
    obtain ⟨m, hmE⟩ : ∃ m, l.getD q default = m := ⟨_, rfl⟩
    rw [hmE] at hd
    by_cases hb : badM ms ps.length i k m
    · have b1 : ((((decide (m.d < 0) && decide (m.p < 0)) || decide (m.d < -1)) || decide (m.p < -1)) || ((m.d == -1) && m.i)) = true := by
        simp only [bh, decide_eq_true_eq]; exact hb
      have zA : A = false := by rw [← hA, hd]; exact al_bad1 hdn0 hb
      have zC : C = 0 := by rw [← hC, hd, rcF, if_pos (.inl hb)]
      rw [zA, zC]
      repeat' (first
    | ((first | refine aopsx_cons (by rfl) fun K' hK' => ?_ | refine aops_cons (by rfl) fun K' hK' => ?_); simp only [push_cast, reduceIte, reduceCtorEq, Nat.reduceEqDiff, Nat.reduceLT, Nat.reduceLeDiff, Nat.reduceAdd, Nat.reduceMul, Nat.reduceMod, Nat.reduceDiv, Nat.reduceSub, Int.reduceToNat, bl, hmE, b1]; (try simp (disch := omega) only [wrap64, Int.toNat_natCast]); (repeat refine and_rev ?_ ?_); (first | refine hK' _ ?_ | (refine ⟨.v (.int .i64 0), ?_⟩; refine hK' _ ?_)); clear hK' K')
    | (refine aopsx_skip (by rfl) (by rfl) (by simp only [dstOk, Nat.reduceLT]) ?_; simp only [St.put])
    | ((first | refine aopsx_nil ?_ | refine aops_nil ?_); first | (refine hKs _ ?_; clear hKs K) | (refine hKr _ ?_; clear hKr K; simp only [push_cast, reduceIte, reduceCtorEq, Nat.reduceEqDiff, Nat.reduceLT, Nat.reduceLeDiff, Nat.reduceAdd, Nat.reduceMul, Nat.reduceMod, Nat.reduceDiv, Nat.reduceSub, Int.reduceToNat]))
    | refine awp_xseq hT fun K hKs => ?_ | refine awp_x hT fun K hKr => ?_ | refine awp_dseq hT hm (by decide +kernel) fun K hKs => ?_ | refine awp_d hT hm (by decide +kernel) fun K hKr => ?_
    | refine awp_block ?_ | refine awp_scope ?_ | refine awp_seq ?_ | ((first | refine awp_label ?_ | refine awp_skip ?_ | refine awp_exit ?_ | refine awp_ret ?_); simp only [push_cast, reduceIte, reduceCtorEq, Nat.reduceEqDiff, Nat.reduceLT, Nat.reduceLeDiff, Nat.reduceAdd, Nat.reduceMul, Nat.reduceMod, Nat.reduceDiv, Nat.reduceSub, Int.reduceToNat])
    | (refine awp_cond _ rfl (fun h => ?_) (fun h => ?_) <;> simp only [bh, decide_eq_true_eq, decide_eq_false_iff_not, eq_self, not_true_eq_false, not_false_eq_true, reduceCtorEq, Bool.true_eq_false, Bool.false_eq_true, bne_self_eq_false, beq_self_eq_true] at h))
      all_goals first | omega | exact (fun hh => hh) | (simp only [List.length_take, List.length_drop, List.length_append, List.length_map, List.length_cons, List.length_nil, List.length_replicate, List.length_set]; omega) | (intro hh; (try simp only [hh, Bool.not_false, Bool.not_true, Bool.true_and, Bool.and_true, eq_self, true_and, and_true]); (try simp only [bh, decide_eq_true_eq, decide_eq_false_iff_not] at hh); (first | done | omega | (simp only [List.length_take, List.length_drop, List.length_append, List.length_map, List.length_cons, List.length_nil, List.length_replicate, List.length_set]; omega))) | (intro hh; simp only [hh, Bool.not_false, Bool.not_true, Bool.true_and, Bool.and_true, eq_self, true_and, and_true]; intro h2; simp only [h2, Bool.not_false, Bool.not_true]; done) | (exact rfl) | skip
      all_goals done
    · have b1 : ((((decide (m.d < 0) && decide (m.p < 0)) || decide (m.d < -1)) || decide (m.p < -1)) || ((m.d == -1) && m.i)) = false := by
        rw [Bool.eq_false_iff]; intro h; simp only [bh, decide_eq_true_eq] at h; exact hb h
      by_cases hd0 : 0 ≤ m.d
      · have d1 : decide (0 ≤ m.d) = true := decide_eq_true hd0
        by_cases hil : i < ms.length
        · have d2 : decide ((ms.length : Int) ≤ (i : Int)) = false := decide_eq_false (by omega)
          by_cases hmm : m.d = (ms.getD i default).d ∧ m.i = (ms.getD i default).i
          · have d3 : ((m.d != (ms.getD i default).d) || (!(m.i == (ms.getD i default).i))) = false := by rw [hmm.1, hmm.2]; simp
            have hdn : ¬ (0 ≤ m.d ∧ ((ms.length ≤ i ∨ m.d ≠ (ms.getD i default).d) ∨ m.i ≠ (ms.getD i default).i)) := by
              rintro ⟨_, (h | h) | h⟩
              · omega
              · exact h hmm.1
              · exact h hmm.2
            by_cases hp0 : 0 ≤ m.p
            · have p1 : decide (0 ≤ m.p) = true := decide_eq_true hp0
              by_cases hpk : m.p = k
              · have p2 : (m.p != (k : Int)) = false := by rw [hpk]; exact bne_self_eq_false _
                have hn2 : ¬ badN ms ps.length i k m := by
                  rintro (h | h)
                  · exact hdn h
                  · exact h.2 hpk
                by_cases hkl : k < ps.length
                · have p3 : decide ((ps.length : Int) ≤ (k : Int)) = false := decide_eq_false (by omega)
                  have hk2 : ¬ (0 ≤ m.p ∧ ps.length ≤ k) := fun h => by omega
                  have hp1 := n4 k hkl
                  have hm1 := n3 i hil
                  have rc := rcost_ok (ms.getD i default) (ps.getD k default) (by omega) (by omega)
                  have hc0 := cost_nonneg (ms.getD i default) (ps.getD k default)
                  have hcb : costF (ms.getD i default) (ps.getD k default) ≤ 60000000 := by unfold costF; split <;> omega
                  rw [hd, al_go hb hn2 hk2] at hA
                  rw [hd, rcF, if_neg (by rintro (h | h | h); exact hb h; exact hn2 h; exact hk2 h)] at hC
                  rw [if_pos hd0, if_pos hp0] at hA hC
                  rw [if_pos ⟨hd0, hp0⟩] at hC
                  repeat' (first
    | ((first | refine aopsx_cons (by rfl) fun K' hK' => ?_ | refine aops_cons (by rfl) fun K' hK' => ?_); simp only [push_cast, reduceIte, reduceCtorEq, Nat.reduceEqDiff, Nat.reduceLT, Nat.reduceLeDiff, Nat.reduceAdd, Nat.reduceMul, Nat.reduceMod, Nat.reduceDiv, Nat.reduceSub, Int.reduceToNat, bl, hmE, b1, d1, d2, d3, p1, p2, p3]; (try simp (disch := omega) only [wrap64, Int.toNat_natCast]); (repeat refine and_rev ?_ ?_); (first | refine hK' _ ?_ | ((first | refine ⟨_, ⟨(by first | exact rc), (by first | exact .inr rfl | exact .inl (by simp [AV.fresh, AV.freshL]))⟩, ?_⟩ | refine ⟨_, fun hb => ⟨(by first | exact rc), (by first | exact .inr rfl | exact .inl (by simp [AV.fresh, AV.freshL]))⟩, ?_⟩); (try simp only [push_cast, reduceIte, reduceCtorEq, Nat.reduceEqDiff, Nat.reduceLT, Nat.reduceLeDiff, Nat.reduceAdd, Nat.reduceMul, Nat.reduceMod, Nat.reduceDiv, Nat.reduceSub, Int.reduceToNat, bl, hmE, b1, d1, d2, d3, p1, p2, p3]); (try simp (disch := omega) only [wrap64, Int.toNat_natCast]); (repeat refine and_rev ?_ ?_); refine hK' _ ?_) | (refine ⟨.v (.int .i64 0), ?_⟩; refine hK' _ ?_)); clear hK' K')
    | (refine aopsx_skip (by rfl) (by rfl) (by simp only [dstOk, Nat.reduceLT]) ?_; simp only [St.put])
    | ((first | refine aopsx_nil ?_ | refine aops_nil ?_); first | (refine hKs _ ?_; clear hKs K) | (refine hKr _ ?_; clear hKr K; simp only [push_cast, reduceIte, reduceCtorEq, Nat.reduceEqDiff, Nat.reduceLT, Nat.reduceLeDiff, Nat.reduceAdd, Nat.reduceMul, Nat.reduceMod, Nat.reduceDiv, Nat.reduceSub, Int.reduceToNat]))
    | refine awp_xseq hT fun K hKs => ?_ | refine awp_x hT fun K hKr => ?_ | refine awp_dseq hT hm (by decide +kernel) fun K hKs => ?_ | refine awp_d hT hm (by decide +kernel) fun K hKr => ?_
    | refine awp_block ?_ | refine awp_scope ?_ | refine awp_seq ?_ | ((first | refine awp_label ?_ | refine awp_skip ?_ | refine awp_exit ?_ | refine awp_ret ?_); simp only [push_cast, reduceIte, reduceCtorEq, Nat.reduceEqDiff, Nat.reduceLT, Nat.reduceLeDiff, Nat.reduceAdd, Nat.reduceMul, Nat.reduceMod, Nat.reduceDiv, Nat.reduceSub, Int.reduceToNat])
    | (refine awp_cond _ rfl (fun h => ?_) (fun h => ?_) <;> simp only [bh, decide_eq_true_eq, decide_eq_false_iff_not, eq_self, not_true_eq_false, not_false_eq_true, reduceCtorEq, Bool.true_eq_false, Bool.false_eq_true, bne_self_eq_false, beq_self_eq_true] at h))
                  all_goals first | omega | exact (fun hh => hh) | (simp only [List.length_take, List.length_drop, List.length_append, List.length_map, List.length_cons, List.length_nil, List.length_replicate, List.length_set]; omega) | (intro hh; (try simp only [hh, Bool.not_false, Bool.not_true, Bool.true_and, Bool.and_true, eq_self, true_and, and_true]); (try simp only [bh, decide_eq_true_eq, decide_eq_false_iff_not] at hh); (first | done | omega | (simp only [List.length_take, List.length_drop, List.length_append, List.length_map, List.length_cons, List.length_nil, List.length_replicate, List.length_set]; omega))) | (intro hh; simp only [hh, Bool.not_false, Bool.not_true, Bool.true_and, Bool.and_true, eq_self, true_and, and_true]; intro h2; simp only [h2, Bool.not_false, Bool.not_true]; done) | (exact rfl) | skip
                  any_goals exact ⟨(q + 1, (i + 1), (k + 1), (s + costF (ms.getD i default) (ps.getD k default))), ⟨⟨by show q + 1 ≤ _; omega, ⟨by show (i + 1) ≤ _; omega, by show (k + 1) ≤ _; omega⟩, by show 0 ≤ (s + costF (ms.getD i default) (ps.getD k default)) ∧ (s + costF (ms.getD i default) (ps.getD k default)) ≤ (q + 1 : Nat) * 60000000; omega, hA, hC⟩, by show _ - (q + 1) < _ - q; omega⟩, G.wk ⟨rfl, rfl, rfl, rfl, rfl, rfl, rfl, trivial⟩ trivial⟩
                · have p3 : decide ((ps.length : Int) ≤ (k : Int)) = true := decide_eq_true (by omega)
                  have zA : A = false := by rw [← hA, hd]; exact al_bad2 hdn0 hb (.inr ⟨hp0, by omega⟩)
                  have zC : C = 0 := by rw [← hC, hd, rcF, if_pos (.inr (.inr ⟨hp0, by omega⟩))]
                  rw [zA, zC]
                  repeat' (first
    | ((first | refine aopsx_cons (by rfl) fun K' hK' => ?_ | refine aops_cons (by rfl) fun K' hK' => ?_); simp only [push_cast, reduceIte, reduceCtorEq, Nat.reduceEqDiff, Nat.reduceLT, Nat.reduceLeDiff, Nat.reduceAdd, Nat.reduceMul, Nat.reduceMod, Nat.reduceDiv, Nat.reduceSub, Int.reduceToNat, bl, hmE, b1, d1, d2, d3, p1, p2, p3]; (try simp (disch := omega) only [wrap64, Int.toNat_natCast]); (repeat refine and_rev ?_ ?_); (first | refine hK' _ ?_ | (refine ⟨.v (.int .i64 0), ?_⟩; refine hK' _ ?_)); clear hK' K')
    | (refine aopsx_skip (by rfl) (by rfl) (by simp only [dstOk, Nat.reduceLT]) ?_; simp only [St.put])
    | ((first | refine aopsx_nil ?_ | refine aops_nil ?_); first | (refine hKs _ ?_; clear hKs K) | (refine hKr _ ?_; clear hKr K; simp only [push_cast, reduceIte, reduceCtorEq, Nat.reduceEqDiff, Nat.reduceLT, Nat.reduceLeDiff, Nat.reduceAdd, Nat.reduceMul, Nat.reduceMod, Nat.reduceDiv, Nat.reduceSub, Int.reduceToNat]))
    | refine awp_xseq hT fun K hKs => ?_ | refine awp_x hT fun K hKr => ?_ | refine awp_dseq hT hm (by decide +kernel) fun K hKs => ?_ | refine awp_d hT hm (by decide +kernel) fun K hKr => ?_
    | refine awp_block ?_ | refine awp_scope ?_ | refine awp_seq ?_ | ((first | refine awp_label ?_ | refine awp_skip ?_ | refine awp_exit ?_ | refine awp_ret ?_); simp only [push_cast, reduceIte, reduceCtorEq, Nat.reduceEqDiff, Nat.reduceLT, Nat.reduceLeDiff, Nat.reduceAdd, Nat.reduceMul, Nat.reduceMod, Nat.reduceDiv, Nat.reduceSub, Int.reduceToNat])
    | (refine awp_cond _ rfl (fun h => ?_) (fun h => ?_) <;> simp only [bh, decide_eq_true_eq, decide_eq_false_iff_not, eq_self, not_true_eq_false, not_false_eq_true, reduceCtorEq, Bool.true_eq_false, Bool.false_eq_true, bne_self_eq_false, beq_self_eq_true] at h))
                  all_goals first | omega | exact (fun hh => hh) | (simp only [List.length_take, List.length_drop, List.length_append, List.length_map, List.length_cons, List.length_nil, List.length_replicate, List.length_set]; omega) | (intro hh; (try simp only [hh, Bool.not_false, Bool.not_true, Bool.true_and, Bool.and_true, eq_self, true_and, and_true]); (try simp only [bh, decide_eq_true_eq, decide_eq_false_iff_not] at hh); (first | done | omega | (simp only [List.length_take, List.length_drop, List.length_append, List.length_map, List.length_cons, List.length_nil, List.length_replicate, List.length_set]; omega))) | (intro hh; simp only [hh, Bool.not_false, Bool.not_true, Bool.true_and, Bool.and_true, eq_self, true_and, and_true]; intro h2; simp only [h2, Bool.not_false, Bool.not_true]; done) | (exact rfl) | skip
                  all_goals done
              · have p2 : (m.p != (k : Int)) = true := by simpa using hpk
                have hn2 : badN ms ps.length i k m := .inr ⟨hp0, hpk⟩
                have zA : A = false := by rw [← hA, hd]; exact al_bad2 hdn0 hb (.inl hn2)
                have zC : C = 0 := by rw [← hC, hd, rcF, if_pos (.inr (.inl hn2))]
                rw [zA, zC]
                repeat' (first
    | ((first | refine aopsx_cons (by rfl) fun K' hK' => ?_ | refine aops_cons (by rfl) fun K' hK' => ?_); simp only [push_cast, reduceIte, reduceCtorEq, Nat.reduceEqDiff, Nat.reduceLT, Nat.reduceLeDiff, Nat.reduceAdd, Nat.reduceMul, Nat.reduceMod, Nat.reduceDiv, Nat.reduceSub, Int.reduceToNat, bl, hmE, b1, d1, d2, d3, p1, p2]; (try simp (disch := omega) only [wrap64, Int.toNat_natCast]); (repeat refine and_rev ?_ ?_); (first | refine hK' _ ?_ | (refine ⟨.v (.int .i64 0), ?_⟩; refine hK' _ ?_)); clear hK' K')
    | (refine aopsx_skip (by rfl) (by rfl) (by simp only [dstOk, Nat.reduceLT]) ?_; simp only [St.put])
    | ((first | refine aopsx_nil ?_ | refine aops_nil ?_); first | (refine hKs _ ?_; clear hKs K) | (refine hKr _ ?_; clear hKr K; simp only [push_cast, reduceIte, reduceCtorEq, Nat.reduceEqDiff, Nat.reduceLT, Nat.reduceLeDiff, Nat.reduceAdd, Nat.reduceMul, Nat.reduceMod, Nat.reduceDiv, Nat.reduceSub, Int.reduceToNat]))
    | refine awp_xseq hT fun K hKs => ?_ | refine awp_x hT fun K hKr => ?_ | refine awp_dseq hT hm (by decide +kernel) fun K hKs => ?_ | refine awp_d hT hm (by decide +kernel) fun K hKr => ?_
    | refine awp_block ?_ | refine awp_scope ?_ | refine awp_seq ?_ | ((first | refine awp_label ?_ | refine awp_skip ?_ | refine awp_exit ?_ | refine awp_ret ?_); simp only [push_cast, reduceIte, reduceCtorEq, Nat.reduceEqDiff, Nat.reduceLT, Nat.reduceLeDiff, Nat.reduceAdd, Nat.reduceMul, Nat.reduceMod, Nat.reduceDiv, Nat.reduceSub, Int.reduceToNat])
    | (refine awp_cond _ rfl (fun h => ?_) (fun h => ?_) <;> simp only [bh, decide_eq_true_eq, decide_eq_false_iff_not, eq_self, not_true_eq_false, not_false_eq_true, reduceCtorEq, Bool.true_eq_false, Bool.false_eq_true, bne_self_eq_false, beq_self_eq_true] at h))
                all_goals first | omega | exact (fun hh => hh) | (simp only [List.length_take, List.length_drop, List.length_append, List.length_map, List.length_cons, List.length_nil, List.length_replicate, List.length_set]; omega) | (intro hh; (try simp only [hh, Bool.not_false, Bool.not_true, Bool.true_and, Bool.and_true, eq_self, true_and, and_true]); (try simp only [bh, decide_eq_true_eq, decide_eq_false_iff_not] at hh); (first | done | omega | (simp only [List.length_take, List.length_drop, List.length_append, List.length_map, List.length_cons, List.length_nil, List.length_replicate, List.length_set]; omega))) | (intro hh; simp only [hh, Bool.not_false, Bool.not_true, Bool.true_and, Bool.and_true, eq_self, true_and, and_true]; intro h2; simp only [h2, Bool.not_false, Bool.not_true]; done) | (exact rfl) | skip
                all_goals done
            · have p1 : decide (0 ≤ m.p) = false := decide_eq_false hp0
              have hn2 : ¬ badN ms ps.length i k m := by
                rintro (h | h)
                · exact hdn h
                · exact hp0 h.1
              have hk2 : ¬ (0 ≤ m.p ∧ ps.length ≤ k) := fun h => hp0 h.1
              rw [hd, al_go hb hn2 hk2] at hA
              rw [hd, rcF, if_neg (by rintro (h | h | h); exact hb h; exact hn2 h; exact hk2 h)] at hC
              rw [if_pos hd0, if_neg hp0] at hA hC
              rw [if_neg (fun h => hp0 h.2)] at hC
              repeat' (first
    | ((first | refine aopsx_cons (by rfl) fun K' hK' => ?_ | refine aops_cons (by rfl) fun K' hK' => ?_); simp only [push_cast, reduceIte, reduceCtorEq, Nat.reduceEqDiff, Nat.reduceLT, Nat.reduceLeDiff, Nat.reduceAdd, Nat.reduceMul, Nat.reduceMod, Nat.reduceDiv, Nat.reduceSub, Int.reduceToNat, bl, hmE, b1, d1, d2, d3, p1]; (try simp (disch := omega) only [wrap64, Int.toNat_natCast]); (repeat refine and_rev ?_ ?_); (first | refine hK' _ ?_ | (refine ⟨.v (.int .i64 0), ?_⟩; refine hK' _ ?_)); clear hK' K')
    | (refine aopsx_skip (by rfl) (by rfl) (by simp only [dstOk, Nat.reduceLT]) ?_; simp only [St.put])
    | ((first | refine aopsx_nil ?_ | refine aops_nil ?_); first | (refine hKs _ ?_; clear hKs K) | (refine hKr _ ?_; clear hKr K; simp only [push_cast, reduceIte, reduceCtorEq, Nat.reduceEqDiff, Nat.reduceLT, Nat.reduceLeDiff, Nat.reduceAdd, Nat.reduceMul, Nat.reduceMod, Nat.reduceDiv, Nat.reduceSub, Int.reduceToNat]))
    | refine awp_xseq hT fun K hKs => ?_ | refine awp_x hT fun K hKr => ?_ | refine awp_dseq hT hm (by decide +kernel) fun K hKs => ?_ | refine awp_d hT hm (by decide +kernel) fun K hKr => ?_
    | refine awp_block ?_ | refine awp_scope ?_ | refine awp_seq ?_ | ((first | refine awp_label ?_ | refine awp_skip ?_ | refine awp_exit ?_ | refine awp_ret ?_); simp only [push_cast, reduceIte, reduceCtorEq, Nat.reduceEqDiff, Nat.reduceLT, Nat.reduceLeDiff, Nat.reduceAdd, Nat.reduceMul, Nat.reduceMod, Nat.reduceDiv, Nat.reduceSub, Int.reduceToNat])
    | (refine awp_cond _ rfl (fun h => ?_) (fun h => ?_) <;> simp only [bh, decide_eq_true_eq, decide_eq_false_iff_not, eq_self, not_true_eq_false, not_false_eq_true, reduceCtorEq, Bool.true_eq_false, Bool.false_eq_true, bne_self_eq_false, beq_self_eq_true] at h))
              all_goals first | omega | exact (fun hh => hh) | (simp only [List.length_take, List.length_drop, List.length_append, List.length_map, List.length_cons, List.length_nil, List.length_replicate, List.length_set]; omega) | (intro hh; (try simp only [hh, Bool.not_false, Bool.not_true, Bool.true_and, Bool.and_true, eq_self, true_and, and_true]); (try simp only [bh, decide_eq_true_eq, decide_eq_false_iff_not] at hh); (first | done | omega | (simp only [List.length_take, List.length_drop, List.length_append, List.length_map, List.length_cons, List.length_nil, List.length_replicate, List.length_set]; omega))) | (intro hh; simp only [hh, Bool.not_false, Bool.not_true, Bool.true_and, Bool.and_true, eq_self, true_and, and_true]; intro h2; simp only [h2, Bool.not_false, Bool.not_true]; done) | (exact rfl) | skip
              any_goals exact ⟨(q + 1, (i + 1), k, (s + 120)), ⟨⟨by show q + 1 ≤ _; omega, ⟨by show (i + 1) ≤ _; omega, by show k ≤ _; omega⟩, by show 0 ≤ (s + 120) ∧ (s + 120) ≤ (q + 1 : Nat) * 60000000; omega, hA, hC⟩, by show _ - (q + 1) < _ - q; omega⟩, G.wk ⟨rfl, rfl, rfl, rfl, rfl, rfl, rfl, trivial⟩ trivial⟩
          · have d3 : ((m.d != (ms.getD i default).d) || (!(m.i == (ms.getD i default).i))) = true := by
              rw [Bool.or_eq_true, bne_iff_ne]
              by_cases e : m.d = (ms.getD i default).d
              · exact .inr (by rw [Bool.not_eq_true', beq_eq_false_iff_ne]; exact fun h => hmm ⟨e, h⟩)
              · exact .inl e
            have hn2 : badN ms ps.length i k m := by
              by_cases e : m.d = (ms.getD i default).d
              · exact .inl ⟨hd0, .inr (fun h => hmm ⟨e, h⟩)⟩
              · exact .inl ⟨hd0, .inl (.inr e)⟩
            have zA : A = false := by rw [← hA, hd]; exact al_bad2 hdn0 hb (.inl hn2)
            have zC : C = 0 := by rw [← hC, hd, rcF, if_pos (.inr (.inl hn2))]
            rw [zA, zC]
            repeat' (first
    | ((first | refine aopsx_cons (by rfl) fun K' hK' => ?_ | refine aops_cons (by rfl) fun K' hK' => ?_); simp only [push_cast, reduceIte, reduceCtorEq, Nat.reduceEqDiff, Nat.reduceLT, Nat.reduceLeDiff, Nat.reduceAdd, Nat.reduceMul, Nat.reduceMod, Nat.reduceDiv, Nat.reduceSub, Int.reduceToNat, bl, hmE, b1, d1, d2, d3]; (try simp (disch := omega) only [wrap64, Int.toNat_natCast]); (repeat refine and_rev ?_ ?_); (first | refine hK' _ ?_ | (refine ⟨.v (.int .i64 0), ?_⟩; refine hK' _ ?_)); clear hK' K')
    | (refine aopsx_skip (by rfl) (by rfl) (by simp only [dstOk, Nat.reduceLT]) ?_; simp only [St.put])
    | ((first | refine aopsx_nil ?_ | refine aops_nil ?_); first | (refine hKs _ ?_; clear hKs K) | (refine hKr _ ?_; clear hKr K; simp only [push_cast, reduceIte, reduceCtorEq, Nat.reduceEqDiff, Nat.reduceLT, Nat.reduceLeDiff, Nat.reduceAdd, Nat.reduceMul, Nat.reduceMod, Nat.reduceDiv, Nat.reduceSub, Int.reduceToNat]))
    | refine awp_xseq hT fun K hKs => ?_ | refine awp_x hT fun K hKr => ?_ | refine awp_dseq hT hm (by decide +kernel) fun K hKs => ?_ | refine awp_d hT hm (by decide +kernel) fun K hKr => ?_
    | refine awp_block ?_ | refine awp_scope ?_ | refine awp_seq ?_ | ((first | refine awp_label ?_ | refine awp_skip ?_ | refine awp_exit ?_ | refine awp_ret ?_); simp only [push_cast, reduceIte, reduceCtorEq, Nat.reduceEqDiff, Nat.reduceLT, Nat.reduceLeDiff, Nat.reduceAdd, Nat.reduceMul, Nat.reduceMod, Nat.reduceDiv, Nat.reduceSub, Int.reduceToNat])
    | (refine awp_cond _ rfl (fun h => ?_) (fun h => ?_) <;> simp only [bh, decide_eq_true_eq, decide_eq_false_iff_not, eq_self, not_true_eq_false, not_false_eq_true, reduceCtorEq, Bool.true_eq_false, Bool.false_eq_true, bne_self_eq_false, beq_self_eq_true] at h))
            all_goals first | omega | exact (fun hh => hh) | (simp only [List.length_take, List.length_drop, List.length_append, List.length_map, List.length_cons, List.length_nil, List.length_replicate, List.length_set]; omega) | (intro hh; (try simp only [hh, Bool.not_false, Bool.not_true, Bool.true_and, Bool.and_true, eq_self, true_and, and_true]); (try simp only [bh, decide_eq_true_eq, decide_eq_false_iff_not] at hh); (first | done | omega | (simp only [List.length_take, List.length_drop, List.length_append, List.length_map, List.length_cons, List.length_nil, List.length_replicate, List.length_set]; omega))) | (intro hh; simp only [hh, Bool.not_false, Bool.not_true, Bool.true_and, Bool.and_true, eq_self, true_and, and_true]; intro h2; simp only [h2, Bool.not_false, Bool.not_true]; done) | (exact rfl) | skip
            all_goals done
        · have d2 : decide ((ms.length : Int) ≤ (i : Int)) = true := decide_eq_true (by omega)
          have hn2 : badN ms ps.length i k m := .inl ⟨hd0, .inl (.inl (by omega))⟩
          have zA : A = false := by rw [← hA, hd]; exact al_bad2 hdn0 hb (.inl hn2)
          have zC : C = 0 := by rw [← hC, hd, rcF, if_pos (.inr (.inl hn2))]
          rw [zA, zC]
          repeat' (first
    | ((first | refine aopsx_cons (by rfl) fun K' hK' => ?_ | refine aops_cons (by rfl) fun K' hK' => ?_); simp only [push_cast, reduceIte, reduceCtorEq, Nat.reduceEqDiff, Nat.reduceLT, Nat.reduceLeDiff, Nat.reduceAdd, Nat.reduceMul, Nat.reduceMod, Nat.reduceDiv, Nat.reduceSub, Int.reduceToNat, bl, hmE, b1, d1, d2]; (try simp (disch := omega) only [wrap64, Int.toNat_natCast]); (repeat refine and_rev ?_ ?_); (first | refine hK' _ ?_ | (refine ⟨.v (.int .i64 0), ?_⟩; refine hK' _ ?_)); clear hK' K')
    | (refine aopsx_skip (by rfl) (by rfl) (by simp only [dstOk, Nat.reduceLT]) ?_; simp only [St.put])
    | ((first | refine aopsx_nil ?_ | refine aops_nil ?_); first | (refine hKs _ ?_; clear hKs K) | (refine hKr _ ?_; clear hKr K; simp only [push_cast, reduceIte, reduceCtorEq, Nat.reduceEqDiff, Nat.reduceLT, Nat.reduceLeDiff, Nat.reduceAdd, Nat.reduceMul, Nat.reduceMod, Nat.reduceDiv, Nat.reduceSub, Int.reduceToNat]))
    | refine awp_xseq hT fun K hKs => ?_ | refine awp_x hT fun K hKr => ?_ | refine awp_dseq hT hm (by decide +kernel) fun K hKs => ?_ | refine awp_d hT hm (by decide +kernel) fun K hKr => ?_
    | refine awp_block ?_ | refine awp_scope ?_ | refine awp_seq ?_ | ((first | refine awp_label ?_ | refine awp_skip ?_ | refine awp_exit ?_ | refine awp_ret ?_); simp only [push_cast, reduceIte, reduceCtorEq, Nat.reduceEqDiff, Nat.reduceLT, Nat.reduceLeDiff, Nat.reduceAdd, Nat.reduceMul, Nat.reduceMod, Nat.reduceDiv, Nat.reduceSub, Int.reduceToNat])
    | (refine awp_cond _ rfl (fun h => ?_) (fun h => ?_) <;> simp only [bh, decide_eq_true_eq, decide_eq_false_iff_not, eq_self, not_true_eq_false, not_false_eq_true, reduceCtorEq, Bool.true_eq_false, Bool.false_eq_true, bne_self_eq_false, beq_self_eq_true] at h))
          all_goals first | omega | exact (fun hh => hh) | (simp only [List.length_take, List.length_drop, List.length_append, List.length_map, List.length_cons, List.length_nil, List.length_replicate, List.length_set]; omega) | (intro hh; (try simp only [hh, Bool.not_false, Bool.not_true, Bool.true_and, Bool.and_true, eq_self, true_and, and_true]); (try simp only [bh, decide_eq_true_eq, decide_eq_false_iff_not] at hh); (first | done | omega | (simp only [List.length_take, List.length_drop, List.length_append, List.length_map, List.length_cons, List.length_nil, List.length_replicate, List.length_set]; omega))) | (intro hh; simp only [hh, Bool.not_false, Bool.not_true, Bool.true_and, Bool.and_true, eq_self, true_and, and_true]; intro h2; simp only [h2, Bool.not_false, Bool.not_true]; done) | (exact rfl) | skip
          all_goals done
      · have d1 : decide (0 ≤ m.d) = false := decide_eq_false hd0
        have hdn : ¬ (0 ≤ m.d ∧ ((ms.length ≤ i ∨ m.d ≠ (ms.getD i default).d) ∨ m.i ≠ (ms.getD i default).i)) := fun h => hd0 h.1
        by_cases hp0 : 0 ≤ m.p
        · have p1 : decide (0 ≤ m.p) = true := decide_eq_true hp0
          by_cases hpk : m.p = k
          · have p2 : (m.p != (k : Int)) = false := by rw [hpk]; exact bne_self_eq_false _
            have hn2 : ¬ badN ms ps.length i k m := by
              rintro (h | h)
              · exact hdn h
              · exact h.2 hpk
            by_cases hkl : k < ps.length
            · have p3 : decide ((ps.length : Int) ≤ (k : Int)) = false := decide_eq_false (by omega)
              have hk2 : ¬ (0 ≤ m.p ∧ ps.length ≤ k) := fun h => by omega
              rw [hd, al_go hb hn2 hk2] at hA
              rw [hd, rcF, if_neg (by rintro (h | h | h); exact hb h; exact hn2 h; exact hk2 h)] at hC
              rw [if_neg hd0, if_pos hp0] at hA hC
              rw [if_neg (fun h => hd0 h.1)] at hC
              repeat' (first
    | ((first | refine aopsx_cons (by rfl) fun K' hK' => ?_ | refine aops_cons (by rfl) fun K' hK' => ?_); simp only [push_cast, reduceIte, reduceCtorEq, Nat.reduceEqDiff, Nat.reduceLT, Nat.reduceLeDiff, Nat.reduceAdd, Nat.reduceMul, Nat.reduceMod, Nat.reduceDiv, Nat.reduceSub, Int.reduceToNat, bl, hmE, b1, d1, p1, p2, p3]; (try simp (disch := omega) only [wrap64, Int.toNat_natCast]); (repeat refine and_rev ?_ ?_); (first | refine hK' _ ?_ | (refine ⟨.v (.int .i64 0), ?_⟩; refine hK' _ ?_)); clear hK' K')
    | (refine aopsx_skip (by rfl) (by rfl) (by simp only [dstOk, Nat.reduceLT]) ?_; simp only [St.put])
    | ((first | refine aopsx_nil ?_ | refine aops_nil ?_); first | (refine hKs _ ?_; clear hKs K) | (refine hKr _ ?_; clear hKr K; simp only [push_cast, reduceIte, reduceCtorEq, Nat.reduceEqDiff, Nat.reduceLT, Nat.reduceLeDiff, Nat.reduceAdd, Nat.reduceMul, Nat.reduceMod, Nat.reduceDiv, Nat.reduceSub, Int.reduceToNat]))
    | refine awp_xseq hT fun K hKs => ?_ | refine awp_x hT fun K hKr => ?_ | refine awp_dseq hT hm (by decide +kernel) fun K hKs => ?_ | refine awp_d hT hm (by decide +kernel) fun K hKr => ?_
    | refine awp_block ?_ | refine awp_scope ?_ | refine awp_seq ?_ | ((first | refine awp_label ?_ | refine awp_skip ?_ | refine awp_exit ?_ | refine awp_ret ?_); simp only [push_cast, reduceIte, reduceCtorEq, Nat.reduceEqDiff, Nat.reduceLT, Nat.reduceLeDiff, Nat.reduceAdd, Nat.reduceMul, Nat.reduceMod, Nat.reduceDiv, Nat.reduceSub, Int.reduceToNat])
    | (refine awp_cond _ rfl (fun h => ?_) (fun h => ?_) <;> simp only [bh, decide_eq_true_eq, decide_eq_false_iff_not, eq_self, not_true_eq_false, not_false_eq_true, reduceCtorEq, Bool.true_eq_false, Bool.false_eq_true, bne_self_eq_false, beq_self_eq_true] at h))
              all_goals first | omega | exact (fun hh => hh) | (simp only [List.length_take, List.length_drop, List.length_append, List.length_map, List.length_cons, List.length_nil, List.length_replicate, List.length_set]; omega) | (intro hh; (try simp only [hh, Bool.not_false, Bool.not_true, Bool.true_and, Bool.and_true, eq_self, true_and, and_true]); (try simp only [bh, decide_eq_true_eq, decide_eq_false_iff_not] at hh); (first | done | omega | (simp only [List.length_take, List.length_drop, List.length_append, List.length_map, List.length_cons, List.length_nil, List.length_replicate, List.length_set]; omega))) | (intro hh; simp only [hh, Bool.not_false, Bool.not_true, Bool.true_and, Bool.and_true, eq_self, true_and, and_true]; intro h2; simp only [h2, Bool.not_false, Bool.not_true]; done) | (exact rfl) | skip
              any_goals exact ⟨(q + 1, i, (k + 1), (s + 120)), ⟨⟨by show q + 1 ≤ _; omega, ⟨by show i ≤ _; omega, by show (k + 1) ≤ _; omega⟩, by show 0 ≤ (s + 120) ∧ (s + 120) ≤ (q + 1 : Nat) * 60000000; omega, hA, hC⟩, by show _ - (q + 1) < _ - q; omega⟩, G.wk ⟨rfl, rfl, rfl, rfl, rfl, rfl, rfl, trivial⟩ trivial⟩
            · have p3 : decide ((ps.length : Int) ≤ (k : Int)) = true := decide_eq_true (by omega)
              have zA : A = false := by rw [← hA, hd]; exact al_bad2 hdn0 hb (.inr ⟨hp0, by omega⟩)
              have zC : C = 0 := by rw [← hC, hd, rcF, if_pos (.inr (.inr ⟨hp0, by omega⟩))]
              rw [zA, zC]
              repeat' (first
    | ((first | refine aopsx_cons (by rfl) fun K' hK' => ?_ | refine aops_cons (by rfl) fun K' hK' => ?_); simp only [push_cast, reduceIte, reduceCtorEq, Nat.reduceEqDiff, Nat.reduceLT, Nat.reduceLeDiff, Nat.reduceAdd, Nat.reduceMul, Nat.reduceMod, Nat.reduceDiv, Nat.reduceSub, Int.reduceToNat, bl, hmE, b1, d1, p1, p2, p3]; (try simp (disch := omega) only [wrap64, Int.toNat_natCast]); (repeat refine and_rev ?_ ?_); (first | refine hK' _ ?_ | (refine ⟨.v (.int .i64 0), ?_⟩; refine hK' _ ?_)); clear hK' K')
    | (refine aopsx_skip (by rfl) (by rfl) (by simp only [dstOk, Nat.reduceLT]) ?_; simp only [St.put])
    | ((first | refine aopsx_nil ?_ | refine aops_nil ?_); first | (refine hKs _ ?_; clear hKs K) | (refine hKr _ ?_; clear hKr K; simp only [push_cast, reduceIte, reduceCtorEq, Nat.reduceEqDiff, Nat.reduceLT, Nat.reduceLeDiff, Nat.reduceAdd, Nat.reduceMul, Nat.reduceMod, Nat.reduceDiv, Nat.reduceSub, Int.reduceToNat]))
    | refine awp_xseq hT fun K hKs => ?_ | refine awp_x hT fun K hKr => ?_ | refine awp_dseq hT hm (by decide +kernel) fun K hKs => ?_ | refine awp_d hT hm (by decide +kernel) fun K hKr => ?_
    | refine awp_block ?_ | refine awp_scope ?_ | refine awp_seq ?_ | ((first | refine awp_label ?_ | refine awp_skip ?_ | refine awp_exit ?_ | refine awp_ret ?_); simp only [push_cast, reduceIte, reduceCtorEq, Nat.reduceEqDiff, Nat.reduceLT, Nat.reduceLeDiff, Nat.reduceAdd, Nat.reduceMul, Nat.reduceMod, Nat.reduceDiv, Nat.reduceSub, Int.reduceToNat])
    | (refine awp_cond _ rfl (fun h => ?_) (fun h => ?_) <;> simp only [bh, decide_eq_true_eq, decide_eq_false_iff_not, eq_self, not_true_eq_false, not_false_eq_true, reduceCtorEq, Bool.true_eq_false, Bool.false_eq_true, bne_self_eq_false, beq_self_eq_true] at h))
              all_goals first | omega | exact (fun hh => hh) | (simp only [List.length_take, List.length_drop, List.length_append, List.length_map, List.length_cons, List.length_nil, List.length_replicate, List.length_set]; omega) | (intro hh; (try simp only [hh, Bool.not_false, Bool.not_true, Bool.true_and, Bool.and_true, eq_self, true_and, and_true]); (try simp only [bh, decide_eq_true_eq, decide_eq_false_iff_not] at hh); (first | done | omega | (simp only [List.length_take, List.length_drop, List.length_append, List.length_map, List.length_cons, List.length_nil, List.length_replicate, List.length_set]; omega))) | (intro hh; simp only [hh, Bool.not_false, Bool.not_true, Bool.true_and, Bool.and_true, eq_self, true_and, and_true]; intro h2; simp only [h2, Bool.not_false, Bool.not_true]; done) | (exact rfl) | skip
              all_goals done
          · have p2 : (m.p != (k : Int)) = true := by simpa using hpk
            have hn2 : badN ms ps.length i k m := .inr ⟨hp0, hpk⟩
            have zA : A = false := by rw [← hA, hd]; exact al_bad2 hdn0 hb (.inl hn2)
            have zC : C = 0 := by rw [← hC, hd, rcF, if_pos (.inr (.inl hn2))]
            rw [zA, zC]
            repeat' (first
    | ((first | refine aopsx_cons (by rfl) fun K' hK' => ?_ | refine aops_cons (by rfl) fun K' hK' => ?_); simp only [push_cast, reduceIte, reduceCtorEq, Nat.reduceEqDiff, Nat.reduceLT, Nat.reduceLeDiff, Nat.reduceAdd, Nat.reduceMul, Nat.reduceMod, Nat.reduceDiv, Nat.reduceSub, Int.reduceToNat, bl, hmE, b1, d1, p1, p2]; (try simp (disch := omega) only [wrap64, Int.toNat_natCast]); (repeat refine and_rev ?_ ?_); (first | refine hK' _ ?_ | (refine ⟨.v (.int .i64 0), ?_⟩; refine hK' _ ?_)); clear hK' K')
    | (refine aopsx_skip (by rfl) (by rfl) (by simp only [dstOk, Nat.reduceLT]) ?_; simp only [St.put])
    | ((first | refine aopsx_nil ?_ | refine aops_nil ?_); first | (refine hKs _ ?_; clear hKs K) | (refine hKr _ ?_; clear hKr K; simp only [push_cast, reduceIte, reduceCtorEq, Nat.reduceEqDiff, Nat.reduceLT, Nat.reduceLeDiff, Nat.reduceAdd, Nat.reduceMul, Nat.reduceMod, Nat.reduceDiv, Nat.reduceSub, Int.reduceToNat]))
    | refine awp_xseq hT fun K hKs => ?_ | refine awp_x hT fun K hKr => ?_ | refine awp_dseq hT hm (by decide +kernel) fun K hKs => ?_ | refine awp_d hT hm (by decide +kernel) fun K hKr => ?_
    | refine awp_block ?_ | refine awp_scope ?_ | refine awp_seq ?_ | ((first | refine awp_label ?_ | refine awp_skip ?_ | refine awp_exit ?_ | refine awp_ret ?_); simp only [push_cast, reduceIte, reduceCtorEq, Nat.reduceEqDiff, Nat.reduceLT, Nat.reduceLeDiff, Nat.reduceAdd, Nat.reduceMul, Nat.reduceMod, Nat.reduceDiv, Nat.reduceSub, Int.reduceToNat])
    | (refine awp_cond _ rfl (fun h => ?_) (fun h => ?_) <;> simp only [bh, decide_eq_true_eq, decide_eq_false_iff_not, eq_self, not_true_eq_false, not_false_eq_true, reduceCtorEq, Bool.true_eq_false, Bool.false_eq_true, bne_self_eq_false, beq_self_eq_true] at h))
            all_goals first | omega | exact (fun hh => hh) | (simp only [List.length_take, List.length_drop, List.length_append, List.length_map, List.length_cons, List.length_nil, List.length_replicate, List.length_set]; omega) | (intro hh; (try simp only [hh, Bool.not_false, Bool.not_true, Bool.true_and, Bool.and_true, eq_self, true_and, and_true]); (try simp only [bh, decide_eq_true_eq, decide_eq_false_iff_not] at hh); (first | done | omega | (simp only [List.length_take, List.length_drop, List.length_append, List.length_map, List.length_cons, List.length_nil, List.length_replicate, List.length_set]; omega))) | (intro hh; simp only [hh, Bool.not_false, Bool.not_true, Bool.true_and, Bool.and_true, eq_self, true_and, and_true]; intro h2; simp only [h2, Bool.not_false, Bool.not_true]; done) | (exact rfl) | skip
            all_goals done
        · have p1 : decide (0 ≤ m.p) = false := decide_eq_false hp0
          have hn2 : ¬ badN ms ps.length i k m := by
            rintro (h | h)
            · exact hdn h
            · exact hp0 h.1
          have hk2 : ¬ (0 ≤ m.p ∧ ps.length ≤ k) := fun h => hp0 h.1
          exact absurd (.inl (.inl (.inl ⟨by omega, by omega⟩))) hb
  · obtain rfl : q = l.length := by omega
    have bl : decide ((l.length : Int) < (l.length : Int)) = false := decide_eq_false (by omega)
    rw [List.drop_length] at hA hC
    have zC : C = s := by rw [← hC]; rfl
    have zA : A = (((i : Int) == (ms.length : Int)) && ((k : Int) == (ps.length : Int))) := by
      rw [← hA, alI]
      by_cases c1 : i = ms.length <;> by_cases c2 : k = ps.length <;> simp [c1, c2] <;> omega
    rw [zC, zA]
    repeat' (first
    | ((first | refine aopsx_cons (by rfl) fun K' hK' => ?_ | refine aops_cons (by rfl) fun K' hK' => ?_); simp only [push_cast, reduceIte, reduceCtorEq, Nat.reduceEqDiff, Nat.reduceLT, Nat.reduceLeDiff, Nat.reduceAdd, Nat.reduceMul, Nat.reduceMod, Nat.reduceDiv, Nat.reduceSub, Int.reduceToNat, bl]; (try simp (disch := omega) only [wrap64, Int.toNat_natCast]); (repeat refine and_rev ?_ ?_); (first | refine hK' _ ?_ | (refine ⟨.v (.int .i64 0), ?_⟩; refine hK' _ ?_)); clear hK' K')
    | (refine aopsx_skip (by rfl) (by rfl) (by simp only [dstOk, Nat.reduceLT]) ?_; simp only [St.put])
    | ((first | refine aopsx_nil ?_ | refine aops_nil ?_); first | (refine hKs _ ?_; clear hKs K) | (refine hKr _ ?_; clear hKr K; simp only [push_cast, reduceIte, reduceCtorEq, Nat.reduceEqDiff, Nat.reduceLT, Nat.reduceLeDiff, Nat.reduceAdd, Nat.reduceMul, Nat.reduceMod, Nat.reduceDiv, Nat.reduceSub, Int.reduceToNat]))
    | refine awp_xseq hT fun K hKs => ?_ | refine awp_x hT fun K hKr => ?_ | refine awp_dseq hT hm (by decide +kernel) fun K hKs => ?_ | refine awp_d hT hm (by decide +kernel) fun K hKr => ?_
    | refine awp_block ?_ | refine awp_scope ?_ | refine awp_seq ?_ | ((first | refine awp_label ?_ | refine awp_skip ?_ | refine awp_exit ?_ | refine awp_ret ?_); simp only [push_cast, reduceIte, reduceCtorEq, Nat.reduceEqDiff, Nat.reduceLT, Nat.reduceLeDiff, Nat.reduceAdd, Nat.reduceMul, Nat.reduceMod, Nat.reduceDiv, Nat.reduceSub, Int.reduceToNat])
    | (refine awp_cond _ rfl (fun h => ?_) (fun h => ?_) <;> simp only [bh, decide_eq_true_eq, decide_eq_false_iff_not, eq_self, not_true_eq_false, not_false_eq_true, reduceCtorEq, Bool.true_eq_false, Bool.false_eq_true, bne_self_eq_false, beq_self_eq_true] at h))
    all_goals first | omega | exact (fun hh => hh) | (simp only [List.length_take, List.length_drop, List.length_append, List.length_map, List.length_cons, List.length_nil, List.length_replicate, List.length_set]; omega) | (intro hh; (try simp only [hh, Bool.not_false, Bool.not_true, Bool.true_and, Bool.and_true, eq_self, true_and, and_true]); (try simp only [bh, decide_eq_true_eq, decide_eq_false_iff_not] at hh); (first | done | omega | (simp only [List.length_take, List.length_drop, List.length_append, List.length_map, List.length_cons, List.length_nil, List.length_replicate, List.length_set]; omega))) | (intro hh; simp only [hh, Bool.not_false, Bool.not_true, Bool.true_and, Bool.and_true, eq_self, true_and, and_true]; intro h2; simp only [h2, Bool.not_false, Bool.not_true]; done) | (exact rfl) | skip
    all_goals done
end Go.Proofs.Ytgcomonjkcpkaaa
