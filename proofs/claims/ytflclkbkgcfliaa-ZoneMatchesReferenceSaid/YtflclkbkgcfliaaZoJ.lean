/- Part of a proof about the given program: contracts of its functions (see the comment of the last text). -/
import Derived.Test.YtflclkbkgcfliaaZoI
namespace Go.Proofs.Ytflclkbkgcfliaa
open Go.Eng Go.Proofs Go.Zo
set_option linter.unusedSimpArgs false
set_option linter.unusedVariables false
attribute [local irreducible] AOps AOpsX AOps2 AOpsS AWP AAnyS Go.Eng.Pure PureRow

theorem c0 : Pure Try.prog 22 [.a (avZ exZ)] (BL true) := by have := valid_ok exZ okEx; rw [q0] at this; exact this
theorem c1 : Pure Try.prog 20 [.a (avZ exZ), I64 4999] (.t [I64 3, I64 739, I64 0]) := by have := local_ok exZ 4999 okEx; rw [q1] at this; exact this
theorem c2 : Pure Try.prog 20 [.a (avZ exZ), I64 5000] (.t [I64 3, I64 800, I64 0]) := by have := local_ok exZ 5000 okEx; rw [q2] at this; exact this
theorem c3 : Pure Try.prog 24 [.a (avZ exZ), I64 (-5)] (I64 60) := by have := offset_ok exZ (-5) okEx; rw [q3] at this; exact this
theorem c4 : Pure Try.prog 32 [.a (avZ exZ), I64 3, I64 750] (ints []) := by have := inst_ok exZ 3 750 okEx; rw [q4] at this; exact this
theorem c5 : Pure Try.prog 32 [.a (avZ exZ), I64 13, I64 1370] (ints [19970, 20030]) := by have := inst_ok exZ 13 1370 okEx; rw [q5] at this; exact this
theorem c5' : Pure Try.prog 31 [ints [19970, 20030], ints [19970, 20030]] (BL true) := by have := rints_ok [19970, 20030] [19970, 20030] (by decide) (by decide); rw [decide_eq_true rfl] at this; exact this
theorem c6 : Pure Try.prog 34 [.a (avZ exZ), I64 3] (I64 1380) := by have := length_ok exZ 3 okEx; rw [q6] at this; exact this
theorem c7 : Pure Try.prog 34 [.a (avZ exZ), I64 13] (I64 1500) := by have := length_ok exZ 13 okEx; rw [q7] at this; exact this
theorem c8 : Pure Try.prog 34 [.a (avZ exZ), I64 14] (I64 1440) := by have := length_ok exZ 14 okEx; rw [q8] at this; exact this
abbrev exP : List Po := [(2, 60), (3, 1380), (4, 160)]
theorem c9 : Pure Try.prog 26 [.a (avZ exZ), I64 4200, I64 5800] (.t [avPs exP, I64 0]) := by have := split_ok exZ 4200 5800 okEx ⟨by decide, by decide⟩ ⟨by decide, by decide⟩; rw [avSp, q9] at this; exact this
theorem c9' : Pure Try.prog 30 [avPs exP, .i false (fun e j => [I64 2, I64 60, I64 3, I64 1380, I64 4, I64 160].getD (e * 2 + j) .top) 2 0 3] (BL true) := by
  have := same_ok exP exP (by decide) (by decide)
  rw [decide_eq_true rfl] at this
  refine this.sub ⟨Sub.refl _, sub_slice rfl (fun e j he hj => ?_), trivial⟩
  rcases (by omega : e = 0 ∨ e = 1 ∨ e = 2) with rfl | rfl | rfl <;> rcases (by omega : j = 0 ∨ j = 1) with rfl | rfl <;> rfl
theorem c10 : Pure Try.prog 28 [.a (avZ exZ), I64 4200, I64 5800, .a [I64 1380, I64 360]] (.t [I64 640, I64 0]) := by have := window_ok exZ 4200 5800 1380 360 okEx ⟨by decide, by decide⟩ ⟨by decide, by decide⟩; rw [avW, q10] at this; exact this
theorem c11 : Pure Try.prog 20 [.a (avZ exZ), I64 (-1)] (.t [I64 0, I64 0, I64 1]) := by have := local_ok exZ (-1) okEx; rw [q11] at this; exact this
set_option maxHeartbeats 16000000 in
theorem head_ok : Pure Try.prog 17 [] (BL true) := by
  refine pure_of (n := 130) (res := [.tmp 0]) hT Try.func17 rfl rfl rfl Try.ntmps17 (Nat.le_of_ble_eq_true rfl) fun B w0 => ?_
  have e0 := example_ok
  have c0 := c0; have c1 := c1; have c2 := c2; have c3 := c3; have c4 := c4; have c5 := c5; have c6 := c6; have c7 := c7; have c8 := c8; have c9 := c9; have c9' := c9'; have c10 := c10; have c11 := c11; have c5' := c5'
  repeat' (first | ((first | refine aopss_cons hT (by rfl) fun K' hK' => ?_ | refine aops_cons (by rfl) fun K' hK' => ?_); simp only [push_cast, reduceIte, reduceCtorEq, Nat.reduceEqDiff, Nat.reduceLT, Nat.reduceLeDiff, Nat.reduceAdd, Nat.reduceMul, Nat.reduceMod, Nat.reduceDiv, Nat.reduceSub, Int.reduceToNat]; (try simp (disch := omega) only [wrap64, Int.toNat_natCast]); (repeat refine and_rev ?_ ?_); (first | refine hK' _ ?_ | ((first | apply con1 | (apply con3; (intro hb; first | exact hb | exact ⟨hb, hb⟩ | exact ⟨hb, hb, hb⟩ | exact ⟨hb, hb, hb, hb⟩ | (simp only [hb, true_and, and_true, Bool.and_true, Bool.true_and]; done))) | apply con2); (try intro hb); (first | exact e0 | exact c0 | exact c1 | exact c2 | exact c3 | exact c4 | exact c5 | exact c5' | exact c6 | exact c7 | exact c8 | exact c9 | exact c9' | exact c10 | exact c11); (try intro hb); (first | exact .inr rfl | exact .inl (by simp [AV.fresh, AV.freshL])); (try simp only [push_cast, reduceIte, reduceCtorEq, Nat.reduceEqDiff, Nat.reduceLT, Nat.reduceLeDiff, Nat.reduceAdd, Nat.reduceMul, Nat.reduceMod, Nat.reduceDiv, Nat.reduceSub, Int.reduceToNat]); (try simp (disch := omega) only [wrap64, Int.toNat_natCast]); (repeat refine and_rev ?_ ?_); refine hK' _ ?_) | (refine ⟨.v (.int .i64 0), ?_⟩; refine hK' _ ?_)); clear hK' K') | (refine aopss_skip hT (by rfl) (by rfl) (by simp only [dstOk, Nat.reduceLT]) ?_; simp only [St.put]) | ((first | refine aopss_nil ?_ | refine aops_nil ?_); refine hKs _ ?_; clear hKs K) | ((first | ((first | refine aopss_nil ?_ | refine aops_nil ?_); refine hKr _ ?_; clear hKr K) | refine awp_label ?_ | refine awp_skip ?_ | refine awp_exit ?_ | refine awp_ret ?_); simp only [push_cast, reduceIte, reduceCtorEq, Nat.reduceEqDiff, Nat.reduceLT, Nat.reduceLeDiff, Nat.reduceAdd, Nat.reduceMul, Nat.reduceMod, Nat.reduceDiv, Nat.reduceSub, Int.reduceToNat]) | refine awp_sseq fun K hKs => ?_ | refine awp_s fun K hKr => ?_ | refine awp_dseq hT hm (by decide +kernel) fun K hKs => ?_ | refine awp_d hT hm (by decide +kernel) fun K hKr => ?_ | refine awp_block ?_ | refine awp_scope ?_ | refine awp_seq ?_ | (refine awp_cond _ rfl (fun h => ?_) (fun h => ?_) <;> simp only [bh, decide_eq_true_eq, decide_eq_false_iff_not, eq_self, not_true_eq_false, not_false_eq_true, reduceCtorEq, Bool.true_eq_false, Bool.false_eq_true, bne_self_eq_false, beq_self_eq_true] at h))
  all_goals first | omega | exact (fun hh => hh) | (simp only [List.length_take, List.length_drop, List.length_append, List.length_map, List.length_cons, List.length_nil, List.length_replicate, List.length_set]; omega) | (intro hh; (try simp only [hh, Bool.not_false, Bool.not_true, Bool.true_and, Bool.and_true, eq_self, true_and, and_true]); (try simp only [bh, decide_eq_true_eq, decide_eq_false_iff_not] at hh); (first | done | omega | (simp only [List.length_take, List.length_drop, List.length_append, List.length_map, List.length_cons, List.length_nil, List.length_replicate, List.length_set]; omega) | (intro h2; simp only [h2, Bool.not_false, Bool.not_true]; done))) | exact rfl | skip
  all_goals done
end Go.Proofs.Ytflclkbkgcfliaa
