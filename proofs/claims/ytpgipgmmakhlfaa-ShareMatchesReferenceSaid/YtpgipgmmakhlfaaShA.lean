/- Part of a proof about the given program: contracts of its functions (see the comment of the last text). -/
import Derived.Test.YtpgipgmmakhlfaaEngS
import Derived.Test.YtpgipgmmakhlfaaProg
import Derived.KernelRfl
namespace Go.Proofs.Ytpgipgmmakhlfaa
open Go.Eng Go.Proofs
set_option linter.unusedSimpArgs false

def T : Tab
  | 3 => some ⟨.int .i64, 1, 8, .int .i64 0⟩
  | 4 => some ⟨.bool, 1, 1, .bool false⟩
  | 22 => some ⟨.sl 3, 1, 24, .slice none 0 0⟩
  | 26 => some ⟨.sl 22, 1, 24, .slice none 0 0⟩
  | 28 => some ⟨.int .i64, 1, 8, .int .i64 0⟩
  | 43 => some ⟨.int .u64, 1, 8, .int .u64 0⟩
  | _ => none
attribute [push_cast] T
theorem hT : T.ok Try.prog := by
  intro t i h
  unfold T at h
  split at h
  · cases h; exact ti_ok (by kernel_rfl) Try.underlying3
  · cases h; exact ti_ok (by kernel_rfl) Try.underlying4
  · cases h; exact ti_ok (by kernel_rfl) Try.underlying22
  · cases h; exact ti_ok (by kernel_rfl) Try.underlying26
  · cases h; exact ti_ok (by kernel_rfl) Try.underlying28
  · cases h; exact ti_ok (by kernel_rfl) Try.underlying43
  · cases h
theorem hm : Try.prog.follows .mixedOrders = true := by kernel_rfl

/-- int's range. -/
def In64 (n : Int) : Prop := -9223372036854775808 ≤ n ∧ n ≤ 9223372036854775807

def pickF (c n : Int) : Int := (if c < 0 then -(c + 1) else c) % n

theorem pick_ok (c n : Int) (hc : In64 c) (hn : 0 < n) (hn' : n ≤ 9223372036854775807) : Pure Try.prog 10 [I64 c, I64 n] (I64 (pickF c n)) := by
  unfold In64 at hc
  refine pure_of (n := 13) (res := [.tmp 4]) hT Try.func10 rfl rfl rfl Try.ntmps10 (Nat.le_of_ble_eq_true rfl) fun B w0 => ?_
  repeat' (first
    | ((first | refine awp_rseq hT fun K hK => ?_ | refine awp_dseq hT hm (by kernel_rfl) fun K hK => ?_); simp only [push_cast, reduceIte, reduceCtorEq, Nat.reduceEqDiff, Nat.reduceLT, Nat.reduceLeDiff, Nat.reduceAdd, Nat.reduceMul, Nat.reduceMod, Nat.reduceDiv, Nat.reduceSub]; (try simp (disch := omega) only [wrap64, Int.toNat_natCast]); (repeat refine and_rev ?_ ?_); refine hK _ ?_; clear hK K)
    | ((first | refine awp_r hT fun K hK => ?_ | refine awp_d hT hm (by kernel_rfl) fun K hK => ?_); simp only [push_cast, reduceIte, reduceCtorEq, Nat.reduceEqDiff, Nat.reduceLT, Nat.reduceLeDiff, Nat.reduceAdd, Nat.reduceMul, Nat.reduceMod, Nat.reduceDiv, Nat.reduceSub]; (try simp (disch := omega) only [wrap64, Int.toNat_natCast]); (repeat refine and_rev ?_ ?_); refine hK _ ?_; clear hK K; simp only [Ex.then, Ex.inBlock, Ex.noGoto, EndsA, fin, resOf, retOf, lk, lkH, AV.cond, AV.strip, AV.pub, reduceIte, Nat.reduceEqDiff, true_and, and_true, List.map_cons, List.map_nil, Bool.and_false, Bool.and_true, I64, BL, ints, intsF])
    | refine awp_block ?_ | refine awp_scope ?_ | refine awp_seq ?_ | ((first | refine awp_label ?_ | refine awp_skip ?_ | refine awp_exit ?_ | refine awp_ret ?_); simp only [Ex.then, Ex.inBlock, Ex.noGoto, EndsA, fin, resOf, retOf, lk, lkH, AV.cond, AV.strip, AV.pub, reduceIte, Nat.reduceEqDiff, true_and, and_true, List.map_cons, List.map_nil, Bool.and_false, Bool.and_true, I64, BL, ints, intsF])
    | (refine awp_cond _ rfl (fun h => ?_) (fun h => ?_) <;> simp only [Bool.and_eq_true, Bool.or_eq_true, decide_eq_true_eq, Bool.and_eq_false_iff, Bool.or_eq_false_iff, decide_eq_false_iff_not, Int.not_lt, Int.not_le, beq_iff_eq, bne_iff_ne, beq_eq_false_iff_ne, ne_eq, Bool.not_eq_true', Bool.not_eq_false', bne_eq_false_iff_eq, eq_self, not_true_eq_false, not_false_eq_true, reduceCtorEq, Bool.true_eq_false, Bool.false_eq_true, bne_self_eq_false, beq_self_eq_true] at h))
  all_goals first | omega | skip
  · rw [pickF, if_pos h, Int.tmod_eq_emod_of_nonneg (by omega)]; congr 3; omega
  · rw [pickF, if_neg (by omega), Int.tmod_eq_emod_of_nonneg h]

def sumTo (l : List Int) : Nat → Int
  | 0 => 0
  | k + 1 => sumTo l k + l.getD k 0

theorem sum_ok (l : List Int) (hl : l.length ≤ 1000000) (hs : ∀ k, k ≤ l.length → In64 (sumTo l k)) : Pure Try.prog 11 [ints l] (I64 (sumTo l l.length)) := by
  refine pure_of (n := 18) (res := [.tmp 2]) hT Try.func11 rfl rfl rfl Try.ntmps11 (Nat.le_of_ble_eq_true rfl) fun B w0 => ?_
  repeat' (first
    | ((first | refine awp_rseq hT fun K hK => ?_ | refine awp_dseq hT hm (by kernel_rfl) fun K hK => ?_); simp only [push_cast, reduceIte, reduceCtorEq, Nat.reduceEqDiff, Nat.reduceLT, Nat.reduceLeDiff, Nat.reduceAdd, Nat.reduceMul, Nat.reduceMod, Nat.reduceDiv, Nat.reduceSub]; (try simp (disch := omega) only [wrap64, Int.toNat_natCast]); (repeat refine and_rev ?_ ?_); refine hK _ ?_; clear hK K)
    | ((first | refine awp_r hT fun K hK => ?_ | refine awp_d hT hm (by kernel_rfl) fun K hK => ?_); simp only [push_cast, reduceIte, reduceCtorEq, Nat.reduceEqDiff, Nat.reduceLT, Nat.reduceLeDiff, Nat.reduceAdd, Nat.reduceMul, Nat.reduceMod, Nat.reduceDiv, Nat.reduceSub]; (try simp (disch := omega) only [wrap64, Int.toNat_natCast]); (repeat refine and_rev ?_ ?_); refine hK _ ?_; clear hK K; simp only [Ex.then, Ex.inBlock, Ex.noGoto, EndsA, fin, resOf, retOf, lk, lkH, AV.cond, AV.strip, AV.pub, reduceIte, Nat.reduceEqDiff, true_and, and_true, List.map_cons, List.map_nil, Bool.and_false, Bool.and_true, I64, BL, ints, intsF])
    | refine awp_block ?_ | refine awp_scope ?_ | refine awp_seq ?_ | ((first | refine awp_label ?_ | refine awp_skip ?_ | refine awp_exit ?_ | refine awp_ret ?_); simp only [Ex.then, Ex.inBlock, Ex.noGoto, EndsA, fin, resOf, retOf, lk, lkH, AV.cond, AV.strip, AV.pub, reduceIte, Nat.reduceEqDiff, true_and, and_true, List.map_cons, List.map_nil, Bool.and_false, Bool.and_true, I64, BL, ints, intsF])
    | (refine awp_cond _ rfl (fun h => ?_) (fun h => ?_) <;> simp only [Bool.and_eq_true, Bool.or_eq_true, decide_eq_true_eq, Bool.and_eq_false_iff, Bool.or_eq_false_iff, decide_eq_false_iff_not, Int.not_lt, Int.not_le, beq_iff_eq, bne_iff_ne, beq_eq_false_iff_ne, ne_eq, Bool.not_eq_true', Bool.not_eq_false', bne_eq_false_iff_eq, eq_self, not_true_eq_false, not_false_eq_true, reduceCtorEq, Bool.true_eq_false, Bool.false_eq_true, bne_self_eq_false, beq_self_eq_true] at h))
  refine awp_loop (α := Nat) (fun k => ⟨[(0, ints l), (3, I64 (sumTo l k)), (4, I64 k)], []⟩) (fun k => k ≤ l.length) (fun k => l.length - k) 0 (Nat.zero_le _) (G.wk ⟨rfl, rfl, rfl, trivial⟩ trivial) fun k hk => ?_
  have h1 := hs k hk
  unfold In64 at h1
  by_cases hlt : k < l.length
  · have h2 := hs (k + 1) hlt
    unfold In64 at h2
    rw [sumTo] at h2
    repeat' (first
    | ((first | refine awp_rseq hT fun K hK => ?_ | refine awp_dseq hT hm (by kernel_rfl) fun K hK => ?_); simp only [push_cast, reduceIte, reduceCtorEq, Nat.reduceEqDiff, Nat.reduceLT, Nat.reduceLeDiff, Nat.reduceAdd, Nat.reduceMul, Nat.reduceMod, Nat.reduceDiv, Nat.reduceSub]; (try simp (disch := omega) only [wrap64, Int.toNat_natCast]); (repeat refine and_rev ?_ ?_); refine hK _ ?_; clear hK K)
    | ((first | refine awp_r hT fun K hK => ?_ | refine awp_d hT hm (by kernel_rfl) fun K hK => ?_); simp only [push_cast, reduceIte, reduceCtorEq, Nat.reduceEqDiff, Nat.reduceLT, Nat.reduceLeDiff, Nat.reduceAdd, Nat.reduceMul, Nat.reduceMod, Nat.reduceDiv, Nat.reduceSub]; (try simp (disch := omega) only [wrap64, Int.toNat_natCast]); (repeat refine and_rev ?_ ?_); refine hK _ ?_; clear hK K; simp only [Ex.then, Ex.inBlock, Ex.noGoto, EndsA, fin, resOf, retOf, lk, lkH, AV.cond, AV.strip, AV.pub, reduceIte, Nat.reduceEqDiff, true_and, and_true, List.map_cons, List.map_nil, Bool.and_false, Bool.and_true, I64, BL, ints, intsF])
    | refine awp_block ?_ | refine awp_scope ?_ | refine awp_seq ?_ | ((first | refine awp_label ?_ | refine awp_skip ?_ | refine awp_exit ?_ | refine awp_ret ?_); simp only [Ex.then, Ex.inBlock, Ex.noGoto, EndsA, fin, resOf, retOf, lk, lkH, AV.cond, AV.strip, AV.pub, reduceIte, Nat.reduceEqDiff, true_and, and_true, List.map_cons, List.map_nil, Bool.and_false, Bool.and_true, I64, BL, ints, intsF])
    | (refine awp_cond _ rfl (fun h => ?_) (fun h => ?_) <;> simp only [Bool.and_eq_true, Bool.or_eq_true, decide_eq_true_eq, Bool.and_eq_false_iff, Bool.or_eq_false_iff, decide_eq_false_iff_not, Int.not_lt, Int.not_le, beq_iff_eq, bne_iff_ne, beq_eq_false_iff_ne, ne_eq, Bool.not_eq_true', Bool.not_eq_false', bne_eq_false_iff_eq, eq_self, not_true_eq_false, not_false_eq_true, reduceCtorEq, Bool.true_eq_false, Bool.false_eq_true, bne_self_eq_false, beq_self_eq_true] at h))
    all_goals first | omega | skip
    exact ⟨k + 1, ⟨by omega, by omega⟩, G.wk ⟨rfl, rfl, rfl, trivial⟩ trivial⟩
  · repeat' (first
    | ((first | refine awp_rseq hT fun K hK => ?_ | refine awp_dseq hT hm (by kernel_rfl) fun K hK => ?_); simp only [push_cast, reduceIte, reduceCtorEq, Nat.reduceEqDiff, Nat.reduceLT, Nat.reduceLeDiff, Nat.reduceAdd, Nat.reduceMul, Nat.reduceMod, Nat.reduceDiv, Nat.reduceSub]; (try simp (disch := omega) only [wrap64, Int.toNat_natCast]); (repeat refine and_rev ?_ ?_); refine hK _ ?_; clear hK K)
    | ((first | refine awp_r hT fun K hK => ?_ | refine awp_d hT hm (by kernel_rfl) fun K hK => ?_); simp only [push_cast, reduceIte, reduceCtorEq, Nat.reduceEqDiff, Nat.reduceLT, Nat.reduceLeDiff, Nat.reduceAdd, Nat.reduceMul, Nat.reduceMod, Nat.reduceDiv, Nat.reduceSub]; (try simp (disch := omega) only [wrap64, Int.toNat_natCast]); (repeat refine and_rev ?_ ?_); refine hK _ ?_; clear hK K; simp only [Ex.then, Ex.inBlock, Ex.noGoto, EndsA, fin, resOf, retOf, lk, lkH, AV.cond, AV.strip, AV.pub, reduceIte, Nat.reduceEqDiff, true_and, and_true, List.map_cons, List.map_nil, Bool.and_false, Bool.and_true, I64, BL, ints, intsF])
    | refine awp_block ?_ | refine awp_scope ?_ | refine awp_seq ?_ | ((first | refine awp_label ?_ | refine awp_skip ?_ | refine awp_exit ?_ | refine awp_ret ?_); simp only [Ex.then, Ex.inBlock, Ex.noGoto, EndsA, fin, resOf, retOf, lk, lkH, AV.cond, AV.strip, AV.pub, reduceIte, Nat.reduceEqDiff, true_and, and_true, List.map_cons, List.map_nil, Bool.and_false, Bool.and_true, I64, BL, ints, intsF])
    | (refine awp_cond _ rfl (fun h => ?_) (fun h => ?_) <;> simp only [Bool.and_eq_true, Bool.or_eq_true, decide_eq_true_eq, Bool.and_eq_false_iff, Bool.or_eq_false_iff, decide_eq_false_iff_not, Int.not_lt, Int.not_le, beq_iff_eq, bne_iff_ne, beq_eq_false_iff_ne, ne_eq, Bool.not_eq_true', Bool.not_eq_false', bne_eq_false_iff_eq, eq_self, not_true_eq_false, not_false_eq_true, reduceCtorEq, Bool.true_eq_false, Bool.false_eq_true, bne_self_eq_false, beq_self_eq_true] at h))
    all_goals first | omega | skip
    obtain rfl : k = l.length := by omega
    rfl
end Go.Proofs.Ytpgipgmmakhlfaa
