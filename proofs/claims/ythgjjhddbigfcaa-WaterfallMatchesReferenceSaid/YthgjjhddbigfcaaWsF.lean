/- Part of a proof about the given program: contracts of its functions (see the comment of the last text). -/
import Derived.Test.YthgjjhddbigfcaaWsD
import Derived.Test.YthgjjhddbigfcaaPl1
namespace Go.Proofs.Ythgjjhddbigfcaa
open Go.Eng Go.Proofs Go.Proofs.Share
set_option linter.unusedSimpArgs false
set_option linter.unusedVariables false
attribute [local irreducible] AOps AOpsX AOps2 AOpsS AWP AAnyS Go.Eng.Pure PureRow Eff
/-- What the reference's error is behind its two loops. -/
def w1 (total : Int) (l : List Int) (k : Nat) : Int := if 1000000000000 < total ∨ ∃ c ∈ l.take k, 1000000000000 < c then 3 else 0
def w2 (total : Int) (l : List Int) (k : Nat) : Int := if total < 0 ∨ ∃ c ∈ l.take k, c < 0 then 1 else w1 total l l.length
theorem ex_take_succ {l : List Int} {p : Int → Prop} {k : Nat} (h : k < l.length) : (∃ c ∈ l.take (k + 1), p c) ↔ (∃ c ∈ l.take k, p c) ∨ p (l.getD k 0) := by
  have hg : l.getD k 0 = l[k] := by simp [List.getD_eq_getElem?_getD, h]
  rw [List.take_succ_eq_append_getElem h, hg]
  constructor
  · rintro ⟨c, hc, hp⟩
    rcases List.mem_append.1 hc with hc | hc
    · exact .inl ⟨c, hc, hp⟩
    · simp at hc; subst hc; exact .inr hp
  · rintro (⟨c, hc, hp⟩ | hp)
    · exact ⟨c, List.mem_append.2 (.inl hc), hp⟩
    · exact ⟨_, List.mem_append.2 (.inr (by simp)), hp⟩
theorem w1_yes {total : Int} {l : List Int} {k : Nat} (h : k < l.length) (hc : 1000000000000 < l.getD k 0) : w1 total l (k + 1) = 3 := by
  unfold w1; rw [if_pos (.inr ((ex_take_succ h).2 (.inr hc)))]
theorem w1_no {total : Int} {l : List Int} {k : Nat} (h : k < l.length) (hc : l.getD k 0 ≤ 1000000000000) : w1 total l (k + 1) = w1 total l k := by
  unfold w1
  simp only [ex_take_succ h]
  have : ¬ 1000000000000 < l.getD k 0 := by omega
  simp only [this, or_false]
theorem w2_yes {total : Int} {l : List Int} {k : Nat} (h : k < l.length) (hc : l.getD k 0 < 0) : w2 total l (k + 1) = 1 := by
  unfold w2; rw [if_pos (.inr ((ex_take_succ h).2 (.inr hc)))]
theorem w2_no {total : Int} {l : List Int} {k : Nat} (h : k < l.length) (hc : 0 ≤ l.getD k 0) : w2 total l (k + 1) = w2 total l k := by
  unfold w2
  simp only [ex_take_succ h]
  have : ¬ l.getD k 0 < 0 := by omega
  simp only [this, or_false]
theorem w2_end {total : Int} {l : List Int} (h : l.length ≤ 64) : w2 total l l.length = errF total l := by
  unfold w2 w1 errF
  rw [List.take_length, if_neg (show ¬ 64 < l.length by omega)]
  by_cases h1 : total < 0
  · simp [h1]
  · by_cases h2 : ∃ c ∈ l, c < 0
    · simp [h1, h2]
    · by_cases h3 : 1000000000000 < total
      · simp [h1, h2, h3]
      · simp [h1, h2, h3]

set_option maxHeartbeats 2000000 in
theorem wrong_ok (total : Int) (l : List Int) (hl : l.length ≤ 1000000) : Pure Try.prog 67 [I64 total, ints l] (I64 (errF total l)) := by
  refine ZAV (n := 38) (res := [.tmp 4]) hT Try.func67 rfl rfl rfl Try.ntmps67 (Nat.le_of_ble_eq_true rfl) fun B w0 => ?_
  by_cases h64 : 64 < l.length
  · repeat' (first
    | ((first | refine ZAQ hT fun K hK => ?_ | refine ZAP hT hm (by kernel_rfl) fun K hK => ?_); push_cast; (try simp (disch := omega) only [wrap64, Int.toNat_natCast]); (repeat refine ZAD ?_ ?_); refine hK _ ?_; clear hK K)
    | ((first | refine ZAg hT fun K hK => ?_ | refine ZAe hT hm (by kernel_rfl) fun K hK => ?_); push_cast; (try simp (disch := omega) only [wrap64, Int.toNat_natCast]); (repeat refine ZAD ?_ ?_); refine hK _ ?_; clear hK K; push_cast)
    | refine ZAA ?_ | refine ZAB ?_ | refine ZAL ?_ | ((first | refine ZAC ?_ | refine ZAF ?_ | refine ZAG ?_ | refine ZAM ?_); push_cast)
    | (refine ZAH _ rfl (fun h => ?_) (fun h => ?_) <;> simp only [bh2, reduceCtorEq] at h))
    all_goals first | omega | skip
    rw [errF, if_pos (by omega)]
  · refine ZAQ hT fun K hK => ?_
    push_cast
    refine hK _ (ZE3 (α := Unit) (fun _ => ⟨[(0, I64 total), (1, ints l)], []⟩) (fun _ => True) ?_ fun _ _ => ?_)
    · repeat' (first
    | ((first | refine ZAQ hT fun K hK => ?_ | refine ZAP hT hm (by kernel_rfl) fun K hK => ?_); push_cast; (try simp (disch := omega) only [wrap64, Int.toNat_natCast]); (repeat refine ZAD ?_ ?_); refine hK _ ?_; clear hK K)
    | ((first | refine ZAg hT fun K hK => ?_ | refine ZAe hT hm (by kernel_rfl) fun K hK => ?_); push_cast; (try simp (disch := omega) only [wrap64, Int.toNat_natCast]); (repeat refine ZAD ?_ ?_); refine hK _ ?_; clear hK K; push_cast)
    | refine ZAA ?_ | refine ZAB ?_ | refine ZAL ?_ | ((first | refine ZAC ?_ | refine ZAF ?_ | refine ZAG ?_ | refine ZAM ?_); push_cast)
    | (refine ZAH _ rfl (fun h => ?_) (fun h => ?_) <;> simp only [bh2, reduceCtorEq] at h))
      all_goals first | omega | skip
      exact ⟨(), G.wk ⟨rfl, rfl, trivial⟩ trivial⟩
    refine ZAQ hT fun K hK => ?_
    push_cast
    refine hK _ (ZE3 (α := Unit) (fun _ => ⟨[(0, I64 total), (1, ints l), (5, I64 (w1 total l 0))], []⟩) (fun _ => True) ?_ fun _ _ => ?_)
    · repeat' (first
    | ((first | refine ZAQ hT fun K hK => ?_ | refine ZAP hT hm (by kernel_rfl) fun K hK => ?_); push_cast; (try simp (disch := omega) only [wrap64, Int.toNat_natCast]); (repeat refine ZAD ?_ ?_); refine hK _ ?_; clear hK K)
    | ((first | refine ZAg hT fun K hK => ?_ | refine ZAe hT hm (by kernel_rfl) fun K hK => ?_); push_cast; (try simp (disch := omega) only [wrap64, Int.toNat_natCast]); (repeat refine ZAD ?_ ?_); refine hK _ ?_; clear hK K; push_cast)
    | refine ZAA ?_ | refine ZAB ?_ | refine ZAL ?_ | ((first | refine ZAC ?_ | refine ZAF ?_ | refine ZAG ?_ | refine ZAM ?_); push_cast)
    | (refine ZAH _ rfl (fun h => ?_) (fun h => ?_) <;> simp only [bh2, reduceCtorEq] at h))
      all_goals first | omega | skip
      · exact ⟨(), G.wk ⟨rfl, rfl, by simp [lk, w1, h], trivial⟩ trivial⟩
      · exact ⟨(), G.wk ⟨rfl, rfl, by simp [lk, w1]; omega, trivial⟩ trivial⟩
    refine ZE3 (α := Unit) (fun _ => ⟨[(0, I64 total), (1, ints l), (5, I64 (w1 total l l.length))], []⟩) (fun _ => True) ?_ fun _ _ => ?_
    · repeat' (first
    | ((first | refine ZAQ hT fun K hK => ?_ | refine ZAP hT hm (by kernel_rfl) fun K hK => ?_); push_cast; (try simp (disch := omega) only [wrap64, Int.toNat_natCast]); (repeat refine ZAD ?_ ?_); refine hK _ ?_; clear hK K)
    | ((first | refine ZAg hT fun K hK => ?_ | refine ZAe hT hm (by kernel_rfl) fun K hK => ?_); push_cast; (try simp (disch := omega) only [wrap64, Int.toNat_natCast]); (repeat refine ZAD ?_ ?_); refine hK _ ?_; clear hK K; push_cast)
    | refine ZAA ?_ | refine ZAB ?_ | refine ZAL ?_ | ((first | refine ZAC ?_ | refine ZAF ?_ | refine ZAG ?_ | refine ZAM ?_); push_cast)
    | (refine ZAH _ rfl (fun h => ?_) (fun h => ?_) <;> simp only [bh2, reduceCtorEq] at h))
      refine ZAO (α := Nat) (fun k => ⟨[(0, I64 total), (1, ints l), (5, I64 (w1 total l k)), (6, I64 k)], []⟩) (fun k => k ≤ l.length) (fun k => l.length - k) 0 (Nat.zero_le _) (G.wk ⟨rfl, rfl, rfl, rfl, trivial⟩ trivial) fun k hk => ?_
      by_cases hlt : k < l.length
      · repeat' (first
    | ((first | refine ZAQ hT fun K hK => ?_ | refine ZAP hT hm (by kernel_rfl) fun K hK => ?_); push_cast; (try simp (disch := omega) only [wrap64, Int.toNat_natCast]); (repeat refine ZAD ?_ ?_); refine hK _ ?_; clear hK K)
    | ((first | refine ZAg hT fun K hK => ?_ | refine ZAe hT hm (by kernel_rfl) fun K hK => ?_); push_cast; (try simp (disch := omega) only [wrap64, Int.toNat_natCast]); (repeat refine ZAD ?_ ?_); refine hK _ ?_; clear hK K; push_cast)
    | refine ZAA ?_ | refine ZAB ?_ | refine ZAL ?_ | ((first | refine ZAC ?_ | refine ZAF ?_ | refine ZAG ?_ | refine ZAM ?_); push_cast)
    | (refine ZAH _ rfl (fun h => ?_) (fun h => ?_) <;> simp only [bh2, reduceCtorEq] at h))
        all_goals first | omega | skip
        · exact ⟨k + 1, ⟨by omega, by omega⟩, G.wk ⟨rfl, rfl, by rw [w1_yes hlt h]; rfl, rfl, trivial⟩ trivial⟩
        · exact ⟨k + 1, ⟨by omega, by omega⟩, G.wk ⟨rfl, rfl, by rw [w1_no hlt h]; rfl, rfl, trivial⟩ trivial⟩
      · repeat' (first
    | ((first | refine ZAQ hT fun K hK => ?_ | refine ZAP hT hm (by kernel_rfl) fun K hK => ?_); push_cast; (try simp (disch := omega) only [wrap64, Int.toNat_natCast]); (repeat refine ZAD ?_ ?_); refine hK _ ?_; clear hK K)
    | ((first | refine ZAg hT fun K hK => ?_ | refine ZAe hT hm (by kernel_rfl) fun K hK => ?_); push_cast; (try simp (disch := omega) only [wrap64, Int.toNat_natCast]); (repeat refine ZAD ?_ ?_); refine hK _ ?_; clear hK K; push_cast)
    | refine ZAA ?_ | refine ZAB ?_ | refine ZAL ?_ | ((first | refine ZAC ?_ | refine ZAF ?_ | refine ZAG ?_ | refine ZAM ?_); push_cast)
    | (refine ZAH _ rfl (fun h => ?_) (fun h => ?_) <;> simp only [bh2, reduceCtorEq] at h))
        all_goals first | omega | skip
        obtain rfl : k = l.length := by omega
        exact ⟨(), G.wk ⟨rfl, rfl, rfl, trivial⟩ trivial⟩
    refine ZE3 (α := Unit) (fun _ => ⟨[(0, I64 total), (1, ints l), (5, I64 (w2 total l 0))], []⟩) (fun _ => True) ?_ fun _ _ => ?_
    · repeat' (first
    | ((first | refine ZAQ hT fun K hK => ?_ | refine ZAP hT hm (by kernel_rfl) fun K hK => ?_); push_cast; (try simp (disch := omega) only [wrap64, Int.toNat_natCast]); (repeat refine ZAD ?_ ?_); refine hK _ ?_; clear hK K)
    | ((first | refine ZAg hT fun K hK => ?_ | refine ZAe hT hm (by kernel_rfl) fun K hK => ?_); push_cast; (try simp (disch := omega) only [wrap64, Int.toNat_natCast]); (repeat refine ZAD ?_ ?_); refine hK _ ?_; clear hK K; push_cast)
    | refine ZAA ?_ | refine ZAB ?_ | refine ZAL ?_ | ((first | refine ZAC ?_ | refine ZAF ?_ | refine ZAG ?_ | refine ZAM ?_); push_cast)
    | (refine ZAH _ rfl (fun h => ?_) (fun h => ?_) <;> simp only [bh2, reduceCtorEq] at h))
      all_goals first | omega | skip
      · exact ⟨(), G.wk ⟨rfl, rfl, by simp [lk, w2, h], trivial⟩ trivial⟩
      · exact ⟨(), G.wk ⟨rfl, rfl, by simp [lk, w2]; omega, trivial⟩ trivial⟩
    repeat' (first
    | ((first | refine ZAQ hT fun K hK => ?_ | refine ZAP hT hm (by kernel_rfl) fun K hK => ?_); push_cast; (try simp (disch := omega) only [wrap64, Int.toNat_natCast]); (repeat refine ZAD ?_ ?_); refine hK _ ?_; clear hK K)
    | ((first | refine ZAg hT fun K hK => ?_ | refine ZAe hT hm (by kernel_rfl) fun K hK => ?_); push_cast; (try simp (disch := omega) only [wrap64, Int.toNat_natCast]); (repeat refine ZAD ?_ ?_); refine hK _ ?_; clear hK K; push_cast)
    | refine ZAA ?_ | refine ZAB ?_ | refine ZAL ?_ | ((first | refine ZAC ?_ | refine ZAF ?_ | refine ZAG ?_ | refine ZAM ?_); push_cast)
    | (refine ZAH _ rfl (fun h => ?_) (fun h => ?_) <;> simp only [bh2, reduceCtorEq] at h))
    refine ZAO (α := Nat) (fun k => ⟨[(0, I64 total), (1, ints l), (5, I64 (w2 total l k)), (7, I64 k)], []⟩) (fun k => k ≤ l.length) (fun k => l.length - k) 0 (Nat.zero_le _) (G.wk ⟨rfl, rfl, rfl, rfl, trivial⟩ trivial) fun k hk => ?_
    by_cases hlt : k < l.length
    · repeat' (first
    | ((first | refine ZAQ hT fun K hK => ?_ | refine ZAP hT hm (by kernel_rfl) fun K hK => ?_); push_cast; (try simp (disch := omega) only [wrap64, Int.toNat_natCast]); (repeat refine ZAD ?_ ?_); refine hK _ ?_; clear hK K)
    | ((first | refine ZAg hT fun K hK => ?_ | refine ZAe hT hm (by kernel_rfl) fun K hK => ?_); push_cast; (try simp (disch := omega) only [wrap64, Int.toNat_natCast]); (repeat refine ZAD ?_ ?_); refine hK _ ?_; clear hK K; push_cast)
    | refine ZAA ?_ | refine ZAB ?_ | refine ZAL ?_ | ((first | refine ZAC ?_ | refine ZAF ?_ | refine ZAG ?_ | refine ZAM ?_); push_cast)
    | (refine ZAH _ rfl (fun h => ?_) (fun h => ?_) <;> simp only [bh2, reduceCtorEq] at h))
      all_goals first | omega | skip
      · exact ⟨k + 1, ⟨by omega, by omega⟩, G.wk ⟨rfl, rfl, by rw [w2_yes hlt h]; rfl, rfl, trivial⟩ trivial⟩
      · exact ⟨k + 1, ⟨by omega, by omega⟩, G.wk ⟨rfl, rfl, by rw [w2_no hlt h]; rfl, rfl, trivial⟩ trivial⟩
    · repeat' (first
    | ((first | refine ZAQ hT fun K hK => ?_ | refine ZAP hT hm (by kernel_rfl) fun K hK => ?_); push_cast; (try simp (disch := omega) only [wrap64, Int.toNat_natCast]); (repeat refine ZAD ?_ ?_); refine hK _ ?_; clear hK K)
    | ((first | refine ZAg hT fun K hK => ?_ | refine ZAe hT hm (by kernel_rfl) fun K hK => ?_); push_cast; (try simp (disch := omega) only [wrap64, Int.toNat_natCast]); (repeat refine ZAD ?_ ?_); refine hK _ ?_; clear hK K; push_cast)
    | refine ZAA ?_ | refine ZAB ?_ | refine ZAL ?_ | ((first | refine ZAC ?_ | refine ZAF ?_ | refine ZAG ?_ | refine ZAM ?_); push_cast)
    | (refine ZAH _ rfl (fun h => ?_) (fun h => ?_) <;> simp only [bh2, reduceCtorEq] at h))
      all_goals first | omega | skip
      obtain rfl : k = l.length := by omega
      rw [w2_end (by omega)]
end Go.Proofs.Ythgjjhddbigfcaa
