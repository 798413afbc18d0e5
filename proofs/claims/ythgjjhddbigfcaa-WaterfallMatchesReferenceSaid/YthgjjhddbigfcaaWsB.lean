/- Part of a proof about the given program: contracts of its functions (see the comment of the last text). -/
import Derived.Test.YthgjjhddbigfcaaWfA
import Derived.Test.YthgjjhddbigfcaaPl1
namespace Go.Proofs.Ythgjjhddbigfcaa
open Go.Eng Go.Proofs Go.Proofs.Share
set_option linter.unusedSimpArgs false
set_option linter.unusedVariables false
attribute [local irreducible] AOps AOpsX AOps2 AOpsS AWP AAnyS Go.Eng.Pure PureRow Eff
theorem ZEB (l : List Int) (e : Int) (k : Nat) (h : k < l.length) : costF (l.take (k + 1)) e = costF (l.take k) e + min (l.getD k 0) e := by
  rw [List.take_succ_eq_append_getElem h]
  unfold costF
  rw [List.map_append, ZCr]
  simp [sumL, List.getD_eq_getElem?_getD, h]
theorem ZCs (l : List Int) (e : Int) (he : 0 ≤ e) (hl : ∀ c ∈ l, 0 ≤ c) : 0 ≤ costF l e ∧ costF l e ≤ e * l.length := by
  induction l with
  | nil => simp [costF, sumL]
  | cons c l ih =>
    have h1 := hl c (by simp)
    have := ih (fun x hx => hl x (by simp [hx]))
    rw [ZAz]
    simp only [List.length_cons]
    have : e * ((l.length + 1 : Nat) : Int) = e * (l.length : Int) + e := by rw [Int.natCast_add, Int.mul_add]; simp
    omega

theorem ZH3 (l : List Int) (e : Int) (hl : l.length ≤ 64) (he : 0 ≤ e) (he' : e ≤ 1000000000001) (hc : ∀ c ∈ l, 0 ≤ c) : Pure Try.prog 51 [ints l, I64 e] (I64 (costF l e)) := by
  refine ZAV (n := 21) (res := [.tmp 4]) hT Try.func51 rfl rfl rfl Try.ntmps51 (Nat.le_of_ble_eq_true rfl) fun B w0 => ?_
  repeat' (first
    | ((first | refine ZAQ hT fun K hK => ?_ | refine ZAP hT hm (by kernel_rfl) fun K hK => ?_); push_cast; (try simp (disch := omega) only [wrap64, Int.toNat_natCast]); (repeat refine ZAD ?_ ?_); refine hK _ ?_; clear hK K)
    | ((first | refine ZAg hT fun K hK => ?_ | refine ZAe hT hm (by kernel_rfl) fun K hK => ?_); push_cast; (try simp (disch := omega) only [wrap64, Int.toNat_natCast]); (repeat refine ZAD ?_ ?_); refine hK _ ?_; clear hK K; push_cast)
    | refine ZAA ?_ | refine ZAB ?_ | refine ZAL ?_ | ((first | refine ZAC ?_ | refine ZAF ?_ | refine ZAG ?_ | refine ZAM ?_); push_cast)
    | (refine ZAH _ rfl (fun h => ?_) (fun h => ?_) <;> simp only [bh2, reduceCtorEq] at h))
  refine ZAO (α := Nat) (fun k => ⟨[(1, I64 e), (5, I64 (costF (l.take k) e)), (8, ints l), (9, I64 l.length), (10, I64 k)], []⟩) (fun k => k ≤ l.length) (fun k => l.length - k) 0 (Nat.zero_le _) (G.wk ⟨rfl, rfl, rfl, rfl, rfl, trivial⟩ trivial) fun k hk => ?_
  have hb := ZCs (l.take k) e he (fun c h => hc c (List.mem_of_mem_take h))
  have hm : e * ((l.take k).length : Int) ≤ 64100000000064 := by
    have : ((l.take k).length : Int) ≤ 64 := by simp; omega
    have h2 := Int.mul_le_mul he' this (by omega) (by omega)
    omega
  by_cases hlt : k < l.length
  · have hck : 0 ≤ l.getD k 0 := hc _ (by simp [List.getD_eq_getElem?_getD, hlt])
    repeat' (first
    | ((first | refine ZAQ hT fun K hK => ?_ | refine ZAP hT hm (by kernel_rfl) fun K hK => ?_); push_cast; (try simp (disch := omega) only [wrap64, Int.toNat_natCast]); (repeat refine ZAD ?_ ?_); refine hK _ ?_; clear hK K)
    | ((first | refine ZAg hT fun K hK => ?_ | refine ZAe hT hm (by kernel_rfl) fun K hK => ?_); push_cast; (try simp (disch := omega) only [wrap64, Int.toNat_natCast]); (repeat refine ZAD ?_ ?_); refine hK _ ?_; clear hK K; push_cast)
    | refine ZAA ?_ | refine ZAB ?_ | refine ZAL ?_ | ((first | refine ZAC ?_ | refine ZAF ?_ | refine ZAG ?_ | refine ZAM ?_); push_cast)
    | (refine ZAH _ rfl (fun h => ?_) (fun h => ?_) <;> simp only [bh2, reduceCtorEq] at h))
    all_goals first | omega | skip
    exact ⟨k + 1, ⟨by omega, by omega⟩, G.wk ⟨rfl, by simp only [lk, reduceIte, Nat.reduceEqDiff]; rw [ZEB _ _ _ hlt], rfl, rfl, rfl, trivial⟩ trivial⟩
  · repeat' (first
    | ((first | refine ZAQ hT fun K hK => ?_ | refine ZAP hT hm (by kernel_rfl) fun K hK => ?_); push_cast; (try simp (disch := omega) only [wrap64, Int.toNat_natCast]); (repeat refine ZAD ?_ ?_); refine hK _ ?_; clear hK K)
    | ((first | refine ZAg hT fun K hK => ?_ | refine ZAe hT hm (by kernel_rfl) fun K hK => ?_); push_cast; (try simp (disch := omega) only [wrap64, Int.toNat_natCast]); (repeat refine ZAD ?_ ?_); refine hK _ ?_; clear hK K; push_cast)
    | refine ZAA ?_ | refine ZAB ?_ | refine ZAL ?_ | ((first | refine ZAC ?_ | refine ZAF ?_ | refine ZAG ?_ | refine ZAM ?_); push_cast)
    | (refine ZAH _ rfl (fun h => ?_) (fun h => ?_) <;> simp only [bh2, reduceCtorEq] at h))
    all_goals first | omega | skip
    rw [List.take_of_length_le (by omega)]

def errF (total : Int) (l : List Int) : Int :=
  if 64 < l.length then 2 else if total < 0 then 1 else if ∃ c ∈ l, c < 0 then 1 else if 1000000000000 < total then 3 else if ∃ c ∈ l, 1000000000000 < c then 3 else 0

theorem ZCK {l : List Int} {p : Int → Prop} {k : Nat} (h : k < l.length) (h1 : ¬ ∃ c ∈ l.take k, p c) (h2 : ¬ p (l.getD k 0)) : ¬ ∃ c ∈ l.take (k + 1), p c := by
  rintro ⟨c, hc, hp⟩
  rw [List.take_succ_eq_append_getElem h, List.mem_append] at hc
  rcases hc with hc | hc
  · exact h1 ⟨c, hc, hp⟩
  · simp at hc; subst hc
    exact h2 (by simpa [List.getD_eq_getElem?_getD, h] using hp)
theorem ZBs {l : List Int} {k : Nat} (h : k < l.length) : l.getD k 0 ∈ l := by simp [List.getD_eq_getElem?_getD, h]

theorem ZJI (total : Int) (l : List Int) (hl : l.length ≤ 1000000) : Pure Try.prog 48 [I64 total, ints l] (I64 (errF total l)) := by
  refine ZAV (n := 34) (res := [.tmp 4]) hT Try.func48 rfl rfl rfl Try.ntmps48 (Nat.le_of_ble_eq_true rfl) fun B w0 => ?_
  repeat' (first
    | ((first | refine ZAQ hT fun K hK => ?_ | refine ZAP hT hm (by kernel_rfl) fun K hK => ?_); push_cast; (try simp (disch := omega) only [wrap64, Int.toNat_natCast]); (repeat refine ZAD ?_ ?_); refine hK _ ?_; clear hK K)
    | ((first | refine ZAg hT fun K hK => ?_ | refine ZAe hT hm (by kernel_rfl) fun K hK => ?_); push_cast; (try simp (disch := omega) only [wrap64, Int.toNat_natCast]); (repeat refine ZAD ?_ ?_); refine hK _ ?_; clear hK K; push_cast)
    | refine ZAA ?_ | refine ZAB ?_ | refine ZAL ?_ | ((first | refine ZAC ?_ | refine ZAF ?_ | refine ZAG ?_ | refine ZAM ?_); push_cast)
    | (refine ZAH _ rfl (fun h => ?_) (fun h => ?_) <;> simp only [bh2, reduceCtorEq] at h))
  · rw [errF, if_pos (by omega)]
  · rw [errF, if_neg (by omega), if_pos (by omega)]
  · refine ZAO (α := Nat) (fun k => ⟨[(0, I64 total), (1, ints l), (14, ints l), (15, I64 l.length), (16, I64 k)], []⟩) (fun k => k ≤ l.length ∧ ¬ ∃ c ∈ l.take k, c < 0) (fun k => l.length - k) 0 ⟨Nat.zero_le _, by simp⟩ (G.wk ⟨rfl, rfl, rfl, rfl, rfl, trivial⟩ trivial) fun k hk => ?_
    by_cases hlt : k < l.length
    · by_cases hneg : l.getD k 0 < 0
      · repeat' (first
    | ((first | refine ZAQ hT fun K hK => ?_ | refine ZAP hT hm (by kernel_rfl) fun K hK => ?_); push_cast; (try simp (disch := omega) only [wrap64, Int.toNat_natCast]); (repeat refine ZAD ?_ ?_); refine hK _ ?_; clear hK K)
    | ((first | refine ZAg hT fun K hK => ?_ | refine ZAe hT hm (by kernel_rfl) fun K hK => ?_); push_cast; (try simp (disch := omega) only [wrap64, Int.toNat_natCast]); (repeat refine ZAD ?_ ?_); refine hK _ ?_; clear hK K; push_cast)
    | refine ZAA ?_ | refine ZAB ?_ | refine ZAL ?_ | ((first | refine ZAC ?_ | refine ZAF ?_ | refine ZAG ?_ | refine ZAM ?_); push_cast)
    | (refine ZAH _ rfl (fun h => ?_) (fun h => ?_) <;> simp only [bh2, reduceCtorEq] at h))
        all_goals first | omega | skip
        rw [errF, if_neg (by omega), if_neg (by omega), if_pos ⟨_, ZBs hlt, hneg⟩]
      · repeat' (first
    | ((first | refine ZAQ hT fun K hK => ?_ | refine ZAP hT hm (by kernel_rfl) fun K hK => ?_); push_cast; (try simp (disch := omega) only [wrap64, Int.toNat_natCast]); (repeat refine ZAD ?_ ?_); refine hK _ ?_; clear hK K)
    | ((first | refine ZAg hT fun K hK => ?_ | refine ZAe hT hm (by kernel_rfl) fun K hK => ?_); push_cast; (try simp (disch := omega) only [wrap64, Int.toNat_natCast]); (repeat refine ZAD ?_ ?_); refine hK _ ?_; clear hK K; push_cast)
    | refine ZAA ?_ | refine ZAB ?_ | refine ZAL ?_ | ((first | refine ZAC ?_ | refine ZAF ?_ | refine ZAG ?_ | refine ZAM ?_); push_cast)
    | (refine ZAH _ rfl (fun h => ?_) (fun h => ?_) <;> simp only [bh2, reduceCtorEq] at h))
        all_goals first | omega | skip
        exact ⟨k + 1, ⟨⟨by omega, ZCK hlt hk.2 hneg⟩, by omega⟩, G.wk ⟨rfl, rfl, rfl, rfl, rfl, trivial⟩ trivial⟩
    · have hno : ¬ ∃ c ∈ l, c < 0 := by have := hk.2; rwa [List.take_of_length_le (by omega)] at this
      repeat' (first
    | ((first | refine ZAQ hT fun K hK => ?_ | refine ZAP hT hm (by kernel_rfl) fun K hK => ?_); push_cast; (try simp (disch := omega) only [wrap64, Int.toNat_natCast]); (repeat refine ZAD ?_ ?_); refine hK _ ?_; clear hK K)
    | ((first | refine ZAg hT fun K hK => ?_ | refine ZAe hT hm (by kernel_rfl) fun K hK => ?_); push_cast; (try simp (disch := omega) only [wrap64, Int.toNat_natCast]); (repeat refine ZAD ?_ ?_); refine hK _ ?_; clear hK K; push_cast)
    | refine ZAA ?_ | refine ZAB ?_ | refine ZAL ?_ | ((first | refine ZAC ?_ | refine ZAF ?_ | refine ZAG ?_ | refine ZAM ?_); push_cast)
    | (refine ZAH _ rfl (fun h => ?_) (fun h => ?_) <;> simp only [bh2, reduceCtorEq] at h))
      all_goals first | omega | skip
      · rw [errF, if_neg (by omega), if_neg (by omega), if_neg hno, if_pos (by omega)]
      · refine ZAO (α := Nat) (fun k => ⟨[(25, ints l), (26, I64 l.length), (27, I64 k)], []⟩) (fun k => k ≤ l.length ∧ ¬ ∃ c ∈ l.take k, 1000000000000 < c) (fun k => l.length - k) 0 ⟨Nat.zero_le _, by simp⟩ (G.wk ⟨rfl, rfl, rfl, trivial⟩ trivial) fun k hk => ?_
        by_cases hlt : k < l.length
        · by_cases hneg : 1000000000000 < l.getD k 0
          · repeat' (first
    | ((first | refine ZAQ hT fun K hK => ?_ | refine ZAP hT hm (by kernel_rfl) fun K hK => ?_); push_cast; (try simp (disch := omega) only [wrap64, Int.toNat_natCast]); (repeat refine ZAD ?_ ?_); refine hK _ ?_; clear hK K)
    | ((first | refine ZAg hT fun K hK => ?_ | refine ZAe hT hm (by kernel_rfl) fun K hK => ?_); push_cast; (try simp (disch := omega) only [wrap64, Int.toNat_natCast]); (repeat refine ZAD ?_ ?_); refine hK _ ?_; clear hK K; push_cast)
    | refine ZAA ?_ | refine ZAB ?_ | refine ZAL ?_ | ((first | refine ZAC ?_ | refine ZAF ?_ | refine ZAG ?_ | refine ZAM ?_); push_cast)
    | (refine ZAH _ rfl (fun h => ?_) (fun h => ?_) <;> simp only [bh2, reduceCtorEq] at h))
            all_goals first | omega | skip
            rw [errF, if_neg (by omega), if_neg (by omega), if_neg hno, if_neg (by omega), if_pos ⟨_, ZBs hlt, hneg⟩]
          · repeat' (first
    | ((first | refine ZAQ hT fun K hK => ?_ | refine ZAP hT hm (by kernel_rfl) fun K hK => ?_); push_cast; (try simp (disch := omega) only [wrap64, Int.toNat_natCast]); (repeat refine ZAD ?_ ?_); refine hK _ ?_; clear hK K)
    | ((first | refine ZAg hT fun K hK => ?_ | refine ZAe hT hm (by kernel_rfl) fun K hK => ?_); push_cast; (try simp (disch := omega) only [wrap64, Int.toNat_natCast]); (repeat refine ZAD ?_ ?_); refine hK _ ?_; clear hK K; push_cast)
    | refine ZAA ?_ | refine ZAB ?_ | refine ZAL ?_ | ((first | refine ZAC ?_ | refine ZAF ?_ | refine ZAG ?_ | refine ZAM ?_); push_cast)
    | (refine ZAH _ rfl (fun h => ?_) (fun h => ?_) <;> simp only [bh2, reduceCtorEq] at h))
            all_goals first | omega | skip
            exact ⟨k + 1, ⟨⟨by omega, ZCK hlt hk.2 hneg⟩, by omega⟩, G.wk ⟨rfl, rfl, rfl, trivial⟩ trivial⟩
        · have hno2 : ¬ ∃ c ∈ l, 1000000000000 < c := by have := hk.2; rwa [List.take_of_length_le (by omega)] at this
          repeat' (first
    | ((first | refine ZAQ hT fun K hK => ?_ | refine ZAP hT hm (by kernel_rfl) fun K hK => ?_); push_cast; (try simp (disch := omega) only [wrap64, Int.toNat_natCast]); (repeat refine ZAD ?_ ?_); refine hK _ ?_; clear hK K)
    | ((first | refine ZAg hT fun K hK => ?_ | refine ZAe hT hm (by kernel_rfl) fun K hK => ?_); push_cast; (try simp (disch := omega) only [wrap64, Int.toNat_natCast]); (repeat refine ZAD ?_ ?_); refine hK _ ?_; clear hK K; push_cast)
    | refine ZAA ?_ | refine ZAB ?_ | refine ZAL ?_ | ((first | refine ZAC ?_ | refine ZAF ?_ | refine ZAG ?_ | refine ZAM ?_); push_cast)
    | (refine ZAH _ rfl (fun h => ?_) (fun h => ?_) <;> simp only [bh2, reduceCtorEq] at h))
          all_goals first | omega | skip
          rw [errF, if_neg (by omega), if_neg (by omega), if_neg hno, if_neg (by omega), if_neg hno2]
end Go.Proofs.Ythgjjhddbigfcaa
