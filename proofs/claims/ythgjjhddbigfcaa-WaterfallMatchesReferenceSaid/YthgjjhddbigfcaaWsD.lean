/- Part of a proof about the given program: contracts of its functions (see the comment of the last text). -/
import Derived.Test.YthgjjhddbigfcaaWsC
import Derived.Test.YthgjjhddbigfcaaPl1
namespace Go.Proofs.Ythgjjhddbigfcaa
open Go.Eng Go.Proofs Go.Proofs.Share
set_option linter.unusedSimpArgs false
set_option linter.unusedVariables false
attribute [local irreducible] AOps AOpsX AOps2 AOpsS AWP AAnyS Go.Eng.Pure PureRow Eff
theorem ZF3 {total : Int} {l : List Int} (h : errF total l = 0) : l.length ≤ 64 ∧ 0 ≤ total ∧ total ≤ 1000000000000 ∧ ∀ c ∈ l, 0 ≤ c ∧ c ≤ 1000000000000 := by
  unfold errF at h
  split at h
  · cases h
  · split at h
    · cases h
    · split at h
      · cases h
      · split at h
        · cases h
        · split at h
          · cases h
          · rename_i h1 h2 h3 h4 h5
            exact ⟨by omega, by omega, by omega, fun c hc => ⟨by
              rcases Int.lt_or_le c 0 with h | h
              · exact absurd ⟨c, hc, h⟩ h3
              · exact h, by
              rcases Int.lt_or_le 1000000000000 c with h | h
              · exact absurd ⟨c, hc, h⟩ h5
              · exact h⟩⟩

set_option maxHeartbeats 4000000 in
theorem ZH5 (total : Int) (l p : List Int) (he : errF total l = 0) (hp : DF total l p) : Pure Try.prog 29 [I64 total, ints l] (.t [intsF p, I64 0]) := by
  obtain ⟨hl, ht0, ht1, hc⟩ := ZF3 he
  have hc0 : ∀ c ∈ l, 0 ≤ c := fun c h => (hc c h).1
  obtain ⟨r, r0, r1, r2, r3⟩ := ZGs total l 1000000000000 (by omega)
  obtain ⟨r4, r5⟩ := ZGt hc ht0 r0 r1 r2 r3
  have hpd : dist r (total - costF l r) l = p := (DF.of_dist hc0 r0 r4 r5).unique hp
  have hcb := ZCs l r r0 hc0
  refine ZAV (n := 71) (res := [.tmp 4, .tmp 5]) hT Try.func29 rfl rfl rfl Try.ntmps29 (Nat.le_of_ble_eq_true rfl) fun B w0 => ?_
  repeat' (first
    | ((first | refine ZAQ hT fun K hK => ?_ | refine ZAP hT hm (by kernel_rfl) fun K hK => ?_); push_cast; (try simp (disch := omega) only [wrap64, Int.toNat_natCast]); (repeat refine ZAD ?_ ?_); refine hK _ ?_; clear hK K)
    | ((first | refine ZAg hT fun K hK => ?_ | refine ZAe hT hm (by kernel_rfl) fun K hK => ?_); push_cast; (try simp (disch := omega) only [wrap64, Int.toNat_natCast]); (repeat refine ZAD ?_ ?_); refine hK _ ?_; clear hK K; push_cast)
    | refine ZAA ?_ | refine ZAB ?_ | refine ZAL ?_ | ((first | refine ZAC ?_ | refine ZAF ?_ | refine ZAG ?_ | refine ZAM ?_); push_cast)
    | (refine ZAH _ rfl (fun h => ?_) (fun h => ?_) <;> simp only [bh2, reduceCtorEq] at h))
  refine ZAg hT fun K hK => ?_; push_cast; (try simp (disch := omega) only [wrap64, Int.toNat_natCast])
  refine ⟨_, ⟨(ZJI total l (by omega)).eq (congrArg I64 he), by first | exact .inr rfl | exact .inl (by simp [AV.fresh, AV.freshL])⟩, ?_⟩; push_cast; (try simp (disch := omega) only [wrap64, Int.toNat_natCast])
  (repeat refine ZAD ?_ ?_); refine hK _ ?_; clear hK K; push_cast
  repeat' (first
    | ((first | refine ZAQ hT fun K hK => ?_ | refine ZAP hT hm (by kernel_rfl) fun K hK => ?_); push_cast; (try simp (disch := omega) only [wrap64, Int.toNat_natCast]); (repeat refine ZAD ?_ ?_); refine hK _ ?_; clear hK K)
    | ((first | refine ZAg hT fun K hK => ?_ | refine ZAe hT hm (by kernel_rfl) fun K hK => ?_); push_cast; (try simp (disch := omega) only [wrap64, Int.toNat_natCast]); (repeat refine ZAD ?_ ?_); refine hK _ ?_; clear hK K; push_cast)
    | refine ZAA ?_ | refine ZAB ?_ | refine ZAL ?_ | ((first | refine ZAC ?_ | refine ZAF ?_ | refine ZAG ?_ | refine ZAM ?_); push_cast)
    | (refine ZAH _ rfl (fun h => ?_) (fun h => ?_) <;> simp only [bh2, reduceCtorEq] at h))
  refine ZAg hT fun K hK => ?_; push_cast; (try simp (disch := omega) only [wrap64, Int.toNat_natCast])
  refine ⟨_, ⟨ZH4 1000000000000 r 50 _ (fun i => decide (total < costF l (i + 1))) (by omega) r0 r1 (fun i h0 h1 => ZJK i total l _ _ rfl rfl hl h0 (by omega) hc0) (by push_cast) (fun i h0 h1 => by have := r2 i h0 h1; simp; omega) (fun i h0 h1 => by have := r3 i h0 h1; simp; omega), by first | exact .inr rfl | exact .inl (by simp [AV.fresh, AV.freshL])⟩, ?_⟩; push_cast; (try simp (disch := omega) only [wrap64, Int.toNat_natCast])
  (repeat refine ZAD ?_ ?_); refine hK _ ?_; clear hK K; push_cast
  repeat' (first
    | ((first | refine ZAQ hT fun K hK => ?_ | refine ZAP hT hm (by kernel_rfl) fun K hK => ?_); push_cast; (try simp (disch := omega) only [wrap64, Int.toNat_natCast]); (repeat refine ZAD ?_ ?_); refine hK _ ?_; clear hK K)
    | ((first | refine ZAg hT fun K hK => ?_ | refine ZAe hT hm (by kernel_rfl) fun K hK => ?_); push_cast; (try simp (disch := omega) only [wrap64, Int.toNat_natCast]); (repeat refine ZAD ?_ ?_); refine hK _ ?_; clear hK K; push_cast)
    | refine ZAA ?_ | refine ZAB ?_ | refine ZAL ?_ | ((first | refine ZAC ?_ | refine ZAF ?_ | refine ZAG ?_ | refine ZAM ?_); push_cast)
    | (refine ZAH _ rfl (fun h => ?_) (fun h => ?_) <;> simp only [bh2, reduceCtorEq] at h))
  refine ZAe hT hm (by kernel_rfl) fun K hK => ?_; push_cast; (try simp (disch := omega) only [wrap64, Int.toNat_natCast])
  refine ⟨_, ⟨ZH3 l r hl r0 (by omega) hc0, by first | exact .inr rfl | exact .inl (by simp [AV.fresh, AV.freshL])⟩, ?_⟩; push_cast; (try simp (disch := omega) only [wrap64, Int.toNat_natCast])
  (repeat refine ZAD ?_ ?_); refine hK _ ?_; clear hK K; push_cast
  repeat' (first
    | ((first | refine ZAQ hT fun K hK => ?_ | refine ZAP hT hm (by kernel_rfl) fun K hK => ?_); push_cast; (try simp (disch := omega) only [wrap64, Int.toNat_natCast]); (repeat refine ZAD ?_ ?_); refine hK _ ?_; clear hK K)
    | ((first | refine ZAg hT fun K hK => ?_ | refine ZAe hT hm (by kernel_rfl) fun K hK => ?_); push_cast; (try simp (disch := omega) only [wrap64, Int.toNat_natCast]); (repeat refine ZAD ?_ ?_); refine hK _ ?_; clear hK K; push_cast)
    | refine ZAA ?_ | refine ZAB ?_ | refine ZAL ?_ | ((first | refine ZAC ?_ | refine ZAF ?_ | refine ZAG ?_ | refine ZAM ?_); push_cast)
    | (refine ZAH _ rfl (fun h => ?_) (fun h => ?_) <;> simp only [bh2, reduceCtorEq] at h))
  all_goals (try clear hK K)
  all_goals first | omega | decide | skip
  refine ZAO (α := Nat) (fun k => ⟨[(3, .p 3 0), (7, I64 r), (8, I64 (total - costF l r)), (9, .s 27), (29, I64 l.length), (30, I64 k)], [(27, .row 3 1 (.ints .i64 ((l.take k).map (min · r) ++ List.replicate (l.length - k) 0))), (3, .box 24 (.avs [ints l]))]⟩) (fun k => k ≤ l.length) (fun k => l.length - k) 0 (Nat.zero_le _) (G.wk ⟨rfl, rfl, rfl, rfl, rfl, rfl, trivial⟩ ⟨by simp [lkH], rfl, trivial⟩) fun k hk => ?_
  have hlen : ((l.take k).map (min · r) ++ List.replicate (l.length - k) 0).length = l.length := by simp; omega
  by_cases hlt : k < l.length
  · have hck := hc _ (ZBs hlt)
    have hset := ZJL l (min · r) k hlt
    repeat' (first
    | ((first | refine ZAQ hT fun K hK => ?_ | refine ZAP hT hm (by kernel_rfl) fun K hK => ?_); push_cast [hset, hlen]; (try simp (disch := omega) only [wrap64, Int.toNat_natCast]); (repeat refine ZAD ?_ ?_); refine hK _ ?_; clear hK K)
    | ((first | refine ZAg hT fun K hK => ?_ | refine ZAe hT hm (by kernel_rfl) fun K hK => ?_); push_cast [hset, hlen]; (try simp (disch := omega) only [wrap64, Int.toNat_natCast]); (repeat refine ZAD ?_ ?_); refine hK _ ?_; clear hK K; push_cast)
    | refine ZAA ?_ | refine ZAB ?_ | refine ZAL ?_ | ((first | refine ZAC ?_ | refine ZAF ?_ | refine ZAG ?_ | refine ZAM ?_); push_cast)
    | (refine ZAH _ rfl (fun h => ?_) (fun h => ?_) <;> simp only [bh2, reduceCtorEq] at h))
    all_goals first | omega | skip
    exact ⟨k + 1, ⟨by omega, by omega⟩, G.wk ⟨rfl, rfl, rfl, rfl, rfl, rfl, trivial⟩ ⟨rfl, rfl, trivial⟩⟩
  · obtain rfl : k = l.length := by omega
    have hmap : (l.take l.length).map (min · r) ++ List.replicate (l.length - l.length) 0 = partsAt r (total - costF l r) l 0 := by simp [partsAt, dist]
    have hml : (partsAt r (total - costF l r) l 0).length = l.length := ZBw _ _ _ _
    simp only [hmap]
    repeat' (first
    | ((first | refine ZAQ hT fun K hK => ?_ | refine ZAP hT hm (by kernel_rfl) fun K hK => ?_); push_cast [hml]; (try simp (disch := omega) only [wrap64, Int.toNat_natCast]); (repeat refine ZAD ?_ ?_); refine hK _ ?_; clear hK K)
    | ((first | refine ZAg hT fun K hK => ?_ | refine ZAe hT hm (by kernel_rfl) fun K hK => ?_); push_cast [hml]; (try simp (disch := omega) only [wrap64, Int.toNat_natCast]); (repeat refine ZAD ?_ ?_); refine hK _ ?_; clear hK K; push_cast)
    | refine ZAA ?_ | refine ZAB ?_ | refine ZAL ?_ | ((first | refine ZAC ?_ | refine ZAF ?_ | refine ZAG ?_ | refine ZAM ?_); push_cast)
    | (refine ZAH _ rfl (fun h => ?_) (fun h => ?_) <;> simp only [bh2, reduceCtorEq] at h))
    all_goals first | omega | skip
    have hL0 : 0 ≤ total - costF l r := by omega
    refine ZAO (α := Nat) (fun i => ⟨[(3, .p 3 0), (8, I64 (leftAt r (total - costF l r) l i)), (9, .s 27), (44, I64 l.length), (45, I64 i)], [(27, .row 3 1 (.ints .i64 (partsAt r (total - costF l r) l i))), (3, .box 24 (.avs [ints l]))]⟩) (fun i => i ≤ l.length) (fun i => l.length - i) 0 (Nat.zero_le _) (G.wk ⟨rfl, by simp [lk, leftAt, unsat]; omega, rfl, rfl, rfl, trivial⟩ ⟨rfl, rfl, trivial⟩) fun i hi => ?_
    have hpl := ZBw r (total - costF l r) l i
    have hn0 := ZDF r (total - costF l r) l i hL0
    have hnl := ZF2 r (total - costF l r) l i hL0
    by_cases hlt : i < l.length
    · have hck := hc _ (ZBs hlt)
      have hget := ZED r (total - costF l r) l i hlt
      by_cases hz : leftAt r (total - costF l r) l i = 0
      · have hdone := ZBX r (total - costF l r) l i hL0 (.inl (by omega))
        rw [hpd] at hdone
        simp only [hz, hdone]
        repeat' (first
    | ((first | refine ZAQ hT fun K hK => ?_ | refine ZAP hT hm (by kernel_rfl) fun K hK => ?_); push_cast; (try simp (disch := omega) only [wrap64, Int.toNat_natCast]); (repeat refine ZAD ?_ ?_); refine hK _ ?_; clear hK K)
    | ((first | refine ZAg hT fun K hK => ?_ | refine ZAe hT hm (by kernel_rfl) fun K hK => ?_); push_cast; (try simp (disch := omega) only [wrap64, Int.toNat_natCast]); (repeat refine ZAD ?_ ?_); refine hK _ ?_; clear hK K; push_cast)
    | refine ZAA ?_ | refine ZAB ?_ | refine ZAL ?_ | ((first | refine ZAC ?_ | refine ZAF ?_ | refine ZAG ?_ | refine ZAM ?_); push_cast)
    | (refine ZAH _ rfl (fun h => ?_) (fun h => ?_) <;> simp only [bh2, reduceCtorEq] at h))
        all_goals first | omega | skip
      · by_cases hs : r < l.getD i 0
        · obtain ⟨hset, hleft⟩ := ZDb r (total - costF l r) l i hlt hL0 (by omega) hs
          have hmin : min (l.getD i 0) r = r := by omega
          rw [hmin] at hget
          repeat' (first
    | ((first | refine ZAQ hT fun K hK => ?_ | refine ZAP hT hm (by kernel_rfl) fun K hK => ?_); push_cast [hpl, hget, hset]; (try simp (disch := omega) only [wrap64, Int.toNat_natCast]); (repeat refine ZAD ?_ ?_); refine hK _ ?_; clear hK K)
    | ((first | refine ZAg hT fun K hK => ?_ | refine ZAe hT hm (by kernel_rfl) fun K hK => ?_); push_cast [hpl, hget, hset]; (try simp (disch := omega) only [wrap64, Int.toNat_natCast]); (repeat refine ZAD ?_ ?_); refine hK _ ?_; clear hK K; push_cast)
    | refine ZAA ?_ | refine ZAB ?_ | refine ZAL ?_ | ((first | refine ZAC ?_ | refine ZAF ?_ | refine ZAG ?_ | refine ZAM ?_); push_cast)
    | (refine ZAH _ rfl (fun h => ?_) (fun h => ?_) <;> simp only [bh2, reduceCtorEq] at h))
          all_goals first | omega | skip
          exact ⟨i + 1, ⟨by omega, by omega⟩, G.wk ⟨rfl, by simp only [lk, reduceIte, Nat.reduceEqDiff]; rw [hleft], rfl, rfl, rfl, trivial⟩ ⟨rfl, rfl, trivial⟩⟩
        · obtain ⟨hset, hleft⟩ := ZDc r (total - costF l r) l i hlt hL0 hs
          have hmin : min (l.getD i 0) r = l.getD i 0 := by omega
          rw [hmin] at hget
          repeat' (first
    | ((first | refine ZAQ hT fun K hK => ?_ | refine ZAP hT hm (by kernel_rfl) fun K hK => ?_); push_cast [hpl, hget]; (try simp (disch := omega) only [wrap64, Int.toNat_natCast]); (repeat refine ZAD ?_ ?_); refine hK _ ?_; clear hK K)
    | ((first | refine ZAg hT fun K hK => ?_ | refine ZAe hT hm (by kernel_rfl) fun K hK => ?_); push_cast [hpl, hget]; (try simp (disch := omega) only [wrap64, Int.toNat_natCast]); (repeat refine ZAD ?_ ?_); refine hK _ ?_; clear hK K; push_cast)
    | refine ZAA ?_ | refine ZAB ?_ | refine ZAL ?_ | ((first | refine ZAC ?_ | refine ZAF ?_ | refine ZAG ?_ | refine ZAM ?_); push_cast)
    | (refine ZAH _ rfl (fun h => ?_) (fun h => ?_) <;> simp only [bh2, reduceCtorEq] at h))
          all_goals first | omega | skip
          exact ⟨i + 1, ⟨by omega, by omega⟩, G.wk ⟨rfl, by simp only [lk, reduceIte, Nat.reduceEqDiff]; rw [hleft], rfl, rfl, rfl, trivial⟩ ⟨by simp only [lkH, reduceIte]; rw [hset], rfl, trivial⟩⟩
    · have hdone := ZBX r (total - costF l r) l i hL0 (.inr (by omega))
      rw [hpd] at hdone
      simp only [hdone]
      repeat' (first
    | ((first | refine ZAQ hT fun K hK => ?_ | refine ZAP hT hm (by kernel_rfl) fun K hK => ?_); push_cast; (try simp (disch := omega) only [wrap64, Int.toNat_natCast]); (repeat refine ZAD ?_ ?_); refine hK _ ?_; clear hK K)
    | ((first | refine ZAg hT fun K hK => ?_ | refine ZAe hT hm (by kernel_rfl) fun K hK => ?_); push_cast; (try simp (disch := omega) only [wrap64, Int.toNat_natCast]); (repeat refine ZAD ?_ ?_); refine hK _ ?_; clear hK K; push_cast)
    | refine ZAA ?_ | refine ZAB ?_ | refine ZAL ?_ | ((first | refine ZAC ?_ | refine ZAF ?_ | refine ZAG ?_ | refine ZAM ?_); push_cast)
    | (refine ZAH _ rfl (fun h => ?_) (fun h => ?_) <;> simp only [bh2, reduceCtorEq] at h))
      all_goals first | omega | skip
end Go.Proofs.Ythgjjhddbigfcaa
