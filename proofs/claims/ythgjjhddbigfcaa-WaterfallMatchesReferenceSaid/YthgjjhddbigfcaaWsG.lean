/- Part of a proof about the given program: contracts of its functions (see the comment of the last text). -/
import Derived.Test.YthgjjhddbigfcaaWsF
namespace Go.Proofs.Ythgjjhddbigfcaa
open Go.Eng Go.Proofs Go.Proofs.Share
set_option linter.unusedSimpArgs false
set_option linter.unusedVariables false
attribute [local irreducible] AOps AOpsX AOps2 AOpsS AWP AAnyS Go.Eng.Pure PureRow Eff
theorem ZEJ (e : Int) : ∀ (left : Int) (l : List Int), unsat l e = 0 → dist e left l = l.map (min · e)
  | _, [], _ => rfl
  | left, c :: r, h => by
    rw [ZAZ] at h
    have := ZAn r e
    have hc : ¬ e < c := fun hc => by rw [if_pos hc] at h; omega
    rw [if_neg hc] at h
    simp only [dist, List.map_cons]
    rw [if_neg (fun hh => hc hh.1), ZEJ e left r (by omega)]

theorem map0 (l : List Int) (h : ∀ c ∈ l, 0 ≤ c) : List.replicate l.length (0 : Int) = l.map (min · 0) := by
  induction l with
  | nil => rfl
  | cons c l ih =>
    have := h c (by simp)
    rw [List.length_cons, List.replicate_succ, List.map_cons, ih (fun x hx => h x (by simp [hx]))]
    congr 1; omega

set_option maxHeartbeats 8000000 in
theorem ZJO (total : Int) (l p : List Int) (he : errF total l = 0) (hp : DF total l p) : Pure Try.prog 63 [I64 total, ints l] (.t [intsF p, I64 0]) := by
  obtain ⟨hl, ht0, ht1, hc⟩ := ZF3 he
  have hc0 : ∀ c ∈ l, 0 ≤ c := fun c h => (hc c h).1
  refine ZAV (n := 123) (res := [.tmp 4, .tmp 5]) hT Try.func63 rfl rfl rfl Try.ntmps63 (Nat.le_of_ble_eq_true rfl) fun B w0 => ?_
  repeat' (first
    | ((first | refine ZAQ hT fun K hK => ?_ | refine ZAP hT hm (by kernel_rfl) fun K hK => ?_); push_cast; (try simp (disch := omega) only [wrap64, Int.toNat_natCast]); (repeat refine ZAD ?_ ?_); refine hK _ ?_; clear hK K)
    | ((first | refine ZAg hT fun K hK => ?_ | refine ZAe hT hm (by kernel_rfl) fun K hK => ?_); push_cast; (try simp (disch := omega) only [wrap64, Int.toNat_natCast]); (repeat refine ZAD ?_ ?_); refine hK _ ?_; clear hK K; push_cast)
    | refine ZAA ?_ | refine ZAB ?_ | refine ZAL ?_ | ((first | refine ZAC ?_ | refine ZAF ?_ | refine ZAG ?_ | refine ZAM ?_); push_cast)
    | (refine ZAH _ rfl (fun h => ?_) (fun h => ?_) <;> simp only [bh2, reduceCtorEq] at h))
  refine ZAg hT fun K hK => ?_; push_cast; (try simp (disch := omega) only [wrap64, Int.toNat_natCast])
  refine ⟨_, ⟨(wrong_ok total l (by omega)).eq (congrArg I64 he), by first | exact .inr rfl | exact .inl (by simp [AV.fresh, AV.freshL])⟩, ?_⟩; push_cast; (try simp (disch := omega) only [wrap64, Int.toNat_natCast])
  (repeat refine ZAD ?_ ?_); refine hK _ ?_; clear hK K; push_cast
  repeat' (first
    | ((first | refine ZAQ hT fun K hK => ?_ | refine ZAP hT hm (by kernel_rfl) fun K hK => ?_); push_cast; (try simp (disch := omega) only [wrap64, Int.toNat_natCast]); (repeat refine ZAD ?_ ?_); refine hK _ ?_; clear hK K)
    | ((first | refine ZAg hT fun K hK => ?_ | refine ZAe hT hm (by kernel_rfl) fun K hK => ?_); push_cast; (try simp (disch := omega) only [wrap64, Int.toNat_natCast]); (repeat refine ZAD ?_ ?_); refine hK _ ?_; clear hK K; push_cast)
    | refine ZAA ?_ | refine ZAB ?_ | refine ZAL ?_ | ((first | refine ZAC ?_ | refine ZAF ?_ | refine ZAG ?_ | refine ZAM ?_); push_cast)
    | (refine ZAH _ rfl (fun h => ?_) (fun h => ?_) <;> simp only [bh2, reduceCtorEq] at h))
  all_goals (try clear hK K)
  all_goals first | omega | decide | skip
  have hz := ZEC l hc0
  have hlen0 : l.length ≤ 64 := hl
  refine ZAO (α := Int × Nat) (fun q => ⟨[(1, ints l), (7, .s 24), (8, I64 (total - costF l q.1)), (9, I64 q.2)], [(24, .row 3 1 (.ints .i64 (l.map (min · q.1))))]⟩) (fun q => Round total l q.1 q.2 ∧ q.2 ≤ l.length + 1) (fun q => l.length + 1 - q.2) (0, 0)
    ⟨⟨by omega, by omega, by rw [hz]; omega, .inr (by have := ZCW l 0; simp only; omega)⟩, by omega⟩ (G.wk ⟨rfl, rfl, by simp only [lk, reduceIte, Nat.reduceEqDiff]; rw [hz, Int.sub_zero], rfl, trivial⟩ ⟨by simp only [lkH, reduceIte]; rw [map0 l hc0], trivial⟩) fun q hq => ?_
  obtain ⟨e, round⟩ := q
  simp only at hq ⊢
  obtain ⟨hR, hr⟩ := hq
  have hR0 := hR
  obtain ⟨e0, e1, e2, e3⟩ := hR
  have hml : (l.map (min · e)).length = l.length := by simp
  have hul := ZCW l e
  have hun := ZAn l e
  have hcb := ZCs l e e0 hc0
  by_cases hlt : round ≤ l.length
  · repeat' (first
    | ((first | refine ZAQ hT fun K hK => ?_ | refine ZAP hT hm (by kernel_rfl) fun K hK => ?_); push_cast; (try simp (disch := omega) only [wrap64, Int.toNat_natCast]); (repeat refine ZAD ?_ ?_); refine hK _ ?_; clear hK K)
    | ((first | refine ZAg hT fun K hK => ?_ | refine ZAe hT hm (by kernel_rfl) fun K hK => ?_); push_cast; (try simp (disch := omega) only [wrap64, Int.toNat_natCast]); (repeat refine ZAD ?_ ?_); refine hK _ ?_; clear hK K; push_cast)
    | refine ZAA ?_ | refine ZAB ?_ | refine ZAL ?_ | ((first | refine ZAC ?_ | refine ZAF ?_ | refine ZAG ?_ | refine ZAM ?_); push_cast)
    | (refine ZAH _ rfl (fun h => ?_) (fun h => ?_) <;> simp only [bh2, reduceCtorEq] at h))
    all_goals first | omega | exact (fun hh => hh) | skip
    refine ZAO (α := Nat) (fun k => ⟨[(1, ints l), (7, .s 24), (8, I64 (total - costF l e)), (9, I64 round), (10, I64 (unsat (l.take k) e)), (11, I64 (leastTo l e 1000000000000 k)), (12, I64 k)], [(24, .row 3 1 (.ints .i64 (l.map (min · e))))]⟩) (fun k => k ≤ l.length) (fun k => l.length - k) 0 (Nat.zero_le _) (G.wk ⟨rfl, rfl, rfl, rfl, rfl, rfl, rfl, trivial⟩ ⟨rfl, trivial⟩) fun k hk => ?_
    have hu1 := ZCW (l.take k) e
    have hu2 := ZAn (l.take k) e
    have hl1 := ZCv l e 1000000000000 k
    have hl2 := ZCu l e 1000000000000 (by omega) k
    by_cases hk' : k < l.length
    · have hck := hc _ (ZBs hk')
      have hget := ZGP l e k hk'
      have hsucc := ZCX l e k hk'
      have hlen2 : ((l.take k).length : Int) ≤ 64 := by simp; omega
      by_cases hs : e < l.getD k 0
      · have hmin : min (l.getD k 0) e = e := by omega
        rw [hmin] at hget
        rw [if_pos hs] at hsucc
        repeat' (first
    | ((first | refine ZAQ hT fun K hK => ?_ | refine ZAP hT hm (by kernel_rfl) fun K hK => ?_); push_cast [hml, hget]; (try simp (disch := omega) only [wrap64, Int.toNat_natCast]); (repeat refine ZAD ?_ ?_); refine hK _ ?_; clear hK K)
    | ((first | refine ZAg hT fun K hK => ?_ | refine ZAe hT hm (by kernel_rfl) fun K hK => ?_); push_cast [hml, hget]; (try simp (disch := omega) only [wrap64, Int.toNat_natCast]); (repeat refine ZAD ?_ ?_); refine hK _ ?_; clear hK K; push_cast)
    | refine ZAA ?_ | refine ZAB ?_ | refine ZAL ?_ | ((first | refine ZAC ?_ | refine ZAF ?_ | refine ZAG ?_ | refine ZAM ?_); push_cast)
    | (refine ZAH _ rfl (fun h => ?_) (fun h => ?_) <;> simp only [bh2, reduceCtorEq] at h))
        all_goals first | omega | exact (fun hh => hh) | skip
        exact ⟨k + 1, ⟨by omega, by omega⟩, G.wk ⟨rfl, rfl, rfl, rfl, by simp only [lk, reduceIte, Nat.reduceEqDiff]; rw [hsucc], by simp only [lk, reduceIte, Nat.reduceEqDiff, leastTo]; rw [if_pos hs], rfl, trivial⟩ ⟨rfl, trivial⟩⟩
      · have hmin : min (l.getD k 0) e = l.getD k 0 := by omega
        rw [hmin] at hget
        rw [if_neg hs, Int.add_zero] at hsucc
        repeat' (first
    | ((first | refine ZAQ hT fun K hK => ?_ | refine ZAP hT hm (by kernel_rfl) fun K hK => ?_); push_cast [hml, hget]; (try simp (disch := omega) only [wrap64, Int.toNat_natCast]); (repeat refine ZAD ?_ ?_); refine hK _ ?_; clear hK K)
    | ((first | refine ZAg hT fun K hK => ?_ | refine ZAe hT hm (by kernel_rfl) fun K hK => ?_); push_cast [hml, hget]; (try simp (disch := omega) only [wrap64, Int.toNat_natCast]); (repeat refine ZAD ?_ ?_); refine hK _ ?_; clear hK K; push_cast)
    | refine ZAA ?_ | refine ZAB ?_ | refine ZAL ?_ | ((first | refine ZAC ?_ | refine ZAF ?_ | refine ZAG ?_ | refine ZAM ?_); push_cast)
    | (refine ZAH _ rfl (fun h => ?_) (fun h => ?_) <;> simp only [bh2, reduceCtorEq] at h))
        all_goals first | omega | exact (fun hh => hh) | skip
        exact ⟨k + 1, ⟨by omega, by omega⟩, G.wk ⟨rfl, rfl, rfl, rfl, by simp only [lk, reduceIte, Nat.reduceEqDiff]; rw [hsucc], by simp only [lk, reduceIte, Nat.reduceEqDiff, leastTo]; rw [if_neg hs], rfl, trivial⟩ ⟨rfl, trivial⟩⟩
    · obtain rfl : k = l.length := by omega
      simp only [List.take_length] at hu1 hu2 ⊢
      by_cases ho : unsat l e = 0
      · have hpe : l.map (min · e) = p := by
          have := (DF.of_dist (total := total) hc0 e0 e2 (.inr ho)).unique hp
          rw [ZEJ e _ l ho] at this; exact this
        rw [ho, hpe]
        repeat' (first
    | ((first | refine ZAQ hT fun K hK => ?_ | refine ZAP hT hm (by kernel_rfl) fun K hK => ?_); push_cast; (try simp (disch := omega) only [wrap64, Int.toNat_natCast]); (repeat refine ZAD ?_ ?_); refine hK _ ?_; clear hK K)
    | ((first | refine ZAg hT fun K hK => ?_ | refine ZAe hT hm (by kernel_rfl) fun K hK => ?_); push_cast; (try simp (disch := omega) only [wrap64, Int.toNat_natCast]); (repeat refine ZAD ?_ ?_); refine hK _ ?_; clear hK K; push_cast)
    | refine ZAA ?_ | refine ZAB ?_ | refine ZAL ?_ | ((first | refine ZAC ?_ | refine ZAF ?_ | refine ZAG ?_ | refine ZAM ?_); push_cast)
    | (refine ZAH _ rfl (fun h => ?_) (fun h => ?_) <;> simp only [bh2, reduceCtorEq] at h))
        all_goals first | omega | exact (fun hh => hh) | skip
      · obtain ⟨d0, d1, d2, d3, d4⟩ := ZHM hc hR0 (by omega)
        have hq0 : 0 ≤ total - costF l e := by omega
        have hquo : (total - costF l e).tdiv (unsat l e) = (total - costF l e) / unsat l e := Int.tdiv_eq_ediv_of_nonneg hq0
        have hqb : 0 ≤ (total - costF l e) / unsat l e ∧ (total - costF l e) / unsat l e ≤ total - costF l e := ⟨Int.ediv_nonneg hq0 (by omega), Int.ediv_le_self _ hq0⟩
        repeat' (first
    | ((first | refine ZAQ hT fun K hK => ?_ | refine ZAP hT hm (by kernel_rfl) fun K hK => ?_); push_cast [hquo]; (try simp (disch := omega) only [wrap64, Int.toNat_natCast]); (repeat refine ZAD ?_ ?_); refine hK _ ?_; clear hK K)
    | ((first | refine ZAg hT fun K hK => ?_ | refine ZAe hT hm (by kernel_rfl) fun K hK => ?_); push_cast [hquo]; (try simp (disch := omega) only [wrap64, Int.toNat_natCast]); (repeat refine ZAD ?_ ?_); refine hK _ ?_; clear hK K; push_cast)
    | refine ZAA ?_ | refine ZAB ?_ | refine ZAL ?_ | ((first | refine ZAC ?_ | refine ZAF ?_ | refine ZAG ?_ | refine ZAM ?_); push_cast)
    | (refine ZAH _ rfl (fun h => ?_) (fun h => ?_) <;> simp only [bh2, reduceCtorEq] at h))
        all_goals first | omega | exact (fun hh => hh) | skip
        generalize hd : min (leastTo l e 1000000000000 l.length) ((total - costF l e) / unsat l e) = d at d0 d1 d2 d3 d4 ⊢
        refine ZAO (α := Nat) (fun k => ⟨[(1, ints l), (7, .s 24), (8, I64 (total - costF l e - d * unsat (l.take k) e)), (9, I64 round), (13, I64 d), (14, I64 k)], [(24, .row 3 1 (.ints .i64 (raiseAt e d l k)))]⟩) (fun k => k ≤ l.length) (fun k => l.length - k) 0 (Nat.zero_le _) (G.wk ⟨rfl, rfl, by simp [lk, unsat], rfl, rfl, rfl, trivial⟩ ⟨by simp only [lkH, reduceIte]; rw [ZF5], trivial⟩) fun k hk => ?_
        have hrl := ZEP e d l k
        have hv1 := ZFR l e k
        have hv2 := ZAn (l.take k) e
        have hdu : 0 ≤ d * unsat (l.take k) e := Int.mul_nonneg d0 hv2
        have hdu2 : d * unsat (l.take k) e ≤ d * unsat l e := Int.mul_le_mul_of_nonneg_left hv1 d0
        by_cases hk' : k < l.length
        · have hck := hc _ (ZBs hk')
          have hget := ZGQ e d l k hk'
          have hsucc := ZCX l e k hk'
          by_cases hs : e < l.getD k 0
          · have hmin : min (l.getD k 0) e = e := by omega
            have hset := ZGS e d l k hk'
            have hd1' := d1 _ (ZBs hk') hs
            rw [show min (l.getD k 0) (e + d) = e + d from by omega] at hset
            rw [hmin] at hget
            rw [if_pos hs] at hsucc
            repeat' (first
    | ((first | refine ZAQ hT fun K hK => ?_ | refine ZAP hT hm (by kernel_rfl) fun K hK => ?_); push_cast [hrl, hget, hset]; (try simp (disch := omega) only [wrap64, Int.toNat_natCast]); (repeat refine ZAD ?_ ?_); refine hK _ ?_; clear hK K)
    | ((first | refine ZAg hT fun K hK => ?_ | refine ZAe hT hm (by kernel_rfl) fun K hK => ?_); push_cast [hrl, hget, hset]; (try simp (disch := omega) only [wrap64, Int.toNat_natCast]); (repeat refine ZAD ?_ ?_); refine hK _ ?_; clear hK K; push_cast)
    | refine ZAA ?_ | refine ZAB ?_ | refine ZAL ?_ | ((first | refine ZAC ?_ | refine ZAF ?_ | refine ZAG ?_ | refine ZAM ?_); push_cast)
    | (refine ZAH _ rfl (fun h => ?_) (fun h => ?_) <;> simp only [bh2, reduceCtorEq] at h))
            all_goals first | omega | exact (fun hh => hh) | skip
            exact ⟨k + 1, ⟨by omega, by omega⟩, G.wk ⟨rfl, rfl, by simp only [lk, reduceIte, Nat.reduceEqDiff]; rw [hsucc, Int.mul_add, Int.mul_one]; congr 2; omega, rfl, rfl, rfl, trivial⟩ ⟨rfl, trivial⟩⟩
          · have hmin : min (l.getD k 0) e = l.getD k 0 := by omega
            have hkeep := ZF6 e d l k hk' d0 hs
            rw [hmin] at hget
            rw [if_neg hs, Int.add_zero] at hsucc
            repeat' (first
    | ((first | refine ZAQ hT fun K hK => ?_ | refine ZAP hT hm (by kernel_rfl) fun K hK => ?_); push_cast [hrl, hget]; (try simp (disch := omega) only [wrap64, Int.toNat_natCast]); (repeat refine ZAD ?_ ?_); refine hK _ ?_; clear hK K)
    | ((first | refine ZAg hT fun K hK => ?_ | refine ZAe hT hm (by kernel_rfl) fun K hK => ?_); push_cast [hrl, hget]; (try simp (disch := omega) only [wrap64, Int.toNat_natCast]); (repeat refine ZAD ?_ ?_); refine hK _ ?_; clear hK K; push_cast)
    | refine ZAA ?_ | refine ZAB ?_ | refine ZAL ?_ | ((first | refine ZAC ?_ | refine ZAF ?_ | refine ZAG ?_ | refine ZAM ?_); push_cast)
    | (refine ZAH _ rfl (fun h => ?_) (fun h => ?_) <;> simp only [bh2, reduceCtorEq] at h))
            all_goals first | omega | exact (fun hh => hh) | skip
            exact ⟨k + 1, ⟨by omega, by omega⟩, G.wk ⟨rfl, rfl, by simp only [lk, reduceIte, Nat.reduceEqDiff]; rw [hsucc], rfl, rfl, rfl, trivial⟩ ⟨by simp only [lkH, reduceIte]; rw [hkeep], trivial⟩⟩
        · obtain rfl : k = l.length := by omega
          have hcost := ZGw l e d d0 d1
          have hall := ZGR e d l
          simp only [List.take_length] at hv1 hv2 hdu hdu2 ⊢
          repeat' (first
    | ((first | refine ZAQ hT fun K hK => ?_ | refine ZAP hT hm (by kernel_rfl) fun K hK => ?_); push_cast; (try simp (disch := omega) only [wrap64, Int.toNat_natCast]); (repeat refine ZAD ?_ ?_); refine hK _ ?_; clear hK K)
    | ((first | refine ZAg hT fun K hK => ?_ | refine ZAe hT hm (by kernel_rfl) fun K hK => ?_); push_cast; (try simp (disch := omega) only [wrap64, Int.toNat_natCast]); (repeat refine ZAD ?_ ?_); refine hK _ ?_; clear hK K; push_cast)
    | refine ZAA ?_ | refine ZAB ?_ | refine ZAL ?_ | ((first | refine ZAC ?_ | refine ZAF ?_ | refine ZAG ?_ | refine ZAM ?_); push_cast)
    | (refine ZAH _ rfl (fun h => ?_) (fun h => ?_) <;> simp only [bh2, reduceCtorEq] at h))
          all_goals first | omega | exact (fun hh => hh) | skip
          exact ⟨(e + d, round + 1), ⟨⟨d2, by omega⟩, by simp only; omega⟩, G.wk ⟨rfl, rfl, by simp only [lk, reduceIte, Nat.reduceEqDiff]; rw [hcost]; congr 2; omega, rfl, trivial⟩ ⟨by simp only [lkH, reduceIte]; rw [hall], trivial⟩⟩
  · have hlast : total - costF l e < unsat l e := by
      rcases e3 with h | h
      · exact h
      · omega
    have hpd : dist e (total - costF l e) l = p := (DF.of_dist hc0 e0 e2 (.inl hlast)).unique hp
    have hL0 : 0 ≤ total - costF l e := by omega
    repeat' (first
    | ((first | refine ZAQ hT fun K hK => ?_ | refine ZAP hT hm (by kernel_rfl) fun K hK => ?_); push_cast; (try simp (disch := omega) only [wrap64, Int.toNat_natCast]); (repeat refine ZAD ?_ ?_); refine hK _ ?_; clear hK K)
    | ((first | refine ZAg hT fun K hK => ?_ | refine ZAe hT hm (by kernel_rfl) fun K hK => ?_); push_cast; (try simp (disch := omega) only [wrap64, Int.toNat_natCast]); (repeat refine ZAD ?_ ?_); refine hK _ ?_; clear hK K; push_cast)
    | refine ZAA ?_ | refine ZAB ?_ | refine ZAL ?_ | ((first | refine ZAC ?_ | refine ZAF ?_ | refine ZAG ?_ | refine ZAM ?_); push_cast)
    | (refine ZAH _ rfl (fun h => ?_) (fun h => ?_) <;> simp only [bh2, reduceCtorEq] at h))
    all_goals first | omega | exact (fun hh => hh) | skip
    refine ZAO (α := Nat) (fun i => ⟨[(1, ints l), (7, .s 24), (8, I64 (leftAt e (total - costF l e) l i)), (15, I64 i)], [(24, .row 3 1 (.ints .i64 (partsAt e (total - costF l e) l i)))]⟩) (fun i => i ≤ l.length) (fun i => l.length - i) 0 (Nat.zero_le _) (G.wk ⟨rfl, rfl, by simp [lk, leftAt, unsat]; omega, rfl, trivial⟩ ⟨by simp [lkH, partsAt, dist], trivial⟩) fun i hi => ?_
    have hpl := ZBw e (total - costF l e) l i
    have hn0 := ZDF e (total - costF l e) l i hL0
    have hnl := ZF2 e (total - costF l e) l i hL0
    by_cases hlt : i < l.length
    · have hck := hc _ (ZBs hlt)
      have hget := ZED e (total - costF l e) l i hlt
      by_cases hs : e < l.getD i 0
      · have hmin : min (l.getD i 0) e = e := by omega
        rw [hmin] at hget
        by_cases hz : 0 < leftAt e (total - costF l e) l i
        · obtain ⟨hset, hleft⟩ := ZDb e (total - costF l e) l i hlt hL0 hz hs
          repeat' (first
    | ((first | refine ZAQ hT fun K hK => ?_ | refine ZAP hT hm (by kernel_rfl) fun K hK => ?_); push_cast [hpl, hget, hset]; (try simp (disch := omega) only [wrap64, Int.toNat_natCast]); (repeat refine ZAD ?_ ?_); refine hK _ ?_; clear hK K)
    | ((first | refine ZAg hT fun K hK => ?_ | refine ZAe hT hm (by kernel_rfl) fun K hK => ?_); push_cast [hpl, hget, hset]; (try simp (disch := omega) only [wrap64, Int.toNat_natCast]); (repeat refine ZAD ?_ ?_); refine hK _ ?_; clear hK K; push_cast)
    | refine ZAA ?_ | refine ZAB ?_ | refine ZAL ?_ | ((first | refine ZAC ?_ | refine ZAF ?_ | refine ZAG ?_ | refine ZAM ?_); push_cast)
    | (refine ZAH _ rfl (fun h => ?_) (fun h => ?_) <;> simp only [bh2, reduceCtorEq] at h))
          all_goals first | omega | exact (fun hh => hh) | skip
          exact ⟨i + 1, ⟨by omega, by omega⟩, G.wk ⟨rfl, rfl, by simp only [lk, reduceIte, Nat.reduceEqDiff]; rw [hleft], rfl, trivial⟩ ⟨rfl, trivial⟩⟩
        · have hd1 := ZBX e (total - costF l e) l i hL0 (.inl (by omega))
          have hmono := ZBl l e (i := i) (k := i + 1) (by omega)
          have hleft : leftAt e (total - costF l e) l (i + 1) = leftAt e (total - costF l e) l i := by unfold leftAt at hz ⊢; omega
          have hd2 := ZBX e (total - costF l e) l (i + 1) hL0 (.inl (by omega))
          repeat' (first
    | ((first | refine ZAQ hT fun K hK => ?_ | refine ZAP hT hm (by kernel_rfl) fun K hK => ?_); push_cast [hpl, hget]; (try simp (disch := omega) only [wrap64, Int.toNat_natCast]); (repeat refine ZAD ?_ ?_); refine hK _ ?_; clear hK K)
    | ((first | refine ZAg hT fun K hK => ?_ | refine ZAe hT hm (by kernel_rfl) fun K hK => ?_); push_cast [hpl, hget]; (try simp (disch := omega) only [wrap64, Int.toNat_natCast]); (repeat refine ZAD ?_ ?_); refine hK _ ?_; clear hK K; push_cast)
    | refine ZAA ?_ | refine ZAB ?_ | refine ZAL ?_ | ((first | refine ZAC ?_ | refine ZAF ?_ | refine ZAG ?_ | refine ZAM ?_); push_cast)
    | (refine ZAH _ rfl (fun h => ?_) (fun h => ?_) <;> simp only [bh2, reduceCtorEq] at h))
          all_goals first | omega | exact (fun hh => hh) | skip
          exact ⟨i + 1, ⟨by omega, by omega⟩, G.wk ⟨rfl, rfl, by simp only [lk, reduceIte, Nat.reduceEqDiff]; rw [hleft], rfl, trivial⟩ ⟨by simp only [lkH, reduceIte]; rw [hd1, hd2], trivial⟩⟩
      · obtain ⟨hset, hleft⟩ := ZDc e (total - costF l e) l i hlt hL0 hs
        have hmin : min (l.getD i 0) e = l.getD i 0 := by omega
        rw [hmin] at hget
        repeat' (first
    | ((first | refine ZAQ hT fun K hK => ?_ | refine ZAP hT hm (by kernel_rfl) fun K hK => ?_); push_cast [hpl, hget]; (try simp (disch := omega) only [wrap64, Int.toNat_natCast]); (repeat refine ZAD ?_ ?_); refine hK _ ?_; clear hK K)
    | ((first | refine ZAg hT fun K hK => ?_ | refine ZAe hT hm (by kernel_rfl) fun K hK => ?_); push_cast [hpl, hget]; (try simp (disch := omega) only [wrap64, Int.toNat_natCast]); (repeat refine ZAD ?_ ?_); refine hK _ ?_; clear hK K; push_cast)
    | refine ZAA ?_ | refine ZAB ?_ | refine ZAL ?_ | ((first | refine ZAC ?_ | refine ZAF ?_ | refine ZAG ?_ | refine ZAM ?_); push_cast)
    | (refine ZAH _ rfl (fun h => ?_) (fun h => ?_) <;> simp only [bh2, reduceCtorEq] at h))
        all_goals first | omega | exact (fun hh => hh) | skip
        all_goals exact ⟨i + 1, ⟨by omega, by omega⟩, G.wk ⟨rfl, rfl, by simp only [lk, reduceIte, Nat.reduceEqDiff]; rw [hleft], rfl, trivial⟩ ⟨by simp only [lkH, reduceIte]; rw [hset], trivial⟩⟩
    · have hdone := ZBX e (total - costF l e) l i hL0 (.inr (by omega))
      rw [hpd] at hdone
      simp only [hdone]
      repeat' (first
    | ((first | refine ZAQ hT fun K hK => ?_ | refine ZAP hT hm (by kernel_rfl) fun K hK => ?_); push_cast; (try simp (disch := omega) only [wrap64, Int.toNat_natCast]); (repeat refine ZAD ?_ ?_); refine hK _ ?_; clear hK K)
    | ((first | refine ZAg hT fun K hK => ?_ | refine ZAe hT hm (by kernel_rfl) fun K hK => ?_); push_cast; (try simp (disch := omega) only [wrap64, Int.toNat_natCast]); (repeat refine ZAD ?_ ?_); refine hK _ ?_; clear hK K; push_cast)
    | refine ZAA ?_ | refine ZAB ?_ | refine ZAL ?_ | ((first | refine ZAC ?_ | refine ZAF ?_ | refine ZAG ?_ | refine ZAM ?_); push_cast)
    | (refine ZAH _ rfl (fun h => ?_) (fun h => ?_) <;> simp only [bh2, reduceCtorEq] at h))
      all_goals first | omega | exact (fun hh => hh) | skip
end Go.Proofs.Ythgjjhddbigfcaa
