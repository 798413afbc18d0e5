/- Part of a proof about the given program: contracts of its functions (see the comment of the last text). -/
import Derived.Test.YthgjjhddbigfcaaWfJ
import Derived.Test.YthgjjhddbigfcaaPl2
namespace Go.Proofs.Ythgjjhddbigfcaa
open Go.Eng Go.Proofs Go.Wf Go.Proofs.Share
set_option linter.unusedSimpArgs false
set_option linter.unusedVariables false
attribute [local irreducible] AOps AOpsX AOps2 AOpsS AWP AAnyS Go.Eng.Pure PureRow Eff
theorem ZEu (ps : List Po) (b : Bool) (s : Sr) (ri : Nat) (hid : 100000 ≤ ri) (h4 : ps.length ≤ 4) (hs : InvS ps.length s) :
    Eff Try.prog 37 [avPs ps, BL b, .s 9000, .s ri, I64 s.n] [(9000, .row 3 1 (.ints .i64 s.l)), (ri, .row 3 1 (.ints .i64 s.w))] (I64 (srF ps b s ps.length).n) [(9000, .row 3 1 (.ints .i64 (srF ps b s ps.length).l)), (ri, .row 3 1 (.ints .i64 (srF ps b s ps.length).w))] := by
  have i1 : (9000 = ri) = False := eq_false (by omega)
  have i2 : (ri = 9000) = False := eq_false (by omega)
  have hkill : ∀ d : Nat, d < 54 → (ri = d) = False := fun d hd => eq_false (by omega)
  refine ZGl (n := 54) (res := [.tmp 10]) hT Try.func37 rfl rfl rfl Try.ntmps37 (Nat.le_of_ble_eq_true rfl) (fun id' hid' => by simp only [lkH]; rw [if_neg (by omega), if_neg (by omega)]) fun B w0 hgh hrd => ?_
  repeat' (first | ((first | refine sC hT fun K' hK' => ?_ | refine oC fun K' hK' => ?_); push_cast [i1, i2]; (try simp (disch := omega) only [wrap64, Int.toNat_natCast]); (repeat refine ZAD ?_ ?_); (first | refine hK' _ ?_ | refine ⟨.v (.int .i64 0), hK' _ ?_⟩); clear hK' K') | (refine sK hT ?_; simp only [St.put]) | ((first | refine ZAE (hK _ ?_) | refine ZAJ (hK _ ?_)); clear hK K; push_cast) | ((first | apply ZAC | apply ZAF | apply ZAG | apply ZAM); push_cast) | refine ZAK fun K hK => ?_ | refine ZAN fun K hK => ?_ | refine dQ hT hm fun K hK => ?_ | refine dL hT hm fun K hK => ?_ | apply ZAA | apply ZAB | apply ZAL | (refine ZAH _ rfl (fun h => ?_) (fun h => ?_) <;> simp only [bh2, reduceCtorEq] at h))
  all_goals first | exact ff | skip
  refine ZAO (α := Nat) (fun k => ⟨[(0, avPs ps), (1, BL b), (2, .s 9000), (3, .s ri), (4, I64 (srF ps b s k).n), (11, I64 k)], [(9000, .row 3 1 (.ints .i64 (srF ps b s k).l)), (ri, .row 3 1 (.ints .i64 (srF ps b s k).w))]⟩) (fun k => k ≤ ps.length) (fun k => ps.length - k) 0 (Nat.zero_le _) (G.wk ⟨rfl, rfl, rfl, rfl, rfl, rfl, trivial⟩ ⟨rfl, by simp only [lkH, i1, if_false, if_true]; rfl, trivial⟩) fun k hk => ?_
  have hin := InvS.all hs ps b k hk
  by_cases hlt : k < ps.length
  · have c1 : decide ((k : Int) < (ps.length : Int)) = true := decide_eq_true (by omega)
    have hst : srF ps b s (k + 1) = srS ps b (srF ps b s k) k := rfl
    generalize srF ps b s k = t at *
    obtain ⟨e1, e2, e3, e4, e5, e6, e7⟩ := id hin
    have f5 := e5 k hlt
    have f6 := e6 k hlt
    have f7 := e7 k hlt
    simp only [maxC] at e2 f7
    by_cases hb : (ps.getD k default).f = b
    · have c2 : ((ps.getD k default).f == b) = true := by rw [hb]; exact beq_self_eq_true b
      unfold srS at hst
      rw [if_pos hb] at hst
      have hmin : min t.n (t.l.getD k 0) = min t.n (t.l.getD k 0) := rfl
      generalize hx : min t.n (t.l.getD k 0) = x at *
      have hx1 : 0 ≤ x ∧ x ≤ t.n ∧ x ≤ t.l.getD k 0 := by omega
      clear hmin
      repeat' (first | ((first | refine sC hT fun K' hK' => ?_ | refine oC fun K' hK' => ?_); push_cast [c1, c2, i1, i2, hx]; (try simp (disch := omega) only [wrap64, Int.toNat_natCast]); (repeat refine ZAD ?_ ?_); (first | refine hK' _ ?_ | refine ⟨.v (.int .i64 0), hK' _ ?_⟩); clear hK' K') | (refine sK hT ?_; simp only [St.put]) | ((first | refine ZAE (hK _ ?_) | refine ZAJ (hK _ ?_)); clear hK K; push_cast) | ((first | apply ZAC | apply ZAF | apply ZAG | apply ZAM); push_cast) | refine ZAK fun K hK => ?_ | refine ZAN fun K hK => ?_ | refine dQ hT hm fun K hK => ?_ | refine dL hT hm fun K hK => ?_ | apply ZAA | apply ZAB | apply ZAL | (refine ZAH _ rfl (fun h => ?_) (fun h => ?_) <;> simp only [bh2, reduceCtorEq] at h))
      all_goals first | exact ff | skip
      all_goals exact ⟨k + 1, ⟨by omega, by omega⟩, G.wk ⟨rfl, rfl, rfl, rfl, by rw [hst]; rfl, rfl, trivial⟩ ⟨by simp only [lkH, i1, i2, if_false, if_true]; rw [hst], by simp only [lkH, i1, i2, if_false, if_true]; rw [hst], trivial⟩⟩
    · have c2 : ((ps.getD k default).f == b) = false := by simpa using hb
      unfold srS at hst
      rw [if_neg hb] at hst
      repeat' (first | ((first | refine sC hT fun K' hK' => ?_ | refine oC fun K' hK' => ?_); push_cast [c1, c2, i1, i2]; (try simp (disch := omega) only [wrap64, Int.toNat_natCast]); (repeat refine ZAD ?_ ?_); (first | refine hK' _ ?_ | refine ⟨.v (.int .i64 0), hK' _ ?_⟩); clear hK' K') | (refine sK hT ?_; simp only [St.put]) | ((first | refine ZAE (hK _ ?_) | refine ZAJ (hK _ ?_)); clear hK K; push_cast) | ((first | apply ZAC | apply ZAF | apply ZAG | apply ZAM); push_cast) | refine ZAK fun K hK => ?_ | refine ZAN fun K hK => ?_ | refine dQ hT hm fun K hK => ?_ | refine dL hT hm fun K hK => ?_ | apply ZAA | apply ZAB | apply ZAL | (refine ZAH _ rfl (fun h => ?_) (fun h => ?_) <;> simp only [bh2, reduceCtorEq] at h))
      all_goals first | exact ff | skip
      all_goals exact ⟨k + 1, ⟨by omega, by omega⟩, G.wk ⟨rfl, rfl, rfl, rfl, by rw [hst]; rfl, rfl, trivial⟩ ⟨by simp only [lkH, i1, i2, if_false, if_true]; rw [hst], by simp only [lkH, i1, i2, if_false, if_true]; rw [hst], trivial⟩⟩
  · obtain rfl : k = ps.length := by omega
    have c1 : decide ((ps.length : Int) < (ps.length : Int)) = false := decide_eq_false (by omega)
    repeat' (first | ((first | refine sC hT fun K' hK' => ?_ | refine oC fun K' hK' => ?_); push_cast [c1]; (try simp (disch := omega) only [wrap64, Int.toNat_natCast]); (repeat refine ZAD ?_ ?_); (first | refine hK' _ ?_ | refine ⟨.v (.int .i64 0), hK' _ ?_⟩); clear hK' K') | (refine sK hT ?_; simp only [St.put]) | ((first | refine ZAE (hK _ ?_) | refine ZAJ (hK _ ?_)); clear hK K; push_cast) | ((first | apply ZAC | apply ZAF | apply ZAG | apply ZAM); push_cast) | refine ZAK fun K hK => ?_ | refine ZAN fun K hK => ?_ | refine dQ hT hm fun K hK => ?_ | refine dL hT hm fun K hK => ?_ | apply ZAA | apply ZAB | apply ZAL | (refine ZAH _ rfl (fun h => ?_) (fun h => ?_) <;> simp only [bh2, reduceCtorEq] at h))
    all_goals first | exact ff | skip
    all_goals (intro id blk h; exact h)
end Go.Proofs.Ythgjjhddbigfcaa
