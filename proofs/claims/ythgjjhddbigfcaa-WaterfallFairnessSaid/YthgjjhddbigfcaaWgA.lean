/- Part of a proof about the given program: contracts of its functions (see the comment of the last text). -/
import Derived.Test.YthgjjhddbigfcaaWfW
namespace Go.Proofs.Ythgjjhddbigfcaa
open Go.Eng Go.Proofs Go.Wf
set_option linter.unusedSimpArgs false
set_option linter.unusedVariables false
attribute [local irreducible] AOps AOpsX AOps2 AOpsS AWP AAnyS Go.Eng.Pure PureRow Eff

set_option maxHeartbeats 64000000 in
theorem lfair_ok (ps : List Po) (cs : List Cl) (hps : okPs ps) (hcs : okCs cs) : Pure Try.prog 7 [avPs ps, avCs cs] (BL true) := by
  have hri := right_ok ps cs hps hcs
  have hh := head_ok
  refine pure_of (n := 113) (res := [.tmp 4]) hT Try.func7 rfl rfl rfl Try.ntmps7 (Nat.le_of_ble_eq_true rfl) fun B w0 => ?_
  by_cases h : vP ps ∧ cs.length ≤ 40 ∧ vC cs
  · rw [decide_eq_true h] at hri
    obtain ⟨hp, h40, hv⟩ := h
    have hd := div_ok ps cs hps ⟨hp, hv⟩
    have hgl : (grF ps cs).c.length = cs.length := divF_len hp hv
    have hgb : bd maxC (grF ps cs).c := divF_bd hp hv
    have hsp : ∀ r ∈ rkF cs, Sp (sumP ps false) (sumP ps true) cs (grF ps cs).c r := divF_sp hp hv
    generalize grF ps cs = g at *
    have d1 : ((g.c.length : Int) != (cs.length : Int)) = false := bne_eq_false_iff_eq.2 (by omega)
    repeat' (first | ((first | refine sC hT fun K' hK' => ?_ | refine oC fun K' hK' => ?_); push_cast [d1]; (try simp (disch := omega) only [wrap64, Int.toNat_natCast]); (repeat refine and_rev ?_ ?_); (first | refine hK' _ ?_ | ((first | apply con1 | (apply con3; exact gd) | apply con2); (try intro hb); (first | exact hh | exact hri | exact hd); exact okr; refine hK' _ ?_) | refine ⟨.v (.int .i64 0), hK' _ ?_⟩); clear hK' K') | (refine sK hT ?_; simp only [St.put]) | ((first | refine aopss_nil (hK _ ?_) | refine aops_nil (hK _ ?_)); clear hK K; push_cast) | ((first | apply awp_label | apply awp_skip | apply awp_exit | apply awp_ret); push_cast) | refine awp_sseq fun K hK => ?_ | refine awp_s fun K hK => ?_ | refine dQ hT hm fun K hK => ?_ | refine dL hT hm fun K hK => ?_ | apply awp_block | apply awp_scope | apply awp_seq | (refine awp_cond _ rfl (fun h => ?_) (fun h => ?_) <;> simp only [bh2, reduceCtorEq] at h))
    all_goals first | exact ff | skip
    refine awp_loop (α := Nat) (fun i => ⟨[(1, avCs cs), (5, BL true), (6, .p 6 0), (8, I64 i)], [(6, .box 27 (.avs [intsF g.c, avLLF g.fr]))]⟩) (fun i => i ≤ cs.length) (fun i => cs.length - i) 0 (Nat.zero_le _) (G.wk ⟨rfl, rfl, rfl, rfl, trivial⟩ ⟨rfl, trivial⟩) fun i hi => ?_
    by_cases hlt : i < cs.length
    · have c1 : decide ((i : Int) < (cs.length : Int)) = true := decide_eq_true (by omega)
      repeat' (first | ((first | refine sC hT fun K' hK' => ?_ | refine oC fun K' hK' => ?_); push_cast [c1]; (try simp (disch := omega) only [wrap64, Int.toNat_natCast]); (repeat refine and_rev ?_ ?_); (first | refine hK' _ ?_ | refine ⟨.v (.int .i64 0), hK' _ ?_⟩); clear hK' K') | (refine sK hT ?_; simp only [St.put]) | ((first | refine aopss_nil (hK _ ?_) | refine aops_nil (hK _ ?_)); clear hK K; push_cast) | ((first | apply awp_label | apply awp_skip | apply awp_exit | apply awp_ret); push_cast) | refine awp_sseq fun K hK => ?_ | refine awp_s fun K hK => ?_ | refine dQ hT hm fun K hK => ?_ | refine dL hT hm fun K hK => ?_ | apply awp_block | apply awp_scope | apply awp_seq | (refine awp_cond _ rfl (fun h => ?_) (fun h => ?_) <;> simp only [bh2, reduceCtorEq] at h))
      all_goals first | exact ff | skip
      refine awp_loop (α := Nat) (fun j => ⟨[(1, avCs cs), (5, BL true), (6, .p 6 0), (8, I64 i), (9, I64 j)], [(6, .box 27 (.avs [intsF g.c, avLLF g.fr]))]⟩) (fun j => j ≤ cs.length) (fun j => cs.length - j) 0 (Nat.zero_le _) (G.wk ⟨rfl, rfl, rfl, rfl, rfl, trivial⟩ ⟨rfl, trivial⟩) fun j hj => ?_
      by_cases hjl : j < cs.length
      · have e1 : decide ((j : Int) < (cs.length : Int)) = true := decide_eq_true (by omega)
        have bi := hgb i (by omega)
        have bj := hgb j (by omega)
        simp only [maxC] at bi bj
        by_cases hr : (cs.getD i default).r = (cs.getD j default).r
        · have f1 : ((cs.getD i default).r != (cs.getD j default).r) = false := bne_eq_false_iff_eq.2 hr
          by_cases hf : (cs.getD i default).f = (cs.getD j default).f
          · have f2 : ((cs.getD i default).f == (cs.getD j default).f) = true := by rw [hf]; exact beq_self_eq_true _
            by_cases hc : (cs.getD i default).c ≤ g.c.getD i 0
            · have f3 : decide ((cs.getD i default).c ≤ g.c.getD i 0) = true := decide_eq_true hc
              repeat' (first | ((first | refine sC hT fun K' hK' => ?_ | refine oC fun K' hK' => ?_); push_cast [e1, f1, f2, f3]; (try simp (disch := omega) only [wrap64, Int.toNat_natCast]); (repeat refine and_rev ?_ ?_); (first | refine hK' _ ?_ | refine ⟨.v (.int .i64 0), hK' _ ?_⟩); clear hK' K') | (refine sK hT ?_; simp only [St.put]) | ((first | refine aopss_nil (hK _ ?_) | refine aops_nil (hK _ ?_)); clear hK K; push_cast) | ((first | apply awp_label | apply awp_skip | apply awp_exit | apply awp_ret); push_cast) | refine awp_sseq fun K hK => ?_ | refine awp_s fun K hK => ?_ | refine dQ hT hm fun K hK => ?_ | refine dL hT hm fun K hK => ?_ | apply awp_block | apply awp_scope | apply awp_seq | (refine awp_cond _ rfl (fun h => ?_) (fun h => ?_) <;> simp only [bh2, reduceCtorEq] at h))
              all_goals first | exact ff | skip
              all_goals exact ⟨j + 1, ⟨by omega, by omega⟩, G.wk ⟨rfl, rfl, rfl, rfl, rfl, trivial⟩ ⟨rfl, trivial⟩⟩
            · have f3 : decide ((cs.getD i default).c ≤ g.c.getD i 0) = false := decide_eq_false hc
              have hfr := sp_fair (hsp _ (mem_rkF.2 ⟨i, hlt, rfl⟩)) hlt hjl hr hf (by show g.c.getD i 0 < (cs.getD i default).c; omega)
              simp only [dv] at hfr
              have f4 : decide (g.c.getD i 0 + 1 < g.c.getD j 0) = false := decide_eq_false (by omega)
              by_cases hq : g.c.getD j 0 = g.c.getD i 0 + 1
              · have f5 : (g.c.getD j 0 == g.c.getD i 0 + 1) = true := by rw [hq]; exact beq_self_eq_true _
                have f6 : decide ((i : Int) < (j : Int)) = false := decide_eq_false (by omega)
                repeat' (first | ((first | refine sC hT fun K' hK' => ?_ | refine oC fun K' hK' => ?_); push_cast [e1, f1, f2, f3, f4, f5, f6]; (try simp (disch := omega) only [wrap64, Int.toNat_natCast]); (repeat refine and_rev ?_ ?_); (first | refine hK' _ ?_ | refine ⟨.v (.int .i64 0), hK' _ ?_⟩); clear hK' K') | (refine sK hT ?_; simp only [St.put]) | ((first | refine aopss_nil (hK _ ?_) | refine aops_nil (hK _ ?_)); clear hK K; push_cast) | ((first | apply awp_label | apply awp_skip | apply awp_exit | apply awp_ret); push_cast) | refine awp_sseq fun K hK => ?_ | refine awp_s fun K hK => ?_ | refine dQ hT hm fun K hK => ?_ | refine dL hT hm fun K hK => ?_ | apply awp_block | apply awp_scope | apply awp_seq | (refine awp_cond _ rfl (fun h => ?_) (fun h => ?_) <;> simp only [bh2, reduceCtorEq] at h))
                all_goals first | exact ff | skip
                all_goals exact ⟨j + 1, ⟨by omega, by omega⟩, G.wk ⟨rfl, rfl, rfl, rfl, rfl, trivial⟩ ⟨rfl, trivial⟩⟩
              · have f5 : (g.c.getD j 0 == g.c.getD i 0 + 1) = false := by simpa using hq
                repeat' (first | ((first | refine sC hT fun K' hK' => ?_ | refine oC fun K' hK' => ?_); push_cast [e1, f1, f2, f3, f4, f5]; (try simp (disch := omega) only [wrap64, Int.toNat_natCast]); (repeat refine and_rev ?_ ?_); (first | refine hK' _ ?_ | refine ⟨.v (.int .i64 0), hK' _ ?_⟩); clear hK' K') | (refine sK hT ?_; simp only [St.put]) | ((first | refine aopss_nil (hK _ ?_) | refine aops_nil (hK _ ?_)); clear hK K; push_cast) | ((first | apply awp_label | apply awp_skip | apply awp_exit | apply awp_ret); push_cast) | refine awp_sseq fun K hK => ?_ | refine awp_s fun K hK => ?_ | refine dQ hT hm fun K hK => ?_ | refine dL hT hm fun K hK => ?_ | apply awp_block | apply awp_scope | apply awp_seq | (refine awp_cond _ rfl (fun h => ?_) (fun h => ?_) <;> simp only [bh2, reduceCtorEq] at h))
                all_goals first | exact ff | skip
                all_goals exact ⟨j + 1, ⟨by omega, by omega⟩, G.wk ⟨rfl, rfl, rfl, rfl, rfl, trivial⟩ ⟨rfl, trivial⟩⟩
          · have f2 : ((cs.getD i default).f == (cs.getD j default).f) = false := by simpa using hf
            repeat' (first | ((first | refine sC hT fun K' hK' => ?_ | refine oC fun K' hK' => ?_); push_cast [e1, f1, f2]; (try simp (disch := omega) only [wrap64, Int.toNat_natCast]); (repeat refine and_rev ?_ ?_); (first | refine hK' _ ?_ | refine ⟨.v (.int .i64 0), hK' _ ?_⟩); clear hK' K') | (refine sK hT ?_; simp only [St.put]) | ((first | refine aopss_nil (hK _ ?_) | refine aops_nil (hK _ ?_)); clear hK K; push_cast) | ((first | apply awp_label | apply awp_skip | apply awp_exit | apply awp_ret); push_cast) | refine awp_sseq fun K hK => ?_ | refine awp_s fun K hK => ?_ | refine dQ hT hm fun K hK => ?_ | refine dL hT hm fun K hK => ?_ | apply awp_block | apply awp_scope | apply awp_seq | (refine awp_cond _ rfl (fun h => ?_) (fun h => ?_) <;> simp only [bh2, reduceCtorEq] at h))
            all_goals first | exact ff | skip
            all_goals exact ⟨j + 1, ⟨by omega, by omega⟩, G.wk ⟨rfl, rfl, rfl, rfl, rfl, trivial⟩ ⟨rfl, trivial⟩⟩
        · have f1 : ((cs.getD i default).r != (cs.getD j default).r) = true := bne_iff_ne.2 hr
          repeat' (first | ((first | refine sC hT fun K' hK' => ?_ | refine oC fun K' hK' => ?_); push_cast [e1, f1]; (try simp (disch := omega) only [wrap64, Int.toNat_natCast]); (repeat refine and_rev ?_ ?_); (first | refine hK' _ ?_ | refine ⟨.v (.int .i64 0), hK' _ ?_⟩); clear hK' K') | (refine sK hT ?_; simp only [St.put]) | ((first | refine aopss_nil (hK _ ?_) | refine aops_nil (hK _ ?_)); clear hK K; push_cast) | ((first | apply awp_label | apply awp_skip | apply awp_exit | apply awp_ret); push_cast) | refine awp_sseq fun K hK => ?_ | refine awp_s fun K hK => ?_ | refine dQ hT hm fun K hK => ?_ | refine dL hT hm fun K hK => ?_ | apply awp_block | apply awp_scope | apply awp_seq | (refine awp_cond _ rfl (fun h => ?_) (fun h => ?_) <;> simp only [bh2, reduceCtorEq] at h))
          all_goals first | exact ff | skip
          all_goals exact ⟨j + 1, ⟨by omega, by omega⟩, G.wk ⟨rfl, rfl, rfl, rfl, rfl, trivial⟩ ⟨rfl, trivial⟩⟩
      · obtain rfl : j = cs.length := by omega
        have e1 : decide ((cs.length : Int) < (cs.length : Int)) = false := decide_eq_false (by omega)
        repeat' (first | ((first | refine sC hT fun K' hK' => ?_ | refine oC fun K' hK' => ?_); push_cast [e1]; (try simp (disch := omega) only [wrap64, Int.toNat_natCast]); (repeat refine and_rev ?_ ?_); (first | refine hK' _ ?_ | refine ⟨.v (.int .i64 0), hK' _ ?_⟩); clear hK' K') | (refine sK hT ?_; simp only [St.put]) | ((first | refine aopss_nil (hK _ ?_) | refine aops_nil (hK _ ?_)); clear hK K; push_cast) | ((first | apply awp_label | apply awp_skip | apply awp_exit | apply awp_ret); push_cast) | refine awp_sseq fun K hK => ?_ | refine awp_s fun K hK => ?_ | refine dQ hT hm fun K hK => ?_ | refine dL hT hm fun K hK => ?_ | apply awp_block | apply awp_scope | apply awp_seq | (refine awp_cond _ rfl (fun h => ?_) (fun h => ?_) <;> simp only [bh2, reduceCtorEq] at h))
        all_goals first | exact ff | skip
        all_goals exact ⟨i + 1, ⟨by omega, by omega⟩, G.wk ⟨rfl, rfl, rfl, rfl, trivial⟩ ⟨rfl, trivial⟩⟩
    · obtain rfl : i = cs.length := by omega
      have c1 : decide ((cs.length : Int) < (cs.length : Int)) = false := decide_eq_false (by omega)
      repeat' (first | ((first | refine sC hT fun K' hK' => ?_ | refine oC fun K' hK' => ?_); push_cast [c1]; (try simp (disch := omega) only [wrap64, Int.toNat_natCast]); (repeat refine and_rev ?_ ?_); (first | refine hK' _ ?_ | refine ⟨.v (.int .i64 0), hK' _ ?_⟩); clear hK' K') | (refine sK hT ?_; simp only [St.put]) | ((first | refine aopss_nil (hK _ ?_) | refine aops_nil (hK _ ?_)); clear hK K; push_cast) | ((first | apply awp_label | apply awp_skip | apply awp_exit | apply awp_ret); push_cast) | refine awp_sseq fun K hK => ?_ | refine awp_s fun K hK => ?_ | refine dQ hT hm fun K hK => ?_ | refine dL hT hm fun K hK => ?_ | apply awp_block | apply awp_scope | apply awp_seq | (refine awp_cond _ rfl (fun h => ?_) (fun h => ?_) <;> simp only [bh2, reduceCtorEq] at h))
      all_goals first | exact ff | skip
      all_goals done
  · rw [decide_eq_false h] at hri
    repeat' (first | ((first | refine sC hT fun K' hK' => ?_ | refine oC fun K' hK' => ?_); push_cast; (try simp (disch := omega) only [wrap64, Int.toNat_natCast]); (repeat refine and_rev ?_ ?_); (first | refine hK' _ ?_ | ((first | apply con1 | (apply con3; exact gd) | apply con2); (try intro hb); (first | exact hh | exact hri); exact okr; refine hK' _ ?_) | refine ⟨.v (.int .i64 0), hK' _ ?_⟩); clear hK' K') | (refine sK hT ?_; simp only [St.put]) | ((first | refine aopss_nil (hK _ ?_) | refine aops_nil (hK _ ?_)); clear hK K; push_cast) | ((first | apply awp_label | apply awp_skip | apply awp_exit | apply awp_ret); push_cast) | refine awp_sseq fun K hK => ?_ | refine awp_s fun K hK => ?_ | refine dQ hT hm fun K hK => ?_ | refine dL hT hm fun K hK => ?_ | apply awp_block | apply awp_scope | apply awp_seq | (refine awp_cond _ rfl (fun h => ?_) (fun h => ?_) <;> simp only [bh2, reduceCtorEq] at h))
    all_goals first | exact ff | skip
    all_goals done
end Go.Proofs.Ythgjjhddbigfcaa
