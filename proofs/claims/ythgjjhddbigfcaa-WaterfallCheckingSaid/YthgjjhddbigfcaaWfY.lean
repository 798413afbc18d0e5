/- Part of a proof about the given program: contracts of its functions (see the comment of the last text). -/
import Derived.Test.YthgjjhddbigfcaaWfW
namespace Go.Proofs.Ythgjjhddbigfcaa
open Go.Eng Go.Proofs Go.Wf
set_option linter.unusedSimpArgs false
set_option linter.unusedVariables false
attribute [local irreducible] AOps AOpsX AOps2 AOpsS AWP AAnyS Go.Eng.Pure PureRow Eff

theorem lchk_ok (ps : List Po) (cs : List Cl) (g : Gr) (hps : okPs ps) (hcs : okCs cs) (hg : okG g) : Pure Try.prog 8 [avPs ps, avCs cs, .a (avG g)] (BL true) := by
  have hri := right_ok ps cs hps hcs
  have hh := head_ok
  have hsm := small_ok ps cs g hps hcs hg
  refine pure_of (n := 53) (res := [.tmp 6]) hT Try.func8 rfl rfl rfl Try.ntmps8 (Nat.le_of_ble_eq_true rfl) fun B w0 => ?_
  by_cases h : vP ps ∧ cs.length ≤ 40 ∧ vC cs
  · rw [decide_eq_true h] at hri
    by_cases hs : smF ps cs g
    · rw [decide_eq_true hs] at hsm
      obtain ⟨hp, _, hv⟩ := h
      have hd := div_ok ps cs hps ⟨hp, hv⟩
      have hc := wcheck_ok ps cs (grF ps cs) hps hcs (okG_gr hp hv)
      rw [decide_eq_true (show (vP ps ∧ vC cs) ∧ chk ps cs (grF ps cs).c (grF ps cs).fr from ⟨⟨hp, hv⟩, div_chk hp hv⟩)] at hc
      have hc2 := wcheck_ok ps cs g hps hcs hg
      have hgl : (grF ps cs).c.length = cs.length := divF_len hp hv
      have h64 := hv.1
      by_cases hk : chk ps cs g.c g.fr
      · rw [decide_eq_true (show (vP ps ∧ vC cs) ∧ chk ps cs g.c g.fr from ⟨⟨hp, hv⟩, hk⟩)] at hc2
        have hi := ints_ok g.c (grF ps cs).c hg.1.2 (by omega)
        rw [decide_eq_true (show g.c = (grF ps cs).c from chk_div hp hv hk)] at hi
        generalize grF ps cs = d at *
        repeat' (first | ((first | refine sC hT fun K' hK' => ?_ | refine oC fun K' hK' => ?_); push_cast; (try simp (disch := omega) only [wrap64, Int.toNat_natCast]); (repeat refine and_rev ?_ ?_); (first | refine hK' _ ?_ | ((first | apply con1 | (apply con3; exact gd) | apply con2); (try intro hb); (first | exact hh | exact hri | exact hsm | exact hd | exact hc | exact hc2 | exact hi); exact okr; refine hK' _ ?_) | refine ⟨.v (.int .i64 0), hK' _ ?_⟩); clear hK' K') | (refine sK hT ?_; simp only [St.put]) | ((first | refine aopss_nil (hK _ ?_) | refine aops_nil (hK _ ?_)); clear hK K; push_cast) | ((first | apply awp_label | apply awp_skip | apply awp_exit | apply awp_ret); push_cast) | refine awp_sseq fun K hK => ?_ | refine awp_s fun K hK => ?_ | refine dQ hT hm fun K hK => ?_ | refine dL hT hm fun K hK => ?_ | apply awp_block | apply awp_scope | apply awp_seq | (refine awp_cond _ rfl (fun h => ?_) (fun h => ?_) <;> simp only [bh2, reduceCtorEq] at h))
        all_goals first | exact ff | skip
        all_goals done
      · rw [decide_eq_false (show ¬ ((vP ps ∧ vC cs) ∧ chk ps cs g.c g.fr) from fun h => hk h.2)] at hc2
        generalize grF ps cs = d at *
        repeat' (first | ((first | refine sC hT fun K' hK' => ?_ | refine oC fun K' hK' => ?_); push_cast; (try simp (disch := omega) only [wrap64, Int.toNat_natCast]); (repeat refine and_rev ?_ ?_); (first | refine hK' _ ?_ | ((first | apply con1 | (apply con3; exact gd) | apply con2); (try intro hb); (first | exact hh | exact hri | exact hsm | exact hd | exact hc | exact hc2); exact okr; refine hK' _ ?_) | refine ⟨.v (.int .i64 0), hK' _ ?_⟩); clear hK' K') | (refine sK hT ?_; simp only [St.put]) | ((first | refine aopss_nil (hK _ ?_) | refine aops_nil (hK _ ?_)); clear hK K; push_cast) | ((first | apply awp_label | apply awp_skip | apply awp_exit | apply awp_ret); push_cast) | refine awp_sseq fun K hK => ?_ | refine awp_s fun K hK => ?_ | refine dQ hT hm fun K hK => ?_ | refine dL hT hm fun K hK => ?_ | apply awp_block | apply awp_scope | apply awp_seq | (refine awp_cond _ rfl (fun h => ?_) (fun h => ?_) <;> simp only [bh2, reduceCtorEq] at h))
        all_goals first | exact ff | skip
        all_goals done
    · rw [decide_eq_false hs] at hsm
      repeat' (first | ((first | refine sC hT fun K' hK' => ?_ | refine oC fun K' hK' => ?_); push_cast; (try simp (disch := omega) only [wrap64, Int.toNat_natCast]); (repeat refine and_rev ?_ ?_); (first | refine hK' _ ?_ | ((first | apply con1 | (apply con3; exact gd) | apply con2); (try intro hb); (first | exact hh | exact hri | exact hsm); exact okr; refine hK' _ ?_) | refine ⟨.v (.int .i64 0), hK' _ ?_⟩); clear hK' K') | (refine sK hT ?_; simp only [St.put]) | ((first | refine aopss_nil (hK _ ?_) | refine aops_nil (hK _ ?_)); clear hK K; push_cast) | ((first | apply awp_label | apply awp_skip | apply awp_exit | apply awp_ret); push_cast) | refine awp_sseq fun K hK => ?_ | refine awp_s fun K hK => ?_ | refine dQ hT hm fun K hK => ?_ | refine dL hT hm fun K hK => ?_ | apply awp_block | apply awp_scope | apply awp_seq | (refine awp_cond _ rfl (fun h => ?_) (fun h => ?_) <;> simp only [bh2, reduceCtorEq] at h))
      all_goals first | exact ff | skip
      all_goals done
  · rw [decide_eq_false h] at hri
    repeat' (first | ((first | refine sC hT fun K' hK' => ?_ | refine oC fun K' hK' => ?_); push_cast; (try simp (disch := omega) only [wrap64, Int.toNat_natCast]); (repeat refine and_rev ?_ ?_); (first | refine hK' _ ?_ | ((first | apply con1 | (apply con3; exact gd) | apply con2); (try intro hb); (first | exact hh | exact hri); exact okr; refine hK' _ ?_) | refine ⟨.v (.int .i64 0), hK' _ ?_⟩); clear hK' K') | (refine sK hT ?_; simp only [St.put]) | ((first | refine aopss_nil (hK _ ?_) | refine aops_nil (hK _ ?_)); clear hK K; push_cast) | ((first | apply awp_label | apply awp_skip | apply awp_exit | apply awp_ret); push_cast) | refine awp_sseq fun K hK => ?_ | refine awp_s fun K hK => ?_ | refine dQ hT hm fun K hK => ?_ | refine dL hT hm fun K hK => ?_ | apply awp_block | apply awp_scope | apply awp_seq | (refine awp_cond _ rfl (fun h => ?_) (fun h => ?_) <;> simp only [bh2, reduceCtorEq] at h))
    all_goals first | exact ff | skip
    all_goals done
end Go.Proofs.Ythgjjhddbigfcaa
