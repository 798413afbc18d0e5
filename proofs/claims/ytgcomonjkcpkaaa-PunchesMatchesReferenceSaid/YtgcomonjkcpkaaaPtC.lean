/- Part of a proof about the given program: contracts of its functions (see the comment of the last text). -/
import Derived.Test.YtgcomonjkcpkaaaPtU
import Derived.Test.YtgcomonjkcpkaaaPtA
namespace Go.Proofs.Ytgcomonjkcpkaaa
open Go.Eng Go.Proofs Go.Pt
set_option linter.unusedSimpArgs false
set_option linter.unusedVariables false
attribute [local irreducible] AOps AOpsX AOps2 AOpsF AAny AWP zTab zFound zRow

/-- The table of the reference, as it is handed out. -/
abbrev tabN (ms : List Mk) (ps : List Pn) : AV := .i true (fun e _ => rowV (rowP (DI ms ps) ps.length e 0)) 1 0 (ms.length + 1)
theorem DI_end (ms : List Mk) (ps : List Pn) {i k : Nat} (h : ms.length ≤ i ∨ ps.length ≤ k) (hi : i ≤ ms.length) (hk : k ≤ ps.length) : DI ms ps i k = 120 * ((ms.length : Int) - i + ps.length - k) := by
  unfold DI
  rcases h with h | h
  · rw [show ms.drop i = [] from List.drop_eq_nil_of_le h, D_nil, List.length_drop]; omega
  · rw [show ps.drop k = [] from List.drop_eq_nil_of_le h, D_emp, List.length_drop]; omega
theorem pub_rowV (fl : Bool) (H : List (Nat × Blk)) (n : Nat) (l : List Int) : AV.pub true H (n + 2) (rowV l) = rowV l := rfl
theorem pub_tab (ms : List Mk) (ps : List Pn) (H : List (Nat × Blk)) (n e : Nat) : AV.pub true H (n + 2) ((tabL (DI ms ps) ms.length ps.length 0).getD e .top) = (tabL (DI ms ps) ms.length ps.length 0).getD e .top := by
  by_cases h : e ≤ ms.length
  · rw [tabL_getD _ _ _ (Nat.zero_le _) h]; rfl
  · rw [List.getD_eq_getElem?_getD, List.getElem?_eq_none (by rw [tabL_len]; omega)]; rfl
theorem pub_tabm (ms : List Mk) (ps : List Pn) (H : List (Nat × Blk)) (n i : Nat) : (tabL (DI ms ps) ms.length ps.length i).map (AV.pub true H (n + 2)) = tabL (DI ms ps) ms.length ps.length i := by
  refine (List.map_congr_left fun x hx => ?_).trans (List.map_id _)
  rcases tabL_mem hx with rfl | ⟨r, rfl⟩
  · rfl
  · rfl
set_option maxRecDepth 20000 in
set_option maxHeartbeats 16000000 in
theorem rtable_raw (ms : List Mk) (ps : List Pn) (hN : Near ms ps) : Pure Try.prog 30 [avKs ms, avPs ps] (.i true (fun e _ => (tabL (DI ms ps) ms.length ps.length 0).getD e .top) 1 0 (ms.length + 1)) := by
  obtain ⟨n1, n2, n3, n4⟩ := hN
  refine pure_of2 (n := 102) (res := [.tmp 4]) hT Try.func30 rfl rfl rfl Try.ntmps30 (Nat.le_of_ble_eq_true rfl) fun B w0 hgh => ?_
  have hM : ((ms.length : Int) + 1).toNat = ms.length + 1 := by omega
  have hN2 : ((ps.length : Int) + 1).toNat = ps.length + 1 := by omega
  repeat' (first
    | ((first | refine aopsx_cons (by rfl) fun K' hK' => ?_ | refine aops_cons (by rfl) fun K' hK' => ?_); simp only [push_cast, reduceIte, reduceCtorEq, Nat.reduceEqDiff, Nat.reduceLT, Nat.reduceLeDiff, Nat.reduceAdd, Nat.reduceMul, Nat.reduceMod, Nat.reduceDiv, Nat.reduceSub, Int.reduceToNat, hM]; (try simp (disch := omega) only [wrap64, Int.toNat_natCast]); (repeat refine and_rev ?_ ?_); (first | refine hK' _ ?_ | (refine ⟨.v (.int .i64 0), ?_⟩; refine hK' _ ?_)); clear hK' K')
    | (refine aopsx_skip (by rfl) (by rfl) (by simp only [dstOk, Nat.reduceLT]) ?_; simp only [St.put])
    | ((first | refine aopsx_nil ?_ | refine aops_nil ?_); first | (refine hKs _ ?_; clear hKs K) | (refine hKr _ ?_; clear hKr K; simp only [push_cast, reduceIte, reduceCtorEq, Nat.reduceEqDiff, Nat.reduceLT, Nat.reduceLeDiff, Nat.reduceAdd, Nat.reduceMul, Nat.reduceMod, Nat.reduceDiv, Nat.reduceSub, Int.reduceToNat]))
    | refine awp_xseq hT fun K hKs => ?_ | refine awp_x hT fun K hKr => ?_ | refine awp_dseq hT hm (by decide +kernel) fun K hKs => ?_ | refine awp_d hT hm (by decide +kernel) fun K hKr => ?_
    | refine awp_block ?_ | refine awp_scope ?_ | refine awp_seq ?_ | ((first | refine awp_label ?_ | refine awp_skip ?_ | refine awp_exit ?_ | refine awp_ret ?_); simp only [push_cast, reduceIte, reduceCtorEq, Nat.reduceEqDiff, Nat.reduceLT, Nat.reduceLeDiff, Nat.reduceAdd, Nat.reduceMul, Nat.reduceMod, Nat.reduceDiv, Nat.reduceSub, Int.reduceToNat])
    | (refine awp_cond _ rfl (fun h => ?_) (fun h => ?_) <;> simp only [bh, decide_eq_true_eq, decide_eq_false_iff_not, eq_self, not_true_eq_false, not_false_eq_true, reduceCtorEq, Bool.true_eq_false, Bool.false_eq_true, bne_self_eq_false, beq_self_eq_true] at h))
  all_goals first | omega | exact (fun hh => hh) | (simp only [List.length_take, List.length_drop, List.length_append, List.length_map, List.length_cons, List.length_nil, List.length_replicate, List.length_set]; omega) | (intro hh; (try simp only [hh, Bool.not_false, Bool.not_true, Bool.true_and, Bool.and_true, eq_self, true_and, and_true]); (try simp only [bh, decide_eq_true_eq, decide_eq_false_iff_not] at hh); (first | done | omega | (simp only [List.length_take, List.length_drop, List.length_append, List.length_map, List.length_cons, List.length_nil, List.length_replicate, List.length_set]; omega))) | (intro hh; simp only [hh, Bool.not_false, Bool.not_true, Bool.true_and, Bool.and_true, eq_self, true_and, and_true]; intro h2; simp only [h2, Bool.not_false, Bool.not_true]; done) | (exact rfl) | skip
  refine awp_toNst 11 30 (.vals (List.replicate (ms.length + 1) (.slice none 0 0))) (.avs (List.replicate (ms.length + 1) nilV)) rfl (by simp only [Cont.len, List.length_replicate]) (fun j hj => by
    simp only [Cont.len, List.length_replicate] at hj
    show (List.replicate (ms.length + 1) nilV).getD j .top = AV.v ((List.replicate (ms.length + 1) (Value.slice none 0 0)).getD j undef)
    rw [rep_getD _ _ _ _ hj, rep_getD _ _ _ _ hj]) ?_
  refine awp_loop (α := Nat) (fun k => ⟨[(0, avKs ms), (1, avPs ps), (5, .s 11), (6, I64 ((k : Int) - 1))], [(11, .nst 30 (.avs (tabL (DI ms ps) ms.length ps.length k)))]⟩) (fun k => k ≤ ms.length + 1) (fun k => k) (ms.length + 1) (Nat.le_refl _) (G.wk ⟨rfl, rfl, rfl, by rw [show (((ms.length + 1 : Nat) : Int) - 1) = (ms.length : Int) by omega]; rfl, trivial⟩ ⟨by rw [tabL_top]; rfl, trivial⟩) fun k hk => ?_
  have hDI := DI_bounds ms ps
  rcases Nat.eq_zero_or_pos k with hk0 | hk0
  · subst hk0
    have bl : decide (0 ≤ ((0 : Nat) : Int) - 1) = false := by decide
    have hl := tabL_len (DI ms ps) ms.length ps.length 0
    have hpub := pub_tab ms ps
    repeat' (first
    | ((first | refine aopsx_cons (by rfl) fun K' hK' => ?_ | refine aops_cons (by rfl) fun K' hK' => ?_); simp only [push_cast, reduceIte, reduceCtorEq, Nat.reduceEqDiff, Nat.reduceLT, Nat.reduceLeDiff, Nat.reduceAdd, Nat.reduceMul, Nat.reduceMod, Nat.reduceDiv, Nat.reduceSub, Int.reduceToNat, bl, hl]; (try simp (disch := omega) only [wrap64, Int.toNat_natCast]); (repeat refine and_rev ?_ ?_); (first | refine hK' _ ?_ | (refine ⟨.v (.int .i64 0), ?_⟩; refine hK' _ ?_)); clear hK' K')
    | (refine aopsx_skip (by rfl) (by rfl) (by simp only [dstOk, Nat.reduceLT]) ?_; simp only [St.put])
    | ((first | refine aopsx_nil ?_ | refine aops_nil ?_); first | (refine hKs _ ?_; clear hKs K) | (refine hKr _ ?_; clear hKr K; simp only [push_cast, reduceIte, reduceCtorEq, Nat.reduceEqDiff, Nat.reduceLT, Nat.reduceLeDiff, Nat.reduceAdd, Nat.reduceMul, Nat.reduceMod, Nat.reduceDiv, Nat.reduceSub, Int.reduceToNat]))
    | refine awp_xseq hT fun K hKs => ?_ | refine awp_x hT fun K hKr => ?_ | refine awp_dseq hT hm (by decide +kernel) fun K hKs => ?_ | refine awp_d hT hm (by decide +kernel) fun K hKr => ?_
    | refine awp_block ?_ | refine awp_scope ?_ | refine awp_seq ?_ | ((first | refine awp_label ?_ | refine awp_skip ?_ | refine awp_exit ?_ | refine awp_ret ?_); simp only [push_cast, reduceIte, reduceCtorEq, Nat.reduceEqDiff, Nat.reduceLT, Nat.reduceLeDiff, Nat.reduceAdd, Nat.reduceMul, Nat.reduceMod, Nat.reduceDiv, Nat.reduceSub, Int.reduceToNat])
    | (refine awp_cond _ rfl (fun h => ?_) (fun h => ?_) <;> simp only [bh, decide_eq_true_eq, decide_eq_false_iff_not, eq_self, not_true_eq_false, not_false_eq_true, reduceCtorEq, Bool.true_eq_false, Bool.false_eq_true, bne_self_eq_false, beq_self_eq_true] at h))
    all_goals first | omega | exact (fun hh => hh) | (simp only [List.length_take, List.length_drop, List.length_append, List.length_map, List.length_cons, List.length_nil, List.length_replicate, List.length_set]; omega) | (intro hh; (try simp only [hh, Bool.not_false, Bool.not_true, Bool.true_and, Bool.and_true, eq_self, true_and, and_true]); (try simp only [bh, decide_eq_true_eq, decide_eq_false_iff_not] at hh); (first | done | omega | (simp only [List.length_take, List.length_drop, List.length_append, List.length_map, List.length_cons, List.length_nil, List.length_replicate, List.length_set]; omega))) | (intro hh; simp only [hh, Bool.not_false, Bool.not_true, Bool.true_and, Bool.and_true, eq_self, true_and, and_true]; intro h2; simp only [h2, Bool.not_false, Bool.not_true]; done) | (exact rfl) | skip
    all_goals (rw [pub_tabm, hl])
  · obtain ⟨i, rfl⟩ : ∃ i, k = i + 1 := ⟨k - 1, by omega⟩
    have bl : decide (0 ≤ (i : Int)) = true := decide_eq_true (by omega)
    refine awp_wk ⟨[(0, avKs ms), (1, avPs ps), (5, .s 11), (6, I64 i)], [(11, .nst 30 (.avs (tabL (DI ms ps) ms.length ps.length (i + 1))))]⟩ ⟨rfl, rfl, rfl, by rw [show (((i + 1 : Nat) : Int) - 1) = (i : Int) by omega]; rfl, trivial⟩ ⟨rfl, trivial⟩ ?_
    have hkl := tabL_kill (DI ms ps) ms.length ps.length (i + 1) 23
    have hl := tabL_len (DI ms ps) ms.length ps.length (i + 1)
    repeat' (first
    | ((first | refine aopsx_cons (by rfl) fun K' hK' => ?_ | refine aops_cons (by rfl) fun K' hK' => ?_); simp only [push_cast, reduceIte, reduceCtorEq, Nat.reduceEqDiff, Nat.reduceLT, Nat.reduceLeDiff, Nat.reduceAdd, Nat.reduceMul, Nat.reduceMod, Nat.reduceDiv, Nat.reduceSub, Int.reduceToNat, bl, hN2, hkl]; (try simp (disch := omega) only [wrap64, Int.toNat_natCast]); (repeat refine and_rev ?_ ?_); (first | refine hK' _ ?_ | (refine ⟨.v (.int .i64 0), ?_⟩; refine hK' _ ?_)); clear hK' K')
    | (refine aopsx_skip (by rfl) (by rfl) (by simp only [dstOk, Nat.reduceLT]) ?_; simp only [St.put])
    | ((first | refine aopsx_nil ?_ | refine aops_nil ?_); first | (refine hKs _ ?_; clear hKs K) | (refine hKr _ ?_; clear hKr K; simp only [push_cast, reduceIte, reduceCtorEq, Nat.reduceEqDiff, Nat.reduceLT, Nat.reduceLeDiff, Nat.reduceAdd, Nat.reduceMul, Nat.reduceMod, Nat.reduceDiv, Nat.reduceSub, Int.reduceToNat]))
    | refine awp_xseq hT fun K hKs => ?_ | refine awp_x hT fun K hKr => ?_ | refine awp_dseq hT hm (by decide +kernel) fun K hKs => ?_ | refine awp_d hT hm (by decide +kernel) fun K hKr => ?_
    | refine awp_block ?_ | refine awp_scope ?_ | refine awp_seq ?_ | ((first | refine awp_label ?_ | refine awp_skip ?_ | refine awp_exit ?_ | refine awp_ret ?_); simp only [push_cast, reduceIte, reduceCtorEq, Nat.reduceEqDiff, Nat.reduceLT, Nat.reduceLeDiff, Nat.reduceAdd, Nat.reduceMul, Nat.reduceMod, Nat.reduceDiv, Nat.reduceSub, Int.reduceToNat])
    | (refine awp_cond _ rfl (fun h => ?_) (fun h => ?_) <;> simp only [bh, decide_eq_true_eq, decide_eq_false_iff_not, eq_self, not_true_eq_false, not_false_eq_true, reduceCtorEq, Bool.true_eq_false, Bool.false_eq_true, bne_self_eq_false, beq_self_eq_true] at h))
    all_goals first | omega | exact (fun hh => hh) | (simp only [List.length_take, List.length_drop, List.length_append, List.length_map, List.length_cons, List.length_nil, List.length_replicate, List.length_set]; omega) | (intro hh; (try simp only [hh, Bool.not_false, Bool.not_true, Bool.true_and, Bool.and_true, eq_self, true_and, and_true]); (try simp only [bh, decide_eq_true_eq, decide_eq_false_iff_not] at hh); (first | done | omega | (simp only [List.length_take, List.length_drop, List.length_append, List.length_map, List.length_cons, List.length_nil, List.length_replicate, List.length_set]; omega))) | (intro hh; simp only [hh, Bool.not_false, Bool.not_true, Bool.true_and, Bool.and_true, eq_self, true_and, and_true]; intro h2; simp only [h2, Bool.not_false, Bool.not_true]; done) | (exact rfl) | skip
    refine awp_loop (α := Nat) (fun j => ⟨[(0, avKs ms), (1, avPs ps), (5, .s 11), (6, I64 i), (7, I64 ((j : Int) - 1))], [(11, .nst 30 (.avs ((tabL (DI ms ps) ms.length ps.length (i + 1)).set i (.s 23)))), (23, .row 3 1 (.ints .i64 (rowP (DI ms ps) ps.length i j)))]⟩) (fun j => j ≤ ps.length + 1) (fun j => j) (ps.length + 1) (Nat.le_refl _) (G.wk ⟨rfl, rfl, rfl, rfl, by rw [show (((ps.length + 1 : Nat) : Int) - 1) = (ps.length : Int) by omega]; rfl, trivial⟩ ⟨rfl, by rw [rowP_top]; rfl, trivial⟩) fun j' hj' => ?_
    rcases Nat.eq_zero_or_pos j' with hj0 | hj0
    · subst hj0
      have bj : decide (0 ≤ ((0 : Nat) : Int) - 1) = false := by decide
      repeat' (first
    | ((first | refine aopsx_cons (by rfl) fun K' hK' => ?_ | refine aops_cons (by rfl) fun K' hK' => ?_); simp only [push_cast, reduceIte, reduceCtorEq, Nat.reduceEqDiff, Nat.reduceLT, Nat.reduceLeDiff, Nat.reduceAdd, Nat.reduceMul, Nat.reduceMod, Nat.reduceDiv, Nat.reduceSub, Int.reduceToNat, bj]; (try simp (disch := omega) only [wrap64, Int.toNat_natCast]); (repeat refine and_rev ?_ ?_); (first | refine hK' _ ?_ | (refine ⟨.v (.int .i64 0), ?_⟩; refine hK' _ ?_)); clear hK' K')
    | (refine aopsx_skip (by rfl) (by rfl) (by simp only [dstOk, Nat.reduceLT]) ?_; simp only [St.put])
    | ((first | refine aopsx_nil ?_ | refine aops_nil ?_); first | (refine hKs _ ?_; clear hKs K) | (refine hKr _ ?_; clear hKr K; simp only [push_cast, reduceIte, reduceCtorEq, Nat.reduceEqDiff, Nat.reduceLT, Nat.reduceLeDiff, Nat.reduceAdd, Nat.reduceMul, Nat.reduceMod, Nat.reduceDiv, Nat.reduceSub, Int.reduceToNat]))
    | refine awp_xseq hT fun K hKs => ?_ | refine awp_x hT fun K hKr => ?_ | refine awp_dseq hT hm (by decide +kernel) fun K hKs => ?_ | refine awp_d hT hm (by decide +kernel) fun K hKr => ?_
    | refine awp_block ?_ | refine awp_scope ?_ | refine awp_seq ?_ | ((first | refine awp_label ?_ | refine awp_skip ?_ | refine awp_exit ?_ | refine awp_ret ?_); simp only [push_cast, reduceIte, reduceCtorEq, Nat.reduceEqDiff, Nat.reduceLT, Nat.reduceLeDiff, Nat.reduceAdd, Nat.reduceMul, Nat.reduceMod, Nat.reduceDiv, Nat.reduceSub, Int.reduceToNat])
    | (refine awp_cond _ rfl (fun h => ?_) (fun h => ?_) <;> simp only [bh, decide_eq_true_eq, decide_eq_false_iff_not, eq_self, not_true_eq_false, not_false_eq_true, reduceCtorEq, Bool.true_eq_false, Bool.false_eq_true, bne_self_eq_false, beq_self_eq_true] at h))
      all_goals first | omega | exact (fun hh => hh) | (simp only [List.length_take, List.length_drop, List.length_append, List.length_map, List.length_cons, List.length_nil, List.length_replicate, List.length_set]; omega) | (intro hh; (try simp only [hh, Bool.not_false, Bool.not_true, Bool.true_and, Bool.and_true, eq_self, true_and, and_true]); (try simp only [bh, decide_eq_true_eq, decide_eq_false_iff_not] at hh); (first | done | omega | (simp only [List.length_take, List.length_drop, List.length_append, List.length_map, List.length_cons, List.length_nil, List.length_replicate, List.length_set]; omega))) | (intro hh; simp only [hh, Bool.not_false, Bool.not_true, Bool.true_and, Bool.and_true, eq_self, true_and, and_true]; intro h2; simp only [h2, Bool.not_false, Bool.not_true]; done) | (exact rfl) | skip
      have hfin : ∀ a w, G 102 B w0 ⟨[(0, avKs ms), (1, avPs ps), (5, .s 11), (6, I64 ((i : Int) - 1))], [(11, .nst 30 (.avs ((tabL (DI ms ps) ms.length ps.length (i + 1)).set i (.s 23)))), (23, .row 3 1 (.ints .i64 (rowP (DI ms ps) ps.length i 0)))]⟩ a w → G 102 B w0 ⟨[(0, avKs ms), (1, avPs ps), (5, .s 11), (6, I64 ((i : Int) - 1))], [(11, .nst 30 (.avs (tabL (DI ms ps) ms.length ps.length i)))]⟩ a w := fun a w h => by
        have h2 := h.freezeN 23 (.row 3 1 (.ints .i64 (rowP (DI ms ps) ps.length i 0))) rfl trivial
        have e : frzL 23 (.row 3 1 (.ints .i64 (rowP (DI ms ps) ps.length i 0))) ((tabL (DI ms ps) ms.length ps.length (i + 1)).set i (.s 23)) = tabL (DI ms ps) ms.length ps.length i := by
          rw [frzL_set, tabL_frz, ← tabL_set (DI ms ps) ms.length ps.length (show i ≤ ms.length by omega)]
          rfl
        refine G.weaken h2 ⟨rfl, rfl, rfl, rfl, trivial⟩ ⟨?_, trivial⟩
        show some (Blk.nst 30 (.avs (frzL 23 _ _))) = _
        rw [e]
      exact ⟨i, ⟨by omega, by omega⟩, fun a w h => hfin a w (G.weaken h ⟨rfl, rfl, rfl, rfl, trivial⟩ ⟨rfl, rfl, trivial⟩)⟩
    · obtain ⟨j, rfl⟩ : ∃ j, j' = j + 1 := ⟨j' - 1, by omega⟩
      have bj : decide (0 ≤ (j : Int)) = true := decide_eq_true (by omega)
      have hXi : ((tabL (DI ms ps) ms.length ps.length (i + 1)).set i (.s 23)).getD i .top = .s 23 := Go.Eng.getD_set_self _ _ _ _ (by omega)
      have hXn : i + 1 ≤ ms.length → ((tabL (DI ms ps) ms.length ps.length (i + 1)).set i (.s 23)).getD (i + 1) .top = rowV (rowP (DI ms ps) ps.length (i + 1) 0) := fun h => by
        rw [Go.Eng.getD_set_ne _ _ _ _ _ (by omega), tabL_getD _ _ _ (Nat.le_refl _) h]
      have hXl : ((tabL (DI ms ps) ms.length ps.length (i + 1)).set i (.s 23)).length = ms.length + 1 := by rw [List.length_set, hl]
      have hRl := rowP_len (DI ms ps) ps.length i (j + 1)
      have hRs := rowP_set (DI ms ps) ps.length i (j := j) (by omega)
      generalize (tabL (DI ms ps) ms.length ps.length (i + 1)).set i (.s 23) = X at *
      refine awp_wk ⟨[(0, avKs ms), (1, avPs ps), (5, .s 11), (6, I64 i), (7, I64 j)], [(11, .nst 30 (.avs X)), (23, .row 3 1 (.ints .i64 (rowP (DI ms ps) ps.length i (j + 1))))]⟩ ⟨rfl, rfl, rfl, rfl, by rw [show (((j + 1 : Nat) : Int) - 1) = (j : Int) by omega]; rfl, trivial⟩ ⟨rfl, rfl, trivial⟩ ?_
      by_cases hc : i < ms.length ∧ j < ps.length
      · have c1 : decide ((i : Int) < (ms.length : Int)) = true := decide_eq_true (by omega)
        have c2 : decide ((j : Int) < (ps.length : Int)) = true := decide_eq_true (by omega)
        have hXn' := hXn (by omega)
        have hm1 := n3 i hc.1
        have hp1 := n4 j hc.2
        have rc := rcost_ok (ms.getD i default) (ps.getD j default) (by omega) (by omega)
        have hc0 := cost_nonneg (ms.getD i default) (ps.getD j default)
        have hti : ((i : Int) + 1).toNat = i + 1 := by omega
        have htj : ((j : Int) + 1).toNat = j + 1 := by omega
        have hA1 : (rowP (DI ms ps) ps.length (i + 1) 0).getD (j + 1) 0 = DI ms ps (i + 1) (j + 1) := by exact rowP_getD _ _ _ (Nat.zero_le _) (by omega)
        have hA2 : (rowP (DI ms ps) ps.length (i + 1) 0).getD j 0 = DI ms ps (i + 1) j := by exact rowP_getD _ _ _ (Nat.zero_le _) (by omega)
        have hA3 : ((rowP (DI ms ps) ps.length i (j + 1)).set j (120 * ((ms.length : Int) - i + ps.length - j))).getD (j + 1) 0 = DI ms ps i (j + 1) := by
          rw [Go.Eng.getD_set_ne _ _ _ _ _ (by omega)]; exact rowP_getD _ _ _ (Nat.le_refl _) (by omega)
        have ev : min (min (costF (ms.getD i default) (ps.getD j default) + DI ms ps (i + 1) (j + 1)) (120 + DI ms ps (i + 1) j)) (120 + DI ms ps i (j + 1)) = DI ms ps i j := by
          have := D_drop (ms := ms) (ps := ps) hc.1 hc.2
          unfold DI
          rw [this]; omega
        have bd1 := hDI (i + 1) (j + 1)
        have bd2 := hDI (i + 1) j
        have bd3 := hDI i (j + 1)
        have hcb : costF (ms.getD i default) (ps.getD j default) ≤ 60000000 := by unfold costF; split <;> omega
        have hRl2 : ((rowP (DI ms ps) ps.length i (j + 1)).set j (120 * ((ms.length : Int) - i + ps.length - j))).length = ps.length + 1 := by rw [List.length_set, hRl]
        have hRlen := rowP_len (DI ms ps) ps.length (i + 1) 0
        have hss : ((rowP (DI ms ps) ps.length i (j + 1)).set j (120 * ((ms.length : Int) - i + ps.length - j))).set j (DI ms ps i j) = rowP (DI ms ps) ps.length i j := by rw [List.set_set]; exact hRs
        generalize costF (ms.getD i default) (ps.getD j default) = C at *
        generalize DI ms ps i j = d0 at *
        generalize DI ms ps (i + 1) (j + 1) = d1 at *
        generalize DI ms ps (i + 1) j = d2 at *
        generalize DI ms ps i (j + 1) = d3 at *
        repeat' (first
    | ((first | refine aopsx_cons (by rfl) fun K' hK' => ?_ | refine aops_cons (by rfl) fun K' hK' => ?_); simp only [push_cast, reduceIte, reduceCtorEq, Nat.reduceEqDiff, Nat.reduceLT, Nat.reduceLeDiff, Nat.reduceAdd, Nat.reduceMul, Nat.reduceMod, Nat.reduceDiv, Nat.reduceSub, Int.reduceToNat, bj, hXi, c1, c2, hXn', hti, htj, rowV, hA1, hA2, hA3, ev]; (try simp (disch := omega) only [wrap64, Int.toNat_natCast]); (repeat refine and_rev ?_ ?_); (first | refine hK' _ ?_ | ((first | refine ⟨_, ⟨(by first | exact rc), (by first | exact .inr rfl | exact .inl (by simp [AV.fresh, AV.freshL]))⟩, ?_⟩ | refine ⟨_, fun hb => ⟨(by first | exact rc), (by first | exact .inr rfl | exact .inl (by simp [AV.fresh, AV.freshL]))⟩, ?_⟩); (try simp only [push_cast, reduceIte, reduceCtorEq, Nat.reduceEqDiff, Nat.reduceLT, Nat.reduceLeDiff, Nat.reduceAdd, Nat.reduceMul, Nat.reduceMod, Nat.reduceDiv, Nat.reduceSub, Int.reduceToNat, bj, hXi, c1, c2, hXn', hti, htj, rowV, hA1, hA2, hA3, ev]); (try simp (disch := omega) only [wrap64, Int.toNat_natCast]); (repeat refine and_rev ?_ ?_); refine hK' _ ?_) | (refine ⟨.v (.int .i64 0), ?_⟩; refine hK' _ ?_)); clear hK' K')
    | (refine aopsx_skip (by rfl) (by rfl) (by simp only [dstOk, Nat.reduceLT]) ?_; simp only [St.put])
    | ((first | refine aopsx_nil ?_ | refine aops_nil ?_); first | (refine hKs _ ?_; clear hKs K) | (refine hKr _ ?_; clear hKr K; simp only [push_cast, reduceIte, reduceCtorEq, Nat.reduceEqDiff, Nat.reduceLT, Nat.reduceLeDiff, Nat.reduceAdd, Nat.reduceMul, Nat.reduceMod, Nat.reduceDiv, Nat.reduceSub, Int.reduceToNat]))
    | refine awp_xseq hT fun K hKs => ?_ | refine awp_x hT fun K hKr => ?_ | refine awp_dseq hT hm (by decide +kernel) fun K hKs => ?_ | refine awp_d hT hm (by decide +kernel) fun K hKr => ?_
    | refine awp_block ?_ | refine awp_scope ?_ | refine awp_seq ?_ | ((first | refine awp_label ?_ | refine awp_skip ?_ | refine awp_exit ?_ | refine awp_ret ?_); simp only [push_cast, reduceIte, reduceCtorEq, Nat.reduceEqDiff, Nat.reduceLT, Nat.reduceLeDiff, Nat.reduceAdd, Nat.reduceMul, Nat.reduceMod, Nat.reduceDiv, Nat.reduceSub, Int.reduceToNat])
    | (refine awp_cond _ rfl (fun h => ?_) (fun h => ?_) <;> simp only [bh, decide_eq_true_eq, decide_eq_false_iff_not, eq_self, not_true_eq_false, not_false_eq_true, reduceCtorEq, Bool.true_eq_false, Bool.false_eq_true, bne_self_eq_false, beq_self_eq_true] at h))
        all_goals first | omega | exact (fun hh => hh) | (simp only [List.length_take, List.length_drop, List.length_append, List.length_map, List.length_cons, List.length_nil, List.length_replicate, List.length_set]; omega) | (intro hh; (try simp only [hh, Bool.not_false, Bool.not_true, Bool.true_and, Bool.and_true, eq_self, true_and, and_true]); (try simp only [bh, decide_eq_true_eq, decide_eq_false_iff_not] at hh); (first | done | omega | (simp only [List.length_take, List.length_drop, List.length_append, List.length_map, List.length_cons, List.length_nil, List.length_replicate, List.length_set]; omega))) | (intro hh; simp only [hh, Bool.not_false, Bool.not_true, Bool.true_and, Bool.and_true, eq_self, true_and, and_true]; intro h2; simp only [h2, Bool.not_false, Bool.not_true]; done) | (exact rfl) | skip
        all_goals exact ⟨j, ⟨by omega, by omega⟩, G.wk ⟨rfl, rfl, rfl, rfl, rfl, trivial⟩ ⟨rfl, by rw [← hss]; rfl, trivial⟩⟩
      · have c1 : (decide ((i : Int) < (ms.length : Int)) && decide ((j : Int) < (ps.length : Int))) = false := by
          rw [Bool.eq_false_iff]; intro h; rw [Bool.and_eq_true, decide_eq_true_eq, decide_eq_true_eq] at h; exact hc ⟨by omega, by omega⟩
        have ev := DI_end ms ps (i := i) (k := j) (by omega) (by omega) (by omega)
        rw [ev] at hRs
        repeat' (first
    | ((first | refine aopsx_cons (by rfl) fun K' hK' => ?_ | refine aops_cons (by rfl) fun K' hK' => ?_); simp only [push_cast, reduceIte, reduceCtorEq, Nat.reduceEqDiff, Nat.reduceLT, Nat.reduceLeDiff, Nat.reduceAdd, Nat.reduceMul, Nat.reduceMod, Nat.reduceDiv, Nat.reduceSub, Int.reduceToNat, bj, hXi, c1]; (try simp (disch := omega) only [wrap64, Int.toNat_natCast]); (repeat refine and_rev ?_ ?_); (first | refine hK' _ ?_ | (refine ⟨.v (.int .i64 0), ?_⟩; refine hK' _ ?_)); clear hK' K')
    | (refine aopsx_skip (by rfl) (by rfl) (by simp only [dstOk, Nat.reduceLT]) ?_; simp only [St.put])
    | ((first | refine aopsx_nil ?_ | refine aops_nil ?_); first | (refine hKs _ ?_; clear hKs K) | (refine hKr _ ?_; clear hKr K; simp only [push_cast, reduceIte, reduceCtorEq, Nat.reduceEqDiff, Nat.reduceLT, Nat.reduceLeDiff, Nat.reduceAdd, Nat.reduceMul, Nat.reduceMod, Nat.reduceDiv, Nat.reduceSub, Int.reduceToNat]))
    | refine awp_xseq hT fun K hKs => ?_ | refine awp_x hT fun K hKr => ?_ | refine awp_dseq hT hm (by decide +kernel) fun K hKs => ?_ | refine awp_d hT hm (by decide +kernel) fun K hKr => ?_
    | refine awp_block ?_ | refine awp_scope ?_ | refine awp_seq ?_ | ((first | refine awp_label ?_ | refine awp_skip ?_ | refine awp_exit ?_ | refine awp_ret ?_); simp only [push_cast, reduceIte, reduceCtorEq, Nat.reduceEqDiff, Nat.reduceLT, Nat.reduceLeDiff, Nat.reduceAdd, Nat.reduceMul, Nat.reduceMod, Nat.reduceDiv, Nat.reduceSub, Int.reduceToNat])
    | (refine awp_cond _ rfl (fun h => ?_) (fun h => ?_) <;> simp only [bh, decide_eq_true_eq, decide_eq_false_iff_not, eq_self, not_true_eq_false, not_false_eq_true, reduceCtorEq, Bool.true_eq_false, Bool.false_eq_true, bne_self_eq_false, beq_self_eq_true] at h))
        all_goals first | omega | exact (fun hh => hh) | (simp only [List.length_take, List.length_drop, List.length_append, List.length_map, List.length_cons, List.length_nil, List.length_replicate, List.length_set]; omega) | (intro hh; (try simp only [hh, Bool.not_false, Bool.not_true, Bool.true_and, Bool.and_true, eq_self, true_and, and_true]); (try simp only [bh, decide_eq_true_eq, decide_eq_false_iff_not] at hh); (first | done | omega | (simp only [List.length_take, List.length_drop, List.length_append, List.length_map, List.length_cons, List.length_nil, List.length_replicate, List.length_set]; omega))) | (intro hh; simp only [hh, Bool.not_false, Bool.not_true, Bool.true_and, Bool.and_true, eq_self, true_and, and_true]; intro h2; simp only [h2, Bool.not_false, Bool.not_true]; done) | (exact rfl) | skip
        all_goals exact ⟨j, ⟨by omega, by omega⟩, G.wk ⟨rfl, rfl, rfl, rfl, rfl, trivial⟩ ⟨rfl, by rw [← hRs]; rfl, trivial⟩⟩
end Go.Proofs.Ytgcomonjkcpkaaa
