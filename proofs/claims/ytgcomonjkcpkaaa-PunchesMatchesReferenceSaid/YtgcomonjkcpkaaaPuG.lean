/- Part of a proof about the given program: contracts of its functions (see the comment of the last text). -/
import Derived.Test.YtgcomonjkcpkaaaPuF
namespace Go.Proofs.Ytgcomonjkcpkaaa
open Go.Eng Go.Proofs
set_option linter.unusedSimpArgs false
set_option linter.unusedVariables false
attribute [local irreducible] AOps AOpsX AOps2 AWP zTab zFound zRow

theorem zTab_cells : List.map ofVal zTab.cells.toList = List.replicate 2989 (.v (.int .i64 0)) := by
  unfold zTab
  show List.map ofVal (Array.replicate 2989 (Value.int .i64 0)).toList = _
  rw [Array.toList_replicate, List.map_replicate]
  rfl
theorem rep_getD {α : Type} (n j : Nat) (x d : α) (h : j < n) : (List.replicate n x).getD j d = x := by simp [List.getD_eq_getElem?_getD, h]
theorem killL_rep (d n : Nat) (v : Value) : AV.killL d (List.replicate n (.v v)) = List.replicate n (.v v) := by
  induction n with
  | zero => rfl
  | succ n ih => rw [List.replicate_succ, AV.killL, ih]; rfl
/-- Marks and punches are near. -/
def Near (ms : List Mk) (ps : List Pn) : Prop := ms.length ≤ 48 ∧ ps.length ≤ 60 ∧ (∀ i, i < ms.length → 0 ≤ (ms.getD i default).a ∧ (ms.getD i default).a ≤ 52596000) ∧ (∀ i, i < ps.length → 0 ≤ (ps.getD i default).a ∧ (ps.getD i default).a ≤ 52596000)
/-- The table holds the costs from row i on, and in row i from column k on. -/
def Holds (ms : List Mk) (ps : List Pn) (L : List Int) (i0 k0 : Nat) : Prop :=
  L.length = 2989 ∧ ∀ i k, i ≤ ms.length → k ≤ ps.length → (i0 < i ∨ (i = i0 ∧ k0 ≤ k)) → L.getD (i * 61 + k) 0 = D (ms.drop i) (ps.drop k)
def Zer (ms : List Mk) (ps : List Pn) (L : List Int) : Prop := ∀ j, ¬ (j / 61 ≤ ms.length ∧ j % 61 ≤ ps.length) → L.getD j 0 = 0
theorem Zer.set {ms : List Mk} {ps : List Pn} {L : List Int} {i k : Nat} (h : Zer ms ps L) (v : Int) (hi : i ≤ ms.length) (hk : k ≤ ps.length) (h60 : ps.length ≤ 60) : Zer ms ps (L.set (i * 61 + k) v) := fun j hj => by
  rw [Go.Eng.getD_set_ne _ _ _ _ _ (fun e => hj (by omega))]; exact h j hj
theorem Holds.set {ms : List Mk} {ps : List Pn} {L : List Int} {i k : Nat} (h : Holds ms ps L i (k + 1)) (hi : i ≤ 48) (hk : k ≤ 60) (hps : ps.length ≤ 60) : Holds ms ps (L.set (i * 61 + k) (D (ms.drop i) (ps.drop k))) i k := by
  refine ⟨by rw [List.length_set]; exact h.1, fun i' k' h1 h2 h3 => ?_⟩
  by_cases e : i' = i ∧ k' = k
  · obtain ⟨rfl, rfl⟩ := e
    rw [Go.Eng.getD_set_self]; rw [h.1]; omega
  · rw [Go.Eng.getD_set_ne _ _ _ _ _ (by
      intro hh
      apply e
      omega)]
    exact h.2 i' k' h1 h2 (by omega)

/-- The table, as it is handed out. -/
def tabV (ms : List Mk) (ps : List Pn) (j : Nat) : Int := if j / 61 ≤ ms.length ∧ j % 61 ≤ ps.length then D (ms.drop (j / 61)) (ps.drop (j % 61)) else 0
theorem tabV_at (ms : List Mk) (ps : List Pn) (i k : Nat) (hi : i ≤ ms.length) (hk : k ≤ ps.length) (h60 : ps.length ≤ 60) : tabV ms ps (i * 61 + k) = D (ms.drop i) (ps.drop k) := by
  rw [tabV, show (i * 61 + k) / 61 = i by omega, show (i * 61 + k) % 61 = k by omega, if_pos ⟨hi, hk⟩]
theorem tabV_eq {ms : List Mk} {ps : List Pn} {L : List Int} (h : Holds ms ps L 0 0) (hz : Zer ms ps L) (j : Nat) : L.getD j 0 = tabV ms ps j := by
  unfold tabV
  split
  · rename_i hj
    have := h.2 (j / 61) (j % 61) hj.1 hj.2 (by omega)
    rwa [show j / 61 * 61 + j % 61 = j by omega] at this
  · rename_i hj; exact hz j hj
set_option maxHeartbeats 16000000 in
theorem table_ok (ms : List Mk) (ps : List Pn) (hN : Near ms ps) : Pure Try.prog 26 [avKs ms, avPs ps] (.q true (fun _ j => .v (.int .i64 (tabV ms ps j))) 2989 0 0) := by
  obtain ⟨n1, n2, n3, n4⟩ := hN
  refine pure_of (n := 103) (res := [.tmp 4]) hT Try.func26 rfl rfl rfl Try.ntmps26 (Nat.le_of_ble_eq_true rfl) fun B w0 => ?_
  repeat' (first
    | ((first | refine aopsx_cons (by rfl) fun K' hK' => ?_ | refine aops_cons (by rfl) fun K' hK' => ?_); simp only [push_cast, reduceIte, reduceCtorEq, Nat.reduceEqDiff, Nat.reduceLT, Nat.reduceLeDiff, Nat.reduceAdd, Nat.reduceMul, Nat.reduceMod, Nat.reduceDiv, Nat.reduceSub, Int.reduceToNat, zTab_cells, killL_rep]; (try simp (disch := omega) only [wrap64, Int.toNat_natCast]); (repeat refine and_rev ?_ ?_); (first | refine hK' _ ?_ | (refine ⟨.v (.int .i64 0), ?_⟩; refine hK' _ ?_)); clear hK' K')
    | (refine aopsx_skip (by rfl) (by rfl) (by simp only [dstOk, Nat.reduceLT]) ?_; simp only [St.put])
    | ((first | refine aopsx_nil ?_ | refine aops_nil ?_); first | (refine hKs _ ?_; clear hKs K) | (refine hKr _ ?_; clear hKr K; simp only [push_cast, reduceIte, reduceCtorEq, Nat.reduceEqDiff, Nat.reduceLT, Nat.reduceLeDiff, Nat.reduceAdd, Nat.reduceMul, Nat.reduceMod, Nat.reduceDiv, Nat.reduceSub, Int.reduceToNat]))
    | refine awp_xseq hT fun K hKs => ?_ | refine awp_x hT fun K hKr => ?_ | refine awp_dseq hT hm (by decide +kernel) fun K hKs => ?_ | refine awp_d hT hm (by decide +kernel) fun K hKr => ?_
    | refine awp_block ?_ | refine awp_scope ?_ | refine awp_seq ?_ | ((first | refine awp_label ?_ | refine awp_skip ?_ | refine awp_exit ?_ | refine awp_ret ?_); simp only [push_cast, reduceIte, reduceCtorEq, Nat.reduceEqDiff, Nat.reduceLT, Nat.reduceLeDiff, Nat.reduceAdd, Nat.reduceMul, Nat.reduceMod, Nat.reduceDiv, Nat.reduceSub, Int.reduceToNat])
    | (refine awp_cond _ rfl (fun h => ?_) (fun h => ?_) <;> simp only [bh, decide_eq_true_eq, decide_eq_false_iff_not, eq_self, not_true_eq_false, not_false_eq_true, reduceCtorEq, Bool.true_eq_false, Bool.false_eq_true, bne_self_eq_false, beq_self_eq_true] at h))
  all_goals first | omega | exact (fun hh => hh) | (simp only [List.length_take, List.length_drop, List.length_append, List.length_map, List.length_cons, List.length_nil, List.length_replicate, List.length_set]; omega) | (intro hh; (try simp only [hh, Bool.not_false, Bool.not_true, Bool.true_and, Bool.and_true, eq_self, true_and, and_true]); (try simp only [bh, decide_eq_true_eq, decide_eq_false_iff_not] at hh); (first | done | omega | (simp only [List.length_take, List.length_drop, List.length_append, List.length_map, List.length_cons, List.length_nil, List.length_replicate, List.length_set]; omega))) | (intro hh; simp only [hh, Bool.not_false, Bool.not_true, Bool.true_and, Bool.and_true, eq_self, true_and, and_true]; intro h2; simp only [h2, Bool.not_false, Bool.not_true]; done) | (exact rfl) | skip
  have hX : AV.killL 12 (List.map ofVal zTab.cells.toList) = List.replicate 2989 (.v (.int .i64 0)) := by rw [zTab_cells, killL_rep]
  refine awp_cont 12 75 (.avs (AV.killL 12 (List.map ofVal zTab.cells.toList))) (.ints .i64 (List.replicate 2989 0)) rfl (by rw [hX]; simp only [Cont.len, List.length_replicate]) (fun j hj => .inl (by
    rw [hX] at hj ⊢
    simp only [Cont.len, List.length_replicate] at hj
    show AV.v (Value.int .i64 ((List.replicate 2989 (0 : Int)).getD j 0)) = (List.replicate 2989 (AV.v (.int .i64 0))).getD j .top
    rw [rep_getD _ _ _ _ hj, rep_getD _ _ _ _ hj])) ?_
  clear hX
  refine awp_loop (α := Nat × List Int) (fun q => ⟨[(0, avKs ms), (1, avPs ps), (5, .p 12 0), (15, I64 (ms.length + 1)), (16, I64 q.1)], [(12, .box 75 (.ints .i64 q.2))]⟩) (fun q => q.1 ≤ ms.length + 1 ∧ q.2.length = 2989 ∧ (q.1 ≤ ms.length → Holds ms ps q.2 (ms.length - q.1) (ps.length + 1)) ∧ (q.1 = ms.length + 1 → Holds ms ps q.2 0 0) ∧ Zer ms ps q.2) (fun q => ms.length + 1 - q.1) (0, List.replicate 2989 0) ⟨Nat.zero_le _, List.length_replicate, fun _ => ⟨List.length_replicate, fun i k h1 h2 h3 => by omega⟩, fun h => by omega, fun j _ => by
    by_cases hj : j < 2989
    · exact rep_getD _ _ _ _ hj
    · simp only [List.getD_eq_getElem?_getD]; rw [List.getElem?_eq_none (by rw [List.length_replicate]; omega)]; rfl⟩ (G.wk ⟨rfl, rfl, rfl, rfl, rfl, trivial⟩ ⟨rfl, trivial⟩) fun q hq => ?_
  obtain ⟨back, L0⟩ := q
  simp only at hq ⊢
  obtain ⟨q1, q2, q3, q4, q5⟩ := hq
  by_cases hlt : back < ms.length + 1
  · obtain ⟨i0, hi0⟩ : ∃ i0, i0 = ms.length - back := ⟨_, rfl⟩
    have hH := q3 (by omega)
    rw [← hi0] at hH
    have e7 : (ms.length : Int) - (back : Int) = (i0 : Int) := by omega
    have bl : decide ((back : Int) < (ms.length : Int) + 1) = true := decide_eq_true (by omega)
    clear q3 q4
    repeat' (first
    | ((first | refine aopsx_cons (by rfl) fun K' hK' => ?_ | refine aops_cons (by rfl) fun K' hK' => ?_); simp only [push_cast, reduceIte, reduceCtorEq, Nat.reduceEqDiff, Nat.reduceLT, Nat.reduceLeDiff, Nat.reduceAdd, Nat.reduceMul, Nat.reduceMod, Nat.reduceDiv, Nat.reduceSub, Int.reduceToNat, e7, bl]; (try simp (disch := omega) only [wrap64, Int.toNat_natCast]); (repeat refine and_rev ?_ ?_); (first | refine hK' _ ?_ | (refine ⟨.v (.int .i64 0), ?_⟩; refine hK' _ ?_)); clear hK' K')
    | (refine aopsx_skip (by rfl) (by rfl) (by simp only [dstOk, Nat.reduceLT]) ?_; simp only [St.put])
    | ((first | refine aopsx_nil ?_ | refine aops_nil ?_); first | (refine hKs _ ?_; clear hKs K) | (refine hKr _ ?_; clear hKr K; simp only [push_cast, reduceIte, reduceCtorEq, Nat.reduceEqDiff, Nat.reduceLT, Nat.reduceLeDiff, Nat.reduceAdd, Nat.reduceMul, Nat.reduceMod, Nat.reduceDiv, Nat.reduceSub, Int.reduceToNat]))
    | refine awp_xseq hT fun K hKs => ?_ | refine awp_x hT fun K hKr => ?_ | refine awp_dseq hT hm (by decide +kernel) fun K hKs => ?_ | refine awp_d hT hm (by decide +kernel) fun K hKr => ?_
    | refine awp_block ?_ | refine awp_scope ?_ | refine awp_seq ?_ | ((first | refine awp_label ?_ | refine awp_skip ?_ | refine awp_exit ?_ | refine awp_ret ?_); simp only [push_cast, reduceIte, reduceCtorEq, Nat.reduceEqDiff, Nat.reduceLT, Nat.reduceLeDiff, Nat.reduceAdd, Nat.reduceMul, Nat.reduceMod, Nat.reduceDiv, Nat.reduceSub, Int.reduceToNat])
    | (refine awp_cond _ rfl (fun h => ?_) (fun h => ?_) <;> simp only [bh, decide_eq_true_eq, decide_eq_false_iff_not, eq_self, not_true_eq_false, not_false_eq_true, reduceCtorEq, Bool.true_eq_false, Bool.false_eq_true, bne_self_eq_false, beq_self_eq_true] at h))
    all_goals first | omega | exact (fun hh => hh) | (simp only [List.length_take, List.length_drop, List.length_append, List.length_map, List.length_cons, List.length_nil, List.length_replicate, List.length_set]; omega) | (intro hh; (try simp only [hh, Bool.not_false, Bool.not_true, Bool.true_and, Bool.and_true, eq_self, true_and, and_true]); (try simp only [bh, decide_eq_true_eq, decide_eq_false_iff_not] at hh); (first | done | omega | (simp only [List.length_take, List.length_drop, List.length_append, List.length_map, List.length_cons, List.length_nil, List.length_replicate, List.length_set]; omega))) | (intro hh; simp only [hh, Bool.not_false, Bool.not_true, Bool.true_and, Bool.and_true, eq_self, true_and, and_true]; intro h2; simp only [h2, Bool.not_false, Bool.not_true]; done) | (exact rfl) | skip
    refine awp_loop (α := Nat × List Int) (fun q => ⟨[(0, avKs ms), (1, avPs ps), (5, .p 12 0), (6, I64 back), (7, I64 i0), (15, I64 (ms.length + 1)), (16, I64 back), (25, I64 (ps.length + 1)), (26, I64 q.1)], [(12, .box 75 (.ints .i64 q.2))]⟩) (fun q => q.1 ≤ ps.length + 1 ∧ Holds ms ps q.2 i0 (ps.length + 1 - q.1) ∧ Zer ms ps q.2) (fun q => ps.length + 1 - q.1) (0, L0) ⟨Nat.zero_le _, hH, q5⟩ (G.wk ⟨rfl, rfl, rfl, rfl, rfl, rfl, rfl, rfl, rfl, trivial⟩ ⟨rfl, trivial⟩) fun q hq => ?_
    obtain ⟨rear, L⟩ := q
    simp only at hq ⊢
    obtain ⟨r1, hR, hZ⟩ := hq
    by_cases hlt2 : rear < ps.length + 1
    · obtain ⟨k0, hk0⟩ : ∃ k0, k0 = ps.length - rear := ⟨_, rfl⟩
      rw [show ps.length + 1 - rear = k0 + 1 by omega] at hR
      have e9 : (ps.length : Int) - (rear : Int) = (k0 : Int) := by omega
      have br : decide ((rear : Int) < (ps.length : Int) + 1) = true := decide_eq_true (by omega)
      have hset := hR.set (k := k0) (by omega) (by omega) n2
      have hLl := hR.1
      by_cases hb : back = 0
      · have b1 : ((back : Int) == 0) = true := by rw [hb]; rfl
        have ev : D (ms.drop i0) (ps.drop k0) = (rear : Int) * 120 := by
          rw [List.drop_eq_nil_of_le (by omega), D_nil, List.length_drop]; omega
        rw [ev] at hset
        repeat' (first
    | ((first | refine aopsx_cons (by rfl) fun K' hK' => ?_ | refine aops_cons (by rfl) fun K' hK' => ?_); simp only [push_cast, reduceIte, reduceCtorEq, Nat.reduceEqDiff, Nat.reduceLT, Nat.reduceLeDiff, Nat.reduceAdd, Nat.reduceMul, Nat.reduceMod, Nat.reduceDiv, Nat.reduceSub, Int.reduceToNat, e9, br, b1]; (try simp (disch := omega) only [wrap64, Int.toNat_natCast]); (repeat refine and_rev ?_ ?_); (first | refine hK' _ ?_ | (refine ⟨.v (.int .i64 0), ?_⟩; refine hK' _ ?_)); clear hK' K')
    | (refine aopsx_skip (by rfl) (by rfl) (by simp only [dstOk, Nat.reduceLT]) ?_; simp only [St.put])
    | ((first | refine aopsx_nil ?_ | refine aops_nil ?_); first | (refine hKs _ ?_; clear hKs K) | (refine hKr _ ?_; clear hKr K; simp only [push_cast, reduceIte, reduceCtorEq, Nat.reduceEqDiff, Nat.reduceLT, Nat.reduceLeDiff, Nat.reduceAdd, Nat.reduceMul, Nat.reduceMod, Nat.reduceDiv, Nat.reduceSub, Int.reduceToNat]))
    | refine awp_xseq hT fun K hKs => ?_ | refine awp_x hT fun K hKr => ?_ | refine awp_dseq hT hm (by decide +kernel) fun K hKs => ?_ | refine awp_d hT hm (by decide +kernel) fun K hKr => ?_
    | refine awp_block ?_ | refine awp_scope ?_ | refine awp_seq ?_ | ((first | refine awp_label ?_ | refine awp_skip ?_ | refine awp_exit ?_ | refine awp_ret ?_); simp only [push_cast, reduceIte, reduceCtorEq, Nat.reduceEqDiff, Nat.reduceLT, Nat.reduceLeDiff, Nat.reduceAdd, Nat.reduceMul, Nat.reduceMod, Nat.reduceDiv, Nat.reduceSub, Int.reduceToNat])
    | (refine awp_cond _ rfl (fun h => ?_) (fun h => ?_) <;> simp only [bh, decide_eq_true_eq, decide_eq_false_iff_not, eq_self, not_true_eq_false, not_false_eq_true, reduceCtorEq, Bool.true_eq_false, Bool.false_eq_true, bne_self_eq_false, beq_self_eq_true] at h))
        all_goals first | omega | exact (fun hh => hh) | (simp only [List.length_take, List.length_drop, List.length_append, List.length_map, List.length_cons, List.length_nil, List.length_replicate, List.length_set]; omega) | (intro hh; (try simp only [hh, Bool.not_false, Bool.not_true, Bool.true_and, Bool.and_true, eq_self, true_and, and_true]); (try simp only [bh, decide_eq_true_eq, decide_eq_false_iff_not] at hh); (first | done | omega | (simp only [List.length_take, List.length_drop, List.length_append, List.length_map, List.length_cons, List.length_nil, List.length_replicate, List.length_set]; omega))) | (intro hh; simp only [hh, Bool.not_false, Bool.not_true, Bool.true_and, Bool.and_true, eq_self, true_and, and_true]; intro h2; simp only [h2, Bool.not_false, Bool.not_true]; done) | (exact rfl) | skip
        exact ⟨(rear + 1, L.set (i0 * 61 + k0) ((rear : Int) * 120)), ⟨⟨by show rear + 1 ≤ _; omega, by show Holds ms ps _ i0 (ps.length + 1 - (rear + 1)); rw [show ps.length + 1 - (rear + 1) = k0 by omega]; exact hset, hZ.set _ (by omega) (by omega) n2⟩, by show _ - (rear + 1) < _ - rear; omega⟩, G.wk ⟨rfl, rfl, rfl, rfl, rfl, rfl, rfl, rfl, rfl, trivial⟩ ⟨rfl, trivial⟩⟩
      · have b1 : ((back : Int) == 0) = false := beq_eq_false_iff_ne.2 (by omega)
        by_cases hr : rear = 0
        · have b2 : ((rear : Int) == 0) = true := by rw [hr]; rfl
          have ev : D (ms.drop i0) (ps.drop k0) = (back : Int) * 120 := by
            rw [show ps.drop k0 = [] from List.drop_eq_nil_of_le (by omega), D_emp, List.length_drop]; omega
          rw [ev] at hset
          repeat' (first
    | ((first | refine aopsx_cons (by rfl) fun K' hK' => ?_ | refine aops_cons (by rfl) fun K' hK' => ?_); simp only [push_cast, reduceIte, reduceCtorEq, Nat.reduceEqDiff, Nat.reduceLT, Nat.reduceLeDiff, Nat.reduceAdd, Nat.reduceMul, Nat.reduceMod, Nat.reduceDiv, Nat.reduceSub, Int.reduceToNat, e9, br, b1, b2]; (try simp (disch := omega) only [wrap64, Int.toNat_natCast]); (repeat refine and_rev ?_ ?_); (first | refine hK' _ ?_ | (refine ⟨.v (.int .i64 0), ?_⟩; refine hK' _ ?_)); clear hK' K')
    | (refine aopsx_skip (by rfl) (by rfl) (by simp only [dstOk, Nat.reduceLT]) ?_; simp only [St.put])
    | ((first | refine aopsx_nil ?_ | refine aops_nil ?_); first | (refine hKs _ ?_; clear hKs K) | (refine hKr _ ?_; clear hKr K; simp only [push_cast, reduceIte, reduceCtorEq, Nat.reduceEqDiff, Nat.reduceLT, Nat.reduceLeDiff, Nat.reduceAdd, Nat.reduceMul, Nat.reduceMod, Nat.reduceDiv, Nat.reduceSub, Int.reduceToNat]))
    | refine awp_xseq hT fun K hKs => ?_ | refine awp_x hT fun K hKr => ?_ | refine awp_dseq hT hm (by decide +kernel) fun K hKs => ?_ | refine awp_d hT hm (by decide +kernel) fun K hKr => ?_
    | refine awp_block ?_ | refine awp_scope ?_ | refine awp_seq ?_ | ((first | refine awp_label ?_ | refine awp_skip ?_ | refine awp_exit ?_ | refine awp_ret ?_); simp only [push_cast, reduceIte, reduceCtorEq, Nat.reduceEqDiff, Nat.reduceLT, Nat.reduceLeDiff, Nat.reduceAdd, Nat.reduceMul, Nat.reduceMod, Nat.reduceDiv, Nat.reduceSub, Int.reduceToNat])
    | (refine awp_cond _ rfl (fun h => ?_) (fun h => ?_) <;> simp only [bh, decide_eq_true_eq, decide_eq_false_iff_not, eq_self, not_true_eq_false, not_false_eq_true, reduceCtorEq, Bool.true_eq_false, Bool.false_eq_true, bne_self_eq_false, beq_self_eq_true] at h))
          all_goals first | omega | exact (fun hh => hh) | (simp only [List.length_take, List.length_drop, List.length_append, List.length_map, List.length_cons, List.length_nil, List.length_replicate, List.length_set]; omega) | (intro hh; (try simp only [hh, Bool.not_false, Bool.not_true, Bool.true_and, Bool.and_true, eq_self, true_and, and_true]); (try simp only [bh, decide_eq_true_eq, decide_eq_false_iff_not] at hh); (first | done | omega | (simp only [List.length_take, List.length_drop, List.length_append, List.length_map, List.length_cons, List.length_nil, List.length_replicate, List.length_set]; omega))) | (intro hh; simp only [hh, Bool.not_false, Bool.not_true, Bool.true_and, Bool.and_true, eq_self, true_and, and_true]; intro h2; simp only [h2, Bool.not_false, Bool.not_true]; done) | (exact rfl) | skip
          exact ⟨(rear + 1, L.set (i0 * 61 + k0) ((back : Int) * 120)), ⟨⟨by show rear + 1 ≤ _; omega, by show Holds ms ps _ i0 (ps.length + 1 - (rear + 1)); rw [show ps.length + 1 - (rear + 1) = k0 by omega]; exact hset, hZ.set _ (by omega) (by omega) n2⟩, by show _ - (rear + 1) < _ - rear; omega⟩, G.wk ⟨rfl, rfl, rfl, rfl, rfl, rfl, rfl, rfl, rfl, trivial⟩ ⟨rfl, trivial⟩⟩
        · have b2 : ((rear : Int) == 0) = false := beq_eq_false_iff_ne.2 (by omega)
          have hi : i0 < ms.length := by omega
          have hk : k0 < ps.length := by omega
          have ev := D_drop (ms := ms) (ps := ps) hi hk
          have a1 := hR.2 (i0 + 1) k0 (by omega) (by omega) (by omega)
          have a2 := hR.2 i0 (k0 + 1) (by omega) (by omega) (by omega)
          have a3 := hR.2 (i0 + 1) (k0 + 1) (by omega) (by omega) (by omega)
          rw [← a1, ← a2, ← a3] at ev
          have d1 := D_bounds (ms.drop (i0 + 1)) (ps.drop k0)
          have d2 := D_bounds (ms.drop i0) (ps.drop (k0 + 1))
          have d3 := D_bounds (ms.drop (i0 + 1)) (ps.drop (k0 + 1))
          rw [← a1] at d1
          rw [← a2] at d2
          rw [← a3] at d3
          simp only [List.length_drop] at d1 d2 d3
          have hm1 := n3 i0 hi
          have hp1 := n4 k0 hk
          have hcost := cost_ok (ms.getD i0 default) (ps.getD k0 default) (by omega) (by omega)
          have hc0 := cost_nonneg (ms.getD i0 default) (ps.getD k0 default)
          have hc1 : costF (ms.getD i0 default) (ps.getD k0 default) ≤ 52596060 := by unfold costF; split <;> omega
          have t1 : ((i0 : Int) + 1).toNat = i0 + 1 := by omega
          have t2 : ((k0 : Int) + 1).toNat = k0 + 1 := by omega
          rw [ev] at hset
          repeat' (first
    | ((first | refine aopsx_cons (by rfl) fun K' hK' => ?_ | refine aops_cons (by rfl) fun K' hK' => ?_); simp only [push_cast, reduceIte, reduceCtorEq, Nat.reduceEqDiff, Nat.reduceLT, Nat.reduceLeDiff, Nat.reduceAdd, Nat.reduceMul, Nat.reduceMod, Nat.reduceDiv, Nat.reduceSub, Int.reduceToNat, e9, br, b1, b2, t1, t2]; (try simp (disch := omega) only [wrap64, Int.toNat_natCast]); (repeat refine and_rev ?_ ?_); (first | refine hK' _ ?_ | ((first | refine ⟨_, ⟨(by first | exact hcost), (by first | exact .inr rfl | exact .inl (by simp [AV.fresh, AV.freshL]))⟩, ?_⟩ | refine ⟨_, fun hb => ⟨(by first | exact hcost), (by first | exact .inr rfl | exact .inl (by simp [AV.fresh, AV.freshL]))⟩, ?_⟩); (try simp only [push_cast, reduceIte, reduceCtorEq, Nat.reduceEqDiff, Nat.reduceLT, Nat.reduceLeDiff, Nat.reduceAdd, Nat.reduceMul, Nat.reduceMod, Nat.reduceDiv, Nat.reduceSub, Int.reduceToNat, e9, br, b1, b2, t1, t2]); (try simp (disch := omega) only [wrap64, Int.toNat_natCast]); (repeat refine and_rev ?_ ?_); refine hK' _ ?_) | (refine ⟨.v (.int .i64 0), ?_⟩; refine hK' _ ?_)); clear hK' K')
    | (refine aopsx_skip (by rfl) (by rfl) (by simp only [dstOk, Nat.reduceLT]) ?_; simp only [St.put])
    | ((first | refine aopsx_nil ?_ | refine aops_nil ?_); first | (refine hKs _ ?_; clear hKs K) | (refine hKr _ ?_; clear hKr K; simp only [push_cast, reduceIte, reduceCtorEq, Nat.reduceEqDiff, Nat.reduceLT, Nat.reduceLeDiff, Nat.reduceAdd, Nat.reduceMul, Nat.reduceMod, Nat.reduceDiv, Nat.reduceSub, Int.reduceToNat]))
    | refine awp_xseq hT fun K hKs => ?_ | refine awp_x hT fun K hKr => ?_ | refine awp_dseq hT hm (by decide +kernel) fun K hKs => ?_ | refine awp_d hT hm (by decide +kernel) fun K hKr => ?_
    | refine awp_block ?_ | refine awp_scope ?_ | refine awp_seq ?_ | ((first | refine awp_label ?_ | refine awp_skip ?_ | refine awp_exit ?_ | refine awp_ret ?_); simp only [push_cast, reduceIte, reduceCtorEq, Nat.reduceEqDiff, Nat.reduceLT, Nat.reduceLeDiff, Nat.reduceAdd, Nat.reduceMul, Nat.reduceMod, Nat.reduceDiv, Nat.reduceSub, Int.reduceToNat])
    | (refine awp_cond _ rfl (fun h => ?_) (fun h => ?_) <;> simp only [bh, decide_eq_true_eq, decide_eq_false_iff_not, eq_self, not_true_eq_false, not_false_eq_true, reduceCtorEq, Bool.true_eq_false, Bool.false_eq_true, bne_self_eq_false, beq_self_eq_true] at h))
          all_goals first | omega | exact (fun hh => hh) | (simp only [List.length_take, List.length_drop, List.length_append, List.length_map, List.length_cons, List.length_nil, List.length_replicate, List.length_set]; omega) | (intro hh; (try simp only [hh, Bool.not_false, Bool.not_true, Bool.true_and, Bool.and_true, eq_self, true_and, and_true]); (try simp only [bh, decide_eq_true_eq, decide_eq_false_iff_not] at hh); (first | done | omega | (simp only [List.length_take, List.length_drop, List.length_append, List.length_map, List.length_cons, List.length_nil, List.length_replicate, List.length_set]; omega))) | (intro hh; simp only [hh, Bool.not_false, Bool.not_true, Bool.true_and, Bool.and_true, eq_self, true_and, and_true]; intro h2; simp only [h2, Bool.not_false, Bool.not_true]; done) | (exact rfl) | skip
          exact ⟨(rear + 1, L.set (i0 * 61 + k0) _), ⟨⟨by show rear + 1 ≤ _; omega, by show Holds ms ps _ i0 (ps.length + 1 - (rear + 1)); rw [show ps.length + 1 - (rear + 1) = k0 by omega]; exact hset, hZ.set _ (by omega) (by omega) n2⟩, by show _ - (rear + 1) < _ - rear; omega⟩, G.wk ⟨rfl, rfl, rfl, rfl, rfl, rfl, rfl, rfl, rfl, trivial⟩ ⟨rfl, trivial⟩⟩
    · obtain rfl : rear = ps.length + 1 := by omega
      have br : decide (((ps.length + 1 : Nat) : Int) < (ps.length : Int) + 1) = false := decide_eq_false (by omega)
      rw [Nat.sub_self] at hR
      repeat' (first
    | ((first | refine aopsx_cons (by rfl) fun K' hK' => ?_ | refine aops_cons (by rfl) fun K' hK' => ?_); simp only [push_cast, reduceIte, reduceCtorEq, Nat.reduceEqDiff, Nat.reduceLT, Nat.reduceLeDiff, Nat.reduceAdd, Nat.reduceMul, Nat.reduceMod, Nat.reduceDiv, Nat.reduceSub, Int.reduceToNat, br]; (try simp (disch := omega) only [wrap64, Int.toNat_natCast]); (repeat refine and_rev ?_ ?_); (first | refine hK' _ ?_ | (refine ⟨.v (.int .i64 0), ?_⟩; refine hK' _ ?_)); clear hK' K')
    | (refine aopsx_skip (by rfl) (by rfl) (by simp only [dstOk, Nat.reduceLT]) ?_; simp only [St.put])
    | ((first | refine aopsx_nil ?_ | refine aops_nil ?_); first | (refine hKs _ ?_; clear hKs K) | (refine hKr _ ?_; clear hKr K; simp only [push_cast, reduceIte, reduceCtorEq, Nat.reduceEqDiff, Nat.reduceLT, Nat.reduceLeDiff, Nat.reduceAdd, Nat.reduceMul, Nat.reduceMod, Nat.reduceDiv, Nat.reduceSub, Int.reduceToNat]))
    | refine awp_xseq hT fun K hKs => ?_ | refine awp_x hT fun K hKr => ?_ | refine awp_dseq hT hm (by decide +kernel) fun K hKs => ?_ | refine awp_d hT hm (by decide +kernel) fun K hKr => ?_
    | refine awp_block ?_ | refine awp_scope ?_ | refine awp_seq ?_ | ((first | refine awp_label ?_ | refine awp_skip ?_ | refine awp_exit ?_ | refine awp_ret ?_); simp only [push_cast, reduceIte, reduceCtorEq, Nat.reduceEqDiff, Nat.reduceLT, Nat.reduceLeDiff, Nat.reduceAdd, Nat.reduceMul, Nat.reduceMod, Nat.reduceDiv, Nat.reduceSub, Int.reduceToNat])
    | (refine awp_cond _ rfl (fun h => ?_) (fun h => ?_) <;> simp only [bh, decide_eq_true_eq, decide_eq_false_iff_not, eq_self, not_true_eq_false, not_false_eq_true, reduceCtorEq, Bool.true_eq_false, Bool.false_eq_true, bne_self_eq_false, beq_self_eq_true] at h))
      all_goals first | omega | exact (fun hh => hh) | (simp only [List.length_take, List.length_drop, List.length_append, List.length_map, List.length_cons, List.length_nil, List.length_replicate, List.length_set]; omega) | (intro hh; (try simp only [hh, Bool.not_false, Bool.not_true, Bool.true_and, Bool.and_true, eq_self, true_and, and_true]); (try simp only [bh, decide_eq_true_eq, decide_eq_false_iff_not] at hh); (first | done | omega | (simp only [List.length_take, List.length_drop, List.length_append, List.length_map, List.length_cons, List.length_nil, List.length_replicate, List.length_set]; omega))) | (intro hh; simp only [hh, Bool.not_false, Bool.not_true, Bool.true_and, Bool.and_true, eq_self, true_and, and_true]; intro h2; simp only [h2, Bool.not_false, Bool.not_true]; done) | (exact rfl) | skip
      exact ⟨(back + 1, L), ⟨⟨by show back + 1 ≤ _; omega, hR.1, fun h => ⟨hR.1, fun i k h1 h2 h3 => hR.2 i k h1 h2 (by have : back + 1 ≤ ms.length := h; omega)⟩, fun h => by
        have : back + 1 = ms.length + 1 := h
        obtain rfl : i0 = 0 := by omega
        exact hR, hZ⟩, by show _ - (back + 1) < _ - back; omega⟩, G.wk ⟨rfl, rfl, rfl, rfl, rfl, trivial⟩ ⟨rfl, trivial⟩⟩
  · have hH := q4 (by omega)
    have bl : decide ((back : Int) < (ms.length : Int) + 1) = false := decide_eq_false (by omega)
    have hv : (fun j : Nat => L0.getD j 0) = tabV ms ps := funext (tabV_eq hH q5)
    repeat' (first
    | ((first | refine aopsx_cons (by rfl) fun K' hK' => ?_ | refine aops_cons (by rfl) fun K' hK' => ?_); simp only [push_cast, reduceIte, reduceCtorEq, Nat.reduceEqDiff, Nat.reduceLT, Nat.reduceLeDiff, Nat.reduceAdd, Nat.reduceMul, Nat.reduceMod, Nat.reduceDiv, Nat.reduceSub, Int.reduceToNat, bl]; (try simp (disch := omega) only [wrap64, Int.toNat_natCast]); (repeat refine and_rev ?_ ?_); (first | refine hK' _ ?_ | (refine ⟨.v (.int .i64 0), ?_⟩; refine hK' _ ?_)); clear hK' K')
    | (refine aopsx_skip (by rfl) (by rfl) (by simp only [dstOk, Nat.reduceLT]) ?_; simp only [St.put])
    | ((first | refine aopsx_nil ?_ | refine aops_nil ?_); first | (refine hKs _ ?_; clear hKs K) | (refine hKr _ ?_; clear hKr K; simp only [push_cast, reduceIte, reduceCtorEq, Nat.reduceEqDiff, Nat.reduceLT, Nat.reduceLeDiff, Nat.reduceAdd, Nat.reduceMul, Nat.reduceMod, Nat.reduceDiv, Nat.reduceSub, Int.reduceToNat]))
    | refine awp_xseq hT fun K hKs => ?_ | refine awp_x hT fun K hKr => ?_ | refine awp_dseq hT hm (by decide +kernel) fun K hKs => ?_ | refine awp_d hT hm (by decide +kernel) fun K hKr => ?_
    | refine awp_block ?_ | refine awp_scope ?_ | refine awp_seq ?_ | ((first | refine awp_label ?_ | refine awp_skip ?_ | refine awp_exit ?_ | refine awp_ret ?_); simp only [push_cast, reduceIte, reduceCtorEq, Nat.reduceEqDiff, Nat.reduceLT, Nat.reduceLeDiff, Nat.reduceAdd, Nat.reduceMul, Nat.reduceMod, Nat.reduceDiv, Nat.reduceSub, Int.reduceToNat])
    | (refine awp_cond _ rfl (fun h => ?_) (fun h => ?_) <;> simp only [bh, decide_eq_true_eq, decide_eq_false_iff_not, eq_self, not_true_eq_false, not_false_eq_true, reduceCtorEq, Bool.true_eq_false, Bool.false_eq_true, bne_self_eq_false, beq_self_eq_true] at h))
    all_goals (try omega)
    all_goals (try simp only [push_cast, reduceIte, reduceCtorEq, Nat.reduceEqDiff, Nat.reduceLT, Nat.reduceLeDiff, Nat.reduceAdd, Nat.reduceMul, Nat.reduceMod, Nat.reduceDiv, Nat.reduceSub, Int.reduceToNat])
    all_goals (rw [← hv, q2])
end Go.Proofs.Ytgcomonjkcpkaaa
