/- Part of a proof about the given program: contracts of its functions (see the comment of the last text). -/
import Derived.Test.YtjilboaofggppaaLeB
namespace Go.Proofs.Ytjilboaofggppaa
open Go.Eng Go.Proofs
set_option linter.unusedSimpArgs false
set_option linter.unusedVariables false
attribute [local irreducible] AOps AOpsX AOps2 AOpsS AWP

abbrev nth (l : List En) (i : Nat) : En := l.getD i default
/-- The entry i is in order. -/
def okAt (l : List En) (i : Nat) : Bool := wfB (nth l i) && !((l.take i).any fun x => decide (x.id = (nth l i).id)) && (decide (i = 0) || decide ((nth l (i - 1)).bk ≤ (nth l i).bk))
def validB (l : List En) : Bool := decide (l.length ≤ 2000) && (List.range l.length).all (okAt l)
theorem validB_false_at {l : List En} {i : Nat} (hi : i < l.length) (h : okAt l i = false) : validB l = false := by
  have : (List.range l.length).all (okAt l) = false := by
    rw [Bool.eq_false_iff]
    intro hh
    rw [List.all_eq_true] at hh
    rw [hh i (List.mem_range.2 hi)] at h; cases h
  simp [validB, this]
theorem validB_true {l : List En} (h1 : l.length ≤ 2000) (h2 : ∀ i, i < l.length → okAt l i = true) : validB l = true := by
  have : (List.range l.length).all (okAt l) = true := by
    rw [List.all_eq_true]; intro i hi; exact h2 i (List.mem_range.1 hi)
  simp [validB, this, h1]
theorem validB_spec {l : List En} (h : validB l = true) : l.length ≤ 2000 ∧ ∀ i, i < l.length → okAt l i = true := by
  simp only [validB, bh, decide_eq_true_eq, List.all_eq_true, List.mem_range] at h
  exact h
theorem okE_nth {l : List En} (h : okL l) {i : Nat} (hi : i < l.length) : okE (nth l i) := by
  have : nth l i = l[i] := by simp [nth, List.getD_eq_getElem?_getD, hi]
  rw [this]; exact h.1 _ (List.getElem_mem hi)
/-- The map of what has been seen. -/
def seenM (l : List En) (i : Nat) : List (Key × Bool) := (l.take i).map fun e => (Key.i e.id, true)
theorem getK_seen (l : List En) (i : Nat) (n : Int) : getK (seenM l i) (.i n) false = (l.take i).any fun x => decide (x.id = n) := by
  unfold seenM
  induction l.take i with
  | nil => rfl
  | cons e r ih =>
    simp only [List.map_cons, List.any_cons]
    by_cases h : e.id = n
    · subst h; simp [getK]
    · have : getK ((Key.i e.id, true) :: r.map fun e => (Key.i e.id, true)) (.i n) false = getK (r.map fun e => (Key.i e.id, true)) (.i n) false := by
        simp [getK, h]
      rw [this, ih]; simp [h]
theorem take_succ_nth {l : List En} {i : Nat} (hi : i < l.length) : l.take (i + 1) = l.take i ++ [nth l i] := by
  have : nth l i = l[i] := by simp [nth, List.getD_eq_getElem?_getD, hi]
  rw [this, List.take_append_getElem]
theorem upd_seen {l : List En} {i : Nat} (hi : i < l.length) (h : ((l.take i).any fun x => decide (x.id = (nth l i).id)) = false) : updK (seenM l i) (.i (nth l i).id) true = seenM l (i + 1) := by
  rw [updK_none]
  · unfold seenM; rw [take_succ_nth hi, List.map_append]; rfl
  · intro p hp
    unfold seenM at hp
    obtain ⟨e, he, rfl⟩ := List.mem_map.1 hp
    intro e2
    injection e2 with e2
    have : ((l.take i).any fun x => decide (x.id = (nth l i).id)) = true := List.any_eq_true.2 ⟨e, he, decide_eq_true e2⟩
    rw [h] at this; cases this
theorem seenM_len (l : List En) (i : Nat) : (seenM l i).length ≤ l.length := by unfold seenM; simp; omega

theorem okAt_bad {l : List En} {i : Nat} (h : (wfB (l.getD i default) = false ∨ ((l.take i).any fun x => decide (x.id = (l.getD i default).id)) = true) ∨ 0 < (i : Int) ∧ (l.getD i default).bk < (l.getD ((i : Int) - 1).toNat default).bk) : okAt l i = false := by
  rcases h with (h | h) | ⟨h1, h2⟩
  · have : okAt l i = (wfB (l.getD i default) && !((l.take i).any fun x => decide (x.id = (l.getD i default).id)) && (decide (i = 0) || decide ((nth l (i - 1)).bk ≤ (nth l i).bk))) := rfl
    rw [this, h]; rfl
  · have : okAt l i = (wfB (nth l i) && !((l.take i).any fun x => decide (x.id = (l.getD i default).id)) && (decide (i = 0) || decide ((nth l (i - 1)).bk ≤ (nth l i).bk))) := rfl
    rw [this, h]; simp
  · have e : ((i : Int) - 1).toNat = i - 1 := by omega
    rw [e] at h2
    have h0 : ¬ i = 0 := by omega
    have : ¬ (nth l (i - 1)).bk ≤ (nth l i).bk := by simp only [nth]; omega
    unfold okAt
    rw [decide_eq_false h0, decide_eq_false this]; simp
theorem okAt_good {l : List En} {i : Nat} (h : (wfB (l.getD i default) = true ∧ ((l.take i).any fun x => decide (x.id = (l.getD i default).id)) = false) ∧ ((i : Int) ≤ 0 ∨ (l.getD ((i : Int) - 1).toNat default).bk ≤ (l.getD i default).bk)) : okAt l i = true := by
  obtain ⟨⟨h1, h2⟩, h3⟩ := h
  have : okAt l i = (wfB (l.getD i default) && !((l.take i).any fun x => decide (x.id = (l.getD i default).id)) && (decide (i = 0) || decide ((nth l (i - 1)).bk ≤ (nth l i).bk))) := rfl
  rw [this, h1, h2]
  rcases h3 with h3 | h3
  · have : i = 0 := by omega
    simp [this]
  · by_cases h0 : i = 0
    · simp [h0]
    · have e : ((i : Int) - 1).toNat = i - 1 := by omega
      rw [e] at h3
      rw [decide_eq_true (p := (nth l (i - 1)).bk ≤ (nth l i).bk) h3]; simp
set_option maxHeartbeats 16000000 in
theorem valid_ok (l : List En) (hl : okL l) : Pure Try.prog 14 [.a (avL l)] (BL (validB l)) := by
  refine pure_of (n := 48) (res := [.tmp 2]) hT Try.func14 rfl rfl rfl Try.ntmps14 (Nat.le_of_ble_eq_true rfl) fun B w0 => ?_
  by_cases h20 : l.length ≤ 2000
  · have b0 : decide ((2000 : Int) < (l.length : Int)) = false := decide_eq_false (by omega)
    repeat' (first
    | ((first | refine aopss_cons hT (by rfl) fun K' hK' => ?_ | refine aops_cons (by rfl) fun K' hK' => ?_); simp only [push_cast, reduceIte, reduceCtorEq, Nat.reduceEqDiff, Nat.reduceLT, Nat.reduceLeDiff, Nat.reduceAdd, Nat.reduceMul, Nat.reduceMod, Nat.reduceDiv, Nat.reduceSub, Int.reduceToNat, b0]; (try simp (disch := omega) only [wrap64, Int.toNat_natCast]); (repeat refine and_rev ?_ ?_); (first | refine hK' _ ?_ | (refine ⟨.v (.int .i64 0), ?_⟩; refine hK' _ ?_)); clear hK' K')
    | (refine aopss_upd hT rfl fun K' hK' => ?_; simp only [push_cast, reduceIte, reduceCtorEq, Nat.reduceEqDiff, Nat.reduceLT, Nat.reduceLeDiff, Nat.reduceAdd, Nat.reduceMul, Nat.reduceMod, Nat.reduceDiv, Nat.reduceSub, Int.reduceToNat, b0]; (try simp (disch := omega) only [wrap64, Int.toNat_natCast]); (repeat refine and_rev ?_ ?_); refine hK' _ ?_; clear hK' K')
    | (refine aopss_map T rfl (by simp only [dstOk, Nat.reduceLT]) fun K' hK' => ?_; simp only [push_cast, reduceIte, reduceCtorEq, Nat.reduceEqDiff, Nat.reduceLT, Nat.reduceLeDiff, Nat.reduceAdd, Nat.reduceMul, Nat.reduceMod, Nat.reduceDiv, Nat.reduceSub, Int.reduceToNat, b0]; refine hK' _ ?_; clear hK' K')
    | (refine aopss_skip hT (by rfl) (by rfl) (by simp only [dstOk, Nat.reduceLT]) ?_; simp only [St.put])
    | ((first | refine aopss_nil ?_ | refine aops_nil ?_); first | (refine hKs _ ?_; clear hKs K) | (refine hKr _ ?_; clear hKr K; simp only [push_cast, reduceIte, reduceCtorEq, Nat.reduceEqDiff, Nat.reduceLT, Nat.reduceLeDiff, Nat.reduceAdd, Nat.reduceMul, Nat.reduceMod, Nat.reduceDiv, Nat.reduceSub, Int.reduceToNat]))
    | refine awp_sseq fun K hKs => ?_ | refine awp_s fun K hKr => ?_ | refine awp_dseq hT hm (by decide +kernel) fun K hKs => ?_ | refine awp_d hT hm (by decide +kernel) fun K hKr => ?_
    | refine awp_block ?_ | refine awp_scope ?_ | refine awp_seq ?_ | ((first | refine awp_label ?_ | refine awp_skip ?_ | refine awp_exit ?_ | refine awp_ret ?_); simp only [push_cast, reduceIte, reduceCtorEq, Nat.reduceEqDiff, Nat.reduceLT, Nat.reduceLeDiff, Nat.reduceAdd, Nat.reduceMul, Nat.reduceMod, Nat.reduceDiv, Nat.reduceSub, Int.reduceToNat])
    | (refine awp_cond _ rfl (fun h => ?_) (fun h => ?_) <;> simp only [bh, decide_eq_true_eq, decide_eq_false_iff_not, eq_self, not_true_eq_false, not_false_eq_true, reduceCtorEq, Bool.true_eq_false, Bool.false_eq_true, bne_self_eq_false, beq_self_eq_true] at h))
    all_goals first | omega | exact (fun hh => hh) | (simp only [List.length_take, List.length_drop, List.length_append, List.length_map, List.length_cons, List.length_nil, List.length_replicate, List.length_set]; omega) | (intro hh; (try simp only [hh, Bool.not_false, Bool.not_true, Bool.true_and, Bool.and_true, eq_self, true_and, and_true]); (try simp only [bh, decide_eq_true_eq, decide_eq_false_iff_not] at hh); (first | done | omega | (simp only [List.length_take, List.length_drop, List.length_append, List.length_map, List.length_cons, List.length_nil, List.length_replicate, List.length_set]; omega))) | (intro hh; simp only [hh, Bool.not_false, Bool.not_true, Bool.true_and, Bool.and_true, eq_self, true_and, and_true]; intro h2; simp only [h2, Bool.not_false, Bool.not_true]; done) | (exact rfl) | skip
    refine awp_loop (α := Nat) (fun i => ⟨[(1, .p 1 0), (3, .s 10), (12, avEs l), (13, I64 l.length), (14, I64 i)], [(1, .box 24 (.avs [avEs l])), (10, .mp (.bools true (seenM l i)))]⟩) (fun i => i ≤ l.length ∧ ∀ j, j < i → okAt l j = true) (fun i => l.length - i) 0 ⟨Nat.zero_le _, fun j hj => by omega⟩ (G.wk ⟨rfl, rfl, rfl, rfl, rfl, trivial⟩ ⟨rfl, rfl, trivial⟩) fun i hi => ?_
    obtain ⟨hi, hall⟩ := hi
    by_cases hlt : i < l.length
    · have bl : decide ((i : Int) < (l.length : Int)) = true := decide_eq_true (by omega)
      have hoe := okE_nth hl hlt
      have hid : In64 (nth l i).id := hoe.1
      obtain ⟨i1, i2⟩ := hid
      have hsl := seenM_len l i
      repeat' (first
    | ((first | refine aopss_cons hT (by rfl) fun K' hK' => ?_ | refine aops_cons (by rfl) fun K' hK' => ?_); simp only [push_cast, reduceIte, reduceCtorEq, Nat.reduceEqDiff, Nat.reduceLT, Nat.reduceLeDiff, Nat.reduceAdd, Nat.reduceMul, Nat.reduceMod, Nat.reduceDiv, Nat.reduceSub, Int.reduceToNat, bl, getK_seen]; (try simp (disch := omega) only [wrap64, Int.toNat_natCast]); (repeat refine and_rev ?_ ?_); (first | refine hK' _ ?_ | ((first | refine ⟨_, ⟨(by first | exact wf_ok _ hoe), (by first | exact .inr rfl | exact .inl (by simp [AV.fresh, AV.freshL]))⟩, ?_⟩ | refine ⟨_, fun hb => ⟨(by first | exact wf_ok _ hoe), (by first | exact .inr rfl | exact .inl (by simp [AV.fresh, AV.freshL]))⟩, ?_⟩ | refine ⟨_, fun hb => ⟨(by first | exact hb | exact ⟨hb, hb⟩ | exact ⟨hb, hb, hb⟩ | exact ⟨hb, hb, hb, hb⟩ | (simp only [hb, true_and, and_true, Bool.and_true, Bool.true_and]; done)), (by first | exact wf_ok _ hoe), (by first | exact .inr rfl | exact .inl (by simp [AV.fresh, AV.freshL]))⟩, ?_⟩); (try simp only [push_cast, reduceIte, reduceCtorEq, Nat.reduceEqDiff, Nat.reduceLT, Nat.reduceLeDiff, Nat.reduceAdd, Nat.reduceMul, Nat.reduceMod, Nat.reduceDiv, Nat.reduceSub, Int.reduceToNat, bl, getK_seen]); (try simp (disch := omega) only [wrap64, Int.toNat_natCast]); (repeat refine and_rev ?_ ?_); refine hK' _ ?_) | (refine ⟨.v (.int .i64 0), ?_⟩; refine hK' _ ?_)); clear hK' K')
    | (refine aopss_upd hT rfl fun K' hK' => ?_; simp only [push_cast, reduceIte, reduceCtorEq, Nat.reduceEqDiff, Nat.reduceLT, Nat.reduceLeDiff, Nat.reduceAdd, Nat.reduceMul, Nat.reduceMod, Nat.reduceDiv, Nat.reduceSub, Int.reduceToNat, bl, getK_seen]; (try simp (disch := omega) only [wrap64, Int.toNat_natCast]); (repeat refine and_rev ?_ ?_); refine hK' _ ?_; clear hK' K')
    | (refine aopss_map T rfl (by simp only [dstOk, Nat.reduceLT]) fun K' hK' => ?_; simp only [push_cast, reduceIte, reduceCtorEq, Nat.reduceEqDiff, Nat.reduceLT, Nat.reduceLeDiff, Nat.reduceAdd, Nat.reduceMul, Nat.reduceMod, Nat.reduceDiv, Nat.reduceSub, Int.reduceToNat, bl, getK_seen]; refine hK' _ ?_; clear hK' K')
    | (refine aopss_skip hT (by rfl) (by rfl) (by simp only [dstOk, Nat.reduceLT]) ?_; simp only [St.put])
    | ((first | refine aopss_nil ?_ | refine aops_nil ?_); first | (refine hKs _ ?_; clear hKs K) | (refine hKr _ ?_; clear hKr K; simp only [push_cast, reduceIte, reduceCtorEq, Nat.reduceEqDiff, Nat.reduceLT, Nat.reduceLeDiff, Nat.reduceAdd, Nat.reduceMul, Nat.reduceMod, Nat.reduceDiv, Nat.reduceSub, Int.reduceToNat]))
    | refine awp_sseq fun K hKs => ?_ | refine awp_s fun K hKr => ?_ | refine awp_dseq hT hm (by decide +kernel) fun K hKs => ?_ | refine awp_d hT hm (by decide +kernel) fun K hKr => ?_
    | refine awp_block ?_ | refine awp_scope ?_ | refine awp_seq ?_ | ((first | refine awp_label ?_ | refine awp_skip ?_ | refine awp_exit ?_ | refine awp_ret ?_); simp only [push_cast, reduceIte, reduceCtorEq, Nat.reduceEqDiff, Nat.reduceLT, Nat.reduceLeDiff, Nat.reduceAdd, Nat.reduceMul, Nat.reduceMod, Nat.reduceDiv, Nat.reduceSub, Int.reduceToNat])
    | (refine awp_cond _ rfl (fun h => ?_) (fun h => ?_) <;> simp only [bh, decide_eq_true_eq, decide_eq_false_iff_not, eq_self, not_true_eq_false, not_false_eq_true, reduceCtorEq, Bool.true_eq_false, Bool.false_eq_true, bne_self_eq_false, beq_self_eq_true] at h))
      all_goals first | omega | exact (fun hh => hh) | (simp only [List.length_take, List.length_drop, List.length_append, List.length_map, List.length_cons, List.length_nil, List.length_replicate, List.length_set]; omega) | (intro hh; (try simp only [hh, Bool.not_false, Bool.not_true, Bool.true_and, Bool.and_true, eq_self, true_and, and_true]); (try simp only [bh, decide_eq_true_eq, decide_eq_false_iff_not] at hh); (first | done | omega | (simp only [List.length_take, List.length_drop, List.length_append, List.length_map, List.length_cons, List.length_nil, List.length_replicate, List.length_set]; omega))) | (intro hh; simp only [hh, Bool.not_false, Bool.not_true, Bool.true_and, Bool.and_true, eq_self, true_and, and_true]; intro h2; simp only [h2, Bool.not_false, Bool.not_true]; done) | (exact rfl) | skip
      · rw [validB_false_at hlt (okAt_bad h)]
      · rw [upd_seen hlt h.1.2]
        exact ⟨i + 1, ⟨⟨by show i + 1 ≤ _; omega, fun j hj => by
            by_cases e : j = i
            · subst e; exact okAt_good h
            · exact hall j (by have : j < i + 1 := hj; omega)⟩, by show _ - (i + 1) < _ - i; omega⟩, G.wk ⟨rfl, rfl, rfl, rfl, rfl, trivial⟩ ⟨rfl, rfl, trivial⟩⟩
      · exact ⟨⟨i1, i2⟩, by rw [List.length_map]; omega⟩
    · obtain rfl : i = l.length := by omega
      have bl : decide ((l.length : Int) < (l.length : Int)) = false := decide_eq_false (by omega)
      have en : validB l = true := validB_true h20 hall
      rw [en]
      repeat' (first
    | ((first | refine aopss_cons hT (by rfl) fun K' hK' => ?_ | refine aops_cons (by rfl) fun K' hK' => ?_); simp only [push_cast, reduceIte, reduceCtorEq, Nat.reduceEqDiff, Nat.reduceLT, Nat.reduceLeDiff, Nat.reduceAdd, Nat.reduceMul, Nat.reduceMod, Nat.reduceDiv, Nat.reduceSub, Int.reduceToNat, bl]; (try simp (disch := omega) only [wrap64, Int.toNat_natCast]); (repeat refine and_rev ?_ ?_); (first | refine hK' _ ?_ | (refine ⟨.v (.int .i64 0), ?_⟩; refine hK' _ ?_)); clear hK' K')
    | (refine aopss_upd hT rfl fun K' hK' => ?_; simp only [push_cast, reduceIte, reduceCtorEq, Nat.reduceEqDiff, Nat.reduceLT, Nat.reduceLeDiff, Nat.reduceAdd, Nat.reduceMul, Nat.reduceMod, Nat.reduceDiv, Nat.reduceSub, Int.reduceToNat, bl]; (try simp (disch := omega) only [wrap64, Int.toNat_natCast]); (repeat refine and_rev ?_ ?_); refine hK' _ ?_; clear hK' K')
    | (refine aopss_map T rfl (by simp only [dstOk, Nat.reduceLT]) fun K' hK' => ?_; simp only [push_cast, reduceIte, reduceCtorEq, Nat.reduceEqDiff, Nat.reduceLT, Nat.reduceLeDiff, Nat.reduceAdd, Nat.reduceMul, Nat.reduceMod, Nat.reduceDiv, Nat.reduceSub, Int.reduceToNat, bl]; refine hK' _ ?_; clear hK' K')
    | (refine aopss_skip hT (by rfl) (by rfl) (by simp only [dstOk, Nat.reduceLT]) ?_; simp only [St.put])
    | ((first | refine aopss_nil ?_ | refine aops_nil ?_); first | (refine hKs _ ?_; clear hKs K) | (refine hKr _ ?_; clear hKr K; simp only [push_cast, reduceIte, reduceCtorEq, Nat.reduceEqDiff, Nat.reduceLT, Nat.reduceLeDiff, Nat.reduceAdd, Nat.reduceMul, Nat.reduceMod, Nat.reduceDiv, Nat.reduceSub, Int.reduceToNat]))
    | refine awp_sseq fun K hKs => ?_ | refine awp_s fun K hKr => ?_ | refine awp_dseq hT hm (by decide +kernel) fun K hKs => ?_ | refine awp_d hT hm (by decide +kernel) fun K hKr => ?_
    | refine awp_block ?_ | refine awp_scope ?_ | refine awp_seq ?_ | ((first | refine awp_label ?_ | refine awp_skip ?_ | refine awp_exit ?_ | refine awp_ret ?_); simp only [push_cast, reduceIte, reduceCtorEq, Nat.reduceEqDiff, Nat.reduceLT, Nat.reduceLeDiff, Nat.reduceAdd, Nat.reduceMul, Nat.reduceMod, Nat.reduceDiv, Nat.reduceSub, Int.reduceToNat])
    | (refine awp_cond _ rfl (fun h => ?_) (fun h => ?_) <;> simp only [bh, decide_eq_true_eq, decide_eq_false_iff_not, eq_self, not_true_eq_false, not_false_eq_true, reduceCtorEq, Bool.true_eq_false, Bool.false_eq_true, bne_self_eq_false, beq_self_eq_true] at h))
      all_goals first | omega | exact (fun hh => hh) | (simp only [List.length_take, List.length_drop, List.length_append, List.length_map, List.length_cons, List.length_nil, List.length_replicate, List.length_set]; omega) | (intro hh; (try simp only [hh, Bool.not_false, Bool.not_true, Bool.true_and, Bool.and_true, eq_self, true_and, and_true]); (try simp only [bh, decide_eq_true_eq, decide_eq_false_iff_not] at hh); (first | done | omega | (simp only [List.length_take, List.length_drop, List.length_append, List.length_map, List.length_cons, List.length_nil, List.length_replicate, List.length_set]; omega))) | (intro hh; simp only [hh, Bool.not_false, Bool.not_true, Bool.true_and, Bool.and_true, eq_self, true_and, and_true]; intro h2; simp only [h2, Bool.not_false, Bool.not_true]; done) | (exact rfl) | skip
  · have b0 : decide ((2000 : Int) < (l.length : Int)) = true := decide_eq_true (by omega)
    have en : validB l = false := by simp [validB, h20]
    rw [en]
    repeat' (first
    | ((first | refine aopss_cons hT (by rfl) fun K' hK' => ?_ | refine aops_cons (by rfl) fun K' hK' => ?_); simp only [push_cast, reduceIte, reduceCtorEq, Nat.reduceEqDiff, Nat.reduceLT, Nat.reduceLeDiff, Nat.reduceAdd, Nat.reduceMul, Nat.reduceMod, Nat.reduceDiv, Nat.reduceSub, Int.reduceToNat, b0]; (try simp (disch := omega) only [wrap64, Int.toNat_natCast]); (repeat refine and_rev ?_ ?_); (first | refine hK' _ ?_ | (refine ⟨.v (.int .i64 0), ?_⟩; refine hK' _ ?_)); clear hK' K')
    | (refine aopss_upd hT rfl fun K' hK' => ?_; simp only [push_cast, reduceIte, reduceCtorEq, Nat.reduceEqDiff, Nat.reduceLT, Nat.reduceLeDiff, Nat.reduceAdd, Nat.reduceMul, Nat.reduceMod, Nat.reduceDiv, Nat.reduceSub, Int.reduceToNat, b0]; (try simp (disch := omega) only [wrap64, Int.toNat_natCast]); (repeat refine and_rev ?_ ?_); refine hK' _ ?_; clear hK' K')
    | (refine aopss_map T rfl (by simp only [dstOk, Nat.reduceLT]) fun K' hK' => ?_; simp only [push_cast, reduceIte, reduceCtorEq, Nat.reduceEqDiff, Nat.reduceLT, Nat.reduceLeDiff, Nat.reduceAdd, Nat.reduceMul, Nat.reduceMod, Nat.reduceDiv, Nat.reduceSub, Int.reduceToNat, b0]; refine hK' _ ?_; clear hK' K')
    | (refine aopss_skip hT (by rfl) (by rfl) (by simp only [dstOk, Nat.reduceLT]) ?_; simp only [St.put])
    | ((first | refine aopss_nil ?_ | refine aops_nil ?_); first | (refine hKs _ ?_; clear hKs K) | (refine hKr _ ?_; clear hKr K; simp only [push_cast, reduceIte, reduceCtorEq, Nat.reduceEqDiff, Nat.reduceLT, Nat.reduceLeDiff, Nat.reduceAdd, Nat.reduceMul, Nat.reduceMod, Nat.reduceDiv, Nat.reduceSub, Int.reduceToNat]))
    | refine awp_sseq fun K hKs => ?_ | refine awp_s fun K hKr => ?_ | refine awp_dseq hT hm (by decide +kernel) fun K hKs => ?_ | refine awp_d hT hm (by decide +kernel) fun K hKr => ?_
    | refine awp_block ?_ | refine awp_scope ?_ | refine awp_seq ?_ | ((first | refine awp_label ?_ | refine awp_skip ?_ | refine awp_exit ?_ | refine awp_ret ?_); simp only [push_cast, reduceIte, reduceCtorEq, Nat.reduceEqDiff, Nat.reduceLT, Nat.reduceLeDiff, Nat.reduceAdd, Nat.reduceMul, Nat.reduceMod, Nat.reduceDiv, Nat.reduceSub, Int.reduceToNat])
    | (refine awp_cond _ rfl (fun h => ?_) (fun h => ?_) <;> simp only [bh, decide_eq_true_eq, decide_eq_false_iff_not, eq_self, not_true_eq_false, not_false_eq_true, reduceCtorEq, Bool.true_eq_false, Bool.false_eq_true, bne_self_eq_false, beq_self_eq_true] at h))
    all_goals first | omega | exact (fun hh => hh) | (simp only [List.length_take, List.length_drop, List.length_append, List.length_map, List.length_cons, List.length_nil, List.length_replicate, List.length_set]; omega) | (intro hh; (try simp only [hh, Bool.not_false, Bool.not_true, Bool.true_and, Bool.and_true, eq_self, true_and, and_true]); (try simp only [bh, decide_eq_true_eq, decide_eq_false_iff_not] at hh); (first | done | omega | (simp only [List.length_take, List.length_drop, List.length_append, List.length_map, List.length_cons, List.length_nil, List.length_replicate, List.length_set]; omega))) | (intro hh; simp only [hh, Bool.not_false, Bool.not_true, Bool.true_and, Bool.and_true, eq_self, true_and, and_true]; intro h2; simp only [h2, Bool.not_false, Bool.not_true]; done) | (exact rfl) | skip

/-- The place of an entry with this id, or -1. -/
def findF (l : List En) (n : Int) : Int := match l.findIdx? (fun x => decide (x.id = n)) with | some i => i | none => -1
theorem findF_at {l : List En} {n : Int} {i : Nat} (hi : i < l.length) (h : (nth l i).id = n) (hn : ∀ j, j < i → (nth l j).id ≠ n) : findF l n = i := by
  have : l.findIdx? (fun x => decide (x.id = n)) = some i := by
    rw [List.findIdx?_eq_some_iff_getElem]
    have e : nth l i = l[i] := by simp [nth, List.getD_eq_getElem?_getD, hi]
    refine ⟨hi, by rw [← e]; simpa using h, fun j hj => ?_⟩
    have e2 : nth l j = l[j] := by simp [nth, List.getD_eq_getElem?_getD, show j < l.length by omega]
    rw [← e2]; simpa using hn j hj
  simp [findF, this]
theorem findF_none {l : List En} {n : Int} (hn : ∀ j, j < l.length → (nth l j).id ≠ n) : findF l n = -1 := by
  have : l.findIdx? (fun x => decide (x.id = n)) = none := by
    rw [List.findIdx?_eq_none_iff]
    intro x hx
    obtain ⟨j, hj, rfl⟩ := List.getElem_of_mem hx
    have e2 : nth l j = l[j] := by simp [nth, List.getD_eq_getElem?_getD, hj]
    rw [← e2]; simpa using hn j hj
  simp [findF, this]
theorem findF_cases (l : List En) (n : Int) : (findF l n = -1 ∧ ∀ j, j < l.length → (nth l j).id ≠ n) ∨ ∃ i, i < l.length ∧ findF l n = i ∧ (nth l i).id = n ∧ ∀ j, j < i → (nth l j).id ≠ n := by
  by_cases h : ∃ i, i < l.length ∧ (nth l i).id = n
  · right
    obtain ⟨i, ⟨h1, h2⟩, h3⟩ := exists_least h
    have h4 : ∀ j, j < i → (nth l j).id ≠ n := fun j hj e => by have := h3 j ⟨by omega, e⟩; omega
    exact ⟨i, h1, findF_at h1 h2 h4, h2, h4⟩
  · left
    have h4 : ∀ j, j < l.length → (nth l j).id ≠ n := fun j hj e => h ⟨j, hj, e⟩
    exact ⟨findF_none h4, h4⟩
theorem findF_any (l : List En) (n : Int) : decide (0 ≤ findF l n) = l.any fun x => decide (x.id = n) := by
  rcases findF_cases l n with ⟨h1, h2⟩ | ⟨i, h1, h2, h3, _⟩
  · rw [h1]
    have : (l.any fun x => decide (x.id = n)) = false := by
      rw [Bool.eq_false_iff]; intro hh
      obtain ⟨x, hx, h3⟩ := List.any_eq_true.1 hh
      obtain ⟨j, hj, rfl⟩ := List.getElem_of_mem hx
      have e2 : nth l j = l[j] := by simp [nth, List.getD_eq_getElem?_getD, hj]
      exact h2 j hj (by rw [e2]; simpa using h3)
    rw [this]; rfl
  · rw [h2]
    have e : nth l i = l[i] := by simp [nth, List.getD_eq_getElem?_getD, h1]
    have : (l.any fun x => decide (x.id = n)) = true := List.any_eq_true.2 ⟨l[i], List.getElem_mem h1, by rw [← e]; simpa using h3⟩
    rw [this]; exact decide_eq_true (by omega)
set_option maxHeartbeats 4000000 in
theorem find_ok (l : List En) (n : Int) (hl : l.length ≤ 9223372036854775807) : Pure Try.prog 28 [avEs l, I64 n] (I64 (findF l n)) := by
  refine pure_of (n := 20) (res := [.tmp 4]) hT Try.func28 rfl rfl rfl Try.ntmps28 (Nat.le_of_ble_eq_true rfl) fun B w0 => ?_
  repeat' (first
    | ((first | refine aopsx_cons (by rfl) fun K' hK' => ?_ | refine aops_cons (by rfl) fun K' hK' => ?_); simp only [push_cast, reduceIte, reduceCtorEq, Nat.reduceEqDiff, Nat.reduceLT, Nat.reduceLeDiff, Nat.reduceAdd, Nat.reduceMul, Nat.reduceMod, Nat.reduceDiv, Nat.reduceSub, Int.reduceToNat]; (try simp (disch := omega) only [wrap64, Int.toNat_natCast]); (repeat refine and_rev ?_ ?_); (first | refine hK' _ ?_ | (refine ⟨.v (.int .i64 0), ?_⟩; refine hK' _ ?_)); clear hK' K')
    | (refine aopsx_skip (by rfl) (by rfl) (by simp only [dstOk, Nat.reduceLT]) ?_; simp only [St.put])
    | ((first | refine aopsx_nil ?_ | refine aops_nil ?_); first | (refine hKs _ ?_; clear hKs K) | (refine hKr _ ?_; clear hKr K; simp only [push_cast, reduceIte, reduceCtorEq, Nat.reduceEqDiff, Nat.reduceLT, Nat.reduceLeDiff, Nat.reduceAdd, Nat.reduceMul, Nat.reduceMod, Nat.reduceDiv, Nat.reduceSub, Int.reduceToNat]))
    | refine awp_xseq hT fun K hKs => ?_ | refine awp_x hT fun K hKr => ?_ | refine awp_dseq hT hm (by decide +kernel) fun K hKs => ?_ | refine awp_d hT hm (by decide +kernel) fun K hKr => ?_
    | refine awp_block ?_ | refine awp_scope ?_ | refine awp_seq ?_ | ((first | refine awp_label ?_ | refine awp_skip ?_ | refine awp_exit ?_ | refine awp_ret ?_); simp only [push_cast, reduceIte, reduceCtorEq, Nat.reduceEqDiff, Nat.reduceLT, Nat.reduceLeDiff, Nat.reduceAdd, Nat.reduceMul, Nat.reduceMod, Nat.reduceDiv, Nat.reduceSub, Int.reduceToNat])
    | (refine awp_cond _ rfl (fun h => ?_) (fun h => ?_) <;> simp only [bh, decide_eq_true_eq, decide_eq_false_iff_not, eq_self, not_true_eq_false, not_false_eq_true, reduceCtorEq, Bool.true_eq_false, Bool.false_eq_true, bne_self_eq_false, beq_self_eq_true] at h))
  all_goals first | omega | exact (fun hh => hh) | (simp only [List.length_take, List.length_drop, List.length_append, List.length_map, List.length_cons, List.length_nil, List.length_replicate, List.length_set]; omega) | (intro hh; (try simp only [hh, Bool.not_false, Bool.not_true, Bool.true_and, Bool.and_true, eq_self, true_and, and_true]); (try simp only [bh, decide_eq_true_eq, decide_eq_false_iff_not] at hh); (first | done | omega | (simp only [List.length_take, List.length_drop, List.length_append, List.length_map, List.length_cons, List.length_nil, List.length_replicate, List.length_set]; omega))) | (intro hh; simp only [hh, Bool.not_false, Bool.not_true, Bool.true_and, Bool.and_true, eq_self, true_and, and_true]; intro h2; simp only [h2, Bool.not_false, Bool.not_true]; done) | (exact rfl) | skip
  refine awp_loop (α := Nat) (fun i => ⟨[(0, avEs l), (1, I64 n), (5, I64 i)], []⟩) (fun i => i ≤ l.length ∧ ∀ j, j < i → (nth l j).id ≠ n) (fun i => l.length - i) 0 ⟨Nat.zero_le _, fun j hj => by omega⟩ (G.wk ⟨rfl, rfl, rfl, trivial⟩ trivial) fun i hi => ?_
  obtain ⟨hi, hall⟩ := hi
  by_cases hlt : i < l.length
  · have bl : decide ((i : Int) < (l.length : Int)) = true := decide_eq_true (by omega)
    repeat' (first
    | ((first | refine aopsx_cons (by rfl) fun K' hK' => ?_ | refine aops_cons (by rfl) fun K' hK' => ?_); simp only [push_cast, reduceIte, reduceCtorEq, Nat.reduceEqDiff, Nat.reduceLT, Nat.reduceLeDiff, Nat.reduceAdd, Nat.reduceMul, Nat.reduceMod, Nat.reduceDiv, Nat.reduceSub, Int.reduceToNat, bl]; (try simp (disch := omega) only [wrap64, Int.toNat_natCast]); (repeat refine and_rev ?_ ?_); (first | refine hK' _ ?_ | (refine ⟨.v (.int .i64 0), ?_⟩; refine hK' _ ?_)); clear hK' K')
    | (refine aopsx_skip (by rfl) (by rfl) (by simp only [dstOk, Nat.reduceLT]) ?_; simp only [St.put])
    | ((first | refine aopsx_nil ?_ | refine aops_nil ?_); first | (refine hKs _ ?_; clear hKs K) | (refine hKr _ ?_; clear hKr K; simp only [push_cast, reduceIte, reduceCtorEq, Nat.reduceEqDiff, Nat.reduceLT, Nat.reduceLeDiff, Nat.reduceAdd, Nat.reduceMul, Nat.reduceMod, Nat.reduceDiv, Nat.reduceSub, Int.reduceToNat]))
    | refine awp_xseq hT fun K hKs => ?_ | refine awp_x hT fun K hKr => ?_ | refine awp_dseq hT hm (by decide +kernel) fun K hKs => ?_ | refine awp_d hT hm (by decide +kernel) fun K hKr => ?_
    | refine awp_block ?_ | refine awp_scope ?_ | refine awp_seq ?_ | ((first | refine awp_label ?_ | refine awp_skip ?_ | refine awp_exit ?_ | refine awp_ret ?_); simp only [push_cast, reduceIte, reduceCtorEq, Nat.reduceEqDiff, Nat.reduceLT, Nat.reduceLeDiff, Nat.reduceAdd, Nat.reduceMul, Nat.reduceMod, Nat.reduceDiv, Nat.reduceSub, Int.reduceToNat])
    | (refine awp_cond _ rfl (fun h => ?_) (fun h => ?_) <;> simp only [bh, decide_eq_true_eq, decide_eq_false_iff_not, eq_self, not_true_eq_false, not_false_eq_true, reduceCtorEq, Bool.true_eq_false, Bool.false_eq_true, bne_self_eq_false, beq_self_eq_true] at h))
    all_goals first | omega | exact (fun hh => hh) | (simp only [List.length_take, List.length_drop, List.length_append, List.length_map, List.length_cons, List.length_nil, List.length_replicate, List.length_set]; omega) | (intro hh; (try simp only [hh, Bool.not_false, Bool.not_true, Bool.true_and, Bool.and_true, eq_self, true_and, and_true]); (try simp only [bh, decide_eq_true_eq, decide_eq_false_iff_not] at hh); (first | done | omega | (simp only [List.length_take, List.length_drop, List.length_append, List.length_map, List.length_cons, List.length_nil, List.length_replicate, List.length_set]; omega))) | (intro hh; simp only [hh, Bool.not_false, Bool.not_true, Bool.true_and, Bool.and_true, eq_self, true_and, and_true]; intro h2; simp only [h2, Bool.not_false, Bool.not_true]; done) | (exact rfl) | skip
    · rw [findF_at hlt h hall]
    · exact ⟨i + 1, ⟨⟨by show i + 1 ≤ _; omega, fun j hj => by
            by_cases e : j = i
            · subst e; exact h
            · exact hall j (by have : j < i + 1 := hj; omega)⟩, by show _ - (i + 1) < _ - i; omega⟩, G.wk ⟨rfl, rfl, rfl, trivial⟩ trivial⟩
  · obtain rfl : i = l.length := by omega
    have bl : decide ((l.length : Int) < (l.length : Int)) = false := decide_eq_false (by omega)
    rw [findF_none hall]
    repeat' (first
    | ((first | refine aopsx_cons (by rfl) fun K' hK' => ?_ | refine aops_cons (by rfl) fun K' hK' => ?_); simp only [push_cast, reduceIte, reduceCtorEq, Nat.reduceEqDiff, Nat.reduceLT, Nat.reduceLeDiff, Nat.reduceAdd, Nat.reduceMul, Nat.reduceMod, Nat.reduceDiv, Nat.reduceSub, Int.reduceToNat, bl]; (try simp (disch := omega) only [wrap64, Int.toNat_natCast]); (repeat refine and_rev ?_ ?_); (first | refine hK' _ ?_ | (refine ⟨.v (.int .i64 0), ?_⟩; refine hK' _ ?_)); clear hK' K')
    | (refine aopsx_skip (by rfl) (by rfl) (by simp only [dstOk, Nat.reduceLT]) ?_; simp only [St.put])
    | ((first | refine aopsx_nil ?_ | refine aops_nil ?_); first | (refine hKs _ ?_; clear hKs K) | (refine hKr _ ?_; clear hKr K; simp only [push_cast, reduceIte, reduceCtorEq, Nat.reduceEqDiff, Nat.reduceLT, Nat.reduceLeDiff, Nat.reduceAdd, Nat.reduceMul, Nat.reduceMod, Nat.reduceDiv, Nat.reduceSub, Int.reduceToNat]))
    | refine awp_xseq hT fun K hKs => ?_ | refine awp_x hT fun K hKr => ?_ | refine awp_dseq hT hm (by decide +kernel) fun K hKs => ?_ | refine awp_d hT hm (by decide +kernel) fun K hKr => ?_
    | refine awp_block ?_ | refine awp_scope ?_ | refine awp_seq ?_ | ((first | refine awp_label ?_ | refine awp_skip ?_ | refine awp_exit ?_ | refine awp_ret ?_); simp only [push_cast, reduceIte, reduceCtorEq, Nat.reduceEqDiff, Nat.reduceLT, Nat.reduceLeDiff, Nat.reduceAdd, Nat.reduceMul, Nat.reduceMod, Nat.reduceDiv, Nat.reduceSub, Int.reduceToNat])
    | (refine awp_cond _ rfl (fun h => ?_) (fun h => ?_) <;> simp only [bh, decide_eq_true_eq, decide_eq_false_iff_not, eq_self, not_true_eq_false, not_false_eq_true, reduceCtorEq, Bool.true_eq_false, Bool.false_eq_true, bne_self_eq_false, beq_self_eq_true] at h))
    all_goals first | omega | exact (fun hh => hh) | (simp only [List.length_take, List.length_drop, List.length_append, List.length_map, List.length_cons, List.length_nil, List.length_replicate, List.length_set]; omega) | (intro hh; (try simp only [hh, Bool.not_false, Bool.not_true, Bool.true_and, Bool.and_true, eq_self, true_and, and_true]); (try simp only [bh, decide_eq_true_eq, decide_eq_false_iff_not] at hh); (first | done | omega | (simp only [List.length_take, List.length_drop, List.length_append, List.length_map, List.length_cons, List.length_nil, List.length_replicate, List.length_set]; omega))) | (intro hh; simp only [hh, Bool.not_false, Bool.not_true, Bool.true_and, Bool.and_true, eq_self, true_and, and_true]; intro h2; simp only [h2, Bool.not_false, Bool.not_true]; done) | (exact rfl) | skip
theorem sub_take (l : List En) (i : Nat) (h : i ≤ l.length) : Sub (.i false (fun e j => (avE (l.getD e default)).getD j .top) 6 0 i) (avEs (l.take i)) :=
  sub_slice (by simp; omega) (fun e j he hj => by
    have : (l.take i).getD (0 + e) default = l.getD (0 + e) default := by
      simp only [List.getD_eq_getElem?_getD, Nat.zero_add]
      rw [List.getElem?_take_of_lt he]
    rw [this])
set_option maxHeartbeats 16000000 in
theorem rvalid_ok (l : List En) (hl : okL l) : Pure Try.prog 15 [.a (avL l)] (BL (validB l)) := by
  refine pure_of (n := 50) (res := [.tmp 2]) hT Try.func15 rfl rfl rfl Try.ntmps15 (Nat.le_of_ble_eq_true rfl) fun B w0 => ?_
  by_cases h20 : l.length ≤ 2000
  · have b0 : decide ((2000 : Int) < (l.length : Int)) = false := decide_eq_false (by omega)
    repeat' (first
    | ((first | refine aopss_cons hT (by rfl) fun K' hK' => ?_ | refine aops_cons (by rfl) fun K' hK' => ?_); simp only [push_cast, reduceIte, reduceCtorEq, Nat.reduceEqDiff, Nat.reduceLT, Nat.reduceLeDiff, Nat.reduceAdd, Nat.reduceMul, Nat.reduceMod, Nat.reduceDiv, Nat.reduceSub, Int.reduceToNat, b0]; (try simp (disch := omega) only [wrap64, Int.toNat_natCast]); (repeat refine and_rev ?_ ?_); (first | refine hK' _ ?_ | (refine ⟨.v (.int .i64 0), ?_⟩; refine hK' _ ?_)); clear hK' K')
    | (refine aopss_upd hT rfl fun K' hK' => ?_; simp only [push_cast, reduceIte, reduceCtorEq, Nat.reduceEqDiff, Nat.reduceLT, Nat.reduceLeDiff, Nat.reduceAdd, Nat.reduceMul, Nat.reduceMod, Nat.reduceDiv, Nat.reduceSub, Int.reduceToNat, b0]; (try simp (disch := omega) only [wrap64, Int.toNat_natCast]); (repeat refine and_rev ?_ ?_); refine hK' _ ?_; clear hK' K')
    | (refine aopss_map T rfl (by simp only [dstOk, Nat.reduceLT]) fun K' hK' => ?_; simp only [push_cast, reduceIte, reduceCtorEq, Nat.reduceEqDiff, Nat.reduceLT, Nat.reduceLeDiff, Nat.reduceAdd, Nat.reduceMul, Nat.reduceMod, Nat.reduceDiv, Nat.reduceSub, Int.reduceToNat, b0]; refine hK' _ ?_; clear hK' K')
    | (refine aopss_skip hT (by rfl) (by rfl) (by simp only [dstOk, Nat.reduceLT]) ?_; simp only [St.put])
    | ((first | refine aopss_nil ?_ | refine aops_nil ?_); first | (refine hKs _ ?_; clear hKs K) | (refine hKr _ ?_; clear hKr K; simp only [push_cast, reduceIte, reduceCtorEq, Nat.reduceEqDiff, Nat.reduceLT, Nat.reduceLeDiff, Nat.reduceAdd, Nat.reduceMul, Nat.reduceMod, Nat.reduceDiv, Nat.reduceSub, Int.reduceToNat]))
    | refine awp_sseq fun K hKs => ?_ | refine awp_s fun K hKr => ?_ | refine awp_dseq hT hm (by decide +kernel) fun K hKs => ?_ | refine awp_d hT hm (by decide +kernel) fun K hKr => ?_
    | refine awp_block ?_ | refine awp_scope ?_ | refine awp_seq ?_ | ((first | refine awp_label ?_ | refine awp_skip ?_ | refine awp_exit ?_ | refine awp_ret ?_); simp only [push_cast, reduceIte, reduceCtorEq, Nat.reduceEqDiff, Nat.reduceLT, Nat.reduceLeDiff, Nat.reduceAdd, Nat.reduceMul, Nat.reduceMod, Nat.reduceDiv, Nat.reduceSub, Int.reduceToNat])
    | (refine awp_cond _ rfl (fun h => ?_) (fun h => ?_) <;> simp only [bh, decide_eq_true_eq, decide_eq_false_iff_not, eq_self, not_true_eq_false, not_false_eq_true, reduceCtorEq, Bool.true_eq_false, Bool.false_eq_true, bne_self_eq_false, beq_self_eq_true] at h))
    all_goals first | omega | exact (fun hh => hh) | (simp only [List.length_take, List.length_drop, List.length_append, List.length_map, List.length_cons, List.length_nil, List.length_replicate, List.length_set]; omega) | (intro hh; (try simp only [hh, Bool.not_false, Bool.not_true, Bool.true_and, Bool.and_true, eq_self, true_and, and_true]); (try simp only [bh, decide_eq_true_eq, decide_eq_false_iff_not] at hh); (first | done | omega | (simp only [List.length_take, List.length_drop, List.length_append, List.length_map, List.length_cons, List.length_nil, List.length_replicate, List.length_set]; omega))) | (intro hh; simp only [hh, Bool.not_false, Bool.not_true, Bool.true_and, Bool.and_true, eq_self, true_and, and_true]; intro h2; simp only [h2, Bool.not_false, Bool.not_true]; done) | (exact rfl) | skip
    refine awp_loop (α := Nat) (fun i => ⟨[(1, .p 1 0), (3, I64 i)], [(1, .box 24 (.avs [avEs l]))]⟩) (fun i => i ≤ l.length ∧ ∀ j, j < i → okAt l j = true) (fun i => l.length - i) 0 ⟨Nat.zero_le _, fun j hj => by omega⟩ (G.wk ⟨rfl, rfl, trivial⟩ ⟨rfl, trivial⟩) fun i hi => ?_
    obtain ⟨hi, hall⟩ := hi
    by_cases hlt : i < l.length
    · have bl : decide ((i : Int) < (l.length : Int)) = true := decide_eq_true (by omega)
      have hoe := okE_nth hl hlt
      have hfi := (find_ok (l.take i) (nth l i).id (by rw [List.length_take]; omega)).sub (xs := [.i false (fun e j => (avE (l.getD e default)).getD j .top) 6 0 i, I64 (nth l i).id]) ⟨sub_take l i hi, Sub.refl _, trivial⟩
      repeat' (first
    | ((first | refine aopss_cons hT (by rfl) fun K' hK' => ?_ | refine aops_cons (by rfl) fun K' hK' => ?_); simp only [push_cast, reduceIte, reduceCtorEq, Nat.reduceEqDiff, Nat.reduceLT, Nat.reduceLeDiff, Nat.reduceAdd, Nat.reduceMul, Nat.reduceMod, Nat.reduceDiv, Nat.reduceSub, Int.reduceToNat, bl, findF_any]; (try simp (disch := omega) only [wrap64, Int.toNat_natCast]); (repeat refine and_rev ?_ ?_); (first | refine hK' _ ?_ | ((first | refine ⟨_, ⟨(by first | exact formed_ok _ hoe | exact hfi), (by first | exact .inr rfl | exact .inl (by simp [AV.fresh, AV.freshL]))⟩, ?_⟩ | refine ⟨_, fun hb => ⟨(by first | exact formed_ok _ hoe | exact hfi), (by first | exact .inr rfl | exact .inl (by simp [AV.fresh, AV.freshL]))⟩, ?_⟩ | refine ⟨_, fun hb => ⟨(by first | exact hb | exact ⟨hb, hb⟩ | exact ⟨hb, hb, hb⟩ | exact ⟨hb, hb, hb, hb⟩ | (simp only [hb, true_and, and_true, Bool.and_true, Bool.true_and]; done)), (by first | exact formed_ok _ hoe | exact hfi), (by first | exact .inr rfl | exact .inl (by simp [AV.fresh, AV.freshL]))⟩, ?_⟩); (try simp only [push_cast, reduceIte, reduceCtorEq, Nat.reduceEqDiff, Nat.reduceLT, Nat.reduceLeDiff, Nat.reduceAdd, Nat.reduceMul, Nat.reduceMod, Nat.reduceDiv, Nat.reduceSub, Int.reduceToNat, bl, findF_any]); (try simp (disch := omega) only [wrap64, Int.toNat_natCast]); (repeat refine and_rev ?_ ?_); refine hK' _ ?_) | (refine ⟨.v (.int .i64 0), ?_⟩; refine hK' _ ?_)); clear hK' K')
    | (refine aopss_upd hT rfl fun K' hK' => ?_; simp only [push_cast, reduceIte, reduceCtorEq, Nat.reduceEqDiff, Nat.reduceLT, Nat.reduceLeDiff, Nat.reduceAdd, Nat.reduceMul, Nat.reduceMod, Nat.reduceDiv, Nat.reduceSub, Int.reduceToNat, bl, findF_any]; (try simp (disch := omega) only [wrap64, Int.toNat_natCast]); (repeat refine and_rev ?_ ?_); refine hK' _ ?_; clear hK' K')
    | (refine aopss_map T rfl (by simp only [dstOk, Nat.reduceLT]) fun K' hK' => ?_; simp only [push_cast, reduceIte, reduceCtorEq, Nat.reduceEqDiff, Nat.reduceLT, Nat.reduceLeDiff, Nat.reduceAdd, Nat.reduceMul, Nat.reduceMod, Nat.reduceDiv, Nat.reduceSub, Int.reduceToNat, bl, findF_any]; refine hK' _ ?_; clear hK' K')
    | (refine aopss_skip hT (by rfl) (by rfl) (by simp only [dstOk, Nat.reduceLT]) ?_; simp only [St.put])
    | ((first | refine aopss_nil ?_ | refine aops_nil ?_); first | (refine hKs _ ?_; clear hKs K) | (refine hKr _ ?_; clear hKr K; simp only [push_cast, reduceIte, reduceCtorEq, Nat.reduceEqDiff, Nat.reduceLT, Nat.reduceLeDiff, Nat.reduceAdd, Nat.reduceMul, Nat.reduceMod, Nat.reduceDiv, Nat.reduceSub, Int.reduceToNat]))
    | refine awp_sseq fun K hKs => ?_ | refine awp_s fun K hKr => ?_ | refine awp_dseq hT hm (by decide +kernel) fun K hKs => ?_ | refine awp_d hT hm (by decide +kernel) fun K hKr => ?_
    | refine awp_block ?_ | refine awp_scope ?_ | refine awp_seq ?_ | ((first | refine awp_label ?_ | refine awp_skip ?_ | refine awp_exit ?_ | refine awp_ret ?_); simp only [push_cast, reduceIte, reduceCtorEq, Nat.reduceEqDiff, Nat.reduceLT, Nat.reduceLeDiff, Nat.reduceAdd, Nat.reduceMul, Nat.reduceMod, Nat.reduceDiv, Nat.reduceSub, Int.reduceToNat])
    | (refine awp_cond _ rfl (fun h => ?_) (fun h => ?_) <;> simp only [bh, decide_eq_true_eq, decide_eq_false_iff_not, eq_self, not_true_eq_false, not_false_eq_true, reduceCtorEq, Bool.true_eq_false, Bool.false_eq_true, bne_self_eq_false, beq_self_eq_true] at h))
      all_goals first | omega | exact (fun hh => hh) | (simp only [List.length_take, List.length_drop, List.length_append, List.length_map, List.length_cons, List.length_nil, List.length_replicate, List.length_set]; omega) | (intro hh; (try simp only [hh, Bool.not_false, Bool.not_true, Bool.true_and, Bool.and_true, eq_self, true_and, and_true]); (try simp only [bh, decide_eq_true_eq, decide_eq_false_iff_not] at hh); (first | done | omega | (simp only [List.length_take, List.length_drop, List.length_append, List.length_map, List.length_cons, List.length_nil, List.length_replicate, List.length_set]; omega))) | (intro hh; simp only [hh, Bool.not_false, Bool.not_true, Bool.true_and, Bool.and_true, eq_self, true_and, and_true]; intro h2; simp only [h2, Bool.not_false, Bool.not_true]; done) | (exact rfl) | skip
      · rw [validB_false_at hlt (okAt_bad h)]
      · exact ⟨i + 1, ⟨⟨by show i + 1 ≤ _; omega, fun j hj => by
            by_cases e : j = i
            · subst e; exact okAt_good h
            · exact hall j (by have : j < i + 1 := hj; omega)⟩, by show _ - (i + 1) < _ - i; omega⟩, G.wk ⟨rfl, rfl, trivial⟩ ⟨rfl, trivial⟩⟩
    · obtain rfl : i = l.length := by omega
      have bl : decide ((l.length : Int) < (l.length : Int)) = false := decide_eq_false (by omega)
      have en : validB l = true := validB_true h20 hall
      rw [en]
      repeat' (first
    | ((first | refine aopss_cons hT (by rfl) fun K' hK' => ?_ | refine aops_cons (by rfl) fun K' hK' => ?_); simp only [push_cast, reduceIte, reduceCtorEq, Nat.reduceEqDiff, Nat.reduceLT, Nat.reduceLeDiff, Nat.reduceAdd, Nat.reduceMul, Nat.reduceMod, Nat.reduceDiv, Nat.reduceSub, Int.reduceToNat, bl]; (try simp (disch := omega) only [wrap64, Int.toNat_natCast]); (repeat refine and_rev ?_ ?_); (first | refine hK' _ ?_ | (refine ⟨.v (.int .i64 0), ?_⟩; refine hK' _ ?_)); clear hK' K')
    | (refine aopss_upd hT rfl fun K' hK' => ?_; simp only [push_cast, reduceIte, reduceCtorEq, Nat.reduceEqDiff, Nat.reduceLT, Nat.reduceLeDiff, Nat.reduceAdd, Nat.reduceMul, Nat.reduceMod, Nat.reduceDiv, Nat.reduceSub, Int.reduceToNat, bl]; (try simp (disch := omega) only [wrap64, Int.toNat_natCast]); (repeat refine and_rev ?_ ?_); refine hK' _ ?_; clear hK' K')
    | (refine aopss_map T rfl (by simp only [dstOk, Nat.reduceLT]) fun K' hK' => ?_; simp only [push_cast, reduceIte, reduceCtorEq, Nat.reduceEqDiff, Nat.reduceLT, Nat.reduceLeDiff, Nat.reduceAdd, Nat.reduceMul, Nat.reduceMod, Nat.reduceDiv, Nat.reduceSub, Int.reduceToNat, bl]; refine hK' _ ?_; clear hK' K')
    | (refine aopss_skip hT (by rfl) (by rfl) (by simp only [dstOk, Nat.reduceLT]) ?_; simp only [St.put])
    | ((first | refine aopss_nil ?_ | refine aops_nil ?_); first | (refine hKs _ ?_; clear hKs K) | (refine hKr _ ?_; clear hKr K; simp only [push_cast, reduceIte, reduceCtorEq, Nat.reduceEqDiff, Nat.reduceLT, Nat.reduceLeDiff, Nat.reduceAdd, Nat.reduceMul, Nat.reduceMod, Nat.reduceDiv, Nat.reduceSub, Int.reduceToNat]))
    | refine awp_sseq fun K hKs => ?_ | refine awp_s fun K hKr => ?_ | refine awp_dseq hT hm (by decide +kernel) fun K hKs => ?_ | refine awp_d hT hm (by decide +kernel) fun K hKr => ?_
    | refine awp_block ?_ | refine awp_scope ?_ | refine awp_seq ?_ | ((first | refine awp_label ?_ | refine awp_skip ?_ | refine awp_exit ?_ | refine awp_ret ?_); simp only [push_cast, reduceIte, reduceCtorEq, Nat.reduceEqDiff, Nat.reduceLT, Nat.reduceLeDiff, Nat.reduceAdd, Nat.reduceMul, Nat.reduceMod, Nat.reduceDiv, Nat.reduceSub, Int.reduceToNat])
    | (refine awp_cond _ rfl (fun h => ?_) (fun h => ?_) <;> simp only [bh, decide_eq_true_eq, decide_eq_false_iff_not, eq_self, not_true_eq_false, not_false_eq_true, reduceCtorEq, Bool.true_eq_false, Bool.false_eq_true, bne_self_eq_false, beq_self_eq_true] at h))
      all_goals first | omega | exact (fun hh => hh) | (simp only [List.length_take, List.length_drop, List.length_append, List.length_map, List.length_cons, List.length_nil, List.length_replicate, List.length_set]; omega) | (intro hh; (try simp only [hh, Bool.not_false, Bool.not_true, Bool.true_and, Bool.and_true, eq_self, true_and, and_true]); (try simp only [bh, decide_eq_true_eq, decide_eq_false_iff_not] at hh); (first | done | omega | (simp only [List.length_take, List.length_drop, List.length_append, List.length_map, List.length_cons, List.length_nil, List.length_replicate, List.length_set]; omega))) | (intro hh; simp only [hh, Bool.not_false, Bool.not_true, Bool.true_and, Bool.and_true, eq_self, true_and, and_true]; intro h2; simp only [h2, Bool.not_false, Bool.not_true]; done) | (exact rfl) | skip
  · have b0 : decide ((2000 : Int) < (l.length : Int)) = true := decide_eq_true (by omega)
    have en : validB l = false := by simp [validB, h20]
    rw [en]
    repeat' (first
    | ((first | refine aopss_cons hT (by rfl) fun K' hK' => ?_ | refine aops_cons (by rfl) fun K' hK' => ?_); simp only [push_cast, reduceIte, reduceCtorEq, Nat.reduceEqDiff, Nat.reduceLT, Nat.reduceLeDiff, Nat.reduceAdd, Nat.reduceMul, Nat.reduceMod, Nat.reduceDiv, Nat.reduceSub, Int.reduceToNat, b0]; (try simp (disch := omega) only [wrap64, Int.toNat_natCast]); (repeat refine and_rev ?_ ?_); (first | refine hK' _ ?_ | (refine ⟨.v (.int .i64 0), ?_⟩; refine hK' _ ?_)); clear hK' K')
    | (refine aopss_upd hT rfl fun K' hK' => ?_; simp only [push_cast, reduceIte, reduceCtorEq, Nat.reduceEqDiff, Nat.reduceLT, Nat.reduceLeDiff, Nat.reduceAdd, Nat.reduceMul, Nat.reduceMod, Nat.reduceDiv, Nat.reduceSub, Int.reduceToNat, b0]; (try simp (disch := omega) only [wrap64, Int.toNat_natCast]); (repeat refine and_rev ?_ ?_); refine hK' _ ?_; clear hK' K')
    | (refine aopss_map T rfl (by simp only [dstOk, Nat.reduceLT]) fun K' hK' => ?_; simp only [push_cast, reduceIte, reduceCtorEq, Nat.reduceEqDiff, Nat.reduceLT, Nat.reduceLeDiff, Nat.reduceAdd, Nat.reduceMul, Nat.reduceMod, Nat.reduceDiv, Nat.reduceSub, Int.reduceToNat, b0]; refine hK' _ ?_; clear hK' K')
    | (refine aopss_skip hT (by rfl) (by rfl) (by simp only [dstOk, Nat.reduceLT]) ?_; simp only [St.put])
    | ((first | refine aopss_nil ?_ | refine aops_nil ?_); first | (refine hKs _ ?_; clear hKs K) | (refine hKr _ ?_; clear hKr K; simp only [push_cast, reduceIte, reduceCtorEq, Nat.reduceEqDiff, Nat.reduceLT, Nat.reduceLeDiff, Nat.reduceAdd, Nat.reduceMul, Nat.reduceMod, Nat.reduceDiv, Nat.reduceSub, Int.reduceToNat]))
    | refine awp_sseq fun K hKs => ?_ | refine awp_s fun K hKr => ?_ | refine awp_dseq hT hm (by decide +kernel) fun K hKs => ?_ | refine awp_d hT hm (by decide +kernel) fun K hKr => ?_
    | refine awp_block ?_ | refine awp_scope ?_ | refine awp_seq ?_ | ((first | refine awp_label ?_ | refine awp_skip ?_ | refine awp_exit ?_ | refine awp_ret ?_); simp only [push_cast, reduceIte, reduceCtorEq, Nat.reduceEqDiff, Nat.reduceLT, Nat.reduceLeDiff, Nat.reduceAdd, Nat.reduceMul, Nat.reduceMod, Nat.reduceDiv, Nat.reduceSub, Int.reduceToNat])
    | (refine awp_cond _ rfl (fun h => ?_) (fun h => ?_) <;> simp only [bh, decide_eq_true_eq, decide_eq_false_iff_not, eq_self, not_true_eq_false, not_false_eq_true, reduceCtorEq, Bool.true_eq_false, Bool.false_eq_true, bne_self_eq_false, beq_self_eq_true] at h))
    all_goals first | omega | exact (fun hh => hh) | (simp only [List.length_take, List.length_drop, List.length_append, List.length_map, List.length_cons, List.length_nil, List.length_replicate, List.length_set]; omega) | (intro hh; (try simp only [hh, Bool.not_false, Bool.not_true, Bool.true_and, Bool.and_true, eq_self, true_and, and_true]); (try simp only [bh, decide_eq_true_eq, decide_eq_false_iff_not] at hh); (first | done | omega | (simp only [List.length_take, List.length_drop, List.length_append, List.length_map, List.length_cons, List.length_nil, List.length_replicate, List.length_set]; omega))) | (intro hh; simp only [hh, Bool.not_false, Bool.not_true, Bool.true_and, Bool.and_true, eq_self, true_and, and_true]; intro h2; simp only [h2, Bool.not_false, Bool.not_true]; done) | (exact rfl) | skip
end Go.Proofs.Ytjilboaofggppaa
