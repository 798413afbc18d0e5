/- Part of a proof about the given program: contracts of its functions (see the comment of the last text). -/
import Derived.Test.YtpgipgmmakhlfaaShK
namespace Go.Proofs.Ytpgipgmmakhlfaa
open Go.Eng Go.Proofs Go.Proofs.Share
set_option linter.unusedSimpArgs false

theorem sumL_ge (l : List Int) (h : ∀ c ∈ l, 0 ≤ c) : ∀ k, k < l.length → l.getD k 0 ≤ sumL l := by
  induction l with
  | nil => intro k hk; simp at hk
  | cons c l ih =>
    intro k hk
    have h0 := h c (by simp)
    have hs := sum_getD_zero l (fun x hx => h x (by simp [hx]))
    cases k with
    | zero => simp [sumL]; omega
    | succ k =>
      have := ih (fun x hx => h x (by simp [hx])) k (by simpa using hk)
      simp only [sumL, List.getD_cons_succ]; omega
theorem mem_bound' {p l : List Int} (hl : p.length = l.length) (h0 : ∀ i, i < l.length → 0 ≤ p.getD i 0) (h1 : ∀ i, i < l.length → p.getD i 0 ≤ l.getD i 0) (m : Int) (h : ∀ c ∈ l, 0 ≤ c ∧ c ≤ m) : ∀ c ∈ p, 0 ≤ c ∧ c ≤ m := by
  intro c hc
  obtain ⟨i, hi, rfl⟩ := List.getElem_of_mem hc
  have hi' : i < l.length := by omega
  have e : p.getD i 0 = p[i] := by simp [List.getD_eq_getElem?_getD, hi]
  have a := h0 i hi'
  have b := h1 i hi'
  have d := (h _ (mem_getD hi')).2
  rw [e] at a b
  exact ⟨a, by omega⟩
theorem woF_mem {l : List Int} {k : Nat} {c : Int} (h : c ∈ woF l k) : c ∈ l := by
  unfold woF at h
  rcases List.mem_append.1 h with h | h
  · exact List.mem_of_mem_take h
  · exact List.mem_of_mem_drop h

set_option maxRecDepth 100000 in
set_option maxHeartbeats 8000000 in
theorem others_ok (total : Int) (claims : List Int) (which limit : Int) (ht : In64 total) (hcl : ∀ c ∈ claims, In64 c) (hw : In64 which) (hlim : In64 limit) : Pure Try.prog 7 [I64 total, ints claims, I64 which, I64 limit] (BL true) := by
  have hq := pickF_range limit 1000000 (by omega)
  generalize hqd : pickF limit 1000000 = q at hq
  have hamt := amtF_range claims (1 + q) (by omega)
  generalize hld : amtF claims (1 + q) = l at hamt
  obtain ⟨hl, hc'⟩ := hamt
  have hc : ∀ c ∈ l, 0 ≤ c ∧ c ≤ 1000000000000 := fun c h => by have := hc' c h; omega
  have hsb := sumL_bound l 1000000 (fun c h => by have := hc' c h; omega)
  have hs : 0 ≤ sumL l ∧ sumL l ≤ 64000000 := by omega
  have htr := pickF_range total (sumL l + 5) (by omega)
  generalize htd : pickF total (sumL l + 5) = t at htr
  have herr := errF_ok (t := t) hl hc (by omega) (by omega)
  obtain ⟨a, ha⟩ := DF.ex (total := t) hc (by omega) (by omega)
  have hal := ha.len
  have hab := mem_bound' ha.len ha.lo ha.hi _ hc
  refine pure_of (n := 84) (res := [.tmp 8]) hT Try.func7 rfl rfl rfl Try.ntmps7 (Nat.le_of_ble_eq_true rfl) fun B w0 => ?_
  by_cases hz : l.length = 0
  · have b0 : ((l.length : Int) == 0) = true := by simp [hz]
    repeat' (first
    | (refine aops_cons (by rfl) fun K' hK' => ?_; simp only [push_cast, reduceIte, reduceCtorEq, Nat.reduceEqDiff, Nat.reduceLT, Nat.reduceLeDiff, Nat.reduceAdd, Nat.reduceMul, Nat.reduceMod, Nat.reduceDiv, Nat.reduceSub, Int.reduceToNat, hqd, hld, b0]; (try simp (disch := omega) only [wrap64, Int.toNat_natCast]); (repeat refine and_rev ?_ ?_); (first | refine hK' _ ?_ | ((first | refine ⟨_, ⟨(by first | exact head_ok | exact pick_ok _ _ (by assumption) (by omega) (by omega) | exact amounts_ok claims _ hcl (by omega) (by omega)), (by first | exact .inr rfl | exact .inl (by simp [AV.fresh, AV.freshL]))⟩, ?_⟩ | refine ⟨_, fun hb => ⟨(by first | exact head_ok | exact pick_ok _ _ (by assumption) (by omega) (by omega) | exact amounts_ok claims _ hcl (by omega) (by omega)), (by first | exact .inr rfl | exact .inl (by simp [AV.fresh, AV.freshL]))⟩, ?_⟩); simp only [push_cast, reduceIte, reduceCtorEq, Nat.reduceEqDiff, Nat.reduceLT, Nat.reduceLeDiff, Nat.reduceAdd, Nat.reduceMul, Nat.reduceMod, Nat.reduceDiv, Nat.reduceSub, Int.reduceToNat, hqd, hld, b0]; (try simp (disch := omega) only [wrap64, Int.toNat_natCast]); (repeat refine and_rev ?_ ?_); refine hK' _ ?_) | ((first | refine ⟨[_], ⟨rfl, (fun j hj => rfl), (by first | omega | (simp only [List.length_take, List.length_drop, List.length_append, List.length_map, List.length_cons, List.length_nil, List.length_replicate, List.length_set]; omega)), (by first | omega | (simp only [List.length_take, List.length_drop, List.length_append, List.length_map, List.length_cons, List.length_nil, List.length_replicate, List.length_set]; omega))⟩, ?_⟩ | refine ⟨_, ⟨rfl, (fun j hj => rfl), (by first | omega | (simp only [List.length_take, List.length_drop, List.length_append, List.length_map, List.length_cons, List.length_nil, List.length_replicate, List.length_set]; omega)), (by first | omega | (simp only [List.length_take, List.length_drop, List.length_append, List.length_map, List.length_cons, List.length_nil, List.length_replicate, List.length_set]; omega))⟩, ?_⟩ | refine ⟨_, ⟨(by first | omega | (simp only [List.length_take, List.length_drop, List.length_append, List.length_map, List.length_cons, List.length_nil, List.length_replicate, List.length_set]; omega)), src_t _ _, (by first | omega | (simp only [List.length_take, List.length_drop, List.length_append, List.length_map, List.length_cons, List.length_nil, List.length_replicate, List.length_set]; omega)), (by first | omega | (simp only [List.length_take, List.length_drop, List.length_append, List.length_map, List.length_cons, List.length_nil, List.length_replicate, List.length_set]; omega))⟩, ?_⟩ | refine ⟨_, ⟨(by first | omega | (simp only [List.length_take, List.length_drop, List.length_append, List.length_map, List.length_cons, List.length_nil, List.length_replicate, List.length_set]; omega)), src_dt _ _ _, (by first | omega | (simp only [List.length_take, List.length_drop, List.length_append, List.length_map, List.length_cons, List.length_nil, List.length_replicate, List.length_set]; omega)), (by first | omega | (simp only [List.length_take, List.length_drop, List.length_append, List.length_map, List.length_cons, List.length_nil, List.length_replicate, List.length_set]; omega))⟩, ?_⟩); refine hK' _ ?_)); clear hK' K')
    | (refine aops_nil ?_; first | (refine hKs _ ?_; clear hKs K) | (refine hKr _ ?_; clear hKr K; simp only [Ex.then, Ex.inBlock, Ex.noGoto, EndsA, fin, resOf, retOf, lk, lkH, AV.cond, AV.strip, AV.pub, reduceIte, Nat.reduceEqDiff, true_and, and_true, List.map_cons, List.map_nil, Bool.and_false, Bool.and_true, I64, BL, ints, intsF]))
    | refine awp_rseq hT fun K hKs => ?_ | refine awp_r hT fun K hKr => ?_ | refine awp_dseq hT hm (by decide +kernel) fun K hKs => ?_ | refine awp_d hT hm (by decide +kernel) fun K hKr => ?_
    | refine awp_block ?_ | refine awp_scope ?_ | refine awp_seq ?_ | ((first | refine awp_label ?_ | refine awp_skip ?_ | refine awp_exit ?_ | refine awp_ret ?_); simp only [Ex.then, Ex.inBlock, Ex.noGoto, EndsA, fin, resOf, retOf, lk, lkH, AV.cond, AV.strip, AV.pub, reduceIte, Nat.reduceEqDiff, true_and, and_true, List.map_cons, List.map_nil, Bool.and_false, Bool.and_true, I64, BL, ints, intsF])
    | (refine awp_cond _ rfl (fun h => ?_) (fun h => ?_) <;> simp only [Bool.and_eq_true, Bool.or_eq_true, decide_eq_true_eq, Bool.and_eq_false_iff, Bool.or_eq_false_iff, decide_eq_false_iff_not, Int.not_lt, Int.not_le, beq_iff_eq, bne_iff_ne, beq_eq_false_iff_ne, ne_eq, Bool.not_eq_true', Bool.not_eq_false', bne_eq_false_iff_eq, eq_self, not_true_eq_false, not_false_eq_true, reduceCtorEq, Bool.true_eq_false, Bool.false_eq_true, bne_self_eq_false, beq_self_eq_true] at h))
    all_goals first | omega | skip
  · have hkr := pickF_range which l.length (by omega)
    obtain ⟨k, hkd⟩ : ∃ k : Nat, pickF which l.length = k := ⟨(pickF which l.length).toNat, by omega⟩
    have hk : k < l.length := by omega
    have b0 : ((l.length : Int) == 0) = false := by simp [hz]
    have hak := ha.lo k hk
    have hge := sumL_ge a (fun c h => (hab c h).1) k (by omega)
    have hsum := ha.sum
    have b1 : decide (t < a.getD k 0) = false := decide_eq_false (by omega)
    have b2 : ((a.length : Int) != (l.length : Int)) = false := by rw [hal]; simp
    have hwl := woF_length l k hk
    have hwa := woF_length a k (by omega)
    have herr2 := errF_ok (t := t - a.getD k 0) (l := woF l k) (by omega) (fun c h => hc c (woF_mem h)) (by omega) (by omega)
    have hb := ha.without hk
    repeat' (first
    | (refine aops_cons (by rfl) fun K' hK' => ?_; simp only [push_cast, reduceIte, reduceCtorEq, Nat.reduceEqDiff, Nat.reduceLT, Nat.reduceLeDiff, Nat.reduceAdd, Nat.reduceMul, Nat.reduceMod, Nat.reduceDiv, Nat.reduceSub, Int.reduceToNat, hqd, hld, htd, hkd, b0, b1, b2]; (try simp (disch := omega) only [wrap64, Int.toNat_natCast]); (repeat refine and_rev ?_ ?_); (first | refine hK' _ ?_ | ((first | refine ⟨_, ⟨(by first | exact head_ok | exact pick_ok _ _ (by assumption) (by omega) (by omega) | exact amounts_ok claims _ hcl (by omega) (by omega) | exact sumL_ok l hl hc | exact fair_ok t l a herr ha | exact fair_ok _ _ _ herr2 hb | exact without_ok l k (by omega) (by omega) | exact without_ok a k (by omega) (by omega) | exact same_true _ (by omega)), (by first | exact .inr rfl | exact .inl (by simp [AV.fresh, AV.freshL]))⟩, ?_⟩ | refine ⟨_, fun hb => ⟨(by first | exact head_ok | exact pick_ok _ _ (by assumption) (by omega) (by omega) | exact amounts_ok claims _ hcl (by omega) (by omega) | exact sumL_ok l hl hc | exact fair_ok t l a herr ha | exact fair_ok _ _ _ herr2 hb | exact without_ok l k (by omega) (by omega) | exact without_ok a k (by omega) (by omega) | exact same_true _ (by omega)), (by first | exact .inr rfl | exact .inl (by simp [AV.fresh, AV.freshL]))⟩, ?_⟩); simp only [push_cast, reduceIte, reduceCtorEq, Nat.reduceEqDiff, Nat.reduceLT, Nat.reduceLeDiff, Nat.reduceAdd, Nat.reduceMul, Nat.reduceMod, Nat.reduceDiv, Nat.reduceSub, Int.reduceToNat, hqd, hld, htd, hkd, b0, b1, b2]; (try simp (disch := omega) only [wrap64, Int.toNat_natCast]); (repeat refine and_rev ?_ ?_); refine hK' _ ?_) | ((first | refine ⟨[_], ⟨rfl, (fun j hj => rfl), (by first | omega | (simp only [List.length_take, List.length_drop, List.length_append, List.length_map, List.length_cons, List.length_nil, List.length_replicate, List.length_set]; omega)), (by first | omega | (simp only [List.length_take, List.length_drop, List.length_append, List.length_map, List.length_cons, List.length_nil, List.length_replicate, List.length_set]; omega))⟩, ?_⟩ | refine ⟨_, ⟨rfl, (fun j hj => rfl), (by first | omega | (simp only [List.length_take, List.length_drop, List.length_append, List.length_map, List.length_cons, List.length_nil, List.length_replicate, List.length_set]; omega)), (by first | omega | (simp only [List.length_take, List.length_drop, List.length_append, List.length_map, List.length_cons, List.length_nil, List.length_replicate, List.length_set]; omega))⟩, ?_⟩ | refine ⟨_, ⟨(by first | omega | (simp only [List.length_take, List.length_drop, List.length_append, List.length_map, List.length_cons, List.length_nil, List.length_replicate, List.length_set]; omega)), src_t _ _, (by first | omega | (simp only [List.length_take, List.length_drop, List.length_append, List.length_map, List.length_cons, List.length_nil, List.length_replicate, List.length_set]; omega)), (by first | omega | (simp only [List.length_take, List.length_drop, List.length_append, List.length_map, List.length_cons, List.length_nil, List.length_replicate, List.length_set]; omega))⟩, ?_⟩ | refine ⟨_, ⟨(by first | omega | (simp only [List.length_take, List.length_drop, List.length_append, List.length_map, List.length_cons, List.length_nil, List.length_replicate, List.length_set]; omega)), src_dt _ _ _, (by first | omega | (simp only [List.length_take, List.length_drop, List.length_append, List.length_map, List.length_cons, List.length_nil, List.length_replicate, List.length_set]; omega)), (by first | omega | (simp only [List.length_take, List.length_drop, List.length_append, List.length_map, List.length_cons, List.length_nil, List.length_replicate, List.length_set]; omega))⟩, ?_⟩); refine hK' _ ?_)); clear hK' K')
    | (refine aops_nil ?_; first | (refine hKs _ ?_; clear hKs K) | (refine hKr _ ?_; clear hKr K; simp only [Ex.then, Ex.inBlock, Ex.noGoto, EndsA, fin, resOf, retOf, lk, lkH, AV.cond, AV.strip, AV.pub, reduceIte, Nat.reduceEqDiff, true_and, and_true, List.map_cons, List.map_nil, Bool.and_false, Bool.and_true, I64, BL, ints, intsF]))
    | refine awp_rseq hT fun K hKs => ?_ | refine awp_r hT fun K hKr => ?_ | refine awp_dseq hT hm (by decide +kernel) fun K hKs => ?_ | refine awp_d hT hm (by decide +kernel) fun K hKr => ?_
    | refine awp_block ?_ | refine awp_scope ?_ | refine awp_seq ?_ | ((first | refine awp_label ?_ | refine awp_skip ?_ | refine awp_exit ?_ | refine awp_ret ?_); simp only [Ex.then, Ex.inBlock, Ex.noGoto, EndsA, fin, resOf, retOf, lk, lkH, AV.cond, AV.strip, AV.pub, reduceIte, Nat.reduceEqDiff, true_and, and_true, List.map_cons, List.map_nil, Bool.and_false, Bool.and_true, I64, BL, ints, intsF])
    | (refine awp_cond _ rfl (fun h => ?_) (fun h => ?_) <;> simp only [Bool.and_eq_true, Bool.or_eq_true, decide_eq_true_eq, Bool.and_eq_false_iff, Bool.or_eq_false_iff, decide_eq_false_iff_not, Int.not_lt, Int.not_le, beq_iff_eq, bne_iff_ne, beq_eq_false_iff_ne, ne_eq, Bool.not_eq_true', Bool.not_eq_false', bne_eq_false_iff_eq, eq_self, not_true_eq_false, not_false_eq_true, reduceCtorEq, Bool.true_eq_false, Bool.false_eq_true, bne_self_eq_false, beq_self_eq_true] at h))
    all_goals first | omega | skip
    all_goals trace_state
end Go.Proofs.Ytpgipgmmakhlfaa
