/- Part of a proof about the given program: contracts of its functions (see the comment of the last text). -/
import Derived.Test.YtgcomonjkcpkaaaPuQ
namespace Go.Proofs.Ytgcomonjkcpkaaa
open Go.Eng Go.Proofs
set_option linter.unusedSimpArgs false
set_option linter.unusedVariables false
attribute [local irreducible] AOps AOpsX AOps2 AOpsF AAny AWP zTab zFound zRow

theorem far_punch (p : Pn) (X : List Pn) : ∀ ms : List Mk, (∀ m ∈ ms, 240 ≤ costF m p) → 120 + D ms X ≤ D ms (p :: X)
  | [], _ => by rw [D_nil, D_nil, List.length_cons]; omega
  | m :: ms, h => by
    have h1 := far_punch p X ms fun m hm => h m (List.mem_cons_of_mem _ hm)
    have h2 := D_mark m ms X
    have h3 := h m (List.mem_cons_self ..)
    rw [D_cons]; omega
theorem far_mark (m : Mk) (Y : List Mk) : ∀ ps : List Pn, (∀ p ∈ ps, 240 ≤ costF m p) → 120 + D Y ps ≤ D (m :: Y) ps
  | [], _ => by rw [D_emp, D_emp, List.length_cons]; omega
  | p :: ps, h => by
    have h1 := far_mark m Y ps fun p hp => h p (List.mem_cons_of_mem _ hp)
    have h2 := D_punch Y p ps
    have h3 := h p (List.mem_cons_self ..)
    rw [D_cons]; omega
theorem D_split (ms2 : List Mk) (ps2 : List Pn) : ∀ (ms1 : List Mk) (ps1 : List Pn), (∀ m ∈ ms1, ∀ p ∈ ps2, 240 ≤ costF m p) → (∀ m ∈ ms2, ∀ p ∈ ps1, 240 ≤ costF m p) → D (ms1 ++ ms2) (ps1 ++ ps2) = D ms1 ps1 + D ms2 ps2
  | [], [], _, _ => by simp [D_nil]
  | [], p :: ps1, h1, h2 => by
    have ih := D_split ms2 ps2 [] ps1 h1 fun m hm p hp => h2 m hm p (List.mem_cons_of_mem _ hp)
    have e1 := far_punch p (ps1 ++ ps2) ms2 fun m hm => h2 m hm p (List.mem_cons_self ..)
    have e2 := D_punch ms2 p (ps1 ++ ps2)
    simp only [List.nil_append, List.cons_append, D_nil, List.length_cons] at *
    omega
  | m :: ms1, [], h1, h2 => by
    have ih := D_split ms2 ps2 ms1 [] (fun m hm => h1 m (List.mem_cons_of_mem _ hm)) h2
    have e1 := far_mark m (ms1 ++ ms2) ps2 fun p hp => h1 m (List.mem_cons_self ..) p hp
    have e2 := D_mark m (ms1 ++ ms2) ps2
    simp only [List.nil_append, List.cons_append, D_emp, List.length_cons] at *
    omega
  | m :: ms1, p :: ps1, h1, h2 => by
    have i1 := D_split ms2 ps2 ms1 (p :: ps1) (fun m hm => h1 m (List.mem_cons_of_mem _ hm)) h2
    have i2 := D_split ms2 ps2 (m :: ms1) ps1 h1 fun m hm p hp => h2 m hm p (List.mem_cons_of_mem _ hp)
    have i3 := D_split ms2 ps2 ms1 ps1 (fun m hm => h1 m (List.mem_cons_of_mem _ hm)) fun m hm p hp => h2 m hm p (List.mem_cons_of_mem _ hp)
    simp only [List.cons_append, D_cons] at *
    omega
termination_by ms1 ps1 => ms1.length + ps1.length
theorem marks_app : ∀ (a b : List Du) (k : Nat), marksF k (a ++ b) = marksF k a ++ marksF (k + a.length) b
  | [], b, k => by simp [marksF]
  | x :: r, b, k => by
    rw [List.cons_append, marksF, marks_app r b (k + 1), marksF, List.append_assoc, List.length_cons, show k + 1 + r.length = k + (r.length + 1) by omega]
theorem D_marks (ds : List Du) (ps : List Pn) (k k' : Nat) : D (marksF k ds) ps = D (marksF k' ds) ps := by
  refine D_congr (by rw [marks_len, marks_len]) rfl fun i j hi _ => ?_
  rw [marks_len] at hi
  unfold costF
  rw [marks_get ds k i hi, marks_get ds k' i hi, (marks_d ds k i hi).2, (marks_d ds k' i hi).2]
theorem mem_marks {ds : List Du} {k : Nat} {m : Mk} (h : m ∈ marksF k ds) : ∃ x ∈ ds, m.a = x.f ∨ m.a = x.t := by
  induction ds generalizing k with
  | nil => cases h
  | cons x r ih =>
    rw [marksF] at h
    rcases List.mem_append.1 h with h | h
    · refine ⟨x, List.mem_cons_self .., ?_⟩
      simp [mk2] at h
      rcases h with rfl | rfl
      · exact .inl rfl
      · exact .inr rfl
    · obtain ⟨y, hy, h⟩ := ih h
      exact ⟨y, List.mem_cons_of_mem _ hy, h⟩
theorem mem_getD {α : Type} [Inhabited α] {l : List α} {x : α} (h : x ∈ l) : ∃ i, i < l.length ∧ l.getD i default = x := by
  obtain ⟨i, hi, rfl⟩ := List.mem_iff_getElem.1 h
  exact ⟨i, hi, by simp [List.getD_eq_getElem?_getD, hi]⟩
theorem days_law {ds cs : List Du} {ps qs : List Pn} {last : Int} (h : usF ds ps = 0) (h' : usF cs qs = 0) (hl : ∀ i, i < ds.length → (ds.getD i default).t ≤ last) (hl2 : ∀ i, i < ps.length → (ps.getD i default).a ≤ last) :
    D (marksF 0 (ds ++ cs.map (movD (last + 241)))) (ps ++ qs.map (movP (last + 241))) = D (marksF 0 ds) ps + D (marksF 0 cs) qs := by
  obtain ⟨u1, u2, u3, u4, u5⟩ := us_zero h
  obtain ⟨v1, v2, v3, v4, v5⟩ := us_zero h'
  rw [marks_app, D_split]
  · congr 1
    rw [D_marks _ _ _ 0, marks_mov, D_mov]
  · intro m hm' p hp
    obtain ⟨x, hx, hxa⟩ := mem_marks hm'
    obtain ⟨i, hi, rfl⟩ := mem_getD hx
    obtain ⟨q, hq, rfl⟩ := List.mem_map.1 hp
    obtain ⟨j, hj, rfl⟩ := mem_getD hq
    have e1 := hl i hi
    have e2 := (u3 i hi).1
    have e3 := v4 j hj
    unfold VD at e2
    unfold costF movP
    simp only
    split <;> omega
  · intro m hm' p hp
    obtain ⟨x, hx, hxa⟩ := mem_marks hm'
    obtain ⟨y, hy, rfl⟩ := List.mem_map.1 hx
    obtain ⟨i, hi, rfl⟩ := mem_getD hy
    obtain ⟨j, hj, rfl⟩ := mem_getD hp
    have e1 := hl2 j hj
    have e2 := (v3 i hi).1
    unfold VD at e2
    unfold movD at hxa
    simp only at hxa
    unfold costF
    split <;> omega
theorem oneD (l : List Du) : oneL (l.flatMap avD) = true := by
  induction l with
  | nil => rfl
  | cons p ps ih => rw [List.flatMap_cons]; simp only [avD, List.cons_append, List.nil_append, oneL, AV.one, oneC, ih]; rfl
theorem subRowD (l : List Du) {fr : Bool} : Sub (.i fr (fun e j => (l.flatMap avD).getD (e * 3 + j) .top) 3 0 ((l.flatMap avD).length / 3)) (avDs l) := by
  rw [show (l.flatMap avD).length / 3 = l.length by rw [lenD]; omega]
  exact subDs l
theorem src_allD (ps : List Du) (el j : Nat) (he : el < ps.length) (hj : j < 3) : (avD (ps.getD el default)).getD j .top = (ps.flatMap avD).getD (el * 3 + j) .top := (flat_get (av := avD) (sz := 3) (fun _ => rfl) ps el j he hj).symm

set_option maxHeartbeats 16000000 in
theorem days_ok (ds : List Du) (ps : List Pn) (cs : List Du) (qs : List Pn) (hds : (∀ p ∈ ds, okD p) ∧ ds.length ≤ maxLen) (hps : (∀ p ∈ ps, okP p) ∧ ps.length ≤ maxLen) (hcs : (∀ p ∈ cs, okD p) ∧ cs.length ≤ maxLen) (hqs : (∀ p ∈ qs, okP p) ∧ qs.length ≤ maxLen) : Pure Try.prog 9 [avDs ds, avPs ps, avDs cs, avPs qs] (BL true) := by
  refine pure_of (n := 126) (res := [.tmp 8]) hT Try.func9 rfl rfl rfl Try.ntmps9 (Nat.le_of_ble_eq_true rfl) fun B w0 => ?_
  have hu := lusable_ok ds ps hds.2 hps.2
  have hu' := lusable_ok cs qs hcs.2 hqs.2
  by_cases hA : usF ds ps = 0
  · rw [decide_eq_true hA] at hu
    by_cases hB : usF cs qs = 0
    · rw [decide_eq_true hB] at hu'
      obtain ⟨u1, u2, u3, u4, u5⟩ := us_zero hA
      obtain ⟨v1, v2, v3, v4, v5⟩ := us_zero hB
      repeat' (first
    | ((first | refine aopsx_cons (by rfl) fun K' hK' => ?_ | refine aops_cons (by rfl) fun K' hK' => ?_); simp only [push_cast, reduceIte, reduceCtorEq, Nat.reduceEqDiff, Nat.reduceLT, Nat.reduceLeDiff, Nat.reduceAdd, Nat.reduceMul, Nat.reduceMod, Nat.reduceDiv, Nat.reduceSub, Int.reduceToNat]; (try simp (disch := omega) only [wrap64, Int.toNat_natCast]); (repeat refine and_rev ?_ ?_); (first | refine hK' _ ?_ | ((first | refine ⟨_, ⟨(by first | exact head_ok | exact hu | exact hu'), (by first | exact .inr rfl | exact .inl (by simp [AV.fresh, AV.freshL]))⟩, ?_⟩ | refine ⟨_, fun hb => ⟨(by first | exact head_ok | exact hu | exact hu'), (by first | exact .inr rfl | exact .inl (by simp [AV.fresh, AV.freshL]))⟩, ?_⟩); (try simp only [push_cast, reduceIte, reduceCtorEq, Nat.reduceEqDiff, Nat.reduceLT, Nat.reduceLeDiff, Nat.reduceAdd, Nat.reduceMul, Nat.reduceMod, Nat.reduceDiv, Nat.reduceSub, Int.reduceToNat]); (try simp (disch := omega) only [wrap64, Int.toNat_natCast]); (repeat refine and_rev ?_ ?_); refine hK' _ ?_) | (refine ⟨.v (.int .i64 0), ?_⟩; refine hK' _ ?_)); clear hK' K')
    | (refine aopsx_skip (by rfl) (by rfl) (by simp only [dstOk, Nat.reduceLT]) ?_; simp only [St.put])
    | ((first | refine aopsx_nil ?_ | refine aops_nil ?_); first | (refine hKs _ ?_; clear hKs K) | (refine hKr _ ?_; clear hKr K; simp only [push_cast, reduceIte, reduceCtorEq, Nat.reduceEqDiff, Nat.reduceLT, Nat.reduceLeDiff, Nat.reduceAdd, Nat.reduceMul, Nat.reduceMod, Nat.reduceDiv, Nat.reduceSub, Int.reduceToNat]))
    | refine awp_xseq hT fun K hKs => ?_ | refine awp_x hT fun K hKr => ?_ | refine awp_dseq hT hm (by decide +kernel) fun K hKs => ?_ | refine awp_d hT hm (by decide +kernel) fun K hKr => ?_
    | refine awp_block ?_ | refine awp_scope ?_ | refine awp_seq ?_ | ((first | refine awp_label ?_ | refine awp_skip ?_ | refine awp_exit ?_ | refine awp_ret ?_); simp only [push_cast, reduceIte, reduceCtorEq, Nat.reduceEqDiff, Nat.reduceLT, Nat.reduceLeDiff, Nat.reduceAdd, Nat.reduceMul, Nat.reduceMod, Nat.reduceDiv, Nat.reduceSub, Int.reduceToNat])
    | (refine awp_cond _ rfl (fun h => ?_) (fun h => ?_) <;> simp only [bh, decide_eq_true_eq, decide_eq_false_iff_not, eq_self, not_true_eq_false, not_false_eq_true, reduceCtorEq, Bool.true_eq_false, Bool.false_eq_true, bne_self_eq_false, beq_self_eq_true] at h))
      all_goals first | omega | exact (fun hh => hh) | (simp only [List.length_take, List.length_drop, List.length_append, List.length_map, List.length_cons, List.length_nil, List.length_replicate, List.length_set]; omega) | (intro hh; (try simp only [hh, Bool.not_false, Bool.not_true, Bool.true_and, Bool.and_true, eq_self, true_and, and_true]); (try simp only [bh, decide_eq_true_eq, decide_eq_false_iff_not] at hh); (first | done | omega | (simp only [List.length_take, List.length_drop, List.length_append, List.length_map, List.length_cons, List.length_nil, List.length_replicate, List.length_set]; omega))) | (intro hh; simp only [hh, Bool.not_false, Bool.not_true, Bool.true_and, Bool.and_true, eq_self, true_and, and_true]; intro h2; simp only [h2, Bool.not_false, Bool.not_true]; done) | (exact rfl) | skip
      refine awp_loop (α := Nat × Int) (fun q => ⟨[(0, avDs ds), (1, avPs ps), (2, avDs cs), (3, avPs qs), (9, BL true), (10, I64 q.2), (40, avDs ds), (41, I64 ds.length), (42, I64 q.1)], []⟩) (fun q => q.1 ≤ ds.length ∧ 0 ≤ q.2 ∧ q.2 ≤ 52596000 ∧ ∀ i, i < q.1 → (ds.getD i default).t ≤ q.2) (fun q => ds.length - q.1) (0, 0) ⟨Nat.zero_le _, by omega, by omega, fun i hi => by omega⟩ (G.wk ⟨rfl, rfl, rfl, rfl, rfl, rfl, rfl, rfl, rfl, trivial⟩ trivial) fun q hq => ?_
      obtain ⟨k, last⟩ := q
      simp only at hq ⊢
      obtain ⟨g1, g2, g3, g4⟩ := hq
      by_cases hlt : k < ds.length
      · have hv := (u3 k hlt).1
        unfold VD at hv
        repeat' (first
    | ((first | refine aopsx_cons (by rfl) fun K' hK' => ?_ | refine aops_cons (by rfl) fun K' hK' => ?_); simp only [push_cast, reduceIte, reduceCtorEq, Nat.reduceEqDiff, Nat.reduceLT, Nat.reduceLeDiff, Nat.reduceAdd, Nat.reduceMul, Nat.reduceMod, Nat.reduceDiv, Nat.reduceSub, Int.reduceToNat]; (try simp (disch := omega) only [wrap64, Int.toNat_natCast]); (repeat refine and_rev ?_ ?_); (first | refine hK' _ ?_ | (refine ⟨.v (.int .i64 0), ?_⟩; refine hK' _ ?_)); clear hK' K')
    | (refine aopsx_skip (by rfl) (by rfl) (by simp only [dstOk, Nat.reduceLT]) ?_; simp only [St.put])
    | ((first | refine aopsx_nil ?_ | refine aops_nil ?_); first | (refine hKs _ ?_; clear hKs K) | (refine hKr _ ?_; clear hKr K; simp only [push_cast, reduceIte, reduceCtorEq, Nat.reduceEqDiff, Nat.reduceLT, Nat.reduceLeDiff, Nat.reduceAdd, Nat.reduceMul, Nat.reduceMod, Nat.reduceDiv, Nat.reduceSub, Int.reduceToNat]))
    | refine awp_xseq hT fun K hKs => ?_ | refine awp_x hT fun K hKr => ?_ | refine awp_dseq hT hm (by decide +kernel) fun K hKs => ?_ | refine awp_d hT hm (by decide +kernel) fun K hKr => ?_
    | refine awp_block ?_ | refine awp_scope ?_ | refine awp_seq ?_ | ((first | refine awp_label ?_ | refine awp_skip ?_ | refine awp_exit ?_ | refine awp_ret ?_); simp only [push_cast, reduceIte, reduceCtorEq, Nat.reduceEqDiff, Nat.reduceLT, Nat.reduceLeDiff, Nat.reduceAdd, Nat.reduceMul, Nat.reduceMod, Nat.reduceDiv, Nat.reduceSub, Int.reduceToNat])
    | (refine awp_cond _ rfl (fun h => ?_) (fun h => ?_) <;> simp only [bh, decide_eq_true_eq, decide_eq_false_iff_not, eq_self, not_true_eq_false, not_false_eq_true, reduceCtorEq, Bool.true_eq_false, Bool.false_eq_true, bne_self_eq_false, beq_self_eq_true] at h))
        all_goals first | omega | exact (fun hh => hh) | (simp only [List.length_take, List.length_drop, List.length_append, List.length_map, List.length_cons, List.length_nil, List.length_replicate, List.length_set]; omega) | (intro hh; (try simp only [hh, Bool.not_false, Bool.not_true, Bool.true_and, Bool.and_true, eq_self, true_and, and_true]); (try simp only [bh, decide_eq_true_eq, decide_eq_false_iff_not] at hh); (first | done | omega | (simp only [List.length_take, List.length_drop, List.length_append, List.length_map, List.length_cons, List.length_nil, List.length_replicate, List.length_set]; omega))) | (intro hh; simp only [hh, Bool.not_false, Bool.not_true, Bool.true_and, Bool.and_true, eq_self, true_and, and_true]; intro h2; simp only [h2, Bool.not_false, Bool.not_true]; done) | (exact rfl) | skip
        exact ⟨(k + 1, max last (ds.getD k default).t), ⟨⟨by show k + 1 ≤ _; omega, by show 0 ≤ max _ _; omega, by show max _ _ ≤ _; omega, fun i hi => by
          show _ ≤ max _ _
          rcases Nat.lt_or_ge i k with c | c
          · have := g4 i c; omega
          · obtain rfl : i = k := by (have : i < k + 1 := hi); omega
            omega⟩, by show _ - (k + 1) < _ - k; omega⟩, G.wk ⟨rfl, rfl, rfl, rfl, rfl, rfl, rfl, rfl, rfl, trivial⟩ trivial⟩
      obtain rfl : k = ds.length := by omega
      clear g1 hlt
      repeat' (first
    | ((first | refine aopsx_cons (by rfl) fun K' hK' => ?_ | refine aops_cons (by rfl) fun K' hK' => ?_); simp only [push_cast, reduceIte, reduceCtorEq, Nat.reduceEqDiff, Nat.reduceLT, Nat.reduceLeDiff, Nat.reduceAdd, Nat.reduceMul, Nat.reduceMod, Nat.reduceDiv, Nat.reduceSub, Int.reduceToNat]; (try simp (disch := omega) only [wrap64, Int.toNat_natCast]); (repeat refine and_rev ?_ ?_); (first | refine hK' _ ?_ | (refine ⟨.v (.int .i64 0), ?_⟩; refine hK' _ ?_)); clear hK' K')
    | (refine aopsx_skip (by rfl) (by rfl) (by simp only [dstOk, Nat.reduceLT]) ?_; simp only [St.put])
    | ((first | refine aopsx_nil ?_ | refine aops_nil ?_); first | (refine hKs _ ?_; clear hKs K) | (refine hKr _ ?_; clear hKr K; simp only [push_cast, reduceIte, reduceCtorEq, Nat.reduceEqDiff, Nat.reduceLT, Nat.reduceLeDiff, Nat.reduceAdd, Nat.reduceMul, Nat.reduceMod, Nat.reduceDiv, Nat.reduceSub, Int.reduceToNat]))
    | refine awp_xseq hT fun K hKs => ?_ | refine awp_x hT fun K hKr => ?_ | refine awp_dseq hT hm (by decide +kernel) fun K hKs => ?_ | refine awp_d hT hm (by decide +kernel) fun K hKr => ?_
    | refine awp_block ?_ | refine awp_scope ?_ | refine awp_seq ?_ | ((first | refine awp_label ?_ | refine awp_skip ?_ | refine awp_exit ?_ | refine awp_ret ?_); simp only [push_cast, reduceIte, reduceCtorEq, Nat.reduceEqDiff, Nat.reduceLT, Nat.reduceLeDiff, Nat.reduceAdd, Nat.reduceMul, Nat.reduceMod, Nat.reduceDiv, Nat.reduceSub, Int.reduceToNat])
    | (refine awp_cond _ rfl (fun h => ?_) (fun h => ?_) <;> simp only [bh, decide_eq_true_eq, decide_eq_false_iff_not, eq_self, not_true_eq_false, not_false_eq_true, reduceCtorEq, Bool.true_eq_false, Bool.false_eq_true, bne_self_eq_false, beq_self_eq_true] at h))
      all_goals first | omega | exact (fun hh => hh) | (simp only [List.length_take, List.length_drop, List.length_append, List.length_map, List.length_cons, List.length_nil, List.length_replicate, List.length_set]; omega) | (intro hh; (try simp only [hh, Bool.not_false, Bool.not_true, Bool.true_and, Bool.and_true, eq_self, true_and, and_true]); (try simp only [bh, decide_eq_true_eq, decide_eq_false_iff_not] at hh); (first | done | omega | (simp only [List.length_take, List.length_drop, List.length_append, List.length_map, List.length_cons, List.length_nil, List.length_replicate, List.length_set]; omega))) | (intro hh; simp only [hh, Bool.not_false, Bool.not_true, Bool.true_and, Bool.and_true, eq_self, true_and, and_true]; intro h2; simp only [h2, Bool.not_false, Bool.not_true]; done) | (exact rfl) | skip
      refine awp_loop (α := Nat × Int) (fun q => ⟨[(0, avDs ds), (1, avPs ps), (2, avDs cs), (3, avPs qs), (9, BL true), (10, I64 q.2), (51, avPs ps), (52, I64 ps.length), (53, I64 q.1)], []⟩) (fun q => q.1 ≤ ps.length ∧ 0 ≤ q.2 ∧ q.2 ≤ 52596000 ∧ (∀ i, i < ds.length → (ds.getD i default).t ≤ q.2) ∧ ∀ i, i < q.1 → (ps.getD i default).a ≤ q.2) (fun q => ps.length - q.1) (0, last) ⟨Nat.zero_le _, g2, g3, g4, fun i hi => by omega⟩ (G.wk ⟨rfl, rfl, rfl, rfl, rfl, rfl, rfl, rfl, rfl, trivial⟩ trivial) fun q hq => ?_
      clear g2 g3 g4
      clear last
      obtain ⟨k, last⟩ := q
      simp only at hq ⊢
      obtain ⟨g1, g2, g3, g4, g5⟩ := hq
      by_cases hlt : k < ps.length
      · have hv := u4 k hlt
        repeat' (first
    | ((first | refine aopsx_cons (by rfl) fun K' hK' => ?_ | refine aops_cons (by rfl) fun K' hK' => ?_); simp only [push_cast, reduceIte, reduceCtorEq, Nat.reduceEqDiff, Nat.reduceLT, Nat.reduceLeDiff, Nat.reduceAdd, Nat.reduceMul, Nat.reduceMod, Nat.reduceDiv, Nat.reduceSub, Int.reduceToNat]; (try simp (disch := omega) only [wrap64, Int.toNat_natCast]); (repeat refine and_rev ?_ ?_); (first | refine hK' _ ?_ | (refine ⟨.v (.int .i64 0), ?_⟩; refine hK' _ ?_)); clear hK' K')
    | (refine aopsx_skip (by rfl) (by rfl) (by simp only [dstOk, Nat.reduceLT]) ?_; simp only [St.put])
    | ((first | refine aopsx_nil ?_ | refine aops_nil ?_); first | (refine hKs _ ?_; clear hKs K) | (refine hKr _ ?_; clear hKr K; simp only [push_cast, reduceIte, reduceCtorEq, Nat.reduceEqDiff, Nat.reduceLT, Nat.reduceLeDiff, Nat.reduceAdd, Nat.reduceMul, Nat.reduceMod, Nat.reduceDiv, Nat.reduceSub, Int.reduceToNat]))
    | refine awp_xseq hT fun K hKs => ?_ | refine awp_x hT fun K hKr => ?_ | refine awp_dseq hT hm (by decide +kernel) fun K hKs => ?_ | refine awp_d hT hm (by decide +kernel) fun K hKr => ?_
    | refine awp_block ?_ | refine awp_scope ?_ | refine awp_seq ?_ | ((first | refine awp_label ?_ | refine awp_skip ?_ | refine awp_exit ?_ | refine awp_ret ?_); simp only [push_cast, reduceIte, reduceCtorEq, Nat.reduceEqDiff, Nat.reduceLT, Nat.reduceLeDiff, Nat.reduceAdd, Nat.reduceMul, Nat.reduceMod, Nat.reduceDiv, Nat.reduceSub, Int.reduceToNat])
    | (refine awp_cond _ rfl (fun h => ?_) (fun h => ?_) <;> simp only [bh, decide_eq_true_eq, decide_eq_false_iff_not, eq_self, not_true_eq_false, not_false_eq_true, reduceCtorEq, Bool.true_eq_false, Bool.false_eq_true, bne_self_eq_false, beq_self_eq_true] at h))
        all_goals first | omega | exact (fun hh => hh) | (simp only [List.length_take, List.length_drop, List.length_append, List.length_map, List.length_cons, List.length_nil, List.length_replicate, List.length_set]; omega) | (intro hh; (try simp only [hh, Bool.not_false, Bool.not_true, Bool.true_and, Bool.and_true, eq_self, true_and, and_true]); (try simp only [bh, decide_eq_true_eq, decide_eq_false_iff_not] at hh); (first | done | omega | (simp only [List.length_take, List.length_drop, List.length_append, List.length_map, List.length_cons, List.length_nil, List.length_replicate, List.length_set]; omega))) | (intro hh; simp only [hh, Bool.not_false, Bool.not_true, Bool.true_and, Bool.and_true, eq_self, true_and, and_true]; intro h2; simp only [h2, Bool.not_false, Bool.not_true]; done) | (exact rfl) | skip
        exact ⟨(k + 1, max last (ps.getD k default).a), ⟨⟨by show k + 1 ≤ _; omega, by show 0 ≤ max _ _; omega, by show max _ _ ≤ _; omega, fun i hi => by
          show _ ≤ max _ _
          have := g4 i hi; omega, fun i hi => by
          show _ ≤ max _ _
          rcases Nat.lt_or_ge i k with c | c
          · have := g5 i c; omega
          · obtain rfl : i = k := by (have : i < k + 1 := hi); omega
            omega⟩, by show _ - (k + 1) < _ - k; omega⟩, G.wk ⟨rfl, rfl, rfl, rfl, rfl, rfl, rfl, rfl, rfl, trivial⟩ trivial⟩
      obtain rfl : k = ps.length := by omega
      clear g1 hlt
      have hmv := moved_ok cs qs (last + 241) hB (by omega)
      have law := days_law hA hB g4 g5
      have hP := pair_ok ds ps hA
      have hP' := pair_ok cs qs hB
      have hu2 := lusable_ok (ds ++ cs.map (movD (last + 241))) (ps ++ qs.map (movP (last + 241))) (by rw [List.length_append, List.length_map]; simp only [maxLen]; omega) (by rw [List.length_append, List.length_map]; simp only [maxLen]; omega)
      have hP2 := pair_ok (ds ++ cs.map (movD (last + 241))) (ps ++ qs.map (movP (last + 241)))
      rw [law] at hP2
      have cat1 : ds.flatMap avD ++ (cs.map (movD (last + 241))).flatMap avD = (ds ++ cs.map (movD (last + 241))).flatMap avD := by rw [List.flatMap_append]
      have cat2 : ps.flatMap avP ++ (qs.map (movP (last + 241))).flatMap avP = (ps ++ qs.map (movP (last + 241))).flatMap avP := by rw [List.flatMap_append]
      have bd1 := D_bounds (marksF 0 ds) ps
      have bd2 := D_bounds (marksF 0 cs) qs
      rw [marks_len] at bd1 bd2
      have la : (cs.map (movD (last + 241))).length = cs.length := List.length_map ..
      have lb : (qs.map (movP (last + 241))).length = qs.length := List.length_map ..
      have l1 := lenD ds
      have l2 := lenP ps
      clear law g4 g5
      generalize cs.map (movD (last + 241)) = a at *
      generalize qs.map (movP (last + 241)) = b at *
      have l3 := lenD a
      have l4 := lenP b
      generalize hxg : ds ++ a = x at *
      generalize hyg : ps ++ b = y at *
      generalize D (marksF 0 ds) ps = n at *
      generalize D (marksF 0 cs) qs = m at *
      have hu2s := hu2.sub (xs := [_, _]) ⟨subRowD x (fr := false), subRowP y (fr := false), trivial⟩
      by_cases h2 : usF x y = 0
      · rw [decide_eq_true h2] at hu2s
        have hP2s := (hP2 h2).sub (xs := [_, _]) ⟨subRowD x (fr := false), subRowP y (fr := false), trivial⟩
        repeat' (first
    | ((first | refine aopsx_own 70 rfl rfl (by decide) fun K' hK' => ?_ | refine aopsx_own 75 rfl rfl (by decide) fun K' hK' => ?_); simp only [push_cast, reduceIte, reduceCtorEq, Nat.reduceEqDiff, Nat.reduceLT, Nat.reduceLeDiff, Nat.reduceAdd, Nat.reduceMul, Nat.reduceMod, Nat.reduceDiv, Nat.reduceSub, Int.reduceToNat, cat1, cat2, pubD, pubP, List.nil_append, beq_self_eq_true]; (try simp (disch := omega) only [wrap64, Int.toNat_natCast]); (repeat refine and_rev ?_ ?_); refine hK' _ ?_; clear hK' K')
    | ((first | refine aopsx_cons (by rfl) fun K' hK' => ?_ | refine aops_cons (by rfl) fun K' hK' => ?_); simp only [push_cast, reduceIte, reduceCtorEq, Nat.reduceEqDiff, Nat.reduceLT, Nat.reduceLeDiff, Nat.reduceAdd, Nat.reduceMul, Nat.reduceMod, Nat.reduceDiv, Nat.reduceSub, Int.reduceToNat, cat1, cat2, pubD, pubP, List.nil_append, beq_self_eq_true]; (try simp (disch := omega) only [wrap64, Int.toNat_natCast]); (repeat refine and_rev ?_ ?_); (first | refine hK' _ ?_ | ((first | refine ⟨_, ⟨(by first | exact hmv | exact hu2s | exact hP | exact hP' | exact hP2s), (by first | exact .inr rfl | exact .inl (by simp [AV.fresh, AV.freshL]))⟩, ?_⟩ | refine ⟨_, fun hb => ⟨(by first | exact hmv | exact hu2s | exact hP | exact hP' | exact hP2s), (by first | exact .inr rfl | exact .inl (by simp [AV.fresh, AV.freshL]))⟩, ?_⟩); (try simp only [push_cast, reduceIte, reduceCtorEq, Nat.reduceEqDiff, Nat.reduceLT, Nat.reduceLeDiff, Nat.reduceAdd, Nat.reduceMul, Nat.reduceMod, Nat.reduceDiv, Nat.reduceSub, Int.reduceToNat, cat1, cat2, pubD, pubP, List.nil_append, beq_self_eq_true]); (try simp (disch := omega) only [wrap64, Int.toNat_natCast]); (repeat refine and_rev ?_ ?_); refine hK' _ ?_) | ((first | refine ⟨ds.flatMap avD, ⟨l1, (fun el j he hj => src_allD ds el j he hj), oneD _, by omega, by omega⟩, ?_⟩ | refine ⟨a.flatMap avD, ⟨l3, (fun el j he hj => src_allD a el j he hj), oneD _, by omega, by omega⟩, ?_⟩ | refine ⟨ps.flatMap avP, ⟨l2, (fun el j he hj => src_all ps el j he hj), oneP _, by omega, by omega⟩, ?_⟩ | refine ⟨b.flatMap avP, ⟨l4, (fun el j he hj => src_all b el j he hj), oneP _, by omega, by omega⟩, ?_⟩); refine hK' _ ?_) | (refine ⟨.v (.int .i64 0), ?_⟩; refine hK' _ ?_)); clear hK' K')
    | (refine aopsx_skip (by rfl) (by rfl) (by simp only [dstOk, Nat.reduceLT]) ?_; simp only [St.put])
    | ((first | refine aopsx_nil ?_ | refine aops_nil ?_); first | (refine hKs _ ?_; clear hKs K) | (refine hKr _ ?_; clear hKr K; simp only [push_cast, reduceIte, reduceCtorEq, Nat.reduceEqDiff, Nat.reduceLT, Nat.reduceLeDiff, Nat.reduceAdd, Nat.reduceMul, Nat.reduceMod, Nat.reduceDiv, Nat.reduceSub, Int.reduceToNat]))
    | refine awp_xseq hT fun K hKs => ?_ | refine awp_x hT fun K hKr => ?_ | refine awp_dseq hT hm (by decide +kernel) fun K hKs => ?_ | refine awp_d hT hm (by decide +kernel) fun K hKr => ?_
    | refine awp_block ?_ | refine awp_scope ?_ | refine awp_seq ?_ | ((first | refine awp_label ?_ | refine awp_skip ?_ | refine awp_exit ?_ | refine awp_ret ?_); simp only [push_cast, reduceIte, reduceCtorEq, Nat.reduceEqDiff, Nat.reduceLT, Nat.reduceLeDiff, Nat.reduceAdd, Nat.reduceMul, Nat.reduceMod, Nat.reduceDiv, Nat.reduceSub, Int.reduceToNat])
    | (refine awp_cond _ rfl (fun h => ?_) (fun h => ?_) <;> simp only [bh, decide_eq_true_eq, decide_eq_false_iff_not, eq_self, not_true_eq_false, not_false_eq_true, reduceCtorEq, Bool.true_eq_false, Bool.false_eq_true, bne_self_eq_false, beq_self_eq_true] at h))
        all_goals first | omega | exact (fun hh => hh) | (simp only [List.length_take, List.length_drop, List.length_append, List.length_map, List.length_cons, List.length_nil, List.length_replicate, List.length_set]; omega) | (intro hh; (try simp only [hh, Bool.not_false, Bool.not_true, Bool.true_and, Bool.and_true, eq_self, true_and, and_true]); (try simp only [bh, decide_eq_true_eq, decide_eq_false_iff_not] at hh); (first | done | omega | (simp only [List.length_take, List.length_drop, List.length_append, List.length_map, List.length_cons, List.length_nil, List.length_replicate, List.length_set]; omega))) | (intro hh; simp only [hh, Bool.not_false, Bool.not_true, Bool.true_and, Bool.and_true, eq_self, true_and, and_true]; intro h2; simp only [h2, Bool.not_false, Bool.not_true]; done) | (exact rfl) | skip
      · rw [decide_eq_false h2] at hu2s
        repeat' (first
    | ((first | refine aopsx_own 70 rfl rfl (by decide) fun K' hK' => ?_ | refine aopsx_own 75 rfl rfl (by decide) fun K' hK' => ?_); simp only [push_cast, reduceIte, reduceCtorEq, Nat.reduceEqDiff, Nat.reduceLT, Nat.reduceLeDiff, Nat.reduceAdd, Nat.reduceMul, Nat.reduceMod, Nat.reduceDiv, Nat.reduceSub, Int.reduceToNat, cat1, cat2, pubD, pubP, List.nil_append]; (try simp (disch := omega) only [wrap64, Int.toNat_natCast]); (repeat refine and_rev ?_ ?_); refine hK' _ ?_; clear hK' K')
    | ((first | refine aopsx_cons (by rfl) fun K' hK' => ?_ | refine aops_cons (by rfl) fun K' hK' => ?_); simp only [push_cast, reduceIte, reduceCtorEq, Nat.reduceEqDiff, Nat.reduceLT, Nat.reduceLeDiff, Nat.reduceAdd, Nat.reduceMul, Nat.reduceMod, Nat.reduceDiv, Nat.reduceSub, Int.reduceToNat, cat1, cat2, pubD, pubP, List.nil_append]; (try simp (disch := omega) only [wrap64, Int.toNat_natCast]); (repeat refine and_rev ?_ ?_); (first | refine hK' _ ?_ | ((first | refine ⟨_, ⟨(by first | exact hmv | exact hu2s), (by first | exact .inr rfl | exact .inl (by simp [AV.fresh, AV.freshL]))⟩, ?_⟩ | refine ⟨_, fun hb => ⟨(by first | exact hmv | exact hu2s), (by first | exact .inr rfl | exact .inl (by simp [AV.fresh, AV.freshL]))⟩, ?_⟩); (try simp only [push_cast, reduceIte, reduceCtorEq, Nat.reduceEqDiff, Nat.reduceLT, Nat.reduceLeDiff, Nat.reduceAdd, Nat.reduceMul, Nat.reduceMod, Nat.reduceDiv, Nat.reduceSub, Int.reduceToNat, cat1, cat2, pubD, pubP, List.nil_append]); (try simp (disch := omega) only [wrap64, Int.toNat_natCast]); (repeat refine and_rev ?_ ?_); refine hK' _ ?_) | ((first | refine ⟨ds.flatMap avD, ⟨l1, (fun el j he hj => src_allD ds el j he hj), oneD _, by omega, by omega⟩, ?_⟩ | refine ⟨a.flatMap avD, ⟨l3, (fun el j he hj => src_allD a el j he hj), oneD _, by omega, by omega⟩, ?_⟩ | refine ⟨ps.flatMap avP, ⟨l2, (fun el j he hj => src_all ps el j he hj), oneP _, by omega, by omega⟩, ?_⟩ | refine ⟨b.flatMap avP, ⟨l4, (fun el j he hj => src_all b el j he hj), oneP _, by omega, by omega⟩, ?_⟩); refine hK' _ ?_) | (refine ⟨.v (.int .i64 0), ?_⟩; refine hK' _ ?_)); clear hK' K')
    | (refine aopsx_skip (by rfl) (by rfl) (by simp only [dstOk, Nat.reduceLT]) ?_; simp only [St.put])
    | ((first | refine aopsx_nil ?_ | refine aops_nil ?_); first | (refine hKs _ ?_; clear hKs K) | (refine hKr _ ?_; clear hKr K; simp only [push_cast, reduceIte, reduceCtorEq, Nat.reduceEqDiff, Nat.reduceLT, Nat.reduceLeDiff, Nat.reduceAdd, Nat.reduceMul, Nat.reduceMod, Nat.reduceDiv, Nat.reduceSub, Int.reduceToNat]))
    | refine awp_xseq hT fun K hKs => ?_ | refine awp_x hT fun K hKr => ?_ | refine awp_dseq hT hm (by decide +kernel) fun K hKs => ?_ | refine awp_d hT hm (by decide +kernel) fun K hKr => ?_
    | refine awp_block ?_ | refine awp_scope ?_ | refine awp_seq ?_ | ((first | refine awp_label ?_ | refine awp_skip ?_ | refine awp_exit ?_ | refine awp_ret ?_); simp only [push_cast, reduceIte, reduceCtorEq, Nat.reduceEqDiff, Nat.reduceLT, Nat.reduceLeDiff, Nat.reduceAdd, Nat.reduceMul, Nat.reduceMod, Nat.reduceDiv, Nat.reduceSub, Int.reduceToNat])
    | (refine awp_cond _ rfl (fun h => ?_) (fun h => ?_) <;> simp only [bh, decide_eq_true_eq, decide_eq_false_iff_not, eq_self, not_true_eq_false, not_false_eq_true, reduceCtorEq, Bool.true_eq_false, Bool.false_eq_true, bne_self_eq_false, beq_self_eq_true] at h))
        all_goals first | omega | exact (fun hh => hh) | (simp only [List.length_take, List.length_drop, List.length_append, List.length_map, List.length_cons, List.length_nil, List.length_replicate, List.length_set]; omega) | (intro hh; (try simp only [hh, Bool.not_false, Bool.not_true, Bool.true_and, Bool.and_true, eq_self, true_and, and_true]); (try simp only [bh, decide_eq_true_eq, decide_eq_false_iff_not] at hh); (first | done | omega | (simp only [List.length_take, List.length_drop, List.length_append, List.length_map, List.length_cons, List.length_nil, List.length_replicate, List.length_set]; omega))) | (intro hh; simp only [hh, Bool.not_false, Bool.not_true, Bool.true_and, Bool.and_true, eq_self, true_and, and_true]; intro h2; simp only [h2, Bool.not_false, Bool.not_true]; done) | (exact rfl) | skip
    · rw [decide_eq_false hB] at hu'
      repeat' (first
    | ((first | refine aopsx_cons (by rfl) fun K' hK' => ?_ | refine aops_cons (by rfl) fun K' hK' => ?_); simp only [push_cast, reduceIte, reduceCtorEq, Nat.reduceEqDiff, Nat.reduceLT, Nat.reduceLeDiff, Nat.reduceAdd, Nat.reduceMul, Nat.reduceMod, Nat.reduceDiv, Nat.reduceSub, Int.reduceToNat]; (try simp (disch := omega) only [wrap64, Int.toNat_natCast]); (repeat refine and_rev ?_ ?_); (first | refine hK' _ ?_ | ((first | refine ⟨_, ⟨(by first | exact head_ok | exact hu | exact hu'), (by first | exact .inr rfl | exact .inl (by simp [AV.fresh, AV.freshL]))⟩, ?_⟩ | refine ⟨_, fun hb => ⟨(by first | exact head_ok | exact hu | exact hu'), (by first | exact .inr rfl | exact .inl (by simp [AV.fresh, AV.freshL]))⟩, ?_⟩); (try simp only [push_cast, reduceIte, reduceCtorEq, Nat.reduceEqDiff, Nat.reduceLT, Nat.reduceLeDiff, Nat.reduceAdd, Nat.reduceMul, Nat.reduceMod, Nat.reduceDiv, Nat.reduceSub, Int.reduceToNat]); (try simp (disch := omega) only [wrap64, Int.toNat_natCast]); (repeat refine and_rev ?_ ?_); refine hK' _ ?_) | (refine ⟨.v (.int .i64 0), ?_⟩; refine hK' _ ?_)); clear hK' K')
    | (refine aopsx_skip (by rfl) (by rfl) (by simp only [dstOk, Nat.reduceLT]) ?_; simp only [St.put])
    | ((first | refine aopsx_nil ?_ | refine aops_nil ?_); first | (refine hKs _ ?_; clear hKs K) | (refine hKr _ ?_; clear hKr K; simp only [push_cast, reduceIte, reduceCtorEq, Nat.reduceEqDiff, Nat.reduceLT, Nat.reduceLeDiff, Nat.reduceAdd, Nat.reduceMul, Nat.reduceMod, Nat.reduceDiv, Nat.reduceSub, Int.reduceToNat]))
    | refine awp_xseq hT fun K hKs => ?_ | refine awp_x hT fun K hKr => ?_ | refine awp_dseq hT hm (by decide +kernel) fun K hKs => ?_ | refine awp_d hT hm (by decide +kernel) fun K hKr => ?_
    | refine awp_block ?_ | refine awp_scope ?_ | refine awp_seq ?_ | ((first | refine awp_label ?_ | refine awp_skip ?_ | refine awp_exit ?_ | refine awp_ret ?_); simp only [push_cast, reduceIte, reduceCtorEq, Nat.reduceEqDiff, Nat.reduceLT, Nat.reduceLeDiff, Nat.reduceAdd, Nat.reduceMul, Nat.reduceMod, Nat.reduceDiv, Nat.reduceSub, Int.reduceToNat])
    | (refine awp_cond _ rfl (fun h => ?_) (fun h => ?_) <;> simp only [bh, decide_eq_true_eq, decide_eq_false_iff_not, eq_self, not_true_eq_false, not_false_eq_true, reduceCtorEq, Bool.true_eq_false, Bool.false_eq_true, bne_self_eq_false, beq_self_eq_true] at h))
      all_goals first | omega | exact (fun hh => hh) | (simp only [List.length_take, List.length_drop, List.length_append, List.length_map, List.length_cons, List.length_nil, List.length_replicate, List.length_set]; omega) | (intro hh; (try simp only [hh, Bool.not_false, Bool.not_true, Bool.true_and, Bool.and_true, eq_self, true_and, and_true]); (try simp only [bh, decide_eq_true_eq, decide_eq_false_iff_not] at hh); (first | done | omega | (simp only [List.length_take, List.length_drop, List.length_append, List.length_map, List.length_cons, List.length_nil, List.length_replicate, List.length_set]; omega))) | (intro hh; simp only [hh, Bool.not_false, Bool.not_true, Bool.true_and, Bool.and_true, eq_self, true_and, and_true]; intro h2; simp only [h2, Bool.not_false, Bool.not_true]; done) | (exact rfl) | skip
  · rw [decide_eq_false hA] at hu
    repeat' (first
    | ((first | refine aopsx_cons (by rfl) fun K' hK' => ?_ | refine aops_cons (by rfl) fun K' hK' => ?_); simp only [push_cast, reduceIte, reduceCtorEq, Nat.reduceEqDiff, Nat.reduceLT, Nat.reduceLeDiff, Nat.reduceAdd, Nat.reduceMul, Nat.reduceMod, Nat.reduceDiv, Nat.reduceSub, Int.reduceToNat]; (try simp (disch := omega) only [wrap64, Int.toNat_natCast]); (repeat refine and_rev ?_ ?_); (first | refine hK' _ ?_ | ((first | refine ⟨_, ⟨(by first | exact head_ok | exact hu), (by first | exact .inr rfl | exact .inl (by simp [AV.fresh, AV.freshL]))⟩, ?_⟩ | refine ⟨_, fun hb => ⟨(by first | exact head_ok | exact hu), (by first | exact .inr rfl | exact .inl (by simp [AV.fresh, AV.freshL]))⟩, ?_⟩); (try simp only [push_cast, reduceIte, reduceCtorEq, Nat.reduceEqDiff, Nat.reduceLT, Nat.reduceLeDiff, Nat.reduceAdd, Nat.reduceMul, Nat.reduceMod, Nat.reduceDiv, Nat.reduceSub, Int.reduceToNat]); (try simp (disch := omega) only [wrap64, Int.toNat_natCast]); (repeat refine and_rev ?_ ?_); refine hK' _ ?_) | (refine ⟨.v (.int .i64 0), ?_⟩; refine hK' _ ?_)); clear hK' K')
    | (refine aopsx_skip (by rfl) (by rfl) (by simp only [dstOk, Nat.reduceLT]) ?_; simp only [St.put])
    | ((first | refine aopsx_nil ?_ | refine aops_nil ?_); first | (refine hKs _ ?_; clear hKs K) | (refine hKr _ ?_; clear hKr K; simp only [push_cast, reduceIte, reduceCtorEq, Nat.reduceEqDiff, Nat.reduceLT, Nat.reduceLeDiff, Nat.reduceAdd, Nat.reduceMul, Nat.reduceMod, Nat.reduceDiv, Nat.reduceSub, Int.reduceToNat]))
    | refine awp_xseq hT fun K hKs => ?_ | refine awp_x hT fun K hKr => ?_ | refine awp_dseq hT hm (by decide +kernel) fun K hKs => ?_ | refine awp_d hT hm (by decide +kernel) fun K hKr => ?_
    | refine awp_block ?_ | refine awp_scope ?_ | refine awp_seq ?_ | ((first | refine awp_label ?_ | refine awp_skip ?_ | refine awp_exit ?_ | refine awp_ret ?_); simp only [push_cast, reduceIte, reduceCtorEq, Nat.reduceEqDiff, Nat.reduceLT, Nat.reduceLeDiff, Nat.reduceAdd, Nat.reduceMul, Nat.reduceMod, Nat.reduceDiv, Nat.reduceSub, Int.reduceToNat])
    | (refine awp_cond _ rfl (fun h => ?_) (fun h => ?_) <;> simp only [bh, decide_eq_true_eq, decide_eq_false_iff_not, eq_self, not_true_eq_false, not_false_eq_true, reduceCtorEq, Bool.true_eq_false, Bool.false_eq_true, bne_self_eq_false, beq_self_eq_true] at h))
    all_goals first | omega | exact (fun hh => hh) | (simp only [List.length_take, List.length_drop, List.length_append, List.length_map, List.length_cons, List.length_nil, List.length_replicate, List.length_set]; omega) | (intro hh; (try simp only [hh, Bool.not_false, Bool.not_true, Bool.true_and, Bool.and_true, eq_self, true_and, and_true]); (try simp only [bh, decide_eq_true_eq, decide_eq_false_iff_not] at hh); (first | done | omega | (simp only [List.length_take, List.length_drop, List.length_append, List.length_map, List.length_cons, List.length_nil, List.length_replicate, List.length_set]; omega))) | (intro hh; simp only [hh, Bool.not_false, Bool.not_true, Bool.true_and, Bool.and_true, eq_self, true_and, and_true]; intro h2; simp only [h2, Bool.not_false, Bool.not_true]; done) | (exact rfl) | skip
end Go.Proofs.Ytgcomonjkcpkaaa
