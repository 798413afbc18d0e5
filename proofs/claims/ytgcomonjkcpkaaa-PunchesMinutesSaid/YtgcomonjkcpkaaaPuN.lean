/- Part of a proof about the given program: contracts of its functions (see the comment of the last text). -/
import Derived.Test.YtgcomonjkcpkaaaPuM
namespace Go.Proofs.Ytgcomonjkcpkaaa
open Go.Eng Go.Proofs
set_option linter.unusedSimpArgs false
set_option linter.unusedVariables false
attribute [local irreducible] AOps AOpsX AOps2 AOpsF AAny AWP zTab zFound zRow

theorem lenP (l : List Pn) : (l.flatMap avP).length = l.length * 2 := by
  induction l with
  | nil => rfl
  | cons p ps ih => rw [List.flatMap_cons, List.length_append, ih]; simp [avP]; omega
theorem pubP (H : List (Nat × Blk)) (n : Nat) (fl : Bool) (l : List Pn) : (l.flatMap avP).map (AV.pub fl H (n + 1)) = l.flatMap avP := by
  induction l with
  | nil => rfl
  | cons p ps ih => rw [List.flatMap_cons, List.map_append, ih]; rfl
theorem oneP (l : List Pn) : oneL (l.flatMap avP) = true := by
  induction l with
  | nil => rfl
  | cons p ps ih => rw [List.flatMap_cons]; simp only [avP, List.cons_append, List.nil_append, oneL, AV.one, oneC, ih]; rfl
theorem norP (l : List Pn) : AV.norL (l.flatMap avP) = true := by
  induction l with
  | nil => rfl
  | cons p ps ih => rw [List.flatMap_cons]; simp only [avP, List.cons_append, List.nil_append, AV.norL, AV.nor, ih]; rfl
theorem subRowP (l : List Pn) {fr : Bool} : Sub (.i fr (fun e j => (l.flatMap avP).getD (e * 2 + j) .top) 2 0 ((l.flatMap avP).length / 2)) (avPs l) := by
  rw [show (l.flatMap avP).length / 2 = l.length by rw [lenP]; omega]
  exact subPs l
theorem src_take (ps : List Pn) (m el j : Nat) (he : el < m) (hm' : m ≤ ps.length) (hj : j < 2) : (avP (ps.getD el default)).getD j .top = ((ps.take m).flatMap avP).getD (el * 2 + j) .top := by
  rw [flat_get (av := avP) (sz := 2) (fun _ => rfl) _ el j (by rw [List.length_take]; omega) hj]
  simp [List.getD_eq_getElem?_getD, he]
theorem src_drop (ps : List Pn) (off el j : Nat) (he : off + el < ps.length) (hj : j < 2) : (avP (ps.getD (off + el) default)).getD j .top = ((ps.drop off).flatMap avP).getD (el * 2 + j) .top := by
  rw [flat_get (av := avP) (sz := 2) (fun _ => rfl) _ el j (by rw [List.length_drop]; omega) hj]
  simp [List.getD_eq_getElem?_getD]
theorem rem_get (ps : List Pn) (k i : Nat) (hk : k < ps.length) : (ps.take k ++ ps.drop (k + 1)).getD i default = if i < k then ps.getD i default else ps.getD (i + 1) default := by
  simp only [List.getD_eq_getElem?_getD]
  split
  · rw [List.getElem?_append_left (by rw [List.length_take]; omega), List.getElem?_take_of_lt (by omega)]
  · rw [List.getElem?_append_right (by rw [List.length_take]; omega), List.getElem?_drop, List.length_take, Nat.min_eq_left (by omega), show k + 1 + (i - k) = i + 1 by omega]
theorem us_rem {ds : List Du} {ps : List Pn} (h : usF ds ps = 0) (k : Nat) (hk : k < ps.length) : usF ds (ps.take k ++ ps.drop (k + 1)) = 0 := by
  obtain ⟨u1, u2, u3, u4, u5⟩ := us_zero h
  have hl : (ps.take k ++ ps.drop (k + 1)).length = ps.length - 1 := by rw [List.length_append, List.length_take, List.length_drop]; omega
  have v4 : PIn (ps.take k ++ ps.drop (k + 1)) := fun i hi => by
    rw [rem_get ps k i hk]; split
    · exact u4 i (by omega)
    · exact u4 (i + 1) (by omega)
  have v5 : PSo (ps.take k ++ ps.drop (k + 1)) := fun i hi h0 => by
    rw [rem_get ps k i hk, rem_get ps k (i - 1) hk]
    by_cases c : i < k
    · rw [if_pos c, if_pos (by omega)]; exact u5 i (by omega) h0
    · rw [if_neg c]
      by_cases c2 : i - 1 < k
      · rw [if_pos c2]
        have e1 := u5 (i + 1) (by omega) (by omega)
        have e2 := u5 i (by omega) h0
        rw [show i + 1 - 1 = i by omega] at e1
        omega
      · rw [if_neg c2, show i - 1 + 1 = i by omega]
        have e1 := u5 (i + 1) (by omega) (by omega)
        rwa [show i + 1 - 1 = i by omega] at e1
  rw [usF, if_neg (by omega), if_pos u3, if_pos v4, if_pos v5]
theorem set_split {α : Type} [Inhabited α] (l : List α) (k : Nat) (x : α) (hk : k < l.length) : l.set k x = l.take k ++ x :: l.drop (k + 1) := by
  rw [List.set_eq_take_append_cons_drop, if_pos hk]
theorem self_split {α : Type} [Inhabited α] (l : List α) (k : Nat) (hk : k < l.length) : l = l.take k ++ l.getD k default :: l.drop (k + 1) := by
  have e : l.drop k = l.getD k default :: l.drop (k + 1) := by rw [List.drop_eq_getElem_cons hk]; simp [List.getD_eq_getElem?_getD, hk]
  rw [← e, List.take_append_drop]
theorem flat_set (ps : List Pn) (k : Nat) (to : Int) : k < ps.length → (ps.flatMap avP).set (k * 2) (I64 to) = (ps.set k ⟨to, (ps.getD k default).i⟩).flatMap avP := by
  induction ps generalizing k with
  | nil => intro h; simp at h
  | cons p r ih =>
    intro h
    cases k with
    | zero => simp [avP, List.flatMap_cons]
    | succ k =>
      rw [List.set_cons_succ, List.flatMap_cons, List.flatMap_cons, List.getD_cons_succ, ← ih k (by simpa using h)]
      rw [show (k + 1) * 2 = k * 2 + 2 by omega]
      rfl

@[simp] theorem freshMs (l : List Mt) : (avMsT l).fresh := by
  simp only [avMsT, AV.fresh]
  exact ⟨trivial, fun e j => freshL_getD (cs := avM _) ⟨trivial, trivial, trivial, trivial⟩ j⟩
theorem src_all (ps : List Pn) (el j : Nat) (he : el < ps.length) (hj : j < 2) : (avP (ps.getD el default)).getD j .top = (ps.flatMap avP).getD (el * 2 + j) .top := (flat_get (av := avP) (sz := 2) (fun _ => rfl) ps el j he hj).symm

set_option maxHeartbeats 16000000 in
theorem lost_ok (ds : List Du) (ps : List Pn) (pk to : Int) (hds : (∀ p ∈ ds, okD p) ∧ ds.length ≤ maxLen) (hps : (∀ p ∈ ps, okP p) ∧ ps.length ≤ maxLen) (hpk : (Lit.int .u8 pk).wf = true) (hto : In64 to) : Pure Try.prog 6 [avDs ds, avPs ps, .v (.int .u8 pk), I64 to] (BL true) := by
  refine pure_of (n := 133) (res := [.tmp 8]) hT Try.func6 rfl rfl rfl Try.ntmps6 (Nat.le_of_ble_eq_true rfl) fun B w0 => ?_
  have hpk : 0 ≤ pk ∧ pk ≤ 255 := by
    simp only [Lit.wf, Bool.and_eq_true, decide_eq_true_eq] at hpk
    have h1 : IntKind.u8.min = 0 := by decide
    have h2 : IntKind.u8.max = 255 := by decide
    omega
  unfold In64 at hto
  have hu := lusable_ok ds ps hds.2 hps.2
  by_cases h : usF ds ps = 0
  · rw [decide_eq_true h] at hu
    obtain ⟨u1, u2, u3, u4, u5⟩ := us_zero h
    by_cases h0 : ps.length = 0
    · have b0 : ((ps.length : Int) == 0) = true := by rw [h0]; rfl
      repeat' (first
    | ((first | refine aopsx_cons (by rfl) fun K' hK' => ?_ | refine aops_cons (by rfl) fun K' hK' => ?_); simp only [push_cast, reduceIte, reduceCtorEq, Nat.reduceEqDiff, Nat.reduceLT, Nat.reduceLeDiff, Nat.reduceAdd, Nat.reduceMul, Nat.reduceMod, Nat.reduceDiv, Nat.reduceSub, Int.reduceToNat, b0]; (try simp (disch := omega) only [wrap64, Int.toNat_natCast]); (repeat refine and_rev ?_ ?_); (first | refine hK' _ ?_ | ((first | refine ⟨_, ⟨(by first | exact head_ok | exact hu), (by first | exact .inr rfl | exact .inl (by simp [AV.fresh, AV.freshL]))⟩, ?_⟩ | refine ⟨_, fun hb => ⟨(by first | exact head_ok | exact hu), (by first | exact .inr rfl | exact .inl (by simp [AV.fresh, AV.freshL]))⟩, ?_⟩); (try simp only [push_cast, reduceIte, reduceCtorEq, Nat.reduceEqDiff, Nat.reduceLT, Nat.reduceLeDiff, Nat.reduceAdd, Nat.reduceMul, Nat.reduceMod, Nat.reduceDiv, Nat.reduceSub, Int.reduceToNat, b0]); (try simp (disch := omega) only [wrap64, Int.toNat_natCast]); (repeat refine and_rev ?_ ?_); refine hK' _ ?_) | (refine ⟨.v (.int .i64 0), ?_⟩; refine hK' _ ?_)); clear hK' K')
    | (refine aopsx_skip (by rfl) (by rfl) (by simp only [dstOk, Nat.reduceLT]) ?_; simp only [St.put])
    | ((first | refine aopsx_nil ?_ | refine aops_nil ?_); first | (refine hKs _ ?_; clear hKs K) | (refine hKr _ ?_; clear hKr K; simp only [push_cast, reduceIte, reduceCtorEq, Nat.reduceEqDiff, Nat.reduceLT, Nat.reduceLeDiff, Nat.reduceAdd, Nat.reduceMul, Nat.reduceMod, Nat.reduceDiv, Nat.reduceSub, Int.reduceToNat]))
    | refine awp_xseq hT fun K hKs => ?_ | refine awp_x hT fun K hKr => ?_ | refine awp_dseq hT hm (by decide +kernel) fun K hKs => ?_ | refine awp_d hT hm (by decide +kernel) fun K hKr => ?_
    | refine awp_block ?_ | refine awp_scope ?_ | refine awp_seq ?_ | ((first | refine awp_label ?_ | refine awp_skip ?_ | refine awp_exit ?_ | refine awp_ret ?_); simp only [push_cast, reduceIte, reduceCtorEq, Nat.reduceEqDiff, Nat.reduceLT, Nat.reduceLeDiff, Nat.reduceAdd, Nat.reduceMul, Nat.reduceMod, Nat.reduceDiv, Nat.reduceSub, Int.reduceToNat])
    | (refine awp_cond _ rfl (fun h => ?_) (fun h => ?_) <;> simp only [bh, decide_eq_true_eq, decide_eq_false_iff_not, eq_self, not_true_eq_false, not_false_eq_true, reduceCtorEq, Bool.true_eq_false, Bool.false_eq_true, bne_self_eq_false, beq_self_eq_true] at h))
      all_goals first | omega | exact (fun hh => hh) | (simp only [List.length_take, List.length_drop, List.length_append, List.length_map, List.length_cons, List.length_nil, List.length_replicate, List.length_set]; omega) | (intro hh; (try simp only [hh, Bool.not_false, Bool.not_true, Bool.true_and, Bool.and_true, eq_self, true_and, and_true]); (try simp only [bh, decide_eq_true_eq, decide_eq_false_iff_not] at hh); (first | done | omega | (simp only [List.length_take, List.length_drop, List.length_append, List.length_map, List.length_cons, List.length_nil, List.length_replicate, List.length_set]; omega))) | (intro hh; simp only [hh, Bool.not_false, Bool.not_true, Bool.true_and, Bool.and_true, eq_self, true_and, and_true]; intro h2; simp only [h2, Bool.not_false, Bool.not_true]; done) | (exact rfl) | skip
    · have b0 : ((ps.length : Int) == 0) = false := beq_eq_false_iff_ne.2 (by omega)
      have hk : pk.tmod (ps.length : Int) = ((pk.toNat % ps.length : Nat) : Int) := by
        rw [Int.tmod_eq_emod_of_nonneg hpk.1, Int.natCast_emod, Int.toNat_of_nonneg hpk.1]
      have hkl : pk.toNat % ps.length < ps.length := Nat.mod_lt _ (by omega)
      generalize pk.toNat % ps.length = k at *
      have hR := pair_ok ds (ps.take k ++ ps.drop (k + 1)) (us_rem h k hkl)
      have hP := pair_ok ds ps h
      have lost := D_lost (ps.getD k default) (ps.take k) (ps.drop (k + 1)) (marksF 0 ds)
      rw [← self_split ps k hkl] at lost
      have hcat : (ps.take k).flatMap avP ++ (ps.drop (k + 1)).flatMap avP = (ps.take k ++ ps.drop (k + 1)).flatMap avP := by rw [List.flatMap_append]
      have hlr : (ps.take k).length = k := by rw [List.length_take]; omega
      have hld : (ps.drop (k + 1)).length = ps.length - (k + 1) := List.length_drop
      have hlt : ((ps.take k).flatMap avP).length = k * 2 := by rw [lenP, hlr]
      have bd1 := D_bounds (marksF 0 ds) ps
      have bd2 := D_bounds (marksF 0 ds) (ps.take k ++ ps.drop (k + 1))
      rw [marks_len] at bd1 bd2
      rw [List.length_append, hlr, hld] at bd2
      have hset := flat_set ps k to hkl
      have hq := lusable_ok ds (ps.set k ⟨to, (ps.getD k default).i⟩) hds.2 (by rw [List.length_set]; exact hps.2)
      have hpk1 := u4 k hkl
      have mv1 := D_moved (ps.getD k default) ⟨to, (ps.getD k default).i⟩ rfl (ps.drop (k + 1)) (ps.take k) (marksF 0 ds)
      have mv2 := D_moved ⟨to, (ps.getD k default).i⟩ (ps.getD k default) rfl (ps.drop (k + 1)) (ps.take k) (marksF 0 ds)
      rw [← self_split ps k hkl, ← set_split ps k _ hkl] at mv1 mv2
      have tk1 : ((k : Int) + 1).toNat = k + 1 := by omega
      have hQ := pair_ok ds (ps.set k ⟨to, (ps.getD k default).i⟩)
      have bd3 := D_bounds (marksF 0 ds) (ps.set k ⟨to, (ps.getD k default).i⟩)
      rw [marks_len, List.length_set] at bd3
      generalize hRg : ps.take k ++ ps.drop (k + 1) = R at *
      generalize hQg : ps.set k ⟨to, (ps.getD k default).i⟩ = q at *
      generalize D (marksF 0 ds) ps = n at *
      generalize D (marksF 0 ds) R = m at *
      generalize D (marksF 0 ds) q = c at *
      generalize pathF (marksF 0 ds) ps = l1 at *
      generalize pathF (marksF 0 ds) R = l2 at *
      have b1 : decide (120 < n - m) = false := decide_eq_false (by omega)
      have b2 : decide (120 < m - n) = false := decide_eq_false (by omega)
      repeat' (first
    | ((first | refine aopsx_cons (by rfl) fun K' hK' => ?_ | refine aops_cons (by rfl) fun K' hK' => ?_); simp only [push_cast, reduceIte, reduceCtorEq, Nat.reduceEqDiff, Nat.reduceLT, Nat.reduceLeDiff, Nat.reduceAdd, Nat.reduceMul, Nat.reduceMod, Nat.reduceDiv, Nat.reduceSub, Int.reduceToNat, b0, hk]; (try simp (disch := omega) only [wrap64, Int.toNat_natCast]); (repeat refine and_rev ?_ ?_); (first | refine hK' _ ?_ | ((first | refine ⟨_, ⟨(by first | exact head_ok | exact hu | exact hP), (by first | exact .inr rfl | exact .inl (by simp [AV.fresh, AV.freshL]))⟩, ?_⟩ | refine ⟨_, fun hb => ⟨(by first | exact head_ok | exact hu | exact hP), (by first | exact .inr rfl | exact .inl (by simp [AV.fresh, AV.freshL]))⟩, ?_⟩); (try simp only [push_cast, reduceIte, reduceCtorEq, Nat.reduceEqDiff, Nat.reduceLT, Nat.reduceLeDiff, Nat.reduceAdd, Nat.reduceMul, Nat.reduceMod, Nat.reduceDiv, Nat.reduceSub, Int.reduceToNat, b0, hk]); (try simp (disch := omega) only [wrap64, Int.toNat_natCast]); (repeat refine and_rev ?_ ?_); refine hK' _ ?_) | (refine ⟨.v (.int .i64 0), ?_⟩; refine hK' _ ?_)); clear hK' K')
    | (refine aopsx_skip (by rfl) (by rfl) (by simp only [dstOk, Nat.reduceLT]) ?_; simp only [St.put])
    | ((first | refine aopsx_nil ?_ | refine aops_nil ?_); first | (refine hKs _ ?_; clear hKs K) | (refine hKr _ ?_; clear hKr K; simp only [push_cast, reduceIte, reduceCtorEq, Nat.reduceEqDiff, Nat.reduceLT, Nat.reduceLeDiff, Nat.reduceAdd, Nat.reduceMul, Nat.reduceMod, Nat.reduceDiv, Nat.reduceSub, Int.reduceToNat]))
    | refine awp_xseq hT fun K hKs => ?_ | refine awp_x hT fun K hKr => ?_ | refine awp_dseq hT hm (by decide +kernel) fun K hKs => ?_ | refine awp_d hT hm (by decide +kernel) fun K hKr => ?_
    | refine awp_block ?_ | refine awp_scope ?_ | refine awp_seq ?_ | ((first | refine awp_label ?_ | refine awp_skip ?_ | refine awp_exit ?_ | refine awp_ret ?_); simp only [push_cast, reduceIte, reduceCtorEq, Nat.reduceEqDiff, Nat.reduceLT, Nat.reduceLeDiff, Nat.reduceAdd, Nat.reduceMul, Nat.reduceMod, Nat.reduceDiv, Nat.reduceSub, Int.reduceToNat])
    | (refine awp_cond _ rfl (fun h => ?_) (fun h => ?_) <;> simp only [bh, decide_eq_true_eq, decide_eq_false_iff_not, eq_self, not_true_eq_false, not_false_eq_true, reduceCtorEq, Bool.true_eq_false, Bool.false_eq_true, bne_self_eq_false, beq_self_eq_true] at h))
      all_goals first | omega | exact (fun hh => hh) | (simp only [List.length_take, List.length_drop, List.length_append, List.length_map, List.length_cons, List.length_nil, List.length_replicate, List.length_set]; omega) | (intro hh; (try simp only [hh, Bool.not_false, Bool.not_true, Bool.true_and, Bool.and_true, eq_self, true_and, and_true]); (try simp only [bh, decide_eq_true_eq, decide_eq_false_iff_not] at hh); (first | done | omega | (simp only [List.length_take, List.length_drop, List.length_append, List.length_map, List.length_cons, List.length_nil, List.length_replicate, List.length_set]; omega))) | (intro hh; simp only [hh, Bool.not_false, Bool.not_true, Bool.true_and, Bool.and_true, eq_self, true_and, and_true]; intro h2; simp only [h2, Bool.not_false, Bool.not_true]; done) | (exact rfl) | skip
      refine awp_wk ⟨[(0, avDs ds), (1, avPs ps), (3, I64 to), (9, BL true), (10, I64 k), (12, I64 n), (13, I64 0)], []⟩ ⟨rfl, rfl, rfl, rfl, rfl, rfl, rfl, trivial⟩ trivial ?_
      (refine awp_v hT [47, 51, 56] [(1, [47, 51, 56]), (3, []), (1, [47, 51, 56]), (1, [47, 51, 56]), (1, [47, 51, 56]), (0, []), (1, [47, 51, 56]), (1, [47, 51, 56]), (1, [47, 51, 56]), (1, [47, 51, 56]), (0, []), (0, []), (0, []), (0, []), (0, []), (0, []), (0, []), (0, []), (0, [])] hm (by decide +kernel) (by simp only [push_cast, reduceIte, reduceCtorEq, Nat.reduceEqDiff, Nat.reduceLT, Nat.reduceLeDiff, Nat.reduceAdd, Nat.reduceMul, Nat.reduceMod, Nat.reduceDiv, Nat.reduceSub, Int.reduceToNat]) fun K hKr => ?_; repeat' (first
    | ((first | refine aops2_quiet rfl (by rfl) fun K' hK' => ?_ | refine aops2_free rfl (by rfl) fun K' hK' => ?_ | refine aops2_loud rfl (by rfl) fun K' hK' => ?_ | refine aops2_own rfl rfl (by decide) fun K' hK' => ?_); simp only [push_cast, reduceIte, reduceCtorEq, Nat.reduceEqDiff, Nat.reduceLT, Nat.reduceLeDiff, Nat.reduceAdd, Nat.reduceMul, Nat.reduceMod, Nat.reduceDiv, Nat.reduceSub, Int.reduceToNat, hcat, pubP, tk1, List.nil_append]; (try simp (disch := omega) only [wrap64, Int.toNat_natCast]); (repeat refine and_rev ?_ ?_); (first | (first | refine hK' _ (by simp only [push_cast, reduceIte, reduceCtorEq, Nat.reduceEqDiff, Nat.reduceLT, Nat.reduceLeDiff, Nat.reduceAdd, Nat.reduceMul, Nat.reduceMod, Nat.reduceDiv, Nat.reduceSub, Int.reduceToNat]) ?_ | refine hK' _ ?_) | ((first | refine ⟨_, ⟨(by first | exact hR.sub ⟨Sub.refl _, subRowP _, trivial⟩), (by first | exact .inr rfl | exact .inl (by simp [AV.fresh, AV.freshL]))⟩, ?_⟩ | refine ⟨_, fun hb => ⟨(by first | exact hR.sub ⟨Sub.refl _, subRowP _, trivial⟩), (by first | exact .inr rfl | exact .inl (by simp [AV.fresh, AV.freshL]))⟩, ?_⟩); (try simp only [push_cast, reduceIte, reduceCtorEq, Nat.reduceEqDiff, Nat.reduceLT, Nat.reduceLeDiff, Nat.reduceAdd, Nat.reduceMul, Nat.reduceMod, Nat.reduceDiv, Nat.reduceSub, Int.reduceToNat, hcat, pubP, tk1, List.nil_append]); (try simp (disch := omega) only [wrap64, Int.toNat_natCast]); (repeat refine and_rev ?_ ?_); (first | refine hK' _ (by simp only [push_cast, reduceIte, reduceCtorEq, Nat.reduceEqDiff, Nat.reduceLT, Nat.reduceLeDiff, Nat.reduceAdd, Nat.reduceMul, Nat.reduceMod, Nat.reduceDiv, Nat.reduceSub, Int.reduceToNat]) ?_ | refine hK' _ ?_)) | ((first | refine ⟨(ps.take k).flatMap avP, ⟨by rw [hlt], (fun el j he hj => src_take ps k el j he (by omega) hj), oneP _, by omega, by omega⟩, ?_⟩ | refine ⟨(ps.drop (k + 1)).flatMap avP, ⟨by rw [lenP, hld], (fun el j he hj => src_drop ps (k + 1) el j (by omega) hj), oneP _, by rw [hlt]; omega, by rw [hlt]; omega⟩, ?_⟩ | refine ⟨[_], ⟨rfl, (fun j hj => rfl), (by first | omega | (simp only [List.length_take, List.length_drop, List.length_append, List.length_map, List.length_cons, List.length_nil, List.length_replicate, List.length_set]; omega)), (by first | omega | (simp only [List.length_take, List.length_drop, List.length_append, List.length_map, List.length_cons, List.length_nil, List.length_replicate, List.length_set]; omega))⟩, ?_⟩ | refine ⟨_, ⟨rfl, (fun j hj => rfl), (by first | omega | (simp only [List.length_take, List.length_drop, List.length_append, List.length_map, List.length_cons, List.length_nil, List.length_replicate, List.length_set]; omega)), (by first | omega | (simp only [List.length_take, List.length_drop, List.length_append, List.length_map, List.length_cons, List.length_nil, List.length_replicate, List.length_set]; omega))⟩, ?_⟩ | refine ⟨_, ⟨(by first | omega | (simp only [List.length_take, List.length_drop, List.length_append, List.length_map, List.length_cons, List.length_nil, List.length_replicate, List.length_set]; omega)), src_t _ _, (by first | omega | (simp only [List.length_take, List.length_drop, List.length_append, List.length_map, List.length_cons, List.length_nil, List.length_replicate, List.length_set]; omega)), (by first | omega | (simp only [List.length_take, List.length_drop, List.length_append, List.length_map, List.length_cons, List.length_nil, List.length_replicate, List.length_set]; omega))⟩, ?_⟩ | refine ⟨_, ⟨(by first | omega | (simp only [List.length_take, List.length_drop, List.length_append, List.length_map, List.length_cons, List.length_nil, List.length_replicate, List.length_set]; omega)), src_dt _ _ _, (by first | omega | (simp only [List.length_take, List.length_drop, List.length_append, List.length_map, List.length_cons, List.length_nil, List.length_replicate, List.length_set]; omega)), (by first | omega | (simp only [List.length_take, List.length_drop, List.length_append, List.length_map, List.length_cons, List.length_nil, List.length_replicate, List.length_set]; omega))⟩, ?_⟩ | refine ⟨_, ⟨(by first | omega | (simp only [List.length_take, List.length_drop, List.length_append, List.length_map, List.length_cons, List.length_nil, List.length_replicate, List.length_set]; omega)), (by first | omega | (simp only [List.length_take, List.length_drop, List.length_append, List.length_map, List.length_cons, List.length_nil, List.length_replicate, List.length_set]; omega)), src_t _ _, (by first | omega | (simp only [List.length_take, List.length_drop, List.length_append, List.length_map, List.length_cons, List.length_nil, List.length_replicate, List.length_set]; omega)), (by first | omega | (simp only [List.length_take, List.length_drop, List.length_append, List.length_map, List.length_cons, List.length_nil, List.length_replicate, List.length_set]; omega))⟩, ?_⟩ | refine ⟨_, ⟨(by first | omega | (simp only [List.length_take, List.length_drop, List.length_append, List.length_map, List.length_cons, List.length_nil, List.length_replicate, List.length_set]; omega)), (by first | omega | (simp only [List.length_take, List.length_drop, List.length_append, List.length_map, List.length_cons, List.length_nil, List.length_replicate, List.length_set]; omega)), src_dt _ _ _, (by first | omega | (simp only [List.length_take, List.length_drop, List.length_append, List.length_map, List.length_cons, List.length_nil, List.length_replicate, List.length_set]; omega)), (by first | omega | (simp only [List.length_take, List.length_drop, List.length_append, List.length_map, List.length_cons, List.length_nil, List.length_replicate, List.length_set]; omega))⟩, ?_⟩); (first | refine hK' _ (by simp only [push_cast, reduceIte, reduceCtorEq, Nat.reduceEqDiff, Nat.reduceLT, Nat.reduceLeDiff, Nat.reduceAdd, Nat.reduceMul, Nat.reduceMod, Nat.reduceDiv, Nat.reduceSub, Int.reduceToNat]) ?_ | refine hK' _ ?_))); clear hK' K')
    | (refine aops2_nil ?_; refine hKr _ ?_; clear hKr K; simp only [push_cast, reduceIte, reduceCtorEq, Nat.reduceEqDiff, Nat.reduceLT, Nat.reduceLeDiff, Nat.reduceAdd, Nat.reduceMul, Nat.reduceMod, Nat.reduceDiv, Nat.reduceSub, Int.reduceToNat])))
      all_goals first | omega | exact (fun hh => hh) | (simp only [List.length_take, List.length_drop, List.length_append, List.length_map, List.length_cons, List.length_nil, List.length_replicate, List.length_set]; omega) | (intro hh; (try simp only [hh, Bool.not_false, Bool.not_true, Bool.true_and, Bool.and_true, eq_self, true_and, and_true]); (try simp only [bh, decide_eq_true_eq, decide_eq_false_iff_not] at hh); (first | done | omega | (simp only [List.length_take, List.length_drop, List.length_append, List.length_map, List.length_cons, List.length_nil, List.length_replicate, List.length_set]; omega))) | (intro hh; simp only [hh, Bool.not_false, Bool.not_true, Bool.true_and, Bool.and_true, eq_self, true_and, and_true]; intro h2; simp only [h2, Bool.not_false, Bool.not_true]; done) | (exact rfl) | skip
      have hqs := hq.sub (xs := [_, _]) ⟨Sub.refl _, subRowP q (fr := false), trivial⟩
      have hlp := lenP ps
      by_cases hq0 : usF ds q = 0
      · rw [decide_eq_true hq0] at hqs
        have hQ' := (hQ hq0).sub (xs := [_, _]) ⟨Sub.refl _, subRowP q (fr := false), trivial⟩
        have v4 := (us_zero hq0).2.2.2.1 k (by rw [← hQg, List.length_set]; exact hkl)
        have eq1 : (q.getD k default).a = to := by rw [← hQg, Go.Eng.getD_set_self _ _ _ _ hkl]
        rw [eq1] at v4
        simp only at mv1 mv2
        have b3 : decide (c - n ≤ max (to - (ps.getD k default).a) ((ps.getD k default).a - to)) = true := decide_eq_true (by omega)
        have b4 : decide (n - c ≤ max (to - (ps.getD k default).a) ((ps.getD k default).a - to)) = true := decide_eq_true (by omega)
        repeat' (first
    | ((first | refine aopsx_own 79 rfl rfl (by decide) fun K' hK' => ?_); simp only [push_cast, reduceIte, reduceCtorEq, Nat.reduceEqDiff, Nat.reduceLT, Nat.reduceLeDiff, Nat.reduceAdd, Nat.reduceMul, Nat.reduceMod, Nat.reduceDiv, Nat.reduceSub, Int.reduceToNat, b1, b2, b3, b4, hset, pubP, List.nil_append, bne_self_eq_false]; (try simp (disch := omega) only [wrap64, Int.toNat_natCast]); (repeat refine and_rev ?_ ?_); refine hK' _ ?_; clear hK' K')
    | ((first | refine aopsx_cons (by rfl) fun K' hK' => ?_ | refine aops_cons (by rfl) fun K' hK' => ?_); simp only [push_cast, reduceIte, reduceCtorEq, Nat.reduceEqDiff, Nat.reduceLT, Nat.reduceLeDiff, Nat.reduceAdd, Nat.reduceMul, Nat.reduceMod, Nat.reduceDiv, Nat.reduceSub, Int.reduceToNat, b1, b2, b3, b4, hset, pubP, List.nil_append, bne_self_eq_false]; (try simp (disch := omega) only [wrap64, Int.toNat_natCast]); (repeat refine and_rev ?_ ?_); (first | refine hK' _ ?_ | ((first | refine ⟨_, ⟨(by first | exact hqs | exact hQ'), (by first | exact .inr rfl | exact .inl (by simp [AV.fresh, AV.freshL]))⟩, ?_⟩ | refine ⟨_, fun hb => ⟨(by first | exact hqs | exact hQ'), (by first | exact .inr rfl | exact .inl (by simp [AV.fresh, AV.freshL]))⟩, ?_⟩); (try simp only [push_cast, reduceIte, reduceCtorEq, Nat.reduceEqDiff, Nat.reduceLT, Nat.reduceLeDiff, Nat.reduceAdd, Nat.reduceMul, Nat.reduceMod, Nat.reduceDiv, Nat.reduceSub, Int.reduceToNat, b1, b2, b3, b4, hset, pubP, List.nil_append, bne_self_eq_false]); (try simp (disch := omega) only [wrap64, Int.toNat_natCast]); (repeat refine and_rev ?_ ?_); refine hK' _ ?_) | ((first | refine ⟨ps.flatMap avP, ⟨hlp, (fun el j he hj => src_all ps el j he hj), oneP _, by omega, by omega⟩, ?_⟩); refine hK' _ ?_) | (refine ⟨.v (.int .i64 0), ?_⟩; refine hK' _ ?_)); clear hK' K')
    | (refine aopsx_skip (by rfl) (by rfl) (by simp only [dstOk, Nat.reduceLT]) ?_; simp only [St.put])
    | ((first | refine aopsx_nil ?_ | refine aops_nil ?_); first | (refine hKs _ ?_; clear hKs K) | (refine hKr _ ?_; clear hKr K; simp only [push_cast, reduceIte, reduceCtorEq, Nat.reduceEqDiff, Nat.reduceLT, Nat.reduceLeDiff, Nat.reduceAdd, Nat.reduceMul, Nat.reduceMod, Nat.reduceDiv, Nat.reduceSub, Int.reduceToNat]))
    | refine awp_xseq hT fun K hKs => ?_ | refine awp_x hT fun K hKr => ?_ | refine awp_dseq hT hm (by decide +kernel) fun K hKs => ?_ | refine awp_d hT hm (by decide +kernel) fun K hKr => ?_
    | refine awp_block ?_ | refine awp_scope ?_ | refine awp_seq ?_ | ((first | refine awp_label ?_ | refine awp_skip ?_ | refine awp_exit ?_ | refine awp_ret ?_); simp only [push_cast, reduceIte, reduceCtorEq, Nat.reduceEqDiff, Nat.reduceLT, Nat.reduceLeDiff, Nat.reduceAdd, Nat.reduceMul, Nat.reduceMod, Nat.reduceDiv, Nat.reduceSub, Int.reduceToNat])
    | (refine awp_cond _ rfl (fun h => ?_) (fun h => ?_) <;> simp only [bh, decide_eq_true_eq, decide_eq_false_iff_not, eq_self, not_true_eq_false, not_false_eq_true, reduceCtorEq, Bool.true_eq_false, Bool.false_eq_true, bne_self_eq_false, beq_self_eq_true] at h))
        all_goals first | omega | exact (fun hh => hh) | (simp only [List.length_take, List.length_drop, List.length_append, List.length_map, List.length_cons, List.length_nil, List.length_replicate, List.length_set]; omega) | (intro hh; (try simp only [hh, Bool.not_false, Bool.not_true, Bool.true_and, Bool.and_true, eq_self, true_and, and_true]); (try simp only [bh, decide_eq_true_eq, decide_eq_false_iff_not] at hh); (first | done | omega | (simp only [List.length_take, List.length_drop, List.length_append, List.length_map, List.length_cons, List.length_nil, List.length_replicate, List.length_set]; omega))) | (intro hh; simp only [hh, Bool.not_false, Bool.not_true, Bool.true_and, Bool.and_true, eq_self, true_and, and_true]; intro h2; simp only [h2, Bool.not_false, Bool.not_true]; done) | (exact rfl) | skip
      · rw [decide_eq_false hq0] at hqs
        repeat' (first
    | ((first | refine aopsx_own 79 rfl rfl (by decide) fun K' hK' => ?_); simp only [push_cast, reduceIte, reduceCtorEq, Nat.reduceEqDiff, Nat.reduceLT, Nat.reduceLeDiff, Nat.reduceAdd, Nat.reduceMul, Nat.reduceMod, Nat.reduceDiv, Nat.reduceSub, Int.reduceToNat, b1, b2, hset, pubP, List.nil_append, bne_self_eq_false]; (try simp (disch := omega) only [wrap64, Int.toNat_natCast]); (repeat refine and_rev ?_ ?_); refine hK' _ ?_; clear hK' K')
    | ((first | refine aopsx_cons (by rfl) fun K' hK' => ?_ | refine aops_cons (by rfl) fun K' hK' => ?_); simp only [push_cast, reduceIte, reduceCtorEq, Nat.reduceEqDiff, Nat.reduceLT, Nat.reduceLeDiff, Nat.reduceAdd, Nat.reduceMul, Nat.reduceMod, Nat.reduceDiv, Nat.reduceSub, Int.reduceToNat, b1, b2, hset, pubP, List.nil_append, bne_self_eq_false]; (try simp (disch := omega) only [wrap64, Int.toNat_natCast]); (repeat refine and_rev ?_ ?_); (first | refine hK' _ ?_ | ((first | refine ⟨_, ⟨(by first | exact hqs), (by first | exact .inr rfl | exact .inl (by simp [AV.fresh, AV.freshL]))⟩, ?_⟩ | refine ⟨_, fun hb => ⟨(by first | exact hqs), (by first | exact .inr rfl | exact .inl (by simp [AV.fresh, AV.freshL]))⟩, ?_⟩); (try simp only [push_cast, reduceIte, reduceCtorEq, Nat.reduceEqDiff, Nat.reduceLT, Nat.reduceLeDiff, Nat.reduceAdd, Nat.reduceMul, Nat.reduceMod, Nat.reduceDiv, Nat.reduceSub, Int.reduceToNat, b1, b2, hset, pubP, List.nil_append, bne_self_eq_false]); (try simp (disch := omega) only [wrap64, Int.toNat_natCast]); (repeat refine and_rev ?_ ?_); refine hK' _ ?_) | ((first | refine ⟨ps.flatMap avP, ⟨hlp, (fun el j he hj => src_all ps el j he hj), oneP _, by omega, by omega⟩, ?_⟩); refine hK' _ ?_) | (refine ⟨.v (.int .i64 0), ?_⟩; refine hK' _ ?_)); clear hK' K')
    | (refine aopsx_skip (by rfl) (by rfl) (by simp only [dstOk, Nat.reduceLT]) ?_; simp only [St.put])
    | ((first | refine aopsx_nil ?_ | refine aops_nil ?_); first | (refine hKs _ ?_; clear hKs K) | (refine hKr _ ?_; clear hKr K; simp only [push_cast, reduceIte, reduceCtorEq, Nat.reduceEqDiff, Nat.reduceLT, Nat.reduceLeDiff, Nat.reduceAdd, Nat.reduceMul, Nat.reduceMod, Nat.reduceDiv, Nat.reduceSub, Int.reduceToNat]))
    | refine awp_xseq hT fun K hKs => ?_ | refine awp_x hT fun K hKr => ?_ | refine awp_dseq hT hm (by decide +kernel) fun K hKs => ?_ | refine awp_d hT hm (by decide +kernel) fun K hKr => ?_
    | refine awp_block ?_ | refine awp_scope ?_ | refine awp_seq ?_ | ((first | refine awp_label ?_ | refine awp_skip ?_ | refine awp_exit ?_ | refine awp_ret ?_); simp only [push_cast, reduceIte, reduceCtorEq, Nat.reduceEqDiff, Nat.reduceLT, Nat.reduceLeDiff, Nat.reduceAdd, Nat.reduceMul, Nat.reduceMod, Nat.reduceDiv, Nat.reduceSub, Int.reduceToNat])
    | (refine awp_cond _ rfl (fun h => ?_) (fun h => ?_) <;> simp only [bh, decide_eq_true_eq, decide_eq_false_iff_not, eq_self, not_true_eq_false, not_false_eq_true, reduceCtorEq, Bool.true_eq_false, Bool.false_eq_true, bne_self_eq_false, beq_self_eq_true] at h))
        all_goals first | omega | exact (fun hh => hh) | (simp only [List.length_take, List.length_drop, List.length_append, List.length_map, List.length_cons, List.length_nil, List.length_replicate, List.length_set]; omega) | (intro hh; (try simp only [hh, Bool.not_false, Bool.not_true, Bool.true_and, Bool.and_true, eq_self, true_and, and_true]); (try simp only [bh, decide_eq_true_eq, decide_eq_false_iff_not] at hh); (first | done | omega | (simp only [List.length_take, List.length_drop, List.length_append, List.length_map, List.length_cons, List.length_nil, List.length_replicate, List.length_set]; omega))) | (intro hh; simp only [hh, Bool.not_false, Bool.not_true, Bool.true_and, Bool.and_true, eq_self, true_and, and_true]; intro h2; simp only [h2, Bool.not_false, Bool.not_true]; done) | (exact rfl) | skip
  · rw [decide_eq_false h] at hu
    repeat' (first
    | ((first | refine aopsx_cons (by rfl) fun K' hK' => ?_ | refine aops_cons (by rfl) fun K' hK' => ?_); simp only [push_cast, reduceIte, reduceCtorEq, Nat.reduceEqDiff, Nat.reduceLT, Nat.reduceLeDiff, Nat.reduceAdd, Nat.reduceMul, Nat.reduceMod, Nat.reduceDiv, Nat.reduceSub, Int.reduceToNat]; (try simp (disch := omega) only [wrap64, Int.toNat_natCast]); (repeat refine and_rev ?_ ?_); (first | refine hK' _ ?_ | ((first | refine ⟨_, ⟨(by first | exact head_ok | exact hu), (by first | exact .inr rfl | exact .inl (by simp [AV.fresh, AV.freshL]))⟩, ?_⟩ | refine ⟨_, fun hb => ⟨(by first | exact head_ok | exact hu), (by first | exact .inr rfl | exact .inl (by simp [AV.fresh, AV.freshL]))⟩, ?_⟩); (try simp only [push_cast, reduceIte, reduceCtorEq, Nat.reduceEqDiff, Nat.reduceLT, Nat.reduceLeDiff, Nat.reduceAdd, Nat.reduceMul, Nat.reduceMod, Nat.reduceDiv, Nat.reduceSub, Int.reduceToNat]); (try simp (disch := omega) only [wrap64, Int.toNat_natCast]); (repeat refine and_rev ?_ ?_); refine hK' _ ?_) | (refine ⟨.v (.int .i64 0), ?_⟩; refine hK' _ ?_)); clear hK' K')
    | (refine aopsx_skip (by rfl) (by rfl) (by simp only [dstOk, Nat.reduceLT]) ?_; simp only [St.put])
    | ((first | refine aopsx_nil ?_ | refine aops_nil ?_); first | (refine hKs _ ?_; clear hKs K) | (refine hKr _ ?_; clear hKr K; simp only [push_cast, reduceIte, reduceCtorEq, Nat.reduceEqDiff, Nat.reduceLT, Nat.reduceLeDiff, Nat.reduceAdd, Nat.reduceMul, Nat.reduceMod, Nat.reduceDiv, Nat.reduceSub, Int.reduceToNat]))
    | refine awp_xseq hT fun K hKs => ?_ | refine awp_x hT fun K hKr => ?_ | refine awp_dseq hT hm (by decide +kernel) fun K hKs => ?_ | refine awp_d hT hm (by decide +kernel) fun K hKr => ?_
    | refine awp_block ?_ | refine awp_scope ?_ | refine awp_seq ?_ | ((first | refine awp_label ?_ | refine awp_skip ?_ | refine awp_exit ?_ | refine awp_ret ?_); simp only [push_cast, reduceIte, reduceCtorEq, Nat.reduceEqDiff, Nat.reduceLT, Nat.reduceLeDiff, Nat.reduceAdd, Nat.reduceMul, Nat.reduceMod, Nat.reduceDiv, Nat.reduceSub, Int.reduceToNat])
    | (refine awp_cond _ rfl (fun h => ?_) (fun h => ?_) <;> simp only [bh, decide_eq_true_eq, decide_eq_false_iff_not, eq_self, not_true_eq_false, not_false_eq_true, reduceCtorEq, Bool.true_eq_false, Bool.false_eq_true, bne_self_eq_false, beq_self_eq_true] at h))
    all_goals first | omega | exact (fun hh => hh) | (simp only [List.length_take, List.length_drop, List.length_append, List.length_map, List.length_cons, List.length_nil, List.length_replicate, List.length_set]; omega) | (intro hh; (try simp only [hh, Bool.not_false, Bool.not_true, Bool.true_and, Bool.and_true, eq_self, true_and, and_true]); (try simp only [bh, decide_eq_true_eq, decide_eq_false_iff_not] at hh); (first | done | omega | (simp only [List.length_take, List.length_drop, List.length_append, List.length_map, List.length_cons, List.length_nil, List.length_replicate, List.length_set]; omega))) | (intro hh; simp only [hh, Bool.not_false, Bool.not_true, Bool.true_and, Bool.and_true, eq_self, true_and, and_true]; intro h2; simp only [h2, Bool.not_false, Bool.not_true]; done) | (exact rfl) | skip
end Go.Proofs.Ytgcomonjkcpkaaa
