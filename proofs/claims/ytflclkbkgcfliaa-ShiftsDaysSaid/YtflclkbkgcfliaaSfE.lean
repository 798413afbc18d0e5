/- Part of a proof about the given program: contracts of its functions (see the comment of the last text). -/
import Derived.Test.YtflclkbkgcfliaaSfD
import Derived.Test.YtflclkbkgcfliaaZoW
namespace Go.Proofs.Ytflclkbkgcfliaa
open Go.Eng Go.Proofs Go.Zo
set_option linter.unusedSimpArgs false
set_option linter.unusedVariables false
attribute [local irreducible] AOps AOpsX AOps2 AOpsS AWP AAnyS Go.Eng.Pure PureRow

/-! The days of a short stretch. -/
theorem cnt_two {z : Zn} (hv : validZ z = true) {a b : Int} (hab : a ≤ b) (hl : b - a ≤ 1440) : ∃ c o1 o2, a ≤ c ∧ c ≤ b ∧ (-60 ≤ o1 - o2 ∧ o1 - o2 ≤ 60) ∧ ∀ d, cnt z a b d = max (min (c + o1) ((d + 1) * 1440) - max (a + o1) (d * 1440)) 0 + max (min (b + o2) ((d + 1) * 1440) - max (c + o2) (d * 1440)) 0 := by
  obtain ⟨c, o1, o2, q1, q2, q3, q4, q5⟩ := off_switch hv hab (by omega)
  refine ⟨c, o1, o2, q1, q2, q3, fun d => ?_⟩
  have e1 := cnt_step d (Int.le_refl _) q1 q4
  have e2 := cnt_step d q1 q2 q5
  have e0 : cnt z a a d = 0 := sumI_empty _ (Int.le_refl _)
  rw [e2, e1, e0]; omega
theorem cnt_conv {z : Zn} (hv : validZ z = true) {a b : Int} (hab : a ≤ b) (hl : b - a ≤ 1440) {d1 d d2 : Int} (h1 : 0 < cnt z a b d1) (h2 : 0 < cnt z a b d2) (k1 : d1 < d) (k2 : d < d2) : 0 < cnt z a b d := by
  obtain ⟨c, o1, o2, q1, q2, q3, q4⟩ := cnt_two hv hab hl
  rw [q4] at h1 h2 ⊢
  omega
theorem cnt_three {z : Zn} (hv : validZ z = true) {a b : Int} (hab : a ≤ b) (hl : b - a ≤ 1440) {d1 d2 : Int} (h1 : 0 < cnt z a b d1) (h2 : 0 < cnt z a b d2) : d2 - d1 ≤ 2 := by
  obtain ⟨c, o1, o2, q1, q2, q3, q4⟩ := cnt_two hv hab hl
  rw [q4] at h1 h2
  omega
theorem getD_mem' {l : List Int} {i : Nat} (h : i < l.length) : l.getD i 0 ∈ l := by
  have : l.getD i 0 = l[i] := by simp [List.getD_eq_getElem?_getD, h]
  rw [this]; exact List.getElem_mem h
theorem day_succ {z : Zn} (hv : validZ z = true) {a b : Int} (hab : a ≤ b) (hl : b - a ≤ 1440) {i : Nat} (h : i + 1 < (dayL z a b).length) : (dayL z a b).getD (i + 1) 0 = (dayL z a b).getD i 0 + 1 := by
  have h1 := (mem_dayL hv).1 (getD_mem' (l := dayL z a b) (i := i) (by omega))
  have h2 := (mem_dayL hv).1 (getD_mem' (l := dayL z a b) h)
  have hlt := day_lt h
  apply Classical.byContradiction
  intro hne
  have hm := (mem_dayL hv).2 (cnt_conv hv hab hl h1 h2 (show (dayL z a b).getD i 0 < (dayL z a b).getD i 0 + 1 by omega) (by omega))
  obtain ⟨j, hj, e⟩ := List.getElem_of_mem hm
  have hp : (dayL z a b).Pairwise (· < ·) := filI_asc _ _ _
  have g : ∀ k (hk : k < (dayL z a b).length), (dayL z a b).getD k 0 = (dayL z a b)[k] := fun k hk => by simp [List.getD_eq_getElem?_getD, hk]
  have pw := List.pairwise_iff_getElem.1 hp
  rw [g i (by omega)] at e hne
  rw [g (i + 1) h, g i (by omega)] at hlt
  rw [g (i + 1) h] at hne
  rcases Nat.lt_trichotomy j i with c | c | c
  · have := pw j i hj (by omega) c; omega
  · subst c; omega
  · by_cases c2 : j = i + 1
    · subst c2; omega
    · have := pw (i + 1) j h hj (by omega); omega
theorem day_len {z : Zn} (hv : validZ z = true) {a b : Int} (hab : a < b) (hl : b - a ≤ 1440) : 1 ≤ (dayL z a b).length ∧ (dayL z a b).length ≤ 3 := by
  constructor
  · have hm : loc z a / 1440 ∈ dayL z a b := (mem_dayL hv).2 (sumI_pos (fun s _ _ => cnt_01 z _ s) (Int.le_refl a) hab (by show Zo.b1 (decide _) = 1; rw [decide_eq_true rfl]; rfl))
    exact List.length_pos_of_mem hm
  · apply Classical.byContradiction
    intro hc
    have e1 := day_succ hv (Int.le_of_lt hab) hl (i := 0) (by omega)
    have e2 := day_succ hv (Int.le_of_lt hab) hl (i := 1) (by omega)
    have e3 := day_succ hv (Int.le_of_lt hab) hl (i := 2) (by omega)
    have h1 := (mem_dayL hv).1 (getD_mem' (l := dayL z a b) (i := 0) (by omega))
    have h2 := (mem_dayL hv).1 (getD_mem' (l := dayL z a b) (i := 3) (by omega))
    have := cnt_three hv (Int.le_of_lt hab) hl h1 h2
    simp only [Nat.zero_add, Nat.reduceAdd] at e1 e2 e3
    omega
/-- A day between two days of a short stretch is in it. -/
theorem whole {z : Zn} (hv : validZ z = true) {a b d : Int} (hab : a ≤ b) (hl : b - a ≤ 1440) (h0 : 0 ≤ a) (hb : b ≤ 52596000) (h1 : 0 < cnt z a b (d - 1)) (h2 : 0 < cnt z a b (d + 1)) : cnt z a b d = cnt z 0 52596000 d := by
  refine (cnt_cut h0 hab hb fun t t1 t2 ht => ?_).symm
  have ex : ∀ x, 0 < cnt z a b x → ∃ s, a ≤ s ∧ s < b ∧ loc z s / 1440 = x := fun x hx => by
    obtain ⟨s, s1, s2, s3⟩ := sumI_ex (fun t _ _ => by have := cnt_01 z x t; omega) hx
    refine ⟨s, s1, s2, ?_⟩
    unfold Zo.b1 at s3
    split at s3
    · rename_i e; simpa using e
    · cases s3
  obtain ⟨s, s1, s2, s3⟩ := ex _ h1
  obtain ⟨r, r1, r2, r3⟩ := ex _ h2
  have bt := off_bounds hv t
  have bs := off_bounds hv s
  have br := off_bounds hv r
  unfold loc at ht s3 r3
  constructor
  · apply Classical.byContradiction
    intro hc
    have nts := off_near hv (t := t) (s := s) (by omega) (by omega)
    obtain ⟨c, o1, o2, q1, q2, q3, q4, q5⟩ := off_switch hv (t := t) (s := t + 2880) (by omega) (by omega)
    have et : t < c → off z t = o1 := fun h => q4 t (Int.le_refl _) h
    have et2 : c ≤ t → off z t = o2 := fun h => q5 t h (by omega)
    have es : s < c → off z s = o1 := fun h => q4 s (by omega) h
    have es2 : c ≤ s → off z s = o2 := fun h => q5 s h (by omega)
    have er : r < c → off z r = o1 := fun h => q4 r (by omega) h
    have er2 : c ≤ r → off z r = o2 := fun h => q5 r h (by omega)
    by_cases ct : t < c
    · rw [et ct] at ht nts
      by_cases cs : s < c
      · rw [es cs] at s3; omega
      · rw [es2 (by omega)] at s3 nts
        by_cases cr : r < c
        · rw [er cr] at r3; omega
        · rw [er2 (by omega)] at r3; omega
    · rw [et2 (by omega)] at ht
      rw [es2 (by omega)] at s3; omega
  · apply Classical.byContradiction
    intro hc
    have ntr := off_near hv (t := r) (s := t) (by omega) (by omega)
    obtain ⟨c, o1, o2, q1, q2, q3, q4, q5⟩ := off_switch hv (t := t - 2879) (s := t + 1) (by omega) (by omega)
    have et : t < c → off z t = o1 := fun h => q4 t (by omega) h
    have et2 : c ≤ t → off z t = o2 := fun h => q5 t h (by omega)
    have es : s < c → off z s = o1 := fun h => q4 s (by omega) h
    have es2 : c ≤ s → off z s = o2 := fun h => q5 s h (by omega)
    have er : r < c → off z r = o1 := fun h => q4 r (by omega) h
    have er2 : c ≤ r → off z r = o2 := fun h => q5 r h (by omega)
    by_cases ct : t < c
    · rw [et ct] at ht
      rw [er (by omega)] at r3; omega
    · rw [et2 (by omega)] at ht ntr
      by_cases cr : r < c
      · rw [er cr] at r3 ntr
        by_cases cs : s < c
        · rw [es cs] at s3; omega
        · rw [es2 (by omega)] at s3; omega
      · rw [er2 (by omega)] at r3; omega
set_option maxRecDepth 20000 in
set_option maxHeartbeats 16000000 in
theorem ldays_ok (base : Int) (l : List Po) (fr ln nr : Int) (hb : In64 base) (hl : okL2 l) (h1 : In64 fr) (h2 : In64 ln) (h3 : In64 nr) : Pure Try.prog 12 [I64 base, avPs l, I64 fr, I64 ln, I64 nr] (BL true) := by
  have hh := shead_ok
  have zc := zonec_ok base l hb hl
  have hz := zone_ok base l
  have hv := zone_valid base l
  have dc := dutyc_ok (zoneF base l) fr ln nr hz (fun j hj => by have := zone_at base l hj; omega) h1 h2 h3 (by rw [zone_len]; omega)
  have hdb := duty_bounds base l fr ln nr
  have hdv := duty_valid base l fr ln nr
  have hdo := duty_ok base l fr ln nr
  generalize zoneF base l = Z at *
  generalize dutyF Z fr ln nr = D at *
  have m1 := min_ok Z D hz hdo
  rw [min_good hv hdv (by omega) (by omega), avSp] at m1
  have hdl := day_len hv (show D.fr < D.to_ by omega) (by omega)
  have hpl : (portF Z D.fr D.to_).length = (dayL Z D.fr D.to_).length := by simp [portF]
  have hval : ∀ i, i < (portF Z D.fr D.to_).length → 0 < ((portF Z D.fr D.to_).getD i default).2 ∧ ((portF Z D.fr D.to_).getD i default).2 ≤ 6000 := fun i hi => by
    obtain ⟨e1, e2⟩ := port_at hv hi
    have := cnt_nonneg Z (a := D.fr) (b := D.to_) (by omega) ((dayL Z D.fr D.to_).getD i 0)
    rw [e1]
    exact ⟨e2, by show cnt Z _ _ _ ≤ _; omega⟩
  have hday : ∀ i, i < (portF Z D.fr D.to_).length → -10 ≤ ((portF Z D.fr D.to_).getD i default).1 ∧ ((portF Z D.fr D.to_).getD i default).1 ≤ 100000 := fun i hi => by
    rw [(port_at hv hi).1]
    have := (day_at hv (show D.fr ≤ D.to_ by omega) (show i < (dayL Z D.fr D.to_).length by omega)).2
    show -10 ≤ (dayL Z D.fr D.to_).getD i 0 ∧ (dayL Z D.fr D.to_).getD i 0 ≤ 100000
    omega
  have hsuc : ∀ i, i + 1 < (portF Z D.fr D.to_).length → ((portF Z D.fr D.to_).getD (i + 1) default).1 = ((portF Z D.fr D.to_).getD i default).1 + 1 := fun i hi => by
    rw [(port_at hv (i := i) (by omega)).1, (port_at hv hi).1]
    exact day_succ hv (show D.fr ≤ D.to_ by omega) (by omega) (by omega)
  have sc := sumc_ok (portF Z D.fr D.to_) (by omega) hval
  rw [sumP_port hv (by omega)] at sc
  have hmid : (portF Z D.fr D.to_).length = 3 → ((portF Z D.fr D.to_).getD 1 default).2 = lenF Z ((portF Z D.fr D.to_).getD 1 default).1 := fun h => by
    obtain ⟨e0, f0⟩ := port_at hv (a := D.fr) (b := D.to_) (i := 0) (by omega)
    obtain ⟨e1, f1⟩ := port_at hv (a := D.fr) (b := D.to_) (i := 1) (by omega)
    obtain ⟨e2, f2⟩ := port_at hv (a := D.fr) (b := D.to_) (i := 2) (by omega)
    have g1 := day_succ hv (show D.fr ≤ D.to_ by omega) (by omega) (i := 0) (by omega)
    have g2 := day_succ hv (show D.fr ≤ D.to_ by omega) (by omega) (i := 1) (by omega)
    simp only [Nat.zero_add, Nat.reduceAdd] at g1 g2
    rw [e1]
    show cnt Z D.fr D.to_ ((dayL Z D.fr D.to_).getD 1 0) = lenF Z ((dayL Z D.fr D.to_).getD 1 0)
    have hr := (day_at hv (show D.fr ≤ D.to_ by omega) (show 1 < (dayL Z D.fr D.to_).length by omega)).2
    rw [whole hv (show D.fr ≤ D.to_ by omega) (by omega) (by omega) (by omega) (by rw [show (dayL Z D.fr D.to_).getD 1 0 - 1 = (dayL Z D.fr D.to_).getD 0 0 by omega]; exact f0) (by rw [← g2]; exact f2)]
    unfold lenF
    rw [if_pos (by rw [hv, decide_eq_true (show 0 ≤ (dayL Z D.fr D.to_).getD 1 0 by omega), decide_eq_true (show (dayL Z D.fr D.to_).getD 1 0 ≤ 36524 by omega)]; rfl)]
  rw [← hpl] at hdl
  have rl := rlength_ok Z ((portF Z D.fr D.to_).getD 1 default).1 hz
  generalize portF Z D.fr D.to_ = P at *
  generalize lenF Z (P.getD 1 default).1 = N at *
  refine pure_of (n := 106) (res := [.tmp 10]) hT Try.func12 rfl rfl rfl Try.ntmps12 (Nat.le_of_ble_eq_true rfl) fun B w0 => ?_
  have b1 : decide ((P.length : Int) < 1) = false := decide_eq_false (by omega)
  have b2 : decide ((3 : Int) < (P.length : Int)) = false := decide_eq_false (by omega)
  repeat' (first | ((first | refine aopss_cons hT (by rfl) fun K' hK' => ?_ | refine aops_cons (by rfl) fun K' hK' => ?_); simp only [push_cast, reduceIte, reduceCtorEq, Nat.reduceEqDiff, Nat.reduceLT, Nat.reduceLeDiff, Nat.reduceAdd, Nat.reduceMul, Nat.reduceMod, Nat.reduceDiv, Nat.reduceSub, Int.reduceToNat, b1, b2]; (try simp (disch := omega) only [wrap64, Int.toNat_natCast]); (repeat refine and_rev ?_ ?_); (first | refine hK' _ ?_ | ((first | apply con1 | (apply con3; (intro hb; first | exact hb | exact ⟨hb, hb⟩ | exact ⟨hb, hb, hb⟩ | exact ⟨hb, hb, hb, hb⟩ | (simp only [hb, true_and, and_true, Bool.and_true, Bool.true_and]; done))) | apply con2); (try intro hb); (first | exact hh | exact zc | exact dc | exact m1); (try intro hb); (first | exact .inr rfl | exact .inl (by simp [AV.fresh, AV.freshL])); (try simp only [push_cast, reduceIte, reduceCtorEq, Nat.reduceEqDiff, Nat.reduceLT, Nat.reduceLeDiff, Nat.reduceAdd, Nat.reduceMul, Nat.reduceMod, Nat.reduceDiv, Nat.reduceSub, Int.reduceToNat, b1, b2]); (try simp (disch := omega) only [wrap64, Int.toNat_natCast]); (repeat refine and_rev ?_ ?_); refine hK' _ ?_) | (refine ⟨.v (.int .i64 0), ?_⟩; refine hK' _ ?_)); clear hK' K') | (refine aopss_skip hT (by rfl) (by rfl) (by simp only [dstOk, Nat.reduceLT]) ?_; simp only [St.put]) | ((first | refine aopss_nil ?_ | refine aops_nil ?_); refine hKs _ ?_; clear hKs K) | ((first | ((first | refine aopss_nil ?_ | refine aops_nil ?_); refine hKr _ ?_; clear hKr K) | refine awp_label ?_ | refine awp_skip ?_ | refine awp_exit ?_ | refine awp_ret ?_); simp only [push_cast, reduceIte, reduceCtorEq, Nat.reduceEqDiff, Nat.reduceLT, Nat.reduceLeDiff, Nat.reduceAdd, Nat.reduceMul, Nat.reduceMod, Nat.reduceDiv, Nat.reduceSub, Int.reduceToNat]) | refine awp_sseq fun K hKs => ?_ | refine awp_s fun K hKr => ?_ | refine awp_dseq hT hm (by decide +kernel) fun K hKs => ?_ | refine awp_d hT hm (by decide +kernel) fun K hKr => ?_ | refine awp_block ?_ | refine awp_scope ?_ | refine awp_seq ?_ | (refine awp_cond _ rfl (fun h => ?_) (fun h => ?_) <;> simp only [bh, decide_eq_true_eq, decide_eq_false_iff_not, eq_self, not_true_eq_false, not_false_eq_true, reduceCtorEq, Bool.true_eq_false, Bool.false_eq_true, bne_self_eq_false, beq_self_eq_true] at h))
  all_goals first | omega | exact (fun hh => hh) | (simp only [List.length_take, List.length_drop, List.length_append, List.length_map, List.length_cons, List.length_nil, List.length_replicate, List.length_set]; omega) | (intro hh; (try simp only [hh, Bool.not_false, Bool.not_true, Bool.true_and, Bool.and_true, eq_self, true_and, and_true]); (try simp only [bh, decide_eq_true_eq, decide_eq_false_iff_not] at hh); (first | done | omega | (simp only [List.length_take, List.length_drop, List.length_append, List.length_map, List.length_cons, List.length_nil, List.length_replicate, List.length_set]; omega) | (intro h2; simp only [h2, Bool.not_false, Bool.not_true]; done))) | exact rfl | skip
  refine awp_loop (α := Nat) (fun i => ⟨[(11, BL true), (12, .p 12 0), (13, .p 13 0), (14, avPs P), (16, I64 i)], [(12, .box 24 (.avs [STR Z.nm, I64 Z.base, avCs Z.cs])), (13, .box 55 (.avs [I64 D.fr, I64 D.to_, I64 D.sk]))]⟩) (fun i => i ≤ P.length) (fun i => P.length - i) 0 (Nat.zero_le _) (G.wk ⟨rfl, rfl, rfl, rfl, rfl, trivial⟩ ⟨rfl, rfl, trivial⟩) fun i hi => ?_
  by_cases hlt : i < P.length
  · have bl : decide ((i : Int) < (P.length : Int)) = true := decide_eq_true (by omega)
    have hvl := hval i hlt
    have b3 : decide (1 ≤ (P.getD i default).2) = true := decide_eq_true (by omega)
    have hti : ((i : Int) - 1).toNat = i - 1 := by omega
    rcases Nat.eq_zero_or_pos i with h0 | h0
    · subst h0
      have b4 : (((0 : Nat) : Int) == 0) = true := rfl
      repeat' (first | ((first | refine aopss_cons hT (by rfl) fun K' hK' => ?_ | refine aops_cons (by rfl) fun K' hK' => ?_); simp only [push_cast, reduceIte, reduceCtorEq, Nat.reduceEqDiff, Nat.reduceLT, Nat.reduceLeDiff, Nat.reduceAdd, Nat.reduceMul, Nat.reduceMod, Nat.reduceDiv, Nat.reduceSub, Int.reduceToNat, bl, b3, b4]; (try simp (disch := omega) only [wrap64, Int.toNat_natCast]); (repeat refine and_rev ?_ ?_); (first | refine hK' _ ?_ | (refine ⟨.v (.int .i64 0), ?_⟩; refine hK' _ ?_)); clear hK' K') | (refine aopss_skip hT (by rfl) (by rfl) (by simp only [dstOk, Nat.reduceLT]) ?_; simp only [St.put]) | ((first | refine aopss_nil ?_ | refine aops_nil ?_); refine hKs _ ?_; clear hKs K) | ((first | ((first | refine aopss_nil ?_ | refine aops_nil ?_); refine hKr _ ?_; clear hKr K) | refine awp_label ?_ | refine awp_skip ?_ | refine awp_exit ?_ | refine awp_ret ?_); simp only [push_cast, reduceIte, reduceCtorEq, Nat.reduceEqDiff, Nat.reduceLT, Nat.reduceLeDiff, Nat.reduceAdd, Nat.reduceMul, Nat.reduceMod, Nat.reduceDiv, Nat.reduceSub, Int.reduceToNat]) | refine awp_sseq fun K hKs => ?_ | refine awp_s fun K hKr => ?_ | refine awp_dseq hT hm (by decide +kernel) fun K hKs => ?_ | refine awp_d hT hm (by decide +kernel) fun K hKr => ?_ | refine awp_block ?_ | refine awp_scope ?_ | refine awp_seq ?_ | (refine awp_cond _ rfl (fun h => ?_) (fun h => ?_) <;> simp only [bh, decide_eq_true_eq, decide_eq_false_iff_not, eq_self, not_true_eq_false, not_false_eq_true, reduceCtorEq, Bool.true_eq_false, Bool.false_eq_true, bne_self_eq_false, beq_self_eq_true] at h))
      all_goals first | omega | exact (fun hh => hh) | (simp only [List.length_take, List.length_drop, List.length_append, List.length_map, List.length_cons, List.length_nil, List.length_replicate, List.length_set]; omega) | (intro hh; (try simp only [hh, Bool.not_false, Bool.not_true, Bool.true_and, Bool.and_true, eq_self, true_and, and_true]); (try simp only [bh, decide_eq_true_eq, decide_eq_false_iff_not] at hh); (first | done | omega | (simp only [List.length_take, List.length_drop, List.length_append, List.length_map, List.length_cons, List.length_nil, List.length_replicate, List.length_set]; omega) | (intro h2; simp only [h2, Bool.not_false, Bool.not_true]; done))) | exact rfl | skip
      all_goals exact ⟨1, ⟨by show 1 ≤ _; omega, by show _ - 1 < _ - 0; omega⟩, G.wk ⟨rfl, rfl, rfl, rfl, rfl, trivial⟩ ⟨rfl, rfl, trivial⟩⟩
    · have b4 : ((i : Int) == 0) = false := beq_eq_false_iff_ne.2 (by omega)
      have hs1 := hsuc (i - 1) (by omega)
      rw [Nat.sub_add_cancel h0] at hs1
      have hd1 := hday (i - 1) (by omega)
      have b5 : ((P.getD i default).1 == (P.getD (i - 1) default).1 + 1) = true := beq_iff_eq.2 hs1
      repeat' (first | ((first | refine aopss_cons hT (by rfl) fun K' hK' => ?_ | refine aops_cons (by rfl) fun K' hK' => ?_); simp only [push_cast, reduceIte, reduceCtorEq, Nat.reduceEqDiff, Nat.reduceLT, Nat.reduceLeDiff, Nat.reduceAdd, Nat.reduceMul, Nat.reduceMod, Nat.reduceDiv, Nat.reduceSub, Int.reduceToNat, bl, b3, b4, hti, b5]; (try simp (disch := omega) only [wrap64, Int.toNat_natCast]); (repeat refine and_rev ?_ ?_); (first | refine hK' _ ?_ | (refine ⟨.v (.int .i64 0), ?_⟩; refine hK' _ ?_)); clear hK' K') | (refine aopss_skip hT (by rfl) (by rfl) (by simp only [dstOk, Nat.reduceLT]) ?_; simp only [St.put]) | ((first | refine aopss_nil ?_ | refine aops_nil ?_); refine hKs _ ?_; clear hKs K) | ((first | ((first | refine aopss_nil ?_ | refine aops_nil ?_); refine hKr _ ?_; clear hKr K) | refine awp_label ?_ | refine awp_skip ?_ | refine awp_exit ?_ | refine awp_ret ?_); simp only [push_cast, reduceIte, reduceCtorEq, Nat.reduceEqDiff, Nat.reduceLT, Nat.reduceLeDiff, Nat.reduceAdd, Nat.reduceMul, Nat.reduceMod, Nat.reduceDiv, Nat.reduceSub, Int.reduceToNat]) | refine awp_sseq fun K hKs => ?_ | refine awp_s fun K hKr => ?_ | refine awp_dseq hT hm (by decide +kernel) fun K hKs => ?_ | refine awp_d hT hm (by decide +kernel) fun K hKr => ?_ | refine awp_block ?_ | refine awp_scope ?_ | refine awp_seq ?_ | (refine awp_cond _ rfl (fun h => ?_) (fun h => ?_) <;> simp only [bh, decide_eq_true_eq, decide_eq_false_iff_not, eq_self, not_true_eq_false, not_false_eq_true, reduceCtorEq, Bool.true_eq_false, Bool.false_eq_true, bne_self_eq_false, beq_self_eq_true] at h))
      all_goals first | omega | exact (fun hh => hh) | (simp only [List.length_take, List.length_drop, List.length_append, List.length_map, List.length_cons, List.length_nil, List.length_replicate, List.length_set]; omega) | (intro hh; (try simp only [hh, Bool.not_false, Bool.not_true, Bool.true_and, Bool.and_true, eq_self, true_and, and_true]); (try simp only [bh, decide_eq_true_eq, decide_eq_false_iff_not] at hh); (first | done | omega | (simp only [List.length_take, List.length_drop, List.length_append, List.length_map, List.length_cons, List.length_nil, List.length_replicate, List.length_set]; omega) | (intro h2; simp only [h2, Bool.not_false, Bool.not_true]; done))) | exact rfl | skip
      all_goals exact ⟨i + 1, ⟨by show i + 1 ≤ _; omega, by show _ - (i + 1) < _ - i; omega⟩, G.wk ⟨rfl, rfl, rfl, rfl, rfl, trivial⟩ ⟨rfl, rfl, trivial⟩⟩
  · obtain rfl : i = P.length := by omega
    have bl : decide ((P.length : Int) < (P.length : Int)) = false := decide_eq_false (by omega)
    by_cases h3 : P.length = 3
    · have b3 : ((P.length : Int) == 3) = true := beq_iff_eq.2 (by omega)
      have b4 : ((P.getD 1 default).2 == N) = true := beq_iff_eq.2 (hmid h3)
      repeat' (first | ((first | refine aopss_cons hT (by rfl) fun K' hK' => ?_ | refine aops_cons (by rfl) fun K' hK' => ?_); simp only [push_cast, reduceIte, reduceCtorEq, Nat.reduceEqDiff, Nat.reduceLT, Nat.reduceLeDiff, Nat.reduceAdd, Nat.reduceMul, Nat.reduceMod, Nat.reduceDiv, Nat.reduceSub, Int.reduceToNat, bl, b3, b4, beq_self_eq_true]; (try simp (disch := omega) only [wrap64, Int.toNat_natCast]); (repeat refine and_rev ?_ ?_); (first | refine hK' _ ?_ | ((first | apply con1 | (apply con3; (intro hb; first | exact hb | exact ⟨hb, hb⟩ | exact ⟨hb, hb, hb⟩ | exact ⟨hb, hb, hb, hb⟩ | (simp only [hb, true_and, and_true, Bool.and_true, Bool.true_and]; done))) | apply con2); (try intro hb); (first | exact rl | exact sc); (try intro hb); (first | exact .inr rfl | exact .inl (by simp [AV.fresh, AV.freshL])); (try simp only [push_cast, reduceIte, reduceCtorEq, Nat.reduceEqDiff, Nat.reduceLT, Nat.reduceLeDiff, Nat.reduceAdd, Nat.reduceMul, Nat.reduceMod, Nat.reduceDiv, Nat.reduceSub, Int.reduceToNat, bl, b3, b4, beq_self_eq_true]); (try simp (disch := omega) only [wrap64, Int.toNat_natCast]); (repeat refine and_rev ?_ ?_); refine hK' _ ?_) | (refine ⟨.v (.int .i64 0), ?_⟩; refine hK' _ ?_)); clear hK' K') | (refine aopss_skip hT (by rfl) (by rfl) (by simp only [dstOk, Nat.reduceLT]) ?_; simp only [St.put]) | ((first | refine aopss_nil ?_ | refine aops_nil ?_); refine hKs _ ?_; clear hKs K) | ((first | ((first | refine aopss_nil ?_ | refine aops_nil ?_); refine hKr _ ?_; clear hKr K) | refine awp_label ?_ | refine awp_skip ?_ | refine awp_exit ?_ | refine awp_ret ?_); simp only [push_cast, reduceIte, reduceCtorEq, Nat.reduceEqDiff, Nat.reduceLT, Nat.reduceLeDiff, Nat.reduceAdd, Nat.reduceMul, Nat.reduceMod, Nat.reduceDiv, Nat.reduceSub, Int.reduceToNat]) | refine awp_sseq fun K hKs => ?_ | refine awp_s fun K hKr => ?_ | refine awp_dseq hT hm (by decide +kernel) fun K hKs => ?_ | refine awp_d hT hm (by decide +kernel) fun K hKr => ?_ | refine awp_block ?_ | refine awp_scope ?_ | refine awp_seq ?_ | (refine awp_cond _ rfl (fun h => ?_) (fun h => ?_) <;> simp only [bh, decide_eq_true_eq, decide_eq_false_iff_not, eq_self, not_true_eq_false, not_false_eq_true, reduceCtorEq, Bool.true_eq_false, Bool.false_eq_true, bne_self_eq_false, beq_self_eq_true] at h))
      all_goals first | omega | exact (fun hh => hh) | (simp only [List.length_take, List.length_drop, List.length_append, List.length_map, List.length_cons, List.length_nil, List.length_replicate, List.length_set]; omega) | (intro hh; (try simp only [hh, Bool.not_false, Bool.not_true, Bool.true_and, Bool.and_true, eq_self, true_and, and_true]); (try simp only [bh, decide_eq_true_eq, decide_eq_false_iff_not] at hh); (first | done | omega | (simp only [List.length_take, List.length_drop, List.length_append, List.length_map, List.length_cons, List.length_nil, List.length_replicate, List.length_set]; omega) | (intro h2; simp only [h2, Bool.not_false, Bool.not_true]; done))) | exact rfl | skip
      all_goals done
    · have b3 : ((P.length : Int) == 3) = false := beq_eq_false_iff_ne.2 (by omega)
      repeat' (first | ((first | refine aopss_cons hT (by rfl) fun K' hK' => ?_ | refine aops_cons (by rfl) fun K' hK' => ?_); simp only [push_cast, reduceIte, reduceCtorEq, Nat.reduceEqDiff, Nat.reduceLT, Nat.reduceLeDiff, Nat.reduceAdd, Nat.reduceMul, Nat.reduceMod, Nat.reduceDiv, Nat.reduceSub, Int.reduceToNat, bl, b3, beq_self_eq_true]; (try simp (disch := omega) only [wrap64, Int.toNat_natCast]); (repeat refine and_rev ?_ ?_); (first | refine hK' _ ?_ | ((first | apply con1 | (apply con3; (intro hb; first | exact hb | exact ⟨hb, hb⟩ | exact ⟨hb, hb, hb⟩ | exact ⟨hb, hb, hb, hb⟩ | (simp only [hb, true_and, and_true, Bool.and_true, Bool.true_and]; done))) | apply con2); (try intro hb); (first | exact sc); (try intro hb); (first | exact .inr rfl | exact .inl (by simp [AV.fresh, AV.freshL])); (try simp only [push_cast, reduceIte, reduceCtorEq, Nat.reduceEqDiff, Nat.reduceLT, Nat.reduceLeDiff, Nat.reduceAdd, Nat.reduceMul, Nat.reduceMod, Nat.reduceDiv, Nat.reduceSub, Int.reduceToNat, bl, b3, beq_self_eq_true]); (try simp (disch := omega) only [wrap64, Int.toNat_natCast]); (repeat refine and_rev ?_ ?_); refine hK' _ ?_) | (refine ⟨.v (.int .i64 0), ?_⟩; refine hK' _ ?_)); clear hK' K') | (refine aopss_skip hT (by rfl) (by rfl) (by simp only [dstOk, Nat.reduceLT]) ?_; simp only [St.put]) | ((first | refine aopss_nil ?_ | refine aops_nil ?_); refine hKs _ ?_; clear hKs K) | ((first | ((first | refine aopss_nil ?_ | refine aops_nil ?_); refine hKr _ ?_; clear hKr K) | refine awp_label ?_ | refine awp_skip ?_ | refine awp_exit ?_ | refine awp_ret ?_); simp only [push_cast, reduceIte, reduceCtorEq, Nat.reduceEqDiff, Nat.reduceLT, Nat.reduceLeDiff, Nat.reduceAdd, Nat.reduceMul, Nat.reduceMod, Nat.reduceDiv, Nat.reduceSub, Int.reduceToNat]) | refine awp_sseq fun K hKs => ?_ | refine awp_s fun K hKr => ?_ | refine awp_dseq hT hm (by decide +kernel) fun K hKs => ?_ | refine awp_d hT hm (by decide +kernel) fun K hKr => ?_ | refine awp_block ?_ | refine awp_scope ?_ | refine awp_seq ?_ | (refine awp_cond _ rfl (fun h => ?_) (fun h => ?_) <;> simp only [bh, decide_eq_true_eq, decide_eq_false_iff_not, eq_self, not_true_eq_false, not_false_eq_true, reduceCtorEq, Bool.true_eq_false, Bool.false_eq_true, bne_self_eq_false, beq_self_eq_true] at h))
      all_goals first | omega | exact (fun hh => hh) | (simp only [List.length_take, List.length_drop, List.length_append, List.length_map, List.length_cons, List.length_nil, List.length_replicate, List.length_set]; omega) | (intro hh; (try simp only [hh, Bool.not_false, Bool.not_true, Bool.true_and, Bool.and_true, eq_self, true_and, and_true]); (try simp only [bh, decide_eq_true_eq, decide_eq_false_iff_not] at hh); (first | done | omega | (simp only [List.length_take, List.length_drop, List.length_append, List.length_map, List.length_cons, List.length_nil, List.length_replicate, List.length_set]; omega) | (intro h2; simp only [h2, Bool.not_false, Bool.not_true]; done))) | exact rfl | skip
      all_goals done
end Go.Proofs.Ytflclkbkgcfliaa
