/- Part of a proof about the given program: contracts of its functions (see the comment of the last text). -/
import Derived.Test.YtflclkbkgcfliaaSfA
import Derived.Test.YtflclkbkgcfliaaEngG6
namespace Go.Proofs.Ytflclkbkgcfliaa
open Go.Eng Go.Proofs Go.Zo
set_option linter.unusedSimpArgs false
set_option linter.unusedVariables false
attribute [local irreducible] AOps AOpsX AOps2 AOpsS AWP AAnyS Go.Eng.Pure PureRow

/-- The zone of a list of numbers. -/
def zst (base : Int) (l : List Po) : Nat → Int × Int × List Ch
  | 0 => (0, pickF base 1441 - 720, [])
  | i + 1 => ((zst base l i).1 + (2880 + pickF (l.getD i default).1 400000), max (-720) (min 720 ((zst base l i).2.1 + pickF (l.getD i default).2 121 - 60)), (zst base l i).2.2 ++ [⟨(zst base l i).1 + (2880 + pickF (l.getD i default).1 400000), max (-720) (min 720 ((zst base l i).2.1 + pickF (l.getD i default).2 121 - 60))⟩])
def zoneF (base : Int) (l : List Po) : Zn := ⟨⟨#[122]⟩, pickF base 1441 - 720, (zst base l (min l.length 12)).2.2⟩
theorem getD_app1 {cs : List Ch} {c : Ch} {j : Nat} (h : j < cs.length) : (cs ++ [c]).getD j default = cs.getD j default := by
  simp [List.getD_eq_getElem?_getD, List.getElem?_append_left h]
theorem getD_app2 (cs : List Ch) (c : Ch) : (cs ++ [c]).getD cs.length default = c := by
  simp [List.getD_eq_getElem?_getD]
theorem before_app {nm : ByteArray} {b : Int} {cs : List Ch} {c : Ch} {j : Nat} (h : j ≤ cs.length) : before ⟨nm, b, cs ++ [c]⟩ j = before ⟨nm, b, cs⟩ j := by
  unfold before
  by_cases h0 : j = 0
  · rw [if_pos h0, if_pos h0]
  · rw [if_neg h0, if_neg h0]
    show ((cs ++ [c]).getD (j - 1) default).of_ = (cs.getD (j - 1) default).of_
    rw [getD_app1 (by omega)]
theorem okC_app {nm : ByteArray} {b : Int} {cs : List Ch} {c : Ch} {j : Nat} (h : j < cs.length) : okC ⟨nm, b, cs ++ [c]⟩ j = okC ⟨nm, b, cs⟩ j := by
  simp only [okC, chN, before_app (nm := nm) (b := b) (c := c) (show j ≤ cs.length by omega), getD_app1 (c := c) h, getD_app1 (c := c) (show j - 1 < cs.length by omega)]
theorem zst_spec (nm : ByteArray) (base : Int) (l : List Po) : ∀ i : Nat, i ≤ 12 → (zst base l i).2.2.length = i ∧ (0 ≤ (zst base l i).1 ∧ (zst base l i).1 ≤ i * 402880) ∧ (-720 ≤ (zst base l i).2.1 ∧ (zst base l i).2.1 ≤ 720) ∧ before ⟨nm, pickF base 1441 - 720, (zst base l i).2.2⟩ i = (zst base l i).2.1 ∧ (0 < i → ((zst base l i).2.2.getD (i - 1) default).at_ = (zst base l i).1) ∧ (∀ j, j < i → okC ⟨nm, pickF base 1441 - 720, (zst base l i).2.2⟩ j = true) ∧ (∀ j, j < i → 0 ≤ ((zst base l i).2.2.getD j default).at_ ∧ ((zst base l i).2.2.getD j default).at_ ≤ 4834560)
  | 0, _ => by
    have := pickF_bounds base (n := 1441) (by decide)
    refine ⟨rfl, by simp [zst], ?_, rfl, fun h => absurd h (by decide), fun j hj => by omega, fun j hj => by omega⟩
    simp only [zst]; omega
  | i + 1, hi => by
    obtain ⟨h1, h2, h3, h4, h5, h6, h7⟩ := zst_spec nm base l i (by omega)
    have p1 := pickF_bounds (l.getD i default).1 (n := 400000) (by decide)
    have p2 := pickF_bounds (l.getD i default).2 (n := 121) (by decide)
    simp only [zst]
    generalize (zst base l i).1 = A at *
    generalize (zst base l i).2.1 = O at *
    generalize (zst base l i).2.2 = cs at *
    generalize pickF (l.getD i default).1 400000 = x at *
    generalize pickF (l.getD i default).2 121 = y at *
    have e : (cs ++ [(⟨A + (2880 + x), max (-720) (min 720 (O + y - 60))⟩ : Ch)]).getD i default = ⟨A + (2880 + x), max (-720) (min 720 (O + y - 60))⟩ := by rw [← h1]; exact getD_app2 _ _
    refine ⟨by simp [h1], by omega, by omega, ?_, fun _ => ?_, fun j hj => ?_, fun j hj => ?_⟩
    · unfold before
      rw [if_neg (by omega)]
      show ((cs ++ [_]).getD (i + 1 - 1) default).of_ = _
      rw [Nat.add_sub_cancel, e]
    · rw [Nat.add_sub_cancel, e]
    · by_cases hji : j < i
      · rw [okC_app (by omega)]; exact h6 j hji
      · obtain rfl : j = i := by omega
        have eb : before ⟨nm, pickF base 1441 - 720, cs ++ [(⟨A + (2880 + x), max (-720) (min 720 (O + y - 60))⟩ : Ch)]⟩ j = O := by rw [before_app (by omega), h4]
        have e' : chN (cs ++ [(⟨A + (2880 + x), max (-720) (min 720 (O + y - 60))⟩ : Ch)]) j = ⟨A + (2880 + x), max (-720) (min 720 (O + y - 60))⟩ := e
        have hg : j = 0 ∨ 2880 ≤ A + (2880 + x) - ((cs ++ [(⟨A + (2880 + x), max (-720) (min 720 (O + y - 60))⟩ : Ch)]).getD (j - 1) default).at_ := by
          by_cases h0 : j = 0
          · exact .inl h0
          · rw [getD_app1 (by omega), h5 (by omega)]; exact .inr (by omega)
        simp only [okC, bh, decide_eq_true_eq, e', eb]
        exact ⟨⟨⟨⟨⟨⟨by omega, by omega⟩, hg⟩, by omega⟩, by omega⟩, by omega⟩, by omega⟩
    · by_cases hji : j < i
      · rw [getD_app1 (by omega)]; exact h7 j hji
      · obtain rfl : j = i := by omega
        rw [e]
        show 0 ≤ A + (2880 + x) ∧ A + (2880 + x) ≤ _
        omega
theorem zone_len (base : Int) (l : List Po) : (zoneF base l).cs.length = min l.length 12 := (zst_spec ⟨#[122]⟩ base l (min l.length 12) (by omega)).1
theorem zone_valid (base : Int) (l : List Po) : validZ (zoneF base l) = true := by
  obtain ⟨h1, _, _, _, _, h6, _⟩ := zst_spec ⟨#[122]⟩ base l (min l.length 12) (by omega)
  have := pickF_bounds base (n := 1441) (by decide)
  refine validZ_true (by rw [zone_len]; omega) ?_ ?_ (fun i hi => ?_)
  · show -840 ≤ pickF base 1441 - 720; omega
  · show pickF base 1441 - 720 ≤ 840; omega
  · rw [zone_len] at hi; exact h6 i hi
theorem zone_at (base : Int) (l : List Po) {j : Nat} (h : j < (zoneF base l).cs.length) : 0 ≤ ((zoneF base l).cs.getD j default).at_ ∧ ((zoneF base l).cs.getD j default).at_ ≤ 4834560 := by
  rw [zone_len] at h
  exact (zst_spec ⟨#[122]⟩ base l (min l.length 12) (by omega)).2.2.2.2.2.2 j h
theorem valid_okZ {z : Zn} (hv : validZ z = true) (hn : z.nm.size ≤ 9223372036854775807) : okZ z := by
  obtain ⟨v1, v2, v3⟩ := validZ_spec hv
  refine ⟨hn, ⟨by omega, by omega⟩, fun c hc => ?_, by omega⟩
  obtain ⟨i, hi, rfl⟩ := List.getElem_of_mem hc
  have e : chN z.cs i = z.cs[i] := by simp [chN, List.getD_eq_getElem?_getD, hi]
  obtain ⟨q1, _, q2, _⟩ := okC_spec (v3 i hi)
  rw [e] at q1 q2
  exact ⟨⟨by omega, by omega⟩, ⟨by omega, by omega⟩⟩
theorem zone_ok (base : Int) (l : List Po) : okZ (zoneF base l) := valid_okZ (zone_valid base l) (Nat.le_of_ble_eq_true rfl)
theorem pubCm (l : List Ch) (fl : Bool) (H : List (Nat × Blk)) (n : Nat) : (l.flatMap avC).map (AV.pub fl H (n + 1)) = l.flatMap avC := by
  induction l with
  | nil => rfl
  | cons p ps ih => rw [List.flatMap_cons, List.map_append, ih]; rfl
set_option maxHeartbeats 16000000 in
theorem zone_raw (base : Int) (l : List Po) (hb : In64 base) (hl : okL2 l) : Pure Try.prog 38 [I64 base, avPs l] (.a [STR ⟨#[122]⟩, I64 (pickF base 1441 - 720), .i true (fun e j => ((zoneF base l).cs.flatMap avC).getD (e * 2 + j) .top) 2 0 (((zoneF base l).cs.flatMap avC).length / 2)]) := by
  have p1 := pick_ok base 1441 hb (by decide) (by decide)
  have hpb := pickF_bounds base (n := 1441) (by decide)
  refine pure_of2 (n := 54) (res := [.cell 4 24]) hT Try.func38 rfl rfl rfl Try.ntmps38 (Nat.le_of_ble_eq_true rfl) fun B w0 hgh hrd => ?_
  obtain ⟨P, hP⟩ : ∃ P, P = pickF base 1441 - 720 := ⟨_, rfl⟩
  have hP' : pickF base 1441 - 720 = P := hP.symm
  have hz0 : (zst base l 0).2.1 = P := hP'
  rw [hP']
  repeat' (first | ((first | refine aopss_cons hT (by rfl) fun K' hK' => ?_ | refine aops_cons (by rfl) fun K' hK' => ?_); simp only [push_cast, reduceIte, reduceCtorEq, Nat.reduceEqDiff, Nat.reduceLT, Nat.reduceLeDiff, Nat.reduceAdd, Nat.reduceMul, Nat.reduceMod, Nat.reduceDiv, Nat.reduceSub, Int.reduceToNat, hP']; (try simp (disch := omega) only [wrap64, Int.toNat_natCast]); (repeat refine and_rev ?_ ?_); (first | refine hK' _ ?_ | ((first | apply con1 | (apply con3; (intro hb; first | exact hb | exact ⟨hb, hb⟩ | exact ⟨hb, hb, hb⟩ | exact ⟨hb, hb, hb, hb⟩ | (simp only [hb, true_and, and_true, Bool.and_true, Bool.true_and]; done))) | apply con2); (try intro hb); (first | exact p1); (try intro hb); (first | exact .inr rfl | exact .inl (by simp [AV.fresh, AV.freshL])); (try simp only [push_cast, reduceIte, reduceCtorEq, Nat.reduceEqDiff, Nat.reduceLT, Nat.reduceLeDiff, Nat.reduceAdd, Nat.reduceMul, Nat.reduceMod, Nat.reduceDiv, Nat.reduceSub, Int.reduceToNat, hP']); (try simp (disch := omega) only [wrap64, Int.toNat_natCast]); (repeat refine and_rev ?_ ?_); refine hK' _ ?_) | (refine ⟨.v (.int .i64 0), ?_⟩; refine hK' _ ?_)); clear hK' K') | (refine aopss_skip hT (by rfl) (by rfl) (by simp only [dstOk, Nat.reduceLT]) ?_; simp only [St.put]) | ((first | refine aopss_nil ?_ | refine aops_nil ?_); refine hKs _ ?_; clear hKs K) | ((first | ((first | refine aopss_nil ?_ | refine aops_nil ?_); refine hKr _ ?_; clear hKr K) | refine awp_label ?_ | refine awp_skip ?_ | refine awp_exit ?_ | refine awp_ret ?_); simp only [push_cast, reduceIte, reduceCtorEq, Nat.reduceEqDiff, Nat.reduceLT, Nat.reduceLeDiff, Nat.reduceAdd, Nat.reduceMul, Nat.reduceMod, Nat.reduceDiv, Nat.reduceSub, Int.reduceToNat]) | refine awp_sseq fun K hKs => ?_ | refine awp_s fun K hKr => ?_ | refine awp_dseq hT hm (by decide +kernel) fun K hKs => ?_ | refine awp_d hT hm (by decide +kernel) fun K hKr => ?_ | refine awp_block ?_ | refine awp_scope ?_ | refine awp_seq ?_ | (refine awp_cond _ rfl (fun h => ?_) (fun h => ?_) <;> simp only [bh, decide_eq_true_eq, decide_eq_false_iff_not, eq_self, not_true_eq_false, not_false_eq_true, reduceCtorEq, Bool.true_eq_false, Bool.false_eq_true, bne_self_eq_false, beq_self_eq_true] at h))
  all_goals first | omega | exact (fun hh => hh) | (simp only [List.length_take, List.length_drop, List.length_append, List.length_map, List.length_cons, List.length_nil, List.length_replicate, List.length_set]; omega) | (intro hh; (try simp only [hh, Bool.not_false, Bool.not_true, Bool.true_and, Bool.and_true, eq_self, true_and, and_true]); (try simp only [bh, decide_eq_true_eq, decide_eq_false_iff_not] at hh); (first | done | omega | (simp only [List.length_take, List.length_drop, List.length_append, List.length_map, List.length_cons, List.length_nil, List.length_replicate, List.length_set]; omega) | (intro h2; simp only [h2, Bool.not_false, Bool.not_true]; done))) | exact rfl | skip
  refine awp_conv _ (fun a w h => G.nilBoxAt h 5 51 2 24 52 2 (.avs []) [STR ⟨#[122]⟩, I64 P, .v (.slice none 0 0)] rfl rfl rfl (by show 2 < 3; decide) (by decide) rfl (hgh 51)) ?_
  simp only [push_cast, reduceIte, reduceCtorEq, Nat.reduceEqDiff, Nat.reduceLT, Nat.reduceLeDiff, Nat.reduceAdd, Nat.reduceMul, Nat.reduceMod, Nat.reduceDiv, Nat.reduceSub, Int.reduceToNat]
  refine awp_loop (α := Nat) (fun i => ⟨[(1, avPs l), (4, .p 4 0), (5, .p 5 0), (6, I64 (zst base l i).1), (7, I64 (zst base l i).2.1), (8, I64 i)], [(4, .box 24 (.avs [STR ⟨#[]⟩, I64 0, .v (.slice none 0 0)])), (5, .box 24 (.avs [STR ⟨#[122]⟩, I64 P, .s 51])), (51, .row 52 2 (.avs ((zst base l i).2.2.flatMap avC)))]⟩) (fun i => i ≤ min l.length 12) (fun i => 12 - i) 0 (Nat.zero_le _) (G.wk ⟨rfl, rfl, rfl, rfl, by rw [hz0]; rfl, rfl, trivial⟩ ⟨rfl, rfl, rfl, trivial⟩) fun i hi => ?_
  have hsp := zst_spec ⟨#[122]⟩ base l i (by omega)
  by_cases hlt : i < min l.length 12
  · have bl : decide ((i : Int) < (l.length : Int)) = true := decide_eq_true (by omega)
    have bl2 : decide ((i : Int) < 12) = true := decide_eq_true (by omega)
    obtain ⟨k1, k2⟩ := okL2_nth hl (show i < l.length by omega)
    have q1 := pick_ok (l.getD i default).1 400000 k1 (by decide) (by decide)
    have q2 := pick_ok (l.getD i default).2 121 k2 (by decide) (by decide)
    have b1 := pickF_bounds (l.getD i default).1 (n := 400000) (by decide)
    have b2 := pickF_bounds (l.getD i default).2 (n := 121) (by decide)
    have hs1 : (zst base l (i + 1)).1 = (zst base l i).1 + (2880 + pickF (l.getD i default).1 400000) := rfl
    have hs2 : (zst base l (i + 1)).2.1 = max (-720) (min 720 ((zst base l i).2.1 + pickF (l.getD i default).2 121 - 60)) := rfl
    have hs3 : (zst base l (i + 1)).2.2.flatMap avC = (zst base l i).2.2.flatMap avC ++ [I64 ((zst base l i).1 + (2880 + pickF (l.getD i default).1 400000)), I64 (max (-720) (min 720 ((zst base l i).2.1 + pickF (l.getD i default).2 121 - 60)))] := by
      show ((zst base l i).2.2 ++ [_]).flatMap avC = _
      rw [List.flatMap_append]; rfl
    have hln := lenC2 (zst base l i).2.2
    obtain ⟨h1, h2, h3, _⟩ := hsp
    generalize (zst base l i).1 = A at *
    generalize (zst base l i).2.1 = O at *
    generalize (zst base l i).2.2 = cs at *
    generalize pickF (l.getD i default).1 400000 = x at *
    generalize pickF (l.getD i default).2 121 = y at *
    obtain ⟨M, hM⟩ : ∃ M, M = max (-720) (min 720 (O + y - 60)) := ⟨_, rfl⟩
    have hM' : max (-720) (min 720 (O + y - 60)) = M := hM.symm
    rw [hM'] at hs2 hs3
    repeat' (first | ((first | refine aopss_cons hT (by rfl) fun K' hK' => ?_ | refine aops_cons (by rfl) fun K' hK' => ?_); simp only [push_cast, reduceIte, reduceCtorEq, Nat.reduceEqDiff, Nat.reduceLT, Nat.reduceLeDiff, Nat.reduceAdd, Nat.reduceMul, Nat.reduceMod, Nat.reduceDiv, Nat.reduceSub, Int.reduceToNat, bl, bl2, hM']; (try simp (disch := omega) only [wrap64, Int.toNat_natCast]); (repeat refine and_rev ?_ ?_); (first | refine hK' _ ?_ | ((first | apply con1 | (apply con3; (intro hb; first | exact hb | exact ⟨hb, hb⟩ | exact ⟨hb, hb, hb⟩ | exact ⟨hb, hb, hb, hb⟩ | (simp only [hb, true_and, and_true, Bool.and_true, Bool.true_and]; done))) | apply con2); (try intro hb); (first | exact q1 | exact q2); (try intro hb); (first | exact .inr rfl | exact .inl (by simp [AV.fresh, AV.freshL])); (try simp only [push_cast, reduceIte, reduceCtorEq, Nat.reduceEqDiff, Nat.reduceLT, Nat.reduceLeDiff, Nat.reduceAdd, Nat.reduceMul, Nat.reduceMod, Nat.reduceDiv, Nat.reduceSub, Int.reduceToNat, bl, bl2, hM']); (try simp (disch := omega) only [wrap64, Int.toNat_natCast]); (repeat refine and_rev ?_ ?_); refine hK' _ ?_) | ((first | refine ⟨[I64 (A + (2880 + x)), I64 M], ⟨rfl, (fun el j he hj => rfl), rfl, by omega, by omega⟩, ?_⟩ | refine ⟨[_], ⟨rfl, (fun j hj => rfl), (by first | omega | (simp only [List.length_take, List.length_drop, List.length_append, List.length_map, List.length_cons, List.length_nil, List.length_replicate, List.length_set]; omega)), (by first | omega | (simp only [List.length_take, List.length_drop, List.length_append, List.length_map, List.length_cons, List.length_nil, List.length_replicate, List.length_set]; omega))⟩, ?_⟩ | refine ⟨_, ⟨rfl, (fun j hj => rfl), (by first | omega | (simp only [List.length_take, List.length_drop, List.length_append, List.length_map, List.length_cons, List.length_nil, List.length_replicate, List.length_set]; omega)), (by first | omega | (simp only [List.length_take, List.length_drop, List.length_append, List.length_map, List.length_cons, List.length_nil, List.length_replicate, List.length_set]; omega))⟩, ?_⟩ | refine ⟨_, ⟨(by first | omega | (simp only [List.length_take, List.length_drop, List.length_append, List.length_map, List.length_cons, List.length_nil, List.length_replicate, List.length_set]; omega)), src_t _ _, (by first | omega | (simp only [List.length_take, List.length_drop, List.length_append, List.length_map, List.length_cons, List.length_nil, List.length_replicate, List.length_set]; omega)), (by first | omega | (simp only [List.length_take, List.length_drop, List.length_append, List.length_map, List.length_cons, List.length_nil, List.length_replicate, List.length_set]; omega))⟩, ?_⟩ | refine ⟨_, ⟨(by first | omega | (simp only [List.length_take, List.length_drop, List.length_append, List.length_map, List.length_cons, List.length_nil, List.length_replicate, List.length_set]; omega)), src_dt _ _ _, (by first | omega | (simp only [List.length_take, List.length_drop, List.length_append, List.length_map, List.length_cons, List.length_nil, List.length_replicate, List.length_set]; omega)), (by first | omega | (simp only [List.length_take, List.length_drop, List.length_append, List.length_map, List.length_cons, List.length_nil, List.length_replicate, List.length_set]; omega))⟩, ?_⟩ | refine ⟨_, ⟨(by first | omega | (simp only [List.length_take, List.length_drop, List.length_append, List.length_map, List.length_cons, List.length_nil, List.length_replicate, List.length_set]; omega)), (by first | omega | (simp only [List.length_take, List.length_drop, List.length_append, List.length_map, List.length_cons, List.length_nil, List.length_replicate, List.length_set]; omega)), src_t _ _, (by first | omega | (simp only [List.length_take, List.length_drop, List.length_append, List.length_map, List.length_cons, List.length_nil, List.length_replicate, List.length_set]; omega)), (by first | omega | (simp only [List.length_take, List.length_drop, List.length_append, List.length_map, List.length_cons, List.length_nil, List.length_replicate, List.length_set]; omega))⟩, ?_⟩ | refine ⟨_, ⟨(by first | omega | (simp only [List.length_take, List.length_drop, List.length_append, List.length_map, List.length_cons, List.length_nil, List.length_replicate, List.length_set]; omega)), (by first | omega | (simp only [List.length_take, List.length_drop, List.length_append, List.length_map, List.length_cons, List.length_nil, List.length_replicate, List.length_set]; omega)), src_dt _ _ _, (by first | omega | (simp only [List.length_take, List.length_drop, List.length_append, List.length_map, List.length_cons, List.length_nil, List.length_replicate, List.length_set]; omega)), (by first | omega | (simp only [List.length_take, List.length_drop, List.length_append, List.length_map, List.length_cons, List.length_nil, List.length_replicate, List.length_set]; omega))⟩, ?_⟩); refine hK' _ ?_) | (refine ⟨.v (.int .i64 0), ?_⟩; refine hK' _ ?_)); clear hK' K') | (refine aopss_skip hT (by rfl) (by rfl) (by simp only [dstOk, Nat.reduceLT]) ?_; simp only [St.put]) | ((first | refine aopss_nil ?_ | refine aops_nil ?_); refine hKs _ ?_; clear hKs K) | ((first | ((first | refine aopss_nil ?_ | refine aops_nil ?_); refine hKr _ ?_; clear hKr K) | refine awp_label ?_ | refine awp_skip ?_ | refine awp_exit ?_ | refine awp_ret ?_); simp only [push_cast, reduceIte, reduceCtorEq, Nat.reduceEqDiff, Nat.reduceLT, Nat.reduceLeDiff, Nat.reduceAdd, Nat.reduceMul, Nat.reduceMod, Nat.reduceDiv, Nat.reduceSub, Int.reduceToNat]) | refine awp_sseq fun K hKs => ?_ | refine awp_s fun K hKr => ?_ | refine awp_dseq hT hm (by decide +kernel) fun K hKs => ?_ | refine awp_d hT hm (by decide +kernel) fun K hKr => ?_ | refine awp_block ?_ | refine awp_scope ?_ | refine awp_seq ?_ | (refine awp_cond _ rfl (fun h => ?_) (fun h => ?_) <;> simp only [bh, decide_eq_true_eq, decide_eq_false_iff_not, eq_self, not_true_eq_false, not_false_eq_true, reduceCtorEq, Bool.true_eq_false, Bool.false_eq_true, bne_self_eq_false, beq_self_eq_true] at h))
    all_goals first | omega | exact (fun hh => hh) | (simp only [List.length_take, List.length_drop, List.length_append, List.length_map, List.length_cons, List.length_nil, List.length_replicate, List.length_set]; omega) | (intro hh; (try simp only [hh, Bool.not_false, Bool.not_true, Bool.true_and, Bool.and_true, eq_self, true_and, and_true]); (try simp only [bh, decide_eq_true_eq, decide_eq_false_iff_not] at hh); (first | done | omega | (simp only [List.length_take, List.length_drop, List.length_append, List.length_map, List.length_cons, List.length_nil, List.length_replicate, List.length_set]; omega) | (intro h2; simp only [h2, Bool.not_false, Bool.not_true]; done))) | exact rfl | skip
    all_goals exact ⟨i + 1, ⟨by show i + 1 ≤ _; omega, by show 12 - (i + 1) < 12 - i; omega⟩, G.wk ⟨rfl, rfl, rfl, by rw [hs1]; rfl, by rw [hs2]; rfl, rfl, trivial⟩ ⟨rfl, rfl, by rw [hs3]; rfl, trivial⟩⟩
  · obtain rfl : i = min l.length 12 := by omega
    have bl : (decide (((min l.length 12 : Nat) : Int) < (l.length : Int)) && decide (((min l.length 12 : Nat) : Int) < 12)) = false := by
      cases h : (decide (((min l.length 12 : Nat) : Int) < (l.length : Int)) && decide (((min l.length 12 : Nat) : Int) < 12)) with
      | false => rfl
      | true => simp only [Bool.and_eq_true, decide_eq_true_eq] at h; omega
    have hcs : (zst base l (min l.length 12)).2.2 = (zoneF base l).cs := rfl
    rw [hcs]
    have hpub := pubC2 (zoneF base l).cs
    generalize min l.length 12 = k at *
    by_cases hk : k < l.length
    · have b1 : decide ((k : Int) < (l.length : Int)) = true := decide_eq_true (by omega)
      have b2 : decide ((k : Int) < 12) = false := by rw [b1, Bool.true_and] at bl; exact bl
      repeat' (first | ((first | refine aopss_cons hT (by rfl) fun K' hK' => ?_ | refine aops_cons (by rfl) fun K' hK' => ?_); simp only [push_cast, reduceIte, reduceCtorEq, Nat.reduceEqDiff, Nat.reduceLT, Nat.reduceLeDiff, Nat.reduceAdd, Nat.reduceMul, Nat.reduceMod, Nat.reduceDiv, Nat.reduceSub, Int.reduceToNat, b1, b2, hpub]; (try simp (disch := omega) only [wrap64, Int.toNat_natCast]); (repeat refine and_rev ?_ ?_); (first | refine hK' _ ?_ | (refine ⟨.v (.int .i64 0), ?_⟩; refine hK' _ ?_)); clear hK' K') | (refine aopss_skip hT (by rfl) (by rfl) (by simp only [dstOk, Nat.reduceLT]) ?_; simp only [St.put]) | ((first | refine aopss_nil ?_ | refine aops_nil ?_); refine hKs _ ?_; clear hKs K) | ((first | ((first | refine aopss_nil ?_ | refine aops_nil ?_); refine hKr _ ?_; clear hKr K) | refine awp_label ?_ | refine awp_skip ?_ | refine awp_exit ?_ | refine awp_ret ?_); simp only [push_cast, reduceIte, reduceCtorEq, Nat.reduceEqDiff, Nat.reduceLT, Nat.reduceLeDiff, Nat.reduceAdd, Nat.reduceMul, Nat.reduceMod, Nat.reduceDiv, Nat.reduceSub, Int.reduceToNat]) | refine awp_sseq fun K hKs => ?_ | refine awp_s fun K hKr => ?_ | refine awp_dseq hT hm (by decide +kernel) fun K hKs => ?_ | refine awp_d hT hm (by decide +kernel) fun K hKr => ?_ | refine awp_block ?_ | refine awp_scope ?_ | refine awp_seq ?_ | (refine awp_cond _ rfl (fun h => ?_) (fun h => ?_) <;> simp only [bh, decide_eq_true_eq, decide_eq_false_iff_not, eq_self, not_true_eq_false, not_false_eq_true, reduceCtorEq, Bool.true_eq_false, Bool.false_eq_true, bne_self_eq_false, beq_self_eq_true] at h))
      all_goals first | omega | exact (fun hh => hh) | (simp only [List.length_take, List.length_drop, List.length_append, List.length_map, List.length_cons, List.length_nil, List.length_replicate, List.length_set]; omega) | (intro hh; (try simp only [hh, Bool.not_false, Bool.not_true, Bool.true_and, Bool.and_true, eq_self, true_and, and_true]); (try simp only [bh, decide_eq_true_eq, decide_eq_false_iff_not] at hh); (first | done | omega | (simp only [List.length_take, List.length_drop, List.length_append, List.length_map, List.length_cons, List.length_nil, List.length_replicate, List.length_set]; omega) | (intro h2; simp only [h2, Bool.not_false, Bool.not_true]; done))) | exact rfl | skip
      all_goals (simp only [pubCm])
    · have b1 : decide ((k : Int) < (l.length : Int)) = false := decide_eq_false (by omega)
      repeat' (first | ((first | refine aopss_cons hT (by rfl) fun K' hK' => ?_ | refine aops_cons (by rfl) fun K' hK' => ?_); simp only [push_cast, reduceIte, reduceCtorEq, Nat.reduceEqDiff, Nat.reduceLT, Nat.reduceLeDiff, Nat.reduceAdd, Nat.reduceMul, Nat.reduceMod, Nat.reduceDiv, Nat.reduceSub, Int.reduceToNat, b1, hpub]; (try simp (disch := omega) only [wrap64, Int.toNat_natCast]); (repeat refine and_rev ?_ ?_); (first | refine hK' _ ?_ | (refine ⟨.v (.int .i64 0), ?_⟩; refine hK' _ ?_)); clear hK' K') | (refine aopss_skip hT (by rfl) (by rfl) (by simp only [dstOk, Nat.reduceLT]) ?_; simp only [St.put]) | ((first | refine aopss_nil ?_ | refine aops_nil ?_); refine hKs _ ?_; clear hKs K) | ((first | ((first | refine aopss_nil ?_ | refine aops_nil ?_); refine hKr _ ?_; clear hKr K) | refine awp_label ?_ | refine awp_skip ?_ | refine awp_exit ?_ | refine awp_ret ?_); simp only [push_cast, reduceIte, reduceCtorEq, Nat.reduceEqDiff, Nat.reduceLT, Nat.reduceLeDiff, Nat.reduceAdd, Nat.reduceMul, Nat.reduceMod, Nat.reduceDiv, Nat.reduceSub, Int.reduceToNat]) | refine awp_sseq fun K hKs => ?_ | refine awp_s fun K hKr => ?_ | refine awp_dseq hT hm (by decide +kernel) fun K hKs => ?_ | refine awp_d hT hm (by decide +kernel) fun K hKr => ?_ | refine awp_block ?_ | refine awp_scope ?_ | refine awp_seq ?_ | (refine awp_cond _ rfl (fun h => ?_) (fun h => ?_) <;> simp only [bh, decide_eq_true_eq, decide_eq_false_iff_not, eq_self, not_true_eq_false, not_false_eq_true, reduceCtorEq, Bool.true_eq_false, Bool.false_eq_true, bne_self_eq_false, beq_self_eq_true] at h))
      all_goals first | omega | exact (fun hh => hh) | (simp only [List.length_take, List.length_drop, List.length_append, List.length_map, List.length_cons, List.length_nil, List.length_replicate, List.length_set]; omega) | (intro hh; (try simp only [hh, Bool.not_false, Bool.not_true, Bool.true_and, Bool.and_true, eq_self, true_and, and_true]); (try simp only [bh, decide_eq_true_eq, decide_eq_false_iff_not] at hh); (first | done | omega | (simp only [List.length_take, List.length_drop, List.length_append, List.length_map, List.length_cons, List.length_nil, List.length_replicate, List.length_set]; omega) | (intro h2; simp only [h2, Bool.not_false, Bool.not_true]; done))) | exact rfl | skip
      all_goals (simp only [pubCm])
theorem zonec_ok (base : Int) (l : List Po) (hb : In64 base) (hl : okL2 l) : Pure Try.prog 38 [I64 base, avPs l] (.a (avZ (zoneF base l))) :=
  (zone_raw base l hb hl).res (sub_a ⟨Sub.refl _, Sub.refl _, (sub_fresh).trans (sub_rowC _), trivial⟩)
/-- The duty of numbers. -/
def dutyF (z : Zn) (fr ln nr : Int) : Du :=
  let at_ := if 0 ≤ nr ∧ 0 < z.cs.length then max 1440 ((z.cs.getD (nr.toNat % z.cs.length) default).at_ - 1440 + pickF fr 2000) else 1440 + pickF fr 5000000
  ⟨at_, at_ + 1 + pickF ln 1440, pickF fr 16⟩
theorem duty_bounds (base : Int) (l : List Po) (fr ln nr : Int) : 1440 ≤ (dutyF (zoneF base l) fr ln nr).fr ∧ (dutyF (zoneF base l) fr ln nr).fr ≤ 5001440 ∧ 1 ≤ (dutyF (zoneF base l) fr ln nr).to_ - (dutyF (zoneF base l) fr ln nr).fr ∧ (dutyF (zoneF base l) fr ln nr).to_ - (dutyF (zoneF base l) fr ln nr).fr ≤ 1440 ∧ 0 ≤ (dutyF (zoneF base l) fr ln nr).sk ∧ (dutyF (zoneF base l) fr ln nr).sk < 16 := by
  have p1 := pickF_bounds fr (n := 5000000) (by decide)
  have p2 := pickF_bounds fr (n := 2000) (by decide)
  have p3 := pickF_bounds ln (n := 1440) (by decide)
  have p4 := pickF_bounds fr (n := 16) (by decide)
  unfold dutyF
  simp only
  split
  · rename_i h
    have := zone_at base l (Nat.mod_lt nr.toNat h.2)
    omega
  · omega
theorem duty_valid (base : Int) (l : List Po) (fr ln nr : Int) : vD (dutyF (zoneF base l) fr ln nr) = true := by
  have := duty_bounds base l fr ln nr
  exact decide_eq_true (by omega)
theorem duty_ok (base : Int) (l : List Po) (fr ln nr : Int) : okD (dutyF (zoneF base l) fr ln nr) := by
  have := duty_bounds base l fr ln nr
  exact ⟨⟨by omega, by omega⟩, ⟨by omega, by omega⟩, ⟨by omega, by omega⟩⟩
set_option maxHeartbeats 16000000 in
theorem dutyc_ok (z : Zn) (fr ln nr : Int) (hz : okZ z) (hv : ∀ j, j < z.cs.length → 0 ≤ (z.cs.getD j default).at_ ∧ (z.cs.getD j default).at_ ≤ 100000000) (h1 : In64 fr) (h2 : In64 ln) (h3 : In64 nr) (h4 : z.cs.length ≤ 1000) : Pure Try.prog 39 [.a (avZ z), I64 fr, I64 ln, I64 nr] (.a (avDu (dutyF z fr ln nr))) := by
  have q1 := pick_ok fr 5000000 h1 (by decide) (by decide)
  have q2 := pick_ok fr 2000 h1 (by decide) (by decide)
  have q3 := pick_ok ln 1440 h2 (by decide) (by decide)
  have q4 := pick_ok fr 16 h1 (by decide) (by decide)
  have p1 := pickF_bounds fr (n := 5000000) (by decide)
  have p2 := pickF_bounds fr (n := 2000) (by decide)
  have p3 := pickF_bounds ln (n := 1440) (by decide)
  have p4 := pickF_bounds fr (n := 16) (by decide)
  refine pure_of (n := 45) (res := [.cell 8 55]) hT Try.func39 rfl rfl rfl Try.ntmps39 (Nat.le_of_ble_eq_true rfl) fun B w0 => ?_
  unfold dutyF
  by_cases hn : 0 ≤ nr
  · have b1 : decide (0 ≤ nr) = true := decide_eq_true hn
    by_cases hc : 0 < z.cs.length
    · have b2 : decide (0 < (z.cs.length : Int)) = true := decide_eq_true (by omega)
      have b0 : ((z.cs.length : Int) == 0) = false := beq_eq_false_iff_ne.2 (by omega)
      have hk : nr.tmod (z.cs.length : Int) = ((nr.toNat % z.cs.length : Nat) : Int) := by
        rw [Int.tmod_eq_emod_of_nonneg hn, Int.natCast_emod, Int.toNat_of_nonneg hn]
      have hkl : nr.toNat % z.cs.length < z.cs.length := Nat.mod_lt _ hc
      have hat := hv _ hkl
      simp only
      rw [if_pos ⟨hn, hc⟩]
      generalize nr.toNat % z.cs.length = k at *
      generalize pickF fr 5000000 = x1 at *
      generalize pickF fr 2000 = x2 at *
      generalize pickF ln 1440 = x3 at *
      generalize pickF fr 16 = x4 at *
      obtain ⟨M, hM⟩ : ∃ M, M = max 1440 ((z.cs.getD k default).at_ - 1440 + x2) := ⟨_, rfl⟩
      have hM' : max 1440 ((z.cs.getD k default).at_ - 1440 + x2) = M := hM.symm
      rw [hM']
      have hMb : 1440 ≤ M ∧ M ≤ 200000000 := by omega
      repeat' (first | ((first | refine aopss_cons hT (by rfl) fun K' hK' => ?_ | refine aops_cons (by rfl) fun K' hK' => ?_); simp only [push_cast, reduceIte, reduceCtorEq, Nat.reduceEqDiff, Nat.reduceLT, Nat.reduceLeDiff, Nat.reduceAdd, Nat.reduceMul, Nat.reduceMod, Nat.reduceDiv, Nat.reduceSub, Int.reduceToNat, b1, b2, b0, hk, hM']; (try simp (disch := omega) only [wrap64, Int.toNat_natCast]); (repeat refine and_rev ?_ ?_); (first | refine hK' _ ?_ | ((first | apply con1 | (apply con3; (intro hb; first | exact hb | exact ⟨hb, hb⟩ | exact ⟨hb, hb, hb⟩ | exact ⟨hb, hb, hb, hb⟩ | (simp only [hb, true_and, and_true, Bool.and_true, Bool.true_and]; done))) | apply con2); (try intro hb); (first | exact q1 | exact q2 | exact q3 | exact q4); (try intro hb); (first | exact .inr rfl | exact .inl (by simp [AV.fresh, AV.freshL])); (try simp only [push_cast, reduceIte, reduceCtorEq, Nat.reduceEqDiff, Nat.reduceLT, Nat.reduceLeDiff, Nat.reduceAdd, Nat.reduceMul, Nat.reduceMod, Nat.reduceDiv, Nat.reduceSub, Int.reduceToNat, b1, b2, b0, hk, hM']); (try simp (disch := omega) only [wrap64, Int.toNat_natCast]); (repeat refine and_rev ?_ ?_); refine hK' _ ?_) | (refine ⟨.v (.int .i64 0), ?_⟩; refine hK' _ ?_)); clear hK' K') | (refine aopss_skip hT (by rfl) (by rfl) (by simp only [dstOk, Nat.reduceLT]) ?_; simp only [St.put]) | ((first | refine aopss_nil ?_ | refine aops_nil ?_); refine hKs _ ?_; clear hKs K) | ((first | ((first | refine aopss_nil ?_ | refine aops_nil ?_); refine hKr _ ?_; clear hKr K) | refine awp_label ?_ | refine awp_skip ?_ | refine awp_exit ?_ | refine awp_ret ?_); simp only [push_cast, reduceIte, reduceCtorEq, Nat.reduceEqDiff, Nat.reduceLT, Nat.reduceLeDiff, Nat.reduceAdd, Nat.reduceMul, Nat.reduceMod, Nat.reduceDiv, Nat.reduceSub, Int.reduceToNat]) | refine awp_sseq fun K hKs => ?_ | refine awp_s fun K hKr => ?_ | refine awp_dseq hT hm (by decide +kernel) fun K hKs => ?_ | refine awp_d hT hm (by decide +kernel) fun K hKr => ?_ | refine awp_block ?_ | refine awp_scope ?_ | refine awp_seq ?_ | (refine awp_cond _ rfl (fun h => ?_) (fun h => ?_) <;> simp only [bh, decide_eq_true_eq, decide_eq_false_iff_not, eq_self, not_true_eq_false, not_false_eq_true, reduceCtorEq, Bool.true_eq_false, Bool.false_eq_true, bne_self_eq_false, beq_self_eq_true] at h))
      all_goals first | omega | exact (fun hh => hh) | (simp only [List.length_take, List.length_drop, List.length_append, List.length_map, List.length_cons, List.length_nil, List.length_replicate, List.length_set]; omega) | (intro hh; (try simp only [hh, Bool.not_false, Bool.not_true, Bool.true_and, Bool.and_true, eq_self, true_and, and_true]); (try simp only [bh, decide_eq_true_eq, decide_eq_false_iff_not] at hh); (first | done | omega | (simp only [List.length_take, List.length_drop, List.length_append, List.length_map, List.length_cons, List.length_nil, List.length_replicate, List.length_set]; omega) | (intro h2; simp only [h2, Bool.not_false, Bool.not_true]; done))) | exact rfl | skip
      all_goals done
    · have b2 : decide (0 < (z.cs.length : Int)) = false := decide_eq_false (by omega)
      simp only
      rw [if_neg (fun h => hc h.2)]
      generalize pickF fr 5000000 = x1 at *
      generalize pickF ln 1440 = x3 at *
      generalize pickF fr 16 = x4 at *
      repeat' (first | ((first | refine aopss_cons hT (by rfl) fun K' hK' => ?_ | refine aops_cons (by rfl) fun K' hK' => ?_); simp only [push_cast, reduceIte, reduceCtorEq, Nat.reduceEqDiff, Nat.reduceLT, Nat.reduceLeDiff, Nat.reduceAdd, Nat.reduceMul, Nat.reduceMod, Nat.reduceDiv, Nat.reduceSub, Int.reduceToNat, b1, b2]; (try simp (disch := omega) only [wrap64, Int.toNat_natCast]); (repeat refine and_rev ?_ ?_); (first | refine hK' _ ?_ | ((first | apply con1 | (apply con3; (intro hb; first | exact hb | exact ⟨hb, hb⟩ | exact ⟨hb, hb, hb⟩ | exact ⟨hb, hb, hb, hb⟩ | (simp only [hb, true_and, and_true, Bool.and_true, Bool.true_and]; done))) | apply con2); (try intro hb); (first | exact q1 | exact q3 | exact q4); (try intro hb); (first | exact .inr rfl | exact .inl (by simp [AV.fresh, AV.freshL])); (try simp only [push_cast, reduceIte, reduceCtorEq, Nat.reduceEqDiff, Nat.reduceLT, Nat.reduceLeDiff, Nat.reduceAdd, Nat.reduceMul, Nat.reduceMod, Nat.reduceDiv, Nat.reduceSub, Int.reduceToNat, b1, b2]); (try simp (disch := omega) only [wrap64, Int.toNat_natCast]); (repeat refine and_rev ?_ ?_); refine hK' _ ?_) | (refine ⟨.v (.int .i64 0), ?_⟩; refine hK' _ ?_)); clear hK' K') | (refine aopss_skip hT (by rfl) (by rfl) (by simp only [dstOk, Nat.reduceLT]) ?_; simp only [St.put]) | ((first | refine aopss_nil ?_ | refine aops_nil ?_); refine hKs _ ?_; clear hKs K) | ((first | ((first | refine aopss_nil ?_ | refine aops_nil ?_); refine hKr _ ?_; clear hKr K) | refine awp_label ?_ | refine awp_skip ?_ | refine awp_exit ?_ | refine awp_ret ?_); simp only [push_cast, reduceIte, reduceCtorEq, Nat.reduceEqDiff, Nat.reduceLT, Nat.reduceLeDiff, Nat.reduceAdd, Nat.reduceMul, Nat.reduceMod, Nat.reduceDiv, Nat.reduceSub, Int.reduceToNat]) | refine awp_sseq fun K hKs => ?_ | refine awp_s fun K hKr => ?_ | refine awp_dseq hT hm (by decide +kernel) fun K hKs => ?_ | refine awp_d hT hm (by decide +kernel) fun K hKr => ?_ | refine awp_block ?_ | refine awp_scope ?_ | refine awp_seq ?_ | (refine awp_cond _ rfl (fun h => ?_) (fun h => ?_) <;> simp only [bh, decide_eq_true_eq, decide_eq_false_iff_not, eq_self, not_true_eq_false, not_false_eq_true, reduceCtorEq, Bool.true_eq_false, Bool.false_eq_true, bne_self_eq_false, beq_self_eq_true] at h))
      all_goals first | omega | exact (fun hh => hh) | (simp only [List.length_take, List.length_drop, List.length_append, List.length_map, List.length_cons, List.length_nil, List.length_replicate, List.length_set]; omega) | (intro hh; (try simp only [hh, Bool.not_false, Bool.not_true, Bool.true_and, Bool.and_true, eq_self, true_and, and_true]); (try simp only [bh, decide_eq_true_eq, decide_eq_false_iff_not] at hh); (first | done | omega | (simp only [List.length_take, List.length_drop, List.length_append, List.length_map, List.length_cons, List.length_nil, List.length_replicate, List.length_set]; omega) | (intro h2; simp only [h2, Bool.not_false, Bool.not_true]; done))) | exact rfl | skip
      all_goals done
  · have b1 : decide (0 ≤ nr) = false := decide_eq_false hn
    simp only
    rw [if_neg (fun h => hn h.1)]
    generalize pickF fr 5000000 = x1 at *
    generalize pickF ln 1440 = x3 at *
    generalize pickF fr 16 = x4 at *
    repeat' (first | ((first | refine aopss_cons hT (by rfl) fun K' hK' => ?_ | refine aops_cons (by rfl) fun K' hK' => ?_); simp only [push_cast, reduceIte, reduceCtorEq, Nat.reduceEqDiff, Nat.reduceLT, Nat.reduceLeDiff, Nat.reduceAdd, Nat.reduceMul, Nat.reduceMod, Nat.reduceDiv, Nat.reduceSub, Int.reduceToNat, b1]; (try simp (disch := omega) only [wrap64, Int.toNat_natCast]); (repeat refine and_rev ?_ ?_); (first | refine hK' _ ?_ | ((first | apply con1 | (apply con3; (intro hb; first | exact hb | exact ⟨hb, hb⟩ | exact ⟨hb, hb, hb⟩ | exact ⟨hb, hb, hb, hb⟩ | (simp only [hb, true_and, and_true, Bool.and_true, Bool.true_and]; done))) | apply con2); (try intro hb); (first | exact q1 | exact q3 | exact q4); (try intro hb); (first | exact .inr rfl | exact .inl (by simp [AV.fresh, AV.freshL])); (try simp only [push_cast, reduceIte, reduceCtorEq, Nat.reduceEqDiff, Nat.reduceLT, Nat.reduceLeDiff, Nat.reduceAdd, Nat.reduceMul, Nat.reduceMod, Nat.reduceDiv, Nat.reduceSub, Int.reduceToNat, b1]); (try simp (disch := omega) only [wrap64, Int.toNat_natCast]); (repeat refine and_rev ?_ ?_); refine hK' _ ?_) | (refine ⟨.v (.int .i64 0), ?_⟩; refine hK' _ ?_)); clear hK' K') | (refine aopss_skip hT (by rfl) (by rfl) (by simp only [dstOk, Nat.reduceLT]) ?_; simp only [St.put]) | ((first | refine aopss_nil ?_ | refine aops_nil ?_); refine hKs _ ?_; clear hKs K) | ((first | ((first | refine aopss_nil ?_ | refine aops_nil ?_); refine hKr _ ?_; clear hKr K) | refine awp_label ?_ | refine awp_skip ?_ | refine awp_exit ?_ | refine awp_ret ?_); simp only [push_cast, reduceIte, reduceCtorEq, Nat.reduceEqDiff, Nat.reduceLT, Nat.reduceLeDiff, Nat.reduceAdd, Nat.reduceMul, Nat.reduceMod, Nat.reduceDiv, Nat.reduceSub, Int.reduceToNat]) | refine awp_sseq fun K hKs => ?_ | refine awp_s fun K hKr => ?_ | refine awp_dseq hT hm (by decide +kernel) fun K hKs => ?_ | refine awp_d hT hm (by decide +kernel) fun K hKr => ?_ | refine awp_block ?_ | refine awp_scope ?_ | refine awp_seq ?_ | (refine awp_cond _ rfl (fun h => ?_) (fun h => ?_) <;> simp only [bh, decide_eq_true_eq, decide_eq_false_iff_not, eq_self, not_true_eq_false, not_false_eq_true, reduceCtorEq, Bool.true_eq_false, Bool.false_eq_true, bne_self_eq_false, beq_self_eq_true] at h))
    all_goals first | omega | exact (fun hh => hh) | (simp only [List.length_take, List.length_drop, List.length_append, List.length_map, List.length_cons, List.length_nil, List.length_replicate, List.length_set]; omega) | (intro hh; (try simp only [hh, Bool.not_false, Bool.not_true, Bool.true_and, Bool.and_true, eq_self, true_and, and_true]); (try simp only [bh, decide_eq_true_eq, decide_eq_false_iff_not] at hh); (first | done | omega | (simp only [List.length_take, List.length_drop, List.length_append, List.length_map, List.length_cons, List.length_nil, List.length_replicate, List.length_set]; omega) | (intro h2; simp only [h2, Bool.not_false, Bool.not_true]; done))) | exact rfl | skip
    all_goals done
end Go.Proofs.Ytflclkbkgcfliaa
