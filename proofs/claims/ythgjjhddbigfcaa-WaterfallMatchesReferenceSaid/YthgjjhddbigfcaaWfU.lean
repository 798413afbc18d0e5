/- Part of a proof about the given program: contracts of its functions (see the comment of the last text). -/
import Derived.Test.YthgjjhddbigfcaaWfQ
import Derived.Test.YthgjjhddbigfcaaWfR
import Derived.Test.YthgjjhddbigfcaaPl3
namespace Go.Proofs.Ythgjjhddbigfcaa
open Go.Eng Go.Proofs Go.Wf
set_option linter.unusedSimpArgs false
set_option linter.unusedVariables false
attribute [local irreducible] AOps AOpsX AOps2 AOpsS AWP AAnyS Go.Eng.Pure PureRow Eff
theorem evn_L (cs : List Cl) (d : List Int) (r : Int) (full : Bool) : evL cs d full (memb cs r) ↔ evn cs d r full := by
  constructor
  · intro h i hi j hj ri rj hlt
    obtain ⟨a, ha, e1⟩ := idx_pos (p := pR cs r) hi (decide_eq_true ri)
    obtain ⟨b, hb, e2⟩ := idx_pos (p := pR cs r) hj (decide_eq_true rj)
    have := h a ha b hb
    unfold memb at this
    rw [e1, e2] at this
    exact this hlt
  · intro h a ha b hb hlt
    have h1 := ZCp (p := pR cs r) ha
    have h2 := ZCp (p := pR cs r) hb
    exact h _ h1.1 _ h2.1 (ZIX h1.2) (ZIX h2.2) hlt
def smA (d : List Int) (l : List Nat) (q : Nat) : Int := sumN (fun a => d.getD (l.getD a 0) 0) q
def smP (cs : List Cl) (d : List Int) (l : List Nat) (q : Nat) : Int := sumN (fun a => if (cs.getD (l.getD a 0) default).f = false then d.getD (l.getD a 0) 0 else 0) q
theorem ZKL (cs : List Cl) (d : List Int) (r : Int) : smA d (memb cs r) (memb cs r).length = su cs.length (pK cs r false) (dv d) + su cs.length (pK cs r true) (dv d) := by
  rw [← ZCj]
  exact ZIj cs.length (pR cs r) (dv d)
theorem ZKM (cs : List Cl) (d : List Int) (r : Int) : smP cs d (memb cs r) (memb cs r).length = su cs.length (pK cs r false) (dv d) := by
  refine (ZIj cs.length (pR cs r) (fun i => if (cs.getD i default).f = false then d.getD i 0 else 0)).trans (ZAY fun i _ => ?_)
  unfold pR pK
  dsimp only
  by_cases h : (cs.getD i default).r = r
  · by_cases h2 : (cs.getD i default).f = false
    · rw [if_pos (decide_eq_true h)]; rw [if_pos h2, if_pos (decide_eq_true ⟨h, h2⟩)]
    · rw [if_pos (decide_eq_true h)]; rw [if_neg h2, if_neg (by rw [decide_eq_false (fun h3 => h2 h3.2)]; simp)]
  · rw [if_neg (by rw [decide_eq_false h]; simp), if_neg (by rw [decide_eq_false (fun h3 => h h3.1)]; simp)]
set_option maxHeartbeats 64000000 in
theorem ZEK (ps : List Po) (cs : List Cl) (g : Gr) (hps : okPs ps) (hcs : okCs cs) (hg : okG g) : Pure Try.prog 19 [avPs ps, avCs cs, .a (avG g)] (BL (decide ((vP ps ∧ vC cs) ∧ chk ps cs g.c g.fr))) := by
  have hval := ZDC ps cs hps hcs
  obtain ⟨gc, gf⟩ := g
  refine ZB6 (n := 99) (res := [.tmp 6]) hT Try.func19 rfl rfl rfl Try.ntmps19 (Nat.le_of_ble_eq_true rfl) fun B w0 hgh hrd => ?_
  by_cases hvv : vP ps ∧ vC cs
  · rw [decide_eq_true hvv] at hval
    have hfm := ZIi ps cs ⟨gc, gf⟩ hvv.1 hvv.2 hg
    obtain ⟨hp, hv⟩ := hvv
    by_cases hf : fea ps cs gc gf
    · rw [decide_eq_true hf] at hfm
      have h64 := hv.1
      have hcon := ZCD ps hp
      have hrl : (rkF cs).length ≤ cs.length := ZD9 cs _
      have hlen := hf.1.1
      have hbd : bd maxC gc := fun i hi => by
        have h1 := ZG4 hf (i := i) (by omega)
        have h2 := (hf.2.1 i (by omega)).1.2
        have h3 := (hv.2 _ (ZAc (show i < cs.length by omega))).2
        exact ⟨h1, Int.le_trans h2 h3⟩
      repeat' (first | ((first | refine sC hT fun K' hK' => ?_ | refine oC fun K' hK' => ?_); push_cast; (try simp (disch := omega) only [wrap64, Int.toNat_natCast]); (repeat refine ZAD ?_ ?_); (first | refine hK' _ ?_ | ((first | apply con1 | (apply con3; exact gd) | apply con2); (try intro hb); (first | exact hval | exact hfm | exact hcon); exact okr; refine hK' _ ?_) | refine ⟨.v (.int .i64 0), hK' _ ?_⟩); clear hK' K') | (refine sK hT ?_; simp only [St.put]) | ((first | refine ZAE (hK _ ?_) | refine ZAJ (hK _ ?_)); clear hK K; push_cast) | ((first | apply ZAC | apply ZAF | apply ZAG | apply ZAM); push_cast) | refine ZAK fun K hK => ?_ | refine ZAN fun K hK => ?_ | refine dQ hT hm fun K hK => ?_ | refine dL hT hm fun K hK => ?_ | apply ZAA | apply ZAB | apply ZAL | (refine ZAH _ rfl (fun h => ?_) (fun h => ?_) <;> simp only [bh2, reduceCtorEq] at h))
      all_goals first | exact ff | skip
      refine ZFt rfl (by simp only [dstOk, Nat.reduceLT]) fun K' hK' => ?_
      push_cast
      refine ⟨_, _, 5000, ZF4 cs hv, fun id blk h => ?_, by omega, by omega, fun id _ => hgh id, ?_, ?_, ?_⟩
      · simp only [lkH] at h
        split at h
        · omega
        · split at h
          · omega
          · cases h
      · push_cast; done
      · push_cast
        exact ZG0 _
      push_cast
      refine hK' _ ?_; clear hK' K'
      repeat' (first | ((first | refine sC hT fun K' hK' => ?_ | refine oC fun K' hK' => ?_); push_cast; (try simp (disch := omega) only [wrap64, Int.toNat_natCast]); (repeat refine ZAD ?_ ?_); (first | refine hK' _ ?_ | refine ⟨.v (.int .i64 0), hK' _ ?_⟩); clear hK' K') | (refine sK hT ?_; simp only [St.put]) | ((first | refine ZAE (hK _ ?_) | refine ZAJ (hK _ ?_)); clear hK K; push_cast) | ((first | apply ZAC | apply ZAF | apply ZAG | apply ZAM); push_cast) | refine ZAK fun K hK => ?_ | refine ZAN fun K hK => ?_ | refine dQ hT hm fun K hK => ?_ | refine dL hT hm fun K hK => ?_ | apply ZAA | apply ZAB | apply ZAL | (refine ZAH _ rfl (fun h => ?_) (fun h => ?_) <;> simp only [bh2, reduceCtorEq] at h))
      all_goals first | exact ff | skip
      refine ZAO (α := Nat) (fun k => ⟨[(0, avPs ps), (1, avCs cs), (5, .p 5 0), (7, I64 (sumP ps false)), (9, .s 5000), (11, I64 (acc cs (dv gc) false k)), (12, I64 (acc cs (dv gc) false k + acc cs (dv gc) true k)), (41, .s 5001), (42, I64 (rkF cs).length), (43, I64 k)], [(5000, .mpa true ((kys cs cs.length).map Key.i) (.avs ((rws cs cs.length).map intsF))), (5001, .row 3 1 (.ints .i64 (rkF cs))), (5, .box 27 (.avs [ints gc, avLL gf]))]⟩) (fun k => k ≤ (rkF cs).length ∧ ∀ j, j < k → rkOk ps cs gc ((rkF cs).getD j 0)) (fun k => (rkF cs).length - k) 0 ⟨Nat.zero_le _, fun j hj => by omega⟩ (G.wk ⟨rfl, rfl, rfl, rfl, rfl, rfl, rfl, rfl, rfl, rfl, trivial⟩ ⟨rfl, rfl, rfl, trivial⟩) fun k hk => ?_
      obtain ⟨hk, hall⟩ := hk
      by_cases hlt : k < (rkF cs).length
      · have c1 : decide ((k : Int) < ((rkF cs).length : Int)) = true := decide_eq_true (by omega)
        have hmem : (rkF cs).getD k 0 ∈ rkF cs := ZEF hlt
        have hr : 0 ≤ (rkF cs).getD k 0 ∧ (rkF cs).getD k 0 ≤ 1000000 := by
          obtain ⟨i, hi, e⟩ := ZCq.1 hmem
          have := (hv.2 _ (ZAc hi)).1.1
          rw [e] at this
          exact this
        have hlook := look cs hmem
        have acF := ZIl cs (dv gc) false hlt
        have acT := ZIl cs (dv gc) true hlt
        have bdF : ∀ b, 0 ≤ acc cs (dv gc) b k ∧ acc cs (dv gc) b k ≤ 64000000000000 := fun b => by
          rw [ZIk cs (dv gc) b k hlt]
          have := ZA8 (fun i => if pB cs ((rkF cs).getD k 0) b i = true then dv gc i else 0) maxC cs.length (fun i hi => by
            have := hbd i (by omega)
            by_cases e : pB cs ((rkF cs).getD k 0) b i = true
            · simp only [e, if_true]; exact this
            · simp only [e, Bool.false_eq_true, if_false, maxC]; omega)
          simp only [maxC] at this
          unfold su
          omega
        have b1 := bdF false
        have b2 := bdF true
        clear bdF
        have nx : rkOk ps cs gc ((rkF cs).getD k 0) → ∀ j, j < k + 1 → rkOk ps cs gc ((rkF cs).getD j 0) := fun h j hj => by
          rcases Nat.lt_or_ge j k with h2 | h2
          · exact hall j h2
          · rw [show j = k by omega]; exact h
        have bad : ¬ rkOk ps cs gc ((rkF cs).getD k 0) → decide ((vP ps ∧ vC cs) ∧ chk ps cs gc gf) = false := fun h => decide_eq_false fun h2 => h (h2.2.2 _ hmem)
        have hgr := ZD3 ps cs ((rkF cs).getD k 0) ⟨by omega, by omega⟩ hp hv
        have hsA := ZKL cs gc ((rkF cs).getD k 0)
        have hsP := ZKM cs gc ((rkF cs).getD k 0)
        have haF : acc cs (dv gc) false (k + 1) = acc cs (dv gc) false k + su cs.length (pK cs ((rkF cs).getD k 0) false) (dv gc) := rfl
        have haT : acc cs (dv gc) true (k + 1) = acc cs (dv gc) true k + su cs.length (pK cs ((rkF cs).getD k 0) true) (dv gc) := rfl
        have hev := ZKK cs gc (memb cs ((rkF cs).getD k 0)) (acc cs (dv gc) false (k + 1) == sumP ps false) (Nat.le_trans (ZDl cs _) h64) h64 ZBA hbd hlen
        generalize hrk : (rkF cs).getD k 0 = r at *
        have hml := ZDl cs r
        have htl := ZBR (memb cs r)
        unfold rkOk at bad nx
        rw [← acF, ← acT] at bad nx
        generalize hgA : acc cs (dv gc) false k = gA at *
        generalize haA : acc cs (dv gc) true k = aA at *
        generalize hgB : acc cs (dv gc) false (k + 1) = gB at *
        generalize haB : acc cs (dv gc) true (k + 1) = aB at *
        generalize hD : decide ((vP ps ∧ vC cs) ∧ chk ps cs gc gf) = D at *
        repeat' (first | ((first | refine sC hT fun K' hK' => ?_ | refine oC fun K' hK' => ?_); push_cast [c1, hrk, hlook]; (try simp (disch := omega) only [wrap64, Int.toNat_natCast]); (repeat refine ZAD ?_ ?_); (first | refine hK' _ ?_ | refine ⟨.v (.int .i64 0), hK' _ ?_⟩); clear hK' K') | (refine sK hT ?_; simp only [St.put]) | ((first | refine ZAE (hK _ ?_) | refine ZAJ (hK _ ?_)); clear hK K; push_cast) | ((first | apply ZAC | apply ZAF | apply ZAG | apply ZAM); push_cast) | refine ZAK fun K hK => ?_ | refine ZAN fun K hK => ?_ | refine dQ hT hm fun K hK => ?_ | refine dL hT hm fun K hK => ?_ | apply ZAA | apply ZAB | apply ZAL | (refine ZAH _ rfl (fun h => ?_) (fun h => ?_) <;> simp only [bh2, reduceCtorEq] at h))
        all_goals first | exact ff | skip
        refine ZAO (α := Nat) (fun q => ⟨[(0, avPs ps), (1, avCs cs), (5, .p 5 0), (7, I64 (sumP ps false)), (9, .s 5000), (11, I64 (gA + smP cs gc (memb cs r) q)), (12, I64 (gA + aA + smA gc (memb cs r) q)), (41, .s 5001), (42, I64 (rkF cs).length), (43, I64 k), (14, I64 r), (49, intsF (toI (memb cs r))), (50, I64 (toI (memb cs r)).length), (51, I64 q)], [(5000, .mpa true ((kys cs cs.length).map Key.i) (.avs ((rws cs cs.length).map intsF))), (5001, .row 3 1 (.ints .i64 (rkF cs))), (5, .box 27 (.avs [ints gc, avLL gf]))]⟩) (fun q => q ≤ (memb cs r).length) (fun q => (memb cs r).length - q) 0 (Nat.zero_le _) (G.wk ⟨rfl, rfl, rfl, rfl, rfl, by simp only [smP, sumN, Int.add_zero]; rfl, by simp only [smA, sumN, Int.add_zero]; rfl, rfl, rfl, rfl, rfl, rfl, rfl, rfl, trivial⟩ ⟨rfl, rfl, rfl, trivial⟩) fun q hq => ?_
        have bA : ∀ q, q ≤ (memb cs r).length → 0 ≤ smA gc (memb cs r) q ∧ smA gc (memb cs r) q ≤ maxC * q := fun q hq => ZA8 _ _ _ fun a ha => hbd _ (by rw [hlen]; exact ZBA _ (ZA2 (by omega)))
        have bP : ∀ q, q ≤ (memb cs r).length → 0 ≤ smP cs gc (memb cs r) q ∧ smP cs gc (memb cs r) q ≤ maxC * q := fun q hq => ZA8 _ _ _ fun a ha => by
          have := hbd ((memb cs r).getD a 0) (by rw [hlen]; exact ZBA _ (ZA2 (by omega)))
          split
          · exact this
          · simp only [maxC]; omega
        have bA := bA q hq
        have bP := bP q hq
        simp only [maxC] at bA bP
        by_cases hlq : q < (memb cs r).length
        · have c2 : decide ((q : Int) < ((toI (memb cs r)).length : Int)) = true := decide_eq_true (by omega)
          have hti := ZBU hlq
          have hli := ZBA _ (ZA2 hlq)
          have hci := hbd ((memb cs r).getD q 0) (by omega)
          simp only [maxC] at hci
          have sA : smA gc (memb cs r) (q + 1) = smA gc (memb cs r) q + gc.getD ((memb cs r).getD q 0) 0 := rfl
          have sP : smP cs gc (memb cs r) (q + 1) = smP cs gc (memb cs r) q + (if (cs.getD ((memb cs r).getD q 0) default).f = false then gc.getD ((memb cs r).getD q 0) 0 else 0) := rfl
          generalize (memb cs r).getD q 0 = i at *
          by_cases hf1 : (cs.getD i default).f = true
          · rw [if_neg (by rw [hf1]; decide), Int.add_zero] at sP
            repeat' (first | ((first | refine sC hT fun K' hK' => ?_ | refine oC fun K' hK' => ?_); push_cast [c2, hti, hf1]; (try simp (disch := omega) only [wrap64, Int.toNat_natCast]); (repeat refine ZAD ?_ ?_); (first | refine hK' _ ?_ | refine ⟨.v (.int .i64 0), hK' _ ?_⟩); clear hK' K') | (refine sK hT ?_; simp only [St.put]) | ((first | refine ZAE (hK _ ?_) | refine ZAJ (hK _ ?_)); clear hK K; push_cast) | ((first | apply ZAC | apply ZAF | apply ZAG | apply ZAM); push_cast) | refine ZAK fun K hK => ?_ | refine ZAN fun K hK => ?_ | refine dQ hT hm fun K hK => ?_ | refine dL hT hm fun K hK => ?_ | apply ZAA | apply ZAB | apply ZAL | (refine ZAH _ rfl (fun h => ?_) (fun h => ?_) <;> simp only [bh2, reduceCtorEq] at h))
            all_goals first | exact ff | skip
            all_goals exact ⟨q + 1, ⟨by omega, by omega⟩, G.wk ⟨rfl, rfl, rfl, rfl, rfl, by rw [sP]; rfl, by rw [sA, ← Int.add_assoc]; rfl, rfl, rfl, rfl, rfl, rfl, rfl, rfl, trivial⟩ ⟨rfl, rfl, rfl, trivial⟩⟩
          · have hf1 : (cs.getD i default).f = false := by simpa using hf1
            rw [if_pos hf1] at sP
            repeat' (first | ((first | refine sC hT fun K' hK' => ?_ | refine oC fun K' hK' => ?_); push_cast [c2, hti, hf1]; (try simp (disch := omega) only [wrap64, Int.toNat_natCast]); (repeat refine ZAD ?_ ?_); (first | refine hK' _ ?_ | refine ⟨.v (.int .i64 0), hK' _ ?_⟩); clear hK' K') | (refine sK hT ?_; simp only [St.put]) | ((first | refine ZAE (hK _ ?_) | refine ZAJ (hK _ ?_)); clear hK K; push_cast) | ((first | apply ZAC | apply ZAF | apply ZAG | apply ZAM); push_cast) | refine ZAK fun K hK => ?_ | refine ZAN fun K hK => ?_ | refine dQ hT hm fun K hK => ?_ | refine dL hT hm fun K hK => ?_ | apply ZAA | apply ZAB | apply ZAL | (refine ZAH _ rfl (fun h => ?_) (fun h => ?_) <;> simp only [bh2, reduceCtorEq] at h))
            all_goals first | exact ff | skip
            all_goals exact ⟨q + 1, ⟨by omega, by omega⟩, G.wk ⟨rfl, rfl, rfl, rfl, rfl, by rw [sP, ← Int.add_assoc]; rfl, by rw [sA, ← Int.add_assoc]; rfl, rfl, rfl, rfl, rfl, rfl, rfl, rfl, trivial⟩ ⟨rfl, rfl, rfl, trivial⟩⟩
        · obtain rfl : q = (memb cs r).length := by omega
          have c2 : decide (((memb cs r).length : Int) < ((toI (memb cs r)).length : Int)) = false := decide_eq_false (by omega)
          have e1 : gA + smP cs gc (memb cs r) (memb cs r).length = gB := by rw [hsP, haF]
          have e2 : gA + aA + smA gc (memb cs r) (memb cs r).length = gB + aB := by rw [hsA, haF, haT]; omega
          by_cases hm : gB + aB = mostF ps cs r
          · have c3 : (gB + aB != mostF ps cs r) = false := bne_eq_false_iff_eq.2 hm
            by_cases he : evL cs gc (gB == sumP ps false) (memb cs r)
            · rw [decide_eq_true he] at hev
              repeat' (first | ((first | refine sC hT fun K' hK' => ?_ | refine oC fun K' hK' => ?_); push_cast [c2, c3, e1, e2, hlook]; (try simp (disch := omega) only [wrap64, Int.toNat_natCast]); (repeat refine ZAD ?_ ?_); (first | refine hK' _ ?_ | ((first | apply con1 | (apply con3; exact gd) | apply con2); (try intro hb); (first | exact hgr | exact hev); exact okr; refine hK' _ ?_) | refine ⟨.v (.int .i64 0), hK' _ ?_⟩); clear hK' K') | (refine sK hT ?_; simp only [St.put]) | ((first | refine ZAE (hK _ ?_) | refine ZAJ (hK _ ?_)); clear hK K; push_cast) | ((first | apply ZAC | apply ZAF | apply ZAG | apply ZAM); push_cast) | refine ZAK fun K hK => ?_ | refine ZAN fun K hK => ?_ | refine dQ hT hm fun K hK => ?_ | refine dL hT hm fun K hK => ?_ | apply ZAA | apply ZAB | apply ZAL | (refine ZAH _ rfl (fun h => ?_) (fun h => ?_) <;> simp only [bh2, reduceCtorEq] at h))
              all_goals first | exact ff | skip
              all_goals exact ⟨k + 1, ⟨⟨by omega, nx ⟨hm, (evn_L cs gc r _).1 he⟩⟩, by omega⟩, G.wk ⟨rfl, rfl, rfl, rfl, rfl, by rw [hgB]; rfl, by rw [hgB, haB]; rfl, rfl, rfl, rfl, trivial⟩ ⟨rfl, rfl, rfl, trivial⟩⟩
            · rw [decide_eq_false he] at hev
              have b := bad (fun h => he ((evn_L cs gc r _).2 h.2))
              subst b
              repeat' (first | ((first | refine sC hT fun K' hK' => ?_ | refine oC fun K' hK' => ?_); push_cast [c2, c3, e1, e2, hlook]; (try simp (disch := omega) only [wrap64, Int.toNat_natCast]); (repeat refine ZAD ?_ ?_); (first | refine hK' _ ?_ | ((first | apply con1 | (apply con3; exact gd) | apply con2); (try intro hb); (first | exact hgr | exact hev); exact okr; refine hK' _ ?_) | refine ⟨.v (.int .i64 0), hK' _ ?_⟩); clear hK' K') | (refine sK hT ?_; simp only [St.put]) | ((first | refine ZAE (hK _ ?_) | refine ZAJ (hK _ ?_)); clear hK K; push_cast) | ((first | apply ZAC | apply ZAF | apply ZAG | apply ZAM); push_cast) | refine ZAK fun K hK => ?_ | refine ZAN fun K hK => ?_ | refine dQ hT hm fun K hK => ?_ | refine dL hT hm fun K hK => ?_ | apply ZAA | apply ZAB | apply ZAL | (refine ZAH _ rfl (fun h => ?_) (fun h => ?_) <;> simp only [bh2, reduceCtorEq] at h))
              all_goals first | exact ff | skip
              all_goals done
          · have c3 : (gB + aB != mostF ps cs r) = true := bne_iff_ne.2 hm
            have b := bad (fun h => hm h.1)
            subst b
            repeat' (first | ((first | refine sC hT fun K' hK' => ?_ | refine oC fun K' hK' => ?_); push_cast [c2, c3, e1, e2, hlook]; (try simp (disch := omega) only [wrap64, Int.toNat_natCast]); (repeat refine ZAD ?_ ?_); (first | refine hK' _ ?_ | ((first | apply con1 | (apply con3; exact gd) | apply con2); (try intro hb); (first | exact hgr); exact okr; refine hK' _ ?_) | refine ⟨.v (.int .i64 0), hK' _ ?_⟩); clear hK' K') | (refine sK hT ?_; simp only [St.put]) | ((first | refine ZAE (hK _ ?_) | refine ZAJ (hK _ ?_)); clear hK K; push_cast) | ((first | apply ZAC | apply ZAF | apply ZAG | apply ZAM); push_cast) | refine ZAK fun K hK => ?_ | refine ZAN fun K hK => ?_ | refine dQ hT hm fun K hK => ?_ | refine dL hT hm fun K hK => ?_ | apply ZAA | apply ZAB | apply ZAL | (refine ZAH _ rfl (fun h => ?_) (fun h => ?_) <;> simp only [bh2, reduceCtorEq] at h))
            all_goals first | exact ff | skip
            all_goals done
      · obtain rfl : k = (rkF cs).length := by omega
        have c1 : decide (((rkF cs).length : Int) < ((rkF cs).length : Int)) = false := decide_eq_false (by omega)
        rw [decide_eq_true (show (vP ps ∧ vC cs) ∧ chk ps cs gc gf from ⟨⟨hp, hv⟩, hf, fun r hr => by
          obtain ⟨j, hj, e⟩ := List.getElem_of_mem hr
          have := hall j hj
          rwa [show (rkF cs).getD j 0 = r by simp [List.getD_eq_getElem?_getD, hj, e]] at this⟩)]
        repeat' (first | ((first | refine sC hT fun K' hK' => ?_ | refine oC fun K' hK' => ?_); push_cast [c1]; (try simp (disch := omega) only [wrap64, Int.toNat_natCast]); (repeat refine ZAD ?_ ?_); (first | refine hK' _ ?_ | refine ⟨.v (.int .i64 0), hK' _ ?_⟩); clear hK' K') | (refine sK hT ?_; simp only [St.put]) | ((first | refine ZAE (hK _ ?_) | refine ZAJ (hK _ ?_)); clear hK K; push_cast) | ((first | apply ZAC | apply ZAF | apply ZAG | apply ZAM); push_cast) | refine ZAK fun K hK => ?_ | refine ZAN fun K hK => ?_ | refine dQ hT hm fun K hK => ?_ | refine dL hT hm fun K hK => ?_ | apply ZAA | apply ZAB | apply ZAL | (refine ZAH _ rfl (fun h => ?_) (fun h => ?_) <;> simp only [bh2, reduceCtorEq] at h))
        all_goals first | exact ff | skip
        all_goals done
    · rw [decide_eq_false hf] at hfm
      rw [decide_eq_false (fun h => hf h.2.1)]
      repeat' (first | ((first | refine sC hT fun K' hK' => ?_ | refine oC fun K' hK' => ?_); push_cast; (try simp (disch := omega) only [wrap64, Int.toNat_natCast]); (repeat refine ZAD ?_ ?_); (first | refine hK' _ ?_ | ((first | apply con1 | (apply con3; exact gd) | apply con2); (try intro hb); (first | exact hval | exact hfm); exact okr; refine hK' _ ?_) | refine ⟨.v (.int .i64 0), hK' _ ?_⟩); clear hK' K') | (refine sK hT ?_; simp only [St.put]) | ((first | refine ZAE (hK _ ?_) | refine ZAJ (hK _ ?_)); clear hK K; push_cast) | ((first | apply ZAC | apply ZAF | apply ZAG | apply ZAM); push_cast) | refine ZAK fun K hK => ?_ | refine ZAN fun K hK => ?_ | refine dQ hT hm fun K hK => ?_ | refine dL hT hm fun K hK => ?_ | apply ZAA | apply ZAB | apply ZAL | (refine ZAH _ rfl (fun h => ?_) (fun h => ?_) <;> simp only [bh2, reduceCtorEq] at h))
      all_goals first | exact ff | skip
      all_goals done
  · rw [decide_eq_false hvv] at hval
    rw [decide_eq_false (fun h => hvv h.1)]
    repeat' (first | ((first | refine sC hT fun K' hK' => ?_ | refine oC fun K' hK' => ?_); push_cast; (try simp (disch := omega) only [wrap64, Int.toNat_natCast]); (repeat refine ZAD ?_ ?_); (first | refine hK' _ ?_ | ((first | apply con1 | (apply con3; exact gd) | apply con2); (try intro hb); (first | exact hval); exact okr; refine hK' _ ?_) | refine ⟨.v (.int .i64 0), hK' _ ?_⟩); clear hK' K') | (refine sK hT ?_; simp only [St.put]) | ((first | refine ZAE (hK _ ?_) | refine ZAJ (hK _ ?_)); clear hK K; push_cast) | ((first | apply ZAC | apply ZAF | apply ZAG | apply ZAM); push_cast) | refine ZAK fun K hK => ?_ | refine ZAN fun K hK => ?_ | refine dQ hT hm fun K hK => ?_ | refine dL hT hm fun K hK => ?_ | apply ZAA | apply ZAB | apply ZAL | (refine ZAH _ rfl (fun h => ?_) (fun h => ?_) <;> simp only [bh2, reduceCtorEq] at h))
    all_goals first | exact ff | skip
    all_goals done
end Go.Proofs.Ythgjjhddbigfcaa
