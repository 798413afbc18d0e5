/- Part of a proof about the given program: contracts of its functions (see the comment of the last text). -/
import Derived.Test.YthgjjhddbigfcaaWfW
import Derived.Test.YthgjjhddbigfcaaWfS
import Derived.Test.YthgjjhddbigfcaaPl4
namespace Go.Proofs.Ythgjjhddbigfcaa
open Go.Eng Go.Proofs Go.Wf
set_option linter.unusedSimpArgs false
set_option linter.unusedVariables false
attribute [local irreducible] AOps AOpsX AOps2 AOpsS AWP AAnyS Go.Eng.Pure PureRow Eff

theorem reach_rch (ps : List Po) (cut : List Bool) (c : Cl) : reachF ps cut c = true ↔ rch ps cut c.f := by
  unfold reachF rch
  rw [List.any_eq_true]
  constructor
  · rintro ⟨k, hk, h⟩
    exact ⟨k, List.mem_range.1 hk, of_decide_eq_true h⟩
  · rintro ⟨k, hk, h⟩
    exact ⟨k, List.mem_range.2 hk, decide_eq_true h⟩
/-- The claims up to a rank that can reach a pool outside of the cut. -/
def rsG (ps : List Po) (cut : List Bool) (cs : List Cl) (r : Int) (i : Nat) : Int := if (cs.getD i default).r ≤ r ∧ reachF ps cut (cs.getD i default) = true then (cs.getD i default).c else 0
theorem value_ok {ps : List Po} {cs : List Cl} (hp : vP ps) (hv : vC cs) (r : Int) : cutV ps (cutF ps cs r) + sumN (rsG ps (cutF ps cs r) cs r) cs.length = mostF ps cs r := by
  classical
  have h := cut_value hp hv r (if rch ps (cutF ps cs r) true then upC cs r true else 0) (if rch ps (cutF ps cs r) false then upC cs r false else 0) rfl rfl
  rw [← h]
  congr 1
  have e : ∀ b, (if rch ps (cutF ps cs r) b then upC cs r b else 0) = sumN (fun i => if pU cs r b i = true then (if rch ps (cutF ps cs r) b then cv cs i else 0) else 0) cs.length := fun b => by
    by_cases hb : rch ps (cutF ps cs r) b
    · rw [if_pos hb, upC_su]
      unfold su
      refine sumN_congr fun i _ => ?_
      rw [if_pos hb]
    · rw [if_neg hb]
      refine (sumN_zero fun i _ => ?_).symm
      rw [if_neg hb]; simp
  rw [e, e, ← sumN_add]
  refine sumN_congr fun i hi => ?_
  unfold rsG pU cv
  have hr := reach_rch ps (cutF ps cs r) (cs.getD i default)
  generalize cs.getD i default = c at *
  by_cases h1 : c.r ≤ r
  · cases hf : c.f
    · rw [hf] at hr
      by_cases h2 : reachF ps (cutF ps cs r) c = true
      · simp [h1, h2, hr.1 h2]
      · have := mt hr.2 h2
        simp [h1, h2, this]
    · rw [hf] at hr
      by_cases h2 : reachF ps (cutF ps cs r) c = true
      · simp [h1, h2, hr.1 h2]
      · have := mt hr.2 h2
        simp [h1, h2, this]
  · simp [h1]
theorem lsum_two (cs : List Cl) (d : List Int) (r : Int) : lsumF cs d r = su cs.length (pU cs r false) (dv d) + su cs.length (pU cs r true) (dv d) := by
  rw [← pA_two]
  refine sumN_congr fun i _ => ?_
  unfold lsumG pA
  by_cases h : (cs.getD i default).r ≤ r
  · rw [if_pos h, if_pos (decide_eq_true h)]
  · rw [if_neg h, if_neg (by rw [decide_eq_false h]; simp)]
set_option maxHeartbeats 64000000 in
theorem lcuts_ok (ps : List Po) (cs : List Cl) (r : Int) (g : Gr) (hps : okPs ps) (hcs : okCs cs) (hr : In64 r) (hg : okG g) : Pure Try.prog 6 [avPs ps, avCs cs, I64 r, .a (avG g)] (BL true) := by
  have hri := right_ok ps cs hps hcs
  have hh := head_ok
  have hsm := small_ok ps cs g hps hcs hg
  obtain ⟨gc, gf⟩ := g
  refine pure_of (n := 114) (res := [.tmp 8]) hT Try.func6 rfl rfl rfl Try.ntmps6 (Nat.le_of_ble_eq_true rfl) fun B w0 => ?_
  by_cases h : vP ps ∧ cs.length ≤ 40 ∧ vC cs
  · rw [decide_eq_true h] at hri
    by_cases hs : smF ps cs ⟨gc, gf⟩
    · rw [decide_eq_true hs] at hsm
      obtain ⟨hp, h40, hv⟩ := h
      have hmo := most_ok ps cs r hr hps hcs ⟨hp, hv⟩
      have hcl := cut_len ps cs r
      have hval := value_ok hp hv r
      have hrc := fun c => reach_ok ps (cutF ps cs r) c hps hcl
      have hfe := lfea_ok ps cs ⟨gc, gf⟩ hp hv hg
      have h4 := hp.1
      have d1 : (((cutF ps cs r).length : Int) != (ps.length : Int)) = false := bne_eq_false_iff_eq.2 (by omega)
      have bV : ∀ k, k ≤ ps.length → 0 ≤ sumN (fun k => if (cutF ps cs r).getD k false = true then (ps.getD k default).c else 0) k ∧ sumN (fun k => if (cutF ps cs r).getD k false = true then (ps.getD k default).c else 0) k ≤ maxC * k := fun k hk => sumN_bound _ _ _ fun i hi => by
        have := vP_each hp (nth_mem (show i < ps.length by omega))
        split
        · exact this
        · simp only [maxC]; omega
      have bR : ∀ k, k ≤ cs.length → 0 ≤ sumN (rsG ps (cutF ps cs r) cs r) k ∧ sumN (rsG ps (cutF ps cs r) cs r) k ≤ maxC * k := fun k hk => sumN_bound _ _ _ fun i hi => by
        have := hv.2 _ (nth_mem (show i < cs.length by omega))
        unfold rsG
        split
        · exact ⟨this.1.2, this.2⟩
        · simp only [maxC]; omega
      unfold cutV su at hval
      have hR : ∀ k, sumN (rsG ps (cutF ps cs r) cs r) (k + 1) = sumN (rsG ps (cutF ps cs r) cs r) k + rsG ps (cutF ps cs r) cs r k := fun _ => rfl
      have hRk : ∀ k, rsG ps (cutF ps cs r) cs r k = if (cs.getD k default).r ≤ r ∧ reachF ps (cutF ps cs r) (cs.getD k default) = true then (cs.getD k default).c else 0 := fun _ => rfl
      generalize rsG ps (cutF ps cs r) cs r = R at *
      have hmost : fea ps cs gc gf → lsumF cs gc r ≤ mostF ps cs r := fun h => by rw [lsum_two]; exact (fea_most h hp r).1
      generalize cutF ps cs r = cut at *
      generalize mostF ps cs r = most at *
      repeat' (first | ((first | refine sC hT fun K' hK' => ?_ | refine oC fun K' hK' => ?_); push_cast [d1]; (try simp (disch := omega) only [wrap64, Int.toNat_natCast]); (repeat refine and_rev ?_ ?_); (first | refine hK' _ ?_ | ((first | apply con1 | (apply con3; exact gd) | apply con2); (try intro hb); (first | exact hh | exact hri | exact hsm | exact hmo); exact okr; refine hK' _ ?_) | refine ⟨.v (.int .i64 0), hK' _ ?_⟩); clear hK' K') | (refine sK hT ?_; simp only [St.put]) | ((first | refine aopss_nil (hK _ ?_) | refine aops_nil (hK _ ?_)); clear hK K; push_cast) | ((first | apply awp_label | apply awp_skip | apply awp_exit | apply awp_ret); push_cast) | refine awp_sseq fun K hK => ?_ | refine awp_s fun K hK => ?_ | refine dQ hT hm fun K hK => ?_ | refine dL hT hm fun K hK => ?_ | apply awp_block | apply awp_scope | apply awp_seq | (refine awp_cond _ rfl (fun h => ?_) (fun h => ?_) <;> simp only [bh2, reduceCtorEq] at h))
      all_goals first | exact ff | skip
      refine awp_loop (α := Nat) (fun k => ⟨[(0, avPs ps), (1, avCs cs), (2, I64 r), (7, .p 7 0), (9, BL true), (10, I64 most), (11, bools cut), (13, I64 (sumN (fun k => if cut.getD k false = true then (ps.getD k default).c else 0) k)), (14, I64 k)], [(7, .box 27 (.avs [ints gc, avLL gf]))]⟩) (fun k => k ≤ ps.length) (fun k => ps.length - k) 0 (Nat.zero_le _) (G.wk ⟨rfl, rfl, rfl, rfl, rfl, rfl, rfl, rfl, rfl, trivial⟩ ⟨rfl, trivial⟩) fun k hk => ?_
      have b1 := bV k hk
      simp only [maxC] at b1
      by_cases hlt : k < ps.length
      · have c1 : decide ((k : Int) < (ps.length : Int)) = true := decide_eq_true (by omega)
        have hpk := vP_each hp (nth_mem hlt)
        simp only [maxC] at hpk
        have hst : sumN (fun k => if cut.getD k false = true then (ps.getD k default).c else 0) (k + 1) = sumN (fun k => if cut.getD k false = true then (ps.getD k default).c else 0) k + (if cut.getD k false = true then (ps.getD k default).c else 0) := rfl
        by_cases hc : cut.getD k false = true
        · rw [if_pos hc] at hst
          repeat' (first | ((first | refine sC hT fun K' hK' => ?_ | refine oC fun K' hK' => ?_); push_cast [c1, hc]; (try simp (disch := omega) only [wrap64, Int.toNat_natCast]); (repeat refine and_rev ?_ ?_); (first | refine hK' _ ?_ | refine ⟨.v (.int .i64 0), hK' _ ?_⟩); clear hK' K') | (refine sK hT ?_; simp only [St.put]) | ((first | refine aopss_nil (hK _ ?_) | refine aops_nil (hK _ ?_)); clear hK K; push_cast) | ((first | apply awp_label | apply awp_skip | apply awp_exit | apply awp_ret); push_cast) | refine awp_sseq fun K hK => ?_ | refine awp_s fun K hK => ?_ | refine dQ hT hm fun K hK => ?_ | refine dL hT hm fun K hK => ?_ | apply awp_block | apply awp_scope | apply awp_seq | (refine awp_cond _ rfl (fun h => ?_) (fun h => ?_) <;> simp only [bh2, reduceCtorEq] at h))
          all_goals first | exact ff | skip
          all_goals exact ⟨k + 1, ⟨by omega, by omega⟩, G.wk ⟨rfl, rfl, rfl, rfl, rfl, rfl, rfl, by rw [hst]; rfl, rfl, trivial⟩ ⟨rfl, trivial⟩⟩
        · rw [if_neg hc, Int.add_zero] at hst
          have hc : cut.getD k false = false := by simpa using hc
          repeat' (first | ((first | refine sC hT fun K' hK' => ?_ | refine oC fun K' hK' => ?_); push_cast [c1, hc]; (try simp (disch := omega) only [wrap64, Int.toNat_natCast]); (repeat refine and_rev ?_ ?_); (first | refine hK' _ ?_ | refine ⟨.v (.int .i64 0), hK' _ ?_⟩); clear hK' K') | (refine sK hT ?_; simp only [St.put]) | ((first | refine aopss_nil (hK _ ?_) | refine aops_nil (hK _ ?_)); clear hK K; push_cast) | ((first | apply awp_label | apply awp_skip | apply awp_exit | apply awp_ret); push_cast) | refine awp_sseq fun K hK => ?_ | refine awp_s fun K hK => ?_ | refine dQ hT hm fun K hK => ?_ | refine dL hT hm fun K hK => ?_ | apply awp_block | apply awp_scope | apply awp_seq | (refine awp_cond _ rfl (fun h => ?_) (fun h => ?_) <;> simp only [bh2, reduceCtorEq] at h))
          all_goals first | exact ff | skip
          all_goals exact ⟨k + 1, ⟨by omega, by omega⟩, G.wk ⟨rfl, rfl, rfl, rfl, rfl, rfl, rfl, by rw [hst]; rfl, rfl, trivial⟩ ⟨rfl, trivial⟩⟩
      · obtain rfl : k = ps.length := by omega
        have c1 : decide ((ps.length : Int) < (ps.length : Int)) = false := decide_eq_false (by omega)
        generalize hV : sumN (fun k => if cut.getD k false = true then (ps.getD k default).c else 0) ps.length = V at *
        repeat' (first | ((first | refine sC hT fun K' hK' => ?_ | refine oC fun K' hK' => ?_); push_cast [c1]; (try simp (disch := omega) only [wrap64, Int.toNat_natCast]); (repeat refine and_rev ?_ ?_); (first | refine hK' _ ?_ | refine ⟨.v (.int .i64 0), hK' _ ?_⟩); clear hK' K') | (refine sK hT ?_; simp only [St.put]) | ((first | refine aopss_nil (hK _ ?_) | refine aops_nil (hK _ ?_)); clear hK K; push_cast) | ((first | apply awp_label | apply awp_skip | apply awp_exit | apply awp_ret); push_cast) | refine awp_sseq fun K hK => ?_ | refine awp_s fun K hK => ?_ | refine dQ hT hm fun K hK => ?_ | refine dL hT hm fun K hK => ?_ | apply awp_block | apply awp_scope | apply awp_seq | (refine awp_cond _ rfl (fun h => ?_) (fun h => ?_) <;> simp only [bh2, reduceCtorEq] at h))
        all_goals first | exact ff | skip
        refine awp_loop (α := Nat) (fun k => ⟨[(0, avPs ps), (1, avCs cs), (2, I64 r), (7, .p 7 0), (9, BL true), (10, I64 most), (11, bools cut), (13, I64 (V + sumN R k)), (15, I64 k)], [(7, .box 27 (.avs [ints gc, avLL gf]))]⟩) (fun k => k ≤ cs.length) (fun k => cs.length - k) 0 (Nat.zero_le _) (G.wk ⟨rfl, rfl, rfl, rfl, rfl, rfl, rfl, by simp only [sumN, Int.add_zero]; rfl, rfl, trivial⟩ ⟨rfl, trivial⟩) fun k hk => ?_
        have b2 := bR k hk
        simp only [maxC] at b2
        by_cases hlk : k < cs.length
        · have e1 : decide ((k : Int) < (cs.length : Int)) = true := decide_eq_true (by omega)
          have hck := (hv.2 _ (nth_mem hlk))
          have hck := And.intro hck.1.2 hck.2
          simp only [maxC] at hck
          have hrk := hrc (cs.getD k default)
          have hsk := hR k
          rw [hRk k] at hsk
          by_cases hle : (cs.getD k default).r ≤ r
          · have e2 : decide ((cs.getD k default).r ≤ r) = true := decide_eq_true hle
            by_cases hre : reachF ps cut (cs.getD k default) = true
            · rw [if_pos ⟨hle, hre⟩] at hsk
              rw [hre] at hrk
              repeat' (first | ((first | refine sC hT fun K' hK' => ?_ | refine oC fun K' hK' => ?_); push_cast [e1, e2]; (try simp (disch := omega) only [wrap64, Int.toNat_natCast]); (repeat refine and_rev ?_ ?_); (first | refine hK' _ ?_ | ((first | apply con1 | (apply con3; exact gd) | apply con2); (try intro hb); (first | exact hrk); exact okr; refine hK' _ ?_) | refine ⟨.v (.int .i64 0), hK' _ ?_⟩); clear hK' K') | (refine sK hT ?_; simp only [St.put]) | ((first | refine aopss_nil (hK _ ?_) | refine aops_nil (hK _ ?_)); clear hK K; push_cast) | ((first | apply awp_label | apply awp_skip | apply awp_exit | apply awp_ret); push_cast) | refine awp_sseq fun K hK => ?_ | refine awp_s fun K hK => ?_ | refine dQ hT hm fun K hK => ?_ | refine dL hT hm fun K hK => ?_ | apply awp_block | apply awp_scope | apply awp_seq | (refine awp_cond _ rfl (fun h => ?_) (fun h => ?_) <;> simp only [bh2, reduceCtorEq] at h))
              all_goals first | exact ff | skip
              all_goals exact ⟨k + 1, ⟨by omega, by omega⟩, G.wk ⟨rfl, rfl, rfl, rfl, rfl, rfl, rfl, by rw [hsk, ← Int.add_assoc]; rfl, rfl, trivial⟩ ⟨rfl, trivial⟩⟩
            · rw [if_neg (fun h => hre h.2), Int.add_zero] at hsk
              have hre : reachF ps cut (cs.getD k default) = false := by simpa using hre
              rw [hre] at hrk
              repeat' (first | ((first | refine sC hT fun K' hK' => ?_ | refine oC fun K' hK' => ?_); push_cast [e1, e2]; (try simp (disch := omega) only [wrap64, Int.toNat_natCast]); (repeat refine and_rev ?_ ?_); (first | refine hK' _ ?_ | ((first | apply con1 | (apply con3; exact gd) | apply con2); (try intro hb); (first | exact hrk); exact okr; refine hK' _ ?_) | refine ⟨.v (.int .i64 0), hK' _ ?_⟩); clear hK' K') | (refine sK hT ?_; simp only [St.put]) | ((first | refine aopss_nil (hK _ ?_) | refine aops_nil (hK _ ?_)); clear hK K; push_cast) | ((first | apply awp_label | apply awp_skip | apply awp_exit | apply awp_ret); push_cast) | refine awp_sseq fun K hK => ?_ | refine awp_s fun K hK => ?_ | refine dQ hT hm fun K hK => ?_ | refine dL hT hm fun K hK => ?_ | apply awp_block | apply awp_scope | apply awp_seq | (refine awp_cond _ rfl (fun h => ?_) (fun h => ?_) <;> simp only [bh2, reduceCtorEq] at h))
              all_goals first | exact ff | skip
              all_goals exact ⟨k + 1, ⟨by omega, by omega⟩, G.wk ⟨rfl, rfl, rfl, rfl, rfl, rfl, rfl, by rw [hsk]; rfl, rfl, trivial⟩ ⟨rfl, trivial⟩⟩
          · have e2 : decide ((cs.getD k default).r ≤ r) = false := decide_eq_false hle
            rw [if_neg (fun h => hle h.1), Int.add_zero] at hsk
            repeat' (first | ((first | refine sC hT fun K' hK' => ?_ | refine oC fun K' hK' => ?_); push_cast [e1, e2]; (try simp (disch := omega) only [wrap64, Int.toNat_natCast]); (repeat refine and_rev ?_ ?_); (first | refine hK' _ ?_ | refine ⟨.v (.int .i64 0), hK' _ ?_⟩); clear hK' K') | (refine sK hT ?_; simp only [St.put]) | ((first | refine aopss_nil (hK _ ?_) | refine aops_nil (hK _ ?_)); clear hK K; push_cast) | ((first | apply awp_label | apply awp_skip | apply awp_exit | apply awp_ret); push_cast) | refine awp_sseq fun K hK => ?_ | refine awp_s fun K hK => ?_ | refine dQ hT hm fun K hK => ?_ | refine dL hT hm fun K hK => ?_ | apply awp_block | apply awp_scope | apply awp_seq | (refine awp_cond _ rfl (fun h => ?_) (fun h => ?_) <;> simp only [bh2, reduceCtorEq] at h))
            all_goals first | exact ff | skip
            all_goals exact ⟨k + 1, ⟨by omega, by omega⟩, G.wk ⟨rfl, rfl, rfl, rfl, rfl, rfl, rfl, by rw [hsk]; rfl, rfl, trivial⟩ ⟨rfl, trivial⟩⟩
        · obtain rfl : k = cs.length := by omega
          have e1 : decide ((cs.length : Int) < (cs.length : Int)) = false := decide_eq_false (by omega)
          have e2 : (V + sumN R cs.length == most) = true := by rw [hval]; exact beq_self_eq_true _
          by_cases hf : fea ps cs gc gf
          · rw [decide_eq_true (show fea ps cs (Gr.mk gc gf).c (Gr.mk gc gf).fr from hf)] at hfe
            have hls := lsum_ok cs gc r hr hv.1 hf.1.1 (fun i hi => by
              have h1 := fea_lo hf (i := i) (by rw [← hf.1.1]; exact hi)
              have h2 := (hf.2.1 i (by rw [← hf.1.1]; exact hi)).1.2
              have h3 := (hv.2 _ (nth_mem (show i < cs.length by rw [← hf.1.1]; exact hi))).2
              exact ⟨h1, Int.le_trans h2 h3⟩)
            have e3 : decide (lsumF cs gc r ≤ most) = true := decide_eq_true (hmost hf)
            repeat' (first | ((first | refine sC hT fun K' hK' => ?_ | refine oC fun K' hK' => ?_); push_cast [e1, e2, e3]; (try simp (disch := omega) only [wrap64, Int.toNat_natCast]); (repeat refine and_rev ?_ ?_); (first | refine hK' _ ?_ | ((first | apply con1 | (apply con3; exact gd) | apply con2); (try intro hb); (first | exact hfe | exact hls); exact okr; refine hK' _ ?_) | refine ⟨.v (.int .i64 0), hK' _ ?_⟩); clear hK' K') | (refine sK hT ?_; simp only [St.put]) | ((first | refine aopss_nil (hK _ ?_) | refine aops_nil (hK _ ?_)); clear hK K; push_cast) | ((first | apply awp_label | apply awp_skip | apply awp_exit | apply awp_ret); push_cast) | refine awp_sseq fun K hK => ?_ | refine awp_s fun K hK => ?_ | refine dQ hT hm fun K hK => ?_ | refine dL hT hm fun K hK => ?_ | apply awp_block | apply awp_scope | apply awp_seq | (refine awp_cond _ rfl (fun h => ?_) (fun h => ?_) <;> simp only [bh2, reduceCtorEq] at h))
            all_goals first | exact ff | skip
            all_goals done
          · rw [decide_eq_false (show ¬ fea ps cs (Gr.mk gc gf).c (Gr.mk gc gf).fr from hf)] at hfe
            repeat' (first | ((first | refine sC hT fun K' hK' => ?_ | refine oC fun K' hK' => ?_); push_cast [e1, e2]; (try simp (disch := omega) only [wrap64, Int.toNat_natCast]); (repeat refine and_rev ?_ ?_); (first | refine hK' _ ?_ | ((first | apply con1 | (apply con3; exact gd) | apply con2); (try intro hb); (first | exact hfe); exact okr; refine hK' _ ?_) | refine ⟨.v (.int .i64 0), hK' _ ?_⟩); clear hK' K') | (refine sK hT ?_; simp only [St.put]) | ((first | refine aopss_nil (hK _ ?_) | refine aops_nil (hK _ ?_)); clear hK K; push_cast) | ((first | apply awp_label | apply awp_skip | apply awp_exit | apply awp_ret); push_cast) | refine awp_sseq fun K hK => ?_ | refine awp_s fun K hK => ?_ | refine dQ hT hm fun K hK => ?_ | refine dL hT hm fun K hK => ?_ | apply awp_block | apply awp_scope | apply awp_seq | (refine awp_cond _ rfl (fun h => ?_) (fun h => ?_) <;> simp only [bh2, reduceCtorEq] at h))
            all_goals first | exact ff | skip
            all_goals done
    · rw [decide_eq_false hs] at hsm
      repeat' (first | ((first | refine sC hT fun K' hK' => ?_ | refine oC fun K' hK' => ?_); push_cast; (try simp (disch := omega) only [wrap64, Int.toNat_natCast]); (repeat refine and_rev ?_ ?_); (first | refine hK' _ ?_ | ((first | apply con1 | (apply con3; exact gd) | apply con2); (try intro hb); (first | exact hh | exact hri | exact hsm); exact okr; refine hK' _ ?_) | refine ⟨.v (.int .i64 0), hK' _ ?_⟩); clear hK' K') | (refine sK hT ?_; simp only [St.put]) | ((first | refine aopss_nil (hK _ ?_) | refine aops_nil (hK _ ?_)); clear hK K; push_cast) | ((first | apply awp_label | apply awp_skip | apply awp_exit | apply awp_ret); push_cast) | refine awp_sseq fun K hK => ?_ | refine awp_s fun K hK => ?_ | refine dQ hT hm fun K hK => ?_ | refine dL hT hm fun K hK => ?_ | apply awp_block | apply awp_scope | apply awp_seq | (refine awp_cond _ rfl (fun h => ?_) (fun h => ?_) <;> simp only [bh2, reduceCtorEq] at h))
      all_goals first | exact ff | skip
      all_goals done
  · rw [decide_eq_false h] at hri
    repeat' (first | ((first | refine sC hT fun K' hK' => ?_ | refine oC fun K' hK' => ?_); push_cast; (try simp (disch := omega) only [wrap64, Int.toNat_natCast]); (repeat refine and_rev ?_ ?_); (first | refine hK' _ ?_ | ((first | apply con1 | (apply con3; exact gd) | apply con2); (try intro hb); (first | exact hh | exact hri); exact okr; refine hK' _ ?_) | refine ⟨.v (.int .i64 0), hK' _ ?_⟩); clear hK' K') | (refine sK hT ?_; simp only [St.put]) | ((first | refine aopss_nil (hK _ ?_) | refine aops_nil (hK _ ?_)); clear hK K; push_cast) | ((first | apply awp_label | apply awp_skip | apply awp_exit | apply awp_ret); push_cast) | refine awp_sseq fun K hK => ?_ | refine awp_s fun K hK => ?_ | refine dQ hT hm fun K hK => ?_ | refine dL hT hm fun K hK => ?_ | apply awp_block | apply awp_scope | apply awp_seq | (refine awp_cond _ rfl (fun h => ?_) (fun h => ?_) <;> simp only [bh2, reduceCtorEq] at h))
    all_goals first | exact ff | skip
    all_goals done
end Go.Proofs.Ythgjjhddbigfcaa
