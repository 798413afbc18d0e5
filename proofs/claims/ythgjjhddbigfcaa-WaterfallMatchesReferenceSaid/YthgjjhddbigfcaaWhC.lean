/- Part of a proof about the given program: contracts of its functions (see the comment of the last text). -/
import Derived.Test.YthgjjhddbigfcaaWhA
import Derived.Test.YthgjjhddbigfcaaWhB
import Derived.Test.YthgjjhddbigfcaaWfW
namespace Go.Proofs.Ythgjjhddbigfcaa
open Go.Eng Go.Proofs Go.Wf
set_option linter.unusedSimpArgs false
set_option linter.unusedVariables false
attribute [local irreducible] AOps AOpsX AOps2 AOpsS AWP AAnyS Go.Eng.Pure PureRow Eff
theorem ZKP (ps : List Po) (cs : List Cl) (hps : okPs ps) (h : vP ps ∧ vC cs) : Pure Try.prog 14 [avPs ps, avCs cs] (.t [.a (avGF (grF ps cs)), I64 0]) := by
  refine (rdivide14 ps cs h.1 h.2 hps).res (ZHL ⟨ZG8 ⟨Sub.refl _, ZBG rfl fun e j he hj => ?_, trivial⟩, Sub.refl _, trivial⟩)
  obtain rfl : j = 0 := by omega
  simp only [Nat.add_zero, Nat.zero_add, List.getD_cons_zero, grF]
  have he' : e < (ta3 ps cs).fr.length := he
  simp only [List.getD_eq_getElem?_getD, List.getElem?_map, List.getElem?_eq_getElem he', Option.map_some, Option.getD_some]
theorem ZKQ (ps : List Po) (cs : List Cl) (hps : okPs ps) (hcs : okCs cs) (h : ¬ (vP ps ∧ vC cs)) : Pure Try.prog 14 [avPs ps, avCs cs] (.t [.a [.v (.slice none 0 0), .v (.slice none 0 0)], I64 1]) := by
  have h1 := ZCT ps hps
  have h2 := ZB0 cs hcs
  refine ZAV (n := 123) (res := [.cell 4 27, .tmp 5]) hT Try.func14 rfl rfl rfl Try.ntmps14 (Nat.le_of_ble_eq_true rfl) fun B w0 => ?_
  by_cases hp : vP ps
  · rw [decide_eq_true hp] at h1
    rw [decide_eq_false (fun hv => h ⟨hp, hv⟩)] at h2
    repeat' (first | ((first | refine sC hT fun K' hK' => ?_ | refine oC fun K' hK' => ?_); push_cast; (try simp (disch := omega) only [wrap64, Int.toNat_natCast]); (repeat refine ZAD ?_ ?_); (first | refine hK' _ ?_ | ((first | apply con1 | (apply con3; exact gd) | apply con2); (try intro hb); (first | exact h1 | exact h2); exact okr; refine hK' _ ?_) | refine ⟨.v (.int .i64 0), hK' _ ?_⟩); clear hK' K') | (refine sK hT ?_; simp only [St.put]) | ((first | refine ZAE (hK _ ?_) | refine ZAJ (hK _ ?_)); clear hK K; push_cast) | ((first | apply ZAC | apply ZAF | apply ZAG | apply ZAM); push_cast) | refine ZAK fun K hK => ?_ | refine ZAN fun K hK => ?_ | refine dQ hT hm fun K hK => ?_ | refine dL hT hm fun K hK => ?_ | apply ZAA | apply ZAB | apply ZAL | (refine ZAH _ rfl (fun h => ?_) (fun h => ?_) <;> simp only [bh2, reduceCtorEq] at h))
    all_goals first | exact ff | skip
    all_goals done
  · rw [decide_eq_false hp] at h1
    repeat' (first | ((first | refine sC hT fun K' hK' => ?_ | refine oC fun K' hK' => ?_); push_cast; (try simp (disch := omega) only [wrap64, Int.toNat_natCast]); (repeat refine ZAD ?_ ?_); (first | refine hK' _ ?_ | ((first | apply con1 | (apply con3; exact gd) | apply con2); (try intro hb); (first | exact h1); exact okr; refine hK' _ ?_) | refine ⟨.v (.int .i64 0), hK' _ ?_⟩); clear hK' K') | (refine sK hT ?_; simp only [St.put]) | ((first | refine ZAE (hK _ ?_) | refine ZAJ (hK _ ?_)); clear hK K; push_cast) | ((first | apply ZAC | apply ZAF | apply ZAG | apply ZAM); push_cast) | refine ZAK fun K hK => ?_ | refine ZAN fun K hK => ?_ | refine dQ hT hm fun K hK => ?_ | refine dL hT hm fun K hK => ?_ | apply ZAA | apply ZAB | apply ZAL | (refine ZAH _ rfl (fun h => ?_) (fun h => ?_) <;> simp only [bh2, reduceCtorEq] at h))
    all_goals first | exact ff | skip
    all_goals done
def gr0 : Gr := ⟨[], []⟩
theorem ZIs : Sub (.t [.a [.v (.slice none 0 0), .v (.slice none 0 0)], I64 1]) (.t [.a (avG gr0), I64 1]) := ZHL ⟨ZG8 ⟨ZFA, ZFA, trivial⟩, Sub.refl _, trivial⟩
theorem ZIt : Sub (.t [I64 0, .v (.slice none 0 0), I64 1]) (.t [I64 0, boolA [], I64 1]) := ZHL ⟨Sub.refl _, ZFA, Sub.refl _, trivial⟩
set_option maxHeartbeats 64000000 in
theorem ZIu (ps : List Po) (cs : List Cl) (r : Int) (g : Gr) (hps : okPs ps) (hcs : okCs cs) (hr : In64 r) (hg : okG g) : Pure Try.prog 3 [avPs ps, avCs cs, I64 r, .a (avG g)] (BL true) := by
  have hh := ZKO
  have hsm := small_ok ps cs g hps hcs hg
  have hk := ZEK ps cs g hps hcs hg
  have hk2 := ZIn ps cs g hps hcs hg
  have hps2 := hps.2
  generalize decide ((vP ps ∧ vC cs) ∧ chk ps cs g.c g.fr) = ck at *
  have hck : (ck == ck) = true := beq_self_eq_true ck
  obtain ⟨gc, gf⟩ := g
  refine ZAV (n := 92) (res := [.tmp 8]) hT Try.func3 rfl rfl rfl Try.ntmps3 (Nat.le_of_ble_eq_true rfl) fun B w0 => ?_
  by_cases hs : smF ps cs ⟨gc, gf⟩
  · rw [decide_eq_true hs] at hsm
    by_cases h : vP ps ∧ vC cs
    · have hd := ZJh ps cs hps h
      have hd2 := ZKP ps cs hps h
      have hmo := ZHz ps cs r hr hps hcs h
      have hm2 := ZGp ps cs r hr hps hcs h
      have hgg := ZJk h.1 h.2
      have hcl := ZGJ ps cs r
      have hse := same_ok (grF ps cs) (grF ps cs) hgg hgg
      rw [decide_eq_true rfl] at hse
      have hbo := ZFM (cutF ps cs r) (cutF ps cs r) (by omega) (by omega)
      rw [decide_eq_true rfl] at hbo
      generalize grF ps cs = q at *
      generalize cutF ps cs r = L at *
      generalize hM : mostF ps cs r = M at *
      have c2 : (M == M) = true := beq_self_eq_true M
      repeat' (first | ((first | refine sC hT fun K' hK' => ?_ | refine oC fun K' hK' => ?_); push_cast [c2, hck]; (try simp (disch := omega) only [wrap64, Int.toNat_natCast]); (repeat refine ZAD ?_ ?_); (first | refine hK' _ ?_ | ((first | apply con1 | (apply con3; exact gd) | apply con2); (try intro hb); (first | exact hh | exact hsm | exact hd | exact hd2 | exact hmo | exact hm2 | exact hse | exact hbo | exact hk | exact hk2); exact okr; refine hK' _ ?_) | refine ⟨.v (.int .i64 0), hK' _ ?_⟩); clear hK' K') | (refine sK hT ?_; simp only [St.put]) | ((first | refine ZAE (hK _ ?_) | refine ZAJ (hK _ ?_)); clear hK K; push_cast) | ((first | apply ZAC | apply ZAF | apply ZAG | apply ZAM); push_cast) | refine ZAK fun K hK => ?_ | refine ZAN fun K hK => ?_ | refine dQ hT hm fun K hK => ?_ | refine dL hT hm fun K hK => ?_ | apply ZAA | apply ZAB | apply ZAL | (refine ZAH _ rfl (fun h => ?_) (fun h => ?_) <;> simp only [bh2, reduceCtorEq] at h))
      all_goals first | exact ff | skip
      all_goals done
    · have hd := (ZJi ps cs hps hcs h).res ZIs
      have hd2 := (ZKQ ps cs hps hcs h).res ZIs
      have hmo := (ZJz ps cs r hps hcs h).res ZIt
      have hm2 := (ZJF ps cs r hps hcs h).res ZIt
      have hgg : okG gr0 := ⟨⟨fun x hx => (by cases hx), (by decide)⟩, fun x hx => (by cases hx), (by decide)⟩
      have hse := same_ok gr0 gr0 hgg hgg
      rw [decide_eq_true rfl] at hse
      have hbo := ZFM [] [] (by decide) (by decide)
      rw [decide_eq_true rfl] at hbo
      repeat' (first | ((first | refine sC hT fun K' hK' => ?_ | refine oC fun K' hK' => ?_); push_cast [hck]; (try simp (disch := omega) only [wrap64, Int.toNat_natCast]); (repeat refine ZAD ?_ ?_); (first | refine hK' _ ?_ | ((first | apply con1 | (apply con3; exact gd) | apply con2); (try intro hb); (first | exact hh | exact hsm | exact hd | exact hd2 | exact hmo | exact hm2 | exact hse | exact hbo | exact hk | exact hk2); exact okr; refine hK' _ ?_) | refine ⟨.v (.int .i64 0), hK' _ ?_⟩); clear hK' K') | (refine sK hT ?_; simp only [St.put]) | ((first | refine ZAE (hK _ ?_) | refine ZAJ (hK _ ?_)); clear hK K; push_cast) | ((first | apply ZAC | apply ZAF | apply ZAG | apply ZAM); push_cast) | refine ZAK fun K hK => ?_ | refine ZAN fun K hK => ?_ | refine dQ hT hm fun K hK => ?_ | refine dL hT hm fun K hK => ?_ | apply ZAA | apply ZAB | apply ZAL | (refine ZAH _ rfl (fun h => ?_) (fun h => ?_) <;> simp only [bh2, reduceCtorEq] at h))
      all_goals first | exact ff | skip
      all_goals done
  · rw [decide_eq_false hs] at hsm
    repeat' (first | ((first | refine sC hT fun K' hK' => ?_ | refine oC fun K' hK' => ?_); push_cast; (try simp (disch := omega) only [wrap64, Int.toNat_natCast]); (repeat refine ZAD ?_ ?_); (first | refine hK' _ ?_ | ((first | apply con1 | (apply con3; exact gd) | apply con2); (try intro hb); (first | exact hh | exact hsm); exact okr; refine hK' _ ?_) | refine ⟨.v (.int .i64 0), hK' _ ?_⟩); clear hK' K') | (refine sK hT ?_; simp only [St.put]) | ((first | refine ZAE (hK _ ?_) | refine ZAJ (hK _ ?_)); clear hK K; push_cast) | ((first | apply ZAC | apply ZAF | apply ZAG | apply ZAM); push_cast) | refine ZAK fun K hK => ?_ | refine ZAN fun K hK => ?_ | refine dQ hT hm fun K hK => ?_ | refine dL hT hm fun K hK => ?_ | apply ZAA | apply ZAB | apply ZAL | (refine ZAH _ rfl (fun h => ?_) (fun h => ?_) <;> simp only [bh2, reduceCtorEq] at h))
    all_goals first | exact ff | skip
    all_goals done
end Go.Proofs.Ythgjjhddbigfcaa
