/- Part of a proof about the given program: contracts of its functions (see the comment of the last text). -/
import Derived.Test.YthgjjhddbigfcaaWfN
import Derived.Test.YthgjjhddbigfcaaPl3
namespace Go.Proofs.Ythgjjhddbigfcaa
open Go.Eng Go.Proofs Go.Wf
set_option linter.unusedSimpArgs false
set_option linter.unusedVariables false
attribute [local irreducible] AOps AOpsX AOps2 AOpsS AWP AAnyS Go.Eng.Pure PureRow Eff
abbrev avLLF (l : List (List Int)) : AV := .i true (fun e j => ([intsF (l.getD e default)] : List AV).getD j .top) 1 0 l.length
def avGF (g : Gr) : List AV := [intsF g.c, avLLF g.fr]
attribute [push_cast] avGF
def grF (ps : List Po) (cs : List Cl) : Gr := ⟨divF ps cs, (ta3 ps cs).fr⟩
theorem ZG8 {xs ys : List AV} (h : SubL xs ys) : Sub (.a xs) (.a ys) := by
  obtain ⟨h1, h2⟩ := h.spec
  intro B I w u hu
  cases hu with
  | a _ us hl hc => exact .a _ us (by omega) fun j hj => h2 j _ _ _ _ (hc j (by omega))
theorem ZJh (ps : List Po) (cs : List Cl) (hps : okPs ps) (h : vP ps ∧ vC cs) : Pure Try.prog 13 [avPs ps, avCs cs] (.t [.a (avGF (grF ps cs)), I64 0]) := by
  refine (divide13 ps cs h.1 h.2 hps).res (ZHL ⟨ZG8 ⟨Sub.refl _, ZBG rfl fun e j he hj => ?_, trivial⟩, Sub.refl _, trivial⟩)
  obtain rfl : j = 0 := by omega
  simp only [Nat.add_zero, Nat.zero_add, List.getD_cons_zero, grF]
  have he' : e < (ta3 ps cs).fr.length := he
  simp only [List.getD_eq_getElem?_getD, List.getElem?_map, List.getElem?_eq_getElem he', Option.map_some, Option.getD_some]
theorem ZJi (ps : List Po) (cs : List Cl) (hps : okPs ps) (hcs : okCs cs) (h : ¬ (vP ps ∧ vC cs)) : Pure Try.prog 13 [avPs ps, avCs cs] (.t [.a [.v (.slice none 0 0), .v (.slice none 0 0)], I64 1]) := by
  have hval := ZDC ps cs hps hcs
  rw [decide_eq_false h] at hval
  refine ZAV (n := 61) (res := [.cell 4 27, .tmp 5]) hT Try.func13 rfl rfl rfl Try.ntmps13 (Nat.le_of_ble_eq_true rfl) fun B w0 => ?_
  repeat' (first | ((first | refine sC hT fun K' hK' => ?_ | refine oC fun K' hK' => ?_); push_cast; (try simp (disch := omega) only [wrap64, Int.toNat_natCast]); (repeat refine ZAD ?_ ?_); (first | refine hK' _ ?_ | ((first | apply con1 | (apply con3; exact gd) | apply con2); (try intro hb); (first | exact hval); exact okr; refine hK' _ ?_) | refine ⟨.v (.int .i64 0), hK' _ ?_⟩); clear hK' K') | (refine sK hT ?_; simp only [St.put]) | ((first | refine ZAE (hK _ ?_) | refine ZAJ (hK _ ?_)); clear hK K; push_cast) | ((first | apply ZAC | apply ZAF | apply ZAG | apply ZAM); push_cast) | refine ZAK fun K hK => ?_ | refine ZAN fun K hK => ?_ | refine dQ hT hm fun K hK => ?_ | refine dL hT hm fun K hK => ?_ | apply ZAA | apply ZAB | apply ZAL | (refine ZAH _ rfl (fun h => ?_) (fun h => ?_) <;> simp only [bh2, reduceCtorEq] at h))
  all_goals first | exact ff | skip
  all_goals done

def evB (cs : List Cl) (d : List Int) (full : Bool) (i j : Nat) : Prop :=
  d.getD i 0 < (cs.getD i default).c → ((cs.getD i default).f = false ∧ (cs.getD j default).f = true ∧ full = true) ∨ (d.getD j 0 ≤ d.getD i 0 + 1 ∧ ¬ (i < j ∧ d.getD i 0 < d.getD j 0))
def evL (cs : List Cl) (d : List Int) (full : Bool) (l : List Nat) : Prop := ∀ a, a < l.length → ∀ b, b < l.length → evB cs d full (l.getD a 0) (l.getD b 0)
instance (cs : List Cl) (d : List Int) (full : Bool) (i j : Nat) : Decidable (evB cs d full i j) := by unfold evB; exact inferInstance
instance (cs : List Cl) (d : List Int) (full : Bool) (l : List Nat) : Decidable (evL cs d full l) := by unfold evL; exact inferInstance
set_option maxHeartbeats 64000000 in
theorem ZKK (cs : List Cl) (d : List Int) (l : List Nat) (full : Bool) (h64 : l.length ≤ 64) (hc : cs.length ≤ 64) (hl : ∀ i ∈ l, i < cs.length) (hd : bd maxC d) (hdl : d.length = cs.length) : Pure Try.prog 44 [avCs cs, ints d, ints (toI l), BL full] (BL (decide (evL cs d full l))) := by
  have htl := ZBR l
  refine ZAV (n := 79) (res := [.tmp 8]) hT Try.func44 rfl rfl rfl Try.ntmps44 (Nat.le_of_ble_eq_true rfl) fun B w0 => ?_
  repeat' (first | ((first | refine sC hT fun K' hK' => ?_ | refine oC fun K' hK' => ?_); push_cast; (try simp (disch := omega) only [wrap64, Int.toNat_natCast]); (repeat refine ZAD ?_ ?_); (first | refine hK' _ ?_ | refine ⟨.v (.int .i64 0), hK' _ ?_⟩); clear hK' K') | (refine sK hT ?_; simp only [St.put]) | ((first | refine ZAE (hK _ ?_) | refine ZAJ (hK _ ?_)); clear hK K; push_cast) | ((first | apply ZAC | apply ZAF | apply ZAG | apply ZAM); push_cast) | refine ZAK fun K hK => ?_ | refine ZAN fun K hK => ?_ | refine dQ hT hm fun K hK => ?_ | refine dL hT hm fun K hK => ?_ | apply ZAA | apply ZAB | apply ZAL | (refine ZAH _ rfl (fun h => ?_) (fun h => ?_) <;> simp only [bh2, reduceCtorEq] at h))
  all_goals first | exact ff | skip
  refine ZAO (α := Nat) (fun a => ⟨[(0, avCs cs), (1, ints d), (2, ints (toI l)), (3, BL full), (13, ints (toI l)), (14, I64 (toI l).length), (15, I64 a)], []⟩) (fun a => a ≤ l.length ∧ ∀ x, x < a → ∀ b, b < l.length → evB cs d full (l.getD x 0) (l.getD b 0)) (fun a => l.length - a) 0 ⟨Nat.zero_le _, fun x hx => by omega⟩ (G.wk ⟨rfl, rfl, rfl, rfl, rfl, rfl, rfl, trivial⟩ trivial) fun a ha => ?_
  obtain ⟨ha, hall⟩ := ha
  by_cases hlt : a < l.length
  · have c1 : decide ((a : Int) < ((toI l).length : Int)) = true := decide_eq_true (by omega)
    have hti := ZBU hlt
    have hli := hl _ (ZA2 hlt)
    have hdi := hd (l.getD a 0) (by omega)
    simp only [maxC] at hdi
    have next : (∀ b, b < l.length → evB cs d full (l.getD a 0) (l.getD b 0)) → ∀ x, x < a + 1 → ∀ b, b < l.length → evB cs d full (l.getD x 0) (l.getD b 0) := fun h x hx => by
      rcases Nat.lt_or_ge x a with h2 | h2
      · exact hall x h2
      · rw [show x = a by omega]; exact h
    have bad : ∀ b, b < l.length → ¬ evB cs d full (l.getD a 0) (l.getD b 0) → decide (evL cs d full l) = false := fun b hb h => decide_eq_false fun h2 => h (h2 a hlt b hb)
    generalize hi : l.getD a 0 = i at *
    by_cases hc1 : (cs.getD i default).c ≤ d.getD i 0
    · have c2 : decide ((cs.getD i default).c ≤ d.getD i 0) = true := decide_eq_true hc1
      repeat' (first | ((first | refine sC hT fun K' hK' => ?_ | refine oC fun K' hK' => ?_); push_cast [c1, hti, c2]; (try simp (disch := omega) only [wrap64, Int.toNat_natCast]); (repeat refine ZAD ?_ ?_); (first | refine hK' _ ?_ | refine ⟨.v (.int .i64 0), hK' _ ?_⟩); clear hK' K') | (refine sK hT ?_; simp only [St.put]) | ((first | refine ZAE (hK _ ?_) | refine ZAJ (hK _ ?_)); clear hK K; push_cast) | ((first | apply ZAC | apply ZAF | apply ZAG | apply ZAM); push_cast) | refine ZAK fun K hK => ?_ | refine ZAN fun K hK => ?_ | refine dQ hT hm fun K hK => ?_ | refine dL hT hm fun K hK => ?_ | apply ZAA | apply ZAB | apply ZAL | (refine ZAH _ rfl (fun h => ?_) (fun h => ?_) <;> simp only [bh2, reduceCtorEq] at h))
      all_goals first | exact ff | skip
      all_goals exact ⟨a + 1, ⟨⟨by omega, next fun b hb h => absurd h (by omega)⟩, by omega⟩, G.wk ⟨rfl, rfl, rfl, rfl, rfl, rfl, rfl, trivial⟩ trivial⟩
    · have c2 : decide ((cs.getD i default).c ≤ d.getD i 0) = false := decide_eq_false hc1
      repeat' (first | ((first | refine sC hT fun K' hK' => ?_ | refine oC fun K' hK' => ?_); push_cast [c1, hti, c2]; (try simp (disch := omega) only [wrap64, Int.toNat_natCast]); (repeat refine ZAD ?_ ?_); (first | refine hK' _ ?_ | refine ⟨.v (.int .i64 0), hK' _ ?_⟩); clear hK' K') | (refine sK hT ?_; simp only [St.put]) | ((first | refine ZAE (hK _ ?_) | refine ZAJ (hK _ ?_)); clear hK K; push_cast) | ((first | apply ZAC | apply ZAF | apply ZAG | apply ZAM); push_cast) | refine ZAK fun K hK => ?_ | refine ZAN fun K hK => ?_ | refine dQ hT hm fun K hK => ?_ | refine dL hT hm fun K hK => ?_ | apply ZAA | apply ZAB | apply ZAL | (refine ZAH _ rfl (fun h => ?_) (fun h => ?_) <;> simp only [bh2, reduceCtorEq] at h))
      all_goals first | exact ff | skip
      refine ZAO (α := Nat) (fun b => ⟨[(0, avCs cs), (1, ints d), (2, ints (toI l)), (3, BL full), (13, ints (toI l)), (14, I64 (toI l).length), (15, I64 a), (10, I64 i), (29, ints (toI l)), (30, I64 (toI l).length), (31, I64 b)], []⟩) (fun b => b ≤ l.length ∧ ∀ x, x < b → evB cs d full i (l.getD x 0)) (fun b => l.length - b) 0 ⟨Nat.zero_le _, fun x hx => by omega⟩ (G.wk ⟨rfl, rfl, rfl, rfl, rfl, rfl, rfl, rfl, rfl, rfl, rfl, trivial⟩ trivial) fun b hb => ?_
      obtain ⟨hb, hin⟩ := hb
      by_cases hbl : b < l.length
      · have e1 : decide ((b : Int) < ((toI l).length : Int)) = true := decide_eq_true (by omega)
        have htj := ZBU hbl
        have hlj := hl _ (ZA2 hbl)
        have hdj := hd (l.getD b 0) (by omega)
        simp only [maxC] at hdj
        have bad2 := bad b hbl
        have nxt : evB cs d full i (l.getD b 0) → ∀ x, x < b + 1 → evB cs d full i (l.getD x 0) := fun h x hx => by
          rcases Nat.lt_or_ge x b with h2 | h2
          · exact hin x h2
          · rw [show x = b by omega]; exact h
        clear bad
        generalize hj : l.getD b 0 = j at *
        generalize hD : decide (evL cs d full l) = D at *
        unfold evB at bad2 nxt
        by_cases hx : (cs.getD i default).f = false ∧ (cs.getD j default).f = true ∧ full = true
        · obtain ⟨x1, x2, x3⟩ := hx
          subst x3
          repeat' (first | ((first | refine sC hT fun K' hK' => ?_ | refine oC fun K' hK' => ?_); push_cast [e1, htj, x1, x2]; (try simp (disch := omega) only [wrap64, Int.toNat_natCast]); (repeat refine ZAD ?_ ?_); (first | refine hK' _ ?_ | refine ⟨.v (.int .i64 0), hK' _ ?_⟩); clear hK' K') | (refine sK hT ?_; simp only [St.put]) | ((first | refine ZAE (hK _ ?_) | refine ZAJ (hK _ ?_)); clear hK K; push_cast) | ((first | apply ZAC | apply ZAF | apply ZAG | apply ZAM); push_cast) | refine ZAK fun K hK => ?_ | refine ZAN fun K hK => ?_ | refine dQ hT hm fun K hK => ?_ | refine dL hT hm fun K hK => ?_ | apply ZAA | apply ZAB | apply ZAL | (refine ZAH _ rfl (fun h => ?_) (fun h => ?_) <;> simp only [bh2, reduceCtorEq] at h))
          all_goals first | exact ff | skip
          all_goals exact ⟨b + 1, ⟨⟨by omega, nxt fun _ => .inl ⟨x1, x2, rfl⟩⟩, by omega⟩, G.wk ⟨rfl, rfl, rfl, rfl, rfl, rfl, rfl, rfl, rfl, rfl, rfl, trivial⟩ trivial⟩
        · have hx3 : (cs.getD i default).f = true ∨ ((cs.getD i default).f = false ∧ (cs.getD j default).f = false) ∨ ((cs.getD i default).f = false ∧ (cs.getD j default).f = true ∧ full = false) := by
            cases g1 : (cs.getD i default).f
            · cases g2 : (cs.getD j default).f
              · exact .inr (.inl ⟨rfl, rfl⟩)
              · refine .inr (.inr ⟨rfl, rfl, ?_⟩)
                cases g3 : full
                · rfl
                · exact absurd ⟨g1, g2, g3⟩ hx
            · exact .inl rfl
          by_cases y1 : d.getD j 0 - d.getD i 0 ≤ 1
          · have f1 : decide (1 < d.getD j 0 - d.getD i 0) = false := decide_eq_false (by omega)
            by_cases y2 : i < j
            · have f2 : decide ((i : Int) < (j : Int)) = true := decide_eq_true (by omega)
              by_cases y3 : d.getD i 0 < d.getD j 0
              · have f3 : decide (d.getD i 0 < d.getD j 0) = true := decide_eq_true y3
                have b := bad2 (fun h => by rcases h (by omega) with h | h; exact hx h; exact h.2 ⟨y2, y3⟩)
                subst b
                rcases hx3 with g1 | ⟨g1, g2⟩ | ⟨g1, g2, g3⟩
                · repeat' (first | ((first | refine sC hT fun K' hK' => ?_ | refine oC fun K' hK' => ?_); push_cast [e1, htj, f1, f2, f3, g1]; (try simp (disch := omega) only [wrap64, Int.toNat_natCast]); (repeat refine ZAD ?_ ?_); (first | refine hK' _ ?_ | refine ⟨.v (.int .i64 0), hK' _ ?_⟩); clear hK' K') | (refine sK hT ?_; simp only [St.put]) | ((first | refine ZAE (hK _ ?_) | refine ZAJ (hK _ ?_)); clear hK K; push_cast) | ((first | apply ZAC | apply ZAF | apply ZAG | apply ZAM); push_cast) | refine ZAK fun K hK => ?_ | refine ZAN fun K hK => ?_ | refine dQ hT hm fun K hK => ?_ | refine dL hT hm fun K hK => ?_ | apply ZAA | apply ZAB | apply ZAL | (refine ZAH _ rfl (fun h => ?_) (fun h => ?_) <;> simp only [bh2, reduceCtorEq] at h))
                  all_goals first | exact ff | skip
                  all_goals done
                · repeat' (first | ((first | refine sC hT fun K' hK' => ?_ | refine oC fun K' hK' => ?_); push_cast [e1, htj, f1, f2, f3, g1, g2]; (try simp (disch := omega) only [wrap64, Int.toNat_natCast]); (repeat refine ZAD ?_ ?_); (first | refine hK' _ ?_ | refine ⟨.v (.int .i64 0), hK' _ ?_⟩); clear hK' K') | (refine sK hT ?_; simp only [St.put]) | ((first | refine ZAE (hK _ ?_) | refine ZAJ (hK _ ?_)); clear hK K; push_cast) | ((first | apply ZAC | apply ZAF | apply ZAG | apply ZAM); push_cast) | refine ZAK fun K hK => ?_ | refine ZAN fun K hK => ?_ | refine dQ hT hm fun K hK => ?_ | refine dL hT hm fun K hK => ?_ | apply ZAA | apply ZAB | apply ZAL | (refine ZAH _ rfl (fun h => ?_) (fun h => ?_) <;> simp only [bh2, reduceCtorEq] at h))
                  all_goals first | exact ff | skip
                  all_goals done
                · subst g3
                  repeat' (first | ((first | refine sC hT fun K' hK' => ?_ | refine oC fun K' hK' => ?_); push_cast [e1, htj, f1, f2, f3, g1, g2]; (try simp (disch := omega) only [wrap64, Int.toNat_natCast]); (repeat refine ZAD ?_ ?_); (first | refine hK' _ ?_ | refine ⟨.v (.int .i64 0), hK' _ ?_⟩); clear hK' K') | (refine sK hT ?_; simp only [St.put]) | ((first | refine ZAE (hK _ ?_) | refine ZAJ (hK _ ?_)); clear hK K; push_cast) | ((first | apply ZAC | apply ZAF | apply ZAG | apply ZAM); push_cast) | refine ZAK fun K hK => ?_ | refine ZAN fun K hK => ?_ | refine dQ hT hm fun K hK => ?_ | refine dL hT hm fun K hK => ?_ | apply ZAA | apply ZAB | apply ZAL | (refine ZAH _ rfl (fun h => ?_) (fun h => ?_) <;> simp only [bh2, reduceCtorEq] at h))
                  all_goals first | exact ff | skip
                  all_goals done
              · have f3 : decide (d.getD i 0 < d.getD j 0) = false := decide_eq_false y3
                rcases hx3 with g1 | ⟨g1, g2⟩ | ⟨g1, g2, g3⟩
                · repeat' (first | ((first | refine sC hT fun K' hK' => ?_ | refine oC fun K' hK' => ?_); push_cast [e1, htj, f1, f2, f3, g1]; (try simp (disch := omega) only [wrap64, Int.toNat_natCast]); (repeat refine ZAD ?_ ?_); (first | refine hK' _ ?_ | refine ⟨.v (.int .i64 0), hK' _ ?_⟩); clear hK' K') | (refine sK hT ?_; simp only [St.put]) | ((first | refine ZAE (hK _ ?_) | refine ZAJ (hK _ ?_)); clear hK K; push_cast) | ((first | apply ZAC | apply ZAF | apply ZAG | apply ZAM); push_cast) | refine ZAK fun K hK => ?_ | refine ZAN fun K hK => ?_ | refine dQ hT hm fun K hK => ?_ | refine dL hT hm fun K hK => ?_ | apply ZAA | apply ZAB | apply ZAL | (refine ZAH _ rfl (fun h => ?_) (fun h => ?_) <;> simp only [bh2, reduceCtorEq] at h))
                  all_goals first | exact ff | skip
                  all_goals exact ⟨b + 1, ⟨⟨by omega, nxt fun _ => .inr ⟨by omega, fun h => y3 h.2⟩⟩, by omega⟩, G.wk ⟨rfl, rfl, rfl, rfl, rfl, rfl, rfl, rfl, rfl, rfl, rfl, trivial⟩ trivial⟩
                · repeat' (first | ((first | refine sC hT fun K' hK' => ?_ | refine oC fun K' hK' => ?_); push_cast [e1, htj, f1, f2, f3, g1, g2]; (try simp (disch := omega) only [wrap64, Int.toNat_natCast]); (repeat refine ZAD ?_ ?_); (first | refine hK' _ ?_ | refine ⟨.v (.int .i64 0), hK' _ ?_⟩); clear hK' K') | (refine sK hT ?_; simp only [St.put]) | ((first | refine ZAE (hK _ ?_) | refine ZAJ (hK _ ?_)); clear hK K; push_cast) | ((first | apply ZAC | apply ZAF | apply ZAG | apply ZAM); push_cast) | refine ZAK fun K hK => ?_ | refine ZAN fun K hK => ?_ | refine dQ hT hm fun K hK => ?_ | refine dL hT hm fun K hK => ?_ | apply ZAA | apply ZAB | apply ZAL | (refine ZAH _ rfl (fun h => ?_) (fun h => ?_) <;> simp only [bh2, reduceCtorEq] at h))
                  all_goals first | exact ff | skip
                  all_goals exact ⟨b + 1, ⟨⟨by omega, nxt fun _ => .inr ⟨by omega, fun h => y3 h.2⟩⟩, by omega⟩, G.wk ⟨rfl, rfl, rfl, rfl, rfl, rfl, rfl, rfl, rfl, rfl, rfl, trivial⟩ trivial⟩
                · subst g3
                  repeat' (first | ((first | refine sC hT fun K' hK' => ?_ | refine oC fun K' hK' => ?_); push_cast [e1, htj, f1, f2, f3, g1, g2]; (try simp (disch := omega) only [wrap64, Int.toNat_natCast]); (repeat refine ZAD ?_ ?_); (first | refine hK' _ ?_ | refine ⟨.v (.int .i64 0), hK' _ ?_⟩); clear hK' K') | (refine sK hT ?_; simp only [St.put]) | ((first | refine ZAE (hK _ ?_) | refine ZAJ (hK _ ?_)); clear hK K; push_cast) | ((first | apply ZAC | apply ZAF | apply ZAG | apply ZAM); push_cast) | refine ZAK fun K hK => ?_ | refine ZAN fun K hK => ?_ | refine dQ hT hm fun K hK => ?_ | refine dL hT hm fun K hK => ?_ | apply ZAA | apply ZAB | apply ZAL | (refine ZAH _ rfl (fun h => ?_) (fun h => ?_) <;> simp only [bh2, reduceCtorEq] at h))
                  all_goals first | exact ff | skip
                  all_goals exact ⟨b + 1, ⟨⟨by omega, nxt fun _ => .inr ⟨by omega, fun h => y3 h.2⟩⟩, by omega⟩, G.wk ⟨rfl, rfl, rfl, rfl, rfl, rfl, rfl, rfl, rfl, rfl, rfl, trivial⟩ trivial⟩
            · have f2 : decide ((i : Int) < (j : Int)) = false := decide_eq_false (by omega)
              rcases hx3 with g1 | ⟨g1, g2⟩ | ⟨g1, g2, g3⟩
              · repeat' (first | ((first | refine sC hT fun K' hK' => ?_ | refine oC fun K' hK' => ?_); push_cast [e1, htj, f1, f2, g1]; (try simp (disch := omega) only [wrap64, Int.toNat_natCast]); (repeat refine ZAD ?_ ?_); (first | refine hK' _ ?_ | refine ⟨.v (.int .i64 0), hK' _ ?_⟩); clear hK' K') | (refine sK hT ?_; simp only [St.put]) | ((first | refine ZAE (hK _ ?_) | refine ZAJ (hK _ ?_)); clear hK K; push_cast) | ((first | apply ZAC | apply ZAF | apply ZAG | apply ZAM); push_cast) | refine ZAK fun K hK => ?_ | refine ZAN fun K hK => ?_ | refine dQ hT hm fun K hK => ?_ | refine dL hT hm fun K hK => ?_ | apply ZAA | apply ZAB | apply ZAL | (refine ZAH _ rfl (fun h => ?_) (fun h => ?_) <;> simp only [bh2, reduceCtorEq] at h))
                all_goals first | exact ff | skip
                all_goals exact ⟨b + 1, ⟨⟨by omega, nxt fun _ => .inr ⟨by omega, fun h => y2 h.1⟩⟩, by omega⟩, G.wk ⟨rfl, rfl, rfl, rfl, rfl, rfl, rfl, rfl, rfl, rfl, rfl, trivial⟩ trivial⟩
              · repeat' (first | ((first | refine sC hT fun K' hK' => ?_ | refine oC fun K' hK' => ?_); push_cast [e1, htj, f1, f2, g1, g2]; (try simp (disch := omega) only [wrap64, Int.toNat_natCast]); (repeat refine ZAD ?_ ?_); (first | refine hK' _ ?_ | refine ⟨.v (.int .i64 0), hK' _ ?_⟩); clear hK' K') | (refine sK hT ?_; simp only [St.put]) | ((first | refine ZAE (hK _ ?_) | refine ZAJ (hK _ ?_)); clear hK K; push_cast) | ((first | apply ZAC | apply ZAF | apply ZAG | apply ZAM); push_cast) | refine ZAK fun K hK => ?_ | refine ZAN fun K hK => ?_ | refine dQ hT hm fun K hK => ?_ | refine dL hT hm fun K hK => ?_ | apply ZAA | apply ZAB | apply ZAL | (refine ZAH _ rfl (fun h => ?_) (fun h => ?_) <;> simp only [bh2, reduceCtorEq] at h))
                all_goals first | exact ff | skip
                all_goals exact ⟨b + 1, ⟨⟨by omega, nxt fun _ => .inr ⟨by omega, fun h => y2 h.1⟩⟩, by omega⟩, G.wk ⟨rfl, rfl, rfl, rfl, rfl, rfl, rfl, rfl, rfl, rfl, rfl, trivial⟩ trivial⟩
              · subst g3
                repeat' (first | ((first | refine sC hT fun K' hK' => ?_ | refine oC fun K' hK' => ?_); push_cast [e1, htj, f1, f2, g1, g2]; (try simp (disch := omega) only [wrap64, Int.toNat_natCast]); (repeat refine ZAD ?_ ?_); (first | refine hK' _ ?_ | refine ⟨.v (.int .i64 0), hK' _ ?_⟩); clear hK' K') | (refine sK hT ?_; simp only [St.put]) | ((first | refine ZAE (hK _ ?_) | refine ZAJ (hK _ ?_)); clear hK K; push_cast) | ((first | apply ZAC | apply ZAF | apply ZAG | apply ZAM); push_cast) | refine ZAK fun K hK => ?_ | refine ZAN fun K hK => ?_ | refine dQ hT hm fun K hK => ?_ | refine dL hT hm fun K hK => ?_ | apply ZAA | apply ZAB | apply ZAL | (refine ZAH _ rfl (fun h => ?_) (fun h => ?_) <;> simp only [bh2, reduceCtorEq] at h))
                all_goals first | exact ff | skip
                all_goals exact ⟨b + 1, ⟨⟨by omega, nxt fun _ => .inr ⟨by omega, fun h => y2 h.1⟩⟩, by omega⟩, G.wk ⟨rfl, rfl, rfl, rfl, rfl, rfl, rfl, rfl, rfl, rfl, rfl, trivial⟩ trivial⟩
          · have f1 : decide (1 < d.getD j 0 - d.getD i 0) = true := decide_eq_true (by omega)
            have b := bad2 (fun h => by rcases h (by omega) with h | h; exact hx h; omega)
            subst b
            rcases hx3 with g1 | ⟨g1, g2⟩ | ⟨g1, g2, g3⟩
            · repeat' (first | ((first | refine sC hT fun K' hK' => ?_ | refine oC fun K' hK' => ?_); push_cast [e1, htj, f1, g1]; (try simp (disch := omega) only [wrap64, Int.toNat_natCast]); (repeat refine ZAD ?_ ?_); (first | refine hK' _ ?_ | refine ⟨.v (.int .i64 0), hK' _ ?_⟩); clear hK' K') | (refine sK hT ?_; simp only [St.put]) | ((first | refine ZAE (hK _ ?_) | refine ZAJ (hK _ ?_)); clear hK K; push_cast) | ((first | apply ZAC | apply ZAF | apply ZAG | apply ZAM); push_cast) | refine ZAK fun K hK => ?_ | refine ZAN fun K hK => ?_ | refine dQ hT hm fun K hK => ?_ | refine dL hT hm fun K hK => ?_ | apply ZAA | apply ZAB | apply ZAL | (refine ZAH _ rfl (fun h => ?_) (fun h => ?_) <;> simp only [bh2, reduceCtorEq] at h))
              all_goals first | exact ff | skip
              all_goals done
            · repeat' (first | ((first | refine sC hT fun K' hK' => ?_ | refine oC fun K' hK' => ?_); push_cast [e1, htj, f1, g1, g2]; (try simp (disch := omega) only [wrap64, Int.toNat_natCast]); (repeat refine ZAD ?_ ?_); (first | refine hK' _ ?_ | refine ⟨.v (.int .i64 0), hK' _ ?_⟩); clear hK' K') | (refine sK hT ?_; simp only [St.put]) | ((first | refine ZAE (hK _ ?_) | refine ZAJ (hK _ ?_)); clear hK K; push_cast) | ((first | apply ZAC | apply ZAF | apply ZAG | apply ZAM); push_cast) | refine ZAK fun K hK => ?_ | refine ZAN fun K hK => ?_ | refine dQ hT hm fun K hK => ?_ | refine dL hT hm fun K hK => ?_ | apply ZAA | apply ZAB | apply ZAL | (refine ZAH _ rfl (fun h => ?_) (fun h => ?_) <;> simp only [bh2, reduceCtorEq] at h))
              all_goals first | exact ff | skip
              all_goals done
            · subst g3
              repeat' (first | ((first | refine sC hT fun K' hK' => ?_ | refine oC fun K' hK' => ?_); push_cast [e1, htj, f1, g1, g2]; (try simp (disch := omega) only [wrap64, Int.toNat_natCast]); (repeat refine ZAD ?_ ?_); (first | refine hK' _ ?_ | refine ⟨.v (.int .i64 0), hK' _ ?_⟩); clear hK' K') | (refine sK hT ?_; simp only [St.put]) | ((first | refine ZAE (hK _ ?_) | refine ZAJ (hK _ ?_)); clear hK K; push_cast) | ((first | apply ZAC | apply ZAF | apply ZAG | apply ZAM); push_cast) | refine ZAK fun K hK => ?_ | refine ZAN fun K hK => ?_ | refine dQ hT hm fun K hK => ?_ | refine dL hT hm fun K hK => ?_ | apply ZAA | apply ZAB | apply ZAL | (refine ZAH _ rfl (fun h => ?_) (fun h => ?_) <;> simp only [bh2, reduceCtorEq] at h))
              all_goals first | exact ff | skip
              all_goals done
      · obtain rfl : b = l.length := by omega
        have e1 : decide ((l.length : Int) < ((toI l).length : Int)) = false := decide_eq_false (by omega)
        repeat' (first | ((first | refine sC hT fun K' hK' => ?_ | refine oC fun K' hK' => ?_); push_cast [e1]; (try simp (disch := omega) only [wrap64, Int.toNat_natCast]); (repeat refine ZAD ?_ ?_); (first | refine hK' _ ?_ | refine ⟨.v (.int .i64 0), hK' _ ?_⟩); clear hK' K') | (refine sK hT ?_; simp only [St.put]) | ((first | refine ZAE (hK _ ?_) | refine ZAJ (hK _ ?_)); clear hK K; push_cast) | ((first | apply ZAC | apply ZAF | apply ZAG | apply ZAM); push_cast) | refine ZAK fun K hK => ?_ | refine ZAN fun K hK => ?_ | refine dQ hT hm fun K hK => ?_ | refine dL hT hm fun K hK => ?_ | apply ZAA | apply ZAB | apply ZAL | (refine ZAH _ rfl (fun h => ?_) (fun h => ?_) <;> simp only [bh2, reduceCtorEq] at h))
        all_goals first | exact ff | skip
        all_goals exact ⟨a + 1, ⟨⟨by omega, next hin⟩, by omega⟩, G.wk ⟨rfl, rfl, rfl, rfl, rfl, rfl, rfl, trivial⟩ trivial⟩
  · obtain rfl : a = l.length := by omega
    have c1 : decide ((l.length : Int) < ((toI l).length : Int)) = false := decide_eq_false (by omega)
    rw [decide_eq_true (show evL cs d full l from hall)]
    repeat' (first | ((first | refine sC hT fun K' hK' => ?_ | refine oC fun K' hK' => ?_); push_cast [c1]; (try simp (disch := omega) only [wrap64, Int.toNat_natCast]); (repeat refine ZAD ?_ ?_); (first | refine hK' _ ?_ | refine ⟨.v (.int .i64 0), hK' _ ?_⟩); clear hK' K') | (refine sK hT ?_; simp only [St.put]) | ((first | refine ZAE (hK _ ?_) | refine ZAJ (hK _ ?_)); clear hK K; push_cast) | ((first | apply ZAC | apply ZAF | apply ZAG | apply ZAM); push_cast) | refine ZAK fun K hK => ?_ | refine ZAN fun K hK => ?_ | refine dQ hT hm fun K hK => ?_ | refine dL hT hm fun K hK => ?_ | apply ZAA | apply ZAB | apply ZAL | (refine ZAH _ rfl (fun h => ?_) (fun h => ?_) <;> simp only [bh2, reduceCtorEq] at h))
    all_goals first | exact ff | skip
    all_goals done
end Go.Proofs.Ythgjjhddbigfcaa
