/- Part of a proof about the given program: contracts of its functions (see the comment of the last text). -/
import Derived.Test.YthgjjhddbigfcaaWfI
import Derived.Test.YthgjjhddbigfcaaPl2
namespace Go.Proofs.Ythgjjhddbigfcaa
open Go.Eng Go.Proofs Go.Wf Go.Proofs.Share
set_option linter.unusedSimpArgs false
set_option linter.unusedVariables false
attribute [local irreducible] AOps AOpsX AOps2 AOpsS AWP AAnyS Go.Eng.Pure PureRow
theorem ZG0 {p : Nat → Prop} (L : List (List Int)) : AV.foL p (L.map intsF) := ZHv fun x hx => by
  obtain ⟨l, _, rfl⟩ := List.mem_map.1 hx
  simp only [AV.fo, AV.fresh]
  exact ⟨trivial, fun _ _ => trivial⟩
theorem ZIH {p : Nat → Prop} (L : List (List Int)) : AV.idsL p (L.map intsF) := by
  induction L with
  | nil => simp only [List.map_nil, AV.idsL]
  | cons x r ih => simp only [List.map_cons, AV.idsL, AV.ids]; exact ⟨trivial, ih⟩
theorem ZJ3 (a b : Nat) (L : List (List Int)) : AV.rn.rnL a b (L.map intsF) = L.map intsF := by
  induction L with
  | nil => rfl
  | cons x r ih => rw [List.map_cons, AV.rn.rnL, ih, AV.rn]
theorem ZDS {t : Int} {l : List Int} (h1 : l.length ≤ 64) (h2 : 0 ≤ t) (h3 : t ≤ maxC) (h4 : ∀ c ∈ l, 0 ≤ c ∧ c ≤ maxC) : errF t l = 0 := by
  unfold maxC at *
  unfold errF
  rw [if_neg (by omega), if_neg (by omega), if_neg (fun ⟨c, hc, hh⟩ => by have := h4 c hc; omega), if_neg (by omega), if_neg (fun ⟨c, hc, hh⟩ => by have := h4 c hc; omega)]
def fk (cs : List Cl) (b : Bool) (l : List Nat) : List Nat := l.filter fun i => (cs.getD i default).f == b
theorem ZII (cs : List Cl) (b : Bool) {l : List Nat} {k : Nat} (h : k < l.length) : fk cs b (l.take (k + 1)) = if (cs.getD (l.getD k 0) default).f = b then fk cs b (l.take k) ++ [l.getD k 0] else fk cs b (l.take k) := by
  unfold fk
  rw [List.take_succ_eq_append_getElem h, List.filter_append]
  have e : l.getD k 0 = l[k] := by simp [List.getD_eq_getElem?_getD, h]
  rw [e]
  generalize hc : cs.getD l[k] default = c
  by_cases hf : c.f = b
  · rw [if_pos hf]; simp only [List.filter_cons, hc, hf, beq_self_eq_true, if_true, List.filter_nil]
  · rw [if_neg hf]
    have : (c.f == b) = false := by simpa using hf
    simp only [List.filter_cons, hc, this, List.filter_nil, Bool.false_eq_true, if_false, List.append_nil]
theorem ZJ4 (cs : List Cl) (r : Int) (b : Bool) : fk cs b (memb cs r) = membK cs r b := by
  unfold fk memb membK idx
  rw [List.filter_filter]
  congr 1
  funext i
  unfold pR pK
  generalize cs.getD i default = c
  by_cases h1 : c.r = r <;> cases h2 : c.f <;> cases b <;> simp [h1]
theorem ZJa (cs : List Cl) (b : Bool) (l : List Nat) : (fk cs b l).length ≤ l.length := List.length_filter_le _ _
theorem ZIJ (l : List Nat) (n : Nat) : toI (l ++ [n]) = toI l ++ [(n : Int)] := by simp [toI]
theorem ZDT (a b : List Int) : ∀ id, lkH [(9000, Blk.row 3 1 (.ints .i64 a))] id = none ↔ lkH [(9000, Blk.row 3 1 (.ints .i64 b))] id = none := fun id => by
  simp only [lkH]; split <;> simp
theorem ZEF {l : List Int} {k : Nat} (h : k < l.length) : l.getD k 0 ∈ l := by simp [List.getD_eq_getElem?_getD, h]
theorem vC.ok {cs : List Cl} (h : vC cs) : okCs cs := ⟨fun c hc => by
  have := h.2 c hc
  unfold okCl maxC at this
  unfold okC In64
  omega, by have := h.1; omega⟩
theorem ZIK {m : Int} {d : List Int} {l : List Nat} (hd : bd m d) (hl : ∀ i ∈ l, i < d.length) : bd m (sel d l) := fun i hi => by
  rw [ZCF] at hi
  rw [ZAs hi]
  exact hd _ (hl _ (ZA2 hi))
theorem ZJ5 {B : Nat} {I : Nat → Prop} {w : World} {ρ : Nat → Option Value} {c : Nat → Nat → AV} {sz off len : Nat} {v : Value} (h : Conc B I w ρ (.i true c sz off len) v) : Conc B I w ρ (.i false c sz off len) v := by
  cases h with
  | i _ _ _ _ _ cap A u hcap hA hc => exact .i false c sz off len cap A u hcap (fun h => by obtain ⟨ad, h1, h2, _, h4⟩ := hA h; exact ⟨ad, h1, h2, (fun h => by cases h), h4⟩) hc
theorem Eff.fr {P : Program} {f : FuncId} {xs ys : List AV} {c : Nat → Nat → AV} {sz off len : Nat} {H H' : List (Nat × Blk)} {r : AV} (h : Eff P f (xs ++ .i false c sz off len :: ys) H r H') : Eff P f (xs ++ .i true c sz off len :: ys) H r H' := by
  refine ⟨h.1, fun B w I ρ vs ha hw hB => h.2 B w I ρ vs ⟨by rw [ha.1]; simp, fun j hj => ?_⟩ hw hB⟩
  have h2 := ha.2 j (by simpa using hj)
  by_cases e : j = xs.length
  · subst e
    have e1 : ∀ x : AV, (xs ++ x :: ys).getD xs.length .top = x := fun x => by simp [List.getD_eq_getElem?_getD]
    rw [e1] at h2 ⊢
    exact ZJ5 h2
  · have e1 : ∀ x : AV, (xs ++ x :: ys).getD j .top = (xs ++ AV.top :: ys).getD j .top := fun x => by
      rw [List.getD_eq_getElem?_getD, List.getD_eq_getElem?_getD]
      rcases Nat.lt_or_gt_of_ne e with h | h
      · rw [List.getElem?_append_left h, List.getElem?_append_left h]
      · rw [List.getElem?_append_right (by omega), List.getElem?_append_right (by omega)]
        obtain ⟨q, hq⟩ : ∃ q, j - xs.length = q + 1 := ⟨j - xs.length - 1, by omega⟩
        rw [hq]; rfl
    rw [e1] at h2 ⊢
    exact h2
theorem lkf9 {b : Blk} {f : Nat → Option Blk} (h : f 9000 = some b) : ∀ id blk, lkH [(9000, b)] id = some blk → f id = some blk := fun id blk hk => by
  simp only [lkH] at hk
  split at hk
  · rename_i e; subst e; rw [h]; exact hk
  · cases hk
theorem look (cs : List Cl) {r : Int} (h : r ∈ rkF cs) : getA ((kys cs cs.length).map Key.i) (.i r) (.avs ((rws cs cs.length).map intsF)) (.v (.slice none 0 0)) = intsF (toI (memb cs r)) := by
  have hk : r ∈ kys cs cs.length := by
    obtain ⟨i, hi, e⟩ := ZCq.1 h
    exact ZFN.2 ⟨i, hi, e⟩
  obtain ⟨f1, f2⟩ := findAt hk
  unfold getA
  rw [findKey, List.length_map, if_pos f1]
  have h1 := ZFO cs cs.length
  have h2 := ZDE (cs := cs) (k := cs.length) f1
  rw [f2] at h2
  show ((rws cs cs.length).map intsF).getD _ .top = _
  rw [List.getD_eq_getElem?_getD, List.getElem?_map, List.getElem?_eq_getElem (by omega)] 
  rw [List.getD_eq_getElem?_getD, List.getElem?_eq_getElem (by omega)] at h2
  simp only [Option.map_some, Option.getD_some] at h2 ⊢
  rw [h2]; rfl
attribute [local irreducible] Eff
theorem ZIL (ps : List Po) (cs : List Cl) (hps : vP ps) (hv : vC cs) : Pure Try.prog 31 [avPs ps, avCs cs] (intsF (divF ps cs)) := by
  have h64 := hv.1
  have hcon := ZCD ps hps
  have hrl : (rkF cs).length ≤ cs.length := ZD9 cs _
  refine ZB6 (n := 110) (res := [.tmp 4]) hT Try.func31 rfl rfl rfl Try.ntmps31 (Nat.le_of_ble_eq_true rfl) fun B w0 hgh hrd => ?_
  repeat' (first | ((first | refine sC hT fun K' hK' => ?_ | refine oC fun K' hK' => ?_); push_cast; (try simp (disch := omega) only [wrap64, Int.toNat_natCast]); (repeat refine ZAD ?_ ?_); (first | refine hK' _ ?_ | ((first | apply con1 | (apply con3; exact gd) | apply con2); (try intro hb); (first | exact hcon); exact okr; refine hK' _ ?_) | ((first | refine ⟨[_], ⟨rfl, (fun j hj => rfl), (by first | omega | (simp only [List.length_take, List.length_drop, List.length_append, List.length_map, List.length_cons, List.length_nil, List.length_replicate, List.length_set]; omega)), (by first | omega | (simp only [List.length_take, List.length_drop, List.length_append, List.length_map, List.length_cons, List.length_nil, List.length_replicate, List.length_set]; omega))⟩, ?_⟩ | refine ⟨_, ⟨rfl, (fun j hj => rfl), (by first | omega | (simp only [List.length_take, List.length_drop, List.length_append, List.length_map, List.length_cons, List.length_nil, List.length_replicate, List.length_set]; omega)), (by first | omega | (simp only [List.length_take, List.length_drop, List.length_append, List.length_map, List.length_cons, List.length_nil, List.length_replicate, List.length_set]; omega))⟩, ?_⟩ | refine ⟨_, ⟨(by first | omega | (simp only [List.length_take, List.length_drop, List.length_append, List.length_map, List.length_cons, List.length_nil, List.length_replicate, List.length_set]; omega)), ZHG _ _, (by first | omega | (simp only [List.length_take, List.length_drop, List.length_append, List.length_map, List.length_cons, List.length_nil, List.length_replicate, List.length_set]; omega)), (by first | omega | (simp only [List.length_take, List.length_drop, List.length_append, List.length_map, List.length_cons, List.length_nil, List.length_replicate, List.length_set]; omega))⟩, ?_⟩ | refine ⟨_, ⟨(by first | omega | (simp only [List.length_take, List.length_drop, List.length_append, List.length_map, List.length_cons, List.length_nil, List.length_replicate, List.length_set]; omega)), ZEZ _ _ _, (by first | omega | (simp only [List.length_take, List.length_drop, List.length_append, List.length_map, List.length_cons, List.length_nil, List.length_replicate, List.length_set]; omega)), (by first | omega | (simp only [List.length_take, List.length_drop, List.length_append, List.length_map, List.length_cons, List.length_nil, List.length_replicate, List.length_set]; omega))⟩, ?_⟩ | refine ⟨_, ⟨(by first | omega | (simp only [List.length_take, List.length_drop, List.length_append, List.length_map, List.length_cons, List.length_nil, List.length_replicate, List.length_set]; omega)), (by first | omega | (simp only [List.length_take, List.length_drop, List.length_append, List.length_map, List.length_cons, List.length_nil, List.length_replicate, List.length_set]; omega)), ZHG _ _, (by first | omega | (simp only [List.length_take, List.length_drop, List.length_append, List.length_map, List.length_cons, List.length_nil, List.length_replicate, List.length_set]; omega)), (by first | omega | (simp only [List.length_take, List.length_drop, List.length_append, List.length_map, List.length_cons, List.length_nil, List.length_replicate, List.length_set]; omega))⟩, ?_⟩ | refine ⟨_, ⟨(by first | omega | (simp only [List.length_take, List.length_drop, List.length_append, List.length_map, List.length_cons, List.length_nil, List.length_replicate, List.length_set]; omega)), (by first | omega | (simp only [List.length_take, List.length_drop, List.length_append, List.length_map, List.length_cons, List.length_nil, List.length_replicate, List.length_set]; omega)), ZEZ _ _ _, (by first | omega | (simp only [List.length_take, List.length_drop, List.length_append, List.length_map, List.length_cons, List.length_nil, List.length_replicate, List.length_set]; omega)), (by first | omega | (simp only [List.length_take, List.length_drop, List.length_append, List.length_map, List.length_cons, List.length_nil, List.length_replicate, List.length_set]; omega))⟩, ?_⟩); refine hK' _ ?_) | refine ⟨.v (.int .i64 0), hK' _ ?_⟩); clear hK' K') | (refine ZAR hT rfl fun K' hK' => ?_; push_cast; (try simp (disch := omega) only [wrap64, Int.toNat_natCast]); (repeat refine ZAD ?_ ?_); refine hK' _ ?_; clear hK' K') | (refine ZAS T rfl (by simp only [dstOk, Nat.reduceLT]) fun K' hK' => ?_; push_cast; refine hK' _ ?_; clear hK' K') | (refine sK hT ?_; simp only [St.put]) | ((first | refine ZAE (hK _ ?_) | refine ZAJ (hK _ ?_)); clear hK K; push_cast) | ((first | apply ZAC | apply ZAF | apply ZAG | apply ZAM); push_cast) | refine ZAK fun K hK => ?_ | refine ZAN fun K hK => ?_ | refine dQ hT hm fun K hK => ?_ | refine dL hT hm fun K hK => ?_ | apply ZAA | apply ZAB | apply ZAL | (refine ZAH _ rfl (fun h => ?_) (fun h => ?_) <;> simp only [bh2, reduceCtorEq] at h))
  all_goals first | exact ff | skip
  refine ZFt rfl (by simp only [dstOk, Nat.reduceLT]) fun K' hK' => ?_
  push_cast
  refine ⟨_, _, 5000, ZF4 cs hv, fun id blk h => ?_, by omega, by omega, fun id _ => hgh id, ?_, ?_, ?_⟩
  · simp only [lkH] at h
    split at h
    · omega
    · split at h
      · omega
      · cases h
  · push_cast; done
  · push_cast
    exact ZG0 _
  push_cast
  refine hK' _ ?_; clear hK' K'
  repeat' (first | ((first | refine sC hT fun K' hK' => ?_ | refine oC fun K' hK' => ?_); push_cast; (try simp (disch := omega) only [wrap64, Int.toNat_natCast]); (repeat refine ZAD ?_ ?_); (first | refine hK' _ ?_ | refine ⟨.v (.int .i64 0), hK' _ ?_⟩); clear hK' K') | (refine ZAR hT rfl fun K' hK' => ?_; push_cast; (try simp (disch := omega) only [wrap64, Int.toNat_natCast]); (repeat refine ZAD ?_ ?_); refine hK' _ ?_; clear hK' K') | (refine ZAS T rfl (by simp only [dstOk, Nat.reduceLT]) fun K' hK' => ?_; push_cast; refine hK' _ ?_; clear hK' K') | (refine sK hT ?_; simp only [St.put]) | ((first | refine ZAE (hK _ ?_) | refine ZAJ (hK _ ?_)); clear hK K; push_cast) | ((first | apply ZAC | apply ZAF | apply ZAG | apply ZAM); push_cast) | refine ZAK fun K hK => ?_ | refine ZAN fun K hK => ?_ | refine dQ hT hm fun K hK => ?_ | refine dL hT hm fun K hK => ?_ | apply ZAA | apply ZAB | apply ZAL | (refine ZAH _ rfl (fun h => ?_) (fun h => ?_) <;> simp only [bh2, reduceCtorEq] at h))
  all_goals first | exact ff | skip
  refine ZC3 ⟨[(1, avCs cs), (5, .s 22), (6, I64 (sumP ps false)), (7, I64 (sumP ps true)), (8, .s 5000), (10, I64 0), (11, I64 0), (33, .s 5001), (34, I64 (rkF cs).length), (35, I64 0)], [(22, .row 3 1 (.ints .i64 (List.replicate cs.length 0))), (5000, .mpa true ((kys cs cs.length).map Key.i) (.avs ((rws cs cs.length).map intsF))), (5001, .row 3 1 (.ints .i64 (rkF cs)))]⟩ ⟨rfl, rfl, rfl, rfl, rfl, rfl, rfl, rfl, rfl, rfl, trivial⟩ ⟨by rfl, rfl, rfl, trivial⟩ ?_
  refine ZGk 22 9000 (by push_cast [idsE, AV.ids]) (by push_cast; exact ZIH _) (hgh 9000) ?_
  push_cast [rnE, rnH, AV.rn, rnI, Blk.rn, Cont.rn, AV.rn.rnL, ZJ3]
  refine ZAO (α := Nat) (fun k => ⟨[(1, avCs cs), (5, .s 9000), (6, I64 (sumP ps false)), (7, I64 (sumP ps true)), (8, .s 5000), (10, I64 (divS ps cs ((rkF cs).take k)).g), (11, I64 (divS ps cs ((rkF cs).take k)).a), (33, .s 5001), (34, I64 (rkF cs).length), (35, I64 k)], [(9000, .row 3 1 (.ints .i64 (divS ps cs ((rkF cs).take k)).d)), (5000, .mpa true ((kys cs cs.length).map Key.i) (.avs ((rws cs cs.length).map intsF))), (5001, .row 3 1 (.ints .i64 (rkF cs)))]⟩) (fun k => k ≤ (rkF cs).length) (fun k => (rkF cs).length - k) 0 (Nat.zero_le _) (G.wk ⟨rfl, rfl, rfl, rfl, rfl, rfl, rfl, rfl, rfl, rfl, trivial⟩ ⟨rfl, rfl, rfl, trivial⟩) fun k hk => ?_
  by_cases hlt : k < (rkF cs).length
  · have c1 : decide ((k : Int) < ((rkF cs).length : Int)) = true := decide_eq_true (by omega)
    have hin := InvD.all hps hv (rkF cs) k hk
    have hst := ZDG ps cs (rkF cs) k hlt
    have hmem : (rkF cs).getD k 0 ∈ rkF cs := ZEF hlt
    have hr : 0 ≤ (rkF cs).getD k 0 ∧ (rkF cs).getD k 0 ≤ 1000000 := by
      obtain ⟨i, hi, e⟩ := ZCq.1 hmem
      have := (hv.2 _ (ZAc hi)).1.1
      rw [e] at this
      exact this
    have hlook := look cs hmem
    generalize hs : divS ps cs ((rkF cs).take k) = s at *
    generalize hrk : (rkF cs).getD k 0 = r at *
    have hml := ZDl cs r
    have htl := ZBR (memb cs r)
    obtain ⟨e1, e2, e3, e4, e5, e6⟩ := id hin
    have hs2 := ZFH ps
    have hs3 := hps.2.2
    have hA := ZAW hps false
    have hF := ZAW hps true
    simp only [maxC] at hs3 hA hF
    repeat' (first | ((first | refine sC hT fun K' hK' => ?_ | refine oC fun K' hK' => ?_); push_cast [c1, hrk, hlook]; (try simp (disch := omega) only [wrap64, Int.toNat_natCast]); (repeat refine ZAD ?_ ?_); (first | refine hK' _ ?_ | refine ⟨.v (.int .i64 0), hK' _ ?_⟩); clear hK' K') | (refine ZAR hT rfl fun K' hK' => ?_; push_cast [c1, hrk, hlook]; (try simp (disch := omega) only [wrap64, Int.toNat_natCast]); (repeat refine ZAD ?_ ?_); refine hK' _ ?_; clear hK' K') | (refine ZAS T rfl (by simp only [dstOk, Nat.reduceLT]) fun K' hK' => ?_; push_cast [c1, hrk, hlook]; refine hK' _ ?_; clear hK' K') | (refine sK hT ?_; simp only [St.put]) | ((first | refine ZAE (hK _ ?_) | refine ZAJ (hK _ ?_)); clear hK K; push_cast) | ((first | apply ZAC | apply ZAF | apply ZAG | apply ZAM); push_cast) | refine ZAK fun K hK => ?_ | refine ZAN fun K hK => ?_ | refine dQ hT hm fun K hK => ?_ | refine dL hT hm fun K hK => ?_ | apply ZAA | apply ZAB | apply ZAL | (refine ZAH _ rfl (fun h => ?_) (fun h => ?_) <;> simp only [bh2, reduceCtorEq] at h))
    all_goals first | exact ff | skip
    refine ZAk _ (fun a w h => G.nilRow h 14 59 rfl (by decide) 3 1 (.ints .i64 []) rfl) ?_
    push_cast [ZAT]
    refine ZAk _ (fun a w h => G.nilRow h 15 55 rfl (by decide) 3 1 (.ints .i64 []) rfl) ?_
    push_cast [ZAT]
    refine ZAO (α := Nat) (fun q => ⟨[(1, avCs cs), (5, .s 9000), (6, I64 (sumP ps false)), (7, I64 (sumP ps true)), (8, .s 5000), (10, I64 s.g), (11, I64 s.a), (13, I64 r), (14, .s 59), (15, .s 55), (33, .s 5001), (34, I64 (rkF cs).length), (35, I64 k), (41, intsF (toI (memb cs r))), (42, I64 (memb cs r).length), (43, I64 q)], [(55, .row 3 1 (.ints .i64 (toI (fk cs true ((memb cs r).take q))))), (59, .row 3 1 (.ints .i64 (toI (fk cs false ((memb cs r).take q))))), (9000, .row 3 1 (.ints .i64 s.d)), (5000, .mpa true ((kys cs cs.length).map Key.i) (.avs ((rws cs cs.length).map intsF))), (5001, .row 3 1 (.ints .i64 (rkF cs)))]⟩) (fun q => q ≤ (memb cs r).length) (fun q => (memb cs r).length - q) 0 (Nat.zero_le _) (G.wk ⟨rfl, rfl, rfl, rfl, rfl, rfl, rfl, rfl, rfl, rfl, rfl, rfl, rfl, rfl, by rw [← htl]; rfl, rfl, trivial⟩ ⟨by simp only [List.take_zero, fk, List.filter_nil, toI, List.map_nil]; rfl, by simp only [List.take_zero, fk, List.filter_nil, toI, List.map_nil]; rfl, rfl, rfl, rfl, trivial⟩) fun q hq => ?_
    have hq1 := ZJa cs true ((memb cs r).take q)
    have hq2 := ZJa cs false ((memb cs r).take q)
    have hq3 := List.length_take_le q (memb cs r)
    have ht1 := ZBR (fk cs true ((memb cs r).take q))
    have ht2 := ZBR (fk cs false ((memb cs r).take q))
    by_cases hlq : q < (memb cs r).length
    · have c2 : decide ((q : Int) < ((memb cs r).length : Int)) = true := decide_eq_true (by omega)
      have hti := ZBU hlq
      have hli := ZBA _ (ZA2 hlq)
      have f1 := ZII cs true hlq
      have f2 := ZII cs false hlq
      generalize (memb cs r).getD q 0 = i at *
      cases hf : (cs.getD i default).f
      · rw [hf] at f1 f2
        simp only [Bool.false_eq_true, if_false, if_true] at f1 f2
        repeat' (first | ((first | refine sC hT fun K' hK' => ?_ | refine oC fun K' hK' => ?_); push_cast [c2, hti, hf, ZAT]; (try simp (disch := omega) only [wrap64, Int.toNat_natCast]); (repeat refine ZAD ?_ ?_); (first | refine hK' _ ?_ | ((first | refine ⟨[(i : Int)], ⟨rfl, (fun j hj => rfl), by omega, by omega⟩, ?_⟩); refine hK' _ ?_) | refine ⟨.v (.int .i64 0), hK' _ ?_⟩); clear hK' K') | (refine ZAR hT rfl fun K' hK' => ?_; push_cast [c2, hti, hf, ZAT]; (try simp (disch := omega) only [wrap64, Int.toNat_natCast]); (repeat refine ZAD ?_ ?_); refine hK' _ ?_; clear hK' K') | (refine ZAS T rfl (by simp only [dstOk, Nat.reduceLT]) fun K' hK' => ?_; push_cast [c2, hti, hf, ZAT]; refine hK' _ ?_; clear hK' K') | (refine sK hT ?_; simp only [St.put]) | ((first | refine ZAE (hK _ ?_) | refine ZAJ (hK _ ?_)); clear hK K; push_cast) | ((first | apply ZAC | apply ZAF | apply ZAG | apply ZAM); push_cast) | refine ZAK fun K hK => ?_ | refine ZAN fun K hK => ?_ | refine dQ hT hm fun K hK => ?_ | refine dL hT hm fun K hK => ?_ | apply ZAA | apply ZAB | apply ZAL | (refine ZAH _ rfl (fun h => ?_) (fun h => ?_) <;> simp only [bh2, reduceCtorEq] at h))
        all_goals first | exact ff | skip
        all_goals exact ⟨q + 1, ⟨by omega, by omega⟩, G.wk ⟨rfl, rfl, rfl, rfl, rfl, rfl, rfl, rfl, rfl, rfl, rfl, rfl, rfl, rfl, rfl, rfl, trivial⟩ ⟨by rw [f1]; rfl, by rw [f2, ZIJ]; rfl, rfl, rfl, rfl, trivial⟩⟩
      · rw [hf] at f1 f2
        simp only [reduceCtorEq, if_false, if_true] at f1 f2
        repeat' (first | ((first | refine sC hT fun K' hK' => ?_ | refine oC fun K' hK' => ?_); push_cast [c2, hti, hf, ZAT]; (try simp (disch := omega) only [wrap64, Int.toNat_natCast]); (repeat refine ZAD ?_ ?_); (first | refine hK' _ ?_ | ((first | refine ⟨[(i : Int)], ⟨rfl, (fun j hj => rfl), by omega, by omega⟩, ?_⟩); refine hK' _ ?_) | refine ⟨.v (.int .i64 0), hK' _ ?_⟩); clear hK' K') | (refine ZAR hT rfl fun K' hK' => ?_; push_cast [c2, hti, hf, ZAT]; (try simp (disch := omega) only [wrap64, Int.toNat_natCast]); (repeat refine ZAD ?_ ?_); refine hK' _ ?_; clear hK' K') | (refine ZAS T rfl (by simp only [dstOk, Nat.reduceLT]) fun K' hK' => ?_; push_cast [c2, hti, hf, ZAT]; refine hK' _ ?_; clear hK' K') | (refine sK hT ?_; simp only [St.put]) | ((first | refine ZAE (hK _ ?_) | refine ZAJ (hK _ ?_)); clear hK K; push_cast) | ((first | apply ZAC | apply ZAF | apply ZAG | apply ZAM); push_cast) | refine ZAK fun K hK => ?_ | refine ZAN fun K hK => ?_ | refine dQ hT hm fun K hK => ?_ | refine dL hT hm fun K hK => ?_ | apply ZAA | apply ZAB | apply ZAL | (refine ZAH _ rfl (fun h => ?_) (fun h => ?_) <;> simp only [bh2, reduceCtorEq] at h))
        all_goals first | exact ff | skip
        all_goals exact ⟨q + 1, ⟨by omega, by omega⟩, G.wk ⟨rfl, rfl, rfl, rfl, rfl, rfl, rfl, rfl, rfl, rfl, rfl, rfl, rfl, rfl, rfl, rfl, trivial⟩ ⟨by rw [f1, ZIJ]; rfl, by rw [f2]; rfl, rfl, rfl, rfl, trivial⟩⟩
    · obtain rfl : q = (memb cs r).length := by omega
      have c2 : decide (((memb cs r).length : Int) < ((memb cs r).length : Int)) = false := decide_eq_false (by omega)
      have em : ∀ b, fk cs b ((memb cs r).take (memb cs r).length) = membK cs r b := fun b => by rw [List.take_length, ZJ4]
      simp only [em] at hq1 hq2 ht1 ht2 ⊢
      have hn := InvD.step hps hv hin r
      have hd1 := ZEt hps hv hin r
      have hl1 := ZCJ hps hv hin r
      have hb1 := ZF7 hps hv hin r
      have hl2 := ZGT hps hv hin r
      have hb2 := ZIG hps hv hin r
      have ml := ZBA (cs := cs) (r := r)
      have mf := ZAh (cs := cs) (r := r) (b := false)
      have mt := ZAh (cs := cs) (r := r) (b := true)
      have lf := ZDH cs r false
      have lt := ZDH cs r true
      have k1 := ZCt (st1 ps cs r s) (membK cs r false) (by omega) (fun i hi => by rw [hl1]; exact mf i hi) (by omega) hb1
      have k2 := vsum_ok (sel (st1 ps cs r s) (membK cs r false)) (by rw [ZCF]; omega) (ZIK hb1 fun i hi => by rw [hl1]; exact mf i hi)
      have k3 := ZCt (st2 ps cs r s) (membK cs r false) (by omega) (fun i hi => by rw [hl2]; exact mf i hi) (by omega) hb2
      have k4 := vsum_ok (sel (st2 ps cs r s) (membK cs r false)) (by rw [ZCF]; omega) (ZIK hb2 fun i hi => by rw [hl2]; exact mf i hi)
      have k5 := ZCt (st2 ps cs r s) (memb cs r) (by omega) (fun i hi => by rw [hl2]; exact ml i hi) (by omega) hb2
      have k6 := vsum_ok (sel (st2 ps cs r s) (memb cs r)) (by rw [ZCF]; omega) (ZIK hb2 fun i hi => by rw [hl2]; exact ml i hi)
      have eff1 : Eff Try.prog 52 [.s 9000, I64 (sumP ps false + sumP ps true - s.a), avCs cs, ints (toI (memb cs r))] [(9000, .row 3 1 (.ints .i64 s.d))] (.t []) [(9000, .row 3 1 (.ints .i64 (st1 ps cs r s)))] := ZEE cs s.d (memb cs r) _ _ (vC.ok hv) (by omega) ZBA e1 h64 (ZDS (by rw [ZAU]; omega) (by omega) (by unfold maxC; omega) (ZA0 hv ZBA)) hd1
      have g1 := hn.g1; have a1 := hn.a1; have g0 := hn.g0; have a0 := hn.a0
      simp only [stepD] at g1 a1 g0 a0
      have s1 := ZB2 hps hv hin hb1 hl1 (pK cs r false)
      change 0 ≤ sumI (sel _ (membK cs r false)) at s1
      repeat' (first | ((first | refine sC hT fun K' hK' => ?_ | refine oC fun K' hK' => ?_); push_cast [c2, ZAT, hlook]; (try simp (disch := omega) only [wrap64, Int.toNat_natCast]); (repeat refine ZAD ?_ ?_); (first | refine hK' _ ?_ | refine ⟨.v (.int .i64 0), hK' _ ?_⟩); clear hK' K') | (refine ZAR hT rfl fun K' hK' => ?_; push_cast [c2, ZAT, hlook]; (try simp (disch := omega) only [wrap64, Int.toNat_natCast]); (repeat refine ZAD ?_ ?_); refine hK' _ ?_; clear hK' K') | (refine ZAS T rfl (by simp only [dstOk, Nat.reduceLT]) fun K' hK' => ?_; push_cast [c2, ZAT, hlook]; refine hK' _ ?_; clear hK' K') | (refine sK hT ?_; simp only [St.put]) | ((first | refine ZAE (hK _ ?_) | refine ZAJ (hK _ ?_)); clear hK K; push_cast) | ((first | apply ZAC | apply ZAF | apply ZAG | apply ZAM); push_cast) | refine ZAK fun K hK => ?_ | refine ZAN fun K hK => ?_ | refine dQ hT hm fun K hK => ?_ | refine dL hT hm fun K hK => ?_ | apply ZAA | apply ZAB | apply ZAL | (refine ZAH _ rfl (fun h => ?_) (fun h => ?_) <;> simp only [bh2, reduceCtorEq] at h))
      all_goals first | exact ff | skip
      refine ZBb rfl (by simp only [dstOk, Nat.reduceLT]) fun K' hK' => ?_
      push_cast
      refine ⟨[(9000, _)], _, _, Eff.fr (xs := [_, _, _]) (ys := []) eff1, lkf9 rfl, ZDT _ _, ?_⟩
      push_cast [true_and]
      refine hK' _ ?_; clear hK' K'
      by_cases hov : sumP ps false - s.g < sumI (sel (st1 ps cs r s) (membK cs r false))
      · have c3 : decide (sumP ps false - s.g < sumI (sel (st1 ps cs r s) (membK cs r false))) = true := decide_eq_true hov
        have e0 := ZCw hps hv hin r hov
        have hd2 := ZDQ hps hv hin r
        have hd3 := ZDR hps hv hin r hov
        have hma := ZIF hps hv hin r
        have e2 : st2 ps cs r s = put (put (st1 ps cs r s) (membK cs r false) (fairF (sumP ps false - s.g) (wants cs (membK cs r false)))) (membK cs r true) (fairF (sumP ps false + sumP ps true - s.a - (sumP ps false - s.g)) (wants cs (membK cs r true))) := by unfold st2; rw [if_pos hov]
        have eff2 := ZEE cs (st1 ps cs r s) (membK cs r false) _ _ (vC.ok hv) (by omega) ZAh hl1 h64 (ZDS (by rw [ZAU]; omega) (by omega) (by unfold maxC; omega) (ZA0 hv ZAh)) hd2
        have eff3 := ZEE cs (put (st1 ps cs r s) (membK cs r false) (fairF (sumP ps false - s.g) (wants cs (membK cs r false)))) (membK cs r true) _ _ (vC.ok hv) (by omega) ZAh (by rw [ZBi]; exact hl1) h64 (ZDS (by rw [ZAU]; omega) e0 (by unfold maxC; omega) (ZA0 hv ZAh)) hd3
        rw [← e2] at eff3
        clear e2
        have hst : divS ps cs ((rkF cs).take (k + 1)) = ⟨st2 ps cs r s, s.g + sumI (sel (st2 ps cs r s) (membK cs r false)), s.a + sumI (sel (st2 ps cs r s) (memb cs r))⟩ := hst
        generalize put (st1 ps cs r s) (membK cs r false) (fairF (sumP ps false - s.g) (wants cs (membK cs r false))) = mid at *
        repeat' (first | ((first | refine sC hT fun K' hK' => ?_ | refine oC fun K' hK' => ?_); push_cast [c3, ZAT, hlook]; (try simp (disch := omega) only [wrap64, Int.toNat_natCast]); (repeat refine ZAD ?_ ?_); (first | refine hK' _ ?_ | ((first | apply con1 | (apply con3; exact gd) | apply con2); (try intro hb); (first | exact k1 | exact k2); exact okr; refine hK' _ ?_) | refine ⟨.v (.int .i64 0), hK' _ ?_⟩); clear hK' K') | (refine ZAR hT rfl fun K' hK' => ?_; push_cast [c3, ZAT, hlook]; (try simp (disch := omega) only [wrap64, Int.toNat_natCast]); (repeat refine ZAD ?_ ?_); refine hK' _ ?_; clear hK' K') | (refine ZAS T rfl (by simp only [dstOk, Nat.reduceLT]) fun K' hK' => ?_; push_cast [c3, ZAT, hlook]; refine hK' _ ?_; clear hK' K') | (refine sK hT ?_; simp only [St.put]) | ((first | refine ZAE (hK _ ?_) | refine ZAJ (hK _ ?_)); clear hK K; push_cast) | ((first | apply ZAC | apply ZAF | apply ZAG | apply ZAM); push_cast) | refine ZAK fun K hK => ?_ | refine ZAN fun K hK => ?_ | refine dQ hT hm fun K hK => ?_ | refine dL hT hm fun K hK => ?_ | apply ZAA | apply ZAB | apply ZAL | (refine ZAH _ rfl (fun h => ?_) (fun h => ?_) <;> simp only [bh2, reduceCtorEq] at h))
        all_goals first | exact ff | skip
        refine ZBb rfl (by simp only [dstOk, Nat.reduceLT]) fun K' hK' => ?_
        push_cast
        refine ⟨[(9000, _)], _, _, eff2, lkf9 rfl, ZDT _ _, ?_⟩
        push_cast [true_and]
        refine hK' _ ?_; clear hK' K'
        repeat' (first | ((first | refine sC hT fun K' hK' => ?_ | refine oC fun K' hK' => ?_); push_cast [ZAT, hlook]; (try simp (disch := omega) only [wrap64, Int.toNat_natCast]); (repeat refine ZAD ?_ ?_); (first | refine hK' _ ?_ | refine ⟨.v (.int .i64 0), hK' _ ?_⟩); clear hK' K') | (refine ZAR hT rfl fun K' hK' => ?_; push_cast [ZAT, hlook]; (try simp (disch := omega) only [wrap64, Int.toNat_natCast]); (repeat refine ZAD ?_ ?_); refine hK' _ ?_; clear hK' K') | (refine ZAS T rfl (by simp only [dstOk, Nat.reduceLT]) fun K' hK' => ?_; push_cast [ZAT, hlook]; refine hK' _ ?_; clear hK' K') | (refine sK hT ?_; simp only [St.put]) | ((first | refine ZAE (hK _ ?_) | refine ZAJ (hK _ ?_)); clear hK K; push_cast) | ((first | apply ZAC | apply ZAF | apply ZAG | apply ZAM); push_cast) | refine ZAK fun K hK => ?_ | refine ZAN fun K hK => ?_ | refine dQ hT hm fun K hK => ?_ | refine dL hT hm fun K hK => ?_ | apply ZAA | apply ZAB | apply ZAL | (refine ZAH _ rfl (fun h => ?_) (fun h => ?_) <;> simp only [bh2, reduceCtorEq] at h))
        all_goals first | exact ff | skip
        refine ZBb rfl (by simp only [dstOk, Nat.reduceLT]) fun K' hK' => ?_
        push_cast
        refine ⟨[(9000, _)], _, _, eff3, lkf9 rfl, ZDT _ _, ?_⟩
        push_cast [true_and]
        refine hK' _ ?_; clear hK' K'
        repeat' (first | ((first | refine sC hT fun K' hK' => ?_ | refine oC fun K' hK' => ?_); push_cast [ZAT, hlook]; (try simp (disch := omega) only [wrap64, Int.toNat_natCast]); (repeat refine ZAD ?_ ?_); (first | refine hK' _ ?_ | ((first | apply con1 | (apply con3; exact gd) | apply con2); (try intro hb); (first | exact k3 | exact k4 | exact k5 | exact k6); exact okr; refine hK' _ ?_) | refine ⟨.v (.int .i64 0), hK' _ ?_⟩); clear hK' K') | (refine ZAR hT rfl fun K' hK' => ?_; push_cast [ZAT, hlook]; (try simp (disch := omega) only [wrap64, Int.toNat_natCast]); (repeat refine ZAD ?_ ?_); refine hK' _ ?_; clear hK' K') | (refine ZAS T rfl (by simp only [dstOk, Nat.reduceLT]) fun K' hK' => ?_; push_cast [ZAT, hlook]; refine hK' _ ?_; clear hK' K') | (refine sK hT ?_; simp only [St.put]) | ((first | refine ZAE (hK _ ?_) | refine ZAJ (hK _ ?_)); clear hK K; push_cast) | ((first | apply ZAC | apply ZAF | apply ZAG | apply ZAM); push_cast) | refine ZAK fun K hK => ?_ | refine ZAN fun K hK => ?_ | refine dQ hT hm fun K hK => ?_ | refine dL hT hm fun K hK => ?_ | apply ZAA | apply ZAB | apply ZAL | (refine ZAH _ rfl (fun h => ?_) (fun h => ?_) <;> simp only [bh2, reduceCtorEq] at h))
        all_goals first | exact ff | skip
        all_goals exact ⟨k + 1, ⟨by omega, by omega⟩, G.wk ⟨rfl, rfl, rfl, rfl, rfl, by rw [hst]; rfl, by rw [hst]; rfl, rfl, rfl, rfl, trivial⟩ ⟨by rw [hst]; rfl, rfl, rfl, trivial⟩⟩
      · have c3 : decide (sumP ps false - s.g < sumI (sel (st1 ps cs r s) (membK cs r false))) = false := decide_eq_false hov
        have e2 : st2 ps cs r s = st1 ps cs r s := by unfold st2; rw [if_neg hov]
        rw [e2] at k3 k4 k5 k6 g1 a1 g0 a0
        have hst : divS ps cs ((rkF cs).take (k + 1)) = ⟨st1 ps cs r s, s.g + sumI (sel (st1 ps cs r s) (membK cs r false)), s.a + sumI (sel (st1 ps cs r s) (memb cs r))⟩ := by rw [hst]; unfold stepD; rw [e2]
        repeat' (first | ((first | refine sC hT fun K' hK' => ?_ | refine oC fun K' hK' => ?_); push_cast [c3, ZAT, hlook]; (try simp (disch := omega) only [wrap64, Int.toNat_natCast]); (repeat refine ZAD ?_ ?_); (first | refine hK' _ ?_ | ((first | apply con1 | (apply con3; exact gd) | apply con2); (try intro hb); (first | exact k1 | exact k2 | exact k3 | exact k4 | exact k5 | exact k6); exact okr; refine hK' _ ?_) | refine ⟨.v (.int .i64 0), hK' _ ?_⟩); clear hK' K') | (refine ZAR hT rfl fun K' hK' => ?_; push_cast [c3, ZAT, hlook]; (try simp (disch := omega) only [wrap64, Int.toNat_natCast]); (repeat refine ZAD ?_ ?_); refine hK' _ ?_; clear hK' K') | (refine ZAS T rfl (by simp only [dstOk, Nat.reduceLT]) fun K' hK' => ?_; push_cast [c3, ZAT, hlook]; refine hK' _ ?_; clear hK' K') | (refine sK hT ?_; simp only [St.put]) | ((first | refine ZAE (hK _ ?_) | refine ZAJ (hK _ ?_)); clear hK K; push_cast) | ((first | apply ZAC | apply ZAF | apply ZAG | apply ZAM); push_cast) | refine ZAK fun K hK => ?_ | refine ZAN fun K hK => ?_ | refine dQ hT hm fun K hK => ?_ | refine dL hT hm fun K hK => ?_ | apply ZAA | apply ZAB | apply ZAL | (refine ZAH _ rfl (fun h => ?_) (fun h => ?_) <;> simp only [bh2, reduceCtorEq] at h))
        all_goals first | exact ff | skip
        all_goals exact ⟨k + 1, ⟨by omega, by omega⟩, G.wk ⟨rfl, rfl, rfl, rfl, rfl, by rw [hst]; rfl, by rw [hst]; rfl, rfl, rfl, rfl, trivial⟩ ⟨by rw [hst]; rfl, rfl, rfl, trivial⟩⟩
  · obtain rfl : k = (rkF cs).length := by omega
    have c1 : decide (((rkF cs).length : Int) < ((rkF cs).length : Int)) = false := decide_eq_false (by omega)
    have e : divF ps cs = (divS ps cs ((rkF cs).take (rkF cs).length)).d := by rw [List.take_length]; rfl
    rw [e]
    repeat' (first | ((first | refine sC hT fun K' hK' => ?_ | refine oC fun K' hK' => ?_); push_cast [c1]; (try simp (disch := omega) only [wrap64, Int.toNat_natCast]); (repeat refine ZAD ?_ ?_); (first | refine hK' _ ?_ | refine ⟨.v (.int .i64 0), hK' _ ?_⟩); clear hK' K') | (refine ZAR hT rfl fun K' hK' => ?_; push_cast [c1]; (try simp (disch := omega) only [wrap64, Int.toNat_natCast]); (repeat refine ZAD ?_ ?_); refine hK' _ ?_; clear hK' K') | (refine ZAS T rfl (by simp only [dstOk, Nat.reduceLT]) fun K' hK' => ?_; push_cast [c1]; refine hK' _ ?_; clear hK' K') | (refine sK hT ?_; simp only [St.put]) | ((first | refine ZAE (hK _ ?_) | refine ZAJ (hK _ ?_)); clear hK K; push_cast) | ((first | apply ZAC | apply ZAF | apply ZAG | apply ZAM); push_cast) | refine ZAK fun K hK => ?_ | refine ZAN fun K hK => ?_ | refine dQ hT hm fun K hK => ?_ | refine dL hT hm fun K hK => ?_ | apply ZAA | apply ZAB | apply ZAL | (refine ZAH _ rfl (fun h => ?_) (fun h => ?_) <;> simp only [bh2, reduceCtorEq] at h))
    all_goals first | exact ff | skip
    all_goals done
end Go.Proofs.Ythgjjhddbigfcaa
