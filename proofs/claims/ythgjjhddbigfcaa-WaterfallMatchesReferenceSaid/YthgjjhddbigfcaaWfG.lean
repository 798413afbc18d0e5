/- Part of a proof about the given program: contracts of its functions (see the comment of the last text). -/
import Derived.Test.YthgjjhddbigfcaaWfF
import Derived.Test.YthgjjhddbigfcaaPl2
import Derived.Test.YthgjjhddbigfcaaWsD
namespace Go.Proofs.Ythgjjhddbigfcaa
open Go.Eng Go.Proofs Go.Wf Go.Proofs.Share
set_option linter.unusedSimpArgs false
set_option linter.unusedVariables false
attribute [local irreducible] AOps AOpsX AOps2 AOpsS AWP AAnyS Go.Eng.Pure PureRow Eff
theorem ZGu (cs : List Cl) (r : Int) (b : Bool) (hr : In64 r) (h64 : cs.length ≤ 64) : Pure Try.prog 56 [avCs cs, I64 r, BL b] (intsF (toI (membK cs r b))) := by
  have hlen := fun k => ZD5 k (pK cs r b)
  have htl := fun k => ZBR (idx k (pK cs r b))
  refine ZAV (n := 36) (res := [.tmp 6]) hT Try.func56 rfl rfl rfl Try.ntmps56 (Nat.le_of_ble_eq_true rfl) fun B w0 => ?_
  repeat' (first | ((first | refine sC hT fun K' hK' => ?_ | refine oC fun K' hK' => ?_); push_cast; (try simp (disch := omega) only [wrap64, Int.toNat_natCast]); (repeat refine ZAD ?_ ?_); (first | refine hK' _ ?_ | refine ⟨.v (.int .i64 0), hK' _ ?_⟩); clear hK' K') | (refine sK hT ?_; simp only [St.put]) | ((first | refine ZAE (hK _ ?_) | refine ZAJ (hK _ ?_)); clear hK K; push_cast) | ((first | apply ZAC | apply ZAF | apply ZAG | apply ZAM); push_cast) | refine ZAK fun K hK => ?_ | refine ZAN fun K hK => ?_ | refine dQ hT hm fun K hK => ?_ | refine dL hT hm fun K hK => ?_ | apply ZAA | apply ZAB | apply ZAL | (refine ZAH _ rfl (fun h => ?_) (fun h => ?_) <;> simp only [bh2, reduceCtorEq] at h))
  all_goals first | exact ff | skip
  refine ZAk _ (fun a w h => G.nilRow h 7 34 rfl (by decide) 3 1 (.ints .i64 []) rfl) ?_
  push_cast
  refine ZAO (α := Nat) (fun k => ⟨[(0, avCs cs), (1, I64 r), (2, BL b), (7, .s 34), (8, I64 k)], [(34, .row 3 1 (.ints .i64 (toI (idx k (pK cs r b)))))]⟩) (fun k => k ≤ cs.length) (fun k => cs.length - k) 0 (Nat.zero_le _) (G.wk ⟨rfl, rfl, rfl, rfl, rfl, trivial⟩ ⟨rfl, trivial⟩) fun k hk => ?_
  have hlk := hlen k
  have htk := htl k
  by_cases hlt : k < cs.length
  · have c1 : decide ((k : Int) < (cs.length : Int)) = true := decide_eq_true (by omega)
    have hst := ZD8 k (pK cs r b)
    by_cases hp : (cs.getD k default).r = r ∧ (cs.getD k default).f = b
    · have e1 : pK cs r b k = true := decide_eq_true hp
      rw [e1, if_pos rfl] at hst
      have e2 : ((cs.getD k default).r == r) = true := beq_iff_eq.2 hp.1
      have e3 : ((cs.getD k default).f == b) = true := by rw [hp.2]; exact beq_self_eq_true b
      repeat' (first | ((first | refine sC hT fun K' hK' => ?_ | refine oC fun K' hK' => ?_); push_cast [c1, e2, e3]; (try simp (disch := omega) only [wrap64, Int.toNat_natCast]); (repeat refine ZAD ?_ ?_); (first | refine hK' _ ?_ | ((first | refine ⟨[(k : Int)], ⟨rfl, (fun j hj => rfl), by rw [htk]; omega, by rw [htk]; omega⟩, ?_⟩); refine hK' _ ?_) | refine ⟨.v (.int .i64 0), hK' _ ?_⟩); clear hK' K') | (refine sK hT ?_; simp only [St.put]) | ((first | refine ZAE (hK _ ?_) | refine ZAJ (hK _ ?_)); clear hK K; push_cast) | ((first | apply ZAC | apply ZAF | apply ZAG | apply ZAM); push_cast) | refine ZAK fun K hK => ?_ | refine ZAN fun K hK => ?_ | refine dQ hT hm fun K hK => ?_ | refine dL hT hm fun K hK => ?_ | apply ZAA | apply ZAB | apply ZAL | (refine ZAH _ rfl (fun h => ?_) (fun h => ?_) <;> simp only [bh2, reduceCtorEq] at h))
      all_goals first | exact ff | skip
      all_goals exact ⟨k + 1, ⟨by omega, by omega⟩, G.wk ⟨rfl, rfl, rfl, rfl, rfl, trivial⟩ ⟨by rw [hst]; rfl, trivial⟩⟩
    · have e1 : pK cs r b k = false := decide_eq_false hp
      rw [e1] at hst
      simp only [Bool.false_eq_true, if_false] at hst
      have e2 : (((cs.getD k default).r == r) && ((cs.getD k default).f == b)) = false := by
        rw [Bool.eq_false_iff]; intro h; rw [Bool.and_eq_true, beq_iff_eq, beq_iff_eq] at h; exact hp h
      repeat' (first | ((first | refine sC hT fun K' hK' => ?_ | refine oC fun K' hK' => ?_); push_cast [c1, e2]; (try simp (disch := omega) only [wrap64, Int.toNat_natCast]); (repeat refine ZAD ?_ ?_); (first | refine hK' _ ?_ | refine ⟨.v (.int .i64 0), hK' _ ?_⟩); clear hK' K') | (refine sK hT ?_; simp only [St.put]) | ((first | refine ZAE (hK _ ?_) | refine ZAJ (hK _ ?_)); clear hK K; push_cast) | ((first | apply ZAC | apply ZAF | apply ZAG | apply ZAM); push_cast) | refine ZAK fun K hK => ?_ | refine ZAN fun K hK => ?_ | refine dQ hT hm fun K hK => ?_ | refine dL hT hm fun K hK => ?_ | apply ZAA | apply ZAB | apply ZAL | (refine ZAH _ rfl (fun h => ?_) (fun h => ?_) <;> simp only [bh2, reduceCtorEq] at h))
      all_goals first | exact ff | skip
      all_goals exact ⟨k + 1, ⟨by omega, by omega⟩, G.wk ⟨rfl, rfl, rfl, rfl, rfl, trivial⟩ ⟨by rw [hst]; rfl, trivial⟩⟩
  · obtain rfl : k = cs.length := by omega
    have c1 : decide ((cs.length : Int) < (cs.length : Int)) = false := decide_eq_false (by omega)
    unfold membK
    repeat' (first | ((first | refine sC hT fun K' hK' => ?_ | refine oC fun K' hK' => ?_); push_cast [c1]; (try simp (disch := omega) only [wrap64, Int.toNat_natCast]); (repeat refine ZAD ?_ ?_); (first | refine hK' _ ?_ | refine ⟨.v (.int .i64 0), hK' _ ?_⟩); clear hK' K') | (refine sK hT ?_; simp only [St.put]) | ((first | refine ZAE (hK _ ?_) | refine ZAJ (hK _ ?_)); clear hK K; push_cast) | ((first | apply ZAC | apply ZAF | apply ZAG | apply ZAM); push_cast) | refine ZAK fun K hK => ?_ | refine ZAN fun K hK => ?_ | refine dQ hT hm fun K hK => ?_ | refine dL hT hm fun K hK => ?_ | apply ZAA | apply ZAB | apply ZAL | (refine ZAH _ rfl (fun h => ?_) (fun h => ?_) <;> simp only [bh2, reduceCtorEq] at h))
    all_goals first | exact ff | skip
    all_goals done
theorem rof_ok (cs : List Cl) (r : Int) (hr : In64 r) (h64 : cs.length ≤ 64) : Pure Try.prog 58 [avCs cs, I64 r] (intsF (toI (memb cs r))) := by
  have hlen := fun k => ZD5 k (pR cs r)
  have htl := fun k => ZBR (idx k (pR cs r))
  refine ZAV (n := 25) (res := [.tmp 4]) hT Try.func58 rfl rfl rfl Try.ntmps58 (Nat.le_of_ble_eq_true rfl) fun B w0 => ?_
  repeat' (first | ((first | refine sC hT fun K' hK' => ?_ | refine oC fun K' hK' => ?_); push_cast; (try simp (disch := omega) only [wrap64, Int.toNat_natCast]); (repeat refine ZAD ?_ ?_); (first | refine hK' _ ?_ | refine ⟨.v (.int .i64 0), hK' _ ?_⟩); clear hK' K') | (refine sK hT ?_; simp only [St.put]) | ((first | refine ZAE (hK _ ?_) | refine ZAJ (hK _ ?_)); clear hK K; push_cast) | ((first | apply ZAC | apply ZAF | apply ZAG | apply ZAM); push_cast) | refine ZAK fun K hK => ?_ | refine ZAN fun K hK => ?_ | refine dQ hT hm fun K hK => ?_ | refine dL hT hm fun K hK => ?_ | apply ZAA | apply ZAB | apply ZAL | (refine ZAH _ rfl (fun h => ?_) (fun h => ?_) <;> simp only [bh2, reduceCtorEq] at h))
  all_goals first | exact ff | skip
  refine ZAk _ (fun a w h => G.nilRow h 5 23 rfl (by decide) 3 1 (.ints .i64 []) rfl) ?_
  push_cast
  refine ZAO (α := Nat) (fun k => ⟨[(0, avCs cs), (1, I64 r), (5, .s 23), (6, I64 k)], [(23, .row 3 1 (.ints .i64 (toI (idx k (pR cs r)))))]⟩) (fun k => k ≤ cs.length) (fun k => cs.length - k) 0 (Nat.zero_le _) (G.wk ⟨rfl, rfl, rfl, rfl, trivial⟩ ⟨rfl, trivial⟩) fun k hk => ?_
  have hlk := hlen k
  have htk := htl k
  by_cases hlt : k < cs.length
  · have c1 : decide ((k : Int) < (cs.length : Int)) = true := decide_eq_true (by omega)
    have hst := ZD8 k (pR cs r)
    by_cases hp : (cs.getD k default).r = r
    · have e1 : pR cs r k = true := decide_eq_true hp
      rw [e1, if_pos rfl] at hst
      have e2 : ((cs.getD k default).r == r) = true := beq_iff_eq.2 hp
      repeat' (first | ((first | refine sC hT fun K' hK' => ?_ | refine oC fun K' hK' => ?_); push_cast [c1, e2]; (try simp (disch := omega) only [wrap64, Int.toNat_natCast]); (repeat refine ZAD ?_ ?_); (first | refine hK' _ ?_ | ((first | refine ⟨[(k : Int)], ⟨rfl, (fun j hj => rfl), by rw [htk]; omega, by rw [htk]; omega⟩, ?_⟩); refine hK' _ ?_) | refine ⟨.v (.int .i64 0), hK' _ ?_⟩); clear hK' K') | (refine sK hT ?_; simp only [St.put]) | ((first | refine ZAE (hK _ ?_) | refine ZAJ (hK _ ?_)); clear hK K; push_cast) | ((first | apply ZAC | apply ZAF | apply ZAG | apply ZAM); push_cast) | refine ZAK fun K hK => ?_ | refine ZAN fun K hK => ?_ | refine dQ hT hm fun K hK => ?_ | refine dL hT hm fun K hK => ?_ | apply ZAA | apply ZAB | apply ZAL | (refine ZAH _ rfl (fun h => ?_) (fun h => ?_) <;> simp only [bh2, reduceCtorEq] at h))
      all_goals first | exact ff | skip
      all_goals exact ⟨k + 1, ⟨by omega, by omega⟩, G.wk ⟨rfl, rfl, rfl, rfl, trivial⟩ ⟨by rw [hst]; rfl, trivial⟩⟩
    · have e1 : pR cs r k = false := decide_eq_false hp
      rw [e1] at hst
      simp only [Bool.false_eq_true, if_false] at hst
      have e2 : ((cs.getD k default).r == r) = false := by simpa using hp
      repeat' (first | ((first | refine sC hT fun K' hK' => ?_ | refine oC fun K' hK' => ?_); push_cast [c1, e2]; (try simp (disch := omega) only [wrap64, Int.toNat_natCast]); (repeat refine ZAD ?_ ?_); (first | refine hK' _ ?_ | refine ⟨.v (.int .i64 0), hK' _ ?_⟩); clear hK' K') | (refine sK hT ?_; simp only [St.put]) | ((first | refine ZAE (hK _ ?_) | refine ZAJ (hK _ ?_)); clear hK K; push_cast) | ((first | apply ZAC | apply ZAF | apply ZAG | apply ZAM); push_cast) | refine ZAK fun K hK => ?_ | refine ZAN fun K hK => ?_ | refine dQ hT hm fun K hK => ?_ | refine dL hT hm fun K hK => ?_ | apply ZAA | apply ZAB | apply ZAL | (refine ZAH _ rfl (fun h => ?_) (fun h => ?_) <;> simp only [bh2, reduceCtorEq] at h))
      all_goals first | exact ff | skip
      all_goals exact ⟨k + 1, ⟨by omega, by omega⟩, G.wk ⟨rfl, rfl, rfl, rfl, trivial⟩ ⟨by rw [hst]; rfl, trivial⟩⟩
  · obtain rfl : k = cs.length := by omega
    have c1 : decide ((cs.length : Int) < (cs.length : Int)) = false := decide_eq_false (by omega)
    unfold memb
    repeat' (first | ((first | refine sC hT fun K' hK' => ?_ | refine oC fun K' hK' => ?_); push_cast [c1]; (try simp (disch := omega) only [wrap64, Int.toNat_natCast]); (repeat refine ZAD ?_ ?_); (first | refine hK' _ ?_ | refine ⟨.v (.int .i64 0), hK' _ ?_⟩); clear hK' K') | (refine sK hT ?_; simp only [St.put]) | ((first | refine ZAE (hK _ ?_) | refine ZAJ (hK _ ?_)); clear hK K; push_cast) | ((first | apply ZAC | apply ZAF | apply ZAG | apply ZAM); push_cast) | refine ZAK fun K hK => ?_ | refine ZAN fun K hK => ?_ | refine dQ hT hm fun K hK => ?_ | refine dL hT hm fun K hK => ?_ | apply ZAA | apply ZAB | apply ZAL | (refine ZAH _ rfl (fun h => ?_) (fun h => ?_) <;> simp only [bh2, reduceCtorEq] at h))
    all_goals first | exact ff | skip
    all_goals done
theorem ZCt (d : List Int) (l : List Nat) (h64 : l.length ≤ 64) (hl : ∀ i ∈ l, i < d.length) (hdl : d.length ≤ 64) (hd : bd maxC d) : Pure Try.prog 54 [ints d, ints (toI l)] (intsF (sel d l)) := by
  have htl := ZBR l
  refine ZAV (n := 23) (res := [.tmp 4]) hT Try.func54 rfl rfl rfl Try.ntmps54 (Nat.le_of_ble_eq_true rfl) fun B w0 => ?_
  repeat' (first | ((first | refine sC hT fun K' hK' => ?_ | refine oC fun K' hK' => ?_); push_cast [htl]; (try simp (disch := omega) only [wrap64, Int.toNat_natCast]); (repeat refine ZAD ?_ ?_); (first | refine hK' _ ?_ | refine ⟨.v (.int .i64 0), hK' _ ?_⟩); clear hK' K') | (refine sK hT ?_; simp only [St.put]) | ((first | refine ZAE (hK _ ?_) | refine ZAJ (hK _ ?_)); clear hK K; push_cast) | ((first | apply ZAC | apply ZAF | apply ZAG | apply ZAM); push_cast) | refine ZAK fun K hK => ?_ | refine ZAN fun K hK => ?_ | refine dQ hT hm fun K hK => ?_ | refine dL hT hm fun K hK => ?_ | apply ZAA | apply ZAB | apply ZAL | (refine ZAH _ rfl (fun h => ?_) (fun h => ?_) <;> simp only [bh2, reduceCtorEq] at h))
  all_goals first | exact ff | skip
  refine ZAk _ (fun a w h => G.nilRow h 5 20 rfl (by decide) 3 1 (.ints .i64 []) rfl) ?_
  push_cast
  refine ZAO (α := Nat) (fun k => ⟨[(0, ints d), (5, .s 20), (8, .i false (fun e _ => .v (.int .i64 ((toI l).getD e 0))) 1 0 l.length), (9, I64 l.length), (10, I64 k)], [(20, .row 3 1 (.ints .i64 (sel d (l.take k))))]⟩) (fun k => k ≤ l.length) (fun k => l.length - k) 0 (Nat.zero_le _) (G.wk ⟨rfl, rfl, rfl, rfl, rfl, trivial⟩ ⟨rfl, trivial⟩) fun k hk => ?_
  have hsl : (sel d (l.take k)).length = k := by rw [ZCF, List.length_take]; omega
  by_cases hlt : k < l.length
  · have c1 : decide ((k : Int) < (l.length : Int)) = true := decide_eq_true (by omega)
    have hli := hl _ (ZA2 hlt)
    have hti := ZBU hlt
    have hst := ZJG d l k hlt
    repeat' (first | ((first | refine sC hT fun K' hK' => ?_ | refine oC fun K' hK' => ?_); push_cast [c1, hti]; (try simp (disch := omega) only [wrap64, Int.toNat_natCast]); (repeat refine ZAD ?_ ?_); (first | refine hK' _ ?_ | ((first | refine ⟨[d.getD (l.getD k 0) 0], ⟨rfl, (fun j hj => rfl), by rw [hsl]; omega, by rw [hsl]; omega⟩, ?_⟩); refine hK' _ ?_) | refine ⟨.v (.int .i64 0), hK' _ ?_⟩); clear hK' K') | (refine sK hT ?_; simp only [St.put]) | ((first | refine ZAE (hK _ ?_) | refine ZAJ (hK _ ?_)); clear hK K; push_cast) | ((first | apply ZAC | apply ZAF | apply ZAG | apply ZAM); push_cast) | refine ZAK fun K hK => ?_ | refine ZAN fun K hK => ?_ | refine dQ hT hm fun K hK => ?_ | refine dL hT hm fun K hK => ?_ | apply ZAA | apply ZAB | apply ZAL | (refine ZAH _ rfl (fun h => ?_) (fun h => ?_) <;> simp only [bh2, reduceCtorEq] at h))
    all_goals first | exact ff | skip
    all_goals exact ⟨k + 1, ⟨by omega, by omega⟩, G.wk ⟨rfl, rfl, rfl, rfl, rfl, trivial⟩ ⟨by rw [hst]; rfl, trivial⟩⟩
  · obtain rfl : k = l.length := by omega
    have c1 : decide ((l.length : Int) < (l.length : Int)) = false := decide_eq_false (by omega)
    have e : sel d l = sel d (l.take l.length) := by rw [List.take_length]
    rw [e]
    repeat' (first | ((first | refine sC hT fun K' hK' => ?_ | refine oC fun K' hK' => ?_); push_cast [c1]; (try simp (disch := omega) only [wrap64, Int.toNat_natCast]); (repeat refine ZAD ?_ ?_); (first | refine hK' _ ?_ | refine ⟨.v (.int .i64 0), hK' _ ?_⟩); clear hK' K') | (refine sK hT ?_; simp only [St.put]) | ((first | refine ZAE (hK _ ?_) | refine ZAJ (hK _ ?_)); clear hK K; push_cast) | ((first | apply ZAC | apply ZAF | apply ZAG | apply ZAM); push_cast) | refine ZAK fun K hK => ?_ | refine ZAN fun K hK => ?_ | refine dQ hT hm fun K hK => ?_ | refine dL hT hm fun K hK => ?_ | apply ZAA | apply ZAB | apply ZAL | (refine ZAH _ rfl (fun h => ?_) (fun h => ?_) <;> simp only [bh2, reduceCtorEq] at h))
    all_goals first | exact ff | skip
    all_goals done
theorem ZEm (cs : List Cl) (l : List Nat) (k : Nat) (h : k < l.length) : wants cs (l.take (k + 1)) = wants cs (l.take k) ++ [(cs.getD (l.getD k 0) default).c] := by
  unfold wants
  rw [List.take_succ_eq_append_getElem h, List.map_append]
  simp [List.getD_eq_getElem?_getD, h]
theorem ZEE (cs : List Cl) (d : List Int) (l : List Nat) (t : Int) (p : List Int) (hcs : okCs cs) (h64 : l.length ≤ 64) (hl : ∀ i ∈ l, i < cs.length) (hdl : d.length = cs.length) (hc64 : cs.length ≤ 64) (he : errF t (wants cs l) = 0) (hp : DF t (wants cs l) p) :
    Eff Try.prog 52 [.s 9000, I64 t, avCs cs, ints (toI l)] [(9000, .row 3 1 (.ints .i64 d))] (.t []) [(9000, .row 3 1 (.ints .i64 (put d l p)))] := by
  have htl := ZBR l
  have hfair := ZH5 t (wants cs l) p he hp
  have hpl : p.length = l.length := by rw [hp.len, ZAU]
  refine ZGl (n := 51) (res := []) hT Try.func52 rfl rfl rfl Try.ntmps52 (Nat.le_of_ble_eq_true rfl) (fun id hid => by simp only [lkH]; rw [if_neg (by omega)]) fun B w0 hgh hrd => ?_
  repeat' (first | ((first | refine sC hT fun K' hK' => ?_ | refine oC fun K' hK' => ?_); push_cast [htl]; (try simp (disch := omega) only [wrap64, Int.toNat_natCast]); (repeat refine ZAD ?_ ?_); (first | refine hK' _ ?_ | refine ⟨.v (.int .i64 0), hK' _ ?_⟩); clear hK' K') | (refine sK hT ?_; simp only [St.put]) | ((first | refine ZAE (hK _ ?_) | refine ZAJ (hK _ ?_)); clear hK K; push_cast) | ((first | apply ZAC | apply ZAF | apply ZAG | apply ZAM); push_cast) | refine ZAK fun K hK => ?_ | refine ZAN fun K hK => ?_ | refine dQ hT hm fun K hK => ?_ | refine dL hT hm fun K hK => ?_ | apply ZAA | apply ZAB | apply ZAL | (refine ZAH _ rfl (fun h => ?_) (fun h => ?_) <;> simp only [bh2, reduceCtorEq] at h))
  all_goals first | exact ff | skip
  refine ZAk _ (fun a w h => G.nilRow h 8 28 rfl (by decide) 3 1 (.ints .i64 []) rfl) ?_
  push_cast
  refine ZAO (α := Nat) (fun k => ⟨[(0, .s 9000), (1, I64 t), (2, avCs cs), (3, .i false (fun e _ => .v (.int .i64 ((toI l).getD e 0))) 1 0 l.length), (8, .s 28), (15, .i false (fun e _ => .v (.int .i64 ((toI l).getD e 0))) 1 0 l.length), (16, I64 l.length), (17, I64 k)], [(28, .row 3 1 (.ints .i64 (wants cs (l.take k)))), (9000, .row 3 1 (.ints .i64 d))]⟩) (fun k => k ≤ l.length) (fun k => l.length - k) 0 (Nat.zero_le _) (G.wk ⟨rfl, rfl, rfl, rfl, rfl, rfl, rfl, rfl, trivial⟩ ⟨rfl, rfl, trivial⟩) fun k hk => ?_
  have hsl : (wants cs (l.take k)).length = k := by rw [ZAU, List.length_take]; omega
  by_cases hlt : k < l.length
  · have c1 : decide ((k : Int) < (l.length : Int)) = true := decide_eq_true (by omega)
    have hli := hl _ (ZA2 hlt)
    have hti := ZBU hlt
    have hst := ZEm cs l k hlt
    have hok := ZHx hcs hli
    repeat' (first | ((first | refine sC hT fun K' hK' => ?_ | refine oC fun K' hK' => ?_); push_cast [c1, hti]; (try simp (disch := omega) only [wrap64, Int.toNat_natCast]); (repeat refine ZAD ?_ ?_); (first | refine hK' _ ?_ | ((first | refine ⟨[(cs.getD (l.getD k 0) default).c], ⟨rfl, (fun j hj => rfl), by rw [hsl]; omega, by rw [hsl]; omega⟩, ?_⟩); refine hK' _ ?_) | refine ⟨.v (.int .i64 0), hK' _ ?_⟩); clear hK' K') | (refine sK hT ?_; simp only [St.put]) | ((first | refine ZAE (hK _ ?_) | refine ZAJ (hK _ ?_)); clear hK K; push_cast) | ((first | apply ZAC | apply ZAF | apply ZAG | apply ZAM); push_cast) | refine ZAK fun K hK => ?_ | refine ZAN fun K hK => ?_ | refine dQ hT hm fun K hK => ?_ | refine dL hT hm fun K hK => ?_ | apply ZAA | apply ZAB | apply ZAL | (refine ZAH _ rfl (fun h => ?_) (fun h => ?_) <;> simp only [bh2, reduceCtorEq] at h))
    all_goals first | exact ff | skip
    all_goals exact ⟨k + 1, ⟨by omega, by omega⟩, G.wk ⟨rfl, rfl, rfl, rfl, rfl, rfl, rfl, rfl, trivial⟩ ⟨by rw [hst]; rfl, rfl, trivial⟩⟩
  · obtain rfl : k = l.length := by omega
    have c1 : decide ((l.length : Int) < (l.length : Int)) = false := decide_eq_false (by omega)
    have e : wants cs (l.take l.length) = wants cs l := by rw [List.take_length]
    simp only [e]
    have hwl := ZAU cs l
    repeat' (first | ((first | refine sC hT fun K' hK' => ?_ | refine oC fun K' hK' => ?_); push_cast [c1]; (try simp (disch := omega) only [wrap64, Int.toNat_natCast]); (repeat refine ZAD ?_ ?_); (first | refine hK' _ ?_ | ((first | apply con1 | (apply con3; exact gd) | apply con2); (try intro hb); (first | exact hfair); exact okr; refine hK' _ ?_) | refine ⟨.v (.int .i64 0), hK' _ ?_⟩); clear hK' K') | (refine sK hT ?_; simp only [St.put]) | ((first | refine ZAE (hK _ ?_) | refine ZAJ (hK _ ?_)); clear hK K; push_cast) | ((first | apply ZAC | apply ZAF | apply ZAG | apply ZAM); push_cast) | refine ZAK fun K hK => ?_ | refine ZAN fun K hK => ?_ | refine dQ hT hm fun K hK => ?_ | refine dL hT hm fun K hK => ?_ | apply ZAA | apply ZAB | apply ZAL | (refine ZAH _ rfl (fun h => ?_) (fun h => ?_) <;> simp only [bh2, reduceCtorEq] at h))
    all_goals first | exact ff | skip
    refine ZAO (α := Nat) (fun k => ⟨[(0, .s 9000), (11, intsF p), (36, .i false (fun e _ => .v (.int .i64 ((toI l).getD e 0))) 1 0 l.length), (37, I64 l.length), (38, I64 k)], [(9000, .row 3 1 (.ints .i64 (put d (l.take k) (p.take k))))]⟩) (fun k => k ≤ l.length) (fun k => l.length - k) 0 (Nat.zero_le _) (G.wk ⟨rfl, rfl, rfl, rfl, rfl, trivial⟩ ⟨rfl, trivial⟩) fun k hk => ?_
    have hput := ZBi (l.take k) d (p.take k)
    by_cases hlt : k < l.length
    · have c1 : decide ((k : Int) < (l.length : Int)) = true := decide_eq_true (by omega)
      have hli := hl _ (ZA2 hlt)
      have hti := ZBU hlt
      have hst := ZFJ (d := d) hpl.symm hlt
      repeat' (first | ((first | refine sC hT fun K' hK' => ?_ | refine oC fun K' hK' => ?_); push_cast [c1, hti]; (try simp (disch := omega) only [wrap64, Int.toNat_natCast]); (repeat refine ZAD ?_ ?_); (first | refine hK' _ ?_ | refine ⟨.v (.int .i64 0), hK' _ ?_⟩); clear hK' K') | (refine sK hT ?_; simp only [St.put]) | ((first | refine ZAE (hK _ ?_) | refine ZAJ (hK _ ?_)); clear hK K; push_cast) | ((first | apply ZAC | apply ZAF | apply ZAG | apply ZAM); push_cast) | refine ZAK fun K hK => ?_ | refine ZAN fun K hK => ?_ | refine dQ hT hm fun K hK => ?_ | refine dL hT hm fun K hK => ?_ | apply ZAA | apply ZAB | apply ZAL | (refine ZAH _ rfl (fun h => ?_) (fun h => ?_) <;> simp only [bh2, reduceCtorEq] at h))
      all_goals first | exact ff | skip
      all_goals exact ⟨k + 1, ⟨by omega, by omega⟩, G.wk ⟨rfl, rfl, rfl, rfl, rfl, trivial⟩ ⟨by rw [hst]; rfl, trivial⟩⟩
    · obtain rfl : k = l.length := by omega
      have c1 : decide ((l.length : Int) < (l.length : Int)) = false := decide_eq_false (by omega)
      have e2 : put d l p = put d (l.take l.length) (p.take l.length) := by rw [List.take_length, ← hpl, List.take_length]
      rw [e2]
      repeat' (first | ((first | refine sC hT fun K' hK' => ?_ | refine oC fun K' hK' => ?_); push_cast [c1]; (try simp (disch := omega) only [wrap64, Int.toNat_natCast]); (repeat refine ZAD ?_ ?_); (first | refine hK' _ ?_ | refine ⟨.v (.int .i64 0), hK' _ ?_⟩); clear hK' K') | (refine sK hT ?_; simp only [St.put]) | ((first | refine ZAE (hK _ ?_) | refine ZAJ (hK _ ?_)); clear hK K; push_cast) | ((first | apply ZAC | apply ZAF | apply ZAG | apply ZAM); push_cast) | refine ZAK fun K hK => ?_ | refine ZAN fun K hK => ?_ | refine dQ hT hm fun K hK => ?_ | refine dL hT hm fun K hK => ?_ | apply ZAA | apply ZAB | apply ZAL | (refine ZAH _ rfl (fun h => ?_) (fun h => ?_) <;> simp only [bh2, reduceCtorEq] at h))
      all_goals first | exact ff | skip
      all_goals (intro id blk h; first | exact h | (simp at h ⊢; trace_state; exact h))
end Go.Proofs.Ythgjjhddbigfcaa
