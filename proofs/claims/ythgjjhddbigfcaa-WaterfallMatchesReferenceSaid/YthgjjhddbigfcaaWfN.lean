/- Part of a proof about the given program: contracts of its functions (see the comment of the last text). -/
import Derived.Test.YthgjjhddbigfcaaWfM
import Derived.Test.YthgjjhddbigfcaaEng6
namespace Go.Proofs.Ythgjjhddbigfcaa
open Go.Eng Go.Proofs Go.Wf Go.Proofs.Share
set_option linter.unusedSimpArgs false
set_option linter.unusedVariables false
attribute [local irreducible] AOps AOpsX AOps2 AOpsS AWP AAnyS Go.Eng.Pure PureRow Eff
theorem ZHN (ps : List Po) (k : Nat) (h : k < ps.length) : ((ps.map Po.c).take k ++ List.replicate (ps.length - k) 0).set k (ps.getD k default).c = (ps.map Po.c).take (k + 1) ++ List.replicate (ps.length - (k + 1)) 0 := by
  apply List.ext_getElem?
  intro i
  rw [List.getElem?_set]
  have hl : ((ps.map Po.c).take k).length = k := by simp; omega
  have hl2 : ((ps.map Po.c).take (k + 1)).length = k + 1 := by simp; omega
  by_cases e : k = i
  · subst e
    rw [if_pos rfl, if_pos (by simp; omega), List.getElem?_append_left (by omega)]
    simp [List.getElem?_take, List.getD_eq_getElem?_getD, h]
  · rw [if_neg e]
    rcases Nat.lt_or_ge i k with h1 | h1
    · rw [List.getElem?_append_left (by omega), List.getElem?_append_left (by omega)]
      simp [List.getElem?_take, h1, show i < k + 1 by omega]
    · rw [List.getElem?_append_right (by omega), List.getElem?_append_right (by omega), hl, hl2]
      simp only [List.getElem?_replicate]
      have : (i - k < ps.length - k) ↔ (i - (k + 1) < ps.length - (k + 1)) := by omega
      simp only [this]
theorem ZDn (L : List (List Int)) : AV.norL (L.map intsF) = true := by
  induction L with
  | nil => rfl
  | cons x r ih => rw [List.map_cons, AV.norL, ih]; rfl
theorem swapH {base : Nat} {e : TypeId} {L : List (List Int)} {m : Nat} {x : Blk} {R : List (Nat × Blk)} (hR : ∀ id b, lkH R id = some b → id < base) {id : Nat} {b : Blk} (h : lkH ((m, x) :: (R ++ famI base e L)) id = some b) : lkH ((m, x) :: (famI base e L ++ R)) id = some b := by
  simp only [lkH] at h ⊢
  split at h
  · rename_i e; rw [if_pos e]; exact h
  · rename_i e
    rw [if_neg e]
    rw [ZDk] at h ⊢
    cases hr : lkH R id with
    | none =>
      rw [hr] at h
      simp only at h
      rw [h]
    | some b2 =>
      rw [hr] at h
      rw [ZJc (hR id b2 hr)]
      exact h
theorem ZIP {base : Nat} {e : TypeId} {d : Nat} : ∀ (L : List (List Int)) (b2 : Nat), d < b2 → delH d (fam b2 (L.map (rowB e))) = fam b2 (L.map (rowB e))
  | [], _, _ => rfl
  | x :: r, b2, h => by
    simp only [List.map_cons, fam, delH]
    rw [if_neg (by omega), ZIP (base := base) r (b2 + 1) (by omega)]
theorem ZFX {base : Nat} {e : TypeId} {d : Nat} (L : List (List Int)) (h : d < base) : delH d (famI base e L) = famI base e L := ZIP (base := base) L base h
theorem ZAu (d : Nat) (a b : List AV) : AV.killL d (a ++ b) = AV.killL d a ++ AV.killL d b := by
  induction a with
  | nil => rfl
  | cons x r ih => rw [List.cons_append, AV.killL, AV.killL, ih]; rfl
theorem ZIQ (l : List Int) (hl : l.length ≤ 64) : PureRow Try.prog 32 [ints l] 3 1 (.ints .i64 l) := by
  by_cases h0 : l.length = 0
  · obtain rfl := List.eq_nil_of_length_eq_zero h0
    refine PureRow.empty fun A cap => ?_
    refine ZEb (n := 8) (res := [.tmp 2]) hT (by simp [plainC]) Try.func32 rfl rfl rfl Try.ntmps32 (Nat.le_of_ble_eq_true rfl) fun B w0 _ _ => ?_
    cases A with
    | none =>
      repeat' (first
    | ((first | refine ZDK (by rfl) fun K' hK' => ?_ | refine ZAw (by rfl) fun K' hK' => ?_); push_cast [Option.isNone_none]; (try simp (disch := omega) only [wrap64, Int.toNat_natCast]); (repeat refine ZAD ?_ ?_); (first | refine hK' _ ?_ | (refine ⟨.v (.int .i64 0), ?_⟩; refine hK' _ ?_)); clear hK' K')
    | (refine ZDL (by rfl) (by rfl) (by simp only [dstOk, Nat.reduceLT]) ?_; simp only [St.put])
    | ((first | refine ZDt ?_ | refine ZAJ ?_); first | (refine hKs _ ?_; clear hKs K) | (refine hKr _ ?_; clear hKr K; push_cast))
    | refine ZE5 hT fun K hKs => ?_ | refine ZJD hT fun K hKr => ?_ | refine ZAP hT hm (by decide +kernel) fun K hKs => ?_ | refine ZAe hT hm (by decide +kernel) fun K hKr => ?_
    | refine ZAA ?_ | refine ZAB ?_ | refine ZAL ?_ | ((first | refine ZAC ?_ | refine ZAF ?_ | refine ZAG ?_ | refine ZAM ?_); push_cast)
    | (refine ZAH _ rfl (fun h => ?_) (fun h => ?_) <;> simp only [bh2, reduceCtorEq] at h))
      all_goals first | exact ff | skip
    | some ad =>
      repeat' (first
    | ((first | refine ZFp 5 rfl rfl (by decide) fun K' hK' => ?_); push_cast [Option.isNone_some]; (try simp (disch := omega) only [wrap64, Int.toNat_natCast]); (repeat refine ZAD ?_ ?_); refine hK' _ ?_; clear hK' K')
    | ((first | refine ZDK (by rfl) fun K' hK' => ?_ | refine ZAw (by rfl) fun K' hK' => ?_); push_cast [Option.isNone_some]; (try simp (disch := omega) only [wrap64, Int.toNat_natCast]); (repeat refine ZAD ?_ ?_); (first | refine hK' _ ?_ | ((first | refine ⟨[], ⟨rfl, (fun j hj => absurd hj (by omega))⟩, ?_⟩); refine hK' _ ?_) | (refine ⟨.v (.int .i64 0), ?_⟩; refine hK' _ ?_)); clear hK' K')
    | (refine ZDL (by rfl) (by rfl) (by simp only [dstOk, Nat.reduceLT]) ?_; simp only [St.put])
    | ((first | refine ZDt ?_ | refine ZAJ ?_); first | (refine hKs _ ?_; clear hKs K) | (refine hKr _ ?_; clear hKr K; push_cast))
    | refine ZE5 hT fun K hKs => ?_ | refine ZJD hT fun K hKr => ?_ | refine ZAP hT hm (by decide +kernel) fun K hKs => ?_ | refine ZAe hT hm (by decide +kernel) fun K hKr => ?_
    | refine ZAA ?_ | refine ZAB ?_ | refine ZAL ?_ | ((first | refine ZAC ?_ | refine ZAF ?_ | refine ZAG ?_ | refine ZAM ?_); push_cast)
    | (refine ZAH _ rfl (fun h => ?_) (fun h => ?_) <;> simp only [bh2, reduceCtorEq] at h))
      all_goals first | exact ff | skip
  · refine ZEb (n := 8) (res := [.tmp 2]) hT (by simp [plainC]) Try.func32 rfl rfl rfl Try.ntmps32 (Nat.le_of_ble_eq_true rfl) fun B w0 _ _ => ?_
    repeat' (first
    | ((first | refine ZFp 5 rfl rfl (by decide) fun K' hK' => ?_); push_cast; (try simp (disch := omega) only [wrap64, Int.toNat_natCast]); (repeat refine ZAD ?_ ?_); refine hK' _ ?_; clear hK' K')
    | ((first | refine ZDK (by rfl) fun K' hK' => ?_ | refine ZAw (by rfl) fun K' hK' => ?_); push_cast; (try simp (disch := omega) only [wrap64, Int.toNat_natCast]); (repeat refine ZAD ?_ ?_); (first | refine hK' _ ?_ | ((first | refine ⟨l, ⟨rfl, (fun el j => rfl), by omega, by omega⟩, ?_⟩); refine hK' _ ?_) | (refine ⟨.v (.int .i64 0), ?_⟩; refine hK' _ ?_)); clear hK' K')
    | (refine ZDL (by rfl) (by rfl) (by simp only [dstOk, Nat.reduceLT]) ?_; simp only [St.put])
    | ((first | refine ZDt ?_ | refine ZAJ ?_); first | (refine hKs _ ?_; clear hKs K) | (refine hKr _ ?_; clear hKr K; push_cast))
    | refine ZE5 hT fun K hKs => ?_ | refine ZJD hT fun K hKr => ?_ | refine ZAP hT hm (by decide +kernel) fun K hKs => ?_ | refine ZAe hT hm (by decide +kernel) fun K hKr => ?_
    | refine ZAA ?_ | refine ZAB ?_ | refine ZAL ?_ | ((first | refine ZAC ?_ | refine ZAF ?_ | refine ZAG ?_ | refine ZAM ?_); push_cast)
    | (refine ZAH _ rfl (fun h => ?_) (fun h => ?_) <;> simp only [bh2, reduceCtorEq] at h))
    all_goals first | exact ff | skip
    all_goals done
theorem ZG2 (x y base n : Nat) (h : x < base) : AV.rn.rnL x y (idsL base n) = idsL base n := by
  unfold idsL
  induction (List.range n) with
  | nil => rfl
  | cons i r ih =>
    rw [List.map_cons, AV.rn.rnL, ih, AV.rn]
    simp only [rnI]
    rw [if_neg (by omega)]
theorem ZJe (x y : Nat) (e : TypeId) : ∀ (L : List (List Int)) (base : Nat), x < base → rnH x y (fam base (L.map (rowB e))) = fam base (L.map (rowB e))
  | [], _, _ => rfl
  | l :: r, base, h => by
    simp only [List.map_cons, fam, rnH, rnI, rowB, Blk.rn, Cont.rn]
    rw [if_neg (by omega)]
    congr 1
    exact ZJe x y e r (base + 1) (by omega)
theorem ZFY (x y base : Nat) (e : TypeId) (L : List (List Int)) (h : x < base) : rnH x y (famI base e L) = famI base e L := ZJe x y e L base h
theorem ZCY {p : Nat → Prop} (base n : Nat) (h : ∀ i, i < n → p (base + i)) : AV.idsL p (idsL base n) := by
  have key : ∀ l : List Nat, (∀ i ∈ l, i < n) → AV.idsL p (l.map fun i => .s (base + i)) := by
    intro l
    induction l with
    | nil => intro _; simp only [List.map_nil, AV.idsL]
    | cons i r ih =>
      intro hl
      simp only [List.map_cons, AV.idsL, AV.ids]
      exact ⟨h i (hl i (by simp)), ih fun j hj => hl j (by simp [hj])⟩
  exact key _ fun i hi => List.mem_range.1 hi
theorem ZIR {p : Nat → Prop} (e : TypeId) : ∀ (L : List (List Int)) (base : Nat), (∀ i, i < L.length → p (base + i)) → idsH p (fam base (L.map (rowB e)))
  | [], _, _ => by simp only [List.map_nil, fam, idsH]
  | l :: r, base, h => by
    simp only [List.map_cons, fam, idsH, rowB, Blk.ids]
    refine ⟨h 0 (by simp), ?_, ZIR e r (base + 1) fun i hi => ?_⟩
    · trivial
    · have := h (i + 1) (by simp only [List.length_cons]; omega)
      rw [show base + 1 + i = base + (i + 1) by omega]; exact this
theorem ZBt {p : Nat → Prop} (base : Nat) (e : TypeId) (L : List (List Int)) (h : ∀ i, i < L.length → p (base + i)) : idsH p (famI base e L) := ZIR e L base h
def envL (base : Nat) (E : List (Nat × AV)) : List (Nat × AV) → Prop
  | [] => True
  | (s, v) :: r => (lk E s = v ∧ v.ids (fun id => id < base)) ∧ envL base E r
theorem ZGU {base : Nat} {E : List (Nat × AV)} : ∀ {E' : List (Nat × AV)}, envL base E E' → ∀ s, lk E' s = .top ∨ (lk E' s = lk E s ∧ (lk E s).ids (fun id => id < base))
  | [], _, s => .inl rfl
  | (k, v) :: r, h, s => by
    simp only [lk]
    split
    · rename_i e; subst e; exact .inr ⟨h.1.1.symm, by rw [h.1.1]; exact h.1.2⟩
    · exact ZGU h.2 s
def heapL (base m d : Nat) (H : List (Nat × Blk)) : List (Nat × Blk) → Prop
  | [] => True
  | (k, b) :: r => ((k < base ∧ k ≠ m ∧ k ≠ d) ∧ lkH H k = some b ∧ b.ids (fun id => id < base)) ∧ heapL base m d H r
theorem ZFZ {base m d : Nat} {H : List (Nat × Blk)} : ∀ {R : List (Nat × Blk)}, heapL base m d H R → ∀ id b, lkH R id = some b → (id < base ∧ id ≠ m ∧ id ≠ d) ∧ lkH H id = some b ∧ b.ids (fun id => id < base)
  | [], _, id, b, h => by cases h
  | (k, x) :: r, hh, id, b, h => by
    simp only [lkH] at h
    split at h
    · rename_i e; subst e; injection h with h; subst h; exact hh.1
    · exact ZFZ hh.2 id b h
set_option maxHeartbeats 64000000 in
theorem divide13 (ps : List Po) (cs : List Cl) (hps : vP ps) (hv : vC cs) (hokp : okPs ps) : Pure Try.prog 13 [avPs ps, avCs cs] (.t [.a [intsF (divF ps cs), .i true (fun e j => ((ta3 ps cs).fr.map intsF).getD (e + j) .top) 1 0 (ta3 ps cs).fr.length], I64 0]) := by
  have h64 := hv.1
  have h4 := hps.1
  have hval := ZDC ps cs hokp (vC.ok hv)
  rw [decide_eq_true (show vP ps ∧ vC cs from ⟨hps, hv⟩)] at hval
  have hdiv := ZIL ps cs hps hv
  refine ZB6 (n := 61) (res := [.cell 4 27, .tmp 5]) hT Try.func13 rfl rfl rfl Try.ntmps13 (Nat.le_of_ble_eq_true rfl) fun B w0 hgh hrd => ?_
  repeat' (first | ((first | refine sC hT fun K' hK' => ?_ | refine oC fun K' hK' => ?_); push_cast; (try simp (disch := omega) only [wrap64, Int.toNat_natCast]); (repeat refine ZAD ?_ ?_); (first | refine hK' _ ?_ | ((first | apply con1 | (apply con3; exact gd) | apply con2); (try intro hb); (first | exact hval | exact hdiv); exact okr; refine hK' _ ?_) | refine ⟨.v (.int .i64 0), hK' _ ?_⟩); clear hK' K') | (refine sK hT ?_; simp only [St.put]) | ((first | refine ZAE (hK _ ?_) | refine ZAJ (hK _ ?_)); clear hK K; push_cast) | ((first | apply ZAC | apply ZAF | apply ZAG | apply ZAM); push_cast) | refine ZAK fun K hK => ?_ | refine ZAN fun K hK => ?_ | refine dQ hT hm fun K hK => ?_ | refine dL hT hm fun K hK => ?_ | apply ZAA | apply ZAB | apply ZAL | (refine ZAH _ rfl (fun h => ?_) (fun h => ?_) <;> simp only [bh2, reduceCtorEq] at h))
  all_goals first | exact ff | skip
  refine ZAO (α := Nat) (fun k => ⟨[(2, .p 2 0), (3, .p 3 0), (4, .p 4 0), (5, I64 0), (6, .p 6 0), (7, .p 7 0), (24, avPs ps), (25, I64 ps.length), (26, I64 k)], [(7, .box 24 (.avs [.s 23])), (23, .row 3 1 (.ints .i64 ((ps.map Po.c).take k ++ List.replicate (ps.length - k) 0))), (6, .box 27 (.avs [intsF (divF ps cs), .v (.slice none 0 0)])), (4, .box 27 (.avs [.v (.slice none 0 0), .v (.slice none 0 0)])), (3, .box 23 (.avs [avCs cs])), (2, .box 22 (.avs [avPs ps]))]⟩) (fun k => k ≤ ps.length) (fun k => ps.length - k) 0 (Nat.zero_le _) (G.wk ⟨rfl, rfl, rfl, rfl, rfl, rfl, rfl, rfl, rfl, trivial⟩ ⟨rfl, rfl, rfl, rfl, rfl, rfl, trivial⟩) fun k hk => ?_
  by_cases hlt : k < ps.length
  · have c1 : decide ((k : Int) < (ps.length : Int)) = true := decide_eq_true (by omega)
    have hf := ZHN ps k hlt
    have hlen : ((ps.map Po.c).take k ++ List.replicate (ps.length - k) (0 : Int)).length = ps.length := by simp; omega
    generalize (ps.map Po.c).take k ++ List.replicate (ps.length - k) (0 : Int) = X at *
    repeat' (first | ((first | refine sC hT fun K' hK' => ?_ | refine oC fun K' hK' => ?_); push_cast [c1]; (try simp (disch := omega) only [wrap64, Int.toNat_natCast]); (repeat refine ZAD ?_ ?_); (first | refine hK' _ ?_ | refine ⟨.v (.int .i64 0), hK' _ ?_⟩); clear hK' K') | (refine sK hT ?_; simp only [St.put]) | ((first | refine ZAE (hK _ ?_) | refine ZAJ (hK _ ?_)); clear hK K; push_cast) | ((first | apply ZAC | apply ZAF | apply ZAG | apply ZAM); push_cast) | refine ZAK fun K hK => ?_ | refine ZAN fun K hK => ?_ | refine dQ hT hm fun K hK => ?_ | refine dL hT hm fun K hK => ?_ | apply ZAA | apply ZAB | apply ZAL | (refine ZAH _ rfl (fun h => ?_) (fun h => ?_) <;> simp only [bh2, reduceCtorEq] at h))
    all_goals first | exact ff | skip
    all_goals exact ⟨k + 1, ⟨by omega, by omega⟩, G.wk ⟨rfl, rfl, rfl, rfl, rfl, rfl, rfl, rfl, rfl, trivial⟩ ⟨rfl, by rw [← hf]; rfl, rfl, rfl, rfl, rfl, trivial⟩⟩
  · obtain rfl : k = ps.length := by omega
    have c1 : decide ((ps.length : Int) < (ps.length : Int)) = false := decide_eq_false (by omega)
    have e : (ps.map Po.c).take ps.length ++ List.replicate (ps.length - ps.length) (0 : Int) = ps.map Po.c := by rw [Nat.sub_self, List.replicate_zero, List.append_nil, List.take_of_length_le (by simp)]
    rw [e]
    repeat' (first | ((first | refine sC hT fun K' hK' => ?_ | refine oC fun K' hK' => ?_); push_cast [c1]; (try simp (disch := omega) only [wrap64, Int.toNat_natCast]); (repeat refine ZAD ?_ ?_); (first | refine hK' _ ?_ | refine ⟨.v (.int .i64 0), hK' _ ?_⟩); clear hK' K') | (refine sK hT ?_; simp only [St.put]) | ((first | refine ZAE (hK _ ?_) | refine ZAJ (hK _ ?_)); clear hK K; push_cast) | ((first | apply ZAC | apply ZAF | apply ZAG | apply ZAM); push_cast) | refine ZAK fun K hK => ?_ | refine ZAN fun K hK => ?_ | refine dQ hT hm fun K hK => ?_ | refine dL hT hm fun K hK => ?_ | apply ZAA | apply ZAB | apply ZAL | (refine ZAH _ rfl (fun h => ?_) (fun h => ?_) <;> simp only [bh2, reduceCtorEq] at h))
    all_goals first | exact ff | skip
    refine ZC3 ⟨[(2, .p 2 0), (3, .p 3 0), (4, .p 4 0), (5, I64 0), (6, .p 6 0), (7, .p 7 0), (37, avCs cs), (38, I64 cs.length), (39, I64 0)], [(7, .box 24 (.avs [.s 23])), (23, .row 3 1 (.ints .i64 (ps.map Po.c))), (6, .box 27 (.avs [intsF (divF ps cs), .v (.slice none 0 0)])), (4, .box 27 (.avs [.v (.slice none 0 0), .v (.slice none 0 0)])), (3, .box 23 (.avs [avCs cs])), (2, .box 22 (.avs [avPs ps]))]⟩ ⟨rfl, rfl, rfl, rfl, rfl, rfl, rfl, rfl, rfl, trivial⟩ ⟨rfl, rfl, rfl, rfl, rfl, rfl, trivial⟩ ?_
    refine awp_mv 61 1000 (by decide) (by decide) (by push_cast [idsE, AV.ids]; exact .inl trivial) (by push_cast; exact .inl trivial) (fun id _ => hgh id) ?_
    push_cast
    refine ZAk _ (fun a w h => G.nilBoxAt h 1006 47 1 27 24 1 (.avs []) [intsF (divF ps cs), .v (.slice none 0 0)] rfl (by push_cast) rfl (by simp) (by decide) rfl (hgh 47)) ?_
    push_cast
    refine ZAk _ (fun a w h => G.toNst h 47 24 (.avs []) (.avs []) rfl rfl (fun j hj => rfl)) ?_
    push_cast
    refine ZAO (α := Nat) (fun k => ⟨[(2, .p 1002 0), (3, .p 1003 0), (4, .p 1004 0), (5, I64 0), (6, .p 1006 0), (7, .p 1007 0), (37, avCs cs), (38, I64 cs.length), (39, I64 k)], (47, .nst 24 (.avs (idsL 100000 (List.replicate k (List.replicate ps.length (0 : Int))).length))) :: ([(1006, .box 27 (.avs [intsF (divF ps cs), .s 47])), (1007, .box 24 (.avs [.s 1023])), (1023, .row 3 1 (.ints .i64 (ps.map Po.c))), (1004, .box 27 (.avs [.v (.slice none 0 0), .v (.slice none 0 0)])), (1003, .box 23 (.avs [avCs cs])), (1002, .box 22 (.avs [avPs ps]))] ++ famI 100000 3 (List.replicate k (List.replicate ps.length 0)))⟩) (fun k => k ≤ cs.length) (fun k => cs.length - k) 0 (Nat.zero_le _) (G.wk ⟨rfl, rfl, rfl, rfl, rfl, rfl, rfl, rfl, rfl, trivial⟩ (by simp only [List.replicate_zero, List.length_nil, famI, List.map_nil, fam, List.append_nil]; exact ⟨rfl, rfl, rfl, rfl, rfl, rfl, rfl, trivial⟩)) fun k hk => ?_
    have hrl : (List.replicate k (List.replicate ps.length (0 : Int))).length = k := List.length_replicate
    have hsucc : List.replicate (k + 1) (List.replicate ps.length (0 : Int)) = List.replicate k (List.replicate ps.length 0) ++ [List.replicate ps.length 0] := by rw [List.replicate_succ']
    generalize hXd : List.replicate k (List.replicate ps.length (0 : Int)) = X at *
    have hil := ZCH 100000 X.length
    have k45 := ZAj 45 100000 3 X (by decide)
    have k46 := ZAj 46 100000 3 X (by decide)
    have k47 := ZAj 47 100000 3 X (by decide)
    have d47 := ZFX (e := 3) X (show 47 < 100000 by decide)
    have i45 := ZAt 100000 X.length 45 (by decide)
    have i46 := ZAt 100000 X.length 46 (by decide)
    have i47 := ZAt 100000 X.length 47 (by decide)
    by_cases hlt : k < cs.length
    · have c1 : decide ((k : Int) < (cs.length : Int)) = true := decide_eq_true (by omega)
      repeat' (first | ((first | refine sC hT fun K' hK' => ?_ | refine oC fun K' hK' => ?_); push_cast [c1, k45, k46, k47, i45, i46, i47, d47]; (try simp (disch := omega) only [wrap64, Int.toNat_natCast]); (repeat refine ZAD ?_ ?_); (first | refine hK' _ ?_ | refine ⟨.v (.int .i64 0), hK' _ ?_⟩); clear hK' K') | (refine sK hT ?_; simp only [St.put]) | ((first | refine ZAE (hK _ ?_) | refine ZAJ (hK _ ?_)); clear hK K; push_cast) | ((first | apply ZAC | apply ZAF | apply ZAG | apply ZAM); push_cast) | refine ZAK fun K hK => ?_ | refine ZAN fun K hK => ?_ | refine dQ hT hm fun K hK => ?_ | refine dL hT hm fun K hK => ?_ | apply ZAA | apply ZAB | apply ZAL | (refine ZAH _ rfl (fun h => ?_) (fun h => ?_) <;> simp only [bh2, reduceCtorEq] at h))
      all_goals first | exact ff | skip
      (apply ZCA hm [([false, false, false, false, false, false, false, false, false], _), ([true, false, false, false, false, false, false, false, false], _), ([false, false, true, false, false, false, false, false, false], _), ([true, true, false, false, false, false, false, false, false], _), ([true, false, true, false, false, false, false, false, false], _), ([false, false, true, true, false, false, false, false, false], _), ([true, true, true, false, false, false, false, false, false], _), ([true, false, true, true, false, false, false, false, false], _), ([false, false, true, true, true, false, false, false, false], _), ([true, true, true, true, false, false, false, false, false], _), ([true, false, true, true, true, false, false, false, false], _), ([false, false, true, true, true, true, false, false, false], _), ([true, true, true, true, true, false, false, false, false], _), ([true, false, true, true, true, true, false, false, false], _), ([true, true, true, true, true, true, false, false, false], _), ([true, true, true, true, true, true, true, false, false], _), ([true, true, true, true, true, true, true, true, false], _), ([true, true, true, true, true, true, true, true, true], _)] rfl; intro K hKr; repeat' (first | (refine ZBZ (by decide +kernel) ?_; refine hKr _ ?_; clear hKr K; push_cast) | refine ZAI 0 [2] (by decide +kernel) ?_ ?_ | refine ZAI 0 [3] (by decide +kernel) ?_ ?_ | refine ZAI 0 [4] (by decide +kernel) ?_ ?_ | refine ZAI 0 [5] (by decide +kernel) ?_ ?_ | refine ZAI 0 [] (by decide +kernel) ?_ ?_ | refine ZAI 1 [2] (by decide +kernel) ?_ ?_ | refine ZAI 1 [3] (by decide +kernel) ?_ ?_ | refine ZAI 1 [4] (by decide +kernel) ?_ ?_ | refine ZAI 1 [5] (by decide +kernel) ?_ ?_ | refine ZAI 1 [] (by decide +kernel) ?_ ?_ | refine ZAI 2 [] (by decide +kernel) ?_ ?_ | refine ZAI 3 [] (by decide +kernel) ?_ ?_ | refine ZAI 4 [] (by decide +kernel) ?_ ?_ | refine ZAI 5 [] (by decide +kernel) ?_ ?_ | refine ZAI 6 [] (by decide +kernel) ?_ ?_ | refine ZAI 7 [] (by decide +kernel) ?_ ?_ | refine ZAI 8 [] (by decide +kernel) ?_ ?_ | exact ZBa | refine ZBJ rfl (fun K3 hK3 => ?_) ?_ | (refine ZAE ?_; first | exact hK3 _ _ rfl (fun _ _ h => h) | exact hK3 _ _ rfl (G.wk3 (by (repeat' (first | exact trivial | exact .inr rfl | exact .inl rfl | refine ⟨?_, ?_⟩))) rfl) | exact hK3 _ _ rfl (G.wk2 (by (repeat' (first | exact trivial | exact .inr rfl | exact .inl rfl | refine ⟨?_, ?_⟩))) (by (repeat' (first | exact trivial | exact .inr rfl | exact .inl rfl | refine ⟨?_, ?_⟩)))))     | ((first | refine ZA6 hT (by rfl) fun K' hK' => ?_ | refine ZAw (by rfl) fun K' hK' => ?_); push_cast [k45, k46, k47, i45, i46, i47, d47, ZAu]; (try simp (disch := omega) only [wrap64, Int.toNat_natCast]); (repeat refine ZAD ?_ ?_); (first | refine hK' _ ?_ | (refine ⟨.v (.int .i64 0), ?_⟩; refine hK' _ ?_)); clear hK' K')     | (refine ZAR hT rfl fun K' hK' => ?_; push_cast [k45, k46, k47, i45, i46, i47, d47, ZAu]; (try simp (disch := omega) only [wrap64, Int.toNat_natCast]); (repeat refine ZAD ?_ ?_); refine hK' _ ?_; clear hK' K')     | (refine ZAS T rfl (by simp only [dstOk, Nat.reduceLT]) fun K' hK' => ?_; push_cast [k45, k46, k47, i45, i46, i47, d47, ZAu]; refine hK' _ ?_; clear hK' K')     | (refine ZBE hT rfl fun K' hK' => ?_; push_cast [k45, k46, k47, i45, i46, i47, d47, ZAu]; (try simp (disch := omega) only [wrap64, Int.toNat_natCast]); (repeat refine ZAD ?_ ?_); refine hK' _ ?_; clear hK' K')     | (refine ZFw hT 46 rfl rfl (by simp only [dstOk, Nat.reduceLT]) fun K' hK' => ?_; push_cast [k45, k46, k47, i45, i46, i47, d47, ZAu]; (try simp (disch := omega) only [wrap64, Int.toNat_natCast]); (repeat refine ZAD ?_ ?_); refine hK' _ ?_; clear hK' K')     | (refine ZEe hT rfl (by simp only [dstOk, Nat.reduceLT]) fun K' hK' => ?_; push_cast [k45, k46, k47, i45, i46, i47, d47, ZAu]; (try simp (disch := omega) only [wrap64, Int.toNat_natCast]); (repeat refine ZAD ?_ ?_); refine hK' _ ?_; clear hK' K')     | (refine ZA7 hT (by rfl) (by rfl) (by simp only [dstOk, Nat.reduceLT]) ?_; simp only [St.put]) ))
      all_goals first | exact ff | skip
      repeat' (first | ((first | refine sC hT fun K' hK' => ?_ | refine oC fun K' hK' => ?_); push_cast [k45, k46, k47, i45, i46, i47, d47, ZAu]; (try simp (disch := omega) only [wrap64, Int.toNat_natCast]); (repeat refine ZAD ?_ ?_); (first | refine hK' _ ?_ | refine ⟨.v (.int .i64 0), hK' _ ?_⟩); clear hK' K') | (refine sK hT ?_; simp only [St.put]) | ((first | refine ZAE (hK _ ?_) | refine ZAJ (hK _ ?_)); clear hK K; push_cast) | ((first | apply ZAC | apply ZAF | apply ZAG | apply ZAM); push_cast) | refine ZAK fun K hK => ?_ | refine ZAN fun K hK => ?_ | refine dQ hT hm fun K hK => ?_ | refine dL hT hm fun K hK => ?_ | apply ZAA | apply ZAB | apply ZAL | (refine ZAH _ rfl (fun h => ?_) (fun h => ?_) <;> simp only [bh2, reduceCtorEq] at h))
      all_goals first | exact ff | skip
      refine ⟨k + 1, ⟨by omega, by omega⟩, fun a w hG => ?_⟩
      have hXl : (X ++ [List.replicate ps.length (0 : Int)]).length = X.length + 1 := by simp
      have hhi : (X ++ [List.replicate ps.length (0 : Int)]).getD X.length [] = List.replicate ps.length 0 := by simp [List.getD_eq_getElem?_getD]
      have h1 := G.refam hG (.nst 24) (ZEo 24) 47 45 100000 X.length 3 (X ++ [List.replicate ps.length 0]) (idsL 100000 X.length ++ [.s 45]) [(2, .p 1002 0), (3, .p 1003 0), (4, .p 1004 0), (5, I64 0), (6, .p 1006 0), (7, .p 1007 0), (37, avCs cs), (38, I64 cs.length), (39, I64 ((k : Int) + 1))] [(1006, .box 27 (.avs [intsF (divF ps cs), .s 47])), (1007, .box 24 (.avs [.s 1023])), (1023, .row 3 1 (.ints .i64 (ps.map Po.c))), (1004, .box 27 (.avs [.v (.slice none 0 0), .v (.slice none 0 0)])), (1003, .box 23 (.avs [avCs cs])), (1002, .box 22 (.avs [avPs ps]))] rfl (by simp [hil]) (fun i hi => ?_) (by rw [hhi]; rfl) (fun i hi hne => ?_) (by omega) (by decide) (by decide) (by decide) (ZGU ?_) (hgh _) (ZFZ ?_)
      · have h2 : G 61 B w0 ⟨[(2, .p 1002 0), (3, .p 1003 0), (4, .p 1004 0), (5, I64 0), (6, .p 1006 0), (7, .p 1007 0), (37, avCs cs), (38, I64 cs.length), (39, I64 ((k : Int) + 1))], (47, .nst 24 (.avs (idsL 100000 (X ++ [List.replicate ps.length (0 : Int)]).length))) :: ([(1006, .box 27 (.avs [intsF (divF ps cs), .s 47])), (1007, .box 24 (.avs [.s 1023])), (1023, .row 3 1 (.ints .i64 (ps.map Po.c))), (1004, .box 27 (.avs [.v (.slice none 0 0), .v (.slice none 0 0)])), (1003, .box 23 (.avs [avCs cs])), (1002, .box 22 (.avs [avPs ps]))] ++ famI 100000 3 (X ++ [List.replicate ps.length (0 : Int)]))⟩ a w := by
          refine G.wkL (fun s => ?_) (fun id b h => ?_) a w h1
          · exact .inr rfl
          · refine swapH (fun id b h => ?_) h
            simp only [lkH] at h
            split at h
            · omega
            · split at h
              · omega
              · split at h
                · omega
                · split at h
                  · omega
                  · split at h
                    · omega
                    · split at h
                      · omega
                      · cases h
        rw [hsucc]; exact h2
      · rw [hXl] at hi
        by_cases e : i = X.length
        · subst e
          rw [if_pos rfl, List.getD_eq_getElem?_getD, List.getElem?_append_right (by rw [hil]; exact Nat.le_refl _), hil, Nat.sub_self]; rfl
        · rw [if_neg e, List.getD_eq_getElem?_getD, List.getElem?_append_left (by rw [hil]; omega), ← List.getD_eq_getElem?_getD, idsLn 100000 (by omega)]
      · rw [hXl] at hi
        have q := fun (c : Nat) (h : c < 100000) => (eq_false (show ¬ c = 100000 + i by omega) : (c = 100000 + i) = False)
        simp only [lkH, q 1006 (by decide), q 47 (by decide), q 46 (by decide), q 45 (by decide), q 1007 (by decide), q 1023 (by decide), q 1004 (by decide), q 1003 (by decide), q 1002 (by decide), if_false]
        rw [ZAv 100000 3 X (by omega), List.getD_eq_getElem?_getD, List.getD_eq_getElem?_getD, List.getElem?_append_left (by omega)]
      · simp only [envL, lk, push_cast, reduceIte, reduceCtorEq, Nat.reduceEqDiff, Nat.reduceLT, Nat.reduceLeDiff, Nat.reduceAdd, Nat.reduceMul, Nat.reduceMod, Nat.reduceDiv, Nat.reduceSub, Int.reduceToNat, and_true, true_and]
      · simp only [heapL, push_cast, reduceIte, reduceCtorEq, Nat.reduceEqDiff, Nat.reduceLT, Nat.reduceLeDiff, Nat.reduceAdd, Nat.reduceMul, Nat.reduceMod, Nat.reduceDiv, Nat.reduceSub, Int.reduceToNat, and_true, true_and]
    · obtain rfl : k = cs.length := by omega
      have c1 : decide ((cs.length : Int) < (cs.length : Int)) = false := decide_eq_false (by omega)
      have hdl : (divF ps cs).length = cs.length := (by
        have hd := InvD.all hps hv (rkF cs) (rkF cs).length (Nat.le_refl _)
        rw [List.take_length] at hd
        exact hd.len)
      have hcl := ZIQ (divF ps cs) (by omega)
      have k10 := ZAj 10 100000 3 X (by decide)
      have k52 := ZAj 52 100000 3 X (by decide)
      have i10 := ZAt 100000 X.length 10 (by decide)
      have i52 := ZAt 100000 X.length 52 (by decide)
      repeat' (first | ((first | refine sC hT fun K' hK' => ?_ | refine oC fun K' hK' => ?_); push_cast [c1, k10, k52, i10, i52]; (try simp (disch := omega) only [wrap64, Int.toNat_natCast]); (repeat refine ZAD ?_ ?_); (first | refine hK' _ ?_ | refine ⟨.v (.int .i64 0), hK' _ ?_⟩); clear hK' K') | (refine ZHq rfl (by simp only [dstOk, Nat.reduceLT]) fun K' hK' => ?_; push_cast [c1, k10, k52, i10, i52]; refine ⟨_, _, _, (by first | exact hcl), ?_⟩; push_cast [c1, k10, k52, i10, i52]; refine hK' _ ?_; clear hK' K') | (refine sK hT ?_; simp only [St.put]) | ((first | refine ZAE (hK _ ?_) | refine ZAJ (hK _ ?_)); clear hK K; push_cast) | ((first | apply ZAC | apply ZAF | apply ZAG | apply ZAM); push_cast) | refine ZAK fun K hK => ?_ | refine ZAN fun K hK => ?_ | refine dQ hT hm fun K hK => ?_ | refine dL hT hm fun K hK => ?_ | apply ZAA | apply ZAB | apply ZAL | (refine ZAH _ rfl (fun h => ?_) (fun h => ?_) <;> simp only [bh2, reduceCtorEq] at h))
      all_goals first | exact ff | skip
      refine ZAy _ (fun a w h => h.rn 47 1047 (by repeat' (first | exact trivial | exact ZCY _ _ (fun i _ => by omega) | exact ZBt _ _ _ (fun i _ => by omega) | refine ⟨?_, ?_⟩ | (simp only [AV.ids, Blk.ids]; decide))) (by repeat' (first | exact trivial | exact ZCY _ _ (fun i _ => by omega) | exact ZBt _ _ _ (fun i _ => by omega) | refine ⟨?_, ?_⟩ | (simp only [AV.ids, Blk.ids]; decide))) (hgh 1047)) ?_
      push_cast [rnE, rnH, AV.rn, rnI, Blk.rn, Cont.rn, AV.rn.rnL, ZG2 47 1047 100000 X.length (by decide), ZFY 47 1047 100000 3 X (by decide)]
      refine ZAy _ (fun a w h => h.rn 52 1052 (by repeat' (first | exact trivial | exact ZCY _ _ (fun i _ => by omega) | exact ZBt _ _ _ (fun i _ => by omega) | refine ⟨?_, ?_⟩ | (simp only [AV.ids, Blk.ids]; decide))) (by repeat' (first | exact trivial | exact ZCY _ _ (fun i _ => by omega) | exact ZBt _ _ _ (fun i _ => by omega) | refine ⟨?_, ?_⟩ | (simp only [AV.ids, Blk.ids]; decide))) (hgh 1052)) ?_
      push_cast [rnE, rnH, AV.rn, rnI, Blk.rn, Cont.rn, AV.rn.rnL, ZG2 52 1052 100000 X.length (by decide), ZFY 52 1052 100000 3 X (by decide)]
      refine ZAy _ (fun a w h => h.rn 10 1010 (by repeat' (first | exact trivial | exact ZCY _ _ (fun i _ => by omega) | exact ZBt _ _ _ (fun i _ => by omega) | refine ⟨?_, ?_⟩ | (simp only [AV.ids, Blk.ids]; decide))) (by repeat' (first | exact trivial | exact ZCY _ _ (fun i _ => by omega) | exact ZBt _ _ _ (fun i _ => by omega) | refine ⟨?_, ?_⟩ | (simp only [AV.ids, Blk.ids]; decide))) (hgh 1010)) ?_
      push_cast [rnE, rnH, AV.rn, rnI, Blk.rn, Cont.rn, AV.rn.rnL, ZG2 10 1010 100000 X.length (by decide), ZFY 10 1010 100000 3 X (by decide)]
      have e0 : HT ps cs (divF ps cs) (ta0 ps cs) = [(1047, .nst 24 (.avs (idsL 100000 X.length))), (1006, .box 27 (.avs [intsF (divF ps cs), .s 1047])), (1007, .box 24 (.avs [.s 1023])), (1010, .box 24 (.avs [.s 1052])), (1023, .row 3 1 (.ints .i64 (ps.map Po.c))), (1052, .row 3 1 (.ints .i64 (divF ps cs))), (1003, .box 23 (.avs [avCs cs])), (1002, .box 22 (.avs [avPs ps])), (1004, .box 27 (.avs [.v (.slice none 0 0), .v (.slice none 0 0)]))] ++ famI 100000 3 X := by unfold HT ta0; simp only [hXd]; rfl
      refine ZAy ⟨[(54, AV.f (Fn.func 33) [AV.p 1003 0, AV.p 1002 0, AV.p 1010 0, AV.p 1007 0, AV.p 1006 0]), (11, AV.f (Fn.func 33) [AV.p 1003 0, AV.p 1002 0, AV.p 1010 0, AV.p 1007 0, AV.p 1006 0]), (5, I64 0), (4, .p 1004 0), (6, .p 1006 0)], HT ps cs (divF ps cs) (ta0 ps cs)⟩ (G.wkL (ZAl ⟨rfl, rfl, rfl, rfl, rfl, trivial⟩) (fun id b h => ZCg (R := [(1047, .nst 24 (.avs (idsL 100000 X.length))), (1006, .box 27 (.avs [intsF (divF ps cs), .s 1047])), (1007, .box 24 (.avs [.s 1023])), (1010, .box 24 (.avs [.s 1052])), (1023, .row 3 1 (.ints .i64 (ps.map Po.c))), (1052, .row 3 1 (.ints .i64 (divF ps cs))), (1003, .box 23 (.avs [avCs cs])), (1002, .box 22 (.avs [avPs ps])), (1004, .box 27 (.avs [.v (.slice none 0 0), .v (.slice none 0 0)]))]) (F := famI 100000 3 X) ⟨rfl, rfl, rfl, rfl, rfl, rfl, rfl, rfl, rfl, trivial⟩ (fun id b h => ?_) (by rw [e0] at h; exact h))) ?_
      · obtain ⟨i, hi, rfl, rfl⟩ := ZBF h
        have q2 := fun (c : Nat) (h : c < 100000) => (eq_false (show ¬ c = 100000 + i by omega) : (c = 100000 + i) = False)
        simp only [lkH, q2 1047 (by decide), q2 1006 (by decide), q2 1007 (by decide), q2 1010 (by decide), q2 1023 (by decide), q2 1052 (by decide), q2 1003 (by decide), q2 1002 (by decide), q2 1004 (by decide), if_false]
        exact ZAv 100000 3 X hi
      clear e0
      refine ZDU hT rfl (by simp only [dstOk, Nat.reduceLT]) fun K' hK' => ?_
      push_cast
      refine ⟨_, _, 81, Try.func33, rfl, rfl, by decide, by decide, fun B2 w2 => ZEH ps cs (divF ps cs) true true (.inl rfl) (ta0 ps cs) h4 h64 (ZFV hps hv) _ (fun H hH => ?_) Try.func33 rfl B2 w2⟩
      refine hK' ⟨_, _⟩ ?_; clear hK' K' w2 B2
      repeat' (first | ((first | refine sC hT fun K' hK' => ?_ | refine oC fun K' hK' => ?_); push_cast; (try simp (disch := omega) only [wrap64, Int.toNat_natCast]); (repeat refine ZAD ?_ ?_); (first | refine hK' _ ?_ | refine ⟨.v (.int .i64 0), hK' _ ?_⟩); clear hK' K') | (refine sK hT ?_; simp only [St.put]) | ((first | refine ZAE (hK _ ?_) | refine ZAJ (hK _ ?_)); clear hK K; push_cast) | ((first | apply ZAC | apply ZAF | apply ZAG | apply ZAM); push_cast) | refine ZAK fun K hK => ?_ | refine ZAN fun K hK => ?_ | refine dQ hT hm fun K hK => ?_ | refine dL hT hm fun K hK => ?_ | apply ZAA | apply ZAB | apply ZAL | (refine ZAH _ rfl (fun h => ?_) (fun h => ?_) <;> simp only [bh2, reduceCtorEq] at h))
      all_goals first | exact ff | skip
      refine ZAy ⟨[(56, AV.f (Fn.func 33) [AV.p 1003 0, AV.p 1002 0, AV.p 1010 0, AV.p 1007 0, AV.p 1006 0]), (11, AV.f (Fn.func 33) [AV.p 1003 0, AV.p 1002 0, AV.p 1010 0, AV.p 1007 0, AV.p 1006 0]), (5, I64 0), (4, .p 1004 0), (6, .p 1006 0)], HT ps cs (divF ps cs) (ta1 ps cs)⟩ (fun a w hG => ?_) ?_
      · refine G.wkL ?_ ?_ a w hG
        · exact ZAl ⟨rfl, rfl, rfl, rfl, rfl, trivial⟩
        · exact fun id b h => hH id b h
      clear hH H
      refine ZDU hT rfl (by simp only [dstOk, Nat.reduceLT]) fun K' hK' => ?_
      push_cast
      refine ⟨_, _, 81, Try.func33, rfl, rfl, by decide, by decide, fun B2 w2 => ZEH ps cs (divF ps cs) true false (.inl rfl) (ta1 ps cs) h4 h64 (ZEG hps hv) _ (fun H hH => ?_) Try.func33 rfl B2 w2⟩
      refine hK' ⟨_, _⟩ ?_; clear hK' K' w2 B2
      repeat' (first | ((first | refine sC hT fun K' hK' => ?_ | refine oC fun K' hK' => ?_); push_cast; (try simp (disch := omega) only [wrap64, Int.toNat_natCast]); (repeat refine ZAD ?_ ?_); (first | refine hK' _ ?_ | refine ⟨.v (.int .i64 0), hK' _ ?_⟩); clear hK' K') | (refine sK hT ?_; simp only [St.put]) | ((first | refine ZAE (hK _ ?_) | refine ZAJ (hK _ ?_)); clear hK K; push_cast) | ((first | apply ZAC | apply ZAF | apply ZAG | apply ZAM); push_cast) | refine ZAK fun K hK => ?_ | refine ZAN fun K hK => ?_ | refine dQ hT hm fun K hK => ?_ | refine dL hT hm fun K hK => ?_ | apply ZAA | apply ZAB | apply ZAL | (refine ZAH _ rfl (fun h => ?_) (fun h => ?_) <;> simp only [bh2, reduceCtorEq] at h))
      all_goals first | exact ff | skip
      refine ZAy ⟨[(58, AV.f (Fn.func 33) [AV.p 1003 0, AV.p 1002 0, AV.p 1010 0, AV.p 1007 0, AV.p 1006 0]), (11, AV.f (Fn.func 33) [AV.p 1003 0, AV.p 1002 0, AV.p 1010 0, AV.p 1007 0, AV.p 1006 0]), (5, I64 0), (4, .p 1004 0), (6, .p 1006 0)], HT ps cs (divF ps cs) (ta2 ps cs)⟩ (fun a w hG => ?_) ?_
      · refine G.wkL ?_ ?_ a w hG
        · exact ZAl ⟨rfl, rfl, rfl, rfl, rfl, trivial⟩
        · exact fun id b h => hH id b h
      clear hH H
      refine ZDU hT rfl (by simp only [dstOk, Nat.reduceLT]) fun K' hK' => ?_
      push_cast
      refine ⟨_, _, 81, Try.func33, rfl, rfl, by decide, by decide, fun B2 w2 => ZEH ps cs (divF ps cs) false false (.inr rfl) (ta2 ps cs) h4 h64 (ZFW hps hv) _ (fun H hH => ?_) Try.func33 rfl B2 w2⟩
      refine hK' ⟨_, _⟩ ?_; clear hK' K' w2 B2
      repeat' (first | ((first | refine sC hT fun K' hK' => ?_ | refine oC fun K' hK' => ?_); push_cast; (try simp (disch := omega) only [wrap64, Int.toNat_natCast]); (repeat refine ZAD ?_ ?_); (first | refine hK' _ ?_ | refine ⟨.v (.int .i64 0), hK' _ ?_⟩); clear hK' K') | (refine sK hT ?_; simp only [St.put]) | ((first | refine ZAE (hK _ ?_) | refine ZAJ (hK _ ?_)); clear hK K; push_cast) | ((first | apply ZAC | apply ZAF | apply ZAG | apply ZAM); push_cast) | refine ZAK fun K hK => ?_ | refine ZAN fun K hK => ?_ | refine dQ hT hm fun K hK => ?_ | refine dL hT hm fun K hK => ?_ | apply ZAA | apply ZAB | apply ZAL | (refine ZAH _ rfl (fun h => ?_) (fun h => ?_) <;> simp only [bh2, reduceCtorEq] at h))
      all_goals first | exact ff | skip
      refine ZAy ⟨[(11, AV.f (Fn.func 33) [AV.p 1003 0, AV.p 1002 0, AV.p 1010 0, AV.p 1007 0, AV.p 1006 0]), (5, I64 0), (4, .p 1004 0), (6, .p 1006 0)], HT ps cs (divF ps cs) (ta3 ps cs)⟩ (fun a w hG => ?_) ?_
      · refine G.wkL ?_ ?_ a w hG
        · exact ZAl ⟨rfl, rfl, rfl, rfl, trivial⟩
        · exact fun id b h => hH id b h
      clear hH H
      have hfl := (ZCy hps hv).fl
      have hwl := (ZCy hps hv).wl
      generalize ta3 ps cs = t3 at *
      refine ZAy ⟨[(5, I64 0), (4, .p 1004 0), (6, .p 1006 0)], [(1047, .nst 24 (.avs (t3.fr.map intsF))), (1006, .box 27 (.avs [intsF (divF ps cs), .s 1047])), (1004, .box 27 (.avs [.v (.slice none 0 0), .v (.slice none 0 0)]))]⟩ (fun a w hG => ?_) ?_
      · have h2 : G 61 B w0 ⟨[(5, I64 0), (4, .p 1004 0), (6, .p 1006 0)], HT ps cs (divF ps cs) t3⟩ a w := by
          refine G.wkL ?_ ?_ a w hG
          · exact ZAl ⟨rfl, rfl, rfl, trivial⟩
          · exact fun id b h => h
        have h3 := h2.freezeF 100000 3 t3.fr (fun j hj => by
          have q2 := fun (c : Nat) (h : c < 100000) => (eq_false (show ¬ c = 100000 + j by omega) : (c = 100000 + j) = False)
          unfold HT
          simp only [List.cons_append, List.nil_append, lkH, q2 1047 (by decide), q2 1006 (by decide), q2 1007 (by decide), q2 1010 (by decide), q2 1023 (by decide), q2 1052 (by decide), q2 1003 (by decide), q2 1002 (by decide), q2 1004 (by decide), if_false]
          exact ZAv 100000 3 t3.fr hj) [(1047, .nst 24 (.avs (idsL 100000 t3.fr.length))), (1006, .box 27 (.avs [intsF (divF ps cs), .s 1047])), (1004, .box 27 (.avs [.v (.slice none 0 0), .v (.slice none 0 0)]))] (fun id b hh => by
          simp only [lkH] at hh
          split at hh
          · rename_i e; subst e; exact ⟨by decide, hh⟩
          · split at hh
            · rename_i e; subst e; exact ⟨by decide, hh⟩
            · split at hh
              · rename_i e; subst e; exact ⟨by decide, hh⟩
              · cases hh)
        have e3 := ZFT 100000 t3.fr
        simp only [List.map_cons, List.map_nil, frzF, frzFH, frzFB, frzFC, e3, Nat.reduceLeDiff, false_and, if_false] at h3
        exact h3
      refine ZAy _ (fun a w h => (h.unNst 1047 24 (.avs (t3.fr.map intsF)) rfl (ZDn _)).freezeB 1047 (.row 24 1 (.avs (t3.fr.map intsF))) rfl (ZDn _)) ?_
      push_cast [frzE, frzH2, frzB2, frzC, frz1, frzP, frzL, Nat.div_one, List.length_map]
      repeat' (first | ((first | refine sC hT fun K' hK' => ?_ | refine oC fun K' hK' => ?_); push_cast; (try simp (disch := omega) only [wrap64, Int.toNat_natCast]); (repeat refine ZAD ?_ ?_); (first | refine hK' _ ?_ | refine ⟨.v (.int .i64 0), hK' _ ?_⟩); clear hK' K') | (refine sK hT ?_; simp only [St.put]) | ((first | refine ZAE (hK _ ?_) | refine ZAJ (hK _ ?_)); clear hK K; push_cast) | ((first | apply ZAC | apply ZAF | apply ZAG | apply ZAM); push_cast) | refine ZAK fun K hK => ?_ | refine ZAN fun K hK => ?_ | refine dQ hT hm fun K hK => ?_ | refine dL hT hm fun K hK => ?_ | apply ZAA | apply ZAB | apply ZAL | (refine ZAH _ rfl (fun h => ?_) (fun h => ?_) <;> simp only [bh2, reduceCtorEq] at h))
      all_goals first | exact ff | skip
      have hpub : ∀ (H : List (Nat × Blk)), (t3.fr.map intsF).map (AV.pub true H 3) = t3.fr.map intsF := fun H => by
        rw [List.map_map]
        exact List.map_congr_left fun l _ => by simp only [Function.comp, AV.pub, Bool.true_and, Bool.and_true]
      simp only [hpub]
end Go.Proofs.Ythgjjhddbigfcaa
