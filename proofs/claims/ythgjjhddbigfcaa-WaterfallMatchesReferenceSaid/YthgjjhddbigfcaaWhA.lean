/- Part of a proof about the given program: contracts of its functions (see the comment of the last text). -/
import Derived.Test.YthgjjhddbigfcaaWfN
import Derived.Test.YthgjjhddbigfcaaWfK
import Derived.Test.YthgjjhddbigfcaaWfL
import Derived.Test.YthgjjhddbigfcaaEng7
namespace Go.Proofs.Ythgjjhddbigfcaa
open Go.Eng Go.Proofs Go.Wf Go.Proofs.Share
set_option linter.unusedSimpArgs false
set_option linter.unusedVariables false
theorem ZIV {P : Program} {dst : Option Nat} {op : Op} {K : St → Prop} {st : St} {ψ : Prop} {f : FuncId} {args : List AV} (hc : callee? st.ev op = some (ψ, f, args)) (h1 : ψ ∧ condL args) (H : List (Nat × Blk)) (r : AV) (H' : List (Nat × Blk)) (he : Eff P f ((stripL args).map (viewA st.heap H)) H r H') (h2 : ∀ id blk, lkH H id = some blk → lkH st.heap id = some blk) (h3 : ∀ id, lkH H' id = none ↔ lkH H id = none) (h4 : AV.own (fun id => lkH H id ≠ none) r) (h5 : ownH (fun id => lkH H id ≠ none) H') (h6 : ∀ d', r.kill d' = r) (hK : K ⟨pk dst r st.env, H' ++ st.heap⟩) : V3.EffK P dst op K st := by
  unfold V3.EffK
  rw [hc]
  exact ⟨h1, H, r, H', he, h2, h3, h4, h5, h6, hK⟩
theorem G.toW {n B : Nat} {w0 : Orig} {st : St} {a : Act} {w : World} (hG : G n B w0 st a w) (s id : Nat) (e : TypeId) (l : List Int) (hk : lkH st.heap id = some (.row e 1 (.ints .i64 l))) (hs : lk st.env s = .s id) : G n B w0 ⟨(s, .w id 0 l.length) :: st.env, st.heap⟩ a w := by
  obtain ⟨ρ, I, h⟩ := hG
  refine ⟨ρ, I, h.defers, h.size, fun t => ?_, h.hw, h.below, h.base, h.old⟩
  simp only [lk]
  split
  · rename_i e2; subst e2
    have hc := h.env s
    rw [hs] at hc
    obtain ⟨x, hx, n2, xs, ho, hl, _⟩ := h.hw.ok id _ hk
    simp only [Cont.len, Nat.mul_one] at hl
    cases hc with
    | s _ y hy h1 =>
      rw [hx] at hy; injection hy with hy; subst hy
      rcases ho.2 with ⟨ha, hb⟩ | ⟨g, cap, cur, ha, h2, h3, h4, _⟩
      · rw [ha, hl, hb]
        exact .w id 0 0 0 none _ hx (Nat.le_refl _) (fun h => by omega)
      · rw [ha, hl]
        exact .w id 0 n2 cap _ _ hx h4 (fun _ => ⟨g, by rw [ha]; rfl, rfl⟩)
  · exact h.env t
attribute [local irreducible] AOps AOpsX AOps2 AOpsS AWP AAnyS Go.Eng.Pure PureRow Eff V3.AOps2
theorem ZIW (ps : List Po) (k : Nat) (h : k < ps.length) : (ps.map Po.c).take (k + 1) = (ps.map Po.c).take k ++ [(ps.getD k default).c] := by
  apply List.ext_getElem?
  intro i
  rcases Nat.lt_or_ge i k with h1 | h1
  · rw [List.getElem?_append_left (by simp; omega)]
    simp [List.getElem?_take, h1, show i < k + 1 by omega]
  · rw [List.getElem?_append_right (by simp; omega)]
    have hl : ((ps.map Po.c).take k).length = k := by simp; omega
    rw [hl]
    rcases Nat.eq_or_lt_of_le h1 with h2 | h2
    · subst h2; simp [List.getD_eq_getElem?_getD, h]
    · simp [List.getElem?_take, show ¬ i < k + 1 by omega, show i - k ≠ 0 by omega]
theorem ZHQ (l : List Int) (k : Nat) (h : k < l.length) : l.take (k + 1) = l.take k ++ [l.getD k 0] := by
  apply List.ext_getElem?
  intro i
  rcases Nat.lt_or_ge i k with h1 | h1
  · rw [List.getElem?_append_left (by simp; omega)]
    simp [List.getElem?_take, h1, show i < k + 1 by omega]
  · rw [List.getElem?_append_right (by simp; omega)]
    have hl : (l.take k).length = k := by simp; omega
    rw [hl]
    rcases Nat.eq_or_lt_of_le h1 with h2 | h2
    · subst h2; simp [List.getD_eq_getElem?_getD, h]
    · simp [List.getElem?_take, show ¬ i < k + 1 by omega, show i - k ≠ 0 by omega]
def HR (d : List Int) (s : Ta) : List (Nat × Blk) :=
  (53, .nst 24 (.avs (idsL 100000 s.fr.length))) :: ([(6, .box 27 (.avs [intsF d, .s 53])), (9000, .row 3 1 (.ints .i64 s.l)), (62, .row 3 1 (.ints .i64 s.n)), (4, .box 27 (.avs [.v (.slice none 0 0), .v (.slice none 0 0)]))] ++ famI 100000 3 s.fr)
def taQ (ps : List Po) (cs : List Cl) : Nat → Ta
  | 0 => ta1 ps cs
  | 1 => ta2 ps cs
  | _ => ta3 ps cs
theorem ZKB {ps : List Po} {cs : List Cl} (hp : vP ps) (hv : vC cs) : ∀ p, InvT ps.length cs.length (taQ ps cs p)
  | 0 => ZEG hp hv
  | 1 => ZFW hp hv
  | _ + 2 => ZCy hp hv
theorem ZJP (ps : List Po) (cs : List Cl) {p : Nat} (h : p < 2) : taQ ps cs (p + 1) = taF ps cs ((p : Int) == 0) false (taQ ps cs p) cs.length := by
  rcases (by omega : p = 0 ∨ p = 1) with rfl | rfl <;> rfl
set_option maxHeartbeats 64000000 in
theorem rdivide14 (ps : List Po) (cs : List Cl) (hps : vP ps) (hv : vC cs) (hokp : okPs ps) : Pure Try.prog 14 [avPs ps, avCs cs] (.t [.a [intsF (divF ps cs), .i true (fun e j => ((ta3 ps cs).fr.map intsF).getD (e + j) .top) 1 0 (ta3 ps cs).fr.length], I64 0]) := by
  have h64 := hv.1
  have h4 := hps.1
  have h1 := ZCT ps hokp
  have h2 := ZB0 cs (vC.ok hv)
  rw [decide_eq_true hps] at h1
  rw [decide_eq_true hv] at h2
  have hdiv := ZHO ps cs hps hv
  have hdl : (divF ps cs).length = cs.length := (by
    have hd := InvD.all hps hv (rkF cs) (rkF cs).length (Nat.le_refl _)
    rw [List.take_length] at hd
    exact hd.len)
  refine ZB6 (n := 123) (res := [.cell 4 27, .tmp 5]) hT Try.func14 rfl rfl rfl Try.ntmps14 (Nat.le_of_ble_eq_true rfl) fun B w0 hgh hrd => ?_
  repeat' (first | ((first | refine sC hT fun K' hK' => ?_ | refine oC fun K' hK' => ?_); push_cast; (try simp (disch := omega) only [wrap64, Int.toNat_natCast]); (repeat refine ZAD ?_ ?_); (first | refine hK' _ ?_ | ((first | apply con1 | (apply con3; exact gd) | apply con2); (try intro hb); (first | exact h1 | exact h2 | exact hdiv); exact okr; refine hK' _ ?_) | refine ⟨.v (.int .i64 0), hK' _ ?_⟩); clear hK' K') | (refine sK hT ?_; simp only [St.put]) | ((first | refine ZAE (hK _ ?_) | refine ZAJ (hK _ ?_)); clear hK K; push_cast) | ((first | apply ZAC | apply ZAF | apply ZAG | apply ZAM); push_cast) | refine ZAK fun K hK => ?_ | refine ZAN fun K hK => ?_ | refine dQ hT hm fun K hK => ?_ | refine dL hT hm fun K hK => ?_ | apply ZAA | apply ZAB | apply ZAL | (refine ZAH _ rfl (fun h => ?_) (fun h => ?_) <;> simp only [bh2, reduceCtorEq] at h))
  all_goals first | exact ff | skip
  refine ZAk _ (fun a w h => G.nilRow h 7 40 rfl (by decide) 3 1 (.ints .i64 []) rfl) ?_
  push_cast
  refine ZAO (α := Nat) (fun k => ⟨[(0, avPs ps), (1, avCs cs), (4, .p 4 0), (5, I64 0), (6, .p 6 0), (7, .s 40), (8, I64 k)], [(40, .row 3 1 (.ints .i64 ((ps.map Po.c).take k))), (6, .box 27 (.avs [intsF (divF ps cs), .v (.slice none 0 0)])), (4, .box 27 (.avs [.v (.slice none 0 0), .v (.slice none 0 0)]))]⟩) (fun k => k ≤ ps.length) (fun k => ps.length - k) 0 (Nat.zero_le _) (G.wk ⟨rfl, rfl, rfl, rfl, rfl, rfl, rfl, trivial⟩ ⟨rfl, rfl, rfl, trivial⟩) fun k hk => ?_
  have htl : ((ps.map Po.c).take k).length = k := by simp; omega
  by_cases hlt : k < ps.length
  · have c1 : decide ((k : Int) < (ps.length : Int)) = true := decide_eq_true (by omega)
    have hf := ZIW ps k hlt
    generalize (ps.map Po.c).take k = X at *
    repeat' (first | ((first | refine sC hT fun K' hK' => ?_ | refine oC fun K' hK' => ?_); push_cast [c1]; (try simp (disch := omega) only [wrap64, Int.toNat_natCast]); (repeat refine ZAD ?_ ?_); (first | refine hK' _ ?_ | ((first | refine ⟨[(ps.getD k default).c], ⟨rfl, (fun j hj => rfl), by omega, by omega⟩, ?_⟩); refine hK' _ ?_) | refine ⟨.v (.int .i64 0), hK' _ ?_⟩); clear hK' K') | (refine sK hT ?_; simp only [St.put]) | ((first | refine ZAE (hK _ ?_) | refine ZAJ (hK _ ?_)); clear hK K; push_cast) | ((first | apply ZAC | apply ZAF | apply ZAG | apply ZAM); push_cast) | refine ZAK fun K hK => ?_ | refine ZAN fun K hK => ?_ | refine dQ hT hm fun K hK => ?_ | refine dL hT hm fun K hK => ?_ | apply ZAA | apply ZAB | apply ZAL | (refine ZAH _ rfl (fun h => ?_) (fun h => ?_) <;> simp only [bh2, reduceCtorEq] at h))
    all_goals first | exact ff | skip
    all_goals exact ⟨k + 1, ⟨by omega, by omega⟩, G.wk ⟨rfl, rfl, rfl, rfl, rfl, rfl, rfl, trivial⟩ ⟨by rw [hf]; rfl, rfl, rfl, trivial⟩⟩
  · obtain rfl : k = ps.length := by omega
    have c1 : decide ((ps.length : Int) < (ps.length : Int)) = false := decide_eq_false (by omega)
    have e : (ps.map Po.c).take ps.length = ps.map Po.c := List.take_of_length_le (by simp)
    rw [e]
    repeat' (first | ((first | refine sC hT fun K' hK' => ?_ | refine oC fun K' hK' => ?_); push_cast [c1]; (try simp (disch := omega) only [wrap64, Int.toNat_natCast]); (repeat refine ZAD ?_ ?_); (first | refine hK' _ ?_ | refine ⟨.v (.int .i64 0), hK' _ ?_⟩); clear hK' K') | (refine sK hT ?_; simp only [St.put]) | ((first | refine ZAE (hK _ ?_) | refine ZAJ (hK _ ?_)); clear hK K; push_cast) | ((first | apply ZAC | apply ZAF | apply ZAG | apply ZAM); push_cast) | refine ZAK fun K hK => ?_ | refine ZAN fun K hK => ?_ | refine dQ hT hm fun K hK => ?_ | refine dL hT hm fun K hK => ?_ | apply ZAA | apply ZAB | apply ZAL | (refine ZAH _ rfl (fun h => ?_) (fun h => ?_) <;> simp only [bh2, reduceCtorEq] at h))
    all_goals first | exact ff | skip
    refine ZAk _ (fun a w h => G.nilRow h 9 62 rfl (by decide) 3 1 (.ints .i64 []) rfl) ?_
    push_cast
    refine ZAk _ (fun a w h => G.nilBoxAt h 6 53 1 27 24 1 (.avs []) [intsF (divF ps cs), .v (.slice none 0 0)] rfl (by push_cast) rfl (by simp) (by decide) rfl (hgh 53)) ?_
    push_cast
    refine ZAk _ (fun a w h => G.toNst h 53 24 (.avs []) (.avs []) rfl rfl (fun j hj => rfl)) ?_
    push_cast
    refine ZAO (α := Nat) (fun k => ⟨[(0, avPs ps), (1, avCs cs), (4, .p 4 0), (5, I64 0), (6, .p 6 0), (7, .s 40), (9, .s 62), (10, I64 k)], (53, .nst 24 (.avs (idsL 100000 (List.replicate k (List.replicate ps.length (0 : Int))).length))) :: ([(6, .box 27 (.avs [intsF (divF ps cs), .s 53])), (40, .row 3 1 (.ints .i64 (ps.map Po.c))), (62, .row 3 1 (.ints .i64 ((divF ps cs).take k))), (4, .box 27 (.avs [.v (.slice none 0 0), .v (.slice none 0 0)]))] ++ famI 100000 3 (List.replicate k (List.replicate ps.length 0)))⟩) (fun k => k ≤ cs.length) (fun k => cs.length - k) 0 (Nat.zero_le _) (G.wk ⟨rfl, rfl, rfl, rfl, rfl, rfl, rfl, rfl, trivial⟩ (by simp only [List.replicate_zero, List.length_nil, famI, List.map_nil, fam, List.append_nil]; exact ⟨rfl, rfl, rfl, rfl, rfl, trivial⟩)) fun k hk => ?_
    have hrl : (List.replicate k (List.replicate ps.length (0 : Int))).length = k := List.length_replicate
    have hsucc : List.replicate (k + 1) (List.replicate ps.length (0 : Int)) = List.replicate k (List.replicate ps.length 0) ++ [List.replicate ps.length 0] := by rw [List.replicate_succ']
    have htk : ((divF ps cs).take k).length = k := by simp; omega
    generalize hXd : List.replicate k (List.replicate ps.length (0 : Int)) = X at *
    have hil := ZCH 100000 X.length
    have k51 := ZAj 51 100000 3 X (by decide)
    have k52 := ZAj 52 100000 3 X (by decide)
    have k53 := ZAj 53 100000 3 X (by decide)
    have k62 := ZAj 62 100000 3 X (by decide)
    have d53 := ZFX (e := 3) X (show 53 < 100000 by decide)
    have d62 := ZFX (e := 3) X (show 62 < 100000 by decide)
    have i51 := ZAt 100000 X.length 51 (by decide)
    have i52 := ZAt 100000 X.length 52 (by decide)
    have i53 := ZAt 100000 X.length 53 (by decide)
    have i62 := ZAt 100000 X.length 62 (by decide)
    by_cases hlt : k < cs.length
    · have c1 : decide ((k : Int) < (cs.length : Int)) = true := decide_eq_true (by omega)
      have hn := ZHQ (divF ps cs) k (by omega)
      generalize hDv : (divF ps cs).take k = D at *
      repeat' (first | ((first | refine sC hT fun K' hK' => ?_ | refine oC fun K' hK' => ?_); push_cast [c1, k51, k52, k53, i51, i52, i53, d53]; (try simp (disch := omega) only [wrap64, Int.toNat_natCast]); (repeat refine ZAD ?_ ?_); (first | refine hK' _ ?_ | refine ⟨.v (.int .i64 0), hK' _ ?_⟩); clear hK' K') | (refine sK hT ?_; simp only [St.put]) | ((first | refine ZAE (hK _ ?_) | refine ZAJ (hK _ ?_)); clear hK K; push_cast) | ((first | apply ZAC | apply ZAF | apply ZAG | apply ZAM); push_cast) | refine ZAK fun K hK => ?_ | refine ZAN fun K hK => ?_ | refine dQ hT hm fun K hK => ?_ | refine dL hT hm fun K hK => ?_ | apply ZAA | apply ZAB | apply ZAL | (refine ZAH _ rfl (fun h => ?_) (fun h => ?_) <;> simp only [bh2, reduceCtorEq] at h))
      all_goals first | exact ff | skip
      (apply ZCA hm [([false, false, false, false, false, false, false, false, false], _), ([true, false, false, false, false, false, false, false, false], _), ([false, false, true, false, false, false, false, false, false], _), ([true, true, false, false, false, false, false, false, false], _), ([true, false, true, false, false, false, false, false, false], _), ([false, false, true, true, false, false, false, false, false], _), ([true, true, true, false, false, false, false, false, false], _), ([true, false, true, true, false, false, false, false, false], _), ([false, false, true, true, true, false, false, false, false], _), ([true, true, true, true, false, false, false, false, false], _), ([true, false, true, true, true, false, false, false, false], _), ([false, false, true, true, true, true, false, false, false], _), ([true, true, true, true, true, false, false, false, false], _), ([true, false, true, true, true, true, false, false, false], _), ([true, true, true, true, true, true, false, false, false], _), ([true, true, true, true, true, true, true, false, false], _), ([true, true, true, true, true, true, true, true, false], _), ([true, true, true, true, true, true, true, true, true], _)] rfl; intro K hKr; repeat' (first | (refine ZBZ (by decide +kernel) ?_; refine hKr _ ?_; clear hKr K; push_cast) | refine ZAI 0 [2] (by decide +kernel) ?_ ?_ | refine ZAI 0 [3] (by decide +kernel) ?_ ?_ | refine ZAI 0 [4] (by decide +kernel) ?_ ?_ | refine ZAI 0 [5] (by decide +kernel) ?_ ?_ | refine ZAI 0 [] (by decide +kernel) ?_ ?_ | refine ZAI 1 [2] (by decide +kernel) ?_ ?_ | refine ZAI 1 [3] (by decide +kernel) ?_ ?_ | refine ZAI 1 [4] (by decide +kernel) ?_ ?_ | refine ZAI 1 [5] (by decide +kernel) ?_ ?_ | refine ZAI 1 [] (by decide +kernel) ?_ ?_ | refine ZAI 2 [] (by decide +kernel) ?_ ?_ | refine ZAI 3 [] (by decide +kernel) ?_ ?_ | refine ZAI 4 [] (by decide +kernel) ?_ ?_ | refine ZAI 5 [] (by decide +kernel) ?_ ?_ | refine ZAI 6 [] (by decide +kernel) ?_ ?_ | refine ZAI 7 [] (by decide +kernel) ?_ ?_ | refine ZAI 8 [] (by decide +kernel) ?_ ?_ | exact ZBa | refine ZBJ rfl (fun K3 hK3 => ?_) ?_ | (refine ZAE ?_; first | exact hK3 _ _ rfl (fun _ _ h => h) | exact hK3 _ _ rfl (G.wk3 (by (repeat' (first | exact trivial | exact .inr rfl | exact .inl rfl | refine ⟨?_, ?_⟩))) rfl) | exact hK3 _ _ rfl (G.wk2 (by (repeat' (first | exact trivial | exact .inr rfl | exact .inl rfl | refine ⟨?_, ?_⟩))) (by (repeat' (first | exact trivial | exact .inr rfl | exact .inl rfl | refine ⟨?_, ?_⟩)))))     | ((first | refine ZA6 hT (by rfl) fun K' hK' => ?_ | refine ZAw (by rfl) fun K' hK' => ?_); push_cast [k51, k52, k53, i51, i52, i53, d53, ZAu]; (try simp (disch := omega) only [wrap64, Int.toNat_natCast]); (repeat refine ZAD ?_ ?_); (first | refine hK' _ ?_ | (refine ⟨.v (.int .i64 0), ?_⟩; refine hK' _ ?_)); clear hK' K')     | (refine ZAR hT rfl fun K' hK' => ?_; push_cast [k51, k52, k53, i51, i52, i53, d53, ZAu]; (try simp (disch := omega) only [wrap64, Int.toNat_natCast]); (repeat refine ZAD ?_ ?_); refine hK' _ ?_; clear hK' K')     | (refine ZAS T rfl (by simp only [dstOk, Nat.reduceLT]) fun K' hK' => ?_; push_cast [k51, k52, k53, i51, i52, i53, d53, ZAu]; refine hK' _ ?_; clear hK' K')     | (refine ZBE hT rfl fun K' hK' => ?_; push_cast [k51, k52, k53, i51, i52, i53, d53, ZAu]; (try simp (disch := omega) only [wrap64, Int.toNat_natCast]); (repeat refine ZAD ?_ ?_); refine hK' _ ?_; clear hK' K')     | (refine ZFw hT 52 rfl rfl (by simp only [dstOk, Nat.reduceLT]) fun K' hK' => ?_; push_cast [k51, k52, k53, i51, i52, i53, d53, ZAu]; (try simp (disch := omega) only [wrap64, Int.toNat_natCast]); (repeat refine ZAD ?_ ?_); refine hK' _ ?_; clear hK' K')     | (refine ZEe hT rfl (by simp only [dstOk, Nat.reduceLT]) fun K' hK' => ?_; push_cast [k51, k52, k53, i51, i52, i53, d53, ZAu]; (try simp (disch := omega) only [wrap64, Int.toNat_natCast]); (repeat refine ZAD ?_ ?_); refine hK' _ ?_; clear hK' K')     | (refine ZA7 hT (by rfl) (by rfl) (by simp only [dstOk, Nat.reduceLT]) ?_; simp only [St.put]) ))
      all_goals first | exact ff | skip
      repeat' (first | ((first | refine sC hT fun K' hK' => ?_ | refine oC fun K' hK' => ?_); push_cast [k51, k52, k53, k62, i51, i52, i53, i62, d53, d62, ZAu]; (try simp (disch := omega) only [wrap64, Int.toNat_natCast]); (repeat refine ZAD ?_ ?_); (first | refine hK' _ ?_ | ((first | refine ⟨[(divF ps cs).getD k 0], ⟨rfl, (fun j hj => rfl), by omega, by omega⟩, ?_⟩); refine hK' _ ?_) | refine ⟨.v (.int .i64 0), hK' _ ?_⟩); clear hK' K') | (refine sK hT ?_; simp only [St.put]) | ((first | refine ZAE (hK _ ?_) | refine ZAJ (hK _ ?_)); clear hK K; push_cast) | ((first | apply ZAC | apply ZAF | apply ZAG | apply ZAM); push_cast) | refine ZAK fun K hK => ?_ | refine ZAN fun K hK => ?_ | refine dQ hT hm fun K hK => ?_ | refine dL hT hm fun K hK => ?_ | apply ZAA | apply ZAB | apply ZAL | (refine ZAH _ rfl (fun h => ?_) (fun h => ?_) <;> simp only [bh2, reduceCtorEq] at h))
      all_goals first | exact ff | skip
      refine ⟨k + 1, ⟨by omega, by omega⟩, fun a w hG => ?_⟩
      have hXl : (X ++ [List.replicate ps.length (0 : Int)]).length = X.length + 1 := by simp
      have hhi : (X ++ [List.replicate ps.length (0 : Int)]).getD X.length [] = List.replicate ps.length 0 := by simp [List.getD_eq_getElem?_getD]
      have h1 := G.refam hG (.nst 24) (ZEo 24) 53 51 100000 X.length 3 (X ++ [List.replicate ps.length 0]) (idsL 100000 X.length ++ [.s 51]) [(0, avPs ps), (1, avCs cs), (4, .p 4 0), (5, I64 0), (6, .p 6 0), (7, .s 40), (9, .s 62), (10, I64 ((k : Int) + 1))] [(6, .box 27 (.avs [intsF (divF ps cs), .s 53])), (40, .row 3 1 (.ints .i64 (ps.map Po.c))), (62, .row 3 1 (.ints .i64 (D ++ [(divF ps cs).getD k 0]))), (4, .box 27 (.avs [.v (.slice none 0 0), .v (.slice none 0 0)]))] rfl (by simp [hil]) (fun i hi => ?_) (by rw [hhi]; rfl) (fun i hi hne => ?_) (by omega) (by decide) (by decide) (by decide) (ZGU ?_) (hgh _) (ZFZ ?_)
      · have h2 : G 123 B w0 ⟨[(0, avPs ps), (1, avCs cs), (4, .p 4 0), (5, I64 0), (6, .p 6 0), (7, .s 40), (9, .s 62), (10, I64 ((k : Int) + 1))], (53, .nst 24 (.avs (idsL 100000 (X ++ [List.replicate ps.length (0 : Int)]).length))) :: ([(6, .box 27 (.avs [intsF (divF ps cs), .s 53])), (40, .row 3 1 (.ints .i64 (ps.map Po.c))), (62, .row 3 1 (.ints .i64 (D ++ [(divF ps cs).getD k 0]))), (4, .box 27 (.avs [.v (.slice none 0 0), .v (.slice none 0 0)]))] ++ famI 100000 3 (X ++ [List.replicate ps.length (0 : Int)]))⟩ a w := by
          refine G.wkL (fun s => ?_) (fun id b h => ?_) a w h1
          · exact .inr rfl
          · refine swapH (fun id b h => ?_) h
            simp only [lkH] at h
            repeat (split at h; · omega)
            cases h
        rw [hsucc, hn]; exact h2
      · rw [hXl] at hi
        by_cases e : i = X.length
        · subst e
          rw [if_pos rfl, List.getD_eq_getElem?_getD, List.getElem?_append_right (by rw [hil]; exact Nat.le_refl _), hil, Nat.sub_self]; rfl
        · rw [if_neg e, List.getD_eq_getElem?_getD, List.getElem?_append_left (by rw [hil]; omega), ← List.getD_eq_getElem?_getD, idsLn 100000 (by omega)]
      · rw [hXl] at hi
        have q := fun (c : Nat) (h : c < 100000) => (eq_false (show ¬ c = 100000 + i by omega) : (c = 100000 + i) = False)
        simp only [lkH, q 6 (by decide), q 53 (by decide), q 52 (by decide), q 51 (by decide), q 40 (by decide), q 62 (by decide), q 4 (by decide), if_false]
        rw [ZAv 100000 3 X (by omega), List.getD_eq_getElem?_getD, List.getD_eq_getElem?_getD, List.getElem?_append_left (by omega)]
      · simp only [envL, lk, push_cast, reduceIte, reduceCtorEq, Nat.reduceEqDiff, Nat.reduceLT, Nat.reduceLeDiff, Nat.reduceAdd, Nat.reduceMul, Nat.reduceMod, Nat.reduceDiv, Nat.reduceSub, Int.reduceToNat, and_true, true_and]
      · simp only [heapL, push_cast, reduceIte, reduceCtorEq, Nat.reduceEqDiff, Nat.reduceLT, Nat.reduceLeDiff, Nat.reduceAdd, Nat.reduceMul, Nat.reduceMod, Nat.reduceDiv, Nat.reduceSub, Int.reduceToNat, and_true, true_and]
    · obtain rfl : k = cs.length := by omega
      have c1 : decide ((cs.length : Int) < (cs.length : Int)) = false := decide_eq_false (by omega)
      have e2 : (divF ps cs).take cs.length = divF ps cs := List.take_of_length_le (by omega)
      rw [e2]
      repeat' (first | ((first | refine sC hT fun K' hK' => ?_ | refine oC fun K' hK' => ?_); push_cast [c1]; (try simp (disch := omega) only [wrap64, Int.toNat_natCast]); (repeat refine ZAD ?_ ?_); (first | refine hK' _ ?_ | refine ⟨.v (.int .i64 0), hK' _ ?_⟩); clear hK' K') | (refine sK hT ?_; simp only [St.put]) | ((first | refine ZAE (hK _ ?_) | refine ZAJ (hK _ ?_)); clear hK K; push_cast) | ((first | apply ZAC | apply ZAF | apply ZAG | apply ZAM); push_cast) | refine ZAK fun K hK => ?_ | refine ZAN fun K hK => ?_ | refine dQ hT hm fun K hK => ?_ | refine dL hT hm fun K hK => ?_ | apply ZAA | apply ZAB | apply ZAL | (refine ZAH _ rfl (fun h => ?_) (fun h => ?_) <;> simp only [bh2, reduceCtorEq] at h))
      all_goals first | exact ff | skip
      refine ZAk _ (fun a w h => h.rn 40 9000 (by repeat' (first | exact trivial | exact ZCY _ _ (fun i _ => by omega) | exact ZBt _ _ _ (fun i _ => by omega) | refine ⟨?_, ?_⟩ | (simp only [AV.ids, Blk.ids]; decide))) (by repeat' (first | exact trivial | exact ZCY _ _ (fun i _ => by omega) | exact ZBt _ _ _ (fun i _ => by omega) | refine ⟨?_, ?_⟩ | (simp only [AV.ids, Blk.ids]; decide))) (hgh _)) ?_
      push_cast [rnE, rnH, AV.rn, rnI, Blk.rn, Cont.rn, AV.rn.rnL, ZG2 40 9000 100000 X.length (by decide), ZFY 40 9000 100000 3 X (by decide)]
      refine ZAk _ (fun a w h => G.toW h 9 62 3 (divF ps cs) rfl rfl) ?_
      rw [hdl]
      have hs0 := ZFV hps hv
      have e0 : HR (divF ps cs) (ta0 ps cs) = (53, .nst 24 (.avs (idsL 100000 cs.length))) :: ([(6, .box 27 (.avs [intsF (divF ps cs), .s 53])), (9000, .row 3 1 (.ints .i64 (ps.map Po.c))), (62, .row 3 1 (.ints .i64 (divF ps cs))), (4, .box 27 (.avs [.v (.slice none 0 0), .v (.slice none 0 0)]))] ++ famI 100000 3 X) := by
        subst hXd; unfold HR ta0; simp only [List.length_replicate]
      refine ZAk ⟨[(0, avPs ps), (1, avCs cs), (4, .p 4 0), (5, I64 0), (6, .p 6 0), (7, .s 9000), (9, .w 62 0 cs.length), (11, I64 0)], HR (divF ps cs) (ta0 ps cs)⟩ (G.wkL (ZAl ⟨rfl, rfl, rfl, rfl, rfl, rfl, rfl, rfl, trivial⟩) (fun id b h => ZCg (R := [(53, .nst 24 (.avs (idsL 100000 cs.length))), (6, .box 27 (.avs [intsF (divF ps cs), .s 53])), (9000, .row 3 1 (.ints .i64 (ps.map Po.c))), (62, .row 3 1 (.ints .i64 (divF ps cs))), (4, .box 27 (.avs [.v (.slice none 0 0), .v (.slice none 0 0)]))]) (F := famI 100000 3 X) (by simp only [heapW, lkH, Nat.reduceEqDiff, if_true, if_false, and_true, true_and]; exact ⟨by rw [hrl], by simp only [intsF, hdl]⟩) (fun id b h => ?_) (by
        have h : lkH (HR (divF ps cs) (ta0 ps cs)) id = some b := h
        rw [e0] at h
        exact h))) ?_
      · obtain ⟨i, hi, rfl, rfl⟩ := ZBF h
        have q2 := fun (c : Nat) (h : c < 100000) => (eq_false (show ¬ c = 100000 + i by omega) : (c = 100000 + i) = False)
        simp only [lkH, q2 53 (by decide), q2 6 (by decide), q2 9000 (by decide), q2 62 (by decide), q2 4 (by decide), q2 40 (by decide), if_false]
        exact ZAv 100000 3 X hi
      clear e0
      refine ZAO (α := Nat) (fun k => ⟨[(0, avPs ps), (1, avCs cs), (4, .p 4 0), (5, I64 0), (6, .p 6 0), (7, .s 9000), (9, .w 62 0 cs.length), (11, I64 k)], HR (divF ps cs) (taF ps cs true true (ta0 ps cs) k)⟩) (fun k => k ≤ cs.length) (fun k => cs.length - k) 0 (Nat.zero_le _) (G.wkL (ZAl ⟨rfl, rfl, rfl, rfl, rfl, rfl, rfl, rfl, trivial⟩) (fun id b h => h)) fun k hk => ?_
      have hin := InvT.all hs0 rfl cs true true k hk
      by_cases hlt : k < cs.length
      · have c1 : decide ((k : Int) < (cs.length : Int)) = true := decide_eq_true (by omega)
        have hst : taF ps cs true true (ta0 ps cs) (k + 1) = taS ps cs true true (taF ps cs true true (ta0 ps cs) k) k := rfl
        generalize taF ps cs true true (ta0 ps cs) k = s at *
        by_cases hf : (cs.getD k default).f = true
        · have c2 : (cs.getD k default).f = true := hf
          have hst : taF ps cs true true (ta0 ps cs) (k + 1) = taR s k (srF ps true ⟨s.n.getD k 0, s.l, s.fr.getD k []⟩ ps.length) := by rw [hst]; unfold taS taR; rw [if_pos hf]
          have hri := hin.row hlt
          have eff1 := ZEu ps true ⟨s.n.getD k 0, s.l, s.fr.getD k []⟩ (100000 + k) (by omega) h4 hri
          have hrj := InvS.all hri ps true ps.length (Nat.le_refl _)
          generalize hr : srF ps true ⟨s.n.getD k 0, s.l, s.fr.getD k []⟩ ps.length = r at *
          obtain ⟨n1, n2, n3, n4, n5, n6, n7, n8, n9⟩ := id hin
          have hil := ZCH 100000 s.fr.length
          have hge := idsLn 100000 (show k < s.fr.length by omega)
          have hlf := ZAv 100000 3 s.fr (show k < s.fr.length by omega)
          have kfD := ZAj 87 100000 3 s.fr (by decide)
          have kiD := ZAt 100000 s.fr.length 87 (by decide)
          have q := fun (c : Nat) (h : c < 100000) => (eq_false (show ¬ c = 100000 + k by omega) : (c = 100000 + k) = False)
          have q' := fun (c : Nat) (h : c < 100000) => (eq_false (show ¬ 100000 + k = c by omega) : (100000 + k = c) = False)
          have hnl : s.n.length = cs.length := n1
          have hH : ∀ Y id blk, lkH [(9000, .row 3 1 (.ints .i64 s.l)), (100000 + k, .row 3 1 (.ints .i64 (s.fr.getD k [])))] id = some blk → lkH (HR Y s) id = some blk := fun Y id blk h => by
            unfold HR
            simp only [lkH] at h
            split at h
            · rename_i e; subst e; injection h with h; subst h; rfl
            · split at h
              · rename_i e; subst e; injection h with h; subst h
                simp only [List.cons_append, List.nil_append, lkH, q 53 (by decide), q 6 (by decide), q 9000 (by decide), q 62 (by decide), q 4 (by decide), if_false]
                exact hlf
              · cases h
          have hdom : ∀ id, lkH [(9000, .row 3 1 (.ints .i64 r.l)), (100000 + k, .row 3 1 (.ints .i64 r.w))] id = none ↔ lkH [(9000, .row 3 1 (.ints .i64 s.l)), (100000 + k, .row 3 1 (.ints .i64 (s.fr.getD k [])))] id = none := fun id => by
            simp only [lkH]
            by_cases e1 : 9000 = id
            · simp only [e1, if_true, reduceCtorEq]
            · by_cases e2 : 100000 + k = id
              · simp only [e1, e2, if_false, if_true, reduceCtorEq]
              · simp only [e1, e2, if_false]
          repeat' (first | ((first | refine sC hT fun K' hK' => ?_ | refine oC fun K' hK' => ?_); push_cast [c1, c2]; (try simp (disch := omega) only [wrap64, Int.toNat_natCast]); (repeat refine ZAD ?_ ?_); (first | refine hK' _ ?_ | refine ⟨.v (.int .i64 0), hK' _ ?_⟩); clear hK' K') | (refine sK hT ?_; simp only [St.put]) | ((first | refine ZAE (hK _ ?_) | refine ZAJ (hK _ ?_)); clear hK K; push_cast) | ((first | apply ZAC | apply ZAF | apply ZAG | apply ZAM); push_cast) | refine ZAK fun K hK => ?_ | refine ZAN fun K hK => ?_ | apply ZAA | apply ZAB | apply ZAL | (refine ZAH _ rfl (fun h => ?_) (fun h => ?_) <;> simp only [bh2, reduceCtorEq] at h))
          all_goals first | exact ff | skip
          unfold HR
          push_cast [List.cons_append, List.nil_append]
          (refine V3.awp_v hT [87] [(1, [87]), (1, [87]), (0, [87]), (0, [87]), (0, [87]), (0, [87]), (0, [87]), (0, [87]), (0, [87]), (0, [87]), (0, [87]), (0, [87]), (0, [87]), (4, []), (1, [87]), (0, [])] hm (by decide +kernel) (by push_cast [hge, hlf, kfD, kiD, hil, hnl, q' 87 (by decide), q 53 (by decide), q 6 (by decide), q 9000 (by decide), q 62 (by decide), q 4 (by decide), q' 53 (by decide), q' 6 (by decide), q' 9000 (by decide), q' 62 (by decide), q' 4 (by decide)]) fun K hKr => ?_; repeat' (first
    | ((first | refine V3.aops2_quiet rfl (by rfl) fun K' hK' => ?_ | refine V3.aops2_free rfl (by rfl) fun K' hK' => ?_ | refine V3.aops2_loud rfl (by rfl) fun K' hK' => ?_); push_cast [hge, hlf, kfD, kiD, hil, hnl, q' 87 (by decide), q 53 (by decide), q 6 (by decide), q 9000 (by decide), q 62 (by decide), q 4 (by decide), q' 53 (by decide), q' 6 (by decide), q' 9000 (by decide), q' 62 (by decide), q' 4 (by decide)]; (try simp (disch := omega) only [wrap64, Int.toNat_natCast]); (repeat refine ZAD ?_ ?_); (first | refine hK' _ (by push_cast [hge, hlf, kfD, kiD, hil, hnl, q' 87 (by decide), q 53 (by decide), q 6 (by decide), q 9000 (by decide), q 62 (by decide), q 4 (by decide), q' 53 (by decide), q' 6 (by decide), q' 9000 (by decide), q' 62 (by decide), q' 4 (by decide)]) ?_ | refine hK' _ ?_); clear hK' K')
    | (refine V3.aops2_eff rfl (by simp only [dstOk, Nat.reduceLT]) fun K' hK' => ?_; refine ZIV (by push_cast; rfl) (by simp only [condL, AV.cond, and_true]) [(9000, .row 3 1 (.ints .i64 s.l)), (100000 + k, .row 3 1 (.ints .i64 (s.fr.getD k [])))] (I64 r.n) [(9000, .row 3 1 (.ints .i64 r.l)), (100000 + k, .row 3 1 (.ints .i64 r.w))] (by push_cast [q 9000 (by decide), stripL, AV.strip, List.map_cons, List.map_nil, lk]; exact eff1) (hH _) hdom (by simp only [AV.own]) (by simp only [ownH, Blk.own, Cont.own, and_true]) (fun d' => rfl) ?_; push_cast [hge, hlf, kfD, kiD, hil, hnl, q' 87 (by decide), q 53 (by decide), q 6 (by decide), q 9000 (by decide), q 62 (by decide), q 4 (by decide), q' 53 (by decide), q' 6 (by decide), q' 9000 (by decide), q' 62 (by decide), q' 4 (by decide)]; refine hK' _ ?_; clear hK' K')
    | (refine V3.aops2_nil ?_; refine hKr _ ?_; clear hKr K; push_cast)))
          all_goals first | exact ff | skip
          repeat' (first | ((first | refine sC hT fun K' hK' => ?_ | refine oC fun K' hK' => ?_); push_cast; (try simp (disch := omega) only [wrap64, Int.toNat_natCast]); (repeat refine ZAD ?_ ?_); (first | refine hK' _ ?_ | refine ⟨.v (.int .i64 0), hK' _ ?_⟩); clear hK' K') | (refine sK hT ?_; simp only [St.put]) | ((first | refine ZAE (hK _ ?_) | refine ZAJ (hK _ ?_)); clear hK K; push_cast) | ((first | apply ZAC | apply ZAF | apply ZAG | apply ZAM); push_cast) | refine ZAK fun K hK => ?_ | refine ZAN fun K hK => ?_ | refine dQ hT hm fun K hK => ?_ | refine dL hT hm fun K hK => ?_ | apply ZAA | apply ZAB | apply ZAL | (refine ZAH _ rfl (fun h => ?_) (fun h => ?_) <;> simp only [bh2, reduceCtorEq] at h))
          all_goals first | exact ff | skip
          have hR : ∀ i, i < s.fr.length → i ≠ k → (100000 + k = 100000 + i) = False := fun i _ hne => eq_false (by omega)
          refine ⟨k + 1, ⟨by omega, by omega⟩, G.wkL (ZAl ⟨rfl, rfl, rfl, rfl, rfl, rfl, rfl, rfl, trivial⟩) (fun id b2 h => ZCg (R := [(53, .nst 24 (.avs (idsL 100000 s.fr.length))), (6, .box 27 (.avs [intsF (divF ps cs), .s 53])), (9000, .row 3 1 (.ints .i64 r.l)), (62, .row 3 1 (.ints .i64 (s.n.set k r.n))), (4, .box 27 (.avs [.v (.slice none 0 0), .v (.slice none 0 0)]))]) (F := famI 100000 3 (s.fr.set k r.w)) ?_ (famW (by omega) ?_ ?_) ?_)⟩
          · simp only [heapW, lkH, q' 53 (by decide), q' 6 (by decide), q' 9000 (by decide), q' 62 (by decide), q' 4 (by decide), Nat.reduceEqDiff, if_true, if_false, true_and, and_true]
            try exact ⟨rfl, rfl⟩
          · simp only [lkH, q 53 (by decide), q 6 (by decide), q 9000 (by decide), q 62 (by decide), q 4 (by decide), if_true, if_false]
          · intro i hi hne
            have q2 := fun (c : Nat) (h : c < 100000) => (eq_false (show ¬ c = 100000 + i by omega) : (c = 100000 + i) = False)
            simp only [lkH, q2 53 (by decide), q2 6 (by decide), q2 9000 (by decide), q2 62 (by decide), q2 4 (by decide), hR i hi hne, if_false]
            exact ZAv 100000 3 s.fr hi
          · have h : lkH (HR (divF ps cs) (taF ps cs true true (ta0 ps cs) (k + 1))) id = some b2 := h
            rw [hst] at h
            unfold HR taR at h
            simp only [List.length_set] at h
            exact h
        · have c2 : (cs.getD k default).f = false := by simpa using hf
          have hst : taF ps cs true true (ta0 ps cs) (k + 1) = s := by rw [hst]; unfold taS; rw [if_neg hf]
          repeat' (first | ((first | refine sC hT fun K' hK' => ?_ | refine oC fun K' hK' => ?_); push_cast [c1, c2]; (try simp (disch := omega) only [wrap64, Int.toNat_natCast]); (repeat refine ZAD ?_ ?_); (first | refine hK' _ ?_ | refine ⟨.v (.int .i64 0), hK' _ ?_⟩); clear hK' K') | (refine sK hT ?_; simp only [St.put]) | ((first | refine ZAE (hK _ ?_) | refine ZAJ (hK _ ?_)); clear hK K; push_cast) | ((first | apply ZAC | apply ZAF | apply ZAG | apply ZAM); push_cast) | refine ZAK fun K hK => ?_ | refine ZAN fun K hK => ?_ | refine dQ hT hm fun K hK => ?_ | refine dL hT hm fun K hK => ?_ | apply ZAA | apply ZAB | apply ZAL | (refine ZAH _ rfl (fun h => ?_) (fun h => ?_) <;> simp only [bh2, reduceCtorEq] at h))
          all_goals first | exact ff | skip
          all_goals exact ⟨k + 1, ⟨by omega, by omega⟩, G.wkL (ZAl ⟨rfl, rfl, rfl, rfl, rfl, rfl, rfl, rfl, trivial⟩) (fun id b h => by rw [hst] at h; exact h)⟩
      · obtain rfl : k = cs.length := by omega
        have c1 : decide ((cs.length : Int) < (cs.length : Int)) = false := decide_eq_false (by omega)
        have hs1 : InvT ps.length cs.length (taQ ps cs 0) := ZEG hps hv
        repeat' (first | ((first | refine sC hT fun K' hK' => ?_ | refine oC fun K' hK' => ?_); push_cast [c1]; (try simp (disch := omega) only [wrap64, Int.toNat_natCast]); (repeat refine ZAD ?_ ?_); (first | refine hK' _ ?_ | refine ⟨.v (.int .i64 0), hK' _ ?_⟩); clear hK' K') | (refine sK hT ?_; simp only [St.put]) | ((first | refine ZAE (hK _ ?_) | refine ZAJ (hK _ ?_)); clear hK K; push_cast) | ((first | apply ZAC | apply ZAF | apply ZAG | apply ZAM); push_cast) | refine ZAK fun K hK => ?_ | refine ZAN fun K hK => ?_ | refine dQ hT hm fun K hK => ?_ | refine dL hT hm fun K hK => ?_ | apply ZAA | apply ZAB | apply ZAL | (refine ZAH _ rfl (fun h => ?_) (fun h => ?_) <;> simp only [bh2, reduceCtorEq] at h))
        all_goals first | exact ff | skip
        refine ZAO (α := Nat) (fun p => ⟨[(0, avPs ps), (1, avCs cs), (4, .p 4 0), (5, I64 0), (6, .p 6 0), (7, .s 9000), (9, .w 62 0 cs.length), (12, I64 p)], HR (divF ps cs) (taQ ps cs p)⟩) (fun p => p ≤ 2) (fun p => 2 - p) 0 (Nat.zero_le _) (G.wkL (ZAl ⟨rfl, rfl, rfl, rfl, rfl, rfl, rfl, rfl, trivial⟩) (fun id b h => h)) fun p hp2 => ?_
        have hs0 := ZKB hps hv p
        by_cases hlp : p < 2
        · have d1 : decide ((p : Int) < 2) = true := decide_eq_true (by omega)
          repeat' (first | ((first | refine sC hT fun K' hK' => ?_ | refine oC fun K' hK' => ?_); push_cast [d1]; (try simp (disch := omega) only [wrap64, Int.toNat_natCast]); (repeat refine ZAD ?_ ?_); (first | refine hK' _ ?_ | refine ⟨.v (.int .i64 0), hK' _ ?_⟩); clear hK' K') | (refine sK hT ?_; simp only [St.put]) | ((first | refine ZAE (hK _ ?_) | refine ZAJ (hK _ ?_)); clear hK K; push_cast) | ((first | apply ZAC | apply ZAF | apply ZAG | apply ZAM); push_cast) | refine ZAK fun K hK => ?_ | refine ZAN fun K hK => ?_ | refine dQ hT hm fun K hK => ?_ | refine dL hT hm fun K hK => ?_ | apply ZAA | apply ZAB | apply ZAL | (refine ZAH _ rfl (fun h => ?_) (fun h => ?_) <;> simp only [bh2, reduceCtorEq] at h))
          all_goals first | exact ff | skip
          refine ZAO (α := Nat) (fun k => ⟨[(0, avPs ps), (1, avCs cs), (4, .p 4 0), (5, I64 0), (6, .p 6 0), (7, .s 9000), (9, .w 62 0 cs.length), (12, I64 p), (13, I64 k)], HR (divF ps cs) (taF ps cs ((p : Int) == 0) false (taQ ps cs p) k)⟩) (fun k => k ≤ cs.length) (fun k => cs.length - k) 0 (Nat.zero_le _) (G.wkL (ZAl ⟨rfl, rfl, rfl, rfl, rfl, rfl, rfl, rfl, rfl, trivial⟩) (fun id b h => h)) fun k hk => ?_
          have hin := InvT.all hs0 rfl cs ((p : Int) == 0) false k hk
          by_cases hlt : k < cs.length
          · have c1 : decide ((k : Int) < (cs.length : Int)) = true := decide_eq_true (by omega)
            have hst : taF ps cs ((p : Int) == 0) false (taQ ps cs p) (k + 1) = taS ps cs ((p : Int) == 0) false (taF ps cs ((p : Int) == 0) false (taQ ps cs p) k) k := rfl
            generalize taF ps cs ((p : Int) == 0) false (taQ ps cs p) k = s at *
            by_cases hf : (cs.getD k default).f = ((p : Int) == 0)
            · have c2 : ((cs.getD k default).f == ((p : Int) == 0)) = true := by rw [hf]; exact beq_self_eq_true _
              have hst : taF ps cs ((p : Int) == 0) false (taQ ps cs p) (k + 1) = taR s k (srF ps false ⟨s.n.getD k 0, s.l, s.fr.getD k []⟩ ps.length) := by rw [hst]; unfold taS taR; rw [if_pos hf]
              have hri := hin.row hlt
              have eff1 := ZEu ps false ⟨s.n.getD k 0, s.l, s.fr.getD k []⟩ (100000 + k) (by omega) h4 hri
              have hrj := InvS.all hri ps false ps.length (Nat.le_refl _)
              generalize hr : srF ps false ⟨s.n.getD k 0, s.l, s.fr.getD k []⟩ ps.length = r at *
              obtain ⟨n1, n2, n3, n4, n5, n6, n7, n8, n9⟩ := id hin
              have hil := ZCH 100000 s.fr.length
              have hge := idsLn 100000 (show k < s.fr.length by omega)
              have hlf := ZAv 100000 3 s.fr (show k < s.fr.length by omega)
              have kfD := ZAj 120 100000 3 s.fr (by decide)
              have kiD := ZAt 100000 s.fr.length 120 (by decide)
              have q := fun (c : Nat) (h : c < 100000) => (eq_false (show ¬ c = 100000 + k by omega) : (c = 100000 + k) = False)
              have q' := fun (c : Nat) (h : c < 100000) => (eq_false (show ¬ 100000 + k = c by omega) : (100000 + k = c) = False)
              have hnl : s.n.length = cs.length := n1
              have hH : ∀ Y id blk, lkH [(9000, .row 3 1 (.ints .i64 s.l)), (100000 + k, .row 3 1 (.ints .i64 (s.fr.getD k [])))] id = some blk → lkH (HR Y s) id = some blk := fun Y id blk h => by
                unfold HR
                simp only [lkH] at h
                split at h
                · rename_i e; subst e; injection h with h; subst h; rfl
                · split at h
                  · rename_i e; subst e; injection h with h; subst h
                    simp only [List.cons_append, List.nil_append, lkH, q 53 (by decide), q 6 (by decide), q 9000 (by decide), q 62 (by decide), q 4 (by decide), if_false]
                    exact hlf
                  · cases h
              have hdom : ∀ id, lkH [(9000, .row 3 1 (.ints .i64 r.l)), (100000 + k, .row 3 1 (.ints .i64 r.w))] id = none ↔ lkH [(9000, .row 3 1 (.ints .i64 s.l)), (100000 + k, .row 3 1 (.ints .i64 (s.fr.getD k [])))] id = none := fun id => by
                simp only [lkH]
                by_cases e1 : 9000 = id
                · simp only [e1, if_true, reduceCtorEq]
                · by_cases e2 : 100000 + k = id
                  · simp only [e1, e2, if_false, if_true, reduceCtorEq]
                  · simp only [e1, e2, if_false]
              repeat' (first | ((first | refine sC hT fun K' hK' => ?_ | refine oC fun K' hK' => ?_); push_cast [c1, c2]; (try simp (disch := omega) only [wrap64, Int.toNat_natCast]); (repeat refine ZAD ?_ ?_); (first | refine hK' _ ?_ | refine ⟨.v (.int .i64 0), hK' _ ?_⟩); clear hK' K') | (refine sK hT ?_; simp only [St.put]) | ((first | refine ZAE (hK _ ?_) | refine ZAJ (hK _ ?_)); clear hK K; push_cast) | ((first | apply ZAC | apply ZAF | apply ZAG | apply ZAM); push_cast) | refine ZAK fun K hK => ?_ | refine ZAN fun K hK => ?_ | apply ZAA | apply ZAB | apply ZAL | (refine ZAH _ rfl (fun h => ?_) (fun h => ?_) <;> simp only [bh2, reduceCtorEq] at h))
              all_goals first | exact ff | skip
              unfold HR
              push_cast [List.cons_append, List.nil_append]
              (refine V3.awp_v hT [120] [(1, [120]), (1, [120]), (0, [120]), (0, [120]), (0, [120]), (0, [120]), (0, [120]), (0, [120]), (0, [120]), (0, [120]), (0, [120]), (0, [120]), (0, [120]), (4, []), (1, [120]), (0, [])] hm (by decide +kernel) (by push_cast [hge, hlf, kfD, kiD, hil, hnl, q' 120 (by decide), q 53 (by decide), q 6 (by decide), q 9000 (by decide), q 62 (by decide), q 4 (by decide), q' 53 (by decide), q' 6 (by decide), q' 9000 (by decide), q' 62 (by decide), q' 4 (by decide)]) fun K hKr => ?_; repeat' (first
    | ((first | refine V3.aops2_quiet rfl (by rfl) fun K' hK' => ?_ | refine V3.aops2_free rfl (by rfl) fun K' hK' => ?_ | refine V3.aops2_loud rfl (by rfl) fun K' hK' => ?_); push_cast [hge, hlf, kfD, kiD, hil, hnl, q' 120 (by decide), q 53 (by decide), q 6 (by decide), q 9000 (by decide), q 62 (by decide), q 4 (by decide), q' 53 (by decide), q' 6 (by decide), q' 9000 (by decide), q' 62 (by decide), q' 4 (by decide)]; (try simp (disch := omega) only [wrap64, Int.toNat_natCast]); (repeat refine ZAD ?_ ?_); (first | refine hK' _ (by push_cast [hge, hlf, kfD, kiD, hil, hnl, q' 120 (by decide), q 53 (by decide), q 6 (by decide), q 9000 (by decide), q 62 (by decide), q 4 (by decide), q' 53 (by decide), q' 6 (by decide), q' 9000 (by decide), q' 62 (by decide), q' 4 (by decide)]) ?_ | refine hK' _ ?_); clear hK' K')
    | (refine V3.aops2_eff rfl (by simp only [dstOk, Nat.reduceLT]) fun K' hK' => ?_; refine ZIV (by push_cast; rfl) (by simp only [condL, AV.cond, and_true]) [(9000, .row 3 1 (.ints .i64 s.l)), (100000 + k, .row 3 1 (.ints .i64 (s.fr.getD k [])))] (I64 r.n) [(9000, .row 3 1 (.ints .i64 r.l)), (100000 + k, .row 3 1 (.ints .i64 r.w))] (by push_cast [q 9000 (by decide), stripL, AV.strip, List.map_cons, List.map_nil, lk]; exact eff1) (hH _) hdom (by simp only [AV.own]) (by simp only [ownH, Blk.own, Cont.own, and_true]) (fun d' => rfl) ?_; push_cast [hge, hlf, kfD, kiD, hil, hnl, q' 120 (by decide), q 53 (by decide), q 6 (by decide), q 9000 (by decide), q 62 (by decide), q 4 (by decide), q' 53 (by decide), q' 6 (by decide), q' 9000 (by decide), q' 62 (by decide), q' 4 (by decide)]; refine hK' _ ?_; clear hK' K')
    | (refine V3.aops2_nil ?_; refine hKr _ ?_; clear hKr K; push_cast)))
              all_goals first | exact ff | skip
              repeat' (first | ((first | refine sC hT fun K' hK' => ?_ | refine oC fun K' hK' => ?_); push_cast; (try simp (disch := omega) only [wrap64, Int.toNat_natCast]); (repeat refine ZAD ?_ ?_); (first | refine hK' _ ?_ | refine ⟨.v (.int .i64 0), hK' _ ?_⟩); clear hK' K') | (refine sK hT ?_; simp only [St.put]) | ((first | refine ZAE (hK _ ?_) | refine ZAJ (hK _ ?_)); clear hK K; push_cast) | ((first | apply ZAC | apply ZAF | apply ZAG | apply ZAM); push_cast) | refine ZAK fun K hK => ?_ | refine ZAN fun K hK => ?_ | refine dQ hT hm fun K hK => ?_ | refine dL hT hm fun K hK => ?_ | apply ZAA | apply ZAB | apply ZAL | (refine ZAH _ rfl (fun h => ?_) (fun h => ?_) <;> simp only [bh2, reduceCtorEq] at h))
              all_goals first | exact ff | skip
              have hR : ∀ i, i < s.fr.length → i ≠ k → (100000 + k = 100000 + i) = False := fun i _ hne => eq_false (by omega)
              refine ⟨k + 1, ⟨by omega, by omega⟩, G.wkL (ZAl ⟨rfl, rfl, rfl, rfl, rfl, rfl, rfl, rfl, rfl, trivial⟩) (fun id b2 h => ZCg (R := [(53, .nst 24 (.avs (idsL 100000 s.fr.length))), (6, .box 27 (.avs [intsF (divF ps cs), .s 53])), (9000, .row 3 1 (.ints .i64 r.l)), (62, .row 3 1 (.ints .i64 (s.n.set k r.n))), (4, .box 27 (.avs [.v (.slice none 0 0), .v (.slice none 0 0)]))]) (F := famI 100000 3 (s.fr.set k r.w)) ?_ (famW (by omega) ?_ ?_) ?_)⟩
              · simp only [heapW, lkH, q' 53 (by decide), q' 6 (by decide), q' 9000 (by decide), q' 62 (by decide), q' 4 (by decide), Nat.reduceEqDiff, if_true, if_false, true_and, and_true]
                try exact ⟨rfl, rfl⟩
              · simp only [lkH, q 53 (by decide), q 6 (by decide), q 9000 (by decide), q 62 (by decide), q 4 (by decide), if_true, if_false]
              · intro i hi hne
                have q2 := fun (c : Nat) (h : c < 100000) => (eq_false (show ¬ c = 100000 + i by omega) : (c = 100000 + i) = False)
                simp only [lkH, q2 53 (by decide), q2 6 (by decide), q2 9000 (by decide), q2 62 (by decide), q2 4 (by decide), hR i hi hne, if_false]
                exact ZAv 100000 3 s.fr hi
              · have h : lkH (HR (divF ps cs) (taF ps cs ((p : Int) == 0) false (taQ ps cs p) (k + 1))) id = some b2 := h
                rw [hst] at h
                unfold HR taR at h
                simp only [List.length_set] at h
                exact h
            · have c2 : ((cs.getD k default).f == ((p : Int) == 0)) = false := beq_eq_false_iff_ne.2 hf
              have hst : taF ps cs ((p : Int) == 0) false (taQ ps cs p) (k + 1) = s := by rw [hst]; unfold taS; rw [if_neg hf]
              repeat' (first | ((first | refine sC hT fun K' hK' => ?_ | refine oC fun K' hK' => ?_); push_cast [c1, c2]; (try simp (disch := omega) only [wrap64, Int.toNat_natCast]); (repeat refine ZAD ?_ ?_); (first | refine hK' _ ?_ | refine ⟨.v (.int .i64 0), hK' _ ?_⟩); clear hK' K') | (refine sK hT ?_; simp only [St.put]) | ((first | refine ZAE (hK _ ?_) | refine ZAJ (hK _ ?_)); clear hK K; push_cast) | ((first | apply ZAC | apply ZAF | apply ZAG | apply ZAM); push_cast) | refine ZAK fun K hK => ?_ | refine ZAN fun K hK => ?_ | refine dQ hT hm fun K hK => ?_ | refine dL hT hm fun K hK => ?_ | apply ZAA | apply ZAB | apply ZAL | (refine ZAH _ rfl (fun h => ?_) (fun h => ?_) <;> simp only [bh2, reduceCtorEq] at h))
              all_goals first | exact ff | skip
              all_goals exact ⟨k + 1, ⟨by omega, by omega⟩, G.wkL (ZAl ⟨rfl, rfl, rfl, rfl, rfl, rfl, rfl, rfl, rfl, trivial⟩) (fun id b h => by rw [hst] at h; exact h)⟩
          · obtain rfl : k = cs.length := by omega
            have c1 : decide ((cs.length : Int) < (cs.length : Int)) = false := decide_eq_false (by omega)
            repeat' (first | ((first | refine sC hT fun K' hK' => ?_ | refine oC fun K' hK' => ?_); push_cast [c1]; (try simp (disch := omega) only [wrap64, Int.toNat_natCast]); (repeat refine ZAD ?_ ?_); (first | refine hK' _ ?_ | refine ⟨.v (.int .i64 0), hK' _ ?_⟩); clear hK' K') | (refine sK hT ?_; simp only [St.put]) | ((first | refine ZAE (hK _ ?_) | refine ZAJ (hK _ ?_)); clear hK K; push_cast) | ((first | apply ZAC | apply ZAF | apply ZAG | apply ZAM); push_cast) | refine ZAK fun K hK => ?_ | refine ZAN fun K hK => ?_ | refine dQ hT hm fun K hK => ?_ | refine dL hT hm fun K hK => ?_ | apply ZAA | apply ZAB | apply ZAL | (refine ZAH _ rfl (fun h => ?_) (fun h => ?_) <;> simp only [bh2, reduceCtorEq] at h))
            all_goals first | exact ff | skip
            refine ⟨p + 1, ⟨by omega, by omega⟩, G.wkL (ZAl ⟨rfl, rfl, rfl, rfl, rfl, rfl, rfl, rfl, trivial⟩) (fun id b h => ?_)⟩
            rw [ZJP ps cs hlp] at h
            exact h
        · obtain rfl : p = 2 := by omega
          have d1 : decide (((2 : Nat) : Int) < 2) = false := rfl
          have hfl := (ZCy hps hv).fl
          have hwl := (ZCy hps hv).wl
          have e3 : taQ ps cs 2 = ta3 ps cs := rfl
          rw [e3]
          generalize ta3 ps cs = t3 at *
          refine ZAk ⟨[(5, I64 0), (4, .p 4 0), (6, .p 6 0), (12, I64 (2 : Nat))], [(53, .nst 24 (.avs (t3.fr.map intsF))), (6, .box 27 (.avs [intsF (divF ps cs), .s 53])), (4, .box 27 (.avs [.v (.slice none 0 0), .v (.slice none 0 0)]))]⟩ (fun a w hG => ?_) ?_
          · have h2 : G 123 B w0 ⟨[(5, I64 0), (4, .p 4 0), (6, .p 6 0), (12, I64 (2 : Nat))], HR (divF ps cs) t3⟩ a w := by
              refine G.wkL ?_ ?_ a w hG
              · exact ZAl ⟨rfl, rfl, rfl, rfl, trivial⟩
              · exact fun id b h => h
            have h3 := h2.freezeF 100000 3 t3.fr (fun j hj => by
              have q2 := fun (c : Nat) (h : c < 100000) => (eq_false (show ¬ c = 100000 + j by omega) : (c = 100000 + j) = False)
              unfold HR
              simp only [List.cons_append, List.nil_append, lkH, q2 53 (by decide), q2 6 (by decide), q2 9000 (by decide), q2 62 (by decide), q2 4 (by decide), if_false]
              exact ZAv 100000 3 t3.fr hj) [(53, .nst 24 (.avs (idsL 100000 t3.fr.length))), (6, .box 27 (.avs [intsF (divF ps cs), .s 53])), (4, .box 27 (.avs [.v (.slice none 0 0), .v (.slice none 0 0)]))] (fun id b hh => by
              simp only [lkH] at hh
              split at hh
              · rename_i e; subst e; exact ⟨by decide, hh⟩
              · split at hh
                · rename_i e; subst e; exact ⟨by decide, hh⟩
                · split at hh
                  · rename_i e; subst e; exact ⟨by decide, hh⟩
                  · cases hh)
            have e4 := ZFT 100000 t3.fr
            simp only [List.map_cons, List.map_nil, frzF, frzFH, frzFB, frzFC, e4, Nat.reduceLeDiff, false_and, if_false] at h3
            exact h3
          refine ZAk _ (fun a w h => (h.unNst 53 24 (.avs (t3.fr.map intsF)) rfl (ZDn _)).freezeB 53 (.row 24 1 (.avs (t3.fr.map intsF))) rfl (ZDn _)) ?_
          push_cast [frzE, frzH2, frzB2, frzC, frz1, frzP, frzL, Nat.div_one, List.length_map]
          repeat' (first | ((first | refine sC hT fun K' hK' => ?_ | refine oC fun K' hK' => ?_); push_cast [d1]; (try simp (disch := omega) only [wrap64, Int.toNat_natCast]); (repeat refine ZAD ?_ ?_); (first | refine hK' _ ?_ | refine ⟨.v (.int .i64 0), hK' _ ?_⟩); clear hK' K') | (refine sK hT ?_; simp only [St.put]) | ((first | refine ZAE (hK _ ?_) | refine ZAJ (hK _ ?_)); clear hK K; push_cast) | ((first | apply ZAC | apply ZAF | apply ZAG | apply ZAM); push_cast) | refine ZAK fun K hK => ?_ | refine ZAN fun K hK => ?_ | refine dQ hT hm fun K hK => ?_ | refine dL hT hm fun K hK => ?_ | apply ZAA | apply ZAB | apply ZAL | (refine ZAH _ rfl (fun h => ?_) (fun h => ?_) <;> simp only [bh2, reduceCtorEq] at h))
          all_goals first | exact ff | skip
          have hpub : ∀ (H : List (Nat × Blk)), (t3.fr.map intsF).map (AV.pub true H 3) = t3.fr.map intsF := fun H => by
            rw [List.map_map]
            exact List.map_congr_left fun l _ => by simp only [Function.comp, AV.pub, Bool.true_and, Bool.and_true]
          simp only [hpub, hdl]

end Go.Proofs.Ythgjjhddbigfcaa
