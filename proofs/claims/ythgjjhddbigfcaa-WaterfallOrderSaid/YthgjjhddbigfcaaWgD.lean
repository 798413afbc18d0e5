/- Part of a proof about the given program: contracts of its functions (see the comment of the last text). -/
import Derived.Test.YthgjjhddbigfcaaWfW
import Derived.Test.YthgjjhddbigfcaaPl5
namespace Go.Proofs.Ythgjjhddbigfcaa
open Go.Eng Go.Proofs Go.Wf
set_option linter.unusedSimpArgs false
set_option linter.unusedVariables false
attribute [local irreducible] AOps AOpsX AOps2 AOpsS AWP AAnyS Go.Eng.Pure PureRow Eff

theorem lenC3 (l : List Cl) : (l.flatMap avC).length = l.length * 3 := by
  induction l with
  | nil => rfl
  | cons p ps ih => rw [List.flatMap_cons, List.length_append, ih]; simp [avC]; omega
theorem getC3 : ∀ (l : List Cl) (e j : Nat), e < l.length → j < 3 → (l.flatMap avC).getD (e * 3 + j) .top = (avC (l.getD e default)).getD j .top
  | [], e, j, h, _ => by simp at h
  | p :: ps, 0, j, _, hj => by
    rw [List.flatMap_cons]
    simp only [List.getD_eq_getElem?_getD, List.getD_cons_zero, Nat.zero_mul, Nat.zero_add]
    rw [List.getElem?_append_left (by simp [avC]; omega)]
    rfl
  | p :: ps, e + 1, j, h, hj => by
    have := getC3 ps e j (by simpa using h) hj
    rw [List.flatMap_cons, List.getD_cons_succ, ← this]
    simp only [List.getD_eq_getElem?_getD]
    rw [List.getElem?_append_right (by simp [avC]; omega)]
    simp only [avC, List.length_cons, List.length_nil]
    congr 2
    omega
theorem pubC3 (l : List Cl) (fl : Bool) (H : List (Nat × Blk)) (n : Nat) (j : Nat) : AV.pub fl H (n + 1) ((l.flatMap avC).getD j .top) = (l.flatMap avC).getD j .top := by
  induction l generalizing j with
  | nil => rfl
  | cons p ps ih =>
    rw [List.flatMap_cons]
    match j with
    | 0 => rfl
    | 1 => rfl
    | 2 => rfl
    | j + 3 => exact ih j
abbrev rowC (l : List Cl) : AV := .i false (fun e j => (l.flatMap avC).getD (e * 3 + j) .top) 3 0 ((l.flatMap avC).length / 3)
theorem sub_rowC (l : List Cl) : Sub (rowC l) (avCs l) :=
  sub_slice (by rw [lenC3]; omega) fun e j he hj => by rw [Nat.zero_add]; rw [lenC3] at he; exact getC3 l e j (by omega) hj
@[simp] theorem fresh_gr (g : Gr) : AV.freshL (avGF g) := by
  unfold avGF
  refine ⟨?_, ?_, trivial⟩
  · simp [AV.fresh]
  · refine ⟨rfl, fun e j => ?_⟩
    refine freshL_getD (cs := [intsF (g.fr.getD e default)]) ⟨?_, trivial⟩ j
    simp [AV.fresh]
/-- The first claims up to a rank. -/
abbrev lsK (cs : List Cl) (r : Int) (k : Nat) : List Cl := cSel cs (idx k (qU cs r))
abbrev wnK (d : List Int) (cs : List Cl) (r : Int) (k : Nat) : List Int := sel d (idx k (qU cs r))
theorem ls_yes {cs : List Cl} {r : Int} {k : Nat} (h : (cs.getD k default).r ≤ r) : (lsK cs r (k + 1)).flatMap avC = (lsK cs r k).flatMap avC ++ avC (cs.getD k default) := by
  unfold lsK cSel
  rw [idx_succ, if_pos (show qU cs r k = true from decide_eq_true h), List.map_append, List.flatMap_append]
  simp
theorem ls_no {cs : List Cl} {r : Int} {k : Nat} (h : ¬ (cs.getD k default).r ≤ r) : idx (k + 1) (qU cs r) = idx k (qU cs r) := by
  rw [idx_succ, if_neg (by unfold qU; rw [decide_eq_false h]; simp)]
theorem wn_yes {d : List Int} {cs : List Cl} {r : Int} {k : Nat} (h : (cs.getD k default).r ≤ r) : wnK d cs r (k + 1) = wnK d cs r k ++ [d.getD k 0] := by
  unfold wnK sel
  rw [idx_succ, if_pos (show qU cs r k = true from decide_eq_true h), List.map_append]
  rfl
set_option maxHeartbeats 64000000 in
theorem lorder_ok (ps : List Po) (cs : List Cl) (r : Int) (hps : okPs ps) (hcs : okCs cs) (hr : In64 r) : Pure Try.prog 10 [avPs ps, avCs cs, I64 r] (BL true) := by
  have hri := right_ok ps cs hps hcs
  have hh := head_ok
  refine pure_of2 (n := 82) (res := [.tmp 6]) hT Try.func10 rfl rfl rfl Try.ntmps10 (Nat.le_of_ble_eq_true rfl) fun B w0 hgh hrd => ?_
  by_cases h : vP ps ∧ cs.length ≤ 40 ∧ vC cs
  · rw [decide_eq_true h] at hri
    obtain ⟨hp, h40, hv⟩ := h
    have hd := div_ok ps cs hps ⟨hp, hv⟩
    have hv2 := cSel_v hv (qU cs r)
    have hd2 := (div_ok ps (lsK cs r cs.length) hps ⟨hp, hv2⟩).sub (xs := [avPs ps, rowC (lsK cs r cs.length)]) ⟨Sub.refl _, sub_rowC _, trivial⟩
    have hlaw : (grF ps (lsK cs r cs.length)).c = wnK (grF ps cs).c cs r cs.length := order_law hp hv r
    have hl2 : (grF ps (lsK cs r cs.length)).c.length = (lsK cs r cs.length).length := divF_len hp hv2
    have hl3 := hv2.1
    have hi := ints_ok (grF ps (lsK cs r cs.length)).c (wnK (grF ps cs).c cs r cs.length) (by rw [hl2]; unfold lsK; omega) (by rw [← hlaw, hl2]; unfold lsK; omega)
    rw [decide_eq_true hlaw] at hi
    have hgl : (grF ps cs).c.length = cs.length := divF_len hp hv
    have hls : ∀ k, k ≤ cs.length → ((lsK cs r k).flatMap avC).length ≤ 192 := fun k hk => by
      rw [lenC3]; unfold lsK; rw [cSel_len]
      have := idx_len k (qU cs r); omega
    have hlw : ∀ k, k ≤ cs.length → (wnK (grF ps cs).c cs r k).length ≤ 64 := fun k hk => by
      unfold wnK; rw [sel_len]
      have := idx_len k (qU cs r); omega
    generalize grF ps (lsK cs r cs.length) = g2 at *
    generalize grF ps cs = g at *
    have d1 : ((g.c.length : Int) != (cs.length : Int)) = false := bne_eq_false_iff_eq.2 (by omega)
    repeat' (first | ((first | refine sC hT fun K' hK' => ?_ | refine oC fun K' hK' => ?_); push_cast [d1]; (try simp (disch := omega) only [wrap64, Int.toNat_natCast]); (repeat refine and_rev ?_ ?_); (first | refine hK' _ ?_ | ((first | apply con1 | (apply con3; exact gd) | apply con2); (try intro hb); (first | exact hh | exact hri | exact hd); exact okr; refine hK' _ ?_) | refine ⟨.v (.int .i64 0), hK' _ ?_⟩); clear hK' K') | (refine sK hT ?_; simp only [St.put]) | ((first | refine aopss_nil (hK _ ?_) | refine aops_nil (hK _ ?_)); clear hK K; push_cast) | ((first | apply awp_label | apply awp_skip | apply awp_exit | apply awp_ret); push_cast) | refine awp_sseq fun K hK => ?_ | refine awp_s fun K hK => ?_ | refine dQ hT hm fun K hK => ?_ | refine dL hT hm fun K hK => ?_ | apply awp_block | apply awp_scope | apply awp_seq | (refine awp_cond _ rfl (fun h => ?_) (fun h => ?_) <;> simp only [bh2, reduceCtorEq] at h))
    all_goals first | exact ff | skip
    refine awp_conv _ (fun a w h => G.nilRow h 10 56 rfl (by decide) 41 3 (.avs []) rfl) ?_
    push_cast
    refine awp_conv _ (fun a w h => G.nilRow h 11 64 rfl (by decide) 3 1 (.ints .i64 []) rfl) ?_
    push_cast
    refine awp_loop (α := Nat) (fun k => ⟨[(0, avPs ps), (1, avCs cs), (2, I64 r), (7, BL true), (8, .p 8 0), (10, .s 56), (11, .s 64), (12, I64 k)], [(64, .row 3 1 (.ints .i64 (wnK g.c cs r k))), (56, .row 41 3 (.avs ((lsK cs r k).flatMap avC))), (8, .box 27 (.avs [intsF g.c, avLLF g.fr]))]⟩) (fun k => k ≤ cs.length) (fun k => cs.length - k) 0 (Nat.zero_le _) (G.wk ⟨rfl, rfl, rfl, rfl, rfl, rfl, rfl, rfl, trivial⟩ ⟨rfl, rfl, rfl, trivial⟩) fun k hk => ?_
    have b1 := hls k hk
    have b2 := hlw k hk
    by_cases hlt : k < cs.length
    · have c1 : decide ((k : Int) < (cs.length : Int)) = true := decide_eq_true (by omega)
      by_cases hle : (cs.getD k default).r ≤ r
      · have c2 : decide ((cs.getD k default).r ≤ r) = true := decide_eq_true hle
        have y1 := ls_yes hle
        have y2 := wn_yes (d := g.c) hle
        have z1 := lenC3 (lsK cs r k)
        simp only [avC] at y1
        generalize hX : (lsK cs r k).flatMap avC = X at *
        generalize hY : wnK g.c cs r k = Y at *
        repeat' (first | ((first | refine sC hT fun K' hK' => ?_ | refine oC fun K' hK' => ?_); push_cast [c1, c2]; (try simp (disch := omega) only [wrap64, Int.toNat_natCast]); (repeat refine and_rev ?_ ?_); (first | refine hK' _ ?_ | ((first | refine ⟨[I64 (cs.getD k default).r, I64 (cs.getD k default).c, BL (cs.getD k default).f], ⟨rfl, (fun el j he hj => rfl), rfl, by omega, by omega⟩, ?_⟩ | refine ⟨[g.c.getD k 0], ⟨rfl, (fun j hj => rfl), by omega, by omega⟩, ?_⟩); refine hK' _ ?_) | refine ⟨.v (.int .i64 0), hK' _ ?_⟩); clear hK' K') | (refine sK hT ?_; simp only [St.put]) | ((first | refine aopss_nil (hK _ ?_) | refine aops_nil (hK _ ?_)); clear hK K; push_cast) | ((first | apply awp_label | apply awp_skip | apply awp_exit | apply awp_ret); push_cast) | refine awp_sseq fun K hK => ?_ | refine awp_s fun K hK => ?_ | refine dQ hT hm fun K hK => ?_ | refine dL hT hm fun K hK => ?_ | apply awp_block | apply awp_scope | apply awp_seq | (refine awp_cond _ rfl (fun h => ?_) (fun h => ?_) <;> simp only [bh2, reduceCtorEq] at h))
        all_goals first | exact ff | skip
        all_goals exact ⟨k + 1, ⟨by omega, by omega⟩, G.wk ⟨rfl, rfl, rfl, rfl, rfl, rfl, rfl, rfl, trivial⟩ ⟨by rw [y2]; rfl, by rw [y1]; rfl, rfl, trivial⟩⟩
      · have c2 : decide ((cs.getD k default).r ≤ r) = false := decide_eq_false hle
        have y1 := ls_no hle
        repeat' (first | ((first | refine sC hT fun K' hK' => ?_ | refine oC fun K' hK' => ?_); push_cast [c1, c2]; (try simp (disch := omega) only [wrap64, Int.toNat_natCast]); (repeat refine and_rev ?_ ?_); (first | refine hK' _ ?_ | refine ⟨.v (.int .i64 0), hK' _ ?_⟩); clear hK' K') | (refine sK hT ?_; simp only [St.put]) | ((first | refine aopss_nil (hK _ ?_) | refine aops_nil (hK _ ?_)); clear hK K; push_cast) | ((first | apply awp_label | apply awp_skip | apply awp_exit | apply awp_ret); push_cast) | refine awp_sseq fun K hK => ?_ | refine awp_s fun K hK => ?_ | refine dQ hT hm fun K hK => ?_ | refine dL hT hm fun K hK => ?_ | apply awp_block | apply awp_scope | apply awp_seq | (refine awp_cond _ rfl (fun h => ?_) (fun h => ?_) <;> simp only [bh2, reduceCtorEq] at h))
        all_goals first | exact ff | skip
        all_goals exact ⟨k + 1, ⟨by omega, by omega⟩, G.wk ⟨rfl, rfl, rfl, rfl, rfl, rfl, rfl, rfl, trivial⟩ ⟨by unfold wnK; rw [y1]; rfl, by unfold lsK; rw [y1]; rfl, rfl, trivial⟩⟩
    · obtain rfl : k = cs.length := by omega
      have c1 : decide ((cs.length : Int) < (cs.length : Int)) = false := decide_eq_false (by omega)
      have hpub := pubC3 (lsK cs r cs.length)
      repeat' (first | ((first | refine sC hT fun K' hK' => ?_ | refine oC fun K' hK' => ?_); push_cast [c1, hpub]; (try simp (disch := omega) only [wrap64, Int.toNat_natCast]); (repeat refine and_rev ?_ ?_); (first | refine hK' _ ?_ | ((first | apply con1 | (apply con3; exact gd) | apply con2); (try intro hb); (first | exact hd2 | exact hi); exact okr; refine hK' _ ?_) | refine ⟨.v (.int .i64 0), hK' _ ?_⟩); clear hK' K') | (refine sK hT ?_; simp only [St.put]) | ((first | refine aopss_nil (hK _ ?_) | refine aops_nil (hK _ ?_)); clear hK K; push_cast) | ((first | apply awp_label | apply awp_skip | apply awp_exit | apply awp_ret); push_cast) | refine awp_sseq fun K hK => ?_ | refine awp_s fun K hK => ?_ | refine dQ hT hm fun K hK => ?_ | refine dL hT hm fun K hK => ?_ | apply awp_block | apply awp_scope | apply awp_seq | (refine awp_cond _ rfl (fun h => ?_) (fun h => ?_) <;> simp only [bh2, reduceCtorEq] at h))
      all_goals first | exact ff | skip
      all_goals done
  · rw [decide_eq_false h] at hri
    repeat' (first | ((first | refine sC hT fun K' hK' => ?_ | refine oC fun K' hK' => ?_); push_cast; (try simp (disch := omega) only [wrap64, Int.toNat_natCast]); (repeat refine and_rev ?_ ?_); (first | refine hK' _ ?_ | ((first | apply con1 | (apply con3; exact gd) | apply con2); (try intro hb); (first | exact hh | exact hri); exact okr; refine hK' _ ?_) | refine ⟨.v (.int .i64 0), hK' _ ?_⟩); clear hK' K') | (refine sK hT ?_; simp only [St.put]) | ((first | refine aopss_nil (hK _ ?_) | refine aops_nil (hK _ ?_)); clear hK K; push_cast) | ((first | apply awp_label | apply awp_skip | apply awp_exit | apply awp_ret); push_cast) | refine awp_sseq fun K hK => ?_ | refine awp_s fun K hK => ?_ | refine dQ hT hm fun K hK => ?_ | refine dL hT hm fun K hK => ?_ | apply awp_block | apply awp_scope | apply awp_seq | (refine awp_cond _ rfl (fun h => ?_) (fun h => ?_) <;> simp only [bh2, reduceCtorEq] at h))
    all_goals first | exact ff | skip
    all_goals done
end Go.Proofs.Ythgjjhddbigfcaa
