/- Part of a proof about the given program: contracts of its functions (see the comment of the last text). -/
import Derived.Test.YthgjjhddbigfcaaWgB
import Derived.Test.YthgjjhddbigfcaaWgD
namespace Go.Proofs.Ythgjjhddbigfcaa
open Go.Eng Go.Proofs Go.Wf
set_option linter.unusedSimpArgs false
set_option linter.unusedVariables false
attribute [local irreducible] AOps AOpsX AOps2 AOpsS AWP AAnyS Go.Eng.Pure PureRow Eff
theorem lenP2 (l : List Po) : (l.flatMap avP).length = l.length * 2 := by
  induction l with
  | nil => rfl
  | cons p ps ih => rw [List.flatMap_cons, List.length_append, ih]; simp [avP]; omega
theorem getP2 : ∀ (l : List Po) (e j : Nat), e < l.length → j < 2 → (l.flatMap avP).getD (e * 2 + j) .top = (avP (l.getD e default)).getD j .top
  | [], e, j, h, _ => by simp at h
  | p :: ps, 0, j, _, hj => by
    rw [List.flatMap_cons]
    simp only [List.getD_eq_getElem?_getD, List.getD_cons_zero, Nat.zero_mul, Nat.zero_add]
    rw [List.getElem?_append_left (by simp [avP]; omega)]
    rfl
  | p :: ps, e + 1, j, h, hj => by
    have := getP2 ps e j (by simpa using h) hj
    rw [List.flatMap_cons, List.getD_cons_succ, ← this]
    simp only [List.getD_eq_getElem?_getD]
    rw [List.getElem?_append_right (by simp [avP]; omega)]
    simp only [avP, List.length_cons, List.length_nil]
    congr 2
    omega
theorem pubP2 (l : List Po) (fl : Bool) (H : List (Nat × Blk)) (n : Nat) (j : Nat) : AV.pub fl H (n + 1) ((l.flatMap avP).getD j .top) = (l.flatMap avP).getD j .top := by
  induction l generalizing j with
  | nil => rfl
  | cons p ps ih =>
    rw [List.flatMap_cons]
    match j with
    | 0 => rfl
    | 1 => rfl
    | j + 2 => exact ih j
abbrev rowP (l : List Po) : AV := .i false (fun e j => (l.flatMap avP).getD (e * 2 + j) .top) 2 0 ((l.flatMap avP).length / 2)
theorem sub_rowP (l : List Po) : Sub (rowP l) (avPs l) :=
  sub_slice (by rw [lenP2]; omega) fun e j he hj => by rw [Nat.zero_add]; rw [lenP2] at he; exact getP2 l e j (by omega) hj
abbrev rowL (l : List Cl) : AV := .i false (fun e j => (l.flatMap avC).getD (e * 3 + j) .top) 3 0 l.length
theorem sub_rowL (l : List Cl) : Sub (rowL l) (avCs l) := sub_slice rfl fun e j he hj => by rw [Nat.zero_add]; exact getC3 l e j he hj
theorem oneP2 (l : List Po) : oneL (l.flatMap avP) = true := by
  induction l with
  | nil => rfl
  | cons p ps ih => rw [List.flatMap_cons]; simp only [avP, List.cons_append, List.nil_append, oneL, AV.one, oneC, ih]; rfl
theorem oneC3 (l : List Cl) : oneL (l.flatMap avC) = true := by
  induction l with
  | nil => rfl
  | cons p ps ih => rw [List.flatMap_cons]; simp only [avC, List.cons_append, List.nil_append, oneL, AV.one, oneC, ih]; rfl
theorem flat_set (ps : List Po) (k : Nat) (to : Int) : k < ps.length → (ps.flatMap avP).set (k * 2) (I64 to) = (ps.set k ⟨to, (ps.getD k default).f⟩).flatMap avP := by
  induction ps generalizing k with
  | nil => intro h; simp at h
  | cons p r ih =>
    intro h
    cases k with
    | zero => simp [avP, List.flatMap_cons]
    | succ k =>
      rw [List.set_cons_succ, List.flatMap_cons, List.flatMap_cons, List.getD_cons_succ, ← ih k (by simpa using h)]
      rw [show (k + 1) * 2 = k * 2 + 2 by omega]
      rfl
theorem srcC_take (cs : List Cl) (m el j : Nat) (he : el < m) (hm' : m ≤ cs.length) (hj : j < 3) : (avC (cs.getD el default)).getD j .top = ((cs.take m).flatMap avC).getD (el * 3 + j) .top := by
  rw [getC3 _ el j (by rw [List.length_take]; omega) hj]
  simp [List.getD_eq_getElem?_getD, he]
theorem srcC_drop (cs : List Cl) (off el j : Nat) (he : off + el < cs.length) (hj : j < 3) : (avC (cs.getD (off + el) default)).getD j .top = ((cs.drop off).flatMap avC).getD (el * 3 + j) .top := by
  rw [getC3 _ el j (by rw [List.length_drop]; omega) hj]
  simp [List.getD_eq_getElem?_getD]
theorem wf8 {n : Int} (h : (Lit.int .u8 n).wf = true) : 0 ≤ n ∧ n ≤ 255 := by
  simp only [Lit.wf, Bool.and_eq_true, decide_eq_true_eq] at h
  have h1 : IntKind.u8.min = 0 := by decide
  have h2 : IntKind.u8.max = 255 := by decide
  omega
theorem wf32 {n : Int} (h : (Lit.int .u32 n).wf = true) : 0 ≤ n ∧ n ≤ 4294967295 := by
  simp only [Lit.wf, Bool.and_eq_true, decide_eq_true_eq] at h
  have h1 : IntKind.u32.min = 0 := by decide
  have h2 : IntKind.u32.max = 4294967295 := by decide
  omega
theorem modN {a : Int} {n : Nat} (h : 0 ≤ a) : a.tmod (n : Int) = ((a.toNat % n : Nat) : Int) := by
  rw [Int.tmod_eq_emod_of_nonneg h, Int.natCast_emod, Int.toNat_of_nonneg h]
/-- A pool that has more. -/
def rich (ps : List Po) (k : Nat) (b : Int) : List Po := ps.set k ⟨(ps.getD k default).c + b, (ps.getD k default).f⟩
theorem rich_len (ps : List Po) (k : Nat) (b : Int) : (rich ps k b).length = ps.length := by simp [rich]
theorem rich_getD {ps : List Po} {k : Nat} {b : Int} (hk : k < ps.length) (i : Nat) : (rich ps k b).getD i default = if i = k then ⟨(ps.getD k default).c + b, (ps.getD k default).f⟩ else ps.getD i default := by
  unfold rich
  by_cases e : i = k
  · subst e; simp [List.getD_eq_getElem?_getD, hk]
  · rw [if_neg e]; simp [List.getD_eq_getElem?_getD, List.getElem?_set, Ne.symm e]
theorem rich_sum {ps : List Po} {k : Nat} {b : Int} (hk : k < ps.length) (hb : 0 ≤ b) (f : Bool) : sumP ps f ≤ sumP (rich ps k b) f := by
  rw [sumP_su, sumP_su, rich_len]
  have e : ∀ i, pf (rich ps k b) f i = pf ps f i := fun i => by
    unfold pf
    rw [rich_getD hk]
    split
    · rename_i h; rw [h]
    · rfl
  rw [su_congr (p := pf (rich ps k b) f) (q := pf ps f) (fun i _ => e i) (fun _ _ _ => rfl)]
  refine su_le fun i hi _ => ?_
  rw [rich_getD hk]
  split
  · rename_i h; rw [h]; simp only; omega
  · exact Int.le_refl _
theorem grp_su (cs : List Cl) (d : List Int) (r : Int) (k : Nat) (hk : k < cs.length) : grpF cs d r k = su cs.length (pR cs r) (dv d) - (if (cs.getD k default).r = r then dv d k else 0) := by
  have h := sumN_upd (v := grpG cs d r k) (u := fun i => if pR cs r i = true then dv d i else 0) hk (fun i _ hn => by
    unfold grpG pR
    by_cases h1 : (cs.getD i default).r = r
    · rw [if_pos ⟨h1, by omega⟩, if_pos (decide_eq_true h1)]
    · rw [if_neg (fun h => h1 h.1), if_neg (by rw [decide_eq_false h1]; simp)])
  have e1 : grpG cs d r k k = 0 := by unfold grpG; rw [if_neg (fun h => h.2 rfl)]
  rw [e1] at h
  have e2 : (if pR cs r k = true then dv d k else 0) = (if (cs.getD k default).r = r then dv d k else 0) := by
    unfold pR
    by_cases h1 : (cs.getD k default).r = r
    · rw [if_pos h1, if_pos (decide_eq_true h1)]
    · rw [if_neg h1, if_neg (by rw [decide_eq_false h1]; simp)]
  simp only [e2] at h
  unfold grpF su
  omega
theorem grp_all (cs : List Cl) (d : List Int) (r : Int) : grpF cs d r (-1) = su cs.length (pR cs r) (dv d) := sumN_congr fun i _ => by
  unfold grpG pR
  by_cases h1 : (cs.getD i default).r = r
  · rw [if_pos ⟨h1, by omega⟩, if_pos (decide_eq_true h1)]
  · rw [if_neg (fun h => h1 h.1), if_neg (by rw [decide_eq_false h1]; simp)]
set_option maxHeartbeats 64000000 in
theorem lmore_ok (ps : List Po) (cs : List Cl) (at_ by_ : Int) (hps : okPs ps) (hcs : okCs cs) (hat : (Lit.int .u8 at_).wf = true) (hby : (Lit.int .u32 by_).wf = true) : Pure Try.prog 9 [avPs ps, avCs cs, .v (.int .u8 at_), .v (.int .u32 by_)] (BL true) := by
  have hat := wf8 hat
  have hby := wf32 hby
  have hri := right_ok ps cs hps hcs
  have hh := head_ok
  refine pure_of2 (n := 164) (res := [.tmp 8]) hT Try.func9 rfl rfl rfl Try.ntmps9 (Nat.le_of_ble_eq_true rfl) fun B w0 hgh hrd => ?_
  by_cases h : vP ps ∧ cs.length ≤ 40 ∧ vC cs
  · rw [decide_eq_true h] at hri
    obtain ⟨hp, h40, hv⟩ := h
    by_cases hp0 : ps.length = 0
    · have b0 : ((ps.length : Int) == 0) = true := by rw [hp0]; rfl
      repeat' (first | ((first | refine sC hT fun K' hK' => ?_ | refine oC fun K' hK' => ?_); push_cast [b0]; (try simp (disch := omega) only [wrap64, Int.toNat_natCast]); (repeat refine and_rev ?_ ?_); (first | refine hK' _ ?_ | ((first | apply con1 | (apply con3; exact gd) | apply con2); (try intro hb); (first | exact hh | exact hri); exact okr; refine hK' _ ?_) | refine ⟨.v (.int .i64 0), hK' _ ?_⟩); clear hK' K') | (refine sK hT ?_; simp only [St.put]) | ((first | refine aopss_nil (hK _ ?_) | refine aops_nil (hK _ ?_)); clear hK K; push_cast) | ((first | apply awp_label | apply awp_skip | apply awp_exit | apply awp_ret); push_cast) | refine awp_sseq fun K hK => ?_ | refine awp_s fun K hK => ?_ | refine dQ hT hm fun K hK => ?_ | refine dL hT hm fun K hK => ?_ | apply awp_block | apply awp_scope | apply awp_seq | (refine awp_cond _ rfl (fun h => ?_) (fun h => ?_) <;> simp only [bh2, reduceCtorEq] at h))
      all_goals first | exact ff | skip
      all_goals done
    · have b0 : ((ps.length : Int) == 0) = false := beq_eq_false_iff_ne.2 (by omega)
      by_cases hc0 : cs.length = 0
      · have b1 : ((cs.length : Int) == 0) = true := by rw [hc0]; rfl
        repeat' (first | ((first | refine sC hT fun K' hK' => ?_ | refine oC fun K' hK' => ?_); push_cast [b0, b1]; (try simp (disch := omega) only [wrap64, Int.toNat_natCast]); (repeat refine and_rev ?_ ?_); (first | refine hK' _ ?_ | ((first | apply con1 | (apply con3; exact gd) | apply con2); (try intro hb); (first | exact hh | exact hri); exact okr; refine hK' _ ?_) | refine ⟨.v (.int .i64 0), hK' _ ?_⟩); clear hK' K') | (refine sK hT ?_; simp only [St.put]) | ((first | refine aopss_nil (hK _ ?_) | refine aops_nil (hK _ ?_)); clear hK K; push_cast) | ((first | apply awp_label | apply awp_skip | apply awp_exit | apply awp_ret); push_cast) | refine awp_sseq fun K hK => ?_ | refine awp_s fun K hK => ?_ | refine dQ hT hm fun K hK => ?_ | refine dL hT hm fun K hK => ?_ | apply awp_block | apply awp_scope | apply awp_seq | (refine awp_cond _ rfl (fun h => ?_) (fun h => ?_) <;> simp only [bh2, reduceCtorEq] at h))
        all_goals first | exact ff | skip
        all_goals done
      · have b1 : ((cs.length : Int) == 0) = false := beq_eq_false_iff_ne.2 (by omega)
        have hk := modN (n := ps.length) hat.1
        have ho := modN (n := cs.length) hat.1
        have hkl : at_.toNat % ps.length < ps.length := Nat.mod_lt _ (by omega)
        have hol : at_.toNat % cs.length < cs.length := Nat.mod_lt _ (by omega)
        generalize at_.toNat % ps.length = k at *
        generalize at_.toNat % cs.length = o at *
        have h4 := hp.1
        have h64 := hv.1
        have hd := div_ok ps cs hps ⟨hp, hv⟩
        have hpk := vP_each hp (nth_mem hkl)
        have hset := flat_set ps k ((ps.getD k default).c + by_) hkl
        have hset : (ps.flatMap avP).set (k * 2) (I64 ((ps.getD k default).c + by_)) = (rich ps k by_).flatMap avP := hset
        have hlp := lenP2 ps
        have hcell : (ps.flatMap avP).getD (k * 2) .top = I64 (ps.getD k default).c := (getP2 ps k 0 hkl (by decide)).trans rfl
        have hok : okPs (rich ps k by_) := ⟨fun p hp2 => by
          obtain ⟨i, hi, e⟩ := List.getElem_of_mem hp2
          have h1 := rich_getD (b := by_) hkl i
          rw [List.getD_eq_getElem?_getD, List.getElem?_eq_getElem hi, Option.getD_some, e] at h1
          rw [h1]
          rw [rich_len] at hi
          have h2 := vP_each hp (nth_mem hi)
          simp only [maxC] at h2 hpk
          split
          · exact ⟨by show _ ≤ (ps.getD k default).c + by_; omega, by show (ps.getD k default).c + by_ ≤ _; omega⟩
          · exact ⟨by omega, by omega⟩, by rw [rich_len]; exact hps.2⟩
        have hrp := (rpools_ok (rich ps k by_) hok).sub (xs := [rowP (rich ps k by_)]) ⟨sub_rowP _, trivial⟩
        have hpub := pubP2 (rich ps k by_)
        have hgl : (grF ps cs).c.length = cs.length := divF_len hp hv
        simp only [maxC] at hpk
        by_cases hvr : vP (rich ps k by_)
        · rw [decide_eq_true hvr] at hrp
          have hd2 := (div_ok (rich ps k by_) cs hok ⟨hvr, hv⟩).sub (xs := [rowP (rich ps k by_), avCs cs]) ⟨sub_rowP _, Sub.refl _, trivial⟩
          have hvw := wo_v hv o
          have hwl := wo_len hol
          have hd3 := (div_ok ps (wo cs o) hps ⟨hp, hvw⟩).sub (xs := [avPs ps, rowL (wo cs o)]) ⟨Sub.refl _, sub_rowL _, trivial⟩
          have hhl : (grF (rich ps k by_) cs).c.length = cs.length := divF_len hvr hv
          have hml : (grF ps (wo cs o)).c.length = (wo cs o).length := divF_len hp hvw
          have bg : bd maxC (grF ps cs).c := divF_bd hp hv
          have bh : bd maxC (grF (rich ps k by_) cs).c := divF_bd hvr hv
          have bm : bd maxC (grF ps (wo cs o)).c := divF_bd hp hvw
          have l1 : ∀ r, lsumF cs (grF ps cs).c r ≤ lsumF cs (grF (rich ps k by_) cs).c r := fun r => by
            rw [lsum_two, lsum_two]
            have e1 := (divF_pre hp hv r).all
            have e2 := (divF_pre hvr hv r).all
            have e3 := most_mono (cs := cs) r (rich_sum hkl hby.1 false) (rich_sum hkl hby.1 true)
            unfold mostF at e3
            show su cs.length (pU cs r false) (dv (divF ps cs)) + su cs.length (pU cs r true) (dv (divF ps cs)) ≤ su cs.length (pU cs r false) (dv (divF (rich ps k by_) cs)) + su cs.length (pU cs r true) (dv (divF (rich ps k by_) cs))
            omega
          have l2 : ∀ r, grpF cs (grF ps cs).c r o ≤ grpF (wo cs o) (grF ps (wo cs o)).c r (-1) := fun r => by
            rw [grp_su _ _ _ _ hol, grp_all]
            exact more_law hp hv hol r
          have hpubC := pubC3 (wo cs o)
          have hlr : (cs.take o).length = o := by rw [List.length_take]; omega
          have hld : (cs.drop (o + 1)).length = cs.length - (o + 1) := List.length_drop
          have hlt : ((cs.take o).flatMap avC).length = o * 3 := by rw [lenC3, hlr]
          have hcat : (cs.take o).flatMap avC ++ (cs.drop (o + 1)).flatMap avC = (wo cs o).flatMap avC := by unfold wo; rw [List.flatMap_append]
          have tk1 : ((o : Int) + 1).toNat = o + 1 := by omega
          have hwc := lenC3 (wo cs o)
          generalize hg1 : grF ps cs = g at *
          generalize hg2 : grF (rich ps k by_) cs = hg at *
          generalize hg3 : grF ps (wo cs o) = m at *
          repeat' (first | ((first | refine aopss_own hT 44 rfl rfl (by decide) fun K' hK' => ?_ | refine sC hT fun K' hK' => ?_ | refine oC fun K' hK' => ?_); push_cast [b0, b1, hk, ho, hcell, hset, List.nil_append, hpub]; (try simp (disch := omega) only [wrap64, Int.toNat_natCast]); (repeat refine and_rev ?_ ?_); (first | refine hK' _ ?_ | ((first | apply con1 | (apply con3; exact gd) | apply con2); (try intro hb); (first | exact hh | exact hri | exact hd | exact hrp | exact hd2); exact okr; refine hK' _ ?_) | ((first | refine ⟨ps.flatMap avP, ⟨hlp, (fun el j he hj => (getP2 ps el j he hj).symm), oneP2 _, by omega, by omega⟩, ?_⟩); refine hK' _ ?_) | refine ⟨.v (.int .i64 0), hK' _ ?_⟩); clear hK' K') | (refine sK hT ?_; simp only [St.put]) | ((first | refine aopss_nil (hK _ ?_) | refine aops_nil (hK _ ?_)); clear hK K; push_cast) | ((first | apply awp_label | apply awp_skip | apply awp_exit | apply awp_ret); push_cast) | refine awp_sseq fun K hK => ?_ | refine awp_s fun K hK => ?_ | refine dQ hT hm fun K hK => ?_ | refine dL hT hm fun K hK => ?_ | apply awp_block | apply awp_scope | apply awp_seq | (refine awp_cond _ rfl (fun h => ?_) (fun h => ?_) <;> simp only [bh2, reduceCtorEq] at h))
          all_goals first | exact ff | skip
          refine awp_wk ⟨[(0, avPs ps), (1, avCs cs), (9, BL true), (10, .p 10 0), (11, I64 0), (14, .p 14 0), (15, I64 0), (16, I64 o)], [(14, .box 27 (.avs [intsF hg.c, avLLF hg.fr])), (10, .box 27 (.avs [intsF g.c, avLLF g.fr]))]⟩ ⟨rfl, rfl, rfl, rfl, rfl, rfl, rfl, rfl, trivial⟩ ⟨rfl, rfl, trivial⟩ ?_
          (refine awp_v hT [77, 81, 86] [(3, []), (1, [77, 81, 86]), (1, [77, 81, 86]), (1, [77, 81, 86]), (0, []), (1, [77, 81, 86]), (1, [77, 81, 86]), (1, [77, 81, 86]), (1, [77, 81, 86]), (0, []), (0, [])] hm (by decide +kernel) (by push_cast) fun K hKr => ?_; repeat' (first
    | ((first | refine aops2_quiet rfl (by rfl) fun K' hK' => ?_ | refine aops2_free rfl (by rfl) fun K' hK' => ?_ | refine aops2_loud rfl (by rfl) fun K' hK' => ?_ | refine aops2_own rfl rfl (by decide) fun K' hK' => ?_ | refine aops2_map (o := Oper.mk _ (.mapUpdate _ _ _ _) _ _ _ _) rfl (by simp only [dstOk, Nat.reduceLT]) fun K' hK' => ?_ | refine aops2_lit (o := Oper.mk _ (.buildSlice _ _ _) _ _ _ _) rfl (by simp only [dstOk, Nat.reduceLT]) fun K' hK' => ?_ | refine aops2_appN (o := Oper.mk _ (.call _) _ _ _ _) rfl (by simp only [dstOk, Nat.reduceLT]) fun K' hK' => ?_); push_cast [hcat, tk1, List.nil_append]; (try simp (disch := omega) only [wrap64, Int.toNat_natCast]); (repeat refine and_rev ?_ ?_); (first | (first | refine hK' _ (by push_cast [hcat, tk1, List.nil_append]) ?_ | refine hK' _ ?_) | ((first | refine ⟨_, ⟨(by first | exact hd3), (by first | exact .inr rfl | exact .inl (by simp [AV.fresh, AV.freshL]))⟩, ?_⟩ | refine ⟨_, fun hb => ⟨(by first | exact hd3), (by first | exact .inr rfl | exact .inl (by simp [AV.fresh, AV.freshL]))⟩, ?_⟩ | refine ⟨_, fun hb => ⟨(by first | exact hb | exact ⟨hb, hb⟩ | exact ⟨hb, hb, hb⟩ | exact ⟨hb, hb, hb, hb⟩ | (simp only [hb, true_and, and_true, Bool.and_true, Bool.true_and]; done)), (by first | exact hd3), (by first | exact .inr rfl | exact .inl (by simp [AV.fresh, AV.freshL]))⟩, ?_⟩); push_cast [hcat, tk1, List.nil_append]; (try simp (disch := omega) only [wrap64, Int.toNat_natCast]); (repeat refine and_rev ?_ ?_); (first | refine hK' _ (by push_cast [hcat, tk1, List.nil_append]) ?_ | refine hK' _ ?_)) | ((first | refine ⟨(cs.take o).flatMap avC, ⟨by rw [hlt], (fun el j he hj => srcC_take cs o el j he (by omega) hj), oneC3 _, by omega, by omega⟩, ?_⟩ | refine ⟨(cs.drop (o + 1)).flatMap avC, ⟨by rw [lenC3, hld], (fun el j he hj => srcC_drop cs (o + 1) el j (by omega) hj), oneC3 _, by rw [hlt]; omega, by rw [hlt]; omega⟩, ?_⟩ | refine ⟨[_], ⟨rfl, (fun j hj => rfl), (by first | omega | (simp only [List.length_take, List.length_drop, List.length_append, List.length_map, List.length_cons, List.length_nil, List.length_replicate, List.length_set]; omega)), (by first | omega | (simp only [List.length_take, List.length_drop, List.length_append, List.length_map, List.length_cons, List.length_nil, List.length_replicate, List.length_set]; omega))⟩, ?_⟩ | refine ⟨_, ⟨rfl, (fun j hj => rfl), (by first | omega | (simp only [List.length_take, List.length_drop, List.length_append, List.length_map, List.length_cons, List.length_nil, List.length_replicate, List.length_set]; omega)), (by first | omega | (simp only [List.length_take, List.length_drop, List.length_append, List.length_map, List.length_cons, List.length_nil, List.length_replicate, List.length_set]; omega))⟩, ?_⟩ | refine ⟨_, ⟨(by first | omega | (simp only [List.length_take, List.length_drop, List.length_append, List.length_map, List.length_cons, List.length_nil, List.length_replicate, List.length_set]; omega)), src_t _ _, (by first | omega | (simp only [List.length_take, List.length_drop, List.length_append, List.length_map, List.length_cons, List.length_nil, List.length_replicate, List.length_set]; omega)), (by first | omega | (simp only [List.length_take, List.length_drop, List.length_append, List.length_map, List.length_cons, List.length_nil, List.length_replicate, List.length_set]; omega))⟩, ?_⟩ | refine ⟨_, ⟨(by first | omega | (simp only [List.length_take, List.length_drop, List.length_append, List.length_map, List.length_cons, List.length_nil, List.length_replicate, List.length_set]; omega)), src_dt _ _ _, (by first | omega | (simp only [List.length_take, List.length_drop, List.length_append, List.length_map, List.length_cons, List.length_nil, List.length_replicate, List.length_set]; omega)), (by first | omega | (simp only [List.length_take, List.length_drop, List.length_append, List.length_map, List.length_cons, List.length_nil, List.length_replicate, List.length_set]; omega))⟩, ?_⟩ | refine ⟨_, ⟨(by first | omega | (simp only [List.length_take, List.length_drop, List.length_append, List.length_map, List.length_cons, List.length_nil, List.length_replicate, List.length_set]; omega)), (by first | omega | (simp only [List.length_take, List.length_drop, List.length_append, List.length_map, List.length_cons, List.length_nil, List.length_replicate, List.length_set]; omega)), src_t _ _, (by first | omega | (simp only [List.length_take, List.length_drop, List.length_append, List.length_map, List.length_cons, List.length_nil, List.length_replicate, List.length_set]; omega)), (by first | omega | (simp only [List.length_take, List.length_drop, List.length_append, List.length_map, List.length_cons, List.length_nil, List.length_replicate, List.length_set]; omega))⟩, ?_⟩ | refine ⟨_, ⟨(by first | omega | (simp only [List.length_take, List.length_drop, List.length_append, List.length_map, List.length_cons, List.length_nil, List.length_replicate, List.length_set]; omega)), (by first | omega | (simp only [List.length_take, List.length_drop, List.length_append, List.length_map, List.length_cons, List.length_nil, List.length_replicate, List.length_set]; omega)), src_dt _ _ _, (by first | omega | (simp only [List.length_take, List.length_drop, List.length_append, List.length_map, List.length_cons, List.length_nil, List.length_replicate, List.length_set]; omega)), (by first | omega | (simp only [List.length_take, List.length_drop, List.length_append, List.length_map, List.length_cons, List.length_nil, List.length_replicate, List.length_set]; omega))⟩, ?_⟩); (first | refine hK' _ (by push_cast [hcat, tk1, List.nil_append]) ?_ | refine hK' _ ?_))); clear hK' K')
    | (refine aops2_nil ?_; refine hKr _ ?_; clear hKr K; push_cast)))
          all_goals first | exact ff | skip
          have d1 : ((g.c.length : Int) != (cs.length : Int)) = false := bne_eq_false_iff_eq.2 (by omega)
          have d2 : ((hg.c.length : Int) != (cs.length : Int)) = false := bne_eq_false_iff_eq.2 (by omega)
          have d3 : ((m.c.length : Int) != ((wo cs o).length : Int)) = false := bne_eq_false_iff_eq.2 (by omega)
          have hdv : ((wo cs o).flatMap avC).length / 3 = (wo cs o).length := by rw [hwc]; omega
          repeat' (first | ((first | refine sC hT fun K' hK' => ?_ | refine oC fun K' hK' => ?_); push_cast [hpubC, d1, d2, d3, hdv]; (try simp (disch := omega) only [wrap64, Int.toNat_natCast]); (repeat refine and_rev ?_ ?_); (first | refine hK' _ ?_ | ((first | apply con1 | (apply con3; exact gd) | apply con2); (try intro hb); (first | exact hd3); exact okr; refine hK' _ ?_) | refine ⟨.v (.int .i64 0), hK' _ ?_⟩); clear hK' K') | (refine sK hT ?_; simp only [St.put]) | ((first | refine aopss_nil (hK _ ?_) | refine aops_nil (hK _ ?_)); clear hK K; push_cast) | ((first | apply awp_label | apply awp_skip | apply awp_exit | apply awp_ret); push_cast) | refine awp_sseq fun K hK => ?_ | refine awp_s fun K hK => ?_ | refine dQ hT hm fun K hK => ?_ | refine dL hT hm fun K hK => ?_ | apply awp_block | apply awp_scope | apply awp_seq | (refine awp_cond _ rfl (fun h => ?_) (fun h => ?_) <;> simp only [bh2, reduceCtorEq] at h))
          all_goals first | exact ff | skip
          refine awp_loop (α := Nat) (fun i => ⟨[(1, avCs cs), (9, BL true), (10, .p 10 0), (14, .p 14 0), (16, I64 o), (17, .s 86), (18, .p 18 0), (20, I64 i)], [(18, .box 27 (.avs [intsF m.c, avLLF m.fr])), (86, .row 41 3 (.avs ((wo cs o).flatMap avC))), (14, .box 27 (.avs [intsF hg.c, avLLF hg.fr])), (10, .box 27 (.avs [intsF g.c, avLLF g.fr]))]⟩) (fun i => i ≤ cs.length) (fun i => cs.length - i) 0 (Nat.zero_le _) (G.wk ⟨rfl, rfl, rfl, rfl, rfl, rfl, rfl, rfl, trivial⟩ ⟨rfl, rfl, rfl, rfl, trivial⟩) fun i hi => ?_
          by_cases hlt2 : i < cs.length
          · have c1 : decide ((i : Int) < (cs.length : Int)) = true := decide_eq_true (by omega)
            have hrr := (hv.2 _ (nth_mem hlt2)).1.1
            have hr : In64 (cs.getD i default).r := ⟨by omega, by omega⟩
            have q1 := lsum_ok cs hg.c (cs.getD i default).r hr h64 hhl bh
            have q2 := lsum_ok cs g.c (cs.getD i default).r hr h64 hgl bg
            have q3 := (group_ok (wo cs o) m.c (cs.getD i default).r (-1) hr hvw.1 hml bm).sub (xs := [rowL (wo cs o), ints m.c, I64 (cs.getD i default).r, I64 (-1)]) ⟨sub_rowL _, Sub.refl _, Sub.refl _, Sub.refl _, trivial⟩
            have q4 := group_ok cs g.c (cs.getD i default).r o hr h64 hgl bg
            have f1 := decide_eq_false (Int.not_lt.2 (l1 (cs.getD i default).r))
            have f2 := decide_eq_false (Int.not_lt.2 (l2 (cs.getD i default).r))
            repeat' (first | ((first | refine sC hT fun K' hK' => ?_ | refine oC fun K' hK' => ?_); push_cast [c1, f1, f2, hpubC, hdv]; (try simp (disch := omega) only [wrap64, Int.toNat_natCast]); (repeat refine and_rev ?_ ?_); (first | refine hK' _ ?_ | ((first | apply con1 | (apply con3; exact gd) | apply con2); (try intro hb); (first | exact q1 | exact q2 | exact q3 | exact q4); exact okr; refine hK' _ ?_) | refine ⟨.v (.int .i64 0), hK' _ ?_⟩); clear hK' K') | (refine sK hT ?_; simp only [St.put]) | ((first | refine aopss_nil (hK _ ?_) | refine aops_nil (hK _ ?_)); clear hK K; push_cast) | ((first | apply awp_label | apply awp_skip | apply awp_exit | apply awp_ret); push_cast) | refine awp_sseq fun K hK => ?_ | refine awp_s fun K hK => ?_ | refine dQ hT hm fun K hK => ?_ | refine dL hT hm fun K hK => ?_ | apply awp_block | apply awp_scope | apply awp_seq | (refine awp_cond _ rfl (fun h => ?_) (fun h => ?_) <;> simp only [bh2, reduceCtorEq] at h))
            all_goals first | exact ff | skip
            all_goals exact ⟨i + 1, ⟨by omega, by omega⟩, G.wk ⟨rfl, rfl, rfl, rfl, rfl, rfl, rfl, rfl, trivial⟩ ⟨rfl, rfl, rfl, rfl, trivial⟩⟩
          · obtain rfl : i = cs.length := by omega
            have c1 : decide ((cs.length : Int) < (cs.length : Int)) = false := decide_eq_false (by omega)
            repeat' (first | ((first | refine sC hT fun K' hK' => ?_ | refine oC fun K' hK' => ?_); push_cast [c1]; (try simp (disch := omega) only [wrap64, Int.toNat_natCast]); (repeat refine and_rev ?_ ?_); (first | refine hK' _ ?_ | refine ⟨.v (.int .i64 0), hK' _ ?_⟩); clear hK' K') | (refine sK hT ?_; simp only [St.put]) | ((first | refine aopss_nil (hK _ ?_) | refine aops_nil (hK _ ?_)); clear hK K; push_cast) | ((first | apply awp_label | apply awp_skip | apply awp_exit | apply awp_ret); push_cast) | refine awp_sseq fun K hK => ?_ | refine awp_s fun K hK => ?_ | refine dQ hT hm fun K hK => ?_ | refine dL hT hm fun K hK => ?_ | apply awp_block | apply awp_scope | apply awp_seq | (refine awp_cond _ rfl (fun h => ?_) (fun h => ?_) <;> simp only [bh2, reduceCtorEq] at h))
            all_goals first | exact ff | skip
            all_goals done
        · rw [decide_eq_false hvr] at hrp
          generalize hg1 : grF ps cs = g at *
          repeat' (first | ((first | refine aopss_own hT 44 rfl rfl (by decide) fun K' hK' => ?_ | refine sC hT fun K' hK' => ?_ | refine oC fun K' hK' => ?_); push_cast [b0, b1, hk, hcell, hset, List.nil_append, hpub]; (try simp (disch := omega) only [wrap64, Int.toNat_natCast]); (repeat refine and_rev ?_ ?_); (first | refine hK' _ ?_ | ((first | apply con1 | (apply con3; exact gd) | apply con2); (try intro hb); (first | exact hh | exact hri | exact hd | exact hrp); exact okr; refine hK' _ ?_) | ((first | refine ⟨ps.flatMap avP, ⟨hlp, (fun el j he hj => (getP2 ps el j he hj).symm), oneP2 _, by omega, by omega⟩, ?_⟩); refine hK' _ ?_) | refine ⟨.v (.int .i64 0), hK' _ ?_⟩); clear hK' K') | (refine sK hT ?_; simp only [St.put]) | ((first | refine aopss_nil (hK _ ?_) | refine aops_nil (hK _ ?_)); clear hK K; push_cast) | ((first | apply awp_label | apply awp_skip | apply awp_exit | apply awp_ret); push_cast) | refine awp_sseq fun K hK => ?_ | refine awp_s fun K hK => ?_ | refine dQ hT hm fun K hK => ?_ | refine dL hT hm fun K hK => ?_ | apply awp_block | apply awp_scope | apply awp_seq | (refine awp_cond _ rfl (fun h => ?_) (fun h => ?_) <;> simp only [bh2, reduceCtorEq] at h))
          all_goals first | exact ff | skip
          all_goals done
  · rw [decide_eq_false h] at hri
    repeat' (first | ((first | refine sC hT fun K' hK' => ?_ | refine oC fun K' hK' => ?_); push_cast; (try simp (disch := omega) only [wrap64, Int.toNat_natCast]); (repeat refine and_rev ?_ ?_); (first | refine hK' _ ?_ | ((first | apply con1 | (apply con3; exact gd) | apply con2); (try intro hb); (first | exact hh | exact hri); exact okr; refine hK' _ ?_) | refine ⟨.v (.int .i64 0), hK' _ ?_⟩); clear hK' K') | (refine sK hT ?_; simp only [St.put]) | ((first | refine aopss_nil (hK _ ?_) | refine aops_nil (hK _ ?_)); clear hK K; push_cast) | ((first | apply awp_label | apply awp_skip | apply awp_exit | apply awp_ret); push_cast) | refine awp_sseq fun K hK => ?_ | refine awp_s fun K hK => ?_ | refine dQ hT hm fun K hK => ?_ | refine dL hT hm fun K hK => ?_ | apply awp_block | apply awp_scope | apply awp_seq | (refine awp_cond _ rfl (fun h => ?_) (fun h => ?_) <;> simp only [bh2, reduceCtorEq] at h))
    all_goals first | exact ff | skip
    all_goals done
end Go.Proofs.Ythgjjhddbigfcaa
