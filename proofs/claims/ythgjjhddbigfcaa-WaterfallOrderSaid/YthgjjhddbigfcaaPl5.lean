/- Fewer claims: without the worse ranks, without one claim. -/
import Derived.Test.YthgjjhddbigfcaaPl3
namespace Go.Wf
open Go.Proofs.Share
set_option linter.unusedVariables false
set_option linter.unusedSimpArgs false

theorem FO.pcongr {cs : List Cl} {d : List Int} {p q : Nat → Bool} {t : Int} (h : FO cs d p t) (e : ∀ i, i < cs.length → p i = q i) : FO cs d q t :=
  ⟨fun i hi hq => h.lo i hi (by rw [e i hi]; exact hq), fun i hi hq => h.hi i hi (by rw [e i hi]; exact hq), by rw [← su_congr e (fun _ _ _ => rfl), ← su_congr e (fun _ _ _ => rfl)]; exact h.sum, fun i k hi hk hpi hpk => h.fair i k hi hk (by rw [e i hi]; exact hpi) (by rw [e k hk]; exact hpk)⟩
/-- The claims with some indices. -/
def cSel (cs : List Cl) (l : List Nat) : List Cl := l.map fun i => cs.getD i default
theorem cSel_len (cs : List Cl) (l : List Nat) : (cSel cs l).length = l.length := by simp [cSel]
theorem cSel_getD {cs : List Cl} {l : List Nat} {a : Nat} (h : a < l.length) : (cSel cs l).getD a default = cs.getD (l.getD a 0) default := by simp [cSel, List.getD_eq_getElem?_getD, h]
theorem cSel_v {cs : List Cl} (hv : vC cs) (q : Nat → Bool) : vC (cSel cs (idx cs.length q)) := by
  refine ⟨?_, fun c hc => ?_⟩
  · rw [cSel_len]; exact Nat.le_trans (idx_len _ _) hv.1
  · obtain ⟨i, hi, rfl⟩ := List.mem_map.1 hc
    exact hv.2 _ (nth_mem (mem_idx.1 hi).1)
theorem su_sub (n : Nat) (q p : Nat → Bool) (v : Nat → Int) : su (idx n q).length (fun a => p ((idx n q).getD a 0)) (fun a => v ((idx n q).getD a 0)) = su n (fun i => q i && p i) v := by
  refine (sum_idx n q (fun i => if p i = true then v i else 0)).trans (sumN_congr fun i _ => ?_)
  by_cases hq : q i = true
  · by_cases hp : p i = true
    · simp only [hq, hp, Bool.and_true, if_true]
    · simp only [hq, hp, Bool.true_and, if_true]
  · have hq : q i = false := by simpa using hq
    simp only [hq, Bool.false_and, Bool.false_eq_true, if_false]
theorem su_ge {n : Nat} {p : Nat → Bool} {v : Nat → Int} {k : Nat} (hk : k < n) (hp : p k = true) (h : ∀ i, i < n → 0 ≤ v i) : v k ≤ su n p v := by
  have h1 := sumN_upd (v := fun i => if p i = true then v i else 0) (u := fun i => if i = k then 0 else if p i = true then v i else 0) hk (fun i _ hn => by rw [if_neg hn])
  have h2 : 0 ≤ sumN (fun i => if i = k then 0 else if p i = true then v i else 0) n := sumN_nonneg fun i hi => by
    split
    · exact Int.le_refl _
    · split
      · exact h i hi
      · exact Int.le_refl _
  simp only [if_true, hp] at h1
  show v k ≤ sumN (fun i => if p i = true then v i else 0) n
  omega
section
variable {cs : List Cl} {d : List Int} {q : Nat → Bool}
theorem fo_sub {p : Nat → Bool} {t : Int} (hq : ∀ i, i < cs.length → p i = true → q i = true) (h : FO cs d p t) : FO (cSel cs (idx cs.length q)) (sel d (idx cs.length q)) (fun a => p ((idx cs.length q).getD a 0)) t := by
  have dg : ∀ a, a < (idx cs.length q).length → dv (sel d (idx cs.length q)) a = dv d ((idx cs.length q).getD a 0) := fun a ha => sel_getD ha
  have cg : ∀ a, a < (idx cs.length q).length → cv (cSel cs (idx cs.length q)) a = cv cs ((idx cs.length q).getD a 0) := fun a ha => by unfold cv; rw [cSel_getD ha]
  refine ⟨fun a ha hp => ?_, fun a ha hp => ?_, ?_, fun a b ha hb hpa hpb hlt => ?_⟩
  · rw [cSel_len] at ha
    rw [dg a ha]; exact h.lo _ (idx_nth ha).1 hp
  · rw [cSel_len] at ha
    rw [dg a ha, cg a ha]; exact h.hi _ (idx_nth ha).1 hp
  · rw [cSel_len]
    have e1 := su_congr (n := (idx cs.length q).length) (p := fun a => p ((idx cs.length q).getD a 0)) (fun _ _ => rfl) (fun a ha _ => dg a ha)
    have e2 := su_congr (n := (idx cs.length q).length) (p := fun a => p ((idx cs.length q).getD a 0)) (fun _ _ => rfl) (fun a ha _ => cg a ha)
    rw [e1, e2, su_sub, su_sub]
    have e3 : ∀ v, su cs.length (fun i => q i && p i) v = su cs.length p v := fun v => su_congr (fun i hi => by
      cases hp : p i
      · simp
      · simp [hq i hi hp]) (fun _ _ _ => rfl)
    rw [e3, e3]; exact h.sum
  · rw [cSel_len] at ha hb
    rw [dg b hb, cg b hb] at hlt
    rw [dg a ha, dg b hb]
    rcases h.fair _ _ (idx_nth ha).1 (idx_nth hb).1 hpa hpb hlt with h1 | ⟨h1, h2⟩
    · exact .inl h1
    · refine .inr ⟨h1, ?_⟩
      rcases Nat.lt_or_ge a b with h3 | h3
      · exact h3
      · rcases Nat.eq_or_lt_of_le h3 with h4 | h4
        · subst h4; omega
        · have := idx_lt h4 ha; omega
theorem su_sel {p p' : Nat → Bool} (hq : ∀ i, i < cs.length → p i = true → q i = true) (hp : ∀ a, a < (idx cs.length q).length → p' a = p ((idx cs.length q).getD a 0)) : su (cSel cs (idx cs.length q)).length p' (dv (sel d (idx cs.length q))) = su cs.length p (dv d) := by
  rw [cSel_len]
  rw [su_congr (q := fun a => p ((idx cs.length q).getD a 0)) (u := fun a => dv d ((idx cs.length q).getD a 0)) hp (fun a ha _ => sel_getD ha), su_sub]
  exact su_congr (fun i hi => by
      cases hp : p i
      · simp
      · simp [hq i hi hp]) (fun _ _ _ => rfl)
end
/-- The claims up to a rank. -/
def qU (cs : List Cl) (rank : Int) (i : Nat) : Bool := decide ((cs.getD i default).r ≤ rank)
theorem sp_sub {A B : Int} {cs : List Cl} {d : List Int} {rank r : Int} (hr : r ≤ rank) (h : Sp A B cs d r) : Sp A B (cSel cs (idx cs.length (qU cs rank))) (sel d (idx cs.length (qU cs rank))) r := by
  have eB : ∀ b, su (cSel cs (idx cs.length (qU cs rank))).length (pB (cSel cs (idx cs.length (qU cs rank))) r b) (dv (sel d (idx cs.length (qU cs rank)))) = su cs.length (pB cs r b) (dv d) := fun b => su_sel (fun i hi hp => decide_eq_true (by have := pB_lt hp; omega)) (fun a ha => by unfold pB; rw [cSel_getD ha])
  have eK : ∀ (b : Bool) (e : List Int), su (cSel cs (idx cs.length (qU cs rank))).length (pK (cSel cs (idx cs.length (qU cs rank))) r b) (dv (sel e (idx cs.length (qU cs rank)))) = su cs.length (pK cs r b) (dv e) := fun b e => su_sel (fun i hi hp => decide_eq_true (by have := (pK_eq hp).1; omega)) (fun a ha => by unfold pK; rw [cSel_getD ha])
  have fR : ∀ {e : List Int} {t : Int}, FO cs e (pR cs r) t → FO (cSel cs (idx cs.length (qU cs rank))) (sel e (idx cs.length (qU cs rank))) (pR (cSel cs (idx cs.length (qU cs rank))) r) t := fun {e t} h => (fo_sub (q := qU cs rank) (fun i hi hp => decide_eq_true (by have := pR_eq hp; omega)) h).pcongr fun a ha => by
    rw [cSel_len] at ha
    unfold pR; rw [cSel_getD ha]
  have fK : ∀ {b : Bool} {t : Int}, FO cs d (pK cs r b) t → FO (cSel cs (idx cs.length (qU cs rank))) (sel d (idx cs.length (qU cs rank))) (pK (cSel cs (idx cs.length (qU cs rank))) r b) t := fun {b t} h => (fo_sub (q := qU cs rank) (fun i hi hp => decide_eq_true (by have := (pK_eq hp).1; omega)) h).pcongr fun a ha => by
    rw [cSel_len] at ha
    unfold pK; rw [cSel_getD ha]
  have eT : reT A B (cSel cs (idx cs.length (qU cs rank))) (sel d (idx cs.length (qU cs rank))) r = reT A B cs d r := by unfold reT; rw [eB, eB]
  have eC : reC A (cSel cs (idx cs.length (qU cs rank))) (sel d (idx cs.length (qU cs rank))) r = reC A cs d r := by unfold reC; rw [eB]
  unfold Sp
  rw [eT, eC, eK]
  rcases h with ⟨h1, h2⟩ | ⟨e, h1, h2, h3, h4⟩
  · exact .inl ⟨fR h1, h2⟩
  · exact .inr ⟨sel e (idx cs.length (qU cs rank)), fR h1, by rw [eK]; exact h2, fK h3, fK h4⟩
/-- Without the claims of worse ranks, the others get the same. -/
theorem order_law {ps : List Po} {cs : List Cl} (hp : vP ps) (hv : vC cs) (rank : Int) : divF ps (cSel cs (idx cs.length (qU cs rank))) = sel (divF ps cs) (idx cs.length (qU cs rank)) := by
  have hv2 := cSel_v hv (qU cs rank)
  refine list_ext (by rw [divF_len hp hv2, cSel_len, sel_len]) fun i hi => sp_unique hv2 (divF_sp hp hv2) (fun r hr => ?_) i (by rw [← divF_len hp hv2]; exact hi)
  obtain ⟨a, ha, e⟩ := mem_rkF.1 hr
  rw [cSel_len] at ha
  rw [cSel_getD ha] at e
  have h1 := idx_nth ha
  have h2 : (cs.getD ((idx cs.length (qU cs rank)).getD a 0) default).r ≤ rank := of_decide_eq_true h1.2
  exact sp_sub (by omega) (divF_sp hp hv r (mem_rkF.2 ⟨_, h1.1, e⟩))

/-! ### Without one claim -/
def skp (k a : Nat) : Nat := if a < k then a else a + 1
def wo (cs : List Cl) (k : Nat) : List Cl := cs.take k ++ cs.drop (k + 1)
theorem wo_len {cs : List Cl} {k : Nat} (hk : k < cs.length) : (wo cs k).length = cs.length - 1 := by simp [wo]; omega
theorem wo_getD {cs : List Cl} {k a : Nat} (hk : k < cs.length) (ha : a < cs.length - 1) : (wo cs k).getD a default = cs.getD (skp k a) default := by
  unfold wo skp
  by_cases h : a < k
  · rw [if_pos h]
    simp [List.getD_eq_getElem?_getD, List.getElem?_append, List.getElem?_take, h, show k ≤ cs.length by omega, show a < cs.length by omega]
  · rw [if_neg h]
    have : min k cs.length = k := by omega
    simp only [List.getD_eq_getElem?_getD, List.getElem?_append, List.length_take, this, h, if_false, List.getElem?_drop]
    rw [show k + 1 + (a - k) = a + 1 by omega]
theorem wo_v {cs : List Cl} (hv : vC cs) (k : Nat) : vC (wo cs k) := by
  refine ⟨?_, fun c hc => ?_⟩
  · have := hv.1
    simp [wo]; omega
  · rcases List.mem_append.1 hc with h | h
    · exact hv.2 _ (List.mem_of_mem_take h)
    · exact hv.2 _ (List.mem_of_mem_drop h)
theorem sumN_skip (g : Nat → Int) (k : Nat) : ∀ n, k ≤ n → sumN (fun a => g (skp k a)) n = sumN g (n + 1) - g k
  | 0, h => by
    obtain rfl : k = 0 := by omega
    simp [sumN]
  | n + 1, h => by
    by_cases e : k = n + 1
    · have : sumN (fun a => g (skp k a)) (n + 1) = sumN g (n + 1) := sumN_congr fun a ha => by unfold skp; rw [if_pos (by omega)]
      rw [this, e]; simp only [sumN]; omega
    · have h1 : sumN (fun a => g (skp k a)) (n + 1) = sumN (fun a => g (skp k a)) n + g (skp k n) := rfl
      have h2 : sumN g (n + 1 + 1) = sumN g (n + 1) + g (n + 1) := rfl
      rw [h1, sumN_skip g k n (by omega), h2]
      unfold skp
      rw [if_neg (by omega)]; omega
theorem upC_wo {cs : List Cl} {k : Nat} (hk : k < cs.length) (r : Int) (b : Bool) : upC (wo cs k) r b = upC cs r b - (if pU cs r b k = true then cv cs k else 0) := by
  rw [upC_su, upC_su, wo_len hk]
  have e : su (cs.length - 1) (pU (wo cs k) r b) (cv (wo cs k)) = sumN (fun a => (fun i => if pU cs r b i = true then cv cs i else 0) (skp k a)) (cs.length - 1) := sumN_congr fun a ha => by
    unfold pU cv
    rw [wo_getD hk ha]
  rw [e, sumN_skip (fun i => if pU cs r b i = true then cv cs i else 0) k (cs.length - 1) (by omega), show cs.length - 1 + 1 = cs.length by omega]
  rfl
/-- If a claim is removed, the other claims of each rank together do not get less. -/
theorem more_law {ps : List Po} {cs : List Cl} (hp : vP ps) (hv : vC cs) {k : Nat} (hk : k < cs.length) (r : Int) :
    su cs.length (pR cs r) (dv (divF ps cs)) - (if (cs.getD k default).r = r then dv (divF ps cs) k else 0) ≤ su (wo cs k).length (pR (wo cs k) r) (dv (divF ps (wo cs k))) := by
  have hA := (sumP_bound hp false).1
  have hB := (sumP_bound hp true).1
  have hv2 := wo_v hv k
  have a1 := (divF_pre hp hv r).all
  have a0 := (divF_pre hp hv (r - 1)).all
  have a2 := (divF_pre hp hv r).pl
  have b1 := (divF_pre hp hv2 r).all
  have b0 := (divF_pre hp hv2 (r - 1)).all
  have sF := up_step cs (dv (divF ps cs)) r false
  have sT := up_step cs (dv (divF ps cs)) r true
  have tF := up_step (wo cs k) (dv (divF ps (wo cs k))) r false
  have tT := up_step (wo cs k) (dv (divF ps (wo cs k))) r true
  have cF := up_step cs (cv cs) r false
  have cT := up_step cs (cv cs) r true
  rw [up_prev] at sF sT tF tT cF cT
  rw [pR_two, pR_two]
  have u1 := upC_wo hk r false
  have u2 := upC_wo hk r true
  have u3 := upC_wo hk (r - 1) false
  have u4 := upC_wo hk (r - 1) true
  have hle := sp_le (divF_sp hp hv)
  have lk := hle k hk
  have nnF : 0 ≤ su cs.length (pK cs r false) (cv cs) := su_nonneg fun i hi _ => (hv.2 _ (nth_mem hi)).1.2
  have nnT : 0 ≤ su cs.length (pK cs r true) (cv cs) := su_nonneg fun i hi _ => (hv.2 _ (nth_mem hi)).1.2
  have lF := su_le (n := cs.length) (p := pU cs r false) (fun i hi _ => (hle i hi).2)
  have lT := su_le (n := cs.length) (p := pU cs r true) (fun i hi _ => (hle i hi).2)
  have oF : pU cs r false k = true → su cs.length (pU cs r false) (dv (divF ps cs)) ≤ su cs.length (pU cs r false) (cv cs) + (dv (divF ps cs) k - cv cs k) := fun h => su_one hk h (fun i hi _ _ => (hle i hi).2)
  have oT : pU cs r true k = true → su cs.length (pU cs r true) (dv (divF ps cs)) ≤ su cs.length (pU cs r true) (cv cs) + (dv (divF ps cs) k - cv cs k) := fun h => su_one hk h (fun i hi _ _ => (hle i hi).2)
  have cnn : ∀ i, i < cs.length → 0 ≤ cv cs i := fun i hi => (hv.2 _ (nth_mem hi)).1.2
  have pk1 : ∀ b, pU cs r b k = true → cv cs k ≤ su cs.length (pU cs r b) (cv cs) := fun b h => su_ge hk h cnn
  have pk0 : ∀ b, pU cs (r - 1) b k = true → cv cs k ≤ su cs.length (pU cs (r - 1) b) (cv cs) := fun b h => su_ge hk h cnn
  have ck : 0 ≤ cv cs k := (hv.2 _ (nth_mem hk)).1.2
  rw [u1, u2] at b1
  rw [u3, u4] at b0
  rw [upC_su, upC_su] at a1 a0 b1 b0
  have dU : ∀ r b, pU cs r b k = decide ((cs.getD k default).r ≤ r ∧ (cs.getD k default).f = b) := fun _ _ => rfl
  have key : ∀ r b, (if pU cs r b k = true then cv cs k else 0) = if (cs.getD k default).r ≤ r ∧ (cs.getD k default).f = b then cv cs k else 0 := fun r b => by
    rw [dU]
    by_cases h : (cs.getD k default).r ≤ r ∧ (cs.getD k default).f = b
    · rw [if_pos h, if_pos (decide_eq_true h)]
    · rw [if_neg h, if_neg (by rw [decide_eq_false h]; simp)]
  rw [key, key] at b1 b0
  cases hf : (cs.getD k default).f
  · have q0 := pk0 false
    have q1 := pk1 false
    rw [dU, hf] at q0 q1 oF
    simp only [and_true, decide_eq_true_eq] at q0 q1 oF
    simp only [hf, and_true, reduceCtorEq, and_false, if_false] at b1 b0
    clear oT pk0 pk1 key dU u1 u2 u3 u4
    by_cases h1 : (cs.getD k default).r ≤ r - 1
    · rw [if_pos h1] at b0
      rw [if_pos (by omega)] at b1
      rw [if_neg (by omega)]
      have q0 := q0 h1
      clear q1 oF
      omega
    · rw [if_neg h1] at b0
      by_cases h2 : (cs.getD k default).r ≤ r
      · rw [if_pos h2] at b1
        rw [if_pos (by omega)]
        have oF := oF h2
        clear q0 q1
        omega
      · rw [if_neg h2] at b1
        rw [if_neg (by omega)]
        omega
  · have q0 := pk0 true
    have q1 := pk1 true
    rw [dU, hf] at q0 q1 oT
    simp only [and_true, decide_eq_true_eq] at q0 q1 oT
    simp only [hf, and_true, reduceCtorEq, and_false, if_false] at b1 b0
    clear oF pk0 pk1 key dU u1 u2 u3 u4
    by_cases h1 : (cs.getD k default).r ≤ r - 1
    · rw [if_pos h1] at b0
      rw [if_pos (by omega)] at b1
      rw [if_neg (by omega)]
      have q0 := q0 h1
      clear q1 oT
      omega
    · rw [if_neg h1] at b0
      by_cases h2 : (cs.getD k default).r ≤ r
      · rw [if_pos h2] at b1
        rw [if_pos (by omega)]
        have oT := oT h2
        clear q0 q1
        omega
      · rw [if_neg h2] at b1
        rw [if_neg (by omega)]
        omega
/-- If the pools grow, the claims up to a rank do not get less. -/
theorem most_mono {ps qs : List Po} {cs : List Cl} (r : Int) (h0 : sumP ps false ≤ sumP qs false) (h1 : sumP ps true ≤ sumP qs true) : mostF ps cs r ≤ mostF qs cs r := by
  unfold mostF; omega
end Go.Wf
