/- Fewer claims: without the worse ranks, without one claim. -/
import Derived.Test.YthgjjhddbigfcaaPl3
namespace Go.Wf
open Go.Proofs.Share
set_option linter.unusedVariables false
set_option linter.unusedSimpArgs false

theorem su_ge {n : Nat} {p : Nat → Bool} {v : Nat → Int} {k : Nat} (hk : k < n) (hp : p k = true) (h : ∀ i, i < n → 0 ≤ v i) : v k ≤ su n p v := by
  have h1 := sumN_upd (v := fun i => if p i = true then v i else 0) (u := fun i => if i = k then 0 else if p i = true then v i else 0) hk (fun i _ hn => by rw [if_neg hn])
  have h2 : 0 ≤ sumN (fun i => if i = k then 0 else if p i = true then v i else 0) n := sumN_nonneg fun i hi => by
    split
    · exact Int.le_refl _
    · split
      · exact h i hi
      · exact Int.le_refl _
  simp only [if_true, hp] at h1
  show v k ≤ sumN (fun i => if p i = true then v i else 0) n
  omega
section
variable {cs : List Cl} {d : List Int} {q : Nat → Bool}
end
/-! ### Without one claim -/
def skp (k a : Nat) : Nat := if a < k then a else a + 1
def wo (cs : List Cl) (k : Nat) : List Cl := cs.take k ++ cs.drop (k + 1)
theorem wo_len {cs : List Cl} {k : Nat} (hk : k < cs.length) : (wo cs k).length = cs.length - 1 := by simp [wo]; omega
theorem wo_getD {cs : List Cl} {k a : Nat} (hk : k < cs.length) (ha : a < cs.length - 1) : (wo cs k).getD a default = cs.getD (skp k a) default := by
  unfold wo skp
  by_cases h : a < k
  · rw [if_pos h]
    simp [List.getD_eq_getElem?_getD, List.getElem?_append, List.getElem?_take, h, show k ≤ cs.length by omega, show a < cs.length by omega]
  · rw [if_neg h]
    have : min k cs.length = k := by omega
    simp only [List.getD_eq_getElem?_getD, List.getElem?_append, List.length_take, this, h, if_false, List.getElem?_drop]
    rw [show k + 1 + (a - k) = a + 1 by omega]
theorem wo_v {cs : List Cl} (hv : vC cs) (k : Nat) : vC (wo cs k) := by
  refine ⟨?_, fun c hc => ?_⟩
  · have := hv.1
    simp [wo]; omega
  · rcases List.mem_append.1 hc with h | h
    · exact hv.2 _ (List.mem_of_mem_take h)
    · exact hv.2 _ (List.mem_of_mem_drop h)
theorem sumN_skip (g : Nat → Int) (k : Nat) : ∀ n, k ≤ n → sumN (fun a => g (skp k a)) n = sumN g (n + 1) - g k
  | 0, h => by
    obtain rfl : k = 0 := by omega
    simp [sumN]
  | n + 1, h => by
    by_cases e : k = n + 1
    · have : sumN (fun a => g (skp k a)) (n + 1) = sumN g (n + 1) := sumN_congr fun a ha => by unfold skp; rw [if_pos (by omega)]
      rw [this, e]; simp only [sumN]; omega
    · have h1 : sumN (fun a => g (skp k a)) (n + 1) = sumN (fun a => g (skp k a)) n + g (skp k n) := rfl
      have h2 : sumN g (n + 1 + 1) = sumN g (n + 1) + g (n + 1) := rfl
      rw [h1, sumN_skip g k n (by omega), h2]
      unfold skp
      rw [if_neg (by omega)]; omega
theorem upC_wo {cs : List Cl} {k : Nat} (hk : k < cs.length) (r : Int) (b : Bool) : upC (wo cs k) r b = upC cs r b - (if pU cs r b k = true then cv cs k else 0) := by
  rw [upC_su, upC_su, wo_len hk]
  have e : su (cs.length - 1) (pU (wo cs k) r b) (cv (wo cs k)) = sumN (fun a => (fun i => if pU cs r b i = true then cv cs i else 0) (skp k a)) (cs.length - 1) := sumN_congr fun a ha => by
    unfold pU cv
    rw [wo_getD hk ha]
  rw [e, sumN_skip (fun i => if pU cs r b i = true then cv cs i else 0) k (cs.length - 1) (by omega), show cs.length - 1 + 1 = cs.length by omega]
  rfl
/-- If a claim is removed, the other claims of each rank together do not get less. -/
theorem more_law {ps : List Po} {cs : List Cl} (hp : vP ps) (hv : vC cs) {k : Nat} (hk : k < cs.length) (r : Int) :
    su cs.length (pR cs r) (dv (divF ps cs)) - (if (cs.getD k default).r = r then dv (divF ps cs) k else 0) ≤ su (wo cs k).length (pR (wo cs k) r) (dv (divF ps (wo cs k))) := by
  have hA := (sumP_bound hp false).1
  have hB := (sumP_bound hp true).1
  have hv2 := wo_v hv k
  have a1 := (divF_pre hp hv r).all
  have a0 := (divF_pre hp hv (r - 1)).all
  have a2 := (divF_pre hp hv r).pl
  have b1 := (divF_pre hp hv2 r).all
  have b0 := (divF_pre hp hv2 (r - 1)).all
  have sF := up_step cs (dv (divF ps cs)) r false
  have sT := up_step cs (dv (divF ps cs)) r true
  have tF := up_step (wo cs k) (dv (divF ps (wo cs k))) r false
  have tT := up_step (wo cs k) (dv (divF ps (wo cs k))) r true
  have cF := up_step cs (cv cs) r false
  have cT := up_step cs (cv cs) r true
  rw [up_prev] at sF sT tF tT cF cT
  rw [pR_two, pR_two]
  have u1 := upC_wo hk r false
  have u2 := upC_wo hk r true
  have u3 := upC_wo hk (r - 1) false
  have u4 := upC_wo hk (r - 1) true
  have hle := sp_le (divF_sp hp hv)
  have lk := hle k hk
  have nnF : 0 ≤ su cs.length (pK cs r false) (cv cs) := su_nonneg fun i hi _ => (hv.2 _ (nth_mem hi)).1.2
  have nnT : 0 ≤ su cs.length (pK cs r true) (cv cs) := su_nonneg fun i hi _ => (hv.2 _ (nth_mem hi)).1.2
  have lF := su_le (n := cs.length) (p := pU cs r false) (fun i hi _ => (hle i hi).2)
  have lT := su_le (n := cs.length) (p := pU cs r true) (fun i hi _ => (hle i hi).2)
  have oF : pU cs r false k = true → su cs.length (pU cs r false) (dv (divF ps cs)) ≤ su cs.length (pU cs r false) (cv cs) + (dv (divF ps cs) k - cv cs k) := fun h => su_one hk h (fun i hi _ _ => (hle i hi).2)
  have oT : pU cs r true k = true → su cs.length (pU cs r true) (dv (divF ps cs)) ≤ su cs.length (pU cs r true) (cv cs) + (dv (divF ps cs) k - cv cs k) := fun h => su_one hk h (fun i hi _ _ => (hle i hi).2)
  have cnn : ∀ i, i < cs.length → 0 ≤ cv cs i := fun i hi => (hv.2 _ (nth_mem hi)).1.2
  have pk1 : ∀ b, pU cs r b k = true → cv cs k ≤ su cs.length (pU cs r b) (cv cs) := fun b h => su_ge hk h cnn
  have pk0 : ∀ b, pU cs (r - 1) b k = true → cv cs k ≤ su cs.length (pU cs (r - 1) b) (cv cs) := fun b h => su_ge hk h cnn
  have ck : 0 ≤ cv cs k := (hv.2 _ (nth_mem hk)).1.2
  rw [u1, u2] at b1
  rw [u3, u4] at b0
  rw [upC_su, upC_su] at a1 a0 b1 b0
  have dU : ∀ r b, pU cs r b k = decide ((cs.getD k default).r ≤ r ∧ (cs.getD k default).f = b) := fun _ _ => rfl
  have key : ∀ r b, (if pU cs r b k = true then cv cs k else 0) = if (cs.getD k default).r ≤ r ∧ (cs.getD k default).f = b then cv cs k else 0 := fun r b => by
    rw [dU]
    by_cases h : (cs.getD k default).r ≤ r ∧ (cs.getD k default).f = b
    · rw [if_pos h, if_pos (decide_eq_true h)]
    · rw [if_neg h, if_neg (by rw [decide_eq_false h]; simp)]
  rw [key, key] at b1 b0
  cases hf : (cs.getD k default).f
  · have q0 := pk0 false
    have q1 := pk1 false
    rw [dU, hf] at q0 q1 oF
    simp only [and_true, decide_eq_true_eq] at q0 q1 oF
    simp only [hf, and_true, reduceCtorEq, and_false, if_false] at b1 b0
    clear oT pk0 pk1 key dU u1 u2 u3 u4
    by_cases h1 : (cs.getD k default).r ≤ r - 1
    · rw [if_pos h1] at b0
      rw [if_pos (by omega)] at b1
      rw [if_neg (by omega)]
      have q0 := q0 h1
      clear q1 oF
      omega
    · rw [if_neg h1] at b0
      by_cases h2 : (cs.getD k default).r ≤ r
      · rw [if_pos h2] at b1
        rw [if_pos (by omega)]
        have oF := oF h2
        clear q0 q1
        omega
      · rw [if_neg h2] at b1
        rw [if_neg (by omega)]
        omega
  · have q0 := pk0 true
    have q1 := pk1 true
    rw [dU, hf] at q0 q1 oT
    simp only [and_true, decide_eq_true_eq] at q0 q1 oT
    simp only [hf, and_true, reduceCtorEq, and_false, if_false] at b1 b0
    clear oF pk0 pk1 key dU u1 u2 u3 u4
    by_cases h1 : (cs.getD k default).r ≤ r - 1
    · rw [if_pos h1] at b0
      rw [if_pos (by omega)] at b1
      rw [if_neg (by omega)]
      have q0 := q0 h1
      clear q1 oT
      omega
    · rw [if_neg h1] at b0
      by_cases h2 : (cs.getD k default).r ≤ r
      · rw [if_pos h2] at b1
        rw [if_pos (by omega)]
        have oT := oT h2
        clear q0 q1
        omega
      · rw [if_neg h2] at b1
        rw [if_neg (by omega)]
        omega
/-- If the pools grow, the claims up to a rank do not get less. -/
theorem most_mono {ps qs : List Po} {cs : List Cl} (r : Int) (h0 : sumP ps false ≤ sumP qs false) (h1 : sumP ps true ≤ sumP qs true) : mostF ps cs r ≤ mostF qs cs r := by
  unfold mostF; omega
end Go.Wf
