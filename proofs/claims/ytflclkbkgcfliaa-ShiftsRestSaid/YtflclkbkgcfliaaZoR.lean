/- Part of a proof about the given program: contracts of its functions (see the comment of the last text). -/
import Derived.Test.YtflclkbkgcfliaaZoN
import Derived.Test.YtflclkbkgcfliaaZoLp
namespace Go.Proofs.Ytflclkbkgcfliaa
open Go.Eng Go.Proofs Go.Zo
set_option linter.unusedSimpArgs false
set_option linter.unusedVariables false

/-- In a stretch of two days the offset turns at most once. -/
theorem off_switch {z : Zn} (hv : validZ z = true) {t s : Int} (hts : t ≤ s) (hlen : s - t ≤ 2880) : ∃ c o1 o2, t ≤ c ∧ c ≤ s ∧ (-60 ≤ o1 - o2 ∧ o1 - o2 ≤ 60) ∧ (∀ x, t ≤ x → x < c → off z x = o1) ∧ (∀ x, c ≤ x → x < s → off z x = o2) := by
  obtain ⟨_, _, h3⟩ := validZ_spec hv
  have key : ∀ k i, k + i = z.cs.length → ∃ c o1 o2, t ≤ c ∧ c ≤ s ∧ (-60 ≤ o1 - o2 ∧ o1 - o2 ≤ 60) ∧ (∀ x, t ≤ x → x < c → offL (before z i) (z.cs.drop i) x = o1) ∧ (∀ x, c ≤ x → x < s → offL (before z i) (z.cs.drop i) x = o2) := fun k => by
    induction k with
    | zero =>
      intro i hi
      obtain rfl : i = z.cs.length := by omega
      exact ⟨t, before z z.cs.length, before z z.cs.length, Int.le_refl _, hts, by omega, fun x _ _ => off_end z x, fun x _ _ => off_end z x⟩
    | succ k ih =>
      intro i hi
      have hlt : i < z.cs.length := by omega
      by_cases c1 : (z.cs.getD i default).at_ ≤ t
      · obtain ⟨c, o1, o2, q1, q2, q3, q4, q5⟩ := ih (i + 1) (by omega)
        exact ⟨c, o1, o2, q1, q2, q3, fun x x1 x2 => by rw [off_at hlt, if_pos (by omega)]; exact q4 x x1 x2, fun x x1 x2 => by rw [off_at hlt, if_pos (by omega)]; exact q5 x x1 x2⟩
      · by_cases c2 : (z.cs.getD i default).at_ < s
        · obtain ⟨_, _, _, h5, h6⟩ := okC_spec (h3 i hlt)
          have hb := before_succ z i
          have h5' : (z.cs.getD i default).of_ - before z i ≤ 60 := h5
          have h6' : before z i - (z.cs.getD i default).of_ ≤ 60 := h6
          refine ⟨(z.cs.getD i default).at_, before z i, before z (i + 1), by omega, by omega, by rw [hb]; omega, fun x x1 x2 => by rw [off_at hlt, if_neg (by omega)], fun x x1 x2 => ?_⟩
          rw [off_at hlt, if_pos x1]
          by_cases h7 : i + 1 < z.cs.length
          · rw [off_at h7, if_neg]
            obtain ⟨_, h8, _⟩ := okC_spec (h3 (i + 1) h7)
            simp only [Nat.add_sub_cancel] at h8
            have h8' : i + 1 = 0 ∨ 2880 ≤ (z.cs.getD (i + 1) default).at_ - (z.cs.getD i default).at_ := h8
            omega
          · have h9 : i + 1 = z.cs.length := by omega
            rw [h9, off_end]
        · exact ⟨s, before z i, before z i, hts, Int.le_refl _, by omega, fun x x1 x2 => by rw [off_at hlt, if_neg (by omega)], fun x x1 x2 => by omega⟩
  exact key z.cs.length 0 (by omega)
theorem off_near' {z : Zn} (hv : validZ z = true) {t s : Int} (hts : t ≤ s) (hlen : s - t < 2880) : -60 ≤ off z t - off z s ∧ off z t - off z s ≤ 60 := by
  obtain ⟨c, o1, o2, q1, q2, q3, q4, q5⟩ := off_switch hv (s := s + 1) (show t ≤ s + 1 by omega) (by omega)
  by_cases c1 : t < c
  · rw [q4 t (Int.le_refl _) c1]
    by_cases c2 : s < c
    · rw [q4 s hts c2]; omega
    · rw [q5 s (by omega) (by omega)]; omega
  · rw [q5 t (by omega) (by omega), q5 s (by omega) (by omega)]; omega
theorem off_near {z : Zn} (hv : validZ z = true) {t s : Int} (h1 : s - t < 2880) (h2 : t - s < 2880) : -60 ≤ off z t - off z s ∧ off z t - off z s ≤ 60 := by
  by_cases h : t ≤ s
  · exact off_near' hv h h1
  · have := off_near' hv (show s ≤ t by omega) h2; omega
theorem cnt_cut {z : Zn} {a b c e d : Int} (h1 : a ≤ c) (h2 : c ≤ e) (h3 : e ≤ b) (h : ∀ t, a ≤ t → t < b → loc z t / 1440 = d → c ≤ t ∧ t < e) : cnt z a b d = cnt z c e d := by
  unfold cnt
  rw [sumI_split _ h1 (show c ≤ b by omega), sumI_split _ h2 h3]
  rw [sumI_zero (a := a) fun t k1 k2 => ?_, sumI_zero (a := e) fun t k1 k2 => ?_]
  · omega
  · unfold b1; rw [if_neg]
    intro hh
    have := h t (by omega) k2 (of_decide_eq_true hh)
    omega
  · unfold b1; rw [if_neg]
    intro hh
    have := h t k1 (by omega) (of_decide_eq_true hh)
    omega
theorem len_bounds {z : Zn} (hv : validZ z = true) {d : Int} (h1 : 2 ≤ d) (h2 : d ≤ 36522) : 1380 ≤ cnt z 0 52596000 d ∧ cnt z 0 52596000 d ≤ 1500 := by
  have hp := off_bounds hv (d * 1440 + 720)
  have near : ∀ t, d * 1440 - 1000 ≤ t → t < d * 1440 + 2500 → -60 ≤ off z t - off z (d * 1440 + 720) ∧ off z t - off z (d * 1440 + 720) ≤ 60 := fun t k1 k2 => off_near hv (by omega) (by omega)
  generalize off z (d * 1440 + 720) = o at hp near
  have in1 : ∀ t, loc z t / 1440 = d → d * 1440 - 840 ≤ t ∧ t < d * 1440 + 2280 := fun t ht => by
    have := off_bounds hv t
    unfold loc at ht; omega
  rw [cnt_cut (c := d * 1440 - o - 60) (e := d * 1440 + 1440 - o + 60) (by omega) (by omega) (by omega) fun t _ _ ht => by
    have k := in1 t ht
    have := near t (by omega) (by omega)
    unfold loc at ht; omega]
  obtain ⟨c, o1, o2, q1, q2, q3, q4, q5⟩ := off_switch hv (show d * 1440 - o - 60 ≤ d * 1440 + 1440 - o + 60 by omega) (by omega)
  have n1 : d * 1440 - o - 60 < c → -60 ≤ o1 - o ∧ o1 - o ≤ 60 := fun h => by
    have := near (d * 1440 - o - 60) (by omega) (by omega)
    rw [q4 _ (Int.le_refl _) h] at this; exact this
  have n2 : c < d * 1440 + 1440 - o + 60 → -60 ≤ o2 - o ∧ o2 - o ≤ 60 := fun h => by
    have := near (d * 1440 + 1440 - o + 59) (by omega) (by omega)
    rw [q5 _ (by omega) (by omega)] at this; exact this
  have e1 := cnt_step d (Int.le_refl _) q1 q4
  have e2 := cnt_step d q1 q2 q5
  have e0 : cnt z (d * 1440 - o - 60) (d * 1440 - o - 60) d = 0 := sumI_empty _ (Int.le_refl _)
  rw [e2, e1, e0]
  omega
/-- How many there are is a sum. -/
theorem filI_sum (p : Int → Bool) (a b : Int) : ((filI p a b).length : Int) = sumI (fun t => b1 (p t)) a b := by
  unfold filI sumI
  generalize (b - a).toNat = n
  induction n generalizing a with
  | zero => rfl
  | succ n ih =>
    rw [filN, sumN, ← ih]
    unfold b1
    split
    · rw [List.length_cons]; omega
    · omega
/-- The instants of the first m minutes of a day. -/
def nI (z : Zn) (d : Int) : Nat → Int
  | 0 => 0
  | m + 1 => nI z d m + ((instZ z d m).length : Int)
theorem nI_sum {z : Zn} (hv : validZ z = true) {d : Int} (h1 : 0 ≤ d) (h2 : d ≤ 36524) : ∀ m : Nat, m ≤ 1440 → nI z d m = sumI (fun t => b1 (decide (d * 1440 ≤ loc z t ∧ loc z t < d * 1440 + m))) 0 52596000
  | 0, _ => by
    rw [sumI_zero fun t _ _ => ?_]
    · rfl
    · unfold b1; rw [if_neg]; intro hh; have := of_decide_eq_true hh; omega
  | m + 1, hm => by
    rw [nI, nI_sum hv h1 h2 m (by omega)]
    have : instZ z d m = filI (fun t => decide (loc z t = d * 1440 + m)) 0 52596000 := by
      unfold instZ
      rw [if_pos (by rw [hv, decide_eq_true h1, decide_eq_true h2, decide_eq_true (show (0 : Int) ≤ (m : Int) by omega), decide_eq_true (show (m : Int) < 1440 by omega)]; rfl), instF_eq hv]
    rw [this, filI_sum, ← sumI_plus]
    refine sumI_congr fun t _ _ => ?_
    unfold b1
    by_cases c1 : loc z t = d * 1440 + m
    · rw [if_neg (by intro hh; have := of_decide_eq_true hh; omega), if_pos (decide_eq_true c1), if_pos (decide_eq_true (by omega))]; rfl
    · by_cases c2 : d * 1440 ≤ loc z t ∧ loc z t < d * 1440 + m
      · rw [if_pos (decide_eq_true c2), if_neg (by intro hh; exact c1 (of_decide_eq_true hh)), if_pos (decide_eq_true (by omega))]; rfl
      · rw [if_neg (by intro hh; exact c2 (of_decide_eq_true hh)), if_neg (by intro hh; exact c1 (of_decide_eq_true hh)), if_neg (by intro hh; have := of_decide_eq_true hh; omega)]; rfl
theorem nI_all {z : Zn} (hv : validZ z = true) {d : Int} (h1 : 0 ≤ d) (h2 : d ≤ 36524) : nI z d 1440 = cnt z 0 52596000 d := by
  rw [nI_sum hv h1 h2 1440 (Nat.le_refl _)]
  refine sumI_congr fun t _ _ => ?_
  congr 1
  by_cases c : loc z t / 1440 = d
  · rw [decide_eq_true c]; exact decide_eq_true (by omega)
  · rw [decide_eq_false c]; exact decide_eq_false (by omega)
theorem nI_bounds {z : Zn} {d : Int} : ∀ m : Nat, 0 ≤ nI z d m ∧ nI z d m ≤ 2 * m
  | 0 => by unfold nI; omega
  | m + 1 => by
    have h := nI_bounds (z := z) (d := d) m
    have := (instZ_two z d m).1
    rw [nI]; omega
/-! Portions. -/
theorem sumN_swap (F : Int → Int → Int) (lo hi : Int) : ∀ (n : Nat) (a : Int), sumI (fun d => sumN (fun t => F d t) a n) lo hi = sumN (fun t => sumI (fun d => F d t) lo hi) a n
  | 0, a => by simp only [sumN]; exact sumI_zero fun _ _ _ => rfl
  | n + 1, a => by
    simp only [sumN]
    rw [sumI_plus, sumN_swap F lo hi n (a + 1)]
theorem sum_one {q lo hi : Int} (h1 : lo ≤ q) (h2 : q < hi) : sumI (fun d => b1 (decide (q = d))) lo hi = 1 := by
  rw [sumI_split _ h1 (show q ≤ hi by omega), sumI_step _ h2, sumI_zero fun t k1 k2 => ?_, sumI_zero (a := q + 1) fun t k1 k2 => ?_]
  · unfold b1; rw [if_pos (decide_eq_true rfl)]; rfl
  · unfold b1; rw [if_neg]; intro hh; have := of_decide_eq_true hh; omega
  · unfold b1; rw [if_neg]; intro hh; have := of_decide_eq_true hh; omega
theorem sum_cnt {z : Zn} {a b lo hi : Int} (hab : a ≤ b) (h : ∀ t, a ≤ t → t < b → lo ≤ loc z t / 1440 ∧ loc z t / 1440 < hi) : sumI (fun d => cnt z a b d) lo hi = b - a := by
  unfold cnt
  have e := sumN_swap (fun d t => b1 (decide (loc z t / 1440 = d))) lo hi (b - a).toNat a
  have e' : sumI (fun d => sumI (fun t => b1 (decide (loc z t / 1440 = d))) a b) lo hi = sumI (fun t => sumI (fun d => b1 (decide (loc z t / 1440 = d))) lo hi) a b := e
  rw [e', sumI_const 1 hab fun t k1 k2 => sum_one (h t k1 k2).1 (h t k1 k2).2]
  omega
/-- The sum of the minutes. -/
def sumP (l : List Po) : Int := (l.map (·.2)).sum
theorem sumP_take_succ {l : List Po} {i : Nat} (h : i < l.length) : sumP (l.take (i + 1)) = sumP (l.take i) + (l.getD i default).2 := by
  have e : l.getD i default = l[i] := by simp [List.getD_eq_getElem?_getD, h]
  unfold sumP
  rw [← List.take_append_getElem h, List.map_append, List.sum_append, e]
  simp
theorem sum_fil (p : Int → Bool) (g : Int → Int) : ∀ (n : Nat) (a : Int), (((filN p a n).map fun d => (d, g d)).map (·.2)).sum = sumN (fun d => if p d then g d else 0) a n
  | 0, a => rfl
  | n + 1, a => by
    rw [filN, sumN, ← sum_fil p g n (a + 1)]
    split
    · rw [List.map_cons, List.map_cons, List.sum_cons]
    · omega
theorem loc_near {z : Zn} (hv : validZ z = true) {a b t : Int} (h1 : a ≤ t) (h2 : t < b) : (a - 840) / 1440 ≤ loc z t / 1440 ∧ loc z t / 1440 < (b + 840) / 1440 + 1 := by
  have := off_bounds hv t
  unfold loc; omega
theorem sumP_port {z : Zn} (hv : validZ z = true) {a b : Int} (hab : a ≤ b) : sumP (portF z a b) = b - a := by
  unfold sumP portF dayL filI
  rw [sum_fil]
  have := sum_cnt hab (fun t h1 h2 => loc_near hv (a := a) (b := b) h1 h2)
  rw [← this]
  refine sumI_congr fun d _ _ => ?_
  have := cnt_nonneg z hab d
  by_cases c : 0 < cnt z a b d
  · rw [if_pos (decide_eq_true c)]
  · rw [if_neg (by intro hh; exact c (of_decide_eq_true hh))]; omega
/-- Adding day by day. -/
def mrg : List Po → List Po → List Po
  | [], l => l
  | p :: l, [] => p :: l
  | p :: l, q :: m => if p.1 < q.1 then p :: mrg l (q :: m) else if q.1 < p.1 then q :: mrg (p :: l) m else (p.1, p.2 + q.2) :: mrg l m
termination_by l m => l.length + m.length
theorem mrg_nil (l : List Po) : mrg l [] = l := by cases l <;> simp [mrg]
theorem mrg_nil' (l : List Po) : mrg [] l = l := by simp [mrg]
theorem mrg_lt {p : Po} {l m : List Po} (h : ∀ q ∈ m, p.1 < q.1) : mrg (p :: l) m = p :: mrg l m := by
  cases m with
  | nil => rw [mrg_nil, mrg_nil]
  | cons q m => rw [mrg, if_pos (h q (by simp))]
theorem mrg_gt {q : Po} {l m : List Po} (h : ∀ p ∈ l, q.1 < p.1) : mrg l (q :: m) = q :: mrg l m := by
  cases l with
  | nil => rw [mrg_nil', mrg_nil']
  | cons p l => rw [mrg, if_neg (by have := h p (by simp); omega), if_pos (h p (by simp))]
theorem mrg_eq {p q : Po} {l m : List Po} (h : p.1 = q.1) : mrg (p :: l) (q :: m) = (p.1, p.2 + q.2) :: mrg l m := by
  rw [mrg, if_neg (by omega), if_neg (by omega)]
def pts (f : Int → Int) (lo : Int) (n : Nat) : List Po := (filN (fun d => decide (0 < f d)) lo n).map fun d => (d, f d)
theorem pts_ge {f : Int → Int} {lo : Int} {n : Nat} {p : Po} (h : p ∈ pts f lo n) : lo ≤ p.1 := by
  obtain ⟨d, hd, rfl⟩ := List.mem_map.1 h
  exact ((mem_filN n lo).1 hd).1
theorem pts_succ (f : Int → Int) (lo : Int) (n : Nat) : pts f lo (n + 1) = if 0 < f lo then (lo, f lo) :: pts f (lo + 1) n else pts f (lo + 1) n := by
  unfold pts
  rw [filN]
  by_cases h : 0 < f lo
  · rw [if_pos h, if_pos (decide_eq_true h)]; rfl
  · rw [if_neg h, if_neg (by intro hh; exact h (of_decide_eq_true hh))]
theorem mrg_pts {f g : Int → Int} (hf : ∀ d, 0 ≤ f d) (hg : ∀ d, 0 ≤ g d) : ∀ (n : Nat) (lo : Int), mrg (pts f lo n) (pts g lo n) = pts (fun d => f d + g d) lo n
  | 0, lo => mrg_nil _
  | n + 1, lo => by
    have ih := mrg_pts hf hg n (lo + 1)
    have h1 := hf lo
    have h2 := hg lo
    rw [pts_succ, pts_succ, pts_succ, ← ih]
    by_cases c1 : 0 < f lo <;> by_cases c2 : 0 < g lo
    · rw [if_pos c1, if_pos c2, if_pos (by omega), mrg_eq (p := (lo, f lo)) (q := (lo, g lo)) rfl]
    · rw [if_pos c1, if_neg c2, if_pos (by omega), mrg_lt (fun q hq => by have := pts_ge hq; show lo < q.1; omega), show g lo = 0 by omega, Int.add_zero]
    · rw [if_neg c1, if_pos c2, if_pos (by omega), mrg_gt (fun q hq => by have := pts_ge hq; show lo < q.1; omega), show f lo = 0 by omega, Int.zero_add]
    · rw [if_neg c1, if_neg c2, if_neg (by omega)]
theorem dayL_wide {z : Zn} (hv : validZ z = true) {a b lo hi : Int} (h1 : lo ≤ (a - 840) / 1440) (h2 : (b + 840) / 1440 + 1 ≤ hi) : dayL z a b = filI (fun d => decide (0 < cnt z a b d)) lo hi := by
  refine asc_eq (filI_asc _ _ _) (filI_asc _ _ _) fun x => ?_
  rw [mem_dayL hv, mem_filI]
  constructor
  · intro h
    have := (mem_dayL hv).2 h
    unfold dayL at this
    have := mem_filI.1 this
    exact ⟨by omega, by omega, decide_eq_true h⟩
  · intro h; exact of_decide_eq_true h.2.2
theorem port_wide {z : Zn} (hv : validZ z = true) {a b lo hi : Int} (h1 : lo ≤ (a - 840) / 1440) (h2 : (b + 840) / 1440 + 1 ≤ hi) : portF z a b = pts (fun d => cnt z a b d) lo (hi - lo).toNat := by
  unfold portF
  rw [dayL_wide hv h1 h2]; rfl
theorem port_mrg {z : Zn} (hv : validZ z = true) {a m b : Int} (h1 : a ≤ m) (h2 : m ≤ b) : mrg (portF z a m) (portF z m b) = portF z a b := by
  rw [port_wide hv (a := a) (b := m) (lo := (a - 840) / 1440) (hi := (b + 840) / 1440 + 1) (by omega) (by omega), port_wide hv (a := m) (b := b) (lo := (a - 840) / 1440) (hi := (b + 840) / 1440 + 1) (by omega) (by omega), port_wide hv (a := a) (b := b) (lo := (a - 840) / 1440) (hi := (b + 840) / 1440 + 1) (by omega) (by omega)]
  rw [mrg_pts (fun d => (cnt_nonneg z h1 d).1) (fun d => (cnt_nonneg z h2 d).1)]
  congr 1
  funext d
  exact (cnt_split z d h1 h2).symm
theorem port_len {z : Zn} {a b : Int} (hab : a ≤ b) (hl : b - a ≤ 6000) : (portF z a b).length ≤ 20 := by
  have := filI_len (fun d => decide (0 < cnt z a b d)) ((a - 840) / 1440) ((b + 840) / 1440 + 1)
  unfold portF
  rw [List.length_map]
  unfold dayL
  omega
theorem port_at {z : Zn} (hv : validZ z = true) {a b : Int} {i : Nat} (h : i < (portF z a b).length) : (portF z a b).getD i default = ((dayL z a b).getD i 0, cnt z a b ((dayL z a b).getD i 0)) ∧ 0 < cnt z a b ((dayL z a b).getD i 0) := by
  have hl : i < (dayL z a b).length := by simpa [portF] using h
  have e : (dayL z a b).getD i 0 = (dayL z a b)[i] := by simp [List.getD_eq_getElem?_getD, hl]
  have e2 : (portF z a b).getD i default = (portF z a b)[i] := by simp [List.getD_eq_getElem?_getD, h]
  refine ⟨by rw [e2, e]; simp [portF], ?_⟩
  rw [e]
  exact (mem_dayL hv).1 (List.getElem_mem hl)
theorem day_lt {z : Zn} {a b : Int} {i : Nat} (h : i + 1 < (dayL z a b).length) : (dayL z a b).getD i 0 < (dayL z a b).getD (i + 1) 0 := by
  have hp : (dayL z a b).Pairwise (· < ·) := filI_asc _ _ _
  have e : (dayL z a b).getD i 0 = (dayL z a b)[i]'(by omega) := by simp [List.getD_eq_getElem?_getD, show i < (dayL z a b).length by omega]
  have e2 : (dayL z a b).getD (i + 1) 0 = (dayL z a b)[i + 1] := by simp [List.getD_eq_getElem?_getD, h]
  rw [e, e2]
  exact List.pairwise_iff_getElem.1 hp i (i + 1) (by omega) h (by omega)
theorem dayL_sub {z : Zn} (hv : validZ z = true) {a m b : Int} (h1 : a ≤ m) (h2 : m ≤ b) (h : (dayL z a b).all inD = true) : (dayL z a m).all inD = true ∧ (dayL z m b).all inD = true := by
  rw [List.all_eq_true] at h
  constructor
  · rw [List.all_eq_true]
    intro x hx
    refine h x ((mem_dayL hv).2 ?_)
    rw [cnt_split z x h1 h2]
    have := (mem_dayL hv).1 hx
    have := (cnt_nonneg z h2 x).1
    omega
  · rw [List.all_eq_true]
    intro x hx
    refine h x ((mem_dayL hv).2 ?_)
    rw [cnt_split z x h1 h2]
    have := (mem_dayL hv).1 hx
    have := (cnt_nonneg z h1 x).1
    omega
theorem splF_good {z : Zn} {a b : Int} (h : (splF z a b).2 = 0) : chkF z a b = true ∧ b - a ≤ 44640 ∧ (dayL z a b).all inD = true ∧ splF z a b = (portF z a b, 0) := by
  unfold splF at h ⊢
  by_cases h1 : chkF z a b = true
  · rw [if_pos h1] at h ⊢
    by_cases h2 : 44640 < b - a
    · rw [if_pos h2] at h; exact absurd h (by decide)
    · rw [if_neg h2] at h ⊢
      by_cases h3 : (dayL z a b).all inD = true
      · rw [if_pos h3]; exact ⟨h1, by omega, h3, rfl⟩
      · rw [if_neg h3] at h; exact absurd h (by decide)
  · rw [if_neg h1] at h; exact absurd h (by decide)
theorem splF_ok {z : Zn} {a b : Int} (h1 : chkF z a b = true) (h2 : b - a ≤ 44640) (h3 : (dayL z a b).all inD = true) : splF z a b = (portF z a b, 0) := by
  unfold splF; rw [if_pos h1, if_neg (by omega), if_pos h3]
/-! The zone moved. -/
def movZ (z : Zn) (k : Int) (n : Nat) : List Ch := (z.cs.take n).map fun c => ⟨c.at_, c.of_ + k⟩
theorem movZ_succ {z : Zn} {k : Int} {n : Nat} (h : n < z.cs.length) : movZ z k (n + 1) = movZ z k n ++ [⟨(z.cs.getD n default).at_, (z.cs.getD n default).of_ + k⟩] := by
  have e : z.cs.getD n default = z.cs[n] := by simp [List.getD_eq_getElem?_getD, h]
  unfold movZ
  rw [← List.take_append_getElem h, List.map_append, e]; rfl
theorem offL_mov (k : Int) : ∀ (cs : List Ch) (o t : Int), offL (o + k) (cs.map fun c => ⟨c.at_, c.of_ + k⟩) t = offL o cs t + k
  | [], o, t => rfl
  | c :: r, o, t => by
    rw [List.map_cons, offL, offL]
    split
    · exact offL_mov k r c.of_ t
    · rfl
def shZ (z : Zn) (k : Int) : Zn := ⟨z.nm, z.base + k, movZ z k z.cs.length⟩
theorem shZ_off (z : Zn) (k t : Int) : off (shZ z k) t = off z t + k := by
  unfold off shZ movZ
  rw [List.take_length]
  exact offL_mov k z.cs z.base t
theorem lenC2 (l : List Ch) : (l.flatMap avC).length = l.length * 2 := by
  induction l with
  | nil => rfl
  | cons p ps ih => rw [List.flatMap_cons, List.length_append, ih]; simp [avC]; omega
theorem getC2 : ∀ (l : List Ch) (e j : Nat), e < l.length → j < 2 → (l.flatMap avC).getD (e * 2 + j) .top = (avC (l.getD e default)).getD j .top
  | [], e, j, h, _ => by simp at h
  | p :: ps, 0, j, _, hj => by
    rw [List.flatMap_cons]
    simp only [List.getD_eq_getElem?_getD, List.getD_cons_zero, Nat.zero_mul, Nat.zero_add]
    rw [List.getElem?_append_left (by simp [avC]; omega)]
    rfl
  | p :: ps, e + 1, j, h, hj => by
    have := getC2 ps e j (by simpa using h) hj
    rw [List.flatMap_cons, List.getD_cons_succ, ← this]
    simp only [List.getD_eq_getElem?_getD]
    rw [List.getElem?_append_right (by simp [avC]; omega)]
    congr 2
    simp [avC]; omega
theorem norC2 (l : List Ch) : AV.norL (l.flatMap avC) = true := by
  induction l with
  | nil => rfl
  | cons p ps ih => rw [List.flatMap_cons]; simp only [avC, List.cons_append, List.nil_append, AV.norL, AV.nor, ih]; rfl
theorem pubC2 (l : List Ch) (fl : Bool) (H : List (Nat × Blk)) (n : Nat) (j : Nat) : AV.pub fl H (n + 1) ((l.flatMap avC).getD j .top) = (l.flatMap avC).getD j .top := by
  induction l generalizing j with
  | nil => rfl
  | cons p ps ih =>
    rw [List.flatMap_cons]
    match j with
    | 0 => rfl
    | 1 => rfl
    | j + 2 => exact ih j
abbrev rowC (l : List Ch) : AV := .i false (fun e j => (l.flatMap avC).getD (e * 2 + j) .top) 2 0 ((l.flatMap avC).length / 2)
theorem sub_rowC (l : List Ch) : Sub (rowC l) (avCs l) :=
  sub_slice (by rw [lenC2]; omega) fun e j he hj => by rw [Nat.zero_add]; rw [lenC2] at he; exact getC2 l e j (by omega) hj
end Go.Proofs.Ytflclkbkgcfliaa
