/- Sums over stretches of minutes; stretches of one offset: plain laws. -/
import Derived.Test.YtflclkbkgcfliaaEngY
namespace Go.Zo

/-- The sum of f from a on, n places. -/
def sumN (f : Int → Int) : Int → Nat → Int
  | _, 0 => 0
  | a, n + 1 => f a + sumN f (a + 1) n
theorem sumN_add (f : Int → Int) : ∀ (n m : Nat) (a : Int), sumN f a (n + m) = sumN f a n + sumN f (a + n) m
  | 0, m, a => by simp [sumN]
  | n + 1, m, a => by
    rw [show n + 1 + m = (n + m) + 1 by omega, sumN, sumN_add f n m (a + 1), sumN]
    rw [show a + 1 + (n : Int) = a + ((n + 1 : Nat) : Int) by omega]; omega
theorem sumN_congr {f g : Int → Int} : ∀ (n : Nat) (a : Int), (∀ t, a ≤ t → t < a + n → f t = g t) → sumN f a n = sumN g a n
  | 0, a, _ => rfl
  | n + 1, a, h => by
    rw [sumN, sumN, h a (by omega) (by omega), sumN_congr n (a + 1) (fun t h1 h2 => h t (by omega) (by omega))]
theorem sumN_const (c : Int) : ∀ (n : Nat) (a : Int), sumN (fun _ => c) a n = c * n
  | 0, a => by simp [sumN]
  | n + 1, a => by rw [sumN, sumN_const c n]; rw [show ((n + 1 : Nat) : Int) = (n : Int) + 1 by omega, Int.mul_add]; omega
theorem sumN_plus (f g : Int → Int) : ∀ (n : Nat) (a : Int), sumN (fun t => f t + g t) a n = sumN f a n + sumN g a n
  | 0, a => rfl
  | n + 1, a => by rw [sumN, sumN, sumN, sumN_plus f g n]; omega
theorem sumN_shift (f : Int → Int) (o : Int) : ∀ (n : Nat) (a : Int), sumN (fun t => f (t + o)) a n = sumN f (a + o) n
  | 0, a => rfl
  | n + 1, a => by rw [sumN, sumN, sumN_shift f o n, show a + 1 + o = a + o + 1 by omega]
/-- The sum of f over the minutes from a to b. -/
def sumI (f : Int → Int) (a b : Int) : Int := sumN f a (b - a).toNat
theorem sumI_empty (f : Int → Int) {a b : Int} (h : b ≤ a) : sumI f a b = 0 := by
  unfold sumI; rw [show (b - a).toNat = 0 by omega]; rfl
theorem sumI_split (f : Int → Int) {a m b : Int} (h1 : a ≤ m) (h2 : m ≤ b) : sumI f a b = sumI f a m + sumI f m b := by
  unfold sumI
  rw [show (b - a).toNat = (m - a).toNat + (b - m).toNat by omega, sumN_add, show a + ((m - a).toNat : Int) = m by omega]
theorem sumI_congr {f g : Int → Int} {a b : Int} (h : ∀ t, a ≤ t → t < b → f t = g t) : sumI f a b = sumI g a b :=
  sumN_congr _ _ fun t h1 h2 => h t h1 (by omega)
theorem sumI_const {f : Int → Int} {a b : Int} (c : Int) (hab : a ≤ b) (h : ∀ t, a ≤ t → t < b → f t = c) : sumI f a b = c * (b - a) := by
  rw [sumI_congr (g := fun _ => c) h]
  unfold sumI
  rw [sumN_const, show (((b - a).toNat : Nat) : Int) = b - a by omega]
theorem sumI_zero {f : Int → Int} {a b : Int} (h : ∀ t, a ≤ t → t < b → f t = 0) : sumI f a b = 0 := by
  by_cases hab : a ≤ b
  · rw [sumI_const 0 hab h]; simp
  · exact sumI_empty f (by omega)
theorem sumI_plus (f g : Int → Int) (a b : Int) : sumI (fun t => f t + g t) a b = sumI f a b + sumI g a b := sumN_plus f g _ a
theorem sumI_shift (f : Int → Int) (o a b : Int) : sumI (fun t => f (t + o)) a b = sumI f (a + o) (b + o) := by
  unfold sumI; rw [sumN_shift, show b + o - (a + o) = b - a by omega]
theorem sumI_step (f : Int → Int) {a b : Int} (h : a < b) : sumI f a b = f a + sumI f (a + 1) b := by
  unfold sumI; rw [show (b - a).toNat = (b - (a + 1)).toNat + 1 by omega]; rfl
theorem sumI_last (f : Int → Int) {a b : Int} (h : a ≤ b) : sumI f a (b + 1) = sumI f a b + f b := by
  rw [sumI_split f h (show b ≤ b + 1 by omega), sumI_step f (show b < b + 1 by omega), sumI_empty f (show b + 1 ≤ b + 1 by omega)]; omega
theorem sumN_bounds {f : Int → Int} {lo hi : Int} : ∀ (n : Nat) (a : Int), (∀ t, a ≤ t → t < a + n → lo ≤ f t ∧ f t ≤ hi) → lo * n ≤ sumN f a n ∧ sumN f a n ≤ hi * n
  | 0, a, _ => by simp [sumN]
  | n + 1, a, h => by
    have h1 := h a (by omega) (by omega)
    have h2 := sumN_bounds n (a + 1) (fun t k1 k2 => h t (by omega) (by omega))
    rw [sumN, show ((n + 1 : Nat) : Int) = (n : Int) + 1 by omega, Int.mul_add, Int.mul_add]; omega
theorem sumI_01 {f : Int → Int} {a b : Int} (hab : a ≤ b) (h : ∀ t, a ≤ t → t < b → 0 ≤ f t ∧ f t ≤ 1) : 0 ≤ sumI f a b ∧ sumI f a b ≤ b - a := by
  have := sumN_bounds (lo := 0) (hi := 1) (b - a).toNat a (fun t h1 h2 => h t h1 (by omega))
  unfold sumI; omega
theorem sumI_pos {f : Int → Int} {a b t : Int} (h : ∀ t, a ≤ t → t < b → 0 ≤ f t ∧ f t ≤ 1) (h1 : a ≤ t) (h2 : t < b) (h3 : f t = 1) : 0 < sumI f a b := by
  rw [sumI_split f h1 (show t ≤ b by omega), sumI_step f h2, h3]
  have := sumI_01 (f := f) (a := a) (b := t) h1 (fun s k1 k2 => h s k1 (by omega))
  have := sumI_01 (f := f) (a := t + 1) (b := b) (by omega) (fun s k1 k2 => h s (by omega) k2)
  omega
theorem sumI_ex {f : Int → Int} {a b : Int} (h : ∀ t, a ≤ t → t < b → f t = 0 ∨ f t = 1) (hp : 0 < sumI f a b) : ∃ t, a ≤ t ∧ t < b ∧ f t = 1 := by
  apply Classical.byContradiction
  intro hn
  have : sumI f a b = 0 := sumI_zero fun t h1 h2 => (h t h1 h2).resolve_right fun e => hn ⟨t, h1, h2, e⟩
  omega

/-- A change of a zone. -/
structure Ch where
  at_ : Int
  of_ : Int
  deriving Inhabited, DecidableEq
/-- The offset at a minute. -/
def offL (o : Int) : List Ch → Int → Int
  | [], _ => o
  | c :: r, t => if c.at_ ≤ t then offL c.of_ r t else o
/-- A property of all offsets is one of the offset. -/
theorem offL_all {p : Int → Prop} : ∀ (cs : List Ch) (o t : Int), p o → (∀ c ∈ cs, p c.of_) → p (offL o cs t)
  | [], o, t, h, _ => h
  | c :: r, o, t, h, hc => by
    unfold offL
    split
    · exact offL_all r c.of_ t (hc c (by simp)) (fun x hx => hc x (by simp [hx]))
    · exact h
/-- Days and minutes. -/
theorem day_chunk {a t : Int} (h1 : a ≤ t) (h2 : t < (a / 1440 + 1) * 1440) : t / 1440 = a / 1440 := by omega
/-- In a window. -/
def inW (f g m : Int) : Bool := if g < f then decide (f ≤ m) || decide (m < g) else decide (f ≤ m) && decide (m < g)
def b1 (b : Bool) : Int := if b then 1 else 0
/-- How many of the minutes from a to b of a day are in a window. -/
def withinF (a b f g : Int) : Int := if g < f then max (b - max a f) 0 + max (min b g - a) 0 else max (min b g - max a f) 0
theorem sumI_lt (a b c : Int) (hab : a ≤ b) : sumI (fun m => b1 (decide (m < c))) a b = max (min b c - a) 0 := by
  by_cases h : c ≤ a
  · rw [sumI_zero fun t h1 h2 => by rw [b1, if_neg]; simp; omega]; omega
  · by_cases h2 : b ≤ c
    · rw [sumI_const 1 hab fun t k1 k2 => by rw [b1, if_pos]; simp; omega]; omega
    · rw [sumI_split _ (show a ≤ c by omega) (show c ≤ b by omega), sumI_const 1 (by omega) fun t k1 k2 => by rw [b1, if_pos]; simp; omega, sumI_zero fun t k1 k2 => by rw [b1, if_neg]; simp; omega]; omega
theorem sumI_ge (a b c : Int) (hab : a ≤ b) : sumI (fun m => b1 (decide (c ≤ m))) a b = max (b - max a c) 0 := by
  by_cases h : b ≤ c
  · rw [sumI_zero fun t h1 h2 => by rw [b1, if_neg]; simp; omega]; omega
  · by_cases h2 : c ≤ a
    · rw [sumI_const 1 hab fun t k1 k2 => by rw [b1, if_pos]; simp; omega]; omega
    · rw [sumI_split _ (show a ≤ c by omega) (show c ≤ b by omega), sumI_zero fun t k1 k2 => by rw [b1, if_neg]; simp; omega, sumI_const 1 (by omega) fun t k1 k2 => by rw [b1, if_pos]; simp; omega]; omega
theorem within_sum (a b f g : Int) (hab : a ≤ b) : sumI (fun m => b1 (inW f g m)) a b = withinF a b f g := by
  unfold withinF
  by_cases h : g < f
  · rw [if_pos h, ← sumI_ge a b f hab, ← sumI_lt a b g hab, ← sumI_plus]
    refine sumI_congr fun t _ _ => ?_
    unfold inW b1
    rw [if_pos h]
    by_cases h1 : f ≤ t <;> by_cases h2 : t < g <;> simp [h1, h2] <;> omega
  · rw [if_neg h]
    by_cases h1 : max a f ≤ b
    · rw [sumI_split _ (show a ≤ max a f by omega) h1, sumI_zero fun t k1 k2 => by
        unfold inW b1; rw [if_neg h]; rw [if_neg]; simp; omega]
      have := sumI_lt (max a f) b g h1
      rw [← this, Int.zero_add]
      refine sumI_congr fun t k1 k2 => ?_
      unfold inW b1
      rw [if_neg h, decide_eq_true (p := f ≤ t) (by omega), Bool.true_and]
    · rw [sumI_zero fun t k1 k2 => by unfold inW b1; rw [if_neg h]; rw [if_neg]; simp; omega]; omega
end Go.Zo
