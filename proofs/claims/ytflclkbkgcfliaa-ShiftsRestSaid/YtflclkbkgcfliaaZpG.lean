/- Part of a proof about the given program: contracts of its functions (see the comment of the last text). -/
import Derived.Test.YtflclkbkgcfliaaEngG5
/- Sums over stretches of minutes; stretches of one offset: plain laws. -/
namespace Go.Zo

/-- The sum of f from a on, n places. -/
def sumN (f : Int → Int) : Int → Nat → Int
  | _, 0 => 0
  | a, n + 1 => f a + sumN f (a + 1) n
theorem sumN_add (f : Int → Int) : ∀ (n m : Nat) (a : Int), sumN f a (n + m) = sumN f a n + sumN f (a + n) m
  | 0, m, a => by simp [sumN]
  | n + 1, m, a => by
    rw [show n + 1 + m = (n + m) + 1 by omega, sumN, sumN_add f n m (a + 1), sumN]
    rw [show a + 1 + (n : Int) = a + ((n + 1 : Nat) : Int) by omega]; omega
theorem sumN_congr {f g : Int → Int} : ∀ (n : Nat) (a : Int), (∀ t, a ≤ t → t < a + n → f t = g t) → sumN f a n = sumN g a n
  | 0, a, _ => rfl
  | n + 1, a, h => by
    rw [sumN, sumN, h a (by omega) (by omega), sumN_congr n (a + 1) (fun t h1 h2 => h t (by omega) (by omega))]
theorem sumN_const (c : Int) : ∀ (n : Nat) (a : Int), sumN (fun _ => c) a n = c * n
  | 0, a => by simp [sumN]
  | n + 1, a => by rw [sumN, sumN_const c n]; rw [show ((n + 1 : Nat) : Int) = (n : Int) + 1 by omega, Int.mul_add]; omega
theorem sumN_plus (f g : Int → Int) : ∀ (n : Nat) (a : Int), sumN (fun t => f t + g t) a n = sumN f a n + sumN g a n
  | 0, a => rfl
  | n + 1, a => by rw [sumN, sumN, sumN, sumN_plus f g n]; omega
theorem sumN_shift (f : Int → Int) (o : Int) : ∀ (n : Nat) (a : Int), sumN (fun t => f (t + o)) a n = sumN f (a + o) n
  | 0, a => rfl
  | n + 1, a => by rw [sumN, sumN, sumN_shift f o n, show a + 1 + o = a + o + 1 by omega]
/-- The sum of f over the minutes from a to b. -/
def sumI (f : Int → Int) (a b : Int) : Int := sumN f a (b - a).toNat
theorem sumI_empty (f : Int → Int) {a b : Int} (h : b ≤ a) : sumI f a b = 0 := by
  unfold sumI; rw [show (b - a).toNat = 0 by omega]; rfl
theorem sumI_split (f : Int → Int) {a m b : Int} (h1 : a ≤ m) (h2 : m ≤ b) : sumI f a b = sumI f a m + sumI f m b := by
  unfold sumI
  rw [show (b - a).toNat = (m - a).toNat + (b - m).toNat by omega, sumN_add, show a + ((m - a).toNat : Int) = m by omega]
theorem sumI_congr {f g : Int → Int} {a b : Int} (h : ∀ t, a ≤ t → t < b → f t = g t) : sumI f a b = sumI g a b :=
  sumN_congr _ _ fun t h1 h2 => h t h1 (by omega)
theorem sumI_const {f : Int → Int} {a b : Int} (c : Int) (hab : a ≤ b) (h : ∀ t, a ≤ t → t < b → f t = c) : sumI f a b = c * (b - a) := by
  rw [sumI_congr (g := fun _ => c) h]
  unfold sumI
  rw [sumN_const, show (((b - a).toNat : Nat) : Int) = b - a by omega]
theorem sumI_zero {f : Int → Int} {a b : Int} (h : ∀ t, a ≤ t → t < b → f t = 0) : sumI f a b = 0 := by
  by_cases hab : a ≤ b
  · rw [sumI_const 0 hab h]; simp
  · exact sumI_empty f (by omega)
theorem sumI_plus (f g : Int → Int) (a b : Int) : sumI (fun t => f t + g t) a b = sumI f a b + sumI g a b := sumN_plus f g _ a
theorem sumI_shift (f : Int → Int) (o a b : Int) : sumI (fun t => f (t + o)) a b = sumI f (a + o) (b + o) := by
  unfold sumI; rw [sumN_shift, show b + o - (a + o) = b - a by omega]
theorem sumI_step (f : Int → Int) {a b : Int} (h : a < b) : sumI f a b = f a + sumI f (a + 1) b := by
  unfold sumI; rw [show (b - a).toNat = (b - (a + 1)).toNat + 1 by omega]; rfl
theorem sumI_last (f : Int → Int) {a b : Int} (h : a ≤ b) : sumI f a (b + 1) = sumI f a b + f b := by
  rw [sumI_split f h (show b ≤ b + 1 by omega), sumI_step f (show b < b + 1 by omega), sumI_empty f (show b + 1 ≤ b + 1 by omega)]; omega
theorem sumN_bounds {f : Int → Int} {lo hi : Int} : ∀ (n : Nat) (a : Int), (∀ t, a ≤ t → t < a + n → lo ≤ f t ∧ f t ≤ hi) → lo * n ≤ sumN f a n ∧ sumN f a n ≤ hi * n
  | 0, a, _ => by simp [sumN]
  | n + 1, a, h => by
    have h1 := h a (by omega) (by omega)
    have h2 := sumN_bounds n (a + 1) (fun t k1 k2 => h t (by omega) (by omega))
    rw [sumN, show ((n + 1 : Nat) : Int) = (n : Int) + 1 by omega, Int.mul_add, Int.mul_add]; omega
theorem sumI_01 {f : Int → Int} {a b : Int} (hab : a ≤ b) (h : ∀ t, a ≤ t → t < b → 0 ≤ f t ∧ f t ≤ 1) : 0 ≤ sumI f a b ∧ sumI f a b ≤ b - a := by
  have := sumN_bounds (lo := 0) (hi := 1) (b - a).toNat a (fun t h1 h2 => h t h1 (by omega))
  unfold sumI; omega
theorem sumI_pos {f : Int → Int} {a b t : Int} (h : ∀ t, a ≤ t → t < b → 0 ≤ f t ∧ f t ≤ 1) (h1 : a ≤ t) (h2 : t < b) (h3 : f t = 1) : 0 < sumI f a b := by
  rw [sumI_split f h1 (show t ≤ b by omega), sumI_step f h2, h3]
  have := sumI_01 (f := f) (a := a) (b := t) h1 (fun s k1 k2 => h s k1 (by omega))
  have := sumI_01 (f := f) (a := t + 1) (b := b) (by omega) (fun s k1 k2 => h s (by omega) k2)
  omega
theorem sumI_ex {f : Int → Int} {a b : Int} (h : ∀ t, a ≤ t → t < b → f t = 0 ∨ f t = 1) (hp : 0 < sumI f a b) : ∃ t, a ≤ t ∧ t < b ∧ f t = 1 := by
  apply Classical.byContradiction
  intro hn
  have : sumI f a b = 0 := sumI_zero fun t h1 h2 => (h t h1 h2).resolve_right fun e => hn ⟨t, h1, h2, e⟩
  omega

/-- A change of a zone. -/
structure Ch where
  at_ : Int
  of_ : Int
  deriving Inhabited, DecidableEq
/-- The offset at a minute. -/
def offL (o : Int) : List Ch → Int → Int
  | [], _ => o
  | c :: r, t => if c.at_ ≤ t then offL c.of_ r t else o
/-- A property of all offsets is one of the offset. -/
theorem offL_all {p : Int → Prop} : ∀ (cs : List Ch) (o t : Int), p o → (∀ c ∈ cs, p c.of_) → p (offL o cs t)
  | [], o, t, h, _ => h
  | c :: r, o, t, h, hc => by
    unfold offL
    split
    · exact offL_all r c.of_ t (hc c (by simp)) (fun x hx => hc x (by simp [hx]))
    · exact h
/-- Days and minutes. -/
theorem day_chunk {a t : Int} (h1 : a ≤ t) (h2 : t < (a / 1440 + 1) * 1440) : t / 1440 = a / 1440 := by omega
/-- In a window. -/
def inW (f g m : Int) : Bool := if g < f then decide (f ≤ m) || decide (m < g) else decide (f ≤ m) && decide (m < g)
def b1 (b : Bool) : Int := if b then 1 else 0
/-- How many of the minutes from a to b of a day are in a window. -/
def withinF (a b f g : Int) : Int := if g < f then max (b - max a f) 0 + max (min b g - a) 0 else max (min b g - max a f) 0
theorem sumI_lt (a b c : Int) (hab : a ≤ b) : sumI (fun m => b1 (decide (m < c))) a b = max (min b c - a) 0 := by
  by_cases h : c ≤ a
  · rw [sumI_zero fun t h1 h2 => by rw [b1, if_neg]; simp; omega]; omega
  · by_cases h2 : b ≤ c
    · rw [sumI_const 1 hab fun t k1 k2 => by rw [b1, if_pos]; simp; omega]; omega
    · rw [sumI_split _ (show a ≤ c by omega) (show c ≤ b by omega), sumI_const 1 (by omega) fun t k1 k2 => by rw [b1, if_pos]; simp; omega, sumI_zero fun t k1 k2 => by rw [b1, if_neg]; simp; omega]; omega
theorem sumI_ge (a b c : Int) (hab : a ≤ b) : sumI (fun m => b1 (decide (c ≤ m))) a b = max (b - max a c) 0 := by
  by_cases h : b ≤ c
  · rw [sumI_zero fun t h1 h2 => by rw [b1, if_neg]; simp; omega]; omega
  · by_cases h2 : c ≤ a
    · rw [sumI_const 1 hab fun t k1 k2 => by rw [b1, if_pos]; simp; omega]; omega
    · rw [sumI_split _ (show a ≤ c by omega) (show c ≤ b by omega), sumI_zero fun t k1 k2 => by rw [b1, if_neg]; simp; omega, sumI_const 1 (by omega) fun t k1 k2 => by rw [b1, if_pos]; simp; omega]; omega
theorem within_sum (a b f g : Int) (hab : a ≤ b) : sumI (fun m => b1 (inW f g m)) a b = withinF a b f g := by
  unfold withinF
  by_cases h : g < f
  · rw [if_pos h, ← sumI_ge a b f hab, ← sumI_lt a b g hab, ← sumI_plus]
    refine sumI_congr fun t _ _ => ?_
    unfold inW b1
    rw [if_pos h]
    by_cases h1 : f ≤ t <;> by_cases h2 : t < g <;> simp [h1, h2] <;> omega
  · rw [if_neg h]
    by_cases h1 : max a f ≤ b
    · rw [sumI_split _ (show a ≤ max a f by omega) h1, sumI_zero fun t k1 k2 => by
        unfold inW b1; rw [if_neg h]; rw [if_neg]; simp; omega]
      have := sumI_lt (max a f) b g h1
      rw [← this, Int.zero_add]
      refine sumI_congr fun t k1 k2 => ?_
      unfold inW b1
      rw [if_neg h, decide_eq_true (p := f ≤ t) (by omega), Bool.true_and]
    · rw [sumI_zero fun t k1 k2 => by unfold inW b1; rw [if_neg h]; rw [if_neg]; simp; omega]; omega
end Go.Zo
/- Lists of minutes; zones: plain laws. -/
namespace Go.Zo

/-- The minutes from a on, n places, that have a property. -/
def filN (p : Int → Bool) : Int → Nat → List Int
  | _, 0 => []
  | a, n + 1 => if p a then a :: filN p (a + 1) n else filN p (a + 1) n
theorem filN_add (p : Int → Bool) : ∀ (n m : Nat) (a : Int), filN p a (n + m) = filN p a n ++ filN p (a + n) m
  | 0, m, a => by simp [filN]
  | n + 1, m, a => by
    rw [show n + 1 + m = (n + m) + 1 by omega, filN, filN_add p n m (a + 1), filN]
    rw [show a + 1 + (n : Int) = a + ((n + 1 : Nat) : Int) by omega]
    split <;> simp
theorem filN_congr {p q : Int → Bool} : ∀ (n : Nat) (a : Int), (∀ t, a ≤ t → t < a + n → p t = q t) → filN p a n = filN q a n
  | 0, a, _ => rfl
  | n + 1, a, h => by
    rw [filN, filN, h a (by omega) (by omega), filN_congr n (a + 1) (fun t h1 h2 => h t (by omega) (by omega))]
theorem mem_filN {p : Int → Bool} {x : Int} : ∀ (n : Nat) (a : Int), x ∈ filN p a n ↔ a ≤ x ∧ x < a + n ∧ p x = true
  | 0, a => by simp [filN]; omega
  | n + 1, a => by
    rw [filN]
    by_cases h : p a = true
    · rw [if_pos h, List.mem_cons, mem_filN n (a + 1)]
      constructor
      · rintro (rfl | ⟨h1, h2, h3⟩)
        · exact ⟨by omega, by omega, h⟩
        · exact ⟨by omega, by omega, h3⟩
      · rintro ⟨h1, h2, h3⟩
        by_cases e : x = a
        · exact .inl e
        · exact .inr ⟨by omega, by omega, h3⟩
    · rw [if_neg h, mem_filN n (a + 1)]
      constructor
      · rintro ⟨h1, h2, h3⟩; exact ⟨by omega, by omega, h3⟩
      · rintro ⟨h1, h2, h3⟩
        by_cases e : x = a
        · subst e; exact absurd h3 h
        · exact ⟨by omega, by omega, h3⟩
theorem filN_asc (p : Int → Bool) : ∀ (n : Nat) (a : Int), (filN p a n).Pairwise (· < ·)
  | 0, a => List.Pairwise.nil
  | n + 1, a => by
    rw [filN]
    split
    · refine List.pairwise_cons.2 ⟨fun x hx => ?_, filN_asc p n (a + 1)⟩
      have := (mem_filN n (a + 1)).1 hx
      omega
    · exact filN_asc p n (a + 1)
theorem filN_len (p : Int → Bool) : ∀ (n : Nat) (a : Int), (filN p a n).length ≤ n
  | 0, a => by simp [filN]
  | n + 1, a => by
    rw [filN]
    have := filN_len p n (a + 1)
    split <;> simp <;> omega
def filI (p : Int → Bool) (a b : Int) : List Int := filN p a (b - a).toNat
theorem filI_empty (p : Int → Bool) {a b : Int} (h : b ≤ a) : filI p a b = [] := by
  unfold filI; rw [show (b - a).toNat = 0 by omega]; rfl
theorem filI_split (p : Int → Bool) {a m b : Int} (h1 : a ≤ m) (h2 : m ≤ b) : filI p a b = filI p a m ++ filI p m b := by
  unfold filI
  rw [show (b - a).toNat = (m - a).toNat + (b - m).toNat by omega, filN_add, show a + ((m - a).toNat : Int) = m by omega]
theorem filI_congr {p q : Int → Bool} {a b : Int} (h : ∀ t, a ≤ t → t < b → p t = q t) : filI p a b = filI q a b :=
  filN_congr _ _ fun t h1 h2 => h t h1 (by omega)
theorem mem_filI {p : Int → Bool} {a b x : Int} : x ∈ filI p a b ↔ a ≤ x ∧ x < b ∧ p x = true := by
  unfold filI; rw [mem_filN]
  constructor
  · rintro ⟨h1, h2, h3⟩; exact ⟨h1, by omega, h3⟩
  · rintro ⟨h1, h2, h3⟩; exact ⟨h1, by omega, h3⟩
theorem filI_asc (p : Int → Bool) (a b : Int) : (filI p a b).Pairwise (· < ·) := filN_asc p _ a
theorem filI_none {p : Int → Bool} {a b : Int} (h : ∀ t, a ≤ t → t < b → p t = false) : filI p a b = [] := by
  refine List.eq_nil_iff_forall_not_mem.2 fun x hx => ?_
  obtain ⟨h1, h2, h3⟩ := mem_filI.1 hx
  rw [h x h1 h2] at h3; cases h3
theorem filI_step (p : Int → Bool) {a b : Int} (h : a < b) : filI p a b = if p a then a :: filI p (a + 1) b else filI p (a + 1) b := by
  unfold filI; rw [show (b - a).toNat = (b - (a + 1)).toNat + 1 by omega, filN]
theorem filI_last (p : Int → Bool) {a b : Int} (h : a ≤ b) : filI p a (b + 1) = if p b then filI p a b ++ [b] else filI p a b := by
  rw [filI_split p h (show b ≤ b + 1 by omega), filI_step p (show b < b + 1 by omega), filI_empty p (show b + 1 ≤ b + 1 by omega)]
  split <;> simp
theorem filI_one {p : Int → Bool} {a b : Int} (x : Int) (h : ∀ t, a ≤ t → t < b → p t = decide (t = x)) : filI p a b = if a ≤ x ∧ x < b then [x] else [] := by
  by_cases hx : a ≤ x ∧ x < b
  · rw [if_pos hx, filI_split p hx.1 (show x ≤ b by omega), filI_none fun t h1 h2 => by rw [h t h1 (by omega)]; exact decide_eq_false (by omega), filI_step p hx.2, h x hx.1 hx.2, decide_eq_true rfl, if_pos rfl, filI_none fun t h1 h2 => by rw [h t (by omega) h2]; exact decide_eq_false (by omega)]
    rfl
  · rw [if_neg hx]
    exact filI_none fun t h1 h2 => by rw [h t h1 h2]; exact decide_eq_false fun e => hx ⟨by omega, by omega⟩
theorem filI_sub {p : Int → Bool} {a b c d : Int} (h1 : a ≤ c) (h2 : d ≤ b) (hcd : c ≤ d) (h : ∀ t, a ≤ t → t < b → p t = true → c ≤ t ∧ t < d) : filI p a b = filI p c d := by
  rw [filI_split p h1 (show c ≤ b by omega), filI_split p hcd h2, filI_none (a := a) fun t k1 k2 => by
    cases e : p t with
    | false => rfl
    | true => have := h t k1 (by omega) e; omega, filI_none (a := d) fun t k1 k2 => by
    cases e : p t with
    | false => rfl
    | true => have := h t (by omega) k2 e; omega]
  simp
/-- Two ascending lists of the same numbers are one. -/
theorem asc_eq {a b : List Int} (ha : a.Pairwise (· < ·)) (hb : b.Pairwise (· < ·)) (h : ∀ x, x ∈ a ↔ x ∈ b) : a = b := by
  have hn : ∀ {l : List Int}, l.Pairwise (· < ·) → l.Nodup := fun hl => hl.imp fun {x y} hxy e => by omega
  refine List.Perm.eq_of_pairwise (le := (· < ·)) (fun x y _ _ h1 h2 => by omega) ha hb ?_
  exact (List.perm_ext_iff_of_nodup (hn ha) (hn hb)).2 h
end Go.Zo
/- Zones: validity, local time, portions, instants: plain laws. -/
namespace Go.Zo
open Go.Eng

/-- A zone. -/
structure Zn where
  nm : ByteArray
  base : Int
  cs : List Ch
  deriving Inhabited
abbrev chN (cs : List Ch) (i : Nat) : Ch := cs.getD i default
/-- The offset ahead of change i. -/
def before (z : Zn) (i : Nat) : Int := if i = 0 then z.base else (chN z.cs (i - 1)).of_
def okC (z : Zn) (i : Nat) : Bool :=
  decide (0 ≤ (chN z.cs i).at_) && decide ((chN z.cs i).at_ ≤ 52595999) && (decide (i = 0) || decide (2880 ≤ (chN z.cs i).at_ - (chN z.cs (i - 1)).at_)) &&
  decide (-840 ≤ (chN z.cs i).of_) && decide ((chN z.cs i).of_ ≤ 840) && decide ((chN z.cs i).of_ - before z i ≤ 60) && decide (before z i - (chN z.cs i).of_ ≤ 60)
def validZ (z : Zn) : Bool := decide (z.cs.length ≤ 64) && decide (-840 ≤ z.base) && decide (z.base ≤ 840) && (List.range z.cs.length).all (okC z)
theorem validZ_false_at {z : Zn} {i : Nat} (hi : i < z.cs.length) (h : okC z i = false) : validZ z = false := by
  have : (List.range z.cs.length).all (okC z) = false := by
    rw [Bool.eq_false_iff]
    intro hh
    rw [List.all_eq_true] at hh
    rw [hh i (List.mem_range.2 hi)] at h; cases h
  simp [validZ, this]
theorem validZ_true {z : Zn} (h1 : z.cs.length ≤ 64) (h2 : -840 ≤ z.base) (h3 : z.base ≤ 840) (h4 : ∀ i, i < z.cs.length → okC z i = true) : validZ z = true := by
  have : (List.range z.cs.length).all (okC z) = true := by
    rw [List.all_eq_true]; intro i hi; exact h4 i (List.mem_range.1 hi)
  simp [validZ, this, h1, h2, h3]
theorem validZ_spec {z : Zn} (h : validZ z = true) : z.cs.length ≤ 64 ∧ (-840 ≤ z.base ∧ z.base ≤ 840) ∧ ∀ i, i < z.cs.length → okC z i = true := by
  simp only [validZ, bh, decide_eq_true_eq, List.all_eq_true, List.mem_range] at h
  exact ⟨h.1.1.1, ⟨h.1.1.2, h.1.2⟩, h.2⟩
theorem okC_spec {z : Zn} {i : Nat} (h : okC z i = true) : (0 ≤ (chN z.cs i).at_ ∧ (chN z.cs i).at_ ≤ 52595999) ∧ (i = 0 ∨ 2880 ≤ (chN z.cs i).at_ - (chN z.cs (i - 1)).at_) ∧ (-840 ≤ (chN z.cs i).of_ ∧ (chN z.cs i).of_ ≤ 840) ∧ (chN z.cs i).of_ - before z i ≤ 60 ∧ before z i - (chN z.cs i).of_ ≤ 60 := by
  simp only [okC, bh, decide_eq_true_eq] at h
  obtain ⟨⟨⟨⟨⟨⟨a, b⟩, c⟩, d⟩, e⟩, f⟩, g⟩ := h
  exact ⟨⟨a, b⟩, c, ⟨d, e⟩, f, g⟩
/-- The offset at a minute. -/
def off (z : Zn) (t : Int) : Int := offL z.base z.cs t
theorem off_bounds {z : Zn} (h : validZ z = true) (t : Int) : -840 ≤ off z t ∧ off z t ≤ 840 := by
  obtain ⟨_, h2, h3⟩ := validZ_spec h
  refine offL_all (p := fun o => -840 ≤ o ∧ o ≤ 840) z.cs z.base t h2 fun c hc => ?_
  obtain ⟨i, hi, rfl⟩ := List.getElem_of_mem hc
  have e : chN z.cs i = z.cs[i] := by simp [chN, List.getD_eq_getElem?_getD, hi]
  have := (okC_spec (h3 i hi)).2.2.1
  rw [e] at this; exact this
/-- The local minute. -/
def loc (z : Zn) (t : Int) : Int := t + off z t
/-- How many minutes of a stretch are on a local day. -/
def cnt (z : Zn) (a b d : Int) : Int := sumI (fun t => b1 (decide (loc z t / 1440 = d))) a b
theorem cnt_01 (z : Zn) (d t : Int) : 0 ≤ b1 (decide (loc z t / 1440 = d)) ∧ b1 (decide (loc z t / 1440 = d)) ≤ 1 := by
  unfold b1; split <;> omega
theorem cnt_nonneg (z : Zn) {a b : Int} (hab : a ≤ b) (d : Int) : 0 ≤ cnt z a b d ∧ cnt z a b d ≤ b - a := sumI_01 hab fun t _ _ => cnt_01 z d t
/-- How many minutes of a stretch are in a window. -/
def win (z : Zn) (a b f g : Int) : Int := sumI (fun t => b1 (inW f g (loc z t % 1440))) a b
theorem win_nonneg (z : Zn) {a b : Int} (hab : a ≤ b) (f g : Int) : 0 ≤ win z a b f g ∧ win z a b f g ≤ b - a := sumI_01 hab fun t _ _ => by unfold b1; split <;> omega
/-- The days of a stretch, with their minutes. -/
def dayL (z : Zn) (a b : Int) : List Int := filI (fun d => decide (0 < cnt z a b d)) ((a - 840) / 1440) ((b + 840) / 1440 + 1)
theorem mem_dayL {z : Zn} (h : validZ z = true) {a b d : Int} : d ∈ dayL z a b ↔ 0 < cnt z a b d := by
  unfold dayL
  rw [mem_filI]
  simp only [decide_eq_true_eq]
  refine ⟨fun ⟨_, _, h3⟩ => h3, fun h3 => ?_⟩
  obtain ⟨t, h4, h5, h6⟩ := sumI_ex (fun t _ _ => by have := cnt_01 z d t; omega) h3
  have hb := off_bounds h t
  have h7 : loc z t / 1440 = d := by
    unfold b1 at h6
    split at h6
    · rename_i e; simpa using e
    · cases h6
  unfold loc at h7
  exact ⟨by omega, by omega, h3⟩
def portF (z : Zn) (a b : Int) : List (Int × Int) := (dayL z a b).map fun d => (d, cnt z a b d)
/-- The instants of a local minute. -/
def instF (z : Zn) (n : Int) : List Int := filI (fun t => decide (0 ≤ t ∧ t ≤ 52595999) && decide (loc z t = n)) (n - 840) (n + 841)
theorem instF_eq {z : Zn} (h : validZ z = true) (n : Int) : filI (fun t => decide (loc z t = n)) 0 52596000 = instF z n := by
  refine asc_eq (filI_asc _ _ _) (filI_asc _ _ _) fun x => ?_
  rw [mem_filI]
  unfold instF
  rw [mem_filI]
  have hb := off_bounds h x
  constructor
  · rintro ⟨h1, h2, h3⟩
    have h4 : x + off z x = n := of_decide_eq_true h3
    refine ⟨by omega, by omega, ?_⟩
    rw [Bool.and_eq_true]
    exact ⟨decide_eq_true ⟨h1, by omega⟩, h3⟩
  · rintro ⟨_, _, h3⟩
    rw [Bool.and_eq_true] at h3
    have h4 := of_decide_eq_true h3.1
    exact ⟨h4.1, by omega, h3.2⟩
end Go.Zo
/- The minutes of local days, counted in a map: plain laws. -/
namespace Go.Zo
open Go.Eng

theorem getK_upd (m : List (Key × Int)) (k j : Key) (v : Int) : getK (updK m k v) j 0 = if k = j then v else getK m j 0 := by
  induction m with
  | nil =>
    by_cases h : k = j
    · simp [updK, getK, h]
    · simp [updK, getK, h]
  | cons p r ih =>
    unfold updK
    by_cases h : p.1 = k
    · rw [if_pos h]
      by_cases h2 : k = j
      · rw [if_pos h2]; simp [getK, h2]
      · rw [if_neg h2]
        have : ¬ p.1 = j := fun e => h2 (by rw [← h, e])
        simp [getK, h2, this]
    · rw [if_neg h]
      by_cases h3 : p.1 = j
      · have : ¬ k = j := fun e => h (by rw [e, h3])
        rw [if_neg this]; simp [getK, h3]
      · have e1 : getK (p :: updK r k v) j 0 = getK (updK r k v) j 0 := by simp [getK, h3]
        have e2 : getK (p :: r) j 0 = getK r j 0 := by simp [getK, h3]
        rw [e1, e2, ih]
theorem upd_upd (m : List (Key × Int)) (k : Key) (v v' : Int) : updK (updK m k v) k v' = updK m k v' := by
  induction m with
  | nil => simp [updK]
  | cons p r ih =>
    by_cases h : p.1 = k
    · rw [updK, if_pos h, updK, if_pos rfl, updK, if_pos h]
    · rw [updK, if_neg h, updK, if_neg h, updK, if_neg h, ih]
theorem updI_keys (m : List (Key × Int)) (k : Key) (v : Int) : ((updK m k v).map (·.1)) = if k ∈ m.map (·.1) then m.map (·.1) else m.map (·.1) ++ [k] := by
  induction m with
  | nil => simp [updK]
  | cons p r ih =>
    unfold updK
    by_cases h : p.1 = k
    · rw [if_pos h]; simp [h]
    · rw [if_neg h, List.map_cons, ih, List.map_cons]
      have h' : ¬ k = p.1 := fun e => h e.symm
      by_cases h2 : k ∈ r.map (·.1)
      · rw [if_pos h2, if_pos (List.mem_cons_of_mem _ h2)]
      · rw [if_neg h2, if_neg (by rw [List.mem_cons]; rintro (e | e); exact h' e; exact h2 e)]; rfl
/-- The map behind n minutes. -/
def mM (z : Zn) (a : Int) : Nat → List (Key × Int)
  | 0 => []
  | n + 1 => updK (mM z a n) (.i (loc z (a + n) / 1440)) (getK (mM z a n) (.i (loc z (a + n) / 1440)) 0 + 1)
def mMI (z : Zn) (a cur : Int) : List (Key × Int) := mM z a (cur - a).toNat
theorem mM_chunk (z : Zn) (a : Int) (d : Int) (n : Nat) : ∀ k : Nat, 0 < k → (∀ j, j < k → loc z (a + ((n + j : Nat) : Int)) / 1440 = d) → mM z a (n + k) = updK (mM z a n) (.i d) (getK (mM z a n) (.i d) 0 + k)
  | 0, h, _ => by omega
  | 1, _, h => by
    have := h 0 (by omega)
    rw [Nat.add_zero] at this
    show mM z a (n + 1) = _
    rw [mM, this]; rfl
  | k + 2, _, h => by
    have ih := mM_chunk z a d n (k + 1) (by omega) (fun j hj => h j (by omega))
    have := h (k + 1) (by omega)
    show mM z a ((n + (k + 1)) + 1) = _
    rw [mM, this, ih, upd_upd, getK_upd, if_pos rfl]
    congr 1
    omega
theorem mMI_chunk {z : Zn} {a x y d : Int} (h1 : a ≤ x) (h2 : x < y) (h : ∀ t, x ≤ t → t < y → loc z t / 1440 = d) : mMI z a y = updK (mMI z a x) (.i d) (getK (mMI z a x) (.i d) 0 + (y - x)) := by
  unfold mMI
  have := mM_chunk z a d (x - a).toNat (y - x).toNat (by omega) (fun j hj => h _ (by omega) (by omega))
  rw [show (y - a).toNat = (x - a).toNat + (y - x).toNat by omega, this, show (((y - x).toNat : Nat) : Int) = y - x by omega]
theorem mM_spec (z : Zn) (a : Int) (n : Nat) : ((mM z a n).map (·.1)).Nodup ∧ (∀ k, k ∈ (mM z a n).map (·.1) ↔ ∃ d, k = .i d ∧ 0 < cnt z a (a + n) d) ∧ (∀ d, getK (mM z a n) (.i d) 0 = cnt z a (a + n) d) ∧ (mM z a n).length ≤ n := by
  induction n with
  | zero =>
    have h0 : ∀ d, cnt z a (a + ((0 : Nat) : Int)) d = 0 := fun d => sumI_empty _ (by omega)
    refine ⟨by simp [mM], fun k => ?_, fun d => ?_, by simp [mM]⟩
    · constructor
      · intro h; simp [mM] at h
      · rintro ⟨d, _, hd⟩; rw [h0 d] at hd; omega
    · rw [h0 d]; rfl
  | succ n ih =>
    obtain ⟨i1, i2, i3, i4⟩ := ih
    have hc : ∀ d, cnt z a (a + ((n + 1 : Nat) : Int)) d = cnt z a (a + n) d + b1 (decide (loc z (a + n) / 1440 = d)) := fun d => by
      have := sumI_last (fun t => b1 (decide (loc z t / 1440 = d))) (show a ≤ a + (n : Int) by omega)
      rw [show a + ((n + 1 : Nat) : Int) = a + (n : Int) + 1 by omega]; exact this
    have hpos : ∀ d, 0 ≤ cnt z a (a + n) d := fun d => (cnt_nonneg z (by omega) d).1
    rw [mM]
    generalize hd0 : loc z (a + n) / 1440 = d0 at *
    refine ⟨?_, fun k => ?_, fun d => ?_, ?_⟩
    · rw [updI_keys]
      split
      · exact i1
      · rename_i hk
        exact List.nodup_append.2 ⟨i1, by simp, fun x hx y hy e => by
          have : y = .i d0 := by simpa using hy
          subst this; subst e; exact hk hx⟩
    · rw [updI_keys]
      constructor
      · intro h
        by_cases hk : k = .i d0
        · exact ⟨d0, hk, by rw [hc, decide_eq_true rfl]; have := hpos d0; unfold b1; rw [if_pos rfl]; omega⟩
        · have : k ∈ (mM z a n).map (·.1) := by
            split at h
            · exact h
            · rcases List.mem_append.1 h with h | h
              · exact h
              · exact absurd (by simpa using h) hk
          obtain ⟨d, e1, e2⟩ := (i2 k).1 this
          exact ⟨d, e1, by rw [hc]; unfold b1; split <;> omega⟩
      · rintro ⟨d, e1, e2⟩
        by_cases hd : d0 = d
        · subst hd
          split
          · rename_i h; rw [e1]; exact h
          · rw [e1]; simp
        · rw [hc, decide_eq_false hd] at e2
          have : 0 < cnt z a (a + n) d := by simpa [b1] using e2
          have hin := (i2 k).2 ⟨d, e1, this⟩
          split
          · exact hin
          · exact List.mem_append_left _ hin
    · rw [getK_upd, hc, i3 d0]
      by_cases hd : d0 = d
      · subst hd; rw [if_pos rfl, decide_eq_true rfl]; rfl
      · rw [if_neg (fun e => hd (by injection e)), i3 d, decide_eq_false hd]; simp [b1]
    · have := congrArg List.length (updI_keys (mM z a n) (.i d0) (getK (mM z a n) (.i d0) 0 + 1))
      rw [List.length_map] at this
      rw [this]
      split <;> simp <;> omega
theorem mMI_get {z : Zn} {a cur : Int} (h : a ≤ cur) (d : Int) : getK (mMI z a cur) (.i d) 0 = cnt z a cur d := by
  have := (mM_spec z a (cur - a).toNat).2.2.1 d
  rw [show a + (((cur - a).toNat : Nat) : Int) = cur by omega] at this
  exact this
theorem mMI_len {z : Zn} {a cur : Int} (h : a ≤ cur) : ((mMI z a cur).length : Int) ≤ cur - a := by
  have := (mM_spec z a (cur - a).toNat).2.2.2
  unfold mMI; omega
/-- The keys as numbers. -/
def intsOf (m : List (Key × Int)) : List Int := m.map fun p => match p.1 with | .i n => n | .s _ => 0
def leI' : Int → Int → Bool := fun x y => decide (x ≤ y)
theorem sort_days {z : Zn} (hv : validZ z = true) {a b : Int} (hab : a ≤ b) : (intsOf (mMI z a b)).mergeSort (fun x y => decide (x ≤ y)) = dayL z a b := by
  obtain ⟨i1, i2, _, _⟩ := mM_spec z a (b - a).toNat
  rw [show a + (((b - a).toNat : Nat) : Int) = b by omega] at i2
  have hmem : ∀ d, d ∈ intsOf (mMI z a b) ↔ 0 < cnt z a b d := fun d => by
    unfold intsOf mMI
    rw [List.mem_map]
    constructor
    · rintro ⟨p, hp, rfl⟩
      obtain ⟨d', e1, e2⟩ := (i2 p.1).1 (List.mem_map.2 ⟨p, hp, rfl⟩)
      rw [e1]; exact e2
    · intro h
      obtain ⟨p, hp, e⟩ := List.mem_map.1 ((i2 (.i d)).2 ⟨d, rfl, h⟩)
      exact ⟨p, hp, by rw [e]⟩
  have hnd : (intsOf (mMI z a b)).Nodup := by
    unfold intsOf mMI
    have i1' := List.pairwise_map.1 i1
    refine List.pairwise_map.2 (i1'.imp_of_mem fun {p q} hp hq hne e => hne ?_)
    obtain ⟨d, e1, _⟩ := (i2 p.1).1 (List.mem_map.2 ⟨p, hp, rfl⟩)
    obtain ⟨d', e2, _⟩ := (i2 q.1).1 (List.mem_map.2 ⟨q, hq, rfl⟩)
    rw [e1, e2] at e ⊢
    exact congrArg _ e
  have tr : ∀ a b c : Int, decide (a ≤ b) = true → decide (b ≤ c) = true → decide (a ≤ c) = true := fun a b c h1 h2 => by simp only [decide_eq_true_eq] at *; omega
  have to : ∀ a b : Int, (decide (a ≤ b) || decide (b ≤ a)) = true := fun a b => by simp only [Bool.or_eq_true, decide_eq_true_eq]; omega
  have hs := List.pairwise_mergeSort tr to (intsOf (mMI z a b))
  have hp := List.mergeSort_perm (intsOf (mMI z a b)) (fun x y => decide (x ≤ y))
  have hn2 := hp.nodup_iff.2 hnd
  refine asc_eq ((hs.and hn2).imp fun {x y} h => ?_) (filI_asc _ _ _) fun x => ?_
  · obtain ⟨h1, h2⟩ := h
    simp only [decide_eq_true_eq] at h1
    omega
  · rw [hp.mem_iff, hmem]
    exact (mem_dayL hv).symm
end Go.Zo
