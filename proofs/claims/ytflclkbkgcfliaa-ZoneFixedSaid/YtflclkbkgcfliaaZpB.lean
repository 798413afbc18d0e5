/- Lists of minutes; zones: plain laws. -/
import Derived.Test.YtflclkbkgcfliaaZpA
namespace Go.Zo

/-- The minutes from a on, n places, that have a property. -/
def filN (p : Int → Bool) : Int → Nat → List Int
  | _, 0 => []
  | a, n + 1 => if p a then a :: filN p (a + 1) n else filN p (a + 1) n
theorem filN_add (p : Int → Bool) : ∀ (n m : Nat) (a : Int), filN p a (n + m) = filN p a n ++ filN p (a + n) m
  | 0, m, a => by simp [filN]
  | n + 1, m, a => by
    rw [show n + 1 + m = (n + m) + 1 by omega, filN, filN_add p n m (a + 1), filN]
    rw [show a + 1 + (n : Int) = a + ((n + 1 : Nat) : Int) by omega]
    split <;> simp
theorem filN_congr {p q : Int → Bool} : ∀ (n : Nat) (a : Int), (∀ t, a ≤ t → t < a + n → p t = q t) → filN p a n = filN q a n
  | 0, a, _ => rfl
  | n + 1, a, h => by
    rw [filN, filN, h a (by omega) (by omega), filN_congr n (a + 1) (fun t h1 h2 => h t (by omega) (by omega))]
theorem mem_filN {p : Int → Bool} {x : Int} : ∀ (n : Nat) (a : Int), x ∈ filN p a n ↔ a ≤ x ∧ x < a + n ∧ p x = true
  | 0, a => by simp [filN]; omega
  | n + 1, a => by
    rw [filN]
    by_cases h : p a = true
    · rw [if_pos h, List.mem_cons, mem_filN n (a + 1)]
      constructor
      · rintro (rfl | ⟨h1, h2, h3⟩)
        · exact ⟨by omega, by omega, h⟩
        · exact ⟨by omega, by omega, h3⟩
      · rintro ⟨h1, h2, h3⟩
        by_cases e : x = a
        · exact .inl e
        · exact .inr ⟨by omega, by omega, h3⟩
    · rw [if_neg h, mem_filN n (a + 1)]
      constructor
      · rintro ⟨h1, h2, h3⟩; exact ⟨by omega, by omega, h3⟩
      · rintro ⟨h1, h2, h3⟩
        by_cases e : x = a
        · subst e; exact absurd h3 h
        · exact ⟨by omega, by omega, h3⟩
theorem filN_asc (p : Int → Bool) : ∀ (n : Nat) (a : Int), (filN p a n).Pairwise (· < ·)
  | 0, a => List.Pairwise.nil
  | n + 1, a => by
    rw [filN]
    split
    · refine List.pairwise_cons.2 ⟨fun x hx => ?_, filN_asc p n (a + 1)⟩
      have := (mem_filN n (a + 1)).1 hx
      omega
    · exact filN_asc p n (a + 1)
theorem filN_len (p : Int → Bool) : ∀ (n : Nat) (a : Int), (filN p a n).length ≤ n
  | 0, a => by simp [filN]
  | n + 1, a => by
    rw [filN]
    have := filN_len p n (a + 1)
    split <;> simp <;> omega
def filI (p : Int → Bool) (a b : Int) : List Int := filN p a (b - a).toNat
theorem filI_empty (p : Int → Bool) {a b : Int} (h : b ≤ a) : filI p a b = [] := by
  unfold filI; rw [show (b - a).toNat = 0 by omega]; rfl
theorem filI_split (p : Int → Bool) {a m b : Int} (h1 : a ≤ m) (h2 : m ≤ b) : filI p a b = filI p a m ++ filI p m b := by
  unfold filI
  rw [show (b - a).toNat = (m - a).toNat + (b - m).toNat by omega, filN_add, show a + ((m - a).toNat : Int) = m by omega]
theorem filI_congr {p q : Int → Bool} {a b : Int} (h : ∀ t, a ≤ t → t < b → p t = q t) : filI p a b = filI q a b :=
  filN_congr _ _ fun t h1 h2 => h t h1 (by omega)
theorem mem_filI {p : Int → Bool} {a b x : Int} : x ∈ filI p a b ↔ a ≤ x ∧ x < b ∧ p x = true := by
  unfold filI; rw [mem_filN]
  constructor
  · rintro ⟨h1, h2, h3⟩; exact ⟨h1, by omega, h3⟩
  · rintro ⟨h1, h2, h3⟩; exact ⟨h1, by omega, h3⟩
theorem filI_asc (p : Int → Bool) (a b : Int) : (filI p a b).Pairwise (· < ·) := filN_asc p _ a
theorem filI_none {p : Int → Bool} {a b : Int} (h : ∀ t, a ≤ t → t < b → p t = false) : filI p a b = [] := by
  refine List.eq_nil_iff_forall_not_mem.2 fun x hx => ?_
  obtain ⟨h1, h2, h3⟩ := mem_filI.1 hx
  rw [h x h1 h2] at h3; cases h3
theorem filI_step (p : Int → Bool) {a b : Int} (h : a < b) : filI p a b = if p a then a :: filI p (a + 1) b else filI p (a + 1) b := by
  unfold filI; rw [show (b - a).toNat = (b - (a + 1)).toNat + 1 by omega, filN]
theorem filI_last (p : Int → Bool) {a b : Int} (h : a ≤ b) : filI p a (b + 1) = if p b then filI p a b ++ [b] else filI p a b := by
  rw [filI_split p h (show b ≤ b + 1 by omega), filI_step p (show b < b + 1 by omega), filI_empty p (show b + 1 ≤ b + 1 by omega)]
  split <;> simp
theorem filI_one {p : Int → Bool} {a b : Int} (x : Int) (h : ∀ t, a ≤ t → t < b → p t = decide (t = x)) : filI p a b = if a ≤ x ∧ x < b then [x] else [] := by
  by_cases hx : a ≤ x ∧ x < b
  · rw [if_pos hx, filI_split p hx.1 (show x ≤ b by omega), filI_none fun t h1 h2 => by rw [h t h1 (by omega)]; exact decide_eq_false (by omega), filI_step p hx.2, h x hx.1 hx.2, decide_eq_true rfl, if_pos rfl, filI_none fun t h1 h2 => by rw [h t (by omega) h2]; exact decide_eq_false (by omega)]
    rfl
  · rw [if_neg hx]
    exact filI_none fun t h1 h2 => by rw [h t h1 h2]; exact decide_eq_false fun e => hx ⟨by omega, by omega⟩
theorem filI_sub {p : Int → Bool} {a b c d : Int} (h1 : a ≤ c) (h2 : d ≤ b) (hcd : c ≤ d) (h : ∀ t, a ≤ t → t < b → p t = true → c ≤ t ∧ t < d) : filI p a b = filI p c d := by
  rw [filI_split p h1 (show c ≤ b by omega), filI_split p hcd h2, filI_none (a := a) fun t k1 k2 => by
    cases e : p t with
    | false => rfl
    | true => have := h t k1 (by omega) e; omega, filI_none (a := d) fun t k1 k2 => by
    cases e : p t with
    | false => rfl
    | true => have := h t (by omega) k2 e; omega]
  simp
/-- Two ascending lists of the same numbers are one. -/
theorem asc_eq {a b : List Int} (ha : a.Pairwise (· < ·)) (hb : b.Pairwise (· < ·)) (h : ∀ x, x ∈ a ↔ x ∈ b) : a = b := by
  have hn : ∀ {l : List Int}, l.Pairwise (· < ·) → l.Nodup := fun hl => hl.imp fun {x y} hxy e => by omega
  refine List.Perm.eq_of_pairwise (le := (· < ·)) (fun x y _ _ h1 h2 => by omega) ha hb ?_
  exact (List.perm_ext_iff_of_nodup (hn ha) (hn hb)).2 h
end Go.Zo
