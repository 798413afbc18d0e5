/- Part of a proof about the given program: contracts of its functions (see the comment of the last text). -/
import Derived.Test.YtjilboaofggppaaLeJ
namespace Go.Proofs.Ytjilboaofggppaa
open Go.Eng Go.Proofs
set_option linter.unusedSimpArgs false
set_option linter.unusedVariables false

/-- The order of texts. -/
def ltT (a b : ByteArray) : Prop := a.data.toList < b.data.toList
instance (a b : ByteArray) : Decidable (ltT a b) := by unfold ltT; infer_instance
theorem blt (a b : ByteArray) : Op.bytesLess a.toList b.toList = decide (ltT a b) := by
  rw [bytesLess_eq, ByteArray.toList_eq, ByteArray.toList_eq]; rfl
theorem ltT_irr (a : ByteArray) : ¬ ltT a a := List.lt_irrefl _
theorem ltT_trans {a b c : ByteArray} (h : ltT a b) (k : ltT b c) : ltT a c := List.lt_trans h k
theorem ltT_tri (a b : ByteArray) : ltT a b ∨ a = b ∨ ltT b a := by
  rcases Decidable.em (ltT a b) with h | h
  · exact .inl h
  rcases Decidable.em (ltT b a) with k | k
  · exact .inr (.inr k)
  right; left
  have : a.data.toList = b.data.toList := List.le_antisymm (List.not_lt.1 k) (List.not_lt.1 h)
  have : a.data = b.data := Array.toList_inj.1 this
  cases a; cases b; simp_all
abbrev Asc (l : List ByteArray) : Prop := l.Pairwise ltT
theorem asc_nodup {l : List ByteArray} (h : Asc l) : l.Nodup := h.imp fun {a b} hab e => by subst e; exact ltT_irr _ hab
theorem asc_ext {a b : List ByteArray} (ha : Asc a) (hb : Asc b) (h : ∀ s, s ∈ a ↔ s ∈ b) : a = b := by
  refine List.Perm.eq_of_pairwise (le := ltT) (fun x y _ _ h1 h2 => absurd (ltT_trans h1 h2) (ltT_irr _)) ha hb ?_
  exact (List.perm_ext_iff_of_nodup (asc_nodup ha) (asc_nodup hb)).2 h

/-- A text is laid into an ascending list. -/
def insF (l : List ByteArray) (s : ByteArray) : List ByteArray :=
  match l with
  | [] => [s]
  | x :: r => if ltT x s then x :: insF r s else if x = s then x :: r else s :: x :: r
theorem mem_insF {l : List ByteArray} {s x : ByteArray} : x ∈ insF l s ↔ x ∈ l ∨ x = s := by
  induction l with
  | nil => simp [insF]
  | cons y r ih =>
    unfold insF
    split
    · rw [List.mem_cons, ih, List.mem_cons]
      constructor
      · rintro (h | h | h)
        · exact .inl (.inl h)
        · exact .inl (.inr h)
        · exact .inr h
      · rintro ((h | h) | h)
        · exact .inl h
        · exact .inr (.inl h)
        · exact .inr (.inr h)
    · split
      · rename_i h; subst h; simp; intro h; exact .inl h
      · simp only [List.mem_cons]
        constructor
        · rintro (h | h | h)
          · exact .inr h
          · exact .inl (.inl h)
          · exact .inl (.inr h)
        · rintro ((h | h) | h)
          · exact .inr (.inl h)
          · exact .inr (.inr h)
          · exact .inl h
theorem asc_insF {l : List ByteArray} (h : Asc l) (s : ByteArray) : Asc (insF l s) := by
  induction l with
  | nil => simp [insF]
  | cons y r ih =>
    obtain ⟨h1, h2⟩ := List.pairwise_cons.1 h
    unfold insF
    split
    · rename_i hlt
      refine List.pairwise_cons.2 ⟨fun x hx => ?_, ih h2⟩
      rcases mem_insF.1 hx with hx | rfl
      · exact h1 x hx
      · exact hlt
    · rename_i hn
      split
      · exact h
      · rename_i hne
        have hsy : ltT s y := by
          rcases ltT_tri y s with k | k | k
          · exact absurd k hn
          · exact absurd k hne
          · exact k
        refine List.pairwise_cons.2 ⟨fun x hx => ?_, h⟩
        rcases List.mem_cons.1 hx with rfl | hx
        · exact hsy
        · exact ltT_trans hsy (h1 x hx)
/-- By places. -/
theorem insF_at : ∀ (l : List ByteArray) (s : ByteArray) (i : Nat), i ≤ l.length → (∀ j, j < i → ltT (l.getD j default) s) → (i < l.length → ¬ ltT (l.getD i default) s) →
    insF l s = if i < l.length ∧ l.getD i default = s then l else l.take i ++ s :: l.drop i
  | [], s, i, hi, _, _ => by
    have : i = 0 := by simpa using hi
    subst this; simp [insF]
  | x :: r, s, 0, hi, h1, h2 => by
    have := h2 (by simp)
    simp only [List.getD_cons_zero] at this
    unfold insF
    rw [if_neg this]
    simp
  | x :: r, s, i + 1, hi, h1, h2 => by
    have h0 := h1 0 (by omega)
    simp only [List.getD_cons_zero] at h0
    unfold insF
    rw [if_pos h0, insF_at r s i (by simpa using hi) (fun j hj => by have := h1 (j + 1) (by omega); simpa using this) (fun hl => by have := h2 (by simpa using hl); simpa using this)]
    simp only [List.length_cons, Nat.add_lt_add_iff_right, List.getD_cons_succ, List.take_succ_cons, List.drop_succ_cons, List.cons_append]
    split <;> rfl
/-- The accounts, by insertion. -/
def accR (l : List En) : List ByteArray := l.foldl (fun o e => insF (insF o e.db) e.cr) []
theorem accR_snoc (l : List En) (e : En) : accR (l ++ [e]) = insF (insF (accR l) e.db) e.cr := by simp [accR]
theorem accR_spec (l : List En) : Asc (accR l) ∧ ∀ s, s ∈ accR l ↔ ∃ e ∈ l, s = e.db ∨ s = e.cr := by
  suffices h : ∀ (l : List En) (o : List ByteArray), Asc o → Asc (l.foldl (fun o e => insF (insF o e.db) e.cr) o) ∧ ∀ s, s ∈ l.foldl (fun o e => insF (insF o e.db) e.cr) o ↔ s ∈ o ∨ ∃ e ∈ l, s = e.db ∨ s = e.cr by
    have := h l [] List.Pairwise.nil
    exact ⟨this.1, fun s => (this.2 s).trans (by simp)⟩
  intro l
  induction l with
  | nil => intro o ho; exact ⟨ho, fun s => by simp⟩
  | cons e r ih =>
    intro o ho
    have := ih (insF (insF o e.db) e.cr) (asc_insF (asc_insF ho _) _)
    refine ⟨this.1, fun s => ?_⟩
    rw [List.foldl_cons, this.2 s, mem_insF, mem_insF]
    constructor
    · rintro (((h | h) | h) | ⟨x, hx, h⟩)
      · exact .inl h
      · exact .inr ⟨e, by simp, .inl h⟩
      · exact .inr ⟨e, by simp, .inr h⟩
      · exact .inr ⟨x, by simp [hx], h⟩
    · rintro (h | ⟨x, hx, h⟩)
      · exact .inl (.inl (.inl h))
      · rcases List.mem_cons.1 hx with rfl | hx
        · rcases h with h | h
          · exact .inl (.inl (.inr h))
          · exact .inl (.inr h)
        · exact .inr ⟨x, hx, h⟩
theorem accR_len (l : List En) : (accR l).length ≤ 2 * l.length := by
  have hins : ∀ (o : List ByteArray) s, (insF o s).length ≤ o.length + 1 := fun o s => by
    induction o with
    | nil => simp [insF]
    | cons y r ih => unfold insF; split; · simp; omega
                     · split <;> simp
  have h : ∀ (l : List En) (o : List ByteArray), (l.foldl (fun o e => insF (insF o e.db) e.cr) o).length ≤ o.length + 2 * l.length := fun l => by
    induction l with
    | nil => intro o; simp
    | cons e r ih =>
      intro o
      have h1 := ih (insF (insF o e.db) e.cr)
      have h2 := hins (insF o e.db) e.cr
      have h3 := hins o e.db
      simp only [List.foldl_cons, List.length_cons]; omega
  simpa [accR] using h l []

/-- The map of the names. -/
def nmM (l : List En) : List (Key × Bool) := l.foldl (fun m e => updK (updK m (.s e.db) true) (.s e.cr) true) []
theorem nmM_snoc (l : List En) (e : En) : nmM (l ++ [e]) = updK (updK (nmM l) (.s e.db) true) (.s e.cr) true := by simp [nmM]
theorem updK_keys (m : List (Key × Bool)) (k : Key) (v : Bool) : ((updK m k v).map (·.1)) = if k ∈ m.map (·.1) then m.map (·.1) else m.map (·.1) ++ [k] := by
  induction m with
  | nil => simp [updK]
  | cons p r ih =>
    unfold updK
    by_cases h : p.1 = k
    · rw [if_pos h]; simp [h]
    · rw [if_neg h, List.map_cons, ih, List.map_cons]
      have h' : ¬ k = p.1 := fun e => h e.symm
      by_cases h2 : k ∈ r.map (·.1)
      · rw [if_pos h2, if_pos (List.mem_cons_of_mem _ h2)]
      · rw [if_neg h2, if_neg (by rw [List.mem_cons]; rintro (e | e); exact h' e; exact h2 e)]; rfl
theorem updK_nodup {m : List (Key × Bool)} (h : (m.map (·.1)).Nodup) (k : Key) (v : Bool) : ((updK m k v).map (·.1)).Nodup := by
  rw [updK_keys]
  split
  · exact h
  · rename_i hk
    exact List.nodup_append.2 ⟨h, by simp, fun a ha b hb e => by
      have : b = k := by simpa using hb
      subst this; subst e; exact hk ha⟩
theorem updK_mem (m : List (Key × Bool)) (k : Key) (v : Bool) (x : Key) : x ∈ (updK m k v).map (·.1) ↔ x ∈ m.map (·.1) ∨ x = k := by
  rw [updK_keys]
  split
  · rename_i hk
    exact ⟨fun h => .inl h, fun h => h.elim id fun e => e ▸ hk⟩
  · rw [List.mem_append, List.mem_singleton]
theorem updK_len (m : List (Key × Bool)) (k : Key) (v : Bool) : (updK m k v).length ≤ m.length + 1 := by
  have := congrArg List.length (updK_keys m k v)
  rw [List.length_map] at this
  rw [this]; split <;> simp
theorem nmM_spec (l : List En) : ((nmM l).map (·.1)).Nodup ∧ (∀ k, k ∈ (nmM l).map (·.1) ↔ ∃ e ∈ l, k = .s e.db ∨ k = .s e.cr) ∧ (nmM l).length ≤ 2 * l.length := by
  suffices h : ∀ (l : List En) (o : List (Key × Bool)), (o.map (·.1)).Nodup → ((l.foldl (fun m e => updK (updK m (.s e.db) true) (.s e.cr) true) o).map (·.1)).Nodup ∧ (∀ k, k ∈ (l.foldl (fun m e => updK (updK m (.s e.db) true) (.s e.cr) true) o).map (·.1) ↔ k ∈ o.map (·.1) ∨ ∃ e ∈ l, k = .s e.db ∨ k = .s e.cr) ∧ (l.foldl (fun m e => updK (updK m (.s e.db) true) (.s e.cr) true) o).length ≤ o.length + 2 * l.length by
    have := h l [] List.nodup_nil
    exact ⟨this.1, fun k => (this.2.1 k).trans (by simp), by have := this.2.2; simp only [List.length_nil, Nat.zero_add] at this; exact this⟩
  intro l
  induction l with
  | nil => intro o ho; exact ⟨ho, fun s => by simp, by simp⟩
  | cons e r ih =>
    intro o ho
    have := ih (updK (updK o (.s e.db) true) (.s e.cr) true) (updK_nodup (updK_nodup ho _ _) _ _)
    refine ⟨this.1, fun s => ?_, ?_⟩
    · rw [List.foldl_cons, this.2.1 s, updK_mem, updK_mem]
      constructor
      · rintro (((h | h) | h) | ⟨x, hx, h⟩)
        · exact .inl h
        · exact .inr ⟨e, by simp, .inl h⟩
        · exact .inr ⟨e, by simp, .inr h⟩
        · exact .inr ⟨x, by simp [hx], h⟩
      · rintro (h | ⟨x, hx, h⟩)
        · exact .inl (.inl (.inl h))
        · rcases List.mem_cons.1 hx with rfl | hx
          · rcases h with h | h
            · exact .inl (.inl (.inr h))
            · exact .inl (.inr h)
          · exact .inr ⟨x, hx, h⟩
    · have h1 := updK_len (updK o (.s e.db) true) (.s e.cr) true
      have h2 := updK_len o (.s e.db) true
      have h3 := this.2.2
      simp only [List.foldl_cons, List.length_cons]; omega
theorem ba_inj {a b : ByteArray} (h : a.data.toList = b.data.toList) : a = b := by
  have : a.data = b.data := Array.toList_inj.1 h
  cases a; cases b; simp_all
/-- The accounts, by the map and a sort. -/
def skF (m : List (Key × Bool)) : List ByteArray := ((bytesOf m).mergeSort leB).map fun x => ⟨x.toArray⟩
theorem bytesOf_mem (l : List En) (x : List UInt8) : x ∈ bytesOf (nmM l) ↔ ∃ e ∈ l, x = e.db.data.toList ∨ x = e.cr.data.toList := by
  obtain ⟨_, h, _⟩ := nmM_spec l
  unfold bytesOf
  rw [List.mem_map]
  constructor
  · rintro ⟨p, hp, rfl⟩
    obtain ⟨e, he, hk⟩ := (h p.1).1 (List.mem_map.2 ⟨p, hp, rfl⟩)
    refine ⟨e, he, ?_⟩
    rcases hk with hk | hk
    · left; rw [hk]
    · right; rw [hk]
  · rintro ⟨e, he, hx⟩
    rcases hx with rfl | rfl
    · obtain ⟨p, hp, hk⟩ := List.mem_map.1 ((h (.s e.db)).2 ⟨e, he, .inl rfl⟩)
      exact ⟨p, hp, by rw [hk]⟩
    · obtain ⟨p, hp, hk⟩ := List.mem_map.1 ((h (.s e.cr)).2 ⟨e, he, .inr rfl⟩)
      exact ⟨p, hp, by rw [hk]⟩
theorem bytesOf_nodup (l : List En) : (bytesOf (nmM l)).Nodup := by
  obtain ⟨h1, h2, _⟩ := nmM_spec l
  have h1' := List.pairwise_map.1 h1
  refine List.pairwise_map.2 (h1'.imp_of_mem fun {p q} hp hq hne e => hne ?_)
  obtain ⟨x, _, hx⟩ := (h2 p.1).1 (List.mem_map.2 ⟨p, hp, rfl⟩)
  obtain ⟨y, _, hy⟩ := (h2 q.1).1 (List.mem_map.2 ⟨q, hq, rfl⟩)
  rcases hx with hx | hx <;> rcases hy with hy | hy <;> (rw [hx, hy] at e ⊢; exact congrArg _ (ba_inj e))
theorem skF_asc (l : List En) : Asc (skF (nmM l)) := by
  have tr : ∀ a b c : List UInt8, leB a b = true → leB b c = true → leB a c = true := fun a b c h1 h2 => by simp only [leB, decide_eq_true_eq] at *; exact List.le_trans h1 h2
  have to : ∀ a b : List UInt8, (leB a b || leB b a) = true := fun a b => by simp only [leB, Bool.or_eq_true, decide_eq_true_eq]; exact List.le_total a b
  have hs := List.pairwise_mergeSort tr to (bytesOf (nmM l))
  have hn : ((bytesOf (nmM l)).mergeSort leB).Nodup := (List.mergeSort_perm _ _).nodup_iff.2 (bytesOf_nodup l)
  refine List.pairwise_map.2 ((hs.and hn).imp fun {a b} h => ?_)
  obtain ⟨h1, h2⟩ := h
  simp only [leB, decide_eq_true_eq] at h1
  show (⟨a.toArray⟩ : ByteArray).data.toList < (⟨b.toArray⟩ : ByteArray).data.toList
  rcases Decidable.em (a < b) with h | h
  · exact h
  · exact absurd (List.le_antisymm h1 (List.not_lt.1 h)) h2
theorem skF_mem (l : List En) (s : ByteArray) : s ∈ skF (nmM l) ↔ ∃ e ∈ l, s = e.db ∨ s = e.cr := by
  unfold skF
  rw [List.mem_map]
  constructor
  · rintro ⟨x, hx, rfl⟩
    rw [(List.mergeSort_perm _ _).mem_iff, bytesOf_mem] at hx
    obtain ⟨e, he, hx⟩ := hx
    refine ⟨e, he, ?_⟩
    rcases hx with rfl | rfl
    · left; exact ba_inj rfl
    · right; exact ba_inj rfl
  · rintro ⟨e, he, hx⟩
    refine ⟨s.data.toList, ?_, ba_inj rfl⟩
    rw [(List.mergeSort_perm _ _).mem_iff, bytesOf_mem]
    exact ⟨e, he, hx.imp (fun h => by rw [h]) (fun h => by rw [h])⟩
theorem skF_eq (l : List En) : skF (nmM l) = accR l :=
  asc_ext (skF_asc l) (accR_spec l).1 fun s => by rw [skF_mem, (accR_spec l).2]
def accF (l : List En) : List ByteArray := if validB l = true then accR l else []
theorem accF_mem {l : List En} (h : validB l = true) (s : ByteArray) : s ∈ accF l ↔ ∃ e ∈ l, s = e.db ∨ s = e.cr := by
  unfold accF; rw [if_pos h]; exact (accR_spec l).2 s
theorem accF_asc (l : List En) : Asc (accF l) := by
  unfold accF; split
  · exact (accR_spec l).1
  · exact List.Pairwise.nil
theorem accF_len (l : List En) : (accF l).length ≤ 2 * l.length := by
  unfold accF; split
  · exact accR_len l
  · simp
end Go.Proofs.Ytjilboaofggppaa
