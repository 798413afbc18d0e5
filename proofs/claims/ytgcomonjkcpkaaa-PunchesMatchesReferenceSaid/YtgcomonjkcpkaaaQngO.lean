/- A region whose order is drawn: the theorem. -/
import Derived.Test.YtgcomonjkcpkaaaQngN
namespace Go.Eng
open Go.RowKit

def elist (E : List (Nat × AV)) (l : List Oper) (val : Nat → AV) (L : Nat → Bool) (k : Nat) : Nat → List (Nat × AV)
  | 0 => E
  | c + 1 => match (if L (k + c) then (l[k + c]?).bind (·.dst) else none) with
    | some d => (d, val (k + c)) :: elist E l val L k c
    | none => elist E l val L k c

section
variable {E : List (Nat × AV)} {l : List Oper} {val : Nat → AV} {L M : Nat → Bool} {k : Nat}

theorem elist_agree (t : Nat) : ∀ c, (∀ i, k ≤ i → i < k + c → (l[i]?).bind (·.dst) = some t → L i = M i) → lk (elist E l val L k c) t = lk (elist E l val M k c) t
  | 0, _ => rfl
  | c + 1, h => by
    have ih := elist_agree t c (fun i h1 h2 => h i h1 (by omega))
    simp only [elist]
    cases hd : (l[k + c]?).bind (·.dst) with
    | none => simp only [ite_self]; exact ih
    | some d =>
      by_cases hdt : d = t
      · subst hdt
        have := h (k + c) (by omega) (by omega) hd
        rw [this]
        cases M (k + c)
        · simpa using ih
        · simp [lk]
      · have aux : ∀ (X : Bool) (R : List (Nat × AV)), lk (match (if X = true then some d else none) with | some d => (d, val (k + c)) :: R | none => R) t = lk R t := fun X R => by
          cases X
          · rfl
          · simp only [if_true, lk]; rw [if_neg hdt]
        rw [aux, aux]; exact ih

theorem elist_all (σ : Nat → St) (j : Nat) (hE : E = (σ k).env) (hq : ∀ i o, k ≤ i → i < j → l[i]? = some o → (σ (i + 1)).env = ((σ i).put o.dst (val i)).env) (hl : j ≤ l.length) (hL : ∀ i, k ≤ i → i < j → L i = true) : ∀ c, k + c ≤ j → elist E l val L k c = (σ (k + c)).env
  | 0, _ => hE
  | c + 1, h => by
    have ih := elist_all σ j hE hq hl hL c (by omega)
    have hlt : k + c < l.length := by omega
    have ho : l[k + c]? = some l[k + c] := List.getElem?_eq_getElem hlt
    have h1 := hq (k + c) _ (by omega) (by omega) ho
    simp only [elist, hL (k + c) (by omega) (by omega), if_true, ho, Option.bind_some]
    rw [ih, show k + (c + 1) = k + c + 1 from rfl, h1]
    cases hd : (l[k + c]).dst <;> simp [St.put]

theorem elist_none (c0 : Nat) (hL : ∀ i, k + c0 ≤ i → L i = false) : ∀ c, c0 ≤ c → elist E l val L k c = elist E l val L k c0
  | 0, h => by have : c0 = 0 := by omega
               subst this; rfl
  | c + 1, h => by
    by_cases e : c0 = c + 1
    · rw [e]
    · have ih := elist_none c0 hL c (by omega)
      simp only [elist, hL (k + c) (by omega)]
      exact ih

theorem elist_put (j d : Nat) (hkj : k ≤ j) (hjd : (l[j]?).bind (·.dst) = some d) (hLj : L j = false) (hM : ∀ i, M i = (L i || i == j)) (hno : ∀ i, j < i → L i = true → (l[i]?).bind (·.dst) ≠ some d) (s : Nat) : ∀ c, lk (elist E l val M k c) s = if j < k + c ∧ d = s then val j else lk (elist E l val L k c) s
  | 0 => by simp only [elist]; rw [if_neg (by omega)]
  | c + 1 => by
    have ih := elist_put j d hkj hjd hLj hM hno s c
    simp only [elist]
    by_cases e : k + c = j
    · rw [e, hM j, hLj, hjd]
      simp only [beq_self_eq_true, Bool.or_true, if_true, lk, Bool.false_eq_true, if_false]
      by_cases hs : d = s
      · rw [if_pos hs, if_pos ⟨by omega, hs⟩]
      · rw [if_neg hs, if_neg (by omega), ih, if_neg (by omega)]
    · have hMc : M (k + c) = L (k + c) := by rw [hM]; simp [e]
      rw [hMc]
      cases hLc : L (k + c)
      · simp only [Bool.false_eq_true, if_false]
        rw [ih]
        by_cases hs : d = s
        · by_cases hj : j < k + c
          · rw [if_pos ⟨hj, hs⟩, if_pos ⟨by omega, hs⟩]
          · rw [if_neg (by omega), if_neg (by omega)]
        · rw [if_neg (by omega), if_neg (by omega)]
      · simp only [if_true]
        cases hd : (l[k + c]?).bind (·.dst) with
        | none =>
          simp only
          rw [ih]
          by_cases hs : d = s
          · by_cases hj : j < k + c
            · rw [if_pos ⟨hj, hs⟩, if_pos ⟨by omega, hs⟩]
            · rw [if_neg (by omega), if_neg (by omega)]
          · rw [if_neg (by omega), if_neg (by omega)]
        | some d' =>
          simp only [lk]
          by_cases hds : d' = s
          · rw [if_pos hds, if_pos hds]
            by_cases hj : j < k + c
            · have := hno (k + c) hj hLc
              rw [hd] at this
              have hne : d ≠ s := fun e => this (by rw [hds, e])
              rw [if_neg (fun hh => hne hh.2)]
            · rw [if_neg (by omega)]
          · rw [if_neg hds, if_neg hds, ih]
            by_cases hs : d = s
            · by_cases hj : j < k + c
              · rw [if_pos ⟨hj, hs⟩, if_pos ⟨by omega, hs⟩]
              · rw [if_neg (by omega), if_neg (by omega)]
            · rw [if_neg (by omega), if_neg (by omega)]

theorem elist_put0 (j : Nat) (hjd : (l[j]?).bind (·.dst) = none) (hM : ∀ i, M i = (L i || i == j)) : ∀ c, elist E l val M k c = elist E l val L k c
  | 0 => rfl
  | c + 1 => by
    have ih := elist_put0 j hjd hM c
    simp only [elist]
    by_cases e : k + c = j
    · rw [e, hjd]; simp only [ite_self]; exact ih
    · have hMc : M (k + c) = L (k + c) := by rw [hM]; simp [e]
      rw [hMc, ih]
end

theorem G.congr {n B : Nat} {w0 : Orig} {st st' : St} {a : Act} {w : World} (hG : G n B w0 st a w) (hE : ∀ s, lk st'.env s = lk st.env s) (hH : st'.heap = st.heap) : G n B w0 st' a w := by
  obtain ⟨ρ, I, h⟩ := hG
  exact ⟨ρ, I, h.defers, h.size, fun s => by rw [hE]; exact h.env s, by rw [hH]; exact h.hw, h.below, h.base, h.old⟩

section
variable {P : Program} {T : Tab} (hT : T.ok P) {n B : Nat} {w0 : Orig} {l : List Oper} {ms : List Nat} (hD : DrawOk l ms)
include hD

theorem closed_mask {L : Nat → Bool} (hdc : ∀ j o, l[j]? = some o → L j = true → ∀ e ∈ o.after, Region.binds .any e = true → L e.on = true) :
    ∀ (m j : Nat), j < m → ∀ o, l[j]? = some o → (∀ e ∈ o.after, Region.binds .any e = true → L e.on = true) → ∀ i, (ms.getD j 0).testBit i = true → L i = true
  | 0, j, hm => by omega
  | m + 1, j, hm => by
    intro o ho hdep i hi
    obtain ⟨e, he, hb, h⟩ := hD.sub j o ho i hi
    have hlt := hD.lt j o ho e he hb
    have hLe := hdep e he hb
    rcases h with h | h
    · rw [← h]; exact hLe
    · have hjl := (List.getElem?_eq_some_iff.1 ho).1
      have ho' : l[e.on]? = some l[e.on] := List.getElem?_eq_getElem (by omega)
      exact closed_mask hdc m e.on (by omega) _ ho' (hdc _ _ ho' hLe) i h

include hT in
theorem any_ok {Q : Exit → Act → World → Prop} (σ : Nat → St) (val : Nat → AV) (hσ : ∀ i o, l[i]? = some o → AStep P T n l.toArray o (fun s => s = σ (i + 1)) (σ i))
    (hval : ∀ i o, l[i]? = some o → quietOp o.op = true → σ (i + 1) = (σ i).put o.dst (val i) ∧ ∀ st' : St, st'.heap = (σ i).heap → (∀ t ∈ o.looksAt l.toArray, lk st'.env t = lk (σ i).env t) → AStep P T n l.toArray o (fun s => s = st'.put o.dst (val i)) st')
    (hQ : ∀ a w, G n B w0 (σ l.length) a w → Q .normal a w) :
    ∀ (fuel : Nat) (listed : Array Bool) (a : Act) (w : World), listed.size = l.length →
      (∀ j o, l[j]? = some o → listed.getD j false = true → ∀ e ∈ o.after, Region.binds .any e = true → listed.getD e.on false = true) →
      (List.range l.length).countP (fun i => !listed.getD i false) ≤ fuel →
      (∃ k, k ≤ l.length ∧ (∀ i, i < k → listed.getD i false = true) ∧ (∀ i, k ≤ i → listed.getD i false = true → ∀ m o, k ≤ m → m ≤ i → l[m]? = some o → quietOp o.op = true) ∧
        G n B w0 ⟨elist (σ k).env l val (fun i => listed.getD i false) k (l.length - k), (σ k).heap⟩ a w) →
      wpAny P .any l.toArray Q fuel listed a w := by
  intro fuel
  -- the states within a segment of quiet operations
  have seg : ∀ k j, k ≤ j → (∀ m o, k ≤ m → m < j → l[m]? = some o → quietOp o.op = true) → j ≤ l.length → (σ j).heap = (σ k).heap := by
    intro k j hkj hq hjl
    induction j with
    | zero => have : k = 0 := by omega
              subst this; rfl
    | succ j ih =>
      by_cases e : k = j + 1
      · rw [e]
      · have hj : j < l.length := by omega
        have ho : l[j]? = some l[j] := List.getElem?_eq_getElem hj
        rw [(hval j _ ho (hq j _ (by omega) (by omega) ho)).1]
        have := ih (by omega) (fun m o h1 h2 => hq m o h1 (by omega)) (by omega)
        rw [← this]
        cases (l[j]).dst <;> rfl
  have segE : ∀ k j, (∀ m o, k ≤ m → m < j → l[m]? = some o → quietOp o.op = true) → ∀ i o, k ≤ i → i < j → l[i]? = some o → (σ (i + 1)).env = ((σ i).put o.dst (val i)).env := fun k j hq i o h1 h2 ho => by
    rw [(hval i o ho (hq i o h1 h2 ho)).1]
  -- when all is listed
  have done : ∀ (listed : Array Bool) (a : Act) (w : World), (∀ i, i < l.length → listed.getD i false = true) → (∃ k, k ≤ l.length ∧ (∀ i, i < k → listed.getD i false = true) ∧ (∀ i, k ≤ i → listed.getD i false = true → ∀ m o, k ≤ m → m ≤ i → l[m]? = some o → quietOp o.op = true) ∧
        G n B w0 ⟨elist (σ k).env l val (fun i => listed.getD i false) k (l.length - k), (σ k).heap⟩ a w) → Q .normal a w := by
    rintro listed a w hall ⟨k, hk, _, hq, hG⟩
    have hq' : ∀ m o, k ≤ m → m < l.length → l[m]? = some o → quietOp o.op = true := fun m o h1 h2 ho => hq m h1 (hall m h2) m o h1 (Nat.le_refl _) ho
    have hE := elist_all (l := l) (val := val) (L := fun i => listed.getD i false) (k := k) σ l.length rfl (segE k l.length hq') (Nat.le_refl _) (fun i _ h2 => hall i h2) (l.length - k) (by omega)
    refine hQ a w (hG.congr (fun s => ?_) ?_)
    · show lk (σ l.length).env s = lk (elist _ _ _ _ _ _) s
      rw [hE, show k + (l.length - k) = l.length from by omega]
    · exact seg k l.length hk hq' (Nat.le_refl _)
  have getD_true : ∀ (listed : Array Bool) (j : Nat), listed.size = l.length → j < l.length → listed.getD j true = listed.getD j false := fun listed j hs hj => by
    have : j < listed.size := by omega
    simp [this]
  have notready : ∀ (listed : Array Bool), listed.size = l.length → Region.ready .any l.toArray listed = [] → ∀ i, i < l.length → listed.getD i false = true := by
    intro listed hs hr
    have key : ∀ m i, i < m → i < l.length → listed.getD i false = true := by
      intro m
      induction m with
      | zero => intro i h; omega
      | succ m ih =>
        intro i hm hi
        cases hL : listed.getD i false with
        | true => rfl
        | false =>
          exfalso
          have ho : l[i]? = some l[i] := List.getElem?_eq_getElem hi
          have : i ∈ Region.ready .any l.toArray listed := by
            simp only [Region.ready, List.mem_filter, List.mem_range, Bool.and_eq_true]
            refine ⟨by simpa using hi, by rw [getD_true listed i hs hi, hL]; rfl, ?_⟩
            simp only [List.getElem?_toArray, ho, Option.map_some, Option.getD_some]
            rw [Array.all_eq_true_iff_forall_mem]
            intro e he
            cases hb : Region.binds .any e with
            | false => rfl
            | true =>
              have hlt := hD.lt i _ ho e he hb
              rw [ih e.on (by omega) (by omega)]; rfl
          rw [hr] at this; cases this
    exact fun i hi => key (i + 1) i (by omega) hi
  induction fuel with
  | zero =>
    intro listed a w hs hdc hcnt hinv
    have hall : ∀ i, i < l.length → listed.getD i false = true := by
      intro i hi
      have h0 : (List.range l.length).countP (fun i => !listed.getD i false) = 0 := by omega
      rw [List.countP_eq_zero] at h0
      have := h0 i (by simpa using hi)
      simpa using this
    refine ⟨?_, done listed a w hall hinv⟩
    apply List.eq_nil_iff_forall_not_mem.2
    intro i hi
    simp only [Region.ready, List.mem_filter, List.mem_range, Bool.and_eq_true] at hi
    have hil : i < l.length := by simpa using hi.1
    have := hi.2.1
    rw [getD_true listed i hs hil, hall i hil] at this
    cases this
  | succ fuel ih =>
    intro listed a w hs hdc hcnt hinv
    refine ⟨fun hr => done listed a w (notready listed hs hr) hinv, fun j hj => ?_⟩
    simp only [Region.ready, List.mem_filter, List.mem_range, Bool.and_eq_true] at hj
    obtain ⟨hjl, hjn, hjd⟩ := hj
    have hjl : j < l.length := by simpa using hjl
    have hLj : listed.getD j false = false := by rw [getD_true listed j hs hjl] at hjn; simpa using hjn
    have ho : l[j]? = some l[j] := List.getElem?_eq_getElem hjl
    have hdep : ∀ e ∈ (l[j]).after, Region.binds .any e = true → listed.getD e.on false = true := by
      simp only [List.getElem?_toArray, ho, Option.map_some, Option.getD_some] at hjd
      rw [Array.all_eq_true_iff_forall_mem] at hjd
      intro e he hb
      have := hjd e he
      simpa [hb] using this
    have hcl := closed_mask hD hdc (j + 1) j (by omega) _ ho hdep
    -- what comes behind j in the text and is tied to it has not come up
    have hafter : ∀ i oi, j < i → l[i]? = some oi → conf l.toArray l[j] oi = true → listed.getD i false = false := by
      intro i oi hji hoi hc
      cases hL : listed.getD i false with
      | false => rfl
      | true =>
        have := closed_mask hD hdc (i + 1) i (by omega) _ hoi (hdc i oi hoi hL) j (hD.conf j i _ _ hji ho hoi hc)
        rw [hLj] at this; cases this
    have hbefore : ∀ i oi, i < j → l[i]? = some oi → conf l.toArray oi l[j] = true → listed.getD i false = true := fun i oi hij hoi hc => hcl i (hD.conf i j _ _ hij hoi ho hc)
    obtain ⟨k, hk, hpre, hqs, hG⟩ := hinv
    have hkj : k ≤ j := by
      rcases Nat.lt_or_ge j k with h | h
      · rw [hpre j h] at hLj; cases hLj
      · exact h
    have hM : ∀ i, (listed.setIfInBounds j true).getD i false = (listed.getD i false || i == j) := by
      intro i
      by_cases e : j = i
      · subst e
        have : j < listed.size := by omega
        simp [this]
      · have : (i == j) = false := by simp; omega
        rw [this, Bool.or_false]
        simp [Array.getD_eq_getD_getElem?, Array.getElem?_setIfInBounds_ne e]
    have hs' : (listed.setIfInBounds j true).size = l.length := by simp [hs]
    have hdc' : ∀ i o, l[i]? = some o → (listed.setIfInBounds j true).getD i false = true → ∀ e ∈ o.after, Region.binds .any e = true → (listed.setIfInBounds j true).getD e.on false = true := by
      intro i o hoi hL e he hb
      rw [hM] at hL ⊢
      rcases Bool.or_eq_true_iff.1 hL with hL | hL
      · rw [hdc i o hoi hL e he hb]; rfl
      · have : i = j := by simpa using hL
        subst this
        rw [ho] at hoi; injection hoi with hoi; subst hoi
        rw [hdep e he hb]; rfl
    have hcnt' : (List.range l.length).countP (fun i => !(listed.setIfInBounds j true).getD i false) ≤ fuel := by
      have : (List.range l.length).countP (fun i => !(listed.setIfInBounds j true).getD i false) < (List.range l.length).countP (fun i => !listed.getD i false) := by
        refine countP_lt (fun i _ h => ?_) ⟨j, by simpa using hjl, by rw [hLj]; rfl, by rw [hM]; simp⟩
        rw [hM] at h
        cases h1 : listed.getD i false <;> simp_all
      omega
    have hwp : ∀ (st : St) (K : St → Prop), G n B w0 st a w → AStep P T n l.toArray l[j] K st → (∀ st' a' w', K st' → G n B w0 st' a' w' → wpAny P .any l.toArray Q fuel (listed.setIfInBounds j true) a' w') → wpOp P l.toArray Q j (wpAny P .any l.toArray Q fuel (listed.setIfInBounds j true)) a w := by
      rintro st K ⟨ρ, I, hg⟩ hst hnext
      have := astep_ok hT hg hst (wpAny P .any l.toArray Q fuel (listed.setIfInBounds j true)) Q hnext
      unfold wpOp
      simp only [List.getElem?_toArray, ho]
      split
      · rename_i hw; rw [if_pos hw] at this; exact .inl this
      · rename_i hw; rw [if_neg hw] at this; exact this
    by_cases hq : quietOp (l[j]).op = true
    · -- a quiet operation
      have hqseg : ∀ m o, k ≤ m → m ≤ j → l[m]? = some o → quietOp o.op = true := by
        intro m o h1 h2 hom
        by_cases e : m = j
        · subst e; rw [ho] at hom; injection hom with hom; subst hom; exact hq
        · cases hqm : quietOp o.op with
          | true => rfl
          | false =>
            have hL := hbefore m o (by omega) hom (by simp [conf, hqm])
            have := hqs m h1 hL m o h1 (Nat.le_refl _) hom
            rw [hqm] at this; cases this
      obtain ⟨_, hv2⟩ := hval j _ ho hq
      have hheap : (σ j).heap = (σ k).heap := seg k j hkj (fun m o h1 h2 => hqseg m o h1 (by omega)) (by omega)
      have hlook : ∀ t ∈ (l[j]).looksAt l.toArray, lk (elist (σ k).env l val (fun i => listed.getD i false) k (l.length - k)) t = lk (σ j).env t := by
        intro t ht
        have e1 := elist_agree (E := (σ k).env) (l := l) (val := val) (L := fun i => listed.getD i false) (M := fun i => decide (i < j)) (k := k) t (l.length - k) (fun i h1 h2 hd => by
          have hil : i < l.length := by omega
          have hoi : l[i]? = some l[i] := List.getElem?_eq_getElem hil
          rw [hoi] at hd
          simp only [Option.bind_some] at hd
          rcases Nat.lt_trichotomy i j with h | h | h
          · rw [hbefore i _ h hoi (by simp [conf, hd, ht])]; simp [h]
          · subst h; rw [hLj]; simp
          · rw [hafter i _ h hoi (by simp [conf, hd, ht])]; simp; omega)
        rw [e1]
        have e2 := elist_none (E := (σ k).env) (l := l) (val := val) (L := fun i => decide (i < j)) (k := k) (j - k) (fun i hi => by simp; omega) (l.length - k) (by omega)
        have e3 := elist_all (l := l) (val := val) (L := fun i => decide (i < j)) (k := k) σ j rfl (segE k j (fun m o h1 h2 => hqseg m o h1 (by omega))) (by omega) (fun i _ h2 => by simp [h2]) (j - k) (by omega)
        rw [e2, e3, show k + (j - k) = j from by omega]
      have hst := hv2 ⟨elist (σ k).env l val (fun i => listed.getD i false) k (l.length - k), (σ k).heap⟩ hheap.symm hlook
      refine hwp _ _ hG hst ?_
      rintro st' a' w' rfl hG'
      refine ih _ a' w' hs' hdc' hcnt' ⟨k, hk, fun i hi => by rw [hM, hpre i hi]; rfl, fun i hi hL m o h1 h2 hom => ?_, ?_⟩
      · rw [hM] at hL
        rcases Bool.or_eq_true_iff.1 hL with hL | hL
        · exact hqs i hi hL m o h1 h2 hom
        · have : i = j := by simpa using hL
          subst this
          exact hqseg m o h1 h2 hom
      · refine hG'.congr (fun s => ?_) (by cases (l[j]).dst <;> rfl)
        cases hd : (l[j]).dst with
        | none =>
          have e := elist_put0 (E := (σ k).env) (l := l) (val := val) (L := fun i => listed.getD i false) (M := fun i => (listed.setIfInBounds j true).getD i false) (k := k) j (by rw [ho]; exact hd) hM (l.length - k)
          show lk (elist _ _ _ _ _ _) s = lk (elist _ _ _ _ _ _) s
          rw [e]
        | some d =>
          have e := elist_put (E := (σ k).env) (l := l) (val := val) (L := fun i => listed.getD i false) (M := fun i => (listed.setIfInBounds j true).getD i false) (k := k) j d hkj (by rw [ho]; exact hd) hLj hM (fun i hji hL hdi => by
            have hil : i < l.length := by
              rcases Nat.lt_or_ge i l.length with h | h
              · exact h
              · rw [List.getElem?_eq_none h] at hdi; cases hdi
            have hoi : l[i]? = some l[i] := List.getElem?_eq_getElem hil
            rw [hoi] at hdi
            simp only [Option.bind_some] at hdi
            have := hafter i _ hji hoi (by simp [conf, hd, hdi])
            rw [this] at hL; cases hL) s (l.length - k)
          show lk (elist _ _ _ _ _ _) s = lk ((d, val j) :: elist _ _ _ _ _ _) s
          rw [e]
          simp only [lk]
          by_cases hds : d = s
          · rw [if_pos ⟨by omega, hds⟩, if_pos hds]
          · rw [if_neg (fun hh => hds hh.2), if_neg hds]
    · -- one that turns memory: all that stands ahead of it in the text has come up, nothing behind it
      have hq' : quietOp (l[j]).op = false := by simpa using hq
      have hb : ∀ i, i < j → listed.getD i false = true := fun i hi => hbefore i _ hi (List.getElem?_eq_getElem (by omega)) (by simp [conf, hq'])
      have ha : ∀ i, j < i → listed.getD i false = false := fun i hi => by
        rcases Nat.lt_or_ge i l.length with h | h
        · exact hafter i _ hi (List.getElem?_eq_getElem h) (by simp [conf, hq'])
        · simp [Array.getD_eq_getD_getElem?, Array.getElem?_eq_none (show listed.size ≤ i by omega)]
      have hqseg : ∀ m o, k ≤ m → m < j → l[m]? = some o → quietOp o.op = true := fun m o h1 h2 hom => hqs m h1 (hb m h2) m o h1 (Nat.le_refl _) hom
      have hheap : (σ j).heap = (σ k).heap := seg k j hkj hqseg (by omega)
      have e2 := elist_none (E := (σ k).env) (l := l) (val := val) (L := fun i => listed.getD i false) (k := k) (j - k) (fun i hi => by
        rcases Nat.lt_or_ge j i with h | h
        · exact ha i h
        · have : i = j := by omega
          subst this; exact hLj) (l.length - k) (by omega)
      have e3 := elist_all (l := l) (val := val) (L := fun i => listed.getD i false) (k := k) σ j rfl (segE k j hqseg) (by omega) (fun i _ h2 => hb i h2) (j - k) (by omega)
      have hGj : G n B w0 (σ j) a w := hG.congr (fun s => by
        show lk (σ j).env s = lk (elist _ _ _ _ _ _) s
        rw [e2, e3, show k + (j - k) = j from by omega]) hheap
      refine hwp _ _ hGj (hσ j _ ho) ?_
      rintro st' a' w' rfl hG'
      have hnone : ∀ i, j + 1 ≤ i → (listed.setIfInBounds j true).getD i false = false := fun i hi => by
        rw [hM, ha i (by omega)]; simp; omega
      refine ih _ a' w' hs' hdc' hcnt' ⟨j + 1, by omega, fun i hi => ?_, (fun i hi hL => by rw [hnone i hi] at hL; cases hL), hG'.congr (fun s => ?_) rfl⟩
      · rw [hM]
        rcases Nat.lt_or_ge i j with h | h
        · rw [hb i h]; rfl
        · have : i = j := by omega
          subst this; simp
      · have e4 := elist_none (E := (σ (j + 1)).env) (l := l) (val := val) (L := fun i => (listed.setIfInBounds j true).getD i false) (k := j + 1) 0 (fun i hi => hnone i (by omega)) (l.length - (j + 1)) (Nat.zero_le _)
        show lk (elist _ _ _ _ _ _) s = _
        rw [e4]; rfl
end

/-- A region whose order is drawn. -/
theorem awp_draw {P : Program} {T : Tab} (hT : T.ok P) {n B : Nat} {w0 : Orig} {Q : Exit → St → Prop} {st : St} {id : Nat} {l : List Oper} (hm : P.follows .mixedOrders = true) (hD : drawOk l (Region.before l.toArray).toList = true)
    (h : AOps P T n l.toArray (fun st' => Q .normal st') l st) : AWP P n B w0 (.region id l.toArray true) Q st := by
  intro a w hG
  have hD' := drawOk_spec hD
  obtain ⟨σ, s0, sN, sS⟩ := trace_ex l st h
  have hval : ∃ val : Nat → AV, ∀ i o, l[i]? = some o → quietOp o.op = true → σ (i + 1) = (σ i).put o.dst (val i) ∧ ∀ st' : St, st'.heap = (σ i).heap → (∀ t ∈ o.looksAt l.toArray, lk st'.env t = lk (σ i).env t) → AStep P T n l.toArray o (fun s => s = st'.put o.dst (val i)) st' := by
    have hex : ∀ i, ∃ v, ∀ o, l[i]? = some o → quietOp o.op = true → σ (i + 1) = (σ i).put o.dst v ∧ ∀ st' : St, st'.heap = (σ i).heap → (∀ t ∈ o.looksAt l.toArray, lk st'.env t = lk (σ i).env t) → AStep P T n l.toArray o (fun s => s = st'.put o.dst v) st' := by
      intro i
      cases ho : l[i]? with
      | none => exact ⟨.top, fun o h => by cases h⟩
      | some o =>
        by_cases hq : quietOp o.op = true
        · obtain ⟨r, h1, h2⟩ := quiet_step hq (sS i o ho)
          exact ⟨r, fun o' h' _ => by injection h' with h'; subst h'; exact ⟨h1.symm, h2⟩⟩
        · exact ⟨.top, fun o' h' hq' => by injection h' with h'; subst h'; exact absurd hq' hq⟩
    exact ⟨fun i => Classical.choose (hex i), fun i => Classical.choose_spec (hex i)⟩
  obtain ⟨val, hv⟩ := hval
  refine wp_region_any hm ?_
  have hG' : G n B w0 st a { w with drawn := w.drawn + 1 } := by
    obtain ⟨ρ, I, hg⟩ := hG
    exact ⟨ρ, I, hg.quiet ⟨⟨rfl, rfl, rfl, Nat.le_refl _, fun _ _ => rfl⟩, fun _ h => h, fun _ h h' => absurd h h', hg.hw.lt⟩⟩
  have hfalse : ∀ i, (Array.replicate l.toArray.size false).getD i false = false := fun i => by
    by_cases hi : i < l.length <;> simp [Array.getD_eq_getD_getElem?, hi]
  refine any_ok hT hD' σ val sS hv (fun a w hg => ⟨_, sN, hg⟩) _ _ a _ (by simp) (fun j o _ hL => by rw [hfalse] at hL; cases hL) ?_ ⟨0, Nat.zero_le _, (fun i hi => by omega), (fun i _ hL => by rw [hfalse] at hL; cases hL), ?_⟩
  · have := List.countP_le_length (p := fun i => !(Array.replicate l.toArray.size false).getD i false) (l := List.range l.length)
    simpa using this
  · refine hG'.congr (fun s => ?_) (by rw [s0])
    have e := elist_none (E := (σ 0).env) (l := l) (val := val) (L := fun i => (Array.replicate l.toArray.size false).getD i false) (k := 0) 0 (fun i _ => hfalse i) (l.length - 0) (Nat.zero_le _)
    show lk (elist _ _ _ _ _ _) s = _
    rw [e]
    show lk (σ 0).env s = _
    rw [s0]

theorem awp_dseq {P : Program} {T : Tab} (hT : T.ok P) (hm : P.follows .mixedOrders = true) {n B : Nat} {w0 : Orig} {Q : Exit → St → Prop} {st : St} {id : Nat} {l : List Oper} {y : Code} (hD : drawOk l (Region.before l.toArray).toList = true)
    (h : ∀ K : St → Prop, (∀ s, AWP P n B w0 y Q s → K s) → AOps P T n l.toArray K l st) : AWP P n B w0 (.seq (.region id l.toArray true) y) Q st :=
  awp_seq (awp_draw hT hm hD (h _ fun _ h => h))
theorem awp_d {P : Program} {T : Tab} (hT : T.ok P) (hm : P.follows .mixedOrders = true) {n B : Nat} {w0 : Orig} {Q : Exit → St → Prop} {st : St} {id : Nat} {l : List Oper} (hD : drawOk l (Region.before l.toArray).toList = true)
    (h : ∀ K : St → Prop, (∀ s, Q .normal s → K s) → AOps P T n l.toArray K l st) : AWP P n B w0 (.region id l.toArray true) Q st := awp_draw hT hm hD (h _ fun _ h => h)

end Go.Eng
