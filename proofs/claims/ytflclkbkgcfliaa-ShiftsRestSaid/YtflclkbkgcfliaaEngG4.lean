/- Part of a proof about the given program: contracts of its functions (see the comment of the last text). -/
import Derived.Test.YtflclkbkgcfliaaEngG3
import Derived.OpenShut
import Derived.ChangeOld
/- A region whose order is drawn: the theorem. -/
namespace Go.Eng
open Go.RowKit

def elist (E : List (Nat × AV)) (l : List Oper) (val : Nat → AV) (L : Nat → Bool) (k : Nat) : Nat → List (Nat × AV)
  | 0 => E
  | c + 1 => match (if L (k + c) then (l[k + c]?).bind (·.dst) else none) with
    | some d => (d, val (k + c)) :: elist E l val L k c
    | none => elist E l val L k c

section
variable {E : List (Nat × AV)} {l : List Oper} {val : Nat → AV} {L M : Nat → Bool} {k : Nat}

theorem elist_agree (t : Nat) : ∀ c, (∀ i, k ≤ i → i < k + c → (l[i]?).bind (·.dst) = some t → L i = M i) → lk (elist E l val L k c) t = lk (elist E l val M k c) t
  | 0, _ => rfl
  | c + 1, h => by
    have ih := elist_agree t c (fun i h1 h2 => h i h1 (by omega))
    simp only [elist]
    cases hd : (l[k + c]?).bind (·.dst) with
    | none => simp only [ite_self]; exact ih
    | some d =>
      by_cases hdt : d = t
      · subst hdt
        have := h (k + c) (by omega) (by omega) hd
        rw [this]
        cases M (k + c)
        · simpa using ih
        · simp [lk]
      · have aux : ∀ (X : Bool) (R : List (Nat × AV)), lk (match (if X = true then some d else none) with | some d => (d, val (k + c)) :: R | none => R) t = lk R t := fun X R => by
          cases X
          · rfl
          · simp only [if_true, lk]; rw [if_neg hdt]
        rw [aux, aux]; exact ih

theorem elist_all (σ : Nat → St) (j : Nat) (hE : E = (σ k).env) (hq : ∀ i o, k ≤ i → i < j → l[i]? = some o → (σ (i + 1)).env = ((σ i).put o.dst (val i)).env) (hl : j ≤ l.length) (hL : ∀ i, k ≤ i → i < j → L i = true) : ∀ c, k + c ≤ j → elist E l val L k c = (σ (k + c)).env
  | 0, _ => hE
  | c + 1, h => by
    have ih := elist_all σ j hE hq hl hL c (by omega)
    have hlt : k + c < l.length := by omega
    have ho : l[k + c]? = some l[k + c] := List.getElem?_eq_getElem hlt
    have h1 := hq (k + c) _ (by omega) (by omega) ho
    simp only [elist, hL (k + c) (by omega) (by omega), if_true, ho, Option.bind_some]
    rw [ih, show k + (c + 1) = k + c + 1 from rfl, h1]
    cases hd : (l[k + c]).dst <;> simp [St.put]

theorem elist_none (c0 : Nat) (hL : ∀ i, k + c0 ≤ i → L i = false) : ∀ c, c0 ≤ c → elist E l val L k c = elist E l val L k c0
  | 0, h => by have : c0 = 0 := by omega
               subst this; rfl
  | c + 1, h => by
    by_cases e : c0 = c + 1
    · rw [e]
    · have ih := elist_none c0 hL c (by omega)
      simp only [elist, hL (k + c) (by omega)]
      exact ih

theorem elist_put (j d : Nat) (hkj : k ≤ j) (hjd : (l[j]?).bind (·.dst) = some d) (hLj : L j = false) (hM : ∀ i, M i = (L i || i == j)) (hno : ∀ i, j < i → L i = true → (l[i]?).bind (·.dst) ≠ some d) (s : Nat) : ∀ c, lk (elist E l val M k c) s = if j < k + c ∧ d = s then val j else lk (elist E l val L k c) s
  | 0 => by simp only [elist]; rw [if_neg (by omega)]
  | c + 1 => by
    have ih := elist_put j d hkj hjd hLj hM hno s c
    simp only [elist]
    by_cases e : k + c = j
    · rw [e, hM j, hLj, hjd]
      simp only [beq_self_eq_true, Bool.or_true, if_true, lk, Bool.false_eq_true, if_false]
      by_cases hs : d = s
      · rw [if_pos hs, if_pos ⟨by omega, hs⟩]
      · rw [if_neg hs, if_neg (by omega), ih, if_neg (by omega)]
    · have hMc : M (k + c) = L (k + c) := by rw [hM]; simp [e]
      rw [hMc]
      cases hLc : L (k + c)
      · simp only [Bool.false_eq_true, if_false]
        rw [ih]
        by_cases hs : d = s
        · by_cases hj : j < k + c
          · rw [if_pos ⟨hj, hs⟩, if_pos ⟨by omega, hs⟩]
          · rw [if_neg (by omega), if_neg (by omega)]
        · rw [if_neg (by omega), if_neg (by omega)]
      · simp only [if_true]
        cases hd : (l[k + c]?).bind (·.dst) with
        | none =>
          simp only
          rw [ih]
          by_cases hs : d = s
          · by_cases hj : j < k + c
            · rw [if_pos ⟨hj, hs⟩, if_pos ⟨by omega, hs⟩]
            · rw [if_neg (by omega), if_neg (by omega)]
          · rw [if_neg (by omega), if_neg (by omega)]
        | some d' =>
          simp only [lk]
          by_cases hds : d' = s
          · rw [if_pos hds, if_pos hds]
            by_cases hj : j < k + c
            · have := hno (k + c) hj hLc
              rw [hd] at this
              have hne : d ≠ s := fun e => this (by rw [hds, e])
              rw [if_neg (fun hh => hne hh.2)]
            · rw [if_neg (by omega)]
          · rw [if_neg hds, if_neg hds, ih]
            by_cases hs : d = s
            · by_cases hj : j < k + c
              · rw [if_pos ⟨hj, hs⟩, if_pos ⟨by omega, hs⟩]
              · rw [if_neg (by omega), if_neg (by omega)]
            · rw [if_neg (by omega), if_neg (by omega)]

theorem elist_put0 (j : Nat) (hjd : (l[j]?).bind (·.dst) = none) (hM : ∀ i, M i = (L i || i == j)) : ∀ c, elist E l val M k c = elist E l val L k c
  | 0 => rfl
  | c + 1 => by
    have ih := elist_put0 j hjd hM c
    simp only [elist]
    by_cases e : k + c = j
    · rw [e, hjd]; simp only [ite_self]; exact ih
    · have hMc : M (k + c) = L (k + c) := by rw [hM]; simp [e]
      rw [hMc, ih]
end

theorem G.congr {n B : Nat} {w0 : Orig} {st st' : St} {a : Act} {w : World} (hG : G n B w0 st a w) (hE : ∀ s, lk st'.env s = lk st.env s) (hH : st'.heap = st.heap) : G n B w0 st' a w := by
  obtain ⟨ρ, I, h⟩ := hG
  exact ⟨ρ, I, h.defers, h.size, fun s => by rw [hE]; exact h.env s, by rw [hH]; exact h.hw, h.below, h.base, h.old⟩

section
variable {P : Program} {T : Tab} (hT : T.ok P) {n B : Nat} {w0 : Orig} {l : List Oper} {ms : List Nat} (hD : DrawOk l ms)
include hD

theorem closed_mask {L : Nat → Bool} (hdc : ∀ j o, l[j]? = some o → L j = true → ∀ e ∈ o.after, Region.binds .any e = true → L e.on = true) :
    ∀ (m j : Nat), j < m → ∀ o, l[j]? = some o → (∀ e ∈ o.after, Region.binds .any e = true → L e.on = true) → ∀ i, (ms.getD j 0).testBit i = true → L i = true
  | 0, j, hm => by omega
  | m + 1, j, hm => by
    intro o ho hdep i hi
    obtain ⟨e, he, hb, h⟩ := hD.sub j o ho i hi
    have hlt := hD.lt j o ho e he hb
    have hLe := hdep e he hb
    rcases h with h | h
    · rw [← h]; exact hLe
    · have hjl := (List.getElem?_eq_some_iff.1 ho).1
      have ho' : l[e.on]? = some l[e.on] := List.getElem?_eq_getElem (by omega)
      exact closed_mask hdc m e.on (by omega) _ ho' (hdc _ _ ho' hLe) i h

include hT in
theorem any_ok {Q : Exit → Act → World → Prop} (σ : Nat → St) (val : Nat → AV) (hσ : ∀ i o, l[i]? = some o → AStep P T n l.toArray o (fun s => s = σ (i + 1)) (σ i))
    (hval : ∀ i o, l[i]? = some o → quietOp o.op = true → σ (i + 1) = (σ i).put o.dst (val i) ∧ ∀ st' : St, st'.heap = (σ i).heap → (∀ t ∈ o.looksAt l.toArray, lk st'.env t = lk (σ i).env t) → AStep P T n l.toArray o (fun s => s = st'.put o.dst (val i)) st')
    (hQ : ∀ a w, G n B w0 (σ l.length) a w → Q .normal a w) :
    ∀ (fuel : Nat) (listed : Array Bool) (a : Act) (w : World), listed.size = l.length →
      (∀ j o, l[j]? = some o → listed.getD j false = true → ∀ e ∈ o.after, Region.binds .any e = true → listed.getD e.on false = true) →
      (List.range l.length).countP (fun i => !listed.getD i false) ≤ fuel →
      (∃ k, k ≤ l.length ∧ (∀ i, i < k → listed.getD i false = true) ∧ (∀ i, k ≤ i → listed.getD i false = true → ∀ m o, k ≤ m → m ≤ i → l[m]? = some o → quietOp o.op = true) ∧
        G n B w0 ⟨elist (σ k).env l val (fun i => listed.getD i false) k (l.length - k), (σ k).heap⟩ a w) →
      wpAnyIn (fo w0) 0 P .any l.toArray Q fuel listed a w := by
  intro fuel
  -- the states within a segment of quiet operations
  have seg : ∀ k j, k ≤ j → (∀ m o, k ≤ m → m < j → l[m]? = some o → quietOp o.op = true) → j ≤ l.length → (σ j).heap = (σ k).heap := by
    intro k j hkj hq hjl
    induction j with
    | zero => have : k = 0 := by omega
              subst this; rfl
    | succ j ih =>
      by_cases e : k = j + 1
      · rw [e]
      · have hj : j < l.length := by omega
        have ho : l[j]? = some l[j] := List.getElem?_eq_getElem hj
        rw [(hval j _ ho (hq j _ (by omega) (by omega) ho)).1]
        have := ih (by omega) (fun m o h1 h2 => hq m o h1 (by omega)) (by omega)
        rw [← this]
        cases (l[j]).dst <;> rfl
  have segE : ∀ k j, (∀ m o, k ≤ m → m < j → l[m]? = some o → quietOp o.op = true) → ∀ i o, k ≤ i → i < j → l[i]? = some o → (σ (i + 1)).env = ((σ i).put o.dst (val i)).env := fun k j hq i o h1 h2 ho => by
    rw [(hval i o ho (hq i o h1 h2 ho)).1]
  -- when all is listed
  have done : ∀ (listed : Array Bool) (a : Act) (w : World), (∀ i, i < l.length → listed.getD i false = true) → (∃ k, k ≤ l.length ∧ (∀ i, i < k → listed.getD i false = true) ∧ (∀ i, k ≤ i → listed.getD i false = true → ∀ m o, k ≤ m → m ≤ i → l[m]? = some o → quietOp o.op = true) ∧
        G n B w0 ⟨elist (σ k).env l val (fun i => listed.getD i false) k (l.length - k), (σ k).heap⟩ a w) → Q .normal a w := by
    rintro listed a w hall ⟨k, hk, _, hq, hG⟩
    have hq' : ∀ m o, k ≤ m → m < l.length → l[m]? = some o → quietOp o.op = true := fun m o h1 h2 ho => hq m h1 (hall m h2) m o h1 (Nat.le_refl _) ho
    have hE := elist_all (l := l) (val := val) (L := fun i => listed.getD i false) (k := k) σ l.length rfl (segE k l.length hq') (Nat.le_refl _) (fun i _ h2 => hall i h2) (l.length - k) (by omega)
    refine hQ a w (hG.congr (fun s => ?_) ?_)
    · show lk (σ l.length).env s = lk (elist _ _ _ _ _ _) s
      rw [hE, show k + (l.length - k) = l.length from by omega]
    · exact seg k l.length hk hq' (Nat.le_refl _)
  have getD_true : ∀ (listed : Array Bool) (j : Nat), listed.size = l.length → j < l.length → listed.getD j true = listed.getD j false := fun listed j hs hj => by
    have : j < listed.size := by omega
    simp [this]
  have notready : ∀ (listed : Array Bool), listed.size = l.length → Region.ready .any l.toArray listed = [] → ∀ i, i < l.length → listed.getD i false = true := by
    intro listed hs hr
    have key : ∀ m i, i < m → i < l.length → listed.getD i false = true := by
      intro m
      induction m with
      | zero => intro i h; omega
      | succ m ih =>
        intro i hm hi
        cases hL : listed.getD i false with
        | true => rfl
        | false =>
          exfalso
          have ho : l[i]? = some l[i] := List.getElem?_eq_getElem hi
          have : i ∈ Region.ready .any l.toArray listed := by
            simp only [Region.ready, List.mem_filter, List.mem_range, Bool.and_eq_true]
            refine ⟨by simpa using hi, by rw [getD_true listed i hs hi, hL]; rfl, ?_⟩
            simp only [List.getElem?_toArray, ho, Option.map_some, Option.getD_some]
            rw [Array.all_eq_true_iff_forall_mem]
            intro e he
            cases hb : Region.binds .any e with
            | false => rfl
            | true =>
              have hlt := hD.lt i _ ho e he hb
              rw [ih e.on (by omega) (by omega)]; rfl
          rw [hr] at this; cases this
    exact fun i hi => key (i + 1) i (by omega) hi
  induction fuel with
  | zero =>
    intro listed a w hs hdc hcnt hinv
    have hall : ∀ i, i < l.length → listed.getD i false = true := by
      intro i hi
      have h0 : (List.range l.length).countP (fun i => !listed.getD i false) = 0 := by omega
      rw [List.countP_eq_zero] at h0
      have := h0 i (by simpa using hi)
      simpa using this
    refine ⟨?_, done listed a w hall hinv⟩
    apply List.eq_nil_iff_forall_not_mem.2
    intro i hi
    simp only [Region.ready, List.mem_filter, List.mem_range, Bool.and_eq_true] at hi
    have hil : i < l.length := by simpa using hi.1
    have := hi.2.1
    rw [getD_true listed i hs hil, hall i hil] at this
    cases this
  | succ fuel ih =>
    intro listed a w hs hdc hcnt hinv
    refine ⟨fun hr => done listed a w (notready listed hs hr) hinv, fun j hj => ?_⟩
    simp only [Region.ready, List.mem_filter, List.mem_range, Bool.and_eq_true] at hj
    obtain ⟨hjl, hjn, hjd⟩ := hj
    have hjl : j < l.length := by simpa using hjl
    have hLj : listed.getD j false = false := by rw [getD_true listed j hs hjl] at hjn; simpa using hjn
    have ho : l[j]? = some l[j] := List.getElem?_eq_getElem hjl
    have hdep : ∀ e ∈ (l[j]).after, Region.binds .any e = true → listed.getD e.on false = true := by
      simp only [List.getElem?_toArray, ho, Option.map_some, Option.getD_some] at hjd
      rw [Array.all_eq_true_iff_forall_mem] at hjd
      intro e he hb
      have := hjd e he
      simpa [hb] using this
    have hcl := closed_mask hD hdc (j + 1) j (by omega) _ ho hdep
    -- what comes behind j in the text and is tied to it has not come up
    have hafter : ∀ i oi, j < i → l[i]? = some oi → conf l.toArray l[j] oi = true → listed.getD i false = false := by
      intro i oi hji hoi hc
      cases hL : listed.getD i false with
      | false => rfl
      | true =>
        have := closed_mask hD hdc (i + 1) i (by omega) _ hoi (hdc i oi hoi hL) j (hD.conf j i _ _ hji ho hoi hc)
        rw [hLj] at this; cases this
    have hbefore : ∀ i oi, i < j → l[i]? = some oi → conf l.toArray oi l[j] = true → listed.getD i false = true := fun i oi hij hoi hc => hcl i (hD.conf i j _ _ hij hoi ho hc)
    obtain ⟨k, hk, hpre, hqs, hG⟩ := hinv
    have hkj : k ≤ j := by
      rcases Nat.lt_or_ge j k with h | h
      · rw [hpre j h] at hLj; cases hLj
      · exact h
    have hM : ∀ i, (listed.setIfInBounds j true).getD i false = (listed.getD i false || i == j) := by
      intro i
      by_cases e : j = i
      · subst e
        have : j < listed.size := by omega
        simp [this]
      · have : (i == j) = false := by simp; omega
        rw [this, Bool.or_false]
        simp [Array.getD_eq_getD_getElem?, Array.getElem?_setIfInBounds_ne e]
    have hs' : (listed.setIfInBounds j true).size = l.length := by simp [hs]
    have hdc' : ∀ i o, l[i]? = some o → (listed.setIfInBounds j true).getD i false = true → ∀ e ∈ o.after, Region.binds .any e = true → (listed.setIfInBounds j true).getD e.on false = true := by
      intro i o hoi hL e he hb
      rw [hM] at hL ⊢
      rcases Bool.or_eq_true_iff.1 hL with hL | hL
      · rw [hdc i o hoi hL e he hb]; rfl
      · have : i = j := by simpa using hL
        subst this
        rw [ho] at hoi; injection hoi with hoi; subst hoi
        rw [hdep e he hb]; rfl
    have hcnt' : (List.range l.length).countP (fun i => !(listed.setIfInBounds j true).getD i false) ≤ fuel := by
      have : (List.range l.length).countP (fun i => !(listed.setIfInBounds j true).getD i false) < (List.range l.length).countP (fun i => !listed.getD i false) := by
        refine countP_lt (fun i _ h => ?_) ⟨j, by simpa using hjl, by rw [hLj]; rfl, by rw [hM]; simp⟩
        rw [hM] at h
        cases h1 : listed.getD i false <;> simp_all
      omega
    have hwp : ∀ (st : St) (K : St → Prop), G n B w0 st a w → AStep P T n l.toArray l[j] K st → (∀ st' a' w', K st' → G n B w0 st' a' w' → wpAnyIn (fo w0) 0 P .any l.toArray Q fuel (listed.setIfInBounds j true) a' w') → wpOpIn (fo w0) 0 P l.toArray Q j (wpAnyIn (fo w0) 0 P .any l.toArray Q fuel (listed.setIfInBounds j true)) a w := by
      rintro st K ⟨ρ, I, hg⟩ hst hnext
      have := astep_ok hT hg hst (wpAnyIn (fo w0) 0 P .any l.toArray Q fuel (listed.setIfInBounds j true)) Q hnext
      unfold wpOpIn
      simp only [List.getElem?_toArray, ho]
      exact toIf (fun _ => astep_nd hst) this
    by_cases hq : quietOp (l[j]).op = true
    · -- a quiet operation
      have hqseg : ∀ m o, k ≤ m → m ≤ j → l[m]? = some o → quietOp o.op = true := by
        intro m o h1 h2 hom
        by_cases e : m = j
        · subst e; rw [ho] at hom; injection hom with hom; subst hom; exact hq
        · cases hqm : quietOp o.op with
          | true => rfl
          | false =>
            have hL := hbefore m o (by omega) hom (by simp [conf, hqm])
            have := hqs m h1 hL m o h1 (Nat.le_refl _) hom
            rw [hqm] at this; cases this
      obtain ⟨_, hv2⟩ := hval j _ ho hq
      have hheap : (σ j).heap = (σ k).heap := seg k j hkj (fun m o h1 h2 => hqseg m o h1 (by omega)) (by omega)
      have hlook : ∀ t ∈ (l[j]).looksAt l.toArray, lk (elist (σ k).env l val (fun i => listed.getD i false) k (l.length - k)) t = lk (σ j).env t := by
        intro t ht
        have e1 := elist_agree (E := (σ k).env) (l := l) (val := val) (L := fun i => listed.getD i false) (M := fun i => decide (i < j)) (k := k) t (l.length - k) (fun i h1 h2 hd => by
          have hil : i < l.length := by omega
          have hoi : l[i]? = some l[i] := List.getElem?_eq_getElem hil
          rw [hoi] at hd
          simp only [Option.bind_some] at hd
          rcases Nat.lt_trichotomy i j with h | h | h
          · rw [hbefore i _ h hoi (by simp [conf, hd, ht])]; simp [h]
          · subst h; rw [hLj]; simp
          · rw [hafter i _ h hoi (by simp [conf, hd, ht])]; simp; omega)
        rw [e1]
        have e2 := elist_none (E := (σ k).env) (l := l) (val := val) (L := fun i => decide (i < j)) (k := k) (j - k) (fun i hi => by simp; omega) (l.length - k) (by omega)
        have e3 := elist_all (l := l) (val := val) (L := fun i => decide (i < j)) (k := k) σ j rfl (segE k j (fun m o h1 h2 => hqseg m o h1 (by omega))) (by omega) (fun i _ h2 => by simp [h2]) (j - k) (by omega)
        rw [e2, e3, show k + (j - k) = j from by omega]
      have hst := hv2 ⟨elist (σ k).env l val (fun i => listed.getD i false) k (l.length - k), (σ k).heap⟩ hheap.symm hlook
      refine hwp _ _ hG hst ?_
      rintro st' a' w' rfl hG'
      refine ih _ a' w' hs' hdc' hcnt' ⟨k, hk, fun i hi => by rw [hM, hpre i hi]; rfl, fun i hi hL m o h1 h2 hom => ?_, ?_⟩
      · rw [hM] at hL
        rcases Bool.or_eq_true_iff.1 hL with hL | hL
        · exact hqs i hi hL m o h1 h2 hom
        · have : i = j := by simpa using hL
          subst this
          exact hqseg m o h1 h2 hom
      · refine hG'.congr (fun s => ?_) (by cases (l[j]).dst <;> rfl)
        cases hd : (l[j]).dst with
        | none =>
          have e := elist_put0 (E := (σ k).env) (l := l) (val := val) (L := fun i => listed.getD i false) (M := fun i => (listed.setIfInBounds j true).getD i false) (k := k) j (by rw [ho]; exact hd) hM (l.length - k)
          show lk (elist _ _ _ _ _ _) s = lk (elist _ _ _ _ _ _) s
          rw [e]
        | some d =>
          have e := elist_put (E := (σ k).env) (l := l) (val := val) (L := fun i => listed.getD i false) (M := fun i => (listed.setIfInBounds j true).getD i false) (k := k) j d hkj (by rw [ho]; exact hd) hLj hM (fun i hji hL hdi => by
            have hil : i < l.length := by
              rcases Nat.lt_or_ge i l.length with h | h
              · exact h
              · rw [List.getElem?_eq_none h] at hdi; cases hdi
            have hoi : l[i]? = some l[i] := List.getElem?_eq_getElem hil
            rw [hoi] at hdi
            simp only [Option.bind_some] at hdi
            have := hafter i _ hji hoi (by simp [conf, hd, hdi])
            rw [this] at hL; cases hL) s (l.length - k)
          show lk (elist _ _ _ _ _ _) s = lk ((d, val j) :: elist _ _ _ _ _ _) s
          rw [e]
          simp only [lk]
          by_cases hds : d = s
          · rw [if_pos ⟨by omega, hds⟩, if_pos hds]
          · rw [if_neg (fun hh => hds hh.2), if_neg hds]
    · -- one that turns memory: all that stands ahead of it in the text has come up, nothing behind it
      have hq' : quietOp (l[j]).op = false := by simpa using hq
      have hb : ∀ i, i < j → listed.getD i false = true := fun i hi => hbefore i _ hi (List.getElem?_eq_getElem (by omega)) (by simp [conf, hq'])
      have ha : ∀ i, j < i → listed.getD i false = false := fun i hi => by
        rcases Nat.lt_or_ge i l.length with h | h
        · exact hafter i _ hi (List.getElem?_eq_getElem h) (by simp [conf, hq'])
        · simp [Array.getD_eq_getD_getElem?, Array.getElem?_eq_none (show listed.size ≤ i by omega)]
      have hqseg : ∀ m o, k ≤ m → m < j → l[m]? = some o → quietOp o.op = true := fun m o h1 h2 hom => hqs m h1 (hb m h2) m o h1 (Nat.le_refl _) hom
      have hheap : (σ j).heap = (σ k).heap := seg k j hkj hqseg (by omega)
      have e2 := elist_none (E := (σ k).env) (l := l) (val := val) (L := fun i => listed.getD i false) (k := k) (j - k) (fun i hi => by
        rcases Nat.lt_or_ge j i with h | h
        · exact ha i h
        · have : i = j := by omega
          subst this; exact hLj) (l.length - k) (by omega)
      have e3 := elist_all (l := l) (val := val) (L := fun i => listed.getD i false) (k := k) σ j rfl (segE k j hqseg) (by omega) (fun i _ h2 => hb i h2) (j - k) (by omega)
      have hGj : G n B w0 (σ j) a w := hG.congr (fun s => by
        show lk (σ j).env s = lk (elist _ _ _ _ _ _) s
        rw [e2, e3, show k + (j - k) = j from by omega]) hheap
      refine hwp _ _ hGj (hσ j _ ho) ?_
      rintro st' a' w' rfl hG'
      have hnone : ∀ i, j + 1 ≤ i → (listed.setIfInBounds j true).getD i false = false := fun i hi => by
        rw [hM, ha i (by omega)]; simp; omega
      refine ih _ a' w' hs' hdc' hcnt' ⟨j + 1, by omega, fun i hi => ?_, (fun i hi hL => by rw [hnone i hi] at hL; cases hL), hG'.congr (fun s => ?_) rfl⟩
      · rw [hM]
        rcases Nat.lt_or_ge i j with h | h
        · rw [hb i h]; rfl
        · have : i = j := by omega
          subst this; simp
      · have e4 := elist_none (E := (σ (j + 1)).env) (l := l) (val := val) (L := fun i => (listed.setIfInBounds j true).getD i false) (k := j + 1) 0 (fun i hi => hnone i (by omega)) (l.length - (j + 1)) (Nat.zero_le _)
        show lk (elist _ _ _ _ _ _) s = _
        rw [e4]; rfl
end

/-- A region whose order is drawn. -/
theorem awp_draw {P : Program} {T : Tab} (hT : T.ok P) {n B : Nat} {w0 : Orig} {Q : Exit → St → Prop} {st : St} {id : Nat} {l : List Oper} (hm : P.follows .mixedOrders = true) (hD : drawOk l (Region.before l.toArray).toList = true)
    (h : AOps P T n l.toArray (fun st' => Q .normal st') l st) : AWP P n B w0 (.region id l.toArray true) Q st := by
  intro a w hG
  have hD' := drawOk_spec hD
  obtain ⟨σ, s0, sN, sS⟩ := trace_ex l st h
  have hval : ∃ val : Nat → AV, ∀ i o, l[i]? = some o → quietOp o.op = true → σ (i + 1) = (σ i).put o.dst (val i) ∧ ∀ st' : St, st'.heap = (σ i).heap → (∀ t ∈ o.looksAt l.toArray, lk st'.env t = lk (σ i).env t) → AStep P T n l.toArray o (fun s => s = st'.put o.dst (val i)) st' := by
    have hex : ∀ i, ∃ v, ∀ o, l[i]? = some o → quietOp o.op = true → σ (i + 1) = (σ i).put o.dst v ∧ ∀ st' : St, st'.heap = (σ i).heap → (∀ t ∈ o.looksAt l.toArray, lk st'.env t = lk (σ i).env t) → AStep P T n l.toArray o (fun s => s = st'.put o.dst v) st' := by
      intro i
      cases ho : l[i]? with
      | none => exact ⟨.top, fun o h => by cases h⟩
      | some o =>
        by_cases hq : quietOp o.op = true
        · obtain ⟨r, h1, h2⟩ := quiet_step hq (sS i o ho)
          exact ⟨r, fun o' h' _ => by injection h' with h'; subst h'; exact ⟨h1.symm, h2⟩⟩
        · exact ⟨.top, fun o' h' hq' => by injection h' with h'; subst h'; exact absurd hq' hq⟩
    exact ⟨fun i => Classical.choose (hex i), fun i => Classical.choose_spec (hex i)⟩
  obtain ⟨val, hv⟩ := hval
  refine wpIn_region_any hm ?_
  have hG' : G n B w0 st a { w with drawn := w.drawn + 1 } := by
    obtain ⟨ρ, I, hg⟩ := hG
    exact ⟨ρ, I, hg.quiet ⟨⟨rfl, rfl, rfl, Nat.le_refl _, fun _ _ => rfl⟩, fun _ h => h, fun _ h h' => absurd h h', hg.hw.lt⟩⟩
  have hfalse : ∀ i, (Array.replicate l.toArray.size false).getD i false = false := fun i => by
    by_cases hi : i < l.length <;> simp [Array.getD_eq_getD_getElem?, hi]
  refine any_ok hT hD' σ val sS hv (fun a w hg => ⟨_, sN, hg⟩) _ _ a _ (by simp) (fun j o _ hL => by rw [hfalse] at hL; cases hL) ?_ ⟨0, Nat.zero_le _, (fun i hi => by omega), (fun i _ hL => by rw [hfalse] at hL; cases hL), ?_⟩
  · have := List.countP_le_length (p := fun i => !(Array.replicate l.toArray.size false).getD i false) (l := List.range l.length)
    simpa using this
  · refine hG'.congr (fun s => ?_) (by rw [s0])
    have e := elist_none (E := (σ 0).env) (l := l) (val := val) (L := fun i => (Array.replicate l.toArray.size false).getD i false) (k := 0) 0 (fun i _ => hfalse i) (l.length - 0) (Nat.zero_le _)
    show lk (elist _ _ _ _ _ _) s = _
    rw [e]
    show lk (σ 0).env s = _
    rw [s0]

theorem awp_dseq {P : Program} {T : Tab} (hT : T.ok P) (hm : P.follows .mixedOrders = true) {n B : Nat} {w0 : Orig} {Q : Exit → St → Prop} {st : St} {id : Nat} {l : List Oper} {y : Code} (hD : drawOk l (Region.before l.toArray).toList = true)
    (h : ∀ K : St → Prop, (∀ s, AWP P n B w0 y Q s → K s) → AOps P T n l.toArray K l st) : AWP P n B w0 (.seq (.region id l.toArray true) y) Q st :=
  awp_seq (awp_draw hT hm hD (h _ fun _ h => h))
theorem awp_d {P : Program} {T : Tab} (hT : T.ok P) (hm : P.follows .mixedOrders = true) {n B : Nat} {w0 : Orig} {Q : Exit → St → Prop} {st : St} {id : Nat} {l : List Oper} (hD : drawOk l (Region.before l.toArray).toList = true)
    (h : ∀ K : St → Prop, (∀ s, Q .normal s → K s) → AOps P T n l.toArray K l st) : AWP P n B w0 (.region id l.toArray true) Q st := awp_draw hT hm hD (h _ fun _ h => h)

end Go.Eng
/- Small laws for the use of the calculus. -/
namespace Go.Eng
open Go.RowKit

theorem wrap64 {n : Int} (h1 : -9223372036854775808 ≤ n) (h2 : n ≤ 9223372036854775807) : IntKind.i64.wrap n = n := by rw [IntKind.wrap_i64]; omega
theorem bif_and (b x : Bool) : (bif b then x else false) = (b && x) := by cases b <;> rfl
theorem bif_or (b x : Bool) : (bif b then true else x) = (b || x) := by cases b <;> rfl
theorem bif_nand (b x : Bool) : (bif b then false else x) = (!b && x) := by cases b <;> rfl

/-- A nil slice is an owned row of no element. -/
theorem G.nilRow {n B : Nat} {w0 : Orig} {st : St} {a : Act} {w : World} (hG : G n B w0 st a w) (s d : Nat) (hs : lk st.env s = .v (.slice none 0 0)) (hsn : s < n) (e : TypeId) (sz : Nat) (c : Cont) (hc : c.len = 0) (hdn : d < n := by decide) :
    G n B w0 ⟨(s, .s d) :: killE d st.env, (d, .row e sz c) :: killH d st.heap⟩ a w := by
  obtain ⟨ρ, I, hg⟩ := hG
  have hv : a.tmps.getD s undef = .slice none 0 0 := by
    have := hg.env s
    rw [hs] at this
    exact this.v_inv
  have h1 := hg.new (Below.refl _ w) d (.slice none 0 0) (.row e sz c) ⟨0, [], World.ownsRow_nil w B e sz, by simp [hc], fun j u hu => by simp at hu⟩ (fun b hb => by simp [rootBlk] at hb) (hg.old.ghn d hdn)
  have h2 := h1.put (d := some s) (x := .s d) (u := .slice none 0 0) (fun k hk => by injection hk with hk; omega) (.s d _ (updρ_self _ _ _) rfl)
  refine ⟨_, I, h2.defers, h1.size, fun t => ?_, h2.hw, h2.below, h2.base, h2.old⟩
  have h3 := h2.env t
  have : (a.put (some s) (.slice none 0 0)).tmps.getD t undef = a.tmps.getD t undef := by
    simp only [Act.put]
    by_cases e : s = t
    · subst e
      rw [hv]
      have : s < a.tmps.size := by rw [hg.size]; exact hsn
      simp [Array.getD_eq_getD_getElem?, this]
    · simp [Array.getD_eq_getD_getElem?, Array.getElem?_setIfInBounds_ne e]
  rw [this] at h3
  exact h3

theorem G.weaken {n B : Nat} {w0 : Orig} {st st' : St} {a : Act} {w : World} (hG : G n B w0 st a w) (hE : wkE st.env st'.env) (hH : wkH st.heap st'.heap) : G n B w0 st' a w := G.wk hE hH a w hG

theorem awp_wk {P : Program} {n B : Nat} {w0 : Orig} {c : Code} {Q : Exit → St → Prop} {st : St} (st' : St) (hE : wkE st.env st'.env) (hH : wkH st.heap st'.heap) (h : AWP P n B w0 c Q st') : AWP P n B w0 c Q st := fun a w hG => h a w (hG.weaken hE hH)

/-- All that x stands for, y stands for. -/
def Sub (x y : AV) : Prop := ∀ (B : Nat) (I : Nat → Prop) (w : World) (u : Value), Conc B I w noId x u → Conc B I w noId y u
theorem Sub.refl (x : AV) : Sub x x := fun _ _ _ _ h => h
def SubL : List AV → List AV → Prop
  | [], [] => True
  | x :: r, y :: s => Sub x y ∧ SubL r s
  | _, _ => False
theorem SubL.spec : ∀ {xs ys : List AV}, SubL xs ys → ys.length = xs.length ∧ ∀ j, Sub (xs.getD j .top) (ys.getD j .top)
  | [], [], _ => ⟨rfl, fun _ => Sub.refl _⟩
  | x :: r, y :: s, h => by
    obtain ⟨h1, h2⟩ := SubL.spec h.2
    refine ⟨by simp [h1], fun j => ?_⟩
    cases j with
    | zero => simpa using h.1
    | succ j => simpa using h2 j
  | [], _ :: _, h => h.elim
  | _ :: _, [], h => h.elim
theorem Pure.sub {P : Program} {f : FuncId} {xs ys : List AV} {r : AV} (h : Pure P f ys r) (hs : SubL xs ys) : Pure P f xs r := by
  obtain ⟨h1, h2⟩ := hs.spec
  exact ⟨h.1, fun w I vs hI hc => h.2 w I vs hI ⟨by rw [hc.1, h1], fun j hj => h2 j _ _ _ _ (hc.2 j (by rw [← h1]; exact hj))⟩⟩
theorem Pure.eq {P : Program} {f : FuncId} {xs : List AV} {r r' : AV} (h : Pure P f xs r) (e : r = r') : Pure P f xs r' := e ▸ h

abbrev I64 (n : Int) : AV := .v (.int .i64 n)
abbrev BL (b : Bool) : AV := .v (.bool b)
/-- A slice of ints that nobody writes: one that came in; one that was made. -/
abbrev ints (l : List Int) : AV := .i false (fun e _ => .v (.int .i64 (l.getD e 0))) 1 0 l.length
abbrev intsF (l : List Int) : AV := .i true (fun e _ => .v (.int .i64 (l.getD e 0))) 1 0 l.length

theorem sub_slice {fr : Bool} {c c' : Nat → Nat → AV} {sz off off' len len' : Nat} (hl : len = len') (h : ∀ e j, e < len → j < sz → c (off + e) j = c' (off' + e) j) : Sub (.i fr c sz off len) (.i fr c' sz off' len') := by
  subst hl
  intro B I w u hu
  cases hu with
  | i _ _ _ _ _ cap A uu hcap hA hc => exact .i _ _ _ _ _ cap A uu hcap hA (fun e j he hj => by rw [← h e j he hj]; exact hc e j he hj)
theorem getD_drop_take {l : List Int} {off len e : Nat} (h : e < len) : ((l.drop off).take len).getD e 0 = l.getD (off + e) 0 := by
  simp [List.getD_eq_getElem?_getD, h]
theorem sub_ints {l : List Int} {off len : Nat} (h : off + len ≤ l.length) : Sub (.i false (fun e _ => .v (.int .i64 (l.getD e 0))) 1 off len) (ints ((l.drop off).take len)) :=
  sub_slice (by simp; omega) (fun e j he _ => by rw [Nat.zero_add, getD_drop_take he])
theorem sub_ints0 {l : List Int} {len : Nat} (h : len ≤ l.length) : Sub (.i false (fun e _ => .v (.int .i64 (l.getD e 0))) 1 0 len) (ints (l.take len)) := by
  have := sub_ints (l := l) (off := 0) (len := len) (by omega)
  simpa using this
theorem sub_nil : Sub (.v (.slice none 0 0)) (ints []) := fun B I w u hu => by
  obtain rfl := hu.v_inv
  exact .i _ _ _ _ _ _ _ (fun _ _ => undef) (by simp) (fun h => by simp at h) (fun e j he => by simp at he)
end Go.Eng
/- A region in parts. -/
namespace Go.Eng
theorem al_mono {T : Tab} {st : St} {o : Oper} {K K' : St → Prop} (h : al T st o K) (hk : ∀ s, K s → K' s) : al T st o K' := by
  cases ho : o.op <;> simp only [al, ho] at h ⊢ <;> first | exact h.elim | skip
  case alloc t => split at h <;> first | exact h.elim | exact hk _ h
  case box t x => split at h <;> first | exact h.elim | exact ⟨h.1, hk _ h.2⟩
  case store t x y =>
    split at h <;> first | exact h.elim | skip
    split at h <;> first | exact h.elim | skip
    · split at h <;> first | exact h.elim | exact ⟨h.1, hk _ h.2⟩
    · split at h <;> first | exact h.elim | exact ⟨h.1, hk _ h.2⟩
  case makeSlice t l c =>
    split at h <;> first | exact h.elim | skip
    split at h <;> first | exact h.elim | exact ⟨h.1, hk _ h.2⟩
  case call c =>
    split at h <;> first | exact h.elim | skip
    split at h <;> first | exact h.elim | skip
    split at h <;> first | exact h.elim | skip
    split at h <;> first | exact h.elim | skip
    split at h
    · obtain ⟨ys, h1, h2⟩ := h
      exact ⟨ys, h1, hk _ h2⟩
    · split at h <;> first | exact h.elim | skip
      obtain ⟨ys, h1, h2⟩ := h
      exact ⟨ys, h1, hk _ h2⟩

theorem aops_append {P : Program} {T : Tab} {n : Nat} {ops : Array Oper} {K : St → Prop} : ∀ (l1 l2 : List Oper) (st : St), AOps P T n ops (fun s => AOps P T n ops K l2 s) l1 st → AOps P T n ops K (l1 ++ l2) st
  | [], _, _, h => h
  | o :: l1, l2, st, h => by
    obtain ⟨st', h1, h2⟩ := step_ex h
    have h3 := aops_append l1 l2 st' h2
    show AStep P T n ops o (fun s => AOps P T n ops K (l1 ++ l2) s) st
    obtain ⟨hd, h1⟩ := h1
    refine ⟨hd, ?_⟩
    split at h1
    · exact h1.elim
    · split at h1
      · exact ⟨h1.1, by rw [h1.2]; exact h3⟩
      · split at h1
        · exact ⟨h1.1, by rw [h1.2]; exact h3⟩
        · split at h1
          · obtain ⟨a, r, b, c⟩ := h1; exact ⟨a, r, b, by rw [c]; exact h3⟩
          · obtain ⟨s2, a, b⟩ := al_ex h1
            subst b
            exact al_mono a (fun s hs => by subst hs; exact h3)
    · split at h1
      · exact ⟨h1.1, by rw [h1.2]; exact h3⟩
      · split at h1
        · exact ⟨h1.1, by rw [h1.2]; exact h3⟩
        · split at h1
          · obtain ⟨r, b, c⟩ := h1; exact ⟨r, b, by rw [c]; exact h3⟩
          · exact h1.elim
theorem aops_at {P : Program} {T : Tab} {n : Nat} {ops : Array Oper} {K : St → Prop} {l : List Oper} {st : St} (k : Nat) (h : ∀ K' : St → Prop, (∀ s, AOps P T n ops K (l.drop k) s → K' s) → AOps P T n ops K' (l.take k) st) : AOps P T n ops K l st := by
  have := aops_append (l.take k) (l.drop k) st (h _ fun _ h => h)
  rwa [List.take_append_drop] at this
end Go.Eng
/- From a function's contract to its call with arguments that came in. -/
namespace Go.Eng
open Go.RowKit

/-- A slice of integers that came in: nil, or a row of which the first 'len' are its elements. -/
def InRow (k : IntKind) (w : World) (a : Option Addr) (len cap : Nat) (zs : List Int) : Prop :=
  (a = none ∧ len = 0 ∧ cap = 0 ∧ zs = []) ∨
  ∃ x, a = some x ∧ len ≤ cap ∧ cap ≤ maxLen ∧ zs.length = cap ∧ (∀ i, i < zs.length → w.cell? (x.add i) = some (.int k (zs.getD i 0))) ∧ ∀ n ∈ zs, (Lit.int k n).wf = true

theorem InRow.conc {k : IntKind} {w : World} {a : Option Addr} {len cap : Nat} {zs : List Int} (h : InRow k w a len cap zs) {B : Nat} {ρ : Nat → Option Value} :
    Conc B (allB w) w ρ (.i false (fun e _ => .v (.int k ((zs.take len).getD e 0))) 1 0 (zs.take len).length) (.slice a len cap) := by
  rcases h with ⟨rfl, rfl, rfl, rfl⟩ | ⟨x, rfl, h1, h2, h3, h4, _⟩
  · exact .i _ _ _ _ _ _ _ (fun _ _ => undef) (Nat.le_refl _) (fun hp => by simp at hp) (fun e f he => by simp at he)
  · have hl : (zs.take len).length = len := by simp; omega
    rw [hl]
    have hg : ∀ e, e < len → (zs.take len).getD e 0 = zs.getD e 0 := fun e he => by
      simp [List.getD_eq_getElem?_getD, he]
    refine .i _ _ _ _ _ _ _ (fun e _ => .int k (zs.getD e 0)) h1 (fun hp => ⟨x, rfl, ?_, (fun hh => by cases hh), fun e f he hf => ?_⟩) (fun e f he hf => ?_)
    · have := World.block_lt_of_cell? w _ (h4 0 (by omega))
      simpa [Addr.add, allB] using this
    · obtain rfl : f = 0 := by omega
      simpa using h4 e (by omega)
    · rw [Nat.zero_add, hg e he]; exact .v _

theorem wf64 {n : Int} (h : (Lit.int .i64 n).wf = true) : -9223372036854775808 ≤ n ∧ n ≤ 9223372036854775807 := by
  simp only [Lit.wf, Bool.and_eq_true, decide_eq_true_eq] at h
  have h1 : IntKind.i64.min = -9223372036854775808 := by decide
  have h2 : IntKind.i64.max = 9223372036854775807 := by decide
  omega

theorem InRow.mem {k : IntKind} {w : World} {a : Option Addr} {len cap : Nat} {zs : List Int} (h : InRow k w a len cap zs) : ∀ n ∈ zs.take len, (Lit.int k n).wf = true := by
  intro n hn
  have hn' := List.mem_of_mem_take hn
  rcases h with ⟨_, _, _, rfl⟩ | ⟨x, _, _, _, _, _, h⟩
  · cases hn'
  · exact h n hn'

theorem ConcL.cons {B : Nat} {I : Nat → Prop} {w : World} {ρ : Nat → Option Value} {x : AV} {u : Value} {cs : List AV} {us : List Value} (h : Conc B I w ρ x u) (hl : ConcL B I w ρ cs us) : ConcL B I w ρ (x :: cs) (u :: us) := by
  refine ⟨by simp [hl.1], fun j hj => ?_⟩
  cases j with
  | zero => simpa using h
  | succ j => simpa using hl.2 j (by simpa using hj)

theorem ConcL.nil {B : Nat} {I : Nat → Prop} {w : World} {ρ : Nat → Option Value} : ConcL B I w ρ [] [] := ⟨rfl, fun j hj => by simp at hj⟩

/-- What a frame asks of a law: it returns true and writes nothing that was there. -/
theorem Pure.walk {P : Program} {f : FuncId} {args : List AV} {b : Value} (h : Pure P f args (.v b)) {vs : Array Value} {w : World} (hc : ConcL w.heap.size (allB w) w noId args vs.toList) :
    Calls P f vs w fun e w' => e = .returned b ∧ Below w.heap.size w w' :=
  (h.2 w (allB w) vs (fun _ h => h) hc).mono fun e w' ⟨v, he, hb, hv⟩ => ⟨by rw [he, hv.v_inv], hb⟩
end Go.Eng
namespace Go.Eng
open Go.RowKit
attribute [push_cast] AOps AStep dstOk guardB AV.cnd pv pvLoad pvIndexAddr pvFieldAddr pvField pvExtract pvBin pvUn pvPick pvSlice pvLen pvMin pvMax pvConvert pvIndex pvNil pvBuild intOp strOp asNat? AV.strip AV.cond qb callee? condL pubL al lk lkH St.ev ofVal St.put TK.agg cellsFrom Blk.cont Cont.at Cont.len Cont.upd Cont.updL Cont.updL0 cellsOf AV.one oneC oneL AV.nor AV.norL killE killH AV.kill AV.killL Blk.kill Cont.kill delH lessH srcOf baseOf fillA setFrom toInts argEnv AV.fresh AV.freshL Nat.mul_one Nat.one_mul Nat.div_one Nat.zero_add Nat.add_zero Nat.mul_zero Nat.zero_mul Nat.sub_zero true_and and_true and_self if_true if_false Bool.false_eq_true List.map_cons List.map_nil List.getElem?_toArray List.getElem?_cons_succ List.getElem?_cons_zero List.getD_cons_zero List.getD_cons_succ Option.bind_some Option.map_some Option.map_none List.length_cons List.length_nil List.size_toArray cond_true cond_false ne_eq Nat.zero_lt_one Nat.lt_add_one implies_true false_implies true_implies Bool.and_true Bool.true_and Bool.true_or Bool.or_true Bool.false_or Bool.or_false Bool.not_true Bool.not_false Bool.and_self List.cons_append List.nil_append List.set_cons_zero List.set_cons_succ Value.cells forall_const Nat.lt_irrefl not_true_eq_false not_false_eq_true List.append_nil List.drop_zero eq_self Bool.and_false Bool.false_and and_false false_and bif_and bif_or bif_nand I64 BL ints intsF
section
variable (fl : Bool) (H : List (Nat × Blk)) (n : Nat)
theorem pub_v (y : Value) : AV.pub fl H (n + 1) (.v y) = .v y := rfl
theorem pub_s (id : Nat) : AV.pub fl H (n + 1) (.s id) = (match lkH H id with
      | some (.row _ sz (.ints k l)) => if sz = 1 then .i fl (fun e _ => .v (.int k (l.getD e 0))) 1 0 l.length else .top
      | some (.row _ sz (.vals l)) => if 0 < sz then .i fl (fun e j => .v (l.getD (e * sz + j) undef)) sz 0 (l.length / sz) else .top
      | some (.row _ sz (.avs l)) => if 0 < sz then .i fl (fun e j => AV.pub fl H n (l.getD (e * sz + j) .top)) sz 0 (l.length / sz) else .top
      | _ => .top) := rfl
theorem pub_w (id off len : Nat) : AV.pub fl H (n + 1) (.w id off len) = (match lkH H id with
      | some (.row _ sz (.ints k l)) => if sz = 1 ∧ off + len ≤ l.length then .i fl (fun e _ => .v (.int k (l.getD e 0))) 1 off len else .top
      | _ => .top) := rfl
theorem pub_p (id off : Nat) : AV.pub fl H (n + 1) (.p id off) = (match lkH H id with
      | some blk => .q fl (fun _ j => AV.pub fl H n (blk.cont.at j)) blk.cont.len 0 off
      | none => .top) := rfl
theorem pub_i (fr : Bool) (c : Nat → Nat → AV) (sz off len : Nat) : AV.pub fl H (n + 1) (.i fr c sz off len) = .i (fr && fl) (fun e j => AV.pub fl H n (c e j)) sz off len := rfl
theorem pub_q (fr : Bool) (c : Nat → Nat → AV) (sz e j : Nat) : AV.pub fl H (n + 1) (.q fr c sz e j) = .q (fr && fl) (fun e j => AV.pub fl H n (c e j)) sz e j := rfl
theorem pub_a (cs : List AV) : AV.pub fl H (n + 1) (.a cs) = .a (cs.map (AV.pub fl H n)) := rfl
theorem pub_t (cs : List AV) : AV.pub fl H (n + 1) (.t cs) = .t (cs.map (AV.pub fl H n)) := rfl
theorem pub_f (fn : Fn) (cs : List AV) : AV.pub fl H (n + 1) (.f fn cs) = .f fn (cs.map (AV.pub fl H n)) := rfl
theorem pub_g (b : Bool) (y : AV) : AV.pub fl H (n + 1) (.g b y) = .g b (AV.pub fl H n y) := rfl
theorem pub_top : AV.pub fl H (n + 1) .top = .top := rfl
theorem pub_getD (l : List AV) (j : Nat) : AV.pub fl H (n + 1) (l.getD j .top) = (l.map (AV.pub fl H (n + 1))).getD j .top := by
  by_cases h : j < l.length
  · rw [getD_map_pub _ _ _ _ _ h]
  · have e1 : l.getD j .top = .top := by simp [List.getD_eq_getElem?_getD, List.getElem?_eq_none (show l.length ≤ j by omega)]
    have e2 : (l.map (AV.pub fl H (n + 1))).getD j .top = .top := by simp [List.getD_eq_getElem?_getD, List.getElem?_eq_none (show l.length ≤ j by omega)]
    rw [e1, e2]; rfl
end
attribute [push_cast] eqA pub_v pub_s pub_w pub_p pub_i pub_q pub_a pub_t pub_f pub_g pub_top pub_getD
end Go.Eng
/- The evaluation of a region, one operation at a time. -/
namespace Go.Eng
open Go.RowKit

/-- A guard, by the slot that it reads. -/
def gOf (ops : Array Oper) : Option (Nat × Bool) → Option (Option (Nat × Bool))
  | none => some none
  | some (j, want) => match (ops[j]?).bind (·.dst) with
    | some d => some (some (d, want))
    | none => none
def guardS (st : St) : Option (Nat × Bool) → Option (Option Bool)
  | none => some none
  | some (d, want) => match (lk st.env d).strip with
    | .v (.bool y) => some (some ((lk st.env d).cnd && (bif want then y else !y)))
    | _ => none
theorem guardS_eq {st : St} {ops : Array Oper} {g : Option (Nat × Bool)} {g' : Option (Nat × Bool)} (h : gOf ops g = some g') : guardB st ops g = guardS st g' := by
  cases g with
  | none => simp [gOf] at h; subst h; rfl
  | some p =>
    obtain ⟨j, want⟩ := p
    simp only [gOf] at h
    simp only [guardB]
    cases hd : (ops[j]?).bind (·.dst) with
    | none => rw [hd] at h; cases h
    | some d => rw [hd] at h; injection h with h; subst h; rfl

/-- One operation, without what the evaluation does not look at. -/
def StepN (P : Program) (T : Tab) (n : Nat) (dst : Option Nat) (op : Op) (g : Option (Nat × Bool)) (K : St → Prop) (st : St) : Prop :=
  dstOk n dst ∧
  match guardS st g with
  | none => False
  | some none =>
    match pv T st.heap st.ev op with
    | some (φ, r) => φ ∧ K (st.put dst r)
    | none =>
      match qb T st.ev op with
      | some (φ, r) => φ ∧ K (st.put dst r)
      | none =>
        match callee? st.ev op with
        | some (ψ, k, args) => (ψ ∧ condL args) ∧ ∃ r, (Pure P k (pubL st.heap args) r ∧ okR args r) ∧ K (st.put dst r)
        | none => al T st ⟨dst, op, 0, "", #[], none⟩ K
  | some (some b) =>
    match pv T st.heap st.ev op with
    | some (φ, r) => (b = true → φ) ∧ K (st.put dst (.g b r))
    | none =>
      match qb T st.ev op with
      | some (φ, r) => (b = true → φ) ∧ K (st.put dst (.g b r))
      | none =>
        match callee? st.ev op with
        | some (ψ, k, args) => ∃ r, (b = true → (ψ ∧ condL args) ∧ Pure P k (pubL st.heap args) r ∧ okR args r) ∧ K (st.put dst (.g b r))
        | none => False
theorem stepN_ok {P : Program} {T : Tab} {n : Nat} {ops : Array Oper} {o : Oper} {g : Option (Nat × Bool)} (hg : gOf ops o.guard = some g) {K : St → Prop} {st : St} (h : StepN P T n o.dst o.op g K st) : AStep P T n ops o K st := by
  unfold AStep
  rw [guardS_eq hg]
  exact h

theorem aops_nil {P : Program} {T : Tab} {n : Nat} {ops : Array Oper} {K : St → Prop} {st : St} (h : K st) : AOps P T n ops K [] st := h
theorem aops_cons {P : Program} {T : Tab} {n : Nat} {ops : Array Oper} {K : St → Prop} {o : Oper} {rest : List Oper} {st : St} {g : Option (Nat × Bool)} (hg : gOf ops o.guard = some g) (h : ∀ K' : St → Prop, (∀ s, AOps P T n ops K rest s → K' s) → StepN P T n o.dst o.op g K' st) : AOps P T n ops K (o :: rest) st :=
  stepN_ok hg (h _ fun _ h => h)
attribute [push_cast] StepN guardS beq_self_eq_true bne_self_eq_false List.replicate_zero
end Go.Eng
/- A slice literal as a row of one's own; memory that is written no more. -/
namespace Go.Eng
open Go.RowKit

section
variable {P : Program} {T : Tab} (hT : T.ok P) {n B : Nat} {w0 : Orig} {st : St} {a : Act} {w : World} {ρ : Nat → Option Value} {I : Nat → Prop}
include hT

theorem build_run (hG : Gam n B w0 st a w ρ I) {dst : Option Nat} {t e : TypeId} {len : Nat} {parts : Array (Nat × Operand)} {ty : TypeId} {pos : String} {aft : Array Edge} {gd : Option (Nat × Bool)} {te : TI} {ψ : Prop} {cs : List AV} {s1 b1 : Nat} {z1 : Value} (ht : T t = some ⟨.sl e, s1, b1, z1⟩) (hte : T e = some te)
    (hfill : fillA (fun i => some (i * te.sz, te.sz)) (cellsFrom (fun j => ofVal (te.z.cells.getD (j % te.sz) undef)) 0 (len * te.sz)) (parts.toList.map fun p => (p.1, st.ev p.2)) = some (ψ, cs)) :
    ψ → te.z.cells.size = te.sz → len * te.sz ≤ 16777216 →
      ∃ us, us.size = len * te.sz ∧ ConcL B I w ρ cs us.toList ∧ (execOp a.eval ⟨dst, .buildSlice t len parts, ty, pos, aft, gd⟩).run P w = .ok (.value (.slice (some ⟨w.heap.size, 0, none⟩) len len)) (w.alloc (.cells us e)) := by
  have hu : P.underlying t = some (.slice e) := (hT _ _ ht).kind
  obtain ⟨inf, hi1, hi2, hi3, hz⟩ := (hT _ _ hte).info
  have hsz := (hT _ _ hte).size w
  intro hψ hzs hlen
  have hz0 : ConcL B I w ρ (cellsFrom (fun j => ofVal (te.z.cells.getD (j % te.sz) undef)) 0 (len * te.sz)) ((Array.range (len * te.sz)).map fun j => (if len * te.sz = 0 then #[] else te.z.cells)[j % (if len * te.sz = 0 then #[] else te.z.cells).size]!).toList := by
    refine ⟨by simp [cellsFrom_length], fun j hj => ?_⟩
    rw [cellsFrom_length] at hj
    have hne : ¬ len * te.sz = 0 := by omega
    rw [cellsFrom_getD _ _ _ _ hj, Nat.zero_add, if_neg hne, hzs]
    have e1 : ((Array.range (len * te.sz)).map fun j => te.z.cells[j % te.sz]!).toList.getD j undef = te.z.cells.getD (j % te.sz) undef := by
      have hlt : j % te.sz < te.z.cells.size := by
        rw [hzs]; apply Nat.mod_lt
        rcases Nat.eq_zero_or_pos te.sz with h0 | h0
        · rw [h0] at hne; simp at hne
        · exact h0
      simp [List.getD_eq_getElem?_getD, hj, Array.getD_eq_getD_getElem?, hlt]
    rw [e1]; exact conc_ofVal _
  obtain ⟨us, h1, h2⟩ := fillA_ok _ ((parts.map fun p => (p.1, a.eval p.2)).toList) _ _ hfill hψ hz0 (by simp) (fun j hj => by
    simp at hj
    have h1 : ((parts.toList.map fun p => (p.1, st.ev p.2)).getD j (0, .top)).2 = st.ev parts[j].2 := by simp [List.getD_eq_getElem?_getD, hj]
    have h2 : ((parts.map fun p => (p.1, a.eval p.2)).toList.getD j (0, undef)).2 = a.eval parts[j].2 := by simp [List.getD_eq_getElem?_getD, hj]
    rw [h1, h2]; exact hG.ev _)
  have hsize : us.size = len * te.sz := by
    have hfl : ∀ (place : Nat → Option (Nat × Nat)) (l : List (Nat × Value)) (us us' : Array Value), Instr.fill place us l = some us' → us'.size = us.size := by
      intro place l
      induction l with
      | nil => intro us us' h; simp [Instr.fill] at h; rw [h]
      | cons p l ih =>
        intro us us' h
        obtain ⟨i, v⟩ := p
        simp only [Instr.fill] at h
        split at h
        · cases h
        · split at h
          · cases h
          · rw [ih _ _ h]
            have : ∀ (l : List (Value × Nat)) (off : Nat) (us : Array Value), (l.foldl (fun cs (x : Value × Nat) => cs.setIfInBounds (off + x.2) x.1) us).size = us.size := by
              intro l
              induction l with
              | nil => intro off us; rfl
              | cons q l ih => intro off us; simp [ih]
            rw [← Array.foldl_toList]
            exact this _ _ _
    rw [hfl _ _ _ _ h1]; simp
  refine ⟨us, hsize, h2, ?_⟩
  have hlen' : ¬ (len * te.sz > 2 ^ 24) := by omega
  by_cases h0 : len * te.sz = 0
  · rw [if_pos h0] at h1
    rw [h0] at h1
    have h024 : ¬ ((0 : Nat) > 2 ^ 24) := by decide
    simp only [execOp, Instr.buildSlice, Sem.run_bind, run_underlying hu, Result.andThen_ok, hsz, h0, h024, if_false, if_true, Sem.run_pure, h1]
    simp [newRow]
  · rw [if_neg h0] at h1
    simp only [execOp, Instr.buildSlice, Sem.run_bind, run_underlying hu, Result.andThen_ok, hsz, hlen', if_false, h0, Sem.run_pure, zeroValue, typeInfo, run_program, hi1, hz, h1]
    simp [newRow]

omit hT in
/-- A slice that is written out, as a row of one's own. -/
def alB (T : Tab) (st : St) (dst : Option Nat) (op : Op) (K : St → Prop) : Prop :=
  match op, dst with
  | .buildSlice t len parts, some d =>
    match T t with
    | some ⟨.sl e, _, _, _⟩ =>
      match T e with
      | some te =>
        match fillA (fun i => some (i * te.sz, te.sz)) (cellsFrom (fun j => ofVal (te.z.cells.getD (j % te.sz) undef)) 0 (len * te.sz)) (parts.toList.map fun p => (p.1, st.ev p.2)) with
        | some (φ, cs) =>
          match te.k with
          | .int k => match toInts k cs with
            | some l => (φ ∧ te.sz = 1 ∧ te.z.cells.size = 1 ∧ len ≤ 16777216) ∧ K ⟨(d, .s d) :: killE d st.env, (d, .row e 1 (.ints k l)) :: killH d st.heap⟩
            | none => False
          | _ => (φ ∧ 0 < te.sz ∧ te.z.cells.size = te.sz ∧ len * te.sz ≤ 16777216 ∧ AV.norL cs = true) ∧ K ⟨(d, .s d) :: killE d st.env, (d, .row e te.sz (.avs cs)) :: killH d st.heap⟩
        | none => False
      | none => False
    | _ => False
  | _, _ => False

theorem alB_ok (hG : Gam n B w0 st a w ρ I) {o : Oper} (hd : dstOk n o.dst) {K : St → Prop} (h : alB T st o.dst o.op K) : StepOk P n B w0 o a w K := by
  intro next Q hn
  obtain ⟨dst, op, ty, pos, aft, gd⟩ := o
  simp only [alB] at h
  split at h <;> first | exact h.elim | skip
  rename_i t len parts d
  split at h <;> first | exact h.elim | skip
  rename_i e s1 b1 z1 ht
  cases hte : T e with
  | none => rw [hte] at h; exact h.elim
  | some te =>
    rw [hte] at h
    simp only at h
    split at h <;> first | exact h.elim | skip
    rename_i ψ cs hfill
    have hdn : d < n := hd
    have own : ∀ us : Array Value, us.size = len * te.sz → len ≤ 16777216 → (w.alloc (.cells us e)).ownsRow B e te.sz (.slice (some ⟨w.heap.size, 0, none⟩) len len) len us.toList := fun us hs hl16 =>
      ⟨by simp [hs], .inr ⟨w.heap.size, len, us, rfl, hG.base, heap_alloc_new w _, Nat.le_refl _, by simp only [maxLen]; omega, hs, by rw [List.take_of_length_le (by simp [hs])]⟩⟩
    have hb : ∀ us : Array Value, Below w.heap.size w (w.alloc (.cells us e)) := fun us => (Below.refl _ _).alloc (Nat.le_refl _) _
    split at h
    · rename_i k hk
      split at h <;> first | exact h.elim | skip
      rename_i l hl
      obtain ⟨⟨hφ, hs1, hz1, h16⟩, hK⟩ := h
      obtain ⟨us, h1, h2, h3⟩ := build_run hT hG (dst := some d) (ty := ty) (pos := pos) (aft := aft) (gd := gd) ht hte hfill hφ (by rw [hs1, hz1]) (by rw [hs1]; omega)
      obtain ⟨l1, l2⟩ := toInts_spec hl
      have hcl : cs.length = len := by
        have := h2.1
        rw [Array.length_toList, h1, hs1] at this; omega
      unfold Oper.wp
      rw [h3, Oper.upon_value]
      have ho := own us h1 h16
      rw [hs1] at ho
      refine hn _ _ _ hK (new_row hG d hdn (hb us) ho (fun b hr => by simp [rootBlk] at hr; omega) _ (by simp [Cont.len, l1, hcl]) fun j u hu => ?_)
      have hj : j < cs.length := by
        have := (List.getElem?_eq_some_iff.1 hu).1
        simp [h1, hs1] at this; omega
      have := h2.2 j hj
      rw [l2 j hj] at this
      have e2 : us.toList.getD j undef = u := by simp [List.getD_eq_getElem?_getD, hu]
      rw [← e2, this.v_inv]; exact .v _
    · obtain ⟨⟨hφ, hpos, hzs, h16, hnor⟩, hK⟩ := h
      obtain ⟨us, h1, h2, h3⟩ := build_run hT hG (dst := some d) (ty := ty) (pos := pos) (aft := aft) (gd := gd) ht hte hfill hφ hzs h16
      have hcl : cs.length = len * te.sz := by
        have := h2.1
        rw [Array.length_toList, h1] at this; omega
      unfold Oper.wp
      rw [h3, Oper.upon_value]
      have hl16 : len ≤ 16777216 := by
        have : len * 1 ≤ len * te.sz := Nat.mul_le_mul_left _ hpos
        omega
      refine hn _ _ _ hK (new_row hG d hdn (hb us) (own us h1 hl16) (fun b hr => by simp [rootBlk] at hr; omega) _ (by simp [Cont.len, hcl]) fun j u hu => ?_)
      have hj : j < cs.length := by
        have := (List.getElem?_eq_some_iff.1 hu).1
        simp [h1] at this; omega
      have := (h2.nor hnor).2 j hj
      have e2 : us.toList.getD j undef = u := by simp [List.getD_eq_getElem?_getD, hu]
      rw [e2] at this
      exact this
end

/-- One operation: as before, or a literal as a row of one's own. -/
def AStepX (P : Program) (T : Tab) (n : Nat) (ops : Array Oper) (o : Oper) (K : St → Prop) (st : St) : Prop :=
  AStep P T n ops o K st ∨ (o.guard = none ∧ dstOk n o.dst ∧ alB T st o.dst o.op K) ∨ (guardB st ops o.guard = some (some false) ∧ dstOk n o.dst ∧ ∃ r, K (st.put o.dst (.g false r)))
theorem astepX_ok {P : Program} {T : Tab} (hT : T.ok P) {n B : Nat} {w0 : Orig} {st : St} {a : Act} {w : World} {ρ : Nat → Option Value} {I : Nat → Prop} (hG : Gam n B w0 st a w ρ I) {ops : Array Oper} {o : Oper} {K : St → Prop} (h : AStepX P T n ops o K st) (next : Act → World → Prop) (Q : Exit → Act → World → Prop) (hn : ∀ st' a' w', K st' → G n B w0 st' a' w' → next a' w') :
    if Region.wanted o (yielded ops a.tmps) then o.wp P a w next Q else next (a.put o.dst undef) w := by
  rcases h with h | ⟨hg, hd, h⟩ | ⟨hg, hd, h⟩
  · exact astep_ok hT hG h next Q hn
  · have : Region.wanted o (yielded ops a.tmps) = true := by
      have := guard_ok hG (ops := ops) (o := o) (g := none) (by rw [hg]; rfl)
      simpa using this
    rw [if_pos this]
    exact alB_ok hT hG hd h next Q hn
  · obtain ⟨r, h⟩ := h
    have := guard_ok hG hg
    rw [this]
    simp only [Option.getD_some, Bool.false_eq_true, if_false]
    exact hn _ _ _ h ⟨ρ, I, hG.put (dst_ok hd) (.g false r _ (fun h => by cases h) (fun _ => rfl))⟩

theorem astepX_nd {P : Program} {T : Tab} {n B : Nat} {w0 : Orig} {st : St} {a : Act} {w : World} {ρ : Nat → Option Value} {I : Nat → Prop} (hG : Gam n B w0 st a w ρ I) {ops : Array Oper} {o : Oper} {K : St → Prop} (h : AStepX P T n ops o K st) (hw : Region.wanted o (yielded ops a.tmps) = true) : ∀ c, o.op ≠ .defer c := by
  rcases h with h | ⟨_, _, h⟩ | ⟨hg, _, _⟩
  · exact astep_nd h
  · intro c hc
    rw [hc] at h
    exact h
  · rw [guard_ok hG hg] at hw
    cases hw
def AOpsX (P : Program) (T : Tab) (n : Nat) (ops : Array Oper) (K : St → Prop) : List Oper → St → Prop
  | [], st => K st
  | o :: rest, st => AStepX P T n ops o (fun st' => AOpsX P T n ops K rest st') st

theorem aopsX_ok {P : Program} {T : Tab} (hT : T.ok P) {n B : Nat} {w0 : Orig} {ops : Array Oper} {K : St → Prop} {Q : Exit → Act → World → Prop} (hQ : ∀ st' a' w', K st' → G n B w0 st' a' w' → Q .normal a' w') : ∀ (l : List Oper) (st : St) (a : Act) (w : World), G n B w0 st a w → AOpsX P T n ops K l st → wpListIn (fo w0) 0 P ops Q l a w
  | [], st, a, w, hG, h => hQ st a w h hG
  | o :: rest, st, a, w, ⟨ρ, I, hG⟩, h => by
    have := astepX_ok hT hG h (wpListIn (fo w0) 0 P ops Q rest) Q (fun st' a' w' hK hG' => aopsX_ok hT hQ rest st' a' w' hG' hK)
    unfold wpListIn
    exact toIf (astepX_nd hG h) this
theorem awp_x {P : Program} {T : Tab} (hT : T.ok P) {n B : Nat} {w0 : Orig} {Q : Exit → St → Prop} {st : St} {id : Nat} {l : List Oper} (h : ∀ K : St → Prop, (∀ s, Q .normal s → K s) → AOpsX P T n l.toArray K l st) : AWP P n B w0 (.region id l.toArray false) Q st := fun a w hG =>
  wpIn_region_lit (aopsX_ok hT (fun st' _ _ hK hG' => ⟨st', hK, hG'⟩) l st a w hG (h (fun s => Q .normal s) fun _ h => h))
theorem awp_xseq {P : Program} {T : Tab} (hT : T.ok P) {n B : Nat} {w0 : Orig} {Q : Exit → St → Prop} {st : St} {id : Nat} {l : List Oper} {y : Code} (h : ∀ K : St → Prop, (∀ s, AWP P n B w0 y Q s → K s) → AOpsX P T n l.toArray K l st) : AWP P n B w0 (.seq (.region id l.toArray false) y) Q st :=
  awp_seq (awp_x hT (h · ))
theorem aopsx_nil {P : Program} {T : Tab} {n : Nat} {ops : Array Oper} {K : St → Prop} {st : St} (h : K st) : AOpsX P T n ops K [] st := h
theorem aopsx_cons {P : Program} {T : Tab} {n : Nat} {ops : Array Oper} {K : St → Prop} {o : Oper} {rest : List Oper} {st : St} {g : Option (Nat × Bool)} (hg : gOf ops o.guard = some g) (h : ∀ K' : St → Prop, (∀ s, AOpsX P T n ops K rest s → K' s) → StepN P T n o.dst o.op g K' st) : AOpsX P T n ops K (o :: rest) st :=
  .inl (stepN_ok hg (h _ fun _ h => h))
theorem aopsx_own {P : Program} {T : Tab} {n : Nat} {ops : Array Oper} {K : St → Prop} {o : Oper} {rest : List Oper} {st : St} (d : Nat) (hd : o.dst = some d) (hg : o.guard = none) (hn : d < n) (h : ∀ K' : St → Prop, (∀ s, AOpsX P T n ops K rest s → K' s) → alB T st (some d) o.op K') : AOpsX P T n ops K (o :: rest) st :=
  .inr (.inl ⟨hg, by rw [hd]; exact hn, by rw [hd]; exact h _ fun _ h => h⟩)
theorem aopsx_skip {P : Program} {T : Tab} {n : Nat} {ops : Array Oper} {K : St → Prop} {o : Oper} {rest : List Oper} {st : St} {g : Option (Nat × Bool)} (hg : gOf ops o.guard = some g) (hs : guardS st g = some (some false)) (hd : dstOk n o.dst) (h : AOpsX P T n ops K rest (st.put o.dst (.g false (.v (.bool false))))) : AOpsX P T n ops K (o :: rest) st :=
  .inr (.inr ⟨by rw [guardS_eq hg]; exact hs, hd, _, h⟩)
attribute [push_cast] alB

/-- A block that is written no more: whoever pointed to it sees what it holds. -/
def frzP (d : Nat) (blk : Blk) : AV → AV
  | .p id off => if id = d then .q true (fun _ j => blk.cont.at j) blk.cont.len 0 off else .p id off
  | x => x.kill d
def frzPL (d : Nat) (blk : Blk) : List AV → List AV
  | [] => []
  | x :: r => frzP d blk x :: frzPL d blk r
theorem frzPL_length (d : Nat) (blk : Blk) (cs : List AV) : (frzPL d blk cs).length = cs.length := by
  induction cs with
  | nil => rfl
  | cons x r ih => simp [frzPL, ih]
theorem frzPL_getD (d : Nat) (blk : Blk) (cs : List AV) (j : Nat) : (frzPL d blk cs).getD j .top = frzP d blk (cs.getD j .top) := by
  induction cs generalizing j with
  | nil => simp [frzPL, frzP, AV.kill]
  | cons x r ih => cases j with
    | zero => simp [frzPL]
    | succ j => simpa [frzPL] using ih j
def frz1 (d : Nat) (blk : Blk) : AV → AV
  | .p id off => if id = d then .q true (fun _ j => blk.cont.at j) blk.cont.len 0 off else .p id off
  | .f fn cs => .f fn (frzPL d blk cs)
  | .s id => if id = d then (match blk with | .row _ sz c => if 0 < sz then .i true (fun e j => c.at (e * sz + j)) sz 0 (c.len / sz) else .top | _ => .top) else .s id
  | x => x.kill d
def frzE (d : Nat) (blk : Blk) : List (Nat × AV) → List (Nat × AV)
  | [] => []
  | (k, v) :: r => (k, frz1 d blk v) :: frzE d blk r
theorem lk_frzE (d : Nat) (blk : Blk) : ∀ (env : List (Nat × AV)) (s : Nat), lk (frzE d blk env) s = frz1 d blk (lk env s)
  | [], s => by simp only [frzE, lk, frz1, AV.kill]
  | (k, v) :: r, s => by
    simp only [frzE, lk]
    split
    · rfl
    · exact lk_frzE d blk r s
def norC (c : Cont) : Prop := match c with | .avs l => AV.norL l = true | _ => True
theorem norC_at {c : Cont} (h : norC c) (j : Nat) : (c.at j).nor = true := by
  cases c with
  | ints k l => rfl
  | vals l => rfl
  | avs l => exact norL_getD h j

theorem G.freeze {n B : Nat} {w0 : Orig} {st : St} {a : Act} {w : World} (hG : G n B w0 st a w) (d : Nat) (blk : Blk) (hk : lkH st.heap d = some blk) (hnor : norC blk.cont) : G n B w0 ⟨frzE d blk st.env, killH d st.heap⟩ a w := by
  obtain ⟨ρ, I, h⟩ := hG
  obtain ⟨x, hx, hok⟩ := h.hw.ok d blk hk
  have hρ : ∀ id, id ≠ d → ρ id = ρ id := fun id hid => rfl
  have hrest : ∀ b, rootBlk x = some b → B ≤ b ∧ b < w.heap.size := fun b hb => hok.lt hb
  have hII : ∀ b, I b → (fun b => I b ∨ rootBlk x = some b) b ∧ w.heap[b]? = w.heap[b]? := fun b hb => ⟨.inl hb, rfl⟩
  have cellC : ∀ b j, rootBlk x = some b → j < blk.cont.len → ∃ u, w.cell? ⟨b, j, none⟩ = some u ∧ Conc B (fun b => I b ∨ rootBlk x = some b) w noId (blk.cont.at j) u := fun b j hb hj => by
    obtain ⟨u, h1, h2⟩ := h.hw.cell hk hx hb hj
    exact ⟨u, h1, ((h2.nor (norC_at hnor j)).mono (Nat.le_refl _) hII _ (fun _ _ h => h))⟩
  have look : ∀ id blk', lkH (killH d st.heap) id = some blk' → id ≠ d ∧ ∃ b0, lkH st.heap id = some b0 ∧ blk' = b0.kill d := by
    intro id blk' hk'
    rw [lkH_killH] at hk'
    by_cases e : id = d
    · rw [if_pos e] at hk'; cases hk'
    · rw [if_neg e] at hk'
      cases h0 : lkH st.heap id with
      | none => rw [h0] at hk'; cases hk'
      | some b0 => rw [h0] at hk'; injection hk' with hk'; exact ⟨e, b0, rfl, hk'.symm⟩
  refine ⟨ρ, fun b => I b ∨ rootBlk x = some b, h.defers.mono (fun b hb => ⟨.inl hb, rfl⟩), h.size, fun s => ?_, ⟨fun id blk' hk' => ?_, fun id id' b1 b2 y y' b hne h1 h2 hy hy' hb => ?_, fun id blk' y b hk' hy hb hI => ?_, fun b hb => ?_⟩, h.below, h.base, ⟨fun b hb => ?_, h.old.gh, h.old.ghn, fun b hb => ⟨.inl (h.old.keep b hb).1, (h.old.keep b hb).2⟩⟩⟩
  · show Conc _ _ _ _ (lk (frzE d blk st.env) s) _
    rw [lk_frzE]
    have hs := h.env s
    have gen : Conc B (fun b => I b ∨ rootBlk x = some b) w ρ ((lk st.env s).kill d) (a.tmps.getD s undef) := (hs.kill d _ hρ).mono (Nat.le_refl _) hII _ (fun _ _ h => h)
    have hP : ∀ (x0 : AV) (uu : Value), Conc B I w ρ x0 uu → Conc B (fun b => I b ∨ rootBlk x = some b) w ρ (frzP d blk x0) uu := fun x0 uu hs => by
      have gen : Conc B (fun b => I b ∨ rootBlk x = some b) w ρ (x0.kill d) uu := (hs.kill d _ hρ).mono (Nat.le_refl _) hII _ (fun _ _ h => h)
      cases x0 with
      | p id off =>
        simp only [frzP]
        by_cases e : id = d
        · subst e
          rw [if_pos rfl]
          cases hs with
          | p _ _ b y hy hb =>
            rw [hx] at hy; injection hy with hy; subst hy
            have hall : ∀ j, off + j < blk.cont.len → ∃ u, w.cell? ((⟨b, off, none⟩ : Addr).add j) = some u ∧ Conc B (fun b => I b ∨ rootBlk x = some b) w noId (blk.cont.at (off + j)) u := fun j hj => by
              obtain ⟨u, h1, h2⟩ := cellC b (off + j) hb hj
              exact ⟨u, by rw [add_none]; exact h1, h2⟩
            refine .q _ _ _ _ _ _ (fun j => if hj : off + j < blk.cont.len then Classical.choose (hall j hj) else undef) (.inr hb) (fun _ => (hrest b hb).1) (fun j hj => ?_) (fun j hj => ?_)
            · rw [dif_pos hj]; exact (Classical.choose_spec (hall j hj)).1
            · rw [dif_pos hj]; exact (Classical.choose_spec (hall j hj)).2
        · rw [if_neg e]
          rw [AV.kill, if_neg e] at gen
          exact gen
      | _ => exact gen
    cases hv : lk st.env s with
    | p id off => rw [hv] at hs; exact hP _ _ hs
    | f fn cs =>
      rw [hv] at hs
      simp only [frz1]
      generalize a.tmps.getD s undef = uu at *
      cases hs with
      | f _ _ us hl hcs => exact .f fn _ us (by rw [frzPL_length]; exact hl) fun j hj => by rw [frzPL_length] at hj; rw [frzPL_getD]; exact hP _ _ (hcs j hj)
    | s id =>
      rw [hv] at hs gen
      simp only [frz1]
      by_cases e : id = d
      · subst e
        rw [if_pos rfl]
        cases blk with
        | box t c => exact .top _
        | mp c => exact .top _
        | row el sz c =>
          simp only
          split
          · rename_i hpos
            generalize a.tmps.getD s undef = uu at *
            cases hs with
            | s _ _ hy h1 =>
              rw [hx] at hy; injection hy with hy; subst hy
              obtain ⟨m, xs, ho, hl, hc⟩ := hok
              have hm : c.len / sz = m := by rw [hl]; exact Nat.mul_div_cancel _ hpos
              rw [hm]
              have := view_row (fl := true) (B' := B) (J := fun b => I b ∨ rootBlk x = some b ∨ (B ≤ b ∧ b < w.heap.size)) ho (fun _ => Nat.le_refl _) (fun b h1 h2 => .inr (.inr ⟨h1, h2⟩)) (fun e j => c.at (e * sz + j)) (fun el2 j he hj => by
                have hlt : el2 * sz + j < xs.length := by rw [ho.1]; exact row_elem he hj
                have := hc (el2 * sz + j) _ (List.getElem?_eq_getElem hlt)
                have e2 : xs.getD (el2 * sz + j) undef = xs[el2 * sz + j] := by simp [List.getD_eq_getElem?_getD, hlt]
                rw [e2]
                exact this.mono (Nat.le_refl _) (fun b hb => ⟨.inl hb, rfl⟩) _ (fun _ _ h => h))
              cases this with
              | i _ _ _ _ _ cap A u hcap hA hcc =>
                refine .i _ _ _ _ _ _ _ u hcap (fun hl0 => ?_) (fun e f he hf => ?_)
                · obtain ⟨ad, h1, h2, h3, h4⟩ := hA hl0
                  subst h1
                  exact ⟨ad, rfl, .inr rfl, h3, h4⟩
                · have hlt : e * sz + f < xs.length := by rw [ho.1]; exact row_elem he hf
                  have hb : ∃ ad, A = some ad := by obtain ⟨ad, h1, _⟩ := hA (by omega); exact ⟨ad, h1⟩
                  obtain ⟨ad, rfl⟩ := hb
                  obtain ⟨ad', h1, _, _, h4⟩ := hA (by omega)
                  injection h1 with h1; subst h1
                  have hj : e * sz + f < (Blk.row el sz c).cont.len := by show e * sz + f < c.len; rw [hl]; exact row_elem he hf
                  obtain ⟨v, hv1, hv2⟩ := cellC ad.block (e * sz + f) rfl hj
                  rcases ho.2 with ⟨hn, _⟩ | ⟨g, cap', cur, hsl, _⟩
                  · cases hn
                  · injection hsl with hsl _ _
                    injection hsl with hsl
                    have h5 := h4 e f he hf
                    rw [hsl, add_none, Nat.zero_add] at h5
                    rw [hsl] at hv1
                    simp only at hv1
                    rw [h5] at hv1
                    injection hv1 with hv1
                    rw [Nat.zero_add, hv1]
                    exact hv2
          · exact .top _
      · rw [if_neg e]
        rw [AV.kill, if_neg e] at gen
        exact gen
    | _ => rw [hv] at gen; exact gen
  · obtain ⟨hne, b0, h0, rfl⟩ := look id blk' hk'
    obtain ⟨y, hy, hok'⟩ := h.hw.ok id b0 h0
    exact ⟨y, hy, (hok'.killed d hρ).move (fun b _ => rfl) hII (fun _ _ h => h)⟩
  · obtain ⟨hn1, c1, hc1, rfl⟩ := look id b1 h1
    obtain ⟨hn2, c2, hc2, rfl⟩ := look id' b2 h2
    exact h.hw.apart id id' c1 c2 y y' b hne hc1 hc2 hy hy' hb
  · obtain ⟨hne, b0, h0, rfl⟩ := look id blk' hk'
    rcases hI with hI | hI
    · exact h.hw.imm id b0 y b h0 hy hb hI
    · exact h.hw.apart id d b0 blk y x b hne h0 hk hy hx hb hI
  · rcases hb with hb | hb
    · exact h.hw.lt b hb
    · exact (hrest b hb).2
  · rcases hb with hb | hb
    · exact h.old.up b hb
    · exact .inr (hrest b hb).1
theorem awp_freeze {P : Program} {n B : Nat} {w0 : Orig} {c : Code} {Q : Exit → St → Prop} {st : St} (d : Nat) (blk : Blk) (hk : lkH st.heap d = some blk) (hnor : norC blk.cont) (h : AWP P n B w0 c Q ⟨frzE d blk st.env, killH d st.heap⟩) : AWP P n B w0 c Q st := fun a w hG => h a w (hG.freeze d blk hk hnor)
attribute [push_cast] frz1 frzE frzP frzPL
end Go.Eng
/- A region whose order is drawn, in which memory is made beside other operations. -/
namespace Go.Eng
open Go.RowKit

/-- What sees less of memory stands for more. -/
theorem pub_sub (H : List (Nat × Blk)) : ∀ (n : Nat) (x : AV), Sub (AV.pub false H n x) (AV.pub false [] n x) := by
  intro n
  induction n with
  | zero => intro x B I w u h; exact h
  | succ n ih =>
    intro x B I w u h
    cases x with
    | v y => exact h
    | s id => exact .top _
    | w id off len => exact .top _
    | p id off => exact .top _
    | i fr c sz off len =>
      cases h with
      | i _ _ _ _ _ cap A u hcap hA hc => exact .i _ _ _ _ _ _ _ u hcap hA (fun e f he hf => ih _ _ _ _ _ (hc e f he hf))
    | q fr c sz e f =>
      cases h with
      | q _ _ _ _ _ ad u h2 h3 hcell hc => exact .q _ _ _ _ _ _ u h2 h3 hcell (fun j hj => ih _ _ _ _ _ (hc j hj))
    | a cs =>
      cases h with
      | a _ us hl h => exact .a _ _ (by simpa using hl) fun j hj => by simp only [List.length_map] at hj; have := h j (by simpa using hj); rw [getD_map_pub _ _ _ _ _ hj] at this ⊢; exact ih _ _ _ _ _ this
    | t cs =>
      cases h with
      | t _ us hl h => exact .t _ _ (by simpa using hl) fun j hj => by simp only [List.length_map] at hj; have := h j (by simpa using hj); rw [getD_map_pub _ _ _ _ _ hj] at this ⊢; exact ih _ _ _ _ _ this
    | f fn cs =>
      cases h with
      | f _ _ us hl h => exact .f _ _ _ (by simpa using hl) fun j hj => by simp only [List.length_map] at hj; have := h j (by simpa using hj); rw [getD_map_pub _ _ _ _ _ hj] at this ⊢; exact ih _ _ _ _ _ this
    | g b y =>
      cases h with
      | g _ _ _ h h0 => exact .g b _ _ (fun hb => ih _ _ _ _ _ (h hb)) h0
    | top => exact .top _
theorem subL_pubL (H : List (Nat × Blk)) : ∀ args : List AV, SubL (pubL H args) (pubL [] args)
  | [] => trivial
  | x :: r => ⟨pub_sub H 4 x.strip, subL_pubL H r⟩

theorem lkH_nil (id : Nat) : lkH [] id = none := rfl
theorem pvLoad_free {T : Tab} {H : List (Nat × Blk)} {t : TypeId} {x : AV} {r : Prop × AV} (h : pvLoad T [] t x = some r) : pvLoad T H t x = some r := by
  unfold pvLoad at h ⊢
  cases hx : x.strip <;> simp only [hx, lkH_nil] at h ⊢ <;> first | exact h | skip
  cases T t <;> simp at h
theorem pvSlice_free {T : Tab} {H : List (Nat × Blk)} {t : TypeId} {x : AV} {lo hi : Option AV} {r : Prop × AV} (h : pvSlice T [] t x lo hi = some r) : pvSlice T H t x lo hi = some r := by
  unfold pvSlice at h ⊢
  split at h <;> first | exact h | skip
  split at h <;> first | exact h | skip
  cases hx : x.strip <;> simp only [hx, lkH_nil] at h ⊢ <;> first | exact h | (simp at h; done)
theorem pvIndexAddr_free {T : Tab} {H : List (Nat × Blk)} {t : TypeId} {x i : AV} {r : Prop × AV} (h : pvIndexAddr T [] t x i = some r) : pvIndexAddr T H t x i = some r := by
  unfold pvIndexAddr at h ⊢
  split at h <;> first | exact h | skip
  split at h <;> first | exact h | skip
  split at h <;> first | exact h | skip
  cases hx : x.strip <;> simp only [hx, lkH_nil] at h ⊢ <;> first | exact h | (simp at h; done)
theorem pvLen_free {T : Tab} {H : List (Nat × Blk)} {t : TypeId} {x : AV} {r : Prop × AV} (h : pvLen T [] t x = some r) : pvLen T H t x = some r := by
  unfold pvLen at h ⊢
  cases ht : T t with
  | none => rw [ht] at h; cases h
  | some ti =>
    obtain ⟨k, sz, b, z⟩ := ti
    rw [ht] at h
    cases k <;> simp only at h ⊢ <;> first | exact h | (cases h; done) | (cases hx : x.strip <;> simp only [hx, lkH_nil] at h ⊢ <;> first | exact h | (cases h; done) | (rename_i y; cases y <;> first | exact h | (cases h; done)))
theorem pvLookup_free {T : Tab} {H : List (Nat × Blk)} {t : TypeId} {x k : AV} {r : Prop × AV} (h : pvLookup T [] t x k = some r) : pvLookup T H t x k = some r := by
  unfold pvLookup at h
  split at h
  · split at h
    · simp only [lkH] at h
      cases h
    · cases h
  · cases h
theorem pv_free {T : Tab} {H : List (Nat × Blk)} {ev : Operand → AV} {op : Op} {x : Prop × AV} (h : pv T [] ev op = some x) : pv T H ev op = some x := by
  cases op <;> simp only [pv] at h ⊢ <;> first | exact h | exact pvLoad_free h | exact pvIndexAddr_free h | skip
  case lookup t y k c => cases c with
    | true => exact h
    | false => exact pvLookup_free h
  case slice t y lo hi mx => cases mx with
    | some _ => exact h
    | none => exact pvSlice_free h
  case call c =>
    split at h <;> first | exact h | skip
    split at h <;> first | exact h | exact pvLen_free h
theorem pv_none_qb {T : Tab} {H : List (Nat × Blk)} {ev : Operand → AV} {op : Op} {x : Prop × AV} (h : qb T ev op = some x) : pv T H ev op = none := by
  cases op <;> simp only [qb] at h <;> first | (cases h; done) | rfl
theorem pv_none_call {T : Tab} {H : List (Nat × Blk)} {ev : Operand → AV} {op : Op} {x : Prop × FuncId × List AV} (h : callee? ev op = some x) : pv T H ev op = none ∧ qb T ev op = none := by
  cases op <;> simp only [callee?] at h <;> first | (cases h; done) | skip
  rename_i c
  split at h <;> first | (cases h; done) | skip
  rename_i f hf
  exact ⟨by simp only [pv, hf], rfl⟩

section
variable {P : Program} {T : Tab} {n : Nat} {ops : Array Oper}

/-- A quiet operation that needs nothing of memory. -/
theorem free_step {st : St} {o : Oper} {K : St → Prop} (hq : quietOp o.op = true) (h : AStep P T n ops o K ⟨st.env, []⟩) :
    ∃ r, K ((⟨st.env, []⟩ : St).put o.dst r) ∧ ∀ st' : St, (∀ t ∈ o.looksAt ops, lk st'.env t = lk st.env t) → AStep P T n ops o (fun s => s = st'.put o.dst r) st' := by
  obtain ⟨hd, h⟩ := h
  have key : ∀ (st' : St), (∀ t ∈ o.looksAt ops, lk st'.env t = lk st.env t) → guardB st' ops o.guard = guardB ⟨st.env, []⟩ ops o.guard ∧ pv T [] st'.ev o.op = pv T [] (St.ev ⟨st.env, []⟩) o.op ∧ qb T st'.ev o.op = qb T (St.ev ⟨st.env, []⟩) o.op ∧ callee? st'.ev o.op = callee? (St.ev ⟨st.env, []⟩) o.op := fun st' hl =>
    ⟨guard_congr (st' := ⟨st.env, []⟩) hl, pv_congr (ev_congr (st' := ⟨st.env, []⟩) hl), qb_congr (ev_congr (st' := ⟨st.env, []⟩) hl), callee_congr (ev_congr (st' := ⟨st.env, []⟩) hl)⟩
  cases hg : guardB ⟨st.env, []⟩ ops o.guard with
  | none => rw [hg] at h; exact h.elim
  | some g =>
    rw [hg] at h
    cases g with
    | none =>
      simp only at h
      cases hp : pv T [] (St.ev ⟨st.env, []⟩) o.op with
      | some pr =>
        obtain ⟨φ, r⟩ := pr
        rw [hp] at h
        refine ⟨r, h.2, fun st' hl => ?_⟩
        obtain ⟨k1, k2, k3, k4⟩ := key st' hl
        unfold AStep; rw [k1, hg]; simp only [pv_free (k2.trans hp)]
        exact ⟨hd, h.1, trivial⟩
      | none =>
        rw [hp] at h; simp only at h
        cases hb : qb T (St.ev ⟨st.env, []⟩) o.op with
        | some pr =>
          obtain ⟨φ, r⟩ := pr
          rw [hb] at h
          refine ⟨r, h.2, fun st' hl => ?_⟩
          obtain ⟨k1, k2, k3, k4⟩ := key st' hl
          have hb' := k3.trans hb
          unfold AStep; rw [k1, hg]; simp only [pv_none_qb hb', hb']
          exact ⟨hd, h.1, trivial⟩
        | none =>
          rw [hb] at h; simp only at h
          cases hc : callee? (St.ev ⟨st.env, []⟩) o.op with
          | some pr =>
            obtain ⟨ψ, k, args⟩ := pr
            rw [hc] at h; simp only at h
            obtain ⟨h1, r, h2, h3⟩ := h
            refine ⟨r, h3, fun st' hl => ?_⟩
            obtain ⟨k1, k2, k3, k4⟩ := key st' hl
            have hc' := k4.trans hc
            unfold AStep; rw [k1, hg]; simp only [(pv_none_call (T := T) (H := st'.heap) hc').1, (pv_none_call (T := T) (H := st'.heap) hc').2, hc']
            exact ⟨hd, h1, r, ⟨h2.1.sub (subL_pubL _ _), h2.2⟩, rfl⟩
          | none => rw [hc] at h; exact (al_quiet hq h).elim
    | some b =>
      simp only at h
      cases hp : pv T [] (St.ev ⟨st.env, []⟩) o.op with
      | some pr =>
        obtain ⟨φ, r⟩ := pr
        rw [hp] at h
        refine ⟨.g b r, h.2, fun st' hl => ?_⟩
        obtain ⟨k1, k2, k3, k4⟩ := key st' hl
        unfold AStep; rw [k1, hg]; simp only [pv_free (k2.trans hp)]
        exact ⟨hd, h.1, trivial⟩
      | none =>
        rw [hp] at h; simp only at h
        cases hb : qb T (St.ev ⟨st.env, []⟩) o.op with
        | some pr =>
          obtain ⟨φ, r⟩ := pr
          rw [hb] at h
          refine ⟨.g b r, h.2, fun st' hl => ?_⟩
          obtain ⟨k1, k2, k3, k4⟩ := key st' hl
          have hb' := k3.trans hb
          unfold AStep; rw [k1, hg]; simp only [pv_none_qb hb', hb']
          exact ⟨hd, h.1, trivial⟩
        | none =>
          rw [hb] at h; simp only at h
          cases hc : callee? (St.ev ⟨st.env, []⟩) o.op with
          | some pr =>
            obtain ⟨ψ, k, args⟩ := pr
            rw [hc] at h; simp only at h
            obtain ⟨r, h2, h3⟩ := h
            refine ⟨.g b r, h3, fun st' hl => ?_⟩
            obtain ⟨k1, k2, k3, k4⟩ := key st' hl
            have hc' := k4.trans hc
            unfold AStep; rw [k1, hg]; simp only [(pv_none_call (T := T) (H := st'.heap) hc').1, (pv_none_call (T := T) (H := st'.heap) hc').2, hc']
            exact ⟨hd, r, fun hb => ⟨(h2 hb).1, (h2 hb).2.1.sub (subL_pubL _ _), (h2 hb).2.2⟩, rfl⟩
          | none => rw [hc] at h; exact h.elim

/-- What a loud operation does to the slots. -/
def pk (d : Option Nat) (r : AV) (env : List (Nat × AV)) : List (Nat × AV) :=
  match d with
  | some d => (d, r) :: killE d env
  | none => env

theorem al_loud {st : St} {o : Oper} {K : St → Prop} (h : al T st o K) :
    ∃ r h', K ⟨pk o.dst r st.env, h'⟩ ∧ (∀ d d', o.dst = some d → d' ≠ d → r.kill d' = r) ∧ ∀ st' : St, st'.heap = st.heap → (∀ x ∈ o.op.operands, st'.ev x = st.ev x) → al T st' o (fun s => s = ⟨pk o.dst r st'.env, h'⟩) := by
  have ks : ∀ (d d1 d' : Nat), some d = some d1 → d' ≠ d1 → (AV.s d).kill d' = .s d := fun d d1 d' e hne => by injection e with e; subst e; rw [AV.kill, if_neg (Ne.symm hne)]
  have kp : ∀ (d d1 d' : Nat), some d = some d1 → d' ≠ d1 → (AV.p d 0).kill d' = .p d 0 := fun d d1 d' e hne => by injection e with e; subst e; rw [AV.kill, if_neg (Ne.symm hne)]
  obtain ⟨dst, op, ty, ps, af, gd⟩ := o
  cases op <;> simp only [al] at h <;> first | exact h.elim | skip
  case alloc t =>
    cases dst with
    | none => exact h.elim
    | some d =>
      cases ht : T t with
      | none => rw [ht] at h; exact h.elim
      | some ti =>
        rw [ht] at h
        refine ⟨.p d 0, _, h, kp d, fun st' hh hl => ?_⟩
        simp only [al, ht, hh, pk]
  case box t x =>
    cases dst with
    | none => exact h.elim
    | some d =>
      cases hc : cellsOf (st.ev x).strip with
      | none => rw [hc] at h; exact h.elim
      | some cs =>
        rw [hc] at h
        refine ⟨.p d 0, _, h.2, kp d, fun st' hh hl => ?_⟩
        simp only [al, hl x (by simp [Op.operands]), hc, hh, pk]
        exact ⟨h.1, trivial⟩
  case store t x y =>
    cases hx : (st.ev x).strip <;> simp only [hx] at h <;> first | exact h.elim | skip
    rename_i id off
    cases hc : cellsOf (st.ev y).strip <;> simp only [hc] at h <;> first | exact h.elim | skip
    rename_i cs
    cases ht : T t <;> simp only [ht] at h <;> first | exact h.elim | skip
    rename_i ti
    cases hk : lkH st.heap id with
    | none => rw [hk] at h; exact h.elim
    | some blk =>
      rw [hk] at h
      cases blk with
      | mp c => exact h.elim
      | box tb c =>
        simp only at h
        cases hu : c.updL off cs with
        | none => rw [hu] at h; exact h.elim
        | some c' =>
          rw [hu] at h
          have hd : dst = none := h.1.2.2.2.2.2
          subst hd
          refine ⟨.top, _, h.2, (fun d d' e => by cases e), fun st' hh hl => ?_⟩
          simp only [al, hl x (by simp [Op.operands]), hl y (by simp [Op.operands]), hx, hc, ht, hh, hk, hu, pk]
          exact ⟨by simpa using h.1, trivial⟩
      | row e sz c =>
        simp only at h
        cases hu : c.updL off cs with
        | none => rw [hu] at h; exact h.elim
        | some c' =>
          rw [hu] at h
          have hd : dst = none := h.1.2.2.2.2.2.2
          subst hd
          refine ⟨.top, _, h.2, (fun d d' e => by cases e), fun st' hh hl => ?_⟩
          simp only [al, hl x (by simp [Op.operands]), hl y (by simp [Op.operands]), hx, hc, ht, hh, hk, hu, pk]
          exact ⟨by simpa using h.1, trivial⟩
  case makeSlice t l c =>
    split at h <;> first | exact h.elim | skip
    rename_i d e s1 b1 z1 k1 nl k2 nc ht hl1 hc1
    cases hte : T e with
    | none => rw [hte] at h; exact h.elim
    | some te =>
      rw [hte] at h
      refine ⟨.s d, _, h.2, ks d, fun st' hh hl => ?_⟩
      simp only [al, hl l (by simp [Op.operands]), hl c (by simp [Op.operands]), ht, hl1, hc1, hte, hh, pk]
      exact ⟨h.1, trivial⟩
  case call c =>
    obtain ⟨callee, args, ats⟩ := c
    simp only at h
    split at h <;> first | exact h.elim | skip
    rename_i x y t t' hargs hats
    have hxm : x ∈ args := by have : x ∈ args.toList := by rw [hargs]; simp
                              simpa using this
    have hym : y ∈ args := by have : y ∈ args.toList := by rw [hargs]; simp
                              simpa using this
    split at h <;> first | exact h.elim | skip
    rename_i d e s1 b1 z1 ht
    cases hte : T e with
    | none => rw [hte] at h; exact h.elim
    | some te =>
      rw [hte] at h
      cases hbs : baseOf st.heap (st.ev x).strip with
      | none => rw [hbs] at h; exact h.elim
      | some bs =>
        rw [hbs] at h
        simp only at h
        cases hsr : srcOf st.heap te.sz (st.ev y).strip with
        | none => rw [hsr] at h; exact h.elim
        | some p =>
          obtain ⟨ψ, m, src⟩ := p
          rw [hsr] at h
          simp only at h
          cases bs with
          | none =>
            cases hk : te.k <;> simp only [hk] at h <;> (
              obtain ⟨ys, h1, h2⟩ := h
              refine ⟨.s d, _, h2, ks d, fun st' hh hl => ?_⟩
              simp only [al, hl x (by simp [Op.operands, Call.operands, hxm]), hl y (by simp [Op.operands, Call.operands, hym]), hargs, hats, ht, hte, hh, hbs, hsr, pk, hk]
              exact ⟨ys, h1, rfl⟩)
          | some p =>
            obtain ⟨id, e', sz, c⟩ := p
            cases hk : te.k <;> cases c <;> simp only [hk] at h <;> first | exact h.elim | (
              obtain ⟨ys, h1, h2⟩ := h
              refine ⟨.s d, _, h2, ks d, fun st' hh hl => ?_⟩
              simp only [al, hl x (by simp [Op.operands, Call.operands, hxm]), hl y (by simp [Op.operands, Call.operands, hym]), hargs, hats, ht, hte, hh, hbs, hsr, pk, hk]
              exact ⟨ys, h1, rfl⟩)

theorem loud_step {st : St} {o : Oper} {K : St → Prop} (hq : quietOp o.op = false) (h : AStep P T n ops o K st) :
    ∃ r h', K ⟨pk o.dst r st.env, h'⟩ ∧ (∀ d d', o.dst = some d → d' ≠ d → r.kill d' = r) ∧ ∀ st' : St, st'.heap = st.heap → (∀ t ∈ o.looksAt ops, lk st'.env t = lk st.env t) → AStep P T n ops o (fun s => s = ⟨pk o.dst r st'.env, h'⟩) st' := by
  have hno : ∀ (H : List (Nat × Blk)) (ev : Operand → AV), pv T H ev o.op = none ∧ qb T ev o.op = none ∧ callee? ev o.op = none := fun H ev => by
    cases ho : o.op <;> rw [ho] at hq <;> simp only [quietOp] at hq <;> first | (cases hq; done) | exact ⟨rfl, rfl, rfl⟩ | skip
    rename_i c
    cases hc : c.callee with
    | value f => rw [hc] at hq; cases hq
    | invoke r m => exact ⟨by simp only [pv, hc], rfl, by simp only [callee?, hc]⟩
    | builtin b => cases b <;> rw [hc] at hq <;> first | (cases hq; done) | exact ⟨by simp only [pv, hc], rfl, by simp only [callee?, hc]⟩
  obtain ⟨hd, h⟩ := h
  obtain ⟨n1, n2, n3⟩ := hno st.heap st.ev
  cases hg : guardB st ops o.guard with
  | none => rw [hg] at h; exact h.elim
  | some g =>
    rw [hg] at h
    cases g with
    | some b => simp only [n1, n2, n3] at h
    | none =>
      simp only [n1, n2, n3] at h
      obtain ⟨r, h', h1, h2, h3⟩ := al_loud h
      refine ⟨r, h', h1, h2, fun st' hh hl => ?_⟩
      obtain ⟨m1, m2, m3⟩ := hno st'.heap st'.ev
      unfold AStep
      rw [guard_congr hl, hg]
      simp only [m1, m2, m3]
      exact ⟨hd, h3 st' hh (ev_congr hl)⟩
/-- A literal as a row of one's own. -/
def stepB (T : Tab) (n : Nat) (o : Oper) (K : St → Prop) (st : St) : Prop := o.guard = none ∧ dstOk n o.dst ∧ alB T st o.dst o.op K
theorem loudB_step {st : St} {o : Oper} {K : St → Prop} (h : stepB T n o K st) :
    ∃ r h', K ⟨pk o.dst r st.env, h'⟩ ∧ (∀ d d', o.dst = some d → d' ≠ d → r.kill d' = r) ∧ ∀ st' : St, st'.heap = st.heap → (∀ t ∈ o.looksAt ops, lk st'.env t = lk st.env t) → stepB T n o (fun s => s = ⟨pk o.dst r st'.env, h'⟩) st' := by
  obtain ⟨hg, hd, h⟩ := h
  have hev : ∀ st' : St, (∀ t ∈ o.looksAt ops, lk st'.env t = lk st.env t) → ∀ x ∈ o.op.operands, st'.ev x = st.ev x := fun st' hl => ev_congr hl
  obtain ⟨dst, op, ty, ps, af, gd⟩ := o
  simp only at hev hg hd h ⊢
  cases dst with
  | none => cases op <;> simp only [alB] at h
  | some d =>
    have ks : ∀ (d1 d' : Nat), some d = some d1 → d' ≠ d1 → (AV.s d).kill d' = .s d := fun d1 d' e hne => by injection e with e; subst e; rw [AV.kill, if_neg (Ne.symm hne)]
    cases op <;> simp only [alB] at h
    rename_i t len parts
    have hparts : ∀ st' : St, (∀ t ∈ Oper.looksAt ops ⟨some d, .buildSlice t len parts, ty, ps, af, gd⟩, lk st'.env t = lk st.env t) → (parts.toList.map fun p => (p.1, st'.ev p.2)) = (parts.toList.map fun p => (p.1, st.ev p.2)) := fun st' hl =>
      List.map_congr_left fun p hp => by rw [hev st' hl p.2 (by simp only [Op.operands, List.mem_toArray, List.mem_map]; exact ⟨p, hp, rfl⟩)]
    split at h <;> first | exact h.elim | skip
    rename_i e s1 b1 z1 ht
    cases hte : T e with
    | none => rw [hte] at h; exact h.elim
    | some te =>
      rw [hte] at h
      simp only at h
      split at h <;> first | exact h.elim | skip
      rename_i ψ cs hfill
      cases hk : te.k <;> simp only [hk] at h
      case int k =>
        split at h <;> first | exact h.elim | skip
        rename_i l hl0
        refine ⟨.s d, _, h.2, ks, fun st' hh hl => ⟨hg, hd, ?_⟩⟩
        simp only [alB, ht, hte, hparts st' hl, hfill, hk, hl0, hh, pk]
        exact ⟨h.1, trivial⟩
      all_goals
        refine ⟨.s d, _, h.2, ks, fun st' hh hl => ⟨hg, hd, ?_⟩⟩
        simp only [alB, ht, hte, hparts st' hl, hfill, hk, hh, pk]
        exact ⟨h.1, trivial⟩
end
end Go.Eng
