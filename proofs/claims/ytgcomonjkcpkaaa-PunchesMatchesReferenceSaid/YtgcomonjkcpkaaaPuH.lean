/- Part of a proof about the given program: contracts of its functions (see the comment of the last text). -/
import Derived.Test.YtgcomonjkcpkaaaPuG
namespace Go.Proofs.Ytgcomonjkcpkaaa
open Go.Eng Go.Proofs
set_option linter.unusedSimpArgs false
set_option linter.unusedVariables false
attribute [local irreducible] AOps AOpsX AOps2 AOpsF AAny AWP zTab zFound zRow

/-- One step of the way through the table. -/
def DI (ms : List Mk) (ps : List Pn) (i k : Nat) : Int := D (ms.drop i) (ps.drop k)
def Tm (ms : List Mk) (ps : List Pn) (i k : Nat) : Prop := i < ms.length ∧ k < ps.length ∧ DI ms ps i k = costF (ms.getD i default) (ps.getD k default) + DI ms ps (i + 1) (k + 1)
def Ts (ms : List Mk) (ps : List Pn) (i k : Nat) : Prop := i < ms.length ∧ DI ms ps i k = 120 + DI ms ps (i + 1) k
instance (ms : List Mk) (ps : List Pn) (i k : Nat) : Decidable (Tm ms ps i k) := by unfold Tm; infer_instance
instance (ms : List Mk) (ps : List Pn) (i k : Nat) : Decidable (Ts ms ps i k) := by unfold Ts; infer_instance
def pathI (ms : List Mk) (ps : List Pn) : Nat → Nat → Nat → List Mt
  | 0, _, _ => []
  | n + 1, i, k =>
    if i < ms.length ∨ k < ps.length then
      if Tm ms ps i k then ⟨(ms.getD i default).d, (ms.getD i default).i, k⟩ :: pathI ms ps n (i + 1) (k + 1)
      else if Ts ms ps i k then ⟨(ms.getD i default).d, (ms.getD i default).i, -1⟩ :: pathI ms ps n (i + 1) k
      else ⟨-1, false, k⟩ :: pathI ms ps n i (k + 1)
    else []
/-- The matches of least cost. -/
def pathF (ms : List Mk) (ps : List Pn) : List Mt := pathI ms ps (ms.length + ps.length) 0 0
theorem Ts_end {ms : List Mk} {ps : List Pn} {i k : Nat} (hi : i < ms.length) (hk : ps.length ≤ k) : Ts ms ps i k := by
  refine ⟨hi, ?_⟩
  unfold DI
  rw [show ps.drop k = [] from List.drop_eq_nil_of_le hk, D_emp, D_emp, List.length_drop, List.length_drop]; omega
theorem DI_bounds (ms : List Mk) (ps : List Pn) (i k : Nat) : 0 ≤ DI ms ps i k ∧ DI ms ps i k ≤ 120 * (ms.length + ps.length) := by
  have := D_bounds (ms.drop i) (ps.drop k)
  simp only [List.length_drop] at this
  unfold DI
  omega

abbrev tabQ (ms : List Mk) (ps : List Pn) : AV := .q true (fun _ j => .v (.int .i64 (tabV ms ps j))) 2989 0 0
theorem lenM (l : List Mt) : (l.flatMap avM).length = l.length * 3 := by
  induction l with
  | nil => rfl
  | cons p ps ih => rw [List.flatMap_cons, List.length_append, ih]; simp [avM]; omega
theorem getM : ∀ (ps : List Mt) (e j : Nat), e < ps.length → j < 3 → (ps.flatMap avM).getD (e * 3 + j) .top = (avM (ps.getD e default)).getD j .top
  | [], e, j, h, _ => by simp at h
  | p :: ps, 0, j, _, hj => by
    rw [List.flatMap_cons]
    simp only [List.getD_eq_getElem?_getD, List.getD_cons_zero, Nat.zero_mul, Nat.zero_add]
    rw [List.getElem?_append_left (by simp [avM]; omega)]
    rfl
  | p :: ps, e + 1, j, h, hj => by
    have := getM ps e j (by simpa using h) hj
    rw [List.flatMap_cons, List.getD_cons_succ, ← this]
    simp only [List.getD_eq_getElem?_getD]
    rw [List.getElem?_append_right (by simp [avM]; omega)]
    congr 2
    simp [avM]; omega
theorem pubM (H : List (Nat × Blk)) (n : Nat) (fl : Bool) (l : List Mt) : (l.flatMap avM).map (AV.pub fl H (n + 1)) = l.flatMap avM := by
  induction l with
  | nil => rfl
  | cons p ps ih => rw [List.flatMap_cons, List.map_append, ih]; rfl
theorem oneM (l : List Mt) (j : Nat) (h : j < (l.flatMap avM).length) : ((l.flatMap avM).getD j .top).one = true := by
  rw [lenM] at h
  have := getM l (j / 3) (j % 3) (by omega) (Nat.mod_lt _ (by omega))
  rw [show j / 3 * 3 + j % 3 = j by omega] at this
  rw [this]
  obtain h | h | h : j % 3 = 0 ∨ j % 3 = 1 ∨ j % 3 = 2 := by omega
  all_goals rw [h]; rfl
theorem norM (l : List Mt) : norC (.avs (l.flatMap avM)) := by
  show AV.norL (l.flatMap avM) = true
  induction l with
  | nil => rfl
  | cons p ps ih => rw [List.flatMap_cons]; simp only [avM, List.cons_append, List.nil_append, AV.norL, AV.nor, ih]; rfl
def avMsT (l : List Mt) : AV := .i true (fun e j => (avM (l.getD e default)).getD j .top) 3 0 l.length
attribute [push_cast] avMsT

set_option maxHeartbeats 16000000 in
theorem pair_no (ds : List Du) (ps : List Pn) (hd : ds.length ≤ maxLen) (hp : ps.length ≤ maxLen) (h : usF ds ps ≠ 0) : Pure Try.prog 13 [avDs ds, avPs ps] (.t [.v (.slice none 0 0), I64 0, I64 (usF ds ps)]) := by
  refine pure_of (n := 57) (res := [.tmp 4, .tmp 5, .tmp 6]) hT Try.func13 rfl rfl rfl Try.ntmps13 (Nat.le_of_ble_eq_true rfl) fun B w0 => ?_
  have b : (usF ds ps != 0) = true := bne_iff_ne.2 h
  repeat' (first
    | ((first | refine aopsx_cons (by rfl) fun K' hK' => ?_ | refine aops_cons (by rfl) fun K' hK' => ?_); simp only [push_cast, reduceIte, reduceCtorEq, Nat.reduceEqDiff, Nat.reduceLT, Nat.reduceLeDiff, Nat.reduceAdd, Nat.reduceMul, Nat.reduceMod, Nat.reduceDiv, Nat.reduceSub, Int.reduceToNat, b]; (try simp (disch := omega) only [wrap64, Int.toNat_natCast]); (repeat refine and_rev ?_ ?_); (first | refine hK' _ ?_ | ((first | refine ⟨_, ⟨(by first | exact usable_ok ds ps hd hp), (by first | exact .inr rfl | exact .inl (by simp [AV.fresh, AV.freshL]))⟩, ?_⟩ | refine ⟨_, fun hb => ⟨(by first | exact usable_ok ds ps hd hp), (by first | exact .inr rfl | exact .inl (by simp [AV.fresh, AV.freshL]))⟩, ?_⟩); (try simp only [push_cast, reduceIte, reduceCtorEq, Nat.reduceEqDiff, Nat.reduceLT, Nat.reduceLeDiff, Nat.reduceAdd, Nat.reduceMul, Nat.reduceMod, Nat.reduceDiv, Nat.reduceSub, Int.reduceToNat, b]); (try simp (disch := omega) only [wrap64, Int.toNat_natCast]); (repeat refine and_rev ?_ ?_); refine hK' _ ?_) | (refine ⟨.v (.int .i64 0), ?_⟩; refine hK' _ ?_)); clear hK' K')
    | (refine aopsx_skip (by rfl) (by rfl) (by simp only [dstOk, Nat.reduceLT]) ?_; simp only [St.put])
    | ((first | refine aopsx_nil ?_ | refine aops_nil ?_); first | (refine hKs _ ?_; clear hKs K) | (refine hKr _ ?_; clear hKr K; simp only [push_cast, reduceIte, reduceCtorEq, Nat.reduceEqDiff, Nat.reduceLT, Nat.reduceLeDiff, Nat.reduceAdd, Nat.reduceMul, Nat.reduceMod, Nat.reduceDiv, Nat.reduceSub, Int.reduceToNat]))
    | refine awp_xseq hT fun K hKs => ?_ | refine awp_x hT fun K hKr => ?_ | refine awp_dseq hT hm (by decide +kernel) fun K hKs => ?_ | refine awp_d hT hm (by decide +kernel) fun K hKr => ?_
    | refine awp_block ?_ | refine awp_scope ?_ | refine awp_seq ?_ | ((first | refine awp_label ?_ | refine awp_skip ?_ | refine awp_exit ?_ | refine awp_ret ?_); simp only [push_cast, reduceIte, reduceCtorEq, Nat.reduceEqDiff, Nat.reduceLT, Nat.reduceLeDiff, Nat.reduceAdd, Nat.reduceMul, Nat.reduceMod, Nat.reduceDiv, Nat.reduceSub, Int.reduceToNat])
    | (refine awp_cond _ rfl (fun h => ?_) (fun h => ?_) <;> simp only [bh, decide_eq_true_eq, decide_eq_false_iff_not, eq_self, not_true_eq_false, not_false_eq_true, reduceCtorEq, Bool.true_eq_false, Bool.false_eq_true, bne_self_eq_false, beq_self_eq_true] at h))
  all_goals first | omega | exact (fun hh => hh) | (simp only [List.length_take, List.length_drop, List.length_append, List.length_map, List.length_cons, List.length_nil, List.length_replicate, List.length_set]; omega) | (intro hh; (try simp only [hh, Bool.not_false, Bool.not_true, Bool.true_and, Bool.and_true, eq_self, true_and, and_true]); (try simp only [bh, decide_eq_true_eq, decide_eq_false_iff_not] at hh); (first | done | omega | (simp only [List.length_take, List.length_drop, List.length_append, List.length_map, List.length_cons, List.length_nil, List.length_replicate, List.length_set]; omega))) | (intro hh; simp only [hh, Bool.not_false, Bool.not_true, Bool.true_and, Bool.and_true, eq_self, true_and, and_true]; intro h2; simp only [h2, Bool.not_false, Bool.not_true]; done) | (exact rfl) | skip
theorem zF_len : (List.map ofVal zFound.cells.toList).length = 324 := by
  unfold zFound; decide +kernel
theorem zF_len' : zFound.cells.toList.length = 324 := by
  have := zF_len; rwa [List.length_map] at this

theorem killL_all (d : Nat) : ∀ (l : List AV), (∀ x ∈ l, x.kill d = x) → AV.killL d l = l
  | [], _ => rfl
  | x :: r, h => by rw [AV.killL, h x (List.mem_cons_self ..), killL_all d r fun y hy => h y (List.mem_cons_of_mem _ hy)]
theorem zF_kill (d : Nat) : AV.killL d (List.map ofVal zFound.cells.toList) = List.map ofVal zFound.cells.toList := by
  refine killL_all d _ fun x hx => ?_
  obtain ⟨v, hv, rfl⟩ := List.mem_map.1 hx
  have hv : v ∈ (Array.replicate 108 #[Value.int .i64 0, .bool false, .int .i64 0]).flatten.toList := by unfold zFound at hv; exact hv
  rw [Array.mem_toList_iff, Array.mem_flatten] at hv
  obtain ⟨ys, h1, h2⟩ := hv
  rw [(Array.mem_replicate.1 h1).2] at h2
  simp at h2
  rcases h2 with h2 | h2
  · rw [h2]; rfl
  · rcases h2 with h2 | h2
    · rw [h2]; rfl
    · rw [h2]; rfl
theorem zF_mem {v : Value} (hv : v ∈ zFound.cells.toList) : ∃ w, (w = Value.int .i64 0 ∨ w = Value.bool false) ∧ v = w := by
  have hv : v ∈ (Array.replicate 108 #[Value.int .i64 0, .bool false, .int .i64 0]).flatten.toList := by unfold zFound at hv; exact hv
  rw [Array.mem_toList_iff, Array.mem_flatten] at hv
  obtain ⟨ys, h1, h2⟩ := hv
  rw [(Array.mem_replicate.1 h1).2] at h2
  simp at h2
  rcases h2 with h2 | h2
  · exact ⟨_, .inl rfl, h2⟩
  · rcases h2 with h2 | h2
    · exact ⟨_, .inr rfl, h2⟩
    · exact ⟨_, .inl rfl, h2⟩
theorem renL_all (k : Nat) : ∀ (l : List AV), (∀ x ∈ l, x.ren k = x) → AV.ren.renL k l = l
  | [], _ => rfl
  | x :: r, h => by rw [AV.ren.renL, h x (List.mem_cons_self ..), renL_all k r fun y hy => h y (List.mem_cons_of_mem _ hy)]
theorem zF_ren (k : Nat) : AV.ren.renL k (List.map ofVal zFound.cells.toList) = List.map ofVal zFound.cells.toList := by
  refine renL_all k _ fun x hx => ?_
  obtain ⟨v, hv, rfl⟩ := List.mem_map.1 hx
  obtain ⟨w, rfl | rfl, rfl⟩ := zF_mem hv <;> rfl
theorem killL_set (d : Nat) (v : Value) : ∀ (L : List AV) (j : Nat), AV.killL d (L.set j (.v v)) = (AV.killL d L).set j (.v v)
  | [], j => rfl
  | x :: r, 0 => rfl
  | x :: r, j + 1 => by simp only [List.set_cons_succ, AV.killL, killL_set d v r j]
theorem zF_nor : AV.norL (List.map ofVal zFound.cells.toList) = true := by
  unfold zFound; decide +kernel
theorem zF_one : oneL (List.map ofVal zFound.cells.toList) = true := by
  unfold zFound; decide +kernel

theorem L_upd {L : List AV} {acc : List Mt} (m : Mt) (hL : L.length = 324) (hacc : ∀ j, j < acc.length * 3 → L.getD j .top = (acc.flatMap avM).getD j .top) (hlt : acc.length < 108) :
    (((L.set (acc.length * 3) (I64 m.d)).set (acc.length * 3 + 1) (BL m.i)).set (acc.length * 3 + 2) (I64 m.p)).length = 324 ∧ ∀ j, j < (acc ++ [m]).length * 3 → (((L.set (acc.length * 3) (I64 m.d)).set (acc.length * 3 + 1) (BL m.i)).set (acc.length * 3 + 2) (I64 m.p)).getD j .top = ((acc ++ [m]).flatMap avM).getD j .top := by
  refine ⟨by simp [hL], fun j hj => ?_⟩
  rw [List.length_append, List.length_singleton] at hj
  have hlen := lenM acc
  rw [List.flatMap_append]
  by_cases h : j < acc.length * 3
  · rw [Go.Eng.getD_set_ne _ _ _ _ _ (by omega), Go.Eng.getD_set_ne _ _ _ _ _ (by omega), Go.Eng.getD_set_ne _ _ _ _ _ (by omega), hacc j h]
    simp only [List.getD_eq_getElem?_getD]; rw [List.getElem?_append_left (by omega)]
  · have e : (acc.flatMap avM ++ [m].flatMap avM).getD j .top = (avM m).getD (j - acc.length * 3) .top := by
      simp only [List.getD_eq_getElem?_getD]; rw [List.getElem?_append_right (by omega), hlen]; simp
    rw [e]
    obtain h | h | h : j = acc.length * 3 ∨ j = acc.length * 3 + 1 ∨ j = acc.length * 3 + 2 := by omega
    · rw [Go.Eng.getD_set_ne _ _ _ _ _ (by omega), Go.Eng.getD_set_ne _ _ _ _ _ (by omega), h, Go.Eng.getD_set_self _ _ _ _ (by omega), Nat.sub_self]; rfl
    · rw [Go.Eng.getD_set_ne _ _ _ _ _ (by omega), h, Go.Eng.getD_set_self _ _ _ _ (by simp; omega), show acc.length * 3 + 1 - acc.length * 3 = 1 by omega]; rfl
    · rw [h, Go.Eng.getD_set_self _ _ _ _ (by simp; omega), show acc.length * 3 + 2 - acc.length * 3 = 2 by omega]; rfl
abbrev Q9 (ms : List Mk) (ps : List Pn) : AV := .q true (fun _ j => [tabQ ms ps].getD j .top) 1 0 0
abbrev Q8 (ms : List Mk) : AV := .q true (fun _ j => [avKsT ms].getD j .top) 1 0 0
abbrev Q3 (ps : List Pn) : AV := .q true (fun _ j => [avPs ps].getD j .top) 1 0 0

end Go.Proofs.Ytgcomonjkcpkaaa
