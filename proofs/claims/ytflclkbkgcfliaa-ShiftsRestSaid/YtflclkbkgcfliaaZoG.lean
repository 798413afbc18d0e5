/- Part of a proof about the given program: contracts of its functions (see the comment of the last text). -/
import Derived.Test.YtflclkbkgcfliaaZoF
import Derived.Test.YtflclkbkgcfliaaZpG
import Derived.Test.YtflclkbkgcfliaaZoP
namespace Go.Proofs.Ytflclkbkgcfliaa
open Go.Eng Go.Proofs Go.RowKit Go.Maps Go.Sort Go.Shelf Go.Zo
set_option linter.unusedSimpArgs false
set_option linter.unusedVariables false

theorem keysCalls : KeysCalls Try.prog 61 73 81 := ⟨⟨_, Try.func61, rfl, rfl⟩, fun mb w => (callsIn_wide (n := 5)).1 (AnyZI.keys_in Try.keysA Fence.wide 5 trivial rfl mb w)⟩
theorem sortsA (m : Nat) : AnyZI.SortsIn Try.prog Try.sortedA_ren Fence.wide m :=
  ⟨fun blk off cap ss W hH hblk hsz => callsIn_wide.2 (AnyM.slices_Sort_int Try.sortA blk off cap ss W hH hblk hsz),
   fun p cap W => callsIn_wide.2 (AnyM.slices_Sort_int_none Try.sortA p cap W)⟩
def Rn : Value → Option (DataW Unit × List MemPlace) := fun _ => some (.nil, [])
theorem rdKey {n : Int} (h1 : -9223372036854775808 ≤ n) (h2 : n ≤ 9223372036854775807) {x : MapEntry} (hx : x.key = .int .i64 n) : WideElems.rd Try.prog 3 Rn x = some (.int .i64 n, .nil) := by
  unfold WideElems.rd
  rw [hx]
  have hwf : (Lit.int .i64 n).wf = true := by
    simp only [Lit.wf, Bool.and_eq_true, decide_eq_true_eq]
    have h1 : IntKind.i64.min = -9223372036854775808 := by decide
    have h2 : IntKind.i64.max = 9223372036854775807 := by decide
    omega
  have : keyOf Try.prog 3 (.int .i64 n) = some (.int .i64 n) := by
    simp [keyOf, Try.underlying3, mapKey, hwf]
  rw [this]; rfl
theorem sort_perm_int {l l' : List Int} (h : l.Perm l') : l.mergeSort (fun x y => decide (x ≤ y)) = l'.mergeSort (fun x y => decide (x ≤ y)) := by
  have tr : ∀ a b c : Int, decide (a ≤ b) = true → decide (b ≤ c) = true → decide (a ≤ c) = true := fun a b c h1 h2 => by simp only [decide_eq_true_eq] at *; omega
  have to : ∀ a b : Int, (decide (a ≤ b) || decide (b ≤ a)) = true := fun a b => by simp only [Bool.or_eq_true, decide_eq_true_eq]; omega
  refine List.Perm.eq_of_pairwise (le := fun a b => decide (a ≤ b) = true) (fun a b _ _ h1 h2 => ?_) (List.pairwise_mergeSort tr to l) (List.pairwise_mergeSort tr to l') (((List.mergeSort_perm l _).trans h).trans (List.mergeSort_perm l' _).symm)
  simp only [decide_eq_true_eq] at h1 h2
  omega
theorem sortCalls (m : List (Key × Int)) (hm : m.length ≤ 1000000) : SortCalls Try.prog 60 73 81 3 (.ints true .i64 m) (((intsOf m).mergeSort (fun x y => decide (x ≤ y))).map fun x => .int .i64 x) := by
  refine ⟨⟨_, Try.func60, rfl, rfl⟩, fun w bp bm hbp hmap => ?_⟩
  obtain ⟨es, clock, hh, hl, hs, hsz, hk⟩ := hmap
  have hkey : ∀ x ∈ es.toList, ∃ n : Int, x.key = .int .i64 n ∧ -9223372036854775808 ≤ n ∧ n ≤ 9223372036854775807 := fun x hx => by
    have h1 : (x.key, x.val) ∈ es.toList.map (fun e => (e.key, e.val)) := List.mem_map.2 ⟨x, hx, rfl⟩
    rw [hl] at h1
    obtain ⟨p, hp, hpe⟩ := List.mem_map.1 h1
    obtain ⟨k1, k2, _⟩ := hk p hp
    injection hpe with e1 e2
    cases hkk : p.1 with
    | s b => rw [hkk] at k2; cases k2
    | i n => rw [hkk] at k1 e1; exact ⟨n, e1.symm, k1⟩
  have hlen : es.size = m.length := by
    have := congrArg List.length hl
    simpa [MC.ents] using this
  have hown : w.ownsMap Try.prog 3 Rn bm es.size (.map ((es.toList.map (WideElems.rg Try.prog 3 Rn)).foldr DataW.insert [])) :=
    ⟨es, clock, hh, ⟨hsz, hs, fun x hx => by obtain ⟨s, h1, h2, h3⟩ := hkey x hx; exact ⟨_, rdKey h2 h3 h1⟩⟩, Nat.le_refl _, rfl⟩
  have hsize := hown.size_le
  have hseq := AnyZI.keys_gives (ρ := Try.keysA_ren) { Try.keysA with } Fence.wide 2 trivial rfl (by omega) bp bm es.size _ w (Array.getElem?_eq_some_iff.1 hbp).1 (by simp [World.cell?, hbp]) hown
  have cS := AnyZI.sorted_in Try.sortedA Fence.wide 5 trivial trivial trivial trivial rfl (by omega) (sortsA _) (enters_of Try.func72 (by kernel_rfl) rfl) 73 #[.pointer (some ⟨bp, 0, none⟩)] trivial (enters_of Try.func73 (by kernel_rfl) rfl) _ _ (by unfold maxLen; omega) (by omega) _ hseq
  refine ((callsIn_wide (n := 5)).1 cS).mono fun en w' he => ?_
  obtain ⟨v, ss, rfl, hp, hrow, _, hbel⟩ := he
  have hperm : ss.Perm (intsOf m) := by
    refine hp.trans ?_
    have h1 : (intKeys (.map ((es.toList.map (WideElems.rg Try.prog 3 Rn)).foldr DataW.insert []))) = ((es.toList.map (WideElems.rg Try.prog 3 Rn)).foldr DataW.insert []).map fun p => _root_.Go.intOf p.1 := rfl
    rw [h1]
    refine ((WideShapes.sorted_perm _).map _).trans (List.Perm.of_eq ?_)
    rw [List.map_map]
    have h2 : (es.toList.map (fun e => (e.key, e.val))).map (fun q => match q.1 with | .int _ b => b | _ => 0) = (es.toList.map fun e => match e.key with | .int _ b => b | _ => 0) := by rw [List.map_map]; rfl
    have h3 : es.toList.map ((fun p => _root_.Go.intOf p.1) ∘ WideElems.rg Try.prog 3 Rn) = (es.toList.map fun e => match e.key with | .int _ b => b | _ => 0) := by
      refine List.map_congr_left fun x hx => ?_
      obtain ⟨s, h1, h2, h3⟩ := hkey x hx
      simp only [Function.comp, WideElems.rg, rdKey h2 h3 h1, h1, Option.getD_some, _root_.Go.intOf]
    rw [h3, ← h2, hl]
    unfold intsOf
    simp only [MC.ents, List.map_map]
    refine List.map_congr_left fun p hp => ?_
    cases hpk : p.1 with
    | i b => simp [Function.comp, hpk, Key.val]
    | s n =>
      have := (hk (p.1, .int .i64 p.2) (List.mem_map.2 ⟨p, hp, rfl⟩)).2.1
      rw [hpk] at this; cases this
  rw [sort_perm_int hperm] at hrow
  have hlen2 : ss.length = (((intsOf m).mergeSort (fun x y => decide (x ≤ y))).map fun x => Value.int .i64 x).length := by simp [hperm.length_eq]
  rw [hlen2] at hrow
  exact ⟨v, rfl, hbel, hrow⟩
attribute [local irreducible] AOps AOpsX AOps2 AOpsS AWP AAnyS Go.Eng.Pure PureRow
theorem inst_ok (z : Zn) (day minute : Int) (hz : okZ z) : Pure Try.prog 32 [.a (avZ z), I64 day, I64 minute] (ints (instZ z day minute)) := by
  by_cases hc : (((validZ z = true ∧ 0 ≤ day) ∧ day ≤ 36524) ∧ 0 ≤ minute) ∧ minute < 1440
  · have hw : instZ z day minute = instF z (day * 1440 + minute) := by unfold instZ; rw [if_pos]; simp only [Bool.and_eq_true, decide_eq_true_eq]; exact hc
    obtain ⟨⟨⟨⟨v1, d1⟩, d2⟩, m1⟩, m2⟩ := hc
    rw [hw, ← instF_eq v1]
    exact (inst_raw z day minute hz v1 d1 d2 m1 m2).res sub_fresh
  · have hw : instZ z day minute = [] := by unfold instZ; rw [if_neg]; simp only [Bool.and_eq_true, decide_eq_true_eq]; exact hc
    rw [hw]
    have hv := valid_ok z hz
    refine Pure.res (r := .v (.slice none 0 0)) ?_ sub_nil
    refine pure_of (n := 55) (res := [.tmp 6]) hT Try.func32 rfl rfl rfl Try.ntmps32 (Nat.le_of_ble_eq_true rfl) fun B w0 => ?_
    cases v1 : validZ z with
    | false =>
      rw [v1] at hv
      repeat' (first | ((first | refine aopss_cons hT (by rfl) fun K' hK' => ?_ | refine aops_cons (by rfl) fun K' hK' => ?_); simp only [push_cast, reduceIte, reduceCtorEq, Nat.reduceEqDiff, Nat.reduceLT, Nat.reduceLeDiff, Nat.reduceAdd, Nat.reduceMul, Nat.reduceMod, Nat.reduceDiv, Nat.reduceSub, Int.reduceToNat]; (try simp (disch := omega) only [wrap64, Int.toNat_natCast]); (repeat refine and_rev ?_ ?_); (first | refine hK' _ ?_ | ((first | apply con1 | (apply con3; (intro hb; first | exact hb | exact ⟨hb, hb⟩ | exact ⟨hb, hb, hb⟩ | exact ⟨hb, hb, hb, hb⟩ | (simp only [hb, true_and, and_true, Bool.and_true, Bool.true_and]; done))) | apply con2); (try intro hb); (first | exact hv); (try intro hb); (first | exact .inr rfl | exact .inl (by simp [AV.fresh, AV.freshL])); (try simp only [push_cast, reduceIte, reduceCtorEq, Nat.reduceEqDiff, Nat.reduceLT, Nat.reduceLeDiff, Nat.reduceAdd, Nat.reduceMul, Nat.reduceMod, Nat.reduceDiv, Nat.reduceSub, Int.reduceToNat]); (try simp (disch := omega) only [wrap64, Int.toNat_natCast]); (repeat refine and_rev ?_ ?_); refine hK' _ ?_) | (refine ⟨.v (.int .i64 0), ?_⟩; refine hK' _ ?_)); clear hK' K') | (refine aopss_skip hT (by rfl) (by rfl) (by simp only [dstOk, Nat.reduceLT]) ?_; simp only [St.put]) | ((first | refine aopss_nil ?_ | refine aops_nil ?_); refine hKs _ ?_; clear hKs K) | ((first | ((first | refine aopss_nil ?_ | refine aops_nil ?_); refine hKr _ ?_; clear hKr K) | refine awp_label ?_ | refine awp_skip ?_ | refine awp_exit ?_ | refine awp_ret ?_); simp only [push_cast, reduceIte, reduceCtorEq, Nat.reduceEqDiff, Nat.reduceLT, Nat.reduceLeDiff, Nat.reduceAdd, Nat.reduceMul, Nat.reduceMod, Nat.reduceDiv, Nat.reduceSub, Int.reduceToNat]) | refine awp_sseq fun K hKs => ?_ | refine awp_s fun K hKr => ?_ | refine awp_dseq hT hm (by decide +kernel) fun K hKs => ?_ | refine awp_d hT hm (by decide +kernel) fun K hKr => ?_ | refine awp_block ?_ | refine awp_scope ?_ | refine awp_seq ?_ | (refine awp_cond _ rfl (fun h => ?_) (fun h => ?_) <;> simp only [bh, decide_eq_true_eq, decide_eq_false_iff_not, eq_self, not_true_eq_false, not_false_eq_true, reduceCtorEq, Bool.true_eq_false, Bool.false_eq_true, bne_self_eq_false, beq_self_eq_true] at h))
      all_goals first | omega | exact (fun hh => hh) | (simp only [List.length_take, List.length_drop, List.length_append, List.length_map, List.length_cons, List.length_nil, List.length_replicate, List.length_set]; omega) | (intro hh; (try simp only [hh, Bool.not_false, Bool.not_true, Bool.true_and, Bool.and_true, eq_self, true_and, and_true]); (try simp only [bh, decide_eq_true_eq, decide_eq_false_iff_not] at hh); (first | done | omega | (simp only [List.length_take, List.length_drop, List.length_append, List.length_map, List.length_cons, List.length_nil, List.length_replicate, List.length_set]; omega) | (intro h2; simp only [h2, Bool.not_false, Bool.not_true]; done))) | exact rfl | skip
      all_goals done
    | true =>
      rw [v1] at hv
      have b1 : (((decide (day < 0) || decide (36524 < day)) || decide (minute < 0)) || decide (1440 ≤ minute)) = true := by
        cases h : (((decide (day < 0) || decide (36524 < day)) || decide (minute < 0)) || decide (1440 ≤ minute)) with
        | true => rfl
        | false =>
          simp only [Bool.or_eq_false_iff, decide_eq_false_iff_not] at h
          exact absurd ⟨⟨⟨⟨v1, by omega⟩, by omega⟩, by omega⟩, by omega⟩ hc
      repeat' (first | ((first | refine aopss_cons hT (by rfl) fun K' hK' => ?_ | refine aops_cons (by rfl) fun K' hK' => ?_); simp only [push_cast, reduceIte, reduceCtorEq, Nat.reduceEqDiff, Nat.reduceLT, Nat.reduceLeDiff, Nat.reduceAdd, Nat.reduceMul, Nat.reduceMod, Nat.reduceDiv, Nat.reduceSub, Int.reduceToNat, b1]; (try simp (disch := omega) only [wrap64, Int.toNat_natCast]); (repeat refine and_rev ?_ ?_); (first | refine hK' _ ?_ | ((first | apply con1 | (apply con3; (intro hb; first | exact hb | exact ⟨hb, hb⟩ | exact ⟨hb, hb, hb⟩ | exact ⟨hb, hb, hb, hb⟩ | (simp only [hb, true_and, and_true, Bool.and_true, Bool.true_and]; done))) | apply con2); (try intro hb); (first | exact hv); (try intro hb); (first | exact .inr rfl | exact .inl (by simp [AV.fresh, AV.freshL])); (try simp only [push_cast, reduceIte, reduceCtorEq, Nat.reduceEqDiff, Nat.reduceLT, Nat.reduceLeDiff, Nat.reduceAdd, Nat.reduceMul, Nat.reduceMod, Nat.reduceDiv, Nat.reduceSub, Int.reduceToNat, b1]); (try simp (disch := omega) only [wrap64, Int.toNat_natCast]); (repeat refine and_rev ?_ ?_); refine hK' _ ?_) | (refine ⟨.v (.int .i64 0), ?_⟩; refine hK' _ ?_)); clear hK' K') | (refine aopss_skip hT (by rfl) (by rfl) (by simp only [dstOk, Nat.reduceLT]) ?_; simp only [St.put]) | ((first | refine aopss_nil ?_ | refine aops_nil ?_); refine hKs _ ?_; clear hKs K) | ((first | ((first | refine aopss_nil ?_ | refine aops_nil ?_); refine hKr _ ?_; clear hKr K) | refine awp_label ?_ | refine awp_skip ?_ | refine awp_exit ?_ | refine awp_ret ?_); simp only [push_cast, reduceIte, reduceCtorEq, Nat.reduceEqDiff, Nat.reduceLT, Nat.reduceLeDiff, Nat.reduceAdd, Nat.reduceMul, Nat.reduceMod, Nat.reduceDiv, Nat.reduceSub, Int.reduceToNat]) | refine awp_sseq fun K hKs => ?_ | refine awp_s fun K hKr => ?_ | refine awp_dseq hT hm (by decide +kernel) fun K hKs => ?_ | refine awp_d hT hm (by decide +kernel) fun K hKr => ?_ | refine awp_block ?_ | refine awp_scope ?_ | refine awp_seq ?_ | (refine awp_cond _ rfl (fun h => ?_) (fun h => ?_) <;> simp only [bh, decide_eq_true_eq, decide_eq_false_iff_not, eq_self, not_true_eq_false, not_false_eq_true, reduceCtorEq, Bool.true_eq_false, Bool.false_eq_true, bne_self_eq_false, beq_self_eq_true] at h))
      all_goals first | omega | exact (fun hh => hh) | (simp only [List.length_take, List.length_drop, List.length_append, List.length_map, List.length_cons, List.length_nil, List.length_replicate, List.length_set]; omega) | (intro hh; (try simp only [hh, Bool.not_false, Bool.not_true, Bool.true_and, Bool.and_true, eq_self, true_and, and_true]); (try simp only [bh, decide_eq_true_eq, decide_eq_false_iff_not] at hh); (first | done | omega | (simp only [List.length_take, List.length_drop, List.length_append, List.length_map, List.length_cons, List.length_nil, List.length_replicate, List.length_set]; omega) | (intro h2; simp only [h2, Bool.not_false, Bool.not_true]; done))) | exact rfl | skip
      all_goals done
end Go.Proofs.Ytflclkbkgcfliaa
