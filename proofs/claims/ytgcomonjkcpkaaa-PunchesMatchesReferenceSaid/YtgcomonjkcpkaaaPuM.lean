/- Part of a proof about the given program: contracts of its functions (see the comment of the last text). -/
import Derived.Test.YtgcomonjkcpkaaaPuL
import Derived.Test.YtgcomonjkcpkaaaPuD
namespace Go.Proofs.Ytgcomonjkcpkaaa
open Go.Eng Go.Proofs
set_option linter.unusedSimpArgs false
set_option linter.unusedVariables false
attribute [local irreducible] AOps AOpsX AOps2 AOpsF AAny AWP zTab zFound zRow

theorem flat_get {α : Type} [Inhabited α] {av : α → List AV} {sz : Nat} (hs : ∀ x, (av x).length = sz) : ∀ (l : List α) (e j : Nat), e < l.length → j < sz → (l.flatMap av).getD (e * sz + j) .top = (av (l.getD e default)).getD j .top
  | [], e, j, h, _ => by simp at h
  | p :: ps, 0, j, _, hj => by
    rw [List.flatMap_cons]
    simp only [List.getD_eq_getElem?_getD, List.getD_cons_zero, Nat.zero_mul, Nat.zero_add]
    rw [List.getElem?_append_left (by rw [hs]; exact hj)]
    rfl
  | p :: ps, e + 1, j, h, hj => by
    have := flat_get hs ps e j (by simpa using h) hj
    rw [List.flatMap_cons, List.getD_cons_succ, ← this]
    simp only [List.getD_eq_getElem?_getD]
    rw [List.getElem?_append_right (by rw [hs, Nat.succ_mul]; omega)]
    congr 2
    rw [hs, Nat.succ_mul]; omega
theorem sub_flat {α : Type} [Inhabited α] {av : α → List AV} {sz : Nat} {fr : Bool} (hs : ∀ x, (av x).length = sz) (l : List α) : Sub (.i fr (fun e j => (l.flatMap av).getD (e * sz + j) .top) sz 0 l.length) (avSl av sz l) :=
  sub_fresh.trans (sub_slice rfl fun e j he hj => by rw [Nat.zero_add]; exact flat_get hs l e j he hj)
theorem subDs (l : List Du) {fr : Bool} : Sub (.i fr (fun e j => (l.flatMap avD).getD (e * 3 + j) .top) 3 0 l.length) (avDs l) := sub_flat (av := avD) (sz := 3) (fun _ => rfl) l
theorem subPs (l : List Pn) {fr : Bool} : Sub (.i fr (fun e j => (l.flatMap avP).getD (e * 2 + j) .top) 2 0 l.length) (avPs l) := sub_flat (av := avP) (sz := 2) (fun _ => rfl) l
theorem subMs (l : List Mt) {fr : Bool} : Sub (.i fr (fun e j => (l.flatMap avM).getD (e * 3 + j) .top) 3 0 l.length) (avMs l) := sub_flat (av := avM) (sz := 3) (fun _ => rfl) l

def hd0 : List Du := [⟨1000, 1480, 0⟩]
def hp3 : List Pn := [⟨1000, true⟩, ⟨1001, true⟩, ⟨1480, false⟩]
def hp1 : List Pn := [⟨1470, false⟩]
def hl3 : List Mt := [⟨0, true, 0⟩, ⟨-1, false, 1⟩, ⟨0, false, 2⟩]
def hl1 : List Mt := [⟨0, true, -1⟩, ⟨0, false, 0⟩]
def hl0 : List Mt := [⟨0, true, -1⟩, ⟨0, false, -1⟩]
theorem pc (ds : List Du) (ps : List Pn) (l : List Mt) (n : Int) (h : usF ds ps = 0) (h1 : pathF (marksF 0 ds) ps = l) (h2 : D (marksF 0 ds) ps = n) : Pure Try.prog 13 [avDs ds, avPs ps] (.t [avMsT l, I64 n, I64 0]) := by
  have := pair_ok ds ps h
  rwa [h1, h2] at this

set_option maxHeartbeats 8000000 in
theorem head_ok : Pure Try.prog 11 [] (BL true) := by
  have c1 := (pc hd0 hp3 hl3 120 (by decide +kernel) (by decide +kernel) (by decide +kernel)).sub (xs := [_, _]) ⟨subDs hd0 (fr := false), subPs hp3 (fr := false), trivial⟩
  have c2 := (pc hd0 hp1 hl1 130 (by decide +kernel) (by decide +kernel) (by decide +kernel)).sub (xs := [_, _]) ⟨subDs hd0 (fr := false), subPs hp1 (fr := false), trivial⟩
  have c3 := ((worked_ok hd0 hp1 hl1 (by decide +kernel) (by decide) (by decide +kernel)).eq (show AV.t [intsF (workF hd0 hp1 hl1), I64 0] = AV.t [intsF [470], I64 0] by rw [show workF hd0 hp1 hl1 = [470] by decide +kernel])).sub (xs := [_, _, _]) ⟨subDs hd0 (fr := false), subPs hp1 (fr := false), Sub.refl _, trivial⟩
  have c4 := (pc hd0 [] hl0 240 (by decide +kernel) (by decide +kernel) (by decide +kernel)).sub (xs := [_, .v (.slice none 0 0)]) ⟨subDs hd0 (fr := false), sub_nil', trivial⟩
  have c5 := ((pair_no [⟨5, 9, 0⟩, ⟨8, 10, 0⟩] [] (by decide) (by decide) (by decide +kernel)).eq (show _ = AV.t [.v (.slice none 0 0), I64 0, I64 171] by rw [show usF [⟨5, 9, 0⟩, ⟨8, 10, 0⟩] [] = 171 by decide +kernel])).sub (xs := [_, .v (.slice none 0 0)]) ⟨subDs [⟨5, 9, 0⟩, ⟨8, 10, 0⟩] (fr := false), sub_nil', trivial⟩
  have c6 := ((pair_no [] [⟨5, false⟩, ⟨4, false⟩] (by decide) (by decide) (by decide +kernel)).eq (show _ = AV.t [.v (.slice none 0 0), I64 0, I64 6] by rw [show usF [] [⟨5, false⟩, ⟨4, false⟩] = 6 by decide +kernel])).sub (xs := [.v (.slice none 0 0), _]) ⟨sub_nil', subPs [⟨5, false⟩, ⟨4, false⟩] (fr := false), trivial⟩
  have c7 := ((same_ok hl3 hl3 (by decide) (by decide)).eq (show _ = BL true by rw [decide_eq_true rfl])).sub (xs := [avMs hl3, _]) ⟨Sub.refl _, subMs hl3 (fr := false), trivial⟩
  have c8 := (sameI_ok [470] [470] (by decide) (by decide)).eq (show _ = BL true by rw [decide_eq_true rfl])
  refine pure_of (n := 118) (res := [.tmp 0]) hT Try.func11 rfl rfl rfl Try.ntmps11 (Nat.le_of_ble_eq_true rfl) fun B w0 => ?_
  repeat' (first
    | ((first | refine aopsx_cons (by rfl) fun K' hK' => ?_ | refine aops_cons (by rfl) fun K' hK' => ?_); simp only [push_cast, reduceIte, reduceCtorEq, Nat.reduceEqDiff, Nat.reduceLT, Nat.reduceLeDiff, Nat.reduceAdd, Nat.reduceMul, Nat.reduceMod, Nat.reduceDiv, Nat.reduceSub, Int.reduceToNat]; (try simp (disch := omega) only [wrap64, Int.toNat_natCast]); (repeat refine and_rev ?_ ?_); (first | refine hK' _ ?_ | ((first | refine ⟨_, ⟨(by first | exact c1 | exact c2 | exact c3 | exact c4 | exact c5 | exact c6 | exact c7 | exact c8), (by first | exact .inr rfl | exact .inl (by simp [AV.fresh, AV.freshL]))⟩, ?_⟩ | refine ⟨_, fun hb => ⟨(by first | exact c1 | exact c2 | exact c3 | exact c4 | exact c5 | exact c6 | exact c7 | exact c8), (by first | exact .inr rfl | exact .inl (by simp [AV.fresh, AV.freshL]))⟩, ?_⟩); (try simp only [push_cast, reduceIte, reduceCtorEq, Nat.reduceEqDiff, Nat.reduceLT, Nat.reduceLeDiff, Nat.reduceAdd, Nat.reduceMul, Nat.reduceMod, Nat.reduceDiv, Nat.reduceSub, Int.reduceToNat]); (try simp (disch := omega) only [wrap64, Int.toNat_natCast]); (repeat refine and_rev ?_ ?_); refine hK' _ ?_) | (refine ⟨.v (.int .i64 0), ?_⟩; refine hK' _ ?_)); clear hK' K')
    | (refine aopsx_skip (by rfl) (by rfl) (by simp only [dstOk, Nat.reduceLT]) ?_; simp only [St.put])
    | ((first | refine aopsx_nil ?_ | refine aops_nil ?_); first | (refine hKs _ ?_; clear hKs K) | (refine hKr _ ?_; clear hKr K; simp only [push_cast, reduceIte, reduceCtorEq, Nat.reduceEqDiff, Nat.reduceLT, Nat.reduceLeDiff, Nat.reduceAdd, Nat.reduceMul, Nat.reduceMod, Nat.reduceDiv, Nat.reduceSub, Int.reduceToNat]))
    | refine awp_xseq hT fun K hKs => ?_ | refine awp_x hT fun K hKr => ?_ | refine awp_dseq hT hm (by decide +kernel) fun K hKs => ?_ | refine awp_d hT hm (by decide +kernel) fun K hKr => ?_
    | refine awp_block ?_ | refine awp_scope ?_ | refine awp_seq ?_ | ((first | refine awp_label ?_ | refine awp_skip ?_ | refine awp_exit ?_ | refine awp_ret ?_); simp only [push_cast, reduceIte, reduceCtorEq, Nat.reduceEqDiff, Nat.reduceLT, Nat.reduceLeDiff, Nat.reduceAdd, Nat.reduceMul, Nat.reduceMod, Nat.reduceDiv, Nat.reduceSub, Int.reduceToNat])
    | (refine awp_cond _ rfl (fun h => ?_) (fun h => ?_) <;> simp only [bh, decide_eq_true_eq, decide_eq_false_iff_not, eq_self, not_true_eq_false, not_false_eq_true, reduceCtorEq, Bool.true_eq_false, Bool.false_eq_true, bne_self_eq_false, beq_self_eq_true] at h))
  all_goals first | omega | exact (fun hh => hh) | (simp only [List.length_take, List.length_drop, List.length_append, List.length_map, List.length_cons, List.length_nil, List.length_replicate, List.length_set]; omega) | (intro hh; (try simp only [hh, Bool.not_false, Bool.not_true, Bool.true_and, Bool.and_true, eq_self, true_and, and_true]); (try simp only [bh, decide_eq_true_eq, decide_eq_false_iff_not] at hh); (first | done | omega | (simp only [List.length_take, List.length_drop, List.length_append, List.length_map, List.length_cons, List.length_nil, List.length_replicate, List.length_set]; omega))) | (intro hh; simp only [hh, Bool.not_false, Bool.not_true, Bool.true_and, Bool.and_true, eq_self, true_and, and_true]; intro h2; simp only [h2, Bool.not_false, Bool.not_true]; done) | (exact rfl) | skip
end Go.Proofs.Ytgcomonjkcpkaaa
