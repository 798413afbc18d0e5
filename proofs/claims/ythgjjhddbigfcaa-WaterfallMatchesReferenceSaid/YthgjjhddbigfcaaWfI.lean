/- Part of a proof about the given program: contracts of its functions (see the comment of the last text). -/
import Derived.Test.YthgjjhddbigfcaaWfG
import Derived.Test.YthgjjhddbigfcaaWfP
import Derived.Test.YthgjjhddbigfcaaEng6
namespace Go.Proofs.Ythgjjhddbigfcaa
open Go.Eng Go.Proofs Go.RowKit Go.Maps Go.Sort Go.Shelf Go.Wf
set_option linter.unusedSimpArgs false
set_option linter.unusedVariables false

theorem keysCalls : KeysCalls Try.prog 62 66 70 := ⟨⟨_, Try.func62, rfl, rfl⟩, fun mb w => (callsIn_wide (n := 5)).1 (AnyZI.keys_in Try.keysA Fence.wide 5 trivial rfl mb w)⟩
theorem sortsA (m : Nat) : AnyZI.SortsIn Try.prog Try.sortedA_ren Fence.wide m :=
  ⟨fun blk off cap ss W hH hblk hsz => callsIn_wide.2 (AnyM.slices_Sort_int Try.sortA blk off cap ss W hH hblk hsz),
   fun p cap W => callsIn_wide.2 (AnyM.slices_Sort_int_none Try.sortA p cap W)⟩
def Rn : Value → Option (DataW Unit × List MemPlace) := fun _ => some (.nil, [])
theorem rdKey {n : Int} (h1 : -9223372036854775808 ≤ n) (h2 : n ≤ 9223372036854775807) {x : MapEntry} (hx : x.key = .int .i64 n) : WideElems.rd Try.prog 3 Rn x = some (.int .i64 n, .nil) := by
  unfold WideElems.rd
  rw [hx]
  have hwf : (Lit.int .i64 n).wf = true := by
    simp only [Lit.wf, Bool.and_eq_true, decide_eq_true_eq]
    have h1 : IntKind.i64.min = -9223372036854775808 := by decide
    have h2 : IntKind.i64.max = 9223372036854775807 := by decide
    omega
  have : keyOf Try.prog 3 (.int .i64 n) = some (.int .i64 n) := by
    simp [keyOf, Try.underlying3, mapKey, hwf]
  rw [this]; rfl
theorem ZFS {l l' : List Int} (h : l.Perm l') : l.mergeSort (fun x y => decide (x ≤ y)) = l'.mergeSort (fun x y => decide (x ≤ y)) := by
  have tr : ∀ a b c : Int, decide (a ≤ b) = true → decide (b ≤ c) = true → decide (a ≤ c) = true := fun a b c h1 h2 => by simp only [decide_eq_true_eq] at *; omega
  have to : ∀ a b : Int, (decide (a ≤ b) || decide (b ≤ a)) = true := fun a b => by simp only [Bool.or_eq_true, decide_eq_true_eq]; omega
  refine List.Perm.eq_of_pairwise (le := fun a b => decide (a ≤ b) = true) (fun a b _ _ h1 h2 => ?_) (List.pairwise_mergeSort tr to l) (List.pairwise_mergeSort tr to l') (((List.mergeSort_perm l _).trans h).trans (List.mergeSort_perm l' _).symm)
  simp only [decide_eq_true_eq] at h1 h2
  omega
def intsOf (m : List (Key × Value)) : List Int := m.map fun p => match p.1 with | .i n => n | .s _ => 0
theorem sortCalls (m : List (Key × Value)) (hm : m.length ≤ 1000000) : SortCalls Try.prog 61 66 70 3 (.anys true m) (((intsOf m).mergeSort (fun x y => decide (x ≤ y))).map fun x => .int .i64 x) := by
  refine ⟨⟨_, Try.func61, rfl, rfl⟩, fun w bp bm hbp hmap => ?_⟩
  obtain ⟨es, clock, hh, hl, hs, hsz, hk⟩ := hmap
  have hkey : ∀ x ∈ es.toList, ∃ n : Int, x.key = .int .i64 n ∧ -9223372036854775808 ≤ n ∧ n ≤ 9223372036854775807 := fun x hx => by
    have h1 : (x.key, x.val) ∈ es.toList.map (fun e => (e.key, e.val)) := List.mem_map.2 ⟨x, hx, rfl⟩
    rw [hl] at h1
    obtain ⟨p, hp, hpe⟩ := List.mem_map.1 h1
    obtain ⟨k1, k2, _⟩ := hk p hp
    injection hpe with e1 e2
    cases hkk : p.1 with
    | s b => rw [hkk] at k2; cases k2
    | i n => rw [hkk] at k1 e1; exact ⟨n, e1.symm, k1⟩
  have hlen : es.size = m.length := by
    have := congrArg List.length hl
    simpa [MC.ents] using this
  have hown : w.ownsMap Try.prog 3 Rn bm es.size (.map ((es.toList.map (WideElems.rg Try.prog 3 Rn)).foldr DataW.insert [])) :=
    ⟨es, clock, hh, ⟨hsz, hs, fun x hx => by obtain ⟨s, h1, h2, h3⟩ := hkey x hx; exact ⟨_, rdKey h2 h3 h1⟩⟩, Nat.le_refl _, rfl⟩
  have hsize := hown.size_le
  have hseq := AnyZI.keys_gives (ρ := Try.keysA_ren) { Try.keysA with } Fence.wide 2 trivial rfl (by omega) bp bm es.size _ w (Array.getElem?_eq_some_iff.1 hbp).1 (by simp [World.cell?, hbp]) hown
  have cS := AnyZI.sorted_in Try.sortedA Fence.wide 5 trivial trivial trivial trivial rfl (by omega) (sortsA _) (enters_of Try.func65 (by kernel_rfl) rfl) 66 #[.pointer (some ⟨bp, 0, none⟩)] trivial (enters_of Try.func66 (by kernel_rfl) rfl) _ _ (by unfold maxLen; omega) (by omega) _ hseq
  refine ((callsIn_wide (n := 5)).1 cS).mono fun en w' he => ?_
  obtain ⟨v, ss, rfl, hp, hrow, _, hbel⟩ := he
  have hperm : ss.Perm (intsOf m) := by
    refine hp.trans ?_
    have h1 : (intKeys (.map ((es.toList.map (WideElems.rg Try.prog 3 Rn)).foldr DataW.insert []))) = ((es.toList.map (WideElems.rg Try.prog 3 Rn)).foldr DataW.insert []).map fun p => _root_.Go.intOf p.1 := rfl
    rw [h1]
    refine ((WideShapes.sorted_perm _).map _).trans (List.Perm.of_eq ?_)
    rw [List.map_map]
    have h2 : (es.toList.map (fun e => (e.key, e.val))).map (fun q => match q.1 with | .int _ b => b | _ => 0) = (es.toList.map fun e => match e.key with | .int _ b => b | _ => 0) := by rw [List.map_map]; rfl
    have h3 : es.toList.map ((fun p => _root_.Go.intOf p.1) ∘ WideElems.rg Try.prog 3 Rn) = (es.toList.map fun e => match e.key with | .int _ b => b | _ => 0) := by
      refine List.map_congr_left fun x hx => ?_
      obtain ⟨s, h1, h2, h3⟩ := hkey x hx
      simp only [Function.comp, WideElems.rg, rdKey h2 h3 h1, h1, Option.getD_some, _root_.Go.intOf]
    rw [h3, ← h2, hl]
    unfold intsOf
    simp only [MC.ents, List.map_map]
    refine List.map_congr_left fun p hp => ?_
    cases hpk : p.1 with
    | i b => simp [Function.comp, hpk, Key.val]
    | s n =>
      have := (hk p hp).2.1
      rw [hpk] at this; cases this
  rw [ZFS hperm] at hrow
  have hlen2 : ss.length = (((intsOf m).mergeSort (fun x y => decide (x ≤ y))).map fun x => Value.int .i64 x).length := by simp [hperm.length_eq]
  rw [hlen2] at hrow
  exact ⟨v, rfl, hbel, hrow⟩
theorem sortCallsK (cs : List Cl) (k : Nat) (hk : k ≤ 1000000) (vals : List Value) (hl : vals.length = ((kys cs k).map Key.i).length) : SortCalls Try.prog 61 66 70 3 (.anys true (((kys cs k).map Key.i).zip vals)) ((rkN cs k).map fun x => .int .i64 x) := by
  have h1 := sortCalls (((kys cs k).map Key.i).zip vals) (by have := ZGM cs k; simp at hl; simp; omega)
  have e : intsOf (((kys cs k).map Key.i).zip vals) = kys cs k := by
    have key : ∀ (l : List Int) (v : List Value), v.length = l.length → intsOf ((l.map Key.i).zip v) = l := by
      intro l
      induction l with
      | nil => intro v _; rfl
      | cons x r ih =>
        intro v hv
        cases v with
        | nil => simp at hv
        | cons y v => simp only [List.map_cons, List.zip_cons_cons, intsOf]; congr 1; exact ih v (by simpa using hv)
    exact key _ _ (by simpa using hl)
  rw [e, ZFz] at h1
  exact h1
theorem findKey {l : List Int} {r : Int} : ((l.map Key.i).findIdx fun x => decide (x = Key.i r)) = l.findIdx fun x => decide (x = r) := by
  rw [List.findIdx_map]
  congr 1
  funext x
  simp [Function.comp]
theorem findAt {l : List Int} {r : Int} (h : r ∈ l) : (l.findIdx fun x => decide (x = r)) < l.length ∧ l.getD (l.findIdx fun x => decide (x = r)) 0 = r := by
  have h1 : (l.findIdx fun x => decide (x = r)) < l.length := List.findIdx_lt_length_of_exists ⟨r, h, by simp⟩
  refine ⟨h1, ?_⟩
  have := List.findIdx_getElem (xs := l) (p := fun x => decide (x = r)) (w := h1)
  rw [decide_eq_true_eq] at this
  rw [List.getD_eq_getElem?_getD, List.getElem?_eq_getElem h1]
  exact this
theorem ZAT (d : Nat) (L : List (List Int)) : AV.killL d (L.map intsF) = L.map intsF := by
  induction L with
  | nil => rfl
  | cons x r ih => rw [List.map_cons, AV.killL, ih, AV.kill]
theorem ZFT (base : Nat) (L : List (List Int)) : (idsL base L.length).map (frzF base L) = L.map intsF := by
  apply List.ext_getElem (by simp [idsL])
  intro i h1 h2
  have hi : i < L.length := by simpa using h2
  simp only [idsL, List.getElem_map, List.getElem_range, frzF]
  rw [if_pos (by omega), show base + i - base = i by omega]
  have e : L.getD i [] = L[i] := by simp [List.getD_eq_getElem?_getD, hi]
  rw [e]
attribute [local irreducible] AOps AOpsX AOps2 AOpsS AWP AAnyS Go.Eng.Pure PureRow Eff
set_option maxHeartbeats 16000000 in
theorem ZF4 (cs : List Cl) (hv : vC cs) : Eff Try.prog 43 [avCs cs] [] (.t [.s 5000, .s 5001]) [(5000, .mpa true ((kys cs cs.length).map Key.i) (.avs ((rws cs cs.length).map intsF))), (5001, .row 3 1 (.ints .i64 (rkF cs)))] := by
  have h64 := hv.1
  refine ZGl (n := 30) (res := [.tmp 2, .tmp 3]) hT Try.func43 rfl rfl rfl Try.ntmps43 (Nat.le_of_ble_eq_true rfl) (fun id hid => rfl) fun B w0 hgh hrd => ?_
  repeat' (first | ((first | refine sC hT fun K' hK' => ?_ | refine oC fun K' hK' => ?_); push_cast; (try simp (disch := omega) only [wrap64, Int.toNat_natCast]); (repeat refine ZAD ?_ ?_); (first | refine hK' _ ?_ | refine ⟨.v (.int .i64 0), hK' _ ?_⟩); clear hK' K') | (refine ZAR hT rfl fun K' hK' => ?_; push_cast; (try simp (disch := omega) only [wrap64, Int.toNat_natCast]); (repeat refine ZAD ?_ ?_); refine hK' _ ?_; clear hK' K') | (refine ZAS T rfl (by simp only [dstOk, Nat.reduceLT]) fun K' hK' => ?_; push_cast; refine hK' _ ?_; clear hK' K') | (refine sK hT ?_; simp only [St.put]) | ((first | refine ZAE (hK _ ?_) | refine ZAJ (hK _ ?_)); clear hK K; push_cast) | ((first | apply ZAC | apply ZAF | apply ZAG | apply ZAM); push_cast) | refine ZAK fun K hK => ?_ | refine ZAN fun K hK => ?_ | refine dQ hT hm fun K hK => ?_ | refine dL hT hm fun K hK => ?_ | apply ZAA | apply ZAB | apply ZAL | (refine ZAH _ rfl (fun h => ?_) (fun h => ?_) <;> simp only [bh2, reduceCtorEq] at h))
  all_goals first | exact ff | skip
  refine ZC3 ⟨[(4, .s 7), (8, avCs cs), (9, I64 cs.length), (10, I64 0)], [(7, .mpa true [] (.avs []))]⟩ ⟨rfl, rfl, rfl, rfl, trivial⟩ ⟨rfl, trivial⟩ ?_
  refine ZGk 7 5000 (by push_cast [idsE, AV.ids]) (by push_cast) (hgh 5000 rfl) ?_
  push_cast [rnE, rnH, AV.rn, rnI, Blk.rn, Cont.rn, AV.rn.rnL]
  refine ZAO (α := Nat) (fun k => ⟨[(4, .s 5000), (8, avCs cs), (9, I64 cs.length), (10, I64 k)], (5000, .mpa true ((kys cs k).map Key.i) (.avs (idsL 100000 (rws cs k).length))) :: famI 100000 3 (rws cs k)⟩) (fun k => k ≤ cs.length) (fun k => cs.length - k) 0 (Nat.zero_le _) (G.wk ⟨rfl, rfl, rfl, rfl, trivial⟩ ⟨rfl, trivial⟩) fun k hk => ?_
  by_cases hlt : k < cs.length
  · have c1 : decide ((k : Int) < (cs.length : Int)) = true := decide_eq_true (by omega)
    have hc := hv.2 _ (ZAc hlt)
    unfold okCl at hc
    have hrl := ZFO cs k
    have hkl := ZGM cs k
    have k6 := ZAj 6 100000 3 (rws cs k) (by decide)
    have i6 := ZAt 100000 (rws cs k).length 6 (by decide)
    have i24 := ZAt 100000 (rws cs k).length 24 (by decide)
    have hil := ZCH 100000 (rws cs k).length
    repeat' (first | ((first | refine sC hT fun K' hK' => ?_ | refine oC fun K' hK' => ?_); push_cast [c1, k6, i6]; (try simp (disch := omega) only [wrap64, Int.toNat_natCast]); (repeat refine ZAD ?_ ?_); (first | refine hK' _ ?_ | refine ⟨.v (.int .i64 0), hK' _ ?_⟩); clear hK' K') | (refine ZAR hT rfl fun K' hK' => ?_; push_cast [c1, k6, i6]; (try simp (disch := omega) only [wrap64, Int.toNat_natCast]); (repeat refine ZAD ?_ ?_); refine hK' _ ?_; clear hK' K') | (refine ZAS T rfl (by simp only [dstOk, Nat.reduceLT]) fun K' hK' => ?_; push_cast [c1, k6, i6]; refine hK' _ ?_; clear hK' K') | (refine sK hT ?_; simp only [St.put]) | ((first | refine ZAE (hK _ ?_) | refine ZAJ (hK _ ?_)); clear hK K; push_cast) | ((first | apply ZAC | apply ZAF | apply ZAG | apply ZAM); push_cast) | refine ZAK fun K hK => ?_ | refine ZAN fun K hK => ?_ | refine dQ hT hm fun K hK => ?_ | refine dL hT hm fun K hK => ?_ | apply ZAA | apply ZAB | apply ZAL | (refine ZAH _ rfl (fun h => ?_) (fun h => ?_) <;> simp only [bh2, reduceCtorEq] at h))
    all_goals first | exact ff | skip
    refine ZEV 6 (.box 41 (.avs [I64 (cs.getD k default).r, I64 (cs.getD k default).c, BL (cs.getD k default).f])) rfl rfl ?_
    push_cast [frzE, frz1, frzP, killH, k6, i6, AV.kill, Blk.cont, Cont.at, Cont.len]
    by_cases hmem : (cs.getD k default).r ∈ kys cs k
    · obtain ⟨f1, f2⟩ := findAt hmem
      have hge : getA ((kys cs k).map Key.i) (.i (cs.getD k default).r) (.avs (idsL 100000 (rws cs k).length)) (.v (.slice none 0 0)) = .s (100000 + (kys cs k).findIdx fun x => decide (x = (cs.getD k default).r)) := by
        unfold getA
        rw [findKey, List.length_map, if_pos f1]
        exact idsLn 100000 (by omega)
      obtain ⟨r1, r2⟩ := ZJ0 f1 f2
      obtain ⟨u1, u2⟩ := ZJC (ks := (kys cs k).map Key.i) (k := .i (cs.getD k default).r) findKey (by rw [List.length_map]; exact f1)
      have u2' := u2 (idsL 100000 (rws cs k).length) (.s 24) (by rw [hil, List.length_map, hrl])
      have hlen : ((rws cs k).getD ((kys cs k).findIdx fun x => decide (x = (cs.getD k default).r)) []).length ≤ k := by
        rw [ZDE f1, ZBR]; exact ZD5 _ _
      clear f2
      generalize (kys cs k).findIdx (fun x => decide (x = (cs.getD k default).r)) = j at *
      have hlj := ZAv 100000 3 (rws cs k) (i := j) (by omega)
      have hdel : delH (100000 + j) (famI 100000 3 (rws cs k)) = famD 100000 3 (rws cs k) j := rfl
      have kD := ZH7 24 100000 3 (rws cs k) j (by decide)
      have hrest := fun (i : Nat) (h : i < (rws cs k).length) (hne : i ≠ j) => ZJM 100000 3 (rws cs k) h hne
      have hids : ∀ i, i < (rws cs k).length → ((idsL 100000 (rws cs k).length).set j (.s 24)).getD i .top = if i = j then .s 24 else .s (100000 + i) := fun i hi => by
        by_cases e : i = j
        · subst e; rw [if_pos rfl, Go.Eng.getD_set_self _ _ _ _ (by rw [hil]; exact hi)]
        · rw [if_neg e, Go.Eng.getD_set_ne _ _ _ _ _ (fun h => e h.symm), idsLn 100000 hi]
      have j24 : (100000 + j = 24) = False := eq_false (by omega)
      have j5k : (5000 = 100000 + j) = False := eq_false (by omega)
      generalize hX : rws cs k = X at *
      (refine awp_v hT [24] [(1, [24]), (1, [24]), (1, [24]), (0, [24]), (0, [24]), (0, [24]), (0, [24]), (0, [24]), (0, [24]), (0, []), (4, [])] hm (by decide +kernel) (by push_cast) fun K hKr => ?_; repeat' (first
    | ((first | refine aops2_quiet rfl (by rfl) fun K' hK' => ?_ | refine aops2_free rfl (by rfl) fun K' hK' => ?_ | refine aops2_loud rfl (by rfl) fun K' hK' => ?_ | refine aops2_own rfl rfl (by decide) fun K' hK' => ?_ | refine aops2_map (o := Oper.mk _ (.mapUpdate _ _ _ _) _ _ _ _) rfl (by simp only [dstOk, Nat.reduceLT]) fun K' hK' => ?_ | refine aops2_lit (o := Oper.mk _ (.buildSlice _ _ _) _ _ _ _) rfl (by simp only [dstOk, Nat.reduceLT]) fun K' hK' => ?_ | refine aops2_appN (o := Oper.mk _ (.call _) _ _ _ _) rfl (by simp only [dstOk, Nat.reduceLT]) fun K' hK' => ?_); push_cast [j24, j5k, hge, hlj, hdel, kD, i24, u1, u2']; (try simp (disch := omega) only [wrap64, Int.toNat_natCast]); (repeat refine ZAD ?_ ?_); (first | (first | refine hK' _ (by push_cast [j24, j5k, hge, hlj, hdel, kD, i24, u1, u2']) ?_ | refine hK' _ ?_) | ((first | refine ⟨[(k : Int)], ⟨rfl, (fun j hj => rfl), by omega, by omega⟩, ?_⟩); (first | refine hK' _ (by push_cast [j24, j5k, hge, hlj, hdel, kD, i24, u1, u2']) ?_ | refine hK' _ ?_))); clear hK' K')
    | (refine aops2_nil ?_; refine hKr _ ?_; clear hKr K; push_cast)))
      all_goals first | exact ff | skip
      all_goals (try exact ⟨⟨by omega, by omega⟩, rfl, by rw [List.length_map]; omega⟩)
      have hw : IntKind.i64.wrap ((k : Int) + 1) = (k : Int) + 1 := wrap64 (by omega) (by omega)
      repeat' (first | ((first | refine sC hT fun K' hK' => ?_ | refine oC fun K' hK' => ?_); push_cast [hw]; (try simp (disch := omega) only [wrap64, Int.toNat_natCast]); (repeat refine ZAD ?_ ?_); (first | refine hK' _ ?_ | refine ⟨.v (.int .i64 0), hK' _ ?_⟩); clear hK' K') | (refine ZAR hT rfl fun K' hK' => ?_; push_cast [hw]; (try simp (disch := omega) only [wrap64, Int.toNat_natCast]); (repeat refine ZAD ?_ ?_); refine hK' _ ?_; clear hK' K') | (refine ZAS T rfl (by simp only [dstOk, Nat.reduceLT]) fun K' hK' => ?_; push_cast [hw]; refine hK' _ ?_; clear hK' K') | (refine sK hT ?_; simp only [St.put]) | ((first | refine ZAE (hK _ ?_) | refine ZAJ (hK _ ?_)); clear hK K; push_cast) | ((first | apply ZAC | apply ZAF | apply ZAG | apply ZAM); push_cast) | refine ZAK fun K hK => ?_ | refine ZAN fun K hK => ?_ | refine dQ hT hm fun K hK => ?_ | refine dL hT hm fun K hK => ?_ | apply ZAA | apply ZAB | apply ZAL | (refine ZAH _ rfl (fun h => ?_) (fun h => ?_) <;> simp only [bh2, reduceCtorEq] at h))
      all_goals first | exact ff | skip
      refine ⟨k + 1, ⟨by omega, by omega⟩, fun a w hG => ?_⟩
      have hXl : (X.set j (X.getD j [] ++ [(k : Int)])).length = X.length := List.length_set ..
      have h1 := G.refam hG (.mpa true ((kys cs k).map Key.i)) (ZEn _ _) 5000 24 100000 j 3 (X.set j (X.getD j [] ++ [(k : Int)])) ((idsL 100000 X.length).set j (.s 24)) [(4, .s 5000), (8, avCs cs), (9, I64 cs.length), (10, I64 ((k : Int) + 1))] [] rfl (by rw [List.length_set, hil, hXl]) (fun i hi => hids i (by rw [hXl] at hi; exact hi)) (by rw [Go.Eng.getD_set_self _ _ _ _ (by omega)]; rfl)
        (fun i hi hne => by
          rw [hXl] at hi
          have e1 : (24 = 100000 + i) = False := eq_false (by omega)
          have e2 : (5000 = 100000 + i) = False := eq_false (by omega)
          simp only [lkH, e1, e2, if_false]
          rw [hrest i hi hne, Go.Eng.getD_set_ne _ _ _ _ _ (fun h => hne h.symm)]) (by rw [hXl]; omega) (by decide) (by decide) (by decide)
        (fun s => by
          by_cases e4 : s = 4
          · subst e4; exact .inr ⟨rfl, by show AV.ids _ (.s 5000); simp only [AV.ids]; decide⟩
          · by_cases e8 : s = 8
            · subst e8; exact .inr ⟨rfl, by show AV.ids _ (avCs cs); simp only [avSl, AV.ids]⟩
            · by_cases e9 : s = 9
              · subst e9; exact .inr ⟨rfl, by show AV.ids _ (I64 cs.length); simp only [AV.ids]⟩
              · by_cases e10 : s = 10
                · subst e10; exact .inr ⟨rfl, by show AV.ids _ (I64 _); simp only [AV.ids]⟩
                · exact .inl (by simp only [lk, Ne.symm e4, Ne.symm e8, Ne.symm e9, Ne.symm e10, if_false]))
        (hgh _ rfl) (fun id b h => by cases h)
      rw [List.append_nil, hXl, ← r2] at h1
      rw [r1]
      have e := congrArg List.length r2
      rw [hXl] at e
      rw [e]
      exact h1
    · have hge : getA ((kys cs k).map Key.i) (.i (cs.getD k default).r) (.avs (idsL 100000 (rws cs k).length)) (.v (.slice none 0 0)) = .v (.slice none 0 0) := by
        unfold getA
        rw [findKey, List.length_map, if_neg]
        intro h
        have h2 := List.findIdx_getElem (xs := kys cs k) (p := fun x => decide (x = (cs.getD k default).r)) (w := h)
        rw [decide_eq_true_eq] at h2
        exact hmem (h2 ▸ List.getElem_mem h)
      obtain ⟨r1, r2⟩ := ZJ1 hmem
      obtain ⟨u1, u2⟩ := ZHD (ks := (kys cs k).map Key.i) (k := .i (cs.getD k default).r) (fun x hx e => by
        obtain ⟨y, hy, rfl⟩ := List.mem_map.1 hx
        injection e with e
        exact hmem (e ▸ hy))
      have u2' := u2 (idsL 100000 (rws cs k).length) (.s 24) (by rw [hil, List.length_map, hrl])
      have k24 := ZAj 24 100000 3 (rws cs k) (by decide)
      have hrest := fun (i : Nat) (h : i < (rws cs k).length) => ZAv 100000 3 (rws cs k) h
      have hids : ∀ i, i < (rws cs k).length + 1 → (idsL 100000 (rws cs k).length ++ [AV.s 24]).getD i .top = if i = (rws cs k).length then .s 24 else .s (100000 + i) := fun i hi => by
        by_cases e : i = (rws cs k).length
        · subst e
          rw [if_pos rfl, List.getD_eq_getElem?_getD, List.getElem?_append_right (by rw [hil]; exact Nat.le_refl _), hil, Nat.sub_self]; rfl
        · rw [if_neg e, List.getD_eq_getElem?_getD, List.getElem?_append_left (by rw [hil]; omega), ← List.getD_eq_getElem?_getD, idsLn 100000 (by omega)]
      generalize hX : rws cs k = X at *
      (refine awp_v hT [24] [(1, [24]), (1, [24]), (1, [24]), (0, [24]), (0, [24]), (0, [24]), (0, [24]), (0, [24]), (0, [24]), (0, []), (4, [])] hm (by decide +kernel) (by push_cast) fun K hKr => ?_; repeat' (first
    | ((first | refine aops2_quiet rfl (by rfl) fun K' hK' => ?_ | refine aops2_free rfl (by rfl) fun K' hK' => ?_ | refine aops2_loud rfl (by rfl) fun K' hK' => ?_ | refine aops2_own rfl rfl (by decide) fun K' hK' => ?_ | refine aops2_map (o := Oper.mk _ (.mapUpdate _ _ _ _) _ _ _ _) rfl (by simp only [dstOk, Nat.reduceLT]) fun K' hK' => ?_ | refine aops2_lit (o := Oper.mk _ (.buildSlice _ _ _) _ _ _ _) rfl (by simp only [dstOk, Nat.reduceLT]) fun K' hK' => ?_ | refine aops2_appN (o := Oper.mk _ (.call _) _ _ _ _) rfl (by simp only [dstOk, Nat.reduceLT]) fun K' hK' => ?_); push_cast [hge, k24, i24, u1, u2']; (try simp (disch := omega) only [wrap64, Int.toNat_natCast]); (repeat refine ZAD ?_ ?_); (first | (first | refine hK' _ (by push_cast [hge, k24, i24, u1, u2']) ?_ | refine hK' _ ?_) | ((first | refine ⟨[(k : Int)], ⟨rfl, (fun j hj => rfl), by omega, by omega⟩, ?_⟩ | refine ⟨[(k : Int)], ⟨rfl, (fun j hj => rfl)⟩, ?_⟩); (first | refine hK' _ (by push_cast [hge, k24, i24, u1, u2']) ?_ | refine hK' _ ?_))); clear hK' K')
    | (refine aops2_nil ?_; refine hKr _ ?_; clear hKr K; push_cast)))
      all_goals first | exact ff | skip
      all_goals (try exact ⟨⟨by omega, by omega⟩, rfl, by rw [List.length_map]; omega⟩)
      have hw : IntKind.i64.wrap ((k : Int) + 1) = (k : Int) + 1 := wrap64 (by omega) (by omega)
      repeat' (first | ((first | refine sC hT fun K' hK' => ?_ | refine oC fun K' hK' => ?_); push_cast [hw]; (try simp (disch := omega) only [wrap64, Int.toNat_natCast]); (repeat refine ZAD ?_ ?_); (first | refine hK' _ ?_ | refine ⟨.v (.int .i64 0), hK' _ ?_⟩); clear hK' K') | (refine ZAR hT rfl fun K' hK' => ?_; push_cast [hw]; (try simp (disch := omega) only [wrap64, Int.toNat_natCast]); (repeat refine ZAD ?_ ?_); refine hK' _ ?_; clear hK' K') | (refine ZAS T rfl (by simp only [dstOk, Nat.reduceLT]) fun K' hK' => ?_; push_cast [hw]; refine hK' _ ?_; clear hK' K') | (refine sK hT ?_; simp only [St.put]) | ((first | refine ZAE (hK _ ?_) | refine ZAJ (hK _ ?_)); clear hK K; push_cast) | ((first | apply ZAC | apply ZAF | apply ZAG | apply ZAM); push_cast) | refine ZAK fun K hK => ?_ | refine ZAN fun K hK => ?_ | refine dQ hT hm fun K hK => ?_ | refine dL hT hm fun K hK => ?_ | apply ZAA | apply ZAB | apply ZAL | (refine ZAH _ rfl (fun h => ?_) (fun h => ?_) <;> simp only [bh2, reduceCtorEq] at h))
      all_goals first | exact ff | skip
      refine ⟨k + 1, ⟨by omega, by omega⟩, fun a w hG => ?_⟩
      have hXl : (X ++ [[(k : Int)]]).length = X.length + 1 := by simp
      have h1 := G.refam hG (.mpa true ((kys cs k).map Key.i ++ [.i (cs.getD k default).r])) (ZEn _ _) 5000 24 100000 X.length 3 (X ++ [[(k : Int)]]) (idsL 100000 X.length ++ [.s 24]) [(4, .s 5000), (8, avCs cs), (9, I64 cs.length), (10, I64 ((k : Int) + 1))] [] rfl (by simp [hil]) (fun i hi => hids i (by rw [hXl] at hi; exact hi)) (by
          have e : (X ++ [[(k : Int)]]).getD X.length [] = [(k : Int)] := by simp [List.getD_eq_getElem?_getD]
          rw [e]; rfl)
        (fun i hi hne => by
          rw [hXl] at hi
          have e1 : (24 = 100000 + i) = False := eq_false (by omega)
          have e2 : (5000 = 100000 + i) = False := eq_false (by omega)
          simp only [lkH, e1, e2, if_false]
          rw [hrest i (by omega), List.getD_eq_getElem?_getD, List.getD_eq_getElem?_getD, List.getElem?_append_left (by omega)]) (by rw [hXl]; omega) (by decide) (by decide) (by decide)
        (fun s => by
          by_cases e4 : s = 4
          · subst e4; exact .inr ⟨rfl, by show AV.ids _ (.s 5000); simp only [AV.ids]; decide⟩
          · by_cases e8 : s = 8
            · subst e8; exact .inr ⟨rfl, by show AV.ids _ (avCs cs); simp only [avSl, AV.ids]⟩
            · by_cases e9 : s = 9
              · subst e9; exact .inr ⟨rfl, by show AV.ids _ (I64 cs.length); simp only [AV.ids]⟩
              · by_cases e10 : s = 10
                · subst e10; exact .inr ⟨rfl, by show AV.ids _ (I64 _); simp only [AV.ids]⟩
                · exact .inl (by simp only [lk, Ne.symm e4, Ne.symm e8, Ne.symm e9, Ne.symm e10, if_false]))
        (hgh _ rfl) (fun id b h => by cases h)
      rw [List.append_nil, ← r2] at h1
      have e3 : (kys cs (k + 1)).map Key.i = (kys cs k).map Key.i ++ [.i (cs.getD k default).r] := by rw [r1, List.map_append]; rfl
      rw [e3]
      exact h1
  · obtain rfl : k = cs.length := by omega
    have c1 : decide ((cs.length : Int) < (cs.length : Int)) = false := decide_eq_false (by omega)
    repeat' (first | ((first | refine sC hT fun K' hK' => ?_ | refine oC fun K' hK' => ?_); push_cast [c1]; (try simp (disch := omega) only [wrap64, Int.toNat_natCast]); (repeat refine ZAD ?_ ?_); (first | refine hK' _ ?_ | refine ⟨.v (.int .i64 0), hK' _ ?_⟩); clear hK' K') | (refine ZAR hT rfl fun K' hK' => ?_; push_cast [c1]; (try simp (disch := omega) only [wrap64, Int.toNat_natCast]); (repeat refine ZAD ?_ ?_); refine hK' _ ?_; clear hK' K') | (refine ZAS T rfl (by simp only [dstOk, Nat.reduceLT]) fun K' hK' => ?_; push_cast [c1]; refine hK' _ ?_; clear hK' K') | (refine sK hT ?_; simp only [St.put]) | ((first | refine ZAE (hK _ ?_) | refine ZAJ (hK _ ?_)); clear hK K; push_cast) | ((first | apply ZAC | apply ZAF | apply ZAG | apply ZAM); push_cast) | refine ZAK fun K hK => ?_ | refine ZAN fun K hK => ?_ | refine dQ hT hm fun K hK => ?_ | refine dL hT hm fun K hK => ?_ | apply ZAA | apply ZAB | apply ZAL | (refine ZAH _ rfl (fun h => ?_) (fun h => ?_) <;> simp only [bh2, reduceCtorEq] at h))
    all_goals first | exact ff | skip
    refine ZAy ⟨[(27, .s 5000), (26, .s 5000)], [(5000, .mpa true ((kys cs cs.length).map Key.i) (.avs ((rws cs cs.length).map intsF)))]⟩ (fun a w hG => ?_) ?_
    · have h2 : G 30 B w0 ⟨[(27, .s 5000), (26, .s 5000)], (5000, .mpa true ((kys cs cs.length).map Key.i) (.avs (idsL 100000 (rws cs cs.length).length))) :: famI 100000 3 (rws cs cs.length)⟩ a w := by
        refine G.wkL (fun s => ?_) (fun s b h => ?_) a w hG
        · by_cases e4 : s = 27
          · subst e4; exact .inr rfl
          · by_cases e8 : s = 26
            · subst e8; exact .inr rfl
            · exact .inl (by simp only [lk, Ne.symm e4, Ne.symm e8, if_false])
        · exact h
      have h3 := h2.freezeF 100000 3 (rws cs cs.length) (fun j hj => by
        have e2 : (5000 = 100000 + j) = False := eq_false (by omega)
        simp only [lkH, e2, if_false]
        exact ZAv 100000 3 _ hj) [(5000, .mpa true ((kys cs cs.length).map Key.i) (.avs (idsL 100000 (rws cs cs.length).length)))] (fun id b hh => by
        simp only [lkH] at hh ⊢
        by_cases e : 5000 = id
        · subst e
          rw [if_pos rfl] at hh
          exact ⟨by decide, by rw [if_pos rfl]; exact hh⟩
        · rw [if_neg e] at hh; cases hh)
      have e := ZFT 100000 (rws cs cs.length)
      simp only [frzFH, frzFB, frzFC, e] at h3
      exact h3
    refine ZGI rfl (by simp only [dstOk, Nat.reduceLT]) fun K' hK' => ?_
    push_cast
    refine ⟨66, 70, true, _, _, rfl, keysCalls, ?_⟩
    refine hK' _ ?_; clear hK' K'
    refine ZEO rfl (by simp only [dstOk, Nat.reduceLT]) fun K' hK' => ?_
    push_cast
    simp only [ZAT]
    refine ⟨70, 5000, true, _, _, 3, rkF cs, rfl, rfl, fun vals hv2 => sortCallsK cs cs.length (by omega) vals hv2, ?_⟩
    refine hK' _ ?_; clear hK' K'
    refine ZAy ⟨[(26, .s 5000), (29, .s 5001)], [(5000, .mpa true ((kys cs cs.length).map Key.i) (.avs ((rws cs cs.length).map intsF))), (5001, .row 3 1 (.ints .i64 (rkF cs)))]⟩ (fun a w hG => ?_) ?_
    · have h2 : G 30 B w0 ⟨[(26, .s 5000), (29, .s 29)], [(5000, .mpa true ((kys cs cs.length).map Key.i) (.avs ((rws cs cs.length).map intsF))), (29, .row 3 1 (.ints .i64 (rkF cs)))]⟩ a w := by
        refine G.wk ?_ ?_ a w hG
        · exact ⟨rfl, rfl, trivial⟩
        · exact ⟨rfl, rfl, trivial⟩
      have hids : ∀ L : List (List Int), AV.idsL (fun id => id ≠ 5001) (L.map intsF) := fun L => by
        induction L with
        | nil => simp only [List.map_nil, AV.idsL]
        | cons x r ih => simp only [List.map_cons, AV.idsL, AV.ids]; exact ⟨trivial, ih⟩
      have hrn : ∀ L : List (List Int), AV.rn.rnL 29 5001 (L.map intsF) = L.map intsF := fun L => by
        induction L with
        | nil => rfl
        | cons x r ih => rw [List.map_cons, AV.rn.rnL, ih, AV.rn]
      have h3 := h2.rn 29 5001 ⟨by simp only [AV.ids]; decide, by simp only [AV.ids]; decide, trivial⟩ ⟨by decide, hids _, by decide, trivial, trivial⟩ (hgh 5001 rfl)
      simp only [rnE, rnH, AV.rn, rnI, Blk.rn, Cont.rn, hrn] at h3
      exact h3
    repeat' (first | ((first | refine sC hT fun K' hK' => ?_ | refine oC fun K' hK' => ?_); push_cast; (try simp (disch := omega) only [wrap64, Int.toNat_natCast]); (repeat refine ZAD ?_ ?_); (first | refine hK' _ ?_ | refine ⟨.v (.int .i64 0), hK' _ ?_⟩); clear hK' K') | (refine ZAR hT rfl fun K' hK' => ?_; push_cast; (try simp (disch := omega) only [wrap64, Int.toNat_natCast]); (repeat refine ZAD ?_ ?_); refine hK' _ ?_; clear hK' K') | (refine ZAS T rfl (by simp only [dstOk, Nat.reduceLT]) fun K' hK' => ?_; push_cast; refine hK' _ ?_; clear hK' K') | (refine sK hT ?_; simp only [St.put]) | ((first | refine ZAE (hK _ ?_) | refine ZAJ (hK _ ?_)); clear hK K; push_cast) | ((first | apply ZAC | apply ZAF | apply ZAG | apply ZAM); push_cast) | refine ZAK fun K hK => ?_ | refine ZAN fun K hK => ?_ | refine dQ hT hm fun K hK => ?_ | refine dL hT hm fun K hK => ?_ | apply ZAA | apply ZAB | apply ZAL | (refine ZAH _ rfl (fun h => ?_) (fun h => ?_) <;> simp only [bh2, reduceCtorEq] at h))
    all_goals first | exact ff | skip
    all_goals (intro id blk h; exact h)
end Go.Proofs.Ythgjjhddbigfcaa
