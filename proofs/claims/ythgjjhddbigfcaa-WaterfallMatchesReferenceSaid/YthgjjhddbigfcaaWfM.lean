/- Part of a proof about the given program: contracts of its functions (see the comment of the last text). -/
import Derived.Test.YthgjjhddbigfcaaWfJ
import Derived.Test.YthgjjhddbigfcaaPl2
namespace Go.Proofs.Ythgjjhddbigfcaa
open Go.Eng Go.Proofs Go.Wf Go.Proofs.Share
set_option linter.unusedSimpArgs false
set_option linter.unusedVariables false
theorem ZDU {P : Program} {T : Tab} (hT : T.ok P) {n B : Nat} {w0 : Orig} {ops : Array Oper} {K : St → Prop} {o : Oper} {rest : List Oper} {st : St} (hg : o.guard = none) (hd : dstOk n o.dst) (h : ∀ K' : St → Prop, (∀ s, AOpsS P n B w0 ops K rest s → K' s) → EffCall P T o.dst o.op K' st) : AOpsS P n B w0 ops K (o :: rest) st := by
  intro a w ρ I hG next Q hnx
  rw [ZA3 hg hG]
  have h' := h _ fun _ h => h
  refine toIn (fun c' hc' => ?_) (ZJT hT hG hd h' next Q hnx)
  rw [hc'] at h'; exact h'
attribute [local irreducible] AOps AOpsX AOps2 AOpsS AWP AAnyS Go.Eng.Pure PureRow Eff
def envW (E : List (Nat × AV)) : List (Nat × AV) → Prop
  | [] => True
  | (s, v) :: r => lk E s = v ∧ envW E r
theorem ZAl {E : List (Nat × AV)} : ∀ {E' : List (Nat × AV)}, envW E E' → ∀ s, lk E' s = .top ∨ lk E' s = lk E s
  | [], _, s => .inl rfl
  | (k, v) :: r, h, s => by
    simp only [lk]
    split
    · rename_i e; subst e; exact .inr h.1.symm
    · exact ZAl h.2 s
theorem meth84 (a : Bool) : ∀ w : World, (method (Try.prog.types.size + Made.depth) (if a then 84 else 85) (.agg #[]) "wageoffice/waterfall.reaches").run Try.prog w = .ok (if a then 105 else 60, .agg #[]) w := by
  intro w
  cases a <;> kernel_rfl
theorem reachK (a : Bool) (p : Po) : Pure Try.prog (if a then 105 else 60) [.a [], .a (avP p)] (BL (if a then true else !p.f)) := by
  cases a
  · exact ZDD p
  · exact ZHy p
def HT (ps : List Po) (cs : List Cl) (d : List Int) (s : Ta) : List (Nat × Blk) :=
  (1047, .nst 24 (.avs (idsL 100000 s.fr.length))) :: ([(1006, .box 27 (.avs [intsF d, .s 1047])), (1007, .box 24 (.avs [.s 1023])), (1010, .box 24 (.avs [.s 1052])), (1023, .row 3 1 (.ints .i64 s.l)), (1052, .row 3 1 (.ints .i64 s.n)), (1003, .box 23 (.avs [avCs cs])), (1002, .box 22 (.avs [avPs ps])), (1004, .box 27 (.avs [.v (.slice none 0 0), .v (.slice none 0 0)]))] ++ famI 100000 3 s.fr)
theorem ZJ6 {ps : List Po} {cs : List Cl} {d : List Int} {s : Ta} {id : Nat} (h : id < 81) : lkH (HT ps cs d s) id = none := by
  unfold HT
  have q := fun (c : Nat) (h : 81 ≤ c) => (eq_false (show ¬ c = id by omega) : (c = id) = False)
  simp only [List.cons_append, List.nil_append, lkH, q 1047 (by decide), q 1006 (by decide), q 1007 (by decide), q 1010 (by decide), q 1023 (by decide), q 1052 (by decide), q 1003 (by decide), q 1002 (by decide), q 1004 (by decide), if_false]
  cases hh : lkH (famI 100000 3 s.fr) id with
  | none => rfl
  | some b => obtain ⟨i, _, h2, _⟩ := ZBF hh; omega
theorem set_self (l : List Int) (k : Nat) : l.set k (l.getD k 0) = l := by
  apply List.ext_getElem?
  intro i
  rw [List.getElem?_set]
  split
  · rename_i e; subst e
    split
    · rename_i h; simp [List.getD_eq_getElem?_getD, h]
    · rename_i h; rw [List.getElem?_eq_none (by omega)]
  · rfl
theorem ZIN (l : List (List Int)) (k : Nat) : l.set k (l.getD k []) = l := by
  apply List.ext_getElem?
  intro i
  rw [List.getElem?_set]
  split
  · rename_i e; subst e
    split
    · rename_i h; simp [List.getD_eq_getElem?_getD, h]
    · rename_i h; rw [List.getElem?_eq_none (by omega)]
  · rfl
theorem lk_fr {k : Nat} {x : Blk} {H : List (Nat × Blk)} (hk : lkH H k = none) {id : Nat} {b : Blk} (h : lkH H id = some b) : lkH ((k, x) :: H) id = some b := by
  simp only [lkH]
  split
  · rename_i e; subst e; rw [hk] at h; cases h
  · exact h
theorem ZJb {k : Nat} {x y : Blk} {H : List (Nat × Blk)} (hk : lkH H k = none) {id : Nat} {b : Blk} (h : lkH H id = some b) : lkH ((k, x) :: (k, y) :: H) id = some b := by
  simp only [lkH]
  split
  · rename_i e; subst e; rw [hk] at h; cases h
  · exact h
theorem ZJc {base : Nat} {e : TypeId} {L : List (List Int)} {id : Nat} (h : id < base) : lkH (famI base e L) id = none := by
  cases hh : lkH (famI base e L) id with
  | none => rfl
  | some b => obtain ⟨i, _, h2, _⟩ := ZBF hh; omega
def heapW (H : List (Nat × Blk)) : List (Nat × Blk) → Prop
  | [] => True
  | (k, b) :: r => lkH H k = some b ∧ heapW H r
theorem ZCg {H F : List (Nat × Blk)} : ∀ {R : List (Nat × Blk)}, heapW H R → (∀ id b, lkH F id = some b → lkH H id = some b) → ∀ {id : Nat} {b : Blk}, lkH (R ++ F) id = some b → lkH H id = some b
  | [], _, hF, id, b, h => hF id b h
  | (k, x) :: r, hh, hF, id, b, h => by
    simp only [List.cons_append, lkH] at h
    split at h
    · rename_i e; subst e; injection h with h; subst h; exact hh.1
    · exact ZCg hh.2 hF h
theorem famW {H : List (Nat × Blk)} {X : List (List Int)} {k : Nat} {w : List Int} (hkl : k < X.length) (hk : lkH H (100000 + k) = some (.row 3 1 (.ints .i64 w))) (hr : ∀ i, i < X.length → i ≠ k → lkH H (100000 + i) = some (.row 3 1 (.ints .i64 (X.getD i [])))) : ∀ id b, lkH (famI 100000 3 (X.set k w)) id = some b → lkH H id = some b := fun id b h => by
  obtain ⟨i, hi, rfl, rfl⟩ := ZBF h
  rw [List.length_set] at hi
  by_cases e : i = k
  · subst e; rw [ZDm w hkl]; exact hk
  · rw [ZCx w (fun h => e h.symm)]; exact hr i hi e
theorem ZJ7 {ps : List Po} {cs : List Cl} {d : List Int} {s : Ta} {x : Blk} : lkH ((10, x) :: HT ps cs d s) 12 = none := by
  simp only [lkH]
  rw [if_neg (by decide)]
  exact ZJ6 (by decide)
def taR (s : Ta) (k : Nat) (r : Sr) : Ta := ⟨s.n.set k r.n, r.l, s.fr.set k r.w⟩
theorem ZG1 (N : Nat) (e : TypeId) : ∀ (L : List (List Int)) (base : Nat), N ≤ base → keepH N (fam base (L.map (rowB e))) = fam base (L.map (rowB e))
  | [], _, _ => rfl
  | x :: r, base, h => by
    simp only [List.map_cons, fam, keepH]
    rw [if_pos (by omega), ZG1 N e r (base + 1) (by omega)]
theorem ZIO (N base : Nat) (e : TypeId) (L : List (List Int)) (h : N ≤ base) : keepH N (famI base e L) = famI base e L := ZG1 N e L base h
theorem ge_ids (N base n : Nat) (h : N ≤ base) : AV.geL N (idsL base n) := by
  have key : ∀ l : List Nat, AV.geL N (l.map fun i => .s (base + i)) := by
    intro l
    induction l with
    | nil => simp only [List.map_nil, AV.geL]
    | cons i r ih => simp only [List.map_cons, AV.geL, AV.ge]; exact ⟨by omega, ih⟩
  exact key _
theorem ZJd (N : Nat) (e : TypeId) : ∀ (L : List (List Int)) (base : Nat), geH N (fam base (L.map (rowB e)))
  | [], _ => trivial
  | x :: r, base => by
    simp only [List.map_cons, fam, geH]
    exact ⟨trivial, ZJd N e r (base + 1)⟩
theorem ZJ8 (N base : Nat) (e : TypeId) (L : List (List Int)) : geH N (famI base e L) := ZJd N e L base
set_option maxHeartbeats 64000000 in
theorem ZEH (ps : List Po) (cs : List Cl) (d : List Int) (a b : Bool) (hab : a = true ∨ b = false) (s0 : Ta) (h4 : ps.length ≤ 4) (h64 : cs.length ≤ 64) (hs : InvT ps.length cs.length s0) (KK : AV → List (Nat × Blk) → Prop) (hK : ∀ H, (∀ id blk, lkH (HT ps cs d (taF ps cs a b s0 cs.length)) id = some blk → lkH H id = some blk) → KK (.t []) H) {fn : Func} {c : Code} (hf : Try.prog.funcs[33]? = some fn) (hb : fn.body = some c) (B : Nat) (w0 : Orig) :
    AWP Try.prog 81 B w0 c (EndsE T 81 [] KK) ⟨argEnv 0 [BL a, BL b, .p 1003 0, .p 1002 0, .p 1010 0, .p 1007 0, .p 1006 0], HT ps cs d s0⟩ := by
  rw [Try.func33] at hf
  injection hf with hf
  subst hf
  injection hb with hb
  subst hb
  unfold HT
  push_cast [List.cons_append, List.nil_append]
  repeat' (first | ((first | refine sC hT fun K' hK' => ?_ | refine oC fun K' hK' => ?_); push_cast; (try simp (disch := omega) only [wrap64, Int.toNat_natCast]); (repeat refine ZAD ?_ ?_); (first | refine hK' _ ?_ | refine ⟨.v (.int .i64 0), hK' _ ?_⟩); clear hK' K') | (refine sK hT ?_; simp only [St.put]) | ((first | refine ZAE (hK _ ?_) | refine ZAJ (hK _ ?_)); clear hK K; push_cast) | ((first | apply ZAC | apply ZAF | apply ZAG | apply ZAM); push_cast) | refine ZAK fun K hK => ?_ | refine ZAN fun K hK => ?_ | refine dQ hT hm fun K hK => ?_ | refine dL hT hm fun K hK => ?_ | apply ZAA | apply ZAB | apply ZAL | (refine ZAH _ rfl (fun h => ?_) (fun h => ?_) <;> simp only [bh2, reduceCtorEq] at h))
  all_goals first | exact ff | skip
  refine ZAO (α := Nat) (fun k => ⟨[(0, BL a), (1, BL b), (2, .p 1003 0), (3, .p 1002 0), (4, .p 1010 0), (5, .p 1007 0), (6, .p 1006 0), (14, avCs cs), (15, I64 cs.length), (16, I64 k)], HT ps cs d (taF ps cs a b s0 k)⟩) (fun k => k ≤ cs.length) (fun k => cs.length - k) 0 (Nat.zero_le _) (G.wkL (ZAl ⟨rfl, rfl, rfl, rfl, rfl, rfl, rfl, rfl, rfl, rfl, trivial⟩) (fun id b h => h)) fun k hk => ?_
  have hin := InvT.all hs rfl cs a b k hk
  by_cases hlt : k < cs.length
  · have c1 : decide ((k : Int) < (cs.length : Int)) = true := decide_eq_true (by omega)
    have hst : taF ps cs a b s0 (k + 1) = taS ps cs a b (taF ps cs a b s0 k) k := rfl
    generalize taF ps cs a b s0 k = s at *
    have hil := ZCH 100000 s.fr.length
    obtain ⟨n1, n2, n3, n4, n5, n6, n7, n8, n9⟩ := id hin
    have kf := fun (x : Nat) (h : x < 100000) => ZAj x 100000 3 s.fr h
    have ki := fun (x : Nat) (h : x < 100000) => ZAt 100000 s.fr.length x h
    have kf10 := kf 10 (by decide)
    have ki10 := ki 10 (by decide)
    have kf12 := kf 12 (by decide)
    have ki12 := ki 12 (by decide)
    clear kf ki
    by_cases hf : (cs.getD k default).f = a
    · have c2 : ((cs.getD k default).f == a) = true := by rw [hf]; exact beq_self_eq_true a
      have hst : taF ps cs a b s0 (k + 1) = taR s k (srF ps b ⟨s.n.getD k 0, s.l, s.fr.getD k []⟩ ps.length) := by rw [hst]; unfold taS taR; rw [if_pos hf]
      unfold HT
      push_cast [List.cons_append, List.nil_append]
      repeat' (first | ((first | refine sC hT fun K' hK' => ?_ | refine oC fun K' hK' => ?_); push_cast [c1, kf10, ki10]; (try simp (disch := omega) only [wrap64, Int.toNat_natCast]); (repeat refine ZAD ?_ ?_); (first | refine hK' _ ?_ | refine ⟨.v (.int .i64 0), hK' _ ?_⟩); clear hK' K') | (refine sK hT ?_; simp only [St.put]) | ((first | refine ZAE (hK _ ?_) | refine ZAJ (hK _ ?_)); clear hK K; push_cast) | ((first | apply ZAC | apply ZAF | apply ZAG | apply ZAM); push_cast) | refine ZAK fun K hK => ?_ | refine ZAN fun K hK => ?_ | refine dQ hT hm fun K hK => ?_ | refine dL hT hm fun K hK => ?_ | apply ZAA | apply ZAB | apply ZAL | (refine ZAH _ rfl (fun h => ?_) (fun h => ?_) <;> simp only [bh2, reduceCtorEq] at h))
      all_goals first | exact ff | skip
      refine ZAO (α := Nat) (fun j => ⟨[(0, BL a), (1, BL b), (2, .p 1003 0), (3, .p 1002 0), (4, .p 1010 0), (5, .p 1007 0), (6, .p 1006 0), (9, I64 k), (10, .p 10 0), (14, avCs cs), (15, I64 cs.length), (16, I64 k), (21, avPs ps), (22, I64 ps.length), (23, I64 j)], (10, .box 41 (.avs [I64 (cs.getD k default).r, I64 (cs.getD k default).c, BL (cs.getD k default).f])) :: HT ps cs d (taR s k (srF ps b ⟨s.n.getD k 0, s.l, s.fr.getD k []⟩ j))⟩) (fun j => j ≤ ps.length) (fun j => ps.length - j) 0 (Nat.zero_le _) (G.wkL (ZAl ⟨rfl, rfl, rfl, rfl, rfl, rfl, rfl, rfl, rfl, rfl, rfl, rfl, rfl, rfl, rfl, trivial⟩) (fun id b h => ?_)) fun j hj => ?_
      · unfold HT taR at h
        simp only [srF, set_self, ZIN, List.cons_append, List.nil_append, lkH] at h ⊢
        split at h
        · rename_i e; subst e; exact h
        · rename_i e; simp only [e, if_false]; exact h
      have hri := InvS.all (hin.row hlt) ps b j hj
      by_cases hlj : j < ps.length
      · have c3 : decide ((j : Int) < (ps.length : Int)) = true := decide_eq_true (by omega)
        have hsr : srF ps b ⟨s.n.getD k 0, s.l, s.fr.getD k []⟩ (j + 1) = srS ps b (srF ps b ⟨s.n.getD k 0, s.l, s.fr.getD k []⟩ j) j := rfl
        generalize srF ps b ⟨s.n.getD k 0, s.l, s.fr.getD k []⟩ j = r at *
        have hkd := ZDO (cs.getD k default)
        rw [hf] at hkd
        have hXl : (s.fr.set k r.w).length = s.fr.length := List.length_set ..
        have hXk : (s.fr.set k r.w).getD k [] = r.w := ZDm r.w (by omega)
        have hNk : (s.n.set k r.n).getD k 0 = r.n := ZAd r.n (by omega)
        have hNl : (s.n.set k r.n).length = s.n.length := List.length_set ..
        have hN2 : ∀ x, (s.n.set k r.n).set k x = s.n.set k x := fun x => List.set_set ..
        have hX2 : ∀ x, (s.fr.set k r.w).set k x = s.fr.set k x := fun x => List.set_set ..
        obtain ⟨m1, m2, m3, m4, m5, m6, m7⟩ := id hri
        unfold HT taR
        push_cast [List.cons_append, List.nil_append]
        rw [hXl]
        generalize hXe : s.fr.set k r.w = X at *
        generalize hNe : s.n.set k r.n = N at *
        have kx12 := ZAj 12 100000 3 X (by decide)
        have hge := idsLn 100000 (show k < s.fr.length by omega)
        have hlf := ZAv 100000 3 X (show k < X.length by omega)
        rw [hXk] at hlf
        have q := fun (c : Nat) (h : c < 100000) => (eq_false (show ¬ c = 100000 + k by omega) : (c = 100000 + k) = False)
        have q' := fun (c : Nat) (h : c < 100000) => (eq_false (show ¬ 100000 + k = c by omega) : (100000 + k = c) = False)
        by_cases hpf : (ps.getD j default).f = b
        · have c5 : ((ps.getD j default).f == b) = true := by rw [hpf]; exact beq_self_eq_true b
          have c4 : (if a = true then true else !(ps.getD j default).f) = true := by
            rcases hab with h | h
            · rw [if_pos h]
            · split
              · rfl
              · rw [hpf, h]; rfl
          unfold srS at hsr
          rw [if_pos hpf] at hsr
          have f5 := m5 j hlj
          have f6 := m6 j hlj
          have f7 := m7 j hlj
          simp only [maxC] at m2 f7
          repeat' (first | ((first | refine sC hT fun K' hK' => ?_ | refine oC fun K' hK' => ?_); push_cast [c3, kx12, ki12]; (try simp (disch := omega) only [wrap64, Int.toNat_natCast]); (repeat refine ZAD ?_ ?_); (first | refine hK' _ ?_ | refine ⟨.v (.int .i64 0), hK' _ ?_⟩); clear hK' K') | (refine sK hT ?_; simp only [St.put]) | ((first | refine ZAE (hK _ ?_) | refine ZAJ (hK _ ?_)); clear hK K; push_cast) | ((first | apply ZAC | apply ZAF | apply ZAG | apply ZAM); push_cast) | refine ZAK fun K hK => ?_ | refine ZAN fun K hK => ?_ | apply ZAA | apply ZAB | apply ZAL | (refine ZAH _ rfl (fun h => ?_) (fun h => ?_) <;> simp only [bh2, reduceCtorEq] at h))
          all_goals first | exact ff | skip
          (apply ZCA hm [([false, false, false, false, false, false, false, false, false, false, false, false, false, false, false, false, false], _), ([true, false, false, false, false, false, false, false, false, false, false, false, false, false, false, false, false], _), ([false, false, true, false, false, false, false, false, false, false, false, false, false, false, false, false, false], _), ([true, true, false, false, false, false, false, false, false, false, false, false, false, false, false, false, false], _), ([true, false, true, false, false, false, false, false, false, false, false, false, false, false, false, false, false], _), ([true, true, true, false, false, false, false, false, false, false, false, false, false, false, false, false, false], _), ([true, true, true, true, false, false, false, false, false, false, false, false, false, false, false, false, false], _), ([true, true, true, true, true, false, false, false, false, false, false, false, false, false, false, false, false], _), ([true, true, true, true, true, true, false, false, false, false, false, false, false, false, false, false, false], _), ([true, true, true, true, true, false, false, true, false, false, false, false, false, false, false, false, false], _), ([true, true, true, true, true, true, true, false, false, false, false, false, false, false, false, false, false], _), ([true, true, true, true, true, true, false, true, false, false, false, false, false, false, false, false, false], _), ([true, true, true, true, true, true, true, true, false, false, false, false, false, false, false, false, false], _), ([true, true, true, true, true, true, true, true, true, false, false, false, false, false, false, false, false], _), ([true, true, true, true, true, true, true, true, true, true, false, false, false, false, false, false, false], _), ([true, true, true, true, true, true, true, true, true, true, true, false, false, false, false, false, false], _), ([true, true, true, true, true, true, true, true, true, true, true, true, false, false, false, false, false], _), ([true, true, true, true, true, true, true, true, true, true, true, false, false, true, false, false, false], _), ([true, true, true, true, true, true, true, true, true, true, true, true, true, false, false, false, false], _), ([true, true, true, true, true, true, true, true, true, true, true, true, false, true, false, false, false], _), ([true, true, true, true, true, true, true, true, true, true, true, true, true, true, false, false, false], _), ([true, true, true, true, true, true, true, true, true, true, true, true, true, true, true, false, false], _), ([true, true, true, true, true, true, true, true, true, true, true, true, true, true, true, true, false], _), ([true, true, true, true, true, true, true, true, true, true, true, true, true, true, true, true, true], _)] rfl; intro K hKr; repeat' (first | (refine ZBZ (by decide +kernel) ?_; refine hKr _ ?_; clear hKr K; push_cast) | refine ZAI 0 [2] (by decide +kernel) ?_ ?_ | refine ZAI 0 [] (by decide +kernel) ?_ ?_ | refine ZAI 1 [2] (by decide +kernel) ?_ ?_ | refine ZAI 1 [] (by decide +kernel) ?_ ?_ | refine ZAI 10 [] (by decide +kernel) ?_ ?_ | refine ZAI 11 [13] (by decide +kernel) ?_ ?_ | refine ZAI 11 [] (by decide +kernel) ?_ ?_ | refine ZAI 12 [13] (by decide +kernel) ?_ ?_ | refine ZAI 12 [] (by decide +kernel) ?_ ?_ | refine ZAI 13 [] (by decide +kernel) ?_ ?_ | refine ZAI 14 [] (by decide +kernel) ?_ ?_ | refine ZAI 15 [] (by decide +kernel) ?_ ?_ | refine ZAI 16 [] (by decide +kernel) ?_ ?_ | refine ZAI 2 [] (by decide +kernel) ?_ ?_ | refine ZAI 3 [] (by decide +kernel) ?_ ?_ | refine ZAI 4 [] (by decide +kernel) ?_ ?_ | refine ZAI 5 [7] (by decide +kernel) ?_ ?_ | refine ZAI 5 [] (by decide +kernel) ?_ ?_ | refine ZAI 6 [7] (by decide +kernel) ?_ ?_ | refine ZAI 6 [] (by decide +kernel) ?_ ?_ | refine ZAI 7 [] (by decide +kernel) ?_ ?_ | refine ZAI 8 [] (by decide +kernel) ?_ ?_ | refine ZAI 9 [] (by decide +kernel) ?_ ?_ | exact ZBa | refine ZBJ rfl (fun K3 hK3 => ?_) ?_ | (refine ZAE ?_; first | exact hK3 _ _ rfl (fun _ _ h => h) | exact hK3 _ _ rfl (G.wk3 (by (repeat' (first | exact trivial | exact .inr rfl | exact .inl rfl | refine ⟨?_, ?_⟩))) rfl) | exact hK3 _ _ rfl (G.wk2 (by (repeat' (first | exact trivial | exact .inr rfl | exact .inl rfl | refine ⟨?_, ?_⟩))) (by (repeat' (first | exact trivial | exact .inr rfl | exact .inl rfl | refine ⟨?_, ?_⟩)))))     | ((first | refine ZA6 hT (by rfl) fun K' hK' => ?_ | refine ZAw (by rfl) fun K' hK' => ?_); push_cast [c2, c4, c5, kx12, ki12]; (try simp (disch := omega) only [wrap64, Int.toNat_natCast]); (repeat refine ZAD ?_ ?_); (first | refine hK' _ ?_ | ((first | refine ⟨_, ⟨(by first | exact hkd), (by first | exact .inr rfl | exact .inl (by simp [AV.fresh, AV.freshL]))⟩, ?_⟩ | refine ⟨_, fun hb => ⟨(by first | exact hkd), (by first | exact .inr rfl | exact .inl (by simp [AV.fresh, AV.freshL]))⟩, ?_⟩ | refine ⟨_, fun hb => ⟨(by first | exact hb | exact ⟨hb, hb⟩ | exact ⟨hb, hb, hb⟩ | exact ⟨hb, hb, hb, hb⟩ | (simp only [hb, true_and, and_true, Bool.and_true, Bool.true_and]; done)), (by first | exact hkd), (by first | exact .inr rfl | exact .inl (by simp [AV.fresh, AV.freshL]))⟩, ?_⟩); push_cast [c2, c4, c5, kx12, ki12]; (try simp (disch := omega) only [wrap64, Int.toNat_natCast]); (repeat refine ZAD ?_ ?_); refine hK' _ ?_) | (refine ⟨.v (.int .i64 0), ?_⟩; refine hK' _ ?_)); clear hK' K')     | (refine ZAR hT rfl fun K' hK' => ?_; push_cast [c2, c4, c5, kx12, ki12]; (try simp (disch := omega) only [wrap64, Int.toNat_natCast]); (repeat refine ZAD ?_ ?_); refine hK' _ ?_; clear hK' K')     | (refine ZAS T rfl (by simp only [dstOk, Nat.reduceLT]) fun K' hK' => ?_; push_cast [c2, c4, c5, kx12, ki12]; refine hK' _ ?_; clear hK' K')     | (refine ZBE hT rfl fun K' hK' => ?_; push_cast [c2, c4, c5, kx12, ki12]; (try simp (disch := omega) only [wrap64, Int.toNat_natCast]); (repeat refine ZAD ?_ ?_); refine hK' _ ?_; clear hK' K')     | (refine ZFu (by rfl) (by simp only [dstOk, Nat.reduceLT]) fun K' hK' => ?_; push_cast [c2, c4, c5, kx12, ki12]; refine ⟨_, _, _, meth84 a, reachK a _, (by simp [AV.fresh]), ?_⟩; refine hK' _ ?_; clear hK' K')     | (refine ZA7 hT (by rfl) (by rfl) (by simp only [dstOk, Nat.reduceLT]) ?_; simp only [St.put]) ))
          all_goals first | exact ff | skip
          generalize hx : min r.n (r.l.getD j 0) = x at *
          have hx1 : 0 ≤ x ∧ x ≤ r.n ∧ x ≤ r.l.getD j 0 := by omega
          repeat' (first | ((first | refine sC hT fun K' hK' => ?_ | refine oC fun K' hK' => ?_); push_cast [hx, hge, hlf, hNk, q 1047 (by decide), q 1006 (by decide), q 1007 (by decide), q 1010 (by decide), q 1023 (by decide), q 1052 (by decide), q 1003 (by decide), q 1002 (by decide), q 1004 (by decide), q 10 (by decide), q 12 (by decide), q' 1047 (by decide), q' 1006 (by decide), q' 1007 (by decide), q' 1010 (by decide), q' 1023 (by decide), q' 1052 (by decide), q' 1003 (by decide), q' 1002 (by decide), q' 1004 (by decide), q' 10 (by decide), q' 12 (by decide)]; (try simp (disch := omega) only [wrap64, Int.toNat_natCast]); (repeat refine ZAD ?_ ?_); (first | refine hK' _ ?_ | refine ⟨.v (.int .i64 0), hK' _ ?_⟩); clear hK' K') | (refine sK hT ?_; simp only [St.put]) | ((first | refine ZAE (hK _ ?_) | refine ZAJ (hK _ ?_)); clear hK K; push_cast) | ((first | apply ZAC | apply ZAF | apply ZAG | apply ZAM); push_cast) | refine ZAK fun K hK => ?_ | refine ZAN fun K hK => ?_ | refine dQ hT hm fun K hK => ?_ | refine dL hT hm fun K hK => ?_ | apply ZAA | apply ZAB | apply ZAL | (refine ZAH _ rfl (fun h => ?_) (fun h => ?_) <;> simp only [bh2, reduceCtorEq] at h))
          all_goals first | exact ff | skip
          have hR : ∀ i, i < X.length → i ≠ k → (100000 + k = 100000 + i) = False := fun i _ hne => eq_false (by omega)
          refine ⟨j + 1, ⟨by omega, by omega⟩, G.wkL (ZAl ⟨rfl, rfl, rfl, rfl, rfl, rfl, rfl, rfl, rfl, rfl, rfl, rfl, rfl, rfl, rfl, trivial⟩) (fun id b2 h => ZCg (R := [(10, .box 41 (.avs [I64 (cs.getD k default).r, I64 (cs.getD k default).c, BL (cs.getD k default).f])), (1047, .nst 24 (.avs (idsL 100000 s.fr.length))), (1006, .box 27 (.avs [intsF d, .s 1047])), (1007, .box 24 (.avs [.s 1023])), (1010, .box 24 (.avs [.s 1052])), (1023, .row 3 1 (.ints .i64 (r.l.set j (r.l.getD j 0 - x)))), (1052, .row 3 1 (.ints .i64 (N.set k (r.n - x)))), (1003, .box 23 (.avs [avCs cs])), (1002, .box 22 (.avs [avPs ps])), (1004, .box 27 (.avs [.v (.slice none 0 0), .v (.slice none 0 0)]))]) (F := famI 100000 3 (X.set k (r.w.set j (r.w.getD j 0 + x)))) ?_ (famW (by omega) ?_ ?_) ?_)⟩
          · simp only [heapW, lkH, q' 1047 (by decide), q' 1006 (by decide), q' 1007 (by decide), q' 1010 (by decide), q' 1023 (by decide), q' 1052 (by decide), q' 1003 (by decide), q' 1002 (by decide), q' 1004 (by decide), q' 10 (by decide), q' 12 (by decide), Nat.reduceEqDiff, if_true, if_false, true_and, and_true]
            first | exact ⟨rfl, rfl⟩ | exact ⟨rfl, rfl, rfl⟩
          · simp only [lkH, q 1023 (by decide), q 1052 (by decide), if_true, if_false]
          · intro i hi hne
            have q2 := fun (c : Nat) (h : c < 100000) => (eq_false (show ¬ c = 100000 + i by omega) : (c = 100000 + i) = False)
            simp only [lkH, q2 1047 (by decide), q2 1006 (by decide), q2 1007 (by decide), q2 1010 (by decide), q2 1023 (by decide), q2 1052 (by decide), q2 1003 (by decide), q2 1002 (by decide), q2 1004 (by decide), q2 10 (by decide), q2 12 (by decide), hR i hi hne, if_false]
            exact ZAv 100000 3 X hi
          · rw [hX2, hN2]
            simp only [hsr, List.length_set] at h
            exact h
        · have c5 : ((ps.getD j default).f == b) = false := by simpa using hpf
          unfold srS at hsr
          rw [if_neg hpf] at hsr
          repeat' (first | ((first | refine sC hT fun K' hK' => ?_ | refine oC fun K' hK' => ?_); push_cast [c3, kx12, ki12]; (try simp (disch := omega) only [wrap64, Int.toNat_natCast]); (repeat refine ZAD ?_ ?_); (first | refine hK' _ ?_ | refine ⟨.v (.int .i64 0), hK' _ ?_⟩); clear hK' K') | (refine sK hT ?_; simp only [St.put]) | ((first | refine ZAE (hK _ ?_) | refine ZAJ (hK _ ?_)); clear hK K; push_cast) | ((first | apply ZAC | apply ZAF | apply ZAG | apply ZAM); push_cast) | refine ZAK fun K hK => ?_ | refine ZAN fun K hK => ?_ | apply ZAA | apply ZAB | apply ZAL | (refine ZAH _ rfl (fun h => ?_) (fun h => ?_) <;> simp only [bh2, reduceCtorEq] at h))
          all_goals first | exact ff | skip
          (apply ZCA hm [([false, false, false, false, false, false, false, false, false, false, false, false, false, false, false, false, false], _), ([true, false, false, false, false, false, false, false, false, false, false, false, false, false, false, false, false], _), ([false, false, true, false, false, false, false, false, false, false, false, false, false, false, false, false, false], _), ([true, true, false, false, false, false, false, false, false, false, false, false, false, false, false, false, false], _), ([true, false, true, false, false, false, false, false, false, false, false, false, false, false, false, false, false], _), ([true, true, true, false, false, false, false, false, false, false, false, false, false, false, false, false, false], _), ([true, true, true, true, false, false, false, false, false, false, false, false, false, false, false, false, false], _), ([true, true, true, true, true, false, false, false, false, false, false, false, false, false, false, false, false], _), ([true, true, true, true, true, true, false, false, false, false, false, false, false, false, false, false, false], _), ([true, true, true, true, true, false, false, true, false, false, false, false, false, false, false, false, false], _), ([true, true, true, true, true, true, true, false, false, false, false, false, false, false, false, false, false], _), ([true, true, true, true, true, true, false, true, false, false, false, false, false, false, false, false, false], _), ([true, true, true, true, true, true, true, true, false, false, false, false, false, false, false, false, false], _), ([true, true, true, true, true, true, true, true, true, false, false, false, false, false, false, false, false], _), ([true, true, true, true, true, true, true, true, true, true, false, false, false, false, false, false, false], _), ([true, true, true, true, true, true, true, true, true, true, true, false, false, false, false, false, false], _), ([true, true, true, true, true, true, true, true, true, true, true, true, false, false, false, false, false], _), ([true, true, true, true, true, true, true, true, true, true, true, false, false, true, false, false, false], _), ([true, true, true, true, true, true, true, true, true, true, true, true, true, false, false, false, false], _), ([true, true, true, true, true, true, true, true, true, true, true, true, false, true, false, false, false], _), ([true, true, true, true, true, true, true, true, true, true, true, true, true, true, false, false, false], _), ([true, true, true, true, true, true, true, true, true, true, true, true, true, true, true, false, false], _), ([true, true, true, true, true, true, true, true, true, true, true, true, true, true, true, true, false], _), ([true, true, true, true, true, true, true, true, true, true, true, true, true, true, true, true, true], _)] rfl; intro K hKr; repeat' (first | (refine ZBZ (by decide +kernel) ?_; refine hKr _ ?_; clear hKr K; push_cast) | refine ZAI 0 [2] (by decide +kernel) ?_ ?_ | refine ZAI 0 [] (by decide +kernel) ?_ ?_ | refine ZAI 1 [2] (by decide +kernel) ?_ ?_ | refine ZAI 1 [] (by decide +kernel) ?_ ?_ | refine ZAI 10 [] (by decide +kernel) ?_ ?_ | refine ZAI 11 [13] (by decide +kernel) ?_ ?_ | refine ZAI 11 [] (by decide +kernel) ?_ ?_ | refine ZAI 12 [13] (by decide +kernel) ?_ ?_ | refine ZAI 12 [] (by decide +kernel) ?_ ?_ | refine ZAI 13 [] (by decide +kernel) ?_ ?_ | refine ZAI 14 [] (by decide +kernel) ?_ ?_ | refine ZAI 15 [] (by decide +kernel) ?_ ?_ | refine ZAI 16 [] (by decide +kernel) ?_ ?_ | refine ZAI 2 [] (by decide +kernel) ?_ ?_ | refine ZAI 3 [] (by decide +kernel) ?_ ?_ | refine ZAI 4 [] (by decide +kernel) ?_ ?_ | refine ZAI 5 [7] (by decide +kernel) ?_ ?_ | refine ZAI 5 [] (by decide +kernel) ?_ ?_ | refine ZAI 6 [7] (by decide +kernel) ?_ ?_ | refine ZAI 6 [] (by decide +kernel) ?_ ?_ | refine ZAI 7 [] (by decide +kernel) ?_ ?_ | refine ZAI 8 [] (by decide +kernel) ?_ ?_ | refine ZAI 9 [] (by decide +kernel) ?_ ?_ | exact ZBa | refine ZBJ rfl (fun K3 hK3 => ?_) ?_ | (refine ZAE ?_; first | exact hK3 _ _ rfl (fun _ _ h => h) | exact hK3 _ _ rfl (G.wk3 (by (repeat' (first | exact trivial | exact .inr rfl | exact .inl rfl | refine ⟨?_, ?_⟩))) rfl) | exact hK3 _ _ rfl (G.wk2 (by (repeat' (first | exact trivial | exact .inr rfl | exact .inl rfl | refine ⟨?_, ?_⟩))) (by (repeat' (first | exact trivial | exact .inr rfl | exact .inl rfl | refine ⟨?_, ?_⟩)))))     | ((first | refine ZA6 hT (by rfl) fun K' hK' => ?_ | refine ZAw (by rfl) fun K' hK' => ?_); push_cast [c2, c5, kx12, ki12]; (try simp (disch := omega) only [wrap64, Int.toNat_natCast]); (repeat refine ZAD ?_ ?_); (first | refine hK' _ ?_ | (refine ⟨.v (.int .i64 0), ?_⟩; refine hK' _ ?_)); clear hK' K')     | (refine ZAR hT rfl fun K' hK' => ?_; push_cast [c2, c5, kx12, ki12]; (try simp (disch := omega) only [wrap64, Int.toNat_natCast]); (repeat refine ZAD ?_ ?_); refine hK' _ ?_; clear hK' K')     | (refine ZAS T rfl (by simp only [dstOk, Nat.reduceLT]) fun K' hK' => ?_; push_cast [c2, c5, kx12, ki12]; refine hK' _ ?_; clear hK' K')     | (refine ZBE hT rfl fun K' hK' => ?_; push_cast [c2, c5, kx12, ki12]; (try simp (disch := omega) only [wrap64, Int.toNat_natCast]); (repeat refine ZAD ?_ ?_); refine hK' _ ?_; clear hK' K')     | (refine ZA7 hT (by rfl) (by rfl) (by simp only [dstOk, Nat.reduceLT]) ?_; simp only [St.put]) ))
          all_goals first | exact ff | skip
          repeat' (first | ((first | refine sC hT fun K' hK' => ?_ | refine oC fun K' hK' => ?_); push_cast; (try simp (disch := omega) only [wrap64, Int.toNat_natCast]); (repeat refine ZAD ?_ ?_); (first | refine hK' _ ?_ | refine ⟨.v (.int .i64 0), hK' _ ?_⟩); clear hK' K') | (refine sK hT ?_; simp only [St.put]) | ((first | refine ZAE (hK _ ?_) | refine ZAJ (hK _ ?_)); clear hK K; push_cast) | ((first | apply ZAC | apply ZAF | apply ZAG | apply ZAM); push_cast) | refine ZAK fun K hK => ?_ | refine ZAN fun K hK => ?_ | refine dQ hT hm fun K hK => ?_ | refine dL hT hm fun K hK => ?_ | apply ZAA | apply ZAB | apply ZAL | (refine ZAH _ rfl (fun h => ?_) (fun h => ?_) <;> simp only [bh2, reduceCtorEq] at h))
          all_goals first | exact ff | skip
          refine ⟨j + 1, ⟨by omega, by omega⟩, G.wkL (ZAl ⟨rfl, rfl, rfl, rfl, rfl, rfl, rfl, rfl, rfl, rfl, rfl, rfl, rfl, rfl, rfl, trivial⟩) (fun id b2 h => ZJb ?_ ?_)⟩
          · simp only [lkH, Nat.reduceEqDiff, if_false]
            exact ZJc (by decide)
          · simp only [hsr, hXe, hNe, hXl] at h
            exact h
      · obtain rfl : j = ps.length := by omega
        have c3 : decide ((ps.length : Int) < (ps.length : Int)) = false := decide_eq_false (by omega)
        generalize srF ps b ⟨s.n.getD k 0, s.l, s.fr.getD k []⟩ ps.length = r at *
        unfold HT taR
        push_cast [List.cons_append, List.nil_append]
        repeat' (first | ((first | refine sC hT fun K' hK' => ?_ | refine oC fun K' hK' => ?_); push_cast [c3]; (try simp (disch := omega) only [wrap64, Int.toNat_natCast]); (repeat refine ZAD ?_ ?_); (first | refine hK' _ ?_ | refine ⟨.v (.int .i64 0), hK' _ ?_⟩); clear hK' K') | (refine sK hT ?_; simp only [St.put]) | ((first | refine ZAE (hK _ ?_) | refine ZAJ (hK _ ?_)); clear hK K; push_cast) | ((first | apply ZAC | apply ZAF | apply ZAG | apply ZAM); push_cast) | refine ZAK fun K hK => ?_ | refine ZAN fun K hK => ?_ | refine dQ hT hm fun K hK => ?_ | refine dL hT hm fun K hK => ?_ | apply ZAA | apply ZAB | apply ZAL | (refine ZAH _ rfl (fun h => ?_) (fun h => ?_) <;> simp only [bh2, reduceCtorEq] at h))
        all_goals first | exact ff | skip
        all_goals exact ⟨k + 1, ⟨by omega, by omega⟩, G.wkL (ZAl ⟨rfl, rfl, rfl, rfl, rfl, rfl, rfl, rfl, rfl, rfl, trivial⟩) (fun id b h => lk_fr (H := HT ps cs d (taR s k r)) (ZJ6 (by decide)) (by rw [hst] at h; exact h))⟩
    · have c2 : ((cs.getD k default).f == a) = false := by simpa using hf
      have hst : taF ps cs a b s0 (k + 1) = s := by rw [hst]; unfold taS; rw [if_neg hf]
      unfold HT
      push_cast [List.cons_append, List.nil_append]
      repeat' (first | ((first | refine sC hT fun K' hK' => ?_ | refine oC fun K' hK' => ?_); push_cast [c1, kf10, ki10]; (try simp (disch := omega) only [wrap64, Int.toNat_natCast]); (repeat refine ZAD ?_ ?_); (first | refine hK' _ ?_ | refine ⟨.v (.int .i64 0), hK' _ ?_⟩); clear hK' K') | (refine sK hT ?_; simp only [St.put]) | ((first | refine ZAE (hK _ ?_) | refine ZAJ (hK _ ?_)); clear hK K; push_cast) | ((first | apply ZAC | apply ZAF | apply ZAG | apply ZAM); push_cast) | refine ZAK fun K hK => ?_ | refine ZAN fun K hK => ?_ | refine dQ hT hm fun K hK => ?_ | refine dL hT hm fun K hK => ?_ | apply ZAA | apply ZAB | apply ZAL | (refine ZAH _ rfl (fun h => ?_) (fun h => ?_) <;> simp only [bh2, reduceCtorEq] at h))
      all_goals first | exact ff | skip
      refine ZAO (α := Nat) (fun j => ⟨[(0, BL a), (1, BL b), (2, .p 1003 0), (3, .p 1002 0), (4, .p 1010 0), (5, .p 1007 0), (6, .p 1006 0), (9, I64 k), (10, .p 10 0), (14, avCs cs), (15, I64 cs.length), (16, I64 k), (21, avPs ps), (22, I64 ps.length), (23, I64 j)], (10, .box 41 (.avs [I64 (cs.getD k default).r, I64 (cs.getD k default).c, BL (cs.getD k default).f])) :: HT ps cs d s⟩) (fun j => j ≤ ps.length) (fun j => ps.length - j) 0 (Nat.zero_le _) (G.wkL (ZAl ⟨rfl, rfl, rfl, rfl, rfl, rfl, rfl, rfl, rfl, rfl, rfl, rfl, rfl, rfl, rfl, trivial⟩) (fun id b h => ?_)) fun j hj => ?_
      · simp only [lkH] at h ⊢
        split at h
        · rename_i e; subst e; exact h
        · rename_i e; simp only [e, if_false]; exact h
      by_cases hlj : j < ps.length
      · have c3 : decide ((j : Int) < (ps.length : Int)) = true := decide_eq_true (by omega)
        unfold HT
        push_cast [List.cons_append, List.nil_append]
        repeat' (first | ((first | refine sC hT fun K' hK' => ?_ | refine oC fun K' hK' => ?_); push_cast [c3, kf12, ki12]; (try simp (disch := omega) only [wrap64, Int.toNat_natCast]); (repeat refine ZAD ?_ ?_); (first | refine hK' _ ?_ | refine ⟨.v (.int .i64 0), hK' _ ?_⟩); clear hK' K') | (refine sK hT ?_; simp only [St.put]) | ((first | refine ZAE (hK _ ?_) | refine ZAJ (hK _ ?_)); clear hK K; push_cast) | ((first | apply ZAC | apply ZAF | apply ZAG | apply ZAM); push_cast) | refine ZAK fun K hK => ?_ | refine ZAN fun K hK => ?_ | apply ZAA | apply ZAB | apply ZAL | (refine ZAH _ rfl (fun h => ?_) (fun h => ?_) <;> simp only [bh2, reduceCtorEq] at h))
        all_goals first | exact ff | skip
        (apply ZCA hm [([false, false, false, false, false, false, false, false, false, false, false, false, false, false, false, false, false], _), ([true, false, false, false, false, false, false, false, false, false, false, false, false, false, false, false, false], _), ([false, false, true, false, false, false, false, false, false, false, false, false, false, false, false, false, false], _), ([true, true, false, false, false, false, false, false, false, false, false, false, false, false, false, false, false], _), ([true, false, true, false, false, false, false, false, false, false, false, false, false, false, false, false, false], _), ([true, true, true, false, false, false, false, false, false, false, false, false, false, false, false, false, false], _), ([true, true, true, true, false, false, false, false, false, false, false, false, false, false, false, false, false], _), ([true, true, true, true, true, false, false, false, false, false, false, false, false, false, false, false, false], _), ([true, true, true, true, true, true, false, false, false, false, false, false, false, false, false, false, false], _), ([true, true, true, true, true, false, false, true, false, false, false, false, false, false, false, false, false], _), ([true, true, true, true, true, true, true, false, false, false, false, false, false, false, false, false, false], _), ([true, true, true, true, true, true, false, true, false, false, false, false, false, false, false, false, false], _), ([true, true, true, true, true, true, true, true, false, false, false, false, false, false, false, false, false], _), ([true, true, true, true, true, true, true, true, true, false, false, false, false, false, false, false, false], _), ([true, true, true, true, true, true, true, true, true, true, false, false, false, false, false, false, false], _), ([true, true, true, true, true, true, true, true, true, true, true, false, false, false, false, false, false], _), ([true, true, true, true, true, true, true, true, true, true, true, true, false, false, false, false, false], _), ([true, true, true, true, true, true, true, true, true, true, true, false, false, true, false, false, false], _), ([true, true, true, true, true, true, true, true, true, true, true, true, true, false, false, false, false], _), ([true, true, true, true, true, true, true, true, true, true, true, true, false, true, false, false, false], _), ([true, true, true, true, true, true, true, true, true, true, true, true, true, true, false, false, false], _), ([true, true, true, true, true, true, true, true, true, true, true, true, true, true, true, false, false], _), ([true, true, true, true, true, true, true, true, true, true, true, true, true, true, true, true, false], _), ([true, true, true, true, true, true, true, true, true, true, true, true, true, true, true, true, true], _)] rfl; intro K hKr; repeat' (first | (refine ZBZ (by decide +kernel) ?_; refine hKr _ ?_; clear hKr K; push_cast) | refine ZAI 0 [2] (by decide +kernel) ?_ ?_ | refine ZAI 0 [] (by decide +kernel) ?_ ?_ | refine ZAI 1 [2] (by decide +kernel) ?_ ?_ | refine ZAI 1 [] (by decide +kernel) ?_ ?_ | refine ZAI 10 [] (by decide +kernel) ?_ ?_ | refine ZAI 11 [13] (by decide +kernel) ?_ ?_ | refine ZAI 11 [] (by decide +kernel) ?_ ?_ | refine ZAI 12 [13] (by decide +kernel) ?_ ?_ | refine ZAI 12 [] (by decide +kernel) ?_ ?_ | refine ZAI 13 [] (by decide +kernel) ?_ ?_ | refine ZAI 14 [] (by decide +kernel) ?_ ?_ | refine ZAI 15 [] (by decide +kernel) ?_ ?_ | refine ZAI 16 [] (by decide +kernel) ?_ ?_ | refine ZAI 2 [] (by decide +kernel) ?_ ?_ | refine ZAI 3 [] (by decide +kernel) ?_ ?_ | refine ZAI 4 [] (by decide +kernel) ?_ ?_ | refine ZAI 5 [7] (by decide +kernel) ?_ ?_ | refine ZAI 5 [] (by decide +kernel) ?_ ?_ | refine ZAI 6 [7] (by decide +kernel) ?_ ?_ | refine ZAI 6 [] (by decide +kernel) ?_ ?_ | refine ZAI 7 [] (by decide +kernel) ?_ ?_ | refine ZAI 8 [] (by decide +kernel) ?_ ?_ | refine ZAI 9 [] (by decide +kernel) ?_ ?_ | exact ZBa | refine ZBJ rfl (fun K3 hK3 => ?_) ?_ | (refine ZAE ?_; first | exact hK3 _ _ rfl (fun _ _ h => h) | exact hK3 _ _ rfl (G.wk3 (by (repeat' (first | exact trivial | exact .inr rfl | exact .inl rfl | refine ⟨?_, ?_⟩))) rfl) | exact hK3 _ _ rfl (G.wk2 (by (repeat' (first | exact trivial | exact .inr rfl | exact .inl rfl | refine ⟨?_, ?_⟩))) (by (repeat' (first | exact trivial | exact .inr rfl | exact .inl rfl | refine ⟨?_, ?_⟩)))))     | ((first | refine ZA6 hT (by rfl) fun K' hK' => ?_ | refine ZAw (by rfl) fun K' hK' => ?_); push_cast [c2, kf12, ki12]; (try simp (disch := omega) only [wrap64, Int.toNat_natCast]); (repeat refine ZAD ?_ ?_); (first | refine hK' _ ?_ | (refine ⟨.v (.int .i64 0), ?_⟩; refine hK' _ ?_)); clear hK' K')     | (refine ZAR hT rfl fun K' hK' => ?_; push_cast [c2, kf12, ki12]; (try simp (disch := omega) only [wrap64, Int.toNat_natCast]); (repeat refine ZAD ?_ ?_); refine hK' _ ?_; clear hK' K')     | (refine ZAS T rfl (by simp only [dstOk, Nat.reduceLT]) fun K' hK' => ?_; push_cast [c2, kf12, ki12]; refine hK' _ ?_; clear hK' K')     | (refine ZBE hT rfl fun K' hK' => ?_; push_cast [c2, kf12, ki12]; (try simp (disch := omega) only [wrap64, Int.toNat_natCast]); (repeat refine ZAD ?_ ?_); refine hK' _ ?_; clear hK' K')     | (refine ZA7 hT (by rfl) (by rfl) (by simp only [dstOk, Nat.reduceLT]) ?_; simp only [St.put]) ))
        all_goals first | exact ff | skip
        repeat' (first | ((first | refine sC hT fun K' hK' => ?_ | refine oC fun K' hK' => ?_); push_cast; (try simp (disch := omega) only [wrap64, Int.toNat_natCast]); (repeat refine ZAD ?_ ?_); (first | refine hK' _ ?_ | refine ⟨.v (.int .i64 0), hK' _ ?_⟩); clear hK' K') | (refine sK hT ?_; simp only [St.put]) | ((first | refine ZAE (hK _ ?_) | refine ZAJ (hK _ ?_)); clear hK K; push_cast) | ((first | apply ZAC | apply ZAF | apply ZAG | apply ZAM); push_cast) | refine ZAK fun K hK => ?_ | refine ZAN fun K hK => ?_ | refine dQ hT hm fun K hK => ?_ | refine dL hT hm fun K hK => ?_ | apply ZAA | apply ZAB | apply ZAL | (refine ZAH _ rfl (fun h => ?_) (fun h => ?_) <;> simp only [bh2, reduceCtorEq] at h))
        all_goals first | exact ff | skip
        all_goals exact ⟨j + 1, ⟨by omega, by omega⟩, G.wkL (ZAl ⟨rfl, rfl, rfl, rfl, rfl, rfl, rfl, rfl, rfl, rfl, rfl, rfl, rfl, rfl, rfl, trivial⟩) (fun id b h => ZJb ZJ7 h)⟩
      · obtain rfl : j = ps.length := by omega
        have c3 : decide ((ps.length : Int) < (ps.length : Int)) = false := decide_eq_false (by omega)
        unfold HT
        push_cast [List.cons_append, List.nil_append]
        repeat' (first | ((first | refine sC hT fun K' hK' => ?_ | refine oC fun K' hK' => ?_); push_cast [c3]; (try simp (disch := omega) only [wrap64, Int.toNat_natCast]); (repeat refine ZAD ?_ ?_); (first | refine hK' _ ?_ | refine ⟨.v (.int .i64 0), hK' _ ?_⟩); clear hK' K') | (refine sK hT ?_; simp only [St.put]) | ((first | refine ZAE (hK _ ?_) | refine ZAJ (hK _ ?_)); clear hK K; push_cast) | ((first | apply ZAC | apply ZAF | apply ZAG | apply ZAM); push_cast) | refine ZAK fun K hK => ?_ | refine ZAN fun K hK => ?_ | refine dQ hT hm fun K hK => ?_ | refine dL hT hm fun K hK => ?_ | apply ZAA | apply ZAB | apply ZAL | (refine ZAH _ rfl (fun h => ?_) (fun h => ?_) <;> simp only [bh2, reduceCtorEq] at h))
        all_goals first | exact ff | skip
        all_goals exact ⟨k + 1, ⟨by omega, by omega⟩, G.wkL (ZAl ⟨rfl, rfl, rfl, rfl, rfl, rfl, rfl, rfl, rfl, rfl, trivial⟩) (fun id b h => lk_fr (H := HT ps cs d s) (ZJ6 (by decide)) (by rw [hst] at h; exact h))⟩
  · obtain rfl : k = cs.length := by omega
    have c1 : decide ((cs.length : Int) < (cs.length : Int)) = false := decide_eq_false (by omega)
    unfold HT
    push_cast [List.cons_append, List.nil_append]
    have kp := ZIO 81 100000 3 (taF ps cs a b s0 cs.length).fr (by decide)
    repeat' (first | ((first | refine sC hT fun K' hK' => ?_ | refine oC fun K' hK' => ?_); push_cast [c1, kp]; (try simp (disch := omega) only [wrap64, Int.toNat_natCast]); (repeat refine ZAD ?_ ?_); (first | refine hK' _ ?_ | refine ⟨.v (.int .i64 0), hK' _ ?_⟩); clear hK' K') | (refine sK hT ?_; simp only [St.put]) | ((first | refine ZAE (hK _ ?_) | refine ZAJ (hK _ ?_)); clear hK K; push_cast) | ((first | apply ZAC | apply ZAF | apply ZAG | apply ZAM); push_cast) | refine ZAK fun K hK => ?_ | refine ZAN fun K hK => ?_ | refine dQ hT hm fun K hK => ?_ | refine dL hT hm fun K hK => ?_ | apply ZAA | apply ZAB | apply ZAL | (refine ZAH _ rfl (fun h => ?_) (fun h => ?_) <;> simp only [bh2, reduceCtorEq] at h))
    all_goals first | exact ff | skip
    all_goals (simp only [kp]; exact ⟨⟨ge_ids _ _ _ (by decide), ZJ8 _ _ _ _⟩, hK _ (fun id blk h => h)⟩)
end Go.Proofs.Ythgjjhddbigfcaa
