/- Operations that leave memory alone, continued: addresses, arithmetic, slices, built-ins. -/
import Derived.Test.YtgcomonjkcpkaaaQngB
namespace Go.Eng
open Go.RowKit

def asNat? : Option AV → Nat → Option (Prop × Nat)
  | none, d => some (True, d)
  | some x, _ => match x.strip with
    | .v (.int _ n) => some (x.cond ∧ 0 ≤ n, n.toNat)
    | _ => none

def pvIndexAddr (T : Tab) (H : List (Nat × Blk)) (t : TypeId) (x i : AV) : Option (Prop × AV) :=
  match i.strip with
  | .v (.int _ n) =>
    match T t with
    | some ⟨.sl e, _, _, _⟩ =>
      match T e with
      | some te =>
        match x.strip with
        | .i fr c sz off len => some (x.cond ∧ i.cond ∧ te.sz = sz ∧ 0 ≤ n ∧ n < len, .q fr c sz (off + n.toNat) 0)
        | .s id =>
          match lkH H id with
          | some (.row _ sz c) => some (x.cond ∧ i.cond ∧ te.sz = sz ∧ 0 < sz ∧ 0 ≤ n ∧ (n.toNat + 1) * sz ≤ c.len, .p id (n.toNat * sz))
          | some (.nst _ c) => some (x.cond ∧ i.cond ∧ te.sz = 1 ∧ 0 ≤ n ∧ n.toNat < c.len, .p id n.toNat)
          | _ => none
        | .w id off len => some (x.cond ∧ i.cond ∧ 0 ≤ n ∧ n < len, .p id (off + n.toNat * te.sz))
        | _ => none
      | none => none
    | some ⟨.arr m e, _, _, _⟩ =>
      match T e with
      | some te =>
        match x.strip with
        | .p id off => some (x.cond ∧ i.cond ∧ 0 ≤ n ∧ n < m, .p id (off + n.toNat * te.sz))
        | .q fr c sz el f => some (x.cond ∧ i.cond ∧ 0 ≤ n ∧ n < m, .q fr c sz el (f + n.toNat * te.sz))
        | _ => none
      | none => none
    | _ => none
  | _ => none

def pvFieldAddr (T : Tab) (s : TypeId) (x : AV) (k : Nat) : Option (Prop × AV) :=
  match T s with
  | some ⟨.st _ fs, _, _, _⟩ =>
    match fs[k]? with
    | some (o, ty) =>
      match T ty with
      | some tf =>
        match x.strip with
        | .p id off => some (x.cond ∧ tf.sz ≠ 0, .p id (off + o))
        | .q fr c sz e j => some (x.cond ∧ tf.sz ≠ 0, .q fr c sz e (j + o))
        | _ => none
      | none => none
    | none => none
  | _ => none

def pvField (T : Tab) (s : TypeId) (x : AV) (k : Nat) : Option (Prop × AV) :=
  match T s with
  | some ⟨.st _ fs, _, _, _⟩ =>
    match fs[k]? with
    | some (o, ty) =>
      match T ty, x.strip with
      | some tf, .a cs => if tf.k.agg then some (x.cond ∧ o + tf.sz ≤ cs.length, .a ((cs.drop o).take tf.sz)) else some (x.cond ∧ o < cs.length, cs.getD o .top)
      | _, _ => none
    | none => none
  | _ => none

def pvExtract (x : AV) (k : Nat) : Option (Prop × AV) :=
  match x.strip with
  | .t cs => some (x.cond ∧ k < cs.length, cs.getD k .top)
  | _ => none

def intOp : BinOp → IntKind → Int → Int → Option (Prop × Value)
  | .add, k, a, b => some (True, .int k (k.wrap (a + b)))
  | .sub, k, a, b => some (True, .int k (k.wrap (a - b)))
  | .mul, k, a, b => some (True, .int k (k.wrap (a * b)))
  | .quo, k, a, b => some (b ≠ 0, .int k (k.wrap (a.tdiv b)))
  | .rem, k, a, b => some (b ≠ 0, .int k (a.tmod b))
  | .eql, _, a, b => some (True, .bool (a == b))
  | .neq, _, a, b => some (True, .bool (a != b))
  | .lss, _, a, b => some (True, .bool (decide (a < b)))
  | .leq, _, a, b => some (True, .bool (decide (a ≤ b)))
  | .gtr, _, a, b => some (True, .bool (decide (b < a)))
  | .geq, _, a, b => some (True, .bool (decide (b ≤ a)))
  | .shr, k, a, b => some (0 ≤ b ∧ b.toNat ≤ k.bits, .int k (a.fdiv (2 ^ b.toNat)))
  | .shl, k, a, b => some (0 ≤ b ∧ b.toNat ≤ k.bits, .int k (k.wrap (a * 2 ^ b.toNat)))
  | _, _, _, _ => none

def strOp : BinOp → ByteArray → ByteArray → Option (Prop × Value)
  | .eql, a, b => some (True, .bool (a.toList == b.toList))
  | .neq, a, b => some (True, .bool (!(a.toList == b.toList)))
  | .lss, a, b => some (True, .bool (Op.bytesLess a.toList b.toList))
  | .leq, a, b => some (True, .bool (Op.bytesLess a.toList b.toList || a.toList == b.toList))
  | .gtr, a, b => some (True, .bool (!(Op.bytesLess a.toList b.toList || a.toList == b.toList)))
  | .geq, a, b => some (True, .bool (!Op.bytesLess a.toList b.toList))
  | _, _, _ => none

/-- Two structs of plain fields are equal. -/
def eqA (T : Tab) (cs ds : List AV) : List (Nat × TypeId) → Option Bool
  | [] => some true
  | (o, ty) :: r =>
    match T ty, cs.getD o .top, ds.getD o .top with
    | some ⟨.int _, _, _, _⟩, .v (.int k a), .v (.int k' b) => if k = k' then (match eqA T cs ds r with | some t => some ((a == b) && t) | none => none) else none
    | some ⟨.bool, _, _, _⟩, .v (.bool a), .v (.bool b) => (match eqA T cs ds r with | some t => some ((a == b) && t) | none => none)
    | some ⟨.str, _, _, _⟩, .v (.string a), .v (.string b) => (match eqA T cs ds r with | some t => some ((a == b) && t) | none => none)
    | _, _, _ => none
def pvBin (T : Tab) (op : BinOp) (t : TypeId) (x y : AV) : Option (Prop × AV) :=
  match x.strip, y.strip with
  | .v (.int k a), .v (.int k' b) =>
    if k = k' then (match intOp op k a b with | some (φ, r) => some (x.cond ∧ y.cond ∧ φ, .v r) | none => none) else none
  | .v (.string a), .v (.string b) => (match strOp op a b with | some (φ, r) => some (x.cond ∧ y.cond ∧ φ, .v r) | none => none)
  | .v (.bool a), .v (.bool b) =>
    match T t, op with
    | some ⟨.bool, _, _, _⟩, .eql => some (x.cond ∧ y.cond, .v (.bool (a == b)))
    | some ⟨.bool, _, _, _⟩, .neq => some (x.cond ∧ y.cond, .v (.bool (!(a == b))))
    | _, _ => none
  | .a cs, .a ds =>
    match T t with
    | some ⟨.st true fs, _, _, _⟩ =>
      match eqA T cs ds fs, op with
      | some r, .eql => some (x.cond ∧ y.cond, .v (.bool r))
      | some r, .neq => some (x.cond ∧ y.cond, .v (.bool (!r)))
      | _, _ => none
    | _ => none
  | .i _ _ _ _ len, .v (.slice none 0 0) =>
    match T t, op with
    | some ⟨.sl _, _, _, _⟩, .eql => some (x.cond ∧ y.cond ∧ 0 < len, .v (.bool false))
    | some ⟨.sl _, _, _, _⟩, .neq => some (x.cond ∧ y.cond ∧ 0 < len, .v (.bool true))
    | _, _ => none
  | .v (.slice A _ _), .v (.slice none 0 0) =>
    match T t, op with
    | some ⟨.sl _, _, _, _⟩, .eql => some (x.cond ∧ y.cond, .v (.bool A.isNone))
    | some ⟨.sl _, _, _, _⟩, .neq => some (x.cond ∧ y.cond, .v (.bool (!A.isNone)))
    | _, _ => none
  | _, _ => none

def pvUn (op : UnOp) (x : AV) : Option (Prop × AV) :=
  match op, x.strip with
  | .neg, .v (.int k n) => some (x.cond, .v (.int k (k.wrap (0 - n))))
  | .not, .v (.bool b) => some (x.cond, .v (.bool (!b)))
  | _, _ => none

def pvPick (c x y : AV) : Option (Prop × AV) :=
  match c.strip with
  | .v (.bool b) =>
    match x.strip, y.strip with
    | .v (.bool p), .v (.bool q) => some (c.cond ∧ (b = true → x.cond) ∧ (b = false → y.cond), .v (.bool (bif b then p else q)))
    | .v (.int k p), .v (.int k' q) => if k = k' then some (c.cond ∧ (b = true → x.cond) ∧ (b = false → y.cond), .v (.int k (bif b then p else q))) else none
    | .v p, .v q => some (c.cond ∧ (b = true → x.cond) ∧ (b = false → y.cond), .v (bif b then p else q))
    | _, _ => none
  | _ => none

def pvSlice (T : Tab) (H : List (Nat × Blk)) (t : TypeId) (x : AV) (lo hi : Option AV) : Option (Prop × AV) :=
  match T t with
  | some ⟨.sl e, _, _, _⟩ =>
    match T e, asNat? lo 0 with
    | some te, some (p, l) =>
      match x.strip with
      | .i fr c sz off len =>
        match asNat? hi len with
        | some (q, h) => some (x.cond ∧ p ∧ q ∧ te.sz = sz ∧ l ≤ h ∧ h ≤ len, .i fr c sz (off + l) (h - l))
        | none => none
      | .s id =>
        match lkH H id with
        | some (.row _ sz c) =>
          match asNat? hi (c.len / sz) with
          | some (q, h) => some (x.cond ∧ p ∧ q ∧ te.sz = sz ∧ 0 < sz ∧ l ≤ h ∧ h ≤ c.len / sz, .w id (l * sz) (h - l))
          | none => none
        | _ => none
      | .w id off len =>
        match asNat? hi len with
        | some (q, h) => some (x.cond ∧ p ∧ q ∧ l ≤ h ∧ h ≤ len, .w id (off + l * te.sz) (h - l))
        | none => none
      | _ => none
    | _, _ => none
  | some ⟨.str, _, _, _⟩ =>
    match x.strip, asNat? lo 0 with
    | .v (.string s), some (p, l) =>
      match asNat? hi s.size with
      | some (q, h) => some (x.cond ∧ p ∧ q ∧ l ≤ h ∧ h ≤ s.size, .v (.string (s.extract l h)))
      | none => none
    | _, _ => none
  | some ⟨.arr m e, _, _, _⟩ =>
    match T e, asNat? lo 0, asNat? hi m, x.strip with
    | some te, some (p, l), some (q, h), .p id off => some (x.cond ∧ p ∧ q ∧ l ≤ h ∧ h ≤ m, .w id (off + l * te.sz) (h - l))
    | _, _, _, _ => none
  | _ => none

def pvLen (T : Tab) (H : List (Nat × Blk)) (t : TypeId) (x : AV) : Option (Prop × AV) :=
  match T t with
  | some ⟨.sl _, _, _, _⟩ =>
    match x.strip with
    | .i _ _ _ _ len => some (x.cond, .v (.int .i64 len))
    | .w _ _ len => some (x.cond, .v (.int .i64 len))
    | .s id =>
      match lkH H id with
      | some (.row _ sz c) => some (x.cond ∧ 0 < sz, .v (.int .i64 (c.len / sz : Nat)))
      | _ => none
    | .v (.slice _ n _) => some (x.cond, .v (.int .i64 n))
    | _ => none
  | some ⟨.str, _, _, _⟩ =>
    match x.strip with
    | .v (.string s) => some (x.cond, .v (.int .i64 s.size))
    | _ => none
  | some ⟨.arr n _, _, _, _⟩ => some (True, .v (.int .i64 n))
  | _ => none

def pvMin (xs : List AV) : Option (Prop × AV) :=
  match xs with
  | [x, y] =>
    match x.strip, y.strip with
    | .v (.int k a), .v (.int _ b) => some (x.cond ∧ y.cond, .v (.int k (min a b)))
    | _, _ => none
  | [x, y, z] =>
    match x.strip, y.strip, z.strip with
    | .v (.int k a), .v (.int k2 b), .v (.int k3 c) => some (x.cond ∧ y.cond ∧ z.cond ∧ k2 = k ∧ k3 = k, .v (.int k (min (min a b) c)))
    | _, _, _ => none
  | _ => none
def pvMax (xs : List AV) : Option (Prop × AV) :=
  match xs with
  | [x, y] =>
    match x.strip, y.strip with
    | .v (.int k a), .v (.int _ b) => some (x.cond ∧ y.cond, .v (.int k (max a b)))
    | _, _ => none
  | _ => none

def pvConvert (T : Tab) (src dst : TypeId) (x : AV) : Option (Prop × AV) :=
  match T src, T dst, x.strip with
  | some _, some ⟨.int k, _, _, _⟩, .v (.int _ n) => some (x.cond, .v (.int k (k.wrap n)))
  | _, _, _ => none

def pvIndex (T : Tab) (t : TypeId) (x i : AV) : Option (Prop × AV) :=
  match T t, x.strip, i.strip with
  | some ⟨.str, _, _, _⟩, .v (.string s), .v (.int _ n) => some (x.cond ∧ i.cond ∧ 0 ≤ n ∧ n < s.size, .v (.int .u8 (s.data.getD n.toNat 0).toNat))
  | _, _, _ => none

def pvNil (x : AV) : Option (Prop × AV) :=
  match x.strip with
  | .p id off => some (x.cond, .p id off)
  | .q fr c sz e f => some (x.cond, .q fr c sz e f)
  | .f (.func k) cs => some (x.cond, .f (.func k) cs)
  | _ => none

section
variable {P : Program} {T : Tab} (hT : T.ok P) {B : Nat} {I : Nat → Prop} {w : World} {ρ : Nat → Option Value} {H : List (Nat × Blk)} (hw : HW B I w ρ H)

theorem asNat?_ok {x : Option AV} {u : Option Value} {d l : Nat} {φ : Prop} (h : asNat? x d = some (φ, l)) (hφ : φ) (hx : ∀ y, x = some y → ∃ v, u = some v ∧ Conc B I w ρ y v) (hn : x = none → u = none) :
    (x = none ∧ u = none ∧ l = d) ∨ ∃ k n, u = some (.int k n) ∧ 0 ≤ n ∧ l = n.toNat := by
  cases x with
  | none => simp [asNat?] at h; exact .inl ⟨rfl, hn rfl, h.2.symm⟩
  | some y =>
    obtain ⟨v, rfl, hc⟩ := hx y rfl
    simp only [asNat?] at h
    split at h
    · rename_i k n hs
      simp only [Option.some.injEq, Prod.mk.injEq] at h
      obtain ⟨rfl, rfl⟩ := h
      have := hc.strip hφ.1
      rw [hs] at this
      exact .inr ⟨k, n, by rw [this.v_inv], hφ.2, rfl⟩
    · cases h

include hT in
theorem pvFieldAddr_ok {s : TypeId} {x : AV} {k : Nat} {u : Value} {φ : Prop} {r : AV} (h : pvFieldAddr T s x k = some (φ, r)) (hφ : φ) (hx : Conc B I w ρ x u) :
    ∃ v, (Instr.fieldAt s u k).run P w = .ok v w ∧ Conc B I w ρ r v := by
  unfold pvFieldAddr at h
  split at h
  · rename_i fs _ _ _ hs
    obtain ⟨F, hF, hfs, _⟩ := (hT _ _ hs).kind
    split at h
    · rename_i o ty ho
      rw [← hfs, List.getElem?_map] at ho
      have : ∃ f, F[k]? = some f ∧ f.offset = o ∧ f.type = ty := by
        rw [Array.getElem?_toList] at ho
        cases hf : F[k]? with
        | none => rw [hf] at ho; cases ho
        | some f => rw [hf] at ho; simp at ho; exact ⟨f, rfl, ho.1, ho.2⟩
      obtain ⟨f, hf, rfl, rfl⟩ := this
      split at h
      · rename_i tf htf
        have hsz := (hT _ _ htf).size w
        split at h
        · rename_i id off hst
          simp only [Option.some.injEq, Prod.mk.injEq] at h
          obtain ⟨rfl, rfl⟩ := h
          have hc := hx.strip hφ.1
          rw [hst] at hc
          cases hc with
          | p _ _ b x hr hb =>
            refine ⟨.pointer (some ⟨b, off + f.offset, none⟩), ?_, .p _ _ b x hr hb⟩
            simp [Instr.fieldAt, run_underlying hF, hf, Instr.sureAddr, fieldPlace, hsz, hφ.2, add_none]
        · rename_i fr c sz e j hst
          simp only [Option.some.injEq, Prod.mk.injEq] at h
          obtain ⟨rfl, rfl⟩ := h
          have hc := hx.strip hφ.1
          rw [hst] at hc
          cases hc with
          | q _ _ _ _ _ ad uu h2 h3 hcell hcc =>
            refine ⟨.pointer (some (ad.add f.offset)), ?_, .q _ _ _ _ _ _ (fun m => uu (f.offset + m)) (by rw [add_block]; exact h2) (by rw [add_block]; exact h3) (fun m hm => by rw [add_add]; exact hcell _ (by omega)) (fun m hm => by have := hcc (f.offset + m) (by omega); rwa [← Nat.add_assoc] at this)⟩
            simp [Instr.fieldAt, run_underlying hF, hf, Instr.sureAddr, fieldPlace, hsz, hφ.2]
        · cases h
      · cases h
    · cases h
  · cases h

include hT hw in
theorem pvIndexAddr_ok {t : TypeId} {x i : AV} {u ui : Value} {φ : Prop} {r : AV} (h : pvIndexAddr T H t x i = some (φ, r)) (hφ : φ) (hx : Conc B I w ρ x u) (hi : Conc B I w ρ i ui) :
    ∃ v, (Instr.indexAt t u ui).run P w = .ok v w ∧ Conc B I w ρ r v := by
  unfold pvIndexAddr at h
  split at h
  · rename_i kk n hin
    split at h
    · rename_i e _ _ _ ht
      have hu : P.underlying t = some (.slice e) := (hT _ _ ht).kind
      split at h
      · rename_i te hte
        have hsz := (hT _ _ hte).size w
        split at h
        · rename_i fr c sz off len hst
          simp only [Option.some.injEq, Prod.mk.injEq] at h
          obtain ⟨rfl, rfl⟩ := h
          obtain ⟨c1, c2, rfl, h0, h1⟩ := hφ
          have hc := hx.strip c1
          have hci := hi.strip c2
          rw [hst] at hc; rw [hin] at hci
          obtain rfl := hci.v_inv
          cases hc with
          | i _ _ _ _ _ cap A uu hcap hA hcc =>
            obtain ⟨ad, rfl, hI, hB, hcell⟩ := hA (by omega)
            have hk : n.toNat < len := by omega
            refine ⟨.pointer (some (ad.add (n.toNat * te.sz))), ?_, .q _ _ _ _ _ _ (fun m => uu n.toNat m) (by rw [add_block]; exact hI) (by rw [add_block]; exact hB) (fun m hm => by rw [add_add]; exact hcell _ _ hk (by omega)) (fun m hm => by have := hcc n.toNat m hk (by omega); rwa [Nat.zero_add])⟩
            simp [Instr.indexAt, asIntOf, run_underlying hu, hsz, h0, h1]
        · rename_i id hst
          split at h
          · rename_i e' sz c hk
            simp only [Option.some.injEq, Prod.mk.injEq] at h
            obtain ⟨rfl, rfl⟩ := h
            obtain ⟨c1, c2, rfl, hpos, h0, h1⟩ := hφ
            have hc := hx.strip c1
            have hci := hi.strip c2
            rw [hst] at hc; rw [hin] at hci
            obtain rfl := hci.v_inv
            cases hc with
            | s _ x hr _ =>
              obtain ⟨x', hr', hok⟩ := hw.ok _ _ hk
              rw [hr] at hr'; injection hr' with hr'; subst hr'
              obtain ⟨m, xs, ho, hl, _⟩ := hok
              have hm : n.toNat < m := by
                rw [hl] at h1
                exact Nat.lt_of_succ_le (Nat.le_of_mul_le_mul_right h1 hpos)
              rcases ho.2 with ⟨_, h00⟩ | ⟨g, cap, cur, rfl, _⟩
              · omega
              · refine ⟨.pointer (some ⟨g, n.toNat * te.sz, none⟩), ?_, .p _ _ g _ hr rfl⟩
                have : n < (m : Int) := by omega
                simp [Instr.indexAt, asIntOf, run_underlying hu, hsz, h0, this, add_none]
          · rename_i e' c hk
            simp only [Option.some.injEq, Prod.mk.injEq] at h
            obtain ⟨rfl, rfl⟩ := h
            obtain ⟨c1, c2, hs1, h0, h1⟩ := hφ
            have hc := hx.strip c1
            have hci := hi.strip c2
            rw [hst] at hc; rw [hin] at hci
            obtain rfl := hci.v_inv
            cases hc with
            | s _ x hr _ =>
              obtain ⟨x', hr', hok⟩ := hw.ok _ _ hk
              rw [hr] at hr'; injection hr' with hr'; subst hr'
              obtain ⟨m, xs, ho, hl, _⟩ := hok
              have hm : n.toNat < m := by omega
              rcases ho.2 with ⟨_, h00⟩ | ⟨g, cap, cur, rfl, _⟩
              · omega
              · refine ⟨.pointer (some ⟨g, n.toNat, none⟩), ?_, .p _ _ g _ hr rfl⟩
                have : n < (m : Int) := by omega
                simp [Instr.indexAt, asIntOf, run_underlying hu, hsz, h0, this, add_none, hs1]
          · cases h
        · rename_i id off len hst
          simp only [Option.some.injEq, Prod.mk.injEq] at h
          obtain ⟨rfl, rfl⟩ := h
          obtain ⟨c1, c2, h0, h1⟩ := hφ
          have hc := hx.strip c1
          have hci := hi.strip c2
          rw [hst] at hc; rw [hin] at hci
          obtain rfl := hci.v_inv
          cases hc with
          | w _ _ _ cap A x hr hcap hA =>
            obtain ⟨b, hb, rfl⟩ := hA (by omega)
            refine ⟨.pointer (some ⟨b, off + n.toNat * te.sz, none⟩), ?_, .p _ _ b _ hr hb⟩
            simp [Instr.indexAt, asIntOf, run_underlying hu, hsz, h0, h1, add_none]
        · cases h
      · cases h
    · rename_i m e _ _ _ ht
      have hu : P.underlying t = some (.array m e) := (hT _ _ ht).kind
      split at h
      · rename_i te hte
        have hsz := (hT _ _ hte).size w
        split at h
        · rename_i id off hst
          simp only [Option.some.injEq, Prod.mk.injEq] at h
          obtain ⟨rfl, rfl⟩ := h
          obtain ⟨c1, c2, h0, h1⟩ := hφ
          have hc := hx.strip c1
          have hci := hi.strip c2
          rw [hst] at hc; rw [hin] at hci
          obtain rfl := hci.v_inv
          cases hc with
          | p _ _ b x hr hb =>
            refine ⟨.pointer (some ⟨b, off + n.toNat * te.sz, none⟩), ?_, .p _ _ b _ hr hb⟩
            simp [Instr.indexAt, asIntOf, run_underlying hu, hsz, h0, h1, add_none, Instr.sureAddr]
        · rename_i fr c sz el f hst
          simp only [Option.some.injEq, Prod.mk.injEq] at h
          obtain ⟨rfl, rfl⟩ := h
          obtain ⟨c1, c2, h0, h1⟩ := hφ
          have hc := hx.strip c1
          have hci := hi.strip c2
          rw [hst] at hc; rw [hin] at hci
          obtain rfl := hci.v_inv
          cases hc with
          | q _ _ _ _ _ ad uu h2 h3 hcell hcc =>
            refine ⟨.pointer (some (ad.add (n.toNat * te.sz))), ?_, .q _ _ _ _ _ _ (fun m => uu (n.toNat * te.sz + m)) (by rw [add_block]; exact h2) (by rw [add_block]; exact h3) (fun m hm => by rw [add_add]; exact hcell _ (by omega)) (fun m hm => by have := hcc (n.toNat * te.sz + m) (by omega); rwa [← Nat.add_assoc] at this)⟩
            simp [Instr.indexAt, asIntOf, run_underlying hu, hsz, h0, h1, Instr.sureAddr]
        · cases h
      · cases h
    · cases h
  · cases h
end
end Go.Eng
