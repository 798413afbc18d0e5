/- Part of a proof about the given program: contracts of its functions (see the comment of the last text). -/
import Derived.Test.YthgjjhddbigfcaaEng5
import Derived.Test.YthgjjhddbigfcaaEng6
import Derived.Test.YthgjjhddbigfcaaPl2
import Derived.Test.YthgjjhddbigfcaaProg
import Derived.KernelRfl
namespace Go.Proofs.Ythgjjhddbigfcaa
open Go.Eng Go.Proofs Go.Wf
set_option linter.unusedSimpArgs false
set_option linter.unusedVariables false
attribute [local irreducible] AOps AOpsX AOps2 AOpsS AWP
def T : Tab
  | 3 => some ⟨.int .i64, 1, 8, .int .i64 0⟩
  | 4 => some ⟨.bool, 1, 1, .bool false⟩
  | 5 => some ⟨.int .u8, 1, 1, .int .u8 0⟩
  | 22 => some ⟨.sl 44, 1, 24, .slice none 0 0⟩
  | 23 => some ⟨.sl 41, 1, 24, .slice none 0 0⟩
  | 24 => some ⟨.sl 3, 1, 24, .slice none 0 0⟩
  | 25 => some ⟨.sl 24, 1, 24, .slice none 0 0⟩
  | 27 => some ⟨.st false [(0, 24), (1, 25)], 2, 48, .agg #[.slice none 0 0, .slice none 0 0]⟩
  | 30 => some ⟨.int .i64, 1, 8, .int .i64 0⟩
  | 33 => some ⟨.sl 4, 1, 24, .slice none 0 0⟩
  | 41 => some ⟨.st true [(0, 3), (1, 3), (2, 4)], 3, 24, .agg #[.int .i64 0, .int .i64 0, .bool false]⟩
  | 44 => some ⟨.st true [(0, 3), (1, 4)], 2, 16, .agg #[.int .i64 0, .bool false]⟩
  | 47 => some ⟨.int .u32, 1, 4, .int .u32 0⟩
  | 70 => some ⟨.mapt 3 24, 1, 8, .map none⟩
  | 84 => some ⟨.st true [], 0, 0, .agg #[]⟩
  | 85 => some ⟨.st true [], 0, 0, .agg #[]⟩
  | 95 => some ⟨.int .u64, 1, 8, .int .u64 0⟩
  | _ => none
attribute [push_cast] T
theorem hT : T.ok Try.prog := by
  intro t i h
  unfold T at h
  split at h
  · cases h; exact ZCM (by kernel_rfl) Try.underlying3
  · cases h; exact ZCM (by kernel_rfl) Try.underlying4
  · cases h; exact ZCM (by kernel_rfl) Try.underlying5
  · cases h; exact ZCM (by kernel_rfl) Try.underlying22
  · cases h; exact ZCM (by kernel_rfl) Try.underlying23
  · cases h; exact ZCM (by kernel_rfl) Try.underlying24
  · cases h; exact ZCM (by kernel_rfl) Try.underlying25
  · cases h; exact ZCM (by kernel_rfl) ⟨_, Try.underlying27, rfl, fun h => by cases h⟩
  · cases h; exact ZCM (by kernel_rfl) Try.underlying30
  · cases h; exact ZCM (by kernel_rfl) Try.underlying33
  · cases h; exact ZCM (by kernel_rfl) ⟨_, Try.underlying41, rfl, fun _ => ⟨by kernel_rfl, by kernel_rfl, by kernel_rfl⟩⟩
  · cases h; exact ZCM (by kernel_rfl) ⟨_, Try.underlying44, rfl, fun _ => ⟨by kernel_rfl, by kernel_rfl, by kernel_rfl⟩⟩
  · cases h; exact ZCM (by kernel_rfl) Try.underlying47
  · cases h; exact ZCM (by kernel_rfl) Try.underlying70
  · cases h; exact ZCM (by kernel_rfl) ⟨_, Try.underlying84, rfl, fun _ => ⟨by kernel_rfl, by kernel_rfl, by kernel_rfl⟩⟩
  · cases h; exact ZCM (by kernel_rfl) ⟨_, Try.underlying85, rfl, fun _ => ⟨by kernel_rfl, by kernel_rfl, by kernel_rfl⟩⟩
  · cases h; exact ZCM (by kernel_rfl) Try.underlying95
  · cases h
theorem hm : Try.prog.follows .mixedOrders = true := by kernel_rfl

def In64 (n : Int) : Prop := -9223372036854775808 ≤ n ∧ n ≤ 9223372036854775807
def avP (p : Po) : List AV := [I64 p.c, BL p.f]
def avC (c : Cl) : List AV := [I64 c.r, I64 c.c, BL c.f]
attribute [push_cast] avP avC
abbrev avPs (l : List Po) : AV := avSl avP 2 l
abbrev avCs (l : List Cl) : AV := avSl avC 3 l
abbrev avLL (l : List (List Int)) : AV := avSl (fun l => [ints l]) 1 l
structure Gr where
  c : List Int
  fr : List (List Int)
  deriving Inhabited, DecidableEq
def avG (g : Gr) : List AV := [ints g.c, avLL g.fr]
attribute [push_cast] avG
def okPo (p : Po) : Prop := In64 p.c
def okC (c : Cl) : Prop := In64 c.r ∧ In64 c.c
def okPs (l : List Po) : Prop := (∀ p ∈ l, okPo p) ∧ l.length ≤ 9223372036854775807
def okCs (l : List Cl) : Prop := (∀ p ∈ l, okC p) ∧ l.length ≤ 9223372036854775807
def okI (l : List Int) : Prop := (∀ p ∈ l, In64 p) ∧ l.length ≤ 9223372036854775807
def okG (g : Gr) : Prop := okI g.c ∧ (∀ l ∈ g.fr, okI l) ∧ g.fr.length ≤ 9223372036854775807
theorem Reads.sub {t : TypeId} {α : Type} {av av' : α → List AV} {ok : α → Prop} (h : Reads Try.prog t av ok) (hs : ∀ a, SubL (av a) (av' a)) : Reads Try.prog t av' ok := by
  intro H enc W sp fuel cs x hx
  obtain ⟨a, h1, h2⟩ := h H enc W sp fuel cs x hx
  obtain ⟨e1, e2⟩ := (hs a).spec
  exact ⟨a, h1, by rw [e1]; exact h2.1, fun j hj => e2 j _ _ _ _ (h2.2 j (by rw [← e1]; exact hj))⟩
theorem readsP : Reads Try.prog 44 avP okPo :=
  (ZCP Try.underlying44 rfl (by kernel_rfl) (ZBH (k := 1) (by kernel_rfl) (ZC6 Try.underlying3) (ZBH (k := 1) (by kernel_rfl) (ZEa Try.underlying4) ZDN))).map (fun a => ⟨a.1, a.2.1⟩) (fun _ => rfl) (fun a h => wf64 h.1)
theorem readsC : Reads Try.prog 41 avC okC :=
  (ZCP Try.underlying41 rfl (by kernel_rfl) (ZBH (k := 1) (by kernel_rfl) (ZC6 Try.underlying3) (ZBH (k := 1) (by kernel_rfl) (ZC6 Try.underlying3) (ZBH (k := 1) (by kernel_rfl) (ZEa Try.underlying4) ZDN)))).map (fun a => ⟨a.1, a.2.1, a.2.2.1⟩) (fun _ => rfl) (fun a h => ⟨wf64 h.1, wf64 h.2.1⟩)
theorem readsPs : Reads Try.prog 22 (fun l => [avPs l]) okPs := ZB9 Try.underlying22 (by kernel_rfl) (by decide) readsP
theorem readsCs : Reads Try.prog 23 (fun l => [avCs l]) okCs := ZB9 Try.underlying23 (by kernel_rfl) (by decide) readsC
theorem readsI1 : Reads Try.prog 3 (fun n : Int => [I64 n]) In64 := (ZC6 Try.underlying3).map (fun a => a) (fun _ => rfl) (fun a h => wf64 h)
theorem readsIs : Reads Try.prog 24 (fun l => [ints l]) okI :=
  Reads.sub (ZB9 Try.underlying24 (by kernel_rfl) (by decide) readsI1) fun l => ⟨ZBG rfl fun e j he hj => by
    have hj0 : j = 0 := by omega
    subst hj0
    rw [Nat.zero_add]; rfl, trivial⟩
theorem readsLL : Reads Try.prog 25 (fun l => [avLL l]) (fun l => (∀ x ∈ l, okI x) ∧ l.length ≤ 9223372036854775807) := ZB9 Try.underlying25 (by kernel_rfl) (by decide) readsIs
theorem readsG : Reads Try.prog 27 avG okG :=
  (ZCP Try.underlying27 rfl (by kernel_rfl) (ZBH (k := 1) (by kernel_rfl) readsIs (ZBH (k := 1) (by kernel_rfl) readsLL ZDN))).map (fun a => ⟨a.1, a.2.1⟩) (fun _ => rfl) (fun a h => ⟨h.1, h.2.1⟩)
theorem ZJy {l : List Po} (h : okPs l) {i : Nat} (hi : i < l.length) : In64 (l.getD i default).c := h.1 _ (ZAc hi)
theorem ZHx {l : List Cl} (h : okCs l) {i : Nat} (hi : i < l.length) : okC (l.getD i default) := h.1 _ (ZAc hi)
end Go.Proofs.Ythgjjhddbigfcaa
