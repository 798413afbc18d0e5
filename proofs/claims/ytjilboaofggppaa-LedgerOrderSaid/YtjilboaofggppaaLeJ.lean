/- Part of a proof about the given program: contracts of its functions (see the comment of the last text). -/
import Derived.Test.YtjilboaofggppaaLeI
import Derived.Test.YtjilboaofggppaaLeP
namespace Go.Proofs.Ytjilboaofggppaa
open Go.Eng Go.Proofs Go.RowKit Go.Maps Go.Sort Go.Shelf
set_option linter.unusedSimpArgs false
set_option linter.unusedVariables false

/-- A map's keys, by their bytes. -/
def bytesOf (m : List (Key × Bool)) : List (List UInt8) := m.map fun p => match p.1 with | .s b => b.data.toList | .i _ => []
theorem keysCalls : KeysCalls Try.prog 32 41 54 := ⟨⟨_, Try.func32, rfl, rfl⟩, fun mb w => (callsIn_wide (n := 5)).1 (AnyZ.keys_in Try.keysA Fence.wide 5 trivial rfl mb w)⟩
theorem sortsA (m : Nat) : AnyZ.SortsIn Try.prog Try.sortedA_ren Fence.wide m :=
  ⟨fun blk off cap ss W hH hblk hsz => callsIn_wide.2 (AnyM.slices_Sort_string Try.sortA blk off cap ss W hH hblk hsz),
   fun p cap W => callsIn_wide.2 (AnyM.slices_Sort_string_none Try.sortA p cap W)⟩
def Rn : Value → Option (DataW Unit × List MemPlace) := fun _ => some (.nil, [])
theorem rdKey {s : ByteArray} (hs : s.size ≤ 9223372036854775807) {x : MapEntry} (hx : x.key = .string s) : WideElems.rd Try.prog 9 Rn x = some (.string s.data.toList, .nil) := by
  unfold WideElems.rd
  rw [hx]
  have : keyOf Try.prog 9 (.string s) = some (.string s.data.toList) := by
    simp [keyOf, Try.underlying9, mapKey, maxLen]
    exact if_pos hs
  rw [this]; rfl
theorem sortCalls (m : List (Key × Bool)) (hm : m.length ≤ 1000000) : SortCalls Try.prog 31 41 54 9 (.bools false m) (((bytesOf m).mergeSort leB).map encStr) := by
  refine ⟨⟨_, Try.func31, rfl, rfl⟩, fun w bp bm hbp hmap => ?_⟩
  obtain ⟨es, clock, hh, hl, hs, hsz, hk⟩ := hmap
  have hkey : ∀ x ∈ es.toList, ∃ s : ByteArray, x.key = .string s ∧ s.size ≤ 9223372036854775807 := fun x hx => by
    have h1 : (x.key, x.val) ∈ es.toList.map (fun e => (e.key, e.val)) := List.mem_map.2 ⟨x, hx, rfl⟩
    rw [hl] at h1
    obtain ⟨p, hp, hpe⟩ := List.mem_map.1 h1
    obtain ⟨k1, k2, _⟩ := hk p hp
    injection hpe with e1 e2
    cases hkk : p.1 with
    | i n => rw [hkk] at k2; cases k2
    | s b => rw [hkk] at k1 e1; exact ⟨b, e1.symm, k1⟩
  have hlen : es.size = m.length := by
    have := congrArg List.length hl
    simpa [MC.ents] using this
  have hown : w.ownsMap Try.prog 9 Rn bm es.size (.map ((es.toList.map (WideElems.rg Try.prog 9 Rn)).foldr DataW.insert [])) :=
    ⟨es, clock, hh, ⟨hsz, hs, fun x hx => by obtain ⟨s, h1, h2⟩ := hkey x hx; exact ⟨_, rdKey h2 h1⟩⟩, Nat.le_refl _, rfl⟩
  have hsize := hown.size_le
  have hseq := AnyZ.keys_gives (ρ := Try.keysA_ren) { Try.keysA with } Fence.wide 2 trivial rfl (by omega) bp bm es.size _ w (Array.getElem?_eq_some_iff.1 hbp).1 (by simp [World.cell?, hbp]) hown
  have cS := AnyZ.sorted_in Try.sortedA Fence.wide 5 trivial trivial trivial trivial rfl (by omega) (sortsA _) (enters_of Try.func40 (by kernel_rfl) rfl) 41 #[.pointer (some ⟨bp, 0, none⟩)] trivial (enters_of Try.func41 (by kernel_rfl) rfl) _ _ (by unfold maxLen; omega) (by omega) _ hseq
  refine ((callsIn_wide (n := 5)).1 cS).mono fun en w' he => ?_
  obtain ⟨v, ss, rfl, hp, hrow, _, hbel⟩ := he
  have hperm : ss.Perm (bytesOf m) := by
    refine hp.trans ?_
    have h1 : (strKeys (.map ((es.toList.map (WideElems.rg Try.prog 9 Rn)).foldr DataW.insert []))) = ((es.toList.map (WideElems.rg Try.prog 9 Rn)).foldr DataW.insert []).map fun p => strOf p.1 := rfl
    rw [h1]
    refine ((WideShapes.sorted_perm _).map _).trans (List.Perm.of_eq ?_)
    rw [List.map_map]
    have h2 : (es.toList.map (fun e => (e.key, e.val))).map (fun q => match q.1 with | .string b => b.data.toList | _ => []) = (es.toList.map fun e => match e.key with | .string b => b.data.toList | _ => []) := by rw [List.map_map]; rfl
    have h3 : es.toList.map ((fun p => strOf p.1) ∘ WideElems.rg Try.prog 9 Rn) = (es.toList.map fun e => match e.key with | .string b => b.data.toList | _ => []) := by
      refine List.map_congr_left fun x hx => ?_
      obtain ⟨s, h1, h2⟩ := hkey x hx
      simp only [Function.comp, WideElems.rg, rdKey h2 h1, h1, Option.getD_some, strOf]
    rw [h3, ← h2, hl]
    unfold bytesOf
    simp only [MC.ents, List.map_map]
    refine List.map_congr_left fun p hp => ?_
    cases hpk : p.1 with
    | s b => simp [Function.comp, hpk, Key.val]
    | i n =>
      have := (hk (p.1, .bool p.2) (List.mem_map.2 ⟨p, hp, rfl⟩)).2.1
      rw [hpk] at this; cases this
  rw [mergeSort_of_perm hperm] at hrow
  have hlen2 : ss.length = (((bytesOf m).mergeSort leB).map encStr).length := by simp [hperm.length_eq]
  rw [hlen2] at hrow
  exact ⟨v, rfl, hbel, hrow⟩
end Go.Proofs.Ytjilboaofggppaa
