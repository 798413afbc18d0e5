/- Part of a proof about the given program: contracts of its functions (see the comment of the last text). -/
import Derived.Test.YthgjjhddbigfcaaWfU
import Derived.Test.YthgjjhddbigfcaaWsF
namespace Go.Proofs.Ythgjjhddbigfcaa
open Go.Eng Go.Proofs Go.Wf Go.Proofs.Share
set_option linter.unusedSimpArgs false
set_option linter.unusedVariables false
attribute [local irreducible] AOps AOpsX AOps2 AOpsS AWP AAnyS Go.Eng.Pure PureRow Eff
theorem ZIo {l : List Int} (h : ∀ k, k < l.length → 0 ≤ l.getD k 0 ∧ l.getD k 0 ≤ maxC) (hl : l.length ≤ 64) : okI l := ⟨fun x hx => by
  obtain ⟨k, hk, e⟩ := List.getElem_of_mem hx
  have := h k hk
  have e2 : l.getD k 0 = x := by simp [List.getD_eq_getElem?_getD, hk, e]
  rw [e2] at this
  simp only [maxC] at this
  exact ⟨by omega, by omega⟩, by omega⟩
theorem ZJk {ps : List Po} {cs : List Cl} (hp : vP ps) (hv : vC cs) : okG (grF ps cs) := by
  have h3 := ZCy hp hv
  have hl := ZDI hp hv
  have hb := ZKE hp hv
  have h64 := hv.1
  have h4 := hp.1
  have hf := ZIa hp hv
  refine ⟨ZIo (fun k hk => hb k hk) (by simp only [grF]; omega), fun l hl2 => ?_, by simp only [grF]; rw [h3.fl]; omega⟩
  obtain ⟨i, hi, e⟩ := List.getElem_of_mem hl2
  have hi : i < (ta3 ps cs).fr.length := hi
  rw [h3.fl] at hi
  have e2 : (ta3 ps cs).fr.getD i [] = l := by
    have hi2 : i < (ta3 ps cs).fr.length := by rw [h3.fl]; exact hi
    have e : (ta3 ps cs).fr[i] = l := e
    simp [List.getD_eq_getElem?_getD, hi2, e]
  have hw := h3.wl i hi
  rw [e2] at hw
  refine ZIo (fun k hk => ?_) (by omega)
  rw [hw] at hk
  have h1 := (hf.2.1 i hi).2.1 k hk
  have h2 := (ZCS hp (ZAc hk)).2
  simp only [at2, e2] at h1
  exact ⟨h1.1, Int.le_trans h1.2.1 h2⟩
abbrev exP : List Po := [⟨100, false⟩, ⟨50, true⟩]
theorem ZHU : vP exP := ⟨by decide, by decide, by decide⟩
theorem ZJl : okPs exP := by
  refine ⟨fun p hp => ?_, by decide⟩
  simp only [List.mem_cons, List.not_mem_nil, or_false] at hp
  rcases hp with rfl | rfl
  · exact ⟨by decide, by decide⟩
  · exact ⟨by decide, by decide⟩
theorem ZIp : Sub (.i false (fun e j => [I64 100, BL false, I64 50, BL true].getD (e * 2 + j) .top) 2 0 2) (avPs exP) := ZBG rfl fun e j he hj => by
  rcases (by omega : e = 0 ∨ e = 1) with rfl | rfl <;> rcases (by omega : j = 0 ∨ j = 1) with rfl | rfl <;> rfl
set_option maxHeartbeats 64000000 in
theorem ZEL (w : List Int) (cs : List Cl) (hv : vC cs) (hw : divF exP cs = w) : Pure Try.prog 28 [ints w, avCs cs] (BL true) := by
  have hd := (ZJh exP cs ZJl ⟨ZHU, hv⟩).sub (xs := [.i false (fun e j => [I64 100, BL false, I64 50, BL true].getD (e * 2 + j) .top) 2 0 2, avCs cs]) ⟨ZIp, Sub.refl _, trivial⟩
  have hi := ZFL (divF exP cs) w (by rw [ZDI ZHU hv]; have := hv.1; omega) (by rw [← hw, ZDI ZHU hv]; have := hv.1; omega)
  rw [decide_eq_true hw] at hi
  have hc := (ZEK exP cs (grF exP cs) ZJl (vC.ok hv) (ZJk ZHU hv)).sub (xs := [.i false (fun e j => [I64 100, BL false, I64 50, BL true].getD (e * 2 + j) .top) 2 0 2, avCs cs, .a (avG (grF exP cs))]) ⟨ZIp, Sub.refl _, Sub.refl _, trivial⟩
  rw [decide_eq_true (show (vP exP ∧ vC cs) ∧ chk exP cs (grF exP cs).c (grF exP cs).fr from ⟨⟨ZHU, hv⟩, ZKJ ZHU hv⟩)] at hc
  generalize hg : grF exP cs = g at *
  have hgc : divF exP cs = g.c := by rw [← hg]; rfl
  rw [hgc] at hi
  refine ZAV (n := 31) (res := [.tmp 4]) hT Try.func28 rfl rfl rfl Try.ntmps28 (Nat.le_of_ble_eq_true rfl) fun B w0 => ?_
  repeat' (first | ((first | refine sC hT fun K' hK' => ?_ | refine oC fun K' hK' => ?_); push_cast; (try simp (disch := omega) only [wrap64, Int.toNat_natCast]); (repeat refine ZAD ?_ ?_); (first | refine hK' _ ?_ | ((first | apply con1 | (apply con3; exact gd) | apply con2); (try intro hb); (first | exact hd | exact hi | exact hc); exact okr; refine hK' _ ?_) | refine ⟨.v (.int .i64 0), hK' _ ?_⟩); clear hK' K') | (refine sK hT ?_; simp only [St.put]) | ((first | refine ZAE (hK _ ?_) | refine ZAJ (hK _ ?_)); clear hK K; push_cast) | ((first | apply ZAC | apply ZAF | apply ZAG | apply ZAM); push_cast) | refine ZAK fun K hK => ?_ | refine ZAN fun K hK => ?_ | refine dQ hT hm fun K hK => ?_ | refine dL hT hm fun K hK => ?_ | apply ZAA | apply ZAB | apply ZAL | (refine ZAH _ rfl (fun h => ?_) (fun h => ?_) <;> simp only [bh2, reduceCtorEq] at h))
  all_goals first | exact ff | skip
  all_goals done
end Go.Proofs.Ythgjjhddbigfcaa
