/- Part of a proof about the given program: contracts of its functions (see the comment of the last text). -/
import Derived.Test.YthgjjhddbigfcaaWfV
namespace Go.Proofs.Ythgjjhddbigfcaa
open Go.Eng Go.Proofs Go.Wf Go.Proofs.Share
set_option linter.unusedSimpArgs false
set_option linter.unusedVariables false
attribute [local irreducible] AOps AOpsX AOps2 AOpsS AWP AAnyS Go.Eng.Pure PureRow Eff
theorem subC2 (a b : Cl) : Sub (.i false (fun e j => [I64 a.r, I64 a.c, BL a.f, I64 b.r, I64 b.c, BL b.f].getD (e * 3 + j) .top) 3 0 2) (avCs [a, b]) := ZBG rfl fun e j he hj => by
  rcases (by omega : e = 0 ∨ e = 1) with rfl | rfl <;> rcases (by omega : j = 0 ∨ j = 1 ∨ j = 2) with rfl | rfl | rfl <;> rfl
theorem subC3 (a b c : Cl) : Sub (.i false (fun e j => [I64 a.r, I64 a.c, BL a.f, I64 b.r, I64 b.c, BL b.f, I64 c.r, I64 c.c, BL c.f].getD (e * 3 + j) .top) 3 0 3) (avCs [a, b, c]) := ZBG rfl fun e j he hj => by
  rcases (by omega : e = 0 ∨ e = 1 ∨ e = 2) with rfl | rfl | rfl <;> rcases (by omega : j = 0 ∨ j = 1 ∨ j = 2) with rfl | rfl | rfl <;> rfl
theorem subP1 (a : Po) : Sub (.i false (fun e j => [I64 a.c, BL a.f].getD (e * 2 + j) .top) 2 0 1) (avPs [a]) := ZBG rfl fun e j he hj => by
  rcases (by omega : e = 0) with rfl; rcases (by omega : j = 0 ∨ j = 1) with rfl | rfl <;> rfl
abbrev one : List Po := [⟨5, false⟩]
abbrev two : List Cl := [⟨0, 4, false⟩, ⟨0, 4, false⟩]
abbrev neg : List Po := [⟨-1, false⟩]
abbrev avTwo : AV := .i false (fun e j => [I64 0, I64 4, BL false, I64 0, I64 4, BL false].getD (e * 3 + j) .top) 3 0 2
abbrev avOne : AV := .i false (fun e j => [I64 5, BL false].getD (e * 2 + j) .top) 2 0 1
abbrev avNeg : AV := .i false (fun e j => [I64 (-1), BL false].getD (e * 2 + j) .top) 2 0 1
theorem one_v : vP one := ⟨by decide, by decide, by decide⟩
theorem ZIq : vC two := by decide
theorem ZJm : okPs one := ⟨fun p hp => by rw [List.mem_singleton.1 hp]; exact ⟨by decide, by decide⟩, by decide⟩
theorem neg_ok : okPs neg := ⟨fun p hp => by rw [List.mem_singleton.1 hp]; exact ⟨by decide, by decide⟩, by decide⟩
theorem k1 : Pure Try.prog 28 [ints [30, 70, 0], .i false (fun e j => [I64 1, I64 30, BL false, I64 1, I64 80, BL false, I64 2, I64 500, BL false].getD (e * 3 + j) .top) 3 0 3] (BL true) :=
  (ZEL [30, 70, 0] [⟨1, 30, false⟩, ⟨1, 80, false⟩, ⟨2, 500, false⟩] (by decide) (by decide +kernel)).sub ⟨Sub.refl _, subC3 ⟨1, 30, false⟩ ⟨1, 80, false⟩ ⟨2, 500, false⟩, trivial⟩
theorem k2 : Pure Try.prog 28 [ints [75, 75], .i false (fun e j => [I64 1, I64 200, BL false, I64 1, I64 200, BL true].getD (e * 3 + j) .top) 3 0 2] (BL true) :=
  (ZEL [75, 75] [⟨1, 200, false⟩, ⟨1, 200, true⟩] (by decide) (by decide +kernel)).sub ⟨Sub.refl _, subC2 ⟨1, 200, false⟩ ⟨1, 200, true⟩, trivial⟩
theorem k3 : Pure Try.prog 28 [ints [100, 20], .i false (fun e j => [I64 1, I64 200, BL false, I64 1, I64 20, BL true].getD (e * 3 + j) .top) 3 0 2] (BL true) :=
  (ZEL [100, 20] [⟨1, 200, false⟩, ⟨1, 20, true⟩] (by decide) (by decide +kernel)).sub ⟨Sub.refl _, subC2 ⟨1, 200, false⟩ ⟨1, 20, true⟩, trivial⟩
theorem k4 : Pure Try.prog 28 [ints [150, 0], .i false (fun e j => [I64 1, I64 200, BL true, I64 2, I64 200, BL false].getD (e * 3 + j) .top) 3 0 2] (BL true) :=
  (ZEL [150, 0] [⟨1, 200, true⟩, ⟨2, 200, false⟩] (by decide) (by decide +kernel)).sub ⟨Sub.refl _, subC2 ⟨1, 200, true⟩ ⟨2, 200, false⟩, trivial⟩
theorem k5 : Pure Try.prog 28 [ints [60, 90], .i false (fun e j => [I64 2, I64 60, BL true, I64 1, I64 90, BL false].getD (e * 3 + j) .top) 3 0 2] (BL true) :=
  (ZEL [60, 90] [⟨2, 60, true⟩, ⟨1, 90, false⟩] (by decide) (by decide +kernel)).sub ⟨Sub.refl _, subC2 ⟨2, 60, true⟩ ⟨1, 90, false⟩, trivial⟩
theorem k6 : Pure Try.prog 15 [avOne, avTwo, I64 0] (.t [I64 5, bools [true], I64 0]) := by
  have := ZHz one two 0 ⟨by decide, by decide⟩ ZJm (vC.ok ZIq) ⟨one_v, ZIq⟩
  rw [show mostF one two 0 = 5 by decide +kernel, show cutF one two 0 = [true] by decide +kernel] at this
  exact this.sub ⟨subP1 ⟨5, false⟩, subC2 ⟨0, 4, false⟩ ⟨0, 4, false⟩, Sub.refl _, trivial⟩
theorem k7 : Pure Try.prog 29 [I64 5, ints [4, 4]] (.t [intsF [3, 2], I64 0]) := by
  have h := ZCf (t := 5) (l := [4, 4]) (by decide) (by decide)
  rw [show fairF 5 [4, 4] = [3, 2] by decide +kernel] at h
  exact ZH5 5 [4, 4] [3, 2] (by decide) h
theorem k8 : Pure Try.prog 13 [avNeg, avTwo] (.t [.a [.v (.slice none 0 0), .v (.slice none 0 0)], I64 1]) :=
  (ZJi neg two neg_ok (vC.ok ZIq) (fun h => absurd (h.1.2.1 ⟨-1, false⟩ (by simp)) (by decide))).sub ⟨subP1 ⟨-1, false⟩, subC2 ⟨0, 4, false⟩ ⟨0, 4, false⟩, trivial⟩
theorem ZIr {l : List Int} (h : ∀ x ∈ l, -9223372036854775808 ≤ x ∧ x ≤ 9223372036854775807) (hl : l.length ≤ 64) : okI l := ⟨h, by omega⟩
theorem k9 : Pure Try.prog 19 [avOne, avTwo, .a [ints [2, 3], .i false (fun e j => [ints [2], ints [3]].getD (e + j) .top) 1 0 2]] (BL false) := by
  have := ZEK one two ⟨[2, 3], [[2], [3]]⟩ ZJm (vC.ok ZIq) ⟨ZIr (by decide) (by decide), fun l hl => by
    simp only [List.mem_cons, List.not_mem_nil, or_false] at hl
    rcases hl with rfl | rfl <;> exact ZIr (by decide) (by decide), by decide⟩
  rw [decide_eq_false (fun h => absurd (ZKI one_v ZIq h.2) (by decide +kernel))] at this
  refine this.sub ⟨subP1 ⟨5, false⟩, subC2 ⟨0, 4, false⟩ ⟨0, 4, false⟩, ZG8 ⟨Sub.refl _, ZBG rfl fun e j he hj => ?_, trivial⟩, trivial⟩
  obtain rfl : j = 0 := by omega
  rcases (by omega : e = 0 ∨ e = 1) with rfl | rfl <;> rfl
theorem k10 : Pure Try.prog 25 [ints [3, 2], ints [3, 2]] (BL true) := by
  have := ZFL [3, 2] [3, 2] (by decide) (by decide)
  rwa [decide_eq_true rfl] at this
theorem k11 : Pure Try.prog 18 [boolA [true], .i false (fun e j => [BL true].getD (e + j) .top) 1 0 1] (BL true) := by
  have := ZFM [true] [true] (by decide) (by decide)
  rw [decide_eq_true rfl] at this
  refine this.sub ⟨Sub.refl _, ZBG rfl fun e j he hj => ?_, trivial⟩
  obtain rfl : j = 0 := by omega
  obtain rfl : e = 0 := by omega
  rfl
set_option maxHeartbeats 64000000 in
theorem ZKO : Pure Try.prog 11 [] (BL true) := by
  have k1 := k1; have k2 := k2; have k3 := k3; have k4 := k4; have k5 := k5; have k6 := k6; have k7 := k7; have k8 := k8; have k9 := k9; have k10 := k10; have k11 := k11
  refine ZAV (n := 113) (res := [.tmp 0]) hT Try.func11 rfl rfl rfl Try.ntmps11 (Nat.le_of_ble_eq_true rfl) fun B w0 => ?_
  repeat' (first | ((first | refine sC hT fun K' hK' => ?_ | refine oC fun K' hK' => ?_); push_cast; (try simp (disch := omega) only [wrap64, Int.toNat_natCast]); (repeat refine ZAD ?_ ?_); (first | refine hK' _ ?_ | ((first | apply con1 | (apply con3; exact gd) | apply con2); (try intro hb); (first | exact k1 | exact k2 | exact k3 | exact k4 | exact k5 | exact k6 | exact k7 | exact k8 | exact k9 | exact k10 | exact k11); exact okr; refine hK' _ ?_) | refine ⟨.v (.int .i64 0), hK' _ ?_⟩); clear hK' K') | (refine sK hT ?_; simp only [St.put]) | ((first | refine ZAE (hK _ ?_) | refine ZAJ (hK _ ?_)); clear hK K; push_cast) | ((first | apply ZAC | apply ZAF | apply ZAG | apply ZAM); push_cast) | refine ZAK fun K hK => ?_ | refine ZAN fun K hK => ?_ | refine dQ hT hm fun K hK => ?_ | refine dL hT hm fun K hK => ?_ | apply ZAA | apply ZAB | apply ZAL | (refine ZAH _ rfl (fun h => ?_) (fun h => ?_) <;> simp only [bh2, reduceCtorEq] at h))
  all_goals first | exact ff | skip
  all_goals done
end Go.Proofs.Ythgjjhddbigfcaa
