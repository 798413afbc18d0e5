/- Part of a proof about the given program: contracts of its functions (see the comment of the last text). -/
import Derived.Test.YthgjjhddbigfcaaWfF
import Derived.Test.YthgjjhddbigfcaaPl2
import Derived.Test.YthgjjhddbigfcaaWsD
namespace Go.Proofs.Ythgjjhddbigfcaa
open Go.Eng Go.Proofs Go.Wf Go.Proofs.Share
set_option linter.unusedSimpArgs false
set_option linter.unusedVariables false
attribute [local irreducible] AOps AOpsX AOps2 AOpsS AWP AAnyS Go.Eng.Pure PureRow Eff
theorem selected_ok (d : List Int) (l : List Nat) (h64 : l.length ≤ 64) (hl : ∀ i ∈ l, i < d.length) (hdl : d.length ≤ 64) (hd : bd maxC d) : Pure Try.prog 54 [ints d, ints (toI l)] (intsF (sel d l)) := by
  have htl := toI_len l
  refine pure_of (n := 23) (res := [.tmp 4]) hT Try.func54 rfl rfl rfl Try.ntmps54 (Nat.le_of_ble_eq_true rfl) fun B w0 => ?_
  repeat' (first | ((first | refine sC hT fun K' hK' => ?_ | refine oC fun K' hK' => ?_); push_cast [htl]; (try simp (disch := omega) only [wrap64, Int.toNat_natCast]); (repeat refine and_rev ?_ ?_); (first | refine hK' _ ?_ | refine ⟨.v (.int .i64 0), hK' _ ?_⟩); clear hK' K') | (refine sK hT ?_; simp only [St.put]) | ((first | refine aopss_nil (hK _ ?_) | refine aops_nil (hK _ ?_)); clear hK K; push_cast) | ((first | apply awp_label | apply awp_skip | apply awp_exit | apply awp_ret); push_cast) | refine awp_sseq fun K hK => ?_ | refine awp_s fun K hK => ?_ | refine dQ hT hm fun K hK => ?_ | refine dL hT hm fun K hK => ?_ | apply awp_block | apply awp_scope | apply awp_seq | (refine awp_cond _ rfl (fun h => ?_) (fun h => ?_) <;> simp only [bh2, reduceCtorEq] at h))
  all_goals first | exact ff | skip
  refine awp_conv _ (fun a w h => G.nilRow h 5 20 rfl (by decide) 3 1 (.ints .i64 []) rfl) ?_
  push_cast
  refine awp_loop (α := Nat) (fun k => ⟨[(0, ints d), (5, .s 20), (8, .i false (fun e _ => .v (.int .i64 ((toI l).getD e 0))) 1 0 l.length), (9, I64 l.length), (10, I64 k)], [(20, .row 3 1 (.ints .i64 (sel d (l.take k))))]⟩) (fun k => k ≤ l.length) (fun k => l.length - k) 0 (Nat.zero_le _) (G.wk ⟨rfl, rfl, rfl, rfl, rfl, trivial⟩ ⟨rfl, trivial⟩) fun k hk => ?_
  have hsl : (sel d (l.take k)).length = k := by rw [sel_len, List.length_take]; omega
  by_cases hlt : k < l.length
  · have c1 : decide ((k : Int) < (l.length : Int)) = true := decide_eq_true (by omega)
    have hli := hl _ (nth_mem0 hlt)
    have hti := toI_getD hlt
    have hst := sel_take d l k hlt
    repeat' (first | ((first | refine sC hT fun K' hK' => ?_ | refine oC fun K' hK' => ?_); push_cast [c1, hti]; (try simp (disch := omega) only [wrap64, Int.toNat_natCast]); (repeat refine and_rev ?_ ?_); (first | refine hK' _ ?_ | ((first | refine ⟨[d.getD (l.getD k 0) 0], ⟨rfl, (fun j hj => rfl), by rw [hsl]; omega, by rw [hsl]; omega⟩, ?_⟩); refine hK' _ ?_) | refine ⟨.v (.int .i64 0), hK' _ ?_⟩); clear hK' K') | (refine sK hT ?_; simp only [St.put]) | ((first | refine aopss_nil (hK _ ?_) | refine aops_nil (hK _ ?_)); clear hK K; push_cast) | ((first | apply awp_label | apply awp_skip | apply awp_exit | apply awp_ret); push_cast) | refine awp_sseq fun K hK => ?_ | refine awp_s fun K hK => ?_ | refine dQ hT hm fun K hK => ?_ | refine dL hT hm fun K hK => ?_ | apply awp_block | apply awp_scope | apply awp_seq | (refine awp_cond _ rfl (fun h => ?_) (fun h => ?_) <;> simp only [bh2, reduceCtorEq] at h))
    all_goals first | exact ff | skip
    all_goals exact ⟨k + 1, ⟨by omega, by omega⟩, G.wk ⟨rfl, rfl, rfl, rfl, rfl, trivial⟩ ⟨by rw [hst]; rfl, trivial⟩⟩
  · obtain rfl : k = l.length := by omega
    have c1 : decide ((l.length : Int) < (l.length : Int)) = false := decide_eq_false (by omega)
    have e : sel d l = sel d (l.take l.length) := by rw [List.take_length]
    rw [e]
    repeat' (first | ((first | refine sC hT fun K' hK' => ?_ | refine oC fun K' hK' => ?_); push_cast [c1]; (try simp (disch := omega) only [wrap64, Int.toNat_natCast]); (repeat refine and_rev ?_ ?_); (first | refine hK' _ ?_ | refine ⟨.v (.int .i64 0), hK' _ ?_⟩); clear hK' K') | (refine sK hT ?_; simp only [St.put]) | ((first | refine aopss_nil (hK _ ?_) | refine aops_nil (hK _ ?_)); clear hK K; push_cast) | ((first | apply awp_label | apply awp_skip | apply awp_exit | apply awp_ret); push_cast) | refine awp_sseq fun K hK => ?_ | refine awp_s fun K hK => ?_ | refine dQ hT hm fun K hK => ?_ | refine dL hT hm fun K hK => ?_ | apply awp_block | apply awp_scope | apply awp_seq | (refine awp_cond _ rfl (fun h => ?_) (fun h => ?_) <;> simp only [bh2, reduceCtorEq] at h))
    all_goals first | exact ff | skip
    all_goals done
theorem wants_take (cs : List Cl) (l : List Nat) (k : Nat) (h : k < l.length) : wants cs (l.take (k + 1)) = wants cs (l.take k) ++ [(cs.getD (l.getD k 0) default).c] := by
  unfold wants
  rw [List.take_succ_eq_append_getElem h, List.map_append]
  simp [List.getD_eq_getElem?_getD, h]
theorem vfair_eff (cs : List Cl) (d : List Int) (l : List Nat) (t : Int) (p : List Int) (hcs : okCs cs) (h64 : l.length ≤ 64) (hl : ∀ i ∈ l, i < cs.length) (hdl : d.length = cs.length) (hc64 : cs.length ≤ 64) (he : errF t (wants cs l) = 0) (hp : DF t (wants cs l) p) :
    Eff Try.prog 52 [.s 9000, I64 t, avCs cs, ints (toI l)] [(9000, .row 3 1 (.ints .i64 d))] (.t []) [(9000, .row 3 1 (.ints .i64 (put d l p)))] := by
  have htl := toI_len l
  have hfair := fair_ok t (wants cs l) p he hp
  have hpl : p.length = l.length := by rw [hp.len, wants_len]
  refine eff_of (n := 51) (res := []) hT Try.func52 rfl rfl rfl Try.ntmps52 (Nat.le_of_ble_eq_true rfl) (fun id hid => by simp only [lkH]; rw [if_neg (by omega)]) fun B w0 hgh hrd => ?_
  repeat' (first | ((first | refine sC hT fun K' hK' => ?_ | refine oC fun K' hK' => ?_); push_cast [htl]; (try simp (disch := omega) only [wrap64, Int.toNat_natCast]); (repeat refine and_rev ?_ ?_); (first | refine hK' _ ?_ | refine ⟨.v (.int .i64 0), hK' _ ?_⟩); clear hK' K') | (refine sK hT ?_; simp only [St.put]) | ((first | refine aopss_nil (hK _ ?_) | refine aops_nil (hK _ ?_)); clear hK K; push_cast) | ((first | apply awp_label | apply awp_skip | apply awp_exit | apply awp_ret); push_cast) | refine awp_sseq fun K hK => ?_ | refine awp_s fun K hK => ?_ | refine dQ hT hm fun K hK => ?_ | refine dL hT hm fun K hK => ?_ | apply awp_block | apply awp_scope | apply awp_seq | (refine awp_cond _ rfl (fun h => ?_) (fun h => ?_) <;> simp only [bh2, reduceCtorEq] at h))
  all_goals first | exact ff | skip
  refine awp_conv _ (fun a w h => G.nilRow h 8 28 rfl (by decide) 3 1 (.ints .i64 []) rfl) ?_
  push_cast
  refine awp_loop (α := Nat) (fun k => ⟨[(0, .s 9000), (1, I64 t), (2, avCs cs), (3, .i false (fun e _ => .v (.int .i64 ((toI l).getD e 0))) 1 0 l.length), (8, .s 28), (15, .i false (fun e _ => .v (.int .i64 ((toI l).getD e 0))) 1 0 l.length), (16, I64 l.length), (17, I64 k)], [(28, .row 3 1 (.ints .i64 (wants cs (l.take k)))), (9000, .row 3 1 (.ints .i64 d))]⟩) (fun k => k ≤ l.length) (fun k => l.length - k) 0 (Nat.zero_le _) (G.wk ⟨rfl, rfl, rfl, rfl, rfl, rfl, rfl, rfl, trivial⟩ ⟨rfl, rfl, trivial⟩) fun k hk => ?_
  have hsl : (wants cs (l.take k)).length = k := by rw [wants_len, List.length_take]; omega
  by_cases hlt : k < l.length
  · have c1 : decide ((k : Int) < (l.length : Int)) = true := decide_eq_true (by omega)
    have hli := hl _ (nth_mem0 hlt)
    have hti := toI_getD hlt
    have hst := wants_take cs l k hlt
    have hok := okC_nth hcs hli
    repeat' (first | ((first | refine sC hT fun K' hK' => ?_ | refine oC fun K' hK' => ?_); push_cast [c1, hti]; (try simp (disch := omega) only [wrap64, Int.toNat_natCast]); (repeat refine and_rev ?_ ?_); (first | refine hK' _ ?_ | ((first | refine ⟨[(cs.getD (l.getD k 0) default).c], ⟨rfl, (fun j hj => rfl), by rw [hsl]; omega, by rw [hsl]; omega⟩, ?_⟩); refine hK' _ ?_) | refine ⟨.v (.int .i64 0), hK' _ ?_⟩); clear hK' K') | (refine sK hT ?_; simp only [St.put]) | ((first | refine aopss_nil (hK _ ?_) | refine aops_nil (hK _ ?_)); clear hK K; push_cast) | ((first | apply awp_label | apply awp_skip | apply awp_exit | apply awp_ret); push_cast) | refine awp_sseq fun K hK => ?_ | refine awp_s fun K hK => ?_ | refine dQ hT hm fun K hK => ?_ | refine dL hT hm fun K hK => ?_ | apply awp_block | apply awp_scope | apply awp_seq | (refine awp_cond _ rfl (fun h => ?_) (fun h => ?_) <;> simp only [bh2, reduceCtorEq] at h))
    all_goals first | exact ff | skip
    all_goals exact ⟨k + 1, ⟨by omega, by omega⟩, G.wk ⟨rfl, rfl, rfl, rfl, rfl, rfl, rfl, rfl, trivial⟩ ⟨by rw [hst]; rfl, rfl, trivial⟩⟩
  · obtain rfl : k = l.length := by omega
    have c1 : decide ((l.length : Int) < (l.length : Int)) = false := decide_eq_false (by omega)
    have e : wants cs (l.take l.length) = wants cs l := by rw [List.take_length]
    simp only [e]
    have hwl := wants_len cs l
    repeat' (first | ((first | refine sC hT fun K' hK' => ?_ | refine oC fun K' hK' => ?_); push_cast [c1]; (try simp (disch := omega) only [wrap64, Int.toNat_natCast]); (repeat refine and_rev ?_ ?_); (first | refine hK' _ ?_ | ((first | apply con1 | (apply con3; exact gd) | apply con2); (try intro hb); (first | exact hfair); exact okr; refine hK' _ ?_) | refine ⟨.v (.int .i64 0), hK' _ ?_⟩); clear hK' K') | (refine sK hT ?_; simp only [St.put]) | ((first | refine aopss_nil (hK _ ?_) | refine aops_nil (hK _ ?_)); clear hK K; push_cast) | ((first | apply awp_label | apply awp_skip | apply awp_exit | apply awp_ret); push_cast) | refine awp_sseq fun K hK => ?_ | refine awp_s fun K hK => ?_ | refine dQ hT hm fun K hK => ?_ | refine dL hT hm fun K hK => ?_ | apply awp_block | apply awp_scope | apply awp_seq | (refine awp_cond _ rfl (fun h => ?_) (fun h => ?_) <;> simp only [bh2, reduceCtorEq] at h))
    all_goals first | exact ff | skip
    refine awp_loop (α := Nat) (fun k => ⟨[(0, .s 9000), (11, intsF p), (36, .i false (fun e _ => .v (.int .i64 ((toI l).getD e 0))) 1 0 l.length), (37, I64 l.length), (38, I64 k)], [(9000, .row 3 1 (.ints .i64 (put d (l.take k) (p.take k))))]⟩) (fun k => k ≤ l.length) (fun k => l.length - k) 0 (Nat.zero_le _) (G.wk ⟨rfl, rfl, rfl, rfl, rfl, trivial⟩ ⟨rfl, trivial⟩) fun k hk => ?_
    have hput := put_len (l.take k) d (p.take k)
    by_cases hlt : k < l.length
    · have c1 : decide ((k : Int) < (l.length : Int)) = true := decide_eq_true (by omega)
      have hli := hl _ (nth_mem0 hlt)
      have hti := toI_getD hlt
      have hst := put_take (d := d) hpl.symm hlt
      repeat' (first | ((first | refine sC hT fun K' hK' => ?_ | refine oC fun K' hK' => ?_); push_cast [c1, hti]; (try simp (disch := omega) only [wrap64, Int.toNat_natCast]); (repeat refine and_rev ?_ ?_); (first | refine hK' _ ?_ | refine ⟨.v (.int .i64 0), hK' _ ?_⟩); clear hK' K') | (refine sK hT ?_; simp only [St.put]) | ((first | refine aopss_nil (hK _ ?_) | refine aops_nil (hK _ ?_)); clear hK K; push_cast) | ((first | apply awp_label | apply awp_skip | apply awp_exit | apply awp_ret); push_cast) | refine awp_sseq fun K hK => ?_ | refine awp_s fun K hK => ?_ | refine dQ hT hm fun K hK => ?_ | refine dL hT hm fun K hK => ?_ | apply awp_block | apply awp_scope | apply awp_seq | (refine awp_cond _ rfl (fun h => ?_) (fun h => ?_) <;> simp only [bh2, reduceCtorEq] at h))
      all_goals first | exact ff | skip
      all_goals exact ⟨k + 1, ⟨by omega, by omega⟩, G.wk ⟨rfl, rfl, rfl, rfl, rfl, trivial⟩ ⟨by rw [hst]; rfl, trivial⟩⟩
    · obtain rfl : k = l.length := by omega
      have c1 : decide ((l.length : Int) < (l.length : Int)) = false := decide_eq_false (by omega)
      have e2 : put d l p = put d (l.take l.length) (p.take l.length) := by rw [List.take_length, ← hpl, List.take_length]
      rw [e2]
      repeat' (first | ((first | refine sC hT fun K' hK' => ?_ | refine oC fun K' hK' => ?_); push_cast [c1]; (try simp (disch := omega) only [wrap64, Int.toNat_natCast]); (repeat refine and_rev ?_ ?_); (first | refine hK' _ ?_ | refine ⟨.v (.int .i64 0), hK' _ ?_⟩); clear hK' K') | (refine sK hT ?_; simp only [St.put]) | ((first | refine aopss_nil (hK _ ?_) | refine aops_nil (hK _ ?_)); clear hK K; push_cast) | ((first | apply awp_label | apply awp_skip | apply awp_exit | apply awp_ret); push_cast) | refine awp_sseq fun K hK => ?_ | refine awp_s fun K hK => ?_ | refine dQ hT hm fun K hK => ?_ | refine dL hT hm fun K hK => ?_ | apply awp_block | apply awp_scope | apply awp_seq | (refine awp_cond _ rfl (fun h => ?_) (fun h => ?_) <;> simp only [bh2, reduceCtorEq] at h))
      all_goals first | exact ff | skip
      all_goals (intro id blk h; first | exact h | (simp at h ⊢; trace_state; exact h))
end Go.Proofs.Ythgjjhddbigfcaa
