/- Part of a proof about the given program: contracts of its functions (see the comment of the last text). -/
import Derived.Test.YthgjjhddbigfcaaWfE
namespace Go.Proofs.Ythgjjhddbigfcaa
open Go.Eng Go.Proofs Go.Wf
set_option linter.unusedSimpArgs false
set_option linter.unusedVariables false
attribute [local irreducible] AOps AOpsX AOps2 AOpsS AWP AAnyS Go.Eng.Pure PureRow Eff
/-- Few pools, claims and grants. -/
def smF (ps : List Po) (cs : List Cl) (g : Gr) : Prop := (((ps.length ≤ 8 ∧ cs.length ≤ 70) ∧ g.c.length ≤ 80) ∧ g.fr.length ≤ 80) ∧ ∀ l ∈ g.fr, l.length ≤ 10
instance (ps : List Po) (cs : List Cl) (g : Gr) : Decidable (smF ps cs g) := by unfold smF; exact inferInstance
/-- Whether a claim can reach a pool outside of a cut. -/
def reachP (ps : List Po) (cut : List Bool) (c : Cl) (k : Nat) : Prop := cut.getD k false = false ∧ (c.f = true ∨ (ps.getD k default).f = false)
instance (ps : List Po) (cut : List Bool) (c : Cl) (k : Nat) : Decidable (reachP ps cut c k) := by unfold reachP; exact inferInstance
theorem vsum_ok (l : List Int) (h64 : l.length ≤ 64) (hd : bd maxC l) : Pure Try.prog 53 [ints l] (I64 (sumI l)) := by
  have hb : ∀ k, k ≤ l.length → 0 ≤ sumN (fun i => l.getD i 0) k ∧ sumN (fun i => l.getD i 0) k ≤ 1000000000000 * k := fun k hk => sumN_bound _ _ k fun i hi => hd i (by omega)
  refine pure_of (n := 17) (res := [.tmp 2]) hT Try.func53 rfl rfl rfl Try.ntmps53 (Nat.le_of_ble_eq_true rfl) fun B w0 => ?_
  repeat' (first | ((first | refine sC hT fun K' hK' => ?_ | refine oC fun K' hK' => ?_); push_cast; (try simp (disch := omega) only [wrap64, Int.toNat_natCast]); (repeat refine and_rev ?_ ?_); (first | refine hK' _ ?_ | refine ⟨.v (.int .i64 0), hK' _ ?_⟩); clear hK' K') | (refine sK hT ?_; simp only [St.put]) | ((first | refine aopss_nil (hK _ ?_) | refine aops_nil (hK _ ?_)); clear hK K; push_cast) | ((first | apply awp_label | apply awp_skip | apply awp_exit | apply awp_ret); push_cast) | refine awp_sseq fun K hK => ?_ | refine awp_s fun K hK => ?_ | refine dQ hT hm fun K hK => ?_ | refine dL hT hm fun K hK => ?_ | apply awp_block | apply awp_scope | apply awp_seq | (refine awp_cond _ rfl (fun h => ?_) (fun h => ?_) <;> simp only [bh2, reduceCtorEq] at h))
  all_goals first | exact ff | skip
  refine awp_loop (α := Nat) (fun k => ⟨[(3, I64 (sumN (fun i => l.getD i 0) k)), (6, ints l), (7, I64 l.length), (8, I64 k)], []⟩) (fun k => k ≤ l.length) (fun k => l.length - k) 0 (Nat.zero_le _) (G.wk ⟨rfl, rfl, rfl, rfl, trivial⟩ trivial) fun k hk => ?_
  have h1 := hb k hk
  by_cases hlt : k < l.length
  · have c1 : decide ((k : Int) < (l.length : Int)) = true := decide_eq_true (by omega)
    have hdk := hd k (by omega)
    simp only [maxC] at hdk
    repeat' (first | ((first | refine sC hT fun K' hK' => ?_ | refine oC fun K' hK' => ?_); push_cast [c1]; (try simp (disch := omega) only [wrap64, Int.toNat_natCast]); (repeat refine and_rev ?_ ?_); (first | refine hK' _ ?_ | refine ⟨.v (.int .i64 0), hK' _ ?_⟩); clear hK' K') | (refine sK hT ?_; simp only [St.put]) | ((first | refine aopss_nil (hK _ ?_) | refine aops_nil (hK _ ?_)); clear hK K; push_cast) | ((first | apply awp_label | apply awp_skip | apply awp_exit | apply awp_ret); push_cast) | refine awp_sseq fun K hK => ?_ | refine awp_s fun K hK => ?_ | refine dQ hT hm fun K hK => ?_ | refine dL hT hm fun K hK => ?_ | apply awp_block | apply awp_scope | apply awp_seq | (refine awp_cond _ rfl (fun h => ?_) (fun h => ?_) <;> simp only [bh2, reduceCtorEq] at h))
    all_goals first | exact ff | skip
    all_goals exact ⟨k + 1, ⟨by omega, by omega⟩, G.wk ⟨rfl, rfl, rfl, rfl, trivial⟩ trivial⟩
  · obtain rfl : k = l.length := by omega
    have c1 : decide ((l.length : Int) < (l.length : Int)) = false := decide_eq_false (by omega)
    unfold sumI
    repeat' (first | ((first | refine sC hT fun K' hK' => ?_ | refine oC fun K' hK' => ?_); push_cast [c1]; (try simp (disch := omega) only [wrap64, Int.toNat_natCast]); (repeat refine and_rev ?_ ?_); (first | refine hK' _ ?_ | refine ⟨.v (.int .i64 0), hK' _ ?_⟩); clear hK' K') | (refine sK hT ?_; simp only [St.put]) | ((first | refine aopss_nil (hK _ ?_) | refine aops_nil (hK _ ?_)); clear hK K; push_cast) | ((first | apply awp_label | apply awp_skip | apply awp_exit | apply awp_ret); push_cast) | refine awp_sseq fun K hK => ?_ | refine awp_s fun K hK => ?_ | refine dQ hT hm fun K hK => ?_ | refine dL hT hm fun K hK => ?_ | apply awp_block | apply awp_scope | apply awp_seq | (refine awp_cond _ rfl (fun h => ?_) (fun h => ?_) <;> simp only [bh2, reduceCtorEq] at h))
    all_goals first | exact ff | skip
    all_goals done
end Go.Proofs.Ythgjjhddbigfcaa
