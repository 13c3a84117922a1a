/- What is proved: quorum.Majority answers more than half of n, and the least such number, for every int n (0 below 1). No conditions. -/
import Derived.Test.YtglmilgphbflaaaPQuorumMajorityx1
import Derived.OpenShut
namespace Go.Proofs.Ytglmilgphbflaaa.Pure
open Go.RowKit Go.Proofs.Ytglmilgphbflaaa.PQuorumMajority Go.Proofs.YtglmilgphbflaaaW.PrintWords Go.Proofs.YtglmilgphbflaaaW.PrintLast

theorem half_of (a : Int) (h : 1 ≤ a) : a.tdiv 2 = a / 2 := Int.tdiv_eq_ediv_of_nonneg (by omega)

theorem QuorumMajority : folkmootlaw05_QuorumMajority.Pure := by
  intro a0 hwf
  have hb : -9223372036854775808 ≤ a0 ∧ a0 ≤ 9223372036854775807 := bounds_i64 hwf
  unfold folkmootlaw05_QuorumMajority.f quorum_Majority.f folkmootref05_Majority.f folkmootref05_Enough.f
  by_cases h : a0 < 1
  · rw [if_pos h]
    simp only [Option.bind_some, if_pos h, if_true]
    rw [if_neg (by omega)]
    exact congrArg some (by decide +kernel)
  · have e : wrap64 (wrap64 (a0.tdiv 2) + 1) = a0 / 2 + 1 := by
      rw [half_of a0 (by omega)]; unfold wrap64; omega
    have e1 : wrap64 (a0 - (a0 / 2 + 1)) = a0 - (a0 / 2 + 1) := by unfold wrap64; omega
    have e2 : wrap64 (a0 / 2 + 1 - 1) = a0 / 2 := by unfold wrap64; omega
    have e3 : wrap64 (a0 - a0 / 2) = a0 - a0 / 2 := by unfold wrap64; omega
    rw [if_neg h, e]
    simp only [Option.bind_some, if_neg h, if_true, e1, e2, e3]
    rw [if_pos (decide_eq_true (by omega))]
    have : ¬ (a0 / 2 > a0 - a0 / 2) := by omega
    simp [this]

end Go.Proofs.Ytglmilgphbflaaa.Pure
