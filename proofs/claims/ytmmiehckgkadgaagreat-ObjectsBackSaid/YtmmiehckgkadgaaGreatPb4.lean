/- Own lemmas and walks (CW, CY), without what the law does not need. Laid by a program of this session (prune.py). -/
import Derived.Test.YtmmiehckgkadgaaGreatPr0
import Derived.Test.YtmmiehckgkadgaaGreatPr1
import Derived.Test.YtmmiehckgkadgaaGreatPr2
import Derived.Test.YtmmiehckgkadgaaGreatPr3
import Derived.Test.YtmmiehckgkadgaaGreatPr4
import Derived.Test.YtmmiehckgkadgaaGreatPr5
import Derived.Test.YtmmiehckgkadgaaGreatPr6
import Derived.Test.YtmmiehckgkadgaaGreatPr7
import Derived.Test.YtmmiehckgkadgaaGreatPr8
import Derived.Test.YtmmiehckgkadgaaGreatPr9
import Derived.Test.YtmmiehckgkadgaaGreatPr10
import Derived.Test.YtmmiehckgkadgaaGreatPr11
import Derived.Test.YtmmiehckgkadgaaGreatPr12
import Derived.Test.YtmmiehckgkadgaaGreatPr13
import Derived.Test.YtmmiehckgkadgaaGreatPr14
import Derived.Test.YtmmiehckgkadgaaGreatPr15
import Derived.Test.YtmmiehckgkadgaaGreatPr16
import Derived.Test.YtmmiehckgkadgaaGreatPr17
import Derived.Test.YtmmiehckgkadgaaGreatPr18
import Derived.Test.YtmmiehckgkadgaaGreatPr19
import Derived.Test.YtmmiehckgkadgaaGreatPr20
import Derived.Test.YtmmiehckgkadgaaGreatPr21
import Derived.Test.YtmmiehckgkadgaaGreatPr22
import Derived.Test.YtmmiehckgkadgaaGreatPr23
import Derived.Test.YtmmiehckgkadgaaGreatPr24
import Derived.Test.YtmmiehckgkadgaaGreatPr25
import Derived.Test.YtmmiehckgkadgaaGreatPr26
import Derived.Test.YtmmiehckgkadgaaGreatPr27
import Derived.Test.YtmmiehckgkadgaaGreatPr28
import Derived.Test.YtmmiehckgkadgaaGreatPr29
import Derived.Test.YtmmiehckgkadgaaGreatPr30
import Derived.Test.YtmmiehckgkadgaaGreatPr31
import Derived.Test.YtmmiehckgkadgaaGreatPb2
import Derived.Test.YtmmiehckgkadgaaGreatPb3
namespace Go.Proofs.YtmmiehckgkadgaaGreat.O
set_option linter.unusedVariables false
set_option linter.unusedSimpArgs false
open Go.RowKit Go.Proofs.YtmmiehckgkadgaaGreatW.PrintWords
theorem tch_bad {ss : List Sch} {ts : List Tab} {schema table : ByteArray} {md : Tab → Int × Tab} {k : Nat} {n : Int} (h : checkB ss ts = true) (hi : idx (isT schema table) ts = (k : Int)) (hk : k < ts.length) (hm : (md ts[k]).1 = n) (hn : n ≠ 0) : chg ss ts (tch ss ts schema table md) = (n, [], []) := by
  unfold chg tch; rw [if_pos h, hi, if_pos (show (0 : Int) ≤ (k : Int) by omega), Int.toNat_natCast, List.getD_eq_getElem?_getD, List.getElem?_eq_getElem hk]
  simp only [Option.getD_some, hm, hn, if_false]
theorem tch_good {ss : List Sch} {ts : List Tab} {schema table : ByteArray} {md : Tab → Int × Tab} {k : Nat} {t : Tab} (h : checkB ss ts = true) (hi : idx (isT schema table) ts = (k : Int)) (hk : k < ts.length) (hm : md ts[k] = (0, t)) : chg ss ts (tch ss ts schema table md) = (0, ss, ts.set k t) := by
  unfold chg tch; rw [if_pos h, hi, if_pos (show (0 : Int) ≤ (k : Int) by omega), Int.toNat_natCast, List.getD_eq_getElem?_getD, List.getElem?_eq_getElem hk]
  simp only [Option.getD_some, hm, if_true]
end Go.Proofs.YtmmiehckgkadgaaGreat.O
namespace Go.Proofs.YtmmiehckgkadgaaGreat.O
set_option linter.unusedVariables false
set_option linter.unusedSimpArgs false
open Go.RowKit Go.Proofs.YtmmiehckgkadgaaGreatW.PrintWords
theorem addColumn_B {ss : List Sch} {ts : List Tab} {schema table : ByteArray} {c : Col} (hs : ss.length ≤ 3000) (ht : TabsB ts) : (addColumn ss ts schema table c).2.1.length ≤ 3000 ∧ TabsB (addColumn ss ts schema table c).2.2 :=
  chg_B (tch_B hs ht fun t h => by
    unfold addColM
    split
    · split
      · exact h
      · split
        · exact h
        · exact ⟨by show (t.cols ++ [c]).length ≤ 3000; rw [List.length_append]; simp; omega, h.2⟩
    · exact h)
def tabZ : Tab := { tab1 with cols := [⟨sx, 2, false⟩, ⟨sy, 3, true⟩, ⟨⟨#[122]⟩, 2, true⟩] }
def tabY : Tab := { tab1 with cols := [⟨sx, 2, false⟩] }
theorem addColumn_one : addColumn [sch1] [tab1] ⟨#[115]⟩ ⟨#[116]⟩ ⟨⟨#[122]⟩, 2, true⟩ = (0, [sch1], [tabZ]) := by
  unfold addColumn
  rw [tch_good (k := 0) (t := tabZ) checkB_one one_at (by decide) (by
    show addColM ⟨⟨#[122]⟩, 2, true⟩ tab1 = (0, tabZ)
    unfold addColM
    rw [if_pos (by decide +kernel), if_neg (by decide +kernel), if_neg (by decide)]; rfl)]
  rfl
theorem dropColumn_one1 : dropColumn [sch1] [tab1] ⟨#[115]⟩ ⟨#[116]⟩ ⟨#[120]⟩ = (62, [], []) := by
  unfold dropColumn
  rw [tch_bad (k := 0) (n := 62) checkB_one one_at (by decide) (by
    show (dropColM ⟨#[120]⟩ tab1).1 = 62
    unfold dropColM
    rw [if_pos (by decide +kernel), if_pos (by decide +kernel)]) (by decide)]
theorem dropColumn_one2 : dropColumn [sch1] [tab1] ⟨#[115]⟩ ⟨#[116]⟩ ⟨#[121]⟩ = (0, [sch1], [tabY]) := by
  unfold dropColumn
  rw [tch_good (k := 0) (t := tabY) checkB_one one_at (by decide) (by
    show dropColM ⟨#[121]⟩ tab1 = (0, tabY)
    unfold dropColM
    rw [if_pos (by decide +kernel), if_neg (by decide +kernel), show idx (isC ⟨#[121]⟩) tab1.cols = ((1 : Nat) : Int) by decide +kernel]; rfl)]
  rfl
end Go.Proofs.YtmmiehckgkadgaaGreat.O
