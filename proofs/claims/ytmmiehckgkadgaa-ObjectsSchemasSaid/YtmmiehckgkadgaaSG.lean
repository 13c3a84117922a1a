/- Schemas: what is dropped is what the document drops; bounds; the example. -/
import Derived.Test.YtmmiehckgkadgaaSF
import Derived.Test.YtmmiehckgkadgaaPL
namespace Go.Proofs.Ytmmiehckgkadgaa.O
set_option linter.unusedVariables false
set_option linter.unusedSimpArgs false
open Go.RowKit Go.Proofs.YtmmiehckgkadgaaW.PrintWords Go.Sort

theorem schs_alone {ss : List Sch} {ts : List Tab} {name : ByteArray} {k : Nat} (h : checkB ss ts = true) (hk : k < ss.length) (hp : (ss[k].name.toList == name.toList) = true) (j : Nat) (hj : j < ss.length) (hne : j ≠ k) : (ss[j].name.toList == name.toList) = false := by
  cases hq : (ss[j].name.toList == name.toList) with
  | false => rfl
  | true =>
    exfalso
    have hw := List.pairwise_iff_getElem.1 (schs_rise h)
    have e : (ss[j].name.toList == ss[k].name.toList) = true := by rw [eq_of_beq hp, eq_of_beq hq]; simp
    have e2 : (ss[k].name.toList == ss[j].name.toList) = true := by rw [eq_of_beq hp, eq_of_beq hq]; simp
    rw [eq_S, decide_eq_true_eq] at e e2
    rcases Nat.lt_or_gt_of_ne hne with hl | hl
    · have := of_decide_eq_true (hw j k hj hk hl)
      unfold cfS at this
      omega
    · have := of_decide_eq_true (hw k j hk hj hl)
      unfold cfS at this
      omega
theorem dropSchema_eq (ss : List Sch) (ts : List Tab) (name : ByteArray) : rDropSchema ss ts name = dropSchema ss ts name := by
  unfold rDropSchema dropSchema
  cases hc : checkB ss ts with
  | false => rw [chg_bad _ hc, chg_bad _ hc]
  | true =>
    congr 1
    unfold rDropSchR dropSchR
    rcases idx_cases (sameS name) ss with ⟨m, hm, e, y1, _⟩ | ⟨e, _⟩
    · rw [e, Int.toNat_natCast, erase_filter hm y1 (fun j hj hne => schs_alone hc hm y1 j hj hne)]; rfl
    · rw [e]; rfl
theorem addSchema_B {ss : List Sch} {ts : List Tab} {name owner : ByteArray} (hs : ss.length ≤ 3000) (ht : TabsB ts) : (addSchema ss ts name owner).2.1.length ≤ 3000 ∧ TabsB (addSchema ss ts name owner).2.2 :=
  chg_B (by
    unfold addSchR
    split
    · split
      · exact ⟨Nat.zero_le _, tabsB_nil⟩
      · split
        · exact ⟨Nat.zero_le _, tabsB_nil⟩
        · refine ⟨?_, ht⟩
          show (ins _ _ ss).length ≤ 3000
          rw [(ins_perm _ ss).length_eq, List.length_append]; simp; omega
    · exact ⟨Nat.zero_le _, tabsB_nil⟩)
theorem dropSchema_B {ss : List Sch} {ts : List Tab} {name : ByteArray} (hs : ss.length ≤ 3000) (ht : TabsB ts) : (dropSchema ss ts name).2.1.length ≤ 3000 ∧ TabsB (dropSchema ss ts name).2.2 :=
  chg_B (by
    unfold dropSchR
    split
    · split
      · exact ⟨Nat.zero_le _, tabsB_nil⟩
      · exact ⟨Nat.le_trans (List.length_eraseIdx_le _ _) hs, ht⟩
    · exact ⟨Nat.zero_le _, tabsB_nil⟩)
def schA : Sch := ⟨⟨#[97]⟩, ⟨#[111]⟩⟩
theorem addSchema_one : addSchema [sch1] [tab1] ⟨#[97]⟩ ⟨#[111]⟩ = (0, [schA, sch1], [tab1]) := by
  unfold addSchema
  refine chg_ok checkB_one ?_
  unfold addSchR
  rw [if_pos (by decide +kernel), if_neg (by decide +kernel), if_neg (by decide)]
  unfold ins
  rw [if_pos (by decide +kernel)]; rfl
theorem dropSchema_one : dropSchema [sch1] [tab1] ⟨#[115]⟩ = (62, [], []) := by
  unfold dropSchema
  refine chg_at checkB_one ?_
  unfold dropSchR
  rw [if_pos (by decide +kernel), if_pos (by decide +kernel)]
end Go.Proofs.Ytmmiehckgkadgaa.O
