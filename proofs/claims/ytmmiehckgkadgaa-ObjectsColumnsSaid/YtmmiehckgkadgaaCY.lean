/- Columns: what is dropped is what the document drops; bounds of what comes out. -/
import Derived.Test.YtmmiehckgkadgaaCX
import Derived.Test.YtmmiehckgkadgaaCO
namespace Go.Proofs.Ytmmiehckgkadgaa.O
set_option linter.unusedVariables false
set_option linter.unusedSimpArgs false
open Go.RowKit Go.Proofs.YtmmiehckgkadgaaW.PrintWords

theorem idx_any {α : Type} (p : α → Bool) (l : List α) : decide (0 ≤ idx p l) = l.any p := by
  unfold idx
  cases h : l.any p with
  | true => simp
  | false => simp
theorem erase_filter {α : Type} {p : α → Bool} : ∀ {l : List α} {k : Nat} (hk : k < l.length), p l[k] = true → (∀ j (hj : j < l.length), j ≠ k → p l[j] = false) → l.eraseIdx k = l.filter (fun x => !p x)
  | [], k, hk, _, _ => absurd hk (Nat.not_lt_zero k)
  | a :: l, 0, hk, hp, hn => by
    have hp' : p a = true := hp
    rw [List.filter_cons, hp']
    show l = _
    refine (List.filter_eq_self.2 fun x hx => ?_).symm
    obtain ⟨j, hj, rfl⟩ := List.getElem_of_mem hx
    have := hn (j + 1) (by simpa using hj) (by omega)
    rw [List.getElem_cons_succ] at this
    rw [this]; rfl
  | a :: l, k + 1, hk, hp, hn => by
    have ha : p a = false := hn 0 (by simp) (by omega)
    rw [List.filter_cons, ha]
    show a :: l.eraseIdx k = a :: _
    rw [erase_filter (l := l) (k := k) (by simpa using hk) (by simpa using hp) (fun j hj hne => by have := hn (j + 1) (by simpa using hj) (by omega); simpa using this)]
theorem cols_of {ss : List Sch} {ts : List Tab} {k : Nat} (h : checkB ss ts = true) (hk : k < ts.length) : mayCols ts[k].cols = true := by
  unfold checkB at h
  simp only [Bool.and_eq_true] at h
  have h1 := allB_at h.2.2.2.2.2 hk
  simp only [List.getD_eq_getElem?_getD, List.getElem?_eq_getElem hk, Option.getD_some] at h1
  unfold rightT at h1
  simp only [Bool.and_eq_true] at h1
  exact h1.2.2.1
theorem cols_alone {l : List Col} {name : ByteArray} {k : Nat} (h : mayCols l = true) (hk : k < l.length) (hp : (l[k].name.toList == name.toList) = true) (j : Nat) (hj : j < l.length) (hne : j ≠ k) : (l[j].name.toList == name.toList) = false := by
  cases hq : (l[j].name.toList == name.toList) with
  | false => rfl
  | true =>
    exfalso
    unfold mayCols at h
    simp only [Bool.and_eq_true] at h
    have a1 := allB_at h.2.2 hk
    have a2 := allB_at h.2.2 hj
    unfold colAt at a1 a2
    simp only [List.getD_eq_getElem?_getD, List.getElem?_eq_getElem hk, List.getElem?_eq_getElem hj, Option.getD_some, Bool.and_eq_true, decide_eq_true_eq] at a1 a2
    rw [eq_of_beq hp] at a1
    rw [eq_of_beq hq] at a2
    have := a1.2.symm.trans a2.2
    omega
theorem dropColumn_eq (ss : List Sch) (ts : List Tab) (schema table name : ByteArray) : rDropColumn ss ts schema table name = dropColumn ss ts schema table name := by
  unfold rDropColumn dropColumn
  cases hc : checkB ss ts with
  | false => unfold chg; rw [hc]; rfl
  | true =>
    have hm : ∀ k (hk : k < ts.length), rDropColM name ts[k] = dropColM name ts[k] := by
      intro k hk
      unfold rDropColM dropColM
      have hu : ts[k].rules.any (usesR name) = decide (0 ≤ idx (usesB name) ts[k].rules) := by
        rw [idx_any]
        congr 1
        funext r
        unfold usesR usesB
        rw [idx_any]
        congr 1
        funext y
        exact Bool.beq_comm
      rw [hu, show decide (ts[k].cols.length = 1) = (ts[k].cols.length == 1) from rfl]
      by_cases hi : 0 ≤ idx (isC name) ts[k].cols
      · rw [if_pos hi, if_pos (show 0 ≤ idx (fun x : Col => x.name.toList == name.toList) ts[k].cols from hi)]
        split
        · rfl
        · obtain ⟨m, hm, e, y1, _⟩ | ⟨e, _⟩ := idx_cases (isC name) ts[k].cols
          · rw [e, Int.toNat_natCast, erase_filter hm y1 (fun j hj hne => cols_alone (cols_of hc hk) hm y1 j hj hne)]; rfl
          · omega
      · rw [if_neg hi, if_neg (show ¬ 0 ≤ idx (fun x : Col => x.name.toList == name.toList) ts[k].cols from hi)]
    unfold tch
    rcases idx_cases (isT schema table) ts with ⟨k, hk, e, _, _⟩ | ⟨e, _⟩
    · rw [e, Int.toNat_natCast, List.getD_eq_getElem?_getD, List.getElem?_eq_getElem hk, Option.getD_some, hm k hk]
    · rw [e]; rfl
theorem tabsB_nil : TabsB [] := ⟨by decide, fun t h => by simp at h⟩
theorem chg_B {ss : List Sch} {ts : List Tab} {r : Res} (h : r.2.1.length ≤ 3000 ∧ TabsB r.2.2) : (chg ss ts r).2.1.length ≤ 3000 ∧ TabsB (chg ss ts r).2.2 := by
  unfold chg
  split
  · split
    · exact h
    · exact ⟨Nat.zero_le _, tabsB_nil⟩
  · exact ⟨Nat.zero_le _, tabsB_nil⟩
theorem tch_B {ss : List Sch} {ts : List Tab} {schema table : ByteArray} {md : Tab → Int × Tab} (hs : ss.length ≤ 3000) (ht : TabsB ts) (hm : ∀ t, TabB t → TabB (md t).2) : (tch ss ts schema table md).2.1.length ≤ 3000 ∧ TabsB (tch ss ts schema table md).2.2 := by
  unfold tch
  split
  · rename_i hi
    have hlt : (idx (isT schema table) ts).toNat < ts.length := by have := idx_lo (isT schema table) ts; omega
    refine ⟨hs, by rw [List.length_set]; exact ht.1, fun t h => ?_⟩
    rcases List.mem_or_eq_of_mem_set h with h | h
    · exact ht.2 t h
    · subst h
      rw [List.getD_eq_getElem?_getD, List.getElem?_eq_getElem hlt]
      exact hm _ (ht.2 _ (List.getElem_mem hlt))
  · exact ⟨Nat.zero_le _, tabsB_nil⟩
theorem addColumn_B {ss : List Sch} {ts : List Tab} {schema table : ByteArray} {c : Col} (hs : ss.length ≤ 3000) (ht : TabsB ts) : (addColumn ss ts schema table c).2.1.length ≤ 3000 ∧ TabsB (addColumn ss ts schema table c).2.2 :=
  chg_B (tch_B hs ht fun t h => by
    unfold addColM
    split
    · split
      · exact h
      · split
        · exact h
        · exact ⟨by show (t.cols ++ [c]).length ≤ 3000; rw [List.length_append]; simp; omega, h.2⟩
    · exact h)
theorem dropColumn_B {ss : List Sch} {ts : List Tab} {schema table name : ByteArray} (hs : ss.length ≤ 3000) (ht : TabsB ts) : (dropColumn ss ts schema table name).2.1.length ≤ 3000 ∧ TabsB (dropColumn ss ts schema table name).2.2 :=
  chg_B (tch_B hs ht fun t h => by
    unfold dropColM
    split
    · split
      · exact h
      · exact ⟨Nat.le_trans (List.length_eraseIdx_le _ _) h.1, h.2⟩
    · exact h)
theorem tabsB_one : TabsB [tab1] := ⟨by decide, fun t ht => by
  obtain rfl : t = tab1 := by simpa using ht
  exact ⟨by decide, by decide, fun r hr => by obtain rfl : r = rul1 := by simpa [tab1] using hr
                                              show _ ≤ _
                                              decide⟩⟩
theorem checkB_one : checkB [sch1] [tab1] = true := by decide +kernel
theorem one_at : idx (isT ⟨#[115]⟩ ⟨#[116]⟩) [tab1] = ((0 : Nat) : Int) := by decide +kernel
def tabZ : Tab := { tab1 with cols := [⟨sx, 2, false⟩, ⟨sy, 3, true⟩, ⟨⟨#[122]⟩, 2, true⟩] }
def tabY : Tab := { tab1 with cols := [⟨sx, 2, false⟩] }
theorem addColumn_one : addColumn [sch1] [tab1] ⟨#[115]⟩ ⟨#[116]⟩ ⟨⟨#[122]⟩, 2, true⟩ = (0, [sch1], [tabZ]) := by
  unfold addColumn
  rw [tch_good (k := 0) (t := tabZ) checkB_one one_at (by decide) (by
    show addColM ⟨⟨#[122]⟩, 2, true⟩ tab1 = (0, tabZ)
    unfold addColM
    rw [if_pos (by decide +kernel), if_neg (by decide +kernel), if_neg (by decide)]; rfl)]
  rfl
theorem dropColumn_one1 : dropColumn [sch1] [tab1] ⟨#[115]⟩ ⟨#[116]⟩ ⟨#[120]⟩ = (62, [], []) := by
  unfold dropColumn
  rw [tch_bad (k := 0) (n := 62) checkB_one one_at (by decide) (by
    show (dropColM ⟨#[120]⟩ tab1).1 = 62
    unfold dropColM
    rw [if_pos (by decide +kernel), if_pos (by decide +kernel)]) (by decide)]
theorem dropColumn_one2 : dropColumn [sch1] [tab1] ⟨#[115]⟩ ⟨#[116]⟩ ⟨#[121]⟩ = (0, [sch1], [tabY]) := by
  unfold dropColumn
  rw [tch_good (k := 0) (t := tabY) checkB_one one_at (by decide) (by
    show dropColM ⟨#[121]⟩ tab1 = (0, tabY)
    unfold dropColM
    rw [if_pos (by decide +kernel), if_neg (by decide +kernel), show idx (isC ⟨#[121]⟩) tab1.cols = ((1 : Nat) : Int) by decide +kernel]; rfl)]
  rfl
end Go.Proofs.Ytmmiehckgkadgaa.O
