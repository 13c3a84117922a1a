/- Plain words of the laws: a row without one of its elements, bounds of what comes out, the example. -/
import Derived.Test.YtmmiehckgkadgaaG3
import Derived.Test.YtmmiehckgkadgaaCO
namespace Go.Proofs.Ytmmiehckgkadgaa.O
set_option linter.unusedVariables false
set_option linter.unusedSimpArgs false
open Go.RowKit Go.Proofs.YtmmiehckgkadgaaW.PrintWords

theorem idx_any {α : Type} (p : α → Bool) (l : List α) : decide (0 ≤ idx p l) = l.any p := by
  unfold idx
  cases h : l.any p with
  | true => simp
  | false => simp
theorem erase_filter {α : Type} {p : α → Bool} : ∀ {l : List α} {k : Nat} (hk : k < l.length), p l[k] = true → (∀ j (hj : j < l.length), j ≠ k → p l[j] = false) → l.eraseIdx k = l.filter (fun x => !p x)
  | [], k, hk, _, _ => absurd hk (Nat.not_lt_zero k)
  | a :: l, 0, hk, hp, hn => by
    have hp' : p a = true := hp
    rw [List.filter_cons, hp']
    show l = _
    refine (List.filter_eq_self.2 fun x hx => ?_).symm
    obtain ⟨j, hj, rfl⟩ := List.getElem_of_mem hx
    have := hn (j + 1) (by simpa using hj) (by omega)
    rw [List.getElem_cons_succ] at this
    rw [this]; rfl
  | a :: l, k + 1, hk, hp, hn => by
    have ha : p a = false := hn 0 (by simp) (by omega)
    rw [List.filter_cons, ha]
    show a :: l.eraseIdx k = a :: _
    rw [erase_filter (l := l) (k := k) (by simpa using hk) (by simpa using hp) (fun j hj hne => by have := hn (j + 1) (by simpa using hj) (by omega); simpa using this)]
theorem tabsB_nil : TabsB [] := ⟨by decide, fun t h => by simp at h⟩
theorem chg_B {ss : List Sch} {ts : List Tab} {r : Res} (h : r.2.1.length ≤ 3000 ∧ TabsB r.2.2) : (chg ss ts r).2.1.length ≤ 3000 ∧ TabsB (chg ss ts r).2.2 := by
  unfold chg
  split
  · split
    · exact h
    · exact ⟨Nat.zero_le _, tabsB_nil⟩
  · exact ⟨Nat.zero_le _, tabsB_nil⟩
theorem tch_B {ss : List Sch} {ts : List Tab} {schema table : ByteArray} {md : Tab → Int × Tab} (hs : ss.length ≤ 3000) (ht : TabsB ts) (hm : ∀ t, TabB t → TabB (md t).2) : (tch ss ts schema table md).2.1.length ≤ 3000 ∧ TabsB (tch ss ts schema table md).2.2 := by
  unfold tch
  split
  · rename_i hi
    have hlt : (idx (isT schema table) ts).toNat < ts.length := by have := idx_lo (isT schema table) ts; omega
    refine ⟨hs, by rw [List.length_set]; exact ht.1, fun t h => ?_⟩
    rcases List.mem_or_eq_of_mem_set h with h | h
    · exact ht.2 t h
    · subst h
      rw [List.getD_eq_getElem?_getD, List.getElem?_eq_getElem hlt]
      exact hm _ (ht.2 _ (List.getElem_mem hlt))
  · exact ⟨Nat.zero_le _, tabsB_nil⟩
theorem tabsB_one : TabsB [tab1] := ⟨by decide, fun t ht => by
  obtain rfl : t = tab1 := by simpa using ht
  exact ⟨by decide, by decide, fun r hr => by obtain rfl : r = rul1 := by simpa [tab1] using hr
                                              show _ ≤ _
                                              decide⟩⟩
theorem checkB_one : checkB [sch1] [tab1] = true := by decide +kernel
theorem one_at : idx (isT ⟨#[115]⟩ ⟨#[116]⟩) [tab1] = ((0 : Nat) : Int) := by decide +kernel
end Go.Proofs.Ytmmiehckgkadgaa.O
