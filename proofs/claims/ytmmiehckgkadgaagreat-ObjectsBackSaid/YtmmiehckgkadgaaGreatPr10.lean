/- Own lemmas and walks (SA), without what the law does not need. Laid by a program of this session (prune.py). -/
import Derived.Shelf.SlSortCmp.WholeK
import Derived.Test.YtmmiehckgkadgaaGreatPr9
namespace Go.Proofs.YtmmiehckgkadgaaGreat.O
set_option linter.unusedVariables false
set_option linter.unusedSimpArgs false
open Go.Sort
theorem cmp_lt : ∀ x y : List UInt8, Lib.compareBytes x y < 0 ↔ x < y
  | [], [] => by simp [Lib.compareBytes, List.lt_irrefl]
  | [], b :: bs => by simp [Lib.compareBytes, List.nil_lt_cons]
  | a :: av, [] => by simp [Lib.compareBytes, List.not_lt_nil]
  | a :: av, b :: bs => by
    unfold Lib.compareBytes
    rw [List.cons_lt_cons_iff, ← cmp_lt av bs]
    by_cases h1 : a < b
    · simp [h1]
    · rw [if_neg h1]
      by_cases h2 : b < a
      · rw [if_pos h2]
        have h3 : a ≠ b := fun e => by subst e; exact absurd h2 (UInt8.lt_irrefl _)
        simp [h1, h3]
      · rw [if_neg h2]
        have h3 : a = b := UInt8.le_antisymm (UInt8.not_lt.1 h2) (UInt8.not_lt.1 h1)
        simp [h1, h3]
theorem cmpS_lt (a b : ByteArray) : cmpS a b < 0 ↔ a.data.toList < b.data.toList := cmp_lt _ _
theorem cmpS_zero (a b : ByteArray) : cmpS a b = 0 ↔ a = b := by
  have h := eq_S a b
  constructor
  · intro e
    rw [e] at h
    have h1 : a.toList = b.toList := by simpa using h
    rw [Lib.toList_data, Lib.toList_data] at h1
    exact ByteArray.ext (Array.toList_inj.1 h1)
  · intro e
    subst e
    simpa using h.symm
theorem swo_key {α : Type} (key : α → ByteArray) : SWO (ltOf fun x y : α => cmpS (key x) (key y)) where
  irrefl x := by simp only [ltOf, decide_eq_false_iff_not, cmpS_lt]; exact List.lt_irrefl _
  trans x y z h1 h2 := by simp only [ltOf, decide_eq_true_eq, cmpS_lt] at *; exact List.lt_trans h1 h2
  ntrans x y z h1 h2 := by
    simp only [ltOf, decide_eq_false_iff_not, cmpS_lt, List.not_lt] at *
    exact List.le_trans h2 h1
def ins {α : Type} (lt : α → α → Bool) (x : α) : List α → List α
  | [] => [x]
  | a :: l => if lt x a = true then x :: a :: l else a :: ins lt x l
section
variable {α : Type} {lt : α → α → Bool} {x : α}
theorem ins_perm (x : α) : ∀ (l : List α), (ins lt x l).Perm (l ++ [x])
  | [] => List.Perm.refl _
  | a :: l => by
    unfold ins
    split
    · exact List.perm_append_comm (l₁ := [x]) (l₂ := a :: l)
    · exact (ins_perm x l).cons a
theorem ins_sorted (htr : ∀ a b c, lt a b = true → lt b c = true → lt a c = true) : ∀ {l : List α}, l.Pairwise (fun a b => lt a b = true) → (∀ a ∈ l, lt x a = true ∨ lt a x = true) → (ins lt x l).Pairwise (fun a b => lt a b = true)
  | [], _, _ => by simp [ins]
  | a :: l, h, hx => by
    have h' := List.pairwise_cons.1 h
    unfold ins
    by_cases ha : lt x a = true
    · rw [if_pos ha]
      refine List.pairwise_cons.2 ⟨fun b hb => ?_, h⟩
      rcases List.mem_cons.1 hb with e | hb
      · subst e; exact ha
      · exact htr _ _ _ ha (h'.1 b hb)
    · rw [if_neg ha]
      refine List.pairwise_cons.2 ⟨fun b hb => ?_, ins_sorted htr h'.2 (fun c hc => hx c (by simp [hc]))⟩
      rcases List.mem_append.1 ((ins_perm x l).mem_iff.1 hb) with hb | hb
      · exact h'.1 b hb
      · obtain rfl : b = x := by simpa using hb
        rcases hx a (by simp) with h1 | h1
        · exact absurd h1 ha
        · exact h1
end
theorem sorted_ins {α : Type} [Inhabited α] {cf : α → α → Int} (hS : SWO (ltOf cf)) {l : List α} {x : α} (hl : l.Pairwise (fun a b => ltOf cf a b = true)) (hx : ∀ a ∈ l, ltOf cf x a = true ∨ ltOf cf a x = true) {d d' : Array α} (hd : d.toList = l ++ [x]) (hP : PermIn 0 d.size d d') (hO : SortedIn (ltOf cf) 0 d.size d') :
    d'.toList = ins (ltOf cf) x l := by
  obtain ⟨hsz, _, hperm⟩ := hP
  have e1 : d'.extract 0 d.size = d' := by rw [← hsz]; exact Array.extract_size
  rw [e1, Array.extract_size, hd] at hperm
  have hi := ins_sorted (x := x) hS.trans hl hx
  have hpi := hperm.trans (ins_perm (lt := ltOf cf) x l).symm
  have hasym : ∀ a b, ltOf cf a b = true → ltOf cf b a = false := fun a b h => by
    cases h2 : ltOf cf b a with
    | false => rfl
    | true => have := hS.trans _ _ _ h h2; rw [hS.irrefl] at this; cases this
  refine List.Perm.eq_of_pairwise (le := fun a b => ltOf cf b a = false) ?_ ?_ (hi.imp fun h => hasym _ _ h) hpi
  · intro a b ha hb h1 h2
    have ha' := hpi.mem_iff.1 ha
    by_cases e : a = b
    · exact e
    · exfalso
      obtain ⟨i, hi', rfl⟩ := List.getElem_of_mem ha'
      obtain ⟨j, hj, rfl⟩ := List.getElem_of_mem hb
      rcases Nat.lt_trichotomy i j with h | h | h
      · have := List.pairwise_iff_getElem.1 hi i j hi' hj h; rw [h2] at this; cases this
      · subst h; exact e rfl
      · have := List.pairwise_iff_getElem.1 hi j i hj hi' h; rw [h1] at this; cases this
  · rw [List.pairwise_iff_getElem]
    intro i j hi' hj hij
    have hi2 : i < d'.size := by simpa using hi'
    have hj2 : j < d'.size := by simpa using hj
    have := hO i j (Nat.zero_le _) hij (by omega)
    rw [getElem!_pos d' j hj2, getElem!_pos d' i hi2] at this
    simpa using this
theorem rises_pairwise {α : Type} {cf : α → α → Int} (htr : ∀ a b c, ltOf cf a b = true → ltOf cf b c = true → ltOf cf a c = true) : ∀ {l : List α}, rises cf l = true → l.Pairwise (fun a b => ltOf cf a b = true)
  | [], _ => List.Pairwise.nil
  | [a], _ => by simp
  | a :: b :: l, h => by
    have h1 : (decide (cf a b < 0) && rises cf (b :: l)) = true := h
    rw [Bool.and_eq_true] at h1
    have hp := rises_pairwise htr h1.2
    refine List.pairwise_cons.2 ⟨fun c hc => ?_, hp⟩
    rcases List.mem_cons.1 hc with e | hc
    · subst e; exact h1.1
    · exact htr _ _ _ h1.1 ((List.pairwise_cons.1 hp).1 c hc)
end Go.Proofs.YtmmiehckgkadgaaGreat.O
