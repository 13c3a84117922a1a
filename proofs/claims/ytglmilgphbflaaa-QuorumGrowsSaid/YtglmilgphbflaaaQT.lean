/- The library's sort at rows of ints under quorum's own order, by the shelf's contract: a permutation, falling. -/
import Derived.Test.YtglmilgphbflaaaQS
import Derived.Test.YtglmilgphbflaaaShelf
import Derived.Sort.OwnSortedInts
namespace Go.Proofs.Ytglmilgphbflaaa.Q
set_option linter.unusedVariables false
set_option linter.unusedSimpArgs false
open Go.Shelf Go.RowKit Go.Lib Go.Sort Go.Proofs.YtglmilgphbflaaaW.PrintWords Go.Proofs.YtglmilgphbflaaaW.PrintLast Go.Proofs.YtglmilgphbflaaaW.PrintMore

theorem cmpF_lt (x y : Int) : ltOf cmpF x y = decide (y < x) := by
  unfold ltOf cmpF
  by_cases h1 : y < x
  · simp [h1]
  · by_cases h2 : x < y <;> simp [h1, h2]
theorem swoF : SWO (ltOf cmpF) where
  irrefl x := by rw [cmpF_lt]; simp
  trans x y z h1 h2 := by rw [cmpF_lt] at *; simp at *; omega
  ntrans x y z h1 h2 := by rw [cmpF_lt] at *; simp at *; omega
theorem sortSaid : SortSaid := by
  intro base v l w h0 hl ho
  obtain ⟨g, c, rfl, hbg, hgw⟩ := own_shape ho h0
  rcases ho.2 with ⟨h', _⟩ | ⟨g', cap, cur, h', hb, hh, hn, hm, hs, ht⟩
  · simp at h'
  · simp only [Value.slice.injEq, Option.some.injEq, Addr.mk.injEq, and_true, true_and] at h'
    obtain ⟨rfl, rfl⟩ := h'
    rw [Nat.mul_one] at ht
    have hH : Holds (Value.int .i64) w g 0 l.toArray := holds_of_blockI hh ht
    have hcmp : CmpLays1 Try.prog 33 #[] (Value.int .i64) cmpF g 0 l.toArray.size w := fun m os dk hd x y => (falls1.calls x y _).mono fun _ _ ⟨he, q, hq⟩ => ⟨he, q, #[], by rw [hq, grow_empty]⟩
    have eg : ∀ args w, (callFunc 33 args).run Try.prog w = .ok (.enter 33 args) w := enters_of Try.func33 (by kernel_rfl) rfl
    have hcon := Any.slices_SortFunc Try.sortInt (Value.int .i64) (fun _ => rfl) cmpF swoF 33 #[] g 0 c l.toArray w eg hcmp hH hgw (by simp; omega)
    change Calls Try.prog 28 _ _ _ at hcon
    rw [List.size_toArray] at hcon
    refine hcon.mono ?_
    rintro e w' ⟨rfl, d', n, os, hp, hso, rfl⟩
    refine ⟨rfl, d'.toList, ?_, ?_, ?_, ?_⟩
    · have h := hp.2.2
      have h1 := hp.1
      simp only [List.size_toArray] at h1
      rw [← h1, Array.extract_size] at h
      have h2 : (l.toArray.extract 0 d'.size) = l.toArray := by rw [h1, ← List.size_toArray]; exact Array.extract_size
      rw [h2] at h
      simpa using h
    · rw [List.pairwise_iff_getElem]
      intro i j hi hj hij
      have h1 := hp.1
      simp only [List.size_toArray] at h1
      have h := hso i j (Nat.zero_le _) hij (by simp at hj; omega)
      rw [cmpF_lt, getElem!_pos d' j (by simpa using hj), getElem!_pos d' i (by simpa using hi)] at h
      simp at h ⊢
      exact h
    · have h1 := hp.1
      simp only [List.size_toArray] at h1
      exact ownsRow_sortedI (ts := d'.toList) (ss := l) (by simp [h1]) hb hh hn hm hs
    · exact grownBy_sortedI d'
end Go.Proofs.Ytglmilgphbflaaa.Q
