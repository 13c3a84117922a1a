/- The statement ObjectsNames' own walk. -/
import Derived.Test.YtmmiehckgkadgaaON
namespace Go.Proofs.Ytmmiehckgkadgaa.O
set_option linter.unusedVariables false
set_option linter.unusedSimpArgs false
open Go.RowKit Go.Proofs.YtmmiehckgkadgaaW.PrintWords

set_option maxHeartbeats 400000 in
theorem law_ObjectsNames.calls (s : ByteArray) (w : World) (_hs : s.size ≤ 140737488351232) : Calls Try.prog 3 #[.string s] w fun e w' => e = .returned (.bool true) ∧ Below w.heap.size w w' := by
  have H1 := Aside0.mk (Name.calls ⟨#[97, 95, 49]⟩ w)
  have H2 := Aside0.mk (Name.calls ⟨#[49, 97]⟩ w)
  have H3 := Aside0.mk (Name.calls s w)
  have H4 := Aside0.mk (rName.calls s w)
  rw [name_a_1] at H1
  rw [name_1a] at H2
  generalize nameB s = r at H3 H4
  go_enter Try.func3, Try.ntmps3
  go_wp2_with fail
  refine H1.out.mono ?_
  rintro e w' ⟨rfl, rfl⟩
  go_wp2_with fail
  refine H2.out.mono ?_
  rintro e w' ⟨rfl, rfl⟩
  go_wp2_with fail
  refine H3.out.mono ?_
  rintro e w' ⟨rfl, rfl⟩
  go_wp2_with fail
  refine H4.out.mono ?_
  rintro e w' ⟨rfl, rfl⟩
  go_wp2
  go_ret
  exact ⟨by simp, Below.refl _ _⟩
end Go.Proofs.Ytmmiehckgkadgaa.O
