/- Own lemmas and walks (CW, CY), without what the law does not need. Laid by a program of this session (prune.py). -/
import Derived.Test.YtmmiehckgkadgaaGreatPr13
import Derived.Test.YtmmiehckgkadgaaGreatPr28
namespace Go.Proofs.YtmmiehckgkadgaaGreat.O
set_option linter.unusedVariables false
set_option linter.unusedSimpArgs false
open Go.RowKit Go.Proofs.YtmmiehckgkadgaaGreatW.PrintWords
theorem Out.own {B : Nat} {w v1 w4 : World} {ss : List Sch} {ts : List Tab} {k z : Nat} {Bs : Option Addr} {ds g dt : Nat} {t : Tab} {e : Ending} {cs : Array Value} (hI : InDid B v1 ss ts k Bs ds g dt (0, t) e w4) (hv : Below w.heap.size w v1) (hB : w.heap.size ≤ B) (hz : w.heap.size ≤ z) (hZ : v1.heap[z]? = some (.cells cs 25 (0, 0))) :
    Out w (0, ss, ts.set k t) (.returned (.tuple #[.agg #[.slice Bs ss.length ds, .slice (some ⟨g, 0, none⟩) ts.length dt], .int .i64 0])) ((w4.setCell ⟨z, 0, none⟩ (.slice Bs ss.length ds)).setCell ⟨z, 1, none⟩ (.slice (some ⟨g, 0, none⟩) ts.length dt)) := by
  obtain ⟨_, hb, hO, hD⟩ := hI
  obtain ⟨h1, h2⟩ := hD rfl
  have hZ4 := hO _ _ hZ
  exact ⟨_, _, rfl, R_only (Kd.R_lower h1 hB) hZ4 (by decide) (set2_far _ _ _ _), R_only (Kd.R_lower (Kd.S_R h2) hB) hZ4 (by decide) (set2_far _ _ _ _), set2_below (hv.trans (hb.mono hB)) hz _ _⟩
end Go.Proofs.YtmmiehckgkadgaaGreat.O
namespace Go.Proofs.YtmmiehckgkadgaaGreat.O
set_option linter.unusedVariables false
set_option linter.unusedSimpArgs false
open Go.RowKit Go.Proofs.YtmmiehckgkadgaaGreatW.PrintWords
theorem dropColumn_B {ss : List Sch} {ts : List Tab} {schema table name : ByteArray} (hs : ss.length ≤ 3000) (ht : TabsB ts) : (dropColumn ss ts schema table name).2.1.length ≤ 3000 ∧ TabsB (dropColumn ss ts schema table name).2.2 :=
  chg_B (tch_B hs ht fun t h => by
    unfold dropColM
    split
    · split
      · exact h
      · exact ⟨Nat.le_trans (List.length_eraseIdx_le _ _) h.1, h.2⟩
    · exact h)
end Go.Proofs.YtmmiehckgkadgaaGreat.O
