/- Own lemmas and walks (WWords), without what the law does not need. Laid by a program of this session (prune.py). -/
import Derived.Below
import Derived.Deep.Draws
import Derived.Deep.AppendLies
import Derived.Maps.AppendAt
import Derived.OwnWalk
import Derived.Laws.BytesArg
import Derived.Laws.MakeOwn
import Derived.Laws.OwnMore
import Derived.Deep.OwnRows
import Derived.Tactics
import Derived.Lib.ConvBytes
import Derived.Laws.Slices
import Derived.WalkKit
import Derived.KernelRfl
import Derived.RowKit3
import Derived.Deep.LoopGhost
import Derived.Deep.QuietTactic
import Derived.BigQuiet
import Derived.WideLaws
import Derived.Deep.DeepCutAuto
import Derived.Deep.CutBlock
import Derived.Deep.RegionHeld3
import Derived.Laws.Rows
import Derived.Lib.AppendStr
import Derived.ArgAppend
import Derived.Laws.IdiomCopy
import Derived.RowKit
import Derived.Test.YtmmiehckgkadgaaGreatPr0
import Derived.Test.YtmmiehckgkadgaaGreatPr1
import Derived.Test.YtmmiehckgkadgaaGreatPr2
import Derived.Test.YtmmiehckgkadgaaGreatPr3
import Derived.Test.YtmmiehckgkadgaaGreatPr4
import Derived.Test.YtmmiehckgkadgaaGreatPr5
import Derived.Test.YtmmiehckgkadgaaGreatPr6
import Derived.Test.YtmmiehckgkadgaaGreatPr7
import Derived.Test.YtmmiehckgkadgaaGreatPr8
import Derived.Test.YtmmiehckgkadgaaGreatPr9
import Derived.Test.YtmmiehckgkadgaaGreatPr10
import Derived.Test.YtmmiehckgkadgaaGreatPr11
import Derived.Test.YtmmiehckgkadgaaGreatPr12
import Derived.Test.YtmmiehckgkadgaaGreatPr13
import Derived.Test.YtmmiehckgkadgaaGreatPr14
import Derived.Test.YtmmiehckgkadgaaGreatPr15
import Derived.Test.YtmmiehckgkadgaaGreatPr16
import Derived.Test.YtmmiehckgkadgaaGreatPr17
import Derived.Test.YtmmiehckgkadgaaGreatPr18
import Derived.Test.YtmmiehckgkadgaaGreatPr19
import Derived.Test.YtmmiehckgkadgaaGreatPr20
import Derived.Test.YtmmiehckgkadgaaGreatPr21
import Derived.Test.YtmmiehckgkadgaaGreatPr22
import Derived.Test.YtmmiehckgkadgaaGreatPr23
import Derived.Test.YtmmiehckgkadgaaGreatPr24
import Derived.Test.YtmmiehckgkadgaaGreatPr25
import Derived.Test.YtmmiehckgkadgaaGreatPr26
import Derived.Test.YtmmiehckgkadgaaGreatPr27
import Derived.Test.YtmmiehckgkadgaaGreatPr28
import Derived.Test.YtmmiehckgkadgaaGreatPr29
import Derived.Test.YtmmiehckgkadgaaGreatPr30
import Derived.Test.YtmmiehckgkadgaaGreatPr31
set_option linter.unusedVariables false
set_option linter.unusedSimpArgs false
namespace Go.Proofs.YtmmiehckgkadgaaGreatW.PrintWords
open Go.RowKit
namespace Kd
theorem reads_of_C {α : Type} {enc : α → Value} {d : α} {h1 : ∀ x, (enc x).oneCell' = true} {w : World} {A : Option Addr} {n : Nat} {xs : List α} (h : (scalar enc h1).C w A n xs) : ReadsOf enc d w A n xs := by
  refine ⟨h.1, h.2.1, fun hn => ?_⟩
  obtain ⟨ad, e, hc⟩ := h.2.2 hn
  refine ⟨ad, e, fun j hj => ?_⟩
  have hl : j < xs.length := by have := h.1; omega
  obtain ⟨c, _, hK, hcell⟩ := hc j _ (List.getElem?_eq_getElem hl)
  have hK' : c = [enc xs[j]] := hK
  subst hK'
  have := hcell 0 _ rfl
  simpa [scalar, List.getD_eq_getElem?_getD, List.getElem?_eq_getElem hl] using this
end Kd
namespace Kd
end Kd
namespace Kd
end Kd
namespace Kd
section
variable {w W : World} {A : Option Addr} {n : Nat}
theorem at_string {xs : List ByteArray} (h : Kd.string.C w A n xs) (i : Int) (h0 : 0 ≤ i) (h1 : i < n) : ∃ ad, A = some ad ∧ w.cell? (ad.add i.toNat) = some (.string (rdOf ByteArray.empty xs i)) :=
  ReadsOf.at_ (reads_of_C (enc := Value.string) (d := ByteArray.empty) (h1 := fun _ => rfl) h) i h0 h1
variable {α : Type} {enc : α → Value} {h1 : ∀ x, (enc x).oneCell' = true} {e base g cap : Nat} {ok : Nat → Prop} {xs : List α}
end
end Kd
namespace Kd
end Kd
namespace Kd
end Kd
namespace Kd
end Kd
namespace Kd
end Kd
namespace Kd
end Kd
namespace Kd
end Kd
namespace Kd
end Kd
namespace Kd
end Kd
namespace Kd
end Kd
namespace Kd
end Kd
namespace Kd
end Kd
section
variable {P : Program} {ops : Array Oper} {o : Oper} {a : Act} {Q : Exit → Act → World → Prop} {Kc : Act → World → Prop}
namespace Kd
variable {α : Type}
end Kd
end
namespace Kd
end Kd
end Go.Proofs.YtmmiehckgkadgaaGreatW.PrintWords
