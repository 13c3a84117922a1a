/- ObjectsColumns, at what comes in. -/
import Derived.Test.YtmmiehckgkadgaaDA
import Derived.Test.YtmmiehckgkadgaaDB
namespace Go.Proofs.Ytmmiehckgkadgaa.O
open Go.RowKit Go.Proofs.YtmmiehckgkadgaaW.PrintWords
theorem law_ObjectsColumns.deep (x : List Sch × List Tab) (c : Option Addr × Nat × Option Addr × Nat) (a1 a2 : ByteArray) (y : Col) (d : Unit) (w : World) (h : ObjIn w x c) (_ : a1.size ≤ 140737488351232) (_ : a2.size ≤ 140737488351232) (_ : y.name.size ≤ 140737488351232) : Calls Try.prog 6 #[objV x c, .string a1, .string a2, colV y d] w fun e w' => e = .returned (.bool true) ∧ Below w.heap.size w w' :=
  law_ObjectsColumns.calls x.1 x.2 a1 a2 y w h.1 (by have := h.2.1; omega) h.2.2.1 h.2.2.2.1
end Go.Proofs.Ytmmiehckgkadgaa.O
