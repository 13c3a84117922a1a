/-
  No cell of these rows narrows 'for every input' (looked for: loops, veiled, ifaces, maps, wideKeys, modest, calm, conditions, laid).
  DERIVED. THE GIVEN ROWS OF THIS SEAT. 3 by the template 'for every input the law returns true; each argument reads behind the call as it read before'; 0 by the template 'total and deterministic' (their statements: YtmmiehckgkadgaaGreatTotals.lean).
  GIVEN WITH THE SEED: the statements are not yours to turn. If you find one false, say at which input.
  Laid BY PROGRAM, IN A SANDBOX (cutbox-rows.mjs): the forced cells as the released guide's own fill.sh prints them over the translation d3659d9f396bc047… (all of the seat's roots in one cut). By AI agents, Wed Nov 11 2026. No macro, syntax, notation, axiom, sorry.
-/
import Derived.Test.YtmmiehckgkadgaaGreatChecked
import GoSem.Claim
import GoSem.ClaimJoined
import GoSem.ClaimMapViews
import Derived.JoinedTies
import Derived.KernelRfl
namespace Go.Proofs.YtmmiehckgkadgaaGreat
/- THE CELL 'sum', in the pinned program and in every row, IS THE sha256 OF THE DUMP (.gsa) THAT YtmmiehckgkadgaaGreatProg.lean LOADS. Nothing in Lean hashes anything: it is a label: what it is worth is what the hold of that sum in a sandbox is worth. -/
noncomputable def Tryz.pinned : Pinned := { name := "ytmmiehckgkadgaagreat", sum := "d3659d9f396bc047e8a5df9091f7307feabaf640d5687070264e24ba555d32d2", checked := Tryz.checked }
namespace Rows
def none {H : Type} : Left H := { results := [], args := [] }

/-- 'folkmootlaw07.ObjectsRules': WHATEVER THE INPUT: true; the input reads as it did. -/
def objectsRulesSpec : ChangeSpec := { name := "objectsRules", fn := fun _ => fun
  | [d1, d2, d3, d4] => { results := [.lit (.bool true)], args := [d1, d2, d3, d4] }
  | _ => none }
def objectsRulesRow : OpenClaim := { program := "ytmmiehckgkadgaagreat", sum := "d3659d9f396bc047e8a5df9091f7307feabaf640d5687070264e24ba555d32d2", func := "folkmoot/folkmootlaw07.ObjectsRules", spec := "objectsRules", inPlace := ["internal/bytealg.IndexByteString", "internal/bytealg.abigen_runtime_cmpstring"], unfollowed := true, recurses := true, apart := false }
def ObjectsRulesSaid : Prop := objectsRulesRow.holds Tryz.pinned (OpenSpec.ofChange objectsRulesSpec)

/-- ITS FALSE NEIGHBOUR: 'it returns false'. Refute it at one input. -/
def objectsRulesWrong : ChangeSpec := { name := "objectsRules", fn := fun _ => fun
  | [d1, d2, d3, d4] => { results := [.lit (.bool false)], args := [d1, d2, d3, d4] }
  | _ => none }
def ObjectsRulesWrongFalsely : Prop := objectsRulesRow.holds Tryz.pinned (OpenSpec.ofChange objectsRulesWrong)

/-- 'folkmootlaw07.ObjectsBack': WHATEVER THE INPUT: true; the input reads as it did. -/
def objectsBackSpec : ChangeSpec := { name := "objectsBack", fn := fun _ => fun
  | [d1, d2, d3, d4, d5] => { results := [.lit (.bool true)], args := [d1, d2, d3, d4, d5] }
  | _ => none }
def objectsBackRow : OpenClaim := { program := "ytmmiehckgkadgaagreat", sum := "d3659d9f396bc047e8a5df9091f7307feabaf640d5687070264e24ba555d32d2", func := "folkmoot/folkmootlaw07.ObjectsBack", spec := "objectsBack", inPlace := ["internal/bytealg.IndexByteString", "internal/bytealg.abigen_runtime_cmpstring"], unfollowed := true, recurses := true, apart := false }
def ObjectsBackSaid : Prop := objectsBackRow.holds Tryz.pinned (OpenSpec.ofChange objectsBackSpec)

/-- ITS FALSE NEIGHBOUR: 'it returns false'. Refute it at one input. -/
def objectsBackWrong : ChangeSpec := { name := "objectsBack", fn := fun _ => fun
  | [d1, d2, d3, d4, d5] => { results := [.lit (.bool false)], args := [d1, d2, d3, d4, d5] }
  | _ => none }
def ObjectsBackWrongFalsely : Prop := objectsBackRow.holds Tryz.pinned (OpenSpec.ofChange objectsBackWrong)

/-- 'folkmootlaw07.ObjectsRight': WHATEVER THE INPUT: true; the input reads as it did. -/
def objectsRightSpec : ChangeSpec := { name := "objectsRight", fn := fun _ => fun
  | [d1, d2, d3, d4, d5] => { results := [.lit (.bool true)], args := [d1, d2, d3, d4, d5] }
  | _ => none }
def objectsRightRow : OpenClaim := { program := "ytmmiehckgkadgaagreat", sum := "d3659d9f396bc047e8a5df9091f7307feabaf640d5687070264e24ba555d32d2", func := "folkmoot/folkmootlaw07.ObjectsRight", spec := "objectsRight", inPlace := ["internal/bytealg.abigen_runtime_cmpstring", "internal/bytealg.IndexByteString"], unfollowed := true, recurses := true, apart := false }
def ObjectsRightSaid : Prop := objectsRightRow.holds Tryz.pinned (OpenSpec.ofChange objectsRightSpec)

/-- ITS FALSE NEIGHBOUR: 'it returns false'. Refute it at one input. -/
def objectsRightWrong : ChangeSpec := { name := "objectsRight", fn := fun _ => fun
  | [d1, d2, d3, d4, d5] => { results := [.lit (.bool false)], args := [d1, d2, d3, d4, d5] }
  | _ => none }
def ObjectsRightWrongFalsely : Prop := objectsRightRow.holds Tryz.pinned (OpenSpec.ofChange objectsRightWrong)

/- THE SECOND FORM. 'bulk': how many values and letters a reading holds, each counted each time it is reached (what is shared counts as often as it is met; a slice's spare places count too). A statement '..UptoSaid' is the law's where the arguments, and the package variables that the reading takes, are together of bulk at most 1048576: NARROWER than '..Said'. Prove '..Said' where nothing that the law and all that it calls make is longer than what came in: it says more and counts as full. Else prove '..UptoSaid'. A law counts once. -/
mutual
def uptoBulk {H : Type} : DataW H → Nat
  | .lit (.string bytes) => bytes.length + 1
  | .lit _ => 1
  | .nil => 1
  | .ptr d => uptoBulk d + 1
  | .slice elems spare => uptoBulkAll elems + uptoBulkAll spare + 1
  | .agg parts => uptoBulkAll parts + 1
  | .iface _ d => uptoBulk d + 1
  | .map entries => uptoBulkEntries entries + 1
  | .held _ => 1
def uptoBulkAll {H : Type} : List (DataW H) → Nat
  | [] => 0
  | d :: r => uptoBulk d + uptoBulkAll r
def uptoBulkEntries {H : Type} : List (Lit × DataW H) → Nat
  | [] => 0
  | x :: r => uptoBulkEntry x + uptoBulkEntries r
def uptoBulkEntry {H : Type} : Lit × DataW H → Nat
  | (.string bytes, d) => bytes.length + uptoBulk d + 1
  | (_, d) => uptoBulk d + 1
 end
def uptoSmall : (H : Type) → List (DataW H) → Bool := fun _ ds => decide (uptoBulkAll ds ≤ 1048576)
def OpenSpec.upto (s : _root_.Go.ChangeSpec) : _root_.Go.OpenSpec := { _root_.Go.OpenSpec.ofChange s with cond := some uptoSmall }

/-- 'folkmootlaw07.ObjectsRules', WHERE WHAT IT READS IS OF BULK AT MOST 1048576: true; the input reads as it did. -/
def objectsRulesUptoRow : OpenClaim := { program := "ytmmiehckgkadgaagreat", sum := "d3659d9f396bc047e8a5df9091f7307feabaf640d5687070264e24ba555d32d2", func := "folkmoot/folkmootlaw07.ObjectsRules", spec := "objectsRules", inPlace := ["internal/bytealg.IndexByteString", "internal/bytealg.abigen_runtime_cmpstring"], unfollowed := true, recurses := true, apart := false, narrowed := true }
def ObjectsRulesUptoSaid : Prop := objectsRulesUptoRow.holds Tryz.pinned (OpenSpec.upto objectsRulesSpec)

/-- 'folkmootlaw07.ObjectsBack', WHERE WHAT IT READS IS OF BULK AT MOST 1048576: true; the input reads as it did. -/
def objectsBackUptoRow : OpenClaim := { program := "ytmmiehckgkadgaagreat", sum := "d3659d9f396bc047e8a5df9091f7307feabaf640d5687070264e24ba555d32d2", func := "folkmoot/folkmootlaw07.ObjectsBack", spec := "objectsBack", inPlace := ["internal/bytealg.IndexByteString", "internal/bytealg.abigen_runtime_cmpstring"], unfollowed := true, recurses := true, apart := false, narrowed := true }
def ObjectsBackUptoSaid : Prop := objectsBackUptoRow.holds Tryz.pinned (OpenSpec.upto objectsBackSpec)

/-- 'folkmootlaw07.ObjectsRight', WHERE WHAT IT READS IS OF BULK AT MOST 1048576: true; the input reads as it did. -/
def objectsRightUptoRow : OpenClaim := { program := "ytmmiehckgkadgaagreat", sum := "d3659d9f396bc047e8a5df9091f7307feabaf640d5687070264e24ba555d32d2", func := "folkmoot/folkmootlaw07.ObjectsRight", spec := "objectsRight", inPlace := ["internal/bytealg.abigen_runtime_cmpstring", "internal/bytealg.IndexByteString"], unfollowed := true, recurses := true, apart := false, narrowed := true }
def ObjectsRightUptoSaid : Prop := objectsRightUptoRow.holds Tryz.pinned (OpenSpec.upto objectsRightSpec)

end Rows
end Go.Proofs.YtmmiehckgkadgaaGreat
