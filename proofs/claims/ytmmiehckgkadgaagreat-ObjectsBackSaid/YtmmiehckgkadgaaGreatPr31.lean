/- Own lemmas and walks (DB), without what the law does not need. Laid by a program of this session (prune.py). -/
import Derived.Test.YtmmiehckgkadgaaGreatPr28
namespace Go.Proofs.YtmmiehckgkadgaaGreat.O
set_option linter.unusedVariables false
set_option linter.unusedSimpArgs false
open Go.RowKit Go.Proofs.YtmmiehckgkadgaaGreatW.PrintWords Go.WideShapes Go.ChangeShapes
set_option maxRecDepth 100000 in
theorem opened {α : Type} {t : TypeId} {fs : Array Field} {d : Kd α} {Z : α → Prop} (hs : Tryz.prog.underlying t = some (.struct fs)) (ho : Opn t d Z) {H : Type} {enc : TypeId × Value → H} {W : World} {base : Nat} {spare : Nat → Bool} {held : Bool} {r : Reach} {b0 : Nat} {v : Value} {y : DataW H} {p : List MemPlace}
    (hv : Value.okWide Tryz.prog W r b0 t v) (h : DataW.Trod enc Tryz.prog W base spare held t v y p) (hw : ∀ n ∈ DataW.weights Tryz.prog t y, n ≤ 140737488351232) : ∃ x cs, v = .agg cs ∧ d.K W x cs.toList ∧ Z x := by
  obtain ⟨cs, rfl, _⟩ := okWide_struct hs hv
  obtain ⟨fuel, hf⟩ := h
  obtain ⟨x, hx, hz⟩ := ho H enc W base spare held fuel cs.toList (y, p) hf hw
  exact ⟨x, cs, rfl, hx, hz⟩
def rulV (x : Rul) (c : Option Addr × Nat) : Value := .agg #[.string x.name, .int .i64 x.kind, .slice c.1 x.cols.length c.2, .int .i64 x.low, .int .i64 x.high, .string x.schema, .string x.table, .string x.key]
def RulIn (W : World) (x : Rul) (c : Option Addr × Nat) : Prop := RulF x ∧ Kd.string.C W c.1 x.cols.length x.cols
set_option maxRecDepth 100000 in
theorem open_Rul {H : Type} {enc : TypeId × Value → H} {W : World} {base : Nat} {spare : Nat → Bool} {held : Bool} {r : Reach} {b0 : Nat} {v : Value} {y : DataW H} {p : List MemPlace}
    (hv : Value.okWide Tryz.prog W r b0 29 v) (h : DataW.Trod enc Tryz.prog W base spare held 29 v y p) (hw : ∀ n ∈ DataW.weights Tryz.prog 29 y, n ≤ 140737488351232) : ∃ x c, v = rulV x c ∧ RulIn W x c := by
  obtain ⟨x, cs, rfl, hk, hz⟩ := opened Tryz.underlying29 opn_Rul hv h hw
  obtain ⟨A2, c2, e, _, hC⟩ := kRul_open hk
  refine ⟨x, (A2, c2), ?_, ⟨?_, ?_⟩, hC⟩
  · rw [show cs = #[.string x.name, .int .i64 x.kind, .slice A2 x.cols.length c2, .int .i64 x.low, .int .i64 x.high, .string x.schema, .string x.table, .string x.key] from Array.toList_inj.1 e]; rfl
  · have := hz.2.2.1.1; omega
  · exact ⟨by have := hz.2.2.2.2.2.1; omega, by have := hz.2.2.2.2.2.2.1; omega, by have := hz.2.2.2.2.2.2.2; omega⟩
def tabV (x : Tab) (c : Option Addr × Nat × Option Addr × Nat) : Value := .agg #[.string x.schema, .string x.name, .string x.owner, .slice c.1 x.cols.length c.2.1, .slice c.2.2.1 x.rules.length c.2.2.2]
def TabIn (W : World) (x : Tab) (c : Option Addr × Nat × Option Addr × Nat) : Prop := TabF x ∧ kCol.C W c.1 x.cols.length x.cols ∧ kRul.C W c.2.2.1 x.rules.length x.rules ∧ x.cols.length ≤ c.2.1 ∧ x.rules.length ≤ c.2.2.2
set_option maxRecDepth 100000 in
theorem open_Tab {H : Type} {enc : TypeId × Value → H} {W : World} {base : Nat} {spare : Nat → Bool} {held : Bool} {r : Reach} {b0 : Nat} {v : Value} {y : DataW H} {p : List MemPlace}
    (hv : Value.okWide Tryz.prog W r b0 50 v) (h : DataW.Trod enc Tryz.prog W base spare held 50 v y p) (hw : ∀ n ∈ DataW.weights Tryz.prog 50 y, n ≤ 140737488351232) : ∃ x c, v = tabV x c ∧ TabIn W x c := by
  obtain ⟨x, cs, rfl, hk, hz⟩ := opened Tryz.underlying50 opn_Tab hv h hw
  obtain ⟨A3, c3, A4, c4, e, l3, h3, l4, h4⟩ := kTab_open hk
  refine ⟨x, (A3, c3, A4, c4), ?_, ⟨?_, ?_, fun r hr => ?_⟩, h3, h4, l3, l4⟩
  · rw [show cs = #[.string x.schema, .string x.name, .string x.owner, .slice A3 x.cols.length c3, .slice A4 x.rules.length c4] from Array.toList_inj.1 e]; rfl
  · have h2 : x.cols.length * 32 ≤ 140737488351232 := hz.2.2.2.1.1; omega
  · have h2 : x.rules.length * 112 ≤ 140737488351232 := hz.2.2.2.2.1; omega
  · have y := hz.2.2.2.2.2 r hr
    have h2 : r.cols.length * 16 ≤ 140737488351232 := y.2.2.1.1
    exact ⟨by omega, by have := y.2.2.2.2.2.1; omega, by have := y.2.2.2.2.2.2.1; omega, by have := y.2.2.2.2.2.2.2; omega⟩
end Go.Proofs.YtmmiehckgkadgaaGreat.O
