/- Own lemmas and walks (DB, BB), without what the law does not need. Laid by a program of this session (prune.py). -/
import Derived.ChangeArms
import Derived.Deep.Slices
import Derived.SizedLaws
import Derived.Lib.SmallJoins
import Derived.Test.YtmmiehckgkadgaaGreatProg
import Derived.OpenShut
import Derived.OrdersHeld
import Derived.Deep.RegionHeld3
import Derived.Laws.BitsLemmas
import Derived.RowKit
import Derived.Laws.EntriesVeiled
import Derived.Deep.LoopGhost
import Derived.WalkLawsBesides
import Derived.Shelf.SlSortCmp.WholeK
import Derived.Shelf.SlSortCmp.NoneTotal
import Derived.Shelf.SlGeneric
import Derived.Shelf.Small.Strs
import Derived.Shelf.Strings.Search1
import Derived.Ground.SlsfProg
import Derived.Ground.NamesProg
import Derived.BigQuiet
import Derived.Test.YtmmiehckgkadgaaGreatPr0
import Derived.Test.YtmmiehckgkadgaaGreatPr1
import Derived.Test.YtmmiehckgkadgaaGreatPr2
import Derived.Test.YtmmiehckgkadgaaGreatPr3
import Derived.Test.YtmmiehckgkadgaaGreatPr4
import Derived.Test.YtmmiehckgkadgaaGreatPr5
import Derived.Test.YtmmiehckgkadgaaGreatPr6
import Derived.Test.YtmmiehckgkadgaaGreatPr7
import Derived.Test.YtmmiehckgkadgaaGreatPr8
import Derived.Test.YtmmiehckgkadgaaGreatPr9
import Derived.Test.YtmmiehckgkadgaaGreatPr10
import Derived.Test.YtmmiehckgkadgaaGreatPr11
import Derived.Test.YtmmiehckgkadgaaGreatPr12
import Derived.Test.YtmmiehckgkadgaaGreatPr13
import Derived.Test.YtmmiehckgkadgaaGreatPr14
import Derived.Test.YtmmiehckgkadgaaGreatPr15
import Derived.Test.YtmmiehckgkadgaaGreatPr16
import Derived.Test.YtmmiehckgkadgaaGreatPr17
import Derived.Test.YtmmiehckgkadgaaGreatPr18
import Derived.Test.YtmmiehckgkadgaaGreatPr19
import Derived.Test.YtmmiehckgkadgaaGreatPr20
import Derived.Test.YtmmiehckgkadgaaGreatPr21
import Derived.Test.YtmmiehckgkadgaaGreatPr22
import Derived.Test.YtmmiehckgkadgaaGreatPr23
import Derived.Test.YtmmiehckgkadgaaGreatPr24
import Derived.Test.YtmmiehckgkadgaaGreatPr25
import Derived.Test.YtmmiehckgkadgaaGreatPr26
import Derived.Test.YtmmiehckgkadgaaGreatPr27
import Derived.Test.YtmmiehckgkadgaaGreatPr28
import Derived.Test.YtmmiehckgkadgaaGreatPr29
import Derived.Test.YtmmiehckgkadgaaGreatPr30
import Derived.Test.YtmmiehckgkadgaaGreatPr31
import Derived.Test.YtmmiehckgkadgaaGreatPb0
import Derived.Test.YtmmiehckgkadgaaGreatPb5
import Derived.Test.YtmmiehckgkadgaaGreatPb6
import Derived.Test.YtmmiehckgkadgaaGreatPb7
namespace Go.Proofs.YtmmiehckgkadgaaGreat.O
set_option linter.unusedVariables false
set_option linter.unusedSimpArgs false
open Go.RowKit Go.Proofs.YtmmiehckgkadgaaGreatW.PrintWords Go.WideShapes Go.ChangeShapes
def colV (x : Col) (_ : Unit) : Value := .agg #[.string x.name, .int .i64 x.kind, .bool x.null]
set_option maxRecDepth 100000 in
theorem open_Col {H : Type} {enc : TypeId × Value → H} {W : World} {base : Nat} {spare : Nat → Bool} {held : Bool} {r : Reach} {b0 : Nat} {v : Value} {y : DataW H} {p : List MemPlace}
    (hv : Value.okWide Tryz.prog W r b0 41 v) (h : DataW.Trod enc Tryz.prog W base spare held 41 v y p) (hw : ∀ n ∈ DataW.weights Tryz.prog 41 y, n ≤ 140737488351232) : ∃ x c, v = colV x c ∧ x.name.size ≤ 140737488351232 := by
  obtain ⟨x, cs, rfl, hk, hz⟩ := opened Tryz.underlying41 opn_Col hv h hw
  have e := kCol_open hk
  exact ⟨x, (), by show Value.agg cs = _; rw [show cs = #[.string x.name, .int .i64 x.kind, .bool x.null] from Array.toList_inj.1 e]; rfl, hz.1⟩
end Go.Proofs.YtmmiehckgkadgaaGreat.O
namespace Go.Proofs.YtmmiehckgkadgaaGreat.O
set_option linter.unusedVariables false
set_option linter.unusedSimpArgs false
open Go.RowKit Go.Proofs.YtmmiehckgkadgaaGreatW.PrintWords
theorem addColumn_right {ss : List Sch} {ts : List Tab} {schema table : ByteArray} {c : Col} (h0 : (addColumn ss ts schema table c).1 = 0) : checkB (addColumn ss ts schema table c).2.1 (addColumn ss ts schema table c).2.2 = true := by
  refine chg_right (fun h h0 => tch_right (fun k hk e1 e2 h0 => ?_) h0) h0
  unfold addColM at h0 ⊢
  split at h0
  · rename_i h1
    rw [if_pos h1]
    split at h0
    · cases h0
    · rename_i h2
      rw [if_neg h2]
      split at h0
      · cases h0
      · rename_i h3
        rw [if_neg h3]
        rw [Bool.and_eq_true] at h1
        exact h.addCol hk h1.1 (by omega) (fun x hx => ne_of_beq (no_idx h2 x hx))
  · cases h0
theorem addColumn_F {ss : List Sch} {ts : List Tab} {schema table : ByteArray} {c : Col} (h : TabsF ts) : TabsF (addColumn ss ts schema table c).2.2 := chg_F (tch_F h fun t ht => by
  unfold addColM
  split
  · split
    · exact ht
    · split
      · exact ht
      · exact ⟨by show (t.cols ++ [c]).length ≤ _; have := ht.1; rw [List.length_append]; simp only [List.length_cons, List.length_nil]; omega, ht.2⟩
  · exact ht)
set_option maxRecDepth 20000 in
set_option maxHeartbeats 40000000 in
theorem law_ObjectsBack.calls {As At A2 : Option Addr} {cs ct c2 : Nat} (ss : List Sch) (ts : List Tab) (schema table : ByteArray) (c : Col) (r : Rul) (w : World) (hs : kSch.C w As ss.length ss) (hsl : ss.length ≤ 8796093022208) (ht : kTab.C w At ts.length ts) (hF : TabsF ts) (h2 : Kd.string.C w A2 r.cols.length r.cols) (hrF : RulF r) :
    Calls Tryz.prog 4 #[.agg #[.slice As ss.length cs, .slice At ts.length ct], .string schema, .string table, .agg #[.string c.name, .int .i64 c.kind, .bool c.null], .agg #[.string r.name, .int .i64 r.kind, .slice A2 r.cols.length c2, .int .i64 r.low, .int .i64 r.high, .string r.schema, .string r.table, .string r.key]] w fun e w' => e = .returned (.bool true) ∧ Below w.heap.size w w' := by
  have HX0 := Aside0.mk (boxes3 w (.cells #[Value.slice As ss.length cs, Value.slice At ts.length ct] 25) (.cells #[Value.string c.name, Value.int .i64 c.kind, Value.bool c.null] 41) (.cells #[Value.string r.name, Value.int .i64 r.kind, Value.slice A2 r.cols.length c2, Value.int .i64 r.low, Value.int .i64 r.high, Value.string r.schema, Value.string r.table, Value.string r.key] 29))
  have HLG := Aside0.mk (fun W (hW : Below w.heap.size w W) => large.calls (As := As) (cs := cs) (At := At) (ct := ct) ss ts W hsl (Kd.C_below ht hW) hF)
  have HO0 := Aside0.mk (OF.of_C hs ht)
  have HFF := Aside0.mk hF
  have HH := Aside0.mk h2
  have HRFF := Aside0.mk hrF
  clear hs ht hF hsl h2 hrF
  go_enter Tryz.func4, Tryz.ntmps4
  have c_o0 : (((w.alloc (.cells #[Value.slice As ss.length cs, Value.slice At ts.length ct] 25)).alloc (.cells #[Value.string c.name, Value.int .i64 c.kind, Value.bool c.null] 41)).alloc (.cells #[Value.string r.name, Value.int .i64 r.kind, Value.slice A2 r.cols.length c2, Value.int .i64 r.low, Value.int .i64 r.high, Value.string r.schema, Value.string r.table, Value.string r.key] 29)).cell? ⟨w.heap.size, 0, none⟩ = some (Value.slice As ss.length cs) := (blk_cell HX0.out.2.1 0).trans rfl
  have f_o0 := blk_frozen HX0.out.2.1 0
  have c_o1 : (((w.alloc (.cells #[Value.slice As ss.length cs, Value.slice At ts.length ct] 25)).alloc (.cells #[Value.string c.name, Value.int .i64 c.kind, Value.bool c.null] 41)).alloc (.cells #[Value.string r.name, Value.int .i64 r.kind, Value.slice A2 r.cols.length c2, Value.int .i64 r.low, Value.int .i64 r.high, Value.string r.schema, Value.string r.table, Value.string r.key] 29)).cell? ⟨w.heap.size, 1, none⟩ = some (Value.slice At ts.length ct) := (blk_cell HX0.out.2.1 1).trans rfl
  have f_o1 := blk_frozen HX0.out.2.1 1
  go_wp2_with fail
  clear c_o0 f_o0 c_o1 f_o1
  refine (HLG.out _ HX0.out.1).mono ?_
  rintro e w1 ⟨b, rfl, hObj, hb1⟩
  have HB1 := Aside0.mk (below_step (HX0.out.1) hb1)
  have HK1 := Aside0.mk (blk_below (HX0.out.2.1) hb1)
  have HK2 := Aside0.mk (blk_below (HX0.out.2.2.1) hb1)
  have HK3 := Aside0.mk (blk_below (HX0.out.2.2.2) hb1)
  have HT4 := Aside0.mk (((OF.below HO0.out HX0.out.1)).below hb1)
  have HS1 := Aside0.mk hb1
  clear hb1
  cases b with
  | true =>
    go_wp2
    go_ret
    exact ⟨rfl, HB1.out⟩
  | false =>
  have hSm := hObj rfl
  have HTB := Aside0.mk (tabsB_of hSm)
  have hsl3 : ss.length ≤ 3000 := hSm.1
  clear hObj hSm HLG
  have c_r0 : w1.cell? ⟨w.heap.size + 1 + 1, 0, none⟩ = some (Value.string r.name) := (blk_cell HK3.out 0).trans rfl
  have f_r0 := blk_frozen HK3.out 0
  have c_r1 : w1.cell? ⟨w.heap.size + 1 + 1, 1, none⟩ = some (Value.int .i64 r.kind) := (blk_cell HK3.out 1).trans rfl
  have f_r1 := blk_frozen HK3.out 1
  have c_r2 : w1.cell? ⟨w.heap.size + 1 + 1, 2, none⟩ = some (Value.slice A2 r.cols.length c2) := (blk_cell HK3.out 2).trans rfl
  have f_r2 := blk_frozen HK3.out 2
  have c_r3 : w1.cell? ⟨w.heap.size + 1 + 1, 3, none⟩ = some (Value.int .i64 r.low) := (blk_cell HK3.out 3).trans rfl
  have f_r3 := blk_frozen HK3.out 3
  have c_r4 : w1.cell? ⟨w.heap.size + 1 + 1, 4, none⟩ = some (Value.int .i64 r.high) := (blk_cell HK3.out 4).trans rfl
  have f_r4 := blk_frozen HK3.out 4
  have c_r5 : w1.cell? ⟨w.heap.size + 1 + 1, 5, none⟩ = some (Value.string r.schema) := (blk_cell HK3.out 5).trans rfl
  have f_r5 := blk_frozen HK3.out 5
  have c_r6 : w1.cell? ⟨w.heap.size + 1 + 1, 6, none⟩ = some (Value.string r.table) := (blk_cell HK3.out 6).trans rfl
  have f_r6 := blk_frozen HK3.out 6
  have c_r7 : w1.cell? ⟨w.heap.size + 1 + 1, 7, none⟩ = some (Value.string r.key) := (blk_cell HK3.out 7).trans rfl
  have f_r7 := blk_frozen HK3.out 7
  by_cases q3 : r.cols.length ≤ 3000
  rotate_left
  · have d3 : decide ((3000 : Int) < (r.cols.length : Int)) = true := decide_eq_true (by omega)
    have e3 : decide (3000 < r.cols.length) = true := decide_eq_true (by omega)
    clear q3
    go_wp2
    go_ret
    exact ⟨rfl, HB1.out⟩
  have d3 : decide ((3000 : Int) < (r.cols.length : Int)) = false := decide_eq_false (by omega)
  have e3 : decide (3000 < r.cols.length) = false := decide_eq_false (by omega)
  have HQ3 := Aside0.mk q3
  clear q3
  obtain ⟨ra, hra⟩ : ∃ r_, r_ = addColumn ss ts schema table c := ⟨_, rfl⟩
  have HRAB := Aside0.mk (addColumn_B (schema := schema) (table := table) (c := c) hsl3 HTB.out)
  have HRAF := Aside0.mk (addColumn_F (ss := ss) (schema := schema) (table := table) (c := c) HFF.out)
  have HRAR := Aside0.mk (fun (h0 : (addColumn ss ts schema table c).1 = 0) => column_back h0 (addColumn_right h0))
  rw [← hra] at HRAB HRAF HRAR
  have HRA := Aside0.mk hra
  clear hra
  have c_o0 : w1.cell? ⟨w.heap.size, 0, none⟩ = some (Value.slice As ss.length cs) := (blk_cell HK1.out 0).trans rfl
  have f_o0 := blk_frozen HK1.out 0
  have c_o1 : w1.cell? ⟨w.heap.size, 1, none⟩ = some (Value.slice At ts.length ct) := (blk_cell HK1.out 1).trans rfl
  have f_o1 := blk_frozen HK1.out 1
  have c_c0 : w1.cell? ⟨w.heap.size + 1, 0, none⟩ = some (Value.string c.name) := (blk_cell HK2.out 0).trans rfl
  have f_c0 := blk_frozen HK2.out 0
  have c_c1 : w1.cell? ⟨w.heap.size + 1, 1, none⟩ = some (Value.int .i64 c.kind) := (blk_cell HK2.out 1).trans rfl
  have f_c1 := blk_frozen HK2.out 1
  have c_c2 : w1.cell? ⟨w.heap.size + 1, 2, none⟩ = some (Value.bool c.null) := (blk_cell HK2.out 2).trans rfl
  have f_c2 := blk_frozen HK2.out 2
  go_wp2_with fail
  clear c_r0 f_r0 c_r1 f_r1 c_r2 f_r2 c_r3 f_r3 c_r4 f_r4 c_r5 f_r5 c_r6 f_r6 c_r7 f_r7 c_o0 f_o0 c_o1 f_o1 c_c0 f_c0 c_c1 f_c1 c_c2 f_c2
  refine (calls_made (AddColumn.calls (cs := cs) (ct := ct) ss ts schema table c w1 (Kd.F_now HT4.out.1) hsl3 (Kd.F_now HT4.out.2) HFF.out HTB.out)).mono ?_
  rw [← HRA.out]
  rintro e w2 ⟨Eas, Easd, Eat, Eatd, rfl, hx, hb2⟩
  have HB2 := Aside0.mk (below_step (HB1.out) hb2)
  have HK5 := Aside0.mk (blk_below (HK1.out) hb2)
  have HK6 := Aside0.mk (blk_below (HK2.out) hb2)
  have HK7 := Aside0.mk (blk_below (HK3.out) hb2)
  have HT8 := Aside0.mk ((HT4.out).below hb2)
  have HM2 := Aside0.mk hx
  clear hx hb2
  clear d3 e3
  obtain ⟨rb, hrb⟩ : ∃ r_, r_ = addRule ss ts schema table r := ⟨_, rfl⟩
  have HRBB := Aside0.mk (addRule_B (schema := schema) (table := table) hsl3 HTB.out HQ3.out)
  have HRBF := Aside0.mk (addRule_F (ss := ss) (schema := schema) (table := table) HFF.out HRFF.out)
  have HRBR := Aside0.mk (fun (h0 : (addRule ss ts schema table r).1 = 0) => rule_back h0 (addRule_right h0))
  rw [← hrb] at HRBB HRBF HRBR
  have HRB := Aside0.mk hrb
  clear hrb
  have c_o0 : w2.cell? ⟨w.heap.size, 0, none⟩ = some (Value.slice As ss.length cs) := (blk_cell HK5.out 0).trans rfl
  have f_o0 := blk_frozen HK5.out 0
  have a_o0 : ∀ o, (w2.alloc o).cell? ⟨w.heap.size, 0, none⟩ = some (Value.slice As ss.length cs) := fun o => (blk_cell (blk_alloc HK5.out o) 0).trans rfl
  have c_o1 : w2.cell? ⟨w.heap.size, 1, none⟩ = some (Value.slice At ts.length ct) := (blk_cell HK5.out 1).trans rfl
  have f_o1 := blk_frozen HK5.out 1
  have a_o1 : ∀ o, (w2.alloc o).cell? ⟨w.heap.size, 1, none⟩ = some (Value.slice At ts.length ct) := fun o => (blk_cell (blk_alloc HK5.out o) 1).trans rfl
  have c_r0 : w2.cell? ⟨w.heap.size + 1 + 1, 0, none⟩ = some (Value.string r.name) := (blk_cell HK7.out 0).trans rfl
  have f_r0 := blk_frozen HK7.out 0
  have a_r0 : ∀ o, (w2.alloc o).cell? ⟨w.heap.size + 1 + 1, 0, none⟩ = some (Value.string r.name) := fun o => (blk_cell (blk_alloc HK7.out o) 0).trans rfl
  have c_r1 : w2.cell? ⟨w.heap.size + 1 + 1, 1, none⟩ = some (Value.int .i64 r.kind) := (blk_cell HK7.out 1).trans rfl
  have f_r1 := blk_frozen HK7.out 1
  have a_r1 : ∀ o, (w2.alloc o).cell? ⟨w.heap.size + 1 + 1, 1, none⟩ = some (Value.int .i64 r.kind) := fun o => (blk_cell (blk_alloc HK7.out o) 1).trans rfl
  have c_r2 : w2.cell? ⟨w.heap.size + 1 + 1, 2, none⟩ = some (Value.slice A2 r.cols.length c2) := (blk_cell HK7.out 2).trans rfl
  have f_r2 := blk_frozen HK7.out 2
  have a_r2 : ∀ o, (w2.alloc o).cell? ⟨w.heap.size + 1 + 1, 2, none⟩ = some (Value.slice A2 r.cols.length c2) := fun o => (blk_cell (blk_alloc HK7.out o) 2).trans rfl
  have c_r3 : w2.cell? ⟨w.heap.size + 1 + 1, 3, none⟩ = some (Value.int .i64 r.low) := (blk_cell HK7.out 3).trans rfl
  have f_r3 := blk_frozen HK7.out 3
  have a_r3 : ∀ o, (w2.alloc o).cell? ⟨w.heap.size + 1 + 1, 3, none⟩ = some (Value.int .i64 r.low) := fun o => (blk_cell (blk_alloc HK7.out o) 3).trans rfl
  have c_r4 : w2.cell? ⟨w.heap.size + 1 + 1, 4, none⟩ = some (Value.int .i64 r.high) := (blk_cell HK7.out 4).trans rfl
  have f_r4 := blk_frozen HK7.out 4
  have a_r4 : ∀ o, (w2.alloc o).cell? ⟨w.heap.size + 1 + 1, 4, none⟩ = some (Value.int .i64 r.high) := fun o => (blk_cell (blk_alloc HK7.out o) 4).trans rfl
  have c_r5 : w2.cell? ⟨w.heap.size + 1 + 1, 5, none⟩ = some (Value.string r.schema) := (blk_cell HK7.out 5).trans rfl
  have f_r5 := blk_frozen HK7.out 5
  have a_r5 : ∀ o, (w2.alloc o).cell? ⟨w.heap.size + 1 + 1, 5, none⟩ = some (Value.string r.schema) := fun o => (blk_cell (blk_alloc HK7.out o) 5).trans rfl
  have c_r6 : w2.cell? ⟨w.heap.size + 1 + 1, 6, none⟩ = some (Value.string r.table) := (blk_cell HK7.out 6).trans rfl
  have f_r6 := blk_frozen HK7.out 6
  have a_r6 : ∀ o, (w2.alloc o).cell? ⟨w.heap.size + 1 + 1, 6, none⟩ = some (Value.string r.table) := fun o => (blk_cell (blk_alloc HK7.out o) 6).trans rfl
  have c_r7 : w2.cell? ⟨w.heap.size + 1 + 1, 7, none⟩ = some (Value.string r.key) := (blk_cell HK7.out 7).trans rfl
  have f_r7 := blk_frozen HK7.out 7
  have a_r7 : ∀ o, (w2.alloc o).cell? ⟨w.heap.size + 1 + 1, 7, none⟩ = some (Value.string r.key) := fun o => (blk_cell (blk_alloc HK7.out o) 7).trans rfl
  go_wp2_with fail
  clear c_o0 f_o0 a_o0 c_o1 f_o1 a_o1 c_r0 f_r0 a_r0 c_r1 f_r1 a_r1 c_r2 f_r2 a_r2 c_r3 f_r3 a_r3 c_r4 f_r4 a_r4 c_r5 f_r5 a_r5 c_r6 f_r6 a_r6 c_r7 f_r7 a_r7
  obtain ⟨v1, he1⟩ : ∃ W, W = (w2.alloc (.cells #[Value.slice Eas ra.2.1.length Easd, Value.slice Eat ra.2.2.length Eatd] 25)) := ⟨_, rfl⟩
  have hb_ : Below w2.heap.size w2 v1 := by rw [he1]; exact below_alloc (Below.refl _ _) _
  have HZ1 := Aside0.mk (show v1.heap.size = w2.heap.size + 1 by rw [he1]; simp)
  have HN1 := Aside0.mk (show v1.heap[w2.heap.size]? = some (.cells #[Value.slice Eas ra.2.1.length Easd, Value.slice Eat ra.2.2.length Eatd] 25 (0, 0)) by rw [he1]; exact blk_new _ _)
  have HV1 := Aside0.mk (below_step (HB2.out) hb_)
  have HK9 := Aside0.mk (blk_below (HK5.out) hb_)
  have HK10 := Aside0.mk (blk_below (HK6.out) hb_)
  have HK11 := Aside0.mk (blk_below (HK7.out) hb_)
  have HT12 := Aside0.mk ((HT8.out).below hb_)
  have HT13 := Aside0.mk ((HM2.out).below hb_)
  rw [← he1]
  clear he1
  refine (calls_made (AddRule.calls (cs := cs) (ct := ct) (c2 := c2) ss ts schema table r v1 (Kd.F_now HT12.out.1) hsl3 (Kd.F_now HT12.out.2) HFF.out HTB.out (Kd.C_below HH.out HV1.out) HRFF.out HQ3.out)).mono ?_
  rw [← HRB.out]
  rintro e w3 ⟨Ebs, Ebsd, Ebt, Ebtd, rfl, hx, hb3⟩
  have HB3 := Aside0.mk (below_step (HV1.out) hb3)
  have HK14 := Aside0.mk (blk_below (HK9.out) hb3)
  have HK15 := Aside0.mk (blk_below (HK10.out) hb3)
  have HK16 := Aside0.mk (blk_below (HK11.out) hb3)
  have HK17 := Aside0.mk (blk_below (HN1.out) hb3)
  have HT18 := Aside0.mk ((HT12.out).below hb3)
  have HT19 := Aside0.mk ((HT13.out).below hb3)
  have HM3 := Aside0.mk hx
  clear hx hb3
  obtain ⟨rc, hrc⟩ : ∃ r_, r_ = addSchema ss ts schema table := ⟨_, rfl⟩
  have HRCB := Aside0.mk (addSchema_B (name := schema) (owner := table) hsl3 HTB.out)
  have HRCF := Aside0.mk (addSchema_F (ss := ss) (name := schema) (owner := table) HFF.out)
  have HRCR := Aside0.mk (fun (h0 : (addSchema ss ts schema table).1 = 0) => schema_back h0 (addSchema_right h0))
  rw [← hrc] at HRCB HRCF HRCR
  have HRC := Aside0.mk hrc
  clear hrc
  have c_o0 : w3.cell? ⟨w.heap.size, 0, none⟩ = some (Value.slice As ss.length cs) := (blk_cell HK14.out 0).trans rfl
  have f_o0 := blk_frozen HK14.out 0
  have a_o0 : ∀ o, (w3.alloc o).cell? ⟨w.heap.size, 0, none⟩ = some (Value.slice As ss.length cs) := fun o => (blk_cell (blk_alloc HK14.out o) 0).trans rfl
  have c_o1 : w3.cell? ⟨w.heap.size, 1, none⟩ = some (Value.slice At ts.length ct) := (blk_cell HK14.out 1).trans rfl
  have f_o1 := blk_frozen HK14.out 1
  have a_o1 : ∀ o, (w3.alloc o).cell? ⟨w.heap.size, 1, none⟩ = some (Value.slice At ts.length ct) := fun o => (blk_cell (blk_alloc HK14.out o) 1).trans rfl
  go_wp2_with fail
  clear c_o0 f_o0 a_o0 c_o1 f_o1 a_o1
  obtain ⟨v2, he2⟩ : ∃ W, W = (w3.alloc (.cells #[Value.slice Ebs rb.2.1.length Ebsd, Value.slice Ebt rb.2.2.length Ebtd] 25)) := ⟨_, rfl⟩
  have hb_ : Below w3.heap.size w3 v2 := by rw [he2]; exact below_alloc (Below.refl _ _) _
  have HZ2 := Aside0.mk (show v2.heap.size = w3.heap.size + 1 by rw [he2]; simp)
  have HN2 := Aside0.mk (show v2.heap[w3.heap.size]? = some (.cells #[Value.slice Ebs rb.2.1.length Ebsd, Value.slice Ebt rb.2.2.length Ebtd] 25 (0, 0)) by rw [he2]; exact blk_new _ _)
  have HV2 := Aside0.mk (below_step (HB3.out) hb_)
  have HK20 := Aside0.mk (blk_below (HK14.out) hb_)
  have HK21 := Aside0.mk (blk_below (HK15.out) hb_)
  have HK22 := Aside0.mk (blk_below (HK16.out) hb_)
  have HK23 := Aside0.mk (blk_below (HK17.out) hb_)
  have HT24 := Aside0.mk ((HT18.out).below hb_)
  have HT25 := Aside0.mk ((HT19.out).below hb_)
  have HT26 := Aside0.mk ((HM3.out).below hb_)
  rw [← he2]
  clear he2
  refine (calls_made (AddSchema.calls (cs := cs) (ct := ct) ss ts schema table v2 (Kd.F_now HT24.out.1) hsl3 (Kd.F_now HT24.out.2) HFF.out HTB.out)).mono ?_
  rw [← HRC.out]
  rintro e w4 ⟨Ecs, Ecsd, Ect, Ectd, rfl, hx, hb4⟩
  have HB4 := Aside0.mk (below_step (HV2.out) hb4)
  have HK27 := Aside0.mk (blk_below (HK20.out) hb4)
  have HK28 := Aside0.mk (blk_below (HK21.out) hb4)
  have HK29 := Aside0.mk (blk_below (HK22.out) hb4)
  have HK30 := Aside0.mk (blk_below (HK23.out) hb4)
  have HK31 := Aside0.mk (blk_below (HN2.out) hb4)
  have HT32 := Aside0.mk ((HT24.out).below hb4)
  have HT33 := Aside0.mk ((HT25.out).below hb4)
  have HT34 := Aside0.mk ((HT26.out).below hb4)
  have HM4 := Aside0.mk hx
  clear hx hb4
  by_cases zra : ra.1 = 0
  case pos =>
    have nra : (ra.1 == 0) = true := by rw [zra]; rfl
    have HZRA := Aside0.mk zra
    clear zra
    have c_c0 : w4.cell? ⟨w.heap.size + 1, 0, none⟩ = some (Value.string c.name) := (blk_cell HK28.out 0).trans rfl
    have f_c0 := blk_frozen HK28.out 0
    have a_c0 : ∀ o, (w4.alloc o).cell? ⟨w.heap.size + 1, 0, none⟩ = some (Value.string c.name) := fun o => (blk_cell (blk_alloc HK28.out o) 0).trans rfl
    have c_c1 : w4.cell? ⟨w.heap.size + 1, 1, none⟩ = some (Value.int .i64 c.kind) := (blk_cell HK28.out 1).trans rfl
    have f_c1 := blk_frozen HK28.out 1
    have a_c1 : ∀ o, (w4.alloc o).cell? ⟨w.heap.size + 1, 1, none⟩ = some (Value.int .i64 c.kind) := fun o => (blk_cell (blk_alloc HK28.out o) 1).trans rfl
    have c_c2 : w4.cell? ⟨w.heap.size + 1, 2, none⟩ = some (Value.bool c.null) := (blk_cell HK28.out 2).trans rfl
    have f_c2 := blk_frozen HK28.out 2
    have a_c2 : ∀ o, (w4.alloc o).cell? ⟨w.heap.size + 1, 2, none⟩ = some (Value.bool c.null) := fun o => (blk_cell (blk_alloc HK28.out o) 2).trans rfl
    have c_xa0 : w4.cell? ⟨w2.heap.size, 0, none⟩ = some (Value.slice Eas ra.2.1.length Easd) := (blk_cell HK30.out 0).trans rfl
    have f_xa0 := blk_frozen HK30.out 0
    have a_xa0 : ∀ o, (w4.alloc o).cell? ⟨w2.heap.size, 0, none⟩ = some (Value.slice Eas ra.2.1.length Easd) := fun o => (blk_cell (blk_alloc HK30.out o) 0).trans rfl
    have c_xa1 : w4.cell? ⟨w2.heap.size, 1, none⟩ = some (Value.slice Eat ra.2.2.length Eatd) := (blk_cell HK30.out 1).trans rfl
    have f_xa1 := blk_frozen HK30.out 1
    have a_xa1 : ∀ o, (w4.alloc o).cell? ⟨w2.heap.size, 1, none⟩ = some (Value.slice Eat ra.2.2.length Eatd) := fun o => (blk_cell (blk_alloc HK30.out o) 1).trans rfl
    go_wp2_with fail
    clear c_c0 f_c0 a_c0 c_c1 f_c1 a_c1 c_c2 f_c2 a_c2 c_xa0 f_xa0 a_xa0 c_xa1 f_xa1 a_xa1
    obtain ⟨v3, he3⟩ : ∃ W, W = (w4.alloc (.cells #[Value.slice Ecs rc.2.1.length Ecsd, Value.slice Ect rc.2.2.length Ectd] 25)) := ⟨_, rfl⟩
    have hb_ : Below w4.heap.size w4 v3 := by rw [he3]; exact below_alloc (Below.refl _ _) _
    have HZ3 := Aside0.mk (show v3.heap.size = w4.heap.size + 1 by rw [he3]; simp)
    have HN3 := Aside0.mk (show v3.heap[w4.heap.size]? = some (.cells #[Value.slice Ecs rc.2.1.length Ecsd, Value.slice Ect rc.2.2.length Ectd] 25 (0, 0)) by rw [he3]; exact blk_new _ _)
    have HV3 := Aside0.mk (below_step (HB4.out) hb_)
    have HK35 := Aside0.mk (blk_below (HK27.out) hb_)
    have HK36 := Aside0.mk (blk_below (HK28.out) hb_)
    have HK37 := Aside0.mk (blk_below (HK29.out) hb_)
    have HK38 := Aside0.mk (blk_below (HK30.out) hb_)
    have HK39 := Aside0.mk (blk_below (HK31.out) hb_)
    have HT40 := Aside0.mk ((HT32.out).below hb_)
    have HT41 := Aside0.mk ((HT33.out).below hb_)
    have HT42 := Aside0.mk ((HT34.out).below hb_)
    have HT43 := Aside0.mk ((HM4.out).below hb_)
    rw [← he3]
    clear he3
    refine (calls_made (DropColumn.calls (cs := Easd) (ct := Eatd) ra.2.1 ra.2.2 schema table c.name v3 (Kd.R_reads' HT41.out.1).2.2 HRAB.out.1 (Kd.R_reads' HT41.out.2).2.2 HRAF.out HRAB.out.2)).mono ?_
    rw [show dropColumn ra.2.1 ra.2.2 schema table c.name = (0, ss, ts) from HRAR.out HZRA.out]
    rintro e w5 ⟨Das, Dasd, Dat, Datd, rfl, hx, hb5⟩
    have HB5 := Aside0.mk (below_step (HV3.out) hb5)
    have HK44 := Aside0.mk (blk_below (HK35.out) hb5)
    have HK45 := Aside0.mk (blk_below (HK36.out) hb5)
    have HK46 := Aside0.mk (blk_below (HK37.out) hb5)
    have HK47 := Aside0.mk (blk_below (HK38.out) hb5)
    have HK48 := Aside0.mk (blk_below (HK39.out) hb5)
    have HK49 := Aside0.mk (blk_below (HN3.out) hb5)
    have HT50 := Aside0.mk ((HT40.out).below hb5)
    have HT51 := Aside0.mk ((HT41.out).below hb5)
    have HT52 := Aside0.mk ((HT42.out).below hb5)
    have HT53 := Aside0.mk ((HT43.out).below hb5)
    have HM5 := Aside0.mk hx
    clear hx hb5
    have c_o0 : w5.cell? ⟨w.heap.size, 0, none⟩ = some (Value.slice As ss.length cs) := (blk_cell HK44.out 0).trans rfl
    have f_o0 := blk_frozen HK44.out 0
    have a_o0 : ∀ o, (w5.alloc o).cell? ⟨w.heap.size, 0, none⟩ = some (Value.slice As ss.length cs) := fun o => (blk_cell (blk_alloc HK44.out o) 0).trans rfl
    have c_o1 : w5.cell? ⟨w.heap.size, 1, none⟩ = some (Value.slice At ts.length ct) := (blk_cell HK44.out 1).trans rfl
    have f_o1 := blk_frozen HK44.out 1
    have a_o1 : ∀ o, (w5.alloc o).cell? ⟨w.heap.size, 1, none⟩ = some (Value.slice At ts.length ct) := fun o => (blk_cell (blk_alloc HK44.out o) 1).trans rfl
    go_wp2_with fail
    clear c_o0 f_o0 a_o0 c_o1 f_o1 a_o1
    obtain ⟨v4, he4⟩ : ∃ W, W = (w5.alloc (.cells #[Value.slice Das ss.length Dasd, Value.slice Dat ts.length Datd] 25)) := ⟨_, rfl⟩
    have hb_ : Below w5.heap.size w5 v4 := by rw [he4]; exact below_alloc (Below.refl _ _) _
    have HZ4 := Aside0.mk (show v4.heap.size = w5.heap.size + 1 by rw [he4]; simp)
    have HN4 := Aside0.mk (show v4.heap[w5.heap.size]? = some (.cells #[Value.slice Das ss.length Dasd, Value.slice Dat ts.length Datd] 25 (0, 0)) by rw [he4]; exact blk_new _ _)
    have HV4 := Aside0.mk (below_step (HB5.out) hb_)
    have HK54 := Aside0.mk (blk_below (HK44.out) hb_)
    have HK55 := Aside0.mk (blk_below (HK45.out) hb_)
    have HK56 := Aside0.mk (blk_below (HK46.out) hb_)
    have HK57 := Aside0.mk (blk_below (HK47.out) hb_)
    have HK58 := Aside0.mk (blk_below (HK48.out) hb_)
    have HK59 := Aside0.mk (blk_below (HK49.out) hb_)
    have HT60 := Aside0.mk ((HT50.out).below hb_)
    have HT61 := Aside0.mk ((HT51.out).below hb_)
    have HT62 := Aside0.mk ((HT52.out).below hb_)
    have HT63 := Aside0.mk ((HT53.out).below hb_)
    have HT64 := Aside0.mk ((HM5.out).below hb_)
    rw [← he4]
    clear he4
    refine (rSame.calls (As := Das) (cs := Dasd) (At := Dat) (ct := Datd) (Bs := As) (ds := cs) (Bt := At) (dt := ct) ss ts v4 (Kd.R_reads' HT64.out.1).2.2 (Kd.R_reads' HT64.out.2).2.2 (Kd.F_now HT60.out.1) (Kd.F_now HT60.out.2) hsl3 HTB.out).mono ?_
    rintro e w6 ⟨rfl, hb6⟩
    have HB6 := Aside0.mk (below_step (HV4.out) hb6)
    have HK65 := Aside0.mk (blk_below (HK54.out) hb6)
    have HK66 := Aside0.mk (blk_below (HK55.out) hb6)
    have HK67 := Aside0.mk (blk_below (HK56.out) hb6)
    have HK68 := Aside0.mk (blk_below (HK57.out) hb6)
    have HK69 := Aside0.mk (blk_below (HK58.out) hb6)
    have HK70 := Aside0.mk (blk_below (HK59.out) hb6)
    have HK71 := Aside0.mk (blk_below (HN4.out) hb6)
    have HT72 := Aside0.mk ((HT60.out).below hb6)
    have HT73 := Aside0.mk ((HT61.out).below hb6)
    have HT74 := Aside0.mk ((HT62.out).below hb6)
    have HT75 := Aside0.mk ((HT63.out).below hb6)
    have HT76 := Aside0.mk ((HT64.out).below hb6)
    have HS6 := Aside0.mk hb6
    clear hb6
    by_cases zrb : rb.1 = 0
    case pos =>
      have nrb : (rb.1 == 0) = true := by rw [zrb]; rfl
      have HZRB := Aside0.mk zrb
      clear zrb
      have c_r0 : w6.cell? ⟨w.heap.size + 1 + 1, 0, none⟩ = some (Value.string r.name) := (blk_cell HK67.out 0).trans rfl
      have f_r0 := blk_frozen HK67.out 0
      have c_r1 : w6.cell? ⟨w.heap.size + 1 + 1, 1, none⟩ = some (Value.int .i64 r.kind) := (blk_cell HK67.out 1).trans rfl
      have f_r1 := blk_frozen HK67.out 1
      have c_r2 : w6.cell? ⟨w.heap.size + 1 + 1, 2, none⟩ = some (Value.slice A2 r.cols.length c2) := (blk_cell HK67.out 2).trans rfl
      have f_r2 := blk_frozen HK67.out 2
      have c_r3 : w6.cell? ⟨w.heap.size + 1 + 1, 3, none⟩ = some (Value.int .i64 r.low) := (blk_cell HK67.out 3).trans rfl
      have f_r3 := blk_frozen HK67.out 3
      have c_r4 : w6.cell? ⟨w.heap.size + 1 + 1, 4, none⟩ = some (Value.int .i64 r.high) := (blk_cell HK67.out 4).trans rfl
      have f_r4 := blk_frozen HK67.out 4
      have c_r5 : w6.cell? ⟨w.heap.size + 1 + 1, 5, none⟩ = some (Value.string r.schema) := (blk_cell HK67.out 5).trans rfl
      have f_r5 := blk_frozen HK67.out 5
      have c_r6 : w6.cell? ⟨w.heap.size + 1 + 1, 6, none⟩ = some (Value.string r.table) := (blk_cell HK67.out 6).trans rfl
      have f_r6 := blk_frozen HK67.out 6
      have c_r7 : w6.cell? ⟨w.heap.size + 1 + 1, 7, none⟩ = some (Value.string r.key) := (blk_cell HK67.out 7).trans rfl
      have f_r7 := blk_frozen HK67.out 7
      have c_xb0 : w6.cell? ⟨w3.heap.size, 0, none⟩ = some (Value.slice Ebs rb.2.1.length Ebsd) := (blk_cell HK69.out 0).trans rfl
      have f_xb0 := blk_frozen HK69.out 0
      have c_xb1 : w6.cell? ⟨w3.heap.size, 1, none⟩ = some (Value.slice Ebt rb.2.2.length Ebtd) := (blk_cell HK69.out 1).trans rfl
      have f_xb1 := blk_frozen HK69.out 1
      go_wp2_with fail
      clear c_r0 f_r0 c_r1 f_r1 c_r2 f_r2 c_r3 f_r3 c_r4 f_r4 c_r5 f_r5 c_r6 f_r6 c_r7 f_r7 c_xb0 f_xb0 c_xb1 f_xb1
      refine (calls_made (DropRule.calls (cs := Ebsd) (ct := Ebtd) rb.2.1 rb.2.2 schema table r.name w6 (Kd.R_reads' HT74.out.1).2.2 HRBB.out.1 (Kd.R_reads' HT74.out.2).2.2 HRBF.out HRBB.out.2)).mono ?_
      rw [show dropRule rb.2.1 rb.2.2 schema table r.name = (0, ss, ts) from HRBR.out HZRB.out]
      rintro e w7 ⟨Dbs, Dbsd, Dbt, Dbtd, rfl, hx, hb7⟩
      have HB7 := Aside0.mk (below_step (HB6.out) hb7)
      have HK77 := Aside0.mk (blk_below (HK65.out) hb7)
      have HK78 := Aside0.mk (blk_below (HK66.out) hb7)
      have HK79 := Aside0.mk (blk_below (HK67.out) hb7)
      have HK80 := Aside0.mk (blk_below (HK69.out) hb7)
      have HK81 := Aside0.mk (blk_below (HK70.out) hb7)
      have HT82 := Aside0.mk ((HT72.out).below hb7)
      have HT83 := Aside0.mk ((HT74.out).below hb7)
      have HT84 := Aside0.mk ((HT75.out).below hb7)
      have HM7 := Aside0.mk hx
      clear hx hb7
      have c_o0 : w7.cell? ⟨w.heap.size, 0, none⟩ = some (Value.slice As ss.length cs) := (blk_cell HK77.out 0).trans rfl
      have f_o0 := blk_frozen HK77.out 0
      have a_o0 : ∀ o, (w7.alloc o).cell? ⟨w.heap.size, 0, none⟩ = some (Value.slice As ss.length cs) := fun o => (blk_cell (blk_alloc HK77.out o) 0).trans rfl
      have c_o1 : w7.cell? ⟨w.heap.size, 1, none⟩ = some (Value.slice At ts.length ct) := (blk_cell HK77.out 1).trans rfl
      have f_o1 := blk_frozen HK77.out 1
      have a_o1 : ∀ o, (w7.alloc o).cell? ⟨w.heap.size, 1, none⟩ = some (Value.slice At ts.length ct) := fun o => (blk_cell (blk_alloc HK77.out o) 1).trans rfl
      go_wp2_with fail
      clear c_o0 f_o0 a_o0 c_o1 f_o1 a_o1
      obtain ⟨v5, he5⟩ : ∃ W, W = (w7.alloc (.cells #[Value.slice Dbs ss.length Dbsd, Value.slice Dbt ts.length Dbtd] 25)) := ⟨_, rfl⟩
      have hb_ : Below w7.heap.size w7 v5 := by rw [he5]; exact below_alloc (Below.refl _ _) _
      have HZ5 := Aside0.mk (show v5.heap.size = w7.heap.size + 1 by rw [he5]; simp)
      have HN5 := Aside0.mk (show v5.heap[w7.heap.size]? = some (.cells #[Value.slice Dbs ss.length Dbsd, Value.slice Dbt ts.length Dbtd] 25 (0, 0)) by rw [he5]; exact blk_new _ _)
      have HV5 := Aside0.mk (below_step (HB7.out) hb_)
      have HK85 := Aside0.mk (blk_below (HK77.out) hb_)
      have HK86 := Aside0.mk (blk_below (HK78.out) hb_)
      have HK87 := Aside0.mk (blk_below (HK79.out) hb_)
      have HK88 := Aside0.mk (blk_below (HK80.out) hb_)
      have HK89 := Aside0.mk (blk_below (HK81.out) hb_)
      have HT90 := Aside0.mk ((HT82.out).below hb_)
      have HT91 := Aside0.mk ((HT83.out).below hb_)
      have HT92 := Aside0.mk ((HT84.out).below hb_)
      have HT93 := Aside0.mk ((HM7.out).below hb_)
      rw [← he5]
      clear he5
      refine (rSame.calls (As := Dbs) (cs := Dbsd) (At := Dbt) (ct := Dbtd) (Bs := As) (ds := cs) (Bt := At) (dt := ct) ss ts v5 (Kd.R_reads' HT93.out.1).2.2 (Kd.R_reads' HT93.out.2).2.2 (Kd.F_now HT90.out.1) (Kd.F_now HT90.out.2) hsl3 HTB.out).mono ?_
      rintro e w8 ⟨rfl, hb8⟩
      have HB8 := Aside0.mk (below_step (HV5.out) hb8)
      have HK94 := Aside0.mk (blk_below (HK85.out) hb8)
      have HK95 := Aside0.mk (blk_below (HK86.out) hb8)
      have HK96 := Aside0.mk (blk_below (HK87.out) hb8)
      have HK97 := Aside0.mk (blk_below (HK88.out) hb8)
      have HK98 := Aside0.mk (blk_below (HK89.out) hb8)
      have HK99 := Aside0.mk (blk_below (HN5.out) hb8)
      have HT100 := Aside0.mk ((HT90.out).below hb8)
      have HT101 := Aside0.mk ((HT91.out).below hb8)
      have HT102 := Aside0.mk ((HT92.out).below hb8)
      have HT103 := Aside0.mk ((HT93.out).below hb8)
      have HS8 := Aside0.mk hb8
      clear hb8
      by_cases zrc : rc.1 = 0
      case pos =>
        have nrc : (rc.1 == 0) = true := by rw [zrc]; rfl
        have HZRC := Aside0.mk zrc
        clear zrc
        have c_xc0 : w8.cell? ⟨w4.heap.size, 0, none⟩ = some (Value.slice Ecs rc.2.1.length Ecsd) := (blk_cell HK98.out 0).trans rfl
        have f_xc0 := blk_frozen HK98.out 0
        have c_xc1 : w8.cell? ⟨w4.heap.size, 1, none⟩ = some (Value.slice Ect rc.2.2.length Ectd) := (blk_cell HK98.out 1).trans rfl
        have f_xc1 := blk_frozen HK98.out 1
        go_wp2_with fail
        clear c_xc0 f_xc0 c_xc1 f_xc1
        refine (calls_made (DropSchema.calls (cs := Ecsd) (ct := Ectd) rc.2.1 rc.2.2 schema w8 (Kd.R_reads' HT102.out.1).2.2 HRCB.out.1 (Kd.R_reads' HT102.out.2).2.2 HRCF.out HRCB.out.2)).mono ?_
        rw [show dropSchema rc.2.1 rc.2.2 schema = (0, ss, ts) from HRCR.out HZRC.out]
        rintro e w9 ⟨Dcs, Dcsd, Dct, Dctd, rfl, hx, hb9⟩
        have HB9 := Aside0.mk (below_step (HB8.out) hb9)
        have HK104 := Aside0.mk (blk_below (HK94.out) hb9)
        have HK105 := Aside0.mk (blk_below (HK95.out) hb9)
        have HK106 := Aside0.mk (blk_below (HK96.out) hb9)
        have HK107 := Aside0.mk (blk_below (HK98.out) hb9)
        have HT108 := Aside0.mk ((HT100.out).below hb9)
        have HT109 := Aside0.mk ((HT102.out).below hb9)
        have HM9 := Aside0.mk hx
        clear hx hb9
        have c_o0 : w9.cell? ⟨w.heap.size, 0, none⟩ = some (Value.slice As ss.length cs) := (blk_cell HK104.out 0).trans rfl
        have f_o0 := blk_frozen HK104.out 0
        have a_o0 : ∀ o, (w9.alloc o).cell? ⟨w.heap.size, 0, none⟩ = some (Value.slice As ss.length cs) := fun o => (blk_cell (blk_alloc HK104.out o) 0).trans rfl
        have c_o1 : w9.cell? ⟨w.heap.size, 1, none⟩ = some (Value.slice At ts.length ct) := (blk_cell HK104.out 1).trans rfl
        have f_o1 := blk_frozen HK104.out 1
        have a_o1 : ∀ o, (w9.alloc o).cell? ⟨w.heap.size, 1, none⟩ = some (Value.slice At ts.length ct) := fun o => (blk_cell (blk_alloc HK104.out o) 1).trans rfl
        go_wp2_with fail
        clear c_o0 f_o0 a_o0 c_o1 f_o1 a_o1
        obtain ⟨v6, he6⟩ : ∃ W, W = (w9.alloc (.cells #[Value.slice Dcs ss.length Dcsd, Value.slice Dct ts.length Dctd] 25)) := ⟨_, rfl⟩
        have hb_ : Below w9.heap.size w9 v6 := by rw [he6]; exact below_alloc (Below.refl _ _) _
        have HZ6 := Aside0.mk (show v6.heap.size = w9.heap.size + 1 by rw [he6]; simp)
        have HN6 := Aside0.mk (show v6.heap[w9.heap.size]? = some (.cells #[Value.slice Dcs ss.length Dcsd, Value.slice Dct ts.length Dctd] 25 (0, 0)) by rw [he6]; exact blk_new _ _)
        have HV6 := Aside0.mk (below_step (HB9.out) hb_)
        have HK110 := Aside0.mk (blk_below (HK104.out) hb_)
        have HK111 := Aside0.mk (blk_below (HK105.out) hb_)
        have HK112 := Aside0.mk (blk_below (HK106.out) hb_)
        have HK113 := Aside0.mk (blk_below (HK107.out) hb_)
        have HT114 := Aside0.mk ((HT108.out).below hb_)
        have HT115 := Aside0.mk ((HT109.out).below hb_)
        have HT116 := Aside0.mk ((HM9.out).below hb_)
        rw [← he6]
        clear he6
        refine (rSame.calls (As := Dcs) (cs := Dcsd) (At := Dct) (ct := Dctd) (Bs := As) (ds := cs) (Bt := At) (dt := ct) ss ts v6 (Kd.R_reads' HT116.out.1).2.2 (Kd.R_reads' HT116.out.2).2.2 (Kd.F_now HT114.out.1) (Kd.F_now HT114.out.2) hsl3 HTB.out).mono ?_
        rintro e w10 ⟨rfl, hb10⟩
        have HB10 := Aside0.mk (below_step (HV6.out) hb10)
        have HK117 := Aside0.mk (blk_below (HK110.out) hb10)
        have HK118 := Aside0.mk (blk_below (HK111.out) hb10)
        have HK119 := Aside0.mk (blk_below (HK112.out) hb10)
        have HK120 := Aside0.mk (blk_below (HK113.out) hb10)
        have HK121 := Aside0.mk (blk_below (HN6.out) hb10)
        have HT122 := Aside0.mk ((HT114.out).below hb10)
        have HT123 := Aside0.mk ((HT115.out).below hb10)
        have HT124 := Aside0.mk ((HT116.out).below hb10)
        have HS10 := Aside0.mk hb10
        clear hb10
        go_wp2_with fail
        refine (columns.calls w10).mono ?_
        rintro e w11 ⟨rfl, hb11⟩
        have HB11 := Aside0.mk (below_step (HB10.out) hb11)
        have HK125 := Aside0.mk (blk_below (HK117.out) hb11)
        have HK126 := Aside0.mk (blk_below (HK118.out) hb11)
        have HK127 := Aside0.mk (blk_below (HK119.out) hb11)
        have HT128 := Aside0.mk ((HT122.out).below hb11)
        have HS11 := Aside0.mk hb11
        clear hb11
        go_wp2_with fail
        refine (rules.calls w11).mono ?_
        rintro e w12 ⟨rfl, hb12⟩
        have HB12 := Aside0.mk (below_step (HB11.out) hb12)
        have HS12 := Aside0.mk hb12
        clear hb12
        go_wp2_with fail
        refine (schemas.calls w12).mono ?_
        rintro e w13 ⟨rfl, hb13⟩
        have HB13 := Aside0.mk (below_step (HB12.out) hb13)
        have HS13 := Aside0.mk hb13
        clear hb13
        go_wp2
        go_ret
        exact ⟨rfl, HB13.out⟩
      case neg =>
        have nrc : (rc.1 == 0) = false := beq_eq_false_iff_ne.2 zrc
        have HZRC := Aside0.mk zrc
        clear zrc
        go_wp2_with fail
        refine (columns.calls w8).mono ?_
        rintro e w9 ⟨rfl, hb9⟩
        have HB9 := Aside0.mk (below_step (HB8.out) hb9)
        have HK104 := Aside0.mk (blk_below (HK94.out) hb9)
        have HK105 := Aside0.mk (blk_below (HK95.out) hb9)
        have HK106 := Aside0.mk (blk_below (HK96.out) hb9)
        have HT107 := Aside0.mk ((HT100.out).below hb9)
        have HS9 := Aside0.mk hb9
        clear hb9
        go_wp2_with fail
        refine (rules.calls w9).mono ?_
        rintro e w10 ⟨rfl, hb10⟩
        have HB10 := Aside0.mk (below_step (HB9.out) hb10)
        have HS10 := Aside0.mk hb10
        clear hb10
        go_wp2_with fail
        refine (schemas.calls w10).mono ?_
        rintro e w11 ⟨rfl, hb11⟩
        have HB11 := Aside0.mk (below_step (HB10.out) hb11)
        have HS11 := Aside0.mk hb11
        clear hb11
        go_wp2
        go_ret
        exact ⟨rfl, HB11.out⟩
    case neg =>
      have nrb : (rb.1 == 0) = false := beq_eq_false_iff_ne.2 zrb
      have HZRB := Aside0.mk zrb
      clear zrb
      by_cases zrc : rc.1 = 0
      case pos =>
        have nrc : (rc.1 == 0) = true := by rw [zrc]; rfl
        have HZRC := Aside0.mk zrc
        clear zrc
        have c_xc0 : w6.cell? ⟨w4.heap.size, 0, none⟩ = some (Value.slice Ecs rc.2.1.length Ecsd) := (blk_cell HK70.out 0).trans rfl
        have f_xc0 := blk_frozen HK70.out 0
        have c_xc1 : w6.cell? ⟨w4.heap.size, 1, none⟩ = some (Value.slice Ect rc.2.2.length Ectd) := (blk_cell HK70.out 1).trans rfl
        have f_xc1 := blk_frozen HK70.out 1
        go_wp2_with fail
        clear c_xc0 f_xc0 c_xc1 f_xc1
        refine (calls_made (DropSchema.calls (cs := Ecsd) (ct := Ectd) rc.2.1 rc.2.2 schema w6 (Kd.R_reads' HT75.out.1).2.2 HRCB.out.1 (Kd.R_reads' HT75.out.2).2.2 HRCF.out HRCB.out.2)).mono ?_
        rw [show dropSchema rc.2.1 rc.2.2 schema = (0, ss, ts) from HRCR.out HZRC.out]
        rintro e w7 ⟨Dcs, Dcsd, Dct, Dctd, rfl, hx, hb7⟩
        have HB7 := Aside0.mk (below_step (HB6.out) hb7)
        have HK77 := Aside0.mk (blk_below (HK65.out) hb7)
        have HK78 := Aside0.mk (blk_below (HK66.out) hb7)
        have HK79 := Aside0.mk (blk_below (HK67.out) hb7)
        have HK80 := Aside0.mk (blk_below (HK70.out) hb7)
        have HT81 := Aside0.mk ((HT72.out).below hb7)
        have HT82 := Aside0.mk ((HT75.out).below hb7)
        have HM7 := Aside0.mk hx
        clear hx hb7
        have c_o0 : w7.cell? ⟨w.heap.size, 0, none⟩ = some (Value.slice As ss.length cs) := (blk_cell HK77.out 0).trans rfl
        have f_o0 := blk_frozen HK77.out 0
        have a_o0 : ∀ o, (w7.alloc o).cell? ⟨w.heap.size, 0, none⟩ = some (Value.slice As ss.length cs) := fun o => (blk_cell (blk_alloc HK77.out o) 0).trans rfl
        have c_o1 : w7.cell? ⟨w.heap.size, 1, none⟩ = some (Value.slice At ts.length ct) := (blk_cell HK77.out 1).trans rfl
        have f_o1 := blk_frozen HK77.out 1
        have a_o1 : ∀ o, (w7.alloc o).cell? ⟨w.heap.size, 1, none⟩ = some (Value.slice At ts.length ct) := fun o => (blk_cell (blk_alloc HK77.out o) 1).trans rfl
        go_wp2_with fail
        clear c_o0 f_o0 a_o0 c_o1 f_o1 a_o1
        obtain ⟨v5, he5⟩ : ∃ W, W = (w7.alloc (.cells #[Value.slice Dcs ss.length Dcsd, Value.slice Dct ts.length Dctd] 25)) := ⟨_, rfl⟩
        have hb_ : Below w7.heap.size w7 v5 := by rw [he5]; exact below_alloc (Below.refl _ _) _
        have HZ5 := Aside0.mk (show v5.heap.size = w7.heap.size + 1 by rw [he5]; simp)
        have HN5 := Aside0.mk (show v5.heap[w7.heap.size]? = some (.cells #[Value.slice Dcs ss.length Dcsd, Value.slice Dct ts.length Dctd] 25 (0, 0)) by rw [he5]; exact blk_new _ _)
        have HV5 := Aside0.mk (below_step (HB7.out) hb_)
        have HK83 := Aside0.mk (blk_below (HK77.out) hb_)
        have HK84 := Aside0.mk (blk_below (HK78.out) hb_)
        have HK85 := Aside0.mk (blk_below (HK79.out) hb_)
        have HK86 := Aside0.mk (blk_below (HK80.out) hb_)
        have HT87 := Aside0.mk ((HT81.out).below hb_)
        have HT88 := Aside0.mk ((HT82.out).below hb_)
        have HT89 := Aside0.mk ((HM7.out).below hb_)
        rw [← he5]
        clear he5
        refine (rSame.calls (As := Dcs) (cs := Dcsd) (At := Dct) (ct := Dctd) (Bs := As) (ds := cs) (Bt := At) (dt := ct) ss ts v5 (Kd.R_reads' HT89.out.1).2.2 (Kd.R_reads' HT89.out.2).2.2 (Kd.F_now HT87.out.1) (Kd.F_now HT87.out.2) hsl3 HTB.out).mono ?_
        rintro e w8 ⟨rfl, hb8⟩
        have HB8 := Aside0.mk (below_step (HV5.out) hb8)
        have HK90 := Aside0.mk (blk_below (HK83.out) hb8)
        have HK91 := Aside0.mk (blk_below (HK84.out) hb8)
        have HK92 := Aside0.mk (blk_below (HK85.out) hb8)
        have HK93 := Aside0.mk (blk_below (HK86.out) hb8)
        have HK94 := Aside0.mk (blk_below (HN5.out) hb8)
        have HT95 := Aside0.mk ((HT87.out).below hb8)
        have HT96 := Aside0.mk ((HT88.out).below hb8)
        have HT97 := Aside0.mk ((HT89.out).below hb8)
        have HS8 := Aside0.mk hb8
        clear hb8
        go_wp2_with fail
        refine (columns.calls w8).mono ?_
        rintro e w9 ⟨rfl, hb9⟩
        have HB9 := Aside0.mk (below_step (HB8.out) hb9)
        have HK98 := Aside0.mk (blk_below (HK90.out) hb9)
        have HK99 := Aside0.mk (blk_below (HK91.out) hb9)
        have HK100 := Aside0.mk (blk_below (HK92.out) hb9)
        have HT101 := Aside0.mk ((HT95.out).below hb9)
        have HS9 := Aside0.mk hb9
        clear hb9
        go_wp2_with fail
        refine (rules.calls w9).mono ?_
        rintro e w10 ⟨rfl, hb10⟩
        have HB10 := Aside0.mk (below_step (HB9.out) hb10)
        have HS10 := Aside0.mk hb10
        clear hb10
        go_wp2_with fail
        refine (schemas.calls w10).mono ?_
        rintro e w11 ⟨rfl, hb11⟩
        have HB11 := Aside0.mk (below_step (HB10.out) hb11)
        have HS11 := Aside0.mk hb11
        clear hb11
        go_wp2
        go_ret
        exact ⟨rfl, HB11.out⟩
      case neg =>
        have nrc : (rc.1 == 0) = false := beq_eq_false_iff_ne.2 zrc
        have HZRC := Aside0.mk zrc
        clear zrc
        go_wp2_with fail
        refine (columns.calls w6).mono ?_
        rintro e w7 ⟨rfl, hb7⟩
        have HB7 := Aside0.mk (below_step (HB6.out) hb7)
        have HK77 := Aside0.mk (blk_below (HK65.out) hb7)
        have HK78 := Aside0.mk (blk_below (HK66.out) hb7)
        have HK79 := Aside0.mk (blk_below (HK67.out) hb7)
        have HT80 := Aside0.mk ((HT72.out).below hb7)
        have HS7 := Aside0.mk hb7
        clear hb7
        go_wp2_with fail
        refine (rules.calls w7).mono ?_
        rintro e w8 ⟨rfl, hb8⟩
        have HB8 := Aside0.mk (below_step (HB7.out) hb8)
        have HS8 := Aside0.mk hb8
        clear hb8
        go_wp2_with fail
        refine (schemas.calls w8).mono ?_
        rintro e w9 ⟨rfl, hb9⟩
        have HB9 := Aside0.mk (below_step (HB8.out) hb9)
        have HS9 := Aside0.mk hb9
        clear hb9
        go_wp2
        go_ret
        exact ⟨rfl, HB9.out⟩
  case neg =>
    have nra : (ra.1 == 0) = false := beq_eq_false_iff_ne.2 zra
    have HZRA := Aside0.mk zra
    clear zra
    by_cases zrb : rb.1 = 0
    case pos =>
      have nrb : (rb.1 == 0) = true := by rw [zrb]; rfl
      have HZRB := Aside0.mk zrb
      clear zrb
      have c_r0 : w4.cell? ⟨w.heap.size + 1 + 1, 0, none⟩ = some (Value.string r.name) := (blk_cell HK29.out 0).trans rfl
      have f_r0 := blk_frozen HK29.out 0
      have a_r0 : ∀ o, (w4.alloc o).cell? ⟨w.heap.size + 1 + 1, 0, none⟩ = some (Value.string r.name) := fun o => (blk_cell (blk_alloc HK29.out o) 0).trans rfl
      have c_r1 : w4.cell? ⟨w.heap.size + 1 + 1, 1, none⟩ = some (Value.int .i64 r.kind) := (blk_cell HK29.out 1).trans rfl
      have f_r1 := blk_frozen HK29.out 1
      have a_r1 : ∀ o, (w4.alloc o).cell? ⟨w.heap.size + 1 + 1, 1, none⟩ = some (Value.int .i64 r.kind) := fun o => (blk_cell (blk_alloc HK29.out o) 1).trans rfl
      have c_r2 : w4.cell? ⟨w.heap.size + 1 + 1, 2, none⟩ = some (Value.slice A2 r.cols.length c2) := (blk_cell HK29.out 2).trans rfl
      have f_r2 := blk_frozen HK29.out 2
      have a_r2 : ∀ o, (w4.alloc o).cell? ⟨w.heap.size + 1 + 1, 2, none⟩ = some (Value.slice A2 r.cols.length c2) := fun o => (blk_cell (blk_alloc HK29.out o) 2).trans rfl
      have c_r3 : w4.cell? ⟨w.heap.size + 1 + 1, 3, none⟩ = some (Value.int .i64 r.low) := (blk_cell HK29.out 3).trans rfl
      have f_r3 := blk_frozen HK29.out 3
      have a_r3 : ∀ o, (w4.alloc o).cell? ⟨w.heap.size + 1 + 1, 3, none⟩ = some (Value.int .i64 r.low) := fun o => (blk_cell (blk_alloc HK29.out o) 3).trans rfl
      have c_r4 : w4.cell? ⟨w.heap.size + 1 + 1, 4, none⟩ = some (Value.int .i64 r.high) := (blk_cell HK29.out 4).trans rfl
      have f_r4 := blk_frozen HK29.out 4
      have a_r4 : ∀ o, (w4.alloc o).cell? ⟨w.heap.size + 1 + 1, 4, none⟩ = some (Value.int .i64 r.high) := fun o => (blk_cell (blk_alloc HK29.out o) 4).trans rfl
      have c_r5 : w4.cell? ⟨w.heap.size + 1 + 1, 5, none⟩ = some (Value.string r.schema) := (blk_cell HK29.out 5).trans rfl
      have f_r5 := blk_frozen HK29.out 5
      have a_r5 : ∀ o, (w4.alloc o).cell? ⟨w.heap.size + 1 + 1, 5, none⟩ = some (Value.string r.schema) := fun o => (blk_cell (blk_alloc HK29.out o) 5).trans rfl
      have c_r6 : w4.cell? ⟨w.heap.size + 1 + 1, 6, none⟩ = some (Value.string r.table) := (blk_cell HK29.out 6).trans rfl
      have f_r6 := blk_frozen HK29.out 6
      have a_r6 : ∀ o, (w4.alloc o).cell? ⟨w.heap.size + 1 + 1, 6, none⟩ = some (Value.string r.table) := fun o => (blk_cell (blk_alloc HK29.out o) 6).trans rfl
      have c_r7 : w4.cell? ⟨w.heap.size + 1 + 1, 7, none⟩ = some (Value.string r.key) := (blk_cell HK29.out 7).trans rfl
      have f_r7 := blk_frozen HK29.out 7
      have a_r7 : ∀ o, (w4.alloc o).cell? ⟨w.heap.size + 1 + 1, 7, none⟩ = some (Value.string r.key) := fun o => (blk_cell (blk_alloc HK29.out o) 7).trans rfl
      have c_xb0 : w4.cell? ⟨w3.heap.size, 0, none⟩ = some (Value.slice Ebs rb.2.1.length Ebsd) := (blk_cell HK31.out 0).trans rfl
      have f_xb0 := blk_frozen HK31.out 0
      have a_xb0 : ∀ o, (w4.alloc o).cell? ⟨w3.heap.size, 0, none⟩ = some (Value.slice Ebs rb.2.1.length Ebsd) := fun o => (blk_cell (blk_alloc HK31.out o) 0).trans rfl
      have c_xb1 : w4.cell? ⟨w3.heap.size, 1, none⟩ = some (Value.slice Ebt rb.2.2.length Ebtd) := (blk_cell HK31.out 1).trans rfl
      have f_xb1 := blk_frozen HK31.out 1
      have a_xb1 : ∀ o, (w4.alloc o).cell? ⟨w3.heap.size, 1, none⟩ = some (Value.slice Ebt rb.2.2.length Ebtd) := fun o => (blk_cell (blk_alloc HK31.out o) 1).trans rfl
      go_wp2_with fail
      clear c_r0 f_r0 a_r0 c_r1 f_r1 a_r1 c_r2 f_r2 a_r2 c_r3 f_r3 a_r3 c_r4 f_r4 a_r4 c_r5 f_r5 a_r5 c_r6 f_r6 a_r6 c_r7 f_r7 a_r7 c_xb0 f_xb0 a_xb0 c_xb1 f_xb1 a_xb1
      obtain ⟨v3, he3⟩ : ∃ W, W = (w4.alloc (.cells #[Value.slice Ecs rc.2.1.length Ecsd, Value.slice Ect rc.2.2.length Ectd] 25)) := ⟨_, rfl⟩
      have hb_ : Below w4.heap.size w4 v3 := by rw [he3]; exact below_alloc (Below.refl _ _) _
      have HZ3 := Aside0.mk (show v3.heap.size = w4.heap.size + 1 by rw [he3]; simp)
      have HN3 := Aside0.mk (show v3.heap[w4.heap.size]? = some (.cells #[Value.slice Ecs rc.2.1.length Ecsd, Value.slice Ect rc.2.2.length Ectd] 25 (0, 0)) by rw [he3]; exact blk_new _ _)
      have HV3 := Aside0.mk (below_step (HB4.out) hb_)
      have HK35 := Aside0.mk (blk_below (HK27.out) hb_)
      have HK36 := Aside0.mk (blk_below (HK28.out) hb_)
      have HK37 := Aside0.mk (blk_below (HK29.out) hb_)
      have HK38 := Aside0.mk (blk_below (HK31.out) hb_)
      have HT39 := Aside0.mk ((HT32.out).below hb_)
      have HT40 := Aside0.mk ((HT34.out).below hb_)
      have HT41 := Aside0.mk ((HM4.out).below hb_)
      rw [← he3]
      clear he3
      refine (calls_made (DropRule.calls (cs := Ebsd) (ct := Ebtd) rb.2.1 rb.2.2 schema table r.name v3 (Kd.R_reads' HT40.out.1).2.2 HRBB.out.1 (Kd.R_reads' HT40.out.2).2.2 HRBF.out HRBB.out.2)).mono ?_
      rw [show dropRule rb.2.1 rb.2.2 schema table r.name = (0, ss, ts) from HRBR.out HZRB.out]
      rintro e w5 ⟨Dbs, Dbsd, Dbt, Dbtd, rfl, hx, hb5⟩
      have HB5 := Aside0.mk (below_step (HV3.out) hb5)
      have HK42 := Aside0.mk (blk_below (HK35.out) hb5)
      have HK43 := Aside0.mk (blk_below (HK36.out) hb5)
      have HK44 := Aside0.mk (blk_below (HK37.out) hb5)
      have HK45 := Aside0.mk (blk_below (HK38.out) hb5)
      have HK46 := Aside0.mk (blk_below (HN3.out) hb5)
      have HT47 := Aside0.mk ((HT39.out).below hb5)
      have HT48 := Aside0.mk ((HT40.out).below hb5)
      have HT49 := Aside0.mk ((HT41.out).below hb5)
      have HM5 := Aside0.mk hx
      clear hx hb5
      have c_o0 : w5.cell? ⟨w.heap.size, 0, none⟩ = some (Value.slice As ss.length cs) := (blk_cell HK42.out 0).trans rfl
      have f_o0 := blk_frozen HK42.out 0
      have a_o0 : ∀ o, (w5.alloc o).cell? ⟨w.heap.size, 0, none⟩ = some (Value.slice As ss.length cs) := fun o => (blk_cell (blk_alloc HK42.out o) 0).trans rfl
      have c_o1 : w5.cell? ⟨w.heap.size, 1, none⟩ = some (Value.slice At ts.length ct) := (blk_cell HK42.out 1).trans rfl
      have f_o1 := blk_frozen HK42.out 1
      have a_o1 : ∀ o, (w5.alloc o).cell? ⟨w.heap.size, 1, none⟩ = some (Value.slice At ts.length ct) := fun o => (blk_cell (blk_alloc HK42.out o) 1).trans rfl
      go_wp2_with fail
      clear c_o0 f_o0 a_o0 c_o1 f_o1 a_o1
      obtain ⟨v4, he4⟩ : ∃ W, W = (w5.alloc (.cells #[Value.slice Dbs ss.length Dbsd, Value.slice Dbt ts.length Dbtd] 25)) := ⟨_, rfl⟩
      have hb_ : Below w5.heap.size w5 v4 := by rw [he4]; exact below_alloc (Below.refl _ _) _
      have HZ4 := Aside0.mk (show v4.heap.size = w5.heap.size + 1 by rw [he4]; simp)
      have HN4 := Aside0.mk (show v4.heap[w5.heap.size]? = some (.cells #[Value.slice Dbs ss.length Dbsd, Value.slice Dbt ts.length Dbtd] 25 (0, 0)) by rw [he4]; exact blk_new _ _)
      have HV4 := Aside0.mk (below_step (HB5.out) hb_)
      have HK50 := Aside0.mk (blk_below (HK42.out) hb_)
      have HK51 := Aside0.mk (blk_below (HK43.out) hb_)
      have HK52 := Aside0.mk (blk_below (HK44.out) hb_)
      have HK53 := Aside0.mk (blk_below (HK45.out) hb_)
      have HK54 := Aside0.mk (blk_below (HK46.out) hb_)
      have HT55 := Aside0.mk ((HT47.out).below hb_)
      have HT56 := Aside0.mk ((HT48.out).below hb_)
      have HT57 := Aside0.mk ((HT49.out).below hb_)
      have HT58 := Aside0.mk ((HM5.out).below hb_)
      rw [← he4]
      clear he4
      refine (rSame.calls (As := Dbs) (cs := Dbsd) (At := Dbt) (ct := Dbtd) (Bs := As) (ds := cs) (Bt := At) (dt := ct) ss ts v4 (Kd.R_reads' HT58.out.1).2.2 (Kd.R_reads' HT58.out.2).2.2 (Kd.F_now HT55.out.1) (Kd.F_now HT55.out.2) hsl3 HTB.out).mono ?_
      rintro e w6 ⟨rfl, hb6⟩
      have HB6 := Aside0.mk (below_step (HV4.out) hb6)
      have HK59 := Aside0.mk (blk_below (HK50.out) hb6)
      have HK60 := Aside0.mk (blk_below (HK51.out) hb6)
      have HK61 := Aside0.mk (blk_below (HK52.out) hb6)
      have HK62 := Aside0.mk (blk_below (HK53.out) hb6)
      have HK63 := Aside0.mk (blk_below (HK54.out) hb6)
      have HK64 := Aside0.mk (blk_below (HN4.out) hb6)
      have HT65 := Aside0.mk ((HT55.out).below hb6)
      have HT66 := Aside0.mk ((HT56.out).below hb6)
      have HT67 := Aside0.mk ((HT57.out).below hb6)
      have HT68 := Aside0.mk ((HT58.out).below hb6)
      have HS6 := Aside0.mk hb6
      clear hb6
      by_cases zrc : rc.1 = 0
      case pos =>
        have nrc : (rc.1 == 0) = true := by rw [zrc]; rfl
        have HZRC := Aside0.mk zrc
        clear zrc
        have c_xc0 : w6.cell? ⟨w4.heap.size, 0, none⟩ = some (Value.slice Ecs rc.2.1.length Ecsd) := (blk_cell HK63.out 0).trans rfl
        have f_xc0 := blk_frozen HK63.out 0
        have c_xc1 : w6.cell? ⟨w4.heap.size, 1, none⟩ = some (Value.slice Ect rc.2.2.length Ectd) := (blk_cell HK63.out 1).trans rfl
        have f_xc1 := blk_frozen HK63.out 1
        go_wp2_with fail
        clear c_xc0 f_xc0 c_xc1 f_xc1
        refine (calls_made (DropSchema.calls (cs := Ecsd) (ct := Ectd) rc.2.1 rc.2.2 schema w6 (Kd.R_reads' HT67.out.1).2.2 HRCB.out.1 (Kd.R_reads' HT67.out.2).2.2 HRCF.out HRCB.out.2)).mono ?_
        rw [show dropSchema rc.2.1 rc.2.2 schema = (0, ss, ts) from HRCR.out HZRC.out]
        rintro e w7 ⟨Dcs, Dcsd, Dct, Dctd, rfl, hx, hb7⟩
        have HB7 := Aside0.mk (below_step (HB6.out) hb7)
        have HK69 := Aside0.mk (blk_below (HK59.out) hb7)
        have HK70 := Aside0.mk (blk_below (HK60.out) hb7)
        have HK71 := Aside0.mk (blk_below (HK61.out) hb7)
        have HK72 := Aside0.mk (blk_below (HK63.out) hb7)
        have HT73 := Aside0.mk ((HT65.out).below hb7)
        have HT74 := Aside0.mk ((HT67.out).below hb7)
        have HM7 := Aside0.mk hx
        clear hx hb7
        have c_o0 : w7.cell? ⟨w.heap.size, 0, none⟩ = some (Value.slice As ss.length cs) := (blk_cell HK69.out 0).trans rfl
        have f_o0 := blk_frozen HK69.out 0
        have a_o0 : ∀ o, (w7.alloc o).cell? ⟨w.heap.size, 0, none⟩ = some (Value.slice As ss.length cs) := fun o => (blk_cell (blk_alloc HK69.out o) 0).trans rfl
        have c_o1 : w7.cell? ⟨w.heap.size, 1, none⟩ = some (Value.slice At ts.length ct) := (blk_cell HK69.out 1).trans rfl
        have f_o1 := blk_frozen HK69.out 1
        have a_o1 : ∀ o, (w7.alloc o).cell? ⟨w.heap.size, 1, none⟩ = some (Value.slice At ts.length ct) := fun o => (blk_cell (blk_alloc HK69.out o) 1).trans rfl
        go_wp2_with fail
        clear c_o0 f_o0 a_o0 c_o1 f_o1 a_o1
        obtain ⟨v5, he5⟩ : ∃ W, W = (w7.alloc (.cells #[Value.slice Dcs ss.length Dcsd, Value.slice Dct ts.length Dctd] 25)) := ⟨_, rfl⟩
        have hb_ : Below w7.heap.size w7 v5 := by rw [he5]; exact below_alloc (Below.refl _ _) _
        have HZ5 := Aside0.mk (show v5.heap.size = w7.heap.size + 1 by rw [he5]; simp)
        have HN5 := Aside0.mk (show v5.heap[w7.heap.size]? = some (.cells #[Value.slice Dcs ss.length Dcsd, Value.slice Dct ts.length Dctd] 25 (0, 0)) by rw [he5]; exact blk_new _ _)
        have HV5 := Aside0.mk (below_step (HB7.out) hb_)
        have HK75 := Aside0.mk (blk_below (HK69.out) hb_)
        have HK76 := Aside0.mk (blk_below (HK70.out) hb_)
        have HK77 := Aside0.mk (blk_below (HK71.out) hb_)
        have HK78 := Aside0.mk (blk_below (HK72.out) hb_)
        have HT79 := Aside0.mk ((HT73.out).below hb_)
        have HT80 := Aside0.mk ((HT74.out).below hb_)
        have HT81 := Aside0.mk ((HM7.out).below hb_)
        rw [← he5]
        clear he5
        refine (rSame.calls (As := Dcs) (cs := Dcsd) (At := Dct) (ct := Dctd) (Bs := As) (ds := cs) (Bt := At) (dt := ct) ss ts v5 (Kd.R_reads' HT81.out.1).2.2 (Kd.R_reads' HT81.out.2).2.2 (Kd.F_now HT79.out.1) (Kd.F_now HT79.out.2) hsl3 HTB.out).mono ?_
        rintro e w8 ⟨rfl, hb8⟩
        have HB8 := Aside0.mk (below_step (HV5.out) hb8)
        have HK82 := Aside0.mk (blk_below (HK75.out) hb8)
        have HK83 := Aside0.mk (blk_below (HK76.out) hb8)
        have HK84 := Aside0.mk (blk_below (HK77.out) hb8)
        have HK85 := Aside0.mk (blk_below (HK78.out) hb8)
        have HK86 := Aside0.mk (blk_below (HN5.out) hb8)
        have HT87 := Aside0.mk ((HT79.out).below hb8)
        have HT88 := Aside0.mk ((HT80.out).below hb8)
        have HT89 := Aside0.mk ((HT81.out).below hb8)
        have HS8 := Aside0.mk hb8
        clear hb8
        go_wp2_with fail
        refine (columns.calls w8).mono ?_
        rintro e w9 ⟨rfl, hb9⟩
        have HB9 := Aside0.mk (below_step (HB8.out) hb9)
        have HK90 := Aside0.mk (blk_below (HK82.out) hb9)
        have HK91 := Aside0.mk (blk_below (HK83.out) hb9)
        have HK92 := Aside0.mk (blk_below (HK84.out) hb9)
        have HT93 := Aside0.mk ((HT87.out).below hb9)
        have HS9 := Aside0.mk hb9
        clear hb9
        go_wp2_with fail
        refine (rules.calls w9).mono ?_
        rintro e w10 ⟨rfl, hb10⟩
        have HB10 := Aside0.mk (below_step (HB9.out) hb10)
        have HS10 := Aside0.mk hb10
        clear hb10
        go_wp2_with fail
        refine (schemas.calls w10).mono ?_
        rintro e w11 ⟨rfl, hb11⟩
        have HB11 := Aside0.mk (below_step (HB10.out) hb11)
        have HS11 := Aside0.mk hb11
        clear hb11
        go_wp2
        go_ret
        exact ⟨rfl, HB11.out⟩
      case neg =>
        have nrc : (rc.1 == 0) = false := beq_eq_false_iff_ne.2 zrc
        have HZRC := Aside0.mk zrc
        clear zrc
        go_wp2_with fail
        refine (columns.calls w6).mono ?_
        rintro e w7 ⟨rfl, hb7⟩
        have HB7 := Aside0.mk (below_step (HB6.out) hb7)
        have HK69 := Aside0.mk (blk_below (HK59.out) hb7)
        have HK70 := Aside0.mk (blk_below (HK60.out) hb7)
        have HK71 := Aside0.mk (blk_below (HK61.out) hb7)
        have HT72 := Aside0.mk ((HT65.out).below hb7)
        have HS7 := Aside0.mk hb7
        clear hb7
        go_wp2_with fail
        refine (rules.calls w7).mono ?_
        rintro e w8 ⟨rfl, hb8⟩
        have HB8 := Aside0.mk (below_step (HB7.out) hb8)
        have HS8 := Aside0.mk hb8
        clear hb8
        go_wp2_with fail
        refine (schemas.calls w8).mono ?_
        rintro e w9 ⟨rfl, hb9⟩
        have HB9 := Aside0.mk (below_step (HB8.out) hb9)
        have HS9 := Aside0.mk hb9
        clear hb9
        go_wp2
        go_ret
        exact ⟨rfl, HB9.out⟩
    case neg =>
      have nrb : (rb.1 == 0) = false := beq_eq_false_iff_ne.2 zrb
      have HZRB := Aside0.mk zrb
      clear zrb
      by_cases zrc : rc.1 = 0
      case pos =>
        have nrc : (rc.1 == 0) = true := by rw [zrc]; rfl
        have HZRC := Aside0.mk zrc
        clear zrc
        go_wp2_with fail
        obtain ⟨v3, he3⟩ : ∃ W, W = (w4.alloc (.cells #[Value.slice Ecs rc.2.1.length Ecsd, Value.slice Ect rc.2.2.length Ectd] 25)) := ⟨_, rfl⟩
        have hb_ : Below w4.heap.size w4 v3 := by rw [he3]; exact below_alloc (Below.refl _ _) _
        have HZ3 := Aside0.mk (show v3.heap.size = w4.heap.size + 1 by rw [he3]; simp)
        have HN3 := Aside0.mk (show v3.heap[w4.heap.size]? = some (.cells #[Value.slice Ecs rc.2.1.length Ecsd, Value.slice Ect rc.2.2.length Ectd] 25 (0, 0)) by rw [he3]; exact blk_new _ _)
        have HV3 := Aside0.mk (below_step (HB4.out) hb_)
        have HK35 := Aside0.mk (blk_below (HK27.out) hb_)
        have HK36 := Aside0.mk (blk_below (HK28.out) hb_)
        have HK37 := Aside0.mk (blk_below (HK29.out) hb_)
        have HT38 := Aside0.mk ((HT32.out).below hb_)
        have HT39 := Aside0.mk ((HM4.out).below hb_)
        rw [← he3]
        clear he3
        refine (calls_made (DropSchema.calls (cs := Ecsd) (ct := Ectd) rc.2.1 rc.2.2 schema v3 (Kd.R_reads' HT39.out.1).2.2 HRCB.out.1 (Kd.R_reads' HT39.out.2).2.2 HRCF.out HRCB.out.2)).mono ?_
        rw [show dropSchema rc.2.1 rc.2.2 schema = (0, ss, ts) from HRCR.out HZRC.out]
        rintro e w5 ⟨Dcs, Dcsd, Dct, Dctd, rfl, hx, hb5⟩
        have HB5 := Aside0.mk (below_step (HV3.out) hb5)
        have HK40 := Aside0.mk (blk_below (HK35.out) hb5)
        have HK41 := Aside0.mk (blk_below (HK36.out) hb5)
        have HK42 := Aside0.mk (blk_below (HK37.out) hb5)
        have HK43 := Aside0.mk (blk_below (HN3.out) hb5)
        have HT44 := Aside0.mk ((HT38.out).below hb5)
        have HT45 := Aside0.mk ((HT39.out).below hb5)
        have HM5 := Aside0.mk hx
        clear hx hb5
        have c_o0 : w5.cell? ⟨w.heap.size, 0, none⟩ = some (Value.slice As ss.length cs) := (blk_cell HK40.out 0).trans rfl
        have f_o0 := blk_frozen HK40.out 0
        have a_o0 : ∀ o, (w5.alloc o).cell? ⟨w.heap.size, 0, none⟩ = some (Value.slice As ss.length cs) := fun o => (blk_cell (blk_alloc HK40.out o) 0).trans rfl
        have c_o1 : w5.cell? ⟨w.heap.size, 1, none⟩ = some (Value.slice At ts.length ct) := (blk_cell HK40.out 1).trans rfl
        have f_o1 := blk_frozen HK40.out 1
        have a_o1 : ∀ o, (w5.alloc o).cell? ⟨w.heap.size, 1, none⟩ = some (Value.slice At ts.length ct) := fun o => (blk_cell (blk_alloc HK40.out o) 1).trans rfl
        go_wp2_with fail
        clear c_o0 f_o0 a_o0 c_o1 f_o1 a_o1
        obtain ⟨v4, he4⟩ : ∃ W, W = (w5.alloc (.cells #[Value.slice Dcs ss.length Dcsd, Value.slice Dct ts.length Dctd] 25)) := ⟨_, rfl⟩
        have hb_ : Below w5.heap.size w5 v4 := by rw [he4]; exact below_alloc (Below.refl _ _) _
        have HZ4 := Aside0.mk (show v4.heap.size = w5.heap.size + 1 by rw [he4]; simp)
        have HN4 := Aside0.mk (show v4.heap[w5.heap.size]? = some (.cells #[Value.slice Dcs ss.length Dcsd, Value.slice Dct ts.length Dctd] 25 (0, 0)) by rw [he4]; exact blk_new _ _)
        have HV4 := Aside0.mk (below_step (HB5.out) hb_)
        have HK46 := Aside0.mk (blk_below (HK40.out) hb_)
        have HK47 := Aside0.mk (blk_below (HK41.out) hb_)
        have HK48 := Aside0.mk (blk_below (HK42.out) hb_)
        have HK49 := Aside0.mk (blk_below (HK43.out) hb_)
        have HT50 := Aside0.mk ((HT44.out).below hb_)
        have HT51 := Aside0.mk ((HT45.out).below hb_)
        have HT52 := Aside0.mk ((HM5.out).below hb_)
        rw [← he4]
        clear he4
        refine (rSame.calls (As := Dcs) (cs := Dcsd) (At := Dct) (ct := Dctd) (Bs := As) (ds := cs) (Bt := At) (dt := ct) ss ts v4 (Kd.R_reads' HT52.out.1).2.2 (Kd.R_reads' HT52.out.2).2.2 (Kd.F_now HT50.out.1) (Kd.F_now HT50.out.2) hsl3 HTB.out).mono ?_
        rintro e w6 ⟨rfl, hb6⟩
        have HB6 := Aside0.mk (below_step (HV4.out) hb6)
        have HK53 := Aside0.mk (blk_below (HK46.out) hb6)
        have HK54 := Aside0.mk (blk_below (HK47.out) hb6)
        have HK55 := Aside0.mk (blk_below (HK48.out) hb6)
        have HK56 := Aside0.mk (blk_below (HK49.out) hb6)
        have HK57 := Aside0.mk (blk_below (HN4.out) hb6)
        have HT58 := Aside0.mk ((HT50.out).below hb6)
        have HT59 := Aside0.mk ((HT51.out).below hb6)
        have HT60 := Aside0.mk ((HT52.out).below hb6)
        have HS6 := Aside0.mk hb6
        clear hb6
        go_wp2_with fail
        refine (columns.calls w6).mono ?_
        rintro e w7 ⟨rfl, hb7⟩
        have HB7 := Aside0.mk (below_step (HB6.out) hb7)
        have HK61 := Aside0.mk (blk_below (HK53.out) hb7)
        have HK62 := Aside0.mk (blk_below (HK54.out) hb7)
        have HK63 := Aside0.mk (blk_below (HK55.out) hb7)
        have HT64 := Aside0.mk ((HT58.out).below hb7)
        have HS7 := Aside0.mk hb7
        clear hb7
        go_wp2_with fail
        refine (rules.calls w7).mono ?_
        rintro e w8 ⟨rfl, hb8⟩
        have HB8 := Aside0.mk (below_step (HB7.out) hb8)
        have HS8 := Aside0.mk hb8
        clear hb8
        go_wp2_with fail
        refine (schemas.calls w8).mono ?_
        rintro e w9 ⟨rfl, hb9⟩
        have HB9 := Aside0.mk (below_step (HB8.out) hb9)
        have HS9 := Aside0.mk hb9
        clear hb9
        go_wp2
        go_ret
        exact ⟨rfl, HB9.out⟩
      case neg =>
        have nrc : (rc.1 == 0) = false := beq_eq_false_iff_ne.2 zrc
        have HZRC := Aside0.mk zrc
        clear zrc
        go_wp2_with fail
        obtain ⟨v3, he3⟩ : ∃ W, W = (w4.alloc (.cells #[Value.slice Ecs rc.2.1.length Ecsd, Value.slice Ect rc.2.2.length Ectd] 25)) := ⟨_, rfl⟩
        have hb_ : Below w4.heap.size w4 v3 := by rw [he3]; exact below_alloc (Below.refl _ _) _
        have HZ3 := Aside0.mk (show v3.heap.size = w4.heap.size + 1 by rw [he3]; simp)
        have HN3 := Aside0.mk (show v3.heap[w4.heap.size]? = some (.cells #[Value.slice Ecs rc.2.1.length Ecsd, Value.slice Ect rc.2.2.length Ectd] 25 (0, 0)) by rw [he3]; exact blk_new _ _)
        have HV3 := Aside0.mk (below_step (HB4.out) hb_)
        have HK35 := Aside0.mk (blk_below (HK27.out) hb_)
        have HK36 := Aside0.mk (blk_below (HK28.out) hb_)
        have HK37 := Aside0.mk (blk_below (HK29.out) hb_)
        have HT38 := Aside0.mk ((HT32.out).below hb_)
        rw [← he3]
        clear he3
        refine (columns.calls v3).mono ?_
        rintro e w5 ⟨rfl, hb5⟩
        have HB5 := Aside0.mk (below_step (HV3.out) hb5)
        have HK39 := Aside0.mk (blk_below (HK35.out) hb5)
        have HK40 := Aside0.mk (blk_below (HK36.out) hb5)
        have HK41 := Aside0.mk (blk_below (HK37.out) hb5)
        have HK42 := Aside0.mk (blk_below (HN3.out) hb5)
        have HT43 := Aside0.mk ((HT38.out).below hb5)
        have HS5 := Aside0.mk hb5
        clear hb5
        go_wp2_with fail
        refine (rules.calls w5).mono ?_
        rintro e w6 ⟨rfl, hb6⟩
        have HB6 := Aside0.mk (below_step (HB5.out) hb6)
        have HS6 := Aside0.mk hb6
        clear hb6
        go_wp2_with fail
        refine (schemas.calls w6).mono ?_
        rintro e w7 ⟨rfl, hb7⟩
        have HB7 := Aside0.mk (below_step (HB6.out) hb7)
        have HS7 := Aside0.mk hb7
        clear hb7
        go_wp2
        go_ret
        exact ⟨rfl, HB7.out⟩
theorem law_ObjectsBack.deep (x : List Sch × List Tab) (c : Option Addr × Nat × Option Addr × Nat) (a1 a2 : ByteArray) (y : Col) (d : Unit) (z : Rul) (q : Option Addr × Nat) (w : World) (h : ObjIn w x c) (_ : a1.size ≤ 140737488351232) (_ : a2.size ≤ 140737488351232) (_ : y.name.size ≤ 140737488351232) (h3 : RulIn w z q) : Calls Tryz.prog 4 #[objV x c, .string a1, .string a2, colV y d, rulV z q] w fun e w' => e = .returned (.bool true) ∧ Below w.heap.size w w' :=
  law_ObjectsBack.calls x.1 x.2 a1 a2 y z w h.1 (by have := h.2.1; omega) h.2.2.1 h.2.2.2.1 h3.2 h3.1
end Go.Proofs.YtmmiehckgkadgaaGreat.O
