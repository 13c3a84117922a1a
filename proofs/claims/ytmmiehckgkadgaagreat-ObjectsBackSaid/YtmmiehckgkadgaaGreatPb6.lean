/- Own lemmas and walks (RE, RF), without what the law does not need. Laid by a program of this session (prune.py). -/
import Derived.Deep.RegionHeld3
import Derived.Laws.EntriesVeiled
import Derived.Deep.LoopGhost
import Derived.WalkLawsBesides
import Derived.Test.YtmmiehckgkadgaaGreatProg
import Derived.OpenShut
import Derived.OrdersHeld
import Derived.Laws.BitsLemmas
import Derived.RowKit
import Derived.Shelf.SlSortCmp.WholeK
import Derived.Shelf.SlSortCmp.NoneTotal
import Derived.Shelf.SlGeneric
import Derived.Shelf.Small.Strs
import Derived.Shelf.Strings.Search1
import Derived.Ground.SlsfProg
import Derived.Ground.NamesProg
import Derived.BigQuiet
import Derived.Shelf.RegionOpen
import Derived.RangeFuncNested
import Derived.RangeFuncBox
import Derived.RangeFuncLeaves
import Derived.Shelf.Abstract
import Derived.OwnWalkIn
import Derived.TacticsInMore
import Derived.LoopNIn
import Derived.LoopIn
import Derived.Test.YtmmiehckgkadgaaGreatPr0
import Derived.Test.YtmmiehckgkadgaaGreatPr1
import Derived.Test.YtmmiehckgkadgaaGreatPr2
import Derived.Test.YtmmiehckgkadgaaGreatPr3
import Derived.Test.YtmmiehckgkadgaaGreatPr4
import Derived.Test.YtmmiehckgkadgaaGreatPr5
import Derived.Test.YtmmiehckgkadgaaGreatPr6
import Derived.Test.YtmmiehckgkadgaaGreatPr7
import Derived.Test.YtmmiehckgkadgaaGreatPr8
import Derived.Test.YtmmiehckgkadgaaGreatPr9
import Derived.Test.YtmmiehckgkadgaaGreatPr10
import Derived.Test.YtmmiehckgkadgaaGreatPr11
import Derived.Test.YtmmiehckgkadgaaGreatPr12
import Derived.Test.YtmmiehckgkadgaaGreatPr13
import Derived.Test.YtmmiehckgkadgaaGreatPr14
import Derived.Test.YtmmiehckgkadgaaGreatPr15
import Derived.Test.YtmmiehckgkadgaaGreatPr16
import Derived.Test.YtmmiehckgkadgaaGreatPr17
import Derived.Test.YtmmiehckgkadgaaGreatPr18
import Derived.Test.YtmmiehckgkadgaaGreatPr19
import Derived.Test.YtmmiehckgkadgaaGreatPr20
import Derived.Test.YtmmiehckgkadgaaGreatPr21
import Derived.Test.YtmmiehckgkadgaaGreatPr22
import Derived.Test.YtmmiehckgkadgaaGreatPr23
import Derived.Test.YtmmiehckgkadgaaGreatPr24
import Derived.Test.YtmmiehckgkadgaaGreatPr25
import Derived.Test.YtmmiehckgkadgaaGreatPr26
import Derived.Test.YtmmiehckgkadgaaGreatPr27
import Derived.Test.YtmmiehckgkadgaaGreatPr28
import Derived.Test.YtmmiehckgkadgaaGreatPr29
import Derived.Test.YtmmiehckgkadgaaGreatPr30
import Derived.Test.YtmmiehckgkadgaaGreatPr31
import Derived.Test.YtmmiehckgkadgaaGreatPb0
import Derived.Test.YtmmiehckgkadgaaGreatPb1
import Derived.Test.YtmmiehckgkadgaaGreatPb2
import Derived.Test.YtmmiehckgkadgaaGreatPb3
import Derived.Test.YtmmiehckgkadgaaGreatPb4
namespace Go.Proofs.YtmmiehckgkadgaaGreat.O
set_option linter.unusedVariables false
set_option linter.unusedSimpArgs false
open Go.RowKit Go.Proofs.YtmmiehckgkadgaaGreatW.PrintWords Go.Sort
def rulF : Rul := ⟨⟨#[102]⟩, 4, [⟨#[120]⟩], 0, 0, ⟨#[115]⟩, ⟨#[116]⟩, ⟨#[107]⟩⟩
def rulG : Rul := ⟨⟨#[102]⟩, 4, [⟨#[121]⟩], 0, 0, ⟨#[115]⟩, ⟨#[116]⟩, ⟨#[107]⟩⟩
def tabF : Tab := { tab1 with rules := [rulF, rul1] }
theorem addRule_one : addRule [sch1] [tab1] ⟨#[115]⟩ ⟨#[116]⟩ rulF = (0, [sch1], [tabF]) := by
  unfold addRule
  rw [tch_good (k := 0) (t := tabF) checkB_one one_at (by decide) (by
    show addRulM [tab1] rulF tab1 = (0, tabF)
    unfold addRulM
    have e : ins (ltOf cfR) rulF tab1.rules = [rulF, rul1] := by
      show (if ltOf cfR rulF rul1 = true then _ else _) = _
      rw [if_pos (by decide +kernel)]
    rw [if_pos (by decide +kernel), if_neg (by decide +kernel), if_neg (by decide), if_neg (by decide +kernel), e]; rfl)]
  rfl
theorem addRule_one2 : addRule [sch1] [tab1] ⟨#[115]⟩ ⟨#[116]⟩ rulG = (63, [], []) := by
  unfold addRule
  rw [tch_bad (k := 0) (n := 63) checkB_one one_at (by decide) (by
    show (addRulM [tab1] rulG tab1).1 = 63
    unfold addRulM
    rw [if_pos (by decide +kernel), if_neg (by decide +kernel), if_neg (by decide), if_pos (by decide +kernel)]
    decide +kernel) (by decide)]
theorem checkB_F : checkB [sch1] [tabF] = true := by decide +kernel
theorem F_at : idx (isT ⟨#[115]⟩ ⟨#[116]⟩) [tabF] = ((0 : Nat) : Int) := by decide +kernel
theorem dropRule_one : dropRule [sch1] [tabF] ⟨#[115]⟩ ⟨#[116]⟩ ⟨#[107]⟩ = (62, [], []) := by
  unfold dropRule
  rw [tch_bad (k := 0) (n := 62) checkB_F F_at (by decide) (by
    show (dropRulM [tabF] ⟨#[115]⟩ ⟨#[116]⟩ ⟨#[107]⟩ tabF).1 = 62
    unfold dropRulM
    rw [if_pos (by decide +kernel), if_pos (by decide +kernel)]) (by decide)]
theorem rulF_F : RulF rulF := ⟨by decide, by decide, by decide, by decide⟩
theorem rulG_F : RulF rulG := ⟨by decide, by decide, by decide, by decide⟩
theorem tabsF_F : TabsF [tabF] := ⟨by decide, fun t ht => by
  obtain rfl : t = tabF := by simpa using ht
  exact ⟨by decide, by decide, fun r hr => by
    rcases List.mem_cons.1 hr with rfl | hr
    · exact rulF_F
    · obtain rfl : r = rul1 := by simpa using hr
      exact ⟨by decide, by decide, by decide, by decide⟩⟩⟩
theorem tabsB_F : TabsB [tabF] := ⟨by decide, fun t ht => by
  obtain rfl : t = tabF := by simpa using ht
  exact ⟨by decide, by decide, fun r hr => by
    rcases List.mem_cons.1 hr with rfl | hr
    · show _ ≤ _
      decide
    · obtain rfl : r = rul1 := by simpa using hr
      show _ ≤ _
      decide⟩⟩
theorem str_new (W : World) (s : ByteArray) : Kd.string.C (W.alloc (.cells #[.string s] 9)) (some ⟨W.heap.size, 0, none⟩) 1 [s] := C_one rfl rfl (cell_in (X := W) (c := [.string s]) (t := 9) rfl (Below.refl _ _))
theorem addOneR {As At A2 : Option Addr} {cs ct c2 : Nat} (W : World) (hs : kSch.C W As 1 [sch1]) (ht : kTab.C W At 1 [tab1]) (h2 : Kd.string.C W A2 1 [⟨#[120]⟩]) : Calls Tryz.prog 8 #[.agg #[.slice As 1 cs, .slice At 1 ct], .string ⟨#[115]⟩, .string ⟨#[116]⟩, .agg #[.string ⟨#[102]⟩, .int .i64 4, .slice A2 1 c2, .int .i64 0, .int .i64 0, .string ⟨#[115]⟩, .string ⟨#[116]⟩, .string ⟨#[107]⟩]] W fun e w' => ∃ Es es Et et, e = .returned (.tuple #[.agg #[.slice Es 1 es, .slice Et 1 et], .int .i64 0]) ∧ OM w' W.heap.size w'.heap.size (.slice Es 1 es) (.slice Et 1 et) [sch1] [tabF] ∧ Below W.heap.size W w' := by
  have h := calls_made (AddRule.calls (cs := cs) (ct := ct) (c2 := c2) [sch1] [tab1] ⟨#[115]⟩ ⟨#[116]⟩ rulF W hs (by decide) ht tabsF_one tabsB_one h2 rulF_F (by decide))
  rw [addRule_one] at h
  exact h
theorem addOneR2 {As At A2 : Option Addr} {cs ct c2 : Nat} (W : World) (hs : kSch.C W As 1 [sch1]) (ht : kTab.C W At 1 [tab1]) (h2 : Kd.string.C W A2 1 [⟨#[121]⟩]) : Calls Tryz.prog 8 #[.agg #[.slice As 1 cs, .slice At 1 ct], .string ⟨#[115]⟩, .string ⟨#[116]⟩, .agg #[.string ⟨#[102]⟩, .int .i64 4, .slice A2 1 c2, .int .i64 0, .int .i64 0, .string ⟨#[115]⟩, .string ⟨#[116]⟩, .string ⟨#[107]⟩]] W fun e w' => ∃ Es es Et et, e = .returned (.tuple #[.agg #[.slice Es 0 es, .slice Et 0 et], .int .i64 63]) ∧ OM w' W.heap.size w'.heap.size (.slice Es 0 es) (.slice Et 0 et) [] [] ∧ Below W.heap.size W w' := by
  have h := calls_made (AddRule.calls (cs := cs) (ct := ct) (c2 := c2) [sch1] [tab1] ⟨#[115]⟩ ⟨#[116]⟩ rulG W hs (by decide) ht tabsF_one tabsB_one h2 rulG_F (by decide))
  rw [addRule_one2] at h
  exact h
theorem dropOneR {As At : Option Addr} {cs ct : Nat} (W : World) (hs : kSch.C W As 1 [sch1]) (ht : kTab.C W At 1 [tabF]) : Calls Tryz.prog 10 #[.agg #[.slice As 1 cs, .slice At 1 ct], .string ⟨#[115]⟩, .string ⟨#[116]⟩, .string ⟨#[107]⟩] W fun e w' => ∃ Es es Et et, e = .returned (.tuple #[.agg #[.slice Es 0 es, .slice Et 0 et], .int .i64 62]) ∧ OM w' W.heap.size w'.heap.size (.slice Es 0 es) (.slice Et 0 et) [] [] ∧ Below W.heap.size W w' := by
  have h := calls_made (DropRule.calls (cs := cs) (ct := ct) [sch1] [tabF] ⟨#[115]⟩ ⟨#[116]⟩ ⟨#[107]⟩ W hs (by decide) ht tabsF_F tabsB_F)
  rw [dropRule_one] at h
  exact h
end Go.Proofs.YtmmiehckgkadgaaGreat.O
namespace Go.Proofs.YtmmiehckgkadgaaGreat.O
set_option linter.unusedVariables false
set_option linter.unusedSimpArgs false
open Go.RowKit Go.Proofs.YtmmiehckgkadgaaGreatW.PrintWords
theorem oneRulsR {W : World} {base : Nat} {Et : Option Addr} {et : Nat} (h : kTab.R 50 W base (fun _ => True) (.slice Et 1 et) [tabF]) : ∃ ad ad4 c4, Et = some ad ∧ W.cell? ⟨ad.block, ad.off + 4, none⟩ = some (.slice (some ad4) 2 c4) ∧ W.cell? ad4 = some (.string ⟨#[102]⟩) := by
  obtain ⟨ad, A3, c3, A4, c4, e, _, _, _, _, x4, _, _, _, hC⟩ := tabAt (Kd.R_reads' h).2.2 0 (by simp)
  obtain ⟨ad4, A2, c2, e4, r0, _⟩ := rulAt hC 0 (by decide)
  subst e4
  exact ⟨ad, ad4, c4, e, by show W.cell? _ = some (.slice (some ad4) tabF.rules.length c4); simpa [Addr.add] using x4, by show W.cell? _ = some (.string tabF.rules[0].name); simpa [Addr.add] using r0⟩
set_option maxRecDepth 20000 in
set_option maxHeartbeats 8000000 in
theorem rules.calls (w : World) : Calls Tryz.prog 12 #[] w fun e w' => e = .returned (.bool true) ∧ Below w.heap.size w w' := by
  have H1 := Aside0.mk (boxes2 w (.cells #[.string ⟨#[120]⟩] 9) (.cells #[.string ⟨#[102]⟩, .int .i64 4, .slice (some ⟨w.heap.size, 0, none⟩) 1 1, .int .i64 0, .int .i64 0, .string ⟨#[115]⟩, .string ⟨#[116]⟩, .string ⟨#[107]⟩] 29))
  have H2 := Aside0.mk (Kd.C_below (str_new w ⟨#[120]⟩) (below_alloc (Below.refl _ _) (.cells #[.string ⟨#[102]⟩, .int .i64 4, .slice (some ⟨w.heap.size, 0, none⟩) 1 1, .int .i64 0, .int .i64 0, .string ⟨#[115]⟩, .string ⟨#[116]⟩, .string ⟨#[107]⟩] 29)))
  have r0 : ((w.alloc (.cells #[.string ⟨#[120]⟩] 9)).alloc (.cells #[.string ⟨#[102]⟩, .int .i64 4, .slice (some ⟨w.heap.size, 0, none⟩) 1 1, .int .i64 0, .int .i64 0, .string ⟨#[115]⟩, .string ⟨#[116]⟩, .string ⟨#[107]⟩] 29)).cell? ⟨w.heap.size + 1, 0, none⟩ = some (Value.string ⟨#[102]⟩) := (blk_cell H1.out.2.2 0).trans rfl
  have r1 : ((w.alloc (.cells #[.string ⟨#[120]⟩] 9)).alloc (.cells #[.string ⟨#[102]⟩, .int .i64 4, .slice (some ⟨w.heap.size, 0, none⟩) 1 1, .int .i64 0, .int .i64 0, .string ⟨#[115]⟩, .string ⟨#[116]⟩, .string ⟨#[107]⟩] 29)).cell? ⟨w.heap.size + 1, 1, none⟩ = some (Value.int .i64 4) := (blk_cell H1.out.2.2 1).trans rfl
  have r2 : ((w.alloc (.cells #[.string ⟨#[120]⟩] 9)).alloc (.cells #[.string ⟨#[102]⟩, .int .i64 4, .slice (some ⟨w.heap.size, 0, none⟩) 1 1, .int .i64 0, .int .i64 0, .string ⟨#[115]⟩, .string ⟨#[116]⟩, .string ⟨#[107]⟩] 29)).cell? ⟨w.heap.size + 1, 2, none⟩ = some (Value.slice (some ⟨w.heap.size, 0, none⟩) 1 1) := (blk_cell H1.out.2.2 2).trans rfl
  have r3 : ((w.alloc (.cells #[.string ⟨#[120]⟩] 9)).alloc (.cells #[.string ⟨#[102]⟩, .int .i64 4, .slice (some ⟨w.heap.size, 0, none⟩) 1 1, .int .i64 0, .int .i64 0, .string ⟨#[115]⟩, .string ⟨#[116]⟩, .string ⟨#[107]⟩] 29)).cell? ⟨w.heap.size + 1, 3, none⟩ = some (Value.int .i64 0) := (blk_cell H1.out.2.2 3).trans rfl
  have r4 : ((w.alloc (.cells #[.string ⟨#[120]⟩] 9)).alloc (.cells #[.string ⟨#[102]⟩, .int .i64 4, .slice (some ⟨w.heap.size, 0, none⟩) 1 1, .int .i64 0, .int .i64 0, .string ⟨#[115]⟩, .string ⟨#[116]⟩, .string ⟨#[107]⟩] 29)).cell? ⟨w.heap.size + 1, 4, none⟩ = some (Value.int .i64 0) := (blk_cell H1.out.2.2 4).trans rfl
  have r5 : ((w.alloc (.cells #[.string ⟨#[120]⟩] 9)).alloc (.cells #[.string ⟨#[102]⟩, .int .i64 4, .slice (some ⟨w.heap.size, 0, none⟩) 1 1, .int .i64 0, .int .i64 0, .string ⟨#[115]⟩, .string ⟨#[116]⟩, .string ⟨#[107]⟩] 29)).cell? ⟨w.heap.size + 1, 5, none⟩ = some (Value.string ⟨#[115]⟩) := (blk_cell H1.out.2.2 5).trans rfl
  have r6 : ((w.alloc (.cells #[.string ⟨#[120]⟩] 9)).alloc (.cells #[.string ⟨#[102]⟩, .int .i64 4, .slice (some ⟨w.heap.size, 0, none⟩) 1 1, .int .i64 0, .int .i64 0, .string ⟨#[115]⟩, .string ⟨#[116]⟩, .string ⟨#[107]⟩] 29)).cell? ⟨w.heap.size + 1, 6, none⟩ = some (Value.string ⟨#[116]⟩) := (blk_cell H1.out.2.2 6).trans rfl
  have r7 : ((w.alloc (.cells #[.string ⟨#[120]⟩] 9)).alloc (.cells #[.string ⟨#[102]⟩, .int .i64 4, .slice (some ⟨w.heap.size, 0, none⟩) 1 1, .int .i64 0, .int .i64 0, .string ⟨#[115]⟩, .string ⟨#[116]⟩, .string ⟨#[107]⟩] 29)).cell? ⟨w.heap.size + 1, 7, none⟩ = some (Value.string ⟨#[107]⟩) := (blk_cell H1.out.2.2 7).trans rfl
  have W1a : ∀ {n : Nat}, ((w.alloc (.cells #[.string ⟨#[120]⟩] 9)).alloc (.cells #[.string ⟨#[102]⟩, .int .i64 4, .slice (some ⟨w.heap.size, 0, none⟩) 1 1, .int .i64 0, .int .i64 0, .string ⟨#[115]⟩, .string ⟨#[116]⟩, .string ⟨#[107]⟩] 29)).drew.heap.size = n → (((w.alloc (.cells #[.string ⟨#[120]⟩] 9)).alloc (.cells #[.string ⟨#[102]⟩, .int .i64 4, .slice (some ⟨w.heap.size, 0, none⟩) 1 1, .int .i64 0, .int .i64 0, .string ⟨#[115]⟩, .string ⟨#[116]⟩, .string ⟨#[107]⟩] 29)).drew.alloc (.cells #[.slice none 0 0, .slice none 0 0] 25)).heap[n]? = some (.cells #[.slice none 0 0, .slice none 0 0] 25 (0, 0)) := fun e => by subst e; exact blk_new _ _
  have hW1s : ((w.alloc (.cells #[.string ⟨#[120]⟩] 9)).alloc (.cells #[.string ⟨#[102]⟩, .int .i64 4, .slice (some ⟨w.heap.size, 0, none⟩) 1 1, .int .i64 0, .int .i64 0, .string ⟨#[115]⟩, .string ⟨#[116]⟩, .string ⟨#[107]⟩] 29)).drew.heap.size = w.heap.size + 1 + 1 := by show ((w.alloc (.cells #[.string ⟨#[120]⟩] 9)).alloc (.cells #[.string ⟨#[102]⟩, .int .i64 4, .slice (some ⟨w.heap.size, 0, none⟩) 1 1, .int .i64 0, .int .i64 0, .string ⟨#[115]⟩, .string ⟨#[116]⟩, .string ⟨#[107]⟩] 29)).heap.size = _; simp
  go_enter Tryz.func12, Tryz.ntmps12
  go_wp2
  go_region_held3 (fun w' => w'.cell? ⟨w.heap.size + 1, 0, none⟩ = some (Value.string ⟨#[102]⟩) ∧ w'.cell? ⟨w.heap.size + 1, 1, none⟩ = some (Value.int .i64 4) ∧ w'.cell? ⟨w.heap.size + 1, 2, none⟩ = some (Value.slice (some ⟨w.heap.size, 0, none⟩) 1 1) ∧ w'.cell? ⟨w.heap.size + 1, 3, none⟩ = some (Value.int .i64 0) ∧ w'.cell? ⟨w.heap.size + 1, 4, none⟩ = some (Value.int .i64 0) ∧ w'.cell? ⟨w.heap.size + 1, 5, none⟩ = some (Value.string ⟨#[115]⟩) ∧ w'.cell? ⟨w.heap.size + 1, 6, none⟩ = some (Value.string ⟨#[116]⟩) ∧ w'.cell? ⟨w.heap.size + 1, 7, none⟩ = some (Value.string ⟨#[107]⟩) ∧ Below ((w.alloc (.cells #[.string ⟨#[120]⟩] 9)).alloc (.cells #[.string ⟨#[102]⟩, .int .i64 4, .slice (some ⟨w.heap.size, 0, none⟩) 1 1, .int .i64 0, .int .i64 0, .string ⟨#[115]⟩, .string ⟨#[116]⟩, .string ⟨#[107]⟩] 29)).heap.size ((w.alloc (.cells #[.string ⟨#[120]⟩] 9)).alloc (.cells #[.string ⟨#[102]⟩, .int .i64 4, .slice (some ⟨w.heap.size, 0, none⟩) 1 1, .int .i64 0, .int .i64 0, .string ⟨#[115]⟩, .string ⟨#[116]⟩, .string ⟨#[107]⟩] 29)) w')
    (first | exact kq8 (by assumption) (by assumption) | exact kq8 (by assumption) (below_alloc (Below.refl _ _) _) | exact kq8 (w := ((w.alloc (.cells #[.string ⟨#[120]⟩] 9)).alloc (.cells #[.string ⟨#[102]⟩, .int .i64 4, .slice (some ⟨w.heap.size, 0, none⟩) 1 1, .int .i64 0, .int .i64 0, .string ⟨#[115]⟩, .string ⟨#[116]⟩, .string ⟨#[107]⟩] 29)).drew) ⟨r0, r1, r2, r3, r4, r5, r6, r7, below_drew (Below.refl _ _)⟩ (below_alloc (below_step hb1 hb2) _) | exact kq8 (w := ((w.alloc (.cells #[.string ⟨#[120]⟩] 9)).alloc (.cells #[.string ⟨#[102]⟩, .int .i64 4, .slice (some ⟨w.heap.size, 0, none⟩) 1 1, .int .i64 0, .int .i64 0, .string ⟨#[115]⟩, .string ⟨#[116]⟩, .string ⟨#[107]⟩] 29)).drew) ⟨r0, r1, r2, r3, r4, r5, r6, r7, below_drew (Below.refl _ _)⟩ (below_set (below_set (below_step (below_step (below_alloc (Below.refl _ _) _) hb1) hb2) (Nat.le_of_eq hW1s)) (Nat.le_of_eq hW1s)) | exact kq8 (w := ((w.alloc (.cells #[.string ⟨#[120]⟩] 9)).alloc (.cells #[.string ⟨#[102]⟩, .int .i64 4, .slice (some ⟨w.heap.size, 0, none⟩) 1 1, .int .i64 0, .int .i64 0, .string ⟨#[115]⟩, .string ⟨#[116]⟩, .string ⟨#[107]⟩] 29)).drew) ⟨r0, r1, r2, r3, r4, r5, r6, r7, below_drew (Below.refl _ _)⟩ (below_set (below_set (below_step hb1 (below_step (below_alloc (Below.refl _ _) _) hb2)) hb1.size) hb1.size) | exact ⟨r0, r1, r2, r3, r4, r5, r6, r7, below_drew (Below.refl _ _)⟩)
    (first
      | (go_at_call 46; refine (one.calls _).mono ?_; rintro e k1 ⟨As1, cs1, At1, ct1, rfl, l1, l2, hs1, ht1, hb1⟩)
      | (go_at_call 8; refine (addOneR (cs := cs1) (ct := ct1) (c2 := 1) _ (Kd.C_below hs1 (by first | exact Below.refl _ _ | exact below_alloc (Below.refl _ _) _)) (Kd.C_below ht1 (by first | exact Below.refl _ _ | exact below_alloc (Below.refl _ _) _)) (Kd.C_below H2.out (show _ ∧ _ ∧ _ ∧ _ ∧ _ ∧ _ ∧ _ ∧ _ ∧ Below _ _ _ from by assumption).2.2.2.2.2.2.2.2)).mono ?_; rintro e k2 ⟨Es, es, Et, et, rfl, hx, hb2⟩; (first | (have zz := blk_below (blk_below (W1a hW1s) hb1) hb2; have z0 : k2.cell? ⟨w.heap.size + 1 + 1, 0, none⟩ = some (.slice none 0 0) := (blk_cell zz 0).trans rfl; have z1 : k2.cell? ⟨w.heap.size + 1 + 1, 1, none⟩ = some (.slice none 0 0) := (blk_cell zz 1).trans rfl; have y0 := blk_frozen zz 0; have y1 := blk_frozen zz 1) | (have zz := blk_below (blk_new k1 (.cells #[.slice none 0 0, .slice none 0 0] 25)) hb2; have z0 : k2.cell? ⟨k1.heap.size, 0, none⟩ = some (.slice none 0 0) := (blk_cell zz 0).trans rfl; have z1 : k2.cell? ⟨k1.heap.size, 1, none⟩ = some (.slice none 0 0) := (blk_cell zz 1).trans rfl; have y0 := blk_frozen zz 0; have y1 := blk_frozen zz 1) | skip)))
  all_goals
    first
      | (have h5b : (k2.alloc (.cells #[.slice Es 1 es, .slice Et 1 et] 25)).heap[k2.heap.size]? = some (.cells #[.slice Es 1 es, .slice Et 1 et] 25 (0, 0)) := blk_new _ _
         have h5w : Below ((w.alloc (.cells #[.string ⟨#[120]⟩] 9)).alloc (.cells #[.string ⟨#[102]⟩, .int .i64 4, .slice (some ⟨w.heap.size, 0, none⟩) 1 1, .int .i64 0, .int .i64 0, .string ⟨#[115]⟩, .string ⟨#[116]⟩, .string ⟨#[107]⟩] 29)).heap.size ((w.alloc (.cells #[.string ⟨#[120]⟩] 9)).alloc (.cells #[.string ⟨#[102]⟩, .int .i64 4, .slice (some ⟨w.heap.size, 0, none⟩) 1 1, .int .i64 0, .int .i64 0, .string ⟨#[115]⟩, .string ⟨#[116]⟩, .string ⟨#[107]⟩] 29)) (k2.alloc (.cells #[.slice Es 1 es, .slice Et 1 et] 25)) := (show (k2.alloc (.cells #[.slice Es 1 es, .slice Et 1 et] 25)).cell? ⟨w.heap.size + 1, 0, none⟩ = some (Value.string ⟨#[102]⟩) ∧ (k2.alloc (.cells #[.slice Es 1 es, .slice Et 1 et] 25)).cell? ⟨w.heap.size + 1, 1, none⟩ = some (Value.int .i64 4) ∧ (k2.alloc (.cells #[.slice Es 1 es, .slice Et 1 et] 25)).cell? ⟨w.heap.size + 1, 2, none⟩ = some (Value.slice (some ⟨w.heap.size, 0, none⟩) 1 1) ∧ (k2.alloc (.cells #[.slice Es 1 es, .slice Et 1 et] 25)).cell? ⟨w.heap.size + 1, 3, none⟩ = some (Value.int .i64 0) ∧ (k2.alloc (.cells #[.slice Es 1 es, .slice Et 1 et] 25)).cell? ⟨w.heap.size + 1, 4, none⟩ = some (Value.int .i64 0) ∧ (k2.alloc (.cells #[.slice Es 1 es, .slice Et 1 et] 25)).cell? ⟨w.heap.size + 1, 5, none⟩ = some (Value.string ⟨#[115]⟩) ∧ (k2.alloc (.cells #[.slice Es 1 es, .slice Et 1 et] 25)).cell? ⟨w.heap.size + 1, 6, none⟩ = some (Value.string ⟨#[116]⟩) ∧ (k2.alloc (.cells #[.slice Es 1 es, .slice Et 1 et] 25)).cell? ⟨w.heap.size + 1, 7, none⟩ = some (Value.string ⟨#[107]⟩) ∧ Below ((w.alloc (.cells #[.string ⟨#[120]⟩] 9)).alloc (.cells #[.string ⟨#[102]⟩, .int .i64 4, .slice (some ⟨w.heap.size, 0, none⟩) 1 1, .int .i64 0, .int .i64 0, .string ⟨#[115]⟩, .string ⟨#[116]⟩, .string ⟨#[107]⟩] 29)).heap.size ((w.alloc (.cells #[.string ⟨#[120]⟩] 9)).alloc (.cells #[.string ⟨#[102]⟩, .int .i64 4, .slice (some ⟨w.heap.size, 0, none⟩) 1 1, .int .i64 0, .int .i64 0, .string ⟨#[115]⟩, .string ⟨#[116]⟩, .string ⟨#[107]⟩] 29)) (k2.alloc (.cells #[.slice Es 1 es, .slice Et 1 et] 25)) from by assumption).2.2.2.2.2.2.2.2
         have h5l : w.heap.size + 1 + 1 ≤ k2.heap.size := by have h1 := hb1.size; have h2 := hb2.size; rw [hW1s] at h1; omega
         have h5s : kSch.R 76 (k2.alloc (.cells #[.slice Es 1 es, .slice Et 1 et] 25)) (w.heap.size + 1 + 1) (fun _ => True) (.slice Es 1 es) [sch1] := Kd.R_alloc (Kd.R_lower (Kd.R_mono hx.1 (fun _ _ => trivial)) (by have h1 := hb1.size; rw [hW1s] at h1; omega)) _
         have h5t : kTab.R 50 (k2.alloc (.cells #[.slice Es 1 es, .slice Et 1 et] 25)) (w.heap.size + 1 + 1) (fun _ => True) (.slice Et 1 et) [tabF] := Kd.R_alloc (Kd.R_lower (Kd.R_mono hx.2 (fun _ _ => trivial)) (by have h1 := hb1.size; rw [hW1s] at h1; omega)) _
         generalize k2.alloc (.cells #[.slice Es 1 es, .slice Et 1 et] 25) = W5 at h5b h5w h5s h5t ⊢
         generalize k2.heap.size = b at h5b h5l ⊢)
      | (have h5b := blk_set (blk_set zz 0 (.slice Es 1 es)) 1 (.slice Et 1 et)
         have h5w : Below ((w.alloc (.cells #[.string ⟨#[120]⟩] 9)).alloc (.cells #[.string ⟨#[102]⟩, .int .i64 4, .slice (some ⟨w.heap.size, 0, none⟩) 1 1, .int .i64 0, .int .i64 0, .string ⟨#[115]⟩, .string ⟨#[116]⟩, .string ⟨#[107]⟩] 29)).heap.size ((w.alloc (.cells #[.string ⟨#[120]⟩] 9)).alloc (.cells #[.string ⟨#[102]⟩, .int .i64 4, .slice (some ⟨w.heap.size, 0, none⟩) 1 1, .int .i64 0, .int .i64 0, .string ⟨#[115]⟩, .string ⟨#[116]⟩, .string ⟨#[107]⟩] 29)) ((k2.setCell ⟨k1.heap.size, 0, none⟩ (.slice Es 1 es)).setCell ⟨k1.heap.size, 1, none⟩ (.slice Et 1 et)) := (show ((k2.setCell ⟨k1.heap.size, 0, none⟩ (.slice Es 1 es)).setCell ⟨k1.heap.size, 1, none⟩ (.slice Et 1 et)).cell? ⟨w.heap.size + 1, 0, none⟩ = some (Value.string ⟨#[102]⟩) ∧ ((k2.setCell ⟨k1.heap.size, 0, none⟩ (.slice Es 1 es)).setCell ⟨k1.heap.size, 1, none⟩ (.slice Et 1 et)).cell? ⟨w.heap.size + 1, 1, none⟩ = some (Value.int .i64 4) ∧ ((k2.setCell ⟨k1.heap.size, 0, none⟩ (.slice Es 1 es)).setCell ⟨k1.heap.size, 1, none⟩ (.slice Et 1 et)).cell? ⟨w.heap.size + 1, 2, none⟩ = some (Value.slice (some ⟨w.heap.size, 0, none⟩) 1 1) ∧ ((k2.setCell ⟨k1.heap.size, 0, none⟩ (.slice Es 1 es)).setCell ⟨k1.heap.size, 1, none⟩ (.slice Et 1 et)).cell? ⟨w.heap.size + 1, 3, none⟩ = some (Value.int .i64 0) ∧ ((k2.setCell ⟨k1.heap.size, 0, none⟩ (.slice Es 1 es)).setCell ⟨k1.heap.size, 1, none⟩ (.slice Et 1 et)).cell? ⟨w.heap.size + 1, 4, none⟩ = some (Value.int .i64 0) ∧ ((k2.setCell ⟨k1.heap.size, 0, none⟩ (.slice Es 1 es)).setCell ⟨k1.heap.size, 1, none⟩ (.slice Et 1 et)).cell? ⟨w.heap.size + 1, 5, none⟩ = some (Value.string ⟨#[115]⟩) ∧ ((k2.setCell ⟨k1.heap.size, 0, none⟩ (.slice Es 1 es)).setCell ⟨k1.heap.size, 1, none⟩ (.slice Et 1 et)).cell? ⟨w.heap.size + 1, 6, none⟩ = some (Value.string ⟨#[116]⟩) ∧ ((k2.setCell ⟨k1.heap.size, 0, none⟩ (.slice Es 1 es)).setCell ⟨k1.heap.size, 1, none⟩ (.slice Et 1 et)).cell? ⟨w.heap.size + 1, 7, none⟩ = some (Value.string ⟨#[107]⟩) ∧ Below ((w.alloc (.cells #[.string ⟨#[120]⟩] 9)).alloc (.cells #[.string ⟨#[102]⟩, .int .i64 4, .slice (some ⟨w.heap.size, 0, none⟩) 1 1, .int .i64 0, .int .i64 0, .string ⟨#[115]⟩, .string ⟨#[116]⟩, .string ⟨#[107]⟩] 29)).heap.size ((w.alloc (.cells #[.string ⟨#[120]⟩] 9)).alloc (.cells #[.string ⟨#[102]⟩, .int .i64 4, .slice (some ⟨w.heap.size, 0, none⟩) 1 1, .int .i64 0, .int .i64 0, .string ⟨#[115]⟩, .string ⟨#[116]⟩, .string ⟨#[107]⟩] 29)) ((k2.setCell ⟨k1.heap.size, 0, none⟩ (.slice Es 1 es)).setCell ⟨k1.heap.size, 1, none⟩ (.slice Et 1 et)) from by assumption).2.2.2.2.2.2.2.2
         have h5l : w.heap.size + 1 + 1 ≤ k1.heap.size := by have h1 := hb1.size; rw [hW1s] at h1; omega
         have h5s : kSch.R 76 ((k2.setCell ⟨k1.heap.size, 0, none⟩ (.slice Es 1 es)).setCell ⟨k1.heap.size, 1, none⟩ (.slice Et 1 et)) (w.heap.size + 1 + 1) (fun _ => True) (.slice Es 1 es) [sch1] := Kd.R_set (Kd.R_set (Kd.R_lower (Kd.R_mono hx.1 (fun _ _ => trivial)) (by have h1 := hb1.size; rw [hW1s] at h1; simp; omega)) zz (by decide) 0 _) (blk_set zz 0 _) (by decide) 1 _
         have h5t : kTab.R 50 ((k2.setCell ⟨k1.heap.size, 0, none⟩ (.slice Es 1 es)).setCell ⟨k1.heap.size, 1, none⟩ (.slice Et 1 et)) (w.heap.size + 1 + 1) (fun _ => True) (.slice Et 1 et) [tabF] := Kd.R_set (Kd.R_set (Kd.R_lower (Kd.R_mono hx.2 (fun _ _ => trivial)) (by have h1 := hb1.size; rw [hW1s] at h1; simp; omega)) zz (by decide) 0 _) (blk_set zz 0 _) (by decide) 1 _
         generalize (k2.setCell ⟨k1.heap.size, 0, none⟩ (.slice Es 1 es)).setCell ⟨k1.heap.size, 1, none⟩ (.slice Et 1 et) = W5 at h5b h5w h5s h5t ⊢
         generalize k1.heap.size = b at h5b h5l ⊢)
      | (have h5b := blk_set (blk_set zz 0 (.slice Es 1 es)) 1 (.slice Et 1 et)
         have h5w : Below ((w.alloc (.cells #[.string ⟨#[120]⟩] 9)).alloc (.cells #[.string ⟨#[102]⟩, .int .i64 4, .slice (some ⟨w.heap.size, 0, none⟩) 1 1, .int .i64 0, .int .i64 0, .string ⟨#[115]⟩, .string ⟨#[116]⟩, .string ⟨#[107]⟩] 29)).heap.size ((w.alloc (.cells #[.string ⟨#[120]⟩] 9)).alloc (.cells #[.string ⟨#[102]⟩, .int .i64 4, .slice (some ⟨w.heap.size, 0, none⟩) 1 1, .int .i64 0, .int .i64 0, .string ⟨#[115]⟩, .string ⟨#[116]⟩, .string ⟨#[107]⟩] 29)) ((k2.setCell ⟨w.heap.size + 1 + 1, 0, none⟩ (.slice Es 1 es)).setCell ⟨w.heap.size + 1 + 1, 1, none⟩ (.slice Et 1 et)) := (show ((k2.setCell ⟨w.heap.size + 1 + 1, 0, none⟩ (.slice Es 1 es)).setCell ⟨w.heap.size + 1 + 1, 1, none⟩ (.slice Et 1 et)).cell? ⟨w.heap.size + 1, 0, none⟩ = some (Value.string ⟨#[102]⟩) ∧ ((k2.setCell ⟨w.heap.size + 1 + 1, 0, none⟩ (.slice Es 1 es)).setCell ⟨w.heap.size + 1 + 1, 1, none⟩ (.slice Et 1 et)).cell? ⟨w.heap.size + 1, 1, none⟩ = some (Value.int .i64 4) ∧ ((k2.setCell ⟨w.heap.size + 1 + 1, 0, none⟩ (.slice Es 1 es)).setCell ⟨w.heap.size + 1 + 1, 1, none⟩ (.slice Et 1 et)).cell? ⟨w.heap.size + 1, 2, none⟩ = some (Value.slice (some ⟨w.heap.size, 0, none⟩) 1 1) ∧ ((k2.setCell ⟨w.heap.size + 1 + 1, 0, none⟩ (.slice Es 1 es)).setCell ⟨w.heap.size + 1 + 1, 1, none⟩ (.slice Et 1 et)).cell? ⟨w.heap.size + 1, 3, none⟩ = some (Value.int .i64 0) ∧ ((k2.setCell ⟨w.heap.size + 1 + 1, 0, none⟩ (.slice Es 1 es)).setCell ⟨w.heap.size + 1 + 1, 1, none⟩ (.slice Et 1 et)).cell? ⟨w.heap.size + 1, 4, none⟩ = some (Value.int .i64 0) ∧ ((k2.setCell ⟨w.heap.size + 1 + 1, 0, none⟩ (.slice Es 1 es)).setCell ⟨w.heap.size + 1 + 1, 1, none⟩ (.slice Et 1 et)).cell? ⟨w.heap.size + 1, 5, none⟩ = some (Value.string ⟨#[115]⟩) ∧ ((k2.setCell ⟨w.heap.size + 1 + 1, 0, none⟩ (.slice Es 1 es)).setCell ⟨w.heap.size + 1 + 1, 1, none⟩ (.slice Et 1 et)).cell? ⟨w.heap.size + 1, 6, none⟩ = some (Value.string ⟨#[116]⟩) ∧ ((k2.setCell ⟨w.heap.size + 1 + 1, 0, none⟩ (.slice Es 1 es)).setCell ⟨w.heap.size + 1 + 1, 1, none⟩ (.slice Et 1 et)).cell? ⟨w.heap.size + 1, 7, none⟩ = some (Value.string ⟨#[107]⟩) ∧ Below ((w.alloc (.cells #[.string ⟨#[120]⟩] 9)).alloc (.cells #[.string ⟨#[102]⟩, .int .i64 4, .slice (some ⟨w.heap.size, 0, none⟩) 1 1, .int .i64 0, .int .i64 0, .string ⟨#[115]⟩, .string ⟨#[116]⟩, .string ⟨#[107]⟩] 29)).heap.size ((w.alloc (.cells #[.string ⟨#[120]⟩] 9)).alloc (.cells #[.string ⟨#[102]⟩, .int .i64 4, .slice (some ⟨w.heap.size, 0, none⟩) 1 1, .int .i64 0, .int .i64 0, .string ⟨#[115]⟩, .string ⟨#[116]⟩, .string ⟨#[107]⟩] 29)) ((k2.setCell ⟨w.heap.size + 1 + 1, 0, none⟩ (.slice Es 1 es)).setCell ⟨w.heap.size + 1 + 1, 1, none⟩ (.slice Et 1 et)) from by assumption).2.2.2.2.2.2.2.2
         have h5l : w.heap.size + 1 + 1 ≤ w.heap.size + 1 + 1 := Nat.le_refl _
         have h5s : kSch.R 76 ((k2.setCell ⟨w.heap.size + 1 + 1, 0, none⟩ (.slice Es 1 es)).setCell ⟨w.heap.size + 1 + 1, 1, none⟩ (.slice Et 1 et)) (w.heap.size + 1 + 1) (fun _ => True) (.slice Es 1 es) [sch1] := Kd.R_set (Kd.R_set (Kd.R_lower (Kd.R_mono hx.1 (fun _ _ => trivial)) (by have h1 := hb1.size; simp at h1; omega)) zz (by decide) 0 _) (blk_set zz 0 _) (by decide) 1 _
         have h5t : kTab.R 50 ((k2.setCell ⟨w.heap.size + 1 + 1, 0, none⟩ (.slice Es 1 es)).setCell ⟨w.heap.size + 1 + 1, 1, none⟩ (.slice Et 1 et)) (w.heap.size + 1 + 1) (fun _ => True) (.slice Et 1 et) [tabF] := Kd.R_set (Kd.R_set (Kd.R_lower (Kd.R_mono hx.2 (fun _ _ => trivial)) (by have h1 := hb1.size; simp at h1; omega)) zz (by decide) 0 _) (blk_set zz 0 _) (by decide) 1 _
         generalize (k2.setCell ⟨w.heap.size + 1 + 1, 0, none⟩ (.slice Es 1 es)).setCell ⟨w.heap.size + 1 + 1, 1, none⟩ (.slice Et 1 et) = W5 at h5b h5w h5s h5t ⊢
         generalize hbb : w.heap.size + 1 + 1 = b at h5b ⊢
         replace h5l : w.heap.size + 1 + 1 ≤ b := by omega)
    have H5 := Aside0.mk (And.intro (show W5.heap[b]? = some (.cells #[.slice Es 1 es, .slice Et 1 et] 25 (0, 0)) from h5b) (And.intro h5w (And.intro h5l (And.intro h5s h5t))))
    clear h5b h5w h5l h5s h5t
    have HTT := Aside0.mk H5.out.2.2.2.2
    have HBR := Aside0.mk (blk_below H1.out.2.2 H5.out.2.1)
    have HDR := Aside0.mk (dropOneR (cs := es) (ct := et) W5 (Kd.R_reads' H5.out.2.2.2.1).2.2 (Kd.R_reads' H5.out.2.2.2.2).2.2)
    have c_x0 : W5.cell? ⟨b, 0, none⟩ = some (.slice Es 1 es) := (blk_cell H5.out.1 0).trans rfl
    have f_x0 := blk_frozen H5.out.1 0
    have c_x1 : W5.cell? ⟨b, 1, none⟩ = some (.slice Et 1 et) := (blk_cell H5.out.1 1).trans rfl
    have f_x1 := blk_frozen H5.out.1 1
    go_wp2_with fail
    clear c_x0 f_x0 c_x1 f_x1
    refine (HDR.out).mono ?_
    rintro e w6 ⟨Fs, fs, Ft, ft, rfl, hx, hb6⟩
    have HK6 := Aside0.mk (blk_below H5.out.1 hb6)
    have HR6 := Aside0.mk (blk_below HBR.out hb6)
    have HT6 := Aside0.mk (Kd.R_below HTT.out hb6)
    have HB6 := Aside0.mk (below_step H5.out.2.1 hb6)
    clear hb6 hx
    have y2 : ∀ o o', ((w6.alloc o).alloc o').frozen? ⟨w.heap.size + 1, 2, none⟩ = false := fun o o' => blk_frozen (blk_alloc (blk_alloc HR6.out o) o') 2
    have z2 : ∀ o o', ((w6.alloc o).alloc o').cell? ⟨w.heap.size + 1, 2, none⟩ = some (.slice (some ⟨w.heap.size, 0, none⟩) 1 1) := fun o o' => (blk_cell (blk_alloc (blk_alloc HR6.out o) o') 2).trans rfl
    go_wp2_with fail
    clear y2 z2
    have hS7 : (((w6.alloc (.cells #[.slice Fs 0 fs, .slice Ft 0 ft] 25)).alloc (.cells #[.string ⟨#[121]⟩] 9)).setCell ⟨w.heap.size + 1, 2, none⟩ (.slice (some ⟨w6.heap.size + 1, 0, none⟩) 1 1)).heap[w6.heap.size + 1]? = some (.cells #[.string ⟨#[121]⟩] 9 (0, 0)) := (Below.heap_setCell _ _ _ _ (by have h1 := blk_lt HR6.out; show _ ≠ w.heap.size + 1; omega)).trans ((by have h1 := blk_new (w6.alloc (.cells #[.slice Fs 0 fs, .slice Ft 0 ft] 25)) (.cells #[.string ⟨#[121]⟩] 9); simpa using h1))
    have HR7 := Aside0.mk (show (((w6.alloc (.cells #[.slice Fs 0 fs, .slice Ft 0 ft] 25)).alloc (.cells #[.string ⟨#[121]⟩] 9)).setCell ⟨w.heap.size + 1, 2, none⟩ (.slice (some ⟨w6.heap.size + 1, 0, none⟩) 1 1)).heap[w.heap.size + 1]? = some (.cells #[.string ⟨#[102]⟩, .int .i64 4, .slice (some ⟨w6.heap.size + 1, 0, none⟩) 1 1, .int .i64 0, .int .i64 0, .string ⟨#[115]⟩, .string ⟨#[116]⟩, .string ⟨#[107]⟩] 29 (0, 0)) from blk_set (blk_alloc (blk_alloc HR6.out _) _) 2 _)
    have HK7 := Aside0.mk (show (((w6.alloc (.cells #[.slice Fs 0 fs, .slice Ft 0 ft] 25)).alloc (.cells #[.string ⟨#[121]⟩] 9)).setCell ⟨w.heap.size + 1, 2, none⟩ (.slice (some ⟨w6.heap.size + 1, 0, none⟩) 1 1)).heap[b]? = some (.cells #[.slice Es 1 es, .slice Et 1 et] 25 (0, 0)) from (Below.heap_setCell _ _ _ _ (by have h1 := H5.out.2.2.1; show _ ≠ w.heap.size + 1; omega)).trans (blk_alloc (blk_alloc HK6.out _) _))
    have HT7 := Aside0.mk (show kTab.R 50 (((w6.alloc (.cells #[.slice Fs 0 fs, .slice Ft 0 ft] 25)).alloc (.cells #[.string ⟨#[121]⟩] 9)).setCell ⟨w.heap.size + 1, 2, none⟩ (.slice (some ⟨w6.heap.size + 1, 0, none⟩) 1 1)) (w.heap.size + 1 + 1) (fun _ => True) (.slice Et 1 et) [tabF] from Kd.R_mono (Kd.R_step (Kd.R_bound (Kd.R_alloc (Kd.R_alloc HT6.out _) _)) (fun k hk _ => Below.heap_setCell _ _ _ k (by have h1 := hk.2.1; show _ ≠ w.heap.size + 1; omega))) (fun _ _ => trivial))
    have HB7 := Aside0.mk (show Below w.heap.size w (((w6.alloc (.cells #[.slice Fs 0 fs, .slice Ft 0 ft] 25)).alloc (.cells #[.string ⟨#[121]⟩] 9)).setCell ⟨w.heap.size + 1, 2, none⟩ (.slice (some ⟨w6.heap.size + 1, 0, none⟩) 1 1)) from below_set (below_alloc (below_alloc (below_step H1.out.1 HB6.out) _) _) (Nat.le_succ _))
    clear HK6 HR6 HT6 HB6 HDR HTT HBR H5
    generalize ((w6.alloc (.cells #[.slice Fs 0 fs, .slice Ft 0 ft] 25)).alloc (.cells #[.string ⟨#[121]⟩] 9)).setCell ⟨w.heap.size + 1, 2, none⟩ (.slice (some ⟨w6.heap.size + 1, 0, none⟩) 1 1) = W7 at hS7 HR7 HK7 HT7 HB7 ⊢
    generalize w6.heap.size + 1 = c7 at hS7 HR7 ⊢
    have HC7 := Aside0.mk (show Kd.string.C W7 (some ⟨c7, 0, none⟩) 1 [⟨#[121]⟩] from C_one (c := [.string ⟨#[121]⟩]) rfl rfl (fun i u h => (blk_cell hS7 i).trans (by simpa using h)))
    clear hS7 r0 r1 r2 r3 r4 r5 r6 r7 W1a hW1s H1 H2
    have r0 : W7.cell? ⟨w.heap.size + 1, 0, none⟩ = some (Value.string ⟨#[102]⟩) := (blk_cell HR7.out 0).trans rfl
    have r1 : W7.cell? ⟨w.heap.size + 1, 1, none⟩ = some (Value.int .i64 4) := (blk_cell HR7.out 1).trans rfl
    have r2 : W7.cell? ⟨w.heap.size + 1, 2, none⟩ = some (Value.slice (some ⟨c7, 0, none⟩) 1 1) := (blk_cell HR7.out 2).trans rfl
    have r3 : W7.cell? ⟨w.heap.size + 1, 3, none⟩ = some (Value.int .i64 0) := (blk_cell HR7.out 3).trans rfl
    have r4 : W7.cell? ⟨w.heap.size + 1, 4, none⟩ = some (Value.int .i64 0) := (blk_cell HR7.out 4).trans rfl
    have r5 : W7.cell? ⟨w.heap.size + 1, 5, none⟩ = some (Value.string ⟨#[115]⟩) := (blk_cell HR7.out 5).trans rfl
    have r6 : W7.cell? ⟨w.heap.size + 1, 6, none⟩ = some (Value.string ⟨#[116]⟩) := (blk_cell HR7.out 6).trans rfl
    have r7 : W7.cell? ⟨w.heap.size + 1, 7, none⟩ = some (Value.string ⟨#[107]⟩) := (blk_cell HR7.out 7).trans rfl
    go_region_held3 (fun w' => w'.cell? ⟨w.heap.size + 1, 0, none⟩ = some (Value.string ⟨#[102]⟩) ∧ w'.cell? ⟨w.heap.size + 1, 1, none⟩ = some (Value.int .i64 4) ∧ w'.cell? ⟨w.heap.size + 1, 2, none⟩ = some (Value.slice (some ⟨c7, 0, none⟩) 1 1) ∧ w'.cell? ⟨w.heap.size + 1, 3, none⟩ = some (Value.int .i64 0) ∧ w'.cell? ⟨w.heap.size + 1, 4, none⟩ = some (Value.int .i64 0) ∧ w'.cell? ⟨w.heap.size + 1, 5, none⟩ = some (Value.string ⟨#[115]⟩) ∧ w'.cell? ⟨w.heap.size + 1, 6, none⟩ = some (Value.string ⟨#[116]⟩) ∧ w'.cell? ⟨w.heap.size + 1, 7, none⟩ = some (Value.string ⟨#[107]⟩) ∧ Below W7.heap.size W7 w')
      (first | exact kq8 (by assumption) (by assumption) | exact kq8 (by assumption) (below_alloc (Below.refl _ _) _) | exact kq8 (w := W7.drew) ⟨r0, r1, r2, r3, r4, r5, r6, r7, below_drew (Below.refl _ _)⟩ (below_alloc (below_step hb1 hb2) _) | exact kq8 (w := W7.drew) ⟨r0, r1, r2, r3, r4, r5, r6, r7, below_drew (Below.refl _ _)⟩ (below_set (below_set (below_step (below_step (below_alloc (Below.refl _ _) _) hb1) hb2) (Nat.le_refl _)) (Nat.le_refl _)) | exact kq8 (w := W7.drew) ⟨r0, r1, r2, r3, r4, r5, r6, r7, below_drew (Below.refl _ _)⟩ (below_set (below_set (below_step hb1 (below_step (below_alloc (Below.refl _ _) _) hb2)) hb1.size) hb1.size) | exact ⟨r0, r1, r2, r3, r4, r5, r6, r7, below_drew (Below.refl _ _)⟩)
      (first
        | (go_at_call 46; refine (one.calls _).mono ?_; rintro e m1 ⟨Bs1, ds1, Bt1, dt1, rfl, l1, l2, hs1, ht1, hb1⟩)
        | (go_at_call 8; refine (addOneR2 (cs := ds1) (ct := dt1) (c2 := 1) _ (Kd.C_below hs1 (by first | exact Below.refl _ _ | exact below_alloc (Below.refl _ _) _)) (Kd.C_below ht1 (by first | exact Below.refl _ _ | exact below_alloc (Below.refl _ _) _)) (Kd.C_below HC7.out (show _ ∧ _ ∧ _ ∧ _ ∧ _ ∧ _ ∧ _ ∧ _ ∧ Below _ _ _ from by assumption).2.2.2.2.2.2.2.2)).mono ?_; rintro e m2 ⟨Gs, gs, Gt, gt, rfl, hx, hb2⟩; (first | (have zz : m2.heap[W7.heap.size]? = some (.cells #[.slice none 0 0, .slice none 0 0] 25 (0, 0)) := blk_below (blk_below (blk_new W7.drew (.cells #[.slice none 0 0, .slice none 0 0] 25)) hb1) hb2; have z0 : m2.cell? ⟨W7.heap.size, 0, none⟩ = some (.slice none 0 0) := (blk_cell zz 0).trans rfl; have z1 : m2.cell? ⟨W7.heap.size, 1, none⟩ = some (.slice none 0 0) := (blk_cell zz 1).trans rfl; have y0 := blk_frozen zz 0; have y1 := blk_frozen zz 1) | (have zz := blk_below (blk_new m1 (.cells #[.slice none 0 0, .slice none 0 0] 25)) hb2; have z0 : m2.cell? ⟨m1.heap.size, 0, none⟩ = some (.slice none 0 0) := (blk_cell zz 0).trans rfl; have z1 : m2.cell? ⟨m1.heap.size, 1, none⟩ = some (.slice none 0 0) := (blk_cell zz 1).trans rfl; have y0 := blk_frozen zz 0; have y1 := blk_frozen zz 1) | skip)))
    all_goals
      first
        | (have hf : Below W7.heap.size W7 (m2.alloc (.cells #[.slice Gs 0 gs, .slice Gt 0 gt] 25)) := (show _ ∧ _ ∧ _ ∧ _ ∧ _ ∧ _ ∧ _ ∧ _ ∧ Below W7.heap.size W7 (m2.alloc (.cells #[.slice Gs 0 gs, .slice Gt 0 gt] 25)) from by assumption).2.2.2.2.2.2.2.2
           generalize m2.alloc (.cells #[.slice Gs 0 gs, .slice Gt 0 gt] 25) = Wf at hf ⊢)
        | (have hf : Below W7.heap.size W7 ((m2.setCell ⟨m1.heap.size, 0, none⟩ (.slice Gs 0 gs)).setCell ⟨m1.heap.size, 1, none⟩ (.slice Gt 0 gt)) := (show _ ∧ _ ∧ _ ∧ _ ∧ _ ∧ _ ∧ _ ∧ _ ∧ Below W7.heap.size W7 ((m2.setCell ⟨m1.heap.size, 0, none⟩ (.slice Gs 0 gs)).setCell ⟨m1.heap.size, 1, none⟩ (.slice Gt 0 gt)) from by assumption).2.2.2.2.2.2.2.2
           generalize (m2.setCell ⟨m1.heap.size, 0, none⟩ (.slice Gs 0 gs)).setCell ⟨m1.heap.size, 1, none⟩ (.slice Gt 0 gt) = Wf at hf ⊢)
        | (have hf : Below W7.heap.size W7 ((m2.setCell ⟨W7.heap.size, 0, none⟩ (.slice Gs 0 gs)).setCell ⟨W7.heap.size, 1, none⟩ (.slice Gt 0 gt)) := (show _ ∧ _ ∧ _ ∧ _ ∧ _ ∧ _ ∧ _ ∧ _ ∧ Below W7.heap.size W7 ((m2.setCell ⟨W7.heap.size, 0, none⟩ (.slice Gs 0 gs)).setCell ⟨W7.heap.size, 1, none⟩ (.slice Gt 0 gt)) from by assumption).2.2.2.2.2.2.2.2
           generalize (m2.setCell ⟨W7.heap.size, 0, none⟩ (.slice Gs 0 gs)).setCell ⟨W7.heap.size, 1, none⟩ (.slice Gt 0 gt) = Wf at hf ⊢)
      have HBf := Aside0.mk (below_step HB7.out hf)
      have HKf := Aside0.mk (blk_below HK7.out hf)
      have HTf := Aside0.mk (Kd.R_below HT7.out hf)
      clear hf r0 r1 r2 r3 r4 r5 r6 r7
      obtain ⟨ad1, ad4, x4c, rfl, q1, q2⟩ := oneRulsR HTf.out
      have c_x1 : Wf.cell? ⟨b, 1, none⟩ = some (.slice (some ad1) 1 et) := (blk_cell HKf.out 1).trans rfl
      go_wp2
      go_ret
      exact ⟨rfl, HBf.out⟩
end Go.Proofs.YtmmiehckgkadgaaGreat.O
