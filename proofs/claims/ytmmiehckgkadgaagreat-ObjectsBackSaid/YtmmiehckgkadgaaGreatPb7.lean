/- Own lemmas and walks (DA), without what the law does not need. Laid by a program of this session (prune.py). -/
import Derived.Test.YtmmiehckgkadgaaGreatPr0
import Derived.Test.YtmmiehckgkadgaaGreatPr1
import Derived.Test.YtmmiehckgkadgaaGreatPr2
import Derived.Test.YtmmiehckgkadgaaGreatPr3
import Derived.Test.YtmmiehckgkadgaaGreatPr4
import Derived.Test.YtmmiehckgkadgaaGreatPr5
import Derived.Test.YtmmiehckgkadgaaGreatPr6
import Derived.Test.YtmmiehckgkadgaaGreatPr7
import Derived.Test.YtmmiehckgkadgaaGreatPr8
import Derived.Test.YtmmiehckgkadgaaGreatPr9
import Derived.Test.YtmmiehckgkadgaaGreatPr10
import Derived.Test.YtmmiehckgkadgaaGreatPr11
import Derived.Test.YtmmiehckgkadgaaGreatPr12
import Derived.Test.YtmmiehckgkadgaaGreatPr13
import Derived.Test.YtmmiehckgkadgaaGreatPr14
import Derived.Test.YtmmiehckgkadgaaGreatPr15
import Derived.Test.YtmmiehckgkadgaaGreatPr16
import Derived.Test.YtmmiehckgkadgaaGreatPr17
import Derived.Test.YtmmiehckgkadgaaGreatPr18
import Derived.Test.YtmmiehckgkadgaaGreatPr19
import Derived.Test.YtmmiehckgkadgaaGreatPr20
import Derived.Test.YtmmiehckgkadgaaGreatPr21
import Derived.Test.YtmmiehckgkadgaaGreatPr22
import Derived.Test.YtmmiehckgkadgaaGreatPr23
import Derived.Test.YtmmiehckgkadgaaGreatPr24
import Derived.Test.YtmmiehckgkadgaaGreatPr25
import Derived.Test.YtmmiehckgkadgaaGreatPr26
import Derived.Test.YtmmiehckgkadgaaGreatPr27
import Derived.Test.YtmmiehckgkadgaaGreatPr28
import Derived.Test.YtmmiehckgkadgaaGreatPr29
import Derived.Test.YtmmiehckgkadgaaGreatPr30
import Derived.Test.YtmmiehckgkadgaaGreatPr31
import Derived.Test.YtmmiehckgkadgaaGreatPb4
namespace Go.Proofs.YtmmiehckgkadgaaGreat.O
set_option linter.unusedVariables false
set_option linter.unusedSimpArgs false
open Go.RowKit Go.Proofs.YtmmiehckgkadgaaGreatW.PrintWords
theorem addOne {As At : Option Addr} {cs ct : Nat} (W : World) (hs : kSch.C W As 1 [sch1]) (ht : kTab.C W At 1 [tab1]) : Calls Tryz.prog 14 #[.agg #[.slice As 1 cs, .slice At 1 ct], .string ⟨#[115]⟩, .string ⟨#[116]⟩, .agg #[.string ⟨#[122]⟩, .int .i64 2, .bool true]] W fun e w' => ∃ Es es Et et, e = .returned (.tuple #[.agg #[.slice Es 1 es, .slice Et 1 et], .int .i64 0]) ∧ OM w' W.heap.size w'.heap.size (.slice Es 1 es) (.slice Et 1 et) [sch1] [tabZ] ∧ Below W.heap.size W w' := by
  have h := calls_made (AddColumn.calls (cs := cs) (ct := ct) [sch1] [tab1] ⟨#[115]⟩ ⟨#[116]⟩ ⟨⟨#[122]⟩, 2, true⟩ W hs (by decide) ht tabsF_one tabsB_one)
  rw [addColumn_one] at h
  exact h
theorem dropOne1 {As At : Option Addr} {cs ct : Nat} (W : World) (hs : kSch.C W As 1 [sch1]) (ht : kTab.C W At 1 [tab1]) : Calls Tryz.prog 16 #[.agg #[.slice As 1 cs, .slice At 1 ct], .string ⟨#[115]⟩, .string ⟨#[116]⟩, .string ⟨#[120]⟩] W fun e w' => ∃ Es es Et et, e = .returned (.tuple #[.agg #[.slice Es 0 es, .slice Et 0 et], .int .i64 62]) ∧ OM w' W.heap.size w'.heap.size (.slice Es 0 es) (.slice Et 0 et) [] [] ∧ Below W.heap.size W w' := by
  have h := calls_made (DropColumn.calls (cs := cs) (ct := ct) [sch1] [tab1] ⟨#[115]⟩ ⟨#[116]⟩ ⟨#[120]⟩ W hs (by decide) ht tabsF_one tabsB_one)
  rw [dropColumn_one1] at h
  exact h
theorem dropOne2 {As At : Option Addr} {cs ct : Nat} (W : World) (hs : kSch.C W As 1 [sch1]) (ht : kTab.C W At 1 [tab1]) : Calls Tryz.prog 16 #[.agg #[.slice As 1 cs, .slice At 1 ct], .string ⟨#[115]⟩, .string ⟨#[116]⟩, .string ⟨#[121]⟩] W fun e w' => ∃ Es es Et et, e = .returned (.tuple #[.agg #[.slice Es 1 es, .slice Et 1 et], .int .i64 0]) ∧ OM w' W.heap.size w'.heap.size (.slice Es 1 es) (.slice Et 1 et) [sch1] [tabY] ∧ Below W.heap.size W w' := by
  have h := calls_made (DropColumn.calls (cs := cs) (ct := ct) [sch1] [tab1] ⟨#[115]⟩ ⟨#[116]⟩ ⟨#[121]⟩ W hs (by decide) ht tabsF_one tabsB_one)
  rw [dropColumn_one2] at h
  exact h
theorem oneCols {W : World} {b e : Nat} {vs : Value} {ss : List Sch} {Et : Option Addr} {et : Nat} {t : Tab} (n : Nat) (hn : t.cols.length = n) (h : OM W b e vs (.slice Et 1 et) ss [t]) : ∃ ad A3 c3, Et = some ad ∧ W.cell? ⟨ad.block, ad.off + 3, none⟩ = some (.slice A3 n c3) := by
  subst hn
  obtain ⟨ad, A3, c3, A4, c4, e, _, _, _, x3, _⟩ := tabAt (Kd.R_reads' h.2).2.2 0 (by simp)
  exact ⟨ad, A3, c3, e, x3⟩
set_option maxRecDepth 20000 in
set_option maxHeartbeats 2000000 in
theorem columns.calls (w : World) : Calls Tryz.prog 19 #[] w fun e w' => e = .returned (.bool true) ∧ Below w.heap.size w w' := by
  have HO := Aside0.mk (fun W => one.calls W)
  have HX0 := Aside0.mk (Below.refl w.heap.size w)
  go_enter Tryz.func19, Tryz.ntmps19
  go_wp2_with fail
  refine (HO.out _).mono ?_
  rintro e w1 ⟨As1, cs1, At1, ct1, rfl, l1, l2, hs, ht, hb1⟩
  have HB1 := Aside0.mk (below_step (HX0.out) hb1)
  have HS1 := Aside0.mk hb1
  clear hb1
  have HFD := Aside0.mk (addOne (cs := cs1) (ct := ct1) w1 hs ht)
  clear l1 l2 hs ht
  go_wp2_with fail
  refine (HFD.out).mono ?_
  rintro e w2 ⟨Es, Esd, Et, Etd, rfl, hx, hb2⟩
  have HB2 := Aside0.mk (below_step (HB1.out) hb2)
  have HS2 := Aside0.mk hb2
  clear hb2
  have HME := Aside0.mk hx
  clear hx HFD
  go_wp2_with fail
  obtain ⟨v1, he1⟩ : ∃ W, W = (w2.alloc (.cells #[Value.slice Es 1 Esd, Value.slice Et 1 Etd] 25)) := ⟨_, rfl⟩
  have hb_ : Below w2.heap.size w2 v1 := by rw [he1]; exact below_alloc (Below.refl _ _) _
  have HZ1 := Aside0.mk (show v1.heap.size = w2.heap.size + 1 by rw [he1]; simp)
  have HN1 := Aside0.mk (show v1.heap[w2.heap.size]? = some (.cells #[Value.slice Es 1 Esd, Value.slice Et 1 Etd] 25 (0, 0)) by rw [he1]; exact blk_new _ _)
  have HV1 := Aside0.mk (below_step (HB2.out) hb_)
  have HT1 := Aside0.mk ((HME.out).below hb_)
  rw [← he1]
  clear he1
  refine (HO.out _).mono ?_
  rintro e w3 ⟨As2, cs2, At2, ct2, rfl, l1, l2, hs, ht, hb3⟩
  have HB3 := Aside0.mk (below_step (HV1.out) hb3)
  have HK2 := Aside0.mk (blk_below (HN1.out) hb3)
  have HT3 := Aside0.mk ((HT1.out).below hb3)
  have HS3 := Aside0.mk hb3
  clear hb3
  have HFD := Aside0.mk (dropOne1 (cs := cs2) (ct := ct2) w3 hs ht)
  clear l1 l2 hs ht
  have c_x0 : w3.cell? ⟨w2.heap.size, 0, none⟩ = some (Value.slice Es 1 Esd) := (blk_cell HK2.out 0).trans rfl
  have f_x0 := blk_frozen HK2.out 0
  have c_x1 : w3.cell? ⟨w2.heap.size, 1, none⟩ = some (Value.slice Et 1 Etd) := (blk_cell HK2.out 1).trans rfl
  have f_x1 := blk_frozen HK2.out 1
  go_wp2_with fail
  clear c_x0 f_x0 c_x1 f_x1
  refine (HFD.out).mono ?_
  rintro e w4 ⟨Fs, Fsd, Ft, Ftd, rfl, hx, hb4⟩
  have HB4 := Aside0.mk (below_step (HB3.out) hb4)
  have HK4 := Aside0.mk (blk_below (HK2.out) hb4)
  have HT5 := Aside0.mk ((HT3.out).below hb4)
  have HS4 := Aside0.mk hb4
  clear hb4
  have HMF := Aside0.mk hx
  clear hx HFD
  have c_x0 : w4.cell? ⟨w2.heap.size, 0, none⟩ = some (Value.slice Es 1 Esd) := (blk_cell HK4.out 0).trans rfl
  have f_x0 := blk_frozen HK4.out 0
  have a_x0 : ∀ o, (w4.alloc o).cell? ⟨w2.heap.size, 0, none⟩ = some (Value.slice Es 1 Esd) := fun o => (blk_cell (blk_alloc HK4.out o) 0).trans rfl
  have c_x1 : w4.cell? ⟨w2.heap.size, 1, none⟩ = some (Value.slice Et 1 Etd) := (blk_cell HK4.out 1).trans rfl
  have f_x1 := blk_frozen HK4.out 1
  have a_x1 : ∀ o, (w4.alloc o).cell? ⟨w2.heap.size, 1, none⟩ = some (Value.slice Et 1 Etd) := fun o => (blk_cell (blk_alloc HK4.out o) 1).trans rfl
  go_wp2_with fail
  clear c_x0 f_x0 a_x0 c_x1 f_x1 a_x1
  obtain ⟨v2, he2⟩ : ∃ W, W = (w4.alloc (.cells #[Value.slice Fs 0 Fsd, Value.slice Ft 0 Ftd] 25)) := ⟨_, rfl⟩
  have hb_ : Below w4.heap.size w4 v2 := by rw [he2]; exact below_alloc (Below.refl _ _) _
  have HZ2 := Aside0.mk (show v2.heap.size = w4.heap.size + 1 by rw [he2]; simp)
  have HN2 := Aside0.mk (show v2.heap[w4.heap.size]? = some (.cells #[Value.slice Fs 0 Fsd, Value.slice Ft 0 Ftd] 25 (0, 0)) by rw [he2]; exact blk_new _ _)
  have HV2 := Aside0.mk (below_step (HB4.out) hb_)
  have HK6 := Aside0.mk (blk_below (HK4.out) hb_)
  have HT7 := Aside0.mk ((HT5.out).below hb_)
  have HT8 := Aside0.mk ((HMF.out).below hb_)
  rw [← he2]
  clear he2
  refine (HO.out _).mono ?_
  rintro e w5 ⟨As3, cs3, At3, ct3, rfl, l1, l2, hs, ht, hb5⟩
  have HB5 := Aside0.mk (below_step (HV2.out) hb5)
  have HK9 := Aside0.mk (blk_below (HK6.out) hb5)
  have HK10 := Aside0.mk (blk_below (HN2.out) hb5)
  have HT11 := Aside0.mk ((HT7.out).below hb5)
  have HT12 := Aside0.mk ((HT8.out).below hb5)
  have HS5 := Aside0.mk hb5
  clear hb5
  have HFD := Aside0.mk (dropOne2 (cs := cs3) (ct := ct3) w5 hs ht)
  clear l1 l2 hs ht
  have c_x0 : w5.cell? ⟨w2.heap.size, 0, none⟩ = some (Value.slice Es 1 Esd) := (blk_cell HK9.out 0).trans rfl
  have f_x0 := blk_frozen HK9.out 0
  have c_x1 : w5.cell? ⟨w2.heap.size, 1, none⟩ = some (Value.slice Et 1 Etd) := (blk_cell HK9.out 1).trans rfl
  have f_x1 := blk_frozen HK9.out 1
  have c_u0 : w5.cell? ⟨w4.heap.size, 0, none⟩ = some (Value.slice Fs 0 Fsd) := (blk_cell HK10.out 0).trans rfl
  have f_u0 := blk_frozen HK10.out 0
  have c_u1 : w5.cell? ⟨w4.heap.size, 1, none⟩ = some (Value.slice Ft 0 Ftd) := (blk_cell HK10.out 1).trans rfl
  have f_u1 := blk_frozen HK10.out 1
  go_wp2_with fail
  clear c_x0 f_x0 c_x1 f_x1 c_u0 f_u0 c_u1 f_u1
  refine (HFD.out).mono ?_
  rintro e w6 ⟨Gs, Gsd, Gt, Gtd, rfl, hx, hb6⟩
  have HB6 := Aside0.mk (below_step (HB5.out) hb6)
  have HK13 := Aside0.mk (blk_below (HK9.out) hb6)
  have HK14 := Aside0.mk (blk_below (HK10.out) hb6)
  have HT15 := Aside0.mk ((HT11.out).below hb6)
  have HT16 := Aside0.mk ((HT12.out).below hb6)
  have HS6 := Aside0.mk hb6
  clear hb6
  have HMG := Aside0.mk hx
  clear hx HFD
  obtain ⟨ad1, X3, x3c, rfl, k1⟩ := oneCols 3 rfl HT15.out
  obtain ⟨ad2, Y3, y3c, rfl, k2⟩ := oneCols 1 rfl HMG.out
  have k1a : ∀ o, (w6.alloc o).cell? _ = _ := fun o => pw_cell_below (below_alloc (Below.refl _ _) o) k1
  have k2a : ∀ o, (w6.alloc o).cell? _ = _ := fun o => pw_cell_below (below_alloc (Below.refl _ _) o) k2
  have c_x0 : w6.cell? ⟨w2.heap.size, 0, none⟩ = some (Value.slice Es 1 Esd) := (blk_cell HK13.out 0).trans rfl
  have f_x0 := blk_frozen HK13.out 0
  have a_x0 : ∀ o, (w6.alloc o).cell? ⟨w2.heap.size, 0, none⟩ = some (Value.slice Es 1 Esd) := fun o => (blk_cell (blk_alloc HK13.out o) 0).trans rfl
  have c_x1 : w6.cell? ⟨w2.heap.size, 1, none⟩ = some (Value.slice (some ad1) 1 Etd) := (blk_cell HK13.out 1).trans rfl
  have f_x1 := blk_frozen HK13.out 1
  have a_x1 : ∀ o, (w6.alloc o).cell? ⟨w2.heap.size, 1, none⟩ = some (Value.slice (some ad1) 1 Etd) := fun o => (blk_cell (blk_alloc HK13.out o) 1).trans rfl
  go_wp2
  go_ret
  exact ⟨rfl, below_alloc (HB6.out) _⟩
end Go.Proofs.YtmmiehckgkadgaaGreat.O
