/- Own lemmas and walks (G1), without what the law does not need. Laid by a program of this session (prune.py). -/
import Derived.WalkSpells
import Derived.WalkLawsBesides
import Derived.Deep.RegionHeld3
import Derived.Laws.EntriesVeiled
import Derived.Deep.RegionLaw
import Derived.BigQuiet
import Derived.Deep.QuietTactic
import Derived.Test.YtmmiehckgkadgaaGreatProg
import Derived.OpenShut
import Derived.OrdersHeld
import Derived.Laws.BitsLemmas
import Derived.RowKit
import Derived.Test.YtmmiehckgkadgaaGreatPr0
import Derived.Test.YtmmiehckgkadgaaGreatPr1
import Derived.Test.YtmmiehckgkadgaaGreatPr2
import Derived.Test.YtmmiehckgkadgaaGreatPr3
import Derived.Test.YtmmiehckgkadgaaGreatPr4
import Derived.Test.YtmmiehckgkadgaaGreatPr5
import Derived.Test.YtmmiehckgkadgaaGreatPr6
import Derived.Test.YtmmiehckgkadgaaGreatPr7
import Derived.Test.YtmmiehckgkadgaaGreatPr8
import Derived.Test.YtmmiehckgkadgaaGreatPr9
import Derived.Test.YtmmiehckgkadgaaGreatPr10
import Derived.Test.YtmmiehckgkadgaaGreatPr11
import Derived.Test.YtmmiehckgkadgaaGreatPr12
import Derived.Test.YtmmiehckgkadgaaGreatPr13
import Derived.Test.YtmmiehckgkadgaaGreatPr14
import Derived.Test.YtmmiehckgkadgaaGreatPr15
import Derived.Test.YtmmiehckgkadgaaGreatPr16
import Derived.Test.YtmmiehckgkadgaaGreatPr17
import Derived.Test.YtmmiehckgkadgaaGreatPr18
import Derived.Test.YtmmiehckgkadgaaGreatPr19
import Derived.Test.YtmmiehckgkadgaaGreatPr20
import Derived.Test.YtmmiehckgkadgaaGreatPr21
import Derived.Test.YtmmiehckgkadgaaGreatPr22
import Derived.Test.YtmmiehckgkadgaaGreatPr23
import Derived.Test.YtmmiehckgkadgaaGreatPr24
import Derived.Test.YtmmiehckgkadgaaGreatPr25
import Derived.Test.YtmmiehckgkadgaaGreatPr26
import Derived.Test.YtmmiehckgkadgaaGreatPr27
import Derived.Test.YtmmiehckgkadgaaGreatPr28
import Derived.Test.YtmmiehckgkadgaaGreatPr29
import Derived.Test.YtmmiehckgkadgaaGreatPr30
import Derived.Test.YtmmiehckgkadgaaGreatPr31
import Derived.Test.YtmmiehckgkadgaaGreatPb0
namespace Go.Proofs.YtmmiehckgkadgaaGreat.O
set_option linter.unusedVariables false
set_option linter.unusedSimpArgs false
open Go.RowKit Go.Proofs.YtmmiehckgkadgaaGreatW.PrintWords
end Go.Proofs.YtmmiehckgkadgaaGreat.O
namespace Go.Proofs.YtmmiehckgkadgaaGreat.O
set_option linter.unusedVariables false
set_option linter.unusedSimpArgs false
open Go.RowKit Go.Proofs.YtmmiehckgkadgaaGreatW.PrintWords
end Go.Proofs.YtmmiehckgkadgaaGreat.O
namespace Go.Proofs.YtmmiehckgkadgaaGreat.O
set_option linter.unusedVariables false
set_option linter.unusedSimpArgs false
open Go.RowKit Go.Proofs.YtmmiehckgkadgaaGreatW.PrintWords
end Go.Proofs.YtmmiehckgkadgaaGreat.O
namespace Go.Proofs.YtmmiehckgkadgaaGreat.O
set_option linter.unusedVariables false
set_option linter.unusedSimpArgs false
open Go.RowKit Go.Proofs.YtmmiehckgkadgaaGreatW.PrintWords
end Go.Proofs.YtmmiehckgkadgaaGreat.O
namespace Go.Proofs.YtmmiehckgkadgaaGreat.O
set_option linter.unusedVariables false
set_option linter.unusedSimpArgs false
open Go.RowKit Go.Proofs.YtmmiehckgkadgaaGreatW.PrintWords
end Go.Proofs.YtmmiehckgkadgaaGreat.O
namespace Go.Proofs.YtmmiehckgkadgaaGreat.O
set_option linter.unusedVariables false
set_option linter.unusedSimpArgs false
open Go.RowKit Go.Proofs.YtmmiehckgkadgaaGreatW.PrintWords
end Go.Proofs.YtmmiehckgkadgaaGreat.O
namespace Go.Proofs.YtmmiehckgkadgaaGreat.O
set_option linter.unusedVariables false
set_option linter.unusedSimpArgs false
open Go.RowKit Go.Proofs.YtmmiehckgkadgaaGreatW.PrintWords
theorem colAt_ {w : World} {A : Option Addr} {n : Nat} {xs : List Col} (h : kCol.C w A n xs) (j : Nat) (hj : j < xs.length) : ∃ ad, A = some ad ∧ w.cell? (ad.add (j * 3)) = some (.string xs[j].name) ∧ w.cell? ⟨(ad.add (j * 3)).block, (ad.add (j * 3)).off + 1, none⟩ = some (.int .i64 xs[j].kind) ∧ w.cell? ⟨(ad.add (j * 3)).block, (ad.add (j * 3)).off + 2, none⟩ = some (.bool xs[j].null) := by
  have h1 := atCol h (j : Int) (by omega) (by have := h.1; omega)
  rw [show rdCol xs (j : Int) = xs[j] by simp [rdCol, List.getD_eq_getElem?_getD, List.getElem?_eq_getElem hj], Int.toNat_natCast] at h1
  exact h1
theorem strAt_ {w : World} {A : Option Addr} {n : Nat} {xs : List ByteArray} (h : Kd.string.C w A n xs) (j : Nat) (hj : j < xs.length) : ∃ ad, A = some ad ∧ w.cell? (ad.add j) = some (.string xs[j]) := by
  obtain ⟨ad, e, h1⟩ := Kd.at_string h (j : Int) (by omega) (by have := h.1; omega)
  refine ⟨ad, e, ?_⟩
  rw [Int.toNat_natCast] at h1
  rw [h1]; simp [rdOf, List.getD_eq_getElem?_getD, List.getElem?_eq_getElem hj]
def Box2 (t : Tab) (g : Nat) (a3 b3 a4 b4 : Value) (W : World) : Prop := W.heap[g]? = some (.cells (tabC t a3 a4) 50 (0, 0)) ∧ W.heap[g + 1]? = some (.cells (tabC t b3 b4) 50 (0, 0))
set_option maxRecDepth 100000 in
set_option maxHeartbeats 4000000 in
theorem rSameTable.calls (t : Tab) {A3 A4 B3 B4 : Option Addr} {c3 c4 d3 d4 : Nat} (w : World) (h3 : kCol.C w A3 t.cols.length t.cols) (h4 : kRul.C w A4 t.rules.length t.rules) (k3 : kCol.C w B3 t.cols.length t.cols) (k4 : kRul.C w B4 t.rules.length t.rules) (hF : TabB t) :
    Calls Tryz.prog 63 #[.agg #[.string t.schema, .string t.name, .string t.owner, .slice A3 t.cols.length c3, .slice A4 t.rules.length c4], .agg #[.string t.schema, .string t.name, .string t.owner, .slice B3 t.cols.length d3, .slice B4 t.rules.length d4]] w fun e w' => e = .returned (.bool true) ∧ Below w.heap.size w w' := by
  obtain ⟨hF1, hF2, hF3⟩ := hF
  have HF := Aside0.mk hF3
  have hln : t.rules.length ≤ 3000 := hF2
  have hlc : t.cols.length ≤ 3000 := hF1
  have HC := Aside0.mk (And.intro h3 k3)
  have HU := Aside0.mk (And.intro h4 k4)
  have HB2 := Aside0.mk (boxes2 w (.cells (tabC t (.slice A3 t.cols.length c3) (.slice A4 t.rules.length c4)) 50) (.cells (tabC t (.slice B3 t.cols.length d3) (.slice B4 t.rules.length d4)) 50))
  clear h3 h4 k3 k4 hF1 hF2 hF3
  go_enter Tryz.func63, Tryz.ntmps63
  go_wp2
  generalize hW : (w.alloc _).alloc _ = W0
  have HS : Aside0 (Below w.heap.size w W0 ∧ Box2 t w.heap.size (.slice A3 t.cols.length c3) (.slice B3 t.cols.length d3) (.slice A4 t.rules.length c4) (.slice B4 t.rules.length d4) W0) := ⟨by rw [← hW]; exact HB2.out⟩
  clear HB2 hW
  go_loopw [5] (fun i w' => ∃ k : Nat, k ≤ t.cols.length ∧ i = .int .i64 k ∧ Aside0 (Below w.heap.size w w' ∧ Box2 t w.heap.size (.slice A3 t.cols.length c3) (.slice B3 t.cols.length d3) (.slice A4 t.rules.length c4) (.slice B4 t.rules.length d4) w')) (fun i _ => t.cols.length - (intOf i).toNat)
  case atStart => exact ⟨0, Nat.zero_le _, rfl, HS⟩
  case round =>
    clear HS
    obtain ⟨k, hk, rfl, HJ⟩ := hrel
    have e3 : wr.cell? ⟨w.heap.size, 3, none⟩ = some (.slice A3 t.cols.length c3) := (blk_cell HJ.out.2.1 3).trans rfl
    have f3 : wr.cell? ⟨w.heap.size + 1, 3, none⟩ = some (.slice B3 t.cols.length d3) := (blk_cell HJ.out.2.2 3).trans rfl
    by_cases hlt : k < t.cols.length
    · obtain ⟨ad, e, x0, x1, x2⟩ := colAt_ (Kd.C_below HC.out.1 HJ.out.1) k hlt
      cases e
      obtain ⟨bd, e, y0, y1, y2⟩ := colAt_ (Kd.C_below HC.out.2 HJ.out.1) k hlt
      cases e
      have h0 : (0 : Int) ≤ (k : Int) := by omega
      have h1 : (k : Int) < (t.cols.length : Int) := by omega
      go_wp2
      go_quiet (fail)
      go_wp2
      go_roundw
      case rel => exact ⟨k + 1, by omega, by go_num, ⟨pw_below_drewN HJ.out.1 _, HJ.out.2⟩⟩
      case measure => simp [intOf]; omega
    · have hd : decide (k < t.cols.length) = false := decide_eq_false hlt
      obtain ⟨wo, rfl⟩ : ∃ wo : World, wo = wr := ⟨_, rfl⟩
      go_wp2
      clear e3 f3 HC
      go_loopw [6] (fun i w' => ∃ k : Nat, k ≤ t.rules.length ∧ i = .int .i64 k ∧ Aside0 (Below w.heap.size w w' ∧ Box2 t w.heap.size (.slice A3 t.cols.length c3) (.slice B3 t.cols.length d3) (.slice A4 t.rules.length c4) (.slice B4 t.rules.length d4) w')) (fun i _ => t.rules.length - (intOf i).toNat)
      case atStart => exact ⟨0, Nat.zero_le _, rfl, HJ⟩
      case round =>
        clear HJ hlt hd hk
        obtain ⟨m, hm, rfl, HJ⟩ := hrel
        have e4 : wr.cell? ⟨w.heap.size, 4, none⟩ = some (.slice A4 t.rules.length c4) := (blk_cell HJ.out.2.1 4).trans rfl
        have f4 : ∀ o, (wr.alloc o).cell? ⟨w.heap.size + 1, 4, none⟩ = some (.slice B4 t.rules.length d4) := fun o => (blk_cell (blk_alloc HJ.out.2.2 o) 4).trans rfl
        by_cases hlt : m < t.rules.length
        · obtain ⟨ad, A2, c2, e, x0, x1, x2, x3, x4, x5, x6, x7, _, hx⟩ := rulAt (Kd.C_below HU.out.1 HJ.out.1) m hlt
          cases e
          obtain ⟨bd, B2, d2, e, y0, y1, y2, y3, y4, y5, y6, y7, _, hy⟩ := rulAt (Kd.C_below HU.out.2 HJ.out.1) m hlt
          cases e
          have hq : ∀ (p : Addr) (v : Value) (o : Obj), wr.cell? p = some v → (wr.alloc o).cell? p = some v := fun p v o h => pw_cell_below (below_alloc (Below.refl _ _) o) h
          have z0 := fun o => hq _ _ o y0
          have z1 := fun o => hq _ _ o y1
          have z2 := fun o => hq _ _ o y2
          have z3 := fun o => hq _ _ o y3
          have z4 := fun o => hq _ _ o y4
          have z5 := fun o => hq _ _ o y5
          have z6 := fun o => hq _ _ o y6
          have z7 := fun o => hq _ _ o y7
          have HX := Aside0.mk (And.intro hx hy)
          have hlr : t.rules[m].cols.length ≤ 3000 := HF.out _ (List.getElem_mem hlt)
          have h0 : (0 : Int) ≤ (m : Int) := by omega
          have h1 : (m : Int) < (t.rules.length : Int) := by omega
          have HW := Aside0.mk (boxes2 wr (.cells (rulC t.rules[m] (.slice A2 t.rules[m].cols.length c2)) 29) (.cells (rulC t.rules[m] (.slice B2 t.rules[m].cols.length d2)) 29))
          clear hq y0 y1 y2 y3 y4 y5 y6 y7 hx hy
          go_wp2
          generalize hW1 : (wr.alloc _).alloc _ = W1
          have HS : Aside0 (Below wr.heap.size wr W1 ∧ W1.heap[wr.heap.size]? = some (.cells (rulC t.rules[m] (.slice A2 t.rules[m].cols.length c2)) 29 (0, 0)) ∧ W1.heap[wr.heap.size + 1]? = some (.cells (rulC t.rules[m] (.slice B2 t.rules[m].cols.length d2)) 29 (0, 0))) := ⟨by rw [← hW1]; exact HW.out⟩
          clear HW hW1 x0 x1 x2 x3 x4 x5 x6 x7 z0 z1 z2 z3 z4 z5 z6 z7 e4 f4
          obtain ⟨wm, rfl⟩ : ∃ wm : World, wm = wr := ⟨_, rfl⟩
          go_loopw [9] (fun i w' => ∃ k : Nat, k ≤ t.rules[m].cols.length ∧ i = .int .i64 k ∧ Aside0 (Below wm.heap.size wm w' ∧ w'.heap[wm.heap.size]? = some (.cells (rulC t.rules[m] (.slice A2 t.rules[m].cols.length c2)) 29 (0, 0)) ∧ w'.heap[wm.heap.size + 1]? = some (.cells (rulC t.rules[m] (.slice B2 t.rules[m].cols.length d2)) 29 (0, 0)))) (fun i _ => t.rules[m].cols.length - (intOf i).toNat)
          case atStart => exact ⟨0, Nat.zero_le _, rfl, HS⟩
          case round =>
            clear HS
            obtain ⟨k, hk, rfl, HI⟩ := hrel
            have e2 : wr.cell? ⟨wm.heap.size, 2, none⟩ = some (.slice A2 t.rules[m].cols.length c2) := (blk_cell HI.out.2.1 2).trans rfl
            have f2 : wr.cell? ⟨wm.heap.size + 1, 2, none⟩ = some (.slice B2 t.rules[m].cols.length d2) := (blk_cell HI.out.2.2 2).trans rfl
            by_cases hl2 : k < t.rules[m].cols.length
            · obtain ⟨ad2, e, x0⟩ := strAt_ (Kd.C_below HX.out.1 HI.out.1) k hl2
              cases e
              obtain ⟨bd2, e, y0⟩ := strAt_ (Kd.C_below HX.out.2 HI.out.1) k hl2
              cases e
              have q0 : (0 : Int) ≤ (k : Int) := by omega
              have q1 : (k : Int) < (t.rules[m].cols.length : Int) := by omega
              go_wp2
              go_quiet (fail)
              go_wp2
              go_roundw
              case rel => exact ⟨k + 1, by omega, by go_num, ⟨pw_below_drewN HI.out.1 _, HI.out.2⟩⟩
              case measure => simp [intOf]; omega
            · have hd2 : decide (k < t.rules[m].cols.length) = false := decide_eq_false hl2
              have HN := Aside0.mk (And.intro (below_step HJ.out.1 HI.out.1) (And.intro (blk_below HJ.out.2.1 HI.out.1) (blk_below HJ.out.2.2 HI.out.1)))
              go_wp2
              go_roundw
              case rel => exact ⟨m + 1, by omega, by go_num, HN⟩
              case measure => simp [intOf]; omega
        · have hd : decide (m < t.rules.length) = false := decide_eq_false hlt
          go_wp2
          go_ret
          exact ⟨rfl, HJ.out.1⟩
end Go.Proofs.YtmmiehckgkadgaaGreat.O
namespace Go.Proofs.YtmmiehckgkadgaaGreat.O
set_option linter.unusedVariables false
set_option linter.unusedSimpArgs false
open Go.RowKit Go.Proofs.YtmmiehckgkadgaaGreatW.PrintWords
theorem keep12 {w0 w w' : World} {v0 v1 v2 v3 v4 v5 v6 v7 v8 v9 v10 v11 : Value} {a0 a1 a2 a3 a4 a5 a6 a7 a8 a9 a10 a11 : Addr} (h : w.cell? a0 = some v0 ∧ w.cell? a1 = some v1 ∧ w.cell? a2 = some v2 ∧ w.cell? a3 = some v3 ∧ w.cell? a4 = some v4 ∧ w.cell? a5 = some v5 ∧ w.cell? a6 = some v6 ∧ w.cell? a7 = some v7 ∧ w.cell? a8 = some v8 ∧ w.cell? a9 = some v9 ∧ w.cell? a10 = some v10 ∧ w.cell? a11 = some v11 ∧ Below w0.heap.size w0 w) (hb : Below w.heap.size w w') : w'.cell? a0 = some v0 ∧ w'.cell? a1 = some v1 ∧ w'.cell? a2 = some v2 ∧ w'.cell? a3 = some v3 ∧ w'.cell? a4 = some v4 ∧ w'.cell? a5 = some v5 ∧ w'.cell? a6 = some v6 ∧ w'.cell? a7 = some v7 ∧ w'.cell? a8 = some v8 ∧ w'.cell? a9 = some v9 ∧ w'.cell? a10 = some v10 ∧ w'.cell? a11 = some v11 ∧ Below w0.heap.size w0 w' :=
  ⟨pw_cell_below hb h.1, pw_cell_below hb h.2.1, pw_cell_below hb h.2.2.1, pw_cell_below hb h.2.2.2.1, pw_cell_below hb h.2.2.2.2.1, pw_cell_below hb h.2.2.2.2.2.1, pw_cell_below hb h.2.2.2.2.2.2.1, pw_cell_below hb h.2.2.2.2.2.2.2.1, pw_cell_below hb h.2.2.2.2.2.2.2.2.1, pw_cell_below hb h.2.2.2.2.2.2.2.2.2.1, pw_cell_below hb h.2.2.2.2.2.2.2.2.2.2.1, pw_cell_below hb h.2.2.2.2.2.2.2.2.2.2.2.1, below_step h.2.2.2.2.2.2.2.2.2.2.2.2 hb⟩
def BoxO2 (g n m : Nat) (As Bs At Bt : Option Addr) (cs ds ct dt : Nat) (W : World) : Prop := W.heap[g]? = some (.cells #[.slice As n cs, .slice At m ct] 25 (0, 0)) ∧ W.heap[g + 1]? = some (.cells #[.slice Bs n ds, .slice Bt m dt] 25 (0, 0))
set_option maxRecDepth 100000 in
set_option maxHeartbeats 4000000 in
theorem rSame.calls {As Bs At Bt : Option Addr} {cs ds ct dt : Nat} (ss : List Sch) (ts : List Tab) (w : World) (hs : kSch.C w As ss.length ss) (ht : kTab.C w At ts.length ts) (ks : kSch.C w Bs ss.length ss) (kt : kTab.C w Bt ts.length ts) (hsl : ss.length ≤ 3000) (hF : TabsB ts) :
    Calls Tryz.prog 17 #[.agg #[.slice As ss.length cs, .slice At ts.length ct], .agg #[.slice Bs ss.length ds, .slice Bt ts.length dt]] w fun e w' => e = .returned (.bool true) ∧ Below w.heap.size w w' := by
  have HF := Aside0.mk hF.2
  have hln : ts.length ≤ 3000 := hF.1
  have HC := Aside0.mk (And.intro hs ks)
  have HU := Aside0.mk (And.intro ht kt)
  have HB2 := Aside0.mk (boxes2 w (.cells #[.slice As ss.length cs, .slice At ts.length ct] 25) (.cells #[.slice Bs ss.length ds, .slice Bt ts.length dt] 25))
  clear hs ht ks kt hF
  go_enter Tryz.func17, Tryz.ntmps17
  go_wp2
  generalize hW : (w.alloc _).alloc _ = W0
  have HS : Aside0 (Below w.heap.size w W0 ∧ BoxO2 w.heap.size ss.length ts.length As Bs At Bt cs ds ct dt W0) := ⟨by rw [← hW]; exact HB2.out⟩
  clear HB2 hW
  go_loopw [5] (fun i w' => ∃ k : Nat, k ≤ ss.length ∧ i = .int .i64 k ∧ Aside0 (Below w.heap.size w w' ∧ BoxO2 w.heap.size ss.length ts.length As Bs At Bt cs ds ct dt w')) (fun i _ => ss.length - (intOf i).toNat)
  case atStart => exact ⟨0, Nat.zero_le _, rfl, HS⟩
  case round =>
    clear HS
    obtain ⟨k, hk, rfl, HJ⟩ := hrel
    have e3 : wr.cell? ⟨w.heap.size, 0, none⟩ = some (.slice As ss.length cs) := (blk_cell HJ.out.2.1 0).trans rfl
    have f3 : wr.cell? ⟨w.heap.size + 1, 0, none⟩ = some (.slice Bs ss.length ds) := (blk_cell HJ.out.2.2 0).trans rfl
    by_cases hlt : k < ss.length
    · obtain ⟨ad, e, x0, x1⟩ := schAt_ (Kd.C_below HC.out.1 HJ.out.1) k hlt
      cases e
      obtain ⟨bd, e, y0, y1⟩ := schAt_ (Kd.C_below HC.out.2 HJ.out.1) k hlt
      cases e
      have h0 : (0 : Int) ≤ (k : Int) := by omega
      have h1 : (k : Int) < (ss.length : Int) := by omega
      go_wp2
      go_quiet (fail)
      go_wp2
      go_roundw
      case rel => exact ⟨k + 1, by omega, by go_num, ⟨pw_below_drewN HJ.out.1 _, HJ.out.2⟩⟩
      case measure => simp [intOf]; omega
    · have hd : decide (k < ss.length) = false := decide_eq_false hlt
      obtain ⟨wo, rfl⟩ : ∃ wo : World, wo = wr := ⟨_, rfl⟩
      go_wp2
      clear e3 f3 HC
      go_loopw [6] (fun i w' => ∃ k : Nat, k ≤ ts.length ∧ i = .int .i64 k ∧ Aside0 (Below w.heap.size w w' ∧ BoxO2 w.heap.size ss.length ts.length As Bs At Bt cs ds ct dt w')) (fun i _ => ts.length - (intOf i).toNat)
      case atStart => exact ⟨0, Nat.zero_le _, rfl, HJ⟩
      case round =>
        clear HJ hlt hd hk
        obtain ⟨m, hm, rfl, HJ⟩ := hrel
        have e4 : wr.cell? ⟨w.heap.size, 1, none⟩ = some (.slice At ts.length ct) := (blk_cell HJ.out.2.1 1).trans rfl
        have f4 : wr.cell? ⟨w.heap.size + 1, 1, none⟩ = some (.slice Bt ts.length dt) := (blk_cell HJ.out.2.2 1).trans rfl
        by_cases hlt : m < ts.length
        · obtain ⟨ad, A3, c3, A4, c4, e, x0, x1, x2, x3, x4, _, p3, _, p4⟩ := tabAt (Kd.C_below HU.out.1 HJ.out.1) m hlt
          cases e
          obtain ⟨bd, B3, d3, B4, d4, e, y0, y1, y2, y3, y4, _, q3, _, q4⟩ := tabAt (Kd.C_below HU.out.2 HJ.out.1) m hlt
          cases e
          have HK := Aside0.mk (fun W (hW : Below wr.heap.size wr W) => rSameTable.calls ts[m] (c3 := c3) (c4 := c4) (d3 := d3) (d4 := d4) W (Kd.C_below p3 hW) (Kd.C_below p4 hW) (Kd.C_below q3 hW) (Kd.C_below q4 hW) (HF.out _ (List.getElem_mem hlt)))
          have h0 : (0 : Int) ≤ (m : Int) := by omega
          have h1 : (m : Int) < (ts.length : Int) := by omega
          clear p3 p4 q3 q4
          go_wp2
          go_region_held3 (fun w' => w'.cell? ⟨w.heap.size, 1, none⟩ = some (.slice (some ad) ts.length ct) ∧ w'.cell? ⟨w.heap.size + 1, 1, none⟩ = some (.slice (some bd) ts.length dt) ∧ w'.cell? (ad.add (m * 5)) = some (.string ts[m].schema) ∧ w'.cell? ⟨(ad.add (m * 5)).block, (ad.add (m * 5)).off + 1, none⟩ = some (.string ts[m].name) ∧ w'.cell? ⟨(ad.add (m * 5)).block, (ad.add (m * 5)).off + 2, none⟩ = some (.string ts[m].owner) ∧ w'.cell? ⟨(ad.add (m * 5)).block, (ad.add (m * 5)).off + 3, none⟩ = some (.slice A3 ts[m].cols.length c3) ∧ w'.cell? ⟨(ad.add (m * 5)).block, (ad.add (m * 5)).off + 4, none⟩ = some (.slice A4 ts[m].rules.length c4) ∧ w'.cell? (bd.add (m * 5)) = some (.string ts[m].schema) ∧ w'.cell? ⟨(bd.add (m * 5)).block, (bd.add (m * 5)).off + 1, none⟩ = some (.string ts[m].name) ∧ w'.cell? ⟨(bd.add (m * 5)).block, (bd.add (m * 5)).off + 2, none⟩ = some (.string ts[m].owner) ∧ w'.cell? ⟨(bd.add (m * 5)).block, (bd.add (m * 5)).off + 3, none⟩ = some (.slice B3 ts[m].cols.length d3) ∧ w'.cell? ⟨(bd.add (m * 5)).block, (bd.add (m * 5)).off + 4, none⟩ = some (.slice B4 ts[m].rules.length d4) ∧ Below wr.heap.size wr w')
            (first | exact keep12 (by assumption) (by assumption) | exact ⟨e4, f4, x0, x1, x2, x3, x4, y0, y1, y2, y3, y4, below_drew (Below.refl _ _)⟩)
            (first | (go_at_call 63; refine (HK.out _ ?_).mono ?_; exact below_drew (Below.refl _ _); rintro e w' ⟨rfl, hb⟩))
          rename_i hH
          have hbW : Below wr.heap.size wr w' := hH.2.2.2.2.2.2.2.2.2.2.2.2
          have HN := Aside0.mk (And.intro (below_step HJ.out.1 hbW) (And.intro (blk_below HJ.out.2.1 hbW) (blk_below HJ.out.2.2 hbW)))
          clear hH hb hbW e4 f4 x0 x1 x2 x3 x4 y0 y1 y2 y3 y4 HK
          go_wp2
          go_roundw
          case rel => exact ⟨m + 1, by omega, by go_num, HN⟩
          case measure => simp [intOf]; omega
        · have hd : decide (m < ts.length) = false := decide_eq_false hlt
          go_wp2
          go_ret
          exact ⟨rfl, HJ.out.1⟩
end Go.Proofs.YtmmiehckgkadgaaGreat.O
