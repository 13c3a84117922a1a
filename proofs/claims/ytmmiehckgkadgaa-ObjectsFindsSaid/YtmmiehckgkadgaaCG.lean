/- The document's Same at equal values. -/
import Derived.Test.YtmmiehckgkadgaaCF
namespace Go.Proofs.Ytmmiehckgkadgaa.O
set_option linter.unusedVariables false
set_option linter.unusedSimpArgs false
open Go.RowKit Go.Proofs.YtmmiehckgkadgaaW.PrintWords

theorem keep12 {w0 w w' : World} {v0 v1 v2 v3 v4 v5 v6 v7 v8 v9 v10 v11 : Value} {a0 a1 a2 a3 a4 a5 a6 a7 a8 a9 a10 a11 : Addr} (h : w.cell? a0 = some v0 ∧ w.cell? a1 = some v1 ∧ w.cell? a2 = some v2 ∧ w.cell? a3 = some v3 ∧ w.cell? a4 = some v4 ∧ w.cell? a5 = some v5 ∧ w.cell? a6 = some v6 ∧ w.cell? a7 = some v7 ∧ w.cell? a8 = some v8 ∧ w.cell? a9 = some v9 ∧ w.cell? a10 = some v10 ∧ w.cell? a11 = some v11 ∧ Below w0.heap.size w0 w) (hb : Below w.heap.size w w') : w'.cell? a0 = some v0 ∧ w'.cell? a1 = some v1 ∧ w'.cell? a2 = some v2 ∧ w'.cell? a3 = some v3 ∧ w'.cell? a4 = some v4 ∧ w'.cell? a5 = some v5 ∧ w'.cell? a6 = some v6 ∧ w'.cell? a7 = some v7 ∧ w'.cell? a8 = some v8 ∧ w'.cell? a9 = some v9 ∧ w'.cell? a10 = some v10 ∧ w'.cell? a11 = some v11 ∧ Below w0.heap.size w0 w' :=
  ⟨pw_cell_below hb h.1, pw_cell_below hb h.2.1, pw_cell_below hb h.2.2.1, pw_cell_below hb h.2.2.2.1, pw_cell_below hb h.2.2.2.2.1, pw_cell_below hb h.2.2.2.2.2.1, pw_cell_below hb h.2.2.2.2.2.2.1, pw_cell_below hb h.2.2.2.2.2.2.2.1, pw_cell_below hb h.2.2.2.2.2.2.2.2.1, pw_cell_below hb h.2.2.2.2.2.2.2.2.2.1, pw_cell_below hb h.2.2.2.2.2.2.2.2.2.2.1, pw_cell_below hb h.2.2.2.2.2.2.2.2.2.2.2.1, below_step h.2.2.2.2.2.2.2.2.2.2.2.2 hb⟩

def BoxO2 (g n m : Nat) (As Bs At Bt : Option Addr) (cs ds ct dt : Nat) (W : World) : Prop := W.heap[g]? = some (.cells #[.slice As n cs, .slice At m ct] 26 (0, 0)) ∧ W.heap[g + 1]? = some (.cells #[.slice Bs n ds, .slice Bt m dt] 26 (0, 0))
set_option maxRecDepth 100000 in
set_option maxHeartbeats 4000000 in
theorem rSame.calls {As Bs At Bt : Option Addr} {cs ds ct dt : Nat} (ss : List Sch) (ts : List Tab) (w : World) (hs : kSch.C w As ss.length ss) (ht : kTab.C w At ts.length ts) (ks : kSch.C w Bs ss.length ss) (kt : kTab.C w Bt ts.length ts) (hsl : ss.length ≤ 3000) (hF : TabsB ts) :
    Calls Try.prog 57 #[.agg #[.slice As ss.length cs, .slice At ts.length ct], .agg #[.slice Bs ss.length ds, .slice Bt ts.length dt]] w fun e w' => e = .returned (.bool true) ∧ Below w.heap.size w w' := by
  have HF := Aside0.mk hF.2
  have hln : ts.length ≤ 3000 := hF.1
  have HC := Aside0.mk (And.intro hs ks)
  have HU := Aside0.mk (And.intro ht kt)
  have HB2 := Aside0.mk (boxes2 w (.cells #[.slice As ss.length cs, .slice At ts.length ct] 26) (.cells #[.slice Bs ss.length ds, .slice Bt ts.length dt] 26))
  clear hs ht ks kt hF
  go_enter Try.func57, Try.ntmps57
  go_wp2
  generalize hW : (w.alloc _).alloc _ = W0
  have HS : Aside0 (Below w.heap.size w W0 ∧ BoxO2 w.heap.size ss.length ts.length As Bs At Bt cs ds ct dt W0) := ⟨by rw [← hW]; exact HB2.out⟩
  clear HB2 hW
  go_loopw [5] (fun i w' => ∃ k : Nat, k ≤ ss.length ∧ i = .int .i64 k ∧ Aside0 (Below w.heap.size w w' ∧ BoxO2 w.heap.size ss.length ts.length As Bs At Bt cs ds ct dt w')) (fun i _ => ss.length - (intOf i).toNat)
  case atStart => exact ⟨0, Nat.zero_le _, rfl, HS⟩
  case round =>
    clear HS
    obtain ⟨k, hk, rfl, HJ⟩ := hrel
    have e3 : wr.cell? ⟨w.heap.size, 0, none⟩ = some (.slice As ss.length cs) := (blk_cell HJ.out.2.1 0).trans rfl
    have f3 : wr.cell? ⟨w.heap.size + 1, 0, none⟩ = some (.slice Bs ss.length ds) := (blk_cell HJ.out.2.2 0).trans rfl
    by_cases hlt : k < ss.length
    · obtain ⟨ad, e, x0, x1⟩ := schAt_ (Kd.C_below HC.out.1 HJ.out.1) k hlt
      cases e
      obtain ⟨bd, e, y0, y1⟩ := schAt_ (Kd.C_below HC.out.2 HJ.out.1) k hlt
      cases e
      have h0 : (0 : Int) ≤ (k : Int) := by omega
      have h1 : (k : Int) < (ss.length : Int) := by omega
      go_wp2
      go_quiet (fail)
      go_wp2
      go_roundw
      case rel => exact ⟨k + 1, by omega, by go_num, ⟨pw_below_drewN HJ.out.1 _, HJ.out.2⟩⟩
      case measure => simp [intOf]; omega
    · have hd : decide (k < ss.length) = false := decide_eq_false hlt
      obtain ⟨wo, rfl⟩ : ∃ wo : World, wo = wr := ⟨_, rfl⟩
      go_wp2
      clear e3 f3 HC
      go_loopw [6] (fun i w' => ∃ k : Nat, k ≤ ts.length ∧ i = .int .i64 k ∧ Aside0 (Below w.heap.size w w' ∧ BoxO2 w.heap.size ss.length ts.length As Bs At Bt cs ds ct dt w')) (fun i _ => ts.length - (intOf i).toNat)
      case atStart => exact ⟨0, Nat.zero_le _, rfl, HJ⟩
      case round =>
        clear HJ hlt hd hk
        obtain ⟨m, hm, rfl, HJ⟩ := hrel
        have e4 : wr.cell? ⟨w.heap.size, 1, none⟩ = some (.slice At ts.length ct) := (blk_cell HJ.out.2.1 1).trans rfl
        have f4 : wr.cell? ⟨w.heap.size + 1, 1, none⟩ = some (.slice Bt ts.length dt) := (blk_cell HJ.out.2.2 1).trans rfl
        by_cases hlt : m < ts.length
        · obtain ⟨ad, A3, c3, A4, c4, e, x0, x1, x2, x3, x4, _, p3, _, p4⟩ := tabAt (Kd.C_below HU.out.1 HJ.out.1) m hlt
          cases e
          obtain ⟨bd, B3, d3, B4, d4, e, y0, y1, y2, y3, y4, _, q3, _, q4⟩ := tabAt (Kd.C_below HU.out.2 HJ.out.1) m hlt
          cases e
          have HK := Aside0.mk (fun W (hW : Below wr.heap.size wr W) => rSameTable.calls ts[m] (c3 := c3) (c4 := c4) (d3 := d3) (d4 := d4) W (Kd.C_below p3 hW) (Kd.C_below p4 hW) (Kd.C_below q3 hW) (Kd.C_below q4 hW) (HF.out _ (List.getElem_mem hlt)))
          have h0 : (0 : Int) ≤ (m : Int) := by omega
          have h1 : (m : Int) < (ts.length : Int) := by omega
          clear p3 p4 q3 q4
          go_wp2
          go_region_held3 (fun w' => w'.cell? ⟨w.heap.size, 1, none⟩ = some (.slice (some ad) ts.length ct) ∧ w'.cell? ⟨w.heap.size + 1, 1, none⟩ = some (.slice (some bd) ts.length dt) ∧ w'.cell? (ad.add (m * 5)) = some (.string ts[m].schema) ∧ w'.cell? ⟨(ad.add (m * 5)).block, (ad.add (m * 5)).off + 1, none⟩ = some (.string ts[m].name) ∧ w'.cell? ⟨(ad.add (m * 5)).block, (ad.add (m * 5)).off + 2, none⟩ = some (.string ts[m].owner) ∧ w'.cell? ⟨(ad.add (m * 5)).block, (ad.add (m * 5)).off + 3, none⟩ = some (.slice A3 ts[m].cols.length c3) ∧ w'.cell? ⟨(ad.add (m * 5)).block, (ad.add (m * 5)).off + 4, none⟩ = some (.slice A4 ts[m].rules.length c4) ∧ w'.cell? (bd.add (m * 5)) = some (.string ts[m].schema) ∧ w'.cell? ⟨(bd.add (m * 5)).block, (bd.add (m * 5)).off + 1, none⟩ = some (.string ts[m].name) ∧ w'.cell? ⟨(bd.add (m * 5)).block, (bd.add (m * 5)).off + 2, none⟩ = some (.string ts[m].owner) ∧ w'.cell? ⟨(bd.add (m * 5)).block, (bd.add (m * 5)).off + 3, none⟩ = some (.slice B3 ts[m].cols.length d3) ∧ w'.cell? ⟨(bd.add (m * 5)).block, (bd.add (m * 5)).off + 4, none⟩ = some (.slice B4 ts[m].rules.length d4) ∧ Below wr.heap.size wr w')
            (first | exact keep12 (by assumption) (by assumption) | exact ⟨e4, f4, x0, x1, x2, x3, x4, y0, y1, y2, y3, y4, below_drew (Below.refl _ _)⟩)
            (first | (go_at_call 18; refine (HK.out _ ?_).mono ?_; exact below_drew (Below.refl _ _); rintro e w' ⟨rfl, hb⟩))
          rename_i hH
          have hbW : Below wr.heap.size wr w' := hH.2.2.2.2.2.2.2.2.2.2.2.2
          have HN := Aside0.mk (And.intro (below_step HJ.out.1 hbW) (And.intro (blk_below HJ.out.2.1 hbW) (blk_below HJ.out.2.2 hbW)))
          clear hH hb hbW e4 f4 x0 x1 x2 x3 x4 y0 y1 y2 y3 y4 HK
          go_wp2
          go_roundw
          case rel => exact ⟨m + 1, by omega, by go_num, HN⟩
          case measure => simp [intOf]; omega
        · have hd : decide (m < ts.length) = false := decide_eq_false hlt
          go_wp2
          go_ret
          exact ⟨rfl, HJ.out.1⟩
end Go.Proofs.Ytmmiehckgkadgaa.O
