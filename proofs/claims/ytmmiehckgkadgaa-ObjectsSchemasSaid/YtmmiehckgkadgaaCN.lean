/- told, walked. -/
import Derived.Test.YtmmiehckgkadgaaCM
namespace Go.Proofs.Ytmmiehckgkadgaa.O
set_option linter.unusedVariables false
set_option linter.unusedSimpArgs false
open Go.RowKit Go.Proofs.YtmmiehckgkadgaaW.PrintWords

theorem boxes4 (w : World) (o1 o2 o3 o4 : Obj) : Below w.heap.size w ((((w.alloc o1).alloc o2).alloc o3).alloc o4) ∧ ((((w.alloc o1).alloc o2).alloc o3).alloc o4).heap[w.heap.size]? = some o1 ∧ ((((w.alloc o1).alloc o2).alloc o3).alloc o4).heap[w.heap.size + 1]? = some o2 ∧ ((((w.alloc o1).alloc o2).alloc o3).alloc o4).heap[w.heap.size + 1 + 1]? = some o3 ∧ ((((w.alloc o1).alloc o2).alloc o3).alloc o4).heap[w.heap.size + 1 + 1 + 1]? = some o4 := by
  obtain ⟨h0, h1, h2, h3⟩ := boxes3 w o1 o2 o3
  have e : (((w.alloc o1).alloc o2).alloc o3).heap.size = w.heap.size + 1 + 1 + 1 := by simp
  obtain ⟨k0, k1⟩ := boxes1 (((w.alloc o1).alloc o2).alloc o3) o4
  rw [e] at k1
  exact ⟨below_step h0 k0, blk_below h1 k0, blk_below h2 k0, blk_below h3 k0, k1⟩
def over : ByteArray := ⟨#[111, 118, 101, 114]⟩
set_option maxRecDepth 100000 in
set_option maxHeartbeats 8000000 in
theorem told.calls (n : Int) {Gs Gt Hs Ht As At Cs Ct : Option Addr} {g1 g2 h1 h2 a1 a2 c1 c2 : Nat} (gs : List Sch) (gt : List Tab) (ss : List Sch) (ts : List Tab) (w : World) (b e : Nat)
    (hg1 : kSch.R 63 w b (fun k => b ≤ k ∧ k < e) (.slice Gs gs.length g1) gs) (hg2 : kTab.R 35 w b (fun k => b ≤ k ∧ k < e) (.slice Gt gt.length g2) gt) (hw1 : kSch.C w Hs gs.length gs) (hw2 : kTab.C w Ht gt.length gt)
    (ho1 : Kd.F kSch w (fun k => ¬ (b ≤ k ∧ k < e)) As ss.length ss) (ho2 : Kd.F kTab w (fun k => ¬ (b ≤ k ∧ k < e)) At ts.length ts) (hc1 : Kd.F kSch w (fun k => ¬ (b ≤ k ∧ k < e)) Cs ss.length ss) (hc2 : Kd.F kTab w (fun k => ¬ (b ≤ k ∧ k < e)) Ct ts.length ts)
    (he : e ≤ w.heap.size) (hgl : gs.length ≤ 3000) (hgB : TabsB gt) (hsl : ss.length ≤ 3000) (htB : TabsB ts) :
    Calls Try.prog 22 #[.agg #[.slice Gs gs.length g1, .slice Gt gt.length g2], .int .i64 n, .agg #[.slice Hs gs.length h1, .slice Ht gt.length h2], .int .i64 n, .agg #[.slice As ss.length a1, .slice At ts.length a2], .agg #[.slice Cs ss.length c1, .slice Ct ts.length c2]] w fun e' w' => e' = .returned (.bool true) ∧ Spr (fun k => b ≤ k ∧ k < e) w w' := by
  have H4 := Aside0.mk (boxes4 w (.cells #[.slice Gs gs.length g1, .slice Gt gt.length g2] 26) (.cells #[.slice Hs gs.length h1, .slice Ht gt.length h2] 26) (.cells #[.slice As ss.length a1, .slice At ts.length a2] 26) (.cells #[.slice Cs ss.length c1, .slice Ct ts.length c2] 26))
  have HS1 := Aside0.mk (fun W (hW : Below w.heap.size w W) => rSame.calls (As := Gs) (Bs := Hs) (At := Gt) (Bt := Ht) (cs := g1) (ds := h1) (ct := g2) (dt := h2) gs gt W (Kd.C_below (Kd.R_reads' hg1).2.2 hW) (Kd.C_below (Kd.R_reads' hg2).2.2 hW) (Kd.C_below hw1 hW) (Kd.C_below hw2 hW) hgl hgB)
  have HS2 := Aside0.mk (fun W (hW : Spr (fun k => b ≤ k ∧ k < e) w W) => rSame.calls (As := As) (Bs := Cs) (At := At) (Bt := Ct) (cs := a1) (ds := c1) (ct := a2) (dt := c2) ss ts W (ho1 W (fun k hk hlt => hW.2.2.2.2 k hlt hk)) (ho2 W (fun k hk hlt => hW.2.2.2.2 k hlt hk)) (hc1 W (fun k hk hlt => hW.2.2.2.2 k hlt hk)) (hc2 W (fun k hk hlt => hW.2.2.2.2 k hlt hk)) hsl htB)
  have HG := Aside0.mk (And.intro hg1 hg2)
  have hlg : gt.length ≤ 3000 := hgB.1
  have HGB := Aside0.mk hgB.2
  have HE := Aside0.mk he
  clear hg1 hg2 hw1 hw2 ho1 ho2 hc1 hc2 he hgB htB
  go_enter Try.func22, Try.ntmps22
  go_wp2_with fail
  refine (HS1.out _ H4.out.1).mono ?_
  rintro e_ w1 ⟨rfl, hb1⟩
  have HB1 := Aside0.mk (below_step H4.out.1 hb1)
  have HK := Aside0.mk (fun (wr : World) (h : Ovr (fun k => b ≤ k ∧ k < e) w1 wr) => (h.2.2.2.2.1 w.heap.size (fun hs => by have := HE.out; omega)).trans (blk_below H4.out.2.1 hb1))
  have HK3 := Aside0.mk (fun (wr : World) (h : Ovr (fun k => b ≤ k ∧ k < e) w1 wr) => (h.2.2.2.2.1 (w.heap.size + 1 + 1) (fun hs => by have := HE.out; omega)).trans (blk_below H4.out.2.2.2.1 hb1))
  have HK4 := Aside0.mk (fun (wr : World) (h : Ovr (fun k => b ≤ k ∧ k < e) w1 wr) => (h.2.2.2.2.1 (w.heap.size + 1 + 1 + 1) (fun hs => by have := HE.out; omega)).trans (blk_below H4.out.2.2.2.2 hb1))
  have HG1 := Aside0.mk (And.intro (Kd.R_below HG.out.1 (below_step H4.out.1 hb1)) (Kd.R_below HG.out.2 (below_step H4.out.1 hb1)))
  clear hb1 H4 HS1 HG
  go_wp2
  go_loopw [14] (fun i w' => ∃ k : Nat, k ≤ gt.length ∧ i = .int .i64 k ∧ Aside0 (Ovr (fun k => b ≤ k ∧ k < e) w1 w')) (fun i _ => gt.length - (intOf i).toNat)
  case atStart => exact ⟨0, Nat.zero_le _, rfl, ⟨Ovr.refl _ _⟩⟩
  case round =>
    obtain ⟨k, hk, rfl, HJ⟩ := hrel
    have x1 : wr.cell? ⟨w.heap.size, 1, none⟩ = some (.slice Gt gt.length g2) := (blk_cell (HK.out _ HJ.out) 1).trans rfl
    by_cases hlt : k < gt.length
    · obtain ⟨g, A3, c3, A4, c4, ea, ok1, pl1, y1, y3, y4, R3, R4⟩ := ownTab HG1.out.2 k hlt
      cases ea
      have HT := Aside0.mk (And.intro ok1 (And.intro pl1 (And.intro y1 (And.intro y3 (And.intro y4 (And.intro R3 R4))))))
      have hl3 : gt[k].cols.length ≤ 3000 := (HGB.out _ (List.getElem_mem hlt)).1
      have hl4 : gt[k].rules.length ≤ 3000 := (HGB.out _ (List.getElem_mem hlt)).2.1
      have HL5 := Aside0.mk (HGB.out _ (List.getElem_mem hlt)).2.2
      have k0 : (0 : Int) ≤ (k : Int) := by omega
      have k1 : (k : Int) < (gt.length : Int) := by omega
      clear ok1 pl1 y1 y3 y4 R3 R4
      go_wp2
      clear x1
      obtain ⟨wo, rfl⟩ : ∃ wo : World, wo = wr := ⟨_, rfl⟩
      go_loopw [15] (fun i w' => ∃ j : Nat, j ≤ gt[k].cols.length ∧ i = .int .i64 j ∧ Aside0 (Ovr (fun k => b ≤ k ∧ k < e) w1 w')) (fun i _ => gt[k].cols.length - (intOf i).toNat)
      case atStart => exact ⟨0, Nat.zero_le _, rfl, HJ⟩
      case round =>
        clear HJ
        obtain ⟨j, hj, rfl, HJ⟩ := hrel
        have x1 : wr.cell? ⟨w.heap.size, 1, none⟩ = some (.slice (some ⟨g, 0, none⟩) gt.length g2) := (blk_cell (HK.out _ HJ.out) 1).trans rfl
        have x3 := HJ.out.slice HT.out.2.1 HT.out.2.2.2.1
        by_cases hlt2 : j < gt[k].cols.length
        · obtain ⟨gc, ea, ok2, pl2, z0⟩ := ownCol HT.out.2.2.2.2.2.1 j hlt2
          cases ea
          obtain ⟨⟨s0, z1⟩, z2⟩ := HJ.out.text pl2 z0
          have HN := Aside0.mk (HJ.out.store ok2 pl2 z0 ⟨#[111, 118, 101, 114]⟩)
          have j0 : (0 : Int) ≤ (j : Int) := by omega
          have j1 : (j : Int) < (gt[k].cols.length : Int) := by omega
          clear ok2 pl2 z0
          go_wp2
          go_roundw
          case rel => exact ⟨j + 1, by omega, by go_num, HN⟩
          case measure => simp [intOf]; omega
        · have hd : decide (j < gt[k].cols.length) = false := decide_eq_false hlt2
          go_wp2
          clear x1 x3 hd hlt2 hj
          obtain ⟨wp, rfl⟩ : ∃ wp : World, wp = wr := ⟨_, rfl⟩
          go_loopw [16] (fun i w' => ∃ j : Nat, j ≤ gt[k].rules.length ∧ i = .int .i64 j ∧ Aside0 (Ovr (fun k => b ≤ k ∧ k < e) w1 w')) (fun i _ => gt[k].rules.length - (intOf i).toNat)
          case atStart => exact ⟨0, Nat.zero_le _, rfl, HJ⟩
          case round =>
            clear HJ
            obtain ⟨j, hj, rfl, HJ⟩ := hrel
            have x1 : wr.cell? ⟨w.heap.size, 1, none⟩ = some (.slice (some ⟨g, 0, none⟩) gt.length g2) := (blk_cell (HK.out _ HJ.out) 1).trans rfl
            have x4 := HJ.out.slice HT.out.2.1 HT.out.2.2.2.2.1
            by_cases hlt2 : j < gt[k].rules.length
            · obtain ⟨gr, A2, c2, ea, ok2, pl2, z0, z2, R2⟩ := ownRul HT.out.2.2.2.2.2.2 j hlt2
              cases ea
              have HR := Aside0.mk (And.intro ok2 (And.intro pl2 (And.intro z0 (And.intro z2 R2))))
              have hl5 : gt[k].rules[j].cols.length ≤ 3000 := HL5.out _ (List.getElem_mem hlt2)
              have j0 : (0 : Int) ≤ (j : Int) := by omega
              have j1 : (j : Int) < (gt[k].rules.length : Int) := by omega
              clear ok2 pl2 z0 z2 R2
              go_wp2
              clear x1 x4
              obtain ⟨wq, rfl⟩ : ∃ wq : World, wq = wr := ⟨_, rfl⟩
              go_loopw [17] (fun i w' => ∃ m : Nat, m ≤ gt[k].rules[j].cols.length ∧ i = .int .i64 m ∧ Aside0 (Ovr (fun k => b ≤ k ∧ k < e) w1 w')) (fun i _ => gt[k].rules[j].cols.length - (intOf i).toNat)
              case atStart => exact ⟨0, Nat.zero_le _, rfl, HJ⟩
              case round =>
                clear HJ
                obtain ⟨m, hm, rfl, HJ⟩ := hrel
                have x1 : wr.cell? ⟨w.heap.size, 1, none⟩ = some (.slice (some ⟨g, 0, none⟩) gt.length g2) := (blk_cell (HK.out _ HJ.out) 1).trans rfl
                have x4 := HJ.out.slice HT.out.2.1 HT.out.2.2.2.2.1
                have x2 := HJ.out.slice HR.out.2.1 HR.out.2.2.2.1
                by_cases hlt3 : m < gt[k].rules[j].cols.length
                · obtain ⟨gs_, ea, ok3, pl3, z0⟩ := ownStr HR.out.2.2.2.2 m hlt3
                  cases ea
                  obtain ⟨⟨s0, z1⟩, z2⟩ := HJ.out.text pl3 z0
                  have HN := Aside0.mk (HJ.out.store ok3 pl3 z0 ⟨#[111, 118, 101, 114]⟩)
                  have m0 : (0 : Int) ≤ (m : Int) := by omega
                  have m1 : (m : Int) < (gt[k].rules[j].cols.length : Int) := by omega
                  clear ok3 pl3 z0
                  go_wp2
                  go_roundw
                  case rel => exact ⟨m + 1, by omega, by go_num, HN⟩
                  case measure => simp [intOf]; omega
                · have hd : decide (m < gt[k].rules[j].cols.length) = false := decide_eq_false hlt3
                  obtain ⟨⟨s0, z1⟩, z2⟩ := HJ.out.text HR.out.2.1 HR.out.2.2.1
                  have HN := Aside0.mk (HJ.out.store HR.out.1 HR.out.2.1 HR.out.2.2.1 ⟨#[111, 118, 101, 114]⟩)
                  go_wp2
                  go_roundw
                  case rel => exact ⟨j + 1, by omega, by go_num, HN⟩
                  case measure => simp [intOf]; omega
            · have hd : decide (j < gt[k].rules.length) = false := decide_eq_false hlt2
              obtain ⟨⟨s0, z1⟩, z2⟩ := HJ.out.text HT.out.2.1 HT.out.2.2.1
              have HN := Aside0.mk (HJ.out.store HT.out.1 HT.out.2.1 HT.out.2.2.1 ⟨#[111, 118, 101, 114]⟩)
              go_wp2
              go_roundw
              case rel => exact ⟨k + 1, by omega, by go_num, HN⟩
              case measure => simp [intOf]; omega
    · have hd : decide (k < gt.length) = false := decide_eq_false hlt
      go_wp2
      clear x1 hd hlt hk
      obtain ⟨wo, rfl⟩ : ∃ wo : World, wo = wr := ⟨_, rfl⟩
      go_loopw [18] (fun i w' => ∃ j : Nat, j ≤ gs.length ∧ i = .int .i64 j ∧ Aside0 (Ovr (fun k => b ≤ k ∧ k < e) w1 w')) (fun i _ => gs.length - (intOf i).toNat)
      case atStart => exact ⟨0, Nat.zero_le _, rfl, HJ⟩
      case round =>
        clear HJ
        obtain ⟨j, hj, rfl, HJ⟩ := hrel
        have x1 : wr.cell? ⟨w.heap.size, 0, none⟩ = some (.slice Gs gs.length g1) := (blk_cell (HK.out _ HJ.out) 0).trans rfl
        by_cases hlt2 : j < gs.length
        · obtain ⟨gc, ea, ok2, pl2, z0⟩ := ownSch HG1.out.1 j hlt2
          cases ea
          obtain ⟨⟨s0, z1⟩, z2⟩ := HJ.out.text pl2 z0
          have HN := Aside0.mk (HJ.out.store ok2 pl2 z0 ⟨#[111, 118, 101, 114]⟩)
          have j0 : (0 : Int) ≤ (j : Int) := by omega
          have j1 : (j : Int) < (gs.length : Int) := by omega
          clear ok2 pl2 z0
          go_wp2
          go_roundw
          case rel => exact ⟨j + 1, by omega, by go_num, HN⟩
          case measure => simp [intOf]; omega
        · have hd : decide (j < gs.length) = false := decide_eq_false hlt2
          have hK3 := HK3.out _ HJ.out
          have hK4 := HK4.out _ HJ.out
          have o0 : wr.cell? ⟨w.heap.size + 1 + 1, 0, none⟩ = some (.slice As ss.length a1) := (blk_cell hK3 0).trans rfl
          have o1 : wr.cell? ⟨w.heap.size + 1 + 1, 1, none⟩ = some (.slice At ts.length a2) := (blk_cell hK3 1).trans rfl
          have o2 : wr.cell? ⟨w.heap.size + 1 + 1 + 1, 0, none⟩ = some (.slice Cs ss.length c1) := (blk_cell hK4 0).trans rfl
          have o3 : wr.cell? ⟨w.heap.size + 1 + 1 + 1, 1, none⟩ = some (.slice Ct ts.length c2) := (blk_cell hK4 1).trans rfl
          have HW := Aside0.mk ((Spr.of_below HB1.out).trans HJ.out.spr)
          clear hK3 hK4 HK HK3 HK4 HG1
          go_wp2_with fail
          refine (HS2.out _ HW.out).mono ?_
          rintro e_ w2 ⟨rfl, hb2⟩
          have HX := Aside0.mk (HW.out.trans (Spr.of_below hb2))
          clear hb2 x1 o0 o1 o2 o3
          go_wp2
          go_ret
          exact ⟨rfl, HX.out⟩
end Go.Proofs.Ytmmiehckgkadgaa.O
