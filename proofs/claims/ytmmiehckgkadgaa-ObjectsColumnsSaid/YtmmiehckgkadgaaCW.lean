/- The document's AddColumn. Printed by a program of this session (gen_addcol.py). -/
import Derived.Test.YtmmiehckgkadgaaG3
namespace Go.Proofs.Ytmmiehckgkadgaa.O
set_option linter.unusedVariables false
set_option linter.unusedSimpArgs false
open Go.RowKit Go.Proofs.YtmmiehckgkadgaaW.PrintWords

theorem addCol_bad {ss : List Sch} {ts : List Tab} {schema table : ByteArray} {c : Col} (h : checkB ss ts = false) : addColumn ss ts schema table c = (63, [], []) := by unfold addColumn chg; rw [h]; rfl
theorem tch_no {ss : List Sch} {ts : List Tab} {schema table : ByteArray} {md : Tab → Int × Tab} (h : checkB ss ts = true) (hi : idx (isT schema table) ts = -1) : chg ss ts (tch ss ts schema table md) = (61, [], []) := by unfold chg tch; rw [h, hi]; rfl
theorem tch_bad {ss : List Sch} {ts : List Tab} {schema table : ByteArray} {md : Tab → Int × Tab} {k : Nat} {n : Int} (h : checkB ss ts = true) (hi : idx (isT schema table) ts = (k : Int)) (hk : k < ts.length) (hm : (md ts[k]).1 = n) (hn : n ≠ 0) : chg ss ts (tch ss ts schema table md) = (n, [], []) := by
  unfold chg tch; rw [if_pos h, hi, if_pos (show (0 : Int) ≤ (k : Int) by omega), Int.toNat_natCast, List.getD_eq_getElem?_getD, List.getElem?_eq_getElem hk]
  simp only [Option.getD_some, hm, hn, if_false]
theorem tch_good {ss : List Sch} {ts : List Tab} {schema table : ByteArray} {md : Tab → Int × Tab} {k : Nat} {t : Tab} (h : checkB ss ts = true) (hi : idx (isT schema table) ts = (k : Int)) (hk : k < ts.length) (hm : md ts[k] = (0, t)) : chg ss ts (tch ss ts schema table md) = (0, ss, ts.set k t) := by
  unfold chg tch; rw [if_pos h, hi, if_pos (show (0 : Int) ≤ (k : Int) by omega), Int.toNat_natCast, List.getD_eq_getElem?_getD, List.getElem?_eq_getElem hk]
  simp only [Option.getD_some, hm, if_true]
/-- what has been made in memory of one's own, told -/
theorem Out.own {B : Nat} {w v1 w4 : World} {ss : List Sch} {ts : List Tab} {k z : Nat} {Bs : Option Addr} {ds g dt : Nat} {t : Tab} {e : Ending} {cs : Array Value} (hI : InDid B v1 ss ts k Bs ds g dt (0, t) e w4) (hv : Below w.heap.size w v1) (hB : w.heap.size ≤ B) (hz : w.heap.size ≤ z) (hZ : v1.heap[z]? = some (.cells cs 26 (0, 0))) :
    Out w (0, ss, ts.set k t) (.returned (.tuple #[.agg #[.slice Bs ss.length ds, .slice (some ⟨g, 0, none⟩) ts.length dt], .int .i64 0])) ((w4.setCell ⟨z, 0, none⟩ (.slice Bs ss.length ds)).setCell ⟨z, 1, none⟩ (.slice (some ⟨g, 0, none⟩) ts.length dt)) := by
  obtain ⟨_, hb, hO, hD⟩ := hI
  obtain ⟨h1, h2⟩ := hD rfl
  have hZ4 := hO _ _ hZ
  exact ⟨_, _, rfl, R_only (Kd.R_lower h1 hB) hZ4 (by decide) (set2_far _ _ _ _), R_only (Kd.R_lower (Kd.S_R h2) hB) hZ4 (by decide) (set2_far _ _ _ _), set2_below (hv.trans (hb.mono hB)) hz _ _⟩

set_option maxRecDepth 100000 in
set_option maxHeartbeats 4000000 in
theorem rAddColumn.calls {As At : Option Addr} {cs ct : Nat} (ss : List Sch) (ts : List Tab) (schema table : ByteArray) (c : Col) (w : World) (hs : kSch.C w As ss.length ss) (hsl : ss.length ≤ 3000) (ht : kTab.C w At ts.length ts) (hF : TabsF ts) (hB : TabsB ts) :
    Calls Try.prog 24 #[.agg #[Value.slice As ss.length cs, Value.slice At ts.length ct], .string schema, .string table, .agg #[.string c.name, .int .i64 c.kind, .bool c.null]] w (Out w (addColumn ss ts schema table c)) := by
  have HX0 := Aside0.mk (boxes3 w (.cells #[Value.slice As ss.length cs, Value.slice At ts.length ct] 26) (.cells #[Value.string c.name, Value.int .i64 c.kind, Value.bool c.null] 41) (.cells #[Value.slice none 0 0, Value.slice none 0 0] 26))
  have HCK := Aside0.mk (fun W (hW : Below w.heap.size w W) => rRightAll.calls (As := As) (cs := cs) (At := At) (ct := ct) ss ts W (Kd.C_below hs hW) (by omega) (Kd.C_below ht hW) hF)
  have HOW := Aside0.mk (fun W (hW : Below w.heap.size w W) => rOwn.calls (As := As) (cs := cs) (At := At) (ct := ct) ss ts W (Kd.C_below hs hW) hsl (Kd.C_below ht hW) hB)
  have HTB := Aside0.mk (fun W (hW : Below w.heap.size w W) => rTable.calls (As := As) (ns := ss.length) (cs := cs) (A0 := At) (c0 := ct) schema table ts W (Kd.C_below ht hW) (by have := hB.1; omega))
  have HT := Aside0.mk ht
  have HBB := Aside0.mk hB
  have HM := Aside0.mk (fun W => rOne.calls c W)
  have HNO := Aside0.mk (fun n W => rNo.calls n W)
  have hln : ts.length ≤ 3000 := hB.1
  clear hs ht hF hB
  cases hck : checkB ss ts with
  | false =>
    have HQ := Aside0.mk (addCol_bad (schema := schema) (table := table) (c := c) hck)
    rw [hck] at HCK
    rw [HQ.out]
    clear hck HQ HOW HTB HT HBB HM
    go_enter Try.func24, Try.ntmps24
    have c_o0 : (((w.alloc (.cells #[Value.slice As ss.length cs, Value.slice At ts.length ct] 26)).alloc (.cells #[Value.string c.name, Value.int .i64 c.kind, Value.bool c.null] 41)).alloc (.cells #[Value.slice none 0 0, Value.slice none 0 0] 26)).cell? ⟨w.heap.size, 0, none⟩ = some (Value.slice As ss.length cs) := (blk_cell HX0.out.2.1 0).trans rfl
    have f_o0 := blk_frozen HX0.out.2.1 0
    have c_o1 : (((w.alloc (.cells #[Value.slice As ss.length cs, Value.slice At ts.length ct] 26)).alloc (.cells #[Value.string c.name, Value.int .i64 c.kind, Value.bool c.null] 41)).alloc (.cells #[Value.slice none 0 0, Value.slice none 0 0] 26)).cell? ⟨w.heap.size, 1, none⟩ = some (Value.slice At ts.length ct) := (blk_cell HX0.out.2.1 1).trans rfl
    have f_o1 := blk_frozen HX0.out.2.1 1
    have c_c0 : (((w.alloc (.cells #[Value.slice As ss.length cs, Value.slice At ts.length ct] 26)).alloc (.cells #[Value.string c.name, Value.int .i64 c.kind, Value.bool c.null] 41)).alloc (.cells #[Value.slice none 0 0, Value.slice none 0 0] 26)).cell? ⟨w.heap.size + 1, 0, none⟩ = some (Value.string c.name) := (blk_cell HX0.out.2.2.1 0).trans rfl
    have f_c0 := blk_frozen HX0.out.2.2.1 0
    have c_c1 : (((w.alloc (.cells #[Value.slice As ss.length cs, Value.slice At ts.length ct] 26)).alloc (.cells #[Value.string c.name, Value.int .i64 c.kind, Value.bool c.null] 41)).alloc (.cells #[Value.slice none 0 0, Value.slice none 0 0] 26)).cell? ⟨w.heap.size + 1, 1, none⟩ = some (Value.int .i64 c.kind) := (blk_cell HX0.out.2.2.1 1).trans rfl
    have f_c1 := blk_frozen HX0.out.2.2.1 1
    have c_c2 : (((w.alloc (.cells #[Value.slice As ss.length cs, Value.slice At ts.length ct] 26)).alloc (.cells #[Value.string c.name, Value.int .i64 c.kind, Value.bool c.null] 41)).alloc (.cells #[Value.slice none 0 0, Value.slice none 0 0] 26)).cell? ⟨w.heap.size + 1, 2, none⟩ = some (Value.bool c.null) := (blk_cell HX0.out.2.2.1 2).trans rfl
    have f_c2 := blk_frozen HX0.out.2.2.1 2
    have c_z0 : (((w.alloc (.cells #[Value.slice As ss.length cs, Value.slice At ts.length ct] 26)).alloc (.cells #[Value.string c.name, Value.int .i64 c.kind, Value.bool c.null] 41)).alloc (.cells #[Value.slice none 0 0, Value.slice none 0 0] 26)).cell? ⟨w.heap.size + 1 + 1, 0, none⟩ = some (Value.slice none 0 0) := (blk_cell HX0.out.2.2.2 0).trans rfl
    have f_z0 := blk_frozen HX0.out.2.2.2 0
    have c_z1 : (((w.alloc (.cells #[Value.slice As ss.length cs, Value.slice At ts.length ct] 26)).alloc (.cells #[Value.string c.name, Value.int .i64 c.kind, Value.bool c.null] 41)).alloc (.cells #[Value.slice none 0 0, Value.slice none 0 0] 26)).cell? ⟨w.heap.size + 1 + 1, 1, none⟩ = some (Value.slice none 0 0) := (blk_cell HX0.out.2.2.2 1).trans rfl
    have f_z1 := blk_frozen HX0.out.2.2.2 1
    go_wp2_with fail
    clear c_o0 f_o0 c_o1 f_o1 c_c0 f_c0 c_c1 f_c1 c_c2 f_c2 c_z0 f_z0 c_z1 f_z1
    refine (HCK.out _ HX0.out.1).mono ?_
    rintro e w1 ⟨rfl, hb1⟩
    have HB1 := Aside0.mk (below_step (HX0.out.1) hb1)
    have HK1 := Aside0.mk (blk_below (HX0.out.2.1) hb1)
    have HK2 := Aside0.mk (blk_below (HX0.out.2.2.1) hb1)
    have HK3 := Aside0.mk (blk_below (HX0.out.2.2.2) hb1)
    have HS1 := Aside0.mk hb1
    clear hb1
    have c_o0 : w1.cell? ⟨w.heap.size, 0, none⟩ = some (Value.slice As ss.length cs) := (blk_cell HK1.out 0).trans rfl
    have f_o0 := blk_frozen HK1.out 0
    have c_o1 : w1.cell? ⟨w.heap.size, 1, none⟩ = some (Value.slice At ts.length ct) := (blk_cell HK1.out 1).trans rfl
    have f_o1 := blk_frozen HK1.out 1
    have c_c0 : w1.cell? ⟨w.heap.size + 1, 0, none⟩ = some (Value.string c.name) := (blk_cell HK2.out 0).trans rfl
    have f_c0 := blk_frozen HK2.out 0
    have c_c1 : w1.cell? ⟨w.heap.size + 1, 1, none⟩ = some (Value.int .i64 c.kind) := (blk_cell HK2.out 1).trans rfl
    have f_c1 := blk_frozen HK2.out 1
    have c_c2 : w1.cell? ⟨w.heap.size + 1, 2, none⟩ = some (Value.bool c.null) := (blk_cell HK2.out 2).trans rfl
    have f_c2 := blk_frozen HK2.out 2
    have c_z0 : w1.cell? ⟨w.heap.size + 1 + 1, 0, none⟩ = some (Value.slice none 0 0) := (blk_cell HK3.out 0).trans rfl
    have f_z0 := blk_frozen HK3.out 0
    have c_z1 : w1.cell? ⟨w.heap.size + 1 + 1, 1, none⟩ = some (Value.slice none 0 0) := (blk_cell HK3.out 1).trans rfl
    have f_z1 := blk_frozen HK3.out 1
    go_wp2_with fail
    clear c_o0 f_o0 c_o1 f_o1 c_c0 f_c0 c_c1 f_c1 c_c2 f_c2 c_z0 f_z0 c_z1 f_z1
    refine (HNO.out _ _).mono ?_
    rintro e w2 ⟨rfl, hb2⟩
    have HB2 := Aside0.mk (below_step (HB1.out) hb2)
    have HK4 := Aside0.mk (blk_below (HK1.out) hb2)
    have HK5 := Aside0.mk (blk_below (HK2.out) hb2)
    have HK6 := Aside0.mk (blk_below (HK3.out) hb2)
    have HS2 := Aside0.mk hb2
    clear hb2
    have c_o0 : w2.cell? ⟨w.heap.size, 0, none⟩ = some (Value.slice As ss.length cs) := (blk_cell HK4.out 0).trans rfl
    have f_o0 := blk_frozen HK4.out 0
    have c_o1 : w2.cell? ⟨w.heap.size, 1, none⟩ = some (Value.slice At ts.length ct) := (blk_cell HK4.out 1).trans rfl
    have f_o1 := blk_frozen HK4.out 1
    have c_c0 : w2.cell? ⟨w.heap.size + 1, 0, none⟩ = some (Value.string c.name) := (blk_cell HK5.out 0).trans rfl
    have f_c0 := blk_frozen HK5.out 0
    have c_c1 : w2.cell? ⟨w.heap.size + 1, 1, none⟩ = some (Value.int .i64 c.kind) := (blk_cell HK5.out 1).trans rfl
    have f_c1 := blk_frozen HK5.out 1
    have c_c2 : w2.cell? ⟨w.heap.size + 1, 2, none⟩ = some (Value.bool c.null) := (blk_cell HK5.out 2).trans rfl
    have f_c2 := blk_frozen HK5.out 2
    have c_z0 : w2.cell? ⟨w.heap.size + 1 + 1, 0, none⟩ = some (Value.slice none 0 0) := (blk_cell HK6.out 0).trans rfl
    have f_z0 := blk_frozen HK6.out 0
    have c_z1 : w2.cell? ⟨w.heap.size + 1 + 1, 1, none⟩ = some (Value.slice none 0 0) := (blk_cell HK6.out 1).trans rfl
    have f_z1 := blk_frozen HK6.out 1
    go_wp2
    refine bodyPost_ret (v := .tuple #[.agg #[.slice none 0 0, .slice none 0 0], .int .i64 63]) (by simp [results, Try.results24, go_sem, *]) rfl ?_
    exact zeroOut (g := w.heap.size + 1 + 1) (n := 63) HB2.out (by omega)
  | true =>
    have HK := Aside0.mk hck
    rw [hck] at HCK
    clear hck
    unfold addColumn
    rcases idx_cases (isT schema table) ts with ⟨k, hk, hi, hx1, hx2⟩ | ⟨hi, hx1⟩
    rotate_left
    · rw [tch_no HK.out hi]
      rw [hi] at HTB
      clear hi hx1 HOW HT HBB HM HK
      have h2 : decide ((-1 : Int) < 0) = true := rfl
      go_enter Try.func24, Try.ntmps24
      have c_o0 : (((w.alloc (.cells #[Value.slice As ss.length cs, Value.slice At ts.length ct] 26)).alloc (.cells #[Value.string c.name, Value.int .i64 c.kind, Value.bool c.null] 41)).alloc (.cells #[Value.slice none 0 0, Value.slice none 0 0] 26)).cell? ⟨w.heap.size, 0, none⟩ = some (Value.slice As ss.length cs) := (blk_cell HX0.out.2.1 0).trans rfl
      have f_o0 := blk_frozen HX0.out.2.1 0
      have c_o1 : (((w.alloc (.cells #[Value.slice As ss.length cs, Value.slice At ts.length ct] 26)).alloc (.cells #[Value.string c.name, Value.int .i64 c.kind, Value.bool c.null] 41)).alloc (.cells #[Value.slice none 0 0, Value.slice none 0 0] 26)).cell? ⟨w.heap.size, 1, none⟩ = some (Value.slice At ts.length ct) := (blk_cell HX0.out.2.1 1).trans rfl
      have f_o1 := blk_frozen HX0.out.2.1 1
      have c_c0 : (((w.alloc (.cells #[Value.slice As ss.length cs, Value.slice At ts.length ct] 26)).alloc (.cells #[Value.string c.name, Value.int .i64 c.kind, Value.bool c.null] 41)).alloc (.cells #[Value.slice none 0 0, Value.slice none 0 0] 26)).cell? ⟨w.heap.size + 1, 0, none⟩ = some (Value.string c.name) := (blk_cell HX0.out.2.2.1 0).trans rfl
      have f_c0 := blk_frozen HX0.out.2.2.1 0
      have c_c1 : (((w.alloc (.cells #[Value.slice As ss.length cs, Value.slice At ts.length ct] 26)).alloc (.cells #[Value.string c.name, Value.int .i64 c.kind, Value.bool c.null] 41)).alloc (.cells #[Value.slice none 0 0, Value.slice none 0 0] 26)).cell? ⟨w.heap.size + 1, 1, none⟩ = some (Value.int .i64 c.kind) := (blk_cell HX0.out.2.2.1 1).trans rfl
      have f_c1 := blk_frozen HX0.out.2.2.1 1
      have c_c2 : (((w.alloc (.cells #[Value.slice As ss.length cs, Value.slice At ts.length ct] 26)).alloc (.cells #[Value.string c.name, Value.int .i64 c.kind, Value.bool c.null] 41)).alloc (.cells #[Value.slice none 0 0, Value.slice none 0 0] 26)).cell? ⟨w.heap.size + 1, 2, none⟩ = some (Value.bool c.null) := (blk_cell HX0.out.2.2.1 2).trans rfl
      have f_c2 := blk_frozen HX0.out.2.2.1 2
      have c_z0 : (((w.alloc (.cells #[Value.slice As ss.length cs, Value.slice At ts.length ct] 26)).alloc (.cells #[Value.string c.name, Value.int .i64 c.kind, Value.bool c.null] 41)).alloc (.cells #[Value.slice none 0 0, Value.slice none 0 0] 26)).cell? ⟨w.heap.size + 1 + 1, 0, none⟩ = some (Value.slice none 0 0) := (blk_cell HX0.out.2.2.2 0).trans rfl
      have f_z0 := blk_frozen HX0.out.2.2.2 0
      have c_z1 : (((w.alloc (.cells #[Value.slice As ss.length cs, Value.slice At ts.length ct] 26)).alloc (.cells #[Value.string c.name, Value.int .i64 c.kind, Value.bool c.null] 41)).alloc (.cells #[Value.slice none 0 0, Value.slice none 0 0] 26)).cell? ⟨w.heap.size + 1 + 1, 1, none⟩ = some (Value.slice none 0 0) := (blk_cell HX0.out.2.2.2 1).trans rfl
      have f_z1 := blk_frozen HX0.out.2.2.2 1
      go_wp2_with fail
      clear c_o0 f_o0 c_o1 f_o1 c_c0 f_c0 c_c1 f_c1 c_c2 f_c2 c_z0 f_z0 c_z1 f_z1
      refine (HCK.out _ HX0.out.1).mono ?_
      rintro e w1 ⟨rfl, hb1⟩
      have HB1 := Aside0.mk (below_step (HX0.out.1) hb1)
      have HK1 := Aside0.mk (blk_below (HX0.out.2.1) hb1)
      have HK2 := Aside0.mk (blk_below (HX0.out.2.2.1) hb1)
      have HK3 := Aside0.mk (blk_below (HX0.out.2.2.2) hb1)
      have HS1 := Aside0.mk hb1
      clear hb1
      have c_o0 : w1.cell? ⟨w.heap.size, 0, none⟩ = some (Value.slice As ss.length cs) := (blk_cell HK1.out 0).trans rfl
      have f_o0 := blk_frozen HK1.out 0
      have c_o1 : w1.cell? ⟨w.heap.size, 1, none⟩ = some (Value.slice At ts.length ct) := (blk_cell HK1.out 1).trans rfl
      have f_o1 := blk_frozen HK1.out 1
      have c_c0 : w1.cell? ⟨w.heap.size + 1, 0, none⟩ = some (Value.string c.name) := (blk_cell HK2.out 0).trans rfl
      have f_c0 := blk_frozen HK2.out 0
      have c_c1 : w1.cell? ⟨w.heap.size + 1, 1, none⟩ = some (Value.int .i64 c.kind) := (blk_cell HK2.out 1).trans rfl
      have f_c1 := blk_frozen HK2.out 1
      have c_c2 : w1.cell? ⟨w.heap.size + 1, 2, none⟩ = some (Value.bool c.null) := (blk_cell HK2.out 2).trans rfl
      have f_c2 := blk_frozen HK2.out 2
      have c_z0 : w1.cell? ⟨w.heap.size + 1 + 1, 0, none⟩ = some (Value.slice none 0 0) := (blk_cell HK3.out 0).trans rfl
      have f_z0 := blk_frozen HK3.out 0
      have c_z1 : w1.cell? ⟨w.heap.size + 1 + 1, 1, none⟩ = some (Value.slice none 0 0) := (blk_cell HK3.out 1).trans rfl
      have f_z1 := blk_frozen HK3.out 1
      go_wp2_with fail
      clear c_o0 f_o0 c_o1 f_o1 c_c0 f_c0 c_c1 f_c1 c_c2 f_c2 c_z0 f_z0 c_z1 f_z1
      refine (HTB.out _ HB1.out).mono ?_
      rintro e w2 ⟨rfl, hb2⟩
      have HB2 := Aside0.mk (below_step (HB1.out) hb2)
      have HK4 := Aside0.mk (blk_below (HK1.out) hb2)
      have HK5 := Aside0.mk (blk_below (HK2.out) hb2)
      have HK6 := Aside0.mk (blk_below (HK3.out) hb2)
      have HS2 := Aside0.mk hb2
      clear hb2
      have c_o0 : w2.cell? ⟨w.heap.size, 0, none⟩ = some (Value.slice As ss.length cs) := (blk_cell HK4.out 0).trans rfl
      have f_o0 := blk_frozen HK4.out 0
      have c_o1 : w2.cell? ⟨w.heap.size, 1, none⟩ = some (Value.slice At ts.length ct) := (blk_cell HK4.out 1).trans rfl
      have f_o1 := blk_frozen HK4.out 1
      have c_c0 : w2.cell? ⟨w.heap.size + 1, 0, none⟩ = some (Value.string c.name) := (blk_cell HK5.out 0).trans rfl
      have f_c0 := blk_frozen HK5.out 0
      have c_c1 : w2.cell? ⟨w.heap.size + 1, 1, none⟩ = some (Value.int .i64 c.kind) := (blk_cell HK5.out 1).trans rfl
      have f_c1 := blk_frozen HK5.out 1
      have c_c2 : w2.cell? ⟨w.heap.size + 1, 2, none⟩ = some (Value.bool c.null) := (blk_cell HK5.out 2).trans rfl
      have f_c2 := blk_frozen HK5.out 2
      have c_z0 : w2.cell? ⟨w.heap.size + 1 + 1, 0, none⟩ = some (Value.slice none 0 0) := (blk_cell HK6.out 0).trans rfl
      have f_z0 := blk_frozen HK6.out 0
      have c_z1 : w2.cell? ⟨w.heap.size + 1 + 1, 1, none⟩ = some (Value.slice none 0 0) := (blk_cell HK6.out 1).trans rfl
      have f_z1 := blk_frozen HK6.out 1
      go_wp2_with fail
      clear c_o0 f_o0 c_o1 f_o1 c_c0 f_c0 c_c1 f_c1 c_c2 f_c2 c_z0 f_z0 c_z1 f_z1
      refine (HNO.out _ _).mono ?_
      rintro e w3 ⟨rfl, hb3⟩
      have HB3 := Aside0.mk (below_step (HB2.out) hb3)
      have HK7 := Aside0.mk (blk_below (HK4.out) hb3)
      have HK8 := Aside0.mk (blk_below (HK5.out) hb3)
      have HK9 := Aside0.mk (blk_below (HK6.out) hb3)
      have HS3 := Aside0.mk hb3
      clear hb3
      have c_o0 : w3.cell? ⟨w.heap.size, 0, none⟩ = some (Value.slice As ss.length cs) := (blk_cell HK7.out 0).trans rfl
      have f_o0 := blk_frozen HK7.out 0
      have c_o1 : w3.cell? ⟨w.heap.size, 1, none⟩ = some (Value.slice At ts.length ct) := (blk_cell HK7.out 1).trans rfl
      have f_o1 := blk_frozen HK7.out 1
      have c_c0 : w3.cell? ⟨w.heap.size + 1, 0, none⟩ = some (Value.string c.name) := (blk_cell HK8.out 0).trans rfl
      have f_c0 := blk_frozen HK8.out 0
      have c_c1 : w3.cell? ⟨w.heap.size + 1, 1, none⟩ = some (Value.int .i64 c.kind) := (blk_cell HK8.out 1).trans rfl
      have f_c1 := blk_frozen HK8.out 1
      have c_c2 : w3.cell? ⟨w.heap.size + 1, 2, none⟩ = some (Value.bool c.null) := (blk_cell HK8.out 2).trans rfl
      have f_c2 := blk_frozen HK8.out 2
      have c_z0 : w3.cell? ⟨w.heap.size + 1 + 1, 0, none⟩ = some (Value.slice none 0 0) := (blk_cell HK9.out 0).trans rfl
      have f_z0 := blk_frozen HK9.out 0
      have c_z1 : w3.cell? ⟨w.heap.size + 1 + 1, 1, none⟩ = some (Value.slice none 0 0) := (blk_cell HK9.out 1).trans rfl
      have f_z1 := blk_frozen HK9.out 1
      go_wp2
      refine bodyPost_ret (v := .tuple #[.agg #[.slice none 0 0, .slice none 0 0], .int .i64 61]) (by simp [results, Try.results24, go_sem, *]) rfl ?_
      exact zeroOut (g := w.heap.size + 1 + 1) (n := 61) HB3.out (by omega)
    have HI := Aside0.mk hi
    rw [hi] at HTB
    clear hi hx1 hx2
    have h0 : (0 : Int) ≤ (k : Int) := by omega
    have h1 : (k : Int) < (ts.length : Int) := by omega
    have h2 : decide ((k : Int) < 0) = false := decide_eq_false (by omega)
    have hlc : ts[k].cols.length ≤ 3000 := (HBB.out.2 _ (List.getElem_mem hk)).1
    obtain ⟨ad, A3, c3, A4, c4, e, _, _, _, x3, _, _, h3, _, _⟩ := tabAt HT.out k hk
    cases e
    have HX3 := Aside0.mk x3
    have HCL := Aside0.mk (fun W' (hW' : Below w.heap.size w W') => rColumn.calls (c0 := c3) c.name ts[k].cols W' (Kd.C_below h3 hW') (by omega))
    clear x3 h3 HT HBB
    have hAt : ∃ A, A = ad := ⟨_, rfl⟩
    clear hAt
    cases hm : mayCol c with
    | false =>
      rw [tch_bad (n := 63) HK.out HI.out hk (by unfold addColM; rw [hm]; rfl) (by decide)]
      rw [hm] at HM
      clear hm HOW HCL HK HI
      go_enter Try.func24, Try.ntmps24
      have c_o0 : (((w.alloc (.cells #[Value.slice As ss.length cs, Value.slice (some ad) ts.length ct] 26)).alloc (.cells #[Value.string c.name, Value.int .i64 c.kind, Value.bool c.null] 41)).alloc (.cells #[Value.slice none 0 0, Value.slice none 0 0] 26)).cell? ⟨w.heap.size, 0, none⟩ = some (Value.slice As ss.length cs) := (blk_cell HX0.out.2.1 0).trans rfl
      have f_o0 := blk_frozen HX0.out.2.1 0
      have c_o1 : (((w.alloc (.cells #[Value.slice As ss.length cs, Value.slice (some ad) ts.length ct] 26)).alloc (.cells #[Value.string c.name, Value.int .i64 c.kind, Value.bool c.null] 41)).alloc (.cells #[Value.slice none 0 0, Value.slice none 0 0] 26)).cell? ⟨w.heap.size, 1, none⟩ = some (Value.slice (some ad) ts.length ct) := (blk_cell HX0.out.2.1 1).trans rfl
      have f_o1 := blk_frozen HX0.out.2.1 1
      have c_c0 : (((w.alloc (.cells #[Value.slice As ss.length cs, Value.slice (some ad) ts.length ct] 26)).alloc (.cells #[Value.string c.name, Value.int .i64 c.kind, Value.bool c.null] 41)).alloc (.cells #[Value.slice none 0 0, Value.slice none 0 0] 26)).cell? ⟨w.heap.size + 1, 0, none⟩ = some (Value.string c.name) := (blk_cell HX0.out.2.2.1 0).trans rfl
      have f_c0 := blk_frozen HX0.out.2.2.1 0
      have c_c1 : (((w.alloc (.cells #[Value.slice As ss.length cs, Value.slice (some ad) ts.length ct] 26)).alloc (.cells #[Value.string c.name, Value.int .i64 c.kind, Value.bool c.null] 41)).alloc (.cells #[Value.slice none 0 0, Value.slice none 0 0] 26)).cell? ⟨w.heap.size + 1, 1, none⟩ = some (Value.int .i64 c.kind) := (blk_cell HX0.out.2.2.1 1).trans rfl
      have f_c1 := blk_frozen HX0.out.2.2.1 1
      have c_c2 : (((w.alloc (.cells #[Value.slice As ss.length cs, Value.slice (some ad) ts.length ct] 26)).alloc (.cells #[Value.string c.name, Value.int .i64 c.kind, Value.bool c.null] 41)).alloc (.cells #[Value.slice none 0 0, Value.slice none 0 0] 26)).cell? ⟨w.heap.size + 1, 2, none⟩ = some (Value.bool c.null) := (blk_cell HX0.out.2.2.1 2).trans rfl
      have f_c2 := blk_frozen HX0.out.2.2.1 2
      have c_z0 : (((w.alloc (.cells #[Value.slice As ss.length cs, Value.slice (some ad) ts.length ct] 26)).alloc (.cells #[Value.string c.name, Value.int .i64 c.kind, Value.bool c.null] 41)).alloc (.cells #[Value.slice none 0 0, Value.slice none 0 0] 26)).cell? ⟨w.heap.size + 1 + 1, 0, none⟩ = some (Value.slice none 0 0) := (blk_cell HX0.out.2.2.2 0).trans rfl
      have f_z0 := blk_frozen HX0.out.2.2.2 0
      have c_z1 : (((w.alloc (.cells #[Value.slice As ss.length cs, Value.slice (some ad) ts.length ct] 26)).alloc (.cells #[Value.string c.name, Value.int .i64 c.kind, Value.bool c.null] 41)).alloc (.cells #[Value.slice none 0 0, Value.slice none 0 0] 26)).cell? ⟨w.heap.size + 1 + 1, 1, none⟩ = some (Value.slice none 0 0) := (blk_cell HX0.out.2.2.2 1).trans rfl
      have f_z1 := blk_frozen HX0.out.2.2.2 1
      go_wp2_with fail
      clear c_o0 f_o0 c_o1 f_o1 c_c0 f_c0 c_c1 f_c1 c_c2 f_c2 c_z0 f_z0 c_z1 f_z1
      refine (HCK.out _ HX0.out.1).mono ?_
      rintro e w1 ⟨rfl, hb1⟩
      have HB1 := Aside0.mk (below_step (HX0.out.1) hb1)
      have HK1 := Aside0.mk (blk_below (HX0.out.2.1) hb1)
      have HK2 := Aside0.mk (blk_below (HX0.out.2.2.1) hb1)
      have HK3 := Aside0.mk (blk_below (HX0.out.2.2.2) hb1)
      have HS1 := Aside0.mk hb1
      clear hb1
      have c_o0 : w1.cell? ⟨w.heap.size, 0, none⟩ = some (Value.slice As ss.length cs) := (blk_cell HK1.out 0).trans rfl
      have f_o0 := blk_frozen HK1.out 0
      have c_o1 : w1.cell? ⟨w.heap.size, 1, none⟩ = some (Value.slice (some ad) ts.length ct) := (blk_cell HK1.out 1).trans rfl
      have f_o1 := blk_frozen HK1.out 1
      have c_c0 : w1.cell? ⟨w.heap.size + 1, 0, none⟩ = some (Value.string c.name) := (blk_cell HK2.out 0).trans rfl
      have f_c0 := blk_frozen HK2.out 0
      have c_c1 : w1.cell? ⟨w.heap.size + 1, 1, none⟩ = some (Value.int .i64 c.kind) := (blk_cell HK2.out 1).trans rfl
      have f_c1 := blk_frozen HK2.out 1
      have c_c2 : w1.cell? ⟨w.heap.size + 1, 2, none⟩ = some (Value.bool c.null) := (blk_cell HK2.out 2).trans rfl
      have f_c2 := blk_frozen HK2.out 2
      have c_z0 : w1.cell? ⟨w.heap.size + 1 + 1, 0, none⟩ = some (Value.slice none 0 0) := (blk_cell HK3.out 0).trans rfl
      have f_z0 := blk_frozen HK3.out 0
      have c_z1 : w1.cell? ⟨w.heap.size + 1 + 1, 1, none⟩ = some (Value.slice none 0 0) := (blk_cell HK3.out 1).trans rfl
      have f_z1 := blk_frozen HK3.out 1
      go_wp2_with fail
      clear c_o0 f_o0 c_o1 f_o1 c_c0 f_c0 c_c1 f_c1 c_c2 f_c2 c_z0 f_z0 c_z1 f_z1
      refine (HTB.out _ HB1.out).mono ?_
      rintro e w2 ⟨rfl, hb2⟩
      have HB2 := Aside0.mk (below_step (HB1.out) hb2)
      have HK4 := Aside0.mk (blk_below (HK1.out) hb2)
      have HK5 := Aside0.mk (blk_below (HK2.out) hb2)
      have HK6 := Aside0.mk (blk_below (HK3.out) hb2)
      have HS2 := Aside0.mk hb2
      clear hb2
      have x3 := pw_cell_below HB2.out HX3.out
      have c_o0 : w2.cell? ⟨w.heap.size, 0, none⟩ = some (Value.slice As ss.length cs) := (blk_cell HK4.out 0).trans rfl
      have f_o0 := blk_frozen HK4.out 0
      have c_o1 : w2.cell? ⟨w.heap.size, 1, none⟩ = some (Value.slice (some ad) ts.length ct) := (blk_cell HK4.out 1).trans rfl
      have f_o1 := blk_frozen HK4.out 1
      have c_c0 : w2.cell? ⟨w.heap.size + 1, 0, none⟩ = some (Value.string c.name) := (blk_cell HK5.out 0).trans rfl
      have f_c0 := blk_frozen HK5.out 0
      have c_c1 : w2.cell? ⟨w.heap.size + 1, 1, none⟩ = some (Value.int .i64 c.kind) := (blk_cell HK5.out 1).trans rfl
      have f_c1 := blk_frozen HK5.out 1
      have c_c2 : w2.cell? ⟨w.heap.size + 1, 2, none⟩ = some (Value.bool c.null) := (blk_cell HK5.out 2).trans rfl
      have f_c2 := blk_frozen HK5.out 2
      have c_z0 : w2.cell? ⟨w.heap.size + 1 + 1, 0, none⟩ = some (Value.slice none 0 0) := (blk_cell HK6.out 0).trans rfl
      have f_z0 := blk_frozen HK6.out 0
      have c_z1 : w2.cell? ⟨w.heap.size + 1 + 1, 1, none⟩ = some (Value.slice none 0 0) := (blk_cell HK6.out 1).trans rfl
      have f_z1 := blk_frozen HK6.out 1
      go_wp2_with fail
      clear c_o0 f_o0 c_o1 f_o1 c_c0 f_c0 c_c1 f_c1 c_c2 f_c2 c_z0 f_z0 c_z1 f_z1
      refine (HM.out _).mono ?_
      rintro e w3 ⟨rfl, hb3⟩
      have HB3 := Aside0.mk (below_step (HB2.out) hb3)
      have HK7 := Aside0.mk (blk_below (HK4.out) hb3)
      have HK8 := Aside0.mk (blk_below (HK5.out) hb3)
      have HK9 := Aside0.mk (blk_below (HK6.out) hb3)
      have HS3 := Aside0.mk hb3
      clear hb3
      clear x3
      have c_o0 : w3.cell? ⟨w.heap.size, 0, none⟩ = some (Value.slice As ss.length cs) := (blk_cell HK7.out 0).trans rfl
      have f_o0 := blk_frozen HK7.out 0
      have c_o1 : w3.cell? ⟨w.heap.size, 1, none⟩ = some (Value.slice (some ad) ts.length ct) := (blk_cell HK7.out 1).trans rfl
      have f_o1 := blk_frozen HK7.out 1
      have c_c0 : w3.cell? ⟨w.heap.size + 1, 0, none⟩ = some (Value.string c.name) := (blk_cell HK8.out 0).trans rfl
      have f_c0 := blk_frozen HK8.out 0
      have c_c1 : w3.cell? ⟨w.heap.size + 1, 1, none⟩ = some (Value.int .i64 c.kind) := (blk_cell HK8.out 1).trans rfl
      have f_c1 := blk_frozen HK8.out 1
      have c_c2 : w3.cell? ⟨w.heap.size + 1, 2, none⟩ = some (Value.bool c.null) := (blk_cell HK8.out 2).trans rfl
      have f_c2 := blk_frozen HK8.out 2
      have c_z0 : w3.cell? ⟨w.heap.size + 1 + 1, 0, none⟩ = some (Value.slice none 0 0) := (blk_cell HK9.out 0).trans rfl
      have f_z0 := blk_frozen HK9.out 0
      have c_z1 : w3.cell? ⟨w.heap.size + 1 + 1, 1, none⟩ = some (Value.slice none 0 0) := (blk_cell HK9.out 1).trans rfl
      have f_z1 := blk_frozen HK9.out 1
      go_wp2_with fail
      clear c_o0 f_o0 c_o1 f_o1 c_c0 f_c0 c_c1 f_c1 c_c2 f_c2 c_z0 f_z0 c_z1 f_z1
      refine (HNO.out _ _).mono ?_
      rintro e w4 ⟨rfl, hb4⟩
      have HB4 := Aside0.mk (below_step (HB3.out) hb4)
      have HK10 := Aside0.mk (blk_below (HK7.out) hb4)
      have HK11 := Aside0.mk (blk_below (HK8.out) hb4)
      have HK12 := Aside0.mk (blk_below (HK9.out) hb4)
      have HS4 := Aside0.mk hb4
      clear hb4
      have c_o0 : w4.cell? ⟨w.heap.size, 0, none⟩ = some (Value.slice As ss.length cs) := (blk_cell HK10.out 0).trans rfl
      have f_o0 := blk_frozen HK10.out 0
      have c_o1 : w4.cell? ⟨w.heap.size, 1, none⟩ = some (Value.slice (some ad) ts.length ct) := (blk_cell HK10.out 1).trans rfl
      have f_o1 := blk_frozen HK10.out 1
      have c_c0 : w4.cell? ⟨w.heap.size + 1, 0, none⟩ = some (Value.string c.name) := (blk_cell HK11.out 0).trans rfl
      have f_c0 := blk_frozen HK11.out 0
      have c_c1 : w4.cell? ⟨w.heap.size + 1, 1, none⟩ = some (Value.int .i64 c.kind) := (blk_cell HK11.out 1).trans rfl
      have f_c1 := blk_frozen HK11.out 1
      have c_c2 : w4.cell? ⟨w.heap.size + 1, 2, none⟩ = some (Value.bool c.null) := (blk_cell HK11.out 2).trans rfl
      have f_c2 := blk_frozen HK11.out 2
      have c_z0 : w4.cell? ⟨w.heap.size + 1 + 1, 0, none⟩ = some (Value.slice none 0 0) := (blk_cell HK12.out 0).trans rfl
      have f_z0 := blk_frozen HK12.out 0
      have c_z1 : w4.cell? ⟨w.heap.size + 1 + 1, 1, none⟩ = some (Value.slice none 0 0) := (blk_cell HK12.out 1).trans rfl
      have f_z1 := blk_frozen HK12.out 1
      go_wp2
      refine bodyPost_ret (v := .tuple #[.agg #[.slice none 0 0, .slice none 0 0], .int .i64 63]) (by simp [results, Try.results24, go_sem, *]) rfl ?_
      exact zeroOut (g := w.heap.size + 1 + 1) (n := 63) HB4.out (by omega)
    | true =>
    rw [hm] at HM
    cases hn : c.null with
    | false =>
      rw [tch_bad (n := 63) HK.out HI.out hk (by unfold addColM; rw [hm, hn]; rfl) (by decide)]
      rw [hn] at HX0 HM
      clear hm hn HOW HCL HK HI
      go_enter Try.func24, Try.ntmps24
      have c_o0 : (((w.alloc (.cells #[Value.slice As ss.length cs, Value.slice (some ad) ts.length ct] 26)).alloc (.cells #[Value.string c.name, Value.int .i64 c.kind, Value.bool false] 41)).alloc (.cells #[Value.slice none 0 0, Value.slice none 0 0] 26)).cell? ⟨w.heap.size, 0, none⟩ = some (Value.slice As ss.length cs) := (blk_cell HX0.out.2.1 0).trans rfl
      have f_o0 := blk_frozen HX0.out.2.1 0
      have c_o1 : (((w.alloc (.cells #[Value.slice As ss.length cs, Value.slice (some ad) ts.length ct] 26)).alloc (.cells #[Value.string c.name, Value.int .i64 c.kind, Value.bool false] 41)).alloc (.cells #[Value.slice none 0 0, Value.slice none 0 0] 26)).cell? ⟨w.heap.size, 1, none⟩ = some (Value.slice (some ad) ts.length ct) := (blk_cell HX0.out.2.1 1).trans rfl
      have f_o1 := blk_frozen HX0.out.2.1 1
      have c_c0 : (((w.alloc (.cells #[Value.slice As ss.length cs, Value.slice (some ad) ts.length ct] 26)).alloc (.cells #[Value.string c.name, Value.int .i64 c.kind, Value.bool false] 41)).alloc (.cells #[Value.slice none 0 0, Value.slice none 0 0] 26)).cell? ⟨w.heap.size + 1, 0, none⟩ = some (Value.string c.name) := (blk_cell HX0.out.2.2.1 0).trans rfl
      have f_c0 := blk_frozen HX0.out.2.2.1 0
      have c_c1 : (((w.alloc (.cells #[Value.slice As ss.length cs, Value.slice (some ad) ts.length ct] 26)).alloc (.cells #[Value.string c.name, Value.int .i64 c.kind, Value.bool false] 41)).alloc (.cells #[Value.slice none 0 0, Value.slice none 0 0] 26)).cell? ⟨w.heap.size + 1, 1, none⟩ = some (Value.int .i64 c.kind) := (blk_cell HX0.out.2.2.1 1).trans rfl
      have f_c1 := blk_frozen HX0.out.2.2.1 1
      have c_c2 : (((w.alloc (.cells #[Value.slice As ss.length cs, Value.slice (some ad) ts.length ct] 26)).alloc (.cells #[Value.string c.name, Value.int .i64 c.kind, Value.bool false] 41)).alloc (.cells #[Value.slice none 0 0, Value.slice none 0 0] 26)).cell? ⟨w.heap.size + 1, 2, none⟩ = some (Value.bool false) := (blk_cell HX0.out.2.2.1 2).trans rfl
      have f_c2 := blk_frozen HX0.out.2.2.1 2
      have c_z0 : (((w.alloc (.cells #[Value.slice As ss.length cs, Value.slice (some ad) ts.length ct] 26)).alloc (.cells #[Value.string c.name, Value.int .i64 c.kind, Value.bool false] 41)).alloc (.cells #[Value.slice none 0 0, Value.slice none 0 0] 26)).cell? ⟨w.heap.size + 1 + 1, 0, none⟩ = some (Value.slice none 0 0) := (blk_cell HX0.out.2.2.2 0).trans rfl
      have f_z0 := blk_frozen HX0.out.2.2.2 0
      have c_z1 : (((w.alloc (.cells #[Value.slice As ss.length cs, Value.slice (some ad) ts.length ct] 26)).alloc (.cells #[Value.string c.name, Value.int .i64 c.kind, Value.bool false] 41)).alloc (.cells #[Value.slice none 0 0, Value.slice none 0 0] 26)).cell? ⟨w.heap.size + 1 + 1, 1, none⟩ = some (Value.slice none 0 0) := (blk_cell HX0.out.2.2.2 1).trans rfl
      have f_z1 := blk_frozen HX0.out.2.2.2 1
      go_wp2_with fail
      clear c_o0 f_o0 c_o1 f_o1 c_c0 f_c0 c_c1 f_c1 c_c2 f_c2 c_z0 f_z0 c_z1 f_z1
      refine (HCK.out _ HX0.out.1).mono ?_
      rintro e w1 ⟨rfl, hb1⟩
      have HB1 := Aside0.mk (below_step (HX0.out.1) hb1)
      have HK1 := Aside0.mk (blk_below (HX0.out.2.1) hb1)
      have HK2 := Aside0.mk (blk_below (HX0.out.2.2.1) hb1)
      have HK3 := Aside0.mk (blk_below (HX0.out.2.2.2) hb1)
      have HS1 := Aside0.mk hb1
      clear hb1
      have c_o0 : w1.cell? ⟨w.heap.size, 0, none⟩ = some (Value.slice As ss.length cs) := (blk_cell HK1.out 0).trans rfl
      have f_o0 := blk_frozen HK1.out 0
      have c_o1 : w1.cell? ⟨w.heap.size, 1, none⟩ = some (Value.slice (some ad) ts.length ct) := (blk_cell HK1.out 1).trans rfl
      have f_o1 := blk_frozen HK1.out 1
      have c_c0 : w1.cell? ⟨w.heap.size + 1, 0, none⟩ = some (Value.string c.name) := (blk_cell HK2.out 0).trans rfl
      have f_c0 := blk_frozen HK2.out 0
      have c_c1 : w1.cell? ⟨w.heap.size + 1, 1, none⟩ = some (Value.int .i64 c.kind) := (blk_cell HK2.out 1).trans rfl
      have f_c1 := blk_frozen HK2.out 1
      have c_c2 : w1.cell? ⟨w.heap.size + 1, 2, none⟩ = some (Value.bool false) := (blk_cell HK2.out 2).trans rfl
      have f_c2 := blk_frozen HK2.out 2
      have c_z0 : w1.cell? ⟨w.heap.size + 1 + 1, 0, none⟩ = some (Value.slice none 0 0) := (blk_cell HK3.out 0).trans rfl
      have f_z0 := blk_frozen HK3.out 0
      have c_z1 : w1.cell? ⟨w.heap.size + 1 + 1, 1, none⟩ = some (Value.slice none 0 0) := (blk_cell HK3.out 1).trans rfl
      have f_z1 := blk_frozen HK3.out 1
      go_wp2_with fail
      clear c_o0 f_o0 c_o1 f_o1 c_c0 f_c0 c_c1 f_c1 c_c2 f_c2 c_z0 f_z0 c_z1 f_z1
      refine (HTB.out _ HB1.out).mono ?_
      rintro e w2 ⟨rfl, hb2⟩
      have HB2 := Aside0.mk (below_step (HB1.out) hb2)
      have HK4 := Aside0.mk (blk_below (HK1.out) hb2)
      have HK5 := Aside0.mk (blk_below (HK2.out) hb2)
      have HK6 := Aside0.mk (blk_below (HK3.out) hb2)
      have HS2 := Aside0.mk hb2
      clear hb2
      have x3 := pw_cell_below HB2.out HX3.out
      have c_o0 : w2.cell? ⟨w.heap.size, 0, none⟩ = some (Value.slice As ss.length cs) := (blk_cell HK4.out 0).trans rfl
      have f_o0 := blk_frozen HK4.out 0
      have c_o1 : w2.cell? ⟨w.heap.size, 1, none⟩ = some (Value.slice (some ad) ts.length ct) := (blk_cell HK4.out 1).trans rfl
      have f_o1 := blk_frozen HK4.out 1
      have c_c0 : w2.cell? ⟨w.heap.size + 1, 0, none⟩ = some (Value.string c.name) := (blk_cell HK5.out 0).trans rfl
      have f_c0 := blk_frozen HK5.out 0
      have c_c1 : w2.cell? ⟨w.heap.size + 1, 1, none⟩ = some (Value.int .i64 c.kind) := (blk_cell HK5.out 1).trans rfl
      have f_c1 := blk_frozen HK5.out 1
      have c_c2 : w2.cell? ⟨w.heap.size + 1, 2, none⟩ = some (Value.bool false) := (blk_cell HK5.out 2).trans rfl
      have f_c2 := blk_frozen HK5.out 2
      have c_z0 : w2.cell? ⟨w.heap.size + 1 + 1, 0, none⟩ = some (Value.slice none 0 0) := (blk_cell HK6.out 0).trans rfl
      have f_z0 := blk_frozen HK6.out 0
      have c_z1 : w2.cell? ⟨w.heap.size + 1 + 1, 1, none⟩ = some (Value.slice none 0 0) := (blk_cell HK6.out 1).trans rfl
      have f_z1 := blk_frozen HK6.out 1
      go_wp2_with fail
      clear c_o0 f_o0 c_o1 f_o1 c_c0 f_c0 c_c1 f_c1 c_c2 f_c2 c_z0 f_z0 c_z1 f_z1
      refine (HM.out _).mono ?_
      rintro e w3 ⟨rfl, hb3⟩
      have HB3 := Aside0.mk (below_step (HB2.out) hb3)
      have HK7 := Aside0.mk (blk_below (HK4.out) hb3)
      have HK8 := Aside0.mk (blk_below (HK5.out) hb3)
      have HK9 := Aside0.mk (blk_below (HK6.out) hb3)
      have HS3 := Aside0.mk hb3
      clear hb3
      clear x3
      have c_o0 : w3.cell? ⟨w.heap.size, 0, none⟩ = some (Value.slice As ss.length cs) := (blk_cell HK7.out 0).trans rfl
      have f_o0 := blk_frozen HK7.out 0
      have c_o1 : w3.cell? ⟨w.heap.size, 1, none⟩ = some (Value.slice (some ad) ts.length ct) := (blk_cell HK7.out 1).trans rfl
      have f_o1 := blk_frozen HK7.out 1
      have c_c0 : w3.cell? ⟨w.heap.size + 1, 0, none⟩ = some (Value.string c.name) := (blk_cell HK8.out 0).trans rfl
      have f_c0 := blk_frozen HK8.out 0
      have c_c1 : w3.cell? ⟨w.heap.size + 1, 1, none⟩ = some (Value.int .i64 c.kind) := (blk_cell HK8.out 1).trans rfl
      have f_c1 := blk_frozen HK8.out 1
      have c_c2 : w3.cell? ⟨w.heap.size + 1, 2, none⟩ = some (Value.bool false) := (blk_cell HK8.out 2).trans rfl
      have f_c2 := blk_frozen HK8.out 2
      have c_z0 : w3.cell? ⟨w.heap.size + 1 + 1, 0, none⟩ = some (Value.slice none 0 0) := (blk_cell HK9.out 0).trans rfl
      have f_z0 := blk_frozen HK9.out 0
      have c_z1 : w3.cell? ⟨w.heap.size + 1 + 1, 1, none⟩ = some (Value.slice none 0 0) := (blk_cell HK9.out 1).trans rfl
      have f_z1 := blk_frozen HK9.out 1
      go_wp2_with fail
      clear c_o0 f_o0 c_o1 f_o1 c_c0 f_c0 c_c1 f_c1 c_c2 f_c2 c_z0 f_z0 c_z1 f_z1
      refine (HNO.out _ _).mono ?_
      rintro e w4 ⟨rfl, hb4⟩
      have HB4 := Aside0.mk (below_step (HB3.out) hb4)
      have HK10 := Aside0.mk (blk_below (HK7.out) hb4)
      have HK11 := Aside0.mk (blk_below (HK8.out) hb4)
      have HK12 := Aside0.mk (blk_below (HK9.out) hb4)
      have HS4 := Aside0.mk hb4
      clear hb4
      have c_o0 : w4.cell? ⟨w.heap.size, 0, none⟩ = some (Value.slice As ss.length cs) := (blk_cell HK10.out 0).trans rfl
      have f_o0 := blk_frozen HK10.out 0
      have c_o1 : w4.cell? ⟨w.heap.size, 1, none⟩ = some (Value.slice (some ad) ts.length ct) := (blk_cell HK10.out 1).trans rfl
      have f_o1 := blk_frozen HK10.out 1
      have c_c0 : w4.cell? ⟨w.heap.size + 1, 0, none⟩ = some (Value.string c.name) := (blk_cell HK11.out 0).trans rfl
      have f_c0 := blk_frozen HK11.out 0
      have c_c1 : w4.cell? ⟨w.heap.size + 1, 1, none⟩ = some (Value.int .i64 c.kind) := (blk_cell HK11.out 1).trans rfl
      have f_c1 := blk_frozen HK11.out 1
      have c_c2 : w4.cell? ⟨w.heap.size + 1, 2, none⟩ = some (Value.bool false) := (blk_cell HK11.out 2).trans rfl
      have f_c2 := blk_frozen HK11.out 2
      have c_z0 : w4.cell? ⟨w.heap.size + 1 + 1, 0, none⟩ = some (Value.slice none 0 0) := (blk_cell HK12.out 0).trans rfl
      have f_z0 := blk_frozen HK12.out 0
      have c_z1 : w4.cell? ⟨w.heap.size + 1 + 1, 1, none⟩ = some (Value.slice none 0 0) := (blk_cell HK12.out 1).trans rfl
      have f_z1 := blk_frozen HK12.out 1
      go_wp2
      refine bodyPost_ret (v := .tuple #[.agg #[.slice none 0 0, .slice none 0 0], .int .i64 63]) (by simp [results, Try.results24, go_sem, *]) rfl ?_
      exact zeroOut (g := w.heap.size + 1 + 1) (n := 63) HB4.out (by omega)
    | true =>
    have HAM := Aside0.mk (show addColM c ts[k] = (if 0 ≤ idx (fun x : Col => x.name.toList == c.name.toList) ts[k].cols then (60, ts[k]) else if 8 ≤ ts[k].cols.length then (2, ts[k]) else (0, { ts[k] with cols := ts[k].cols ++ [c] })) by unfold addColM; rw [hm, hn]; rfl)
    rw [hn] at HX0 HM
    have HN2 := Aside0.mk hn
    clear hm hn
    rcases idx_cases (fun x : Col => x.name.toList == c.name.toList) ts[k].cols with ⟨m, hm, hi, y1, y2⟩ | ⟨hi, y1⟩
    · rw [hi] at HCL HAM
      rw [tch_bad (n := 60) HK.out HI.out hk (by rw [HAM.out, if_pos (by omega)]) (by decide)]
      have hd : decide ((0 : Int) ≤ (m : Int)) = true := decide_eq_true (by omega)
      clear hm hi y1 y2 HAM HOW HK HI HN2
      go_enter Try.func24, Try.ntmps24
      have c_o0 : (((w.alloc (.cells #[Value.slice As ss.length cs, Value.slice (some ad) ts.length ct] 26)).alloc (.cells #[Value.string c.name, Value.int .i64 c.kind, Value.bool true] 41)).alloc (.cells #[Value.slice none 0 0, Value.slice none 0 0] 26)).cell? ⟨w.heap.size, 0, none⟩ = some (Value.slice As ss.length cs) := (blk_cell HX0.out.2.1 0).trans rfl
      have f_o0 := blk_frozen HX0.out.2.1 0
      have c_o1 : (((w.alloc (.cells #[Value.slice As ss.length cs, Value.slice (some ad) ts.length ct] 26)).alloc (.cells #[Value.string c.name, Value.int .i64 c.kind, Value.bool true] 41)).alloc (.cells #[Value.slice none 0 0, Value.slice none 0 0] 26)).cell? ⟨w.heap.size, 1, none⟩ = some (Value.slice (some ad) ts.length ct) := (blk_cell HX0.out.2.1 1).trans rfl
      have f_o1 := blk_frozen HX0.out.2.1 1
      have c_c0 : (((w.alloc (.cells #[Value.slice As ss.length cs, Value.slice (some ad) ts.length ct] 26)).alloc (.cells #[Value.string c.name, Value.int .i64 c.kind, Value.bool true] 41)).alloc (.cells #[Value.slice none 0 0, Value.slice none 0 0] 26)).cell? ⟨w.heap.size + 1, 0, none⟩ = some (Value.string c.name) := (blk_cell HX0.out.2.2.1 0).trans rfl
      have f_c0 := blk_frozen HX0.out.2.2.1 0
      have c_c1 : (((w.alloc (.cells #[Value.slice As ss.length cs, Value.slice (some ad) ts.length ct] 26)).alloc (.cells #[Value.string c.name, Value.int .i64 c.kind, Value.bool true] 41)).alloc (.cells #[Value.slice none 0 0, Value.slice none 0 0] 26)).cell? ⟨w.heap.size + 1, 1, none⟩ = some (Value.int .i64 c.kind) := (blk_cell HX0.out.2.2.1 1).trans rfl
      have f_c1 := blk_frozen HX0.out.2.2.1 1
      have c_c2 : (((w.alloc (.cells #[Value.slice As ss.length cs, Value.slice (some ad) ts.length ct] 26)).alloc (.cells #[Value.string c.name, Value.int .i64 c.kind, Value.bool true] 41)).alloc (.cells #[Value.slice none 0 0, Value.slice none 0 0] 26)).cell? ⟨w.heap.size + 1, 2, none⟩ = some (Value.bool true) := (blk_cell HX0.out.2.2.1 2).trans rfl
      have f_c2 := blk_frozen HX0.out.2.2.1 2
      have c_z0 : (((w.alloc (.cells #[Value.slice As ss.length cs, Value.slice (some ad) ts.length ct] 26)).alloc (.cells #[Value.string c.name, Value.int .i64 c.kind, Value.bool true] 41)).alloc (.cells #[Value.slice none 0 0, Value.slice none 0 0] 26)).cell? ⟨w.heap.size + 1 + 1, 0, none⟩ = some (Value.slice none 0 0) := (blk_cell HX0.out.2.2.2 0).trans rfl
      have f_z0 := blk_frozen HX0.out.2.2.2 0
      have c_z1 : (((w.alloc (.cells #[Value.slice As ss.length cs, Value.slice (some ad) ts.length ct] 26)).alloc (.cells #[Value.string c.name, Value.int .i64 c.kind, Value.bool true] 41)).alloc (.cells #[Value.slice none 0 0, Value.slice none 0 0] 26)).cell? ⟨w.heap.size + 1 + 1, 1, none⟩ = some (Value.slice none 0 0) := (blk_cell HX0.out.2.2.2 1).trans rfl
      have f_z1 := blk_frozen HX0.out.2.2.2 1
      go_wp2_with fail
      clear c_o0 f_o0 c_o1 f_o1 c_c0 f_c0 c_c1 f_c1 c_c2 f_c2 c_z0 f_z0 c_z1 f_z1
      refine (HCK.out _ HX0.out.1).mono ?_
      rintro e w1 ⟨rfl, hb1⟩
      have HB1 := Aside0.mk (below_step (HX0.out.1) hb1)
      have HK1 := Aside0.mk (blk_below (HX0.out.2.1) hb1)
      have HK2 := Aside0.mk (blk_below (HX0.out.2.2.1) hb1)
      have HK3 := Aside0.mk (blk_below (HX0.out.2.2.2) hb1)
      have HS1 := Aside0.mk hb1
      clear hb1
      have c_o0 : w1.cell? ⟨w.heap.size, 0, none⟩ = some (Value.slice As ss.length cs) := (blk_cell HK1.out 0).trans rfl
      have f_o0 := blk_frozen HK1.out 0
      have c_o1 : w1.cell? ⟨w.heap.size, 1, none⟩ = some (Value.slice (some ad) ts.length ct) := (blk_cell HK1.out 1).trans rfl
      have f_o1 := blk_frozen HK1.out 1
      have c_c0 : w1.cell? ⟨w.heap.size + 1, 0, none⟩ = some (Value.string c.name) := (blk_cell HK2.out 0).trans rfl
      have f_c0 := blk_frozen HK2.out 0
      have c_c1 : w1.cell? ⟨w.heap.size + 1, 1, none⟩ = some (Value.int .i64 c.kind) := (blk_cell HK2.out 1).trans rfl
      have f_c1 := blk_frozen HK2.out 1
      have c_c2 : w1.cell? ⟨w.heap.size + 1, 2, none⟩ = some (Value.bool true) := (blk_cell HK2.out 2).trans rfl
      have f_c2 := blk_frozen HK2.out 2
      have c_z0 : w1.cell? ⟨w.heap.size + 1 + 1, 0, none⟩ = some (Value.slice none 0 0) := (blk_cell HK3.out 0).trans rfl
      have f_z0 := blk_frozen HK3.out 0
      have c_z1 : w1.cell? ⟨w.heap.size + 1 + 1, 1, none⟩ = some (Value.slice none 0 0) := (blk_cell HK3.out 1).trans rfl
      have f_z1 := blk_frozen HK3.out 1
      go_wp2_with fail
      clear c_o0 f_o0 c_o1 f_o1 c_c0 f_c0 c_c1 f_c1 c_c2 f_c2 c_z0 f_z0 c_z1 f_z1
      refine (HTB.out _ HB1.out).mono ?_
      rintro e w2 ⟨rfl, hb2⟩
      have HB2 := Aside0.mk (below_step (HB1.out) hb2)
      have HK4 := Aside0.mk (blk_below (HK1.out) hb2)
      have HK5 := Aside0.mk (blk_below (HK2.out) hb2)
      have HK6 := Aside0.mk (blk_below (HK3.out) hb2)
      have HS2 := Aside0.mk hb2
      clear hb2
      have x3 := pw_cell_below HB2.out HX3.out
      have c_o0 : w2.cell? ⟨w.heap.size, 0, none⟩ = some (Value.slice As ss.length cs) := (blk_cell HK4.out 0).trans rfl
      have f_o0 := blk_frozen HK4.out 0
      have c_o1 : w2.cell? ⟨w.heap.size, 1, none⟩ = some (Value.slice (some ad) ts.length ct) := (blk_cell HK4.out 1).trans rfl
      have f_o1 := blk_frozen HK4.out 1
      have c_c0 : w2.cell? ⟨w.heap.size + 1, 0, none⟩ = some (Value.string c.name) := (blk_cell HK5.out 0).trans rfl
      have f_c0 := blk_frozen HK5.out 0
      have c_c1 : w2.cell? ⟨w.heap.size + 1, 1, none⟩ = some (Value.int .i64 c.kind) := (blk_cell HK5.out 1).trans rfl
      have f_c1 := blk_frozen HK5.out 1
      have c_c2 : w2.cell? ⟨w.heap.size + 1, 2, none⟩ = some (Value.bool true) := (blk_cell HK5.out 2).trans rfl
      have f_c2 := blk_frozen HK5.out 2
      have c_z0 : w2.cell? ⟨w.heap.size + 1 + 1, 0, none⟩ = some (Value.slice none 0 0) := (blk_cell HK6.out 0).trans rfl
      have f_z0 := blk_frozen HK6.out 0
      have c_z1 : w2.cell? ⟨w.heap.size + 1 + 1, 1, none⟩ = some (Value.slice none 0 0) := (blk_cell HK6.out 1).trans rfl
      have f_z1 := blk_frozen HK6.out 1
      go_wp2_with fail
      clear c_o0 f_o0 c_o1 f_o1 c_c0 f_c0 c_c1 f_c1 c_c2 f_c2 c_z0 f_z0 c_z1 f_z1
      refine (HM.out _).mono ?_
      rintro e w3 ⟨rfl, hb3⟩
      have HB3 := Aside0.mk (below_step (HB2.out) hb3)
      have HK7 := Aside0.mk (blk_below (HK4.out) hb3)
      have HK8 := Aside0.mk (blk_below (HK5.out) hb3)
      have HK9 := Aside0.mk (blk_below (HK6.out) hb3)
      have HS3 := Aside0.mk hb3
      clear hb3
      clear x3
      have c_o0 : w3.cell? ⟨w.heap.size, 0, none⟩ = some (Value.slice As ss.length cs) := (blk_cell HK7.out 0).trans rfl
      have f_o0 := blk_frozen HK7.out 0
      have c_o1 : w3.cell? ⟨w.heap.size, 1, none⟩ = some (Value.slice (some ad) ts.length ct) := (blk_cell HK7.out 1).trans rfl
      have f_o1 := blk_frozen HK7.out 1
      have c_c0 : w3.cell? ⟨w.heap.size + 1, 0, none⟩ = some (Value.string c.name) := (blk_cell HK8.out 0).trans rfl
      have f_c0 := blk_frozen HK8.out 0
      have c_c1 : w3.cell? ⟨w.heap.size + 1, 1, none⟩ = some (Value.int .i64 c.kind) := (blk_cell HK8.out 1).trans rfl
      have f_c1 := blk_frozen HK8.out 1
      have c_c2 : w3.cell? ⟨w.heap.size + 1, 2, none⟩ = some (Value.bool true) := (blk_cell HK8.out 2).trans rfl
      have f_c2 := blk_frozen HK8.out 2
      have c_z0 : w3.cell? ⟨w.heap.size + 1 + 1, 0, none⟩ = some (Value.slice none 0 0) := (blk_cell HK9.out 0).trans rfl
      have f_z0 := blk_frozen HK9.out 0
      have c_z1 : w3.cell? ⟨w.heap.size + 1 + 1, 1, none⟩ = some (Value.slice none 0 0) := (blk_cell HK9.out 1).trans rfl
      have f_z1 := blk_frozen HK9.out 1
      go_wp2_with fail
      clear c_o0 f_o0 c_o1 f_o1 c_c0 f_c0 c_c1 f_c1 c_c2 f_c2 c_z0 f_z0 c_z1 f_z1
      refine (HCL.out _ HB3.out).mono ?_
      rintro e w4 ⟨rfl, hb4⟩
      have HB4 := Aside0.mk (below_step (HB3.out) hb4)
      have HK10 := Aside0.mk (blk_below (HK7.out) hb4)
      have HK11 := Aside0.mk (blk_below (HK8.out) hb4)
      have HK12 := Aside0.mk (blk_below (HK9.out) hb4)
      have HS4 := Aside0.mk hb4
      clear hb4
      have c_o0 : w4.cell? ⟨w.heap.size, 0, none⟩ = some (Value.slice As ss.length cs) := (blk_cell HK10.out 0).trans rfl
      have f_o0 := blk_frozen HK10.out 0
      have c_o1 : w4.cell? ⟨w.heap.size, 1, none⟩ = some (Value.slice (some ad) ts.length ct) := (blk_cell HK10.out 1).trans rfl
      have f_o1 := blk_frozen HK10.out 1
      have c_c0 : w4.cell? ⟨w.heap.size + 1, 0, none⟩ = some (Value.string c.name) := (blk_cell HK11.out 0).trans rfl
      have f_c0 := blk_frozen HK11.out 0
      have c_c1 : w4.cell? ⟨w.heap.size + 1, 1, none⟩ = some (Value.int .i64 c.kind) := (blk_cell HK11.out 1).trans rfl
      have f_c1 := blk_frozen HK11.out 1
      have c_c2 : w4.cell? ⟨w.heap.size + 1, 2, none⟩ = some (Value.bool true) := (blk_cell HK11.out 2).trans rfl
      have f_c2 := blk_frozen HK11.out 2
      have c_z0 : w4.cell? ⟨w.heap.size + 1 + 1, 0, none⟩ = some (Value.slice none 0 0) := (blk_cell HK12.out 0).trans rfl
      have f_z0 := blk_frozen HK12.out 0
      have c_z1 : w4.cell? ⟨w.heap.size + 1 + 1, 1, none⟩ = some (Value.slice none 0 0) := (blk_cell HK12.out 1).trans rfl
      have f_z1 := blk_frozen HK12.out 1
      go_wp2_with fail
      clear c_o0 f_o0 c_o1 f_o1 c_c0 f_c0 c_c1 f_c1 c_c2 f_c2 c_z0 f_z0 c_z1 f_z1
      refine (HNO.out _ _).mono ?_
      rintro e w5 ⟨rfl, hb5⟩
      have HB5 := Aside0.mk (below_step (HB4.out) hb5)
      have HK13 := Aside0.mk (blk_below (HK10.out) hb5)
      have HK14 := Aside0.mk (blk_below (HK11.out) hb5)
      have HK15 := Aside0.mk (blk_below (HK12.out) hb5)
      have HS5 := Aside0.mk hb5
      clear hb5
      have c_o0 : w5.cell? ⟨w.heap.size, 0, none⟩ = some (Value.slice As ss.length cs) := (blk_cell HK13.out 0).trans rfl
      have f_o0 := blk_frozen HK13.out 0
      have c_o1 : w5.cell? ⟨w.heap.size, 1, none⟩ = some (Value.slice (some ad) ts.length ct) := (blk_cell HK13.out 1).trans rfl
      have f_o1 := blk_frozen HK13.out 1
      have c_c0 : w5.cell? ⟨w.heap.size + 1, 0, none⟩ = some (Value.string c.name) := (blk_cell HK14.out 0).trans rfl
      have f_c0 := blk_frozen HK14.out 0
      have c_c1 : w5.cell? ⟨w.heap.size + 1, 1, none⟩ = some (Value.int .i64 c.kind) := (blk_cell HK14.out 1).trans rfl
      have f_c1 := blk_frozen HK14.out 1
      have c_c2 : w5.cell? ⟨w.heap.size + 1, 2, none⟩ = some (Value.bool true) := (blk_cell HK14.out 2).trans rfl
      have f_c2 := blk_frozen HK14.out 2
      have c_z0 : w5.cell? ⟨w.heap.size + 1 + 1, 0, none⟩ = some (Value.slice none 0 0) := (blk_cell HK15.out 0).trans rfl
      have f_z0 := blk_frozen HK15.out 0
      have c_z1 : w5.cell? ⟨w.heap.size + 1 + 1, 1, none⟩ = some (Value.slice none 0 0) := (blk_cell HK15.out 1).trans rfl
      have f_z1 := blk_frozen HK15.out 1
      go_wp2
      refine bodyPost_ret (v := .tuple #[.agg #[.slice none 0 0, .slice none 0 0], .int .i64 60]) (by simp [results, Try.results24, go_sem, *]) rfl ?_
      exact zeroOut (g := w.heap.size + 1 + 1) (n := 60) HB5.out (by omega)
    · rw [hi] at HCL HAM
      have hd : decide ((0 : Int) ≤ -1) = false := rfl
      clear hi y1
      by_cases h8 : 8 ≤ ts[k].cols.length
      · rw [tch_bad (n := 2) HK.out HI.out hk (by rw [HAM.out, if_neg (by omega), if_pos h8]) (by decide)]
        have hd8 : decide ((8 : Int) ≤ (ts[k].cols.length : Int)) = true := decide_eq_true (by omega)
        clear HAM HOW HK HI HN2
        go_enter Try.func24, Try.ntmps24
        have c_o0 : (((w.alloc (.cells #[Value.slice As ss.length cs, Value.slice (some ad) ts.length ct] 26)).alloc (.cells #[Value.string c.name, Value.int .i64 c.kind, Value.bool true] 41)).alloc (.cells #[Value.slice none 0 0, Value.slice none 0 0] 26)).cell? ⟨w.heap.size, 0, none⟩ = some (Value.slice As ss.length cs) := (blk_cell HX0.out.2.1 0).trans rfl
        have f_o0 := blk_frozen HX0.out.2.1 0
        have c_o1 : (((w.alloc (.cells #[Value.slice As ss.length cs, Value.slice (some ad) ts.length ct] 26)).alloc (.cells #[Value.string c.name, Value.int .i64 c.kind, Value.bool true] 41)).alloc (.cells #[Value.slice none 0 0, Value.slice none 0 0] 26)).cell? ⟨w.heap.size, 1, none⟩ = some (Value.slice (some ad) ts.length ct) := (blk_cell HX0.out.2.1 1).trans rfl
        have f_o1 := blk_frozen HX0.out.2.1 1
        have c_c0 : (((w.alloc (.cells #[Value.slice As ss.length cs, Value.slice (some ad) ts.length ct] 26)).alloc (.cells #[Value.string c.name, Value.int .i64 c.kind, Value.bool true] 41)).alloc (.cells #[Value.slice none 0 0, Value.slice none 0 0] 26)).cell? ⟨w.heap.size + 1, 0, none⟩ = some (Value.string c.name) := (blk_cell HX0.out.2.2.1 0).trans rfl
        have f_c0 := blk_frozen HX0.out.2.2.1 0
        have c_c1 : (((w.alloc (.cells #[Value.slice As ss.length cs, Value.slice (some ad) ts.length ct] 26)).alloc (.cells #[Value.string c.name, Value.int .i64 c.kind, Value.bool true] 41)).alloc (.cells #[Value.slice none 0 0, Value.slice none 0 0] 26)).cell? ⟨w.heap.size + 1, 1, none⟩ = some (Value.int .i64 c.kind) := (blk_cell HX0.out.2.2.1 1).trans rfl
        have f_c1 := blk_frozen HX0.out.2.2.1 1
        have c_c2 : (((w.alloc (.cells #[Value.slice As ss.length cs, Value.slice (some ad) ts.length ct] 26)).alloc (.cells #[Value.string c.name, Value.int .i64 c.kind, Value.bool true] 41)).alloc (.cells #[Value.slice none 0 0, Value.slice none 0 0] 26)).cell? ⟨w.heap.size + 1, 2, none⟩ = some (Value.bool true) := (blk_cell HX0.out.2.2.1 2).trans rfl
        have f_c2 := blk_frozen HX0.out.2.2.1 2
        have c_z0 : (((w.alloc (.cells #[Value.slice As ss.length cs, Value.slice (some ad) ts.length ct] 26)).alloc (.cells #[Value.string c.name, Value.int .i64 c.kind, Value.bool true] 41)).alloc (.cells #[Value.slice none 0 0, Value.slice none 0 0] 26)).cell? ⟨w.heap.size + 1 + 1, 0, none⟩ = some (Value.slice none 0 0) := (blk_cell HX0.out.2.2.2 0).trans rfl
        have f_z0 := blk_frozen HX0.out.2.2.2 0
        have c_z1 : (((w.alloc (.cells #[Value.slice As ss.length cs, Value.slice (some ad) ts.length ct] 26)).alloc (.cells #[Value.string c.name, Value.int .i64 c.kind, Value.bool true] 41)).alloc (.cells #[Value.slice none 0 0, Value.slice none 0 0] 26)).cell? ⟨w.heap.size + 1 + 1, 1, none⟩ = some (Value.slice none 0 0) := (blk_cell HX0.out.2.2.2 1).trans rfl
        have f_z1 := blk_frozen HX0.out.2.2.2 1
        go_wp2_with fail
        clear c_o0 f_o0 c_o1 f_o1 c_c0 f_c0 c_c1 f_c1 c_c2 f_c2 c_z0 f_z0 c_z1 f_z1
        refine (HCK.out _ HX0.out.1).mono ?_
        rintro e w1 ⟨rfl, hb1⟩
        have HB1 := Aside0.mk (below_step (HX0.out.1) hb1)
        have HK1 := Aside0.mk (blk_below (HX0.out.2.1) hb1)
        have HK2 := Aside0.mk (blk_below (HX0.out.2.2.1) hb1)
        have HK3 := Aside0.mk (blk_below (HX0.out.2.2.2) hb1)
        have HS1 := Aside0.mk hb1
        clear hb1
        have c_o0 : w1.cell? ⟨w.heap.size, 0, none⟩ = some (Value.slice As ss.length cs) := (blk_cell HK1.out 0).trans rfl
        have f_o0 := blk_frozen HK1.out 0
        have c_o1 : w1.cell? ⟨w.heap.size, 1, none⟩ = some (Value.slice (some ad) ts.length ct) := (blk_cell HK1.out 1).trans rfl
        have f_o1 := blk_frozen HK1.out 1
        have c_c0 : w1.cell? ⟨w.heap.size + 1, 0, none⟩ = some (Value.string c.name) := (blk_cell HK2.out 0).trans rfl
        have f_c0 := blk_frozen HK2.out 0
        have c_c1 : w1.cell? ⟨w.heap.size + 1, 1, none⟩ = some (Value.int .i64 c.kind) := (blk_cell HK2.out 1).trans rfl
        have f_c1 := blk_frozen HK2.out 1
        have c_c2 : w1.cell? ⟨w.heap.size + 1, 2, none⟩ = some (Value.bool true) := (blk_cell HK2.out 2).trans rfl
        have f_c2 := blk_frozen HK2.out 2
        have c_z0 : w1.cell? ⟨w.heap.size + 1 + 1, 0, none⟩ = some (Value.slice none 0 0) := (blk_cell HK3.out 0).trans rfl
        have f_z0 := blk_frozen HK3.out 0
        have c_z1 : w1.cell? ⟨w.heap.size + 1 + 1, 1, none⟩ = some (Value.slice none 0 0) := (blk_cell HK3.out 1).trans rfl
        have f_z1 := blk_frozen HK3.out 1
        go_wp2_with fail
        clear c_o0 f_o0 c_o1 f_o1 c_c0 f_c0 c_c1 f_c1 c_c2 f_c2 c_z0 f_z0 c_z1 f_z1
        refine (HTB.out _ HB1.out).mono ?_
        rintro e w2 ⟨rfl, hb2⟩
        have HB2 := Aside0.mk (below_step (HB1.out) hb2)
        have HK4 := Aside0.mk (blk_below (HK1.out) hb2)
        have HK5 := Aside0.mk (blk_below (HK2.out) hb2)
        have HK6 := Aside0.mk (blk_below (HK3.out) hb2)
        have HS2 := Aside0.mk hb2
        clear hb2
        have x3 := pw_cell_below HB2.out HX3.out
        have c_o0 : w2.cell? ⟨w.heap.size, 0, none⟩ = some (Value.slice As ss.length cs) := (blk_cell HK4.out 0).trans rfl
        have f_o0 := blk_frozen HK4.out 0
        have c_o1 : w2.cell? ⟨w.heap.size, 1, none⟩ = some (Value.slice (some ad) ts.length ct) := (blk_cell HK4.out 1).trans rfl
        have f_o1 := blk_frozen HK4.out 1
        have c_c0 : w2.cell? ⟨w.heap.size + 1, 0, none⟩ = some (Value.string c.name) := (blk_cell HK5.out 0).trans rfl
        have f_c0 := blk_frozen HK5.out 0
        have c_c1 : w2.cell? ⟨w.heap.size + 1, 1, none⟩ = some (Value.int .i64 c.kind) := (blk_cell HK5.out 1).trans rfl
        have f_c1 := blk_frozen HK5.out 1
        have c_c2 : w2.cell? ⟨w.heap.size + 1, 2, none⟩ = some (Value.bool true) := (blk_cell HK5.out 2).trans rfl
        have f_c2 := blk_frozen HK5.out 2
        have c_z0 : w2.cell? ⟨w.heap.size + 1 + 1, 0, none⟩ = some (Value.slice none 0 0) := (blk_cell HK6.out 0).trans rfl
        have f_z0 := blk_frozen HK6.out 0
        have c_z1 : w2.cell? ⟨w.heap.size + 1 + 1, 1, none⟩ = some (Value.slice none 0 0) := (blk_cell HK6.out 1).trans rfl
        have f_z1 := blk_frozen HK6.out 1
        go_wp2_with fail
        clear c_o0 f_o0 c_o1 f_o1 c_c0 f_c0 c_c1 f_c1 c_c2 f_c2 c_z0 f_z0 c_z1 f_z1
        refine (HM.out _).mono ?_
        rintro e w3 ⟨rfl, hb3⟩
        have HB3 := Aside0.mk (below_step (HB2.out) hb3)
        have HK7 := Aside0.mk (blk_below (HK4.out) hb3)
        have HK8 := Aside0.mk (blk_below (HK5.out) hb3)
        have HK9 := Aside0.mk (blk_below (HK6.out) hb3)
        have HS3 := Aside0.mk hb3
        clear hb3
        clear x3
        have c_o0 : w3.cell? ⟨w.heap.size, 0, none⟩ = some (Value.slice As ss.length cs) := (blk_cell HK7.out 0).trans rfl
        have f_o0 := blk_frozen HK7.out 0
        have c_o1 : w3.cell? ⟨w.heap.size, 1, none⟩ = some (Value.slice (some ad) ts.length ct) := (blk_cell HK7.out 1).trans rfl
        have f_o1 := blk_frozen HK7.out 1
        have c_c0 : w3.cell? ⟨w.heap.size + 1, 0, none⟩ = some (Value.string c.name) := (blk_cell HK8.out 0).trans rfl
        have f_c0 := blk_frozen HK8.out 0
        have c_c1 : w3.cell? ⟨w.heap.size + 1, 1, none⟩ = some (Value.int .i64 c.kind) := (blk_cell HK8.out 1).trans rfl
        have f_c1 := blk_frozen HK8.out 1
        have c_c2 : w3.cell? ⟨w.heap.size + 1, 2, none⟩ = some (Value.bool true) := (blk_cell HK8.out 2).trans rfl
        have f_c2 := blk_frozen HK8.out 2
        have c_z0 : w3.cell? ⟨w.heap.size + 1 + 1, 0, none⟩ = some (Value.slice none 0 0) := (blk_cell HK9.out 0).trans rfl
        have f_z0 := blk_frozen HK9.out 0
        have c_z1 : w3.cell? ⟨w.heap.size + 1 + 1, 1, none⟩ = some (Value.slice none 0 0) := (blk_cell HK9.out 1).trans rfl
        have f_z1 := blk_frozen HK9.out 1
        go_wp2_with fail
        clear c_o0 f_o0 c_o1 f_o1 c_c0 f_c0 c_c1 f_c1 c_c2 f_c2 c_z0 f_z0 c_z1 f_z1
        refine (HCL.out _ HB3.out).mono ?_
        rintro e w4 ⟨rfl, hb4⟩
        have HB4 := Aside0.mk (below_step (HB3.out) hb4)
        have HK10 := Aside0.mk (blk_below (HK7.out) hb4)
        have HK11 := Aside0.mk (blk_below (HK8.out) hb4)
        have HK12 := Aside0.mk (blk_below (HK9.out) hb4)
        have HS4 := Aside0.mk hb4
        clear hb4
        have c_o0 : w4.cell? ⟨w.heap.size, 0, none⟩ = some (Value.slice As ss.length cs) := (blk_cell HK10.out 0).trans rfl
        have f_o0 := blk_frozen HK10.out 0
        have c_o1 : w4.cell? ⟨w.heap.size, 1, none⟩ = some (Value.slice (some ad) ts.length ct) := (blk_cell HK10.out 1).trans rfl
        have f_o1 := blk_frozen HK10.out 1
        have c_c0 : w4.cell? ⟨w.heap.size + 1, 0, none⟩ = some (Value.string c.name) := (blk_cell HK11.out 0).trans rfl
        have f_c0 := blk_frozen HK11.out 0
        have c_c1 : w4.cell? ⟨w.heap.size + 1, 1, none⟩ = some (Value.int .i64 c.kind) := (blk_cell HK11.out 1).trans rfl
        have f_c1 := blk_frozen HK11.out 1
        have c_c2 : w4.cell? ⟨w.heap.size + 1, 2, none⟩ = some (Value.bool true) := (blk_cell HK11.out 2).trans rfl
        have f_c2 := blk_frozen HK11.out 2
        have c_z0 : w4.cell? ⟨w.heap.size + 1 + 1, 0, none⟩ = some (Value.slice none 0 0) := (blk_cell HK12.out 0).trans rfl
        have f_z0 := blk_frozen HK12.out 0
        have c_z1 : w4.cell? ⟨w.heap.size + 1 + 1, 1, none⟩ = some (Value.slice none 0 0) := (blk_cell HK12.out 1).trans rfl
        have f_z1 := blk_frozen HK12.out 1
        go_wp2_with fail
        clear c_o0 f_o0 c_o1 f_o1 c_c0 f_c0 c_c1 f_c1 c_c2 f_c2 c_z0 f_z0 c_z1 f_z1
        refine (HNO.out _ _).mono ?_
        rintro e w5 ⟨rfl, hb5⟩
        have HB5 := Aside0.mk (below_step (HB4.out) hb5)
        have HK13 := Aside0.mk (blk_below (HK10.out) hb5)
        have HK14 := Aside0.mk (blk_below (HK11.out) hb5)
        have HK15 := Aside0.mk (blk_below (HK12.out) hb5)
        have HS5 := Aside0.mk hb5
        clear hb5
        have c_o0 : w5.cell? ⟨w.heap.size, 0, none⟩ = some (Value.slice As ss.length cs) := (blk_cell HK13.out 0).trans rfl
        have f_o0 := blk_frozen HK13.out 0
        have c_o1 : w5.cell? ⟨w.heap.size, 1, none⟩ = some (Value.slice (some ad) ts.length ct) := (blk_cell HK13.out 1).trans rfl
        have f_o1 := blk_frozen HK13.out 1
        have c_c0 : w5.cell? ⟨w.heap.size + 1, 0, none⟩ = some (Value.string c.name) := (blk_cell HK14.out 0).trans rfl
        have f_c0 := blk_frozen HK14.out 0
        have c_c1 : w5.cell? ⟨w.heap.size + 1, 1, none⟩ = some (Value.int .i64 c.kind) := (blk_cell HK14.out 1).trans rfl
        have f_c1 := blk_frozen HK14.out 1
        have c_c2 : w5.cell? ⟨w.heap.size + 1, 2, none⟩ = some (Value.bool true) := (blk_cell HK14.out 2).trans rfl
        have f_c2 := blk_frozen HK14.out 2
        have c_z0 : w5.cell? ⟨w.heap.size + 1 + 1, 0, none⟩ = some (Value.slice none 0 0) := (blk_cell HK15.out 0).trans rfl
        have f_z0 := blk_frozen HK15.out 0
        have c_z1 : w5.cell? ⟨w.heap.size + 1 + 1, 1, none⟩ = some (Value.slice none 0 0) := (blk_cell HK15.out 1).trans rfl
        have f_z1 := blk_frozen HK15.out 1
        go_wp2
        refine bodyPost_ret (v := .tuple #[.agg #[.slice none 0 0, .slice none 0 0], .int .i64 2]) (by simp [results, Try.results24, go_sem, *]) rfl ?_
        exact zeroOut (g := w.heap.size + 1 + 1) (n := 2) HB5.out (by omega)
      · rw [tch_good HK.out HI.out hk (by rw [HAM.out, if_neg (by omega), if_neg h8])]
        have hd8 : decide ((8 : Int) ≤ (ts[k].cols.length : Int)) = false := decide_eq_false (by omega)
        clear HAM HK HI HNO
        go_enter Try.func24, Try.ntmps24
        have c_o0 : (((w.alloc (.cells #[Value.slice As ss.length cs, Value.slice (some ad) ts.length ct] 26)).alloc (.cells #[Value.string c.name, Value.int .i64 c.kind, Value.bool true] 41)).alloc (.cells #[Value.slice none 0 0, Value.slice none 0 0] 26)).cell? ⟨w.heap.size, 0, none⟩ = some (Value.slice As ss.length cs) := (blk_cell HX0.out.2.1 0).trans rfl
        have f_o0 := blk_frozen HX0.out.2.1 0
        have c_o1 : (((w.alloc (.cells #[Value.slice As ss.length cs, Value.slice (some ad) ts.length ct] 26)).alloc (.cells #[Value.string c.name, Value.int .i64 c.kind, Value.bool true] 41)).alloc (.cells #[Value.slice none 0 0, Value.slice none 0 0] 26)).cell? ⟨w.heap.size, 1, none⟩ = some (Value.slice (some ad) ts.length ct) := (blk_cell HX0.out.2.1 1).trans rfl
        have f_o1 := blk_frozen HX0.out.2.1 1
        have c_c0 : (((w.alloc (.cells #[Value.slice As ss.length cs, Value.slice (some ad) ts.length ct] 26)).alloc (.cells #[Value.string c.name, Value.int .i64 c.kind, Value.bool true] 41)).alloc (.cells #[Value.slice none 0 0, Value.slice none 0 0] 26)).cell? ⟨w.heap.size + 1, 0, none⟩ = some (Value.string c.name) := (blk_cell HX0.out.2.2.1 0).trans rfl
        have f_c0 := blk_frozen HX0.out.2.2.1 0
        have c_c1 : (((w.alloc (.cells #[Value.slice As ss.length cs, Value.slice (some ad) ts.length ct] 26)).alloc (.cells #[Value.string c.name, Value.int .i64 c.kind, Value.bool true] 41)).alloc (.cells #[Value.slice none 0 0, Value.slice none 0 0] 26)).cell? ⟨w.heap.size + 1, 1, none⟩ = some (Value.int .i64 c.kind) := (blk_cell HX0.out.2.2.1 1).trans rfl
        have f_c1 := blk_frozen HX0.out.2.2.1 1
        have c_c2 : (((w.alloc (.cells #[Value.slice As ss.length cs, Value.slice (some ad) ts.length ct] 26)).alloc (.cells #[Value.string c.name, Value.int .i64 c.kind, Value.bool true] 41)).alloc (.cells #[Value.slice none 0 0, Value.slice none 0 0] 26)).cell? ⟨w.heap.size + 1, 2, none⟩ = some (Value.bool true) := (blk_cell HX0.out.2.2.1 2).trans rfl
        have f_c2 := blk_frozen HX0.out.2.2.1 2
        have c_z0 : (((w.alloc (.cells #[Value.slice As ss.length cs, Value.slice (some ad) ts.length ct] 26)).alloc (.cells #[Value.string c.name, Value.int .i64 c.kind, Value.bool true] 41)).alloc (.cells #[Value.slice none 0 0, Value.slice none 0 0] 26)).cell? ⟨w.heap.size + 1 + 1, 0, none⟩ = some (Value.slice none 0 0) := (blk_cell HX0.out.2.2.2 0).trans rfl
        have f_z0 := blk_frozen HX0.out.2.2.2 0
        have c_z1 : (((w.alloc (.cells #[Value.slice As ss.length cs, Value.slice (some ad) ts.length ct] 26)).alloc (.cells #[Value.string c.name, Value.int .i64 c.kind, Value.bool true] 41)).alloc (.cells #[Value.slice none 0 0, Value.slice none 0 0] 26)).cell? ⟨w.heap.size + 1 + 1, 1, none⟩ = some (Value.slice none 0 0) := (blk_cell HX0.out.2.2.2 1).trans rfl
        have f_z1 := blk_frozen HX0.out.2.2.2 1
        go_wp2_with fail
        clear c_o0 f_o0 c_o1 f_o1 c_c0 f_c0 c_c1 f_c1 c_c2 f_c2 c_z0 f_z0 c_z1 f_z1
        refine (HCK.out _ HX0.out.1).mono ?_
        rintro e w1 ⟨rfl, hb1⟩
        have HB1 := Aside0.mk (below_step (HX0.out.1) hb1)
        have HK1 := Aside0.mk (blk_below (HX0.out.2.1) hb1)
        have HK2 := Aside0.mk (blk_below (HX0.out.2.2.1) hb1)
        have HK3 := Aside0.mk (blk_below (HX0.out.2.2.2) hb1)
        have HS1 := Aside0.mk hb1
        clear hb1
        have c_o0 : w1.cell? ⟨w.heap.size, 0, none⟩ = some (Value.slice As ss.length cs) := (blk_cell HK1.out 0).trans rfl
        have f_o0 := blk_frozen HK1.out 0
        have c_o1 : w1.cell? ⟨w.heap.size, 1, none⟩ = some (Value.slice (some ad) ts.length ct) := (blk_cell HK1.out 1).trans rfl
        have f_o1 := blk_frozen HK1.out 1
        have c_c0 : w1.cell? ⟨w.heap.size + 1, 0, none⟩ = some (Value.string c.name) := (blk_cell HK2.out 0).trans rfl
        have f_c0 := blk_frozen HK2.out 0
        have c_c1 : w1.cell? ⟨w.heap.size + 1, 1, none⟩ = some (Value.int .i64 c.kind) := (blk_cell HK2.out 1).trans rfl
        have f_c1 := blk_frozen HK2.out 1
        have c_c2 : w1.cell? ⟨w.heap.size + 1, 2, none⟩ = some (Value.bool true) := (blk_cell HK2.out 2).trans rfl
        have f_c2 := blk_frozen HK2.out 2
        have c_z0 : w1.cell? ⟨w.heap.size + 1 + 1, 0, none⟩ = some (Value.slice none 0 0) := (blk_cell HK3.out 0).trans rfl
        have f_z0 := blk_frozen HK3.out 0
        have c_z1 : w1.cell? ⟨w.heap.size + 1 + 1, 1, none⟩ = some (Value.slice none 0 0) := (blk_cell HK3.out 1).trans rfl
        have f_z1 := blk_frozen HK3.out 1
        go_wp2_with fail
        clear c_o0 f_o0 c_o1 f_o1 c_c0 f_c0 c_c1 f_c1 c_c2 f_c2 c_z0 f_z0 c_z1 f_z1
        refine (HTB.out _ HB1.out).mono ?_
        rintro e w2 ⟨rfl, hb2⟩
        have HB2 := Aside0.mk (below_step (HB1.out) hb2)
        have HK4 := Aside0.mk (blk_below (HK1.out) hb2)
        have HK5 := Aside0.mk (blk_below (HK2.out) hb2)
        have HK6 := Aside0.mk (blk_below (HK3.out) hb2)
        have HS2 := Aside0.mk hb2
        clear hb2
        have x3 := pw_cell_below HB2.out HX3.out
        have c_o0 : w2.cell? ⟨w.heap.size, 0, none⟩ = some (Value.slice As ss.length cs) := (blk_cell HK4.out 0).trans rfl
        have f_o0 := blk_frozen HK4.out 0
        have c_o1 : w2.cell? ⟨w.heap.size, 1, none⟩ = some (Value.slice (some ad) ts.length ct) := (blk_cell HK4.out 1).trans rfl
        have f_o1 := blk_frozen HK4.out 1
        have c_c0 : w2.cell? ⟨w.heap.size + 1, 0, none⟩ = some (Value.string c.name) := (blk_cell HK5.out 0).trans rfl
        have f_c0 := blk_frozen HK5.out 0
        have c_c1 : w2.cell? ⟨w.heap.size + 1, 1, none⟩ = some (Value.int .i64 c.kind) := (blk_cell HK5.out 1).trans rfl
        have f_c1 := blk_frozen HK5.out 1
        have c_c2 : w2.cell? ⟨w.heap.size + 1, 2, none⟩ = some (Value.bool true) := (blk_cell HK5.out 2).trans rfl
        have f_c2 := blk_frozen HK5.out 2
        have c_z0 : w2.cell? ⟨w.heap.size + 1 + 1, 0, none⟩ = some (Value.slice none 0 0) := (blk_cell HK6.out 0).trans rfl
        have f_z0 := blk_frozen HK6.out 0
        have c_z1 : w2.cell? ⟨w.heap.size + 1 + 1, 1, none⟩ = some (Value.slice none 0 0) := (blk_cell HK6.out 1).trans rfl
        have f_z1 := blk_frozen HK6.out 1
        go_wp2_with fail
        clear c_o0 f_o0 c_o1 f_o1 c_c0 f_c0 c_c1 f_c1 c_c2 f_c2 c_z0 f_z0 c_z1 f_z1
        refine (HM.out _).mono ?_
        rintro e w3 ⟨rfl, hb3⟩
        have HB3 := Aside0.mk (below_step (HB2.out) hb3)
        have HK7 := Aside0.mk (blk_below (HK4.out) hb3)
        have HK8 := Aside0.mk (blk_below (HK5.out) hb3)
        have HK9 := Aside0.mk (blk_below (HK6.out) hb3)
        have HS3 := Aside0.mk hb3
        clear hb3
        clear x3
        have c_o0 : w3.cell? ⟨w.heap.size, 0, none⟩ = some (Value.slice As ss.length cs) := (blk_cell HK7.out 0).trans rfl
        have f_o0 := blk_frozen HK7.out 0
        have c_o1 : w3.cell? ⟨w.heap.size, 1, none⟩ = some (Value.slice (some ad) ts.length ct) := (blk_cell HK7.out 1).trans rfl
        have f_o1 := blk_frozen HK7.out 1
        have c_c0 : w3.cell? ⟨w.heap.size + 1, 0, none⟩ = some (Value.string c.name) := (blk_cell HK8.out 0).trans rfl
        have f_c0 := blk_frozen HK8.out 0
        have c_c1 : w3.cell? ⟨w.heap.size + 1, 1, none⟩ = some (Value.int .i64 c.kind) := (blk_cell HK8.out 1).trans rfl
        have f_c1 := blk_frozen HK8.out 1
        have c_c2 : w3.cell? ⟨w.heap.size + 1, 2, none⟩ = some (Value.bool true) := (blk_cell HK8.out 2).trans rfl
        have f_c2 := blk_frozen HK8.out 2
        have c_z0 : w3.cell? ⟨w.heap.size + 1 + 1, 0, none⟩ = some (Value.slice none 0 0) := (blk_cell HK9.out 0).trans rfl
        have f_z0 := blk_frozen HK9.out 0
        have c_z1 : w3.cell? ⟨w.heap.size + 1 + 1, 1, none⟩ = some (Value.slice none 0 0) := (blk_cell HK9.out 1).trans rfl
        have f_z1 := blk_frozen HK9.out 1
        go_wp2_with fail
        clear c_o0 f_o0 c_o1 f_o1 c_c0 f_c0 c_c1 f_c1 c_c2 f_c2 c_z0 f_z0 c_z1 f_z1
        refine (HCL.out _ HB3.out).mono ?_
        rintro e w4 ⟨rfl, hb4⟩
        have HB4 := Aside0.mk (below_step (HB3.out) hb4)
        have HK10 := Aside0.mk (blk_below (HK7.out) hb4)
        have HK11 := Aside0.mk (blk_below (HK8.out) hb4)
        have HK12 := Aside0.mk (blk_below (HK9.out) hb4)
        have HS4 := Aside0.mk hb4
        clear hb4
        have c_o0 : w4.cell? ⟨w.heap.size, 0, none⟩ = some (Value.slice As ss.length cs) := (blk_cell HK10.out 0).trans rfl
        have f_o0 := blk_frozen HK10.out 0
        have c_o1 : w4.cell? ⟨w.heap.size, 1, none⟩ = some (Value.slice (some ad) ts.length ct) := (blk_cell HK10.out 1).trans rfl
        have f_o1 := blk_frozen HK10.out 1
        have c_c0 : w4.cell? ⟨w.heap.size + 1, 0, none⟩ = some (Value.string c.name) := (blk_cell HK11.out 0).trans rfl
        have f_c0 := blk_frozen HK11.out 0
        have c_c1 : w4.cell? ⟨w.heap.size + 1, 1, none⟩ = some (Value.int .i64 c.kind) := (blk_cell HK11.out 1).trans rfl
        have f_c1 := blk_frozen HK11.out 1
        have c_c2 : w4.cell? ⟨w.heap.size + 1, 2, none⟩ = some (Value.bool true) := (blk_cell HK11.out 2).trans rfl
        have f_c2 := blk_frozen HK11.out 2
        have c_z0 : w4.cell? ⟨w.heap.size + 1 + 1, 0, none⟩ = some (Value.slice none 0 0) := (blk_cell HK12.out 0).trans rfl
        have f_z0 := blk_frozen HK12.out 0
        have c_z1 : w4.cell? ⟨w.heap.size + 1 + 1, 1, none⟩ = some (Value.slice none 0 0) := (blk_cell HK12.out 1).trans rfl
        have f_z1 := blk_frozen HK12.out 1
        go_wp2_with fail
        clear c_o0 f_o0 c_o1 f_o1 c_c0 f_c0 c_c1 f_c1 c_c2 f_c2 c_z0 f_z0 c_z1 f_z1
        refine (HOW.out _ HB4.out).mono ?_
        rintro e w5 ⟨Bs, ds, Bt, dt, rfl, hR, hS, hb5⟩
        have HB5 := Aside0.mk (below_step (HB4.out) hb5)
        have HK13 := Aside0.mk (blk_below (HK10.out) hb5)
        have HK14 := Aside0.mk (blk_below (HK11.out) hb5)
        have HK15 := Aside0.mk (blk_below (HK12.out) hb5)
        have HLE := Aside0.mk hb5.size
        clear hb5
        obtain ⟨g, rfl⟩ := S_addr hS (by omega)
        have hR0 := Kd.R_alloc hR (.cells #[.slice Bs ss.length ds, .slice (some ⟨g, 0, none⟩) ts.length dt] 26)
        have hS0 := Kd.S_alloc hS (.cells #[.slice Bs ss.length ds, .slice (some ⟨g, 0, none⟩) ts.length dt] 26)
        have HOB := Aside0.mk (blk_new w5 (.cells #[.slice Bs ss.length ds, .slice (some ⟨g, 0, none⟩) ts.length dt] 26))
        have hb9 := below_alloc (Below.refl w5.heap.size w5) (.cells #[.slice Bs ss.length ds, .slice (some ⟨g, 0, none⟩) ts.length dt] 26)
        have HLE2 := Aside0.mk (show w5.heap.size ≤ (w5.alloc (.cells #[.slice Bs ss.length ds, .slice (some ⟨g, 0, none⟩) ts.length dt] 26)).heap.size by simp)
        obtain ⟨V, he⟩ : ∃ V, V = (w5.alloc (.cells #[.slice Bs ss.length ds, .slice (some ⟨g, 0, none⟩) ts.length dt] 26)) := ⟨_, rfl⟩
        rw [← he] at hR0 hS0 HOB hb9 HLE2
        have HB9 := Aside0.mk (below_step (HB5.out) hb9)
        have HK16 := Aside0.mk (blk_below (HK13.out) hb9)
        have HK17 := Aside0.mk (blk_below (HK14.out) hb9)
        have HK18 := Aside0.mk (blk_below (HK15.out) hb9)
        clear hb9 hR hS
        obtain ⟨oki, A3, c3, e3, f3, h3, ho, hset⟩ := S_cols (Kd.S_drew hS0) k hk
        obtain ⟨gcells, hgt⟩ := Kd.S_typed hS0 g rfl
        have HC := Aside0.mk (And.intro h3 hset)
        have HG := Aside0.mk (Kd.S_base hS0 g rfl)
        have HRS := Aside0.mk hR0
        have n1 : ¬ g = w5.heap.size := fun e => blk_ne HOB.out hgt (by decide) e.symm
        have n2 : ¬ w5.heap.size = g := fun e => n1 e.symm
        have n3 : ¬ g = w.heap.size + 1 + 1 := fun e => blk_ne (HK18.out) hgt (by decide) e.symm
        have n4 : ¬ w.heap.size + 1 + 1 = g := fun e => n3 e.symm
        have e3a : V.cell? ⟨g, k * 5 + 3, none⟩ = some (.slice A3 ts[k].cols.length c3) := e3
        have xa3 : ∀ o, (V.drew.alloc o).cell? ⟨g, k * 5 + 3, none⟩ = some (.slice A3 ts[k].cols.length c3) := fun o => pw_cell_below (below_alloc (Below.refl _ _) o) e3
        have xa0 : ∀ o, (V.alloc o).cell? ⟨g, k * 5 + 3, none⟩ = some (.slice A3 ts[k].cols.length c3) := fun o => pw_cell_below (below_alloc (Below.refl _ _) o) e3a
        have HLB := Aside0.mk (show w4.heap.size ≤ V.heap.size from Nat.le_trans HLE.out HLE2.out)
        have HOd := Aside0.mk (show V.drew.heap[w5.heap.size]? = some (.cells #[.slice Bs ss.length ds, .slice (some ⟨g, 0, none⟩) ts.length dt] 26 (0, 0)) from HOB.out)
        have HZd := Aside0.mk (show V.drew.heap[w.heap.size + 1 + 1]? = some (.cells #[Value.slice none 0 0, Value.slice none 0 0] 26 (0, 0)) from HK18.out)
        clear h3 hset ho hR0 hS0 hgt e3
        have c_out0 : V.cell? ⟨w5.heap.size, 0, none⟩ = some (Value.slice Bs ss.length ds) := (blk_cell HOB.out 0).trans rfl
        have f_out0 := blk_frozen HOB.out 0
        have c_out1 : V.cell? ⟨w5.heap.size, 1, none⟩ = some (Value.slice (some ⟨g, 0, none⟩) ts.length dt) := (blk_cell HOB.out 1).trans rfl
        have f_out1 := blk_frozen HOB.out 1
        have c_c0 : V.cell? ⟨w.heap.size + 1, 0, none⟩ = some (Value.string c.name) := (blk_cell HK17.out 0).trans rfl
        have f_c0 := blk_frozen HK17.out 0
        have c_c1 : V.cell? ⟨w.heap.size + 1, 1, none⟩ = some (Value.int .i64 c.kind) := (blk_cell HK17.out 1).trans rfl
        have f_c1 := blk_frozen HK17.out 1
        have c_c2 : V.cell? ⟨w.heap.size + 1, 2, none⟩ = some (Value.bool true) := (blk_cell HK17.out 2).trans rfl
        have f_c2 := blk_frozen HK17.out 2
        have a_out0 : ∀ o, (V.drew.alloc o).cell? ⟨w5.heap.size, 0, none⟩ = some (Value.slice Bs ss.length ds) := fun o => (blk_cell (blk_alloc (o' := o) HOd.out) 0).trans rfl
        have b_out0 : ∀ o, (V.alloc o).cell? ⟨w5.heap.size, 0, none⟩ = some (Value.slice Bs ss.length ds) := fun o => (blk_cell (blk_alloc (o' := o) HOB.out) 0).trans rfl
        have a_out1 : ∀ o, (V.drew.alloc o).cell? ⟨w5.heap.size, 1, none⟩ = some (Value.slice (some ⟨g, 0, none⟩) ts.length dt) := fun o => (blk_cell (blk_alloc (o' := o) HOd.out) 1).trans rfl
        have b_out1 : ∀ o, (V.alloc o).cell? ⟨w5.heap.size, 1, none⟩ = some (Value.slice (some ⟨g, 0, none⟩) ts.length dt) := fun o => (blk_cell (blk_alloc (o' := o) HOB.out) 1).trans rfl
        go_wp2
        rw [← he]
        clear he
        go_region_law ((refine append_col (W := V.drew) w4.heap.size (by rfl) (.tmp 72) (.tmp 74) rfl (.slice A3 ts[k].cols.length c3) ts[k].cols ⟨c.name, c.kind, true⟩ oki (by rfl) (by rfl) HC.out.1 HLB.out (by omega) ?_; intro v1 w4 hR4 hb4 hg4; rw [show (⟨c.name, c.kind, true⟩ : Col) = c from by rw [← HN2.out]] at hR4; obtain ⟨A5, c5, rfl⟩ := Kd.R_slice hR4; obtain ⟨y1, y2, y3, y4⟩ := HC.out.2 w4 _ _ hg4 hR4; have HX := Aside0.mk (And.intro hg4 (And.intro y3 y4)); have HO4 := Aside0.mk (blk_grown HOd.out hg4 (Kd.R_ne HC.out.1 HOd.out (by decide))); have HZ4 := Aside0.mk (blk_grown HZd.out hg4 (Kd.R_ne HC.out.1 HZd.out (by decide))); have o1 : w4.cell? ⟨w5.heap.size, 1, none⟩ = some (Value.slice (some ⟨g, 0, none⟩) ts.length dt) := (blk_cell HO4.out 1).trans rfl; clear hR4 hb4 hg4 y3 y4))
        all_goals
          have HF := Aside0.mk (Out.own (InDid.cols (t := { ts[k] with cols := ts[k].cols ++ [c] }) (k := k) (below_drew (Below.refl V.heap.size V)) HLB.out HG.out HRS.out HC.out.1 HX.out.1 HX.out.2.1 (k * 5 + 3) HX.out.2.2) HB9.out HB4.out.size (show w.heap.size ≤ w.heap.size + 1 + 1 by omega) (HK18.out))
          rw [show (ts[k].cols ++ [c]).length = ts[k].cols.length + 1 from by simp] at HF
          have o0 : w4.cell? ⟨w5.heap.size, 0, none⟩ = some (Value.slice Bs ss.length ds) := (blk_cell HO4.out 0).trans rfl
          have z0 : w4.cell? ⟨w.heap.size + 1 + 1, 0, none⟩ = some (Value.slice none 0 0) := (blk_cell HZ4.out 0).trans rfl
          have z1 : w4.cell? ⟨w.heap.size + 1 + 1, 1, none⟩ = some (Value.slice none 0 0) := (blk_cell HZ4.out 1).trans rfl
          have f0 := blk_frozen HZ4.out 0
          have f1 := blk_frozen HZ4.out 1
          have g0 := blk_frozen HO4.out 0
          have g1 := blk_frozen HO4.out 1
          clear c_out0 f_out0 c_out1 f_out1 c_c0 f_c0 c_c1 f_c1 c_c2 f_c2 a_out0 b_out0 a_out1 b_out1
          clear HX HC HRS xa3 xa0 e3a f3
          go_wp2
          refine bodyPost_ret (v := .tuple #[.agg #[.slice Bs ss.length ds, .slice (some ⟨g, 0, none⟩) ts.length dt], .int .i64 0]) (by simp [results, Try.results24, go_sem, *]) rfl ?_
          exact HF.out
end Go.Proofs.Ytmmiehckgkadgaa.O
