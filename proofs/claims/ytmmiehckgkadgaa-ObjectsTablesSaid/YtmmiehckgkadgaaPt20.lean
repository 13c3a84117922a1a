/- Own lemmas and walks (TD), without what the law does not need. Laid by a program of this session (prune.py). -/
import Derived.Test.YtmmiehckgkadgaaPt19
namespace Go.Proofs.Ytmmiehckgkadgaa.O
set_option linter.unusedVariables false
set_option linter.unusedSimpArgs false
open Go.RowKit Go.Proofs.YtmmiehckgkadgaaW.PrintWords Go.Sort
theorem sz_al (w : World) (o : Obj) : (w.alloc o).heap.size = w.heap.size + 1 := by simp
theorem order_less (x y : Tab) : ltOf orderT x y = (Op.bytesLess x.schema.toList y.schema.toList || (x.schema.toList == y.schema.toList && Op.bytesLess x.name.toList y.name.toList)) := by
  rw [less_S, less_S, eq_S]
  unfold ltOf orderT
  rw [Bool.eq_iff_iff]
  simp only [decide_eq_true_eq, orI_lt, Bool.or_eq_true, Bool.and_eq_true]
set_option maxRecDepth 100000 in
set_option maxHeartbeats 8000000 in
theorem rAddTable.calls {As At A3 A4 : Option Addr} {cs ct c3 c4 : Nat} (ss : List Sch) (ts : List Tab) (t : Tab) (w : World) (hs : kSch.C w As ss.length ss) (hsl : ss.length ≤ 3000) (ht : kTab.C w At ts.length ts) (hF : TabsF ts) (hB : TabsB ts) (h3 : kCol.C w A3 t.cols.length t.cols) (h4 : kRul.C w A4 t.rules.length t.rules) (hcc : t.cols.length ≤ c3) (hlc : t.cols.length ≤ 140737488355328) :
    Calls Try.prog 34 #[.agg #[Value.slice As ss.length cs, Value.slice At ts.length ct], .agg #[.string t.schema, .string t.name, .string t.owner, .slice A3 t.cols.length c3, .slice A4 t.rules.length c4]] w (Out w (addTable ss ts t)) := by
  have HX0 := Aside0.mk (boxes3 w (.cells #[Value.slice As ss.length cs, Value.slice At ts.length ct] 26) (.cells #[Value.string t.schema, Value.string t.name, Value.string t.owner, Value.slice A3 t.cols.length c3, Value.slice A4 t.rules.length c4] 35) (.cells #[Value.slice none 0 0, Value.slice none 0 0] 26))
  have HCK := Aside0.mk (fun W (hW : Below w.heap.size w W) => rRightAll.calls (As := As) (cs := cs) (At := At) (ct := ct) ss ts W (Kd.C_below hs hW) (by omega) (Kd.C_below ht hW) hF)
  have HOW := Aside0.mk (fun W (hW : Below w.heap.size w W) => rOwn.calls (As := As) (cs := cs) (At := At) (ct := ct) ss ts W (Kd.C_below hs hW) hsl (Kd.C_below ht hW) hB)
  have HSC := Aside0.mk (fun W (hW : Below w.heap.size w W) => rSchema.calls (c0 := cs) (At := At) (nt := ts.length) (ct := ct) t.schema ss W (Kd.C_below hs hW) (by omega))
  have HTB := Aside0.mk (fun W (hW : Below w.heap.size w W) => rTable.calls (As := As) (ns := ss.length) (cs := cs) (A0 := At) (c0 := ct) t.schema t.name ts W (Kd.C_below ht hW) (by have := hB.1; omega))
  have HTC := Aside0.mk (fun W (hW : Below w.heap.size w W) => rTables.calls (As := As) (ns := ss.length) (cs := cs) (c0 := ct) t.schema ts W (Kd.C_below ht hW) (by have := hB.1; omega))
  have HCO := Aside0.mk (fun W (hW : Below w.heap.size w W) => rColumns.calls A3 c3 t.cols W (Kd.C_below h3 hW) hcc hlc)
  have HCP := Aside0.mk (fun (hT : TabB t) W (hW : Below w.heap.size w W) => rCopy.at_ t (c3 := c3) (c4 := c4) w h3 h4 hT W hW)
  have HNO := Aside0.mk (fun n W => rNo.calls n W)
  have HN1 := Aside0.mk (fun W => rName.calls t.name W)
  have HN2 := Aside0.mk (fun W => rName.calls t.owner W)
  have htl : ts.length ≤ 3000 := hB.1
  clear hs ht hF hB h3 h4
  unfold addTable
  cases hck : checkB ss ts with
  | false =>
    rw [chg_bad _ hck]
    rw [hck] at HCK
    clear hck HOW HSC HTB HTC HCO HCP HN1 HN2
    go_enter Try.func34, Try.ntmps34
    have c_o0 : (((w.alloc (.cells #[Value.slice As ss.length cs, Value.slice At ts.length ct] 26)).alloc (.cells #[Value.string t.schema, Value.string t.name, Value.string t.owner, Value.slice A3 t.cols.length c3, Value.slice A4 t.rules.length c4] 35)).alloc (.cells #[Value.slice none 0 0, Value.slice none 0 0] 26)).cell? ⟨w.heap.size, 0, none⟩ = some (Value.slice As ss.length cs) := (blk_cell HX0.out.2.1 0).trans rfl
    have f_o0 := blk_frozen HX0.out.2.1 0
    have c_o1 : (((w.alloc (.cells #[Value.slice As ss.length cs, Value.slice At ts.length ct] 26)).alloc (.cells #[Value.string t.schema, Value.string t.name, Value.string t.owner, Value.slice A3 t.cols.length c3, Value.slice A4 t.rules.length c4] 35)).alloc (.cells #[Value.slice none 0 0, Value.slice none 0 0] 26)).cell? ⟨w.heap.size, 1, none⟩ = some (Value.slice At ts.length ct) := (blk_cell HX0.out.2.1 1).trans rfl
    have f_o1 := blk_frozen HX0.out.2.1 1
    have c_p0 : (((w.alloc (.cells #[Value.slice As ss.length cs, Value.slice At ts.length ct] 26)).alloc (.cells #[Value.string t.schema, Value.string t.name, Value.string t.owner, Value.slice A3 t.cols.length c3, Value.slice A4 t.rules.length c4] 35)).alloc (.cells #[Value.slice none 0 0, Value.slice none 0 0] 26)).cell? ⟨w.heap.size + 1, 0, none⟩ = some (Value.string t.schema) := (blk_cell HX0.out.2.2.1 0).trans rfl
    have f_p0 := blk_frozen HX0.out.2.2.1 0
    have c_p1 : (((w.alloc (.cells #[Value.slice As ss.length cs, Value.slice At ts.length ct] 26)).alloc (.cells #[Value.string t.schema, Value.string t.name, Value.string t.owner, Value.slice A3 t.cols.length c3, Value.slice A4 t.rules.length c4] 35)).alloc (.cells #[Value.slice none 0 0, Value.slice none 0 0] 26)).cell? ⟨w.heap.size + 1, 1, none⟩ = some (Value.string t.name) := (blk_cell HX0.out.2.2.1 1).trans rfl
    have f_p1 := blk_frozen HX0.out.2.2.1 1
    have c_p2 : (((w.alloc (.cells #[Value.slice As ss.length cs, Value.slice At ts.length ct] 26)).alloc (.cells #[Value.string t.schema, Value.string t.name, Value.string t.owner, Value.slice A3 t.cols.length c3, Value.slice A4 t.rules.length c4] 35)).alloc (.cells #[Value.slice none 0 0, Value.slice none 0 0] 26)).cell? ⟨w.heap.size + 1, 2, none⟩ = some (Value.string t.owner) := (blk_cell HX0.out.2.2.1 2).trans rfl
    have f_p2 := blk_frozen HX0.out.2.2.1 2
    have c_p3 : (((w.alloc (.cells #[Value.slice As ss.length cs, Value.slice At ts.length ct] 26)).alloc (.cells #[Value.string t.schema, Value.string t.name, Value.string t.owner, Value.slice A3 t.cols.length c3, Value.slice A4 t.rules.length c4] 35)).alloc (.cells #[Value.slice none 0 0, Value.slice none 0 0] 26)).cell? ⟨w.heap.size + 1, 3, none⟩ = some (Value.slice A3 t.cols.length c3) := (blk_cell HX0.out.2.2.1 3).trans rfl
    have f_p3 := blk_frozen HX0.out.2.2.1 3
    have c_p4 : (((w.alloc (.cells #[Value.slice As ss.length cs, Value.slice At ts.length ct] 26)).alloc (.cells #[Value.string t.schema, Value.string t.name, Value.string t.owner, Value.slice A3 t.cols.length c3, Value.slice A4 t.rules.length c4] 35)).alloc (.cells #[Value.slice none 0 0, Value.slice none 0 0] 26)).cell? ⟨w.heap.size + 1, 4, none⟩ = some (Value.slice A4 t.rules.length c4) := (blk_cell HX0.out.2.2.1 4).trans rfl
    have f_p4 := blk_frozen HX0.out.2.2.1 4
    have c_z0 : (((w.alloc (.cells #[Value.slice As ss.length cs, Value.slice At ts.length ct] 26)).alloc (.cells #[Value.string t.schema, Value.string t.name, Value.string t.owner, Value.slice A3 t.cols.length c3, Value.slice A4 t.rules.length c4] 35)).alloc (.cells #[Value.slice none 0 0, Value.slice none 0 0] 26)).cell? ⟨w.heap.size + 1 + 1, 0, none⟩ = some (Value.slice none 0 0) := (blk_cell HX0.out.2.2.2 0).trans rfl
    have f_z0 := blk_frozen HX0.out.2.2.2 0
    have c_z1 : (((w.alloc (.cells #[Value.slice As ss.length cs, Value.slice At ts.length ct] 26)).alloc (.cells #[Value.string t.schema, Value.string t.name, Value.string t.owner, Value.slice A3 t.cols.length c3, Value.slice A4 t.rules.length c4] 35)).alloc (.cells #[Value.slice none 0 0, Value.slice none 0 0] 26)).cell? ⟨w.heap.size + 1 + 1, 1, none⟩ = some (Value.slice none 0 0) := (blk_cell HX0.out.2.2.2 1).trans rfl
    have f_z1 := blk_frozen HX0.out.2.2.2 1
    go_wp2_with fail
    clear c_o0 f_o0 c_o1 f_o1 c_p0 f_p0 c_p1 f_p1 c_p2 f_p2 c_p3 f_p3 c_p4 f_p4 c_z0 f_z0 c_z1 f_z1
    refine (HCK.out _ HX0.out.1).mono ?_
    rintro e w1 ⟨rfl, hb1⟩
    have HB1 := Aside0.mk (below_step (HX0.out.1) hb1)
    have HK1 := Aside0.mk (blk_below (HX0.out.2.1) hb1)
    have HK2 := Aside0.mk (blk_below (HX0.out.2.2.1) hb1)
    have HK3 := Aside0.mk (blk_below (HX0.out.2.2.2) hb1)
    have HS1 := Aside0.mk hb1
    clear hb1
    have c_o0 : w1.cell? ⟨w.heap.size, 0, none⟩ = some (Value.slice As ss.length cs) := (blk_cell HK1.out 0).trans rfl
    have f_o0 := blk_frozen HK1.out 0
    have c_o1 : w1.cell? ⟨w.heap.size, 1, none⟩ = some (Value.slice At ts.length ct) := (blk_cell HK1.out 1).trans rfl
    have f_o1 := blk_frozen HK1.out 1
    have c_p0 : w1.cell? ⟨w.heap.size + 1, 0, none⟩ = some (Value.string t.schema) := (blk_cell HK2.out 0).trans rfl
    have f_p0 := blk_frozen HK2.out 0
    have c_p1 : w1.cell? ⟨w.heap.size + 1, 1, none⟩ = some (Value.string t.name) := (blk_cell HK2.out 1).trans rfl
    have f_p1 := blk_frozen HK2.out 1
    have c_p2 : w1.cell? ⟨w.heap.size + 1, 2, none⟩ = some (Value.string t.owner) := (blk_cell HK2.out 2).trans rfl
    have f_p2 := blk_frozen HK2.out 2
    have c_p3 : w1.cell? ⟨w.heap.size + 1, 3, none⟩ = some (Value.slice A3 t.cols.length c3) := (blk_cell HK2.out 3).trans rfl
    have f_p3 := blk_frozen HK2.out 3
    have c_p4 : w1.cell? ⟨w.heap.size + 1, 4, none⟩ = some (Value.slice A4 t.rules.length c4) := (blk_cell HK2.out 4).trans rfl
    have f_p4 := blk_frozen HK2.out 4
    have c_z0 : w1.cell? ⟨w.heap.size + 1 + 1, 0, none⟩ = some (Value.slice none 0 0) := (blk_cell HK3.out 0).trans rfl
    have f_z0 := blk_frozen HK3.out 0
    have c_z1 : w1.cell? ⟨w.heap.size + 1 + 1, 1, none⟩ = some (Value.slice none 0 0) := (blk_cell HK3.out 1).trans rfl
    have f_z1 := blk_frozen HK3.out 1
    go_wp2_with fail
    clear c_o0 f_o0 c_o1 f_o1 c_p0 f_p0 c_p1 f_p1 c_p2 f_p2 c_p3 f_p3 c_p4 f_p4 c_z0 f_z0 c_z1 f_z1
    refine (HNO.out _ _).mono ?_
    rintro e w2 ⟨rfl, hb2⟩
    have HB2 := Aside0.mk (below_step (HB1.out) hb2)
    have HK4 := Aside0.mk (blk_below (HK1.out) hb2)
    have HK5 := Aside0.mk (blk_below (HK2.out) hb2)
    have HK6 := Aside0.mk (blk_below (HK3.out) hb2)
    have HS2 := Aside0.mk hb2
    clear hb2
    have c_o0 : w2.cell? ⟨w.heap.size, 0, none⟩ = some (Value.slice As ss.length cs) := (blk_cell HK4.out 0).trans rfl
    have f_o0 := blk_frozen HK4.out 0
    have c_o1 : w2.cell? ⟨w.heap.size, 1, none⟩ = some (Value.slice At ts.length ct) := (blk_cell HK4.out 1).trans rfl
    have f_o1 := blk_frozen HK4.out 1
    have c_p0 : w2.cell? ⟨w.heap.size + 1, 0, none⟩ = some (Value.string t.schema) := (blk_cell HK5.out 0).trans rfl
    have f_p0 := blk_frozen HK5.out 0
    have c_p1 : w2.cell? ⟨w.heap.size + 1, 1, none⟩ = some (Value.string t.name) := (blk_cell HK5.out 1).trans rfl
    have f_p1 := blk_frozen HK5.out 1
    have c_p2 : w2.cell? ⟨w.heap.size + 1, 2, none⟩ = some (Value.string t.owner) := (blk_cell HK5.out 2).trans rfl
    have f_p2 := blk_frozen HK5.out 2
    have c_p3 : w2.cell? ⟨w.heap.size + 1, 3, none⟩ = some (Value.slice A3 t.cols.length c3) := (blk_cell HK5.out 3).trans rfl
    have f_p3 := blk_frozen HK5.out 3
    have c_p4 : w2.cell? ⟨w.heap.size + 1, 4, none⟩ = some (Value.slice A4 t.rules.length c4) := (blk_cell HK5.out 4).trans rfl
    have f_p4 := blk_frozen HK5.out 4
    have c_z0 : w2.cell? ⟨w.heap.size + 1 + 1, 0, none⟩ = some (Value.slice none 0 0) := (blk_cell HK6.out 0).trans rfl
    have f_z0 := blk_frozen HK6.out 0
    have c_z1 : w2.cell? ⟨w.heap.size + 1 + 1, 1, none⟩ = some (Value.slice none 0 0) := (blk_cell HK6.out 1).trans rfl
    have f_z1 := blk_frozen HK6.out 1
    go_wp2
    refine bodyPost_ret (v := .tuple #[.agg #[.slice none 0 0, .slice none 0 0], .int .i64 63]) (by simp [results, Try.results34, go_sem, *]) rfl ?_
    exact zeroOut (g := w.heap.size + 1 + 1) (n := 63) HB2.out (by omega)
  | true =>
  have HK := Aside0.mk hck
  rw [hck] at HCK
  clear hck
  cases h1 : nameB t.name with
  | false =>
    rw [chgT_at (n := 1) HK.out (by unfold addTabR; rw [h1]; rfl)]
    rw [h1] at HN1
    clear h1 HOW HSC HTB HTC HCO HCP HN2 HK
    go_enter Try.func34, Try.ntmps34
    have c_o0 : (((w.alloc (.cells #[Value.slice As ss.length cs, Value.slice At ts.length ct] 26)).alloc (.cells #[Value.string t.schema, Value.string t.name, Value.string t.owner, Value.slice A3 t.cols.length c3, Value.slice A4 t.rules.length c4] 35)).alloc (.cells #[Value.slice none 0 0, Value.slice none 0 0] 26)).cell? ⟨w.heap.size, 0, none⟩ = some (Value.slice As ss.length cs) := (blk_cell HX0.out.2.1 0).trans rfl
    have f_o0 := blk_frozen HX0.out.2.1 0
    have c_o1 : (((w.alloc (.cells #[Value.slice As ss.length cs, Value.slice At ts.length ct] 26)).alloc (.cells #[Value.string t.schema, Value.string t.name, Value.string t.owner, Value.slice A3 t.cols.length c3, Value.slice A4 t.rules.length c4] 35)).alloc (.cells #[Value.slice none 0 0, Value.slice none 0 0] 26)).cell? ⟨w.heap.size, 1, none⟩ = some (Value.slice At ts.length ct) := (blk_cell HX0.out.2.1 1).trans rfl
    have f_o1 := blk_frozen HX0.out.2.1 1
    have c_p0 : (((w.alloc (.cells #[Value.slice As ss.length cs, Value.slice At ts.length ct] 26)).alloc (.cells #[Value.string t.schema, Value.string t.name, Value.string t.owner, Value.slice A3 t.cols.length c3, Value.slice A4 t.rules.length c4] 35)).alloc (.cells #[Value.slice none 0 0, Value.slice none 0 0] 26)).cell? ⟨w.heap.size + 1, 0, none⟩ = some (Value.string t.schema) := (blk_cell HX0.out.2.2.1 0).trans rfl
    have f_p0 := blk_frozen HX0.out.2.2.1 0
    have c_p1 : (((w.alloc (.cells #[Value.slice As ss.length cs, Value.slice At ts.length ct] 26)).alloc (.cells #[Value.string t.schema, Value.string t.name, Value.string t.owner, Value.slice A3 t.cols.length c3, Value.slice A4 t.rules.length c4] 35)).alloc (.cells #[Value.slice none 0 0, Value.slice none 0 0] 26)).cell? ⟨w.heap.size + 1, 1, none⟩ = some (Value.string t.name) := (blk_cell HX0.out.2.2.1 1).trans rfl
    have f_p1 := blk_frozen HX0.out.2.2.1 1
    have c_p2 : (((w.alloc (.cells #[Value.slice As ss.length cs, Value.slice At ts.length ct] 26)).alloc (.cells #[Value.string t.schema, Value.string t.name, Value.string t.owner, Value.slice A3 t.cols.length c3, Value.slice A4 t.rules.length c4] 35)).alloc (.cells #[Value.slice none 0 0, Value.slice none 0 0] 26)).cell? ⟨w.heap.size + 1, 2, none⟩ = some (Value.string t.owner) := (blk_cell HX0.out.2.2.1 2).trans rfl
    have f_p2 := blk_frozen HX0.out.2.2.1 2
    have c_p3 : (((w.alloc (.cells #[Value.slice As ss.length cs, Value.slice At ts.length ct] 26)).alloc (.cells #[Value.string t.schema, Value.string t.name, Value.string t.owner, Value.slice A3 t.cols.length c3, Value.slice A4 t.rules.length c4] 35)).alloc (.cells #[Value.slice none 0 0, Value.slice none 0 0] 26)).cell? ⟨w.heap.size + 1, 3, none⟩ = some (Value.slice A3 t.cols.length c3) := (blk_cell HX0.out.2.2.1 3).trans rfl
    have f_p3 := blk_frozen HX0.out.2.2.1 3
    have c_p4 : (((w.alloc (.cells #[Value.slice As ss.length cs, Value.slice At ts.length ct] 26)).alloc (.cells #[Value.string t.schema, Value.string t.name, Value.string t.owner, Value.slice A3 t.cols.length c3, Value.slice A4 t.rules.length c4] 35)).alloc (.cells #[Value.slice none 0 0, Value.slice none 0 0] 26)).cell? ⟨w.heap.size + 1, 4, none⟩ = some (Value.slice A4 t.rules.length c4) := (blk_cell HX0.out.2.2.1 4).trans rfl
    have f_p4 := blk_frozen HX0.out.2.2.1 4
    have c_z0 : (((w.alloc (.cells #[Value.slice As ss.length cs, Value.slice At ts.length ct] 26)).alloc (.cells #[Value.string t.schema, Value.string t.name, Value.string t.owner, Value.slice A3 t.cols.length c3, Value.slice A4 t.rules.length c4] 35)).alloc (.cells #[Value.slice none 0 0, Value.slice none 0 0] 26)).cell? ⟨w.heap.size + 1 + 1, 0, none⟩ = some (Value.slice none 0 0) := (blk_cell HX0.out.2.2.2 0).trans rfl
    have f_z0 := blk_frozen HX0.out.2.2.2 0
    have c_z1 : (((w.alloc (.cells #[Value.slice As ss.length cs, Value.slice At ts.length ct] 26)).alloc (.cells #[Value.string t.schema, Value.string t.name, Value.string t.owner, Value.slice A3 t.cols.length c3, Value.slice A4 t.rules.length c4] 35)).alloc (.cells #[Value.slice none 0 0, Value.slice none 0 0] 26)).cell? ⟨w.heap.size + 1 + 1, 1, none⟩ = some (Value.slice none 0 0) := (blk_cell HX0.out.2.2.2 1).trans rfl
    have f_z1 := blk_frozen HX0.out.2.2.2 1
    go_wp2_with fail
    clear c_o0 f_o0 c_o1 f_o1 c_p0 f_p0 c_p1 f_p1 c_p2 f_p2 c_p3 f_p3 c_p4 f_p4 c_z0 f_z0 c_z1 f_z1
    refine (HCK.out _ HX0.out.1).mono ?_
    rintro e w1 ⟨rfl, hb1⟩
    have HB1 := Aside0.mk (below_step (HX0.out.1) hb1)
    have HK1 := Aside0.mk (blk_below (HX0.out.2.1) hb1)
    have HK2 := Aside0.mk (blk_below (HX0.out.2.2.1) hb1)
    have HK3 := Aside0.mk (blk_below (HX0.out.2.2.2) hb1)
    have HS1 := Aside0.mk hb1
    clear hb1
    have c_o0 : w1.cell? ⟨w.heap.size, 0, none⟩ = some (Value.slice As ss.length cs) := (blk_cell HK1.out 0).trans rfl
    have f_o0 := blk_frozen HK1.out 0
    have c_o1 : w1.cell? ⟨w.heap.size, 1, none⟩ = some (Value.slice At ts.length ct) := (blk_cell HK1.out 1).trans rfl
    have f_o1 := blk_frozen HK1.out 1
    have c_p0 : w1.cell? ⟨w.heap.size + 1, 0, none⟩ = some (Value.string t.schema) := (blk_cell HK2.out 0).trans rfl
    have f_p0 := blk_frozen HK2.out 0
    have c_p1 : w1.cell? ⟨w.heap.size + 1, 1, none⟩ = some (Value.string t.name) := (blk_cell HK2.out 1).trans rfl
    have f_p1 := blk_frozen HK2.out 1
    have c_p2 : w1.cell? ⟨w.heap.size + 1, 2, none⟩ = some (Value.string t.owner) := (blk_cell HK2.out 2).trans rfl
    have f_p2 := blk_frozen HK2.out 2
    have c_p3 : w1.cell? ⟨w.heap.size + 1, 3, none⟩ = some (Value.slice A3 t.cols.length c3) := (blk_cell HK2.out 3).trans rfl
    have f_p3 := blk_frozen HK2.out 3
    have c_p4 : w1.cell? ⟨w.heap.size + 1, 4, none⟩ = some (Value.slice A4 t.rules.length c4) := (blk_cell HK2.out 4).trans rfl
    have f_p4 := blk_frozen HK2.out 4
    have c_z0 : w1.cell? ⟨w.heap.size + 1 + 1, 0, none⟩ = some (Value.slice none 0 0) := (blk_cell HK3.out 0).trans rfl
    have f_z0 := blk_frozen HK3.out 0
    have c_z1 : w1.cell? ⟨w.heap.size + 1 + 1, 1, none⟩ = some (Value.slice none 0 0) := (blk_cell HK3.out 1).trans rfl
    have f_z1 := blk_frozen HK3.out 1
    go_wp2_with fail
    clear c_o0 f_o0 c_o1 f_o1 c_p0 f_p0 c_p1 f_p1 c_p2 f_p2 c_p3 f_p3 c_p4 f_p4 c_z0 f_z0 c_z1 f_z1
    refine (HN1.out _).mono ?_
    rintro e w_ ⟨rfl, rfl⟩
    have c_o0 : w1.cell? ⟨w.heap.size, 0, none⟩ = some (Value.slice As ss.length cs) := (blk_cell HK1.out 0).trans rfl
    have f_o0 := blk_frozen HK1.out 0
    have c_o1 : w1.cell? ⟨w.heap.size, 1, none⟩ = some (Value.slice At ts.length ct) := (blk_cell HK1.out 1).trans rfl
    have f_o1 := blk_frozen HK1.out 1
    have c_p0 : w1.cell? ⟨w.heap.size + 1, 0, none⟩ = some (Value.string t.schema) := (blk_cell HK2.out 0).trans rfl
    have f_p0 := blk_frozen HK2.out 0
    have c_p1 : w1.cell? ⟨w.heap.size + 1, 1, none⟩ = some (Value.string t.name) := (blk_cell HK2.out 1).trans rfl
    have f_p1 := blk_frozen HK2.out 1
    have c_p2 : w1.cell? ⟨w.heap.size + 1, 2, none⟩ = some (Value.string t.owner) := (blk_cell HK2.out 2).trans rfl
    have f_p2 := blk_frozen HK2.out 2
    have c_p3 : w1.cell? ⟨w.heap.size + 1, 3, none⟩ = some (Value.slice A3 t.cols.length c3) := (blk_cell HK2.out 3).trans rfl
    have f_p3 := blk_frozen HK2.out 3
    have c_p4 : w1.cell? ⟨w.heap.size + 1, 4, none⟩ = some (Value.slice A4 t.rules.length c4) := (blk_cell HK2.out 4).trans rfl
    have f_p4 := blk_frozen HK2.out 4
    have c_z0 : w1.cell? ⟨w.heap.size + 1 + 1, 0, none⟩ = some (Value.slice none 0 0) := (blk_cell HK3.out 0).trans rfl
    have f_z0 := blk_frozen HK3.out 0
    have c_z1 : w1.cell? ⟨w.heap.size + 1 + 1, 1, none⟩ = some (Value.slice none 0 0) := (blk_cell HK3.out 1).trans rfl
    have f_z1 := blk_frozen HK3.out 1
    go_wp2_with fail
    clear c_o0 f_o0 c_o1 f_o1 c_p0 f_p0 c_p1 f_p1 c_p2 f_p2 c_p3 f_p3 c_p4 f_p4 c_z0 f_z0 c_z1 f_z1
    refine (HNO.out _ _).mono ?_
    rintro e w2 ⟨rfl, hb2⟩
    have HB2 := Aside0.mk (below_step (HB1.out) hb2)
    have HK4 := Aside0.mk (blk_below (HK1.out) hb2)
    have HK5 := Aside0.mk (blk_below (HK2.out) hb2)
    have HK6 := Aside0.mk (blk_below (HK3.out) hb2)
    have HS2 := Aside0.mk hb2
    clear hb2
    have c_o0 : w2.cell? ⟨w.heap.size, 0, none⟩ = some (Value.slice As ss.length cs) := (blk_cell HK4.out 0).trans rfl
    have f_o0 := blk_frozen HK4.out 0
    have c_o1 : w2.cell? ⟨w.heap.size, 1, none⟩ = some (Value.slice At ts.length ct) := (blk_cell HK4.out 1).trans rfl
    have f_o1 := blk_frozen HK4.out 1
    have c_p0 : w2.cell? ⟨w.heap.size + 1, 0, none⟩ = some (Value.string t.schema) := (blk_cell HK5.out 0).trans rfl
    have f_p0 := blk_frozen HK5.out 0
    have c_p1 : w2.cell? ⟨w.heap.size + 1, 1, none⟩ = some (Value.string t.name) := (blk_cell HK5.out 1).trans rfl
    have f_p1 := blk_frozen HK5.out 1
    have c_p2 : w2.cell? ⟨w.heap.size + 1, 2, none⟩ = some (Value.string t.owner) := (blk_cell HK5.out 2).trans rfl
    have f_p2 := blk_frozen HK5.out 2
    have c_p3 : w2.cell? ⟨w.heap.size + 1, 3, none⟩ = some (Value.slice A3 t.cols.length c3) := (blk_cell HK5.out 3).trans rfl
    have f_p3 := blk_frozen HK5.out 3
    have c_p4 : w2.cell? ⟨w.heap.size + 1, 4, none⟩ = some (Value.slice A4 t.rules.length c4) := (blk_cell HK5.out 4).trans rfl
    have f_p4 := blk_frozen HK5.out 4
    have c_z0 : w2.cell? ⟨w.heap.size + 1 + 1, 0, none⟩ = some (Value.slice none 0 0) := (blk_cell HK6.out 0).trans rfl
    have f_z0 := blk_frozen HK6.out 0
    have c_z1 : w2.cell? ⟨w.heap.size + 1 + 1, 1, none⟩ = some (Value.slice none 0 0) := (blk_cell HK6.out 1).trans rfl
    have f_z1 := blk_frozen HK6.out 1
    go_wp2
    refine bodyPost_ret (v := .tuple #[.agg #[.slice none 0 0, .slice none 0 0], .int .i64 1]) (by simp [results, Try.results34, go_sem, *]) rfl ?_
    exact zeroOut (g := w.heap.size + 1 + 1) (n := 1) HB2.out (by omega)
  | true =>
  rw [h1] at HN1
  cases h2 : nameB t.owner with
  | false =>
    rw [chgT_at (n := 1) HK.out (by unfold addTabR; rw [h1, h2]; rfl)]
    rw [h2] at HN2
    clear h1 h2 HOW HSC HTB HTC HCO HCP HK
    go_enter Try.func34, Try.ntmps34
    have c_o0 : (((w.alloc (.cells #[Value.slice As ss.length cs, Value.slice At ts.length ct] 26)).alloc (.cells #[Value.string t.schema, Value.string t.name, Value.string t.owner, Value.slice A3 t.cols.length c3, Value.slice A4 t.rules.length c4] 35)).alloc (.cells #[Value.slice none 0 0, Value.slice none 0 0] 26)).cell? ⟨w.heap.size, 0, none⟩ = some (Value.slice As ss.length cs) := (blk_cell HX0.out.2.1 0).trans rfl
    have f_o0 := blk_frozen HX0.out.2.1 0
    have c_o1 : (((w.alloc (.cells #[Value.slice As ss.length cs, Value.slice At ts.length ct] 26)).alloc (.cells #[Value.string t.schema, Value.string t.name, Value.string t.owner, Value.slice A3 t.cols.length c3, Value.slice A4 t.rules.length c4] 35)).alloc (.cells #[Value.slice none 0 0, Value.slice none 0 0] 26)).cell? ⟨w.heap.size, 1, none⟩ = some (Value.slice At ts.length ct) := (blk_cell HX0.out.2.1 1).trans rfl
    have f_o1 := blk_frozen HX0.out.2.1 1
    have c_p0 : (((w.alloc (.cells #[Value.slice As ss.length cs, Value.slice At ts.length ct] 26)).alloc (.cells #[Value.string t.schema, Value.string t.name, Value.string t.owner, Value.slice A3 t.cols.length c3, Value.slice A4 t.rules.length c4] 35)).alloc (.cells #[Value.slice none 0 0, Value.slice none 0 0] 26)).cell? ⟨w.heap.size + 1, 0, none⟩ = some (Value.string t.schema) := (blk_cell HX0.out.2.2.1 0).trans rfl
    have f_p0 := blk_frozen HX0.out.2.2.1 0
    have c_p1 : (((w.alloc (.cells #[Value.slice As ss.length cs, Value.slice At ts.length ct] 26)).alloc (.cells #[Value.string t.schema, Value.string t.name, Value.string t.owner, Value.slice A3 t.cols.length c3, Value.slice A4 t.rules.length c4] 35)).alloc (.cells #[Value.slice none 0 0, Value.slice none 0 0] 26)).cell? ⟨w.heap.size + 1, 1, none⟩ = some (Value.string t.name) := (blk_cell HX0.out.2.2.1 1).trans rfl
    have f_p1 := blk_frozen HX0.out.2.2.1 1
    have c_p2 : (((w.alloc (.cells #[Value.slice As ss.length cs, Value.slice At ts.length ct] 26)).alloc (.cells #[Value.string t.schema, Value.string t.name, Value.string t.owner, Value.slice A3 t.cols.length c3, Value.slice A4 t.rules.length c4] 35)).alloc (.cells #[Value.slice none 0 0, Value.slice none 0 0] 26)).cell? ⟨w.heap.size + 1, 2, none⟩ = some (Value.string t.owner) := (blk_cell HX0.out.2.2.1 2).trans rfl
    have f_p2 := blk_frozen HX0.out.2.2.1 2
    have c_p3 : (((w.alloc (.cells #[Value.slice As ss.length cs, Value.slice At ts.length ct] 26)).alloc (.cells #[Value.string t.schema, Value.string t.name, Value.string t.owner, Value.slice A3 t.cols.length c3, Value.slice A4 t.rules.length c4] 35)).alloc (.cells #[Value.slice none 0 0, Value.slice none 0 0] 26)).cell? ⟨w.heap.size + 1, 3, none⟩ = some (Value.slice A3 t.cols.length c3) := (blk_cell HX0.out.2.2.1 3).trans rfl
    have f_p3 := blk_frozen HX0.out.2.2.1 3
    have c_p4 : (((w.alloc (.cells #[Value.slice As ss.length cs, Value.slice At ts.length ct] 26)).alloc (.cells #[Value.string t.schema, Value.string t.name, Value.string t.owner, Value.slice A3 t.cols.length c3, Value.slice A4 t.rules.length c4] 35)).alloc (.cells #[Value.slice none 0 0, Value.slice none 0 0] 26)).cell? ⟨w.heap.size + 1, 4, none⟩ = some (Value.slice A4 t.rules.length c4) := (blk_cell HX0.out.2.2.1 4).trans rfl
    have f_p4 := blk_frozen HX0.out.2.2.1 4
    have c_z0 : (((w.alloc (.cells #[Value.slice As ss.length cs, Value.slice At ts.length ct] 26)).alloc (.cells #[Value.string t.schema, Value.string t.name, Value.string t.owner, Value.slice A3 t.cols.length c3, Value.slice A4 t.rules.length c4] 35)).alloc (.cells #[Value.slice none 0 0, Value.slice none 0 0] 26)).cell? ⟨w.heap.size + 1 + 1, 0, none⟩ = some (Value.slice none 0 0) := (blk_cell HX0.out.2.2.2 0).trans rfl
    have f_z0 := blk_frozen HX0.out.2.2.2 0
    have c_z1 : (((w.alloc (.cells #[Value.slice As ss.length cs, Value.slice At ts.length ct] 26)).alloc (.cells #[Value.string t.schema, Value.string t.name, Value.string t.owner, Value.slice A3 t.cols.length c3, Value.slice A4 t.rules.length c4] 35)).alloc (.cells #[Value.slice none 0 0, Value.slice none 0 0] 26)).cell? ⟨w.heap.size + 1 + 1, 1, none⟩ = some (Value.slice none 0 0) := (blk_cell HX0.out.2.2.2 1).trans rfl
    have f_z1 := blk_frozen HX0.out.2.2.2 1
    go_wp2_with fail
    clear c_o0 f_o0 c_o1 f_o1 c_p0 f_p0 c_p1 f_p1 c_p2 f_p2 c_p3 f_p3 c_p4 f_p4 c_z0 f_z0 c_z1 f_z1
    refine (HCK.out _ HX0.out.1).mono ?_
    rintro e w1 ⟨rfl, hb1⟩
    have HB1 := Aside0.mk (below_step (HX0.out.1) hb1)
    have HK1 := Aside0.mk (blk_below (HX0.out.2.1) hb1)
    have HK2 := Aside0.mk (blk_below (HX0.out.2.2.1) hb1)
    have HK3 := Aside0.mk (blk_below (HX0.out.2.2.2) hb1)
    have HS1 := Aside0.mk hb1
    clear hb1
    have c_o0 : w1.cell? ⟨w.heap.size, 0, none⟩ = some (Value.slice As ss.length cs) := (blk_cell HK1.out 0).trans rfl
    have f_o0 := blk_frozen HK1.out 0
    have c_o1 : w1.cell? ⟨w.heap.size, 1, none⟩ = some (Value.slice At ts.length ct) := (blk_cell HK1.out 1).trans rfl
    have f_o1 := blk_frozen HK1.out 1
    have c_p0 : w1.cell? ⟨w.heap.size + 1, 0, none⟩ = some (Value.string t.schema) := (blk_cell HK2.out 0).trans rfl
    have f_p0 := blk_frozen HK2.out 0
    have c_p1 : w1.cell? ⟨w.heap.size + 1, 1, none⟩ = some (Value.string t.name) := (blk_cell HK2.out 1).trans rfl
    have f_p1 := blk_frozen HK2.out 1
    have c_p2 : w1.cell? ⟨w.heap.size + 1, 2, none⟩ = some (Value.string t.owner) := (blk_cell HK2.out 2).trans rfl
    have f_p2 := blk_frozen HK2.out 2
    have c_p3 : w1.cell? ⟨w.heap.size + 1, 3, none⟩ = some (Value.slice A3 t.cols.length c3) := (blk_cell HK2.out 3).trans rfl
    have f_p3 := blk_frozen HK2.out 3
    have c_p4 : w1.cell? ⟨w.heap.size + 1, 4, none⟩ = some (Value.slice A4 t.rules.length c4) := (blk_cell HK2.out 4).trans rfl
    have f_p4 := blk_frozen HK2.out 4
    have c_z0 : w1.cell? ⟨w.heap.size + 1 + 1, 0, none⟩ = some (Value.slice none 0 0) := (blk_cell HK3.out 0).trans rfl
    have f_z0 := blk_frozen HK3.out 0
    have c_z1 : w1.cell? ⟨w.heap.size + 1 + 1, 1, none⟩ = some (Value.slice none 0 0) := (blk_cell HK3.out 1).trans rfl
    have f_z1 := blk_frozen HK3.out 1
    go_wp2_with fail
    clear c_o0 f_o0 c_o1 f_o1 c_p0 f_p0 c_p1 f_p1 c_p2 f_p2 c_p3 f_p3 c_p4 f_p4 c_z0 f_z0 c_z1 f_z1
    refine (HN1.out _).mono ?_
    rintro e w_ ⟨rfl, rfl⟩
    have c_o0 : w1.cell? ⟨w.heap.size, 0, none⟩ = some (Value.slice As ss.length cs) := (blk_cell HK1.out 0).trans rfl
    have f_o0 := blk_frozen HK1.out 0
    have c_o1 : w1.cell? ⟨w.heap.size, 1, none⟩ = some (Value.slice At ts.length ct) := (blk_cell HK1.out 1).trans rfl
    have f_o1 := blk_frozen HK1.out 1
    have c_p0 : w1.cell? ⟨w.heap.size + 1, 0, none⟩ = some (Value.string t.schema) := (blk_cell HK2.out 0).trans rfl
    have f_p0 := blk_frozen HK2.out 0
    have c_p1 : w1.cell? ⟨w.heap.size + 1, 1, none⟩ = some (Value.string t.name) := (blk_cell HK2.out 1).trans rfl
    have f_p1 := blk_frozen HK2.out 1
    have c_p2 : w1.cell? ⟨w.heap.size + 1, 2, none⟩ = some (Value.string t.owner) := (blk_cell HK2.out 2).trans rfl
    have f_p2 := blk_frozen HK2.out 2
    have c_p3 : w1.cell? ⟨w.heap.size + 1, 3, none⟩ = some (Value.slice A3 t.cols.length c3) := (blk_cell HK2.out 3).trans rfl
    have f_p3 := blk_frozen HK2.out 3
    have c_p4 : w1.cell? ⟨w.heap.size + 1, 4, none⟩ = some (Value.slice A4 t.rules.length c4) := (blk_cell HK2.out 4).trans rfl
    have f_p4 := blk_frozen HK2.out 4
    have c_z0 : w1.cell? ⟨w.heap.size + 1 + 1, 0, none⟩ = some (Value.slice none 0 0) := (blk_cell HK3.out 0).trans rfl
    have f_z0 := blk_frozen HK3.out 0
    have c_z1 : w1.cell? ⟨w.heap.size + 1 + 1, 1, none⟩ = some (Value.slice none 0 0) := (blk_cell HK3.out 1).trans rfl
    have f_z1 := blk_frozen HK3.out 1
    go_wp2_with fail
    clear c_o0 f_o0 c_o1 f_o1 c_p0 f_p0 c_p1 f_p1 c_p2 f_p2 c_p3 f_p3 c_p4 f_p4 c_z0 f_z0 c_z1 f_z1
    refine (HN2.out _).mono ?_
    rintro e w_ ⟨rfl, rfl⟩
    have c_o0 : w1.cell? ⟨w.heap.size, 0, none⟩ = some (Value.slice As ss.length cs) := (blk_cell HK1.out 0).trans rfl
    have f_o0 := blk_frozen HK1.out 0
    have c_o1 : w1.cell? ⟨w.heap.size, 1, none⟩ = some (Value.slice At ts.length ct) := (blk_cell HK1.out 1).trans rfl
    have f_o1 := blk_frozen HK1.out 1
    have c_p0 : w1.cell? ⟨w.heap.size + 1, 0, none⟩ = some (Value.string t.schema) := (blk_cell HK2.out 0).trans rfl
    have f_p0 := blk_frozen HK2.out 0
    have c_p1 : w1.cell? ⟨w.heap.size + 1, 1, none⟩ = some (Value.string t.name) := (blk_cell HK2.out 1).trans rfl
    have f_p1 := blk_frozen HK2.out 1
    have c_p2 : w1.cell? ⟨w.heap.size + 1, 2, none⟩ = some (Value.string t.owner) := (blk_cell HK2.out 2).trans rfl
    have f_p2 := blk_frozen HK2.out 2
    have c_p3 : w1.cell? ⟨w.heap.size + 1, 3, none⟩ = some (Value.slice A3 t.cols.length c3) := (blk_cell HK2.out 3).trans rfl
    have f_p3 := blk_frozen HK2.out 3
    have c_p4 : w1.cell? ⟨w.heap.size + 1, 4, none⟩ = some (Value.slice A4 t.rules.length c4) := (blk_cell HK2.out 4).trans rfl
    have f_p4 := blk_frozen HK2.out 4
    have c_z0 : w1.cell? ⟨w.heap.size + 1 + 1, 0, none⟩ = some (Value.slice none 0 0) := (blk_cell HK3.out 0).trans rfl
    have f_z0 := blk_frozen HK3.out 0
    have c_z1 : w1.cell? ⟨w.heap.size + 1 + 1, 1, none⟩ = some (Value.slice none 0 0) := (blk_cell HK3.out 1).trans rfl
    have f_z1 := blk_frozen HK3.out 1
    go_wp2_with fail
    clear c_o0 f_o0 c_o1 f_o1 c_p0 f_p0 c_p1 f_p1 c_p2 f_p2 c_p3 f_p3 c_p4 f_p4 c_z0 f_z0 c_z1 f_z1
    refine (HNO.out _ _).mono ?_
    rintro e w2 ⟨rfl, hb2⟩
    have HB2 := Aside0.mk (below_step (HB1.out) hb2)
    have HK4 := Aside0.mk (blk_below (HK1.out) hb2)
    have HK5 := Aside0.mk (blk_below (HK2.out) hb2)
    have HK6 := Aside0.mk (blk_below (HK3.out) hb2)
    have HS2 := Aside0.mk hb2
    clear hb2
    have c_o0 : w2.cell? ⟨w.heap.size, 0, none⟩ = some (Value.slice As ss.length cs) := (blk_cell HK4.out 0).trans rfl
    have f_o0 := blk_frozen HK4.out 0
    have c_o1 : w2.cell? ⟨w.heap.size, 1, none⟩ = some (Value.slice At ts.length ct) := (blk_cell HK4.out 1).trans rfl
    have f_o1 := blk_frozen HK4.out 1
    have c_p0 : w2.cell? ⟨w.heap.size + 1, 0, none⟩ = some (Value.string t.schema) := (blk_cell HK5.out 0).trans rfl
    have f_p0 := blk_frozen HK5.out 0
    have c_p1 : w2.cell? ⟨w.heap.size + 1, 1, none⟩ = some (Value.string t.name) := (blk_cell HK5.out 1).trans rfl
    have f_p1 := blk_frozen HK5.out 1
    have c_p2 : w2.cell? ⟨w.heap.size + 1, 2, none⟩ = some (Value.string t.owner) := (blk_cell HK5.out 2).trans rfl
    have f_p2 := blk_frozen HK5.out 2
    have c_p3 : w2.cell? ⟨w.heap.size + 1, 3, none⟩ = some (Value.slice A3 t.cols.length c3) := (blk_cell HK5.out 3).trans rfl
    have f_p3 := blk_frozen HK5.out 3
    have c_p4 : w2.cell? ⟨w.heap.size + 1, 4, none⟩ = some (Value.slice A4 t.rules.length c4) := (blk_cell HK5.out 4).trans rfl
    have f_p4 := blk_frozen HK5.out 4
    have c_z0 : w2.cell? ⟨w.heap.size + 1 + 1, 0, none⟩ = some (Value.slice none 0 0) := (blk_cell HK6.out 0).trans rfl
    have f_z0 := blk_frozen HK6.out 0
    have c_z1 : w2.cell? ⟨w.heap.size + 1 + 1, 1, none⟩ = some (Value.slice none 0 0) := (blk_cell HK6.out 1).trans rfl
    have f_z1 := blk_frozen HK6.out 1
    go_wp2
    refine bodyPost_ret (v := .tuple #[.agg #[.slice none 0 0, .slice none 0 0], .int .i64 1]) (by simp [results, Try.results34, go_sem, *]) rfl ?_
    exact zeroOut (g := w.heap.size + 1 + 1) (n := 1) HB2.out (by omega)
  | true =>
  have HE0 := Aside0.mk (show addTabR ss ts t = (if 0 ≤ idx (ofSch t.schema) ss then (if 0 ≤ idx (isT t.schema t.name) ts then (60, [], []) else if 8 ≤ cnt (ofS t.schema) ts then (2, [], []) else if (mayCols t.cols && decide (t.rules.length = 0)) = true then (0, ss, ins (ltOf orderT) t ts) else (63, [], [])) else (61, [], [])) by unfold addTabR; rw [h1, h2]; rfl)
  rw [h2] at HN2
  clear h1 h2
  rcases idx_cases (ofSch t.schema) ss with ⟨m, hm, hi, y1, y2⟩ | ⟨hi, y1⟩
  rotate_left
  · rw [chgT_at (n := 61) HK.out (by rw [HE0.out, hi, if_neg (by omega)])]
    rw [show idx (fun x : Sch => x.name.toList == t.schema.toList) ss = -1 from hi] at HSC
    have hd : decide ((-1 : Int) < 0) = true := rfl
    clear hi y1 HE0 HOW HTB HTC HCO HCP HK
    go_enter Try.func34, Try.ntmps34
    have c_o0 : (((w.alloc (.cells #[Value.slice As ss.length cs, Value.slice At ts.length ct] 26)).alloc (.cells #[Value.string t.schema, Value.string t.name, Value.string t.owner, Value.slice A3 t.cols.length c3, Value.slice A4 t.rules.length c4] 35)).alloc (.cells #[Value.slice none 0 0, Value.slice none 0 0] 26)).cell? ⟨w.heap.size, 0, none⟩ = some (Value.slice As ss.length cs) := (blk_cell HX0.out.2.1 0).trans rfl
    have f_o0 := blk_frozen HX0.out.2.1 0
    have c_o1 : (((w.alloc (.cells #[Value.slice As ss.length cs, Value.slice At ts.length ct] 26)).alloc (.cells #[Value.string t.schema, Value.string t.name, Value.string t.owner, Value.slice A3 t.cols.length c3, Value.slice A4 t.rules.length c4] 35)).alloc (.cells #[Value.slice none 0 0, Value.slice none 0 0] 26)).cell? ⟨w.heap.size, 1, none⟩ = some (Value.slice At ts.length ct) := (blk_cell HX0.out.2.1 1).trans rfl
    have f_o1 := blk_frozen HX0.out.2.1 1
    have c_p0 : (((w.alloc (.cells #[Value.slice As ss.length cs, Value.slice At ts.length ct] 26)).alloc (.cells #[Value.string t.schema, Value.string t.name, Value.string t.owner, Value.slice A3 t.cols.length c3, Value.slice A4 t.rules.length c4] 35)).alloc (.cells #[Value.slice none 0 0, Value.slice none 0 0] 26)).cell? ⟨w.heap.size + 1, 0, none⟩ = some (Value.string t.schema) := (blk_cell HX0.out.2.2.1 0).trans rfl
    have f_p0 := blk_frozen HX0.out.2.2.1 0
    have c_p1 : (((w.alloc (.cells #[Value.slice As ss.length cs, Value.slice At ts.length ct] 26)).alloc (.cells #[Value.string t.schema, Value.string t.name, Value.string t.owner, Value.slice A3 t.cols.length c3, Value.slice A4 t.rules.length c4] 35)).alloc (.cells #[Value.slice none 0 0, Value.slice none 0 0] 26)).cell? ⟨w.heap.size + 1, 1, none⟩ = some (Value.string t.name) := (blk_cell HX0.out.2.2.1 1).trans rfl
    have f_p1 := blk_frozen HX0.out.2.2.1 1
    have c_p2 : (((w.alloc (.cells #[Value.slice As ss.length cs, Value.slice At ts.length ct] 26)).alloc (.cells #[Value.string t.schema, Value.string t.name, Value.string t.owner, Value.slice A3 t.cols.length c3, Value.slice A4 t.rules.length c4] 35)).alloc (.cells #[Value.slice none 0 0, Value.slice none 0 0] 26)).cell? ⟨w.heap.size + 1, 2, none⟩ = some (Value.string t.owner) := (blk_cell HX0.out.2.2.1 2).trans rfl
    have f_p2 := blk_frozen HX0.out.2.2.1 2
    have c_p3 : (((w.alloc (.cells #[Value.slice As ss.length cs, Value.slice At ts.length ct] 26)).alloc (.cells #[Value.string t.schema, Value.string t.name, Value.string t.owner, Value.slice A3 t.cols.length c3, Value.slice A4 t.rules.length c4] 35)).alloc (.cells #[Value.slice none 0 0, Value.slice none 0 0] 26)).cell? ⟨w.heap.size + 1, 3, none⟩ = some (Value.slice A3 t.cols.length c3) := (blk_cell HX0.out.2.2.1 3).trans rfl
    have f_p3 := blk_frozen HX0.out.2.2.1 3
    have c_p4 : (((w.alloc (.cells #[Value.slice As ss.length cs, Value.slice At ts.length ct] 26)).alloc (.cells #[Value.string t.schema, Value.string t.name, Value.string t.owner, Value.slice A3 t.cols.length c3, Value.slice A4 t.rules.length c4] 35)).alloc (.cells #[Value.slice none 0 0, Value.slice none 0 0] 26)).cell? ⟨w.heap.size + 1, 4, none⟩ = some (Value.slice A4 t.rules.length c4) := (blk_cell HX0.out.2.2.1 4).trans rfl
    have f_p4 := blk_frozen HX0.out.2.2.1 4
    have c_z0 : (((w.alloc (.cells #[Value.slice As ss.length cs, Value.slice At ts.length ct] 26)).alloc (.cells #[Value.string t.schema, Value.string t.name, Value.string t.owner, Value.slice A3 t.cols.length c3, Value.slice A4 t.rules.length c4] 35)).alloc (.cells #[Value.slice none 0 0, Value.slice none 0 0] 26)).cell? ⟨w.heap.size + 1 + 1, 0, none⟩ = some (Value.slice none 0 0) := (blk_cell HX0.out.2.2.2 0).trans rfl
    have f_z0 := blk_frozen HX0.out.2.2.2 0
    have c_z1 : (((w.alloc (.cells #[Value.slice As ss.length cs, Value.slice At ts.length ct] 26)).alloc (.cells #[Value.string t.schema, Value.string t.name, Value.string t.owner, Value.slice A3 t.cols.length c3, Value.slice A4 t.rules.length c4] 35)).alloc (.cells #[Value.slice none 0 0, Value.slice none 0 0] 26)).cell? ⟨w.heap.size + 1 + 1, 1, none⟩ = some (Value.slice none 0 0) := (blk_cell HX0.out.2.2.2 1).trans rfl
    have f_z1 := blk_frozen HX0.out.2.2.2 1
    go_wp2_with fail
    clear c_o0 f_o0 c_o1 f_o1 c_p0 f_p0 c_p1 f_p1 c_p2 f_p2 c_p3 f_p3 c_p4 f_p4 c_z0 f_z0 c_z1 f_z1
    refine (HCK.out _ HX0.out.1).mono ?_
    rintro e w1 ⟨rfl, hb1⟩
    have HB1 := Aside0.mk (below_step (HX0.out.1) hb1)
    have HK1 := Aside0.mk (blk_below (HX0.out.2.1) hb1)
    have HK2 := Aside0.mk (blk_below (HX0.out.2.2.1) hb1)
    have HK3 := Aside0.mk (blk_below (HX0.out.2.2.2) hb1)
    have HS1 := Aside0.mk hb1
    clear hb1
    have c_o0 : w1.cell? ⟨w.heap.size, 0, none⟩ = some (Value.slice As ss.length cs) := (blk_cell HK1.out 0).trans rfl
    have f_o0 := blk_frozen HK1.out 0
    have c_o1 : w1.cell? ⟨w.heap.size, 1, none⟩ = some (Value.slice At ts.length ct) := (blk_cell HK1.out 1).trans rfl
    have f_o1 := blk_frozen HK1.out 1
    have c_p0 : w1.cell? ⟨w.heap.size + 1, 0, none⟩ = some (Value.string t.schema) := (blk_cell HK2.out 0).trans rfl
    have f_p0 := blk_frozen HK2.out 0
    have c_p1 : w1.cell? ⟨w.heap.size + 1, 1, none⟩ = some (Value.string t.name) := (blk_cell HK2.out 1).trans rfl
    have f_p1 := blk_frozen HK2.out 1
    have c_p2 : w1.cell? ⟨w.heap.size + 1, 2, none⟩ = some (Value.string t.owner) := (blk_cell HK2.out 2).trans rfl
    have f_p2 := blk_frozen HK2.out 2
    have c_p3 : w1.cell? ⟨w.heap.size + 1, 3, none⟩ = some (Value.slice A3 t.cols.length c3) := (blk_cell HK2.out 3).trans rfl
    have f_p3 := blk_frozen HK2.out 3
    have c_p4 : w1.cell? ⟨w.heap.size + 1, 4, none⟩ = some (Value.slice A4 t.rules.length c4) := (blk_cell HK2.out 4).trans rfl
    have f_p4 := blk_frozen HK2.out 4
    have c_z0 : w1.cell? ⟨w.heap.size + 1 + 1, 0, none⟩ = some (Value.slice none 0 0) := (blk_cell HK3.out 0).trans rfl
    have f_z0 := blk_frozen HK3.out 0
    have c_z1 : w1.cell? ⟨w.heap.size + 1 + 1, 1, none⟩ = some (Value.slice none 0 0) := (blk_cell HK3.out 1).trans rfl
    have f_z1 := blk_frozen HK3.out 1
    go_wp2_with fail
    clear c_o0 f_o0 c_o1 f_o1 c_p0 f_p0 c_p1 f_p1 c_p2 f_p2 c_p3 f_p3 c_p4 f_p4 c_z0 f_z0 c_z1 f_z1
    refine (HN1.out _).mono ?_
    rintro e w_ ⟨rfl, rfl⟩
    have c_o0 : w1.cell? ⟨w.heap.size, 0, none⟩ = some (Value.slice As ss.length cs) := (blk_cell HK1.out 0).trans rfl
    have f_o0 := blk_frozen HK1.out 0
    have c_o1 : w1.cell? ⟨w.heap.size, 1, none⟩ = some (Value.slice At ts.length ct) := (blk_cell HK1.out 1).trans rfl
    have f_o1 := blk_frozen HK1.out 1
    have c_p0 : w1.cell? ⟨w.heap.size + 1, 0, none⟩ = some (Value.string t.schema) := (blk_cell HK2.out 0).trans rfl
    have f_p0 := blk_frozen HK2.out 0
    have c_p1 : w1.cell? ⟨w.heap.size + 1, 1, none⟩ = some (Value.string t.name) := (blk_cell HK2.out 1).trans rfl
    have f_p1 := blk_frozen HK2.out 1
    have c_p2 : w1.cell? ⟨w.heap.size + 1, 2, none⟩ = some (Value.string t.owner) := (blk_cell HK2.out 2).trans rfl
    have f_p2 := blk_frozen HK2.out 2
    have c_p3 : w1.cell? ⟨w.heap.size + 1, 3, none⟩ = some (Value.slice A3 t.cols.length c3) := (blk_cell HK2.out 3).trans rfl
    have f_p3 := blk_frozen HK2.out 3
    have c_p4 : w1.cell? ⟨w.heap.size + 1, 4, none⟩ = some (Value.slice A4 t.rules.length c4) := (blk_cell HK2.out 4).trans rfl
    have f_p4 := blk_frozen HK2.out 4
    have c_z0 : w1.cell? ⟨w.heap.size + 1 + 1, 0, none⟩ = some (Value.slice none 0 0) := (blk_cell HK3.out 0).trans rfl
    have f_z0 := blk_frozen HK3.out 0
    have c_z1 : w1.cell? ⟨w.heap.size + 1 + 1, 1, none⟩ = some (Value.slice none 0 0) := (blk_cell HK3.out 1).trans rfl
    have f_z1 := blk_frozen HK3.out 1
    go_wp2_with fail
    clear c_o0 f_o0 c_o1 f_o1 c_p0 f_p0 c_p1 f_p1 c_p2 f_p2 c_p3 f_p3 c_p4 f_p4 c_z0 f_z0 c_z1 f_z1
    refine (HN2.out _).mono ?_
    rintro e w_ ⟨rfl, rfl⟩
    have c_o0 : w1.cell? ⟨w.heap.size, 0, none⟩ = some (Value.slice As ss.length cs) := (blk_cell HK1.out 0).trans rfl
    have f_o0 := blk_frozen HK1.out 0
    have c_o1 : w1.cell? ⟨w.heap.size, 1, none⟩ = some (Value.slice At ts.length ct) := (blk_cell HK1.out 1).trans rfl
    have f_o1 := blk_frozen HK1.out 1
    have c_p0 : w1.cell? ⟨w.heap.size + 1, 0, none⟩ = some (Value.string t.schema) := (blk_cell HK2.out 0).trans rfl
    have f_p0 := blk_frozen HK2.out 0
    have c_p1 : w1.cell? ⟨w.heap.size + 1, 1, none⟩ = some (Value.string t.name) := (blk_cell HK2.out 1).trans rfl
    have f_p1 := blk_frozen HK2.out 1
    have c_p2 : w1.cell? ⟨w.heap.size + 1, 2, none⟩ = some (Value.string t.owner) := (blk_cell HK2.out 2).trans rfl
    have f_p2 := blk_frozen HK2.out 2
    have c_p3 : w1.cell? ⟨w.heap.size + 1, 3, none⟩ = some (Value.slice A3 t.cols.length c3) := (blk_cell HK2.out 3).trans rfl
    have f_p3 := blk_frozen HK2.out 3
    have c_p4 : w1.cell? ⟨w.heap.size + 1, 4, none⟩ = some (Value.slice A4 t.rules.length c4) := (blk_cell HK2.out 4).trans rfl
    have f_p4 := blk_frozen HK2.out 4
    have c_z0 : w1.cell? ⟨w.heap.size + 1 + 1, 0, none⟩ = some (Value.slice none 0 0) := (blk_cell HK3.out 0).trans rfl
    have f_z0 := blk_frozen HK3.out 0
    have c_z1 : w1.cell? ⟨w.heap.size + 1 + 1, 1, none⟩ = some (Value.slice none 0 0) := (blk_cell HK3.out 1).trans rfl
    have f_z1 := blk_frozen HK3.out 1
    go_wp2_with fail
    clear c_o0 f_o0 c_o1 f_o1 c_p0 f_p0 c_p1 f_p1 c_p2 f_p2 c_p3 f_p3 c_p4 f_p4 c_z0 f_z0 c_z1 f_z1
    refine (HSC.out _ HB1.out).mono ?_
    rintro e w2 ⟨rfl, hb2⟩
    have HB2 := Aside0.mk (below_step (HB1.out) hb2)
    have HK4 := Aside0.mk (blk_below (HK1.out) hb2)
    have HK5 := Aside0.mk (blk_below (HK2.out) hb2)
    have HK6 := Aside0.mk (blk_below (HK3.out) hb2)
    have HS2 := Aside0.mk hb2
    clear hb2
    have c_o0 : w2.cell? ⟨w.heap.size, 0, none⟩ = some (Value.slice As ss.length cs) := (blk_cell HK4.out 0).trans rfl
    have f_o0 := blk_frozen HK4.out 0
    have c_o1 : w2.cell? ⟨w.heap.size, 1, none⟩ = some (Value.slice At ts.length ct) := (blk_cell HK4.out 1).trans rfl
    have f_o1 := blk_frozen HK4.out 1
    have c_p0 : w2.cell? ⟨w.heap.size + 1, 0, none⟩ = some (Value.string t.schema) := (blk_cell HK5.out 0).trans rfl
    have f_p0 := blk_frozen HK5.out 0
    have c_p1 : w2.cell? ⟨w.heap.size + 1, 1, none⟩ = some (Value.string t.name) := (blk_cell HK5.out 1).trans rfl
    have f_p1 := blk_frozen HK5.out 1
    have c_p2 : w2.cell? ⟨w.heap.size + 1, 2, none⟩ = some (Value.string t.owner) := (blk_cell HK5.out 2).trans rfl
    have f_p2 := blk_frozen HK5.out 2
    have c_p3 : w2.cell? ⟨w.heap.size + 1, 3, none⟩ = some (Value.slice A3 t.cols.length c3) := (blk_cell HK5.out 3).trans rfl
    have f_p3 := blk_frozen HK5.out 3
    have c_p4 : w2.cell? ⟨w.heap.size + 1, 4, none⟩ = some (Value.slice A4 t.rules.length c4) := (blk_cell HK5.out 4).trans rfl
    have f_p4 := blk_frozen HK5.out 4
    have c_z0 : w2.cell? ⟨w.heap.size + 1 + 1, 0, none⟩ = some (Value.slice none 0 0) := (blk_cell HK6.out 0).trans rfl
    have f_z0 := blk_frozen HK6.out 0
    have c_z1 : w2.cell? ⟨w.heap.size + 1 + 1, 1, none⟩ = some (Value.slice none 0 0) := (blk_cell HK6.out 1).trans rfl
    have f_z1 := blk_frozen HK6.out 1
    go_wp2_with fail
    clear c_o0 f_o0 c_o1 f_o1 c_p0 f_p0 c_p1 f_p1 c_p2 f_p2 c_p3 f_p3 c_p4 f_p4 c_z0 f_z0 c_z1 f_z1
    refine (HNO.out _ _).mono ?_
    rintro e w3 ⟨rfl, hb3⟩
    have HB3 := Aside0.mk (below_step (HB2.out) hb3)
    have HK7 := Aside0.mk (blk_below (HK4.out) hb3)
    have HK8 := Aside0.mk (blk_below (HK5.out) hb3)
    have HK9 := Aside0.mk (blk_below (HK6.out) hb3)
    have HS3 := Aside0.mk hb3
    clear hb3
    have c_o0 : w3.cell? ⟨w.heap.size, 0, none⟩ = some (Value.slice As ss.length cs) := (blk_cell HK7.out 0).trans rfl
    have f_o0 := blk_frozen HK7.out 0
    have c_o1 : w3.cell? ⟨w.heap.size, 1, none⟩ = some (Value.slice At ts.length ct) := (blk_cell HK7.out 1).trans rfl
    have f_o1 := blk_frozen HK7.out 1
    have c_p0 : w3.cell? ⟨w.heap.size + 1, 0, none⟩ = some (Value.string t.schema) := (blk_cell HK8.out 0).trans rfl
    have f_p0 := blk_frozen HK8.out 0
    have c_p1 : w3.cell? ⟨w.heap.size + 1, 1, none⟩ = some (Value.string t.name) := (blk_cell HK8.out 1).trans rfl
    have f_p1 := blk_frozen HK8.out 1
    have c_p2 : w3.cell? ⟨w.heap.size + 1, 2, none⟩ = some (Value.string t.owner) := (blk_cell HK8.out 2).trans rfl
    have f_p2 := blk_frozen HK8.out 2
    have c_p3 : w3.cell? ⟨w.heap.size + 1, 3, none⟩ = some (Value.slice A3 t.cols.length c3) := (blk_cell HK8.out 3).trans rfl
    have f_p3 := blk_frozen HK8.out 3
    have c_p4 : w3.cell? ⟨w.heap.size + 1, 4, none⟩ = some (Value.slice A4 t.rules.length c4) := (blk_cell HK8.out 4).trans rfl
    have f_p4 := blk_frozen HK8.out 4
    have c_z0 : w3.cell? ⟨w.heap.size + 1 + 1, 0, none⟩ = some (Value.slice none 0 0) := (blk_cell HK9.out 0).trans rfl
    have f_z0 := blk_frozen HK9.out 0
    have c_z1 : w3.cell? ⟨w.heap.size + 1 + 1, 1, none⟩ = some (Value.slice none 0 0) := (blk_cell HK9.out 1).trans rfl
    have f_z1 := blk_frozen HK9.out 1
    go_wp2
    refine bodyPost_ret (v := .tuple #[.agg #[.slice none 0 0, .slice none 0 0], .int .i64 61]) (by simp [results, Try.results34, go_sem, *]) rfl ?_
    exact zeroOut (g := w.heap.size + 1 + 1) (n := 61) HB3.out (by omega)
  rw [hi, if_pos (show (0 : Int) ≤ (m : Int) by omega)] at HE0
  rw [show idx (fun x : Sch => x.name.toList == t.schema.toList) ss = (m : Int) from hi] at HSC
  have hd : decide ((m : Int) < 0) = false := decide_eq_false (by omega)
  clear hi y1 y2 hm
  rcases idx_cases (isT t.schema t.name) ts with ⟨k, hk, hi, y1, y2⟩ | ⟨hi, y1⟩
  · rw [chgT_at (n := 60) HK.out (by rw [HE0.out, hi, if_pos (by omega)])]
    rw [hi] at HTB
    have hd2 : decide ((0 : Int) ≤ (k : Int)) = true := decide_eq_true (by omega)
    clear hi y1 y2 hk HE0 HOW HTC HCO HCP HK
    go_enter Try.func34, Try.ntmps34
    have c_o0 : (((w.alloc (.cells #[Value.slice As ss.length cs, Value.slice At ts.length ct] 26)).alloc (.cells #[Value.string t.schema, Value.string t.name, Value.string t.owner, Value.slice A3 t.cols.length c3, Value.slice A4 t.rules.length c4] 35)).alloc (.cells #[Value.slice none 0 0, Value.slice none 0 0] 26)).cell? ⟨w.heap.size, 0, none⟩ = some (Value.slice As ss.length cs) := (blk_cell HX0.out.2.1 0).trans rfl
    have f_o0 := blk_frozen HX0.out.2.1 0
    have c_o1 : (((w.alloc (.cells #[Value.slice As ss.length cs, Value.slice At ts.length ct] 26)).alloc (.cells #[Value.string t.schema, Value.string t.name, Value.string t.owner, Value.slice A3 t.cols.length c3, Value.slice A4 t.rules.length c4] 35)).alloc (.cells #[Value.slice none 0 0, Value.slice none 0 0] 26)).cell? ⟨w.heap.size, 1, none⟩ = some (Value.slice At ts.length ct) := (blk_cell HX0.out.2.1 1).trans rfl
    have f_o1 := blk_frozen HX0.out.2.1 1
    have c_p0 : (((w.alloc (.cells #[Value.slice As ss.length cs, Value.slice At ts.length ct] 26)).alloc (.cells #[Value.string t.schema, Value.string t.name, Value.string t.owner, Value.slice A3 t.cols.length c3, Value.slice A4 t.rules.length c4] 35)).alloc (.cells #[Value.slice none 0 0, Value.slice none 0 0] 26)).cell? ⟨w.heap.size + 1, 0, none⟩ = some (Value.string t.schema) := (blk_cell HX0.out.2.2.1 0).trans rfl
    have f_p0 := blk_frozen HX0.out.2.2.1 0
    have c_p1 : (((w.alloc (.cells #[Value.slice As ss.length cs, Value.slice At ts.length ct] 26)).alloc (.cells #[Value.string t.schema, Value.string t.name, Value.string t.owner, Value.slice A3 t.cols.length c3, Value.slice A4 t.rules.length c4] 35)).alloc (.cells #[Value.slice none 0 0, Value.slice none 0 0] 26)).cell? ⟨w.heap.size + 1, 1, none⟩ = some (Value.string t.name) := (blk_cell HX0.out.2.2.1 1).trans rfl
    have f_p1 := blk_frozen HX0.out.2.2.1 1
    have c_p2 : (((w.alloc (.cells #[Value.slice As ss.length cs, Value.slice At ts.length ct] 26)).alloc (.cells #[Value.string t.schema, Value.string t.name, Value.string t.owner, Value.slice A3 t.cols.length c3, Value.slice A4 t.rules.length c4] 35)).alloc (.cells #[Value.slice none 0 0, Value.slice none 0 0] 26)).cell? ⟨w.heap.size + 1, 2, none⟩ = some (Value.string t.owner) := (blk_cell HX0.out.2.2.1 2).trans rfl
    have f_p2 := blk_frozen HX0.out.2.2.1 2
    have c_p3 : (((w.alloc (.cells #[Value.slice As ss.length cs, Value.slice At ts.length ct] 26)).alloc (.cells #[Value.string t.schema, Value.string t.name, Value.string t.owner, Value.slice A3 t.cols.length c3, Value.slice A4 t.rules.length c4] 35)).alloc (.cells #[Value.slice none 0 0, Value.slice none 0 0] 26)).cell? ⟨w.heap.size + 1, 3, none⟩ = some (Value.slice A3 t.cols.length c3) := (blk_cell HX0.out.2.2.1 3).trans rfl
    have f_p3 := blk_frozen HX0.out.2.2.1 3
    have c_p4 : (((w.alloc (.cells #[Value.slice As ss.length cs, Value.slice At ts.length ct] 26)).alloc (.cells #[Value.string t.schema, Value.string t.name, Value.string t.owner, Value.slice A3 t.cols.length c3, Value.slice A4 t.rules.length c4] 35)).alloc (.cells #[Value.slice none 0 0, Value.slice none 0 0] 26)).cell? ⟨w.heap.size + 1, 4, none⟩ = some (Value.slice A4 t.rules.length c4) := (blk_cell HX0.out.2.2.1 4).trans rfl
    have f_p4 := blk_frozen HX0.out.2.2.1 4
    have c_z0 : (((w.alloc (.cells #[Value.slice As ss.length cs, Value.slice At ts.length ct] 26)).alloc (.cells #[Value.string t.schema, Value.string t.name, Value.string t.owner, Value.slice A3 t.cols.length c3, Value.slice A4 t.rules.length c4] 35)).alloc (.cells #[Value.slice none 0 0, Value.slice none 0 0] 26)).cell? ⟨w.heap.size + 1 + 1, 0, none⟩ = some (Value.slice none 0 0) := (blk_cell HX0.out.2.2.2 0).trans rfl
    have f_z0 := blk_frozen HX0.out.2.2.2 0
    have c_z1 : (((w.alloc (.cells #[Value.slice As ss.length cs, Value.slice At ts.length ct] 26)).alloc (.cells #[Value.string t.schema, Value.string t.name, Value.string t.owner, Value.slice A3 t.cols.length c3, Value.slice A4 t.rules.length c4] 35)).alloc (.cells #[Value.slice none 0 0, Value.slice none 0 0] 26)).cell? ⟨w.heap.size + 1 + 1, 1, none⟩ = some (Value.slice none 0 0) := (blk_cell HX0.out.2.2.2 1).trans rfl
    have f_z1 := blk_frozen HX0.out.2.2.2 1
    go_wp2_with fail
    clear c_o0 f_o0 c_o1 f_o1 c_p0 f_p0 c_p1 f_p1 c_p2 f_p2 c_p3 f_p3 c_p4 f_p4 c_z0 f_z0 c_z1 f_z1
    refine (HCK.out _ HX0.out.1).mono ?_
    rintro e w1 ⟨rfl, hb1⟩
    have HB1 := Aside0.mk (below_step (HX0.out.1) hb1)
    have HK1 := Aside0.mk (blk_below (HX0.out.2.1) hb1)
    have HK2 := Aside0.mk (blk_below (HX0.out.2.2.1) hb1)
    have HK3 := Aside0.mk (blk_below (HX0.out.2.2.2) hb1)
    have HS1 := Aside0.mk hb1
    clear hb1
    have c_o0 : w1.cell? ⟨w.heap.size, 0, none⟩ = some (Value.slice As ss.length cs) := (blk_cell HK1.out 0).trans rfl
    have f_o0 := blk_frozen HK1.out 0
    have c_o1 : w1.cell? ⟨w.heap.size, 1, none⟩ = some (Value.slice At ts.length ct) := (blk_cell HK1.out 1).trans rfl
    have f_o1 := blk_frozen HK1.out 1
    have c_p0 : w1.cell? ⟨w.heap.size + 1, 0, none⟩ = some (Value.string t.schema) := (blk_cell HK2.out 0).trans rfl
    have f_p0 := blk_frozen HK2.out 0
    have c_p1 : w1.cell? ⟨w.heap.size + 1, 1, none⟩ = some (Value.string t.name) := (blk_cell HK2.out 1).trans rfl
    have f_p1 := blk_frozen HK2.out 1
    have c_p2 : w1.cell? ⟨w.heap.size + 1, 2, none⟩ = some (Value.string t.owner) := (blk_cell HK2.out 2).trans rfl
    have f_p2 := blk_frozen HK2.out 2
    have c_p3 : w1.cell? ⟨w.heap.size + 1, 3, none⟩ = some (Value.slice A3 t.cols.length c3) := (blk_cell HK2.out 3).trans rfl
    have f_p3 := blk_frozen HK2.out 3
    have c_p4 : w1.cell? ⟨w.heap.size + 1, 4, none⟩ = some (Value.slice A4 t.rules.length c4) := (blk_cell HK2.out 4).trans rfl
    have f_p4 := blk_frozen HK2.out 4
    have c_z0 : w1.cell? ⟨w.heap.size + 1 + 1, 0, none⟩ = some (Value.slice none 0 0) := (blk_cell HK3.out 0).trans rfl
    have f_z0 := blk_frozen HK3.out 0
    have c_z1 : w1.cell? ⟨w.heap.size + 1 + 1, 1, none⟩ = some (Value.slice none 0 0) := (blk_cell HK3.out 1).trans rfl
    have f_z1 := blk_frozen HK3.out 1
    go_wp2_with fail
    clear c_o0 f_o0 c_o1 f_o1 c_p0 f_p0 c_p1 f_p1 c_p2 f_p2 c_p3 f_p3 c_p4 f_p4 c_z0 f_z0 c_z1 f_z1
    refine (HN1.out _).mono ?_
    rintro e w_ ⟨rfl, rfl⟩
    have c_o0 : w1.cell? ⟨w.heap.size, 0, none⟩ = some (Value.slice As ss.length cs) := (blk_cell HK1.out 0).trans rfl
    have f_o0 := blk_frozen HK1.out 0
    have c_o1 : w1.cell? ⟨w.heap.size, 1, none⟩ = some (Value.slice At ts.length ct) := (blk_cell HK1.out 1).trans rfl
    have f_o1 := blk_frozen HK1.out 1
    have c_p0 : w1.cell? ⟨w.heap.size + 1, 0, none⟩ = some (Value.string t.schema) := (blk_cell HK2.out 0).trans rfl
    have f_p0 := blk_frozen HK2.out 0
    have c_p1 : w1.cell? ⟨w.heap.size + 1, 1, none⟩ = some (Value.string t.name) := (blk_cell HK2.out 1).trans rfl
    have f_p1 := blk_frozen HK2.out 1
    have c_p2 : w1.cell? ⟨w.heap.size + 1, 2, none⟩ = some (Value.string t.owner) := (blk_cell HK2.out 2).trans rfl
    have f_p2 := blk_frozen HK2.out 2
    have c_p3 : w1.cell? ⟨w.heap.size + 1, 3, none⟩ = some (Value.slice A3 t.cols.length c3) := (blk_cell HK2.out 3).trans rfl
    have f_p3 := blk_frozen HK2.out 3
    have c_p4 : w1.cell? ⟨w.heap.size + 1, 4, none⟩ = some (Value.slice A4 t.rules.length c4) := (blk_cell HK2.out 4).trans rfl
    have f_p4 := blk_frozen HK2.out 4
    have c_z0 : w1.cell? ⟨w.heap.size + 1 + 1, 0, none⟩ = some (Value.slice none 0 0) := (blk_cell HK3.out 0).trans rfl
    have f_z0 := blk_frozen HK3.out 0
    have c_z1 : w1.cell? ⟨w.heap.size + 1 + 1, 1, none⟩ = some (Value.slice none 0 0) := (blk_cell HK3.out 1).trans rfl
    have f_z1 := blk_frozen HK3.out 1
    go_wp2_with fail
    clear c_o0 f_o0 c_o1 f_o1 c_p0 f_p0 c_p1 f_p1 c_p2 f_p2 c_p3 f_p3 c_p4 f_p4 c_z0 f_z0 c_z1 f_z1
    refine (HN2.out _).mono ?_
    rintro e w_ ⟨rfl, rfl⟩
    have c_o0 : w1.cell? ⟨w.heap.size, 0, none⟩ = some (Value.slice As ss.length cs) := (blk_cell HK1.out 0).trans rfl
    have f_o0 := blk_frozen HK1.out 0
    have c_o1 : w1.cell? ⟨w.heap.size, 1, none⟩ = some (Value.slice At ts.length ct) := (blk_cell HK1.out 1).trans rfl
    have f_o1 := blk_frozen HK1.out 1
    have c_p0 : w1.cell? ⟨w.heap.size + 1, 0, none⟩ = some (Value.string t.schema) := (blk_cell HK2.out 0).trans rfl
    have f_p0 := blk_frozen HK2.out 0
    have c_p1 : w1.cell? ⟨w.heap.size + 1, 1, none⟩ = some (Value.string t.name) := (blk_cell HK2.out 1).trans rfl
    have f_p1 := blk_frozen HK2.out 1
    have c_p2 : w1.cell? ⟨w.heap.size + 1, 2, none⟩ = some (Value.string t.owner) := (blk_cell HK2.out 2).trans rfl
    have f_p2 := blk_frozen HK2.out 2
    have c_p3 : w1.cell? ⟨w.heap.size + 1, 3, none⟩ = some (Value.slice A3 t.cols.length c3) := (blk_cell HK2.out 3).trans rfl
    have f_p3 := blk_frozen HK2.out 3
    have c_p4 : w1.cell? ⟨w.heap.size + 1, 4, none⟩ = some (Value.slice A4 t.rules.length c4) := (blk_cell HK2.out 4).trans rfl
    have f_p4 := blk_frozen HK2.out 4
    have c_z0 : w1.cell? ⟨w.heap.size + 1 + 1, 0, none⟩ = some (Value.slice none 0 0) := (blk_cell HK3.out 0).trans rfl
    have f_z0 := blk_frozen HK3.out 0
    have c_z1 : w1.cell? ⟨w.heap.size + 1 + 1, 1, none⟩ = some (Value.slice none 0 0) := (blk_cell HK3.out 1).trans rfl
    have f_z1 := blk_frozen HK3.out 1
    go_wp2_with fail
    clear c_o0 f_o0 c_o1 f_o1 c_p0 f_p0 c_p1 f_p1 c_p2 f_p2 c_p3 f_p3 c_p4 f_p4 c_z0 f_z0 c_z1 f_z1
    refine (HSC.out _ HB1.out).mono ?_
    rintro e w2 ⟨rfl, hb2⟩
    have HB2 := Aside0.mk (below_step (HB1.out) hb2)
    have HK4 := Aside0.mk (blk_below (HK1.out) hb2)
    have HK5 := Aside0.mk (blk_below (HK2.out) hb2)
    have HK6 := Aside0.mk (blk_below (HK3.out) hb2)
    have HS2 := Aside0.mk hb2
    clear hb2
    have c_o0 : w2.cell? ⟨w.heap.size, 0, none⟩ = some (Value.slice As ss.length cs) := (blk_cell HK4.out 0).trans rfl
    have f_o0 := blk_frozen HK4.out 0
    have c_o1 : w2.cell? ⟨w.heap.size, 1, none⟩ = some (Value.slice At ts.length ct) := (blk_cell HK4.out 1).trans rfl
    have f_o1 := blk_frozen HK4.out 1
    have c_p0 : w2.cell? ⟨w.heap.size + 1, 0, none⟩ = some (Value.string t.schema) := (blk_cell HK5.out 0).trans rfl
    have f_p0 := blk_frozen HK5.out 0
    have c_p1 : w2.cell? ⟨w.heap.size + 1, 1, none⟩ = some (Value.string t.name) := (blk_cell HK5.out 1).trans rfl
    have f_p1 := blk_frozen HK5.out 1
    have c_p2 : w2.cell? ⟨w.heap.size + 1, 2, none⟩ = some (Value.string t.owner) := (blk_cell HK5.out 2).trans rfl
    have f_p2 := blk_frozen HK5.out 2
    have c_p3 : w2.cell? ⟨w.heap.size + 1, 3, none⟩ = some (Value.slice A3 t.cols.length c3) := (blk_cell HK5.out 3).trans rfl
    have f_p3 := blk_frozen HK5.out 3
    have c_p4 : w2.cell? ⟨w.heap.size + 1, 4, none⟩ = some (Value.slice A4 t.rules.length c4) := (blk_cell HK5.out 4).trans rfl
    have f_p4 := blk_frozen HK5.out 4
    have c_z0 : w2.cell? ⟨w.heap.size + 1 + 1, 0, none⟩ = some (Value.slice none 0 0) := (blk_cell HK6.out 0).trans rfl
    have f_z0 := blk_frozen HK6.out 0
    have c_z1 : w2.cell? ⟨w.heap.size + 1 + 1, 1, none⟩ = some (Value.slice none 0 0) := (blk_cell HK6.out 1).trans rfl
    have f_z1 := blk_frozen HK6.out 1
    go_wp2_with fail
    clear c_o0 f_o0 c_o1 f_o1 c_p0 f_p0 c_p1 f_p1 c_p2 f_p2 c_p3 f_p3 c_p4 f_p4 c_z0 f_z0 c_z1 f_z1
    refine (HTB.out _ HB2.out).mono ?_
    rintro e w3 ⟨rfl, hb3⟩
    have HB3 := Aside0.mk (below_step (HB2.out) hb3)
    have HK7 := Aside0.mk (blk_below (HK4.out) hb3)
    have HK8 := Aside0.mk (blk_below (HK5.out) hb3)
    have HK9 := Aside0.mk (blk_below (HK6.out) hb3)
    have HS3 := Aside0.mk hb3
    clear hb3
    have c_o0 : w3.cell? ⟨w.heap.size, 0, none⟩ = some (Value.slice As ss.length cs) := (blk_cell HK7.out 0).trans rfl
    have f_o0 := blk_frozen HK7.out 0
    have c_o1 : w3.cell? ⟨w.heap.size, 1, none⟩ = some (Value.slice At ts.length ct) := (blk_cell HK7.out 1).trans rfl
    have f_o1 := blk_frozen HK7.out 1
    have c_p0 : w3.cell? ⟨w.heap.size + 1, 0, none⟩ = some (Value.string t.schema) := (blk_cell HK8.out 0).trans rfl
    have f_p0 := blk_frozen HK8.out 0
    have c_p1 : w3.cell? ⟨w.heap.size + 1, 1, none⟩ = some (Value.string t.name) := (blk_cell HK8.out 1).trans rfl
    have f_p1 := blk_frozen HK8.out 1
    have c_p2 : w3.cell? ⟨w.heap.size + 1, 2, none⟩ = some (Value.string t.owner) := (blk_cell HK8.out 2).trans rfl
    have f_p2 := blk_frozen HK8.out 2
    have c_p3 : w3.cell? ⟨w.heap.size + 1, 3, none⟩ = some (Value.slice A3 t.cols.length c3) := (blk_cell HK8.out 3).trans rfl
    have f_p3 := blk_frozen HK8.out 3
    have c_p4 : w3.cell? ⟨w.heap.size + 1, 4, none⟩ = some (Value.slice A4 t.rules.length c4) := (blk_cell HK8.out 4).trans rfl
    have f_p4 := blk_frozen HK8.out 4
    have c_z0 : w3.cell? ⟨w.heap.size + 1 + 1, 0, none⟩ = some (Value.slice none 0 0) := (blk_cell HK9.out 0).trans rfl
    have f_z0 := blk_frozen HK9.out 0
    have c_z1 : w3.cell? ⟨w.heap.size + 1 + 1, 1, none⟩ = some (Value.slice none 0 0) := (blk_cell HK9.out 1).trans rfl
    have f_z1 := blk_frozen HK9.out 1
    go_wp2_with fail
    clear c_o0 f_o0 c_o1 f_o1 c_p0 f_p0 c_p1 f_p1 c_p2 f_p2 c_p3 f_p3 c_p4 f_p4 c_z0 f_z0 c_z1 f_z1
    refine (HNO.out _ _).mono ?_
    rintro e w4 ⟨rfl, hb4⟩
    have HB4 := Aside0.mk (below_step (HB3.out) hb4)
    have HK10 := Aside0.mk (blk_below (HK7.out) hb4)
    have HK11 := Aside0.mk (blk_below (HK8.out) hb4)
    have HK12 := Aside0.mk (blk_below (HK9.out) hb4)
    have HS4 := Aside0.mk hb4
    clear hb4
    have c_o0 : w4.cell? ⟨w.heap.size, 0, none⟩ = some (Value.slice As ss.length cs) := (blk_cell HK10.out 0).trans rfl
    have f_o0 := blk_frozen HK10.out 0
    have c_o1 : w4.cell? ⟨w.heap.size, 1, none⟩ = some (Value.slice At ts.length ct) := (blk_cell HK10.out 1).trans rfl
    have f_o1 := blk_frozen HK10.out 1
    have c_p0 : w4.cell? ⟨w.heap.size + 1, 0, none⟩ = some (Value.string t.schema) := (blk_cell HK11.out 0).trans rfl
    have f_p0 := blk_frozen HK11.out 0
    have c_p1 : w4.cell? ⟨w.heap.size + 1, 1, none⟩ = some (Value.string t.name) := (blk_cell HK11.out 1).trans rfl
    have f_p1 := blk_frozen HK11.out 1
    have c_p2 : w4.cell? ⟨w.heap.size + 1, 2, none⟩ = some (Value.string t.owner) := (blk_cell HK11.out 2).trans rfl
    have f_p2 := blk_frozen HK11.out 2
    have c_p3 : w4.cell? ⟨w.heap.size + 1, 3, none⟩ = some (Value.slice A3 t.cols.length c3) := (blk_cell HK11.out 3).trans rfl
    have f_p3 := blk_frozen HK11.out 3
    have c_p4 : w4.cell? ⟨w.heap.size + 1, 4, none⟩ = some (Value.slice A4 t.rules.length c4) := (blk_cell HK11.out 4).trans rfl
    have f_p4 := blk_frozen HK11.out 4
    have c_z0 : w4.cell? ⟨w.heap.size + 1 + 1, 0, none⟩ = some (Value.slice none 0 0) := (blk_cell HK12.out 0).trans rfl
    have f_z0 := blk_frozen HK12.out 0
    have c_z1 : w4.cell? ⟨w.heap.size + 1 + 1, 1, none⟩ = some (Value.slice none 0 0) := (blk_cell HK12.out 1).trans rfl
    have f_z1 := blk_frozen HK12.out 1
    go_wp2
    refine bodyPost_ret (v := .tuple #[.agg #[.slice none 0 0, .slice none 0 0], .int .i64 60]) (by simp [results, Try.results34, go_sem, *]) rfl ?_
    exact zeroOut (g := w.heap.size + 1 + 1) (n := 60) HB4.out (by omega)
  rw [hi, if_neg (show ¬ (0 : Int) ≤ -1 by omega)] at HE0
  rw [hi] at HTB
  have hd2 : decide ((0 : Int) ≤ -1) = false := rfl
  clear hi y1
  by_cases h8 : 8 ≤ cnt (ofS t.schema) ts
  · rw [chgT_at (n := 2) HK.out (by rw [HE0.out, if_pos h8])]
    have hd8 : decide ((8 : Int) ≤ (cnt (ofS t.schema) ts : Int)) = true := decide_eq_true (by omega)
    clear HE0 HOW HCO HCP HK
    go_enter Try.func34, Try.ntmps34
    have c_o0 : (((w.alloc (.cells #[Value.slice As ss.length cs, Value.slice At ts.length ct] 26)).alloc (.cells #[Value.string t.schema, Value.string t.name, Value.string t.owner, Value.slice A3 t.cols.length c3, Value.slice A4 t.rules.length c4] 35)).alloc (.cells #[Value.slice none 0 0, Value.slice none 0 0] 26)).cell? ⟨w.heap.size, 0, none⟩ = some (Value.slice As ss.length cs) := (blk_cell HX0.out.2.1 0).trans rfl
    have f_o0 := blk_frozen HX0.out.2.1 0
    have c_o1 : (((w.alloc (.cells #[Value.slice As ss.length cs, Value.slice At ts.length ct] 26)).alloc (.cells #[Value.string t.schema, Value.string t.name, Value.string t.owner, Value.slice A3 t.cols.length c3, Value.slice A4 t.rules.length c4] 35)).alloc (.cells #[Value.slice none 0 0, Value.slice none 0 0] 26)).cell? ⟨w.heap.size, 1, none⟩ = some (Value.slice At ts.length ct) := (blk_cell HX0.out.2.1 1).trans rfl
    have f_o1 := blk_frozen HX0.out.2.1 1
    have c_p0 : (((w.alloc (.cells #[Value.slice As ss.length cs, Value.slice At ts.length ct] 26)).alloc (.cells #[Value.string t.schema, Value.string t.name, Value.string t.owner, Value.slice A3 t.cols.length c3, Value.slice A4 t.rules.length c4] 35)).alloc (.cells #[Value.slice none 0 0, Value.slice none 0 0] 26)).cell? ⟨w.heap.size + 1, 0, none⟩ = some (Value.string t.schema) := (blk_cell HX0.out.2.2.1 0).trans rfl
    have f_p0 := blk_frozen HX0.out.2.2.1 0
    have c_p1 : (((w.alloc (.cells #[Value.slice As ss.length cs, Value.slice At ts.length ct] 26)).alloc (.cells #[Value.string t.schema, Value.string t.name, Value.string t.owner, Value.slice A3 t.cols.length c3, Value.slice A4 t.rules.length c4] 35)).alloc (.cells #[Value.slice none 0 0, Value.slice none 0 0] 26)).cell? ⟨w.heap.size + 1, 1, none⟩ = some (Value.string t.name) := (blk_cell HX0.out.2.2.1 1).trans rfl
    have f_p1 := blk_frozen HX0.out.2.2.1 1
    have c_p2 : (((w.alloc (.cells #[Value.slice As ss.length cs, Value.slice At ts.length ct] 26)).alloc (.cells #[Value.string t.schema, Value.string t.name, Value.string t.owner, Value.slice A3 t.cols.length c3, Value.slice A4 t.rules.length c4] 35)).alloc (.cells #[Value.slice none 0 0, Value.slice none 0 0] 26)).cell? ⟨w.heap.size + 1, 2, none⟩ = some (Value.string t.owner) := (blk_cell HX0.out.2.2.1 2).trans rfl
    have f_p2 := blk_frozen HX0.out.2.2.1 2
    have c_p3 : (((w.alloc (.cells #[Value.slice As ss.length cs, Value.slice At ts.length ct] 26)).alloc (.cells #[Value.string t.schema, Value.string t.name, Value.string t.owner, Value.slice A3 t.cols.length c3, Value.slice A4 t.rules.length c4] 35)).alloc (.cells #[Value.slice none 0 0, Value.slice none 0 0] 26)).cell? ⟨w.heap.size + 1, 3, none⟩ = some (Value.slice A3 t.cols.length c3) := (blk_cell HX0.out.2.2.1 3).trans rfl
    have f_p3 := blk_frozen HX0.out.2.2.1 3
    have c_p4 : (((w.alloc (.cells #[Value.slice As ss.length cs, Value.slice At ts.length ct] 26)).alloc (.cells #[Value.string t.schema, Value.string t.name, Value.string t.owner, Value.slice A3 t.cols.length c3, Value.slice A4 t.rules.length c4] 35)).alloc (.cells #[Value.slice none 0 0, Value.slice none 0 0] 26)).cell? ⟨w.heap.size + 1, 4, none⟩ = some (Value.slice A4 t.rules.length c4) := (blk_cell HX0.out.2.2.1 4).trans rfl
    have f_p4 := blk_frozen HX0.out.2.2.1 4
    have c_z0 : (((w.alloc (.cells #[Value.slice As ss.length cs, Value.slice At ts.length ct] 26)).alloc (.cells #[Value.string t.schema, Value.string t.name, Value.string t.owner, Value.slice A3 t.cols.length c3, Value.slice A4 t.rules.length c4] 35)).alloc (.cells #[Value.slice none 0 0, Value.slice none 0 0] 26)).cell? ⟨w.heap.size + 1 + 1, 0, none⟩ = some (Value.slice none 0 0) := (blk_cell HX0.out.2.2.2 0).trans rfl
    have f_z0 := blk_frozen HX0.out.2.2.2 0
    have c_z1 : (((w.alloc (.cells #[Value.slice As ss.length cs, Value.slice At ts.length ct] 26)).alloc (.cells #[Value.string t.schema, Value.string t.name, Value.string t.owner, Value.slice A3 t.cols.length c3, Value.slice A4 t.rules.length c4] 35)).alloc (.cells #[Value.slice none 0 0, Value.slice none 0 0] 26)).cell? ⟨w.heap.size + 1 + 1, 1, none⟩ = some (Value.slice none 0 0) := (blk_cell HX0.out.2.2.2 1).trans rfl
    have f_z1 := blk_frozen HX0.out.2.2.2 1
    go_wp2_with fail
    clear c_o0 f_o0 c_o1 f_o1 c_p0 f_p0 c_p1 f_p1 c_p2 f_p2 c_p3 f_p3 c_p4 f_p4 c_z0 f_z0 c_z1 f_z1
    refine (HCK.out _ HX0.out.1).mono ?_
    rintro e w1 ⟨rfl, hb1⟩
    have HB1 := Aside0.mk (below_step (HX0.out.1) hb1)
    have HK1 := Aside0.mk (blk_below (HX0.out.2.1) hb1)
    have HK2 := Aside0.mk (blk_below (HX0.out.2.2.1) hb1)
    have HK3 := Aside0.mk (blk_below (HX0.out.2.2.2) hb1)
    have HS1 := Aside0.mk hb1
    clear hb1
    have c_o0 : w1.cell? ⟨w.heap.size, 0, none⟩ = some (Value.slice As ss.length cs) := (blk_cell HK1.out 0).trans rfl
    have f_o0 := blk_frozen HK1.out 0
    have c_o1 : w1.cell? ⟨w.heap.size, 1, none⟩ = some (Value.slice At ts.length ct) := (blk_cell HK1.out 1).trans rfl
    have f_o1 := blk_frozen HK1.out 1
    have c_p0 : w1.cell? ⟨w.heap.size + 1, 0, none⟩ = some (Value.string t.schema) := (blk_cell HK2.out 0).trans rfl
    have f_p0 := blk_frozen HK2.out 0
    have c_p1 : w1.cell? ⟨w.heap.size + 1, 1, none⟩ = some (Value.string t.name) := (blk_cell HK2.out 1).trans rfl
    have f_p1 := blk_frozen HK2.out 1
    have c_p2 : w1.cell? ⟨w.heap.size + 1, 2, none⟩ = some (Value.string t.owner) := (blk_cell HK2.out 2).trans rfl
    have f_p2 := blk_frozen HK2.out 2
    have c_p3 : w1.cell? ⟨w.heap.size + 1, 3, none⟩ = some (Value.slice A3 t.cols.length c3) := (blk_cell HK2.out 3).trans rfl
    have f_p3 := blk_frozen HK2.out 3
    have c_p4 : w1.cell? ⟨w.heap.size + 1, 4, none⟩ = some (Value.slice A4 t.rules.length c4) := (blk_cell HK2.out 4).trans rfl
    have f_p4 := blk_frozen HK2.out 4
    have c_z0 : w1.cell? ⟨w.heap.size + 1 + 1, 0, none⟩ = some (Value.slice none 0 0) := (blk_cell HK3.out 0).trans rfl
    have f_z0 := blk_frozen HK3.out 0
    have c_z1 : w1.cell? ⟨w.heap.size + 1 + 1, 1, none⟩ = some (Value.slice none 0 0) := (blk_cell HK3.out 1).trans rfl
    have f_z1 := blk_frozen HK3.out 1
    go_wp2_with fail
    clear c_o0 f_o0 c_o1 f_o1 c_p0 f_p0 c_p1 f_p1 c_p2 f_p2 c_p3 f_p3 c_p4 f_p4 c_z0 f_z0 c_z1 f_z1
    refine (HN1.out _).mono ?_
    rintro e w_ ⟨rfl, rfl⟩
    have c_o0 : w1.cell? ⟨w.heap.size, 0, none⟩ = some (Value.slice As ss.length cs) := (blk_cell HK1.out 0).trans rfl
    have f_o0 := blk_frozen HK1.out 0
    have c_o1 : w1.cell? ⟨w.heap.size, 1, none⟩ = some (Value.slice At ts.length ct) := (blk_cell HK1.out 1).trans rfl
    have f_o1 := blk_frozen HK1.out 1
    have c_p0 : w1.cell? ⟨w.heap.size + 1, 0, none⟩ = some (Value.string t.schema) := (blk_cell HK2.out 0).trans rfl
    have f_p0 := blk_frozen HK2.out 0
    have c_p1 : w1.cell? ⟨w.heap.size + 1, 1, none⟩ = some (Value.string t.name) := (blk_cell HK2.out 1).trans rfl
    have f_p1 := blk_frozen HK2.out 1
    have c_p2 : w1.cell? ⟨w.heap.size + 1, 2, none⟩ = some (Value.string t.owner) := (blk_cell HK2.out 2).trans rfl
    have f_p2 := blk_frozen HK2.out 2
    have c_p3 : w1.cell? ⟨w.heap.size + 1, 3, none⟩ = some (Value.slice A3 t.cols.length c3) := (blk_cell HK2.out 3).trans rfl
    have f_p3 := blk_frozen HK2.out 3
    have c_p4 : w1.cell? ⟨w.heap.size + 1, 4, none⟩ = some (Value.slice A4 t.rules.length c4) := (blk_cell HK2.out 4).trans rfl
    have f_p4 := blk_frozen HK2.out 4
    have c_z0 : w1.cell? ⟨w.heap.size + 1 + 1, 0, none⟩ = some (Value.slice none 0 0) := (blk_cell HK3.out 0).trans rfl
    have f_z0 := blk_frozen HK3.out 0
    have c_z1 : w1.cell? ⟨w.heap.size + 1 + 1, 1, none⟩ = some (Value.slice none 0 0) := (blk_cell HK3.out 1).trans rfl
    have f_z1 := blk_frozen HK3.out 1
    go_wp2_with fail
    clear c_o0 f_o0 c_o1 f_o1 c_p0 f_p0 c_p1 f_p1 c_p2 f_p2 c_p3 f_p3 c_p4 f_p4 c_z0 f_z0 c_z1 f_z1
    refine (HN2.out _).mono ?_
    rintro e w_ ⟨rfl, rfl⟩
    have c_o0 : w1.cell? ⟨w.heap.size, 0, none⟩ = some (Value.slice As ss.length cs) := (blk_cell HK1.out 0).trans rfl
    have f_o0 := blk_frozen HK1.out 0
    have c_o1 : w1.cell? ⟨w.heap.size, 1, none⟩ = some (Value.slice At ts.length ct) := (blk_cell HK1.out 1).trans rfl
    have f_o1 := blk_frozen HK1.out 1
    have c_p0 : w1.cell? ⟨w.heap.size + 1, 0, none⟩ = some (Value.string t.schema) := (blk_cell HK2.out 0).trans rfl
    have f_p0 := blk_frozen HK2.out 0
    have c_p1 : w1.cell? ⟨w.heap.size + 1, 1, none⟩ = some (Value.string t.name) := (blk_cell HK2.out 1).trans rfl
    have f_p1 := blk_frozen HK2.out 1
    have c_p2 : w1.cell? ⟨w.heap.size + 1, 2, none⟩ = some (Value.string t.owner) := (blk_cell HK2.out 2).trans rfl
    have f_p2 := blk_frozen HK2.out 2
    have c_p3 : w1.cell? ⟨w.heap.size + 1, 3, none⟩ = some (Value.slice A3 t.cols.length c3) := (blk_cell HK2.out 3).trans rfl
    have f_p3 := blk_frozen HK2.out 3
    have c_p4 : w1.cell? ⟨w.heap.size + 1, 4, none⟩ = some (Value.slice A4 t.rules.length c4) := (blk_cell HK2.out 4).trans rfl
    have f_p4 := blk_frozen HK2.out 4
    have c_z0 : w1.cell? ⟨w.heap.size + 1 + 1, 0, none⟩ = some (Value.slice none 0 0) := (blk_cell HK3.out 0).trans rfl
    have f_z0 := blk_frozen HK3.out 0
    have c_z1 : w1.cell? ⟨w.heap.size + 1 + 1, 1, none⟩ = some (Value.slice none 0 0) := (blk_cell HK3.out 1).trans rfl
    have f_z1 := blk_frozen HK3.out 1
    go_wp2_with fail
    clear c_o0 f_o0 c_o1 f_o1 c_p0 f_p0 c_p1 f_p1 c_p2 f_p2 c_p3 f_p3 c_p4 f_p4 c_z0 f_z0 c_z1 f_z1
    refine (HSC.out _ HB1.out).mono ?_
    rintro e w2 ⟨rfl, hb2⟩
    have HB2 := Aside0.mk (below_step (HB1.out) hb2)
    have HK4 := Aside0.mk (blk_below (HK1.out) hb2)
    have HK5 := Aside0.mk (blk_below (HK2.out) hb2)
    have HK6 := Aside0.mk (blk_below (HK3.out) hb2)
    have HS2 := Aside0.mk hb2
    clear hb2
    have c_o0 : w2.cell? ⟨w.heap.size, 0, none⟩ = some (Value.slice As ss.length cs) := (blk_cell HK4.out 0).trans rfl
    have f_o0 := blk_frozen HK4.out 0
    have c_o1 : w2.cell? ⟨w.heap.size, 1, none⟩ = some (Value.slice At ts.length ct) := (blk_cell HK4.out 1).trans rfl
    have f_o1 := blk_frozen HK4.out 1
    have c_p0 : w2.cell? ⟨w.heap.size + 1, 0, none⟩ = some (Value.string t.schema) := (blk_cell HK5.out 0).trans rfl
    have f_p0 := blk_frozen HK5.out 0
    have c_p1 : w2.cell? ⟨w.heap.size + 1, 1, none⟩ = some (Value.string t.name) := (blk_cell HK5.out 1).trans rfl
    have f_p1 := blk_frozen HK5.out 1
    have c_p2 : w2.cell? ⟨w.heap.size + 1, 2, none⟩ = some (Value.string t.owner) := (blk_cell HK5.out 2).trans rfl
    have f_p2 := blk_frozen HK5.out 2
    have c_p3 : w2.cell? ⟨w.heap.size + 1, 3, none⟩ = some (Value.slice A3 t.cols.length c3) := (blk_cell HK5.out 3).trans rfl
    have f_p3 := blk_frozen HK5.out 3
    have c_p4 : w2.cell? ⟨w.heap.size + 1, 4, none⟩ = some (Value.slice A4 t.rules.length c4) := (blk_cell HK5.out 4).trans rfl
    have f_p4 := blk_frozen HK5.out 4
    have c_z0 : w2.cell? ⟨w.heap.size + 1 + 1, 0, none⟩ = some (Value.slice none 0 0) := (blk_cell HK6.out 0).trans rfl
    have f_z0 := blk_frozen HK6.out 0
    have c_z1 : w2.cell? ⟨w.heap.size + 1 + 1, 1, none⟩ = some (Value.slice none 0 0) := (blk_cell HK6.out 1).trans rfl
    have f_z1 := blk_frozen HK6.out 1
    go_wp2_with fail
    clear c_o0 f_o0 c_o1 f_o1 c_p0 f_p0 c_p1 f_p1 c_p2 f_p2 c_p3 f_p3 c_p4 f_p4 c_z0 f_z0 c_z1 f_z1
    refine (HTB.out _ HB2.out).mono ?_
    rintro e w3 ⟨rfl, hb3⟩
    have HB3 := Aside0.mk (below_step (HB2.out) hb3)
    have HK7 := Aside0.mk (blk_below (HK4.out) hb3)
    have HK8 := Aside0.mk (blk_below (HK5.out) hb3)
    have HK9 := Aside0.mk (blk_below (HK6.out) hb3)
    have HS3 := Aside0.mk hb3
    clear hb3
    have c_o0 : w3.cell? ⟨w.heap.size, 0, none⟩ = some (Value.slice As ss.length cs) := (blk_cell HK7.out 0).trans rfl
    have f_o0 := blk_frozen HK7.out 0
    have c_o1 : w3.cell? ⟨w.heap.size, 1, none⟩ = some (Value.slice At ts.length ct) := (blk_cell HK7.out 1).trans rfl
    have f_o1 := blk_frozen HK7.out 1
    have c_p0 : w3.cell? ⟨w.heap.size + 1, 0, none⟩ = some (Value.string t.schema) := (blk_cell HK8.out 0).trans rfl
    have f_p0 := blk_frozen HK8.out 0
    have c_p1 : w3.cell? ⟨w.heap.size + 1, 1, none⟩ = some (Value.string t.name) := (blk_cell HK8.out 1).trans rfl
    have f_p1 := blk_frozen HK8.out 1
    have c_p2 : w3.cell? ⟨w.heap.size + 1, 2, none⟩ = some (Value.string t.owner) := (blk_cell HK8.out 2).trans rfl
    have f_p2 := blk_frozen HK8.out 2
    have c_p3 : w3.cell? ⟨w.heap.size + 1, 3, none⟩ = some (Value.slice A3 t.cols.length c3) := (blk_cell HK8.out 3).trans rfl
    have f_p3 := blk_frozen HK8.out 3
    have c_p4 : w3.cell? ⟨w.heap.size + 1, 4, none⟩ = some (Value.slice A4 t.rules.length c4) := (blk_cell HK8.out 4).trans rfl
    have f_p4 := blk_frozen HK8.out 4
    have c_z0 : w3.cell? ⟨w.heap.size + 1 + 1, 0, none⟩ = some (Value.slice none 0 0) := (blk_cell HK9.out 0).trans rfl
    have f_z0 := blk_frozen HK9.out 0
    have c_z1 : w3.cell? ⟨w.heap.size + 1 + 1, 1, none⟩ = some (Value.slice none 0 0) := (blk_cell HK9.out 1).trans rfl
    have f_z1 := blk_frozen HK9.out 1
    go_wp2_with fail
    clear c_o0 f_o0 c_o1 f_o1 c_p0 f_p0 c_p1 f_p1 c_p2 f_p2 c_p3 f_p3 c_p4 f_p4 c_z0 f_z0 c_z1 f_z1
    refine (HTC.out _ HB3.out).mono ?_
    rintro e w4 ⟨rfl, hb4⟩
    have HB4 := Aside0.mk (below_step (HB3.out) hb4)
    have HK10 := Aside0.mk (blk_below (HK7.out) hb4)
    have HK11 := Aside0.mk (blk_below (HK8.out) hb4)
    have HK12 := Aside0.mk (blk_below (HK9.out) hb4)
    have HS4 := Aside0.mk hb4
    clear hb4
    have c_o0 : w4.cell? ⟨w.heap.size, 0, none⟩ = some (Value.slice As ss.length cs) := (blk_cell HK10.out 0).trans rfl
    have f_o0 := blk_frozen HK10.out 0
    have c_o1 : w4.cell? ⟨w.heap.size, 1, none⟩ = some (Value.slice At ts.length ct) := (blk_cell HK10.out 1).trans rfl
    have f_o1 := blk_frozen HK10.out 1
    have c_p0 : w4.cell? ⟨w.heap.size + 1, 0, none⟩ = some (Value.string t.schema) := (blk_cell HK11.out 0).trans rfl
    have f_p0 := blk_frozen HK11.out 0
    have c_p1 : w4.cell? ⟨w.heap.size + 1, 1, none⟩ = some (Value.string t.name) := (blk_cell HK11.out 1).trans rfl
    have f_p1 := blk_frozen HK11.out 1
    have c_p2 : w4.cell? ⟨w.heap.size + 1, 2, none⟩ = some (Value.string t.owner) := (blk_cell HK11.out 2).trans rfl
    have f_p2 := blk_frozen HK11.out 2
    have c_p3 : w4.cell? ⟨w.heap.size + 1, 3, none⟩ = some (Value.slice A3 t.cols.length c3) := (blk_cell HK11.out 3).trans rfl
    have f_p3 := blk_frozen HK11.out 3
    have c_p4 : w4.cell? ⟨w.heap.size + 1, 4, none⟩ = some (Value.slice A4 t.rules.length c4) := (blk_cell HK11.out 4).trans rfl
    have f_p4 := blk_frozen HK11.out 4
    have c_z0 : w4.cell? ⟨w.heap.size + 1 + 1, 0, none⟩ = some (Value.slice none 0 0) := (blk_cell HK12.out 0).trans rfl
    have f_z0 := blk_frozen HK12.out 0
    have c_z1 : w4.cell? ⟨w.heap.size + 1 + 1, 1, none⟩ = some (Value.slice none 0 0) := (blk_cell HK12.out 1).trans rfl
    have f_z1 := blk_frozen HK12.out 1
    go_wp2_with fail
    clear c_o0 f_o0 c_o1 f_o1 c_p0 f_p0 c_p1 f_p1 c_p2 f_p2 c_p3 f_p3 c_p4 f_p4 c_z0 f_z0 c_z1 f_z1
    refine (HNO.out _ _).mono ?_
    rintro e w5 ⟨rfl, hb5⟩
    have HB5 := Aside0.mk (below_step (HB4.out) hb5)
    have HK13 := Aside0.mk (blk_below (HK10.out) hb5)
    have HK14 := Aside0.mk (blk_below (HK11.out) hb5)
    have HK15 := Aside0.mk (blk_below (HK12.out) hb5)
    have HS5 := Aside0.mk hb5
    clear hb5
    have c_o0 : w5.cell? ⟨w.heap.size, 0, none⟩ = some (Value.slice As ss.length cs) := (blk_cell HK13.out 0).trans rfl
    have f_o0 := blk_frozen HK13.out 0
    have c_o1 : w5.cell? ⟨w.heap.size, 1, none⟩ = some (Value.slice At ts.length ct) := (blk_cell HK13.out 1).trans rfl
    have f_o1 := blk_frozen HK13.out 1
    have c_p0 : w5.cell? ⟨w.heap.size + 1, 0, none⟩ = some (Value.string t.schema) := (blk_cell HK14.out 0).trans rfl
    have f_p0 := blk_frozen HK14.out 0
    have c_p1 : w5.cell? ⟨w.heap.size + 1, 1, none⟩ = some (Value.string t.name) := (blk_cell HK14.out 1).trans rfl
    have f_p1 := blk_frozen HK14.out 1
    have c_p2 : w5.cell? ⟨w.heap.size + 1, 2, none⟩ = some (Value.string t.owner) := (blk_cell HK14.out 2).trans rfl
    have f_p2 := blk_frozen HK14.out 2
    have c_p3 : w5.cell? ⟨w.heap.size + 1, 3, none⟩ = some (Value.slice A3 t.cols.length c3) := (blk_cell HK14.out 3).trans rfl
    have f_p3 := blk_frozen HK14.out 3
    have c_p4 : w5.cell? ⟨w.heap.size + 1, 4, none⟩ = some (Value.slice A4 t.rules.length c4) := (blk_cell HK14.out 4).trans rfl
    have f_p4 := blk_frozen HK14.out 4
    have c_z0 : w5.cell? ⟨w.heap.size + 1 + 1, 0, none⟩ = some (Value.slice none 0 0) := (blk_cell HK15.out 0).trans rfl
    have f_z0 := blk_frozen HK15.out 0
    have c_z1 : w5.cell? ⟨w.heap.size + 1 + 1, 1, none⟩ = some (Value.slice none 0 0) := (blk_cell HK15.out 1).trans rfl
    have f_z1 := blk_frozen HK15.out 1
    go_wp2
    refine bodyPost_ret (v := .tuple #[.agg #[.slice none 0 0, .slice none 0 0], .int .i64 2]) (by simp [results, Try.results34, go_sem, *]) rfl ?_
    exact zeroOut (g := w.heap.size + 1 + 1) (n := 2) HB5.out (by omega)
  rw [if_neg h8] at HE0
  have hd8 : decide ((8 : Int) ≤ (cnt (ofS t.schema) ts : Int)) = false := decide_eq_false (by omega)
  cases h5 : mayCols t.cols with
  | false =>
    rw [chgT_at (n := 63) HK.out (by rw [HE0.out, h5]; rfl)]
    rw [h5] at HCO
    clear h5 HE0 HOW HCP HK
    go_enter Try.func34, Try.ntmps34
    have c_o0 : (((w.alloc (.cells #[Value.slice As ss.length cs, Value.slice At ts.length ct] 26)).alloc (.cells #[Value.string t.schema, Value.string t.name, Value.string t.owner, Value.slice A3 t.cols.length c3, Value.slice A4 t.rules.length c4] 35)).alloc (.cells #[Value.slice none 0 0, Value.slice none 0 0] 26)).cell? ⟨w.heap.size, 0, none⟩ = some (Value.slice As ss.length cs) := (blk_cell HX0.out.2.1 0).trans rfl
    have f_o0 := blk_frozen HX0.out.2.1 0
    have c_o1 : (((w.alloc (.cells #[Value.slice As ss.length cs, Value.slice At ts.length ct] 26)).alloc (.cells #[Value.string t.schema, Value.string t.name, Value.string t.owner, Value.slice A3 t.cols.length c3, Value.slice A4 t.rules.length c4] 35)).alloc (.cells #[Value.slice none 0 0, Value.slice none 0 0] 26)).cell? ⟨w.heap.size, 1, none⟩ = some (Value.slice At ts.length ct) := (blk_cell HX0.out.2.1 1).trans rfl
    have f_o1 := blk_frozen HX0.out.2.1 1
    have c_p0 : (((w.alloc (.cells #[Value.slice As ss.length cs, Value.slice At ts.length ct] 26)).alloc (.cells #[Value.string t.schema, Value.string t.name, Value.string t.owner, Value.slice A3 t.cols.length c3, Value.slice A4 t.rules.length c4] 35)).alloc (.cells #[Value.slice none 0 0, Value.slice none 0 0] 26)).cell? ⟨w.heap.size + 1, 0, none⟩ = some (Value.string t.schema) := (blk_cell HX0.out.2.2.1 0).trans rfl
    have f_p0 := blk_frozen HX0.out.2.2.1 0
    have c_p1 : (((w.alloc (.cells #[Value.slice As ss.length cs, Value.slice At ts.length ct] 26)).alloc (.cells #[Value.string t.schema, Value.string t.name, Value.string t.owner, Value.slice A3 t.cols.length c3, Value.slice A4 t.rules.length c4] 35)).alloc (.cells #[Value.slice none 0 0, Value.slice none 0 0] 26)).cell? ⟨w.heap.size + 1, 1, none⟩ = some (Value.string t.name) := (blk_cell HX0.out.2.2.1 1).trans rfl
    have f_p1 := blk_frozen HX0.out.2.2.1 1
    have c_p2 : (((w.alloc (.cells #[Value.slice As ss.length cs, Value.slice At ts.length ct] 26)).alloc (.cells #[Value.string t.schema, Value.string t.name, Value.string t.owner, Value.slice A3 t.cols.length c3, Value.slice A4 t.rules.length c4] 35)).alloc (.cells #[Value.slice none 0 0, Value.slice none 0 0] 26)).cell? ⟨w.heap.size + 1, 2, none⟩ = some (Value.string t.owner) := (blk_cell HX0.out.2.2.1 2).trans rfl
    have f_p2 := blk_frozen HX0.out.2.2.1 2
    have c_p3 : (((w.alloc (.cells #[Value.slice As ss.length cs, Value.slice At ts.length ct] 26)).alloc (.cells #[Value.string t.schema, Value.string t.name, Value.string t.owner, Value.slice A3 t.cols.length c3, Value.slice A4 t.rules.length c4] 35)).alloc (.cells #[Value.slice none 0 0, Value.slice none 0 0] 26)).cell? ⟨w.heap.size + 1, 3, none⟩ = some (Value.slice A3 t.cols.length c3) := (blk_cell HX0.out.2.2.1 3).trans rfl
    have f_p3 := blk_frozen HX0.out.2.2.1 3
    have c_p4 : (((w.alloc (.cells #[Value.slice As ss.length cs, Value.slice At ts.length ct] 26)).alloc (.cells #[Value.string t.schema, Value.string t.name, Value.string t.owner, Value.slice A3 t.cols.length c3, Value.slice A4 t.rules.length c4] 35)).alloc (.cells #[Value.slice none 0 0, Value.slice none 0 0] 26)).cell? ⟨w.heap.size + 1, 4, none⟩ = some (Value.slice A4 t.rules.length c4) := (blk_cell HX0.out.2.2.1 4).trans rfl
    have f_p4 := blk_frozen HX0.out.2.2.1 4
    have c_z0 : (((w.alloc (.cells #[Value.slice As ss.length cs, Value.slice At ts.length ct] 26)).alloc (.cells #[Value.string t.schema, Value.string t.name, Value.string t.owner, Value.slice A3 t.cols.length c3, Value.slice A4 t.rules.length c4] 35)).alloc (.cells #[Value.slice none 0 0, Value.slice none 0 0] 26)).cell? ⟨w.heap.size + 1 + 1, 0, none⟩ = some (Value.slice none 0 0) := (blk_cell HX0.out.2.2.2 0).trans rfl
    have f_z0 := blk_frozen HX0.out.2.2.2 0
    have c_z1 : (((w.alloc (.cells #[Value.slice As ss.length cs, Value.slice At ts.length ct] 26)).alloc (.cells #[Value.string t.schema, Value.string t.name, Value.string t.owner, Value.slice A3 t.cols.length c3, Value.slice A4 t.rules.length c4] 35)).alloc (.cells #[Value.slice none 0 0, Value.slice none 0 0] 26)).cell? ⟨w.heap.size + 1 + 1, 1, none⟩ = some (Value.slice none 0 0) := (blk_cell HX0.out.2.2.2 1).trans rfl
    have f_z1 := blk_frozen HX0.out.2.2.2 1
    go_wp2_with fail
    clear c_o0 f_o0 c_o1 f_o1 c_p0 f_p0 c_p1 f_p1 c_p2 f_p2 c_p3 f_p3 c_p4 f_p4 c_z0 f_z0 c_z1 f_z1
    refine (HCK.out _ HX0.out.1).mono ?_
    rintro e w1 ⟨rfl, hb1⟩
    have HB1 := Aside0.mk (below_step (HX0.out.1) hb1)
    have HK1 := Aside0.mk (blk_below (HX0.out.2.1) hb1)
    have HK2 := Aside0.mk (blk_below (HX0.out.2.2.1) hb1)
    have HK3 := Aside0.mk (blk_below (HX0.out.2.2.2) hb1)
    have HS1 := Aside0.mk hb1
    clear hb1
    have c_o0 : w1.cell? ⟨w.heap.size, 0, none⟩ = some (Value.slice As ss.length cs) := (blk_cell HK1.out 0).trans rfl
    have f_o0 := blk_frozen HK1.out 0
    have c_o1 : w1.cell? ⟨w.heap.size, 1, none⟩ = some (Value.slice At ts.length ct) := (blk_cell HK1.out 1).trans rfl
    have f_o1 := blk_frozen HK1.out 1
    have c_p0 : w1.cell? ⟨w.heap.size + 1, 0, none⟩ = some (Value.string t.schema) := (blk_cell HK2.out 0).trans rfl
    have f_p0 := blk_frozen HK2.out 0
    have c_p1 : w1.cell? ⟨w.heap.size + 1, 1, none⟩ = some (Value.string t.name) := (blk_cell HK2.out 1).trans rfl
    have f_p1 := blk_frozen HK2.out 1
    have c_p2 : w1.cell? ⟨w.heap.size + 1, 2, none⟩ = some (Value.string t.owner) := (blk_cell HK2.out 2).trans rfl
    have f_p2 := blk_frozen HK2.out 2
    have c_p3 : w1.cell? ⟨w.heap.size + 1, 3, none⟩ = some (Value.slice A3 t.cols.length c3) := (blk_cell HK2.out 3).trans rfl
    have f_p3 := blk_frozen HK2.out 3
    have c_p4 : w1.cell? ⟨w.heap.size + 1, 4, none⟩ = some (Value.slice A4 t.rules.length c4) := (blk_cell HK2.out 4).trans rfl
    have f_p4 := blk_frozen HK2.out 4
    have c_z0 : w1.cell? ⟨w.heap.size + 1 + 1, 0, none⟩ = some (Value.slice none 0 0) := (blk_cell HK3.out 0).trans rfl
    have f_z0 := blk_frozen HK3.out 0
    have c_z1 : w1.cell? ⟨w.heap.size + 1 + 1, 1, none⟩ = some (Value.slice none 0 0) := (blk_cell HK3.out 1).trans rfl
    have f_z1 := blk_frozen HK3.out 1
    go_wp2_with fail
    clear c_o0 f_o0 c_o1 f_o1 c_p0 f_p0 c_p1 f_p1 c_p2 f_p2 c_p3 f_p3 c_p4 f_p4 c_z0 f_z0 c_z1 f_z1
    refine (HN1.out _).mono ?_
    rintro e w_ ⟨rfl, rfl⟩
    have c_o0 : w1.cell? ⟨w.heap.size, 0, none⟩ = some (Value.slice As ss.length cs) := (blk_cell HK1.out 0).trans rfl
    have f_o0 := blk_frozen HK1.out 0
    have c_o1 : w1.cell? ⟨w.heap.size, 1, none⟩ = some (Value.slice At ts.length ct) := (blk_cell HK1.out 1).trans rfl
    have f_o1 := blk_frozen HK1.out 1
    have c_p0 : w1.cell? ⟨w.heap.size + 1, 0, none⟩ = some (Value.string t.schema) := (blk_cell HK2.out 0).trans rfl
    have f_p0 := blk_frozen HK2.out 0
    have c_p1 : w1.cell? ⟨w.heap.size + 1, 1, none⟩ = some (Value.string t.name) := (blk_cell HK2.out 1).trans rfl
    have f_p1 := blk_frozen HK2.out 1
    have c_p2 : w1.cell? ⟨w.heap.size + 1, 2, none⟩ = some (Value.string t.owner) := (blk_cell HK2.out 2).trans rfl
    have f_p2 := blk_frozen HK2.out 2
    have c_p3 : w1.cell? ⟨w.heap.size + 1, 3, none⟩ = some (Value.slice A3 t.cols.length c3) := (blk_cell HK2.out 3).trans rfl
    have f_p3 := blk_frozen HK2.out 3
    have c_p4 : w1.cell? ⟨w.heap.size + 1, 4, none⟩ = some (Value.slice A4 t.rules.length c4) := (blk_cell HK2.out 4).trans rfl
    have f_p4 := blk_frozen HK2.out 4
    have c_z0 : w1.cell? ⟨w.heap.size + 1 + 1, 0, none⟩ = some (Value.slice none 0 0) := (blk_cell HK3.out 0).trans rfl
    have f_z0 := blk_frozen HK3.out 0
    have c_z1 : w1.cell? ⟨w.heap.size + 1 + 1, 1, none⟩ = some (Value.slice none 0 0) := (blk_cell HK3.out 1).trans rfl
    have f_z1 := blk_frozen HK3.out 1
    go_wp2_with fail
    clear c_o0 f_o0 c_o1 f_o1 c_p0 f_p0 c_p1 f_p1 c_p2 f_p2 c_p3 f_p3 c_p4 f_p4 c_z0 f_z0 c_z1 f_z1
    refine (HN2.out _).mono ?_
    rintro e w_ ⟨rfl, rfl⟩
    have c_o0 : w1.cell? ⟨w.heap.size, 0, none⟩ = some (Value.slice As ss.length cs) := (blk_cell HK1.out 0).trans rfl
    have f_o0 := blk_frozen HK1.out 0
    have c_o1 : w1.cell? ⟨w.heap.size, 1, none⟩ = some (Value.slice At ts.length ct) := (blk_cell HK1.out 1).trans rfl
    have f_o1 := blk_frozen HK1.out 1
    have c_p0 : w1.cell? ⟨w.heap.size + 1, 0, none⟩ = some (Value.string t.schema) := (blk_cell HK2.out 0).trans rfl
    have f_p0 := blk_frozen HK2.out 0
    have c_p1 : w1.cell? ⟨w.heap.size + 1, 1, none⟩ = some (Value.string t.name) := (blk_cell HK2.out 1).trans rfl
    have f_p1 := blk_frozen HK2.out 1
    have c_p2 : w1.cell? ⟨w.heap.size + 1, 2, none⟩ = some (Value.string t.owner) := (blk_cell HK2.out 2).trans rfl
    have f_p2 := blk_frozen HK2.out 2
    have c_p3 : w1.cell? ⟨w.heap.size + 1, 3, none⟩ = some (Value.slice A3 t.cols.length c3) := (blk_cell HK2.out 3).trans rfl
    have f_p3 := blk_frozen HK2.out 3
    have c_p4 : w1.cell? ⟨w.heap.size + 1, 4, none⟩ = some (Value.slice A4 t.rules.length c4) := (blk_cell HK2.out 4).trans rfl
    have f_p4 := blk_frozen HK2.out 4
    have c_z0 : w1.cell? ⟨w.heap.size + 1 + 1, 0, none⟩ = some (Value.slice none 0 0) := (blk_cell HK3.out 0).trans rfl
    have f_z0 := blk_frozen HK3.out 0
    have c_z1 : w1.cell? ⟨w.heap.size + 1 + 1, 1, none⟩ = some (Value.slice none 0 0) := (blk_cell HK3.out 1).trans rfl
    have f_z1 := blk_frozen HK3.out 1
    go_wp2_with fail
    clear c_o0 f_o0 c_o1 f_o1 c_p0 f_p0 c_p1 f_p1 c_p2 f_p2 c_p3 f_p3 c_p4 f_p4 c_z0 f_z0 c_z1 f_z1
    refine (HSC.out _ HB1.out).mono ?_
    rintro e w2 ⟨rfl, hb2⟩
    have HB2 := Aside0.mk (below_step (HB1.out) hb2)
    have HK4 := Aside0.mk (blk_below (HK1.out) hb2)
    have HK5 := Aside0.mk (blk_below (HK2.out) hb2)
    have HK6 := Aside0.mk (blk_below (HK3.out) hb2)
    have HS2 := Aside0.mk hb2
    clear hb2
    have c_o0 : w2.cell? ⟨w.heap.size, 0, none⟩ = some (Value.slice As ss.length cs) := (blk_cell HK4.out 0).trans rfl
    have f_o0 := blk_frozen HK4.out 0
    have c_o1 : w2.cell? ⟨w.heap.size, 1, none⟩ = some (Value.slice At ts.length ct) := (blk_cell HK4.out 1).trans rfl
    have f_o1 := blk_frozen HK4.out 1
    have c_p0 : w2.cell? ⟨w.heap.size + 1, 0, none⟩ = some (Value.string t.schema) := (blk_cell HK5.out 0).trans rfl
    have f_p0 := blk_frozen HK5.out 0
    have c_p1 : w2.cell? ⟨w.heap.size + 1, 1, none⟩ = some (Value.string t.name) := (blk_cell HK5.out 1).trans rfl
    have f_p1 := blk_frozen HK5.out 1
    have c_p2 : w2.cell? ⟨w.heap.size + 1, 2, none⟩ = some (Value.string t.owner) := (blk_cell HK5.out 2).trans rfl
    have f_p2 := blk_frozen HK5.out 2
    have c_p3 : w2.cell? ⟨w.heap.size + 1, 3, none⟩ = some (Value.slice A3 t.cols.length c3) := (blk_cell HK5.out 3).trans rfl
    have f_p3 := blk_frozen HK5.out 3
    have c_p4 : w2.cell? ⟨w.heap.size + 1, 4, none⟩ = some (Value.slice A4 t.rules.length c4) := (blk_cell HK5.out 4).trans rfl
    have f_p4 := blk_frozen HK5.out 4
    have c_z0 : w2.cell? ⟨w.heap.size + 1 + 1, 0, none⟩ = some (Value.slice none 0 0) := (blk_cell HK6.out 0).trans rfl
    have f_z0 := blk_frozen HK6.out 0
    have c_z1 : w2.cell? ⟨w.heap.size + 1 + 1, 1, none⟩ = some (Value.slice none 0 0) := (blk_cell HK6.out 1).trans rfl
    have f_z1 := blk_frozen HK6.out 1
    go_wp2_with fail
    clear c_o0 f_o0 c_o1 f_o1 c_p0 f_p0 c_p1 f_p1 c_p2 f_p2 c_p3 f_p3 c_p4 f_p4 c_z0 f_z0 c_z1 f_z1
    refine (HTB.out _ HB2.out).mono ?_
    rintro e w3 ⟨rfl, hb3⟩
    have HB3 := Aside0.mk (below_step (HB2.out) hb3)
    have HK7 := Aside0.mk (blk_below (HK4.out) hb3)
    have HK8 := Aside0.mk (blk_below (HK5.out) hb3)
    have HK9 := Aside0.mk (blk_below (HK6.out) hb3)
    have HS3 := Aside0.mk hb3
    clear hb3
    have c_o0 : w3.cell? ⟨w.heap.size, 0, none⟩ = some (Value.slice As ss.length cs) := (blk_cell HK7.out 0).trans rfl
    have f_o0 := blk_frozen HK7.out 0
    have c_o1 : w3.cell? ⟨w.heap.size, 1, none⟩ = some (Value.slice At ts.length ct) := (blk_cell HK7.out 1).trans rfl
    have f_o1 := blk_frozen HK7.out 1
    have c_p0 : w3.cell? ⟨w.heap.size + 1, 0, none⟩ = some (Value.string t.schema) := (blk_cell HK8.out 0).trans rfl
    have f_p0 := blk_frozen HK8.out 0
    have c_p1 : w3.cell? ⟨w.heap.size + 1, 1, none⟩ = some (Value.string t.name) := (blk_cell HK8.out 1).trans rfl
    have f_p1 := blk_frozen HK8.out 1
    have c_p2 : w3.cell? ⟨w.heap.size + 1, 2, none⟩ = some (Value.string t.owner) := (blk_cell HK8.out 2).trans rfl
    have f_p2 := blk_frozen HK8.out 2
    have c_p3 : w3.cell? ⟨w.heap.size + 1, 3, none⟩ = some (Value.slice A3 t.cols.length c3) := (blk_cell HK8.out 3).trans rfl
    have f_p3 := blk_frozen HK8.out 3
    have c_p4 : w3.cell? ⟨w.heap.size + 1, 4, none⟩ = some (Value.slice A4 t.rules.length c4) := (blk_cell HK8.out 4).trans rfl
    have f_p4 := blk_frozen HK8.out 4
    have c_z0 : w3.cell? ⟨w.heap.size + 1 + 1, 0, none⟩ = some (Value.slice none 0 0) := (blk_cell HK9.out 0).trans rfl
    have f_z0 := blk_frozen HK9.out 0
    have c_z1 : w3.cell? ⟨w.heap.size + 1 + 1, 1, none⟩ = some (Value.slice none 0 0) := (blk_cell HK9.out 1).trans rfl
    have f_z1 := blk_frozen HK9.out 1
    go_wp2_with fail
    clear c_o0 f_o0 c_o1 f_o1 c_p0 f_p0 c_p1 f_p1 c_p2 f_p2 c_p3 f_p3 c_p4 f_p4 c_z0 f_z0 c_z1 f_z1
    refine (HTC.out _ HB3.out).mono ?_
    rintro e w4 ⟨rfl, hb4⟩
    have HB4 := Aside0.mk (below_step (HB3.out) hb4)
    have HK10 := Aside0.mk (blk_below (HK7.out) hb4)
    have HK11 := Aside0.mk (blk_below (HK8.out) hb4)
    have HK12 := Aside0.mk (blk_below (HK9.out) hb4)
    have HS4 := Aside0.mk hb4
    clear hb4
    have c_o0 : w4.cell? ⟨w.heap.size, 0, none⟩ = some (Value.slice As ss.length cs) := (blk_cell HK10.out 0).trans rfl
    have f_o0 := blk_frozen HK10.out 0
    have c_o1 : w4.cell? ⟨w.heap.size, 1, none⟩ = some (Value.slice At ts.length ct) := (blk_cell HK10.out 1).trans rfl
    have f_o1 := blk_frozen HK10.out 1
    have c_p0 : w4.cell? ⟨w.heap.size + 1, 0, none⟩ = some (Value.string t.schema) := (blk_cell HK11.out 0).trans rfl
    have f_p0 := blk_frozen HK11.out 0
    have c_p1 : w4.cell? ⟨w.heap.size + 1, 1, none⟩ = some (Value.string t.name) := (blk_cell HK11.out 1).trans rfl
    have f_p1 := blk_frozen HK11.out 1
    have c_p2 : w4.cell? ⟨w.heap.size + 1, 2, none⟩ = some (Value.string t.owner) := (blk_cell HK11.out 2).trans rfl
    have f_p2 := blk_frozen HK11.out 2
    have c_p3 : w4.cell? ⟨w.heap.size + 1, 3, none⟩ = some (Value.slice A3 t.cols.length c3) := (blk_cell HK11.out 3).trans rfl
    have f_p3 := blk_frozen HK11.out 3
    have c_p4 : w4.cell? ⟨w.heap.size + 1, 4, none⟩ = some (Value.slice A4 t.rules.length c4) := (blk_cell HK11.out 4).trans rfl
    have f_p4 := blk_frozen HK11.out 4
    have c_z0 : w4.cell? ⟨w.heap.size + 1 + 1, 0, none⟩ = some (Value.slice none 0 0) := (blk_cell HK12.out 0).trans rfl
    have f_z0 := blk_frozen HK12.out 0
    have c_z1 : w4.cell? ⟨w.heap.size + 1 + 1, 1, none⟩ = some (Value.slice none 0 0) := (blk_cell HK12.out 1).trans rfl
    have f_z1 := blk_frozen HK12.out 1
    go_wp2_with fail
    clear c_o0 f_o0 c_o1 f_o1 c_p0 f_p0 c_p1 f_p1 c_p2 f_p2 c_p3 f_p3 c_p4 f_p4 c_z0 f_z0 c_z1 f_z1
    refine (HCO.out _ HB4.out).mono ?_
    rintro e w5 ⟨rfl, hb5⟩
    have HB5 := Aside0.mk (below_step (HB4.out) hb5)
    have HK13 := Aside0.mk (blk_below (HK10.out) hb5)
    have HK14 := Aside0.mk (blk_below (HK11.out) hb5)
    have HK15 := Aside0.mk (blk_below (HK12.out) hb5)
    have HS5 := Aside0.mk hb5
    clear hb5
    have c_o0 : w5.cell? ⟨w.heap.size, 0, none⟩ = some (Value.slice As ss.length cs) := (blk_cell HK13.out 0).trans rfl
    have f_o0 := blk_frozen HK13.out 0
    have c_o1 : w5.cell? ⟨w.heap.size, 1, none⟩ = some (Value.slice At ts.length ct) := (blk_cell HK13.out 1).trans rfl
    have f_o1 := blk_frozen HK13.out 1
    have c_p0 : w5.cell? ⟨w.heap.size + 1, 0, none⟩ = some (Value.string t.schema) := (blk_cell HK14.out 0).trans rfl
    have f_p0 := blk_frozen HK14.out 0
    have c_p1 : w5.cell? ⟨w.heap.size + 1, 1, none⟩ = some (Value.string t.name) := (blk_cell HK14.out 1).trans rfl
    have f_p1 := blk_frozen HK14.out 1
    have c_p2 : w5.cell? ⟨w.heap.size + 1, 2, none⟩ = some (Value.string t.owner) := (blk_cell HK14.out 2).trans rfl
    have f_p2 := blk_frozen HK14.out 2
    have c_p3 : w5.cell? ⟨w.heap.size + 1, 3, none⟩ = some (Value.slice A3 t.cols.length c3) := (blk_cell HK14.out 3).trans rfl
    have f_p3 := blk_frozen HK14.out 3
    have c_p4 : w5.cell? ⟨w.heap.size + 1, 4, none⟩ = some (Value.slice A4 t.rules.length c4) := (blk_cell HK14.out 4).trans rfl
    have f_p4 := blk_frozen HK14.out 4
    have c_z0 : w5.cell? ⟨w.heap.size + 1 + 1, 0, none⟩ = some (Value.slice none 0 0) := (blk_cell HK15.out 0).trans rfl
    have f_z0 := blk_frozen HK15.out 0
    have c_z1 : w5.cell? ⟨w.heap.size + 1 + 1, 1, none⟩ = some (Value.slice none 0 0) := (blk_cell HK15.out 1).trans rfl
    have f_z1 := blk_frozen HK15.out 1
    go_wp2_with fail
    clear c_o0 f_o0 c_o1 f_o1 c_p0 f_p0 c_p1 f_p1 c_p2 f_p2 c_p3 f_p3 c_p4 f_p4 c_z0 f_z0 c_z1 f_z1
    refine (HNO.out _ _).mono ?_
    rintro e w6 ⟨rfl, hb6⟩
    have HB6 := Aside0.mk (below_step (HB5.out) hb6)
    have HK16 := Aside0.mk (blk_below (HK13.out) hb6)
    have HK17 := Aside0.mk (blk_below (HK14.out) hb6)
    have HK18 := Aside0.mk (blk_below (HK15.out) hb6)
    have HS6 := Aside0.mk hb6
    clear hb6
    have c_o0 : w6.cell? ⟨w.heap.size, 0, none⟩ = some (Value.slice As ss.length cs) := (blk_cell HK16.out 0).trans rfl
    have f_o0 := blk_frozen HK16.out 0
    have c_o1 : w6.cell? ⟨w.heap.size, 1, none⟩ = some (Value.slice At ts.length ct) := (blk_cell HK16.out 1).trans rfl
    have f_o1 := blk_frozen HK16.out 1
    have c_p0 : w6.cell? ⟨w.heap.size + 1, 0, none⟩ = some (Value.string t.schema) := (blk_cell HK17.out 0).trans rfl
    have f_p0 := blk_frozen HK17.out 0
    have c_p1 : w6.cell? ⟨w.heap.size + 1, 1, none⟩ = some (Value.string t.name) := (blk_cell HK17.out 1).trans rfl
    have f_p1 := blk_frozen HK17.out 1
    have c_p2 : w6.cell? ⟨w.heap.size + 1, 2, none⟩ = some (Value.string t.owner) := (blk_cell HK17.out 2).trans rfl
    have f_p2 := blk_frozen HK17.out 2
    have c_p3 : w6.cell? ⟨w.heap.size + 1, 3, none⟩ = some (Value.slice A3 t.cols.length c3) := (blk_cell HK17.out 3).trans rfl
    have f_p3 := blk_frozen HK17.out 3
    have c_p4 : w6.cell? ⟨w.heap.size + 1, 4, none⟩ = some (Value.slice A4 t.rules.length c4) := (blk_cell HK17.out 4).trans rfl
    have f_p4 := blk_frozen HK17.out 4
    have c_z0 : w6.cell? ⟨w.heap.size + 1 + 1, 0, none⟩ = some (Value.slice none 0 0) := (blk_cell HK18.out 0).trans rfl
    have f_z0 := blk_frozen HK18.out 0
    have c_z1 : w6.cell? ⟨w.heap.size + 1 + 1, 1, none⟩ = some (Value.slice none 0 0) := (blk_cell HK18.out 1).trans rfl
    have f_z1 := blk_frozen HK18.out 1
    go_wp2
    refine bodyPost_ret (v := .tuple #[.agg #[.slice none 0 0, .slice none 0 0], .int .i64 63]) (by simp [results, Try.results34, go_sem, *]) rfl ?_
    exact zeroOut (g := w.heap.size + 1 + 1) (n := 63) HB6.out (by omega)
  | true =>
  rw [h5] at HE0 HCO
  by_cases h6 : t.rules.length = 0
  rotate_left
  · rw [chgT_at (n := 63) HK.out (by rw [HE0.out, decide_eq_false h6]; rfl)]
    have hd6 : decide ((0 : Int) < (t.rules.length : Int)) = true := decide_eq_true (by omega)
    have hd6n : 0 < t.rules.length := by omega
    clear h5 h6 HE0 HOW HCP HK
    go_enter Try.func34, Try.ntmps34
    have c_o0 : (((w.alloc (.cells #[Value.slice As ss.length cs, Value.slice At ts.length ct] 26)).alloc (.cells #[Value.string t.schema, Value.string t.name, Value.string t.owner, Value.slice A3 t.cols.length c3, Value.slice A4 t.rules.length c4] 35)).alloc (.cells #[Value.slice none 0 0, Value.slice none 0 0] 26)).cell? ⟨w.heap.size, 0, none⟩ = some (Value.slice As ss.length cs) := (blk_cell HX0.out.2.1 0).trans rfl
    have f_o0 := blk_frozen HX0.out.2.1 0
    have c_o1 : (((w.alloc (.cells #[Value.slice As ss.length cs, Value.slice At ts.length ct] 26)).alloc (.cells #[Value.string t.schema, Value.string t.name, Value.string t.owner, Value.slice A3 t.cols.length c3, Value.slice A4 t.rules.length c4] 35)).alloc (.cells #[Value.slice none 0 0, Value.slice none 0 0] 26)).cell? ⟨w.heap.size, 1, none⟩ = some (Value.slice At ts.length ct) := (blk_cell HX0.out.2.1 1).trans rfl
    have f_o1 := blk_frozen HX0.out.2.1 1
    have c_p0 : (((w.alloc (.cells #[Value.slice As ss.length cs, Value.slice At ts.length ct] 26)).alloc (.cells #[Value.string t.schema, Value.string t.name, Value.string t.owner, Value.slice A3 t.cols.length c3, Value.slice A4 t.rules.length c4] 35)).alloc (.cells #[Value.slice none 0 0, Value.slice none 0 0] 26)).cell? ⟨w.heap.size + 1, 0, none⟩ = some (Value.string t.schema) := (blk_cell HX0.out.2.2.1 0).trans rfl
    have f_p0 := blk_frozen HX0.out.2.2.1 0
    have c_p1 : (((w.alloc (.cells #[Value.slice As ss.length cs, Value.slice At ts.length ct] 26)).alloc (.cells #[Value.string t.schema, Value.string t.name, Value.string t.owner, Value.slice A3 t.cols.length c3, Value.slice A4 t.rules.length c4] 35)).alloc (.cells #[Value.slice none 0 0, Value.slice none 0 0] 26)).cell? ⟨w.heap.size + 1, 1, none⟩ = some (Value.string t.name) := (blk_cell HX0.out.2.2.1 1).trans rfl
    have f_p1 := blk_frozen HX0.out.2.2.1 1
    have c_p2 : (((w.alloc (.cells #[Value.slice As ss.length cs, Value.slice At ts.length ct] 26)).alloc (.cells #[Value.string t.schema, Value.string t.name, Value.string t.owner, Value.slice A3 t.cols.length c3, Value.slice A4 t.rules.length c4] 35)).alloc (.cells #[Value.slice none 0 0, Value.slice none 0 0] 26)).cell? ⟨w.heap.size + 1, 2, none⟩ = some (Value.string t.owner) := (blk_cell HX0.out.2.2.1 2).trans rfl
    have f_p2 := blk_frozen HX0.out.2.2.1 2
    have c_p3 : (((w.alloc (.cells #[Value.slice As ss.length cs, Value.slice At ts.length ct] 26)).alloc (.cells #[Value.string t.schema, Value.string t.name, Value.string t.owner, Value.slice A3 t.cols.length c3, Value.slice A4 t.rules.length c4] 35)).alloc (.cells #[Value.slice none 0 0, Value.slice none 0 0] 26)).cell? ⟨w.heap.size + 1, 3, none⟩ = some (Value.slice A3 t.cols.length c3) := (blk_cell HX0.out.2.2.1 3).trans rfl
    have f_p3 := blk_frozen HX0.out.2.2.1 3
    have c_p4 : (((w.alloc (.cells #[Value.slice As ss.length cs, Value.slice At ts.length ct] 26)).alloc (.cells #[Value.string t.schema, Value.string t.name, Value.string t.owner, Value.slice A3 t.cols.length c3, Value.slice A4 t.rules.length c4] 35)).alloc (.cells #[Value.slice none 0 0, Value.slice none 0 0] 26)).cell? ⟨w.heap.size + 1, 4, none⟩ = some (Value.slice A4 t.rules.length c4) := (blk_cell HX0.out.2.2.1 4).trans rfl
    have f_p4 := blk_frozen HX0.out.2.2.1 4
    have c_z0 : (((w.alloc (.cells #[Value.slice As ss.length cs, Value.slice At ts.length ct] 26)).alloc (.cells #[Value.string t.schema, Value.string t.name, Value.string t.owner, Value.slice A3 t.cols.length c3, Value.slice A4 t.rules.length c4] 35)).alloc (.cells #[Value.slice none 0 0, Value.slice none 0 0] 26)).cell? ⟨w.heap.size + 1 + 1, 0, none⟩ = some (Value.slice none 0 0) := (blk_cell HX0.out.2.2.2 0).trans rfl
    have f_z0 := blk_frozen HX0.out.2.2.2 0
    have c_z1 : (((w.alloc (.cells #[Value.slice As ss.length cs, Value.slice At ts.length ct] 26)).alloc (.cells #[Value.string t.schema, Value.string t.name, Value.string t.owner, Value.slice A3 t.cols.length c3, Value.slice A4 t.rules.length c4] 35)).alloc (.cells #[Value.slice none 0 0, Value.slice none 0 0] 26)).cell? ⟨w.heap.size + 1 + 1, 1, none⟩ = some (Value.slice none 0 0) := (blk_cell HX0.out.2.2.2 1).trans rfl
    have f_z1 := blk_frozen HX0.out.2.2.2 1
    go_wp2_with fail
    clear c_o0 f_o0 c_o1 f_o1 c_p0 f_p0 c_p1 f_p1 c_p2 f_p2 c_p3 f_p3 c_p4 f_p4 c_z0 f_z0 c_z1 f_z1
    refine (HCK.out _ HX0.out.1).mono ?_
    rintro e w1 ⟨rfl, hb1⟩
    have HB1 := Aside0.mk (below_step (HX0.out.1) hb1)
    have HK1 := Aside0.mk (blk_below (HX0.out.2.1) hb1)
    have HK2 := Aside0.mk (blk_below (HX0.out.2.2.1) hb1)
    have HK3 := Aside0.mk (blk_below (HX0.out.2.2.2) hb1)
    have HS1 := Aside0.mk hb1
    clear hb1
    have c_o0 : w1.cell? ⟨w.heap.size, 0, none⟩ = some (Value.slice As ss.length cs) := (blk_cell HK1.out 0).trans rfl
    have f_o0 := blk_frozen HK1.out 0
    have c_o1 : w1.cell? ⟨w.heap.size, 1, none⟩ = some (Value.slice At ts.length ct) := (blk_cell HK1.out 1).trans rfl
    have f_o1 := blk_frozen HK1.out 1
    have c_p0 : w1.cell? ⟨w.heap.size + 1, 0, none⟩ = some (Value.string t.schema) := (blk_cell HK2.out 0).trans rfl
    have f_p0 := blk_frozen HK2.out 0
    have c_p1 : w1.cell? ⟨w.heap.size + 1, 1, none⟩ = some (Value.string t.name) := (blk_cell HK2.out 1).trans rfl
    have f_p1 := blk_frozen HK2.out 1
    have c_p2 : w1.cell? ⟨w.heap.size + 1, 2, none⟩ = some (Value.string t.owner) := (blk_cell HK2.out 2).trans rfl
    have f_p2 := blk_frozen HK2.out 2
    have c_p3 : w1.cell? ⟨w.heap.size + 1, 3, none⟩ = some (Value.slice A3 t.cols.length c3) := (blk_cell HK2.out 3).trans rfl
    have f_p3 := blk_frozen HK2.out 3
    have c_p4 : w1.cell? ⟨w.heap.size + 1, 4, none⟩ = some (Value.slice A4 t.rules.length c4) := (blk_cell HK2.out 4).trans rfl
    have f_p4 := blk_frozen HK2.out 4
    have c_z0 : w1.cell? ⟨w.heap.size + 1 + 1, 0, none⟩ = some (Value.slice none 0 0) := (blk_cell HK3.out 0).trans rfl
    have f_z0 := blk_frozen HK3.out 0
    have c_z1 : w1.cell? ⟨w.heap.size + 1 + 1, 1, none⟩ = some (Value.slice none 0 0) := (blk_cell HK3.out 1).trans rfl
    have f_z1 := blk_frozen HK3.out 1
    go_wp2_with fail
    clear c_o0 f_o0 c_o1 f_o1 c_p0 f_p0 c_p1 f_p1 c_p2 f_p2 c_p3 f_p3 c_p4 f_p4 c_z0 f_z0 c_z1 f_z1
    refine (HN1.out _).mono ?_
    rintro e w_ ⟨rfl, rfl⟩
    have c_o0 : w1.cell? ⟨w.heap.size, 0, none⟩ = some (Value.slice As ss.length cs) := (blk_cell HK1.out 0).trans rfl
    have f_o0 := blk_frozen HK1.out 0
    have c_o1 : w1.cell? ⟨w.heap.size, 1, none⟩ = some (Value.slice At ts.length ct) := (blk_cell HK1.out 1).trans rfl
    have f_o1 := blk_frozen HK1.out 1
    have c_p0 : w1.cell? ⟨w.heap.size + 1, 0, none⟩ = some (Value.string t.schema) := (blk_cell HK2.out 0).trans rfl
    have f_p0 := blk_frozen HK2.out 0
    have c_p1 : w1.cell? ⟨w.heap.size + 1, 1, none⟩ = some (Value.string t.name) := (blk_cell HK2.out 1).trans rfl
    have f_p1 := blk_frozen HK2.out 1
    have c_p2 : w1.cell? ⟨w.heap.size + 1, 2, none⟩ = some (Value.string t.owner) := (blk_cell HK2.out 2).trans rfl
    have f_p2 := blk_frozen HK2.out 2
    have c_p3 : w1.cell? ⟨w.heap.size + 1, 3, none⟩ = some (Value.slice A3 t.cols.length c3) := (blk_cell HK2.out 3).trans rfl
    have f_p3 := blk_frozen HK2.out 3
    have c_p4 : w1.cell? ⟨w.heap.size + 1, 4, none⟩ = some (Value.slice A4 t.rules.length c4) := (blk_cell HK2.out 4).trans rfl
    have f_p4 := blk_frozen HK2.out 4
    have c_z0 : w1.cell? ⟨w.heap.size + 1 + 1, 0, none⟩ = some (Value.slice none 0 0) := (blk_cell HK3.out 0).trans rfl
    have f_z0 := blk_frozen HK3.out 0
    have c_z1 : w1.cell? ⟨w.heap.size + 1 + 1, 1, none⟩ = some (Value.slice none 0 0) := (blk_cell HK3.out 1).trans rfl
    have f_z1 := blk_frozen HK3.out 1
    go_wp2_with fail
    clear c_o0 f_o0 c_o1 f_o1 c_p0 f_p0 c_p1 f_p1 c_p2 f_p2 c_p3 f_p3 c_p4 f_p4 c_z0 f_z0 c_z1 f_z1
    refine (HN2.out _).mono ?_
    rintro e w_ ⟨rfl, rfl⟩
    have c_o0 : w1.cell? ⟨w.heap.size, 0, none⟩ = some (Value.slice As ss.length cs) := (blk_cell HK1.out 0).trans rfl
    have f_o0 := blk_frozen HK1.out 0
    have c_o1 : w1.cell? ⟨w.heap.size, 1, none⟩ = some (Value.slice At ts.length ct) := (blk_cell HK1.out 1).trans rfl
    have f_o1 := blk_frozen HK1.out 1
    have c_p0 : w1.cell? ⟨w.heap.size + 1, 0, none⟩ = some (Value.string t.schema) := (blk_cell HK2.out 0).trans rfl
    have f_p0 := blk_frozen HK2.out 0
    have c_p1 : w1.cell? ⟨w.heap.size + 1, 1, none⟩ = some (Value.string t.name) := (blk_cell HK2.out 1).trans rfl
    have f_p1 := blk_frozen HK2.out 1
    have c_p2 : w1.cell? ⟨w.heap.size + 1, 2, none⟩ = some (Value.string t.owner) := (blk_cell HK2.out 2).trans rfl
    have f_p2 := blk_frozen HK2.out 2
    have c_p3 : w1.cell? ⟨w.heap.size + 1, 3, none⟩ = some (Value.slice A3 t.cols.length c3) := (blk_cell HK2.out 3).trans rfl
    have f_p3 := blk_frozen HK2.out 3
    have c_p4 : w1.cell? ⟨w.heap.size + 1, 4, none⟩ = some (Value.slice A4 t.rules.length c4) := (blk_cell HK2.out 4).trans rfl
    have f_p4 := blk_frozen HK2.out 4
    have c_z0 : w1.cell? ⟨w.heap.size + 1 + 1, 0, none⟩ = some (Value.slice none 0 0) := (blk_cell HK3.out 0).trans rfl
    have f_z0 := blk_frozen HK3.out 0
    have c_z1 : w1.cell? ⟨w.heap.size + 1 + 1, 1, none⟩ = some (Value.slice none 0 0) := (blk_cell HK3.out 1).trans rfl
    have f_z1 := blk_frozen HK3.out 1
    go_wp2_with fail
    clear c_o0 f_o0 c_o1 f_o1 c_p0 f_p0 c_p1 f_p1 c_p2 f_p2 c_p3 f_p3 c_p4 f_p4 c_z0 f_z0 c_z1 f_z1
    refine (HSC.out _ HB1.out).mono ?_
    rintro e w2 ⟨rfl, hb2⟩
    have HB2 := Aside0.mk (below_step (HB1.out) hb2)
    have HK4 := Aside0.mk (blk_below (HK1.out) hb2)
    have HK5 := Aside0.mk (blk_below (HK2.out) hb2)
    have HK6 := Aside0.mk (blk_below (HK3.out) hb2)
    have HS2 := Aside0.mk hb2
    clear hb2
    have c_o0 : w2.cell? ⟨w.heap.size, 0, none⟩ = some (Value.slice As ss.length cs) := (blk_cell HK4.out 0).trans rfl
    have f_o0 := blk_frozen HK4.out 0
    have c_o1 : w2.cell? ⟨w.heap.size, 1, none⟩ = some (Value.slice At ts.length ct) := (blk_cell HK4.out 1).trans rfl
    have f_o1 := blk_frozen HK4.out 1
    have c_p0 : w2.cell? ⟨w.heap.size + 1, 0, none⟩ = some (Value.string t.schema) := (blk_cell HK5.out 0).trans rfl
    have f_p0 := blk_frozen HK5.out 0
    have c_p1 : w2.cell? ⟨w.heap.size + 1, 1, none⟩ = some (Value.string t.name) := (blk_cell HK5.out 1).trans rfl
    have f_p1 := blk_frozen HK5.out 1
    have c_p2 : w2.cell? ⟨w.heap.size + 1, 2, none⟩ = some (Value.string t.owner) := (blk_cell HK5.out 2).trans rfl
    have f_p2 := blk_frozen HK5.out 2
    have c_p3 : w2.cell? ⟨w.heap.size + 1, 3, none⟩ = some (Value.slice A3 t.cols.length c3) := (blk_cell HK5.out 3).trans rfl
    have f_p3 := blk_frozen HK5.out 3
    have c_p4 : w2.cell? ⟨w.heap.size + 1, 4, none⟩ = some (Value.slice A4 t.rules.length c4) := (blk_cell HK5.out 4).trans rfl
    have f_p4 := blk_frozen HK5.out 4
    have c_z0 : w2.cell? ⟨w.heap.size + 1 + 1, 0, none⟩ = some (Value.slice none 0 0) := (blk_cell HK6.out 0).trans rfl
    have f_z0 := blk_frozen HK6.out 0
    have c_z1 : w2.cell? ⟨w.heap.size + 1 + 1, 1, none⟩ = some (Value.slice none 0 0) := (blk_cell HK6.out 1).trans rfl
    have f_z1 := blk_frozen HK6.out 1
    go_wp2_with fail
    clear c_o0 f_o0 c_o1 f_o1 c_p0 f_p0 c_p1 f_p1 c_p2 f_p2 c_p3 f_p3 c_p4 f_p4 c_z0 f_z0 c_z1 f_z1
    refine (HTB.out _ HB2.out).mono ?_
    rintro e w3 ⟨rfl, hb3⟩
    have HB3 := Aside0.mk (below_step (HB2.out) hb3)
    have HK7 := Aside0.mk (blk_below (HK4.out) hb3)
    have HK8 := Aside0.mk (blk_below (HK5.out) hb3)
    have HK9 := Aside0.mk (blk_below (HK6.out) hb3)
    have HS3 := Aside0.mk hb3
    clear hb3
    have c_o0 : w3.cell? ⟨w.heap.size, 0, none⟩ = some (Value.slice As ss.length cs) := (blk_cell HK7.out 0).trans rfl
    have f_o0 := blk_frozen HK7.out 0
    have c_o1 : w3.cell? ⟨w.heap.size, 1, none⟩ = some (Value.slice At ts.length ct) := (blk_cell HK7.out 1).trans rfl
    have f_o1 := blk_frozen HK7.out 1
    have c_p0 : w3.cell? ⟨w.heap.size + 1, 0, none⟩ = some (Value.string t.schema) := (blk_cell HK8.out 0).trans rfl
    have f_p0 := blk_frozen HK8.out 0
    have c_p1 : w3.cell? ⟨w.heap.size + 1, 1, none⟩ = some (Value.string t.name) := (blk_cell HK8.out 1).trans rfl
    have f_p1 := blk_frozen HK8.out 1
    have c_p2 : w3.cell? ⟨w.heap.size + 1, 2, none⟩ = some (Value.string t.owner) := (blk_cell HK8.out 2).trans rfl
    have f_p2 := blk_frozen HK8.out 2
    have c_p3 : w3.cell? ⟨w.heap.size + 1, 3, none⟩ = some (Value.slice A3 t.cols.length c3) := (blk_cell HK8.out 3).trans rfl
    have f_p3 := blk_frozen HK8.out 3
    have c_p4 : w3.cell? ⟨w.heap.size + 1, 4, none⟩ = some (Value.slice A4 t.rules.length c4) := (blk_cell HK8.out 4).trans rfl
    have f_p4 := blk_frozen HK8.out 4
    have c_z0 : w3.cell? ⟨w.heap.size + 1 + 1, 0, none⟩ = some (Value.slice none 0 0) := (blk_cell HK9.out 0).trans rfl
    have f_z0 := blk_frozen HK9.out 0
    have c_z1 : w3.cell? ⟨w.heap.size + 1 + 1, 1, none⟩ = some (Value.slice none 0 0) := (blk_cell HK9.out 1).trans rfl
    have f_z1 := blk_frozen HK9.out 1
    go_wp2_with fail
    clear c_o0 f_o0 c_o1 f_o1 c_p0 f_p0 c_p1 f_p1 c_p2 f_p2 c_p3 f_p3 c_p4 f_p4 c_z0 f_z0 c_z1 f_z1
    refine (HTC.out _ HB3.out).mono ?_
    rintro e w4 ⟨rfl, hb4⟩
    have HB4 := Aside0.mk (below_step (HB3.out) hb4)
    have HK10 := Aside0.mk (blk_below (HK7.out) hb4)
    have HK11 := Aside0.mk (blk_below (HK8.out) hb4)
    have HK12 := Aside0.mk (blk_below (HK9.out) hb4)
    have HS4 := Aside0.mk hb4
    clear hb4
    have c_o0 : w4.cell? ⟨w.heap.size, 0, none⟩ = some (Value.slice As ss.length cs) := (blk_cell HK10.out 0).trans rfl
    have f_o0 := blk_frozen HK10.out 0
    have c_o1 : w4.cell? ⟨w.heap.size, 1, none⟩ = some (Value.slice At ts.length ct) := (blk_cell HK10.out 1).trans rfl
    have f_o1 := blk_frozen HK10.out 1
    have c_p0 : w4.cell? ⟨w.heap.size + 1, 0, none⟩ = some (Value.string t.schema) := (blk_cell HK11.out 0).trans rfl
    have f_p0 := blk_frozen HK11.out 0
    have c_p1 : w4.cell? ⟨w.heap.size + 1, 1, none⟩ = some (Value.string t.name) := (blk_cell HK11.out 1).trans rfl
    have f_p1 := blk_frozen HK11.out 1
    have c_p2 : w4.cell? ⟨w.heap.size + 1, 2, none⟩ = some (Value.string t.owner) := (blk_cell HK11.out 2).trans rfl
    have f_p2 := blk_frozen HK11.out 2
    have c_p3 : w4.cell? ⟨w.heap.size + 1, 3, none⟩ = some (Value.slice A3 t.cols.length c3) := (blk_cell HK11.out 3).trans rfl
    have f_p3 := blk_frozen HK11.out 3
    have c_p4 : w4.cell? ⟨w.heap.size + 1, 4, none⟩ = some (Value.slice A4 t.rules.length c4) := (blk_cell HK11.out 4).trans rfl
    have f_p4 := blk_frozen HK11.out 4
    have c_z0 : w4.cell? ⟨w.heap.size + 1 + 1, 0, none⟩ = some (Value.slice none 0 0) := (blk_cell HK12.out 0).trans rfl
    have f_z0 := blk_frozen HK12.out 0
    have c_z1 : w4.cell? ⟨w.heap.size + 1 + 1, 1, none⟩ = some (Value.slice none 0 0) := (blk_cell HK12.out 1).trans rfl
    have f_z1 := blk_frozen HK12.out 1
    go_wp2_with fail
    clear c_o0 f_o0 c_o1 f_o1 c_p0 f_p0 c_p1 f_p1 c_p2 f_p2 c_p3 f_p3 c_p4 f_p4 c_z0 f_z0 c_z1 f_z1
    refine (HCO.out _ HB4.out).mono ?_
    rintro e w5 ⟨rfl, hb5⟩
    have HB5 := Aside0.mk (below_step (HB4.out) hb5)
    have HK13 := Aside0.mk (blk_below (HK10.out) hb5)
    have HK14 := Aside0.mk (blk_below (HK11.out) hb5)
    have HK15 := Aside0.mk (blk_below (HK12.out) hb5)
    have HS5 := Aside0.mk hb5
    clear hb5
    have c_o0 : w5.cell? ⟨w.heap.size, 0, none⟩ = some (Value.slice As ss.length cs) := (blk_cell HK13.out 0).trans rfl
    have f_o0 := blk_frozen HK13.out 0
    have c_o1 : w5.cell? ⟨w.heap.size, 1, none⟩ = some (Value.slice At ts.length ct) := (blk_cell HK13.out 1).trans rfl
    have f_o1 := blk_frozen HK13.out 1
    have c_p0 : w5.cell? ⟨w.heap.size + 1, 0, none⟩ = some (Value.string t.schema) := (blk_cell HK14.out 0).trans rfl
    have f_p0 := blk_frozen HK14.out 0
    have c_p1 : w5.cell? ⟨w.heap.size + 1, 1, none⟩ = some (Value.string t.name) := (blk_cell HK14.out 1).trans rfl
    have f_p1 := blk_frozen HK14.out 1
    have c_p2 : w5.cell? ⟨w.heap.size + 1, 2, none⟩ = some (Value.string t.owner) := (blk_cell HK14.out 2).trans rfl
    have f_p2 := blk_frozen HK14.out 2
    have c_p3 : w5.cell? ⟨w.heap.size + 1, 3, none⟩ = some (Value.slice A3 t.cols.length c3) := (blk_cell HK14.out 3).trans rfl
    have f_p3 := blk_frozen HK14.out 3
    have c_p4 : w5.cell? ⟨w.heap.size + 1, 4, none⟩ = some (Value.slice A4 t.rules.length c4) := (blk_cell HK14.out 4).trans rfl
    have f_p4 := blk_frozen HK14.out 4
    have c_z0 : w5.cell? ⟨w.heap.size + 1 + 1, 0, none⟩ = some (Value.slice none 0 0) := (blk_cell HK15.out 0).trans rfl
    have f_z0 := blk_frozen HK15.out 0
    have c_z1 : w5.cell? ⟨w.heap.size + 1 + 1, 1, none⟩ = some (Value.slice none 0 0) := (blk_cell HK15.out 1).trans rfl
    have f_z1 := blk_frozen HK15.out 1
    go_wp2_with fail
    clear c_o0 f_o0 c_o1 f_o1 c_p0 f_p0 c_p1 f_p1 c_p2 f_p2 c_p3 f_p3 c_p4 f_p4 c_z0 f_z0 c_z1 f_z1
    refine (HNO.out _ _).mono ?_
    rintro e w6 ⟨rfl, hb6⟩
    have HB6 := Aside0.mk (below_step (HB5.out) hb6)
    have HK16 := Aside0.mk (blk_below (HK13.out) hb6)
    have HK17 := Aside0.mk (blk_below (HK14.out) hb6)
    have HK18 := Aside0.mk (blk_below (HK15.out) hb6)
    have HS6 := Aside0.mk hb6
    clear hb6
    have c_o0 : w6.cell? ⟨w.heap.size, 0, none⟩ = some (Value.slice As ss.length cs) := (blk_cell HK16.out 0).trans rfl
    have f_o0 := blk_frozen HK16.out 0
    have c_o1 : w6.cell? ⟨w.heap.size, 1, none⟩ = some (Value.slice At ts.length ct) := (blk_cell HK16.out 1).trans rfl
    have f_o1 := blk_frozen HK16.out 1
    have c_p0 : w6.cell? ⟨w.heap.size + 1, 0, none⟩ = some (Value.string t.schema) := (blk_cell HK17.out 0).trans rfl
    have f_p0 := blk_frozen HK17.out 0
    have c_p1 : w6.cell? ⟨w.heap.size + 1, 1, none⟩ = some (Value.string t.name) := (blk_cell HK17.out 1).trans rfl
    have f_p1 := blk_frozen HK17.out 1
    have c_p2 : w6.cell? ⟨w.heap.size + 1, 2, none⟩ = some (Value.string t.owner) := (blk_cell HK17.out 2).trans rfl
    have f_p2 := blk_frozen HK17.out 2
    have c_p3 : w6.cell? ⟨w.heap.size + 1, 3, none⟩ = some (Value.slice A3 t.cols.length c3) := (blk_cell HK17.out 3).trans rfl
    have f_p3 := blk_frozen HK17.out 3
    have c_p4 : w6.cell? ⟨w.heap.size + 1, 4, none⟩ = some (Value.slice A4 t.rules.length c4) := (blk_cell HK17.out 4).trans rfl
    have f_p4 := blk_frozen HK17.out 4
    have c_z0 : w6.cell? ⟨w.heap.size + 1 + 1, 0, none⟩ = some (Value.slice none 0 0) := (blk_cell HK18.out 0).trans rfl
    have f_z0 := blk_frozen HK18.out 0
    have c_z1 : w6.cell? ⟨w.heap.size + 1 + 1, 1, none⟩ = some (Value.slice none 0 0) := (blk_cell HK18.out 1).trans rfl
    have f_z1 := blk_frozen HK18.out 1
    go_wp2
    refine bodyPost_ret (v := .tuple #[.agg #[.slice none 0 0, .slice none 0 0], .int .i64 63]) (by simp [results, Try.results34, go_sem, *]) rfl ?_
    exact zeroOut (g := w.heap.size + 1 + 1) (n := 63) HB6.out (by omega)
  have HQ := Aside0.mk (chgT_ok (r := addTabR ss ts t) (ss' := ss) (ts' := ins (ltOf orderT) t ts) HK.out (by rw [HE0.out, decide_eq_true h6]; rfl))
  have HTT := Aside0.mk (show TabB t from by
    unfold mayCols at h5
    simp only [Bool.and_eq_true, decide_eq_true_eq] at h5
    refine ⟨by have := h5.2.1; omega, by omega, fun r hr => ?_⟩
    rw [List.length_eq_zero_iff.1 h6] at hr
    cases hr)
  have HCP2 := Aside0.mk (HCP.out HTT.out)
  have hd6 : decide ((0 : Int) < (t.rules.length : Int)) = false := decide_eq_false (by omega)
  have hd6n : ¬ 0 < t.rules.length := by omega
  clear h5 h6 HE0 HNO HCP HTT HK
  go_enter Try.func34, Try.ntmps34
  have c_o0 : (((w.alloc (.cells #[Value.slice As ss.length cs, Value.slice At ts.length ct] 26)).alloc (.cells #[Value.string t.schema, Value.string t.name, Value.string t.owner, Value.slice A3 t.cols.length c3, Value.slice A4 t.rules.length c4] 35)).alloc (.cells #[Value.slice none 0 0, Value.slice none 0 0] 26)).cell? ⟨w.heap.size, 0, none⟩ = some (Value.slice As ss.length cs) := (blk_cell HX0.out.2.1 0).trans rfl
  have f_o0 := blk_frozen HX0.out.2.1 0
  have c_o1 : (((w.alloc (.cells #[Value.slice As ss.length cs, Value.slice At ts.length ct] 26)).alloc (.cells #[Value.string t.schema, Value.string t.name, Value.string t.owner, Value.slice A3 t.cols.length c3, Value.slice A4 t.rules.length c4] 35)).alloc (.cells #[Value.slice none 0 0, Value.slice none 0 0] 26)).cell? ⟨w.heap.size, 1, none⟩ = some (Value.slice At ts.length ct) := (blk_cell HX0.out.2.1 1).trans rfl
  have f_o1 := blk_frozen HX0.out.2.1 1
  have c_p0 : (((w.alloc (.cells #[Value.slice As ss.length cs, Value.slice At ts.length ct] 26)).alloc (.cells #[Value.string t.schema, Value.string t.name, Value.string t.owner, Value.slice A3 t.cols.length c3, Value.slice A4 t.rules.length c4] 35)).alloc (.cells #[Value.slice none 0 0, Value.slice none 0 0] 26)).cell? ⟨w.heap.size + 1, 0, none⟩ = some (Value.string t.schema) := (blk_cell HX0.out.2.2.1 0).trans rfl
  have f_p0 := blk_frozen HX0.out.2.2.1 0
  have c_p1 : (((w.alloc (.cells #[Value.slice As ss.length cs, Value.slice At ts.length ct] 26)).alloc (.cells #[Value.string t.schema, Value.string t.name, Value.string t.owner, Value.slice A3 t.cols.length c3, Value.slice A4 t.rules.length c4] 35)).alloc (.cells #[Value.slice none 0 0, Value.slice none 0 0] 26)).cell? ⟨w.heap.size + 1, 1, none⟩ = some (Value.string t.name) := (blk_cell HX0.out.2.2.1 1).trans rfl
  have f_p1 := blk_frozen HX0.out.2.2.1 1
  have c_p2 : (((w.alloc (.cells #[Value.slice As ss.length cs, Value.slice At ts.length ct] 26)).alloc (.cells #[Value.string t.schema, Value.string t.name, Value.string t.owner, Value.slice A3 t.cols.length c3, Value.slice A4 t.rules.length c4] 35)).alloc (.cells #[Value.slice none 0 0, Value.slice none 0 0] 26)).cell? ⟨w.heap.size + 1, 2, none⟩ = some (Value.string t.owner) := (blk_cell HX0.out.2.2.1 2).trans rfl
  have f_p2 := blk_frozen HX0.out.2.2.1 2
  have c_p3 : (((w.alloc (.cells #[Value.slice As ss.length cs, Value.slice At ts.length ct] 26)).alloc (.cells #[Value.string t.schema, Value.string t.name, Value.string t.owner, Value.slice A3 t.cols.length c3, Value.slice A4 t.rules.length c4] 35)).alloc (.cells #[Value.slice none 0 0, Value.slice none 0 0] 26)).cell? ⟨w.heap.size + 1, 3, none⟩ = some (Value.slice A3 t.cols.length c3) := (blk_cell HX0.out.2.2.1 3).trans rfl
  have f_p3 := blk_frozen HX0.out.2.2.1 3
  have c_p4 : (((w.alloc (.cells #[Value.slice As ss.length cs, Value.slice At ts.length ct] 26)).alloc (.cells #[Value.string t.schema, Value.string t.name, Value.string t.owner, Value.slice A3 t.cols.length c3, Value.slice A4 t.rules.length c4] 35)).alloc (.cells #[Value.slice none 0 0, Value.slice none 0 0] 26)).cell? ⟨w.heap.size + 1, 4, none⟩ = some (Value.slice A4 t.rules.length c4) := (blk_cell HX0.out.2.2.1 4).trans rfl
  have f_p4 := blk_frozen HX0.out.2.2.1 4
  have c_z0 : (((w.alloc (.cells #[Value.slice As ss.length cs, Value.slice At ts.length ct] 26)).alloc (.cells #[Value.string t.schema, Value.string t.name, Value.string t.owner, Value.slice A3 t.cols.length c3, Value.slice A4 t.rules.length c4] 35)).alloc (.cells #[Value.slice none 0 0, Value.slice none 0 0] 26)).cell? ⟨w.heap.size + 1 + 1, 0, none⟩ = some (Value.slice none 0 0) := (blk_cell HX0.out.2.2.2 0).trans rfl
  have f_z0 := blk_frozen HX0.out.2.2.2 0
  have c_z1 : (((w.alloc (.cells #[Value.slice As ss.length cs, Value.slice At ts.length ct] 26)).alloc (.cells #[Value.string t.schema, Value.string t.name, Value.string t.owner, Value.slice A3 t.cols.length c3, Value.slice A4 t.rules.length c4] 35)).alloc (.cells #[Value.slice none 0 0, Value.slice none 0 0] 26)).cell? ⟨w.heap.size + 1 + 1, 1, none⟩ = some (Value.slice none 0 0) := (blk_cell HX0.out.2.2.2 1).trans rfl
  have f_z1 := blk_frozen HX0.out.2.2.2 1
  go_wp2_with fail
  clear c_o0 f_o0 c_o1 f_o1 c_p0 f_p0 c_p1 f_p1 c_p2 f_p2 c_p3 f_p3 c_p4 f_p4 c_z0 f_z0 c_z1 f_z1
  refine (HCK.out _ HX0.out.1).mono ?_
  rintro e w1 ⟨rfl, hb1⟩
  have HB1 := Aside0.mk (below_step (HX0.out.1) hb1)
  have HK1 := Aside0.mk (blk_below (HX0.out.2.1) hb1)
  have HK2 := Aside0.mk (blk_below (HX0.out.2.2.1) hb1)
  have HK3 := Aside0.mk (blk_below (HX0.out.2.2.2) hb1)
  have HS1 := Aside0.mk hb1
  clear hb1
  have c_o0 : w1.cell? ⟨w.heap.size, 0, none⟩ = some (Value.slice As ss.length cs) := (blk_cell HK1.out 0).trans rfl
  have f_o0 := blk_frozen HK1.out 0
  have c_o1 : w1.cell? ⟨w.heap.size, 1, none⟩ = some (Value.slice At ts.length ct) := (blk_cell HK1.out 1).trans rfl
  have f_o1 := blk_frozen HK1.out 1
  have c_p0 : w1.cell? ⟨w.heap.size + 1, 0, none⟩ = some (Value.string t.schema) := (blk_cell HK2.out 0).trans rfl
  have f_p0 := blk_frozen HK2.out 0
  have c_p1 : w1.cell? ⟨w.heap.size + 1, 1, none⟩ = some (Value.string t.name) := (blk_cell HK2.out 1).trans rfl
  have f_p1 := blk_frozen HK2.out 1
  have c_p2 : w1.cell? ⟨w.heap.size + 1, 2, none⟩ = some (Value.string t.owner) := (blk_cell HK2.out 2).trans rfl
  have f_p2 := blk_frozen HK2.out 2
  have c_p3 : w1.cell? ⟨w.heap.size + 1, 3, none⟩ = some (Value.slice A3 t.cols.length c3) := (blk_cell HK2.out 3).trans rfl
  have f_p3 := blk_frozen HK2.out 3
  have c_p4 : w1.cell? ⟨w.heap.size + 1, 4, none⟩ = some (Value.slice A4 t.rules.length c4) := (blk_cell HK2.out 4).trans rfl
  have f_p4 := blk_frozen HK2.out 4
  have c_z0 : w1.cell? ⟨w.heap.size + 1 + 1, 0, none⟩ = some (Value.slice none 0 0) := (blk_cell HK3.out 0).trans rfl
  have f_z0 := blk_frozen HK3.out 0
  have c_z1 : w1.cell? ⟨w.heap.size + 1 + 1, 1, none⟩ = some (Value.slice none 0 0) := (blk_cell HK3.out 1).trans rfl
  have f_z1 := blk_frozen HK3.out 1
  go_wp2_with fail
  clear c_o0 f_o0 c_o1 f_o1 c_p0 f_p0 c_p1 f_p1 c_p2 f_p2 c_p3 f_p3 c_p4 f_p4 c_z0 f_z0 c_z1 f_z1
  refine (HN1.out _).mono ?_
  rintro e w_ ⟨rfl, rfl⟩
  have c_o0 : w1.cell? ⟨w.heap.size, 0, none⟩ = some (Value.slice As ss.length cs) := (blk_cell HK1.out 0).trans rfl
  have f_o0 := blk_frozen HK1.out 0
  have c_o1 : w1.cell? ⟨w.heap.size, 1, none⟩ = some (Value.slice At ts.length ct) := (blk_cell HK1.out 1).trans rfl
  have f_o1 := blk_frozen HK1.out 1
  have c_p0 : w1.cell? ⟨w.heap.size + 1, 0, none⟩ = some (Value.string t.schema) := (blk_cell HK2.out 0).trans rfl
  have f_p0 := blk_frozen HK2.out 0
  have c_p1 : w1.cell? ⟨w.heap.size + 1, 1, none⟩ = some (Value.string t.name) := (blk_cell HK2.out 1).trans rfl
  have f_p1 := blk_frozen HK2.out 1
  have c_p2 : w1.cell? ⟨w.heap.size + 1, 2, none⟩ = some (Value.string t.owner) := (blk_cell HK2.out 2).trans rfl
  have f_p2 := blk_frozen HK2.out 2
  have c_p3 : w1.cell? ⟨w.heap.size + 1, 3, none⟩ = some (Value.slice A3 t.cols.length c3) := (blk_cell HK2.out 3).trans rfl
  have f_p3 := blk_frozen HK2.out 3
  have c_p4 : w1.cell? ⟨w.heap.size + 1, 4, none⟩ = some (Value.slice A4 t.rules.length c4) := (blk_cell HK2.out 4).trans rfl
  have f_p4 := blk_frozen HK2.out 4
  have c_z0 : w1.cell? ⟨w.heap.size + 1 + 1, 0, none⟩ = some (Value.slice none 0 0) := (blk_cell HK3.out 0).trans rfl
  have f_z0 := blk_frozen HK3.out 0
  have c_z1 : w1.cell? ⟨w.heap.size + 1 + 1, 1, none⟩ = some (Value.slice none 0 0) := (blk_cell HK3.out 1).trans rfl
  have f_z1 := blk_frozen HK3.out 1
  go_wp2_with fail
  clear c_o0 f_o0 c_o1 f_o1 c_p0 f_p0 c_p1 f_p1 c_p2 f_p2 c_p3 f_p3 c_p4 f_p4 c_z0 f_z0 c_z1 f_z1
  refine (HN2.out _).mono ?_
  rintro e w_ ⟨rfl, rfl⟩
  have c_o0 : w1.cell? ⟨w.heap.size, 0, none⟩ = some (Value.slice As ss.length cs) := (blk_cell HK1.out 0).trans rfl
  have f_o0 := blk_frozen HK1.out 0
  have c_o1 : w1.cell? ⟨w.heap.size, 1, none⟩ = some (Value.slice At ts.length ct) := (blk_cell HK1.out 1).trans rfl
  have f_o1 := blk_frozen HK1.out 1
  have c_p0 : w1.cell? ⟨w.heap.size + 1, 0, none⟩ = some (Value.string t.schema) := (blk_cell HK2.out 0).trans rfl
  have f_p0 := blk_frozen HK2.out 0
  have c_p1 : w1.cell? ⟨w.heap.size + 1, 1, none⟩ = some (Value.string t.name) := (blk_cell HK2.out 1).trans rfl
  have f_p1 := blk_frozen HK2.out 1
  have c_p2 : w1.cell? ⟨w.heap.size + 1, 2, none⟩ = some (Value.string t.owner) := (blk_cell HK2.out 2).trans rfl
  have f_p2 := blk_frozen HK2.out 2
  have c_p3 : w1.cell? ⟨w.heap.size + 1, 3, none⟩ = some (Value.slice A3 t.cols.length c3) := (blk_cell HK2.out 3).trans rfl
  have f_p3 := blk_frozen HK2.out 3
  have c_p4 : w1.cell? ⟨w.heap.size + 1, 4, none⟩ = some (Value.slice A4 t.rules.length c4) := (blk_cell HK2.out 4).trans rfl
  have f_p4 := blk_frozen HK2.out 4
  have c_z0 : w1.cell? ⟨w.heap.size + 1 + 1, 0, none⟩ = some (Value.slice none 0 0) := (blk_cell HK3.out 0).trans rfl
  have f_z0 := blk_frozen HK3.out 0
  have c_z1 : w1.cell? ⟨w.heap.size + 1 + 1, 1, none⟩ = some (Value.slice none 0 0) := (blk_cell HK3.out 1).trans rfl
  have f_z1 := blk_frozen HK3.out 1
  go_wp2_with fail
  clear c_o0 f_o0 c_o1 f_o1 c_p0 f_p0 c_p1 f_p1 c_p2 f_p2 c_p3 f_p3 c_p4 f_p4 c_z0 f_z0 c_z1 f_z1
  refine (HSC.out _ HB1.out).mono ?_
  rintro e w2 ⟨rfl, hb2⟩
  have HB2 := Aside0.mk (below_step (HB1.out) hb2)
  have HK4 := Aside0.mk (blk_below (HK1.out) hb2)
  have HK5 := Aside0.mk (blk_below (HK2.out) hb2)
  have HK6 := Aside0.mk (blk_below (HK3.out) hb2)
  have HS2 := Aside0.mk hb2
  clear hb2
  have c_o0 : w2.cell? ⟨w.heap.size, 0, none⟩ = some (Value.slice As ss.length cs) := (blk_cell HK4.out 0).trans rfl
  have f_o0 := blk_frozen HK4.out 0
  have c_o1 : w2.cell? ⟨w.heap.size, 1, none⟩ = some (Value.slice At ts.length ct) := (blk_cell HK4.out 1).trans rfl
  have f_o1 := blk_frozen HK4.out 1
  have c_p0 : w2.cell? ⟨w.heap.size + 1, 0, none⟩ = some (Value.string t.schema) := (blk_cell HK5.out 0).trans rfl
  have f_p0 := blk_frozen HK5.out 0
  have c_p1 : w2.cell? ⟨w.heap.size + 1, 1, none⟩ = some (Value.string t.name) := (blk_cell HK5.out 1).trans rfl
  have f_p1 := blk_frozen HK5.out 1
  have c_p2 : w2.cell? ⟨w.heap.size + 1, 2, none⟩ = some (Value.string t.owner) := (blk_cell HK5.out 2).trans rfl
  have f_p2 := blk_frozen HK5.out 2
  have c_p3 : w2.cell? ⟨w.heap.size + 1, 3, none⟩ = some (Value.slice A3 t.cols.length c3) := (blk_cell HK5.out 3).trans rfl
  have f_p3 := blk_frozen HK5.out 3
  have c_p4 : w2.cell? ⟨w.heap.size + 1, 4, none⟩ = some (Value.slice A4 t.rules.length c4) := (blk_cell HK5.out 4).trans rfl
  have f_p4 := blk_frozen HK5.out 4
  have c_z0 : w2.cell? ⟨w.heap.size + 1 + 1, 0, none⟩ = some (Value.slice none 0 0) := (blk_cell HK6.out 0).trans rfl
  have f_z0 := blk_frozen HK6.out 0
  have c_z1 : w2.cell? ⟨w.heap.size + 1 + 1, 1, none⟩ = some (Value.slice none 0 0) := (blk_cell HK6.out 1).trans rfl
  have f_z1 := blk_frozen HK6.out 1
  go_wp2_with fail
  clear c_o0 f_o0 c_o1 f_o1 c_p0 f_p0 c_p1 f_p1 c_p2 f_p2 c_p3 f_p3 c_p4 f_p4 c_z0 f_z0 c_z1 f_z1
  refine (HTB.out _ HB2.out).mono ?_
  rintro e w3 ⟨rfl, hb3⟩
  have HB3 := Aside0.mk (below_step (HB2.out) hb3)
  have HK7 := Aside0.mk (blk_below (HK4.out) hb3)
  have HK8 := Aside0.mk (blk_below (HK5.out) hb3)
  have HK9 := Aside0.mk (blk_below (HK6.out) hb3)
  have HS3 := Aside0.mk hb3
  clear hb3
  have c_o0 : w3.cell? ⟨w.heap.size, 0, none⟩ = some (Value.slice As ss.length cs) := (blk_cell HK7.out 0).trans rfl
  have f_o0 := blk_frozen HK7.out 0
  have c_o1 : w3.cell? ⟨w.heap.size, 1, none⟩ = some (Value.slice At ts.length ct) := (blk_cell HK7.out 1).trans rfl
  have f_o1 := blk_frozen HK7.out 1
  have c_p0 : w3.cell? ⟨w.heap.size + 1, 0, none⟩ = some (Value.string t.schema) := (blk_cell HK8.out 0).trans rfl
  have f_p0 := blk_frozen HK8.out 0
  have c_p1 : w3.cell? ⟨w.heap.size + 1, 1, none⟩ = some (Value.string t.name) := (blk_cell HK8.out 1).trans rfl
  have f_p1 := blk_frozen HK8.out 1
  have c_p2 : w3.cell? ⟨w.heap.size + 1, 2, none⟩ = some (Value.string t.owner) := (blk_cell HK8.out 2).trans rfl
  have f_p2 := blk_frozen HK8.out 2
  have c_p3 : w3.cell? ⟨w.heap.size + 1, 3, none⟩ = some (Value.slice A3 t.cols.length c3) := (blk_cell HK8.out 3).trans rfl
  have f_p3 := blk_frozen HK8.out 3
  have c_p4 : w3.cell? ⟨w.heap.size + 1, 4, none⟩ = some (Value.slice A4 t.rules.length c4) := (blk_cell HK8.out 4).trans rfl
  have f_p4 := blk_frozen HK8.out 4
  have c_z0 : w3.cell? ⟨w.heap.size + 1 + 1, 0, none⟩ = some (Value.slice none 0 0) := (blk_cell HK9.out 0).trans rfl
  have f_z0 := blk_frozen HK9.out 0
  have c_z1 : w3.cell? ⟨w.heap.size + 1 + 1, 1, none⟩ = some (Value.slice none 0 0) := (blk_cell HK9.out 1).trans rfl
  have f_z1 := blk_frozen HK9.out 1
  go_wp2_with fail
  clear c_o0 f_o0 c_o1 f_o1 c_p0 f_p0 c_p1 f_p1 c_p2 f_p2 c_p3 f_p3 c_p4 f_p4 c_z0 f_z0 c_z1 f_z1
  refine (HTC.out _ HB3.out).mono ?_
  rintro e w4 ⟨rfl, hb4⟩
  have HB4 := Aside0.mk (below_step (HB3.out) hb4)
  have HK10 := Aside0.mk (blk_below (HK7.out) hb4)
  have HK11 := Aside0.mk (blk_below (HK8.out) hb4)
  have HK12 := Aside0.mk (blk_below (HK9.out) hb4)
  have HS4 := Aside0.mk hb4
  clear hb4
  have c_o0 : w4.cell? ⟨w.heap.size, 0, none⟩ = some (Value.slice As ss.length cs) := (blk_cell HK10.out 0).trans rfl
  have f_o0 := blk_frozen HK10.out 0
  have c_o1 : w4.cell? ⟨w.heap.size, 1, none⟩ = some (Value.slice At ts.length ct) := (blk_cell HK10.out 1).trans rfl
  have f_o1 := blk_frozen HK10.out 1
  have c_p0 : w4.cell? ⟨w.heap.size + 1, 0, none⟩ = some (Value.string t.schema) := (blk_cell HK11.out 0).trans rfl
  have f_p0 := blk_frozen HK11.out 0
  have c_p1 : w4.cell? ⟨w.heap.size + 1, 1, none⟩ = some (Value.string t.name) := (blk_cell HK11.out 1).trans rfl
  have f_p1 := blk_frozen HK11.out 1
  have c_p2 : w4.cell? ⟨w.heap.size + 1, 2, none⟩ = some (Value.string t.owner) := (blk_cell HK11.out 2).trans rfl
  have f_p2 := blk_frozen HK11.out 2
  have c_p3 : w4.cell? ⟨w.heap.size + 1, 3, none⟩ = some (Value.slice A3 t.cols.length c3) := (blk_cell HK11.out 3).trans rfl
  have f_p3 := blk_frozen HK11.out 3
  have c_p4 : w4.cell? ⟨w.heap.size + 1, 4, none⟩ = some (Value.slice A4 t.rules.length c4) := (blk_cell HK11.out 4).trans rfl
  have f_p4 := blk_frozen HK11.out 4
  have c_z0 : w4.cell? ⟨w.heap.size + 1 + 1, 0, none⟩ = some (Value.slice none 0 0) := (blk_cell HK12.out 0).trans rfl
  have f_z0 := blk_frozen HK12.out 0
  have c_z1 : w4.cell? ⟨w.heap.size + 1 + 1, 1, none⟩ = some (Value.slice none 0 0) := (blk_cell HK12.out 1).trans rfl
  have f_z1 := blk_frozen HK12.out 1
  go_wp2_with fail
  clear c_o0 f_o0 c_o1 f_o1 c_p0 f_p0 c_p1 f_p1 c_p2 f_p2 c_p3 f_p3 c_p4 f_p4 c_z0 f_z0 c_z1 f_z1
  refine (HCO.out _ HB4.out).mono ?_
  rintro e w5 ⟨rfl, hb5⟩
  have HB5 := Aside0.mk (below_step (HB4.out) hb5)
  have HK13 := Aside0.mk (blk_below (HK10.out) hb5)
  have HK14 := Aside0.mk (blk_below (HK11.out) hb5)
  have HK15 := Aside0.mk (blk_below (HK12.out) hb5)
  have HS5 := Aside0.mk hb5
  clear hb5
  have c_o0 : w5.cell? ⟨w.heap.size, 0, none⟩ = some (Value.slice As ss.length cs) := (blk_cell HK13.out 0).trans rfl
  have f_o0 := blk_frozen HK13.out 0
  have c_o1 : w5.cell? ⟨w.heap.size, 1, none⟩ = some (Value.slice At ts.length ct) := (blk_cell HK13.out 1).trans rfl
  have f_o1 := blk_frozen HK13.out 1
  have c_p0 : w5.cell? ⟨w.heap.size + 1, 0, none⟩ = some (Value.string t.schema) := (blk_cell HK14.out 0).trans rfl
  have f_p0 := blk_frozen HK14.out 0
  have c_p1 : w5.cell? ⟨w.heap.size + 1, 1, none⟩ = some (Value.string t.name) := (blk_cell HK14.out 1).trans rfl
  have f_p1 := blk_frozen HK14.out 1
  have c_p2 : w5.cell? ⟨w.heap.size + 1, 2, none⟩ = some (Value.string t.owner) := (blk_cell HK14.out 2).trans rfl
  have f_p2 := blk_frozen HK14.out 2
  have c_p3 : w5.cell? ⟨w.heap.size + 1, 3, none⟩ = some (Value.slice A3 t.cols.length c3) := (blk_cell HK14.out 3).trans rfl
  have f_p3 := blk_frozen HK14.out 3
  have c_p4 : w5.cell? ⟨w.heap.size + 1, 4, none⟩ = some (Value.slice A4 t.rules.length c4) := (blk_cell HK14.out 4).trans rfl
  have f_p4 := blk_frozen HK14.out 4
  go_wp2_with fail
  clear c_o0 f_o0 c_o1 f_o1 c_p0 f_p0 c_p1 f_p1 c_p2 f_p2 c_p3 f_p3 c_p4 f_p4
  refine (HOW.out _ HB5.out).mono ?_
  rintro e x6 ⟨Bs, ds, Bt, dt, rfl, hR, hS, hb6⟩
  have HB6 := Aside0.mk (below_step (HB5.out) hb6)
  have HK16 := Aside0.mk (blk_below (HK13.out) hb6)
  have HK17 := Aside0.mk (blk_below (HK14.out) hb6)
  have HK18 := Aside0.mk (blk_below (HK15.out) hb6)
  have HLE := Aside0.mk hb6.size
  clear hb6
  have hS0 := Kd.S_alloc hS (.cells #[Value.slice Bs ss.length ds, Value.slice Bt ts.length dt] 26)
  have hR0 := Kd.R_alloc hR (.cells #[Value.slice Bs ss.length ds, Value.slice Bt ts.length dt] 26)
  obtain ⟨U, he⟩ : ∃ V, V = (x6.alloc (.cells #[Value.slice Bs ss.length ds, Value.slice Bt ts.length dt] 26)) := ⟨_, rfl⟩
  have hb9 : Below x6.heap.size x6 U := by rw [he]; exact below_alloc (Below.refl _ _) _
  have UN := Aside0.mk (show U.heap[x6.heap.size]? = some (.cells #[Value.slice Bs ss.length ds, Value.slice Bt ts.length dt] 26 (0, 0)) by rw [he]; exact blk_new _ _)
  rw [← he] at hS0 hR0
  have HS0 := Aside0.mk hS0
  have HR0 := Aside0.mk hR0
  obtain ⟨B, hBe⟩ : ∃ B, B = w5.heap.size := ⟨_, rfl⟩
  rw [← hBe] at HS0 HR0
  have HBU := Aside0.mk (below_step (HB6.out) hb9)
  have HK19 := Aside0.mk (blk_below (HK16.out) hb9)
  have HK20 := Aside0.mk (blk_below (HK17.out) hb9)
  have HK21 := Aside0.mk (blk_below (HK18.out) hb9)
  have HBL := Aside0.mk (show B ≤ U.heap.size by rw [hBe]; exact Nat.le_trans HLE.out hb9.size)
  have HWB := Aside0.mk (show w.heap.size ≤ B by rw [hBe]; exact HB5.out.size)
  clear hb9 hR hS hS0 hR0 HOW hBe
  go_wp2
  rw [← he]
  clear he
  go_loopw [7, 8, 9] (fun v u i w' => ∃ j : Nat, ∃ b : Bool, ∃ l : List Tab, j ≤ ts.length ∧ i = .int .i64 j ∧ u = .bool b ∧ Aside0 (InsG (ltOf orderT) t ts j b l ∧ GrowT B U w' v l)) (fun _ _ i _ => ts.length - (intOf i).toNat)
  case atStart => exact ⟨0, false, [], Nat.zero_le _, rfl, rfl, ⟨InsG.start _ _ _, Kd.R_nil _ _ _ _ _, (fun q hq => by cases hq), Below.refl _ _⟩⟩
  case round =>
    obtain ⟨j, b, l, hj, rfl, rfl, HJ⟩ := hrel
    have HBq := Aside0.mk (below_step (HBU.out) HJ.out.2.2.2)
    have HK22 := Aside0.mk (blk_below (HK19.out) HJ.out.2.2.2)
    have HK23 := Aside0.mk (blk_below (HK20.out) HJ.out.2.2.2)
    have HK24 := Aside0.mk (blk_below (HK21.out) HJ.out.2.2.2)
    have HK25 := Aside0.mk (blk_below (UN.out) HJ.out.2.2.2)
    have hll : l.length ≤ 3002 := by have := HJ.out.1.len hj; omega
    have b1 : wr.cell? ⟨x6.heap.size, 1, none⟩ = some (Value.slice Bt ts.length dt) := (blk_cell HK25.out 1).trans rfl
    by_cases hlt : j < ts.length
    · obtain ⟨gt, rfl⟩ := S_addr HS0.out (by omega)
      obtain ⟨J3, J4, j3, j4, hcell, hM⟩ := own_at HS0.out j hlt
      obtain ⟨r0, r1, r2, r3, r4⟩ := hcell wr HJ.out.2.2.2
      have HM := Aside0.mk hM
      clear hcell hM
      have i0 : (0 : Int) ≤ (j : Int) := by omega
      have i1 : (j : Int) < (ts.length : Int) := by omega
      have HLT := Aside0.mk (order_less t ts[j])
      have HG1 := Aside0.mk (HJ.out.2.move (below_alloc (Below.refl wr.heap.size wr) (.cells #[.string ts[j].schema, .string ts[j].name, .string ts[j].owner, .slice J3 ts[j].cols.length j3, .slice J4 ts[j].rules.length j4] 35)))
      have a_p0 : ∀ o, (wr.alloc o).cell? ⟨w.heap.size + 1, 0, none⟩ = some (Value.string t.schema) := fun o => (blk_cell (blk_alloc HK23.out o) 0).trans rfl
      have a_p1 : ∀ o, (wr.alloc o).cell? ⟨w.heap.size + 1, 1, none⟩ = some (Value.string t.name) := fun o => (blk_cell (blk_alloc HK23.out o) 1).trans rfl
      have a_p2 : ∀ o, (wr.alloc o).cell? ⟨w.heap.size + 1, 2, none⟩ = some (Value.string t.owner) := fun o => (blk_cell (blk_alloc HK23.out o) 2).trans rfl
      have a_p3 : ∀ o, (wr.alloc o).cell? ⟨w.heap.size + 1, 3, none⟩ = some (Value.slice A3 t.cols.length c3) := fun o => (blk_cell (blk_alloc HK23.out o) 3).trans rfl
      have a_p4 : ∀ o, (wr.alloc o).cell? ⟨w.heap.size + 1, 4, none⟩ = some (Value.slice A4 t.rules.length c4) := fun o => (blk_cell (blk_alloc HK23.out o) 4).trans rfl
      cases b with
      | true =>
        go_wp2_with ((at_builtin; refine Kd.R_append kTab (w0 := U) B (by rfl) (.tmp 117) (.tmp 119) 24 35 (.agg #[(.string ⟨#[]⟩), (.string ⟨#[]⟩), (.string ⟨#[]⟩), (.slice none 0 0), (.slice none 0 0)]) 96 (by rfl) Try.underlying24 infoTab rfl (by decide) (by decide) _ (l) (ts[j]) [.string ts[j].schema, .string ts[j].name, .string ts[j].owner, .slice J3 ts[j].cols.length j3, .slice J4 ts[j].rules.length j4] (fun _ => True) (fun q => q < U.heap.size) (by rfl) (by first | (rw [sz_al]; rfl) | rfl) (HM.out _ HG1.out.2.2) (fun q hq => ⟨trivial, fun e => by have := HG1.out.2.1 q e.symm; have hq' : q < U.heap.size := hq; omega⟩) (fun _ _ => trivial) HG1.out.1 (HG1.out.2.2.mono HBL.out) (Nat.le_trans HBL.out HG1.out.2.2.size) (by omega) ?_; intro v3 w3 hR3 hB3 hg3 ha3))
        have HN := Aside0.mk (HG1.out.next hR3 hg3 ha3)
        clear hR3 hB3 hg3 ha3 
        go_roundw
        case rel => exact ⟨j + 1, true, _, by omega, by go_num, rfl, ⟨HJ.out.1.more hlt, HN.out⟩⟩
        case measure => simp [intOf]; omega
      | false =>
      by_cases hlo : ltOf orderT t ts[j] = true
      rotate_left
      · have HP0 := Aside0.mk (show ltOf orderT t ts[j] = false by simpa using hlo)
        rw [HP0.out] at HLT
        have hA : Op.bytesLess t.schema.toList ts[j].schema.toList = false := (Bool.or_eq_false_iff.1 HLT.out.symm).1
        have hE := (Bool.or_eq_false_iff.1 HLT.out.symm).2
        cases hE1 : (t.schema.toList == ts[j].schema.toList) with
        | false =>
          clear hE hlo
          go_wp2_with ((at_builtin; refine Kd.R_append kTab (w0 := U) B (by rfl) (.tmp 117) (.tmp 119) 24 35 (.agg #[(.string ⟨#[]⟩), (.string ⟨#[]⟩), (.string ⟨#[]⟩), (.slice none 0 0), (.slice none 0 0)]) 96 (by rfl) Try.underlying24 infoTab rfl (by decide) (by decide) _ (l) (ts[j]) [.string ts[j].schema, .string ts[j].name, .string ts[j].owner, .slice J3 ts[j].cols.length j3, .slice J4 ts[j].rules.length j4] (fun _ => True) (fun q => q < U.heap.size) (by rfl) (by first | (rw [sz_al]; rfl) | rfl) (HM.out _ HG1.out.2.2) (fun q hq => ⟨trivial, fun e => by have := HG1.out.2.1 q e.symm; have hq' : q < U.heap.size := hq; omega⟩) (fun _ _ => trivial) HG1.out.1 (HG1.out.2.2.mono HBL.out) (Nat.le_trans HBL.out HG1.out.2.2.size) (by omega) ?_; intro v3 w3 hR3 hB3 hg3 ha3))
          have HN := Aside0.mk (HG1.out.next hR3 hg3 ha3)
          clear hR3 hB3 hg3 ha3 
          go_roundw
          case rel => exact ⟨j + 1, false, _, by omega, by go_num, rfl, ⟨HJ.out.1.none hlt HP0.out, HN.out⟩⟩
          case measure => simp [intOf]; omega
        | true =>
          rw [hE1, Bool.true_and] at hE
          clear hlo
          go_wp2_with ((at_builtin; refine Kd.R_append kTab (w0 := U) B (by rfl) (.tmp 117) (.tmp 119) 24 35 (.agg #[(.string ⟨#[]⟩), (.string ⟨#[]⟩), (.string ⟨#[]⟩), (.slice none 0 0), (.slice none 0 0)]) 96 (by rfl) Try.underlying24 infoTab rfl (by decide) (by decide) _ (l) (ts[j]) [.string ts[j].schema, .string ts[j].name, .string ts[j].owner, .slice J3 ts[j].cols.length j3, .slice J4 ts[j].rules.length j4] (fun _ => True) (fun q => q < U.heap.size) (by rfl) (by first | (rw [sz_al]; rfl) | rfl) (HM.out _ HG1.out.2.2) (fun q hq => ⟨trivial, fun e => by have := HG1.out.2.1 q e.symm; have hq' : q < U.heap.size := hq; omega⟩) (fun _ _ => trivial) HG1.out.1 (HG1.out.2.2.mono HBL.out) (Nat.le_trans HBL.out HG1.out.2.2.size) (by omega) ?_; intro v3 w3 hR3 hB3 hg3 ha3))
          have HN := Aside0.mk (HG1.out.next hR3 hg3 ha3)
          clear hR3 hB3 hg3 ha3 
          go_roundw
          case rel => exact ⟨j + 1, false, _, by omega, by go_num, rfl, ⟨HJ.out.1.none hlt HP0.out, HN.out⟩⟩
          case measure => simp [intOf]; omega
      have HP0 := Aside0.mk hlo
      rw [hlo] at HLT
      have HP1 := Aside0.mk (HK23.out)
      have HUW := Aside0.mk (HBU.out)
      cases hA : Op.bytesLess t.schema.toList ts[j].schema.toList with
      | true =>
        go_wp2_with (first | (go_at_call 50; refine (HCP2.out _ (below_step HBU.out HG1.out.2.2)).mono ?_; rintro e w2 ⟨B3, d3, B4, d4, rfl, h3, h4, hb⟩; have HG2 := Aside0.mk (HG1.out.move hb); have HV := Aside0.mk (And.intro h3 (And.intro h4 (And.intro hb (blk_below (blk_new wr (.cells #[.string ts[j].schema, .string ts[j].name, .string ts[j].owner, .slice J3 ts[j].cols.length j3, .slice J4 ts[j].rules.length j4] 35)) hb)))); clear h3 h4 hb) | (at_builtin; refine Kd.R_append kTab (w0 := U) B (by rfl) (.tmp 112) (.tmp 115) 24 35 (.agg #[(.string ⟨#[]⟩), (.string ⟨#[]⟩), (.string ⟨#[]⟩), (.slice none 0 0), (.slice none 0 0)]) 96 (by rfl) Try.underlying24 infoTab rfl (by decide) (by decide) _ (l) (t) [.string t.schema, .string t.name, .string t.owner, .slice B3 t.cols.length d3, .slice B4 t.rules.length d4] (fun _ => True) (fun q => (wr.alloc (.cells #[.string ts[j].schema, .string ts[j].name, .string ts[j].owner, .slice J3 ts[j].cols.length j3, .slice J4 ts[j].rules.length j4] 35)).heap.size ≤ q) (by rfl) (by first | (rw [sz_al]; rfl) | rfl) (kTab_mkM _ _ _ t (Kd.R_lower (Kd.R_mono (Kd.R_bound HV.out.1) (fun q hq => hq.2.1)) (Nat.le_trans HBL.out HG1.out.2.2.size)) (Kd.R_lower (Kd.R_mono (Kd.R_bound HV.out.2.1) (fun q hq => hq.2.1)) (Nat.le_trans HBL.out HG1.out.2.2.size))) (fun q hq => ⟨trivial, fun e => by have h1 := Kd.R_lt HG1.out.1 q e.symm; have hq' : (wr.alloc (.cells #[.string ts[j].schema, .string ts[j].name, .string ts[j].owner, .slice J3 ts[j].cols.length j3, .slice J4 ts[j].rules.length j4] 35)).heap.size ≤ q := hq; omega⟩) (fun _ _ => trivial) HG2.out.1 (HG2.out.2.2.mono HBL.out) (Nat.le_trans HBL.out HG2.out.2.2.size) (by omega) ?_; intro v2 w3 hR2 hB2 hg2 ha2; have HG3 := Aside0.mk (HG2.out.next hR2 hg2 ha2); have hN := blk_grown HV.out.2.2.2 hg2 (fun e => by have h1 := Kd.R_lt HJ.out.2.1 _ e.symm; omega); have n0 : w3.cell? ⟨wr.heap.size, 0, none⟩ = some (.string ts[j].schema) := (blk_cell hN 0).trans rfl; have n1 : w3.cell? ⟨wr.heap.size, 1, none⟩ = some (.string ts[j].name) := (blk_cell hN 1).trans rfl; have n2 : w3.cell? ⟨wr.heap.size, 2, none⟩ = some (.string ts[j].owner) := (blk_cell hN 2).trans rfl; have n3 : w3.cell? ⟨wr.heap.size, 3, none⟩ = some (.slice J3 ts[j].cols.length j3) := (blk_cell hN 3).trans rfl; have n4 : w3.cell? ⟨wr.heap.size, 4, none⟩ = some (.slice J4 ts[j].rules.length j4) := (blk_cell hN 4).trans rfl; clear hR2 hB2 hg2 ha2 hN) | (at_builtin; refine Kd.R_append kTab (w0 := U) B (by rfl) (.tmp 117) (.tmp 119) 24 35 (.agg #[(.string ⟨#[]⟩), (.string ⟨#[]⟩), (.string ⟨#[]⟩), (.slice none 0 0), (.slice none 0 0)]) 96 (by rfl) Try.underlying24 infoTab rfl (by decide) (by decide) _ (l ++ [t]) (ts[j]) [.string ts[j].schema, .string ts[j].name, .string ts[j].owner, .slice J3 ts[j].cols.length j3, .slice J4 ts[j].rules.length j4] (fun _ => True) (fun q => q < U.heap.size) (by rfl) (by first | (rw [sz_al]; rfl) | rfl) (HM.out _ HG3.out.2.2) (fun q hq => ⟨trivial, fun e => by have := HG3.out.2.1 q e.symm; have hq' : q < U.heap.size := hq; omega⟩) (fun _ _ => trivial) HG3.out.1 (HG3.out.2.2.mono HBL.out) (Nat.le_trans HBL.out HG3.out.2.2.size) (by simp; omega) ?_; intro v3 w4 hR3 hB3 hg3 ha3))
        have HN := Aside0.mk (HG3.out.next hR3 hg3 ha3)
        clear hR3 hB3 hg3 ha3 HV HG2 n0 n1 n2 n3 n4
        go_roundw
        case rel => exact ⟨j + 1, true, _, by omega, by go_num, rfl, ⟨HJ.out.1.hit hlt HP0.out, HN.out⟩⟩
        case measure => simp [intOf]; omega
      | false =>
        rw [hA, Bool.false_or] at HLT
        have hE1 : (t.schema.toList == ts[j].schema.toList) = true := (Bool.and_eq_true_iff.1 HLT.out.symm).1
        have hE2 : Op.bytesLess t.name.toList ts[j].name.toList = true := (Bool.and_eq_true_iff.1 HLT.out.symm).2
        go_wp2_with (first | (go_at_call 50; refine (HCP2.out _ (below_step HBU.out HG1.out.2.2)).mono ?_; rintro e w2 ⟨B3, d3, B4, d4, rfl, h3, h4, hb⟩; have HG2 := Aside0.mk (HG1.out.move hb); have HV := Aside0.mk (And.intro h3 (And.intro h4 (And.intro hb (blk_below (blk_new wr (.cells #[.string ts[j].schema, .string ts[j].name, .string ts[j].owner, .slice J3 ts[j].cols.length j3, .slice J4 ts[j].rules.length j4] 35)) hb)))); clear h3 h4 hb) | (at_builtin; refine Kd.R_append kTab (w0 := U) B (by rfl) (.tmp 112) (.tmp 115) 24 35 (.agg #[(.string ⟨#[]⟩), (.string ⟨#[]⟩), (.string ⟨#[]⟩), (.slice none 0 0), (.slice none 0 0)]) 96 (by rfl) Try.underlying24 infoTab rfl (by decide) (by decide) _ (l) (t) [.string t.schema, .string t.name, .string t.owner, .slice B3 t.cols.length d3, .slice B4 t.rules.length d4] (fun _ => True) (fun q => (wr.alloc (.cells #[.string ts[j].schema, .string ts[j].name, .string ts[j].owner, .slice J3 ts[j].cols.length j3, .slice J4 ts[j].rules.length j4] 35)).heap.size ≤ q) (by rfl) (by first | (rw [sz_al]; rfl) | rfl) (kTab_mkM _ _ _ t (Kd.R_lower (Kd.R_mono (Kd.R_bound HV.out.1) (fun q hq => hq.2.1)) (Nat.le_trans HBL.out HG1.out.2.2.size)) (Kd.R_lower (Kd.R_mono (Kd.R_bound HV.out.2.1) (fun q hq => hq.2.1)) (Nat.le_trans HBL.out HG1.out.2.2.size))) (fun q hq => ⟨trivial, fun e => by have h1 := Kd.R_lt HG1.out.1 q e.symm; have hq' : (wr.alloc (.cells #[.string ts[j].schema, .string ts[j].name, .string ts[j].owner, .slice J3 ts[j].cols.length j3, .slice J4 ts[j].rules.length j4] 35)).heap.size ≤ q := hq; omega⟩) (fun _ _ => trivial) HG2.out.1 (HG2.out.2.2.mono HBL.out) (Nat.le_trans HBL.out HG2.out.2.2.size) (by omega) ?_; intro v2 w3 hR2 hB2 hg2 ha2; have HG3 := Aside0.mk (HG2.out.next hR2 hg2 ha2); have hN := blk_grown HV.out.2.2.2 hg2 (fun e => by have h1 := Kd.R_lt HJ.out.2.1 _ e.symm; omega); have n0 : w3.cell? ⟨wr.heap.size, 0, none⟩ = some (.string ts[j].schema) := (blk_cell hN 0).trans rfl; have n1 : w3.cell? ⟨wr.heap.size, 1, none⟩ = some (.string ts[j].name) := (blk_cell hN 1).trans rfl; have n2 : w3.cell? ⟨wr.heap.size, 2, none⟩ = some (.string ts[j].owner) := (blk_cell hN 2).trans rfl; have n3 : w3.cell? ⟨wr.heap.size, 3, none⟩ = some (.slice J3 ts[j].cols.length j3) := (blk_cell hN 3).trans rfl; have n4 : w3.cell? ⟨wr.heap.size, 4, none⟩ = some (.slice J4 ts[j].rules.length j4) := (blk_cell hN 4).trans rfl; clear hR2 hB2 hg2 ha2 hN) | (at_builtin; refine Kd.R_append kTab (w0 := U) B (by rfl) (.tmp 117) (.tmp 119) 24 35 (.agg #[(.string ⟨#[]⟩), (.string ⟨#[]⟩), (.string ⟨#[]⟩), (.slice none 0 0), (.slice none 0 0)]) 96 (by rfl) Try.underlying24 infoTab rfl (by decide) (by decide) _ (l ++ [t]) (ts[j]) [.string ts[j].schema, .string ts[j].name, .string ts[j].owner, .slice J3 ts[j].cols.length j3, .slice J4 ts[j].rules.length j4] (fun _ => True) (fun q => q < U.heap.size) (by rfl) (by first | (rw [sz_al]; rfl) | rfl) (HM.out _ HG3.out.2.2) (fun q hq => ⟨trivial, fun e => by have := HG3.out.2.1 q e.symm; have hq' : q < U.heap.size := hq; omega⟩) (fun _ _ => trivial) HG3.out.1 (HG3.out.2.2.mono HBL.out) (Nat.le_trans HBL.out HG3.out.2.2.size) (by simp; omega) ?_; intro v3 w4 hR3 hB3 hg3 ha3))
        have HN := Aside0.mk (HG3.out.next hR3 hg3 ha3)
        clear hR3 hB3 hg3 ha3 HV HG2 n0 n1 n2 n3 n4
        go_roundw
        case rel => exact ⟨j + 1, true, _, by omega, by go_num, rfl, ⟨HJ.out.1.hit hlt HP0.out, HN.out⟩⟩
        case measure => simp [intOf]; omega
    · obtain rfl : j = ts.length := by omega
      have hdj2 : decide (ts.length < ts.length) = false := decide_eq_false hlt
      have n1 : ¬ x6.heap.size = w.heap.size + 1 + 1 := fun e => by have h1 := blk_lt HK18.out; omega
      have n2 : ¬ w.heap.size + 1 + 1 = x6.heap.size := fun e => n1 e.symm
      cases b with
      | true =>
        have hl := HJ.out.1.done_true
        subst hl
        have hv := HJ.out.2
        obtain ⟨A5, c5, rfl⟩ := Kd.R_slice hv.1
        have HF := Aside0.mk (Out.tabs HBU.out UN.out (HK21.out) HR0.out hv HWB.out (show w.heap.size ≤ x6.heap.size from HB6.out.size) (show w.heap.size ≤ w.heap.size + 1 + 1 by omega))
        have c_out0 : wr.cell? ⟨x6.heap.size, 0, none⟩ = some (Value.slice Bs ss.length ds) := (blk_cell HK25.out 0).trans rfl
        have f_out0 := blk_frozen HK25.out 0
        have c_out1 : wr.cell? ⟨x6.heap.size, 1, none⟩ = some (Value.slice Bt ts.length dt) := (blk_cell HK25.out 1).trans rfl
        have f_out1 := blk_frozen HK25.out 1
        have c_z0 : wr.cell? ⟨w.heap.size + 1 + 1, 0, none⟩ = some (Value.slice none 0 0) := (blk_cell HK24.out 0).trans rfl
        have f_z0 := blk_frozen HK24.out 0
        have c_z1 : wr.cell? ⟨w.heap.size + 1 + 1, 1, none⟩ = some (Value.slice none 0 0) := (blk_cell HK24.out 1).trans rfl
        have f_z1 := blk_frozen HK24.out 1
        clear hv b1
        go_wp2
        refine bodyPost_ret (v := .tuple #[.agg #[.slice Bs ss.length ds, .slice A5 (ins (ltOf orderT) t ts).length c5], .int .i64 0]) (by simp [results, Try.results34, go_sem, *]) rfl ?_
        rw [HQ.out]
        exact HF.out
      | false =>
        have hl := HJ.out.1.done_false
        have c_p0 : wr.cell? ⟨w.heap.size + 1, 0, none⟩ = some (Value.string t.schema) := (blk_cell HK23.out 0).trans rfl
        have c_p1 : wr.cell? ⟨w.heap.size + 1, 1, none⟩ = some (Value.string t.name) := (blk_cell HK23.out 1).trans rfl
        have c_p2 : wr.cell? ⟨w.heap.size + 1, 2, none⟩ = some (Value.string t.owner) := (blk_cell HK23.out 2).trans rfl
        have c_p3 : wr.cell? ⟨w.heap.size + 1, 3, none⟩ = some (Value.slice A3 t.cols.length c3) := (blk_cell HK23.out 3).trans rfl
        have c_p4 : wr.cell? ⟨w.heap.size + 1, 4, none⟩ = some (Value.slice A4 t.rules.length c4) := (blk_cell HK23.out 4).trans rfl
        go_wp2_with (first | (go_at_call 50; refine (HCP2.out _ HBq.out).mono ?_; rintro e w2 ⟨B3, d3, B4, d4, rfl, h3, h4, hb⟩; have HG2 := Aside0.mk (HJ.out.2.move hb); have HV := Aside0.mk (And.intro h3 (And.intro h4 hb)); clear h3 h4 hb) | (at_builtin; refine Kd.R_append kTab (w0 := U) B (by rfl) (.tmp 123) (.tmp 126) 24 35 (.agg #[(.string ⟨#[]⟩), (.string ⟨#[]⟩), (.string ⟨#[]⟩), (.slice none 0 0), (.slice none 0 0)]) 96 (by rfl) Try.underlying24 infoTab rfl (by decide) (by decide) _ (l) (t) [.string t.schema, .string t.name, .string t.owner, .slice B3 t.cols.length d3, .slice B4 t.rules.length d4] (fun _ => True) (fun q => wr.heap.size ≤ q) (by rfl) (by first | (rw [sz_al]; rfl) | rfl) (kTab_mkM _ _ _ t (Kd.R_lower (Kd.R_mono (Kd.R_bound HV.out.1) (fun q hq => hq.2.1)) (Nat.le_trans HBL.out HJ.out.2.2.2.size)) (Kd.R_lower (Kd.R_mono (Kd.R_bound HV.out.2.1) (fun q hq => hq.2.1)) (Nat.le_trans HBL.out HJ.out.2.2.2.size))) (fun q hq => ⟨trivial, fun e => by have h1 := Kd.R_lt HJ.out.2.1 q e.symm; have hq' : wr.heap.size ≤ q := hq; omega⟩) (fun _ _ => trivial) HG2.out.1 (HG2.out.2.2.mono HBL.out) (Nat.le_trans HBL.out HG2.out.2.2.size) (by omega) ?_; intro v3 w3 hR3 hB3 hg3 ha3; rw [hl] at hR3; have hv := HG2.out.next hR3 hg3 ha3; obtain ⟨A5, c5, rfl⟩ := Kd.R_slice hv.1; have HF := Aside0.mk (Out.tabs HBU.out UN.out (HK21.out) HR0.out hv HWB.out (show w.heap.size ≤ x6.heap.size from HB6.out.size) (show w.heap.size ≤ w.heap.size + 1 + 1 by omega)); have c_out0 : w3.cell? ⟨x6.heap.size, 0, none⟩ = some (Value.slice Bs ss.length ds) := (blk_cell (blk_below UN.out hv.2.2) 0).trans rfl; have f_out0 := blk_frozen (blk_below UN.out hv.2.2) 0; have c_out1 : w3.cell? ⟨x6.heap.size, 1, none⟩ = some (Value.slice Bt ts.length dt) := (blk_cell (blk_below UN.out hv.2.2) 1).trans rfl; have f_out1 := blk_frozen (blk_below UN.out hv.2.2) 1; have c_z0 : w3.cell? ⟨w.heap.size + 1 + 1, 0, none⟩ = some (Value.slice none 0 0) := (blk_cell (blk_below (HK21.out) hv.2.2) 0).trans rfl; have f_z0 := blk_frozen (blk_below (HK21.out) hv.2.2) 0; have c_z1 : w3.cell? ⟨w.heap.size + 1 + 1, 1, none⟩ = some (Value.slice none 0 0) := (blk_cell (blk_below (HK21.out) hv.2.2) 1).trans rfl; have f_z1 := blk_frozen (blk_below (HK21.out) hv.2.2) 1; clear hR3 hB3 hg3 ha3 hv))
        refine bodyPost_ret (v := .tuple #[.agg #[.slice Bs ss.length ds, .slice A5 (ins (ltOf orderT) t ts).length c5], .int .i64 0]) (by simp [results, Try.results34, go_sem, *]) rfl ?_
        rw [HQ.out]
        exact HF.out
end Go.Proofs.Ytmmiehckgkadgaa.O
