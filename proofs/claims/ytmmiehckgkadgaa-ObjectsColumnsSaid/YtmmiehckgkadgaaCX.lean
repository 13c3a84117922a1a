/- The document's DropColumn. Printed by a program of this session (gen_dropcol.py). -/
import Derived.Test.YtmmiehckgkadgaaG3
import Derived.Test.YtmmiehckgkadgaaCW
namespace Go.Proofs.Ytmmiehckgkadgaa.O
set_option linter.unusedVariables false
set_option linter.unusedSimpArgs false
open Go.RowKit Go.Proofs.YtmmiehckgkadgaaW.PrintWords

def usesR (name : ByteArray) (r : Rul) : Bool := r.cols.any (fun y => y.toList == name.toList)
def noC (name : ByteArray) (x : Col) : Bool := !(x.name.toList == name.toList)
def rDropColM (name : ByteArray) (t : Tab) : Int × Tab := if 0 ≤ idx (fun x : Col => x.name.toList == name.toList) t.cols then (if (decide (t.cols.length = 1) || t.rules.any (usesR name)) = true then (62, t) else (0, { t with cols := t.cols.filter (noC name) })) else (61, t)
def rDropColumn (ss : List Sch) (ts : List Tab) (schema table : ByteArray) (name : ByteArray) : Res := chg ss ts (tch ss ts schema table (rDropColM name))
theorem any_next {α : Type} {xs : List α} {p : α → Bool} {j : Nat} (h : j < xs.length) (d : Bool) : ((d || (xs.take j).any p) || p xs[j]) = (d || (xs.take (j + 1)).any p) := by
  rw [List.take_succ_eq_append_getElem h, List.any_append, Bool.or_assoc]; simp
theorem filt_next {α : Type} {xs : List α} {p : α → Bool} {j : Nat} (h : j < xs.length) : (xs.take (j + 1)).filter p = (xs.take j).filter p ++ (if p xs[j] = true then [xs[j]] else []) := by
  rw [List.take_succ_eq_append_getElem h, List.filter_append, List.filter_cons, List.filter_nil]
theorem one_int (n : Nat) : ((n : Int) == 1) = decide (n = 1) := by
  rw [Bool.eq_iff_iff]; simp; omega
theorem grown_of {W w' : World} (h : Below W.heap.size W w') (r : Option Nat) : W.grownBy w' r := ⟨h.os, h.tape, h.output, h.size, fun k hk _ => h.block k hk⟩

set_option maxRecDepth 100000 in
set_option maxHeartbeats 4000000 in
theorem rDropColumn.calls {As At : Option Addr} {cs ct : Nat} (ss : List Sch) (ts : List Tab) (schema table name : ByteArray) (w : World) (hs : kSch.C w As ss.length ss) (hsl : ss.length ≤ 3000) (ht : kTab.C w At ts.length ts) (hF : TabsF ts) (hB : TabsB ts) :
    Calls Try.prog 26 #[.agg #[Value.slice As ss.length cs, Value.slice At ts.length ct], .string schema, .string table, .string name] w (Out w (rDropColumn ss ts schema table name)) := by
  have HX0 := Aside0.mk (boxes2 w (.cells #[Value.slice As ss.length cs, Value.slice At ts.length ct] 26) (.cells #[Value.slice none 0 0, Value.slice none 0 0] 26))
  have HCK := Aside0.mk (fun W (hW : Below w.heap.size w W) => rRightAll.calls (As := As) (cs := cs) (At := At) (ct := ct) ss ts W (Kd.C_below hs hW) (by omega) (Kd.C_below ht hW) hF)
  have HOW := Aside0.mk (fun W (hW : Below w.heap.size w W) => rOwn.calls (As := As) (cs := cs) (At := At) (ct := ct) ss ts W (Kd.C_below hs hW) hsl (Kd.C_below ht hW) hB)
  have HTB := Aside0.mk (fun W (hW : Below w.heap.size w W) => rTable.calls (As := As) (ns := ss.length) (cs := cs) (A0 := At) (c0 := ct) schema table ts W (Kd.C_below ht hW) (by have := hB.1; omega))
  have HT := Aside0.mk ht
  have HBB := Aside0.mk hB
  have HNO := Aside0.mk (fun n W => rNo.calls n W)
  have hln : ts.length ≤ 3000 := hB.1
  clear hs ht hF hB
  cases hck : checkB ss ts with
  | false =>
    have HQ := Aside0.mk (show rDropColumn ss ts schema table name = (63, [], []) by unfold rDropColumn chg; rw [hck]; rfl)
    rw [hck] at HCK
    rw [HQ.out]
    clear hck HQ HOW HTB HT HBB
    go_enter Try.func26, Try.ntmps26
    have c_o0 : ((w.alloc (.cells #[Value.slice As ss.length cs, Value.slice At ts.length ct] 26)).alloc (.cells #[Value.slice none 0 0, Value.slice none 0 0] 26)).cell? ⟨w.heap.size, 0, none⟩ = some (Value.slice As ss.length cs) := (blk_cell HX0.out.2.1 0).trans rfl
    have f_o0 := blk_frozen HX0.out.2.1 0
    have c_o1 : ((w.alloc (.cells #[Value.slice As ss.length cs, Value.slice At ts.length ct] 26)).alloc (.cells #[Value.slice none 0 0, Value.slice none 0 0] 26)).cell? ⟨w.heap.size, 1, none⟩ = some (Value.slice At ts.length ct) := (blk_cell HX0.out.2.1 1).trans rfl
    have f_o1 := blk_frozen HX0.out.2.1 1
    have c_z0 : ((w.alloc (.cells #[Value.slice As ss.length cs, Value.slice At ts.length ct] 26)).alloc (.cells #[Value.slice none 0 0, Value.slice none 0 0] 26)).cell? ⟨w.heap.size + 1, 0, none⟩ = some (Value.slice none 0 0) := (blk_cell HX0.out.2.2 0).trans rfl
    have f_z0 := blk_frozen HX0.out.2.2 0
    have c_z1 : ((w.alloc (.cells #[Value.slice As ss.length cs, Value.slice At ts.length ct] 26)).alloc (.cells #[Value.slice none 0 0, Value.slice none 0 0] 26)).cell? ⟨w.heap.size + 1, 1, none⟩ = some (Value.slice none 0 0) := (blk_cell HX0.out.2.2 1).trans rfl
    have f_z1 := blk_frozen HX0.out.2.2 1
    go_wp2_with fail
    clear c_o0 f_o0 c_o1 f_o1 c_z0 f_z0 c_z1 f_z1
    refine (HCK.out _ HX0.out.1).mono ?_
    rintro e w1 ⟨rfl, hb1⟩
    have HB1 := Aside0.mk (below_step (HX0.out.1) hb1)
    have HK1 := Aside0.mk (blk_below (HX0.out.2.1) hb1)
    have HK2 := Aside0.mk (blk_below (HX0.out.2.2) hb1)
    have HS1 := Aside0.mk hb1
    clear hb1
    have c_o0 : w1.cell? ⟨w.heap.size, 0, none⟩ = some (Value.slice As ss.length cs) := (blk_cell HK1.out 0).trans rfl
    have f_o0 := blk_frozen HK1.out 0
    have c_o1 : w1.cell? ⟨w.heap.size, 1, none⟩ = some (Value.slice At ts.length ct) := (blk_cell HK1.out 1).trans rfl
    have f_o1 := blk_frozen HK1.out 1
    have c_z0 : w1.cell? ⟨w.heap.size + 1, 0, none⟩ = some (Value.slice none 0 0) := (blk_cell HK2.out 0).trans rfl
    have f_z0 := blk_frozen HK2.out 0
    have c_z1 : w1.cell? ⟨w.heap.size + 1, 1, none⟩ = some (Value.slice none 0 0) := (blk_cell HK2.out 1).trans rfl
    have f_z1 := blk_frozen HK2.out 1
    go_wp2_with fail
    clear c_o0 f_o0 c_o1 f_o1 c_z0 f_z0 c_z1 f_z1
    refine (HNO.out _ _).mono ?_
    rintro e w2 ⟨rfl, hb2⟩
    have HB2 := Aside0.mk (below_step (HB1.out) hb2)
    have HK3 := Aside0.mk (blk_below (HK1.out) hb2)
    have HK4 := Aside0.mk (blk_below (HK2.out) hb2)
    have HS2 := Aside0.mk hb2
    clear hb2
    have c_o0 : w2.cell? ⟨w.heap.size, 0, none⟩ = some (Value.slice As ss.length cs) := (blk_cell HK3.out 0).trans rfl
    have f_o0 := blk_frozen HK3.out 0
    have c_o1 : w2.cell? ⟨w.heap.size, 1, none⟩ = some (Value.slice At ts.length ct) := (blk_cell HK3.out 1).trans rfl
    have f_o1 := blk_frozen HK3.out 1
    have c_z0 : w2.cell? ⟨w.heap.size + 1, 0, none⟩ = some (Value.slice none 0 0) := (blk_cell HK4.out 0).trans rfl
    have f_z0 := blk_frozen HK4.out 0
    have c_z1 : w2.cell? ⟨w.heap.size + 1, 1, none⟩ = some (Value.slice none 0 0) := (blk_cell HK4.out 1).trans rfl
    have f_z1 := blk_frozen HK4.out 1
    go_wp2
    refine bodyPost_ret (v := .tuple #[.agg #[.slice none 0 0, .slice none 0 0], .int .i64 63]) (by simp [results, Try.results26, go_sem, *]) rfl ?_
    exact zeroOut (g := w.heap.size + 1) (n := 63) HB2.out (by omega)
  | true =>
    have HK := Aside0.mk hck
    rw [hck] at HCK
    clear hck
    unfold rDropColumn
    rcases idx_cases (isT schema table) ts with ⟨k, hk, hi, hx1, hx2⟩ | ⟨hi, hx1⟩
    rotate_left
    · rw [tch_no HK.out hi]
      rw [hi] at HTB
      clear hi hx1 HOW HT HBB HK
      have h2 : decide ((-1 : Int) < 0) = true := rfl
      go_enter Try.func26, Try.ntmps26
      have c_o0 : ((w.alloc (.cells #[Value.slice As ss.length cs, Value.slice At ts.length ct] 26)).alloc (.cells #[Value.slice none 0 0, Value.slice none 0 0] 26)).cell? ⟨w.heap.size, 0, none⟩ = some (Value.slice As ss.length cs) := (blk_cell HX0.out.2.1 0).trans rfl
      have f_o0 := blk_frozen HX0.out.2.1 0
      have c_o1 : ((w.alloc (.cells #[Value.slice As ss.length cs, Value.slice At ts.length ct] 26)).alloc (.cells #[Value.slice none 0 0, Value.slice none 0 0] 26)).cell? ⟨w.heap.size, 1, none⟩ = some (Value.slice At ts.length ct) := (blk_cell HX0.out.2.1 1).trans rfl
      have f_o1 := blk_frozen HX0.out.2.1 1
      have c_z0 : ((w.alloc (.cells #[Value.slice As ss.length cs, Value.slice At ts.length ct] 26)).alloc (.cells #[Value.slice none 0 0, Value.slice none 0 0] 26)).cell? ⟨w.heap.size + 1, 0, none⟩ = some (Value.slice none 0 0) := (blk_cell HX0.out.2.2 0).trans rfl
      have f_z0 := blk_frozen HX0.out.2.2 0
      have c_z1 : ((w.alloc (.cells #[Value.slice As ss.length cs, Value.slice At ts.length ct] 26)).alloc (.cells #[Value.slice none 0 0, Value.slice none 0 0] 26)).cell? ⟨w.heap.size + 1, 1, none⟩ = some (Value.slice none 0 0) := (blk_cell HX0.out.2.2 1).trans rfl
      have f_z1 := blk_frozen HX0.out.2.2 1
      go_wp2_with fail
      clear c_o0 f_o0 c_o1 f_o1 c_z0 f_z0 c_z1 f_z1
      refine (HCK.out _ HX0.out.1).mono ?_
      rintro e w1 ⟨rfl, hb1⟩
      have HB1 := Aside0.mk (below_step (HX0.out.1) hb1)
      have HK1 := Aside0.mk (blk_below (HX0.out.2.1) hb1)
      have HK2 := Aside0.mk (blk_below (HX0.out.2.2) hb1)
      have HS1 := Aside0.mk hb1
      clear hb1
      have c_o0 : w1.cell? ⟨w.heap.size, 0, none⟩ = some (Value.slice As ss.length cs) := (blk_cell HK1.out 0).trans rfl
      have f_o0 := blk_frozen HK1.out 0
      have c_o1 : w1.cell? ⟨w.heap.size, 1, none⟩ = some (Value.slice At ts.length ct) := (blk_cell HK1.out 1).trans rfl
      have f_o1 := blk_frozen HK1.out 1
      have c_z0 : w1.cell? ⟨w.heap.size + 1, 0, none⟩ = some (Value.slice none 0 0) := (blk_cell HK2.out 0).trans rfl
      have f_z0 := blk_frozen HK2.out 0
      have c_z1 : w1.cell? ⟨w.heap.size + 1, 1, none⟩ = some (Value.slice none 0 0) := (blk_cell HK2.out 1).trans rfl
      have f_z1 := blk_frozen HK2.out 1
      go_wp2_with fail
      clear c_o0 f_o0 c_o1 f_o1 c_z0 f_z0 c_z1 f_z1
      refine (HTB.out _ HB1.out).mono ?_
      rintro e w2 ⟨rfl, hb2⟩
      have HB2 := Aside0.mk (below_step (HB1.out) hb2)
      have HK3 := Aside0.mk (blk_below (HK1.out) hb2)
      have HK4 := Aside0.mk (blk_below (HK2.out) hb2)
      have HS2 := Aside0.mk hb2
      clear hb2
      have c_o0 : w2.cell? ⟨w.heap.size, 0, none⟩ = some (Value.slice As ss.length cs) := (blk_cell HK3.out 0).trans rfl
      have f_o0 := blk_frozen HK3.out 0
      have c_o1 : w2.cell? ⟨w.heap.size, 1, none⟩ = some (Value.slice At ts.length ct) := (blk_cell HK3.out 1).trans rfl
      have f_o1 := blk_frozen HK3.out 1
      have c_z0 : w2.cell? ⟨w.heap.size + 1, 0, none⟩ = some (Value.slice none 0 0) := (blk_cell HK4.out 0).trans rfl
      have f_z0 := blk_frozen HK4.out 0
      have c_z1 : w2.cell? ⟨w.heap.size + 1, 1, none⟩ = some (Value.slice none 0 0) := (blk_cell HK4.out 1).trans rfl
      have f_z1 := blk_frozen HK4.out 1
      go_wp2_with fail
      clear c_o0 f_o0 c_o1 f_o1 c_z0 f_z0 c_z1 f_z1
      refine (HNO.out _ _).mono ?_
      rintro e w3 ⟨rfl, hb3⟩
      have HB3 := Aside0.mk (below_step (HB2.out) hb3)
      have HK5 := Aside0.mk (blk_below (HK3.out) hb3)
      have HK6 := Aside0.mk (blk_below (HK4.out) hb3)
      have HS3 := Aside0.mk hb3
      clear hb3
      have c_o0 : w3.cell? ⟨w.heap.size, 0, none⟩ = some (Value.slice As ss.length cs) := (blk_cell HK5.out 0).trans rfl
      have f_o0 := blk_frozen HK5.out 0
      have c_o1 : w3.cell? ⟨w.heap.size, 1, none⟩ = some (Value.slice At ts.length ct) := (blk_cell HK5.out 1).trans rfl
      have f_o1 := blk_frozen HK5.out 1
      have c_z0 : w3.cell? ⟨w.heap.size + 1, 0, none⟩ = some (Value.slice none 0 0) := (blk_cell HK6.out 0).trans rfl
      have f_z0 := blk_frozen HK6.out 0
      have c_z1 : w3.cell? ⟨w.heap.size + 1, 1, none⟩ = some (Value.slice none 0 0) := (blk_cell HK6.out 1).trans rfl
      have f_z1 := blk_frozen HK6.out 1
      go_wp2
      refine bodyPost_ret (v := .tuple #[.agg #[.slice none 0 0, .slice none 0 0], .int .i64 61]) (by simp [results, Try.results26, go_sem, *]) rfl ?_
      exact zeroOut (g := w.heap.size + 1) (n := 61) HB3.out (by omega)
    have HI := Aside0.mk hi
    rw [hi] at HTB
    clear hi hx1 hx2
    have h0 : (0 : Int) ≤ (k : Int) := by omega
    have h1 : (k : Int) < (ts.length : Int) := by omega
    have h2 : decide ((k : Int) < 0) = false := decide_eq_false (by omega)
    have hlc : ts[k].cols.length ≤ 3000 := (HBB.out.2 _ (List.getElem_mem hk)).1
    have hlr : ts[k].rules.length ≤ 3000 := (HBB.out.2 _ (List.getElem_mem hk)).2.1
    have HRB := Aside0.mk (HBB.out.2 _ (List.getElem_mem hk)).2.2
    obtain ⟨ad, A3, c3, A4, c4, e, x0, x1, x2, x3, x4, _, h3, _, h4⟩ := tabAt HT.out k hk
    cases e
    have HX3 := Aside0.mk (And.intro x0 (And.intro x1 (And.intro x2 (And.intro x3 x4))))
    have HC3 := Aside0.mk h3
    have HC4 := Aside0.mk h4
    have HCL := Aside0.mk (fun W' (hW' : Below w.heap.size w W') => rColumn.calls (c0 := c3) name ts[k].cols W' (Kd.C_below h3 hW') (by omega))
    clear x0 x1 x2 x3 x4 h3 h4 HT HBB
    rcases idx_cases (fun x : Col => x.name.toList == name.toList) ts[k].cols with ⟨m, hm, hi, y1, y2⟩ | ⟨hi, y1⟩
    rotate_left
    · rw [tch_bad (n := 61) HK.out HI.out hk (by unfold rDropColM; rw [hi]; rfl) (by decide)]
      rw [hi] at HCL
      have h3 : decide ((-1 : Int) < 0) = true := rfl
      clear hi y1 HOW HK HI HRB HC3 HC4
      go_enter Try.func26, Try.ntmps26
      have c_o0 : ((w.alloc (.cells #[Value.slice As ss.length cs, Value.slice (some ad) ts.length ct] 26)).alloc (.cells #[Value.slice none 0 0, Value.slice none 0 0] 26)).cell? ⟨w.heap.size, 0, none⟩ = some (Value.slice As ss.length cs) := (blk_cell HX0.out.2.1 0).trans rfl
      have f_o0 := blk_frozen HX0.out.2.1 0
      have c_o1 : ((w.alloc (.cells #[Value.slice As ss.length cs, Value.slice (some ad) ts.length ct] 26)).alloc (.cells #[Value.slice none 0 0, Value.slice none 0 0] 26)).cell? ⟨w.heap.size, 1, none⟩ = some (Value.slice (some ad) ts.length ct) := (blk_cell HX0.out.2.1 1).trans rfl
      have f_o1 := blk_frozen HX0.out.2.1 1
      have c_z0 : ((w.alloc (.cells #[Value.slice As ss.length cs, Value.slice (some ad) ts.length ct] 26)).alloc (.cells #[Value.slice none 0 0, Value.slice none 0 0] 26)).cell? ⟨w.heap.size + 1, 0, none⟩ = some (Value.slice none 0 0) := (blk_cell HX0.out.2.2 0).trans rfl
      have f_z0 := blk_frozen HX0.out.2.2 0
      have c_z1 : ((w.alloc (.cells #[Value.slice As ss.length cs, Value.slice (some ad) ts.length ct] 26)).alloc (.cells #[Value.slice none 0 0, Value.slice none 0 0] 26)).cell? ⟨w.heap.size + 1, 1, none⟩ = some (Value.slice none 0 0) := (blk_cell HX0.out.2.2 1).trans rfl
      have f_z1 := blk_frozen HX0.out.2.2 1
      go_wp2_with fail
      clear c_o0 f_o0 c_o1 f_o1 c_z0 f_z0 c_z1 f_z1
      refine (HCK.out _ HX0.out.1).mono ?_
      rintro e w1 ⟨rfl, hb1⟩
      have HB1 := Aside0.mk (below_step (HX0.out.1) hb1)
      have HK1 := Aside0.mk (blk_below (HX0.out.2.1) hb1)
      have HK2 := Aside0.mk (blk_below (HX0.out.2.2) hb1)
      have HS1 := Aside0.mk hb1
      clear hb1
      have c_o0 : w1.cell? ⟨w.heap.size, 0, none⟩ = some (Value.slice As ss.length cs) := (blk_cell HK1.out 0).trans rfl
      have f_o0 := blk_frozen HK1.out 0
      have c_o1 : w1.cell? ⟨w.heap.size, 1, none⟩ = some (Value.slice (some ad) ts.length ct) := (blk_cell HK1.out 1).trans rfl
      have f_o1 := blk_frozen HK1.out 1
      have c_z0 : w1.cell? ⟨w.heap.size + 1, 0, none⟩ = some (Value.slice none 0 0) := (blk_cell HK2.out 0).trans rfl
      have f_z0 := blk_frozen HK2.out 0
      have c_z1 : w1.cell? ⟨w.heap.size + 1, 1, none⟩ = some (Value.slice none 0 0) := (blk_cell HK2.out 1).trans rfl
      have f_z1 := blk_frozen HK2.out 1
      go_wp2_with fail
      clear c_o0 f_o0 c_o1 f_o1 c_z0 f_z0 c_z1 f_z1
      refine (HTB.out _ HB1.out).mono ?_
      rintro e w2 ⟨rfl, hb2⟩
      have HB2 := Aside0.mk (below_step (HB1.out) hb2)
      have HK3 := Aside0.mk (blk_below (HK1.out) hb2)
      have HK4 := Aside0.mk (blk_below (HK2.out) hb2)
      have HS2 := Aside0.mk hb2
      clear hb2
      have x3 := pw_cell_below HB2.out HX3.out.2.2.2.1
      have c_o0 : w2.cell? ⟨w.heap.size, 0, none⟩ = some (Value.slice As ss.length cs) := (blk_cell HK3.out 0).trans rfl
      have f_o0 := blk_frozen HK3.out 0
      have c_o1 : w2.cell? ⟨w.heap.size, 1, none⟩ = some (Value.slice (some ad) ts.length ct) := (blk_cell HK3.out 1).trans rfl
      have f_o1 := blk_frozen HK3.out 1
      have c_z0 : w2.cell? ⟨w.heap.size + 1, 0, none⟩ = some (Value.slice none 0 0) := (blk_cell HK4.out 0).trans rfl
      have f_z0 := blk_frozen HK4.out 0
      have c_z1 : w2.cell? ⟨w.heap.size + 1, 1, none⟩ = some (Value.slice none 0 0) := (blk_cell HK4.out 1).trans rfl
      have f_z1 := blk_frozen HK4.out 1
      go_wp2_with fail
      clear c_o0 f_o0 c_o1 f_o1 c_z0 f_z0 c_z1 f_z1
      refine (HCL.out _ HB2.out).mono ?_
      rintro e w3 ⟨rfl, hb3⟩
      have HB3 := Aside0.mk (below_step (HB2.out) hb3)
      have HK5 := Aside0.mk (blk_below (HK3.out) hb3)
      have HK6 := Aside0.mk (blk_below (HK4.out) hb3)
      have HS3 := Aside0.mk hb3
      clear hb3
      clear x3
      have c_o0 : w3.cell? ⟨w.heap.size, 0, none⟩ = some (Value.slice As ss.length cs) := (blk_cell HK5.out 0).trans rfl
      have f_o0 := blk_frozen HK5.out 0
      have c_o1 : w3.cell? ⟨w.heap.size, 1, none⟩ = some (Value.slice (some ad) ts.length ct) := (blk_cell HK5.out 1).trans rfl
      have f_o1 := blk_frozen HK5.out 1
      have c_z0 : w3.cell? ⟨w.heap.size + 1, 0, none⟩ = some (Value.slice none 0 0) := (blk_cell HK6.out 0).trans rfl
      have f_z0 := blk_frozen HK6.out 0
      have c_z1 : w3.cell? ⟨w.heap.size + 1, 1, none⟩ = some (Value.slice none 0 0) := (blk_cell HK6.out 1).trans rfl
      have f_z1 := blk_frozen HK6.out 1
      go_wp2_with fail
      clear c_o0 f_o0 c_o1 f_o1 c_z0 f_z0 c_z1 f_z1
      refine (HNO.out _ _).mono ?_
      rintro e w4 ⟨rfl, hb4⟩
      have HB4 := Aside0.mk (below_step (HB3.out) hb4)
      have HK7 := Aside0.mk (blk_below (HK5.out) hb4)
      have HK8 := Aside0.mk (blk_below (HK6.out) hb4)
      have HS4 := Aside0.mk hb4
      clear hb4
      have c_o0 : w4.cell? ⟨w.heap.size, 0, none⟩ = some (Value.slice As ss.length cs) := (blk_cell HK7.out 0).trans rfl
      have f_o0 := blk_frozen HK7.out 0
      have c_o1 : w4.cell? ⟨w.heap.size, 1, none⟩ = some (Value.slice (some ad) ts.length ct) := (blk_cell HK7.out 1).trans rfl
      have f_o1 := blk_frozen HK7.out 1
      have c_z0 : w4.cell? ⟨w.heap.size + 1, 0, none⟩ = some (Value.slice none 0 0) := (blk_cell HK8.out 0).trans rfl
      have f_z0 := blk_frozen HK8.out 0
      have c_z1 : w4.cell? ⟨w.heap.size + 1, 1, none⟩ = some (Value.slice none 0 0) := (blk_cell HK8.out 1).trans rfl
      have f_z1 := blk_frozen HK8.out 1
      go_wp2
      refine bodyPost_ret (v := .tuple #[.agg #[.slice none 0 0, .slice none 0 0], .int .i64 61]) (by simp [results, Try.results26, go_sem, *]) rfl ?_
      exact zeroOut (g := w.heap.size + 1) (n := 61) HB4.out (by omega)
    have HAM := Aside0.mk (show rDropColM name ts[k] = (if (decide (ts[k].cols.length = 1) || ts[k].rules.any (usesR name)) = true then (62, ts[k]) else (0, { ts[k] with cols := ts[k].cols.filter (noC name) })) by unfold rDropColM; rw [hi, if_pos (show (0 : Int) ≤ (m : Int) by omega)])
    rw [hi] at HCL
    have h3 : decide ((m : Int) < 0) = false := decide_eq_false (by omega)
    clear hi y1 y2 hm
    go_enter Try.func26, Try.ntmps26
    have c_o0 : ((w.alloc (.cells #[Value.slice As ss.length cs, Value.slice (some ad) ts.length ct] 26)).alloc (.cells #[Value.slice none 0 0, Value.slice none 0 0] 26)).cell? ⟨w.heap.size, 0, none⟩ = some (Value.slice As ss.length cs) := (blk_cell HX0.out.2.1 0).trans rfl
    have f_o0 := blk_frozen HX0.out.2.1 0
    have c_o1 : ((w.alloc (.cells #[Value.slice As ss.length cs, Value.slice (some ad) ts.length ct] 26)).alloc (.cells #[Value.slice none 0 0, Value.slice none 0 0] 26)).cell? ⟨w.heap.size, 1, none⟩ = some (Value.slice (some ad) ts.length ct) := (blk_cell HX0.out.2.1 1).trans rfl
    have f_o1 := blk_frozen HX0.out.2.1 1
    have c_z0 : ((w.alloc (.cells #[Value.slice As ss.length cs, Value.slice (some ad) ts.length ct] 26)).alloc (.cells #[Value.slice none 0 0, Value.slice none 0 0] 26)).cell? ⟨w.heap.size + 1, 0, none⟩ = some (Value.slice none 0 0) := (blk_cell HX0.out.2.2 0).trans rfl
    have f_z0 := blk_frozen HX0.out.2.2 0
    have c_z1 : ((w.alloc (.cells #[Value.slice As ss.length cs, Value.slice (some ad) ts.length ct] 26)).alloc (.cells #[Value.slice none 0 0, Value.slice none 0 0] 26)).cell? ⟨w.heap.size + 1, 1, none⟩ = some (Value.slice none 0 0) := (blk_cell HX0.out.2.2 1).trans rfl
    have f_z1 := blk_frozen HX0.out.2.2 1
    go_wp2_with fail
    clear c_o0 f_o0 c_o1 f_o1 c_z0 f_z0 c_z1 f_z1
    refine (HCK.out _ HX0.out.1).mono ?_
    rintro e w1 ⟨rfl, hb1⟩
    have HB1 := Aside0.mk (below_step (HX0.out.1) hb1)
    have HK1 := Aside0.mk (blk_below (HX0.out.2.1) hb1)
    have HK2 := Aside0.mk (blk_below (HX0.out.2.2) hb1)
    have HS1 := Aside0.mk hb1
    clear hb1
    have c_o0 : w1.cell? ⟨w.heap.size, 0, none⟩ = some (Value.slice As ss.length cs) := (blk_cell HK1.out 0).trans rfl
    have f_o0 := blk_frozen HK1.out 0
    have c_o1 : w1.cell? ⟨w.heap.size, 1, none⟩ = some (Value.slice (some ad) ts.length ct) := (blk_cell HK1.out 1).trans rfl
    have f_o1 := blk_frozen HK1.out 1
    have c_z0 : w1.cell? ⟨w.heap.size + 1, 0, none⟩ = some (Value.slice none 0 0) := (blk_cell HK2.out 0).trans rfl
    have f_z0 := blk_frozen HK2.out 0
    have c_z1 : w1.cell? ⟨w.heap.size + 1, 1, none⟩ = some (Value.slice none 0 0) := (blk_cell HK2.out 1).trans rfl
    have f_z1 := blk_frozen HK2.out 1
    go_wp2_with fail
    clear c_o0 f_o0 c_o1 f_o1 c_z0 f_z0 c_z1 f_z1
    refine (HTB.out _ HB1.out).mono ?_
    rintro e w2 ⟨rfl, hb2⟩
    have HB2 := Aside0.mk (below_step (HB1.out) hb2)
    have HK3 := Aside0.mk (blk_below (HK1.out) hb2)
    have HK4 := Aside0.mk (blk_below (HK2.out) hb2)
    have HS2 := Aside0.mk hb2
    clear hb2
    have x3 := pw_cell_below HB2.out HX3.out.2.2.2.1
    have c_o0 : w2.cell? ⟨w.heap.size, 0, none⟩ = some (Value.slice As ss.length cs) := (blk_cell HK3.out 0).trans rfl
    have f_o0 := blk_frozen HK3.out 0
    have c_o1 : w2.cell? ⟨w.heap.size, 1, none⟩ = some (Value.slice (some ad) ts.length ct) := (blk_cell HK3.out 1).trans rfl
    have f_o1 := blk_frozen HK3.out 1
    have c_z0 : w2.cell? ⟨w.heap.size + 1, 0, none⟩ = some (Value.slice none 0 0) := (blk_cell HK4.out 0).trans rfl
    have f_z0 := blk_frozen HK4.out 0
    have c_z1 : w2.cell? ⟨w.heap.size + 1, 1, none⟩ = some (Value.slice none 0 0) := (blk_cell HK4.out 1).trans rfl
    have f_z1 := blk_frozen HK4.out 1
    go_wp2_with fail
    clear c_o0 f_o0 c_o1 f_o1 c_z0 f_z0 c_z1 f_z1
    refine (HCL.out _ HB2.out).mono ?_
    rintro e w3 ⟨rfl, hb3⟩
    have HB3 := Aside0.mk (below_step (HB2.out) hb3)
    have HK5 := Aside0.mk (blk_below (HK3.out) hb3)
    have HK6 := Aside0.mk (blk_below (HK4.out) hb3)
    have HS3 := Aside0.mk hb3
    clear hb3
    clear x3
    have x0 := pw_cell_below HB3.out HX3.out.1
    have x1 := pw_cell_below HB3.out HX3.out.2.1
    have x2 := pw_cell_below HB3.out HX3.out.2.2.1
    have x3 := pw_cell_below HB3.out HX3.out.2.2.2.1
    have x4 := pw_cell_below HB3.out HX3.out.2.2.2.2
    have c_o0 : w3.cell? ⟨w.heap.size, 0, none⟩ = some (Value.slice As ss.length cs) := (blk_cell HK5.out 0).trans rfl
    have f_o0 := blk_frozen HK5.out 0
    have c_o1 : w3.cell? ⟨w.heap.size, 1, none⟩ = some (Value.slice (some ad) ts.length ct) := (blk_cell HK5.out 1).trans rfl
    have f_o1 := blk_frozen HK5.out 1
    go_wp2
    clear c_o0 f_o0 c_o1 f_o1
    clear x0 x1 x2 x3 x4 HCK HTB HCL
    obtain ⟨V, he⟩ : ∃ V, V = (w3.alloc (.cells #[Value.string ts[k].schema, Value.string ts[k].name, Value.string ts[k].owner, Value.slice A3 ts[k].cols.length c3, Value.slice A4 ts[k].rules.length c4] 35)) := ⟨_, rfl⟩
    have hb9 : Below w3.heap.size w3 V := by rw [he]; exact below_alloc (Below.refl _ _) _
    have VN := Aside0.mk (show V.heap[w3.heap.size]? = some (.cells #[Value.string ts[k].schema, Value.string ts[k].name, Value.string ts[k].owner, Value.slice A3 ts[k].cols.length c3, Value.slice A4 ts[k].rules.length c4] 35 (0, 0)) by rw [he]; exact blk_new _ _)
    have VS := Aside0.mk (show w3.heap.size ≤ V.heap.size by rw [he]; simp)
    have HBV := Aside0.mk (below_step (HB3.out) hb9)
    have HK7 := Aside0.mk (blk_below (HK5.out) hb9)
    have HK8 := Aside0.mk (blk_below (HK6.out) hb9)
    clear hb9
    rw [← he]
    clear he
    go_loopw [12, 13] (fun u i w' => ∃ j : Nat, ∃ b : Bool, j ≤ ts[k].rules.length ∧ i = .int .i64 j ∧ u = .bool b ∧ Aside0 (b = (decide (ts[k].cols.length = 1) || (ts[k].rules.take j).any (usesR name)) ∧ Below V.heap.size V w')) (fun _ i _ => ts[k].rules.length - (intOf i).toNat)
    case atStart => exact ⟨0, _, Nat.zero_le _, rfl, rfl, ⟨by simp [one_int], Below.refl _ _⟩⟩
    case round =>
      obtain ⟨j, b, hj, rfl, rfl, HJ⟩ := hrel
      have HBr := Aside0.mk (below_step (HBV.out) HJ.out.2)
      have HK9 := Aside0.mk (blk_below (HK7.out) HJ.out.2)
      have HK10 := Aside0.mk (blk_below (HK8.out) HJ.out.2)
      have HK11 := Aside0.mk (blk_below (VN.out) HJ.out.2)
      have b4 : wr.cell? ⟨w3.heap.size, 4, none⟩ = some (Value.slice A4 ts[k].rules.length c4) := (blk_cell HK11.out 4).trans rfl
      by_cases hlt : j < ts[k].rules.length
      · obtain ⟨ad2, A2, c2, e, _, _, r2, _, _, _, _, _, hl2, hC⟩ := rulAt (Kd.C_below HC4.out HBr.out) j hlt
        cases e
        have hlr2 : ts[k].rules[j].cols.length ≤ 3000 := HRB.out _ (List.getElem_mem hlt)
        have HIN := Aside0.mk (rIn.calls (c0 := c2) name ts[k].rules[j].cols wr hC (by omega))
        have i0 : (0 : Int) ≤ (j : Int) := by omega
        have i1 : (j : Int) < (ts[k].rules.length : Int) := by omega
        have HNX := Aside0.mk (any_next (p := usesR name) hlt (decide (ts[k].cols.length = 1)))
        rw [← HJ.out.1] at HNX
        clear hC hl2
        cases b with
        | true =>
          go_wp2
          go_roundw
          case rel => exact ⟨j + 1, true, by omega, by go_num, rfl, ⟨HNX.out, HJ.out.2⟩⟩
          case measure => simp [intOf]; omega
        | false =>
          go_wp2_with fail
          refine HIN.out.mono ?_
          rintro e w9 ⟨rfl, hb9⟩
          have HB9 := Aside0.mk (below_step HJ.out.2 hb9)
          have b9 := pw_cell_below hb9 b4
          clear hb9 r2 b4
          go_wp2
          go_roundw
          case rel => exact ⟨j + 1, _, by omega, by go_num, rfl, ⟨HNX.out, HB9.out⟩⟩
          case measure => simp [intOf]; omega
      obtain rfl : j = ts[k].rules.length := by omega
      have hdj : decide (ts[k].rules.length < ts[k].rules.length) = false := decide_eq_false hlt
      have HU := Aside0.mk HJ.out.1
      rw [List.take_length] at HU
      cases b with
      | true =>
        have HQ := Aside0.mk (tch_bad (md := rDropColM name) (n := 62) HK.out HI.out hk (by rw [HAM.out, if_pos HU.out.symm]) (by decide))
        clear HAM HOW HK HI HRB HC3 HC4 HU
        have c_o0 : wr.cell? ⟨w.heap.size, 0, none⟩ = some (Value.slice As ss.length cs) := (blk_cell HK9.out 0).trans rfl
        have f_o0 := blk_frozen HK9.out 0
        have c_o1 : wr.cell? ⟨w.heap.size, 1, none⟩ = some (Value.slice (some ad) ts.length ct) := (blk_cell HK9.out 1).trans rfl
        have f_o1 := blk_frozen HK9.out 1
        have c_z0 : wr.cell? ⟨w.heap.size + 1, 0, none⟩ = some (Value.slice none 0 0) := (blk_cell HK10.out 0).trans rfl
        have f_z0 := blk_frozen HK10.out 0
        have c_z1 : wr.cell? ⟨w.heap.size + 1, 1, none⟩ = some (Value.slice none 0 0) := (blk_cell HK10.out 1).trans rfl
        have f_z1 := blk_frozen HK10.out 1
        go_wp2_with fail
        clear c_o0 f_o0 c_o1 f_o1 c_z0 f_z0 c_z1 f_z1
        refine (HNO.out _ _).mono ?_
        rintro e w4 ⟨rfl, hb4⟩
        have HB4 := Aside0.mk (below_step (HBr.out) hb4)
        have HK12 := Aside0.mk (blk_below (HK9.out) hb4)
        have HK13 := Aside0.mk (blk_below (HK10.out) hb4)
        have HS4 := Aside0.mk hb4
        clear hb4
        have c_o0 : w4.cell? ⟨w.heap.size, 0, none⟩ = some (Value.slice As ss.length cs) := (blk_cell HK12.out 0).trans rfl
        have f_o0 := blk_frozen HK12.out 0
        have c_o1 : w4.cell? ⟨w.heap.size, 1, none⟩ = some (Value.slice (some ad) ts.length ct) := (blk_cell HK12.out 1).trans rfl
        have f_o1 := blk_frozen HK12.out 1
        have c_z0 : w4.cell? ⟨w.heap.size + 1, 0, none⟩ = some (Value.slice none 0 0) := (blk_cell HK13.out 0).trans rfl
        have f_z0 := blk_frozen HK13.out 0
        have c_z1 : w4.cell? ⟨w.heap.size + 1, 1, none⟩ = some (Value.slice none 0 0) := (blk_cell HK13.out 1).trans rfl
        have f_z1 := blk_frozen HK13.out 1
        go_wp2
        refine bodyPost_ret (v := .tuple #[.agg #[.slice none 0 0, .slice none 0 0], .int .i64 62]) (by simp [results, Try.results26, go_sem, *]) rfl ?_
        rw [HQ.out]
        exact zeroOut (g := w.heap.size + 1) (n := 62) HB4.out (by omega)
      | false =>
      have HQ := Aside0.mk (tch_good (md := rDropColM name) HK.out HI.out hk (by rw [HAM.out, if_neg (by rw [← HU.out]; decide)]))
      clear HAM HK HI HNO HU HRB HX3
      have c_o0 : wr.cell? ⟨w.heap.size, 0, none⟩ = some (Value.slice As ss.length cs) := (blk_cell HK9.out 0).trans rfl
      have f_o0 := blk_frozen HK9.out 0
      have c_o1 : wr.cell? ⟨w.heap.size, 1, none⟩ = some (Value.slice (some ad) ts.length ct) := (blk_cell HK9.out 1).trans rfl
      have f_o1 := blk_frozen HK9.out 1
      go_wp2_with fail
      clear c_o0 f_o0 c_o1 f_o1
      refine (HOW.out _ HBr.out).mono ?_
      rintro e x4 ⟨Bs, ds, Bt, dt, rfl, hR, hS, hb4⟩
      have HB4 := Aside0.mk (below_step (HBr.out) hb4)
      have HK14 := Aside0.mk (blk_below (HK9.out) hb4)
      have HK15 := Aside0.mk (blk_below (HK10.out) hb4)
      have HK16 := Aside0.mk (blk_below (HK11.out) hb4)
      have HLE := Aside0.mk hb4.size
      clear hb4 b4
      obtain ⟨g, rfl⟩ := S_addr hS (by omega)
      have hR0 := Kd.R_alloc hR (.cells #[Value.slice Bs ss.length ds, Value.slice (some ⟨g, 0, none⟩) ts.length dt] 26)
      have hS0 := Kd.S_alloc hS (.cells #[Value.slice Bs ss.length ds, Value.slice (some ⟨g, 0, none⟩) ts.length dt] 26)
      obtain ⟨U, he⟩ : ∃ V, V = (x4.alloc (.cells #[Value.slice Bs ss.length ds, Value.slice (some ⟨g, 0, none⟩) ts.length dt] 26)) := ⟨_, rfl⟩
      have hb9 : Below x4.heap.size x4 U := by rw [he]; exact below_alloc (Below.refl _ _) _
      have UN := Aside0.mk (show U.heap[x4.heap.size]? = some (.cells #[Value.slice Bs ss.length ds, Value.slice (some ⟨g, 0, none⟩) ts.length dt] 26 (0, 0)) by rw [he]; exact blk_new _ _)
      have US := Aside0.mk (show x4.heap.size ≤ U.heap.size by rw [he]; simp)
      have HBU := Aside0.mk (below_step (HB4.out) hb9)
      have HK17 := Aside0.mk (blk_below (HK14.out) hb9)
      have HK18 := Aside0.mk (blk_below (HK15.out) hb9)
      have HK19 := Aside0.mk (blk_below (HK16.out) hb9)
      clear hb9
      rw [← he] at hR0 hS0
      clear hR hS
      obtain ⟨oki, D3, d3, e3, f3, h3, ho, hset⟩ := S_cols hS0 k hk
      obtain ⟨gcells, hgt⟩ := Kd.S_typed hS0 g rfl
      have HC := Aside0.mk (And.intro h3 hset)
      have HG := Aside0.mk (Kd.S_base hS0 g rfl)
      have HRS := Aside0.mk hR0
      have n1 : ¬ g = x4.heap.size := fun e => blk_ne UN.out hgt (by decide) e.symm
      have n2 : ¬ x4.heap.size = g := fun e => n1 e.symm
      have n3 : ¬ g = w.heap.size + 1 := fun e => blk_ne (HK18.out) hgt (by decide) e.symm
      have n4 : ¬ w.heap.size + 1 = g := fun e => n3 e.symm
      have HLB := Aside0.mk (show wr.heap.size ≤ U.heap.size from Nat.le_trans HLE.out US.out)
      clear h3 hset ho hR0 hS0 hgt e3 f3 HOW
      go_wp2
      rw [← he]
      clear he
      go_loopw [15, 16] (fun v i w' => ∃ j : Nat, j ≤ ts[k].cols.length ∧ i = .int .i64 j ∧ Aside0 (kCol.R 41 w' U.heap.size (fun _ => True) v ((ts[k].cols.take j).filter (noC name)) ∧ Below U.heap.size U w')) (fun _ i _ => ts[k].cols.length - (intOf i).toNat)
      case atStart => exact ⟨0, Nat.zero_le _, rfl, ⟨Kd.R_nil _ _ _ _ _, Below.refl _ _⟩⟩
      case round =>
        obtain ⟨j, hj, rfl, HJ2⟩ := hrel
        have HBq := Aside0.mk (below_step (HBU.out) HJ2.out.2)
        have HK20 := Aside0.mk (blk_below (HK17.out) HJ2.out.2)
        have HK21 := Aside0.mk (blk_below (HK18.out) HJ2.out.2)
        have HK22 := Aside0.mk (blk_below (HK19.out) HJ2.out.2)
        have HK23 := Aside0.mk (blk_below (UN.out) HJ2.out.2)
        have b3 : wr.cell? ⟨w3.heap.size, 3, none⟩ = some (Value.slice A3 ts[k].cols.length c3) := (blk_cell HK22.out 3).trans rfl
        by_cases hlt : j < ts[k].cols.length
        · obtain ⟨ad2, e, r0, r1, r2⟩ := colAt_ (Kd.C_below HC3.out HBq.out) j hlt
          cases e
          have i0 : (0 : Int) ≤ (j : Int) := by omega
          have i1 : (j : Int) < (ts[k].cols.length : Int) := by omega
          have HNX := Aside0.mk (filt_next (p := noC name) hlt)
          cases hp0 : (ts[k].cols[j].name.toList == name.toList) with
          | true =>
            rw [show noC name ts[k].cols[j] = false by unfold noC; rw [hp0]; rfl] at HNX
            go_wp2
            go_roundw
            case rel => exact ⟨j + 1, by omega, by go_num, ⟨by rw [HNX.out]; simpa using HJ2.out.1, HJ2.out.2⟩⟩
            case measure => simp [intOf]; omega
          | false =>
            rw [show noC name ts[k].cols[j] = true by unfold noC; rw [hp0]; rfl] at HNX
            go_wp2_with ((at_builtin; refine Kd.R_append kCol (w0 := U) U.heap.size (by rfl) (.tmp 91) (.tmp 97) 32 41 (.agg #[(.string ⟨#[]⟩), (.int .i64 0), (.bool false)]) 32 (by rfl) Try.underlying32 infoCol rfl (by decide) (by decide) _ ((ts[k].cols.take j).filter (noC name)) ts[k].cols[j] [.string ts[k].cols[j].name, .int .i64 ts[k].cols[j].kind, .bool ts[k].cols[j].null] (fun _ => True) (fun _ => False) (by rfl) (by rfl) (kCol_mkM _ _ _ _) (fun _ h => h.elim) (fun _ _ => trivial) HJ2.out.1 HJ2.out.2 HJ2.out.2.size (by have := List.length_filter_le (noC name) (ts[k].cols.take j); have := List.length_take_le j ts[k].cols; omega) ?_; intro v3 w3 hR3 hB3 hg3 _))
            have HR3 := Aside0.mk (And.intro hR3 hB3)
            clear hR3 hB3 hg3 b3 r0 r1 r2
            go_roundw
            case rel => exact ⟨j + 1, by omega, by go_num, ⟨by rw [HNX.out]; exact HR3.out.1, HR3.out.2⟩⟩
            case measure => simp [intOf]; omega
        obtain rfl : j = ts[k].cols.length := by omega
        have hdj2 : decide (ts[k].cols.length < ts[k].cols.length) = false := decide_eq_false hlt
        have hv := HJ2.out.1
        rw [List.take_length] at hv
        obtain ⟨A5, c5, rfl⟩ := Kd.R_slice hv
        have hgw := grown_of HJ2.out.2 (Value.slice D3 ts[k].cols.length d3).ownBlock
        obtain ⟨y1, y2, y3, y4⟩ := HC.out.2 wr _ _ hgw (Kd.R_mono (Kd.R_lower (Kd.R_bound hv) HLB.out) (fun q hq => .inr hq.2.1))
        have HF := Aside0.mk (Out.own (InDid.cols (t := { ts[k] with cols := ts[k].cols.filter (noC name) }) (k := k) (Below.refl U.heap.size U) HLB.out HG.out HRS.out HC.out.1 hgw y3 (k * 5 + 3) y4) HBU.out HBr.out.size (show w.heap.size ≤ w.heap.size + 1 by omega) HK18.out)
        clear hv hgw y3 y4 HC HRS HJ2 HC3 HC4
        have c_out0 : wr.cell? ⟨x4.heap.size, 0, none⟩ = some (Value.slice Bs ss.length ds) := (blk_cell HK23.out 0).trans rfl
        have f_out0 := blk_frozen HK23.out 0
        have c_out1 : wr.cell? ⟨x4.heap.size, 1, none⟩ = some (Value.slice (some ⟨g, 0, none⟩) ts.length dt) := (blk_cell HK23.out 1).trans rfl
        have f_out1 := blk_frozen HK23.out 1
        have c_z0 : wr.cell? ⟨w.heap.size + 1, 0, none⟩ = some (Value.slice none 0 0) := (blk_cell HK21.out 0).trans rfl
        have f_z0 := blk_frozen HK21.out 0
        have c_z1 : wr.cell? ⟨w.heap.size + 1, 1, none⟩ = some (Value.slice none 0 0) := (blk_cell HK21.out 1).trans rfl
        have f_z1 := blk_frozen HK21.out 1
        go_wp2
        refine bodyPost_ret (v := .tuple #[.agg #[.slice Bs ss.length ds, .slice (some ⟨g, 0, none⟩) ts.length dt], .int .i64 0]) (by simp [results, Try.results26, go_sem, *]) rfl ?_
        rw [HQ.out]
        exact HF.out
end Go.Proofs.Ytmmiehckgkadgaa.O
