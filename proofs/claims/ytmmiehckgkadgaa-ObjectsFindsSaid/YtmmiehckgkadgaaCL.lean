/- Find and the document's Find. Printed by a program of this session (gen_find.py). -/
import Derived.Test.YtmmiehckgkadgaaCK
namespace Go.Proofs.Ytmmiehckgkadgaa.O
set_option linter.unusedVariables false
set_option linter.unusedSimpArgs false
open Go.RowKit Go.Proofs.YtmmiehckgkadgaaW.PrintWords

def findT (ss : List Sch) (ts : List Tab) (schema table : ByteArray) : Int × Tab := if checkB ss ts = true then (if 0 ≤ idx (isT schema table) ts then (0, ts.getD (idx (isT schema table) ts).toNat zTab) else (61, zTab)) else (63, zTab)
/-- a table comes out, in memory that is new since w -/
def OutT (w : World) (r : Int × Tab) (e : Ending) (w' : World) : Prop := ∃ v3 v4, e = .returned (.tuple #[.agg #[.string r.2.schema, .string r.2.name, .string r.2.owner, v3, v4], .int .i64 r.1]) ∧ kCol.R 41 w' w.heap.size (fun _ => True) v3 r.2.cols ∧ kRul.R 57 w' w.heap.size (fun _ => True) v4 r.2.rules ∧ Below w.heap.size w w'
theorem zeroOutT {w w1 : World} {g : Nat} {n : Int} (hb : Below w.heap.size w w1) (hg : w.heap.size ≤ g) (a b c d e : Value) : OutT w (n, zTab) (.returned (.tuple #[.agg #[.string ⟨#[]⟩, .string ⟨#[]⟩, .string ⟨#[]⟩, .slice none 0 0, .slice none 0 0], .int .i64 n])) (((((w1.setCell ⟨g, 0, none⟩ a).setCell ⟨g, 1, none⟩ b).setCell ⟨g, 2, none⟩ c).setCell ⟨g, 3, none⟩ d).setCell ⟨g, 4, none⟩ e) :=
  ⟨_, _, rfl, Kd.R_nil _ _ _ _ _, Kd.R_nil _ _ _ _ _, set5_below hb hg _ _ _ _ _⟩
theorem OutT.wrap {w W w1 : World} {g : Nat} {B3 B4 : Option Addr} {d3 d4 : Nat} {t : Tab} (hW : Below w.heap.size w W) (hg : w.heap.size ≤ g) {cs : Array Value} (hZ : w1.heap[g]? = some (.cells cs 35 (0, 0))) (h3 : kCol.R 41 w1 W.heap.size (fun _ => True) (.slice B3 t.cols.length d3) t.cols) (h4 : kRul.R 57 w1 W.heap.size (fun _ => True) (.slice B4 t.rules.length d4) t.rules) (hb : Below w.heap.size w w1) :
    OutT w (0, t) (.returned (.tuple #[.agg #[.string t.schema, .string t.name, .string t.owner, .slice B3 t.cols.length d3, .slice B4 t.rules.length d4], .int .i64 0])) (((((w1.setCell ⟨g, 0, none⟩ (.string t.schema)).setCell ⟨g, 1, none⟩ (.string t.name)).setCell ⟨g, 2, none⟩ (.string t.owner)).setCell ⟨g, 3, none⟩ (.slice B3 t.cols.length d3)).setCell ⟨g, 4, none⟩ (.slice B4 t.rules.length d4)) :=
  ⟨_, _, rfl, R_only (Kd.R_lower h3 hW.size) hZ (by decide) (set5_far w1 g _ _ _ _ _), R_only (Kd.R_lower h4 hW.size) hZ (by decide) (set5_far w1 g _ _ _ _ _), set5_below hb hg _ _ _ _ _⟩

set_option maxRecDepth 20000 in
set_option maxHeartbeats 4000000 in
theorem Find.calls {As At : Option Addr} {cs ct : Nat} (ss : List Sch) (ts : List Tab) (schema table : ByteArray) (w : World) (hs : kSch.C w As ss.length ss) (hsl : ss.length ≤ 3000) (ht : kTab.C w At ts.length ts) (hF : TabsF ts) (hB : TabsB ts) :
    Calls Try.prog 16 #[.agg #[.slice As ss.length cs, .slice At ts.length ct], .string schema, .string table] w (OutT w (findT ss ts schema table)) := by
  have HX0 := Aside0.mk (boxes2 w (.cells #[Value.slice As ss.length cs, Value.slice At ts.length ct] 26) (.cells #[Value.string ⟨#[]⟩, Value.string ⟨#[]⟩, Value.string ⟨#[]⟩, Value.slice none 0 0, Value.slice none 0 0] 35))
  have HCK := Aside0.mk (fun W (hW : Below w.heap.size w W) => Check.calls (As := As) (cs := cs) (At := At) (ct := ct) ss ts W (Kd.C_below hs hW) (by omega) (Kd.C_below ht hW) hF)
  have HTB := Aside0.mk (fun W (hW : Below w.heap.size w W) => where.calls (As := As) (ns := ss.length) (cs := cs) (At := At) (ct := ct) ts schema table W (Kd.C_below ht hW) (by have := hB.1; omega))
  have HT := Aside0.mk ht
  have HBB := Aside0.mk hB
  have hln : ts.length ≤ 3000 := hB.1
  clear hs ht hF hB
  cases hck : checkB ss ts with
  | false =>
    have HQ : Aside0 (findT ss ts schema table = (63, zTab)) := ⟨by unfold findT; rw [hck]; rfl⟩
    have HE : Aside0 (checkE ss ts = 63) := ⟨by unfold checkE; rw [hck]; rfl⟩
    rw [HQ.out]
    clear hck HQ HTB HT HBB
    go_enter Try.func16, Try.ntmps16
    have c_o0 : ((w.alloc (.cells #[Value.slice As ss.length cs, Value.slice At ts.length ct] 26)).alloc (.cells #[Value.string ⟨#[]⟩, Value.string ⟨#[]⟩, Value.string ⟨#[]⟩, Value.slice none 0 0, Value.slice none 0 0] 35)).cell? ⟨w.heap.size, 0, none⟩ = some (Value.slice As ss.length cs) := (blk_cell HX0.out.2.1 0).trans rfl
    have f_o0 := blk_frozen HX0.out.2.1 0
    have c_o1 : ((w.alloc (.cells #[Value.slice As ss.length cs, Value.slice At ts.length ct] 26)).alloc (.cells #[Value.string ⟨#[]⟩, Value.string ⟨#[]⟩, Value.string ⟨#[]⟩, Value.slice none 0 0, Value.slice none 0 0] 35)).cell? ⟨w.heap.size, 1, none⟩ = some (Value.slice At ts.length ct) := (blk_cell HX0.out.2.1 1).trans rfl
    have f_o1 := blk_frozen HX0.out.2.1 1
    have c_z0 : ((w.alloc (.cells #[Value.slice As ss.length cs, Value.slice At ts.length ct] 26)).alloc (.cells #[Value.string ⟨#[]⟩, Value.string ⟨#[]⟩, Value.string ⟨#[]⟩, Value.slice none 0 0, Value.slice none 0 0] 35)).cell? ⟨w.heap.size + 1, 0, none⟩ = some (Value.string ⟨#[]⟩) := (blk_cell HX0.out.2.2 0).trans rfl
    have f_z0 := blk_frozen HX0.out.2.2 0
    have c_z1 : ((w.alloc (.cells #[Value.slice As ss.length cs, Value.slice At ts.length ct] 26)).alloc (.cells #[Value.string ⟨#[]⟩, Value.string ⟨#[]⟩, Value.string ⟨#[]⟩, Value.slice none 0 0, Value.slice none 0 0] 35)).cell? ⟨w.heap.size + 1, 1, none⟩ = some (Value.string ⟨#[]⟩) := (blk_cell HX0.out.2.2 1).trans rfl
    have f_z1 := blk_frozen HX0.out.2.2 1
    have c_z2 : ((w.alloc (.cells #[Value.slice As ss.length cs, Value.slice At ts.length ct] 26)).alloc (.cells #[Value.string ⟨#[]⟩, Value.string ⟨#[]⟩, Value.string ⟨#[]⟩, Value.slice none 0 0, Value.slice none 0 0] 35)).cell? ⟨w.heap.size + 1, 2, none⟩ = some (Value.string ⟨#[]⟩) := (blk_cell HX0.out.2.2 2).trans rfl
    have f_z2 := blk_frozen HX0.out.2.2 2
    have c_z3 : ((w.alloc (.cells #[Value.slice As ss.length cs, Value.slice At ts.length ct] 26)).alloc (.cells #[Value.string ⟨#[]⟩, Value.string ⟨#[]⟩, Value.string ⟨#[]⟩, Value.slice none 0 0, Value.slice none 0 0] 35)).cell? ⟨w.heap.size + 1, 3, none⟩ = some (Value.slice none 0 0) := (blk_cell HX0.out.2.2 3).trans rfl
    have f_z3 := blk_frozen HX0.out.2.2 3
    have c_z4 : ((w.alloc (.cells #[Value.slice As ss.length cs, Value.slice At ts.length ct] 26)).alloc (.cells #[Value.string ⟨#[]⟩, Value.string ⟨#[]⟩, Value.string ⟨#[]⟩, Value.slice none 0 0, Value.slice none 0 0] 35)).cell? ⟨w.heap.size + 1, 4, none⟩ = some (Value.slice none 0 0) := (blk_cell HX0.out.2.2 4).trans rfl
    have f_z4 := blk_frozen HX0.out.2.2 4
    go_wp2_with fail
    clear c_o0 f_o0 c_o1 f_o1 c_z0 f_z0 c_z1 f_z1 c_z2 f_z2 c_z3 f_z3 c_z4 f_z4
    refine (HCK.out _ HX0.out.1).mono ?_
    rintro e w1 ⟨rfl, hb1⟩
    have HB1 := Aside0.mk (below_step (HX0.out.1) hb1)
    have HK1 := Aside0.mk (blk_below (HX0.out.2.1) hb1)
    have HK2 := Aside0.mk (blk_below (HX0.out.2.2) hb1)
    have HS1 := Aside0.mk hb1
    clear hb1
    rw [HE.out]
    have c_o0 : w1.cell? ⟨w.heap.size, 0, none⟩ = some (Value.slice As ss.length cs) := (blk_cell HK1.out 0).trans rfl
    have f_o0 := blk_frozen HK1.out 0
    have c_o1 : w1.cell? ⟨w.heap.size, 1, none⟩ = some (Value.slice At ts.length ct) := (blk_cell HK1.out 1).trans rfl
    have f_o1 := blk_frozen HK1.out 1
    have c_z0 : w1.cell? ⟨w.heap.size + 1, 0, none⟩ = some (Value.string ⟨#[]⟩) := (blk_cell HK2.out 0).trans rfl
    have f_z0 := blk_frozen HK2.out 0
    have c_z1 : w1.cell? ⟨w.heap.size + 1, 1, none⟩ = some (Value.string ⟨#[]⟩) := (blk_cell HK2.out 1).trans rfl
    have f_z1 := blk_frozen HK2.out 1
    have c_z2 : w1.cell? ⟨w.heap.size + 1, 2, none⟩ = some (Value.string ⟨#[]⟩) := (blk_cell HK2.out 2).trans rfl
    have f_z2 := blk_frozen HK2.out 2
    have c_z3 : w1.cell? ⟨w.heap.size + 1, 3, none⟩ = some (Value.slice none 0 0) := (blk_cell HK2.out 3).trans rfl
    have f_z3 := blk_frozen HK2.out 3
    have c_z4 : w1.cell? ⟨w.heap.size + 1, 4, none⟩ = some (Value.slice none 0 0) := (blk_cell HK2.out 4).trans rfl
    have f_z4 := blk_frozen HK2.out 4
    go_wp2
    refine bodyPost_ret (v := .tuple #[.agg #[.string ⟨#[]⟩, .string ⟨#[]⟩, .string ⟨#[]⟩, .slice none 0 0, .slice none 0 0], .int .i64 63]) (by simp [results, Try.results16, go_sem, *]) rfl ?_
    exact zeroOutT (g := w.heap.size + 1) (n := 63) HB1.out (by omega) _ _ _ _ _
  | true =>
    have HE : Aside0 (checkE ss ts = 0) := ⟨by unfold checkE; rw [hck]; rfl⟩
    rcases idx_cases (isT schema table) ts with ⟨k, hk, hi, hx1, hx2⟩ | ⟨hi, hx1⟩
    · have HQ : Aside0 (findT ss ts schema table = (0, ts[k])) := ⟨by unfold findT; rw [if_pos hck, hi, if_pos (by omega), Int.toNat_natCast, List.getD_eq_getElem?_getD, List.getElem?_eq_getElem hk]; rfl⟩
      rw [hi] at HTB
      rw [HQ.out]
      clear hck hi hx1 hx2 HQ
      have h0 : (0 : Int) ≤ (k : Int) := by omega
      have h1 : (k : Int) < (ts.length : Int) := by omega
      have h2 : decide ((k : Int) < 0) = false := decide_eq_false (by omega)
      have h5 : decide ((0 : Int) ≤ (k : Int)) = true := decide_eq_true (by omega)
      go_enter Try.func16, Try.ntmps16
      have c_o0 : ((w.alloc (.cells #[Value.slice As ss.length cs, Value.slice At ts.length ct] 26)).alloc (.cells #[Value.string ⟨#[]⟩, Value.string ⟨#[]⟩, Value.string ⟨#[]⟩, Value.slice none 0 0, Value.slice none 0 0] 35)).cell? ⟨w.heap.size, 0, none⟩ = some (Value.slice As ss.length cs) := (blk_cell HX0.out.2.1 0).trans rfl
      have f_o0 := blk_frozen HX0.out.2.1 0
      have c_o1 : ((w.alloc (.cells #[Value.slice As ss.length cs, Value.slice At ts.length ct] 26)).alloc (.cells #[Value.string ⟨#[]⟩, Value.string ⟨#[]⟩, Value.string ⟨#[]⟩, Value.slice none 0 0, Value.slice none 0 0] 35)).cell? ⟨w.heap.size, 1, none⟩ = some (Value.slice At ts.length ct) := (blk_cell HX0.out.2.1 1).trans rfl
      have f_o1 := blk_frozen HX0.out.2.1 1
      have c_z0 : ((w.alloc (.cells #[Value.slice As ss.length cs, Value.slice At ts.length ct] 26)).alloc (.cells #[Value.string ⟨#[]⟩, Value.string ⟨#[]⟩, Value.string ⟨#[]⟩, Value.slice none 0 0, Value.slice none 0 0] 35)).cell? ⟨w.heap.size + 1, 0, none⟩ = some (Value.string ⟨#[]⟩) := (blk_cell HX0.out.2.2 0).trans rfl
      have f_z0 := blk_frozen HX0.out.2.2 0
      have c_z1 : ((w.alloc (.cells #[Value.slice As ss.length cs, Value.slice At ts.length ct] 26)).alloc (.cells #[Value.string ⟨#[]⟩, Value.string ⟨#[]⟩, Value.string ⟨#[]⟩, Value.slice none 0 0, Value.slice none 0 0] 35)).cell? ⟨w.heap.size + 1, 1, none⟩ = some (Value.string ⟨#[]⟩) := (blk_cell HX0.out.2.2 1).trans rfl
      have f_z1 := blk_frozen HX0.out.2.2 1
      have c_z2 : ((w.alloc (.cells #[Value.slice As ss.length cs, Value.slice At ts.length ct] 26)).alloc (.cells #[Value.string ⟨#[]⟩, Value.string ⟨#[]⟩, Value.string ⟨#[]⟩, Value.slice none 0 0, Value.slice none 0 0] 35)).cell? ⟨w.heap.size + 1, 2, none⟩ = some (Value.string ⟨#[]⟩) := (blk_cell HX0.out.2.2 2).trans rfl
      have f_z2 := blk_frozen HX0.out.2.2 2
      have c_z3 : ((w.alloc (.cells #[Value.slice As ss.length cs, Value.slice At ts.length ct] 26)).alloc (.cells #[Value.string ⟨#[]⟩, Value.string ⟨#[]⟩, Value.string ⟨#[]⟩, Value.slice none 0 0, Value.slice none 0 0] 35)).cell? ⟨w.heap.size + 1, 3, none⟩ = some (Value.slice none 0 0) := (blk_cell HX0.out.2.2 3).trans rfl
      have f_z3 := blk_frozen HX0.out.2.2 3
      have c_z4 : ((w.alloc (.cells #[Value.slice As ss.length cs, Value.slice At ts.length ct] 26)).alloc (.cells #[Value.string ⟨#[]⟩, Value.string ⟨#[]⟩, Value.string ⟨#[]⟩, Value.slice none 0 0, Value.slice none 0 0] 35)).cell? ⟨w.heap.size + 1, 4, none⟩ = some (Value.slice none 0 0) := (blk_cell HX0.out.2.2 4).trans rfl
      have f_z4 := blk_frozen HX0.out.2.2 4
      go_wp2_with fail
      clear c_o0 f_o0 c_o1 f_o1 c_z0 f_z0 c_z1 f_z1 c_z2 f_z2 c_z3 f_z3 c_z4 f_z4
      refine (HCK.out _ HX0.out.1).mono ?_
      rintro e w1 ⟨rfl, hb1⟩
      have HB1 := Aside0.mk (below_step (HX0.out.1) hb1)
      have HK1 := Aside0.mk (blk_below (HX0.out.2.1) hb1)
      have HK2 := Aside0.mk (blk_below (HX0.out.2.2) hb1)
      have HS1 := Aside0.mk hb1
      clear hb1
      rw [HE.out]
      have c_o0 : w1.cell? ⟨w.heap.size, 0, none⟩ = some (Value.slice As ss.length cs) := (blk_cell HK1.out 0).trans rfl
      have f_o0 := blk_frozen HK1.out 0
      have c_o1 : w1.cell? ⟨w.heap.size, 1, none⟩ = some (Value.slice At ts.length ct) := (blk_cell HK1.out 1).trans rfl
      have f_o1 := blk_frozen HK1.out 1
      have c_z0 : w1.cell? ⟨w.heap.size + 1, 0, none⟩ = some (Value.string ⟨#[]⟩) := (blk_cell HK2.out 0).trans rfl
      have f_z0 := blk_frozen HK2.out 0
      have c_z1 : w1.cell? ⟨w.heap.size + 1, 1, none⟩ = some (Value.string ⟨#[]⟩) := (blk_cell HK2.out 1).trans rfl
      have f_z1 := blk_frozen HK2.out 1
      have c_z2 : w1.cell? ⟨w.heap.size + 1, 2, none⟩ = some (Value.string ⟨#[]⟩) := (blk_cell HK2.out 2).trans rfl
      have f_z2 := blk_frozen HK2.out 2
      have c_z3 : w1.cell? ⟨w.heap.size + 1, 3, none⟩ = some (Value.slice none 0 0) := (blk_cell HK2.out 3).trans rfl
      have f_z3 := blk_frozen HK2.out 3
      have c_z4 : w1.cell? ⟨w.heap.size + 1, 4, none⟩ = some (Value.slice none 0 0) := (blk_cell HK2.out 4).trans rfl
      have f_z4 := blk_frozen HK2.out 4
      go_wp2_with fail
      clear c_o0 f_o0 c_o1 f_o1 c_z0 f_z0 c_z1 f_z1 c_z2 f_z2 c_z3 f_z3 c_z4 f_z4
      refine (HTB.out _ HB1.out).mono ?_
      rintro e w2 ⟨rfl, hb2⟩
      have HB2 := Aside0.mk (below_step (HB1.out) hb2)
      have HK3 := Aside0.mk (blk_below (HK1.out) hb2)
      have HK4 := Aside0.mk (blk_below (HK2.out) hb2)
      have HS2 := Aside0.mk hb2
      clear hb2
      obtain ⟨ad, A3, c3, A4, c4, e, x0, x1, x2, x3, x4, _, h3, _, h4⟩ := tabAt (Kd.C_below HT.out HB2.out) k hk
      cases e
      have HC := Aside0.mk (copied.at_ ts[k] (c3 := c3) (c4 := c4) w2 h3 h4 (HBB.out.2 _ (List.getElem_mem hk)) w2 (Below.refl _ _))
      clear h3 h4
      have c_o0 : w2.cell? ⟨w.heap.size, 0, none⟩ = some (Value.slice As ss.length cs) := (blk_cell HK3.out 0).trans rfl
      have f_o0 := blk_frozen HK3.out 0
      have c_o1 : w2.cell? ⟨w.heap.size, 1, none⟩ = some (Value.slice (some ad) ts.length ct) := (blk_cell HK3.out 1).trans rfl
      have f_o1 := blk_frozen HK3.out 1
      go_wp2_with fail
      clear c_o0 f_o0 c_o1 f_o1
      refine HC.out.mono ?_
      rintro e w3 ⟨B3, d3, B4, d4, rfl, k3, k4, hb3⟩
      have HB3 := Aside0.mk (below_step (HB2.out) hb3)
      have HK5 := Aside0.mk (blk_below (HK3.out) hb3)
      have HK6 := Aside0.mk (blk_below (HK4.out) hb3)
      have HS3 := Aside0.mk hb3
      clear hb3
      have HF := Aside0.mk (OutT.wrap (g := w.heap.size + 1) HB2.out (by omega) HK6.out k3 k4 HB3.out)
      clear k3 k4 HC
      have c_z0 : w3.cell? ⟨w.heap.size + 1, 0, none⟩ = some (Value.string ⟨#[]⟩) := (blk_cell HK6.out 0).trans rfl
      have f_z0 := blk_frozen HK6.out 0
      have c_z1 : w3.cell? ⟨w.heap.size + 1, 1, none⟩ = some (Value.string ⟨#[]⟩) := (blk_cell HK6.out 1).trans rfl
      have f_z1 := blk_frozen HK6.out 1
      have c_z2 : w3.cell? ⟨w.heap.size + 1, 2, none⟩ = some (Value.string ⟨#[]⟩) := (blk_cell HK6.out 2).trans rfl
      have f_z2 := blk_frozen HK6.out 2
      have c_z3 : w3.cell? ⟨w.heap.size + 1, 3, none⟩ = some (Value.slice none 0 0) := (blk_cell HK6.out 3).trans rfl
      have f_z3 := blk_frozen HK6.out 3
      have c_z4 : w3.cell? ⟨w.heap.size + 1, 4, none⟩ = some (Value.slice none 0 0) := (blk_cell HK6.out 4).trans rfl
      have f_z4 := blk_frozen HK6.out 4
      go_wp2
      refine bodyPost_ret (v := .tuple #[.agg #[.string ts[k].schema, .string ts[k].name, .string ts[k].owner, .slice B3 ts[k].cols.length d3, .slice B4 ts[k].rules.length d4], .int .i64 0]) (by simp [results, Try.results16, go_sem, *]) rfl ?_
      exact HF.out
    · have HQ : Aside0 (findT ss ts schema table = (61, zTab)) := ⟨by unfold findT; rw [if_pos hck, hi, if_neg (by omega)]⟩
      rw [hi] at HTB
      rw [HQ.out]
      clear hck hi hx1 HQ HT HBB
      have h2 : decide ((-1 : Int) < 0) = true := rfl
      have h5 : decide ((0 : Int) ≤ -1) = false := rfl
      go_enter Try.func16, Try.ntmps16
      have c_o0 : ((w.alloc (.cells #[Value.slice As ss.length cs, Value.slice At ts.length ct] 26)).alloc (.cells #[Value.string ⟨#[]⟩, Value.string ⟨#[]⟩, Value.string ⟨#[]⟩, Value.slice none 0 0, Value.slice none 0 0] 35)).cell? ⟨w.heap.size, 0, none⟩ = some (Value.slice As ss.length cs) := (blk_cell HX0.out.2.1 0).trans rfl
      have f_o0 := blk_frozen HX0.out.2.1 0
      have c_o1 : ((w.alloc (.cells #[Value.slice As ss.length cs, Value.slice At ts.length ct] 26)).alloc (.cells #[Value.string ⟨#[]⟩, Value.string ⟨#[]⟩, Value.string ⟨#[]⟩, Value.slice none 0 0, Value.slice none 0 0] 35)).cell? ⟨w.heap.size, 1, none⟩ = some (Value.slice At ts.length ct) := (blk_cell HX0.out.2.1 1).trans rfl
      have f_o1 := blk_frozen HX0.out.2.1 1
      have c_z0 : ((w.alloc (.cells #[Value.slice As ss.length cs, Value.slice At ts.length ct] 26)).alloc (.cells #[Value.string ⟨#[]⟩, Value.string ⟨#[]⟩, Value.string ⟨#[]⟩, Value.slice none 0 0, Value.slice none 0 0] 35)).cell? ⟨w.heap.size + 1, 0, none⟩ = some (Value.string ⟨#[]⟩) := (blk_cell HX0.out.2.2 0).trans rfl
      have f_z0 := blk_frozen HX0.out.2.2 0
      have c_z1 : ((w.alloc (.cells #[Value.slice As ss.length cs, Value.slice At ts.length ct] 26)).alloc (.cells #[Value.string ⟨#[]⟩, Value.string ⟨#[]⟩, Value.string ⟨#[]⟩, Value.slice none 0 0, Value.slice none 0 0] 35)).cell? ⟨w.heap.size + 1, 1, none⟩ = some (Value.string ⟨#[]⟩) := (blk_cell HX0.out.2.2 1).trans rfl
      have f_z1 := blk_frozen HX0.out.2.2 1
      have c_z2 : ((w.alloc (.cells #[Value.slice As ss.length cs, Value.slice At ts.length ct] 26)).alloc (.cells #[Value.string ⟨#[]⟩, Value.string ⟨#[]⟩, Value.string ⟨#[]⟩, Value.slice none 0 0, Value.slice none 0 0] 35)).cell? ⟨w.heap.size + 1, 2, none⟩ = some (Value.string ⟨#[]⟩) := (blk_cell HX0.out.2.2 2).trans rfl
      have f_z2 := blk_frozen HX0.out.2.2 2
      have c_z3 : ((w.alloc (.cells #[Value.slice As ss.length cs, Value.slice At ts.length ct] 26)).alloc (.cells #[Value.string ⟨#[]⟩, Value.string ⟨#[]⟩, Value.string ⟨#[]⟩, Value.slice none 0 0, Value.slice none 0 0] 35)).cell? ⟨w.heap.size + 1, 3, none⟩ = some (Value.slice none 0 0) := (blk_cell HX0.out.2.2 3).trans rfl
      have f_z3 := blk_frozen HX0.out.2.2 3
      have c_z4 : ((w.alloc (.cells #[Value.slice As ss.length cs, Value.slice At ts.length ct] 26)).alloc (.cells #[Value.string ⟨#[]⟩, Value.string ⟨#[]⟩, Value.string ⟨#[]⟩, Value.slice none 0 0, Value.slice none 0 0] 35)).cell? ⟨w.heap.size + 1, 4, none⟩ = some (Value.slice none 0 0) := (blk_cell HX0.out.2.2 4).trans rfl
      have f_z4 := blk_frozen HX0.out.2.2 4
      go_wp2_with fail
      clear c_o0 f_o0 c_o1 f_o1 c_z0 f_z0 c_z1 f_z1 c_z2 f_z2 c_z3 f_z3 c_z4 f_z4
      refine (HCK.out _ HX0.out.1).mono ?_
      rintro e w1 ⟨rfl, hb1⟩
      have HB1 := Aside0.mk (below_step (HX0.out.1) hb1)
      have HK1 := Aside0.mk (blk_below (HX0.out.2.1) hb1)
      have HK2 := Aside0.mk (blk_below (HX0.out.2.2) hb1)
      have HS1 := Aside0.mk hb1
      clear hb1
      rw [HE.out]
      have c_o0 : w1.cell? ⟨w.heap.size, 0, none⟩ = some (Value.slice As ss.length cs) := (blk_cell HK1.out 0).trans rfl
      have f_o0 := blk_frozen HK1.out 0
      have c_o1 : w1.cell? ⟨w.heap.size, 1, none⟩ = some (Value.slice At ts.length ct) := (blk_cell HK1.out 1).trans rfl
      have f_o1 := blk_frozen HK1.out 1
      have c_z0 : w1.cell? ⟨w.heap.size + 1, 0, none⟩ = some (Value.string ⟨#[]⟩) := (blk_cell HK2.out 0).trans rfl
      have f_z0 := blk_frozen HK2.out 0
      have c_z1 : w1.cell? ⟨w.heap.size + 1, 1, none⟩ = some (Value.string ⟨#[]⟩) := (blk_cell HK2.out 1).trans rfl
      have f_z1 := blk_frozen HK2.out 1
      have c_z2 : w1.cell? ⟨w.heap.size + 1, 2, none⟩ = some (Value.string ⟨#[]⟩) := (blk_cell HK2.out 2).trans rfl
      have f_z2 := blk_frozen HK2.out 2
      have c_z3 : w1.cell? ⟨w.heap.size + 1, 3, none⟩ = some (Value.slice none 0 0) := (blk_cell HK2.out 3).trans rfl
      have f_z3 := blk_frozen HK2.out 3
      have c_z4 : w1.cell? ⟨w.heap.size + 1, 4, none⟩ = some (Value.slice none 0 0) := (blk_cell HK2.out 4).trans rfl
      have f_z4 := blk_frozen HK2.out 4
      go_wp2_with fail
      clear c_o0 f_o0 c_o1 f_o1 c_z0 f_z0 c_z1 f_z1 c_z2 f_z2 c_z3 f_z3 c_z4 f_z4
      refine (HTB.out _ HB1.out).mono ?_
      rintro e w2 ⟨rfl, hb2⟩
      have HB2 := Aside0.mk (below_step (HB1.out) hb2)
      have HK3 := Aside0.mk (blk_below (HK1.out) hb2)
      have HK4 := Aside0.mk (blk_below (HK2.out) hb2)
      have HS2 := Aside0.mk hb2
      clear hb2
      have c_o0 : w2.cell? ⟨w.heap.size, 0, none⟩ = some (Value.slice As ss.length cs) := (blk_cell HK3.out 0).trans rfl
      have f_o0 := blk_frozen HK3.out 0
      have c_o1 : w2.cell? ⟨w.heap.size, 1, none⟩ = some (Value.slice At ts.length ct) := (blk_cell HK3.out 1).trans rfl
      have f_o1 := blk_frozen HK3.out 1
      have c_z0 : w2.cell? ⟨w.heap.size + 1, 0, none⟩ = some (Value.string ⟨#[]⟩) := (blk_cell HK4.out 0).trans rfl
      have f_z0 := blk_frozen HK4.out 0
      have c_z1 : w2.cell? ⟨w.heap.size + 1, 1, none⟩ = some (Value.string ⟨#[]⟩) := (blk_cell HK4.out 1).trans rfl
      have f_z1 := blk_frozen HK4.out 1
      have c_z2 : w2.cell? ⟨w.heap.size + 1, 2, none⟩ = some (Value.string ⟨#[]⟩) := (blk_cell HK4.out 2).trans rfl
      have f_z2 := blk_frozen HK4.out 2
      have c_z3 : w2.cell? ⟨w.heap.size + 1, 3, none⟩ = some (Value.slice none 0 0) := (blk_cell HK4.out 3).trans rfl
      have f_z3 := blk_frozen HK4.out 3
      have c_z4 : w2.cell? ⟨w.heap.size + 1, 4, none⟩ = some (Value.slice none 0 0) := (blk_cell HK4.out 4).trans rfl
      have f_z4 := blk_frozen HK4.out 4
      go_wp2
      refine bodyPost_ret (v := .tuple #[.agg #[.string ⟨#[]⟩, .string ⟨#[]⟩, .string ⟨#[]⟩, .slice none 0 0, .slice none 0 0], .int .i64 61]) (by simp [results, Try.results16, go_sem, *]) rfl ?_
      exact zeroOutT (g := w.heap.size + 1) (n := 61) HB2.out (by omega) _ _ _ _ _

set_option maxRecDepth 20000 in
set_option maxHeartbeats 4000000 in
theorem rFind.calls {As At : Option Addr} {cs ct : Nat} (ss : List Sch) (ts : List Tab) (schema table : ByteArray) (w : World) (hs : kSch.C w As ss.length ss) (hsl : ss.length ≤ 3000) (ht : kTab.C w At ts.length ts) (hF : TabsF ts) (hB : TabsB ts) :
    Calls Try.prog 17 #[.agg #[.slice As ss.length cs, .slice At ts.length ct], .string schema, .string table] w (OutT w (findT ss ts schema table)) := by
  have HX0 := Aside0.mk (boxes2 w (.cells #[Value.slice As ss.length cs, Value.slice At ts.length ct] 26) (.cells #[Value.string ⟨#[]⟩, Value.string ⟨#[]⟩, Value.string ⟨#[]⟩, Value.slice none 0 0, Value.slice none 0 0] 35))
  have HCK := Aside0.mk (fun W (hW : Below w.heap.size w W) => rRightAll.calls (As := As) (cs := cs) (At := At) (ct := ct) ss ts W (Kd.C_below hs hW) (by omega) (Kd.C_below ht hW) hF)
  have HTB := Aside0.mk (fun W (hW : Below w.heap.size w W) => rTable.calls (As := As) (ns := ss.length) (cs := cs) (A0 := At) (c0 := ct) schema table ts W (Kd.C_below ht hW) (by have := hB.1; omega))
  have HT := Aside0.mk ht
  have HBB := Aside0.mk hB
  have hln : ts.length ≤ 3000 := hB.1
  clear hs ht hF hB
  cases hck : checkB ss ts with
  | false =>
    have HQ : Aside0 (findT ss ts schema table = (63, zTab)) := ⟨by unfold findT; rw [hck]; rfl⟩
    rw [hck] at HCK
    rw [HQ.out]
    clear hck HQ HTB HT HBB
    go_enter Try.func17, Try.ntmps17
    have c_o0 : ((w.alloc (.cells #[Value.slice As ss.length cs, Value.slice At ts.length ct] 26)).alloc (.cells #[Value.string ⟨#[]⟩, Value.string ⟨#[]⟩, Value.string ⟨#[]⟩, Value.slice none 0 0, Value.slice none 0 0] 35)).cell? ⟨w.heap.size, 0, none⟩ = some (Value.slice As ss.length cs) := (blk_cell HX0.out.2.1 0).trans rfl
    have f_o0 := blk_frozen HX0.out.2.1 0
    have c_o1 : ((w.alloc (.cells #[Value.slice As ss.length cs, Value.slice At ts.length ct] 26)).alloc (.cells #[Value.string ⟨#[]⟩, Value.string ⟨#[]⟩, Value.string ⟨#[]⟩, Value.slice none 0 0, Value.slice none 0 0] 35)).cell? ⟨w.heap.size, 1, none⟩ = some (Value.slice At ts.length ct) := (blk_cell HX0.out.2.1 1).trans rfl
    have f_o1 := blk_frozen HX0.out.2.1 1
    have c_z0 : ((w.alloc (.cells #[Value.slice As ss.length cs, Value.slice At ts.length ct] 26)).alloc (.cells #[Value.string ⟨#[]⟩, Value.string ⟨#[]⟩, Value.string ⟨#[]⟩, Value.slice none 0 0, Value.slice none 0 0] 35)).cell? ⟨w.heap.size + 1, 0, none⟩ = some (Value.string ⟨#[]⟩) := (blk_cell HX0.out.2.2 0).trans rfl
    have f_z0 := blk_frozen HX0.out.2.2 0
    have c_z1 : ((w.alloc (.cells #[Value.slice As ss.length cs, Value.slice At ts.length ct] 26)).alloc (.cells #[Value.string ⟨#[]⟩, Value.string ⟨#[]⟩, Value.string ⟨#[]⟩, Value.slice none 0 0, Value.slice none 0 0] 35)).cell? ⟨w.heap.size + 1, 1, none⟩ = some (Value.string ⟨#[]⟩) := (blk_cell HX0.out.2.2 1).trans rfl
    have f_z1 := blk_frozen HX0.out.2.2 1
    have c_z2 : ((w.alloc (.cells #[Value.slice As ss.length cs, Value.slice At ts.length ct] 26)).alloc (.cells #[Value.string ⟨#[]⟩, Value.string ⟨#[]⟩, Value.string ⟨#[]⟩, Value.slice none 0 0, Value.slice none 0 0] 35)).cell? ⟨w.heap.size + 1, 2, none⟩ = some (Value.string ⟨#[]⟩) := (blk_cell HX0.out.2.2 2).trans rfl
    have f_z2 := blk_frozen HX0.out.2.2 2
    have c_z3 : ((w.alloc (.cells #[Value.slice As ss.length cs, Value.slice At ts.length ct] 26)).alloc (.cells #[Value.string ⟨#[]⟩, Value.string ⟨#[]⟩, Value.string ⟨#[]⟩, Value.slice none 0 0, Value.slice none 0 0] 35)).cell? ⟨w.heap.size + 1, 3, none⟩ = some (Value.slice none 0 0) := (blk_cell HX0.out.2.2 3).trans rfl
    have f_z3 := blk_frozen HX0.out.2.2 3
    have c_z4 : ((w.alloc (.cells #[Value.slice As ss.length cs, Value.slice At ts.length ct] 26)).alloc (.cells #[Value.string ⟨#[]⟩, Value.string ⟨#[]⟩, Value.string ⟨#[]⟩, Value.slice none 0 0, Value.slice none 0 0] 35)).cell? ⟨w.heap.size + 1, 4, none⟩ = some (Value.slice none 0 0) := (blk_cell HX0.out.2.2 4).trans rfl
    have f_z4 := blk_frozen HX0.out.2.2 4
    go_wp2_with fail
    clear c_o0 f_o0 c_o1 f_o1 c_z0 f_z0 c_z1 f_z1 c_z2 f_z2 c_z3 f_z3 c_z4 f_z4
    refine (HCK.out _ HX0.out.1).mono ?_
    rintro e w1 ⟨rfl, hb1⟩
    have HB1 := Aside0.mk (below_step (HX0.out.1) hb1)
    have HK1 := Aside0.mk (blk_below (HX0.out.2.1) hb1)
    have HK2 := Aside0.mk (blk_below (HX0.out.2.2) hb1)
    have HS1 := Aside0.mk hb1
    clear hb1
    have c_o0 : w1.cell? ⟨w.heap.size, 0, none⟩ = some (Value.slice As ss.length cs) := (blk_cell HK1.out 0).trans rfl
    have f_o0 := blk_frozen HK1.out 0
    have c_o1 : w1.cell? ⟨w.heap.size, 1, none⟩ = some (Value.slice At ts.length ct) := (blk_cell HK1.out 1).trans rfl
    have f_o1 := blk_frozen HK1.out 1
    have c_z0 : w1.cell? ⟨w.heap.size + 1, 0, none⟩ = some (Value.string ⟨#[]⟩) := (blk_cell HK2.out 0).trans rfl
    have f_z0 := blk_frozen HK2.out 0
    have c_z1 : w1.cell? ⟨w.heap.size + 1, 1, none⟩ = some (Value.string ⟨#[]⟩) := (blk_cell HK2.out 1).trans rfl
    have f_z1 := blk_frozen HK2.out 1
    have c_z2 : w1.cell? ⟨w.heap.size + 1, 2, none⟩ = some (Value.string ⟨#[]⟩) := (blk_cell HK2.out 2).trans rfl
    have f_z2 := blk_frozen HK2.out 2
    have c_z3 : w1.cell? ⟨w.heap.size + 1, 3, none⟩ = some (Value.slice none 0 0) := (blk_cell HK2.out 3).trans rfl
    have f_z3 := blk_frozen HK2.out 3
    have c_z4 : w1.cell? ⟨w.heap.size + 1, 4, none⟩ = some (Value.slice none 0 0) := (blk_cell HK2.out 4).trans rfl
    have f_z4 := blk_frozen HK2.out 4
    go_wp2
    refine bodyPost_ret (v := .tuple #[.agg #[.string ⟨#[]⟩, .string ⟨#[]⟩, .string ⟨#[]⟩, .slice none 0 0, .slice none 0 0], .int .i64 63]) (by simp [results, Try.results17, go_sem, *]) rfl ?_
    exact zeroOutT (g := w.heap.size + 1) (n := 63) HB1.out (by omega) _ _ _ _ _
  | true =>
    rw [hck] at HCK
    rcases idx_cases (isT schema table) ts with ⟨k, hk, hi, hx1, hx2⟩ | ⟨hi, hx1⟩
    · have HQ : Aside0 (findT ss ts schema table = (0, ts[k])) := ⟨by unfold findT; rw [if_pos hck, hi, if_pos (by omega), Int.toNat_natCast, List.getD_eq_getElem?_getD, List.getElem?_eq_getElem hk]; rfl⟩
      rw [hi] at HTB
      rw [HQ.out]
      clear hck hi hx1 hx2 HQ
      have h0 : (0 : Int) ≤ (k : Int) := by omega
      have h1 : (k : Int) < (ts.length : Int) := by omega
      have h2 : decide ((k : Int) < 0) = false := decide_eq_false (by omega)
      have h5 : decide ((0 : Int) ≤ (k : Int)) = true := decide_eq_true (by omega)
      go_enter Try.func17, Try.ntmps17
      have c_o0 : ((w.alloc (.cells #[Value.slice As ss.length cs, Value.slice At ts.length ct] 26)).alloc (.cells #[Value.string ⟨#[]⟩, Value.string ⟨#[]⟩, Value.string ⟨#[]⟩, Value.slice none 0 0, Value.slice none 0 0] 35)).cell? ⟨w.heap.size, 0, none⟩ = some (Value.slice As ss.length cs) := (blk_cell HX0.out.2.1 0).trans rfl
      have f_o0 := blk_frozen HX0.out.2.1 0
      have c_o1 : ((w.alloc (.cells #[Value.slice As ss.length cs, Value.slice At ts.length ct] 26)).alloc (.cells #[Value.string ⟨#[]⟩, Value.string ⟨#[]⟩, Value.string ⟨#[]⟩, Value.slice none 0 0, Value.slice none 0 0] 35)).cell? ⟨w.heap.size, 1, none⟩ = some (Value.slice At ts.length ct) := (blk_cell HX0.out.2.1 1).trans rfl
      have f_o1 := blk_frozen HX0.out.2.1 1
      have c_z0 : ((w.alloc (.cells #[Value.slice As ss.length cs, Value.slice At ts.length ct] 26)).alloc (.cells #[Value.string ⟨#[]⟩, Value.string ⟨#[]⟩, Value.string ⟨#[]⟩, Value.slice none 0 0, Value.slice none 0 0] 35)).cell? ⟨w.heap.size + 1, 0, none⟩ = some (Value.string ⟨#[]⟩) := (blk_cell HX0.out.2.2 0).trans rfl
      have f_z0 := blk_frozen HX0.out.2.2 0
      have c_z1 : ((w.alloc (.cells #[Value.slice As ss.length cs, Value.slice At ts.length ct] 26)).alloc (.cells #[Value.string ⟨#[]⟩, Value.string ⟨#[]⟩, Value.string ⟨#[]⟩, Value.slice none 0 0, Value.slice none 0 0] 35)).cell? ⟨w.heap.size + 1, 1, none⟩ = some (Value.string ⟨#[]⟩) := (blk_cell HX0.out.2.2 1).trans rfl
      have f_z1 := blk_frozen HX0.out.2.2 1
      have c_z2 : ((w.alloc (.cells #[Value.slice As ss.length cs, Value.slice At ts.length ct] 26)).alloc (.cells #[Value.string ⟨#[]⟩, Value.string ⟨#[]⟩, Value.string ⟨#[]⟩, Value.slice none 0 0, Value.slice none 0 0] 35)).cell? ⟨w.heap.size + 1, 2, none⟩ = some (Value.string ⟨#[]⟩) := (blk_cell HX0.out.2.2 2).trans rfl
      have f_z2 := blk_frozen HX0.out.2.2 2
      have c_z3 : ((w.alloc (.cells #[Value.slice As ss.length cs, Value.slice At ts.length ct] 26)).alloc (.cells #[Value.string ⟨#[]⟩, Value.string ⟨#[]⟩, Value.string ⟨#[]⟩, Value.slice none 0 0, Value.slice none 0 0] 35)).cell? ⟨w.heap.size + 1, 3, none⟩ = some (Value.slice none 0 0) := (blk_cell HX0.out.2.2 3).trans rfl
      have f_z3 := blk_frozen HX0.out.2.2 3
      have c_z4 : ((w.alloc (.cells #[Value.slice As ss.length cs, Value.slice At ts.length ct] 26)).alloc (.cells #[Value.string ⟨#[]⟩, Value.string ⟨#[]⟩, Value.string ⟨#[]⟩, Value.slice none 0 0, Value.slice none 0 0] 35)).cell? ⟨w.heap.size + 1, 4, none⟩ = some (Value.slice none 0 0) := (blk_cell HX0.out.2.2 4).trans rfl
      have f_z4 := blk_frozen HX0.out.2.2 4
      go_wp2_with fail
      clear c_o0 f_o0 c_o1 f_o1 c_z0 f_z0 c_z1 f_z1 c_z2 f_z2 c_z3 f_z3 c_z4 f_z4
      refine (HCK.out _ HX0.out.1).mono ?_
      rintro e w1 ⟨rfl, hb1⟩
      have HB1 := Aside0.mk (below_step (HX0.out.1) hb1)
      have HK1 := Aside0.mk (blk_below (HX0.out.2.1) hb1)
      have HK2 := Aside0.mk (blk_below (HX0.out.2.2) hb1)
      have HS1 := Aside0.mk hb1
      clear hb1
      have c_o0 : w1.cell? ⟨w.heap.size, 0, none⟩ = some (Value.slice As ss.length cs) := (blk_cell HK1.out 0).trans rfl
      have f_o0 := blk_frozen HK1.out 0
      have c_o1 : w1.cell? ⟨w.heap.size, 1, none⟩ = some (Value.slice At ts.length ct) := (blk_cell HK1.out 1).trans rfl
      have f_o1 := blk_frozen HK1.out 1
      have c_z0 : w1.cell? ⟨w.heap.size + 1, 0, none⟩ = some (Value.string ⟨#[]⟩) := (blk_cell HK2.out 0).trans rfl
      have f_z0 := blk_frozen HK2.out 0
      have c_z1 : w1.cell? ⟨w.heap.size + 1, 1, none⟩ = some (Value.string ⟨#[]⟩) := (blk_cell HK2.out 1).trans rfl
      have f_z1 := blk_frozen HK2.out 1
      have c_z2 : w1.cell? ⟨w.heap.size + 1, 2, none⟩ = some (Value.string ⟨#[]⟩) := (blk_cell HK2.out 2).trans rfl
      have f_z2 := blk_frozen HK2.out 2
      have c_z3 : w1.cell? ⟨w.heap.size + 1, 3, none⟩ = some (Value.slice none 0 0) := (blk_cell HK2.out 3).trans rfl
      have f_z3 := blk_frozen HK2.out 3
      have c_z4 : w1.cell? ⟨w.heap.size + 1, 4, none⟩ = some (Value.slice none 0 0) := (blk_cell HK2.out 4).trans rfl
      have f_z4 := blk_frozen HK2.out 4
      go_wp2_with fail
      clear c_o0 f_o0 c_o1 f_o1 c_z0 f_z0 c_z1 f_z1 c_z2 f_z2 c_z3 f_z3 c_z4 f_z4
      refine (HTB.out _ HB1.out).mono ?_
      rintro e w2 ⟨rfl, hb2⟩
      have HB2 := Aside0.mk (below_step (HB1.out) hb2)
      have HK3 := Aside0.mk (blk_below (HK1.out) hb2)
      have HK4 := Aside0.mk (blk_below (HK2.out) hb2)
      have HS2 := Aside0.mk hb2
      clear hb2
      obtain ⟨ad, A3, c3, A4, c4, e, x0, x1, x2, x3, x4, _, h3, _, h4⟩ := tabAt (Kd.C_below HT.out HB2.out) k hk
      cases e
      have HC := Aside0.mk (rCopy.at_ ts[k] (c3 := c3) (c4 := c4) w2 h3 h4 (HBB.out.2 _ (List.getElem_mem hk)) w2 (Below.refl _ _))
      clear h3 h4
      have c_o0 : w2.cell? ⟨w.heap.size, 0, none⟩ = some (Value.slice As ss.length cs) := (blk_cell HK3.out 0).trans rfl
      have f_o0 := blk_frozen HK3.out 0
      have c_o1 : w2.cell? ⟨w.heap.size, 1, none⟩ = some (Value.slice (some ad) ts.length ct) := (blk_cell HK3.out 1).trans rfl
      have f_o1 := blk_frozen HK3.out 1
      go_wp2_with fail
      clear c_o0 f_o0 c_o1 f_o1
      refine HC.out.mono ?_
      rintro e w3 ⟨B3, d3, B4, d4, rfl, k3, k4, hb3⟩
      have HB3 := Aside0.mk (below_step (HB2.out) hb3)
      have HK5 := Aside0.mk (blk_below (HK3.out) hb3)
      have HK6 := Aside0.mk (blk_below (HK4.out) hb3)
      have HS3 := Aside0.mk hb3
      clear hb3
      have HF := Aside0.mk (OutT.wrap (g := w.heap.size + 1) HB2.out (by omega) HK6.out k3 k4 HB3.out)
      clear k3 k4 HC
      have c_z0 : w3.cell? ⟨w.heap.size + 1, 0, none⟩ = some (Value.string ⟨#[]⟩) := (blk_cell HK6.out 0).trans rfl
      have f_z0 := blk_frozen HK6.out 0
      have c_z1 : w3.cell? ⟨w.heap.size + 1, 1, none⟩ = some (Value.string ⟨#[]⟩) := (blk_cell HK6.out 1).trans rfl
      have f_z1 := blk_frozen HK6.out 1
      have c_z2 : w3.cell? ⟨w.heap.size + 1, 2, none⟩ = some (Value.string ⟨#[]⟩) := (blk_cell HK6.out 2).trans rfl
      have f_z2 := blk_frozen HK6.out 2
      have c_z3 : w3.cell? ⟨w.heap.size + 1, 3, none⟩ = some (Value.slice none 0 0) := (blk_cell HK6.out 3).trans rfl
      have f_z3 := blk_frozen HK6.out 3
      have c_z4 : w3.cell? ⟨w.heap.size + 1, 4, none⟩ = some (Value.slice none 0 0) := (blk_cell HK6.out 4).trans rfl
      have f_z4 := blk_frozen HK6.out 4
      go_wp2
      refine bodyPost_ret (v := .tuple #[.agg #[.string ts[k].schema, .string ts[k].name, .string ts[k].owner, .slice B3 ts[k].cols.length d3, .slice B4 ts[k].rules.length d4], .int .i64 0]) (by simp [results, Try.results17, go_sem, *]) rfl ?_
      exact HF.out
    · have HQ : Aside0 (findT ss ts schema table = (61, zTab)) := ⟨by unfold findT; rw [if_pos hck, hi, if_neg (by omega)]⟩
      rw [hi] at HTB
      rw [HQ.out]
      clear hck hi hx1 HQ HT HBB
      have h2 : decide ((-1 : Int) < 0) = true := rfl
      have h5 : decide ((0 : Int) ≤ -1) = false := rfl
      go_enter Try.func17, Try.ntmps17
      have c_o0 : ((w.alloc (.cells #[Value.slice As ss.length cs, Value.slice At ts.length ct] 26)).alloc (.cells #[Value.string ⟨#[]⟩, Value.string ⟨#[]⟩, Value.string ⟨#[]⟩, Value.slice none 0 0, Value.slice none 0 0] 35)).cell? ⟨w.heap.size, 0, none⟩ = some (Value.slice As ss.length cs) := (blk_cell HX0.out.2.1 0).trans rfl
      have f_o0 := blk_frozen HX0.out.2.1 0
      have c_o1 : ((w.alloc (.cells #[Value.slice As ss.length cs, Value.slice At ts.length ct] 26)).alloc (.cells #[Value.string ⟨#[]⟩, Value.string ⟨#[]⟩, Value.string ⟨#[]⟩, Value.slice none 0 0, Value.slice none 0 0] 35)).cell? ⟨w.heap.size, 1, none⟩ = some (Value.slice At ts.length ct) := (blk_cell HX0.out.2.1 1).trans rfl
      have f_o1 := blk_frozen HX0.out.2.1 1
      have c_z0 : ((w.alloc (.cells #[Value.slice As ss.length cs, Value.slice At ts.length ct] 26)).alloc (.cells #[Value.string ⟨#[]⟩, Value.string ⟨#[]⟩, Value.string ⟨#[]⟩, Value.slice none 0 0, Value.slice none 0 0] 35)).cell? ⟨w.heap.size + 1, 0, none⟩ = some (Value.string ⟨#[]⟩) := (blk_cell HX0.out.2.2 0).trans rfl
      have f_z0 := blk_frozen HX0.out.2.2 0
      have c_z1 : ((w.alloc (.cells #[Value.slice As ss.length cs, Value.slice At ts.length ct] 26)).alloc (.cells #[Value.string ⟨#[]⟩, Value.string ⟨#[]⟩, Value.string ⟨#[]⟩, Value.slice none 0 0, Value.slice none 0 0] 35)).cell? ⟨w.heap.size + 1, 1, none⟩ = some (Value.string ⟨#[]⟩) := (blk_cell HX0.out.2.2 1).trans rfl
      have f_z1 := blk_frozen HX0.out.2.2 1
      have c_z2 : ((w.alloc (.cells #[Value.slice As ss.length cs, Value.slice At ts.length ct] 26)).alloc (.cells #[Value.string ⟨#[]⟩, Value.string ⟨#[]⟩, Value.string ⟨#[]⟩, Value.slice none 0 0, Value.slice none 0 0] 35)).cell? ⟨w.heap.size + 1, 2, none⟩ = some (Value.string ⟨#[]⟩) := (blk_cell HX0.out.2.2 2).trans rfl
      have f_z2 := blk_frozen HX0.out.2.2 2
      have c_z3 : ((w.alloc (.cells #[Value.slice As ss.length cs, Value.slice At ts.length ct] 26)).alloc (.cells #[Value.string ⟨#[]⟩, Value.string ⟨#[]⟩, Value.string ⟨#[]⟩, Value.slice none 0 0, Value.slice none 0 0] 35)).cell? ⟨w.heap.size + 1, 3, none⟩ = some (Value.slice none 0 0) := (blk_cell HX0.out.2.2 3).trans rfl
      have f_z3 := blk_frozen HX0.out.2.2 3
      have c_z4 : ((w.alloc (.cells #[Value.slice As ss.length cs, Value.slice At ts.length ct] 26)).alloc (.cells #[Value.string ⟨#[]⟩, Value.string ⟨#[]⟩, Value.string ⟨#[]⟩, Value.slice none 0 0, Value.slice none 0 0] 35)).cell? ⟨w.heap.size + 1, 4, none⟩ = some (Value.slice none 0 0) := (blk_cell HX0.out.2.2 4).trans rfl
      have f_z4 := blk_frozen HX0.out.2.2 4
      go_wp2_with fail
      clear c_o0 f_o0 c_o1 f_o1 c_z0 f_z0 c_z1 f_z1 c_z2 f_z2 c_z3 f_z3 c_z4 f_z4
      refine (HCK.out _ HX0.out.1).mono ?_
      rintro e w1 ⟨rfl, hb1⟩
      have HB1 := Aside0.mk (below_step (HX0.out.1) hb1)
      have HK1 := Aside0.mk (blk_below (HX0.out.2.1) hb1)
      have HK2 := Aside0.mk (blk_below (HX0.out.2.2) hb1)
      have HS1 := Aside0.mk hb1
      clear hb1
      have c_o0 : w1.cell? ⟨w.heap.size, 0, none⟩ = some (Value.slice As ss.length cs) := (blk_cell HK1.out 0).trans rfl
      have f_o0 := blk_frozen HK1.out 0
      have c_o1 : w1.cell? ⟨w.heap.size, 1, none⟩ = some (Value.slice At ts.length ct) := (blk_cell HK1.out 1).trans rfl
      have f_o1 := blk_frozen HK1.out 1
      have c_z0 : w1.cell? ⟨w.heap.size + 1, 0, none⟩ = some (Value.string ⟨#[]⟩) := (blk_cell HK2.out 0).trans rfl
      have f_z0 := blk_frozen HK2.out 0
      have c_z1 : w1.cell? ⟨w.heap.size + 1, 1, none⟩ = some (Value.string ⟨#[]⟩) := (blk_cell HK2.out 1).trans rfl
      have f_z1 := blk_frozen HK2.out 1
      have c_z2 : w1.cell? ⟨w.heap.size + 1, 2, none⟩ = some (Value.string ⟨#[]⟩) := (blk_cell HK2.out 2).trans rfl
      have f_z2 := blk_frozen HK2.out 2
      have c_z3 : w1.cell? ⟨w.heap.size + 1, 3, none⟩ = some (Value.slice none 0 0) := (blk_cell HK2.out 3).trans rfl
      have f_z3 := blk_frozen HK2.out 3
      have c_z4 : w1.cell? ⟨w.heap.size + 1, 4, none⟩ = some (Value.slice none 0 0) := (blk_cell HK2.out 4).trans rfl
      have f_z4 := blk_frozen HK2.out 4
      go_wp2_with fail
      clear c_o0 f_o0 c_o1 f_o1 c_z0 f_z0 c_z1 f_z1 c_z2 f_z2 c_z3 f_z3 c_z4 f_z4
      refine (HTB.out _ HB1.out).mono ?_
      rintro e w2 ⟨rfl, hb2⟩
      have HB2 := Aside0.mk (below_step (HB1.out) hb2)
      have HK3 := Aside0.mk (blk_below (HK1.out) hb2)
      have HK4 := Aside0.mk (blk_below (HK2.out) hb2)
      have HS2 := Aside0.mk hb2
      clear hb2
      have c_o0 : w2.cell? ⟨w.heap.size, 0, none⟩ = some (Value.slice As ss.length cs) := (blk_cell HK3.out 0).trans rfl
      have f_o0 := blk_frozen HK3.out 0
      have c_o1 : w2.cell? ⟨w.heap.size, 1, none⟩ = some (Value.slice At ts.length ct) := (blk_cell HK3.out 1).trans rfl
      have f_o1 := blk_frozen HK3.out 1
      have c_z0 : w2.cell? ⟨w.heap.size + 1, 0, none⟩ = some (Value.string ⟨#[]⟩) := (blk_cell HK4.out 0).trans rfl
      have f_z0 := blk_frozen HK4.out 0
      have c_z1 : w2.cell? ⟨w.heap.size + 1, 1, none⟩ = some (Value.string ⟨#[]⟩) := (blk_cell HK4.out 1).trans rfl
      have f_z1 := blk_frozen HK4.out 1
      have c_z2 : w2.cell? ⟨w.heap.size + 1, 2, none⟩ = some (Value.string ⟨#[]⟩) := (blk_cell HK4.out 2).trans rfl
      have f_z2 := blk_frozen HK4.out 2
      have c_z3 : w2.cell? ⟨w.heap.size + 1, 3, none⟩ = some (Value.slice none 0 0) := (blk_cell HK4.out 3).trans rfl
      have f_z3 := blk_frozen HK4.out 3
      have c_z4 : w2.cell? ⟨w.heap.size + 1, 4, none⟩ = some (Value.slice none 0 0) := (blk_cell HK4.out 4).trans rfl
      have f_z4 := blk_frozen HK4.out 4
      go_wp2
      refine bodyPost_ret (v := .tuple #[.agg #[.string ⟨#[]⟩, .string ⟨#[]⟩, .string ⟨#[]⟩, .slice none 0 0, .slice none 0 0], .int .i64 61]) (by simp [results, Try.results17, go_sem, *]) rfl ?_
      exact zeroOutT (g := w.heap.size + 1) (n := 61) HB2.out (by omega) _ _ _ _ _
end Go.Proofs.Ytmmiehckgkadgaa.O
