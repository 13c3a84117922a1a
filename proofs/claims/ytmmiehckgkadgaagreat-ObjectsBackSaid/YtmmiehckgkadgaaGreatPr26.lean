/- Own lemmas and walks (UF), without what the law does not need. Laid by a program of this session (prune.py). -/
import Derived.Test.YtmmiehckgkadgaaGreatPr18
import Derived.Test.YtmmiehckgkadgaaGreatPr25
namespace Go.Proofs.YtmmiehckgkadgaaGreat.O
set_option linter.unusedVariables false
set_option linter.unusedSimpArgs false
open Go.RowKit Go.Proofs.YtmmiehckgkadgaaGreatW.PrintWords Go.Sort
def addRule (ss : List Sch) (ts : List Tab) (schema table : ByteArray) (r : Rul) : Res := chg ss ts (tch ss ts schema table (addRulM ts r))
set_option maxRecDepth 20000 in
set_option maxHeartbeats 2000000 in
theorem AddRule.calls {As At A2 : Option Addr} {cs ct c2 : Nat} (ss : List Sch) (ts : List Tab) (schema table : ByteArray) (r : Rul) (w : World) (hs : kSch.C w As ss.length ss) (hsl : ss.length ≤ 3000) (ht : kTab.C w At ts.length ts) (hF : TabsF ts) (hB : TabsB ts) (h2 : Kd.string.C w A2 r.cols.length r.cols) (hRF : RulF r) (hRL : r.cols.length ≤ 3000) :
    Calls Tryz.prog 8 #[.agg #[.slice As ss.length cs, .slice At ts.length ct], .string schema, .string table, .agg #[.string r.name, .int .i64 r.kind, .slice A2 r.cols.length c2, .int .i64 r.low, .int .i64 r.high, .string r.schema, .string r.table, .string r.key]] w (Out w (addRule ss ts schema table r)) := by
  have H3 := Aside0.mk (boxes3 w (.cells #[.slice As ss.length cs, .slice At ts.length ct] 25) (.cells #[.string r.name, .int .i64 r.kind, .slice A2 r.cols.length c2, .int .i64 r.low, .int .i64 r.high, .string r.schema, .string r.table, .string r.key] 29) (.cells #[.slice none 0 0, .slice none 0 0] 25))
  have HT := Aside0.mk (fun (W : World) (hW : Below w.heap.size w W) (p : Nat) (hp : W.heap[p]? = some (.cells #[.string r.name, .int .i64 r.kind, .slice A2 r.cols.length c2, .int .i64 r.low, .int .i64 r.high, .string r.schema, .string r.table, .string r.key] 29 (0, 0))) => tableChangedX.calls (fun q => q = p) (As := As) (At := At) (cs := cs) (ct := ct) 27 #[.pointer (some ⟨p, 0, none⟩)] (enters Tryz.func27 (by decide) rfl) ss ts schema table _ W (fun k e => by rw [e]; exact blk_lt hp) (Kd.C_below hs hW) hsl (Kd.C_below ht hW) hF hB (fun hck => AddRule1.calls ss ts r W p hp (Kd.C_below h2 hW) hRF hRL hF hB hck))
  clear hs ht hF hB h2
  unfold addRule
  generalize chg ss ts (tch ss ts schema table (addRulM ts r)) = q at *
  go_enter Tryz.func8, Tryz.ntmps8
  go_wp2_with fail
  refine (HT.out _ H3.out.1 (w.heap.size + 1) H3.out.2.2.1).mono ?_
  rintro e w2 ⟨vs, vt, rfl, h1, h2, hb⟩
  obtain ⟨Es, es, rfl⟩ := Kd.R_slice h1
  obtain ⟨Et, et, rfl⟩ := Kd.R_slice h2
  have hZ2 := hb.blk H3.out.2.2.2 (blk_lt H3.out.2.2.2) (by omega)
  have z0 : w2.cell? ⟨w.heap.size + 1 + 1, 0, none⟩ = some (.slice none 0 0) := (blk_cell hZ2 0).trans rfl
  have z1 : w2.cell? ⟨w.heap.size + 1 + 1, 1, none⟩ = some (.slice none 0 0) := (blk_cell hZ2 1).trans rfl
  have f0 := blk_frozen hZ2 0
  have f1 := blk_frozen hZ2 1
  have hw := OutX.wrap (g := w.heap.size + 1 + 1) H3.out.1 (by omega) (by omega) H3.out.2.2.2 h1 h2 hb
  have HX := Aside0.mk (And.intro hw.1 (And.intro hw.2.1 (hw.2.2.below (Nat.le_refl _) (fun k e => by rw [e]; omega) (Nat.le_refl _))))
  clear h1 h2 hb hZ2 hw H3 HT
  go_wp2
  refine bodyPost_ret (v := .tuple #[.agg #[.slice Es q.2.1.length es, .slice Et q.2.2.length et], .int .i64 q.1]) (by simp [results, Tryz.results8, go_sem, *]) rfl ?_
  exact ⟨_, _, rfl, HX.out⟩
def dropRule (ss : List Sch) (ts : List Tab) (schema table name : ByteArray) : Res := chg ss ts (tch ss ts schema table (dropRulM ts schema table name))
set_option maxRecDepth 20000 in
set_option maxHeartbeats 2000000 in
theorem DropRule.calls {As At : Option Addr} {cs ct : Nat} (ss : List Sch) (ts : List Tab) (schema table name : ByteArray) (w : World) (hs : kSch.C w As ss.length ss) (hsl : ss.length ≤ 3000) (ht : kTab.C w At ts.length ts) (hF : TabsF ts) (hB : TabsB ts) :
    Calls Tryz.prog 10 #[.agg #[.slice As ss.length cs, .slice At ts.length ct], .string schema, .string table, .string name] w (Out w (dropRule ss ts schema table name)) := by
  have H3 := Aside0.mk (boxes5 w (.cells #[.slice As ss.length cs, .slice At ts.length ct] 25) (.cells #[.string schema] 9) (.cells #[.string table] 9) (.cells #[.string name] 9) (.cells #[.slice none 0 0, .slice none 0 0] 25))
  have HT := Aside0.mk (fun (W : World) (hW : Below w.heap.size w W) (p q u : Nat) (hp : W.heap[p]? = some (.cells #[.string name] 9 (0, 0))) (hq : W.heap[q]? = some (.cells #[.string schema] 9 (0, 0))) (hu : W.heap[u]? = some (.cells #[.string table] 9 (0, 0))) => tableChanged.calls (As := As) (At := At) (cs := cs) (ct := ct) 42 #[.pointer (some ⟨p, 0, none⟩), .pointer (some ⟨q, 0, none⟩), .pointer (some ⟨u, 0, none⟩)] (enters Tryz.func42 (by decide) rfl) ss ts schema table _ W (Kd.C_below hs hW) hsl (Kd.C_below ht hW) hF hB (fun _ => DropRule1.calls ss ts schema table name W p q u hp hq hu hB))
  clear hs ht hF hB
  unfold dropRule
  generalize chg ss ts (tch ss ts schema table (dropRulM ts schema table name)) = q at *
  have c_1 := (blk_cell H3.out.2.2.1 0).trans (show (#[Value.string schema])[0]? = some (.string schema) from rfl)
  have c_2 := (blk_cell H3.out.2.2.2.1 0).trans (show (#[Value.string table])[0]? = some (.string table) from rfl)
  go_enter Tryz.func10, Tryz.ntmps10
  go_wp2_with fail
  clear c_1 c_2
  refine (HT.out _ H3.out.1 (w.heap.size + 1 + 1 + 1) (w.heap.size + 1) (w.heap.size + 1 + 1) H3.out.2.2.2.2.1 H3.out.2.2.1 H3.out.2.2.2.1).mono ?_
  rintro e w2 ⟨vs, vt, rfl, h1, h2, hb⟩
  obtain ⟨Es, es, rfl⟩ := Kd.R_slice h1
  obtain ⟨Et, et, rfl⟩ := Kd.R_slice h2
  have hZ := H3.out.2.2.2.2.2
  have hZ2 := blk_below hZ hb
  have z0 : w2.cell? ⟨w.heap.size + 1 + 1 + 1 + 1, 0, none⟩ = some (.slice none 0 0) := (blk_cell hZ2 0).trans rfl
  have z1 : w2.cell? ⟨w.heap.size + 1 + 1 + 1 + 1, 1, none⟩ = some (.slice none 0 0) := (blk_cell hZ2 1).trans rfl
  have f0 := blk_frozen hZ2 0
  have f1 := blk_frozen hZ2 1
  have HX := Aside0.mk (Out.wrap (g := w.heap.size + 1 + 1 + 1 + 1) H3.out.1 (by omega) hZ h1 h2 hb)
  clear h1 h2 hb hZ2 hZ H3 HT
  go_wp2
  refine bodyPost_ret (v := .tuple #[.agg #[.slice Es q.2.1.length es, .slice Et q.2.2.length et], .int .i64 q.1]) (by simp [results, Tryz.results10, go_sem, *]) rfl ?_
  exact ⟨_, _, rfl, HX.out⟩
end Go.Proofs.YtmmiehckgkadgaaGreat.O
