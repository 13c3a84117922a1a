/- Own lemmas and walks (CN, TC), without what the law does not need. Laid by a program of this session (prune.py). -/
import Derived.Test.YtmmiehckgkadgaaGreatPr16
import Derived.Test.YtmmiehckgkadgaaGreatPr17
namespace Go.Proofs.YtmmiehckgkadgaaGreat.O
set_option linter.unusedVariables false
set_option linter.unusedSimpArgs false
open Go.RowKit Go.Proofs.YtmmiehckgkadgaaGreatW.PrintWords
theorem boxes4 (w : World) (o1 o2 o3 o4 : Obj) : Below w.heap.size w ((((w.alloc o1).alloc o2).alloc o3).alloc o4) ∧ ((((w.alloc o1).alloc o2).alloc o3).alloc o4).heap[w.heap.size]? = some o1 ∧ ((((w.alloc o1).alloc o2).alloc o3).alloc o4).heap[w.heap.size + 1]? = some o2 ∧ ((((w.alloc o1).alloc o2).alloc o3).alloc o4).heap[w.heap.size + 1 + 1]? = some o3 ∧ ((((w.alloc o1).alloc o2).alloc o3).alloc o4).heap[w.heap.size + 1 + 1 + 1]? = some o4 := by
  obtain ⟨h0, h1, h2, h3⟩ := boxes3 w o1 o2 o3
  have e : (((w.alloc o1).alloc o2).alloc o3).heap.size = w.heap.size + 1 + 1 + 1 := by simp
  obtain ⟨k0, k1⟩ := boxes1 (((w.alloc o1).alloc o2).alloc o3) o4
  rw [e] at k1
  exact ⟨below_step h0 k0, blk_below h1 k0, blk_below h2 k0, blk_below h3 k0, k1⟩
end Go.Proofs.YtmmiehckgkadgaaGreat.O
namespace Go.Proofs.YtmmiehckgkadgaaGreat.O
set_option linter.unusedVariables false
set_option linter.unusedSimpArgs false
open Go.RowKit Go.Proofs.YtmmiehckgkadgaaGreatW.PrintWords Go.Sort
def addTable (ss : List Sch) (ts : List Tab) (t : Tab) : Res := chg ss ts (addTabR ss ts t)
set_option maxRecDepth 20000 in
set_option maxHeartbeats 2000000 in
theorem AddTable.calls {As At A3 A4 : Option Addr} {cs ct c3 c4 : Nat} (ss : List Sch) (ts : List Tab) (t : Tab) (w : World) (hs : kSch.C w As ss.length ss) (hsl : ss.length ≤ 3000) (ht : kTab.C w At ts.length ts) (hF : TabsF ts) (hB : TabsB ts) (h3 : kCol.C w A3 t.cols.length t.cols) (h4 : kRul.C w A4 t.rules.length t.rules) (hlc : t.cols.length ≤ 140737488355328) :
    Calls Tryz.prog 24 #[.agg #[.slice As ss.length cs, .slice At ts.length ct], .agg #[.string t.schema, .string t.name, .string t.owner, .slice A3 t.cols.length c3, .slice A4 t.rules.length c4]] w (Out w (addTable ss ts t)) := by
  have H3 := Aside0.mk (boxes3 w (.cells #[.slice As ss.length cs, .slice At ts.length ct] 25) (.cells #[.string t.schema, .string t.name, .string t.owner, .slice A3 t.cols.length c3, .slice A4 t.rules.length c4] 50) (.cells #[.slice none 0 0, .slice none 0 0] 25))
  have HT := Aside0.mk (fun (W : World) (hW : Below w.heap.size w W) (p : Nat) (hp : W.heap[p]? = some (.cells #[.string t.schema, .string t.name, .string t.owner, .slice A3 t.cols.length c3, .slice A4 t.rules.length c4] 50 (0, 0))) => changed.calls (As := As) (At := At) (cs := cs) (ct := ct) 75 #[.pointer (some ⟨p, 0, none⟩)] ss ts _ W (Kd.C_below hs hW) hsl (Kd.C_below ht hW) hF hB (enters Tryz.func75 (by decide) rfl) (fun hck => AddTable1.calls ss ts t W p hp (Kd.C_below h3 hW) (Kd.C_below h4 hW) hlc hsl hB.1 hck))
  clear hs ht hF hB h3 h4
  unfold addTable
  generalize chg ss ts (addTabR ss ts t) = q at *
  go_enter Tryz.func24, Tryz.ntmps24
  go_wp2_with fail
  refine (HT.out _ H3.out.1 (w.heap.size + 1) H3.out.2.2.1).mono ?_
  rintro e w2 ⟨vs, vt, rfl, h1, h2, hb⟩
  obtain ⟨Es, es, rfl⟩ := Kd.R_slice h1
  obtain ⟨Et, et, rfl⟩ := Kd.R_slice h2
  have hZ := H3.out.2.2.2
  have hZ2 := blk_below hZ hb
  have z0 : w2.cell? ⟨w.heap.size + 1 + 1, 0, none⟩ = some (.slice none 0 0) := (blk_cell hZ2 0).trans rfl
  have z1 : w2.cell? ⟨w.heap.size + 1 + 1, 1, none⟩ = some (.slice none 0 0) := (blk_cell hZ2 1).trans rfl
  have f0 := blk_frozen hZ2 0
  have f1 := blk_frozen hZ2 1
  have HX := Aside0.mk (Out.wrap (g := w.heap.size + 1 + 1) H3.out.1 (by omega) hZ h1 h2 hb)
  clear h1 h2 hb hZ2 hZ H3 HT
  go_wp2
  refine bodyPost_ret (v := .tuple #[.agg #[.slice Es q.2.1.length es, .slice Et q.2.2.length et], .int .i64 q.1]) (by simp [results, Tryz.results24, go_sem, *]) rfl ?_
  exact ⟨_, _, rfl, HX.out⟩
def GrowT (B : Nat) (U w' : World) (v : Value) (l : List Tab) : Prop := kTab.R 50 w' B (fun _ => True) v l ∧ (∀ q, v.ownBlock = some q → U.heap.size ≤ q) ∧ Below U.heap.size U w'
theorem GrowT.next {B : Nat} {U W w1 : World} {v v1 : Value} {l l1 : List Tab} (h : GrowT B U W v l) (hR : kTab.R 50 w1 B (fun _ => True) v1 l1) (hg : W.grownBy w1 v.ownBlock) (ha : v1.ownBlock = v.ownBlock ∨ ∃ b, v1.ownBlock = some b ∧ W.heap.size ≤ b) : GrowT B U w1 v1 l1 := by
  refine ⟨hR, fun q hq => ?_, h.2.2.grown hg h.2.2.size h.2.1⟩
  rcases ha with e | ⟨b, e, hb⟩
  · exact h.2.1 q (e ▸ hq)
  · rw [e] at hq; injection hq with hq; subst hq; exact Nat.le_trans h.2.2.size hb
theorem GrowT.move {B : Nat} {U W w1 : World} {v : Value} {l : List Tab} (h : GrowT B U W v l) (hb : Below W.heap.size W w1) : GrowT B U w1 v l := ⟨Kd.R_below h.1 hb, h.2.1, below_step h.2.2 hb⟩
theorem Out.tabs {B b z : Nat} {w U wr : World} {ss : List Sch} {ts' : List Tab} {vs v : Value} {cs cz : Array Value} (hU : Below w.heap.size w U) (hb : U.heap[b]? = some (.cells cs 25 (0, 0))) (hz : U.heap[z]? = some (.cells cz 25 (0, 0)))
    (hR : kSch.R 76 U B (fun _ => True) vs ss) (hT : GrowT B U wr v ts') (hB : w.heap.size ≤ B) (hwb : w.heap.size ≤ b) (hwz : w.heap.size ≤ z) :
    Out w (0, ss, ts') (.returned (.tuple #[.agg #[vs, v], .int .i64 0])) (((wr.setCell ⟨b, 1, none⟩ v).setCell ⟨z, 0, none⟩ vs).setCell ⟨z, 1, none⟩ v) := by
  have hwr := hT.2.2
  have kb := blk_below hb hwr
  have kz := blk_below hz hwr
  have hR1 := Kd.R_set (Kd.R_lower (Kd.R_below hR hwr) hB) kb (by decide) 1 v
  have hT1 := Kd.R_set (Kd.R_lower hT.1 hB) kb (by decide) 1 v
  have kz1 : ∃ c', (wr.setCell ⟨b, 1, none⟩ v).heap[z]? = some (.cells c' 25 (0, 0)) := by
    by_cases e : z = b
    · subst e; exact ⟨_, blk_set kb 1 v⟩
    · exact ⟨_, blk_far (p := ⟨b, 1, none⟩) kz e v⟩
  obtain ⟨c', kz1⟩ := kz1
  exact ⟨_, _, rfl, R_only hR1 kz1 (by decide) (set2_far _ _ _ _), R_only hT1 kz1 (by decide) (set2_far _ _ _ _), set2_below ((below_step hU hwr).setCell (p := ⟨b, 1, none⟩) hwb _) hwz _ _⟩
end Go.Proofs.YtmmiehckgkadgaaGreat.O
