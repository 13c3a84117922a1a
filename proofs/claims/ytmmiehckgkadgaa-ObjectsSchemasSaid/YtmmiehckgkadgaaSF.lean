/- The document's AddSchema and DropSchema. Printed by a program of this session (gen_schema3.py). -/
import Derived.Test.YtmmiehckgkadgaaSE
namespace Go.Proofs.Ytmmiehckgkadgaa.O
set_option linter.unusedVariables false
set_option linter.unusedSimpArgs false
open Go.RowKit Go.Proofs.YtmmiehckgkadgaaW.PrintWords Go.Sort

theorem chg_at {ss : List Sch} {ts : List Tab} {r : Res} {n : Int} (h : checkB ss ts = true) (hr : r = (n, [], [])) : chg ss ts r = (n, [], []) := by
  subst hr; unfold chg; rw [h]; simp only [if_true]
  split
  · rfl
  · rfl
theorem chg_ok {ss ss' : List Sch} {ts ts' : List Tab} {r : Res} (h : checkB ss ts = true) (hr : r = (0, ss', ts')) : chg ss ts r = (0, ss', ts') := by subst hr; unfold chg; rw [h]; rfl
/-- schemas of one's own, laid into objects of one's own, told -/
theorem Out.schs {B b z : Nat} {w U wr : World} {ss' : List Sch} {ts : List Tab} {v vt : Value} {cs cz : Array Value} (hU : Below w.heap.size w U) (hwr : Below U.heap.size U wr) (hb : U.heap[b]? = some (.cells cs 26 (0, 0))) (hz : U.heap[z]? = some (.cells cz 26 (0, 0)))
    (hR : kSch.R 63 wr U.heap.size (fun _ => True) v ss') (hT : kTab.R 35 U B (fun _ => True) vt ts) (hB : w.heap.size ≤ B) (hwb : w.heap.size ≤ b) (hwz : w.heap.size ≤ z) :
    Out w (0, ss', ts) (.returned (.tuple #[.agg #[v, vt], .int .i64 0])) (((wr.setCell ⟨b, 0, none⟩ v).setCell ⟨z, 0, none⟩ v).setCell ⟨z, 1, none⟩ vt) := by
  have kb := blk_below hb hwr
  have kz := blk_below hz hwr
  have hR1 := Kd.R_set (Kd.R_lower hR hU.size) kb (by decide) 0 v
  have hT1 := Kd.R_set (Kd.R_lower (Kd.R_below hT hwr) hB) kb (by decide) 0 v
  have kz1 : ∃ c', (wr.setCell ⟨b, 0, none⟩ v).heap[z]? = some (.cells c' 26 (0, 0)) := by
    by_cases e : z = b
    · subst e; exact ⟨_, blk_set kb 0 v⟩
    · exact ⟨_, blk_far (p := ⟨b, 0, none⟩) kz e v⟩
  obtain ⟨c', kz1⟩ := kz1
  exact ⟨_, _, rfl, R_only hR1 kz1 (by decide) (set2_far _ _ _ _), R_only hT1 kz1 (by decide) (set2_far _ _ _ _), set2_below ((below_step hU hwr).setCell (p := ⟨b, 0, none⟩) hwb _) hwz _ _⟩
theorem filt_step {α : Type} {xs : List α} {p : α → Bool} {j : Nat} (h : j < xs.length) : (xs.take (j + 1)).filter p = (xs.take j).filter p ++ (if p xs[j] = true then [xs[j]] else []) := by
  rw [List.take_succ_eq_append_getElem h, List.filter_append, List.filter_cons, List.filter_nil]
/-- the loop that lays x in its place: l is what is there of the first j -/
def InsI (x : Sch) (ss : List Sch) (j : Nat) (b : Bool) (l : List Sch) : Prop := (b = false → l = ss.take j ∧ ∀ a ∈ ss.take j, ltOf cfS x a = false) ∧ (b = true → l = ins (ltOf cfS) x (ss.take j) ∧ ∃ a, a ∈ ss.take j ∧ ltOf cfS x a = true)
theorem InsI.start (x : Sch) (ss : List Sch) : InsI x ss 0 false [] := ⟨fun _ => ⟨by simp, by simp⟩, fun h => by cases h⟩
theorem InsI.len {x : Sch} {ss : List Sch} {j : Nat} {b : Bool} {l : List Sch} (h : InsI x ss j b l) (hj : j ≤ ss.length) : l.length ≤ ss.length + 1 := by
  have ht := List.length_take_le j ss
  cases b with
  | false => rw [(h.1 rfl).1]; omega
  | true =>
    rw [(h.2 rfl).1, (ins_perm x (ss.take j)).length_eq, List.length_append]; simp only [List.length_take, List.length_cons, List.length_nil]; omega
theorem InsI.more {x : Sch} {ss : List Sch} {j : Nat} {l : List Sch} (h : InsI x ss j true l) (hlt : j < ss.length) : InsI x ss (j + 1) true (l ++ [ss[j]]) := by
  obtain ⟨e, a, ha, hx⟩ := h.2 rfl
  refine ⟨fun h => (by cases h), fun _ => ?_⟩
  rw [List.take_succ_eq_append_getElem hlt, ins_more ⟨a, ha, hx⟩, e]
  exact ⟨rfl, a, List.mem_append_left _ ha, hx⟩
theorem InsI.none {x : Sch} {ss : List Sch} {j : Nat} {l : List Sch} (h : InsI x ss j false l) (hlt : j < ss.length) (hp : ltOf cfS x ss[j] = false) : InsI x ss (j + 1) false (l ++ [ss[j]]) := by
  obtain ⟨e, hx⟩ := h.1 rfl
  refine ⟨fun _ => ?_, fun h => (by cases h)⟩
  rw [List.take_succ_eq_append_getElem hlt, e]
  refine ⟨rfl, fun a ha => ?_⟩
  rcases List.mem_append.1 ha with ha | ha
  · exact hx a ha
  · obtain rfl : a = ss[j] := by simpa using ha
    exact hp
theorem InsI.hit {x : Sch} {ss : List Sch} {j : Nat} {l : List Sch} (h : InsI x ss j false l) (hlt : j < ss.length) (hp : ltOf cfS x ss[j] = true) : InsI x ss (j + 1) true (l ++ [x] ++ [ss[j]]) := by
  obtain ⟨e, hx⟩ := h.1 rfl
  refine ⟨fun h => (by cases h), fun _ => ?_⟩
  rw [List.take_succ_eq_append_getElem hlt, ins_hit hx hp, e]
  exact ⟨rfl, ss[j], List.mem_append_right _ (List.mem_singleton.2 rfl), hp⟩
theorem InsI.done_true {x : Sch} {ss : List Sch} {l : List Sch} (h : InsI x ss ss.length true l) : l = ins (ltOf cfS) x ss := by have := (h.2 rfl).1; rwa [List.take_length] at this
theorem InsI.done_false {x : Sch} {ss : List Sch} {l : List Sch} (h : InsI x ss ss.length false l) : l ++ [x] = ins (ltOf cfS) x ss := by
  obtain ⟨e, hx⟩ := h.1 rfl
  rw [List.take_length] at e hx
  rw [ins_end hx, e]
def noS (name : ByteArray) (x : Sch) : Bool := !(x.name.toList == name.toList)
def rDropSchR (ss : List Sch) (ts : List Tab) (name : ByteArray) : Res := if 0 ≤ idx (sameS name) ss then (if 0 < cnt (ofS name) ts then (62, [], []) else (0, ss.filter (noS name), ts)) else (61, [], [])
def rDropSchema (ss : List Sch) (ts : List Tab) (name : ByteArray) : Res := chg ss ts (rDropSchR ss ts name)

set_option maxRecDepth 100000 in
set_option maxHeartbeats 4000000 in
theorem rDropSchema.calls {As At : Option Addr} {cs ct : Nat} (ss : List Sch) (ts : List Tab) (name : ByteArray) (w : World) (hs : kSch.C w As ss.length ss) (hsl : ss.length ≤ 3000) (ht : kTab.C w At ts.length ts) (hF : TabsF ts) (hB : TabsB ts) :
    Calls Try.prog 31 #[.agg #[Value.slice As ss.length cs, Value.slice At ts.length ct], .string name] w (Out w (rDropSchema ss ts name)) := by
  have HX0 := Aside0.mk (boxes2 w (.cells #[Value.slice As ss.length cs, Value.slice At ts.length ct] 26) (.cells #[Value.slice none 0 0, Value.slice none 0 0] 26))
  have HCK := Aside0.mk (fun W (hW : Below w.heap.size w W) => rRightAll.calls (As := As) (cs := cs) (At := At) (ct := ct) ss ts W (Kd.C_below hs hW) (by omega) (Kd.C_below ht hW) hF)
  have HOW := Aside0.mk (fun W (hW : Below w.heap.size w W) => rOwn.calls (As := As) (cs := cs) (At := At) (ct := ct) ss ts W (Kd.C_below hs hW) hsl (Kd.C_below ht hW) hB)
  have HSC := Aside0.mk (fun W (hW : Below w.heap.size w W) => rSchema.calls (c0 := cs) (At := At) (nt := ts.length) (ct := ct) name ss W (Kd.C_below hs hW) (by omega))
  have HTC := Aside0.mk (fun W (hW : Below w.heap.size w W) => rTables.calls (As := As) (ns := ss.length) (cs := cs) (c0 := ct) name ts W (Kd.C_below ht hW) (by have := hB.1; omega))
  have HSS := Aside0.mk (fun W (hW : Below w.heap.size w W) => Kd.C_below hs hW)
  have HNO := Aside0.mk (fun n W => rNo.calls n W)
  clear hs ht hF hB
  unfold rDropSchema
  cases hck : checkB ss ts with
  | false =>
    rw [chg_bad _ hck]
    rw [hck] at HCK
    clear hck HOW HSC HTC HSS
    go_enter Try.func31, Try.ntmps31
    have c_o0 : ((w.alloc (.cells #[Value.slice As ss.length cs, Value.slice At ts.length ct] 26)).alloc (.cells #[Value.slice none 0 0, Value.slice none 0 0] 26)).cell? ⟨w.heap.size, 0, none⟩ = some (Value.slice As ss.length cs) := (blk_cell HX0.out.2.1 0).trans rfl
    have f_o0 := blk_frozen HX0.out.2.1 0
    have c_o1 : ((w.alloc (.cells #[Value.slice As ss.length cs, Value.slice At ts.length ct] 26)).alloc (.cells #[Value.slice none 0 0, Value.slice none 0 0] 26)).cell? ⟨w.heap.size, 1, none⟩ = some (Value.slice At ts.length ct) := (blk_cell HX0.out.2.1 1).trans rfl
    have f_o1 := blk_frozen HX0.out.2.1 1
    have c_z0 : ((w.alloc (.cells #[Value.slice As ss.length cs, Value.slice At ts.length ct] 26)).alloc (.cells #[Value.slice none 0 0, Value.slice none 0 0] 26)).cell? ⟨w.heap.size + 1, 0, none⟩ = some (Value.slice none 0 0) := (blk_cell HX0.out.2.2 0).trans rfl
    have f_z0 := blk_frozen HX0.out.2.2 0
    have c_z1 : ((w.alloc (.cells #[Value.slice As ss.length cs, Value.slice At ts.length ct] 26)).alloc (.cells #[Value.slice none 0 0, Value.slice none 0 0] 26)).cell? ⟨w.heap.size + 1, 1, none⟩ = some (Value.slice none 0 0) := (blk_cell HX0.out.2.2 1).trans rfl
    have f_z1 := blk_frozen HX0.out.2.2 1
    go_wp2_with fail
    clear c_o0 f_o0 c_o1 f_o1 c_z0 f_z0 c_z1 f_z1
    refine (HCK.out _ HX0.out.1).mono ?_
    rintro e w1 ⟨rfl, hb1⟩
    have HB1 := Aside0.mk (below_step (HX0.out.1) hb1)
    have HK1 := Aside0.mk (blk_below (HX0.out.2.1) hb1)
    have HK2 := Aside0.mk (blk_below (HX0.out.2.2) hb1)
    have HS1 := Aside0.mk hb1
    clear hb1
    have c_o0 : w1.cell? ⟨w.heap.size, 0, none⟩ = some (Value.slice As ss.length cs) := (blk_cell HK1.out 0).trans rfl
    have f_o0 := blk_frozen HK1.out 0
    have c_o1 : w1.cell? ⟨w.heap.size, 1, none⟩ = some (Value.slice At ts.length ct) := (blk_cell HK1.out 1).trans rfl
    have f_o1 := blk_frozen HK1.out 1
    have c_z0 : w1.cell? ⟨w.heap.size + 1, 0, none⟩ = some (Value.slice none 0 0) := (blk_cell HK2.out 0).trans rfl
    have f_z0 := blk_frozen HK2.out 0
    have c_z1 : w1.cell? ⟨w.heap.size + 1, 1, none⟩ = some (Value.slice none 0 0) := (blk_cell HK2.out 1).trans rfl
    have f_z1 := blk_frozen HK2.out 1
    go_wp2_with fail
    clear c_o0 f_o0 c_o1 f_o1 c_z0 f_z0 c_z1 f_z1
    refine (HNO.out _ _).mono ?_
    rintro e w2 ⟨rfl, hb2⟩
    have HB2 := Aside0.mk (below_step (HB1.out) hb2)
    have HK3 := Aside0.mk (blk_below (HK1.out) hb2)
    have HK4 := Aside0.mk (blk_below (HK2.out) hb2)
    have HS2 := Aside0.mk hb2
    clear hb2
    have c_o0 : w2.cell? ⟨w.heap.size, 0, none⟩ = some (Value.slice As ss.length cs) := (blk_cell HK3.out 0).trans rfl
    have f_o0 := blk_frozen HK3.out 0
    have c_o1 : w2.cell? ⟨w.heap.size, 1, none⟩ = some (Value.slice At ts.length ct) := (blk_cell HK3.out 1).trans rfl
    have f_o1 := blk_frozen HK3.out 1
    have c_z0 : w2.cell? ⟨w.heap.size + 1, 0, none⟩ = some (Value.slice none 0 0) := (blk_cell HK4.out 0).trans rfl
    have f_z0 := blk_frozen HK4.out 0
    have c_z1 : w2.cell? ⟨w.heap.size + 1, 1, none⟩ = some (Value.slice none 0 0) := (blk_cell HK4.out 1).trans rfl
    have f_z1 := blk_frozen HK4.out 1
    go_wp2
    refine bodyPost_ret (v := .tuple #[.agg #[.slice none 0 0, .slice none 0 0], .int .i64 63]) (by simp [results, Try.results31, go_sem, *]) rfl ?_
    exact zeroOut (g := w.heap.size + 1) (n := 63) HB2.out (by omega)
  | true =>
    have HK := Aside0.mk hck
    rw [hck] at HCK
    clear hck
    rcases idx_cases (sameS name) ss with ⟨m, hm, hi, y1, y2⟩ | ⟨hi, y1⟩
    rotate_left
    · rw [chg_at (n := 61) HK.out (by unfold rDropSchR; rw [hi]; rfl)]
      rw [show idx (fun x : Sch => x.name.toList == name.toList) ss = -1 from hi] at HSC
      have h2 : decide ((-1 : Int) < 0) = true := rfl
      clear hi y1 HOW HTC HSS HK
      go_enter Try.func31, Try.ntmps31
      have c_o0 : ((w.alloc (.cells #[Value.slice As ss.length cs, Value.slice At ts.length ct] 26)).alloc (.cells #[Value.slice none 0 0, Value.slice none 0 0] 26)).cell? ⟨w.heap.size, 0, none⟩ = some (Value.slice As ss.length cs) := (blk_cell HX0.out.2.1 0).trans rfl
      have f_o0 := blk_frozen HX0.out.2.1 0
      have c_o1 : ((w.alloc (.cells #[Value.slice As ss.length cs, Value.slice At ts.length ct] 26)).alloc (.cells #[Value.slice none 0 0, Value.slice none 0 0] 26)).cell? ⟨w.heap.size, 1, none⟩ = some (Value.slice At ts.length ct) := (blk_cell HX0.out.2.1 1).trans rfl
      have f_o1 := blk_frozen HX0.out.2.1 1
      have c_z0 : ((w.alloc (.cells #[Value.slice As ss.length cs, Value.slice At ts.length ct] 26)).alloc (.cells #[Value.slice none 0 0, Value.slice none 0 0] 26)).cell? ⟨w.heap.size + 1, 0, none⟩ = some (Value.slice none 0 0) := (blk_cell HX0.out.2.2 0).trans rfl
      have f_z0 := blk_frozen HX0.out.2.2 0
      have c_z1 : ((w.alloc (.cells #[Value.slice As ss.length cs, Value.slice At ts.length ct] 26)).alloc (.cells #[Value.slice none 0 0, Value.slice none 0 0] 26)).cell? ⟨w.heap.size + 1, 1, none⟩ = some (Value.slice none 0 0) := (blk_cell HX0.out.2.2 1).trans rfl
      have f_z1 := blk_frozen HX0.out.2.2 1
      go_wp2_with fail
      clear c_o0 f_o0 c_o1 f_o1 c_z0 f_z0 c_z1 f_z1
      refine (HCK.out _ HX0.out.1).mono ?_
      rintro e w1 ⟨rfl, hb1⟩
      have HB1 := Aside0.mk (below_step (HX0.out.1) hb1)
      have HK1 := Aside0.mk (blk_below (HX0.out.2.1) hb1)
      have HK2 := Aside0.mk (blk_below (HX0.out.2.2) hb1)
      have HS1 := Aside0.mk hb1
      clear hb1
      have c_o0 : w1.cell? ⟨w.heap.size, 0, none⟩ = some (Value.slice As ss.length cs) := (blk_cell HK1.out 0).trans rfl
      have f_o0 := blk_frozen HK1.out 0
      have c_o1 : w1.cell? ⟨w.heap.size, 1, none⟩ = some (Value.slice At ts.length ct) := (blk_cell HK1.out 1).trans rfl
      have f_o1 := blk_frozen HK1.out 1
      have c_z0 : w1.cell? ⟨w.heap.size + 1, 0, none⟩ = some (Value.slice none 0 0) := (blk_cell HK2.out 0).trans rfl
      have f_z0 := blk_frozen HK2.out 0
      have c_z1 : w1.cell? ⟨w.heap.size + 1, 1, none⟩ = some (Value.slice none 0 0) := (blk_cell HK2.out 1).trans rfl
      have f_z1 := blk_frozen HK2.out 1
      go_wp2_with fail
      clear c_o0 f_o0 c_o1 f_o1 c_z0 f_z0 c_z1 f_z1
      refine (HSC.out _ HB1.out).mono ?_
      rintro e w2 ⟨rfl, hb2⟩
      have HB2 := Aside0.mk (below_step (HB1.out) hb2)
      have HK3 := Aside0.mk (blk_below (HK1.out) hb2)
      have HK4 := Aside0.mk (blk_below (HK2.out) hb2)
      have HS2 := Aside0.mk hb2
      clear hb2
      have c_o0 : w2.cell? ⟨w.heap.size, 0, none⟩ = some (Value.slice As ss.length cs) := (blk_cell HK3.out 0).trans rfl
      have f_o0 := blk_frozen HK3.out 0
      have c_o1 : w2.cell? ⟨w.heap.size, 1, none⟩ = some (Value.slice At ts.length ct) := (blk_cell HK3.out 1).trans rfl
      have f_o1 := blk_frozen HK3.out 1
      have c_z0 : w2.cell? ⟨w.heap.size + 1, 0, none⟩ = some (Value.slice none 0 0) := (blk_cell HK4.out 0).trans rfl
      have f_z0 := blk_frozen HK4.out 0
      have c_z1 : w2.cell? ⟨w.heap.size + 1, 1, none⟩ = some (Value.slice none 0 0) := (blk_cell HK4.out 1).trans rfl
      have f_z1 := blk_frozen HK4.out 1
      go_wp2_with fail
      clear c_o0 f_o0 c_o1 f_o1 c_z0 f_z0 c_z1 f_z1
      refine (HNO.out _ _).mono ?_
      rintro e w3 ⟨rfl, hb3⟩
      have HB3 := Aside0.mk (below_step (HB2.out) hb3)
      have HK5 := Aside0.mk (blk_below (HK3.out) hb3)
      have HK6 := Aside0.mk (blk_below (HK4.out) hb3)
      have HS3 := Aside0.mk hb3
      clear hb3
      have c_o0 : w3.cell? ⟨w.heap.size, 0, none⟩ = some (Value.slice As ss.length cs) := (blk_cell HK5.out 0).trans rfl
      have f_o0 := blk_frozen HK5.out 0
      have c_o1 : w3.cell? ⟨w.heap.size, 1, none⟩ = some (Value.slice At ts.length ct) := (blk_cell HK5.out 1).trans rfl
      have f_o1 := blk_frozen HK5.out 1
      have c_z0 : w3.cell? ⟨w.heap.size + 1, 0, none⟩ = some (Value.slice none 0 0) := (blk_cell HK6.out 0).trans rfl
      have f_z0 := blk_frozen HK6.out 0
      have c_z1 : w3.cell? ⟨w.heap.size + 1, 1, none⟩ = some (Value.slice none 0 0) := (blk_cell HK6.out 1).trans rfl
      have f_z1 := blk_frozen HK6.out 1
      go_wp2
      refine bodyPost_ret (v := .tuple #[.agg #[.slice none 0 0, .slice none 0 0], .int .i64 61]) (by simp [results, Try.results31, go_sem, *]) rfl ?_
      exact zeroOut (g := w.heap.size + 1) (n := 61) HB3.out (by omega)
    have HAM := Aside0.mk (show rDropSchR ss ts name = (if 0 < cnt (ofS name) ts then (62, [], []) else (0, ss.filter (noS name), ts)) by unfold rDropSchR; rw [hi, if_pos (show (0 : Int) ≤ (m : Int) by omega)])
    rw [show idx (fun x : Sch => x.name.toList == name.toList) ss = (m : Int) from hi] at HSC
    have h2 : decide ((m : Int) < 0) = false := decide_eq_false (by omega)
    clear hi y1 y2 hm
    by_cases hc : 0 < cnt (ofS name) ts
    · rw [chg_at (n := 62) HK.out (by rw [HAM.out, if_pos hc])]
      clear HOW HSS HK HAM
      go_enter Try.func31, Try.ntmps31
      have c_o0 : ((w.alloc (.cells #[Value.slice As ss.length cs, Value.slice At ts.length ct] 26)).alloc (.cells #[Value.slice none 0 0, Value.slice none 0 0] 26)).cell? ⟨w.heap.size, 0, none⟩ = some (Value.slice As ss.length cs) := (blk_cell HX0.out.2.1 0).trans rfl
      have f_o0 := blk_frozen HX0.out.2.1 0
      have c_o1 : ((w.alloc (.cells #[Value.slice As ss.length cs, Value.slice At ts.length ct] 26)).alloc (.cells #[Value.slice none 0 0, Value.slice none 0 0] 26)).cell? ⟨w.heap.size, 1, none⟩ = some (Value.slice At ts.length ct) := (blk_cell HX0.out.2.1 1).trans rfl
      have f_o1 := blk_frozen HX0.out.2.1 1
      have c_z0 : ((w.alloc (.cells #[Value.slice As ss.length cs, Value.slice At ts.length ct] 26)).alloc (.cells #[Value.slice none 0 0, Value.slice none 0 0] 26)).cell? ⟨w.heap.size + 1, 0, none⟩ = some (Value.slice none 0 0) := (blk_cell HX0.out.2.2 0).trans rfl
      have f_z0 := blk_frozen HX0.out.2.2 0
      have c_z1 : ((w.alloc (.cells #[Value.slice As ss.length cs, Value.slice At ts.length ct] 26)).alloc (.cells #[Value.slice none 0 0, Value.slice none 0 0] 26)).cell? ⟨w.heap.size + 1, 1, none⟩ = some (Value.slice none 0 0) := (blk_cell HX0.out.2.2 1).trans rfl
      have f_z1 := blk_frozen HX0.out.2.2 1
      go_wp2_with fail
      clear c_o0 f_o0 c_o1 f_o1 c_z0 f_z0 c_z1 f_z1
      refine (HCK.out _ HX0.out.1).mono ?_
      rintro e w1 ⟨rfl, hb1⟩
      have HB1 := Aside0.mk (below_step (HX0.out.1) hb1)
      have HK1 := Aside0.mk (blk_below (HX0.out.2.1) hb1)
      have HK2 := Aside0.mk (blk_below (HX0.out.2.2) hb1)
      have HS1 := Aside0.mk hb1
      clear hb1
      have c_o0 : w1.cell? ⟨w.heap.size, 0, none⟩ = some (Value.slice As ss.length cs) := (blk_cell HK1.out 0).trans rfl
      have f_o0 := blk_frozen HK1.out 0
      have c_o1 : w1.cell? ⟨w.heap.size, 1, none⟩ = some (Value.slice At ts.length ct) := (blk_cell HK1.out 1).trans rfl
      have f_o1 := blk_frozen HK1.out 1
      have c_z0 : w1.cell? ⟨w.heap.size + 1, 0, none⟩ = some (Value.slice none 0 0) := (blk_cell HK2.out 0).trans rfl
      have f_z0 := blk_frozen HK2.out 0
      have c_z1 : w1.cell? ⟨w.heap.size + 1, 1, none⟩ = some (Value.slice none 0 0) := (blk_cell HK2.out 1).trans rfl
      have f_z1 := blk_frozen HK2.out 1
      go_wp2_with fail
      clear c_o0 f_o0 c_o1 f_o1 c_z0 f_z0 c_z1 f_z1
      refine (HSC.out _ HB1.out).mono ?_
      rintro e w2 ⟨rfl, hb2⟩
      have HB2 := Aside0.mk (below_step (HB1.out) hb2)
      have HK3 := Aside0.mk (blk_below (HK1.out) hb2)
      have HK4 := Aside0.mk (blk_below (HK2.out) hb2)
      have HS2 := Aside0.mk hb2
      clear hb2
      have c_o0 : w2.cell? ⟨w.heap.size, 0, none⟩ = some (Value.slice As ss.length cs) := (blk_cell HK3.out 0).trans rfl
      have f_o0 := blk_frozen HK3.out 0
      have c_o1 : w2.cell? ⟨w.heap.size, 1, none⟩ = some (Value.slice At ts.length ct) := (blk_cell HK3.out 1).trans rfl
      have f_o1 := blk_frozen HK3.out 1
      have c_z0 : w2.cell? ⟨w.heap.size + 1, 0, none⟩ = some (Value.slice none 0 0) := (blk_cell HK4.out 0).trans rfl
      have f_z0 := blk_frozen HK4.out 0
      have c_z1 : w2.cell? ⟨w.heap.size + 1, 1, none⟩ = some (Value.slice none 0 0) := (blk_cell HK4.out 1).trans rfl
      have f_z1 := blk_frozen HK4.out 1
      go_wp2_with fail
      clear c_o0 f_o0 c_o1 f_o1 c_z0 f_z0 c_z1 f_z1
      refine (HTC.out _ HB2.out).mono ?_
      rintro e w3 ⟨rfl, hb3⟩
      have HB3 := Aside0.mk (below_step (HB2.out) hb3)
      have HK5 := Aside0.mk (blk_below (HK3.out) hb3)
      have HK6 := Aside0.mk (blk_below (HK4.out) hb3)
      have HS3 := Aside0.mk hb3
      clear hb3
      have c_o0 : w3.cell? ⟨w.heap.size, 0, none⟩ = some (Value.slice As ss.length cs) := (blk_cell HK5.out 0).trans rfl
      have f_o0 := blk_frozen HK5.out 0
      have c_o1 : w3.cell? ⟨w.heap.size, 1, none⟩ = some (Value.slice At ts.length ct) := (blk_cell HK5.out 1).trans rfl
      have f_o1 := blk_frozen HK5.out 1
      have c_z0 : w3.cell? ⟨w.heap.size + 1, 0, none⟩ = some (Value.slice none 0 0) := (blk_cell HK6.out 0).trans rfl
      have f_z0 := blk_frozen HK6.out 0
      have c_z1 : w3.cell? ⟨w.heap.size + 1, 1, none⟩ = some (Value.slice none 0 0) := (blk_cell HK6.out 1).trans rfl
      have f_z1 := blk_frozen HK6.out 1
      go_wp2_with fail
      clear c_o0 f_o0 c_o1 f_o1 c_z0 f_z0 c_z1 f_z1
      refine (HNO.out _ _).mono ?_
      rintro e w4 ⟨rfl, hb4⟩
      have HB4 := Aside0.mk (below_step (HB3.out) hb4)
      have HK7 := Aside0.mk (blk_below (HK5.out) hb4)
      have HK8 := Aside0.mk (blk_below (HK6.out) hb4)
      have HS4 := Aside0.mk hb4
      clear hb4
      have c_o0 : w4.cell? ⟨w.heap.size, 0, none⟩ = some (Value.slice As ss.length cs) := (blk_cell HK7.out 0).trans rfl
      have f_o0 := blk_frozen HK7.out 0
      have c_o1 : w4.cell? ⟨w.heap.size, 1, none⟩ = some (Value.slice At ts.length ct) := (blk_cell HK7.out 1).trans rfl
      have f_o1 := blk_frozen HK7.out 1
      have c_z0 : w4.cell? ⟨w.heap.size + 1, 0, none⟩ = some (Value.slice none 0 0) := (blk_cell HK8.out 0).trans rfl
      have f_z0 := blk_frozen HK8.out 0
      have c_z1 : w4.cell? ⟨w.heap.size + 1, 1, none⟩ = some (Value.slice none 0 0) := (blk_cell HK8.out 1).trans rfl
      have f_z1 := blk_frozen HK8.out 1
      go_wp2
      refine bodyPost_ret (v := .tuple #[.agg #[.slice none 0 0, .slice none 0 0], .int .i64 62]) (by simp [results, Try.results31, go_sem, *]) rfl ?_
      exact zeroOut (g := w.heap.size + 1) (n := 62) HB4.out (by omega)
    have HQ := Aside0.mk (chg_ok (r := rDropSchR ss ts name) (ss' := ss.filter (noS name)) (ts' := ts) HK.out (by rw [HAM.out, if_neg hc]))
    clear HK HAM HNO
    go_enter Try.func31, Try.ntmps31
    have c_o0 : ((w.alloc (.cells #[Value.slice As ss.length cs, Value.slice At ts.length ct] 26)).alloc (.cells #[Value.slice none 0 0, Value.slice none 0 0] 26)).cell? ⟨w.heap.size, 0, none⟩ = some (Value.slice As ss.length cs) := (blk_cell HX0.out.2.1 0).trans rfl
    have f_o0 := blk_frozen HX0.out.2.1 0
    have c_o1 : ((w.alloc (.cells #[Value.slice As ss.length cs, Value.slice At ts.length ct] 26)).alloc (.cells #[Value.slice none 0 0, Value.slice none 0 0] 26)).cell? ⟨w.heap.size, 1, none⟩ = some (Value.slice At ts.length ct) := (blk_cell HX0.out.2.1 1).trans rfl
    have f_o1 := blk_frozen HX0.out.2.1 1
    have c_z0 : ((w.alloc (.cells #[Value.slice As ss.length cs, Value.slice At ts.length ct] 26)).alloc (.cells #[Value.slice none 0 0, Value.slice none 0 0] 26)).cell? ⟨w.heap.size + 1, 0, none⟩ = some (Value.slice none 0 0) := (blk_cell HX0.out.2.2 0).trans rfl
    have f_z0 := blk_frozen HX0.out.2.2 0
    have c_z1 : ((w.alloc (.cells #[Value.slice As ss.length cs, Value.slice At ts.length ct] 26)).alloc (.cells #[Value.slice none 0 0, Value.slice none 0 0] 26)).cell? ⟨w.heap.size + 1, 1, none⟩ = some (Value.slice none 0 0) := (blk_cell HX0.out.2.2 1).trans rfl
    have f_z1 := blk_frozen HX0.out.2.2 1
    go_wp2_with fail
    clear c_o0 f_o0 c_o1 f_o1 c_z0 f_z0 c_z1 f_z1
    refine (HCK.out _ HX0.out.1).mono ?_
    rintro e w1 ⟨rfl, hb1⟩
    have HB1 := Aside0.mk (below_step (HX0.out.1) hb1)
    have HK1 := Aside0.mk (blk_below (HX0.out.2.1) hb1)
    have HK2 := Aside0.mk (blk_below (HX0.out.2.2) hb1)
    have HS1 := Aside0.mk hb1
    clear hb1
    have c_o0 : w1.cell? ⟨w.heap.size, 0, none⟩ = some (Value.slice As ss.length cs) := (blk_cell HK1.out 0).trans rfl
    have f_o0 := blk_frozen HK1.out 0
    have c_o1 : w1.cell? ⟨w.heap.size, 1, none⟩ = some (Value.slice At ts.length ct) := (blk_cell HK1.out 1).trans rfl
    have f_o1 := blk_frozen HK1.out 1
    have c_z0 : w1.cell? ⟨w.heap.size + 1, 0, none⟩ = some (Value.slice none 0 0) := (blk_cell HK2.out 0).trans rfl
    have f_z0 := blk_frozen HK2.out 0
    have c_z1 : w1.cell? ⟨w.heap.size + 1, 1, none⟩ = some (Value.slice none 0 0) := (blk_cell HK2.out 1).trans rfl
    have f_z1 := blk_frozen HK2.out 1
    go_wp2_with fail
    clear c_o0 f_o0 c_o1 f_o1 c_z0 f_z0 c_z1 f_z1
    refine (HSC.out _ HB1.out).mono ?_
    rintro e w2 ⟨rfl, hb2⟩
    have HB2 := Aside0.mk (below_step (HB1.out) hb2)
    have HK3 := Aside0.mk (blk_below (HK1.out) hb2)
    have HK4 := Aside0.mk (blk_below (HK2.out) hb2)
    have HS2 := Aside0.mk hb2
    clear hb2
    have c_o0 : w2.cell? ⟨w.heap.size, 0, none⟩ = some (Value.slice As ss.length cs) := (blk_cell HK3.out 0).trans rfl
    have f_o0 := blk_frozen HK3.out 0
    have c_o1 : w2.cell? ⟨w.heap.size, 1, none⟩ = some (Value.slice At ts.length ct) := (blk_cell HK3.out 1).trans rfl
    have f_o1 := blk_frozen HK3.out 1
    have c_z0 : w2.cell? ⟨w.heap.size + 1, 0, none⟩ = some (Value.slice none 0 0) := (blk_cell HK4.out 0).trans rfl
    have f_z0 := blk_frozen HK4.out 0
    have c_z1 : w2.cell? ⟨w.heap.size + 1, 1, none⟩ = some (Value.slice none 0 0) := (blk_cell HK4.out 1).trans rfl
    have f_z1 := blk_frozen HK4.out 1
    go_wp2_with fail
    clear c_o0 f_o0 c_o1 f_o1 c_z0 f_z0 c_z1 f_z1
    refine (HTC.out _ HB2.out).mono ?_
    rintro e w3 ⟨rfl, hb3⟩
    have HB3 := Aside0.mk (below_step (HB2.out) hb3)
    have HK5 := Aside0.mk (blk_below (HK3.out) hb3)
    have HK6 := Aside0.mk (blk_below (HK4.out) hb3)
    have HS3 := Aside0.mk hb3
    clear hb3
    have c_o0 : w3.cell? ⟨w.heap.size, 0, none⟩ = some (Value.slice As ss.length cs) := (blk_cell HK5.out 0).trans rfl
    have f_o0 := blk_frozen HK5.out 0
    have c_o1 : w3.cell? ⟨w.heap.size, 1, none⟩ = some (Value.slice At ts.length ct) := (blk_cell HK5.out 1).trans rfl
    have f_o1 := blk_frozen HK5.out 1
    go_wp2_with fail
    clear c_o0 f_o0 c_o1 f_o1
    refine (HOW.out _ HB3.out).mono ?_
    rintro e x4 ⟨Bs, ds, Bt, dt, rfl, hR, hS, hb4⟩
    have HB4 := Aside0.mk (below_step (HB3.out) hb4)
    have HK7 := Aside0.mk (blk_below (HK5.out) hb4)
    have HK8 := Aside0.mk (blk_below (HK6.out) hb4)
    clear hb4
    have hT0 := Kd.R_alloc (Kd.S_R hS) (.cells #[Value.slice Bs ss.length ds, Value.slice Bt ts.length dt] 26)
    obtain ⟨U, he⟩ : ∃ V, V = (x4.alloc (.cells #[Value.slice Bs ss.length ds, Value.slice Bt ts.length dt] 26)) := ⟨_, rfl⟩
    have hb9 : Below x4.heap.size x4 U := by rw [he]; exact below_alloc (Below.refl _ _) _
    have UN := Aside0.mk (show U.heap[x4.heap.size]? = some (.cells #[Value.slice Bs ss.length ds, Value.slice Bt ts.length dt] 26 (0, 0)) by rw [he]; exact blk_new _ _)
    rw [← he] at hT0
    have HT0 := Aside0.mk hT0
    have HBU := Aside0.mk (below_step (HB4.out) hb9)
    have HK9 := Aside0.mk (blk_below (HK7.out) hb9)
    have HK10 := Aside0.mk (blk_below (HK8.out) hb9)
    clear hb9 hR hS hT0 HOW
    have HSU := Aside0.mk (HSS.out U HBU.out)
    go_wp2
    rw [← he]
    clear he
    go_loopw [7, 8] (fun v i w' => ∃ j : Nat, j ≤ ss.length ∧ i = .int .i64 j ∧ Aside0 (kSch.R 63 w' U.heap.size (fun _ => True) v ((ss.take j).filter (noS name)) ∧ Below U.heap.size U w')) (fun _ i _ => ss.length - (intOf i).toNat)
    case atStart => exact ⟨0, Nat.zero_le _, rfl, ⟨Kd.R_nil _ _ _ _ _, Below.refl _ _⟩⟩
    case round =>
      obtain ⟨j, hj, rfl, HJ2⟩ := hrel
      have HBq := Aside0.mk (below_step (HBU.out) HJ2.out.2)
      have HK11 := Aside0.mk (blk_below (HK9.out) HJ2.out.2)
      have HK12 := Aside0.mk (blk_below (HK10.out) HJ2.out.2)
      have HK13 := Aside0.mk (blk_below (UN.out) HJ2.out.2)
      have b3 : wr.cell? ⟨w.heap.size, 0, none⟩ = some (Value.slice As ss.length cs) := (blk_cell HK11.out 0).trans rfl
      by_cases hlt : j < ss.length
      · obtain ⟨ad2, e, r0, r1⟩ := schAt_ (Kd.C_below HSU.out HJ2.out.2) j hlt
        cases e
        have i0 : (0 : Int) ≤ (j : Int) := by omega
        have i1 : (j : Int) < (ss.length : Int) := by omega
        have HNX := Aside0.mk (filt_step (p := noS name) hlt)
        cases hp0 : (ss[j].name.toList == name.toList) with
        | true =>
          rw [show noS name ss[j] = false by unfold noS; rw [hp0]; rfl] at HNX
          go_wp2
          go_roundw
          case rel => exact ⟨j + 1, by omega, by go_num, ⟨by rw [HNX.out]; simpa using HJ2.out.1, HJ2.out.2⟩⟩
          case measure => simp [intOf]; omega
        | false =>
          rw [show noS name ss[j] = true by unfold noS; rw [hp0]; rfl] at HNX
          go_wp2_with ((at_builtin; refine Kd.R_append kSch (w0 := U) U.heap.size (by rfl) (.tmp 49) (.tmp 55) 23 63 (.agg #[(.string ⟨#[]⟩), (.string ⟨#[]⟩)]) 32 (by rfl) Try.underlying23 infoSch rfl (by decide) (by decide) _ ((ss.take j).filter (noS name)) (ss[j]) [.string ss[j].name, .string ss[j].owner] (fun _ => True) (fun _ => False) (by rfl) (by rfl) (kSch_mkM _ _ _ ss[j]) (fun _ h => h.elim) (fun _ _ => trivial) HJ2.out.1 HJ2.out.2 HJ2.out.2.size (by have := List.length_filter_le (noS name) (ss.take j); have := List.length_take_le j ss; omega) ?_; intro v3 w3 hR3 hB3 hg3 _))
          have HR3 := Aside0.mk (And.intro hR3 hB3)
          clear hR3 hB3 hg3 b3 r0 r1
          go_roundw
          case rel => exact ⟨j + 1, by omega, by go_num, ⟨by rw [HNX.out]; exact HR3.out.1, HR3.out.2⟩⟩
          case measure => simp [intOf]; omega
      obtain rfl : j = ss.length := by omega
      have hdj2 : decide (ss.length < ss.length) = false := decide_eq_false hlt
      have hv := HJ2.out.1
      rw [List.take_length] at hv
      obtain ⟨A5, c5, rfl⟩ := Kd.R_slice hv
      have HF := Aside0.mk (Out.schs HBU.out HJ2.out.2 (UN.out) (HK10.out) hv HT0.out HB3.out.size (show w.heap.size ≤ x4.heap.size from HB4.out.size) (show w.heap.size ≤ w.heap.size + 1 by omega))
      have n1 : ¬ x4.heap.size = w.heap.size + 1 := fun e => by have h1 := blk_lt HK8.out; omega
      have n2 : ¬ w.heap.size + 1 = x4.heap.size := fun e => n1 e.symm
      have c_out0 : wr.cell? ⟨x4.heap.size, 0, none⟩ = some (Value.slice Bs ss.length ds) := (blk_cell HK13.out 0).trans rfl
      have f_out0 := blk_frozen HK13.out 0
      have c_out1 : wr.cell? ⟨x4.heap.size, 1, none⟩ = some (Value.slice Bt ts.length dt) := (blk_cell HK13.out 1).trans rfl
      have f_out1 := blk_frozen HK13.out 1
      have c_z0 : wr.cell? ⟨w.heap.size + 1, 0, none⟩ = some (Value.slice none 0 0) := (blk_cell HK12.out 0).trans rfl
      have f_z0 := blk_frozen HK12.out 0
      have c_z1 : wr.cell? ⟨w.heap.size + 1, 1, none⟩ = some (Value.slice none 0 0) := (blk_cell HK12.out 1).trans rfl
      have f_z1 := blk_frozen HK12.out 1
      clear hv
      go_wp2
      refine bodyPost_ret (v := .tuple #[.agg #[.slice A5 (ss.filter (noS name)).length c5, .slice Bt ts.length dt], .int .i64 0]) (by simp [results, Try.results31, go_sem, *]) rfl ?_
      rw [HQ.out]
      exact HF.out

set_option maxRecDepth 100000 in
set_option maxHeartbeats 4000000 in
theorem rAddSchema.calls {As At : Option Addr} {cs ct : Nat} (ss : List Sch) (ts : List Tab) (name owner : ByteArray) (w : World) (hs : kSch.C w As ss.length ss) (hsl : ss.length ≤ 3000) (ht : kTab.C w At ts.length ts) (hF : TabsF ts) (hB : TabsB ts) :
    Calls Try.prog 29 #[.agg #[Value.slice As ss.length cs, Value.slice At ts.length ct], .string name, .string owner] w (Out w (addSchema ss ts name owner)) := by
  have HX0 := Aside0.mk (boxes2 w (.cells #[Value.slice As ss.length cs, Value.slice At ts.length ct] 26) (.cells #[Value.slice none 0 0, Value.slice none 0 0] 26))
  have HCK := Aside0.mk (fun W (hW : Below w.heap.size w W) => rRightAll.calls (As := As) (cs := cs) (At := At) (ct := ct) ss ts W (Kd.C_below hs hW) (by omega) (Kd.C_below ht hW) hF)
  have HOW := Aside0.mk (fun W (hW : Below w.heap.size w W) => rOwn.calls (As := As) (cs := cs) (At := At) (ct := ct) ss ts W (Kd.C_below hs hW) hsl (Kd.C_below ht hW) hB)
  have HSC := Aside0.mk (fun W (hW : Below w.heap.size w W) => rSchema.calls (c0 := cs) (At := At) (nt := ts.length) (ct := ct) name ss W (Kd.C_below hs hW) (by omega))
  have HTC := Aside0.mk (fun W (hW : Below w.heap.size w W) => rTables.calls (As := As) (ns := ss.length) (cs := cs) (c0 := ct) name ts W (Kd.C_below ht hW) (by have := hB.1; omega))
  have HSS := Aside0.mk (fun W (hW : Below w.heap.size w W) => Kd.C_below hs hW)
  have HNO := Aside0.mk (fun n W => rNo.calls n W)
  have HN1 := Aside0.mk (fun W => rName.calls name W)
  have HN2 := Aside0.mk (fun W => rName.calls owner W)
  clear hs ht hF hB
  unfold addSchema
  clear HTC
  cases hck : checkB ss ts with
  | false =>
    rw [chg_bad _ hck]
    rw [hck] at HCK
    clear hck HOW HSC HSS HN1 HN2
    go_enter Try.func29, Try.ntmps29
    have c_o0 : ((w.alloc (.cells #[Value.slice As ss.length cs, Value.slice At ts.length ct] 26)).alloc (.cells #[Value.slice none 0 0, Value.slice none 0 0] 26)).cell? ⟨w.heap.size, 0, none⟩ = some (Value.slice As ss.length cs) := (blk_cell HX0.out.2.1 0).trans rfl
    have f_o0 := blk_frozen HX0.out.2.1 0
    have c_o1 : ((w.alloc (.cells #[Value.slice As ss.length cs, Value.slice At ts.length ct] 26)).alloc (.cells #[Value.slice none 0 0, Value.slice none 0 0] 26)).cell? ⟨w.heap.size, 1, none⟩ = some (Value.slice At ts.length ct) := (blk_cell HX0.out.2.1 1).trans rfl
    have f_o1 := blk_frozen HX0.out.2.1 1
    have c_z0 : ((w.alloc (.cells #[Value.slice As ss.length cs, Value.slice At ts.length ct] 26)).alloc (.cells #[Value.slice none 0 0, Value.slice none 0 0] 26)).cell? ⟨w.heap.size + 1, 0, none⟩ = some (Value.slice none 0 0) := (blk_cell HX0.out.2.2 0).trans rfl
    have f_z0 := blk_frozen HX0.out.2.2 0
    have c_z1 : ((w.alloc (.cells #[Value.slice As ss.length cs, Value.slice At ts.length ct] 26)).alloc (.cells #[Value.slice none 0 0, Value.slice none 0 0] 26)).cell? ⟨w.heap.size + 1, 1, none⟩ = some (Value.slice none 0 0) := (blk_cell HX0.out.2.2 1).trans rfl
    have f_z1 := blk_frozen HX0.out.2.2 1
    go_wp2_with fail
    clear c_o0 f_o0 c_o1 f_o1 c_z0 f_z0 c_z1 f_z1
    refine (HCK.out _ HX0.out.1).mono ?_
    rintro e w1 ⟨rfl, hb1⟩
    have HB1 := Aside0.mk (below_step (HX0.out.1) hb1)
    have HK1 := Aside0.mk (blk_below (HX0.out.2.1) hb1)
    have HK2 := Aside0.mk (blk_below (HX0.out.2.2) hb1)
    have HS1 := Aside0.mk hb1
    clear hb1
    have c_o0 : w1.cell? ⟨w.heap.size, 0, none⟩ = some (Value.slice As ss.length cs) := (blk_cell HK1.out 0).trans rfl
    have f_o0 := blk_frozen HK1.out 0
    have c_o1 : w1.cell? ⟨w.heap.size, 1, none⟩ = some (Value.slice At ts.length ct) := (blk_cell HK1.out 1).trans rfl
    have f_o1 := blk_frozen HK1.out 1
    have c_z0 : w1.cell? ⟨w.heap.size + 1, 0, none⟩ = some (Value.slice none 0 0) := (blk_cell HK2.out 0).trans rfl
    have f_z0 := blk_frozen HK2.out 0
    have c_z1 : w1.cell? ⟨w.heap.size + 1, 1, none⟩ = some (Value.slice none 0 0) := (blk_cell HK2.out 1).trans rfl
    have f_z1 := blk_frozen HK2.out 1
    go_wp2_with fail
    clear c_o0 f_o0 c_o1 f_o1 c_z0 f_z0 c_z1 f_z1
    refine (HNO.out _ _).mono ?_
    rintro e w2 ⟨rfl, hb2⟩
    have HB2 := Aside0.mk (below_step (HB1.out) hb2)
    have HK3 := Aside0.mk (blk_below (HK1.out) hb2)
    have HK4 := Aside0.mk (blk_below (HK2.out) hb2)
    have HS2 := Aside0.mk hb2
    clear hb2
    have c_o0 : w2.cell? ⟨w.heap.size, 0, none⟩ = some (Value.slice As ss.length cs) := (blk_cell HK3.out 0).trans rfl
    have f_o0 := blk_frozen HK3.out 0
    have c_o1 : w2.cell? ⟨w.heap.size, 1, none⟩ = some (Value.slice At ts.length ct) := (blk_cell HK3.out 1).trans rfl
    have f_o1 := blk_frozen HK3.out 1
    have c_z0 : w2.cell? ⟨w.heap.size + 1, 0, none⟩ = some (Value.slice none 0 0) := (blk_cell HK4.out 0).trans rfl
    have f_z0 := blk_frozen HK4.out 0
    have c_z1 : w2.cell? ⟨w.heap.size + 1, 1, none⟩ = some (Value.slice none 0 0) := (blk_cell HK4.out 1).trans rfl
    have f_z1 := blk_frozen HK4.out 1
    go_wp2
    refine bodyPost_ret (v := .tuple #[.agg #[.slice none 0 0, .slice none 0 0], .int .i64 63]) (by simp [results, Try.results29, go_sem, *]) rfl ?_
    exact zeroOut (g := w.heap.size + 1) (n := 63) HB2.out (by omega)
  | true =>
    have HK := Aside0.mk hck
    rw [hck] at HCK
    clear hck
    cases h1 : nameB name with
    | false =>
      rw [chg_at (n := 1) HK.out (by unfold addSchR; rw [h1]; rfl)]
      rw [h1] at HN1
      clear h1 HOW HSC HSS HN2 HK
      go_enter Try.func29, Try.ntmps29
      have c_o0 : ((w.alloc (.cells #[Value.slice As ss.length cs, Value.slice At ts.length ct] 26)).alloc (.cells #[Value.slice none 0 0, Value.slice none 0 0] 26)).cell? ⟨w.heap.size, 0, none⟩ = some (Value.slice As ss.length cs) := (blk_cell HX0.out.2.1 0).trans rfl
      have f_o0 := blk_frozen HX0.out.2.1 0
      have c_o1 : ((w.alloc (.cells #[Value.slice As ss.length cs, Value.slice At ts.length ct] 26)).alloc (.cells #[Value.slice none 0 0, Value.slice none 0 0] 26)).cell? ⟨w.heap.size, 1, none⟩ = some (Value.slice At ts.length ct) := (blk_cell HX0.out.2.1 1).trans rfl
      have f_o1 := blk_frozen HX0.out.2.1 1
      have c_z0 : ((w.alloc (.cells #[Value.slice As ss.length cs, Value.slice At ts.length ct] 26)).alloc (.cells #[Value.slice none 0 0, Value.slice none 0 0] 26)).cell? ⟨w.heap.size + 1, 0, none⟩ = some (Value.slice none 0 0) := (blk_cell HX0.out.2.2 0).trans rfl
      have f_z0 := blk_frozen HX0.out.2.2 0
      have c_z1 : ((w.alloc (.cells #[Value.slice As ss.length cs, Value.slice At ts.length ct] 26)).alloc (.cells #[Value.slice none 0 0, Value.slice none 0 0] 26)).cell? ⟨w.heap.size + 1, 1, none⟩ = some (Value.slice none 0 0) := (blk_cell HX0.out.2.2 1).trans rfl
      have f_z1 := blk_frozen HX0.out.2.2 1
      go_wp2_with fail
      clear c_o0 f_o0 c_o1 f_o1 c_z0 f_z0 c_z1 f_z1
      refine (HCK.out _ HX0.out.1).mono ?_
      rintro e w1 ⟨rfl, hb1⟩
      have HB1 := Aside0.mk (below_step (HX0.out.1) hb1)
      have HK1 := Aside0.mk (blk_below (HX0.out.2.1) hb1)
      have HK2 := Aside0.mk (blk_below (HX0.out.2.2) hb1)
      have HS1 := Aside0.mk hb1
      clear hb1
      have c_o0 : w1.cell? ⟨w.heap.size, 0, none⟩ = some (Value.slice As ss.length cs) := (blk_cell HK1.out 0).trans rfl
      have f_o0 := blk_frozen HK1.out 0
      have c_o1 : w1.cell? ⟨w.heap.size, 1, none⟩ = some (Value.slice At ts.length ct) := (blk_cell HK1.out 1).trans rfl
      have f_o1 := blk_frozen HK1.out 1
      have c_z0 : w1.cell? ⟨w.heap.size + 1, 0, none⟩ = some (Value.slice none 0 0) := (blk_cell HK2.out 0).trans rfl
      have f_z0 := blk_frozen HK2.out 0
      have c_z1 : w1.cell? ⟨w.heap.size + 1, 1, none⟩ = some (Value.slice none 0 0) := (blk_cell HK2.out 1).trans rfl
      have f_z1 := blk_frozen HK2.out 1
      go_wp2_with fail
      clear c_o0 f_o0 c_o1 f_o1 c_z0 f_z0 c_z1 f_z1
      refine (HN1.out _).mono ?_
      rintro e w_ ⟨rfl, rfl⟩
      have c_o0 : w1.cell? ⟨w.heap.size, 0, none⟩ = some (Value.slice As ss.length cs) := (blk_cell HK1.out 0).trans rfl
      have f_o0 := blk_frozen HK1.out 0
      have c_o1 : w1.cell? ⟨w.heap.size, 1, none⟩ = some (Value.slice At ts.length ct) := (blk_cell HK1.out 1).trans rfl
      have f_o1 := blk_frozen HK1.out 1
      have c_z0 : w1.cell? ⟨w.heap.size + 1, 0, none⟩ = some (Value.slice none 0 0) := (blk_cell HK2.out 0).trans rfl
      have f_z0 := blk_frozen HK2.out 0
      have c_z1 : w1.cell? ⟨w.heap.size + 1, 1, none⟩ = some (Value.slice none 0 0) := (blk_cell HK2.out 1).trans rfl
      have f_z1 := blk_frozen HK2.out 1
      go_wp2_with fail
      clear c_o0 f_o0 c_o1 f_o1 c_z0 f_z0 c_z1 f_z1
      refine (HNO.out _ _).mono ?_
      rintro e w2 ⟨rfl, hb2⟩
      have HB2 := Aside0.mk (below_step (HB1.out) hb2)
      have HK3 := Aside0.mk (blk_below (HK1.out) hb2)
      have HK4 := Aside0.mk (blk_below (HK2.out) hb2)
      have HS2 := Aside0.mk hb2
      clear hb2
      have c_o0 : w2.cell? ⟨w.heap.size, 0, none⟩ = some (Value.slice As ss.length cs) := (blk_cell HK3.out 0).trans rfl
      have f_o0 := blk_frozen HK3.out 0
      have c_o1 : w2.cell? ⟨w.heap.size, 1, none⟩ = some (Value.slice At ts.length ct) := (blk_cell HK3.out 1).trans rfl
      have f_o1 := blk_frozen HK3.out 1
      have c_z0 : w2.cell? ⟨w.heap.size + 1, 0, none⟩ = some (Value.slice none 0 0) := (blk_cell HK4.out 0).trans rfl
      have f_z0 := blk_frozen HK4.out 0
      have c_z1 : w2.cell? ⟨w.heap.size + 1, 1, none⟩ = some (Value.slice none 0 0) := (blk_cell HK4.out 1).trans rfl
      have f_z1 := blk_frozen HK4.out 1
      go_wp2
      refine bodyPost_ret (v := .tuple #[.agg #[.slice none 0 0, .slice none 0 0], .int .i64 1]) (by simp [results, Try.results29, go_sem, *]) rfl ?_
      exact zeroOut (g := w.heap.size + 1) (n := 1) HB2.out (by omega)
    | true =>
    rw [h1] at HN1
    cases h2 : nameB owner with
    | false =>
      rw [chg_at (n := 1) HK.out (by unfold addSchR; rw [h1, h2]; rfl)]
      rw [h2] at HN2
      clear h1 h2 HOW HSC HSS HK
      go_enter Try.func29, Try.ntmps29
      have c_o0 : ((w.alloc (.cells #[Value.slice As ss.length cs, Value.slice At ts.length ct] 26)).alloc (.cells #[Value.slice none 0 0, Value.slice none 0 0] 26)).cell? ⟨w.heap.size, 0, none⟩ = some (Value.slice As ss.length cs) := (blk_cell HX0.out.2.1 0).trans rfl
      have f_o0 := blk_frozen HX0.out.2.1 0
      have c_o1 : ((w.alloc (.cells #[Value.slice As ss.length cs, Value.slice At ts.length ct] 26)).alloc (.cells #[Value.slice none 0 0, Value.slice none 0 0] 26)).cell? ⟨w.heap.size, 1, none⟩ = some (Value.slice At ts.length ct) := (blk_cell HX0.out.2.1 1).trans rfl
      have f_o1 := blk_frozen HX0.out.2.1 1
      have c_z0 : ((w.alloc (.cells #[Value.slice As ss.length cs, Value.slice At ts.length ct] 26)).alloc (.cells #[Value.slice none 0 0, Value.slice none 0 0] 26)).cell? ⟨w.heap.size + 1, 0, none⟩ = some (Value.slice none 0 0) := (blk_cell HX0.out.2.2 0).trans rfl
      have f_z0 := blk_frozen HX0.out.2.2 0
      have c_z1 : ((w.alloc (.cells #[Value.slice As ss.length cs, Value.slice At ts.length ct] 26)).alloc (.cells #[Value.slice none 0 0, Value.slice none 0 0] 26)).cell? ⟨w.heap.size + 1, 1, none⟩ = some (Value.slice none 0 0) := (blk_cell HX0.out.2.2 1).trans rfl
      have f_z1 := blk_frozen HX0.out.2.2 1
      go_wp2_with fail
      clear c_o0 f_o0 c_o1 f_o1 c_z0 f_z0 c_z1 f_z1
      refine (HCK.out _ HX0.out.1).mono ?_
      rintro e w1 ⟨rfl, hb1⟩
      have HB1 := Aside0.mk (below_step (HX0.out.1) hb1)
      have HK1 := Aside0.mk (blk_below (HX0.out.2.1) hb1)
      have HK2 := Aside0.mk (blk_below (HX0.out.2.2) hb1)
      have HS1 := Aside0.mk hb1
      clear hb1
      have c_o0 : w1.cell? ⟨w.heap.size, 0, none⟩ = some (Value.slice As ss.length cs) := (blk_cell HK1.out 0).trans rfl
      have f_o0 := blk_frozen HK1.out 0
      have c_o1 : w1.cell? ⟨w.heap.size, 1, none⟩ = some (Value.slice At ts.length ct) := (blk_cell HK1.out 1).trans rfl
      have f_o1 := blk_frozen HK1.out 1
      have c_z0 : w1.cell? ⟨w.heap.size + 1, 0, none⟩ = some (Value.slice none 0 0) := (blk_cell HK2.out 0).trans rfl
      have f_z0 := blk_frozen HK2.out 0
      have c_z1 : w1.cell? ⟨w.heap.size + 1, 1, none⟩ = some (Value.slice none 0 0) := (blk_cell HK2.out 1).trans rfl
      have f_z1 := blk_frozen HK2.out 1
      go_wp2_with fail
      clear c_o0 f_o0 c_o1 f_o1 c_z0 f_z0 c_z1 f_z1
      refine (HN1.out _).mono ?_
      rintro e w_ ⟨rfl, rfl⟩
      have c_o0 : w1.cell? ⟨w.heap.size, 0, none⟩ = some (Value.slice As ss.length cs) := (blk_cell HK1.out 0).trans rfl
      have f_o0 := blk_frozen HK1.out 0
      have c_o1 : w1.cell? ⟨w.heap.size, 1, none⟩ = some (Value.slice At ts.length ct) := (blk_cell HK1.out 1).trans rfl
      have f_o1 := blk_frozen HK1.out 1
      have c_z0 : w1.cell? ⟨w.heap.size + 1, 0, none⟩ = some (Value.slice none 0 0) := (blk_cell HK2.out 0).trans rfl
      have f_z0 := blk_frozen HK2.out 0
      have c_z1 : w1.cell? ⟨w.heap.size + 1, 1, none⟩ = some (Value.slice none 0 0) := (blk_cell HK2.out 1).trans rfl
      have f_z1 := blk_frozen HK2.out 1
      go_wp2_with fail
      clear c_o0 f_o0 c_o1 f_o1 c_z0 f_z0 c_z1 f_z1
      refine (HN2.out _).mono ?_
      rintro e w_ ⟨rfl, rfl⟩
      have c_o0 : w1.cell? ⟨w.heap.size, 0, none⟩ = some (Value.slice As ss.length cs) := (blk_cell HK1.out 0).trans rfl
      have f_o0 := blk_frozen HK1.out 0
      have c_o1 : w1.cell? ⟨w.heap.size, 1, none⟩ = some (Value.slice At ts.length ct) := (blk_cell HK1.out 1).trans rfl
      have f_o1 := blk_frozen HK1.out 1
      have c_z0 : w1.cell? ⟨w.heap.size + 1, 0, none⟩ = some (Value.slice none 0 0) := (blk_cell HK2.out 0).trans rfl
      have f_z0 := blk_frozen HK2.out 0
      have c_z1 : w1.cell? ⟨w.heap.size + 1, 1, none⟩ = some (Value.slice none 0 0) := (blk_cell HK2.out 1).trans rfl
      have f_z1 := blk_frozen HK2.out 1
      go_wp2_with fail
      clear c_o0 f_o0 c_o1 f_o1 c_z0 f_z0 c_z1 f_z1
      refine (HNO.out _ _).mono ?_
      rintro e w2 ⟨rfl, hb2⟩
      have HB2 := Aside0.mk (below_step (HB1.out) hb2)
      have HK3 := Aside0.mk (blk_below (HK1.out) hb2)
      have HK4 := Aside0.mk (blk_below (HK2.out) hb2)
      have HS2 := Aside0.mk hb2
      clear hb2
      have c_o0 : w2.cell? ⟨w.heap.size, 0, none⟩ = some (Value.slice As ss.length cs) := (blk_cell HK3.out 0).trans rfl
      have f_o0 := blk_frozen HK3.out 0
      have c_o1 : w2.cell? ⟨w.heap.size, 1, none⟩ = some (Value.slice At ts.length ct) := (blk_cell HK3.out 1).trans rfl
      have f_o1 := blk_frozen HK3.out 1
      have c_z0 : w2.cell? ⟨w.heap.size + 1, 0, none⟩ = some (Value.slice none 0 0) := (blk_cell HK4.out 0).trans rfl
      have f_z0 := blk_frozen HK4.out 0
      have c_z1 : w2.cell? ⟨w.heap.size + 1, 1, none⟩ = some (Value.slice none 0 0) := (blk_cell HK4.out 1).trans rfl
      have f_z1 := blk_frozen HK4.out 1
      go_wp2
      refine bodyPost_ret (v := .tuple #[.agg #[.slice none 0 0, .slice none 0 0], .int .i64 1]) (by simp [results, Try.results29, go_sem, *]) rfl ?_
      exact zeroOut (g := w.heap.size + 1) (n := 1) HB2.out (by omega)
    | true =>
    have HE0 := Aside0.mk (show addSchR ss ts name owner = (if 0 ≤ idx (sameS name) ss then (60, [], []) else if 8 ≤ ss.length then (2, [], []) else (0, ins (ltOf cfS) ⟨name, owner⟩ ss, ts)) by unfold addSchR; rw [h1, h2]; rfl)
    rw [h2] at HN2
    clear h1 h2
    rcases idx_cases (sameS name) ss with ⟨m, hm, hi, y1, y2⟩ | ⟨hi, y1⟩
    · rw [chg_at (n := 60) HK.out (by rw [HE0.out, hi, if_pos (by omega)])]
      rw [show idx (fun x : Sch => x.name.toList == name.toList) ss = (m : Int) from hi] at HSC
      have hd : decide ((0 : Int) ≤ (m : Int)) = true := decide_eq_true (by omega)
      clear hm hi y1 y2 HE0 HOW HSS HK
      go_enter Try.func29, Try.ntmps29
      have c_o0 : ((w.alloc (.cells #[Value.slice As ss.length cs, Value.slice At ts.length ct] 26)).alloc (.cells #[Value.slice none 0 0, Value.slice none 0 0] 26)).cell? ⟨w.heap.size, 0, none⟩ = some (Value.slice As ss.length cs) := (blk_cell HX0.out.2.1 0).trans rfl
      have f_o0 := blk_frozen HX0.out.2.1 0
      have c_o1 : ((w.alloc (.cells #[Value.slice As ss.length cs, Value.slice At ts.length ct] 26)).alloc (.cells #[Value.slice none 0 0, Value.slice none 0 0] 26)).cell? ⟨w.heap.size, 1, none⟩ = some (Value.slice At ts.length ct) := (blk_cell HX0.out.2.1 1).trans rfl
      have f_o1 := blk_frozen HX0.out.2.1 1
      have c_z0 : ((w.alloc (.cells #[Value.slice As ss.length cs, Value.slice At ts.length ct] 26)).alloc (.cells #[Value.slice none 0 0, Value.slice none 0 0] 26)).cell? ⟨w.heap.size + 1, 0, none⟩ = some (Value.slice none 0 0) := (blk_cell HX0.out.2.2 0).trans rfl
      have f_z0 := blk_frozen HX0.out.2.2 0
      have c_z1 : ((w.alloc (.cells #[Value.slice As ss.length cs, Value.slice At ts.length ct] 26)).alloc (.cells #[Value.slice none 0 0, Value.slice none 0 0] 26)).cell? ⟨w.heap.size + 1, 1, none⟩ = some (Value.slice none 0 0) := (blk_cell HX0.out.2.2 1).trans rfl
      have f_z1 := blk_frozen HX0.out.2.2 1
      go_wp2_with fail
      clear c_o0 f_o0 c_o1 f_o1 c_z0 f_z0 c_z1 f_z1
      refine (HCK.out _ HX0.out.1).mono ?_
      rintro e w1 ⟨rfl, hb1⟩
      have HB1 := Aside0.mk (below_step (HX0.out.1) hb1)
      have HK1 := Aside0.mk (blk_below (HX0.out.2.1) hb1)
      have HK2 := Aside0.mk (blk_below (HX0.out.2.2) hb1)
      have HS1 := Aside0.mk hb1
      clear hb1
      have c_o0 : w1.cell? ⟨w.heap.size, 0, none⟩ = some (Value.slice As ss.length cs) := (blk_cell HK1.out 0).trans rfl
      have f_o0 := blk_frozen HK1.out 0
      have c_o1 : w1.cell? ⟨w.heap.size, 1, none⟩ = some (Value.slice At ts.length ct) := (blk_cell HK1.out 1).trans rfl
      have f_o1 := blk_frozen HK1.out 1
      have c_z0 : w1.cell? ⟨w.heap.size + 1, 0, none⟩ = some (Value.slice none 0 0) := (blk_cell HK2.out 0).trans rfl
      have f_z0 := blk_frozen HK2.out 0
      have c_z1 : w1.cell? ⟨w.heap.size + 1, 1, none⟩ = some (Value.slice none 0 0) := (blk_cell HK2.out 1).trans rfl
      have f_z1 := blk_frozen HK2.out 1
      go_wp2_with fail
      clear c_o0 f_o0 c_o1 f_o1 c_z0 f_z0 c_z1 f_z1
      refine (HN1.out _).mono ?_
      rintro e w_ ⟨rfl, rfl⟩
      have c_o0 : w1.cell? ⟨w.heap.size, 0, none⟩ = some (Value.slice As ss.length cs) := (blk_cell HK1.out 0).trans rfl
      have f_o0 := blk_frozen HK1.out 0
      have c_o1 : w1.cell? ⟨w.heap.size, 1, none⟩ = some (Value.slice At ts.length ct) := (blk_cell HK1.out 1).trans rfl
      have f_o1 := blk_frozen HK1.out 1
      have c_z0 : w1.cell? ⟨w.heap.size + 1, 0, none⟩ = some (Value.slice none 0 0) := (blk_cell HK2.out 0).trans rfl
      have f_z0 := blk_frozen HK2.out 0
      have c_z1 : w1.cell? ⟨w.heap.size + 1, 1, none⟩ = some (Value.slice none 0 0) := (blk_cell HK2.out 1).trans rfl
      have f_z1 := blk_frozen HK2.out 1
      go_wp2_with fail
      clear c_o0 f_o0 c_o1 f_o1 c_z0 f_z0 c_z1 f_z1
      refine (HN2.out _).mono ?_
      rintro e w_ ⟨rfl, rfl⟩
      have c_o0 : w1.cell? ⟨w.heap.size, 0, none⟩ = some (Value.slice As ss.length cs) := (blk_cell HK1.out 0).trans rfl
      have f_o0 := blk_frozen HK1.out 0
      have c_o1 : w1.cell? ⟨w.heap.size, 1, none⟩ = some (Value.slice At ts.length ct) := (blk_cell HK1.out 1).trans rfl
      have f_o1 := blk_frozen HK1.out 1
      have c_z0 : w1.cell? ⟨w.heap.size + 1, 0, none⟩ = some (Value.slice none 0 0) := (blk_cell HK2.out 0).trans rfl
      have f_z0 := blk_frozen HK2.out 0
      have c_z1 : w1.cell? ⟨w.heap.size + 1, 1, none⟩ = some (Value.slice none 0 0) := (blk_cell HK2.out 1).trans rfl
      have f_z1 := blk_frozen HK2.out 1
      go_wp2_with fail
      clear c_o0 f_o0 c_o1 f_o1 c_z0 f_z0 c_z1 f_z1
      refine (HSC.out _ HB1.out).mono ?_
      rintro e w2 ⟨rfl, hb2⟩
      have HB2 := Aside0.mk (below_step (HB1.out) hb2)
      have HK3 := Aside0.mk (blk_below (HK1.out) hb2)
      have HK4 := Aside0.mk (blk_below (HK2.out) hb2)
      have HS2 := Aside0.mk hb2
      clear hb2
      have c_o0 : w2.cell? ⟨w.heap.size, 0, none⟩ = some (Value.slice As ss.length cs) := (blk_cell HK3.out 0).trans rfl
      have f_o0 := blk_frozen HK3.out 0
      have c_o1 : w2.cell? ⟨w.heap.size, 1, none⟩ = some (Value.slice At ts.length ct) := (blk_cell HK3.out 1).trans rfl
      have f_o1 := blk_frozen HK3.out 1
      have c_z0 : w2.cell? ⟨w.heap.size + 1, 0, none⟩ = some (Value.slice none 0 0) := (blk_cell HK4.out 0).trans rfl
      have f_z0 := blk_frozen HK4.out 0
      have c_z1 : w2.cell? ⟨w.heap.size + 1, 1, none⟩ = some (Value.slice none 0 0) := (blk_cell HK4.out 1).trans rfl
      have f_z1 := blk_frozen HK4.out 1
      go_wp2_with fail
      clear c_o0 f_o0 c_o1 f_o1 c_z0 f_z0 c_z1 f_z1
      refine (HNO.out _ _).mono ?_
      rintro e w3 ⟨rfl, hb3⟩
      have HB3 := Aside0.mk (below_step (HB2.out) hb3)
      have HK5 := Aside0.mk (blk_below (HK3.out) hb3)
      have HK6 := Aside0.mk (blk_below (HK4.out) hb3)
      have HS3 := Aside0.mk hb3
      clear hb3
      have c_o0 : w3.cell? ⟨w.heap.size, 0, none⟩ = some (Value.slice As ss.length cs) := (blk_cell HK5.out 0).trans rfl
      have f_o0 := blk_frozen HK5.out 0
      have c_o1 : w3.cell? ⟨w.heap.size, 1, none⟩ = some (Value.slice At ts.length ct) := (blk_cell HK5.out 1).trans rfl
      have f_o1 := blk_frozen HK5.out 1
      have c_z0 : w3.cell? ⟨w.heap.size + 1, 0, none⟩ = some (Value.slice none 0 0) := (blk_cell HK6.out 0).trans rfl
      have f_z0 := blk_frozen HK6.out 0
      have c_z1 : w3.cell? ⟨w.heap.size + 1, 1, none⟩ = some (Value.slice none 0 0) := (blk_cell HK6.out 1).trans rfl
      have f_z1 := blk_frozen HK6.out 1
      go_wp2
      refine bodyPost_ret (v := .tuple #[.agg #[.slice none 0 0, .slice none 0 0], .int .i64 60]) (by simp [results, Try.results29, go_sem, *]) rfl ?_
      exact zeroOut (g := w.heap.size + 1) (n := 60) HB3.out (by omega)
    rw [show idx (fun x : Sch => x.name.toList == name.toList) ss = -1 from hi] at HSC
    have hd : decide ((0 : Int) ≤ -1) = false := rfl
    by_cases h8 : 8 ≤ ss.length
    · rw [chg_at (n := 2) HK.out (by rw [HE0.out, hi, if_neg (by omega), if_pos h8])]
      have hd8 : decide ((8 : Int) ≤ (ss.length : Int)) = true := decide_eq_true (by omega)
      clear hi y1 HE0 HOW HSS HK
      go_enter Try.func29, Try.ntmps29
      have c_o0 : ((w.alloc (.cells #[Value.slice As ss.length cs, Value.slice At ts.length ct] 26)).alloc (.cells #[Value.slice none 0 0, Value.slice none 0 0] 26)).cell? ⟨w.heap.size, 0, none⟩ = some (Value.slice As ss.length cs) := (blk_cell HX0.out.2.1 0).trans rfl
      have f_o0 := blk_frozen HX0.out.2.1 0
      have c_o1 : ((w.alloc (.cells #[Value.slice As ss.length cs, Value.slice At ts.length ct] 26)).alloc (.cells #[Value.slice none 0 0, Value.slice none 0 0] 26)).cell? ⟨w.heap.size, 1, none⟩ = some (Value.slice At ts.length ct) := (blk_cell HX0.out.2.1 1).trans rfl
      have f_o1 := blk_frozen HX0.out.2.1 1
      have c_z0 : ((w.alloc (.cells #[Value.slice As ss.length cs, Value.slice At ts.length ct] 26)).alloc (.cells #[Value.slice none 0 0, Value.slice none 0 0] 26)).cell? ⟨w.heap.size + 1, 0, none⟩ = some (Value.slice none 0 0) := (blk_cell HX0.out.2.2 0).trans rfl
      have f_z0 := blk_frozen HX0.out.2.2 0
      have c_z1 : ((w.alloc (.cells #[Value.slice As ss.length cs, Value.slice At ts.length ct] 26)).alloc (.cells #[Value.slice none 0 0, Value.slice none 0 0] 26)).cell? ⟨w.heap.size + 1, 1, none⟩ = some (Value.slice none 0 0) := (blk_cell HX0.out.2.2 1).trans rfl
      have f_z1 := blk_frozen HX0.out.2.2 1
      go_wp2_with fail
      clear c_o0 f_o0 c_o1 f_o1 c_z0 f_z0 c_z1 f_z1
      refine (HCK.out _ HX0.out.1).mono ?_
      rintro e w1 ⟨rfl, hb1⟩
      have HB1 := Aside0.mk (below_step (HX0.out.1) hb1)
      have HK1 := Aside0.mk (blk_below (HX0.out.2.1) hb1)
      have HK2 := Aside0.mk (blk_below (HX0.out.2.2) hb1)
      have HS1 := Aside0.mk hb1
      clear hb1
      have c_o0 : w1.cell? ⟨w.heap.size, 0, none⟩ = some (Value.slice As ss.length cs) := (blk_cell HK1.out 0).trans rfl
      have f_o0 := blk_frozen HK1.out 0
      have c_o1 : w1.cell? ⟨w.heap.size, 1, none⟩ = some (Value.slice At ts.length ct) := (blk_cell HK1.out 1).trans rfl
      have f_o1 := blk_frozen HK1.out 1
      have c_z0 : w1.cell? ⟨w.heap.size + 1, 0, none⟩ = some (Value.slice none 0 0) := (blk_cell HK2.out 0).trans rfl
      have f_z0 := blk_frozen HK2.out 0
      have c_z1 : w1.cell? ⟨w.heap.size + 1, 1, none⟩ = some (Value.slice none 0 0) := (blk_cell HK2.out 1).trans rfl
      have f_z1 := blk_frozen HK2.out 1
      go_wp2_with fail
      clear c_o0 f_o0 c_o1 f_o1 c_z0 f_z0 c_z1 f_z1
      refine (HN1.out _).mono ?_
      rintro e w_ ⟨rfl, rfl⟩
      have c_o0 : w1.cell? ⟨w.heap.size, 0, none⟩ = some (Value.slice As ss.length cs) := (blk_cell HK1.out 0).trans rfl
      have f_o0 := blk_frozen HK1.out 0
      have c_o1 : w1.cell? ⟨w.heap.size, 1, none⟩ = some (Value.slice At ts.length ct) := (blk_cell HK1.out 1).trans rfl
      have f_o1 := blk_frozen HK1.out 1
      have c_z0 : w1.cell? ⟨w.heap.size + 1, 0, none⟩ = some (Value.slice none 0 0) := (blk_cell HK2.out 0).trans rfl
      have f_z0 := blk_frozen HK2.out 0
      have c_z1 : w1.cell? ⟨w.heap.size + 1, 1, none⟩ = some (Value.slice none 0 0) := (blk_cell HK2.out 1).trans rfl
      have f_z1 := blk_frozen HK2.out 1
      go_wp2_with fail
      clear c_o0 f_o0 c_o1 f_o1 c_z0 f_z0 c_z1 f_z1
      refine (HN2.out _).mono ?_
      rintro e w_ ⟨rfl, rfl⟩
      have c_o0 : w1.cell? ⟨w.heap.size, 0, none⟩ = some (Value.slice As ss.length cs) := (blk_cell HK1.out 0).trans rfl
      have f_o0 := blk_frozen HK1.out 0
      have c_o1 : w1.cell? ⟨w.heap.size, 1, none⟩ = some (Value.slice At ts.length ct) := (blk_cell HK1.out 1).trans rfl
      have f_o1 := blk_frozen HK1.out 1
      have c_z0 : w1.cell? ⟨w.heap.size + 1, 0, none⟩ = some (Value.slice none 0 0) := (blk_cell HK2.out 0).trans rfl
      have f_z0 := blk_frozen HK2.out 0
      have c_z1 : w1.cell? ⟨w.heap.size + 1, 1, none⟩ = some (Value.slice none 0 0) := (blk_cell HK2.out 1).trans rfl
      have f_z1 := blk_frozen HK2.out 1
      go_wp2_with fail
      clear c_o0 f_o0 c_o1 f_o1 c_z0 f_z0 c_z1 f_z1
      refine (HSC.out _ HB1.out).mono ?_
      rintro e w2 ⟨rfl, hb2⟩
      have HB2 := Aside0.mk (below_step (HB1.out) hb2)
      have HK3 := Aside0.mk (blk_below (HK1.out) hb2)
      have HK4 := Aside0.mk (blk_below (HK2.out) hb2)
      have HS2 := Aside0.mk hb2
      clear hb2
      have c_o0 : w2.cell? ⟨w.heap.size, 0, none⟩ = some (Value.slice As ss.length cs) := (blk_cell HK3.out 0).trans rfl
      have f_o0 := blk_frozen HK3.out 0
      have c_o1 : w2.cell? ⟨w.heap.size, 1, none⟩ = some (Value.slice At ts.length ct) := (blk_cell HK3.out 1).trans rfl
      have f_o1 := blk_frozen HK3.out 1
      have c_z0 : w2.cell? ⟨w.heap.size + 1, 0, none⟩ = some (Value.slice none 0 0) := (blk_cell HK4.out 0).trans rfl
      have f_z0 := blk_frozen HK4.out 0
      have c_z1 : w2.cell? ⟨w.heap.size + 1, 1, none⟩ = some (Value.slice none 0 0) := (blk_cell HK4.out 1).trans rfl
      have f_z1 := blk_frozen HK4.out 1
      go_wp2_with fail
      clear c_o0 f_o0 c_o1 f_o1 c_z0 f_z0 c_z1 f_z1
      refine (HNO.out _ _).mono ?_
      rintro e w3 ⟨rfl, hb3⟩
      have HB3 := Aside0.mk (below_step (HB2.out) hb3)
      have HK5 := Aside0.mk (blk_below (HK3.out) hb3)
      have HK6 := Aside0.mk (blk_below (HK4.out) hb3)
      have HS3 := Aside0.mk hb3
      clear hb3
      have c_o0 : w3.cell? ⟨w.heap.size, 0, none⟩ = some (Value.slice As ss.length cs) := (blk_cell HK5.out 0).trans rfl
      have f_o0 := blk_frozen HK5.out 0
      have c_o1 : w3.cell? ⟨w.heap.size, 1, none⟩ = some (Value.slice At ts.length ct) := (blk_cell HK5.out 1).trans rfl
      have f_o1 := blk_frozen HK5.out 1
      have c_z0 : w3.cell? ⟨w.heap.size + 1, 0, none⟩ = some (Value.slice none 0 0) := (blk_cell HK6.out 0).trans rfl
      have f_z0 := blk_frozen HK6.out 0
      have c_z1 : w3.cell? ⟨w.heap.size + 1, 1, none⟩ = some (Value.slice none 0 0) := (blk_cell HK6.out 1).trans rfl
      have f_z1 := blk_frozen HK6.out 1
      go_wp2
      refine bodyPost_ret (v := .tuple #[.agg #[.slice none 0 0, .slice none 0 0], .int .i64 2]) (by simp [results, Try.results29, go_sem, *]) rfl ?_
      exact zeroOut (g := w.heap.size + 1) (n := 2) HB3.out (by omega)
    have HQ := Aside0.mk (chg_ok (r := addSchR ss ts name owner) (ss' := ins (ltOf cfS) ⟨name, owner⟩ ss) (ts' := ts) HK.out (by rw [HE0.out, hi, if_neg (by omega), if_neg h8]))
    have hd8 : decide ((8 : Int) ≤ (ss.length : Int)) = false := decide_eq_false (by omega)
    clear hi y1 HE0 HK HNO
    go_enter Try.func29, Try.ntmps29
    have c_o0 : ((w.alloc (.cells #[Value.slice As ss.length cs, Value.slice At ts.length ct] 26)).alloc (.cells #[Value.slice none 0 0, Value.slice none 0 0] 26)).cell? ⟨w.heap.size, 0, none⟩ = some (Value.slice As ss.length cs) := (blk_cell HX0.out.2.1 0).trans rfl
    have f_o0 := blk_frozen HX0.out.2.1 0
    have c_o1 : ((w.alloc (.cells #[Value.slice As ss.length cs, Value.slice At ts.length ct] 26)).alloc (.cells #[Value.slice none 0 0, Value.slice none 0 0] 26)).cell? ⟨w.heap.size, 1, none⟩ = some (Value.slice At ts.length ct) := (blk_cell HX0.out.2.1 1).trans rfl
    have f_o1 := blk_frozen HX0.out.2.1 1
    have c_z0 : ((w.alloc (.cells #[Value.slice As ss.length cs, Value.slice At ts.length ct] 26)).alloc (.cells #[Value.slice none 0 0, Value.slice none 0 0] 26)).cell? ⟨w.heap.size + 1, 0, none⟩ = some (Value.slice none 0 0) := (blk_cell HX0.out.2.2 0).trans rfl
    have f_z0 := blk_frozen HX0.out.2.2 0
    have c_z1 : ((w.alloc (.cells #[Value.slice As ss.length cs, Value.slice At ts.length ct] 26)).alloc (.cells #[Value.slice none 0 0, Value.slice none 0 0] 26)).cell? ⟨w.heap.size + 1, 1, none⟩ = some (Value.slice none 0 0) := (blk_cell HX0.out.2.2 1).trans rfl
    have f_z1 := blk_frozen HX0.out.2.2 1
    go_wp2_with fail
    clear c_o0 f_o0 c_o1 f_o1 c_z0 f_z0 c_z1 f_z1
    refine (HCK.out _ HX0.out.1).mono ?_
    rintro e w1 ⟨rfl, hb1⟩
    have HB1 := Aside0.mk (below_step (HX0.out.1) hb1)
    have HK1 := Aside0.mk (blk_below (HX0.out.2.1) hb1)
    have HK2 := Aside0.mk (blk_below (HX0.out.2.2) hb1)
    have HS1 := Aside0.mk hb1
    clear hb1
    have c_o0 : w1.cell? ⟨w.heap.size, 0, none⟩ = some (Value.slice As ss.length cs) := (blk_cell HK1.out 0).trans rfl
    have f_o0 := blk_frozen HK1.out 0
    have c_o1 : w1.cell? ⟨w.heap.size, 1, none⟩ = some (Value.slice At ts.length ct) := (blk_cell HK1.out 1).trans rfl
    have f_o1 := blk_frozen HK1.out 1
    have c_z0 : w1.cell? ⟨w.heap.size + 1, 0, none⟩ = some (Value.slice none 0 0) := (blk_cell HK2.out 0).trans rfl
    have f_z0 := blk_frozen HK2.out 0
    have c_z1 : w1.cell? ⟨w.heap.size + 1, 1, none⟩ = some (Value.slice none 0 0) := (blk_cell HK2.out 1).trans rfl
    have f_z1 := blk_frozen HK2.out 1
    go_wp2_with fail
    clear c_o0 f_o0 c_o1 f_o1 c_z0 f_z0 c_z1 f_z1
    refine (HN1.out _).mono ?_
    rintro e w_ ⟨rfl, rfl⟩
    have c_o0 : w1.cell? ⟨w.heap.size, 0, none⟩ = some (Value.slice As ss.length cs) := (blk_cell HK1.out 0).trans rfl
    have f_o0 := blk_frozen HK1.out 0
    have c_o1 : w1.cell? ⟨w.heap.size, 1, none⟩ = some (Value.slice At ts.length ct) := (blk_cell HK1.out 1).trans rfl
    have f_o1 := blk_frozen HK1.out 1
    have c_z0 : w1.cell? ⟨w.heap.size + 1, 0, none⟩ = some (Value.slice none 0 0) := (blk_cell HK2.out 0).trans rfl
    have f_z0 := blk_frozen HK2.out 0
    have c_z1 : w1.cell? ⟨w.heap.size + 1, 1, none⟩ = some (Value.slice none 0 0) := (blk_cell HK2.out 1).trans rfl
    have f_z1 := blk_frozen HK2.out 1
    go_wp2_with fail
    clear c_o0 f_o0 c_o1 f_o1 c_z0 f_z0 c_z1 f_z1
    refine (HN2.out _).mono ?_
    rintro e w_ ⟨rfl, rfl⟩
    have c_o0 : w1.cell? ⟨w.heap.size, 0, none⟩ = some (Value.slice As ss.length cs) := (blk_cell HK1.out 0).trans rfl
    have f_o0 := blk_frozen HK1.out 0
    have c_o1 : w1.cell? ⟨w.heap.size, 1, none⟩ = some (Value.slice At ts.length ct) := (blk_cell HK1.out 1).trans rfl
    have f_o1 := blk_frozen HK1.out 1
    have c_z0 : w1.cell? ⟨w.heap.size + 1, 0, none⟩ = some (Value.slice none 0 0) := (blk_cell HK2.out 0).trans rfl
    have f_z0 := blk_frozen HK2.out 0
    have c_z1 : w1.cell? ⟨w.heap.size + 1, 1, none⟩ = some (Value.slice none 0 0) := (blk_cell HK2.out 1).trans rfl
    have f_z1 := blk_frozen HK2.out 1
    go_wp2_with fail
    clear c_o0 f_o0 c_o1 f_o1 c_z0 f_z0 c_z1 f_z1
    refine (HSC.out _ HB1.out).mono ?_
    rintro e w2 ⟨rfl, hb2⟩
    have HB2 := Aside0.mk (below_step (HB1.out) hb2)
    have HK3 := Aside0.mk (blk_below (HK1.out) hb2)
    have HK4 := Aside0.mk (blk_below (HK2.out) hb2)
    have HS2 := Aside0.mk hb2
    clear hb2
    have c_o0 : w2.cell? ⟨w.heap.size, 0, none⟩ = some (Value.slice As ss.length cs) := (blk_cell HK3.out 0).trans rfl
    have f_o0 := blk_frozen HK3.out 0
    have c_o1 : w2.cell? ⟨w.heap.size, 1, none⟩ = some (Value.slice At ts.length ct) := (blk_cell HK3.out 1).trans rfl
    have f_o1 := blk_frozen HK3.out 1
    go_wp2_with fail
    clear c_o0 f_o0 c_o1 f_o1
    refine (HOW.out _ HB2.out).mono ?_
    rintro e x3 ⟨Bs, ds, Bt, dt, rfl, hR, hS, hb3⟩
    have HB3 := Aside0.mk (below_step (HB2.out) hb3)
    have HK5 := Aside0.mk (blk_below (HK3.out) hb3)
    have HK6 := Aside0.mk (blk_below (HK4.out) hb3)
    clear hb3
    have hT0 := Kd.R_alloc (Kd.S_R hS) (.cells #[Value.slice Bs ss.length ds, Value.slice Bt ts.length dt] 26)
    obtain ⟨U, he⟩ : ∃ V, V = (x3.alloc (.cells #[Value.slice Bs ss.length ds, Value.slice Bt ts.length dt] 26)) := ⟨_, rfl⟩
    have hb9 : Below x3.heap.size x3 U := by rw [he]; exact below_alloc (Below.refl _ _) _
    have UN := Aside0.mk (show U.heap[x3.heap.size]? = some (.cells #[Value.slice Bs ss.length ds, Value.slice Bt ts.length dt] 26 (0, 0)) by rw [he]; exact blk_new _ _)
    rw [← he] at hT0
    have HT0 := Aside0.mk hT0
    have HBU := Aside0.mk (below_step (HB3.out) hb9)
    have HK7 := Aside0.mk (blk_below (HK5.out) hb9)
    have HK8 := Aside0.mk (blk_below (HK6.out) hb9)
    clear hb9 hR hS hT0 HOW
    have HSU := Aside0.mk (HSS.out U HBU.out)
    go_wp2
    rw [← he]
    clear he
    go_loopw [9, 10, 11] (fun v u i w' => ∃ j : Nat, ∃ b : Bool, ∃ l : List Sch, j ≤ ss.length ∧ i = .int .i64 j ∧ u = .bool b ∧ Aside0 (InsI (⟨name, owner⟩ : Sch) ss j b l ∧ kSch.R 63 w' U.heap.size (fun _ => True) v l ∧ Below U.heap.size U w')) (fun _ _ i _ => ss.length - (intOf i).toNat)
    case atStart => exact ⟨0, false, [], Nat.zero_le _, rfl, rfl, ⟨InsI.start _ _, Kd.R_nil _ _ _ _ _, Below.refl _ _⟩⟩
    case round =>
      obtain ⟨j, b, l, hj, rfl, rfl, HJ2⟩ := hrel
      have HBq := Aside0.mk (below_step (HBU.out) HJ2.out.2.2)
      have HK9 := Aside0.mk (blk_below (HK7.out) HJ2.out.2.2)
      have HK10 := Aside0.mk (blk_below (HK8.out) HJ2.out.2.2)
      have HK11 := Aside0.mk (blk_below (UN.out) HJ2.out.2.2)
      have b3 : wr.cell? ⟨w.heap.size, 0, none⟩ = some (Value.slice As ss.length cs) := (blk_cell HK9.out 0).trans rfl
      have hll : l.length ≤ 3002 := by have := HJ2.out.1.len hj; omega
      by_cases hlt : j < ss.length
      · obtain ⟨ad2, e, u0, u1⟩ := schAt_ HSU.out j hlt
        cases e
        have r0 := pw_cell_below HJ2.out.2.2 u0
        have r1 := pw_cell_below HJ2.out.2.2 u1
        have i0 : (0 : Int) ≤ (j : Int) := by omega
        have i1 : (j : Int) < (ss.length : Int) := by omega
        have HCELL := Aside0.mk (fun W (hW : Below U.heap.size U W) => And.intro (pw_cell_below hW u0) (pw_cell_below hW u1))
        clear u0 u1
        cases b with
        | true =>
          go_wp2_with ((at_builtin; refine Kd.R_append kSch (w0 := U) U.heap.size (by rfl) (.tmp 74) (.tmp 80) 23 63 (.agg #[(.string ⟨#[]⟩), (.string ⟨#[]⟩)]) 32 (by rfl) Try.underlying23 infoSch rfl (by decide) (by decide) _ (l) (ss[j]) [.string ss[j].name, .string ss[j].owner] (fun _ => True) (fun _ => False) (by rfl) (by rfl) (kSch_mkM _ _ _ ss[j]) (fun _ h => h.elim) (fun _ _ => trivial) HJ2.out.2.1 HJ2.out.2.2 HJ2.out.2.2.size (by omega) ?_; intro v3 w3 hR3 hB3 hg3 _))
          have HR3 := Aside0.mk (And.intro hR3 hB3)
          clear hR3 hB3 hg3 b3 r0 r1
          go_roundw
          case rel => exact ⟨j + 1, true, _, by omega, by go_num, rfl, ⟨HJ2.out.1.more hlt, HR3.out.1, HR3.out.2⟩⟩
          case measure => simp [intOf]; omega
        | false =>
        cases hp0 : Op.bytesLess name.toList ss[j].name.toList with
        | false =>
          have HP0 := Aside0.mk (show ltOf cfS (⟨name, owner⟩ : Sch) ss[j] = false from (less_S name ss[j].name).symm.trans hp0)
          go_wp2_with ((at_builtin; refine Kd.R_append kSch (w0 := U) U.heap.size (by rfl) (.tmp 74) (.tmp 80) 23 63 (.agg #[(.string ⟨#[]⟩), (.string ⟨#[]⟩)]) 32 (by rfl) Try.underlying23 infoSch rfl (by decide) (by decide) _ (l) (ss[j]) [.string ss[j].name, .string ss[j].owner] (fun _ => True) (fun _ => False) (by rfl) (by rfl) (kSch_mkM _ _ _ ss[j]) (fun _ h => h.elim) (fun _ _ => trivial) HJ2.out.2.1 HJ2.out.2.2 HJ2.out.2.2.size (by omega) ?_; intro v3 w3 hR3 hB3 hg3 _))
          have HR3 := Aside0.mk (And.intro hR3 hB3)
          clear hR3 hB3 hg3 b3 r0 r1
          go_roundw
          case rel => exact ⟨j + 1, false, _, by omega, by go_num, rfl, ⟨HJ2.out.1.none hlt HP0.out, HR3.out.1, HR3.out.2⟩⟩
          case measure => simp [intOf]; omega
        | true =>
          have HP0 := Aside0.mk (show ltOf cfS (⟨name, owner⟩ : Sch) ss[j] = true from (less_S name ss[j].name).symm.trans hp0)
          go_wp2_with (first | (at_builtin; refine Kd.R_append kSch (w0 := U) U.heap.size (by rfl) (.tmp 68) (.tmp 72) 23 63 (.agg #[(.string ⟨#[]⟩), (.string ⟨#[]⟩)]) 32 (by rfl) Try.underlying23 infoSch rfl (by decide) (by decide) _ (l) ((⟨name, owner⟩ : Sch)) [.string name, .string owner] (fun _ => True) (fun _ => False) (by rfl) (by rfl) (kSch_mkM _ _ _ (⟨name, owner⟩ : Sch)) (fun _ h => h.elim) (fun _ _ => trivial) HJ2.out.2.1 HJ2.out.2.2 HJ2.out.2.2.size (by omega) ?_; intro v2 w2 hR2 hB2 hg2 _; have HY := Aside0.mk (And.intro hR2 hB2); have q3 : w2.cell? ⟨w.heap.size, 0, none⟩ = some (Value.slice (some ad2) ss.length cs) := (blk_cell (blk_below HK7.out hB2) 0).trans rfl; have q0 := HCELL.out w2 hB2; have q1 := q0.2; have q2 := q0.1; clear hR2 hB2 hg2 q0) | (at_builtin; refine Kd.R_append kSch (w0 := U) U.heap.size (by rfl) (.tmp 74) (.tmp 80) 23 63 (.agg #[(.string ⟨#[]⟩), (.string ⟨#[]⟩)]) 32 (by rfl) Try.underlying23 infoSch rfl (by decide) (by decide) _ (l ++ [(⟨name, owner⟩ : Sch)]) (ss[j]) [.string ss[j].name, .string ss[j].owner] (fun _ => True) (fun _ => False) (by rfl) (by rfl) (kSch_mkM _ _ _ ss[j]) (fun _ h => h.elim) (fun _ _ => trivial) HY.out.1 HY.out.2 HY.out.2.size (by simp; omega) ?_; intro v3 w3 hR3 hB3 hg3 _))
          have HR3 := Aside0.mk (And.intro hR3 hB3)
          clear q1 q2 q3 HY hR3 hB3 hg3 b3 r0 r1
          go_roundw
          case rel => exact ⟨j + 1, true, _, by omega, by go_num, rfl, ⟨HJ2.out.1.hit hlt HP0.out, HR3.out.1, HR3.out.2⟩⟩
          case measure => simp [intOf]; omega
      obtain rfl : j = ss.length := by omega
      have hdj2 : decide (ss.length < ss.length) = false := decide_eq_false hlt
      cases b with
      | true =>
        have hl := HJ2.out.1.done_true
        subst hl
        have hv := HJ2.out.2.1
        obtain ⟨A5, c5, rfl⟩ := Kd.R_slice hv
        have HF := Aside0.mk (Out.schs HBU.out HJ2.out.2.2 (UN.out) (HK8.out) hv HT0.out HB2.out.size (show w.heap.size ≤ x3.heap.size from HB3.out.size) (show w.heap.size ≤ w.heap.size + 1 by omega))
        have n1 : ¬ x3.heap.size = w.heap.size + 1 := fun e => by have h1 := blk_lt HK6.out; omega
        have n2 : ¬ w.heap.size + 1 = x3.heap.size := fun e => n1 e.symm
        have c_out0 : wr.cell? ⟨x3.heap.size, 0, none⟩ = some (Value.slice Bs ss.length ds) := (blk_cell HK11.out 0).trans rfl
        have f_out0 := blk_frozen HK11.out 0
        have c_out1 : wr.cell? ⟨x3.heap.size, 1, none⟩ = some (Value.slice Bt ts.length dt) := (blk_cell HK11.out 1).trans rfl
        have f_out1 := blk_frozen HK11.out 1
        have c_z0 : wr.cell? ⟨w.heap.size + 1, 0, none⟩ = some (Value.slice none 0 0) := (blk_cell HK10.out 0).trans rfl
        have f_z0 := blk_frozen HK10.out 0
        have c_z1 : wr.cell? ⟨w.heap.size + 1, 1, none⟩ = some (Value.slice none 0 0) := (blk_cell HK10.out 1).trans rfl
        have f_z1 := blk_frozen HK10.out 1
        clear hv
        go_wp2
        refine bodyPost_ret (v := .tuple #[.agg #[.slice A5 (ins (ltOf cfS) (⟨name, owner⟩ : Sch) ss).length c5, .slice Bt ts.length dt], .int .i64 0]) (by simp [results, Try.results29, go_sem, *]) rfl ?_
        rw [HQ.out]
        exact HF.out
      | false =>
        have hl := HJ2.out.1.done_false
        have n1 : ¬ x3.heap.size = w.heap.size + 1 := fun e => by have h1 := blk_lt HK6.out; omega
        have n2 : ¬ w.heap.size + 1 = x3.heap.size := fun e => n1 e.symm
        go_wp2_with ((at_builtin; refine Kd.R_append kSch (w0 := U) U.heap.size (by rfl) (.tmp 84) (.tmp 88) 23 63 (.agg #[(.string ⟨#[]⟩), (.string ⟨#[]⟩)]) 32 (by rfl) Try.underlying23 infoSch rfl (by decide) (by decide) _ (l) ((⟨name, owner⟩ : Sch)) [.string name, .string owner] (fun _ => True) (fun _ => False) (by rfl) (by rfl) (kSch_mkM _ _ _ (⟨name, owner⟩ : Sch)) (fun _ h => h.elim) (fun _ _ => trivial) HJ2.out.2.1 HJ2.out.2.2 HJ2.out.2.2.size (by omega) ?_; intro v3 w3 hR3 hB3 hg3 _; rw [hl] at hR3; obtain ⟨A5, c5, rfl⟩ := Kd.R_slice hR3; have HF := Aside0.mk (Out.schs HBU.out hB3 (UN.out) (HK8.out) hR3 HT0.out HB2.out.size (show w.heap.size ≤ x3.heap.size from HB3.out.size) (show w.heap.size ≤ w.heap.size + 1 by omega)); have c_out0 : w3.cell? ⟨x3.heap.size, 0, none⟩ = some (Value.slice Bs ss.length ds) := (blk_cell (blk_below UN.out hB3) 0).trans rfl; have f_out0 := blk_frozen (blk_below UN.out hB3) 0; have c_out1 : w3.cell? ⟨x3.heap.size, 1, none⟩ = some (Value.slice Bt ts.length dt) := (blk_cell (blk_below UN.out hB3) 1).trans rfl; have f_out1 := blk_frozen (blk_below UN.out hB3) 1; have c_z0 : w3.cell? ⟨w.heap.size + 1, 0, none⟩ = some (Value.slice none 0 0) := (blk_cell (blk_below HK8.out hB3) 0).trans rfl; have f_z0 := blk_frozen (blk_below HK8.out hB3) 0; have c_z1 : w3.cell? ⟨w.heap.size + 1, 1, none⟩ = some (Value.slice none 0 0) := (blk_cell (blk_below HK8.out hB3) 1).trans rfl; have f_z1 := blk_frozen (blk_below HK8.out hB3) 1; clear hR3 hB3 hg3))
        refine bodyPost_ret (v := .tuple #[.agg #[.slice A5 (ins (ltOf cfS) (⟨name, owner⟩ : Sch) ss).length c5, .slice Bt ts.length dt], .int .i64 0]) (by simp [results, Try.results29, go_sem, *]) rfl ?_
        rw [HQ.out]
        exact HF.out
end Go.Proofs.Ytmmiehckgkadgaa.O
