/- objects.changed, over the contract of the function value that is handed in. -/
import Derived.Test.YtmmiehckgkadgaaCG
import Derived.Test.YtmmiehckgkadgaaOX
namespace Go.Proofs.Ytmmiehckgkadgaa.O
set_option linter.unusedVariables false
set_option linter.unusedSimpArgs false
open Go.RowKit Go.Proofs.YtmmiehckgkadgaaW.PrintWords

/-- an answer: an error's number, schemas, tables -/
abbrev Res := Int × List Sch × List Tab
/-- what comes out is r, in memory that is new since w -/
def Out (w : World) (r : Res) (e : Ending) (w' : World) : Prop := ∃ vs vt, e = .returned (.tuple #[.agg #[vs, vt], .int .i64 r.1]) ∧ kSch.R 63 w' w.heap.size (fun _ => True) vs r.2.1 ∧ kTab.R 35 w' w.heap.size (fun _ => True) vt r.2.2 ∧ Below w.heap.size w w'
/-- what a function value, called in W, did to the objects in box g (theirs is what lies from block B on) -/
def Did (B : Nat) (W : World) (g : Nat) (r : Res) (e : Ending) (w' : World) : Prop := e = .returned (.int .i64 r.1) ∧ Below B W w' ∧ (r.1 = 0 → ∃ vs vt, w'.heap[g]? = some (.cells #[vs, vt] 26 (0, 0)) ∧ kSch.R 63 w' B (fun _ => True) vs r.2.1 ∧ kTab.R 35 w' B (fun _ => True) vt r.2.2)
/-- objects of one's own in box g -/
def Mine (B : Nat) (g : Nat) (Bs Bt : Option Addr) (ds dt : Nat) (ss : List Sch) (ts : List Tab) (W : World) : Prop := B ≤ g ∧ B ≤ W.heap.size ∧ W.heap[g]? = some (.cells #[.slice Bs ss.length ds, .slice Bt ts.length dt] 26 (0, 0)) ∧ kSch.R 63 W B (fun _ => True) (.slice Bs ss.length ds) ss ∧ Kd.S kTab 35 W B (fun _ => True) (.slice Bt ts.length dt) ts
def chg (ss : List Sch) (ts : List Tab) (r : Res) : Res := if checkB ss ts = true then (if r.1 = 0 then r else (r.1, [], [])) else (63, [], [])

set_option maxRecDepth 20000 in
set_option maxHeartbeats 2000000 in
theorem changed.calls {As At : Option Addr} {cs ct : Nat} (f : Nat) (caps : Array Value) (ss : List Sch) (ts : List Tab) (r : Res) (w : World) (hs : kSch.C w As ss.length ss) (hsl : ss.length ≤ 3000) (ht : kTab.C w At ts.length ts) (hF : TabsF ts) (hB : TabsB ts)
    (hent : ∀ (xs : Array Value) (W : World), (callFunc f xs).run Try.prog W = .ok (.enter f xs) W) (hdo : checkB ss ts = true → ∀ B g Bs ds Bt dt W, Below w.heap.size w W → w.heap.size ≤ B → Mine B g Bs Bt ds dt ss ts W → Calls Try.prog f (#[.pointer (some ⟨g, 0, none⟩)] ++ caps) W (Did B W g r)) :
    Calls Try.prog 70 #[.agg #[.slice As ss.length cs, .slice At ts.length ct], .func (.func f) #[] caps] w (Out w (chg ss ts r)) := by
  have HCK := Aside0.mk (fun W (hW : Below w.heap.size w W) => Check.calls (As := As) (cs := cs) (At := At) (ct := ct) ss ts W (Kd.C_below hs hW) (by omega) (Kd.C_below ht hW) hF)
  have HOW := Aside0.mk (fun W (hW : Below w.heap.size w W) => own.calls (As := As) (cs := cs) (At := At) (ct := ct) ss ts W (Kd.C_below hs hW) hsl (Kd.C_below ht hW) hB)
  have HB2 := Aside0.mk (boxes2 w (.cells #[.slice As ss.length cs, .slice At ts.length ct] 26) (.cells #[.slice none 0 0, .slice none 0 0] 26))
  have HDO := Aside0.mk hdo
  generalize hq : chg ss ts r = q
  have HQ := Aside0.mk hq
  clear hs ht hF hB hq hdo
  cases hck : checkB ss ts with
  | false =>
    have HE : Aside0 (checkE ss ts = 63) := ⟨by unfold checkE; rw [hck]; rfl⟩
    have HQ2 : Aside0 (q = (63, [], [])) := ⟨by rw [← HQ.out]; unfold chg; rw [hck]; rfl⟩
    clear hck HQ HDO HOW
    go_enter Try.func70, Try.ntmps70
    go_wp2_with fail
    refine (HCK.out _ HB2.out.1).mono ?_
    rintro e w1 ⟨rfl, hb1⟩
    rw [HE.out]
    have hK1 := blk_below HB2.out.2.1 hb1
    have hZ1 := blk_below HB2.out.2.2 hb1
    have z0 : w1.cell? ⟨w.heap.size + 1, 0, none⟩ = some (.slice none 0 0) := (blk_cell hZ1 0).trans rfl
    have z1 : w1.cell? ⟨w.heap.size + 1, 1, none⟩ = some (.slice none 0 0) := (blk_cell hZ1 1).trans rfl
    have f0 := blk_frozen hZ1 0
    have f1 := blk_frozen hZ1 1
    have HB1 := Aside0.mk (set2_below (g := w.heap.size + 1) (below_step HB2.out.1 hb1) (Nat.le_succ _) (.slice none 0 0) (.slice none 0 0))
    clear hb1 hK1 hZ1 HB2 HCK
    go_wp2
    refine bodyPost_ret (v := .tuple #[.agg #[.slice none 0 0, .slice none 0 0], .int .i64 63]) (by simp [results, Try.results70, go_sem, *]) rfl ?_
    rw [HQ2.out]
    exact ⟨_, _, rfl, Kd.R_nil _ _ _ _ _, Kd.R_nil _ _ _ _ _, HB1.out⟩
  | true =>
    have HE : Aside0 (checkE ss ts = 0) := ⟨by unfold checkE; rw [hck]; rfl⟩
    have HD := Aside0.mk (HDO.out hck)
    clear hck HDO
    go_enter Try.func70, Try.ntmps70
    go_wp2_with fail
    refine (HCK.out _ HB2.out.1).mono ?_
    rintro e w1 ⟨rfl, hb1⟩
    rw [HE.out]
    have hK1 := blk_below HB2.out.2.1 hb1
    have hZ1 := blk_below HB2.out.2.2 hb1
    have c0 : w1.cell? ⟨w.heap.size, 0, none⟩ = some (.slice As ss.length cs) := (blk_cell hK1 0).trans rfl
    have c1 : w1.cell? ⟨w.heap.size, 1, none⟩ = some (.slice At ts.length ct) := (blk_cell hK1 1).trans rfl
    have HB1 := Aside0.mk (below_step HB2.out.1 hb1)
    clear hb1 hK1
    go_wp2_with fail
    refine (HOW.out _ HB1.out).mono ?_
    rintro e w2 ⟨Bs, ds, Bt, dt, rfl, hR, hS, hb2⟩
    have hZ2 := blk_below hZ1 hb2
    have HZ := Aside0.mk hZ2
    have HM := Aside0.mk (show Mine w1.heap.size w2.heap.size Bs Bt ds dt ss ts (w2.alloc (.cells #[.slice Bs ss.length ds, .slice Bt ts.length dt] 26)) from ⟨hb2.size, (below_alloc hb2 _).size, blk_new w2 _, Kd.R_alloc hR _, Kd.S_alloc hS _⟩)
    have HW := Aside0.mk (below_alloc (below_step HB1.out hb2) (.cells #[.slice Bs ss.length ds, .slice Bt ts.length dt] 26))
    have HZ := Aside0.mk (And.intro (blk_alloc hZ2 (.cells #[.slice Bs ss.length ds, .slice Bt ts.length dt] 26)) (blk_lt hZ1))
    clear c0 c1 hZ1 hR hS hb2 hZ2
    go_wp2_with fail
    refine (HD.out _ _ _ _ _ _ _ HW.out HB1.out.size HM.out).mono ?_
    rintro e w3 ⟨rfl, hb3, hres⟩
    have hZ3 := (hb3.block _ HZ.out.2).trans HZ.out.1
    have z0 : w3.cell? ⟨w.heap.size + 1, 0, none⟩ = some (.slice none 0 0) := (blk_cell hZ3 0).trans rfl
    have z1 : w3.cell? ⟨w.heap.size + 1, 1, none⟩ = some (.slice none 0 0) := (blk_cell hZ3 1).trans rfl
    have f0 := blk_frozen hZ3 0
    have f1 := blk_frozen hZ3 1
    have HB3 := Aside0.mk (HW.out.trans (hb3.mono HB1.out.size))
    have HB1s := Aside0.mk HB1.out.size
    have HR := Aside0.mk hres
    have HZ3 := Aside0.mk hZ3
    clear hres hb3 HW HM HD HZ hZ3 HB2 HCK HOW HB1
    by_cases h0 : r.1 = 0
    · obtain ⟨vs, vt, hg, hRs, hRt⟩ := HR.out h0
      obtain ⟨Es, es, rfl⟩ := Kd.R_slice hRs
      obtain ⟨Et, et, rfl⟩ := Kd.R_slice hRt
      have c0 : w3.cell? ⟨w2.heap.size, 0, none⟩ = some (.slice Es r.2.1.length es) := (blk_cell hg 0).trans rfl
      have c1 : w3.cell? ⟨w2.heap.size, 1, none⟩ = some (.slice Et r.2.2.length et) := (blk_cell hg 1).trans rfl
      have HX := Aside0.mk (And.intro (R_only (Kd.R_lower hRs HB1s.out) HZ3.out (by decide) (set2_far w3 (w.heap.size + 1) (.slice Es r.2.1.length es) (.slice Et r.2.2.length et)))
        (And.intro (R_only (Kd.R_lower hRt HB1s.out) HZ3.out (by decide) (set2_far w3 (w.heap.size + 1) (.slice Es r.2.1.length es) (.slice Et r.2.2.length et)))
        (set2_below HB3.out (Nat.le_succ _) (.slice Es r.2.1.length es) (.slice Et r.2.2.length et))))
      have HQ2 := Aside0.mk (show q = r by rw [← HQ.out]; unfold chg; rw [if_pos (by have := HE.out; unfold checkE at this; split at this; assumption; cases this), if_pos h0])
      have HE0 := Aside0.mk h0
      rw [h0]
      clear h0 hg hRs hRt HR HQ HB3 HZ3
      go_wp2
      refine bodyPost_ret (v := .tuple #[.agg #[.slice Es r.2.1.length es, .slice Et r.2.2.length et], .int .i64 0]) (by simp [results, Try.results70, go_sem, *]) rfl ?_
      rw [HQ2.out]
      exact ⟨_, _, by rw [HE0.out], HX.out⟩
    · have hne : (r.1 == 0) = false := beq_eq_false_iff_ne.2 h0
      have hn2 : (r.1 != 0) = true := bne_iff_ne.2 h0
      have HX := Aside0.mk (set2_below (g := w.heap.size + 1) HB3.out (Nat.le_succ _) (.slice none 0 0) (.slice none 0 0))
      have HQ2 := Aside0.mk (show q = (r.1, [], []) by rw [← HQ.out]; unfold chg; rw [if_pos (by have := HE.out; unfold checkE at this; split at this; assumption; cases this), if_neg h0])
      generalize r.1 = n at *
      clear HR HQ HB3 HZ3
      go_wp2
      refine bodyPost_ret (v := .tuple #[.agg #[.slice none 0 0, .slice none 0 0], .int .i64 n]) (by simp [results, Try.results70, go_sem, *]) rfl ?_
      rw [HQ2.out]
      exact ⟨_, _, rfl, Kd.R_nil _ _ _ _ _, Kd.R_nil _ _ _ _ _, HX.out⟩
end Go.Proofs.Ytmmiehckgkadgaa.O
