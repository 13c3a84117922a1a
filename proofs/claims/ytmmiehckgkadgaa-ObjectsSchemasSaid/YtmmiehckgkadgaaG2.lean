/- objects.changed, over the contract of the function value that is handed in. · objects.tableChanged, over the contract of the function value that is handed in. · objects.SetOwner. · The document's SetOwner. · A table of one's own: its columns, its rules, set anew. -/
import Derived.Test.YtmmiehckgkadgaaG1
import Derived.Test.YtmmiehckgkadgaaOX
namespace Go.Proofs.Ytmmiehckgkadgaa.O
set_option linter.unusedVariables false
set_option linter.unusedSimpArgs false
open Go.RowKit Go.Proofs.YtmmiehckgkadgaaW.PrintWords

/-- an answer: an error's number, schemas, tables -/
abbrev Res := Int × List Sch × List Tab
/-- what comes out is r, in memory that is new since w -/
def Out (w : World) (r : Res) (e : Ending) (w' : World) : Prop := ∃ vs vt, e = .returned (.tuple #[.agg #[vs, vt], .int .i64 r.1]) ∧ kSch.R 63 w' w.heap.size (fun _ => True) vs r.2.1 ∧ kTab.R 35 w' w.heap.size (fun _ => True) vt r.2.2 ∧ Below w.heap.size w w'
/-- what a function value, called in W, did to the objects in box g (theirs is what lies from block B on) -/
def Did (B : Nat) (W : World) (g : Nat) (r : Res) (e : Ending) (w' : World) : Prop := e = .returned (.int .i64 r.1) ∧ Below B W w' ∧ (r.1 = 0 → ∃ vs vt, w'.heap[g]? = some (.cells #[vs, vt] 26 (0, 0)) ∧ kSch.R 63 w' B (fun _ => True) vs r.2.1 ∧ kTab.R 35 w' B (fun _ => True) vt r.2.2)
/-- objects of one's own in box g -/
def Mine (B : Nat) (g : Nat) (Bs Bt : Option Addr) (ds dt : Nat) (ss : List Sch) (ts : List Tab) (W : World) : Prop := B ≤ g ∧ B ≤ W.heap.size ∧ W.heap[g]? = some (.cells #[.slice Bs ss.length ds, .slice Bt ts.length dt] 26 (0, 0)) ∧ kSch.R 63 W B (fun _ => True) (.slice Bs ss.length ds) ss ∧ Kd.S kTab 35 W B (fun _ => True) (.slice Bt ts.length dt) ts
def chg (ss : List Sch) (ts : List Tab) (r : Res) : Res := if checkB ss ts = true then (if r.1 = 0 then r else (r.1, [], [])) else (63, [], [])

set_option maxRecDepth 20000 in
set_option maxHeartbeats 2000000 in
theorem changed.calls {As At : Option Addr} {cs ct : Nat} (f : Nat) (caps : Array Value) (ss : List Sch) (ts : List Tab) (r : Res) (w : World) (hs : kSch.C w As ss.length ss) (hsl : ss.length ≤ 3000) (ht : kTab.C w At ts.length ts) (hF : TabsF ts) (hB : TabsB ts)
    (hent : ∀ (xs : Array Value) (W : World), (callFunc f xs).run Try.prog W = .ok (.enter f xs) W) (hdo : checkB ss ts = true → ∀ B g Bs ds Bt dt W, Below w.heap.size w W → w.heap.size ≤ B → Mine B g Bs Bt ds dt ss ts W → Calls Try.prog f (#[.pointer (some ⟨g, 0, none⟩)] ++ caps) W (Did B W g r)) :
    Calls Try.prog 70 #[.agg #[.slice As ss.length cs, .slice At ts.length ct], .func (.func f) #[] caps] w (Out w (chg ss ts r)) := by
  have HCK := Aside0.mk (fun W (hW : Below w.heap.size w W) => Check.calls (As := As) (cs := cs) (At := At) (ct := ct) ss ts W (Kd.C_below hs hW) (by omega) (Kd.C_below ht hW) hF)
  have HOW := Aside0.mk (fun W (hW : Below w.heap.size w W) => own.calls (As := As) (cs := cs) (At := At) (ct := ct) ss ts W (Kd.C_below hs hW) hsl (Kd.C_below ht hW) hB)
  have HB2 := Aside0.mk (boxes2 w (.cells #[.slice As ss.length cs, .slice At ts.length ct] 26) (.cells #[.slice none 0 0, .slice none 0 0] 26))
  have HDO := Aside0.mk hdo
  generalize hq : chg ss ts r = q
  have HQ := Aside0.mk hq
  clear hs ht hF hB hq hdo
  cases hck : checkB ss ts with
  | false =>
    have HE : Aside0 (checkE ss ts = 63) := ⟨by unfold checkE; rw [hck]; rfl⟩
    have HQ2 : Aside0 (q = (63, [], [])) := ⟨by rw [← HQ.out]; unfold chg; rw [hck]; rfl⟩
    clear hck HQ HDO HOW
    go_enter Try.func70, Try.ntmps70
    go_wp2_with fail
    refine (HCK.out _ HB2.out.1).mono ?_
    rintro e w1 ⟨rfl, hb1⟩
    rw [HE.out]
    have hK1 := blk_below HB2.out.2.1 hb1
    have hZ1 := blk_below HB2.out.2.2 hb1
    have z0 : w1.cell? ⟨w.heap.size + 1, 0, none⟩ = some (.slice none 0 0) := (blk_cell hZ1 0).trans rfl
    have z1 : w1.cell? ⟨w.heap.size + 1, 1, none⟩ = some (.slice none 0 0) := (blk_cell hZ1 1).trans rfl
    have f0 := blk_frozen hZ1 0
    have f1 := blk_frozen hZ1 1
    have HB1 := Aside0.mk (set2_below (g := w.heap.size + 1) (below_step HB2.out.1 hb1) (Nat.le_succ _) (.slice none 0 0) (.slice none 0 0))
    clear hb1 hK1 hZ1 HB2 HCK
    go_wp2
    refine bodyPost_ret (v := .tuple #[.agg #[.slice none 0 0, .slice none 0 0], .int .i64 63]) (by simp [results, Try.results70, go_sem, *]) rfl ?_
    rw [HQ2.out]
    exact ⟨_, _, rfl, Kd.R_nil _ _ _ _ _, Kd.R_nil _ _ _ _ _, HB1.out⟩
  | true =>
    have HE : Aside0 (checkE ss ts = 0) := ⟨by unfold checkE; rw [hck]; rfl⟩
    have HD := Aside0.mk (HDO.out hck)
    clear hck HDO
    go_enter Try.func70, Try.ntmps70
    go_wp2_with fail
    refine (HCK.out _ HB2.out.1).mono ?_
    rintro e w1 ⟨rfl, hb1⟩
    rw [HE.out]
    have hK1 := blk_below HB2.out.2.1 hb1
    have hZ1 := blk_below HB2.out.2.2 hb1
    have c0 : w1.cell? ⟨w.heap.size, 0, none⟩ = some (.slice As ss.length cs) := (blk_cell hK1 0).trans rfl
    have c1 : w1.cell? ⟨w.heap.size, 1, none⟩ = some (.slice At ts.length ct) := (blk_cell hK1 1).trans rfl
    have HB1 := Aside0.mk (below_step HB2.out.1 hb1)
    clear hb1 hK1
    go_wp2_with fail
    refine (HOW.out _ HB1.out).mono ?_
    rintro e w2 ⟨Bs, ds, Bt, dt, rfl, hR, hS, hb2⟩
    have hZ2 := blk_below hZ1 hb2
    have HZ := Aside0.mk hZ2
    have HM := Aside0.mk (show Mine w1.heap.size w2.heap.size Bs Bt ds dt ss ts (w2.alloc (.cells #[.slice Bs ss.length ds, .slice Bt ts.length dt] 26)) from ⟨hb2.size, (below_alloc hb2 _).size, blk_new w2 _, Kd.R_alloc hR _, Kd.S_alloc hS _⟩)
    have HW := Aside0.mk (below_alloc (below_step HB1.out hb2) (.cells #[.slice Bs ss.length ds, .slice Bt ts.length dt] 26))
    have HZ := Aside0.mk (And.intro (blk_alloc hZ2 (.cells #[.slice Bs ss.length ds, .slice Bt ts.length dt] 26)) (blk_lt hZ1))
    clear c0 c1 hZ1 hR hS hb2 hZ2
    go_wp2_with fail
    refine (HD.out _ _ _ _ _ _ _ HW.out HB1.out.size HM.out).mono ?_
    rintro e w3 ⟨rfl, hb3, hres⟩
    have hZ3 := (hb3.block _ HZ.out.2).trans HZ.out.1
    have z0 : w3.cell? ⟨w.heap.size + 1, 0, none⟩ = some (.slice none 0 0) := (blk_cell hZ3 0).trans rfl
    have z1 : w3.cell? ⟨w.heap.size + 1, 1, none⟩ = some (.slice none 0 0) := (blk_cell hZ3 1).trans rfl
    have f0 := blk_frozen hZ3 0
    have f1 := blk_frozen hZ3 1
    have HB3 := Aside0.mk (HW.out.trans (hb3.mono HB1.out.size))
    have HB1s := Aside0.mk HB1.out.size
    have HR := Aside0.mk hres
    have HZ3 := Aside0.mk hZ3
    clear hres hb3 HW HM HD HZ hZ3 HB2 HCK HOW HB1
    by_cases h0 : r.1 = 0
    · obtain ⟨vs, vt, hg, hRs, hRt⟩ := HR.out h0
      obtain ⟨Es, es, rfl⟩ := Kd.R_slice hRs
      obtain ⟨Et, et, rfl⟩ := Kd.R_slice hRt
      have c0 : w3.cell? ⟨w2.heap.size, 0, none⟩ = some (.slice Es r.2.1.length es) := (blk_cell hg 0).trans rfl
      have c1 : w3.cell? ⟨w2.heap.size, 1, none⟩ = some (.slice Et r.2.2.length et) := (blk_cell hg 1).trans rfl
      have HX := Aside0.mk (And.intro (R_only (Kd.R_lower hRs HB1s.out) HZ3.out (by decide) (set2_far w3 (w.heap.size + 1) (.slice Es r.2.1.length es) (.slice Et r.2.2.length et)))
        (And.intro (R_only (Kd.R_lower hRt HB1s.out) HZ3.out (by decide) (set2_far w3 (w.heap.size + 1) (.slice Es r.2.1.length es) (.slice Et r.2.2.length et)))
        (set2_below HB3.out (Nat.le_succ _) (.slice Es r.2.1.length es) (.slice Et r.2.2.length et))))
      have HQ2 := Aside0.mk (show q = r by rw [← HQ.out]; unfold chg; rw [if_pos (by have := HE.out; unfold checkE at this; split at this; assumption; cases this), if_pos h0])
      have HE0 := Aside0.mk h0
      rw [h0]
      clear h0 hg hRs hRt HR HQ HB3 HZ3
      go_wp2
      refine bodyPost_ret (v := .tuple #[.agg #[.slice Es r.2.1.length es, .slice Et r.2.2.length et], .int .i64 0]) (by simp [results, Try.results70, go_sem, *]) rfl ?_
      rw [HQ2.out]
      exact ⟨_, _, by rw [HE0.out], HX.out⟩
    · have hne : (r.1 == 0) = false := beq_eq_false_iff_ne.2 h0
      have hn2 : (r.1 != 0) = true := bne_iff_ne.2 h0
      have HX := Aside0.mk (set2_below (g := w.heap.size + 1) HB3.out (Nat.le_succ _) (.slice none 0 0) (.slice none 0 0))
      have HQ2 := Aside0.mk (show q = (r.1, [], []) by rw [← HQ.out]; unfold chg; rw [if_pos (by have := HE.out; unfold checkE at this; split at this; assumption; cases this), if_neg h0])
      generalize r.1 = n at *
      clear HR HQ HB3 HZ3
      go_wp2
      refine bodyPost_ret (v := .tuple #[.agg #[.slice none 0 0, .slice none 0 0], .int .i64 n]) (by simp [results, Try.results70, go_sem, *]) rfl ?_
      rw [HQ2.out]
      exact ⟨_, _, rfl, Kd.R_nil _ _ _ _ _, Kd.R_nil _ _ _ _ _, HX.out⟩
end Go.Proofs.Ytmmiehckgkadgaa.O
namespace Go.Proofs.Ytmmiehckgkadgaa.O
set_option linter.unusedVariables false
set_option linter.unusedSimpArgs false
open Go.RowKit Go.Proofs.YtmmiehckgkadgaaW.PrintWords

def tch (ss : List Sch) (ts : List Tab) (schema table : ByteArray) (md : Tab → Int × Tab) : Res :=
  if 0 ≤ idx (isT schema table) ts then ((md (ts.getD (idx (isT schema table) ts).toNat zTab)).1, ss, ts.set (idx (isT schema table) ts).toNat (md (ts.getD (idx (isT schema table) ts).toNat zTab)).2) else (61, [], [])
/-- what a function value, called in W, did to table k -/
def InDid (B : Nat) (W : World) (ss : List Sch) (ts : List Tab) (k : Nat) (Bs : Option Addr) (ds g dt : Nat) (r : Int × Tab) (e : Ending) (w' : World) : Prop := e = .returned (.int .i64 r.1) ∧ Below B W w' ∧ (∀ (q : Nat) (cs : Array Value), W.heap[q]? = some (.cells cs 26 (0, 0)) → w'.heap[q]? = some (.cells cs 26 (0, 0))) ∧
  (r.1 = 0 → kSch.R 63 w' B (fun _ => True) (.slice Bs ss.length ds) ss ∧ Kd.S kTab 35 w' B (fun _ => True) (.slice (some ⟨g, 0, none⟩) ts.length dt) (ts.set k r.2))
def InAsk (w : World) (B : Nat) (W : World) (ss : List Sch) (ts : List Tab) (Bs : Option Addr) (ds g dt : Nat) : Prop := Below w.heap.size w W ∧ w.heap.size ≤ B ∧ B ≤ W.heap.size ∧ kSch.R 63 W B (fun _ => True) (.slice Bs ss.length ds) ss ∧ Kd.S kTab 35 W B (fun _ => True) (.slice (some ⟨g, 0, none⟩) ts.length dt) ts
def Inner (f : Nat) (caps : Array Value) (w : World) (ss : List Sch) (ts : List Tab) (md : Tab → Int × Tab) : Prop := ∀ (k : Nat) (hk : k < ts.length) B W Bs ds g dt, InAsk w B W ss ts Bs ds g dt → Calls Try.prog f (#[.agg #[.slice Bs ss.length ds, .slice (some ⟨g, 0, none⟩) ts.length dt], .pointer (some ⟨g, k * 5, none⟩)] ++ caps) W (InDid B W ss ts k Bs ds g dt (md ts[k]))

theorem keep5 {w0 w w' : World} {v0 v1 v2 v3 v4 : Value} {a0 a1 a2 a3 a4 : Addr} (h : w.cell? a0 = some v0 ∧ w.cell? a1 = some v1 ∧ w.cell? a2 = some v2 ∧ w.cell? a3 = some v3 ∧ w.cell? a4 = some v4 ∧ Below w0.heap.size w0 w) (hb : Below w.heap.size w w') : w'.cell? a0 = some v0 ∧ w'.cell? a1 = some v1 ∧ w'.cell? a2 = some v2 ∧ w'.cell? a3 = some v3 ∧ w'.cell? a4 = some v4 ∧ Below w0.heap.size w0 w' :=
  ⟨pw_cell_below hb h.1, pw_cell_below hb h.2.1, pw_cell_below hb h.2.2.1, pw_cell_below hb h.2.2.2.1, pw_cell_below hb h.2.2.2.2.1, below_step h.2.2.2.2.2 hb⟩
set_option maxRecDepth 20000 in
set_option maxHeartbeats 2000000 in
theorem tableChanged1.calls (f : Nat) (caps : Array Value) (hent : ∀ (xs : Array Value) (W : World), (callFunc f xs).run Try.prog W = .ok (.enter f xs) W) (ss : List Sch) (ts : List Tab) (schema table : ByteArray) (md : Tab → Int × Tab) (w : World) (p1 p2 p3 : Nat)
    (h1 : w.cell? ⟨p1, 0, none⟩ = some (.string schema)) (h2 : w.cell? ⟨p2, 0, none⟩ = some (.string table)) (h3 : w.cell? ⟨p3, 0, none⟩ = some (.func (.func f) #[] caps)) (hln : ts.length ≤ 3000) (hin : Inner f caps w ss ts md)
    (B g : Nat) (Bs : Option Addr) (ds : Nat) (Bt : Option Addr) (dt : Nat) (W : World) (hW : Below w.heap.size w W) (hwB : w.heap.size ≤ B) (hM : Mine B g Bs Bt ds dt ss ts W) :
    Calls Try.prog 102 (#[.pointer (some ⟨g, 0, none⟩)] ++ #[.pointer (some ⟨p1, 0, none⟩), .pointer (some ⟨p2, 0, none⟩), .pointer (some ⟨p3, 0, none⟩)]) W (Did B W g (tch ss ts schema table md)) := by
  show Calls Try.prog 102 #[.pointer (some ⟨g, 0, none⟩), .pointer (some ⟨p1, 0, none⟩), .pointer (some ⟨p2, 0, none⟩), .pointer (some ⟨p3, 0, none⟩)] W _
  obtain ⟨hBg, hBW, hG, hR, hS⟩ := hM
  have e1 := pw_cell_below hW h1
  have e2 := pw_cell_below hW h2
  have e3 := pw_cell_below hW h3
  have l1 := Nat.lt_of_lt_of_le (World.block_lt_of_cell? w _ h1) hwB
  have g0 : W.cell? ⟨g, 0, none⟩ = some (.slice Bs ss.length ds) := (blk_cell hG 0).trans rfl
  have g1 : W.cell? ⟨g, 1, none⟩ = some (.slice Bt ts.length dt) := (blk_cell hG 1).trans rfl
  have HWH := Aside0.mk (fun W' (hW' : Below W.heap.size W W') => where.calls (As := Bs) (ns := ss.length) (cs := ds) (At := Bt) (ct := dt) ts schema table W' (Kd.C_below (Kd.S_reads' hS).2.2 hW') (by omega))
  have HI := Aside0.mk hin
  have HG := Aside0.mk hG
  have HRS := Aside0.mk (And.intro hR hS)
  have HW := Aside0.mk (And.intro hW (And.intro hwB (And.intro hBW hBg)))
  have L3 := Aside0.mk (Nat.lt_of_lt_of_le (World.block_lt_of_cell? w _ h3) hwB)
  clear h1 h2 h3 hin hG hR hS hW hwB hBW hBg l1
  rcases idx_cases (isT schema table) ts with ⟨k, hk, hi, hx1, hx2⟩ | ⟨hi, hx1⟩
  · have HT := Aside0.mk (show tch ss ts schema table md = ((md ts[k]).1, ss, ts.set k (md ts[k]).2) by
      unfold tch; rw [hi, if_pos (by omega), Int.toNat_natCast, List.getD_eq_getElem?_getD, List.getElem?_eq_getElem hk]; rfl)
    rw [hi] at HWH
    clear hi hx1 hx2
    obtain ⟨gt, rfl⟩ : ∃ gt, Bt = some ⟨gt, 0, none⟩ := by
      obtain ⟨gt, cap, hv, _⟩ := Kd.S_form HRS.out.2 (by omega)
      injection hv with hA _ _
      exact ⟨gt, hA⟩
    have hb : decide ((0 : Int) ≤ (k : Int)) = true := decide_eq_true (by omega)
    go_enter Try.func102, Try.ntmps102
    go_wp2
    go_region_held3 (fun w' => w'.cell? ⟨p1, 0, none⟩ = some (.string schema) ∧ w'.cell? ⟨p2, 0, none⟩ = some (.string table) ∧ w'.cell? ⟨p3, 0, none⟩ = some (.func (.func f) #[] caps) ∧ w'.cell? ⟨g, 0, none⟩ = some (.slice Bs ss.length ds) ∧ w'.cell? ⟨g, 1, none⟩ = some (.slice (some ⟨gt, 0, none⟩) ts.length dt) ∧ Below W.heap.size W w')
      (first | exact keep5 (by assumption) (by assumption) | exact ⟨e1, e2, e3, g0, g1, below_drew (Below.refl _ _)⟩)
      (first | (go_at_call 51; refine (HWH.out _ ?_).mono ?_; exact below_drew (Below.refl _ _); rintro e w' ⟨rfl, hbx⟩))
    rename_i hH
    obtain ⟨d1, d2, d3, d0, d4, hb1⟩ := hH
    have h0 : (0 : Int) ≤ (k : Int) := by omega
    have h1 : (k : Int) < (ts.length : Int) := by omega
    have HB1 := Aside0.mk hb1
    have HR1 := Aside0.mk (Kd.R_below HRS.out.1 hb1)
    have HS1 := Aside0.mk (Kd.S_below HRS.out.2 hb1)
    have HG1 := Aside0.mk (blk_below HG.out hb1)
    clear e1 e2 e3 g0 g1 hb1 hbx HRS HG HWH
    have HA := Aside0.mk (HI.out k hk B w'.drew Bs ds gt dt ⟨below_drew (below_step HW.out.1 HB1.out), HW.out.2.1, Nat.le_trans HW.out.2.2.1 HB1.out.size, Kd.R_drew HR1.out, Kd.S_drew HS1.out⟩)
    clear HI HR1 HS1 d1 d2
    go_wp2
    go_region_held3 (fun w'' => w''.cell? ⟨p3, 0, none⟩ = some (.func (.func f) #[] caps) ∧ w''.cell? ⟨g, 0, none⟩ = some (.slice Bs ss.length ds) ∧ w''.cell? ⟨g, 1, none⟩ = some (.slice (some ⟨gt, 0, none⟩) ts.length dt))
      (first | exact ⟨(hb2.cell (p := ⟨p3, 0, none⟩) L3.out).trans d3, (blk_cell (hq _ _ HG1.out) 0).trans rfl, (blk_cell (hq _ _ HG1.out) 1).trans rfl⟩ | exact ⟨d3, d0, d4⟩)
      (first | (refine HA.out.mono ?_; rintro e w2 ⟨rfl, hb2, hq, hres⟩))
    have HX := Aside0.mk (And.intro ((below_drew (HB1.out.mono HW.out.2.2.1)).trans hb2) (And.intro (hq _ _ HG1.out) hres))
    clear hb2 hq hres d3 d0 d4
    go_wp2
    go_ret
    rw [HT.out]
    refine ⟨rfl, HX.out.1, fun h => ⟨_, _, HX.out.2.1, (HX.out.2.2 h).1, Kd.S_R ?_⟩⟩
    exact (HX.out.2.2 h).2
  · have HT := Aside0.mk (show tch ss ts schema table md = (61, [], []) by unfold tch; rw [hi, if_neg (by omega)])
    rw [hi] at HWH
    clear hi hx1
    have hb : decide ((0 : Int) ≤ -1) = false := rfl
    go_enter Try.func102, Try.ntmps102
    go_wp2
    go_region_held3 (fun w' => w'.cell? ⟨p1, 0, none⟩ = some (.string schema) ∧ w'.cell? ⟨p2, 0, none⟩ = some (.string table) ∧ w'.cell? ⟨p3, 0, none⟩ = some (.func (.func f) #[] caps) ∧ w'.cell? ⟨g, 0, none⟩ = some (.slice Bs ss.length ds) ∧ w'.cell? ⟨g, 1, none⟩ = some (.slice Bt ts.length dt) ∧ Below W.heap.size W w')
      (first | exact keep5 (by assumption) (by assumption) | exact ⟨e1, e2, e3, g0, g1, below_drew (Below.refl _ _)⟩)
      (first | (go_at_call 51; refine (HWH.out _ ?_).mono ?_; exact below_drew (Below.refl _ _); rintro e w' ⟨rfl, hbx⟩))
    rename_i hH
    have HB1 := Aside0.mk (show Below B W w' from hH.2.2.2.2.2.mono HW.out.2.2.1)
    clear hH e1 e2 e3 g0 g1 hbx HRS HG HWH
    go_wp2
    go_ret
    rw [HT.out]
    exact ⟨rfl, HB1.out, fun h => by cases h⟩

theorem enters {f : Nat} {fn : Func} (hf : Try.prog.funcs[f]? = some fn) (hname : (fn.name == "runtime.NumGoroutine") = false) (hb : fn.body.isSome = true) : ∀ (xs : Array Value) (W : World), (callFunc f xs).run Try.prog W = .ok (.enter f xs) W := fun xs W => Go.Proofs.YtmmiehckgkadgaaW.PrintLast.enters_ hf hname hb xs W
theorem boxes5 (w : World) (o1 o2 o3 o4 o5 : Obj) : Below w.heap.size w (((((w.alloc o1).alloc o2).alloc o3).alloc o4).alloc o5) ∧ (((((w.alloc o1).alloc o2).alloc o3).alloc o4).alloc o5).heap[w.heap.size]? = some o1 ∧ (((((w.alloc o1).alloc o2).alloc o3).alloc o4).alloc o5).heap[w.heap.size + 1]? = some o2 ∧ (((((w.alloc o1).alloc o2).alloc o3).alloc o4).alloc o5).heap[w.heap.size + 1 + 1]? = some o3 ∧ (((((w.alloc o1).alloc o2).alloc o3).alloc o4).alloc o5).heap[w.heap.size + 1 + 1 + 1]? = some o4 ∧ (((((w.alloc o1).alloc o2).alloc o3).alloc o4).alloc o5).heap[w.heap.size + 1 + 1 + 1 + 1]? = some o5 := by
  obtain ⟨h0, h1, h2, h3⟩ := boxes3 w o1 o2 o3
  have e : (((w.alloc o1).alloc o2).alloc o3).heap.size = w.heap.size + 1 + 1 + 1 := by simp
  obtain ⟨k0, k1, k2⟩ := boxes2 (((w.alloc o1).alloc o2).alloc o3) o4 o5
  rw [e] at k1 k2
  exact ⟨below_step h0 k0, blk_below h1 k0, blk_below h2 k0, blk_below h3 k0, k1, k2⟩
/-- what a call gave, laid into a result's box -/
theorem Out.wrap {w W w1 : World} {g : Nat} {vs vt : Value} {ss : List Sch} {ts : List Tab} (hW : Below w.heap.size w W) (hg : w.heap.size ≤ g) (hZ : W.heap[g]? = some (.cells #[.slice none 0 0, .slice none 0 0] 26 (0, 0))) (hs : kSch.R 63 w1 W.heap.size (fun _ => True) vs ss) (ht : kTab.R 35 w1 W.heap.size (fun _ => True) vt ts) (hb : Below W.heap.size W w1) :
    kSch.R 63 ((w1.setCell ⟨g, 0, none⟩ vs).setCell ⟨g, 1, none⟩ vt) w.heap.size (fun _ => True) vs ss ∧ kTab.R 35 ((w1.setCell ⟨g, 0, none⟩ vs).setCell ⟨g, 1, none⟩ vt) w.heap.size (fun _ => True) vt ts ∧ Below w.heap.size w ((w1.setCell ⟨g, 0, none⟩ vs).setCell ⟨g, 1, none⟩ vt) :=
  ⟨R_only (Kd.R_lower hs hW.size) (blk_below hZ hb) (by decide) (set2_far w1 g vs vt), R_only (Kd.R_lower ht hW.size) (blk_below hZ hb) (by decide) (set2_far w1 g vs vt), set2_below (below_step hW hb) hg vs vt⟩
set_option maxRecDepth 20000 in
set_option maxHeartbeats 2000000 in
theorem tableChanged.calls {As At : Option Addr} {cs ct : Nat} (f : Nat) (caps : Array Value) (hent : ∀ (xs : Array Value) (W : World), (callFunc f xs).run Try.prog W = .ok (.enter f xs) W) (ss : List Sch) (ts : List Tab) (schema table : ByteArray) (md : Tab → Int × Tab) (w : World) (hs : kSch.C w As ss.length ss) (hsl : ss.length ≤ 3000) (ht : kTab.C w At ts.length ts) (hF : TabsF ts) (hB : TabsB ts)
    (hin : checkB ss ts = true → Inner f caps w ss ts md) :
    Calls Try.prog 54 #[.agg #[.slice As ss.length cs, .slice At ts.length ct], .string schema, .string table, .func (.func f) #[] caps] w (Out w (chg ss ts (tch ss ts schema table md))) := by
  have H5 := Aside0.mk (boxes5 w (.cells #[.slice As ss.length cs, .slice At ts.length ct] 26) (.cells #[.string schema] 9) (.cells #[.string table] 9) (.cells #[.func (.func f) #[] caps] 74) (.cells #[.slice none 0 0, .slice none 0 0] 26))
  have HCH := Aside0.mk (fun (W : World) (hW : Below w.heap.size w W) (p1 p2 p3 : Nat) (h1 : W.cell? ⟨p1, 0, none⟩ = some (.string schema)) (h2 : W.cell? ⟨p2, 0, none⟩ = some (.string table)) (h3 : W.cell? ⟨p3, 0, none⟩ = some (.func (.func f) #[] caps)) =>
    changed.calls (As := As) (At := At) (cs := cs) (ct := ct) 102 #[.pointer (some ⟨p1, 0, none⟩), .pointer (some ⟨p2, 0, none⟩), .pointer (some ⟨p3, 0, none⟩)] ss ts (tch ss ts schema table md) W (Kd.C_below hs hW) hsl (Kd.C_below ht hW) hF hB (enters Try.func102 (by decide) rfl)
      (fun hck B g Bs ds Bt dt W2 hW2 hle hM => tableChanged1.calls f caps hent ss ts schema table md W p1 p2 p3 h1 h2 h3 hB.1 (fun k hk B W' Bs' ds' g' dt' hA => hin hck k hk B W' Bs' ds' g' dt' ⟨below_step hW hA.1, Nat.le_trans hW.size hA.2.1, hA.2.2⟩) B g Bs ds Bt dt W2 hW2 hle hM))
  clear hs ht hF hB hin
  generalize hq : chg ss ts (tch ss ts schema table md) = q at *
  clear hq
  go_enter Try.func54, Try.ntmps54
  go_wp2_with fail
  refine (HCH.out _ H5.out.1 (w.heap.size + 1) (w.heap.size + 1 + 1) (w.heap.size + 1 + 1 + 1) ((blk_cell H5.out.2.2.1 0).trans rfl) ((blk_cell H5.out.2.2.2.1 0).trans rfl) ((blk_cell H5.out.2.2.2.2.1 0).trans rfl)).mono ?_
  rintro e w1 ⟨vs, vt, rfl, h1, h2, hb⟩
  obtain ⟨Es, es, rfl⟩ := Kd.R_slice h1
  obtain ⟨Et, et, rfl⟩ := Kd.R_slice h2
  have hZ1 := blk_below H5.out.2.2.2.2.2 hb
  have z0 : w1.cell? ⟨w.heap.size + 1 + 1 + 1 + 1, 0, none⟩ = some (.slice none 0 0) := (blk_cell hZ1 0).trans rfl
  have z1 : w1.cell? ⟨w.heap.size + 1 + 1 + 1 + 1, 1, none⟩ = some (.slice none 0 0) := (blk_cell hZ1 1).trans rfl
  have f0 := blk_frozen hZ1 0
  have f1 := blk_frozen hZ1 1
  have HX := Aside0.mk (Out.wrap (g := w.heap.size + 1 + 1 + 1 + 1) H5.out.1 (by omega) H5.out.2.2.2.2.2 h1 h2 hb)
  clear h1 h2 hb hZ1 H5 HCH
  go_wp2
  refine bodyPost_ret (v := .tuple #[.agg #[.slice Es q.2.1.length es, .slice Et q.2.2.length et], .int .i64 q.1]) (by simp [results, Try.results54, go_sem, *]) rfl ?_
  exact ⟨_, _, rfl, HX.out⟩
end Go.Proofs.Ytmmiehckgkadgaa.O
namespace Go.Proofs.Ytmmiehckgkadgaa.O
set_option linter.unusedVariables false
set_option linter.unusedSimpArgs false
open Go.RowKit Go.Proofs.YtmmiehckgkadgaaW.PrintWords

/-- table k of one's own: its cells, its columns and rules, and what a store into it leaves -/
theorem S_table {B g dt : Nat} {W : World} {ts : List Tab} (h : Kd.S kTab 35 W B (fun _ => True) (.slice (some ⟨g, 0, none⟩) ts.length dt) ts) (k : Nat) (hk : k < ts.length) : ∃ (oki : Nat → Prop) (v3 v4 : Value),
    W.cell? ⟨g, k * 5, none⟩ = some (.string ts[k].schema) ∧ W.cell? ⟨g, k * 5 + 1, none⟩ = some (.string ts[k].name) ∧ W.cell? ⟨g, k * 5 + 2, none⟩ = some (.string ts[k].owner) ∧ W.cell? ⟨g, k * 5 + 3, none⟩ = some v3 ∧ W.cell? ⟨g, k * 5 + 4, none⟩ = some v4 ∧ (∀ j, W.frozen? ⟨g, k * 5 + j, none⟩ = false) ∧
    kCol.R 41 W B oki v3 ts[k].cols ∧ kRul.R 57 W B oki v4 ts[k].rules ∧ (∀ q, oki q → q ≠ g) ∧ Kd.H kTab 35 W B (fun _ => True) (.slice (some ⟨g, 0, none⟩) ts.length dt) ts (k : Int) oki [.string ts[k].schema, .string ts[k].name, .string ts[k].owner, v3, v4] := by
  obtain ⟨oki, c, hcl, hM, hc, hf, ho, hH⟩ := Kd.S_elem h zTab (k : Int) (by omega) (by omega)
  rw [Int.toNat_natCast, List.getD_eq_getElem?_getD, List.getElem?_eq_getElem hk] at hM
  rw [Int.toNat_natCast] at hc hf
  obtain ⟨v3, v4, rfl, h3, h4⟩ := kTab_openM hM
  exact ⟨oki, v3, v4, hc 0 _ rfl, hc 1 _ rfl, hc 2 _ rfl, hc 3 _ rfl, hc 4 _ rfl, hf, h3, h4, fun q hq => (ho q hq).2, hH⟩
theorem Col.eta (c : Col) : c = ⟨c.name, c.kind, c.null⟩ := rfl

set_option maxRecDepth 20000 in
set_option maxHeartbeats 2000000 in
theorem SetOwner1.calls (ss : List Sch) (ts : List Tab) (owner : ByteArray) (w : World) (p : Nat) (hp : w.cell? ⟨p, 0, none⟩ = some (.string owner)) (hln : ts.length ≤ 3000) :
    Inner 55 #[.pointer (some ⟨p, 0, none⟩)] w ss ts (fun t => (0, { t with owner := owner })) := by
  intro k hk B W Bs ds g dt hA
  show Calls Try.prog 55 #[.agg #[.slice Bs ss.length ds, .slice (some ⟨g, 0, none⟩) ts.length dt], .pointer (some ⟨g, k * 5, none⟩), .pointer (some ⟨p, 0, none⟩)] W _
  obtain ⟨hW, hwB, hBW, hR, hS⟩ := hA
  obtain ⟨hB1, hX1⟩ := boxes1 W (.cells #[.slice Bs ss.length ds, .slice (some ⟨g, 0, none⟩) ts.length dt] 26)
  have hp1 : ∀ o, (W.alloc o).cell? ⟨p, 0, none⟩ = some (.string owner) := fun o => pw_cell_below (below_alloc hW o) hp
  have hS1 := Kd.S_below hS hB1
  obtain ⟨oki, v3, v4, c0, c1, c2, c3, c4, hf, h3, h4, ho, hH⟩ := S_table hS1 k hk
  have hf2 := hf 2
  have hseg := Kd.S_seg (okg := fun _ => False) (okp := oki) (Kd.H_mono hH (fun q hq => ⟨trivial, id⟩)) (by omega) (by omega) (j := 2) (seg := [.string owner]) (Nat.le_of_ble_eq_true rfl) (x' := { ts[k] with owner := owner }) (kTab_mkM _ _ _ { ts[k] with owner := owner } h3 h4) (fun q hq => .inl hq) (fun q hq => hq.elim)
  rw [Int.toNat_natCast, show (W.alloc (.cells #[.slice Bs ss.length ds, .slice (some ⟨g, 0, none⟩) ts.length dt] 26)).setCells g (k * kTab.sz + 2) [.string owner] = (W.alloc (.cells #[.slice Bs ss.length ds, .slice (some ⟨g, 0, none⟩) ts.length dt] 26)).setCell ⟨g, k * 5 + 2, none⟩ (.string owner) from rfl] at hseg
  obtain ⟨cells, hgc⟩ := Kd.S_typed hS1 g rfl
  have hgB : B ≤ g := Kd.S_base hS1 g rfl
  have HX := Aside0.mk (show InDid B W ss ts k Bs ds g dt (0, { ts[k] with owner := owner }) (.returned (.int .i64 0)) ((W.alloc (.cells #[.slice Bs ss.length ds, .slice (some ⟨g, 0, none⟩) ts.length dt] 26)).setCell ⟨g, k * 5 + 2, none⟩ (.string owner)) from
    ⟨rfl, (hB1.mono hBW).setCell hgB _, fun q cs hq => blk_far (p := ⟨g, k * 5 + 2, none⟩) (blk_below hq hB1) (blk_ne (blk_below hq hB1) hgc (by decide)) _, fun _ => ⟨Kd.R_set (Kd.R_below hR hB1) hgc (by decide) _ _, hseg.1⟩⟩)
  clear hW hwB hBW hR hS hB1 hX1 hp hS1 c0 c1 c3 c4 hf h3 h4 ho hH hseg hgc hgB
  go_enter Try.func55, Try.ntmps55
  go_wp2
  go_ret
  exact HX.out

def setOwner (ss : List Sch) (ts : List Tab) (schema table owner : ByteArray) : Res := if checkB ss ts = true then (if nameB owner = true then tch ss ts schema table (fun t => (0, { t with owner := owner })) else (1, [], [])) else (63, [], [])
theorem tch_zero (ss : List Sch) (ts : List Tab) (schema table : ByteArray) (md : Tab → Int × Tab) : chg ss ts (tch ss ts schema table md) = if checkB ss ts = true then (if (tch ss ts schema table md).1 = 0 then tch ss ts schema table md else ((tch ss ts schema table md).1, [], [])) else (63, [], []) := rfl
theorem chg_bad {ss : List Sch} {ts : List Tab} (r : Res) (h : checkB ss ts = false) : chg ss ts r = (63, [], []) := by unfold chg; rw [h]; rfl
theorem chg_norm {ss : List Sch} {ts : List Tab} {r : Res} (h : checkB ss ts = true) (hn : r.1 ≠ 0 → r.2 = ([], [])) : chg ss ts r = r := by
  unfold chg
  rw [if_pos h]
  by_cases h0 : r.1 = 0
  · rw [if_pos h0]
  · rw [if_neg h0]; obtain ⟨a, b⟩ := r; rw [← hn h0]
theorem chg_own {ss : List Sch} {ts : List Tab} (schema table owner : ByteArray) (h : checkB ss ts = true) : chg ss ts (tch ss ts schema table (fun t => (0, { t with owner := owner }))) = tch ss ts schema table (fun t => (0, { t with owner := owner })) := by
  refine chg_norm h fun hn => ?_
  unfold tch at hn ⊢
  by_cases hi : 0 ≤ idx (isT schema table) ts
  · rw [if_pos hi] at hn; exact absurd rfl hn
  · rw [if_neg hi]
theorem zeroOut {w w1 : World} {g : Nat} {n : Int} (hb : Below w.heap.size w w1) (hg : w.heap.size ≤ g) : Out w (n, [], []) (.returned (.tuple #[.agg #[.slice none 0 0, .slice none 0 0], .int .i64 n])) ((w1.setCell ⟨g, 0, none⟩ (.slice none 0 0)).setCell ⟨g, 1, none⟩ (.slice none 0 0)) := ⟨_, _, rfl, Kd.R_nil _ _ _ _ _, Kd.R_nil _ _ _ _ _, set2_below hb hg _ _⟩
set_option maxRecDepth 20000 in
set_option maxHeartbeats 2000000 in
theorem SetOwner.calls {As At : Option Addr} {cs ct : Nat} (ss : List Sch) (ts : List Tab) (schema table owner : ByteArray) (w : World) (hs : kSch.C w As ss.length ss) (hsl : ss.length ≤ 3000) (ht : kTab.C w At ts.length ts) (hF : TabsF ts) (hB : TabsB ts) :
    Calls Try.prog 19 #[.agg #[.slice As ss.length cs, .slice At ts.length ct], .string schema, .string table, .string owner] w (Out w (setOwner ss ts schema table owner)) := by
  have H3 := Aside0.mk (boxes3 w (.cells #[.slice As ss.length cs, .slice At ts.length ct] 26) (.cells #[.string owner] 9) (.cells #[.slice none 0 0, .slice none 0 0] 26))
  have HCK := Aside0.mk (fun W (hW : Below w.heap.size w W) => Check.calls (As := As) (cs := cs) (At := At) (ct := ct) ss ts W (Kd.C_below hs hW) (by omega) (Kd.C_below ht hW) hF)
  have HT := Aside0.mk (fun (W : World) (hW : Below w.heap.size w W) (p : Nat) (hp : W.cell? ⟨p, 0, none⟩ = some (.string owner)) => tableChanged.calls (As := As) (At := At) (cs := cs) (ct := ct) 55 #[.pointer (some ⟨p, 0, none⟩)] (enters Try.func55 (by decide) rfl) ss ts schema table _ W (Kd.C_below hs hW) hsl (Kd.C_below ht hW) hF hB (fun _ => SetOwner1.calls ss ts owner W p hp hB.1))
  have HN := Aside0.mk (fun W => Name.calls owner W)
  clear hs ht hF hB
  cases hck : checkB ss ts with
  | false =>
    have HE : Aside0 (checkE ss ts = 63) := ⟨by unfold checkE; rw [hck]; rfl⟩
    have HQ : Aside0 (setOwner ss ts schema table owner = chg ss ts (tch ss ts schema table (fun t => (0, { t with owner := owner })))) := ⟨by rw [chg_bad _ hck]; unfold setOwner; rw [hck]; rfl⟩
    clear hck
    rw [HQ.out]
    clear HQ HN
    generalize chg ss ts (tch ss ts schema table (fun t => (0, { t with owner := owner }))) = q at *
    go_enter Try.func19, Try.ntmps19
    go_wp2_with fail
    refine (HCK.out _ H3.out.1).mono ?_
    rintro e w1 ⟨rfl, hb1⟩
    rw [HE.out]
    have hK1 := blk_below H3.out.2.1 hb1
    have c0 : w1.cell? ⟨w.heap.size, 0, none⟩ = some (.slice As ss.length cs) := (blk_cell hK1 0).trans rfl
    have c1 : w1.cell? ⟨w.heap.size, 1, none⟩ = some (.slice At ts.length ct) := (blk_cell hK1 1).trans rfl
    have HP := Aside0.mk (show w1.cell? ⟨w.heap.size + 1, 0, none⟩ = some (.string owner) from (blk_cell (blk_below H3.out.2.2.1 hb1) 0).trans rfl)
    have HZ1 := Aside0.mk (blk_below H3.out.2.2.2 hb1)
    have HB1 := Aside0.mk (below_step H3.out.1 hb1)
    clear hb1 hK1 HCK HE H3
    go_wp2_with fail
    refine (HT.out _ HB1.out _ HP.out).mono ?_
    rintro e w2 ⟨vs, vt, rfl, h1, h2, hb⟩
    obtain ⟨Es, es, rfl⟩ := Kd.R_slice h1
    obtain ⟨Et, et, rfl⟩ := Kd.R_slice h2
    have hZ2 := blk_below HZ1.out hb
    have z0 : w2.cell? ⟨w.heap.size + 1 + 1, 0, none⟩ = some (.slice none 0 0) := (blk_cell hZ2 0).trans rfl
    have z1 : w2.cell? ⟨w.heap.size + 1 + 1, 1, none⟩ = some (.slice none 0 0) := (blk_cell hZ2 1).trans rfl
    have f0 := blk_frozen hZ2 0
    have f1 := blk_frozen hZ2 1
    have HX := Aside0.mk (Out.wrap (g := w.heap.size + 1 + 1) HB1.out (by omega) HZ1.out h1 h2 hb)
    clear h1 h2 hb hZ2 HZ1 HB1 HT c0 c1 HP
    go_wp2
    refine bodyPost_ret (v := .tuple #[.agg #[.slice Es q.2.1.length es, .slice Et q.2.2.length et], .int .i64 q.1]) (by simp [results, Try.results19, go_sem, *]) rfl ?_
    exact ⟨_, _, rfl, HX.out⟩
  | true =>
    have HE : Aside0 (checkE ss ts = 0) := ⟨by unfold checkE; rw [hck]; rfl⟩
    cases hnm : nameB owner with
    | false =>
      have HQ : Aside0 (setOwner ss ts schema table owner = (1, [], [])) := ⟨by unfold setOwner; rw [hck, hnm]; rfl⟩
      rw [hnm] at HN
      clear hck hnm HT
      rw [HQ.out]
      go_enter Try.func19, Try.ntmps19
      go_wp2_with fail
      refine (HCK.out _ H3.out.1).mono ?_
      rintro e w1 ⟨rfl, hb1⟩
      rw [HE.out]
      have hK1 := blk_below H3.out.2.1 hb1
      have c0 : w1.cell? ⟨w.heap.size, 0, none⟩ = some (.slice As ss.length cs) := (blk_cell hK1 0).trans rfl
      have c1 : w1.cell? ⟨w.heap.size, 1, none⟩ = some (.slice At ts.length ct) := (blk_cell hK1 1).trans rfl
      have hP : w1.cell? ⟨w.heap.size + 1, 0, none⟩ = some (.string owner) := (blk_cell (blk_below H3.out.2.2.1 hb1) 0).trans rfl
      have HP := Aside0.mk (show w1.cell? ⟨w.heap.size + 1, 0, none⟩ = some (.string owner) from (blk_cell (blk_below H3.out.2.2.1 hb1) 0).trans rfl)
      have HZ1 := Aside0.mk (blk_below H3.out.2.2.2 hb1)
      have HB1 := Aside0.mk (below_step H3.out.1 hb1)
      clear hb1 hK1 HCK HE H3
      go_wp2_with fail
      refine (HN.out _).mono ?_
      rintro e w2 ⟨rfl, rfl⟩
      have z0 : w1.cell? ⟨w.heap.size + 1 + 1, 0, none⟩ = some (.slice none 0 0) := (blk_cell HZ1.out 0).trans rfl
      have z1 : w1.cell? ⟨w.heap.size + 1 + 1, 1, none⟩ = some (.slice none 0 0) := (blk_cell HZ1.out 1).trans rfl
      have f0 := blk_frozen HZ1.out 0
      have f1 := blk_frozen HZ1.out 1
      have HX := Aside0.mk (zeroOut (g := w.heap.size + 1 + 1) (n := 1) HB1.out (by omega))
      clear HZ1 HB1 HP c0 c1 HN HQ
      go_wp2
      refine bodyPost_ret (v := .tuple #[.agg #[.slice none 0 0, .slice none 0 0], .int .i64 1]) (by simp [results, Try.results19, go_sem, *]) rfl ?_
      exact HX.out
    | true =>
      have HQ : Aside0 (setOwner ss ts schema table owner = chg ss ts (tch ss ts schema table (fun t => (0, { t with owner := owner })))) := ⟨by rw [chg_own _ _ _ hck]; unfold setOwner; rw [hck, hnm]; rfl⟩
      rw [hnm] at HN
      clear hck hnm
      rw [HQ.out]
      clear HQ
      generalize chg ss ts (tch ss ts schema table (fun t => (0, { t with owner := owner }))) = q at *
      go_enter Try.func19, Try.ntmps19
      go_wp2_with fail
      refine (HCK.out _ H3.out.1).mono ?_
      rintro e w1 ⟨rfl, hb1⟩
      rw [HE.out]
      have hK1 := blk_below H3.out.2.1 hb1
      have c0 : w1.cell? ⟨w.heap.size, 0, none⟩ = some (.slice As ss.length cs) := (blk_cell hK1 0).trans rfl
      have c1 : w1.cell? ⟨w.heap.size, 1, none⟩ = some (.slice At ts.length ct) := (blk_cell hK1 1).trans rfl
      have hP : w1.cell? ⟨w.heap.size + 1, 0, none⟩ = some (.string owner) := (blk_cell (blk_below H3.out.2.2.1 hb1) 0).trans rfl
      have HP := Aside0.mk (show w1.cell? ⟨w.heap.size + 1, 0, none⟩ = some (.string owner) from (blk_cell (blk_below H3.out.2.2.1 hb1) 0).trans rfl)
      have HZ1 := Aside0.mk (blk_below H3.out.2.2.2 hb1)
      have HB1 := Aside0.mk (below_step H3.out.1 hb1)
      clear hb1 hK1 HCK HE H3
      go_wp2_with fail
      refine (HN.out _).mono ?_
      rintro e w2 ⟨rfl, rfl⟩
      clear HN
      go_wp2_with fail
      refine (HT.out _ HB1.out _ HP.out).mono ?_
      rintro e w2 ⟨vs, vt, rfl, h1, h2, hb⟩
      obtain ⟨Es, es, rfl⟩ := Kd.R_slice h1
      obtain ⟨Et, et, rfl⟩ := Kd.R_slice h2
      have hZ2 := blk_below HZ1.out hb
      have z0 : w2.cell? ⟨w.heap.size + 1 + 1, 0, none⟩ = some (.slice none 0 0) := (blk_cell hZ2 0).trans rfl
      have z1 : w2.cell? ⟨w.heap.size + 1 + 1, 1, none⟩ = some (.slice none 0 0) := (blk_cell hZ2 1).trans rfl
      have f0 := blk_frozen hZ2 0
      have f1 := blk_frozen hZ2 1
      have HX := Aside0.mk (Out.wrap (g := w.heap.size + 1 + 1) HB1.out (by omega) HZ1.out h1 h2 hb)
      clear h1 h2 hb hZ2 HZ1 HB1 HT c0 c1 HP
      go_wp2
      refine bodyPost_ret (v := .tuple #[.agg #[.slice Es q.2.1.length es, .slice Et q.2.2.length et], .int .i64 q.1]) (by simp [results, Try.results19, go_sem, *]) rfl ?_
      exact ⟨_, _, rfl, HX.out⟩
end Go.Proofs.Ytmmiehckgkadgaa.O
namespace Go.Proofs.Ytmmiehckgkadgaa.O
set_option linter.unusedVariables false
set_option linter.unusedSimpArgs false
open Go.RowKit Go.Proofs.YtmmiehckgkadgaaW.PrintWords

set_option maxHeartbeats 400000 in
theorem rNo.calls (n : Int) (w : World) : Calls Try.prog 56 #[.int .i64 n] w fun e w' => e = .returned (.tuple #[.agg #[.slice none 0 0, .slice none 0 0], .int .i64 n]) ∧ Below w.heap.size w w' := by
  have HX := Aside0.mk (below_alloc (Below.refl w.heap.size w) (.cells #[.slice none 0 0, .slice none 0 0] 26))
  go_enter Try.func56, Try.ntmps56
  go_wp2
  refine bodyPost_ret (v := .tuple #[.agg #[.slice none 0 0, .slice none 0 0], .int .i64 n]) (by simp [results, Try.results56, go_sem, *]) rfl ?_
  exact ⟨rfl, HX.out⟩
theorem S_owner {B g dt : Nat} {W : World} {ts : List Tab} (h : Kd.S kTab 35 W B (fun _ => True) (.slice (some ⟨g, 0, none⟩) ts.length dt) ts) (k : Nat) (hk : k < ts.length) (owner : ByteArray) :
    W.cell? ⟨g, k * 5 + 2, none⟩ = some (.string ts[k].owner) ∧ W.frozen? ⟨g, k * 5 + 2, none⟩ = false ∧ Kd.S kTab 35 (W.setCell ⟨g, k * 5 + 2, none⟩ (.string owner)) B (fun _ => True) (.slice (some ⟨g, 0, none⟩) ts.length dt) (ts.set k { ts[k] with owner := owner }) ∧ (∃ cells, W.heap[g]? = some (.cells cells 35 (0, 0))) ∧ B ≤ g := by
  obtain ⟨oki, v3, v4, c0, c1, c2, c3, c4, hf, h3, h4, ho, hH⟩ := S_table h k hk
  have hseg := Kd.S_seg (okg := fun _ => False) (okp := oki) (Kd.H_mono hH (fun q hq => ⟨trivial, id⟩)) (by omega) (by omega) (j := 2) (seg := [.string owner]) (Nat.le_of_ble_eq_true rfl) (x' := { ts[k] with owner := owner }) (kTab_mkM _ _ _ { ts[k] with owner := owner } h3 h4) (fun q hq => .inl hq) (fun q hq => hq.elim)
  rw [Int.toNat_natCast, show W.setCells g (k * kTab.sz + 2) [.string owner] = W.setCell ⟨g, k * 5 + 2, none⟩ (.string owner) from rfl] at hseg
  exact ⟨c2, hf 2, hseg.1, Kd.S_typed h g rfl, Kd.S_base h g rfl⟩
theorem S_addr {B : Nat} {Bt : Option Addr} {dt n : Nat} {W : World} {ts : List Tab} (h : Kd.S kTab 35 W B (fun _ => True) (.slice Bt n dt) ts) (hk : 0 < ts.length) : ∃ g, Bt = some ⟨g, 0, none⟩ := by
  obtain ⟨gt, cap, hv, _⟩ := Kd.S_form h hk
  injection hv with hA _ _
  exact ⟨gt, hA⟩

set_option maxRecDepth 20000 in
set_option maxHeartbeats 4000000 in
theorem rSetOwner.calls {As At : Option Addr} {cs ct : Nat} (ss : List Sch) (ts : List Tab) (schema table owner : ByteArray) (w : World) (hs : kSch.C w As ss.length ss) (hsl : ss.length ≤ 3000) (ht : kTab.C w At ts.length ts) (hF : TabsF ts) (hB : TabsB ts) :
    Calls Try.prog 20 #[.agg #[Value.slice As ss.length cs, Value.slice At ts.length ct], .string schema, .string table, .string owner] w (Out w (setOwner ss ts schema table owner)) := by
  have HX0 := Aside0.mk (boxes2 w (.cells #[Value.slice As ss.length cs, Value.slice At ts.length ct] 26) (.cells #[.slice none 0 0, .slice none 0 0] 26))
  have HCK := Aside0.mk (fun W (hW : Below w.heap.size w W) => rRightAll.calls (As := As) (cs := cs) (At := At) (ct := ct) ss ts W (Kd.C_below hs hW) (by omega) (Kd.C_below ht hW) hF)
  have HOW := Aside0.mk (fun W (hW : Below w.heap.size w W) => rOwn.calls (As := As) (cs := cs) (At := At) (ct := ct) ss ts W (Kd.C_below hs hW) hsl (Kd.C_below ht hW) hB)
  have HTB := Aside0.mk (fun W (hW : Below w.heap.size w W) => rTable.calls (As := As) (ns := ss.length) (cs := cs) (A0 := At) (c0 := ct) schema table ts W (Kd.C_below ht hW) (by have := hB.1; omega))
  have HN := Aside0.mk (fun W => rName.calls owner W)
  have HNO := Aside0.mk (fun n W => rNo.calls n W)
  have hln : ts.length ≤ 3000 := hB.1
  clear hs ht hF hB
  cases hck : checkB ss ts with
  | false =>
    have HQ : Aside0 (setOwner ss ts schema table owner = (63, [], [])) := ⟨by unfold setOwner; rw [hck]; rfl⟩
    rw [hck] at HCK
    rw [HQ.out]
    clear hck HQ HN HOW HTB
    go_enter Try.func20, Try.ntmps20
    have c_o0 : ((w.alloc (.cells #[Value.slice As ss.length cs, Value.slice At ts.length ct] 26)).alloc (.cells #[Value.slice none 0 0, Value.slice none 0 0] 26)).cell? ⟨w.heap.size, 0, none⟩ = some (Value.slice As ss.length cs) := (blk_cell HX0.out.2.1 0).trans rfl
    have f_o0 := blk_frozen HX0.out.2.1 0
    have c_o1 : ((w.alloc (.cells #[Value.slice As ss.length cs, Value.slice At ts.length ct] 26)).alloc (.cells #[Value.slice none 0 0, Value.slice none 0 0] 26)).cell? ⟨w.heap.size, 1, none⟩ = some (Value.slice At ts.length ct) := (blk_cell HX0.out.2.1 1).trans rfl
    have f_o1 := blk_frozen HX0.out.2.1 1
    have c_z0 : ((w.alloc (.cells #[Value.slice As ss.length cs, Value.slice At ts.length ct] 26)).alloc (.cells #[Value.slice none 0 0, Value.slice none 0 0] 26)).cell? ⟨w.heap.size + 1, 0, none⟩ = some (Value.slice none 0 0) := (blk_cell HX0.out.2.2 0).trans rfl
    have f_z0 := blk_frozen HX0.out.2.2 0
    have c_z1 : ((w.alloc (.cells #[Value.slice As ss.length cs, Value.slice At ts.length ct] 26)).alloc (.cells #[Value.slice none 0 0, Value.slice none 0 0] 26)).cell? ⟨w.heap.size + 1, 1, none⟩ = some (Value.slice none 0 0) := (blk_cell HX0.out.2.2 1).trans rfl
    have f_z1 := blk_frozen HX0.out.2.2 1
    go_wp2_with fail
    clear c_o0 f_o0 c_o1 f_o1 c_z0 f_z0 c_z1 f_z1
    refine (HCK.out _ HX0.out.1).mono ?_
    rintro e w1 ⟨rfl, hb1⟩
    have HB1 := Aside0.mk (below_step (HX0.out.1) hb1)
    have HK1 := Aside0.mk (blk_below (HX0.out.2.1) hb1)
    have HK2 := Aside0.mk (blk_below (HX0.out.2.2) hb1)
    have HS1 := Aside0.mk hb1
    clear hb1
    have c_o0 : w1.cell? ⟨w.heap.size, 0, none⟩ = some (Value.slice As ss.length cs) := (blk_cell HK1.out 0).trans rfl
    have f_o0 := blk_frozen HK1.out 0
    have c_o1 : w1.cell? ⟨w.heap.size, 1, none⟩ = some (Value.slice At ts.length ct) := (blk_cell HK1.out 1).trans rfl
    have f_o1 := blk_frozen HK1.out 1
    have c_z0 : w1.cell? ⟨w.heap.size + 1, 0, none⟩ = some (Value.slice none 0 0) := (blk_cell HK2.out 0).trans rfl
    have f_z0 := blk_frozen HK2.out 0
    have c_z1 : w1.cell? ⟨w.heap.size + 1, 1, none⟩ = some (Value.slice none 0 0) := (blk_cell HK2.out 1).trans rfl
    have f_z1 := blk_frozen HK2.out 1
    go_wp2_with fail
    clear c_o0 f_o0 c_o1 f_o1 c_z0 f_z0 c_z1 f_z1
    refine (HNO.out _ _).mono ?_
    rintro e w2 ⟨rfl, hb2⟩
    have HB2 := Aside0.mk (below_step (HB1.out) hb2)
    have HK3 := Aside0.mk (blk_below (HK1.out) hb2)
    have HK4 := Aside0.mk (blk_below (HK2.out) hb2)
    have HS2 := Aside0.mk hb2
    clear hb2
    have c_o0 : w2.cell? ⟨w.heap.size, 0, none⟩ = some (Value.slice As ss.length cs) := (blk_cell HK3.out 0).trans rfl
    have f_o0 := blk_frozen HK3.out 0
    have c_o1 : w2.cell? ⟨w.heap.size, 1, none⟩ = some (Value.slice At ts.length ct) := (blk_cell HK3.out 1).trans rfl
    have f_o1 := blk_frozen HK3.out 1
    have c_z0 : w2.cell? ⟨w.heap.size + 1, 0, none⟩ = some (Value.slice none 0 0) := (blk_cell HK4.out 0).trans rfl
    have f_z0 := blk_frozen HK4.out 0
    have c_z1 : w2.cell? ⟨w.heap.size + 1, 1, none⟩ = some (Value.slice none 0 0) := (blk_cell HK4.out 1).trans rfl
    have f_z1 := blk_frozen HK4.out 1
    go_wp2
    refine bodyPost_ret (v := .tuple #[.agg #[.slice none 0 0, .slice none 0 0], .int .i64 63]) (by simp [results, Try.results20, go_sem, *]) rfl ?_
    exact zeroOut (g := w.heap.size + 1) (n := 63) HB2.out (by omega)
  | true =>
    rw [hck] at HCK
    cases hnm : nameB owner with
    | false =>
      have HQ : Aside0 (setOwner ss ts schema table owner = (1, [], [])) := ⟨by unfold setOwner; rw [hck, hnm]; rfl⟩
      rw [hnm] at HN
      rw [HQ.out]
      clear hck hnm HQ HOW HTB
      go_enter Try.func20, Try.ntmps20
      have c_o0 : ((w.alloc (.cells #[Value.slice As ss.length cs, Value.slice At ts.length ct] 26)).alloc (.cells #[Value.slice none 0 0, Value.slice none 0 0] 26)).cell? ⟨w.heap.size, 0, none⟩ = some (Value.slice As ss.length cs) := (blk_cell HX0.out.2.1 0).trans rfl
      have f_o0 := blk_frozen HX0.out.2.1 0
      have c_o1 : ((w.alloc (.cells #[Value.slice As ss.length cs, Value.slice At ts.length ct] 26)).alloc (.cells #[Value.slice none 0 0, Value.slice none 0 0] 26)).cell? ⟨w.heap.size, 1, none⟩ = some (Value.slice At ts.length ct) := (blk_cell HX0.out.2.1 1).trans rfl
      have f_o1 := blk_frozen HX0.out.2.1 1
      have c_z0 : ((w.alloc (.cells #[Value.slice As ss.length cs, Value.slice At ts.length ct] 26)).alloc (.cells #[Value.slice none 0 0, Value.slice none 0 0] 26)).cell? ⟨w.heap.size + 1, 0, none⟩ = some (Value.slice none 0 0) := (blk_cell HX0.out.2.2 0).trans rfl
      have f_z0 := blk_frozen HX0.out.2.2 0
      have c_z1 : ((w.alloc (.cells #[Value.slice As ss.length cs, Value.slice At ts.length ct] 26)).alloc (.cells #[Value.slice none 0 0, Value.slice none 0 0] 26)).cell? ⟨w.heap.size + 1, 1, none⟩ = some (Value.slice none 0 0) := (blk_cell HX0.out.2.2 1).trans rfl
      have f_z1 := blk_frozen HX0.out.2.2 1
      go_wp2_with fail
      clear c_o0 f_o0 c_o1 f_o1 c_z0 f_z0 c_z1 f_z1
      refine (HCK.out _ HX0.out.1).mono ?_
      rintro e w1 ⟨rfl, hb1⟩
      have HB1 := Aside0.mk (below_step (HX0.out.1) hb1)
      have HK1 := Aside0.mk (blk_below (HX0.out.2.1) hb1)
      have HK2 := Aside0.mk (blk_below (HX0.out.2.2) hb1)
      have HS1 := Aside0.mk hb1
      clear hb1
      have c_o0 : w1.cell? ⟨w.heap.size, 0, none⟩ = some (Value.slice As ss.length cs) := (blk_cell HK1.out 0).trans rfl
      have f_o0 := blk_frozen HK1.out 0
      have c_o1 : w1.cell? ⟨w.heap.size, 1, none⟩ = some (Value.slice At ts.length ct) := (blk_cell HK1.out 1).trans rfl
      have f_o1 := blk_frozen HK1.out 1
      have c_z0 : w1.cell? ⟨w.heap.size + 1, 0, none⟩ = some (Value.slice none 0 0) := (blk_cell HK2.out 0).trans rfl
      have f_z0 := blk_frozen HK2.out 0
      have c_z1 : w1.cell? ⟨w.heap.size + 1, 1, none⟩ = some (Value.slice none 0 0) := (blk_cell HK2.out 1).trans rfl
      have f_z1 := blk_frozen HK2.out 1
      go_wp2_with fail
      clear c_o0 f_o0 c_o1 f_o1 c_z0 f_z0 c_z1 f_z1
      refine (HN.out _).mono ?_
      rintro e w_ ⟨rfl, rfl⟩
      have c_o0 : w1.cell? ⟨w.heap.size, 0, none⟩ = some (Value.slice As ss.length cs) := (blk_cell HK1.out 0).trans rfl
      have f_o0 := blk_frozen HK1.out 0
      have c_o1 : w1.cell? ⟨w.heap.size, 1, none⟩ = some (Value.slice At ts.length ct) := (blk_cell HK1.out 1).trans rfl
      have f_o1 := blk_frozen HK1.out 1
      have c_z0 : w1.cell? ⟨w.heap.size + 1, 0, none⟩ = some (Value.slice none 0 0) := (blk_cell HK2.out 0).trans rfl
      have f_z0 := blk_frozen HK2.out 0
      have c_z1 : w1.cell? ⟨w.heap.size + 1, 1, none⟩ = some (Value.slice none 0 0) := (blk_cell HK2.out 1).trans rfl
      have f_z1 := blk_frozen HK2.out 1
      go_wp2_with fail
      clear c_o0 f_o0 c_o1 f_o1 c_z0 f_z0 c_z1 f_z1
      refine (HNO.out _ _).mono ?_
      rintro e w2 ⟨rfl, hb2⟩
      have HB2 := Aside0.mk (below_step (HB1.out) hb2)
      have HK3 := Aside0.mk (blk_below (HK1.out) hb2)
      have HK4 := Aside0.mk (blk_below (HK2.out) hb2)
      have HS2 := Aside0.mk hb2
      clear hb2
      have c_o0 : w2.cell? ⟨w.heap.size, 0, none⟩ = some (Value.slice As ss.length cs) := (blk_cell HK3.out 0).trans rfl
      have f_o0 := blk_frozen HK3.out 0
      have c_o1 : w2.cell? ⟨w.heap.size, 1, none⟩ = some (Value.slice At ts.length ct) := (blk_cell HK3.out 1).trans rfl
      have f_o1 := blk_frozen HK3.out 1
      have c_z0 : w2.cell? ⟨w.heap.size + 1, 0, none⟩ = some (Value.slice none 0 0) := (blk_cell HK4.out 0).trans rfl
      have f_z0 := blk_frozen HK4.out 0
      have c_z1 : w2.cell? ⟨w.heap.size + 1, 1, none⟩ = some (Value.slice none 0 0) := (blk_cell HK4.out 1).trans rfl
      have f_z1 := blk_frozen HK4.out 1
      go_wp2
      refine bodyPost_ret (v := .tuple #[.agg #[.slice none 0 0, .slice none 0 0], .int .i64 1]) (by simp [results, Try.results20, go_sem, *]) rfl ?_
      exact zeroOut (g := w.heap.size + 1) (n := 1) HB2.out (by omega)
    | true =>
      have HQ : Aside0 (setOwner ss ts schema table owner = tch ss ts schema table (fun t => (0, { t with owner := owner }))) := ⟨by unfold setOwner; rw [hck, hnm]; rfl⟩
      rw [hnm] at HN
      clear hck hnm
      rcases idx_cases (isT schema table) ts with ⟨k, hk, hi, hx1, hx2⟩ | ⟨hi, hx1⟩
      · have HT := Aside0.mk (show tch ss ts schema table (fun t => (0, { t with owner := owner })) = (0, ss, ts.set k { ts[k] with owner := owner }) by
          unfold tch; rw [hi, if_pos (by omega), Int.toNat_natCast, List.getD_eq_getElem?_getD, List.getElem?_eq_getElem hk]; rfl)
        rw [HQ.out, HT.out]
        rw [hi] at HTB
        clear hi hx1 hx2 HT HQ HNO
        have h0 : (0 : Int) ≤ (k : Int) := by omega
        have h1 : (k : Int) < (ts.length : Int) := by omega
        have h2 : decide ((k : Int) < 0) = false := decide_eq_false (by omega)
        go_enter Try.func20, Try.ntmps20
        have c_o0 : ((w.alloc (.cells #[Value.slice As ss.length cs, Value.slice At ts.length ct] 26)).alloc (.cells #[Value.slice none 0 0, Value.slice none 0 0] 26)).cell? ⟨w.heap.size, 0, none⟩ = some (Value.slice As ss.length cs) := (blk_cell HX0.out.2.1 0).trans rfl
        have f_o0 := blk_frozen HX0.out.2.1 0
        have c_o1 : ((w.alloc (.cells #[Value.slice As ss.length cs, Value.slice At ts.length ct] 26)).alloc (.cells #[Value.slice none 0 0, Value.slice none 0 0] 26)).cell? ⟨w.heap.size, 1, none⟩ = some (Value.slice At ts.length ct) := (blk_cell HX0.out.2.1 1).trans rfl
        have f_o1 := blk_frozen HX0.out.2.1 1
        have c_z0 : ((w.alloc (.cells #[Value.slice As ss.length cs, Value.slice At ts.length ct] 26)).alloc (.cells #[Value.slice none 0 0, Value.slice none 0 0] 26)).cell? ⟨w.heap.size + 1, 0, none⟩ = some (Value.slice none 0 0) := (blk_cell HX0.out.2.2 0).trans rfl
        have f_z0 := blk_frozen HX0.out.2.2 0
        have c_z1 : ((w.alloc (.cells #[Value.slice As ss.length cs, Value.slice At ts.length ct] 26)).alloc (.cells #[Value.slice none 0 0, Value.slice none 0 0] 26)).cell? ⟨w.heap.size + 1, 1, none⟩ = some (Value.slice none 0 0) := (blk_cell HX0.out.2.2 1).trans rfl
        have f_z1 := blk_frozen HX0.out.2.2 1
        go_wp2_with fail
        clear c_o0 f_o0 c_o1 f_o1 c_z0 f_z0 c_z1 f_z1
        refine (HCK.out _ HX0.out.1).mono ?_
        rintro e w1 ⟨rfl, hb1⟩
        have HB1 := Aside0.mk (below_step (HX0.out.1) hb1)
        have HK1 := Aside0.mk (blk_below (HX0.out.2.1) hb1)
        have HK2 := Aside0.mk (blk_below (HX0.out.2.2) hb1)
        have HS1 := Aside0.mk hb1
        clear hb1
        have c_o0 : w1.cell? ⟨w.heap.size, 0, none⟩ = some (Value.slice As ss.length cs) := (blk_cell HK1.out 0).trans rfl
        have f_o0 := blk_frozen HK1.out 0
        have c_o1 : w1.cell? ⟨w.heap.size, 1, none⟩ = some (Value.slice At ts.length ct) := (blk_cell HK1.out 1).trans rfl
        have f_o1 := blk_frozen HK1.out 1
        have c_z0 : w1.cell? ⟨w.heap.size + 1, 0, none⟩ = some (Value.slice none 0 0) := (blk_cell HK2.out 0).trans rfl
        have f_z0 := blk_frozen HK2.out 0
        have c_z1 : w1.cell? ⟨w.heap.size + 1, 1, none⟩ = some (Value.slice none 0 0) := (blk_cell HK2.out 1).trans rfl
        have f_z1 := blk_frozen HK2.out 1
        go_wp2_with fail
        clear c_o0 f_o0 c_o1 f_o1 c_z0 f_z0 c_z1 f_z1
        refine (HN.out _).mono ?_
        rintro e w_ ⟨rfl, rfl⟩
        have c_o0 : w1.cell? ⟨w.heap.size, 0, none⟩ = some (Value.slice As ss.length cs) := (blk_cell HK1.out 0).trans rfl
        have f_o0 := blk_frozen HK1.out 0
        have c_o1 : w1.cell? ⟨w.heap.size, 1, none⟩ = some (Value.slice At ts.length ct) := (blk_cell HK1.out 1).trans rfl
        have f_o1 := blk_frozen HK1.out 1
        have c_z0 : w1.cell? ⟨w.heap.size + 1, 0, none⟩ = some (Value.slice none 0 0) := (blk_cell HK2.out 0).trans rfl
        have f_z0 := blk_frozen HK2.out 0
        have c_z1 : w1.cell? ⟨w.heap.size + 1, 1, none⟩ = some (Value.slice none 0 0) := (blk_cell HK2.out 1).trans rfl
        have f_z1 := blk_frozen HK2.out 1
        go_wp2_with fail
        clear c_o0 f_o0 c_o1 f_o1 c_z0 f_z0 c_z1 f_z1
        refine (HTB.out _ HB1.out).mono ?_
        rintro e w2 ⟨rfl, hb2⟩
        have HB2 := Aside0.mk (below_step (HB1.out) hb2)
        have HK3 := Aside0.mk (blk_below (HK1.out) hb2)
        have HK4 := Aside0.mk (blk_below (HK2.out) hb2)
        have HS2 := Aside0.mk hb2
        clear hb2
        have c_o0 : w2.cell? ⟨w.heap.size, 0, none⟩ = some (Value.slice As ss.length cs) := (blk_cell HK3.out 0).trans rfl
        have f_o0 := blk_frozen HK3.out 0
        have c_o1 : w2.cell? ⟨w.heap.size, 1, none⟩ = some (Value.slice At ts.length ct) := (blk_cell HK3.out 1).trans rfl
        have f_o1 := blk_frozen HK3.out 1
        have c_z0 : w2.cell? ⟨w.heap.size + 1, 0, none⟩ = some (Value.slice none 0 0) := (blk_cell HK4.out 0).trans rfl
        have f_z0 := blk_frozen HK4.out 0
        have c_z1 : w2.cell? ⟨w.heap.size + 1, 1, none⟩ = some (Value.slice none 0 0) := (blk_cell HK4.out 1).trans rfl
        have f_z1 := blk_frozen HK4.out 1
        go_wp2_with fail
        clear c_o0 f_o0 c_o1 f_o1 c_z0 f_z0 c_z1 f_z1
        refine (HOW.out _ HB2.out).mono ?_
        rintro e w3 ⟨Bs, ds, Bt, dt, rfl, hR, hS, hb3⟩
        have HB3 := Aside0.mk (below_step (HB2.out) hb3)
        have HK5 := Aside0.mk (blk_below (HK3.out) hb3)
        have HK6 := Aside0.mk (blk_below (HK4.out) hb3)
        have HS3 := Aside0.mk hb3
        clear hb3
        obtain ⟨g, rfl⟩ := S_addr hS (by omega)
        obtain ⟨q0, q1, q2, ⟨cells, q3⟩, q4⟩ := S_owner (Kd.S_alloc hS (.cells #[.slice Bs ss.length ds, .slice (some ⟨g, 0, none⟩) ts.length dt] 26)) k hk owner
        have hX := blk_new w3 (.cells #[.slice Bs ss.length ds, .slice (some ⟨g, 0, none⟩) ts.length dt] 26)
        have hZ := fun o => blk_alloc (o' := o) HK6.out
        have n1 : ¬ g = w3.heap.size := fun e => by subst e; exact blk_ne hX q3 (by decide) rfl
        have n2 : ¬ w3.heap.size = g := fun e => n1 e.symm
        have n3 : ¬ g = w.heap.size + 1 := fun e => by subst e; exact blk_ne (hZ _) q3 (by decide) rfl
        have n4 : ¬ w.heap.size + 1 = g := fun e => n3 e.symm
        have z0 : ∀ o, (w3.alloc o).cell? ⟨w.heap.size + 1, 0, none⟩ = some (.slice none 0 0) := fun o => (blk_cell (hZ o) 0).trans rfl
        have z1 : ∀ o, (w3.alloc o).cell? ⟨w.heap.size + 1, 1, none⟩ = some (.slice none 0 0) := fun o => (blk_cell (hZ o) 1).trans rfl
        have f0 : ∀ o, (w3.alloc o).frozen? ⟨w.heap.size + 1, 0, none⟩ = false := fun o => blk_frozen (hZ o) 0
        have f1 : ∀ o, (w3.alloc o).frozen? ⟨w.heap.size + 1, 1, none⟩ = false := fun o => blk_frozen (hZ o) 1
        have hR2 := Kd.R_set (Kd.R_alloc hR (.cells #[.slice Bs ss.length ds, .slice (some ⟨g, 0, none⟩) ts.length dt] 26)) q3 (by decide) (k * 5 + 2) (.string owner)
        have hZ2 := blk_far (p := ⟨g, k * 5 + 2, none⟩) (hZ (.cells #[.slice Bs ss.length ds, .slice (some ⟨g, 0, none⟩) ts.length dt] 26)) n4 (.string owner)
        have HF := Aside0.mk (And.intro (R_only (Kd.R_lower hR2 HB2.out.size) hZ2 (by decide) (set2_far _ (w.heap.size + 1) (.slice Bs ss.length ds) (.slice (some ⟨g, 0, none⟩) ts.length dt))) (And.intro (R_only (Kd.R_lower (Kd.S_R q2) HB2.out.size) hZ2 (by decide) (set2_far _ (w.heap.size + 1) (.slice Bs ss.length ds) (.slice (some ⟨g, 0, none⟩) ts.length dt)))
          (set2_below (below_set (g := g) (j := k * 5 + 2) (v := .string owner) (below_alloc HB3.out (.cells #[.slice Bs ss.length ds, .slice (some ⟨g, 0, none⟩) ts.length dt] 26)) (Nat.le_trans HB2.out.size q4)) (Nat.le_succ _) (.slice Bs ss.length ds) (.slice (some ⟨g, 0, none⟩) ts.length dt) : Below w.heap.size w _)))
        clear hX hZ hR hS hR2 hZ2 q2 q3 q4
        go_wp2
        refine bodyPost_ret (v := .tuple #[.agg #[.slice Bs ss.length ds, .slice (some ⟨g, 0, none⟩) ts.length dt], .int .i64 0]) (by simp [results, Try.results20, go_sem, *]) rfl ?_
        refine ⟨_, _, rfl, HF.out.1, HF.out.2.1, HF.out.2.2⟩
      · have HT := Aside0.mk (show tch ss ts schema table (fun t => (0, { t with owner := owner })) = (61, [], []) by unfold tch; rw [hi, if_neg (by omega)])
        rw [HQ.out, HT.out]
        rw [hi] at HTB
        clear hi hx1 HT HQ HOW
        have h2 : decide ((-1 : Int) < 0) = true := rfl
        go_enter Try.func20, Try.ntmps20
        have c_o0 : ((w.alloc (.cells #[Value.slice As ss.length cs, Value.slice At ts.length ct] 26)).alloc (.cells #[Value.slice none 0 0, Value.slice none 0 0] 26)).cell? ⟨w.heap.size, 0, none⟩ = some (Value.slice As ss.length cs) := (blk_cell HX0.out.2.1 0).trans rfl
        have f_o0 := blk_frozen HX0.out.2.1 0
        have c_o1 : ((w.alloc (.cells #[Value.slice As ss.length cs, Value.slice At ts.length ct] 26)).alloc (.cells #[Value.slice none 0 0, Value.slice none 0 0] 26)).cell? ⟨w.heap.size, 1, none⟩ = some (Value.slice At ts.length ct) := (blk_cell HX0.out.2.1 1).trans rfl
        have f_o1 := blk_frozen HX0.out.2.1 1
        have c_z0 : ((w.alloc (.cells #[Value.slice As ss.length cs, Value.slice At ts.length ct] 26)).alloc (.cells #[Value.slice none 0 0, Value.slice none 0 0] 26)).cell? ⟨w.heap.size + 1, 0, none⟩ = some (Value.slice none 0 0) := (blk_cell HX0.out.2.2 0).trans rfl
        have f_z0 := blk_frozen HX0.out.2.2 0
        have c_z1 : ((w.alloc (.cells #[Value.slice As ss.length cs, Value.slice At ts.length ct] 26)).alloc (.cells #[Value.slice none 0 0, Value.slice none 0 0] 26)).cell? ⟨w.heap.size + 1, 1, none⟩ = some (Value.slice none 0 0) := (blk_cell HX0.out.2.2 1).trans rfl
        have f_z1 := blk_frozen HX0.out.2.2 1
        go_wp2_with fail
        clear c_o0 f_o0 c_o1 f_o1 c_z0 f_z0 c_z1 f_z1
        refine (HCK.out _ HX0.out.1).mono ?_
        rintro e w1 ⟨rfl, hb1⟩
        have HB1 := Aside0.mk (below_step (HX0.out.1) hb1)
        have HK1 := Aside0.mk (blk_below (HX0.out.2.1) hb1)
        have HK2 := Aside0.mk (blk_below (HX0.out.2.2) hb1)
        have HS1 := Aside0.mk hb1
        clear hb1
        have c_o0 : w1.cell? ⟨w.heap.size, 0, none⟩ = some (Value.slice As ss.length cs) := (blk_cell HK1.out 0).trans rfl
        have f_o0 := blk_frozen HK1.out 0
        have c_o1 : w1.cell? ⟨w.heap.size, 1, none⟩ = some (Value.slice At ts.length ct) := (blk_cell HK1.out 1).trans rfl
        have f_o1 := blk_frozen HK1.out 1
        have c_z0 : w1.cell? ⟨w.heap.size + 1, 0, none⟩ = some (Value.slice none 0 0) := (blk_cell HK2.out 0).trans rfl
        have f_z0 := blk_frozen HK2.out 0
        have c_z1 : w1.cell? ⟨w.heap.size + 1, 1, none⟩ = some (Value.slice none 0 0) := (blk_cell HK2.out 1).trans rfl
        have f_z1 := blk_frozen HK2.out 1
        go_wp2_with fail
        clear c_o0 f_o0 c_o1 f_o1 c_z0 f_z0 c_z1 f_z1
        refine (HN.out _).mono ?_
        rintro e w_ ⟨rfl, rfl⟩
        have c_o0 : w1.cell? ⟨w.heap.size, 0, none⟩ = some (Value.slice As ss.length cs) := (blk_cell HK1.out 0).trans rfl
        have f_o0 := blk_frozen HK1.out 0
        have c_o1 : w1.cell? ⟨w.heap.size, 1, none⟩ = some (Value.slice At ts.length ct) := (blk_cell HK1.out 1).trans rfl
        have f_o1 := blk_frozen HK1.out 1
        have c_z0 : w1.cell? ⟨w.heap.size + 1, 0, none⟩ = some (Value.slice none 0 0) := (blk_cell HK2.out 0).trans rfl
        have f_z0 := blk_frozen HK2.out 0
        have c_z1 : w1.cell? ⟨w.heap.size + 1, 1, none⟩ = some (Value.slice none 0 0) := (blk_cell HK2.out 1).trans rfl
        have f_z1 := blk_frozen HK2.out 1
        go_wp2_with fail
        clear c_o0 f_o0 c_o1 f_o1 c_z0 f_z0 c_z1 f_z1
        refine (HTB.out _ HB1.out).mono ?_
        rintro e w2 ⟨rfl, hb2⟩
        have HB2 := Aside0.mk (below_step (HB1.out) hb2)
        have HK3 := Aside0.mk (blk_below (HK1.out) hb2)
        have HK4 := Aside0.mk (blk_below (HK2.out) hb2)
        have HS2 := Aside0.mk hb2
        clear hb2
        have c_o0 : w2.cell? ⟨w.heap.size, 0, none⟩ = some (Value.slice As ss.length cs) := (blk_cell HK3.out 0).trans rfl
        have f_o0 := blk_frozen HK3.out 0
        have c_o1 : w2.cell? ⟨w.heap.size, 1, none⟩ = some (Value.slice At ts.length ct) := (blk_cell HK3.out 1).trans rfl
        have f_o1 := blk_frozen HK3.out 1
        have c_z0 : w2.cell? ⟨w.heap.size + 1, 0, none⟩ = some (Value.slice none 0 0) := (blk_cell HK4.out 0).trans rfl
        have f_z0 := blk_frozen HK4.out 0
        have c_z1 : w2.cell? ⟨w.heap.size + 1, 1, none⟩ = some (Value.slice none 0 0) := (blk_cell HK4.out 1).trans rfl
        have f_z1 := blk_frozen HK4.out 1
        go_wp2_with fail
        clear c_o0 f_o0 c_o1 f_o1 c_z0 f_z0 c_z1 f_z1
        refine (HNO.out _ _).mono ?_
        rintro e w3 ⟨rfl, hb3⟩
        have HB3 := Aside0.mk (below_step (HB2.out) hb3)
        have HK5 := Aside0.mk (blk_below (HK3.out) hb3)
        have HK6 := Aside0.mk (blk_below (HK4.out) hb3)
        have HS3 := Aside0.mk hb3
        clear hb3
        have c_o0 : w3.cell? ⟨w.heap.size, 0, none⟩ = some (Value.slice As ss.length cs) := (blk_cell HK5.out 0).trans rfl
        have f_o0 := blk_frozen HK5.out 0
        have c_o1 : w3.cell? ⟨w.heap.size, 1, none⟩ = some (Value.slice At ts.length ct) := (blk_cell HK5.out 1).trans rfl
        have f_o1 := blk_frozen HK5.out 1
        have c_z0 : w3.cell? ⟨w.heap.size + 1, 0, none⟩ = some (Value.slice none 0 0) := (blk_cell HK6.out 0).trans rfl
        have f_z0 := blk_frozen HK6.out 0
        have c_z1 : w3.cell? ⟨w.heap.size + 1, 1, none⟩ = some (Value.slice none 0 0) := (blk_cell HK6.out 1).trans rfl
        have f_z1 := blk_frozen HK6.out 1
        go_wp2
        refine bodyPost_ret (v := .tuple #[.agg #[.slice none 0 0, .slice none 0 0], .int .i64 61]) (by simp [results, Try.results20, go_sem, *]) rfl ?_
        exact zeroOut (g := w.heap.size + 1) (n := 61) HB3.out (by omega)
end Go.Proofs.Ytmmiehckgkadgaa.O
namespace Go.Proofs.Ytmmiehckgkadgaa.O
set_option linter.unusedVariables false
set_option linter.unusedSimpArgs false
open Go.RowKit Go.Proofs.YtmmiehckgkadgaaW.PrintWords

theorem S_table2 {B g dt : Nat} {W : World} {ts : List Tab} (h : Kd.S kTab 35 W B (fun _ => True) (.slice (some ⟨g, 0, none⟩) ts.length dt) ts) (k : Nat) (hk : k < ts.length) : ∃ (oki : Nat → Prop) (v3 v4 : Value),
    W.cell? ⟨g, k * 5, none⟩ = some (.string ts[k].schema) ∧ W.cell? ⟨g, k * 5 + 1, none⟩ = some (.string ts[k].name) ∧ W.cell? ⟨g, k * 5 + 2, none⟩ = some (.string ts[k].owner) ∧ W.cell? ⟨g, k * 5 + 3, none⟩ = some v3 ∧ W.cell? ⟨g, k * 5 + 4, none⟩ = some v4 ∧ (∀ j, W.frozen? ⟨g, k * 5 + j, none⟩ = false) ∧
    kCol.R 41 W B oki v3 ts[k].cols ∧ kRul.R 57 W B oki v4 ts[k].rules ∧ (∀ q, oki q → q ≠ g ∧ q < W.heap.size ∧ B ≤ q) ∧ Kd.H kTab 35 W B (fun q => True ∧ ¬ (W.heap.size ≤ q)) (.slice (some ⟨g, 0, none⟩) ts.length dt) ts (k : Int) oki [.string ts[k].schema, .string ts[k].name, .string ts[k].owner, v3, v4] := by
  obtain ⟨oki, c, hcl, hM, hc, hf, ho, hH⟩ := Kd.S_elem (Kd.S_bound h) zTab (k : Int) (by omega) (by omega)
  rw [Int.toNat_natCast, List.getD_eq_getElem?_getD, List.getElem?_eq_getElem hk] at hM
  rw [Int.toNat_natCast] at hc hf
  obtain ⟨v3, v4, rfl, h3, h4⟩ := kTab_openM hM
  exact ⟨oki, v3, v4, hc 0 _ rfl, hc 1 _ rfl, hc 2 _ rfl, hc 3 _ rfl, hc 4 _ rfl, hf, h3, h4, fun q hq => ⟨(ho q hq).2, (ho q hq).1.2.2.1, (ho q hq).1.2.1⟩, Kd.H_mono hH (fun q hq => ⟨trivial, Nat.not_le_of_lt hq.2.2.1⟩)⟩
/-- the columns of table k: set anew, behind a change of their row alone -/
theorem S_cols {B g dt : Nat} {W : World} {ts : List Tab} (h : Kd.S kTab 35 W B (fun _ => True) (.slice (some ⟨g, 0, none⟩) ts.length dt) ts) (k : Nat) (hk : k < ts.length) : ∃ (oki : Nat → Prop) (A3 : Option Addr) (c3 : Nat),
    W.cell? ⟨g, k * 5 + 3, none⟩ = some (.slice A3 ts[k].cols.length c3) ∧ W.frozen? ⟨g, k * 5 + 3, none⟩ = false ∧ kCol.R 41 W B oki (.slice A3 ts[k].cols.length c3) ts[k].cols ∧ (∀ q, oki q → q ≠ g ∧ q < W.heap.size ∧ B ≤ q) ∧
    ∀ (w1 : World) (v1 : Value) (cols : List Col), W.grownBy w1 (Value.slice A3 ts[k].cols.length c3).ownBlock → kCol.R 41 w1 B (fun q => oki q ∨ W.heap.size ≤ q) v1 cols →
      w1.cell? ⟨g, k * 5 + 3, none⟩ = some (.slice A3 ts[k].cols.length c3) ∧ w1.frozen? ⟨g, k * 5 + 3, none⟩ = false ∧ (∃ cells, w1.heap[g]? = some (.cells cells 35 (0, 0))) ∧ Kd.S kTab 35 (w1.setCell ⟨g, k * 5 + 3, none⟩ v1) B (fun _ => True) (.slice (some ⟨g, 0, none⟩) ts.length dt) (ts.set k { ts[k] with cols := cols }) := by
  obtain ⟨oki, v3, v4, c0, c1, c2, c3, c4, hf, h3, h4, ho, hH⟩ := S_table2 h k hk
  obtain ⟨A3, d3, rfl⟩ := Kd.R_slice h3
  refine ⟨oki, A3, d3, c3, hf 3, h3, ho, fun w1 v1 cols hg hR => ?_⟩
  obtain ⟨cells, hgc⟩ := Kd.S_typed h g rfl
  have hne : some g ≠ (Value.slice A3 ts[k].cols.length d3).ownBlock := fun e => (ho g (h3.1 g e.symm)).1 rfl
  have hg1 := blk_grown hgc hg hne
  obtain ⟨A1, n1, rfl⟩ := Kd.R_slice hR
  have hlt : g < W.heap.size := blk_lt hgc
  have hH1 := Kd.H_grown hH hg (fun q hq => h3.1 q hq)
  have h41 := Kd.R_over' h4 (Kd.R_typed h3) (by decide) hg
  have hseg := Kd.S_seg (ok := fun _ => True) (okg := fun q => W.heap.size ≤ q) (okp := fun q => oki q ∨ W.heap.size ≤ q) hH1 (by omega) (by omega) (j := 3) (seg := [.slice A1 cols.length n1]) (Nat.le_of_ble_eq_true rfl) (x' := { ts[k] with cols := cols }) (kTab_mkM _ _ _ { ts[k] with cols := cols } hR (Kd.R_mono h41 (fun q hq => .inl hq))) (fun q hq => hq) (fun q hq => ⟨trivial, by omega⟩)
  rw [Int.toNat_natCast, show w1.setCells g (k * kTab.sz + 3) [.slice A1 cols.length n1] = w1.setCell ⟨g, k * 5 + 3, none⟩ (.slice A1 cols.length n1) from rfl] at hseg
  refine ⟨?_, blk_frozen hg1 _, ⟨cells, hg1⟩, hseg.1⟩
  rw [blk_cell hg1, ← blk_cell hgc]; exact c3
/-- the rules of table k: set anew, behind a change of their row alone -/
theorem S_rules {B g dt : Nat} {W : World} {ts : List Tab} (h : Kd.S kTab 35 W B (fun _ => True) (.slice (some ⟨g, 0, none⟩) ts.length dt) ts) (k : Nat) (hk : k < ts.length) : ∃ (oki : Nat → Prop) (A4 : Option Addr) (c4 : Nat),
    W.cell? ⟨g, k * 5 + 4, none⟩ = some (.slice A4 ts[k].rules.length c4) ∧ W.frozen? ⟨g, k * 5 + 4, none⟩ = false ∧ kRul.R 57 W B oki (.slice A4 ts[k].rules.length c4) ts[k].rules ∧ (∀ q, oki q → q ≠ g ∧ q < W.heap.size ∧ B ≤ q) ∧
    ∀ (w1 : World) (v1 : Value) (rules : List Rul), W.grownBy w1 (Value.slice A4 ts[k].rules.length c4).ownBlock → kRul.R 57 w1 B (fun q => oki q ∨ W.heap.size ≤ q) v1 rules →
      w1.cell? ⟨g, k * 5 + 4, none⟩ = some (.slice A4 ts[k].rules.length c4) ∧ w1.frozen? ⟨g, k * 5 + 4, none⟩ = false ∧ (∃ cells, w1.heap[g]? = some (.cells cells 35 (0, 0))) ∧ Kd.S kTab 35 (w1.setCell ⟨g, k * 5 + 4, none⟩ v1) B (fun _ => True) (.slice (some ⟨g, 0, none⟩) ts.length dt) (ts.set k { ts[k] with rules := rules }) := by
  obtain ⟨oki, v3, v4, c0, c1, c2, c3, c4, hf, h3, h4, ho, hH⟩ := S_table2 h k hk
  obtain ⟨A4, d4, rfl⟩ := Kd.R_slice h4
  refine ⟨oki, A4, d4, c4, hf 4, h4, ho, fun w1 v1 rules hg hR => ?_⟩
  obtain ⟨cells, hgc⟩ := Kd.S_typed h g rfl
  have hne : some g ≠ (Value.slice A4 ts[k].rules.length d4).ownBlock := fun e => (ho g (h4.1 g e.symm)).1 rfl
  have hg1 := blk_grown hgc hg hne
  obtain ⟨A1, n1, rfl⟩ := Kd.R_slice hR
  have hlt : g < W.heap.size := blk_lt hgc
  have hH1 := Kd.H_grown hH hg (fun q hq => h4.1 q hq)
  have h31 := Kd.R_over' h3 (Kd.R_typed h4) (by decide) hg
  have hseg := Kd.S_seg (ok := fun _ => True) (okg := fun q => W.heap.size ≤ q) (okp := fun q => oki q ∨ W.heap.size ≤ q) hH1 (by omega) (by omega) (j := 4) (seg := [.slice A1 rules.length n1]) (Nat.le_of_ble_eq_true rfl) (x' := { ts[k] with rules := rules }) (kTab_mkM _ _ _ { ts[k] with rules := rules } (Kd.R_mono h31 (fun q hq => .inl hq)) hR) (fun q hq => hq) (fun q hq => ⟨trivial, by omega⟩)
  rw [Int.toNat_natCast, show w1.setCells g (k * kTab.sz + 4) [.slice A1 rules.length n1] = w1.setCell ⟨g, k * 5 + 4, none⟩ (.slice A1 rules.length n1) from rfl] at hseg
  refine ⟨?_, blk_frozen hg1 _, ⟨cells, hg1⟩, hseg.1⟩
  rw [blk_cell hg1, ← blk_cell hgc]; exact c4
end Go.Proofs.Ytmmiehckgkadgaa.O
