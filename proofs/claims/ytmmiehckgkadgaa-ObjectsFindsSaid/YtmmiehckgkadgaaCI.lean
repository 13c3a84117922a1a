/- objects.tableChanged, over the contract of the function value that is handed in. -/
import Derived.Test.YtmmiehckgkadgaaCH
namespace Go.Proofs.Ytmmiehckgkadgaa.O
set_option linter.unusedVariables false
set_option linter.unusedSimpArgs false
open Go.RowKit Go.Proofs.YtmmiehckgkadgaaW.PrintWords

def tch (ss : List Sch) (ts : List Tab) (schema table : ByteArray) (md : Tab → Int × Tab) : Res :=
  if 0 ≤ idx (isT schema table) ts then ((md (ts.getD (idx (isT schema table) ts).toNat zTab)).1, ss, ts.set (idx (isT schema table) ts).toNat (md (ts.getD (idx (isT schema table) ts).toNat zTab)).2) else (61, [], [])
/-- what a function value, called in W, did to table k -/
def InDid (B : Nat) (W : World) (ss : List Sch) (ts : List Tab) (k : Nat) (Bs : Option Addr) (ds g dt : Nat) (r : Int × Tab) (e : Ending) (w' : World) : Prop := e = .returned (.int .i64 r.1) ∧ Below B W w' ∧ (∀ (q : Nat) (cs : Array Value), W.heap[q]? = some (.cells cs 26 (0, 0)) → w'.heap[q]? = some (.cells cs 26 (0, 0))) ∧
  (r.1 = 0 → kSch.R 63 w' B (fun _ => True) (.slice Bs ss.length ds) ss ∧ Kd.S kTab 35 w' B (fun _ => True) (.slice (some ⟨g, 0, none⟩) ts.length dt) (ts.set k r.2))
def InAsk (w : World) (B : Nat) (W : World) (ss : List Sch) (ts : List Tab) (Bs : Option Addr) (ds g dt : Nat) : Prop := Below w.heap.size w W ∧ w.heap.size ≤ B ∧ B ≤ W.heap.size ∧ kSch.R 63 W B (fun _ => True) (.slice Bs ss.length ds) ss ∧ Kd.S kTab 35 W B (fun _ => True) (.slice (some ⟨g, 0, none⟩) ts.length dt) ts
def Inner (f : Nat) (caps : Array Value) (w : World) (ss : List Sch) (ts : List Tab) (md : Tab → Int × Tab) : Prop := ∀ (k : Nat) (hk : k < ts.length) B W Bs ds g dt, InAsk w B W ss ts Bs ds g dt → Calls Try.prog f (#[.agg #[.slice Bs ss.length ds, .slice (some ⟨g, 0, none⟩) ts.length dt], .pointer (some ⟨g, k * 5, none⟩)] ++ caps) W (InDid B W ss ts k Bs ds g dt (md ts[k]))

theorem keep5 {w0 w w' : World} {v0 v1 v2 v3 v4 : Value} {a0 a1 a2 a3 a4 : Addr} (h : w.cell? a0 = some v0 ∧ w.cell? a1 = some v1 ∧ w.cell? a2 = some v2 ∧ w.cell? a3 = some v3 ∧ w.cell? a4 = some v4 ∧ Below w0.heap.size w0 w) (hb : Below w.heap.size w w') : w'.cell? a0 = some v0 ∧ w'.cell? a1 = some v1 ∧ w'.cell? a2 = some v2 ∧ w'.cell? a3 = some v3 ∧ w'.cell? a4 = some v4 ∧ Below w0.heap.size w0 w' :=
  ⟨pw_cell_below hb h.1, pw_cell_below hb h.2.1, pw_cell_below hb h.2.2.1, pw_cell_below hb h.2.2.2.1, pw_cell_below hb h.2.2.2.2.1, below_step h.2.2.2.2.2 hb⟩
set_option maxRecDepth 20000 in
set_option maxHeartbeats 2000000 in
theorem tableChanged1.calls (f : Nat) (caps : Array Value) (hent : ∀ (xs : Array Value) (W : World), (callFunc f xs).run Try.prog W = .ok (.enter f xs) W) (ss : List Sch) (ts : List Tab) (schema table : ByteArray) (md : Tab → Int × Tab) (w : World) (p1 p2 p3 : Nat)
    (h1 : w.cell? ⟨p1, 0, none⟩ = some (.string schema)) (h2 : w.cell? ⟨p2, 0, none⟩ = some (.string table)) (h3 : w.cell? ⟨p3, 0, none⟩ = some (.func (.func f) #[] caps)) (hln : ts.length ≤ 3000) (hin : Inner f caps w ss ts md)
    (B g : Nat) (Bs : Option Addr) (ds : Nat) (Bt : Option Addr) (dt : Nat) (W : World) (hW : Below w.heap.size w W) (hwB : w.heap.size ≤ B) (hM : Mine B g Bs Bt ds dt ss ts W) :
    Calls Try.prog 102 (#[.pointer (some ⟨g, 0, none⟩)] ++ #[.pointer (some ⟨p1, 0, none⟩), .pointer (some ⟨p2, 0, none⟩), .pointer (some ⟨p3, 0, none⟩)]) W (Did B W g (tch ss ts schema table md)) := by
  show Calls Try.prog 102 #[.pointer (some ⟨g, 0, none⟩), .pointer (some ⟨p1, 0, none⟩), .pointer (some ⟨p2, 0, none⟩), .pointer (some ⟨p3, 0, none⟩)] W _
  obtain ⟨hBg, hBW, hG, hR, hS⟩ := hM
  have e1 := pw_cell_below hW h1
  have e2 := pw_cell_below hW h2
  have e3 := pw_cell_below hW h3
  have l1 := Nat.lt_of_lt_of_le (World.block_lt_of_cell? w _ h1) hwB
  have g0 : W.cell? ⟨g, 0, none⟩ = some (.slice Bs ss.length ds) := (blk_cell hG 0).trans rfl
  have g1 : W.cell? ⟨g, 1, none⟩ = some (.slice Bt ts.length dt) := (blk_cell hG 1).trans rfl
  have HWH := Aside0.mk (fun W' (hW' : Below W.heap.size W W') => where.calls (As := Bs) (ns := ss.length) (cs := ds) (At := Bt) (ct := dt) ts schema table W' (Kd.C_below (Kd.S_reads' hS).2.2 hW') (by omega))
  have HI := Aside0.mk hin
  have HG := Aside0.mk hG
  have HRS := Aside0.mk (And.intro hR hS)
  have HW := Aside0.mk (And.intro hW (And.intro hwB (And.intro hBW hBg)))
  have L3 := Aside0.mk (Nat.lt_of_lt_of_le (World.block_lt_of_cell? w _ h3) hwB)
  clear h1 h2 h3 hin hG hR hS hW hwB hBW hBg l1
  rcases idx_cases (isT schema table) ts with ⟨k, hk, hi, hx1, hx2⟩ | ⟨hi, hx1⟩
  · have HT := Aside0.mk (show tch ss ts schema table md = ((md ts[k]).1, ss, ts.set k (md ts[k]).2) by
      unfold tch; rw [hi, if_pos (by omega), Int.toNat_natCast, List.getD_eq_getElem?_getD, List.getElem?_eq_getElem hk]; rfl)
    rw [hi] at HWH
    clear hi hx1 hx2
    obtain ⟨gt, rfl⟩ : ∃ gt, Bt = some ⟨gt, 0, none⟩ := by
      obtain ⟨gt, cap, hv, _⟩ := Kd.S_form HRS.out.2 (by omega)
      injection hv with hA _ _
      exact ⟨gt, hA⟩
    have hb : decide ((0 : Int) ≤ (k : Int)) = true := decide_eq_true (by omega)
    go_enter Try.func102, Try.ntmps102
    go_wp2
    go_region_held3 (fun w' => w'.cell? ⟨p1, 0, none⟩ = some (.string schema) ∧ w'.cell? ⟨p2, 0, none⟩ = some (.string table) ∧ w'.cell? ⟨p3, 0, none⟩ = some (.func (.func f) #[] caps) ∧ w'.cell? ⟨g, 0, none⟩ = some (.slice Bs ss.length ds) ∧ w'.cell? ⟨g, 1, none⟩ = some (.slice (some ⟨gt, 0, none⟩) ts.length dt) ∧ Below W.heap.size W w')
      (first | exact keep5 (by assumption) (by assumption) | exact ⟨e1, e2, e3, g0, g1, below_drew (Below.refl _ _)⟩)
      (first | (go_at_call 51; refine (HWH.out _ ?_).mono ?_; exact below_drew (Below.refl _ _); rintro e w' ⟨rfl, hbx⟩))
    rename_i hH
    obtain ⟨d1, d2, d3, d0, d4, hb1⟩ := hH
    have h0 : (0 : Int) ≤ (k : Int) := by omega
    have h1 : (k : Int) < (ts.length : Int) := by omega
    have HB1 := Aside0.mk hb1
    have HR1 := Aside0.mk (Kd.R_below HRS.out.1 hb1)
    have HS1 := Aside0.mk (Kd.S_below HRS.out.2 hb1)
    have HG1 := Aside0.mk (blk_below HG.out hb1)
    clear e1 e2 e3 g0 g1 hb1 hbx HRS HG HWH
    have HA := Aside0.mk (HI.out k hk B w'.drew Bs ds gt dt ⟨below_drew (below_step HW.out.1 HB1.out), HW.out.2.1, Nat.le_trans HW.out.2.2.1 HB1.out.size, Kd.R_drew HR1.out, Kd.S_drew HS1.out⟩)
    clear HI HR1 HS1 d1 d2
    go_wp2
    go_region_held3 (fun w'' => w''.cell? ⟨p3, 0, none⟩ = some (.func (.func f) #[] caps) ∧ w''.cell? ⟨g, 0, none⟩ = some (.slice Bs ss.length ds) ∧ w''.cell? ⟨g, 1, none⟩ = some (.slice (some ⟨gt, 0, none⟩) ts.length dt))
      (first | exact ⟨(hb2.cell (p := ⟨p3, 0, none⟩) L3.out).trans d3, (blk_cell (hq _ _ HG1.out) 0).trans rfl, (blk_cell (hq _ _ HG1.out) 1).trans rfl⟩ | exact ⟨d3, d0, d4⟩)
      (first | (refine HA.out.mono ?_; rintro e w2 ⟨rfl, hb2, hq, hres⟩))
    have HX := Aside0.mk (And.intro ((below_drew (HB1.out.mono HW.out.2.2.1)).trans hb2) (And.intro (hq _ _ HG1.out) hres))
    clear hb2 hq hres d3 d0 d4
    go_wp2
    go_ret
    rw [HT.out]
    refine ⟨rfl, HX.out.1, fun h => ⟨_, _, HX.out.2.1, (HX.out.2.2 h).1, Kd.S_R ?_⟩⟩
    exact (HX.out.2.2 h).2
  · have HT := Aside0.mk (show tch ss ts schema table md = (61, [], []) by unfold tch; rw [hi, if_neg (by omega)])
    rw [hi] at HWH
    clear hi hx1
    have hb : decide ((0 : Int) ≤ -1) = false := rfl
    go_enter Try.func102, Try.ntmps102
    go_wp2
    go_region_held3 (fun w' => w'.cell? ⟨p1, 0, none⟩ = some (.string schema) ∧ w'.cell? ⟨p2, 0, none⟩ = some (.string table) ∧ w'.cell? ⟨p3, 0, none⟩ = some (.func (.func f) #[] caps) ∧ w'.cell? ⟨g, 0, none⟩ = some (.slice Bs ss.length ds) ∧ w'.cell? ⟨g, 1, none⟩ = some (.slice Bt ts.length dt) ∧ Below W.heap.size W w')
      (first | exact keep5 (by assumption) (by assumption) | exact ⟨e1, e2, e3, g0, g1, below_drew (Below.refl _ _)⟩)
      (first | (go_at_call 51; refine (HWH.out _ ?_).mono ?_; exact below_drew (Below.refl _ _); rintro e w' ⟨rfl, hbx⟩))
    rename_i hH
    have HB1 := Aside0.mk (show Below B W w' from hH.2.2.2.2.2.mono HW.out.2.2.1)
    clear hH e1 e2 e3 g0 g1 hbx HRS HG HWH
    go_wp2
    go_ret
    rw [HT.out]
    exact ⟨rfl, HB1.out, fun h => by cases h⟩

theorem enters {f : Nat} {fn : Func} (hf : Try.prog.funcs[f]? = some fn) (hname : (fn.name == "runtime.NumGoroutine") = false) (hb : fn.body.isSome = true) : ∀ (xs : Array Value) (W : World), (callFunc f xs).run Try.prog W = .ok (.enter f xs) W := fun xs W => Go.Proofs.YtmmiehckgkadgaaW.PrintLast.enters_ hf hname hb xs W
theorem boxes5 (w : World) (o1 o2 o3 o4 o5 : Obj) : Below w.heap.size w (((((w.alloc o1).alloc o2).alloc o3).alloc o4).alloc o5) ∧ (((((w.alloc o1).alloc o2).alloc o3).alloc o4).alloc o5).heap[w.heap.size]? = some o1 ∧ (((((w.alloc o1).alloc o2).alloc o3).alloc o4).alloc o5).heap[w.heap.size + 1]? = some o2 ∧ (((((w.alloc o1).alloc o2).alloc o3).alloc o4).alloc o5).heap[w.heap.size + 1 + 1]? = some o3 ∧ (((((w.alloc o1).alloc o2).alloc o3).alloc o4).alloc o5).heap[w.heap.size + 1 + 1 + 1]? = some o4 ∧ (((((w.alloc o1).alloc o2).alloc o3).alloc o4).alloc o5).heap[w.heap.size + 1 + 1 + 1 + 1]? = some o5 := by
  obtain ⟨h0, h1, h2, h3⟩ := boxes3 w o1 o2 o3
  have e : (((w.alloc o1).alloc o2).alloc o3).heap.size = w.heap.size + 1 + 1 + 1 := by simp
  obtain ⟨k0, k1, k2⟩ := boxes2 (((w.alloc o1).alloc o2).alloc o3) o4 o5
  rw [e] at k1 k2
  exact ⟨below_step h0 k0, blk_below h1 k0, blk_below h2 k0, blk_below h3 k0, k1, k2⟩
/-- what a call gave, laid into a result's box -/
theorem Out.wrap {w W w1 : World} {g : Nat} {vs vt : Value} {ss : List Sch} {ts : List Tab} (hW : Below w.heap.size w W) (hg : w.heap.size ≤ g) (hZ : W.heap[g]? = some (.cells #[.slice none 0 0, .slice none 0 0] 26 (0, 0))) (hs : kSch.R 63 w1 W.heap.size (fun _ => True) vs ss) (ht : kTab.R 35 w1 W.heap.size (fun _ => True) vt ts) (hb : Below W.heap.size W w1) :
    kSch.R 63 ((w1.setCell ⟨g, 0, none⟩ vs).setCell ⟨g, 1, none⟩ vt) w.heap.size (fun _ => True) vs ss ∧ kTab.R 35 ((w1.setCell ⟨g, 0, none⟩ vs).setCell ⟨g, 1, none⟩ vt) w.heap.size (fun _ => True) vt ts ∧ Below w.heap.size w ((w1.setCell ⟨g, 0, none⟩ vs).setCell ⟨g, 1, none⟩ vt) :=
  ⟨R_only (Kd.R_lower hs hW.size) (blk_below hZ hb) (by decide) (set2_far w1 g vs vt), R_only (Kd.R_lower ht hW.size) (blk_below hZ hb) (by decide) (set2_far w1 g vs vt), set2_below (below_step hW hb) hg vs vt⟩
set_option maxRecDepth 20000 in
set_option maxHeartbeats 2000000 in
theorem tableChanged.calls {As At : Option Addr} {cs ct : Nat} (f : Nat) (caps : Array Value) (hent : ∀ (xs : Array Value) (W : World), (callFunc f xs).run Try.prog W = .ok (.enter f xs) W) (ss : List Sch) (ts : List Tab) (schema table : ByteArray) (md : Tab → Int × Tab) (w : World) (hs : kSch.C w As ss.length ss) (hsl : ss.length ≤ 3000) (ht : kTab.C w At ts.length ts) (hF : TabsF ts) (hB : TabsB ts)
    (hin : checkB ss ts = true → Inner f caps w ss ts md) :
    Calls Try.prog 54 #[.agg #[.slice As ss.length cs, .slice At ts.length ct], .string schema, .string table, .func (.func f) #[] caps] w (Out w (chg ss ts (tch ss ts schema table md))) := by
  have H5 := Aside0.mk (boxes5 w (.cells #[.slice As ss.length cs, .slice At ts.length ct] 26) (.cells #[.string schema] 9) (.cells #[.string table] 9) (.cells #[.func (.func f) #[] caps] 74) (.cells #[.slice none 0 0, .slice none 0 0] 26))
  have HCH := Aside0.mk (fun (W : World) (hW : Below w.heap.size w W) (p1 p2 p3 : Nat) (h1 : W.cell? ⟨p1, 0, none⟩ = some (.string schema)) (h2 : W.cell? ⟨p2, 0, none⟩ = some (.string table)) (h3 : W.cell? ⟨p3, 0, none⟩ = some (.func (.func f) #[] caps)) =>
    changed.calls (As := As) (At := At) (cs := cs) (ct := ct) 102 #[.pointer (some ⟨p1, 0, none⟩), .pointer (some ⟨p2, 0, none⟩), .pointer (some ⟨p3, 0, none⟩)] ss ts (tch ss ts schema table md) W (Kd.C_below hs hW) hsl (Kd.C_below ht hW) hF hB (enters Try.func102 (by decide) rfl)
      (fun hck B g Bs ds Bt dt W2 hW2 hle hM => tableChanged1.calls f caps hent ss ts schema table md W p1 p2 p3 h1 h2 h3 hB.1 (fun k hk B W' Bs' ds' g' dt' hA => hin hck k hk B W' Bs' ds' g' dt' ⟨below_step hW hA.1, Nat.le_trans hW.size hA.2.1, hA.2.2⟩) B g Bs ds Bt dt W2 hW2 hle hM))
  clear hs ht hF hB hin
  generalize hq : chg ss ts (tch ss ts schema table md) = q at *
  clear hq
  go_enter Try.func54, Try.ntmps54
  go_wp2_with fail
  refine (HCH.out _ H5.out.1 (w.heap.size + 1) (w.heap.size + 1 + 1) (w.heap.size + 1 + 1 + 1) ((blk_cell H5.out.2.2.1 0).trans rfl) ((blk_cell H5.out.2.2.2.1 0).trans rfl) ((blk_cell H5.out.2.2.2.2.1 0).trans rfl)).mono ?_
  rintro e w1 ⟨vs, vt, rfl, h1, h2, hb⟩
  obtain ⟨Es, es, rfl⟩ := Kd.R_slice h1
  obtain ⟨Et, et, rfl⟩ := Kd.R_slice h2
  have hZ1 := blk_below H5.out.2.2.2.2.2 hb
  have z0 : w1.cell? ⟨w.heap.size + 1 + 1 + 1 + 1, 0, none⟩ = some (.slice none 0 0) := (blk_cell hZ1 0).trans rfl
  have z1 : w1.cell? ⟨w.heap.size + 1 + 1 + 1 + 1, 1, none⟩ = some (.slice none 0 0) := (blk_cell hZ1 1).trans rfl
  have f0 := blk_frozen hZ1 0
  have f1 := blk_frozen hZ1 1
  have HX := Aside0.mk (Out.wrap (g := w.heap.size + 1 + 1 + 1 + 1) H5.out.1 (by omega) H5.out.2.2.2.2.2 h1 h2 hb)
  clear h1 h2 hb hZ1 H5 HCH
  go_wp2
  refine bodyPost_ret (v := .tuple #[.agg #[.slice Es q.2.1.length es, .slice Et q.2.2.length et], .int .i64 q.1]) (by simp [results, Try.results54, go_sem, *]) rfl ?_
  exact ⟨_, _, rfl, HX.out⟩
end Go.Proofs.Ytmmiehckgkadgaa.O
