/- Own lemmas and walks (G3, SB, TA, RA, UA), without what the law does not need. Laid by a program of this session (prune.py). -/
import Derived.Lib.SliceRun
import Derived.Deep.RegionHeld3
import Derived.Laws.EntriesVeiled
import Derived.Deep.LoopGhost
import Derived.WalkLawsBesides
import Derived.Test.YtmmiehckgkadgaaGreatProg
import Derived.OpenShut
import Derived.OrdersHeld
import Derived.Laws.BitsLemmas
import Derived.RowKit
import Derived.Shelf.SlSortCmp.WholeK
import Derived.Shelf.SlSortCmp.NoneTotal
import Derived.Shelf.SlGeneric
import Derived.Shelf.Small.Strs
import Derived.Shelf.Strings.Search1
import Derived.Ground.SlsfProg
import Derived.Ground.NamesProg
import Derived.BigQuiet
import Derived.Test.YtmmiehckgkadgaaGreatPr0
import Derived.Test.YtmmiehckgkadgaaGreatPr1
import Derived.Test.YtmmiehckgkadgaaGreatPr2
import Derived.Test.YtmmiehckgkadgaaGreatPr3
import Derived.Test.YtmmiehckgkadgaaGreatPr4
import Derived.Test.YtmmiehckgkadgaaGreatPr5
import Derived.Test.YtmmiehckgkadgaaGreatPr6
import Derived.Test.YtmmiehckgkadgaaGreatPr7
import Derived.Test.YtmmiehckgkadgaaGreatPr8
import Derived.Test.YtmmiehckgkadgaaGreatPr9
import Derived.Test.YtmmiehckgkadgaaGreatPr10
import Derived.Test.YtmmiehckgkadgaaGreatPr11
import Derived.Test.YtmmiehckgkadgaaGreatPr12
import Derived.Test.YtmmiehckgkadgaaGreatPr13
import Derived.Test.YtmmiehckgkadgaaGreatPr14
import Derived.Test.YtmmiehckgkadgaaGreatPr15
import Derived.Test.YtmmiehckgkadgaaGreatPr16
import Derived.Test.YtmmiehckgkadgaaGreatPr17
import Derived.Test.YtmmiehckgkadgaaGreatPr18
import Derived.Test.YtmmiehckgkadgaaGreatPr19
import Derived.Test.YtmmiehckgkadgaaGreatPr20
import Derived.Test.YtmmiehckgkadgaaGreatPr21
import Derived.Test.YtmmiehckgkadgaaGreatPr22
import Derived.Test.YtmmiehckgkadgaaGreatPr23
import Derived.Test.YtmmiehckgkadgaaGreatPr24
import Derived.Test.YtmmiehckgkadgaaGreatPr25
import Derived.Test.YtmmiehckgkadgaaGreatPr26
import Derived.Test.YtmmiehckgkadgaaGreatPr27
import Derived.Test.YtmmiehckgkadgaaGreatPr28
import Derived.Test.YtmmiehckgkadgaaGreatPr29
import Derived.Test.YtmmiehckgkadgaaGreatPr30
import Derived.Test.YtmmiehckgkadgaaGreatPr31
import Derived.Test.YtmmiehckgkadgaaGreatPb0
import Derived.Test.YtmmiehckgkadgaaGreatPb1
namespace Go.Proofs.YtmmiehckgkadgaaGreat.O
set_option linter.unusedVariables false
set_option linter.unusedSimpArgs false
open Go.RowKit Go.Proofs.YtmmiehckgkadgaaGreatW.PrintWords
end Go.Proofs.YtmmiehckgkadgaaGreat.O
namespace Go.Proofs.YtmmiehckgkadgaaGreat.O
set_option linter.unusedVariables false
set_option linter.unusedSimpArgs false
open Go.RowKit Go.Proofs.YtmmiehckgkadgaaGreatW.PrintWords
end Go.Proofs.YtmmiehckgkadgaaGreat.O
namespace Go.Proofs.YtmmiehckgkadgaaGreat.O
set_option linter.unusedVariables false
set_option linter.unusedSimpArgs false
open Go.RowKit Go.Proofs.YtmmiehckgkadgaaGreatW.PrintWords
section
variable {ops : Array Oper} {o : Oper} {a : Act} {Q : Exit → Act → World → Prop} {Kc : Act → World → Prop}
theorem append_col {W : World} (B : Nat) (hw : Region.wanted o (yielded ops a.tmps) = true) (s x : Operand) (ho : o.op = .call { callee := .builtin .append, args := #[s, x], argTypes := #[47, 47] })
    (v : Value) (xs : List Col) (c : Col) (oki : Nat → Prop) (hs : a.eval s = v) (hx : a.eval x = .slice (some ⟨W.heap.size, 0, none⟩) 1 1) (HO : kCol.R 41 W B oki v xs) (hB : B ≤ W.heap.size) (hl : xs.length ≤ 100000)
    (h : ∀ v1 w1, kCol.R 41 w1 B (fun q => oki q ∨ W.heap.size ≤ q) v1 (xs ++ [c]) → Below B W w1 → W.grownBy w1 v.ownBlock → Kc (a.put o.dst v1) w1) :
    if Region.wanted o (yielded ops a.tmps) = true then Oper.wp Tryz.prog o a (W.alloc (.cells #[.string c.name, .int .i64 c.kind, .bool c.null] 41)) Kc Q else Kc (a.put o.dst undef) (W.alloc (.cells #[.string c.name, .int .i64 c.kind, .bool c.null] 41)) :=
  Kd.R_append_step kCol B hw s x 47 41 (.agg #[(.string ⟨#[]⟩), (.int .i64 0), (.bool false)]) 32 ho Tryz.underlying47 infoCol rfl (by decide) (by decide) v xs c [.string c.name, .int .i64 c.kind, .bool c.null] (fun q => oki q ∨ W.heap.size ≤ q) (fun _ => False) hs hx (kCol_mkM _ _ _ c) (fun _ h => h.elim) (fun q hq => .inr hq) (Kd.R_mono HO (fun q hq => .inl hq)) (Below.refl _ _) hB (by omega) (fun v1 w1 h1 h2 h3 _ => h v1 w1 h1 h2 h3)
end
def addColM (c : Col) (t : Tab) : Int × Tab := if (mayCol c && c.null) = true then (if 0 ≤ idx (fun x : Col => x.name.toList == c.name.toList) t.cols then (60, t) else if 8 ≤ t.cols.length then (2, t) else (0, { t with cols := t.cols ++ [c] })) else (63, t)
set_option maxRecDepth 20000 in
set_option maxHeartbeats 4000000 in
theorem AddColumn1.calls (ss : List Sch) (ts : List Tab) (c : Col) (w : World) (p : Nat) (hp0 : w.cell? ⟨p, 0, none⟩ = some (.string c.name)) (hp1 : w.cell? ⟨p, 1, none⟩ = some (.int .i64 c.kind)) (hp2 : w.cell? ⟨p, 2, none⟩ = some (.bool c.null)) (hB : TabsB ts) :
    Inner 47 #[.pointer (some ⟨p, 0, none⟩)] w ss ts (addColM c) := by
  intro k hk B W Bs ds g dt hA
  show Calls Tryz.prog 47 #[.agg #[.slice Bs ss.length ds, .slice (some ⟨g, 0, none⟩) ts.length dt], .pointer (some ⟨g, k * 5, none⟩), .pointer (some ⟨p, 0, none⟩)] W _
  obtain ⟨hW, hwB, hBW, hR, hS⟩ := hA
  have hlc : ts[k].cols.length ≤ 3000 := (hB.2 _ (List.getElem_mem hk)).1
  obtain ⟨hB1, hX1⟩ := boxes1 W (.cells #[.slice Bs ss.length ds, .slice (some ⟨g, 0, none⟩) ts.length dt] 25)
  have q0 : ∀ o, (W.alloc o).cell? ⟨p, 0, none⟩ = some (.string c.name) := fun o => pw_cell_below (below_alloc hW o) hp0
  have q1 : ∀ o, (W.alloc o).cell? ⟨p, 1, none⟩ = some (.int .i64 c.kind) := fun o => pw_cell_below (below_alloc hW o) hp1
  have q2 : ∀ o, (W.alloc o).cell? ⟨p, 2, none⟩ = some (.bool c.null) := fun o => pw_cell_below (below_alloc hW o) hp2
  have HP := Aside0.mk (And.intro (pw_cell_below hW hp0) (And.intro (pw_cell_below hW hp1) (pw_cell_below hW hp2)))
  have HB1 := Aside0.mk hB1
  have HBW := Aside0.mk hBW
  have HRS := Aside0.mk (And.intro hR hS)
  have HM := Aside0.mk (fun W => mayColumn.calls c W)
  clear hp0 hp1 hp2 hW hwB hBW hR hS hB1 hX1 hB
  by_cases h1 : mayCol c = true
  case neg =>
    have hm : mayCol c = false := by simpa using h1
    have HQ := Aside0.mk (show (addColM c ts[k]).1 = 63 by unfold addColM; rw [hm]; rfl)
    rw [hm] at HM
    clear h1 hm
    go_enter Tryz.func47, Tryz.ntmps47
    go_wp2_with fail
    refine (HM.out _).mono ?_
    rintro e w1 ⟨rfl, hb1⟩
    have HX := Aside0.mk (InDid.err (ss := ss) (ts := ts) (k := k) (Bs := Bs) (ds := ds) (g := g) (dt := dt) 63 HQ.out (by decide) (below_step HB1.out hb1) HBW.out)
    clear hb1 q0 q1 q2 HQ HRS HP
    go_wp2
    go_ret
    exact HX.out
  case pos =>
  rw [h1] at HM
  cases h2 : c.null with
  | false =>
    have HQ := Aside0.mk (show (addColM c ts[k]).1 = 63 by unfold addColM; rw [h1, h2]; rfl)
    rw [h2] at HM q2 HP
    clear h1
    go_enter Tryz.func47, Tryz.ntmps47
    go_wp2_with fail
    refine (HM.out _).mono ?_
    rintro e w1 ⟨rfl, hb1⟩
    have HX := Aside0.mk (InDid.err (ss := ss) (ts := ts) (k := k) (Bs := Bs) (ds := ds) (g := g) (dt := dt) 63 HQ.out (by decide) (below_step HB1.out hb1) HBW.out)
    have r2 := pw_cell_below (below_step HB1.out hb1) HP.out.2.2
    clear hb1 q0 q1 q2 HQ HRS HP
    go_wp2
    go_ret
    exact HX.out
  | true =>
    have HAM := Aside0.mk (show addColM c ts[k] = (if 0 ≤ idx (fun x : Col => x.name.toList == c.name.toList) ts[k].cols then (60, ts[k]) else if 8 ≤ ts[k].cols.length then (2, ts[k]) else (0, { ts[k] with cols := ts[k].cols ++ [c] })) by unfold addColM; rw [h1, h2]; rfl)
    rw [h2] at HM q2 HP
    have HN2 := Aside0.mk h2
    clear h1 h2
    obtain ⟨oki0, A3, c3, e3, _, h3, _, _⟩ := S_cols HRS.out.2 k hk
    have HNM := Aside0.mk (fun W' (hW' : Below W.heap.size W W') => byNameCol.calls A3 c3 ts[k].cols c.name W' (Kd.C_below (Kd.R_reads' h3).2.2 hW') (by omega))
    have HE3 := Aside0.mk e3
    clear e3 h3
    have HS3 := Aside0.mk HRS.out.2
    rcases idx_cases (fun x : Col => x.name.toList == c.name.toList) ts[k].cols with ⟨m, hm, hi, y1, y2⟩ | ⟨hi, y1⟩
    · rw [hi] at HNM HAM
      have HQ := Aside0.mk (show (addColM c ts[k]).1 = 60 by rw [HAM.out, if_pos (by omega)])
      have hd : decide ((0 : Int) ≤ (m : Int)) = true := decide_eq_true (by omega)
      clear hi y1 y2 HAM
      go_enter Tryz.func47, Tryz.ntmps47
      go_wp2_with fail
      refine (HM.out _).mono ?_
      rintro e w1 ⟨rfl, hb1⟩
      have HB2 := Aside0.mk (below_step HB1.out hb1)
      have r0 := pw_cell_below HB2.out HP.out.1
      have r1 := pw_cell_below HB2.out HP.out.2.1
      have r2 := pw_cell_below HB2.out HP.out.2.2
      have r3 := pw_cell_below HB2.out HE3.out
      clear hb1 q0 q1 q2 HM
      go_wp2
      go_region_held3 (fun w' => w'.cell? ⟨g, k * 5 + 3, none⟩ = some (.slice A3 ts[k].cols.length c3) ∧ w'.cell? ⟨p, 0, none⟩ = some (.string c.name) ∧ Below w1.heap.size w1 w')
        (first | exact keep3b (by assumption) (by assumption) | exact ⟨r3, r0, below_drew (Below.refl _ _)⟩)
        (first | (go_at_call 49; refine (HNM.out _ ?_).mono ?_; exact below_drew HB2.out; rintro e w' ⟨rfl, hbx⟩))
      rename_i hH
      have hb2 := hH.2.2
      have HB3 := Aside0.mk (below_step HB2.out hb2)
      have x0 := pw_cell_below HB3.out HP.out.1
      have x1 := pw_cell_below HB3.out HP.out.2.1
      have x2 := pw_cell_below HB3.out HP.out.2.2
      have x3 := pw_cell_below HB3.out HE3.out
      clear hH hb2 hbx r0 r1 r2 r3 HNM
      have HX := Aside0.mk (InDid.err (ss := ss) (ts := ts) (k := k) (Bs := Bs) (ds := ds) (g := g) (dt := dt) 60 HQ.out (by decide) HB3.out HBW.out)
      go_wp2
      go_ret
      exact HX.out
    · rw [hi] at HNM HAM
      have hd : decide ((0 : Int) ≤ -1) = false := rfl
      clear hi y1
      by_cases h8 : 8 ≤ ts[k].cols.length
      · have HQ := Aside0.mk (show (addColM c ts[k]).1 = 2 by rw [HAM.out, if_neg (by omega), if_pos h8])
        have hd8 : decide ((8 : Int) ≤ (ts[k].cols.length : Int)) = true := decide_eq_true (by omega)
        clear HAM
        go_enter Tryz.func47, Tryz.ntmps47
        go_wp2_with fail
        refine (HM.out _).mono ?_
        rintro e w1 ⟨rfl, hb1⟩
        have HB2 := Aside0.mk (below_step HB1.out hb1)
        have r0 := pw_cell_below HB2.out HP.out.1
        have r1 := pw_cell_below HB2.out HP.out.2.1
        have r2 := pw_cell_below HB2.out HP.out.2.2
        have r3 := pw_cell_below HB2.out HE3.out
        clear hb1 q0 q1 q2 HM
        go_wp2
        go_region_held3 (fun w' => w'.cell? ⟨g, k * 5 + 3, none⟩ = some (.slice A3 ts[k].cols.length c3) ∧ w'.cell? ⟨p, 0, none⟩ = some (.string c.name) ∧ Below w1.heap.size w1 w')
          (first | exact keep3b (by assumption) (by assumption) | exact ⟨r3, r0, below_drew (Below.refl _ _)⟩)
          (first | (go_at_call 49; refine (HNM.out _ ?_).mono ?_; exact below_drew HB2.out; rintro e w' ⟨rfl, hbx⟩))
        rename_i hH
        have hb2 := hH.2.2
        have HB3 := Aside0.mk (below_step HB2.out hb2)
        have x0 := pw_cell_below HB3.out HP.out.1
        have x1 := pw_cell_below HB3.out HP.out.2.1
        have x2 := pw_cell_below HB3.out HP.out.2.2
        have x3 := pw_cell_below HB3.out HE3.out
        clear hH hb2 hbx r0 r1 r2 r3 HNM
        have HX := Aside0.mk (InDid.err (ss := ss) (ts := ts) (k := k) (Bs := Bs) (ds := ds) (g := g) (dt := dt) 2 HQ.out (by decide) HB3.out HBW.out)
        go_wp2
        go_ret
        exact HX.out
      · have HQ := Aside0.mk (show addColM c ts[k] = (0, { ts[k] with cols := ts[k].cols ++ [c] }) by rw [HAM.out, if_neg (by omega), if_neg h8])
        have hd8 : decide ((8 : Int) ≤ (ts[k].cols.length : Int)) = false := decide_eq_false (by omega)
        clear HAM
        go_enter Tryz.func47, Tryz.ntmps47
        go_wp2_with fail
        refine (HM.out _).mono ?_
        rintro e w1 ⟨rfl, hb1⟩
        have HB2 := Aside0.mk (below_step HB1.out hb1)
        have r0 := pw_cell_below HB2.out HP.out.1
        have r1 := pw_cell_below HB2.out HP.out.2.1
        have r2 := pw_cell_below HB2.out HP.out.2.2
        have r3 := pw_cell_below HB2.out HE3.out
        clear hb1 q0 q1 q2 HM
        go_wp2
        go_region_held3 (fun w' => w'.cell? ⟨g, k * 5 + 3, none⟩ = some (.slice A3 ts[k].cols.length c3) ∧ w'.cell? ⟨p, 0, none⟩ = some (.string c.name) ∧ Below w1.heap.size w1 w')
          (first | exact keep3b (by assumption) (by assumption) | exact ⟨r3, r0, below_drew (Below.refl _ _)⟩)
          (first | (go_at_call 49; refine (HNM.out _ ?_).mono ?_; exact below_drew HB2.out; rintro e w' ⟨rfl, hbx⟩))
        rename_i hH
        have hb2 := hH.2.2
        have HB3 := Aside0.mk (below_step HB2.out hb2)
        have x0 := pw_cell_below HB3.out HP.out.1
        have x1 := pw_cell_below HB3.out HP.out.2.1
        have x2 := pw_cell_below HB3.out HP.out.2.2
        have x3 := pw_cell_below HB3.out HE3.out
        clear hH hb2 hbx r0 r1 r2 r3 HNM
        obtain ⟨oki, A3', c3', e3, f3, h3, ho, hset⟩ := S_cols (Kd.S_drew (Kd.S_below HS3.out HB3.out)) k hk
        have ee := e3.symm.trans x3
        injection ee with ee
        injection ee with e1 e2 e4
        subst e1 e4
        have HC := Aside0.mk (And.intro h3 hset)
        have hgB : B ≤ g := Kd.S_base HRS.out.2 g rfl
        have HG := Aside0.mk hgB
        have xa3 : ∀ o, (w'.alloc o).cell? ⟨g, k * 5 + 3, none⟩ = some (.slice A3' ts[k].cols.length c3') := fun o => pw_cell_below (below_alloc (Below.refl _ _) o) x3
        clear e2 e3 h3 ho hset hgB
        go_wp2
        go_region_law ((refine append_col (W := w'.drew) B (by rfl) (.tmp 35) (.tmp 37) rfl (.slice A3' ts[k].cols.length c3') ts[k].cols ⟨c.name, c.kind, true⟩ oki (by rfl) (by rfl) HC.out.1 (Nat.le_trans HBW.out HB3.out.size) (by omega) ?_; intro v1 w4 hR4 hb4 hg4; rw [show (⟨c.name, c.kind, true⟩ : Col) = c from by rw [← HN2.out]] at hR4; obtain ⟨A5, c5, rfl⟩ := Kd.R_slice hR4; obtain ⟨y1, y2, y3, y4⟩ := HC.out.2 w4 _ _ hg4 hR4; have HX := Aside0.mk (And.intro hg4 (And.intro y3 y4)); clear hR4 hb4 hg4 y3 y4))
        all_goals
          have HF := Aside0.mk (InDid.cols (below_drew HB3.out) HBW.out HG.out HRS.out.1 HC.out.1 HX.out.1 HX.out.2.1 (k * 5 + 3) HX.out.2.2)
          rw [show (ts[k].cols ++ [c]).length = ts[k].cols.length + 1 from by simp] at HF
          clear HX HC HRS HS3 x0 x1 x2 x3 xa3 y1 y2 f3
          go_wp2
          go_ret
          rw [HQ.out]
          exact HF.out
def addColumn (ss : List Sch) (ts : List Tab) (schema table : ByteArray) (c : Col) : Res := chg ss ts (tch ss ts schema table (addColM c))
set_option maxRecDepth 20000 in
set_option maxHeartbeats 2000000 in
theorem AddColumn.calls {As At : Option Addr} {cs ct : Nat} (ss : List Sch) (ts : List Tab) (schema table : ByteArray) (c : Col) (w : World) (hs : kSch.C w As ss.length ss) (hsl : ss.length ≤ 3000) (ht : kTab.C w At ts.length ts) (hF : TabsF ts) (hB : TabsB ts) :
    Calls Tryz.prog 14 #[.agg #[.slice As ss.length cs, .slice At ts.length ct], .string schema, .string table, .agg #[.string c.name, .int .i64 c.kind, .bool c.null]] w (Out w (addColumn ss ts schema table c)) := by
  have H3 := Aside0.mk (boxes3 w (.cells #[.slice As ss.length cs, .slice At ts.length ct] 25) (.cells #[.string c.name, .int .i64 c.kind, .bool c.null] 41) (.cells #[.slice none 0 0, .slice none 0 0] 25))
  have HT := Aside0.mk (fun (W : World) (hW : Below w.heap.size w W) (p : Nat) (h0 : W.cell? ⟨p, 0, none⟩ = some (.string c.name)) (h1 : W.cell? ⟨p, 1, none⟩ = some (.int .i64 c.kind)) (h2 : W.cell? ⟨p, 2, none⟩ = some (.bool c.null)) => tableChanged.calls (As := As) (At := At) (cs := cs) (ct := ct) 47 #[.pointer (some ⟨p, 0, none⟩)] (enters Tryz.func47 (by decide) rfl) ss ts schema table _ W (Kd.C_below hs hW) hsl (Kd.C_below ht hW) hF hB (fun _ => AddColumn1.calls ss ts c W p h0 h1 h2 hB))
  clear hs ht hF hB
  unfold addColumn
  generalize chg ss ts (tch ss ts schema table (addColM c)) = q at *
  go_enter Tryz.func14, Tryz.ntmps14
  go_wp2_with fail
  refine (HT.out _ H3.out.1 (w.heap.size + 1) ((blk_cell H3.out.2.2.1 0).trans rfl) ((blk_cell H3.out.2.2.1 1).trans rfl) ((blk_cell H3.out.2.2.1 2).trans rfl)).mono ?_
  rintro e w2 ⟨vs, vt, rfl, h1, h2, hb⟩
  obtain ⟨Es, es, rfl⟩ := Kd.R_slice h1
  obtain ⟨Et, et, rfl⟩ := Kd.R_slice h2
  have hZ2 := blk_below H3.out.2.2.2 hb
  have z0 : w2.cell? ⟨w.heap.size + 1 + 1, 0, none⟩ = some (.slice none 0 0) := (blk_cell hZ2 0).trans rfl
  have z1 : w2.cell? ⟨w.heap.size + 1 + 1, 1, none⟩ = some (.slice none 0 0) := (blk_cell hZ2 1).trans rfl
  have f0 := blk_frozen hZ2 0
  have f1 := blk_frozen hZ2 1
  have HX := Aside0.mk (Out.wrap (g := w.heap.size + 1 + 1) H3.out.1 (by omega) H3.out.2.2.2 h1 h2 hb)
  clear h1 h2 hb hZ2 H3 HT
  go_wp2
  refine bodyPost_ret (v := .tuple #[.agg #[.slice Es q.2.1.length es, .slice Et q.2.2.length et], .int .i64 q.1]) (by simp [results, Tryz.results14, go_sem, *]) rfl ?_
  exact ⟨_, _, rfl, HX.out⟩
end Go.Proofs.YtmmiehckgkadgaaGreat.O
namespace Go.Proofs.YtmmiehckgkadgaaGreat.O
set_option linter.unusedVariables false
set_option linter.unusedSimpArgs false
open Go.RowKit Go.Proofs.YtmmiehckgkadgaaGreatW.PrintWords
end Go.Proofs.YtmmiehckgkadgaaGreat.O
namespace Go.Proofs.YtmmiehckgkadgaaGreat.O
set_option linter.unusedVariables false
set_option linter.unusedSimpArgs false
open Go.RowKit Go.Proofs.YtmmiehckgkadgaaGreatW.PrintWords
end Go.Proofs.YtmmiehckgkadgaaGreat.O
namespace Go.Proofs.YtmmiehckgkadgaaGreat.O
set_option linter.unusedVariables false
set_option linter.unusedSimpArgs false
open Go.RowKit Go.Proofs.YtmmiehckgkadgaaGreatW.PrintWords Go.Sort Go.Shelf
instance : Inhabited Sch := ⟨zSch⟩
end Go.Proofs.YtmmiehckgkadgaaGreat.O
namespace Go.Proofs.YtmmiehckgkadgaaGreat.O
set_option linter.unusedVariables false
set_option linter.unusedSimpArgs false
open Go.RowKit Go.Proofs.YtmmiehckgkadgaaGreatW.PrintWords Go.Sort Go.Shelf
instance : Inhabited Tab := ⟨zTab⟩
instance : Inhabited TabP := ⟨⟨zTab, none, 0, none, 0⟩⟩
end Go.Proofs.YtmmiehckgkadgaaGreat.O
namespace Go.Proofs.YtmmiehckgkadgaaGreat.O
set_option linter.unusedVariables false
set_option linter.unusedSimpArgs false
open Go.Sort
theorem fits_cols {l : List Col} {r : Rul} (h : fitsB l r = true) : ∀ n ∈ r.cols, (kindOf l n).isSome = true := fun n hn => by
  obtain ⟨i, hi, rfl⟩ := List.getElem_of_mem hn
  exact ((fits_iff.1 h).2.2.1 i hi).1
theorem kindOf_snoc {l : List Col} {c : Col} {n : ByteArray} (h : (kindOf l n).isSome = true) : kindOf (l ++ [c]) n = kindOf l n := by
  rw [kindOf_find] at h ⊢
  rw [kindOf_find, List.find?_append]
  rw [Option.isSome_map] at h
  cases e : l.find? (fun x => x.name.toList == n.toList) with
  | none => rw [e] at h; cases h
  | some a => rfl
theorem Rt.addCol {ss : List Sch} {ts : List Tab} (h : Rt ss ts) {k : Nat} (hk : k < ts.length) {c : Col} (hc : mayCol c = true) (hl : ts[k].cols.length < 8) (hx : ∀ x ∈ ts[k].cols, x.name ≠ c.name) : Rt ss (ts.set k { ts[k] with cols := ts[k].cols ++ [c] }) := by
  have gt := h.r _ (List.getElem_mem hk)
  have g := mayCols_iff.1 gt.c
  refine h.cols hk (mayCols_iff.2 ⟨by rw [List.length_append]; simp, by rw [List.length_append]; simp; omega, fun x hx' => ?_, List.pairwise_append.2 ⟨g.2.2.2, by simp, fun a ha b hb => ?_⟩⟩) fun r hr n hn => kindOf_snoc (fits_cols (gt.f r hr) n hn)
  · rcases List.mem_append.1 hx' with hx' | hx'
    · exact g.2.2.1 x hx'
    · obtain rfl : x = c := by simpa using hx'
      exact hc
  · obtain rfl : b = c := by simpa using hb
    exact hx a ha
end Go.Proofs.YtmmiehckgkadgaaGreat.O
namespace Go.Proofs.YtmmiehckgkadgaaGreat.O
set_option linter.unusedVariables false
set_option linter.unusedSimpArgs false
open Go.RowKit Go.Proofs.YtmmiehckgkadgaaGreatW.PrintWords Go.Sort Go.Shelf
instance : Inhabited RulP := ⟨⟨zRul, none, 0⟩⟩
instance : Inhabited Rul := ⟨zRul⟩
end Go.Proofs.YtmmiehckgkadgaaGreat.O
