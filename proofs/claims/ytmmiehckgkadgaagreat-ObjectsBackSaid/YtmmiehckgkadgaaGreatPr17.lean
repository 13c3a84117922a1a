/- Own lemmas and walks (TB), without what the law does not need. Laid by a program of this session (prune.py). -/
import Derived.Test.YtmmiehckgkadgaaGreatPr15
namespace Go.Proofs.YtmmiehckgkadgaaGreat.O
set_option linter.unusedVariables false
set_option linter.unusedSimpArgs false
open Go.RowKit Go.Proofs.YtmmiehckgkadgaaGreatW.PrintWords Go.Sort
theorem RT_addr {α : Type} {d : Kd α} {e b : Nat} {w : World} {ok : Nat → Prop} {v : Value} {xs : List α} (h : d.R e w b ok v xs) (hl : 0 < xs.length) : ∃ g c, v = .slice (some ⟨g, 0, none⟩) xs.length c := by
  obtain ⟨_, inner, ho, _⟩ := h
  rcases ho.2 with ⟨_, h⟩ | ⟨g', cap, cur, hv, _⟩
  · omega
  · exact ⟨g', cap, hv⟩
theorem bytes_tri (a b : ByteArray) : a.data.toList < b.data.toList ∨ b.data.toList < a.data.toList ∨ a = b := by
  by_cases h1 : a.data.toList < b.data.toList
  · exact .inl h1
  · by_cases h2 : b.data.toList < a.data.toList
    · exact .inr (.inl h2)
    · exact .inr (.inr (ByteArray.ext (Array.toList_inj.1 (List.le_antisymm (List.not_lt.1 h2) (List.not_lt.1 h1)))))
theorem order_tri (x y : Tab) : ltOf orderT x y = true ∨ ltOf orderT y x = true ∨ (x.schema = y.schema ∧ x.name = y.name) := by
  simp only [ltOf, decide_eq_true_eq, orderT_lt]
  rcases bytes_tri x.schema y.schema with h | h | h
  · exact .inl (.inl h)
  · exact .inr (.inl (.inl h))
  · rcases bytes_tri x.name y.name with k | k | k
    · exact .inl (.inr ⟨h, k⟩)
    · exact .inr (.inl (.inr ⟨h.symm, k⟩))
    · exact .inr (.inr ⟨h, k⟩)
theorem isT_iff (schema name : ByteArray) (t : Tab) : isT schema name t = true ↔ t.schema = schema ∧ t.name = name := by
  unfold isT
  rw [Bool.and_eq_true, eq_S, eq_S, decide_eq_true_eq, decide_eq_true_eq, cmpS_zero, cmpS_zero]
theorem tabs_rise {ss : List Sch} {ts : List Tab} (h : checkB ss ts = true) : ts.Pairwise (fun a b => ltOf orderT a b = true) := by
  unfold checkB at h
  simp only [Bool.and_eq_true] at h
  exact rises_pairwise swoOrder.trans h.2.2.1
def ofSch (name : ByteArray) (x : Sch) : Bool := x.name.toList == name.toList
def addTabR (ss : List Sch) (ts : List Tab) (t : Tab) : Res :=
  if (nameB t.name && nameB t.owner) = true then (if 0 ≤ idx (ofSch t.schema) ss then (if 0 ≤ idx (isT t.schema t.name) ts then (60, [], []) else if 8 ≤ cnt (ofS t.schema) ts then (2, [], []) else if (mayCols t.cols && decide (t.rules.length = 0)) = true then (0, ss, ins (ltOf orderT) t ts) else (63, [], [])) else (61, [], [])) else (1, [], [])
theorem DidT.err {B g : Nat} {w w' : World} {r : Res} (n : Int) (hr : r = (n, [], [])) (hn : n ≠ 0) (hb : Below w.heap.size w w') (hB : B ≤ w.heap.size) : Did B w g r (.returned (.int .i64 n)) w' := by
  subst hr
  exact ⟨rfl, hb.mono hB, fun h => absurd h hn⟩
theorem Did.tabs {B g : Nat} {w w1 w4 w5 : World} {ss : List Sch} {ts ts' : List Tab} {Bs Bt : Option Addr} {ds dt g5 c5 n : Nat} (hb1 : Below w.heap.size w w1) (hBw : B ≤ w.heap.size) (hBg : B ≤ g) (hR1 : kSch.R 76 w1 B (fun _ => True) (.slice Bs ss.length ds) ss)
    (hT1 : kTab.R 50 w1 B (fun _ => True) (.slice Bt ts.length dt) ts) (hG1 : w1.heap[g]? = some (.cells #[.slice Bs ss.length ds, .slice Bt ts.length dt] 25 (0, 0))) (hg4 : w1.grownBy w4 (Value.slice Bt ts.length dt).ownBlock) {xs : List Tab} (hT4 : kTab.R 50 w4 B (fun _ => True) (.slice (some ⟨g5, 0, none⟩) n c5) xs)
    (hg6 : (w4.setCell ⟨g, 1, none⟩ (.slice (some ⟨g5, 0, none⟩) n c5)).grownBy w5 (some g5)) (hT6 : kTab.R 50 w5 B (fun _ => True) (.slice (some ⟨g5, 0, none⟩) n c5) ts') : Did B w g (0, ss, ts') (.returned (.int .i64 0)) w5 := by
  have hG4 := blk_grown hG1 hg4 (Kd.R_ne hT1 hG1 (by decide))
  have hR4 := Kd.R_over' hR1 (Kd.R_typed hT1) (by decide) hg4
  have hb4 : Below B w w4 := (hb1.mono hBw).grown hg4 (Nat.le_trans hBw hb1.size) (fun q hq => Kd.R_base hT1 q hq)
  have hb5 : Below B w (w4.setCell ⟨g, 1, none⟩ (.slice (some ⟨g5, 0, none⟩) n c5)) := hb4.setCell (p := ⟨g, 1, none⟩) hBg _
  have hG5 := blk_set hG4 1 (.slice (some ⟨g5, 0, none⟩) n c5)
  have hT5 := Kd.R_set hT4 hG4 (by decide) 1 (.slice (some ⟨g5, 0, none⟩) n c5)
  have hR5 := Kd.R_set hR4 hG4 (by decide) 1 (.slice (some ⟨g5, 0, none⟩) n c5)
  have hG6 := blk_grown hG5 hg6 (Kd.R_ne hT5 hG5 (by decide))
  refine ⟨rfl, hb5.grown hg6 ?_ (fun q hq => Kd.R_base hT5 q hq), fun _ => ⟨_, _, hG6, Kd.R_over' hR5 (Kd.R_typed hT5) (by decide) hg6, hT6⟩⟩
  exact Nat.le_trans hBw hb5.size
theorem kp2 {w0 w w' : World} {v0 v1 : Value} {a0 a1 : Addr} (h : w.cell? a0 = some v0 ∧ w.cell? a1 = some v1 ∧ Below w0.heap.size w0 w) (hb : Below w.heap.size w w') : w'.cell? a0 = some v0 ∧ w'.cell? a1 = some v1 ∧ Below w0.heap.size w0 w' := ⟨pw_cell_below hb h.1, pw_cell_below hb h.2.1, below_step h.2.2 hb⟩
theorem kp3 {w0 w w' : World} {v0 v1 v2 : Value} {a0 a1 a2 : Addr} (h : w.cell? a0 = some v0 ∧ w.cell? a1 = some v1 ∧ w.cell? a2 = some v2 ∧ Below w0.heap.size w0 w) (hb : Below w.heap.size w w') : w'.cell? a0 = some v0 ∧ w'.cell? a1 = some v1 ∧ w'.cell? a2 = some v2 ∧ Below w0.heap.size w0 w' := ⟨pw_cell_below hb h.1, kp2 h.2 hb⟩
theorem kp4 {w0 w w' : World} {v0 v1 v2 v3 : Value} {a0 a1 a2 a3 : Addr} (h : w.cell? a0 = some v0 ∧ w.cell? a1 = some v1 ∧ w.cell? a2 = some v2 ∧ w.cell? a3 = some v3 ∧ Below w0.heap.size w0 w) (hb : Below w.heap.size w w') : w'.cell? a0 = some v0 ∧ w'.cell? a1 = some v1 ∧ w'.cell? a2 = some v2 ∧ w'.cell? a3 = some v3 ∧ Below w0.heap.size w0 w' := ⟨pw_cell_below hb h.1, kp3 h.2 hb⟩
set_option maxRecDepth 20000 in
set_option maxHeartbeats 8000000 in
theorem AddTable1.calls (ss : List Sch) (ts : List Tab) (t : Tab) {A3 A4 : Option Addr} {c3 c4 : Nat} (w0 : World) (p : Nat) (hp : w0.heap[p]? = some (.cells #[.string t.schema, .string t.name, .string t.owner, .slice A3 t.cols.length c3, .slice A4 t.rules.length c4] 50 (0, 0))) (h3 : kCol.C w0 A3 t.cols.length t.cols) (h4 : kRul.C w0 A4 t.rules.length t.rules) (hlc : t.cols.length ≤ 140737488355328) (hsl : ss.length ≤ 3000) (htl : ts.length ≤ 3000) (hck : checkB ss ts = true) :
    ∀ B g Bs ds Bt dt w, Below w0.heap.size w0 w → w0.heap.size ≤ B → Mine B g Bs Bt ds dt ss ts w → Calls Tryz.prog 75 (#[.pointer (some ⟨g, 0, none⟩)] ++ #[.pointer (some ⟨p, 0, none⟩)]) w (Did B w g (addTabR ss ts t)) := by
  intro B g Bs ds Bt dt w hW hwB hM
  show Calls Tryz.prog 75 #[.pointer (some ⟨g, 0, none⟩), .pointer (some ⟨p, 0, none⟩)] w _
  obtain ⟨hBg, hBw, hG, hR, hS⟩ := hM
  have HP := Aside0.mk (blk_below hp hW)
  have HG := Aside0.mk hG
  have HR := Aside0.mk hR
  have HS := Aside0.mk hS
  have HBW := Aside0.mk (And.intro hBw hBg)
  have HX0 := Aside0.mk (Below.refl w.heap.size w)
  have HN1 := Aside0.mk (fun W => Name.calls t.name W)
  have HN2 := Aside0.mk (fun W => Name.calls t.owner W)
  have HC3 := Aside0.mk (Kd.C_below h3 hW)
  have HC4 := Aside0.mk (Kd.C_below h4 hW)
  have HNM := Aside0.mk (fun W' (hW' : Below w.heap.size w W') => byNameSch.calls Bs ds ss t.schema W' (Kd.C_below (Kd.R_reads' hR).2.2 hW') (by omega))
  have HWI := Aside0.mk (fun W' (hW' : Below w.heap.size w W') => within.calls (As := Bs) (ns := ss.length) (cs := ds) (ct := dt) ts t.schema W' (Kd.C_below (Kd.R_reads' (Kd.S_R hS)).2.2 hW') (by omega))
  have HWH := Aside0.mk (fun W' (hW' : Below w.heap.size w W') => where.calls (As := Bs) (ns := ss.length) (cs := ds) (ct := dt) ts t.schema t.name W' (Kd.C_below (Kd.R_reads' (Kd.S_R hS)).2.2 hW') (by omega))
  have HMC := Aside0.mk (fun W' (hW' : Below w.heap.size w W') => mayColumns.calls A3 c3 t.cols W' (Kd.C_below HC3.out hW') hlc)
  have HPW := Aside0.mk (tabs_rise hck)
  clear hp hW hwB hG hR hS hBw hBg hck h3 h4
  cases h1 : nameB t.name with
  | false =>
    have HE := Aside0.mk (show addTabR ss ts t = (1, [], []) by unfold addTabR; rw [h1]; rfl)
    rw [h1] at HN1
    clear h1 HN2 HNM HR HS HPW HWI HMC HC3 HC4
    go_enter Tryz.func75, Tryz.ntmps75
    have c_g0 : w.cell? ⟨g, 0, none⟩ = some (Value.slice Bs ss.length ds) := (blk_cell HG.out 0).trans rfl
    have f_g0 := blk_frozen HG.out 0
    have c_g1 : w.cell? ⟨g, 1, none⟩ = some (Value.slice Bt ts.length dt) := (blk_cell HG.out 1).trans rfl
    have f_g1 := blk_frozen HG.out 1
    have c_p0 : w.cell? ⟨p, 0, none⟩ = some (Value.string t.schema) := (blk_cell HP.out 0).trans rfl
    have f_p0 := blk_frozen HP.out 0
    have c_p1 : w.cell? ⟨p, 1, none⟩ = some (Value.string t.name) := (blk_cell HP.out 1).trans rfl
    have f_p1 := blk_frozen HP.out 1
    have c_p2 : w.cell? ⟨p, 2, none⟩ = some (Value.string t.owner) := (blk_cell HP.out 2).trans rfl
    have f_p2 := blk_frozen HP.out 2
    have c_p3 : w.cell? ⟨p, 3, none⟩ = some (Value.slice A3 t.cols.length c3) := (blk_cell HP.out 3).trans rfl
    have f_p3 := blk_frozen HP.out 3
    have c_p4 : w.cell? ⟨p, 4, none⟩ = some (Value.slice A4 t.rules.length c4) := (blk_cell HP.out 4).trans rfl
    have f_p4 := blk_frozen HP.out 4
    go_wp2
    go_region_held3 (fun w' => w'.cell? ⟨g, 0, none⟩ = some (Value.slice Bs ss.length ds) ∧ w'.cell? ⟨g, 1, none⟩ = some (Value.slice Bt ts.length dt) ∧ w'.cell? ⟨p, 0, none⟩ = some (Value.string t.schema) ∧ w'.cell? ⟨p, 1, none⟩ = some (Value.string t.name) ∧ Below w.heap.size w w')
      (first | exact kp4 (by assumption) (by assumption) | exact ⟨c_g0, c_g1, c_p0, c_p1, below_drew (Below.refl _ _)⟩)
      (first | (go_at_call 73; refine (HWH.out _ ?_).mono ?_; exact below_drew (HX0.out); rintro e k1 ⟨rfl, hbx⟩))
    rename_i hH
    have hb2 := hH.2.2.2.2
    clear c_g0 f_g0 c_g1 f_g1 c_p0 f_p0 c_p1 f_p1 c_p2 f_p2 c_p3 f_p3 c_p4 f_p4
    have HBk1k := Aside0.mk (below_step (HX0.out) hb2)
    have HK1 := Aside0.mk (blk_below (HG.out) hb2)
    have HK2 := Aside0.mk (blk_below (HP.out) hb2)
    clear hH hbx hb2
    have c_g0 : k1.cell? ⟨g, 0, none⟩ = some (Value.slice Bs ss.length ds) := (blk_cell HK1.out 0).trans rfl
    have f_g0 := blk_frozen HK1.out 0
    have c_g1 : k1.cell? ⟨g, 1, none⟩ = some (Value.slice Bt ts.length dt) := (blk_cell HK1.out 1).trans rfl
    have f_g1 := blk_frozen HK1.out 1
    have c_p0 : k1.cell? ⟨p, 0, none⟩ = some (Value.string t.schema) := (blk_cell HK2.out 0).trans rfl
    have f_p0 := blk_frozen HK2.out 0
    have c_p1 : k1.cell? ⟨p, 1, none⟩ = some (Value.string t.name) := (blk_cell HK2.out 1).trans rfl
    have f_p1 := blk_frozen HK2.out 1
    have c_p2 : k1.cell? ⟨p, 2, none⟩ = some (Value.string t.owner) := (blk_cell HK2.out 2).trans rfl
    have f_p2 := blk_frozen HK2.out 2
    have c_p3 : k1.cell? ⟨p, 3, none⟩ = some (Value.slice A3 t.cols.length c3) := (blk_cell HK2.out 3).trans rfl
    have f_p3 := blk_frozen HK2.out 3
    have c_p4 : k1.cell? ⟨p, 4, none⟩ = some (Value.slice A4 t.rules.length c4) := (blk_cell HK2.out 4).trans rfl
    have f_p4 := blk_frozen HK2.out 4
    go_wp2_with fail
    clear c_g0 f_g0 c_g1 f_g1 c_p0 f_p0 c_p1 f_p1 c_p2 f_p2 c_p3 f_p3 c_p4 f_p4
    refine (HN1.out _).mono ?_
    rintro e w_ ⟨rfl, rfl⟩
    have c_g0 : k1.cell? ⟨g, 0, none⟩ = some (Value.slice Bs ss.length ds) := (blk_cell HK1.out 0).trans rfl
    have f_g0 := blk_frozen HK1.out 0
    have c_g1 : k1.cell? ⟨g, 1, none⟩ = some (Value.slice Bt ts.length dt) := (blk_cell HK1.out 1).trans rfl
    have f_g1 := blk_frozen HK1.out 1
    have c_p0 : k1.cell? ⟨p, 0, none⟩ = some (Value.string t.schema) := (blk_cell HK2.out 0).trans rfl
    have f_p0 := blk_frozen HK2.out 0
    have c_p1 : k1.cell? ⟨p, 1, none⟩ = some (Value.string t.name) := (blk_cell HK2.out 1).trans rfl
    have f_p1 := blk_frozen HK2.out 1
    have c_p2 : k1.cell? ⟨p, 2, none⟩ = some (Value.string t.owner) := (blk_cell HK2.out 2).trans rfl
    have f_p2 := blk_frozen HK2.out 2
    have c_p3 : k1.cell? ⟨p, 3, none⟩ = some (Value.slice A3 t.cols.length c3) := (blk_cell HK2.out 3).trans rfl
    have f_p3 := blk_frozen HK2.out 3
    have c_p4 : k1.cell? ⟨p, 4, none⟩ = some (Value.slice A4 t.rules.length c4) := (blk_cell HK2.out 4).trans rfl
    have f_p4 := blk_frozen HK2.out 4
    have HX := Aside0.mk (DidT.err (g := g) 1 HE.out (by decide) (HBk1k.out) HBW.out.1)
    go_wp2
    go_ret
    exact HX.out
  | true =>
  rw [h1] at HN1
  cases h2 : nameB t.owner with
  | false =>
    have HE := Aside0.mk (show addTabR ss ts t = (1, [], []) by unfold addTabR; rw [h1, h2]; rfl)
    rw [h2] at HN2
    clear h1 h2 HNM HR HS HPW HWI HMC HC3 HC4
    go_enter Tryz.func75, Tryz.ntmps75
    have c_g0 : w.cell? ⟨g, 0, none⟩ = some (Value.slice Bs ss.length ds) := (blk_cell HG.out 0).trans rfl
    have f_g0 := blk_frozen HG.out 0
    have c_g1 : w.cell? ⟨g, 1, none⟩ = some (Value.slice Bt ts.length dt) := (blk_cell HG.out 1).trans rfl
    have f_g1 := blk_frozen HG.out 1
    have c_p0 : w.cell? ⟨p, 0, none⟩ = some (Value.string t.schema) := (blk_cell HP.out 0).trans rfl
    have f_p0 := blk_frozen HP.out 0
    have c_p1 : w.cell? ⟨p, 1, none⟩ = some (Value.string t.name) := (blk_cell HP.out 1).trans rfl
    have f_p1 := blk_frozen HP.out 1
    have c_p2 : w.cell? ⟨p, 2, none⟩ = some (Value.string t.owner) := (blk_cell HP.out 2).trans rfl
    have f_p2 := blk_frozen HP.out 2
    have c_p3 : w.cell? ⟨p, 3, none⟩ = some (Value.slice A3 t.cols.length c3) := (blk_cell HP.out 3).trans rfl
    have f_p3 := blk_frozen HP.out 3
    have c_p4 : w.cell? ⟨p, 4, none⟩ = some (Value.slice A4 t.rules.length c4) := (blk_cell HP.out 4).trans rfl
    have f_p4 := blk_frozen HP.out 4
    go_wp2
    go_region_held3 (fun w' => w'.cell? ⟨g, 0, none⟩ = some (Value.slice Bs ss.length ds) ∧ w'.cell? ⟨g, 1, none⟩ = some (Value.slice Bt ts.length dt) ∧ w'.cell? ⟨p, 0, none⟩ = some (Value.string t.schema) ∧ w'.cell? ⟨p, 1, none⟩ = some (Value.string t.name) ∧ Below w.heap.size w w')
      (first | exact kp4 (by assumption) (by assumption) | exact ⟨c_g0, c_g1, c_p0, c_p1, below_drew (Below.refl _ _)⟩)
      (first | (go_at_call 73; refine (HWH.out _ ?_).mono ?_; exact below_drew (HX0.out); rintro e k1 ⟨rfl, hbx⟩))
    rename_i hH
    have hb2 := hH.2.2.2.2
    clear c_g0 f_g0 c_g1 f_g1 c_p0 f_p0 c_p1 f_p1 c_p2 f_p2 c_p3 f_p3 c_p4 f_p4
    have HBk1k := Aside0.mk (below_step (HX0.out) hb2)
    have HK1 := Aside0.mk (blk_below (HG.out) hb2)
    have HK2 := Aside0.mk (blk_below (HP.out) hb2)
    clear hH hbx hb2
    have c_g0 : k1.cell? ⟨g, 0, none⟩ = some (Value.slice Bs ss.length ds) := (blk_cell HK1.out 0).trans rfl
    have f_g0 := blk_frozen HK1.out 0
    have c_g1 : k1.cell? ⟨g, 1, none⟩ = some (Value.slice Bt ts.length dt) := (blk_cell HK1.out 1).trans rfl
    have f_g1 := blk_frozen HK1.out 1
    have c_p0 : k1.cell? ⟨p, 0, none⟩ = some (Value.string t.schema) := (blk_cell HK2.out 0).trans rfl
    have f_p0 := blk_frozen HK2.out 0
    have c_p1 : k1.cell? ⟨p, 1, none⟩ = some (Value.string t.name) := (blk_cell HK2.out 1).trans rfl
    have f_p1 := blk_frozen HK2.out 1
    have c_p2 : k1.cell? ⟨p, 2, none⟩ = some (Value.string t.owner) := (blk_cell HK2.out 2).trans rfl
    have f_p2 := blk_frozen HK2.out 2
    have c_p3 : k1.cell? ⟨p, 3, none⟩ = some (Value.slice A3 t.cols.length c3) := (blk_cell HK2.out 3).trans rfl
    have f_p3 := blk_frozen HK2.out 3
    have c_p4 : k1.cell? ⟨p, 4, none⟩ = some (Value.slice A4 t.rules.length c4) := (blk_cell HK2.out 4).trans rfl
    have f_p4 := blk_frozen HK2.out 4
    go_wp2_with fail
    clear c_g0 f_g0 c_g1 f_g1 c_p0 f_p0 c_p1 f_p1 c_p2 f_p2 c_p3 f_p3 c_p4 f_p4
    refine (HN1.out _).mono ?_
    rintro e w_ ⟨rfl, rfl⟩
    have c_g0 : k1.cell? ⟨g, 0, none⟩ = some (Value.slice Bs ss.length ds) := (blk_cell HK1.out 0).trans rfl
    have f_g0 := blk_frozen HK1.out 0
    have c_g1 : k1.cell? ⟨g, 1, none⟩ = some (Value.slice Bt ts.length dt) := (blk_cell HK1.out 1).trans rfl
    have f_g1 := blk_frozen HK1.out 1
    have c_p0 : k1.cell? ⟨p, 0, none⟩ = some (Value.string t.schema) := (blk_cell HK2.out 0).trans rfl
    have f_p0 := blk_frozen HK2.out 0
    have c_p1 : k1.cell? ⟨p, 1, none⟩ = some (Value.string t.name) := (blk_cell HK2.out 1).trans rfl
    have f_p1 := blk_frozen HK2.out 1
    have c_p2 : k1.cell? ⟨p, 2, none⟩ = some (Value.string t.owner) := (blk_cell HK2.out 2).trans rfl
    have f_p2 := blk_frozen HK2.out 2
    have c_p3 : k1.cell? ⟨p, 3, none⟩ = some (Value.slice A3 t.cols.length c3) := (blk_cell HK2.out 3).trans rfl
    have f_p3 := blk_frozen HK2.out 3
    have c_p4 : k1.cell? ⟨p, 4, none⟩ = some (Value.slice A4 t.rules.length c4) := (blk_cell HK2.out 4).trans rfl
    have f_p4 := blk_frozen HK2.out 4
    go_wp2_with fail
    clear c_g0 f_g0 c_g1 f_g1 c_p0 f_p0 c_p1 f_p1 c_p2 f_p2 c_p3 f_p3 c_p4 f_p4
    refine (HN2.out _).mono ?_
    rintro e w_ ⟨rfl, rfl⟩
    have c_g0 : k1.cell? ⟨g, 0, none⟩ = some (Value.slice Bs ss.length ds) := (blk_cell HK1.out 0).trans rfl
    have f_g0 := blk_frozen HK1.out 0
    have c_g1 : k1.cell? ⟨g, 1, none⟩ = some (Value.slice Bt ts.length dt) := (blk_cell HK1.out 1).trans rfl
    have f_g1 := blk_frozen HK1.out 1
    have c_p0 : k1.cell? ⟨p, 0, none⟩ = some (Value.string t.schema) := (blk_cell HK2.out 0).trans rfl
    have f_p0 := blk_frozen HK2.out 0
    have c_p1 : k1.cell? ⟨p, 1, none⟩ = some (Value.string t.name) := (blk_cell HK2.out 1).trans rfl
    have f_p1 := blk_frozen HK2.out 1
    have c_p2 : k1.cell? ⟨p, 2, none⟩ = some (Value.string t.owner) := (blk_cell HK2.out 2).trans rfl
    have f_p2 := blk_frozen HK2.out 2
    have c_p3 : k1.cell? ⟨p, 3, none⟩ = some (Value.slice A3 t.cols.length c3) := (blk_cell HK2.out 3).trans rfl
    have f_p3 := blk_frozen HK2.out 3
    have c_p4 : k1.cell? ⟨p, 4, none⟩ = some (Value.slice A4 t.rules.length c4) := (blk_cell HK2.out 4).trans rfl
    have f_p4 := blk_frozen HK2.out 4
    have HX := Aside0.mk (DidT.err (g := g) 1 HE.out (by decide) (HBk1k.out) HBW.out.1)
    go_wp2
    go_ret
    exact HX.out
  | true =>
  have HE0 := Aside0.mk (show addTabR ss ts t = (if 0 ≤ idx (ofSch t.schema) ss then (if 0 ≤ idx (isT t.schema t.name) ts then (60, [], []) else if 8 ≤ cnt (ofS t.schema) ts then (2, [], []) else if (mayCols t.cols && decide (t.rules.length = 0)) = true then (0, ss, ins (ltOf orderT) t ts) else (63, [], [])) else (61, [], [])) by unfold addTabR; rw [h1, h2]; rfl)
  rw [h2] at HN2
  clear h1 h2
  rcases idx_cases (ofSch t.schema) ss with ⟨m, hm, hi, y1, y2⟩ | ⟨hi, y1⟩
  rotate_left
  · have HE := Aside0.mk (show addTabR ss ts t = (61, [], []) by rw [HE0.out, hi, if_neg (by omega)])
    rw [show idx (fun x : Sch => x.name.toList == t.schema.toList) ss = -1 from hi] at HNM
    have hd : decide ((-1 : Int) < 0) = true := rfl
    clear hi y1 HE0 HR HS HPW HWI HMC HC3 HC4
    go_enter Tryz.func75, Tryz.ntmps75
    have c_g0 : w.cell? ⟨g, 0, none⟩ = some (Value.slice Bs ss.length ds) := (blk_cell HG.out 0).trans rfl
    have f_g0 := blk_frozen HG.out 0
    have c_g1 : w.cell? ⟨g, 1, none⟩ = some (Value.slice Bt ts.length dt) := (blk_cell HG.out 1).trans rfl
    have f_g1 := blk_frozen HG.out 1
    have c_p0 : w.cell? ⟨p, 0, none⟩ = some (Value.string t.schema) := (blk_cell HP.out 0).trans rfl
    have f_p0 := blk_frozen HP.out 0
    have c_p1 : w.cell? ⟨p, 1, none⟩ = some (Value.string t.name) := (blk_cell HP.out 1).trans rfl
    have f_p1 := blk_frozen HP.out 1
    have c_p2 : w.cell? ⟨p, 2, none⟩ = some (Value.string t.owner) := (blk_cell HP.out 2).trans rfl
    have f_p2 := blk_frozen HP.out 2
    have c_p3 : w.cell? ⟨p, 3, none⟩ = some (Value.slice A3 t.cols.length c3) := (blk_cell HP.out 3).trans rfl
    have f_p3 := blk_frozen HP.out 3
    have c_p4 : w.cell? ⟨p, 4, none⟩ = some (Value.slice A4 t.rules.length c4) := (blk_cell HP.out 4).trans rfl
    have f_p4 := blk_frozen HP.out 4
    go_wp2
    go_region_held3 (fun w' => w'.cell? ⟨g, 0, none⟩ = some (Value.slice Bs ss.length ds) ∧ w'.cell? ⟨g, 1, none⟩ = some (Value.slice Bt ts.length dt) ∧ w'.cell? ⟨p, 0, none⟩ = some (Value.string t.schema) ∧ w'.cell? ⟨p, 1, none⟩ = some (Value.string t.name) ∧ Below w.heap.size w w')
      (first | exact kp4 (by assumption) (by assumption) | exact ⟨c_g0, c_g1, c_p0, c_p1, below_drew (Below.refl _ _)⟩)
      (first | (go_at_call 73; refine (HWH.out _ ?_).mono ?_; exact below_drew (HX0.out); rintro e k1 ⟨rfl, hbx⟩))
    rename_i hH
    have hb2 := hH.2.2.2.2
    clear c_g0 f_g0 c_g1 f_g1 c_p0 f_p0 c_p1 f_p1 c_p2 f_p2 c_p3 f_p3 c_p4 f_p4
    have HBk1k := Aside0.mk (below_step (HX0.out) hb2)
    have HK1 := Aside0.mk (blk_below (HG.out) hb2)
    have HK2 := Aside0.mk (blk_below (HP.out) hb2)
    clear hH hbx hb2
    have c_g0 : k1.cell? ⟨g, 0, none⟩ = some (Value.slice Bs ss.length ds) := (blk_cell HK1.out 0).trans rfl
    have f_g0 := blk_frozen HK1.out 0
    have c_g1 : k1.cell? ⟨g, 1, none⟩ = some (Value.slice Bt ts.length dt) := (blk_cell HK1.out 1).trans rfl
    have f_g1 := blk_frozen HK1.out 1
    have c_p0 : k1.cell? ⟨p, 0, none⟩ = some (Value.string t.schema) := (blk_cell HK2.out 0).trans rfl
    have f_p0 := blk_frozen HK2.out 0
    have c_p1 : k1.cell? ⟨p, 1, none⟩ = some (Value.string t.name) := (blk_cell HK2.out 1).trans rfl
    have f_p1 := blk_frozen HK2.out 1
    have c_p2 : k1.cell? ⟨p, 2, none⟩ = some (Value.string t.owner) := (blk_cell HK2.out 2).trans rfl
    have f_p2 := blk_frozen HK2.out 2
    have c_p3 : k1.cell? ⟨p, 3, none⟩ = some (Value.slice A3 t.cols.length c3) := (blk_cell HK2.out 3).trans rfl
    have f_p3 := blk_frozen HK2.out 3
    have c_p4 : k1.cell? ⟨p, 4, none⟩ = some (Value.slice A4 t.rules.length c4) := (blk_cell HK2.out 4).trans rfl
    have f_p4 := blk_frozen HK2.out 4
    go_wp2_with fail
    clear c_g0 f_g0 c_g1 f_g1 c_p0 f_p0 c_p1 f_p1 c_p2 f_p2 c_p3 f_p3 c_p4 f_p4
    refine (HN1.out _).mono ?_
    rintro e w_ ⟨rfl, rfl⟩
    have c_g0 : k1.cell? ⟨g, 0, none⟩ = some (Value.slice Bs ss.length ds) := (blk_cell HK1.out 0).trans rfl
    have f_g0 := blk_frozen HK1.out 0
    have c_g1 : k1.cell? ⟨g, 1, none⟩ = some (Value.slice Bt ts.length dt) := (blk_cell HK1.out 1).trans rfl
    have f_g1 := blk_frozen HK1.out 1
    have c_p0 : k1.cell? ⟨p, 0, none⟩ = some (Value.string t.schema) := (blk_cell HK2.out 0).trans rfl
    have f_p0 := blk_frozen HK2.out 0
    have c_p1 : k1.cell? ⟨p, 1, none⟩ = some (Value.string t.name) := (blk_cell HK2.out 1).trans rfl
    have f_p1 := blk_frozen HK2.out 1
    have c_p2 : k1.cell? ⟨p, 2, none⟩ = some (Value.string t.owner) := (blk_cell HK2.out 2).trans rfl
    have f_p2 := blk_frozen HK2.out 2
    have c_p3 : k1.cell? ⟨p, 3, none⟩ = some (Value.slice A3 t.cols.length c3) := (blk_cell HK2.out 3).trans rfl
    have f_p3 := blk_frozen HK2.out 3
    have c_p4 : k1.cell? ⟨p, 4, none⟩ = some (Value.slice A4 t.rules.length c4) := (blk_cell HK2.out 4).trans rfl
    have f_p4 := blk_frozen HK2.out 4
    go_wp2_with fail
    clear c_g0 f_g0 c_g1 f_g1 c_p0 f_p0 c_p1 f_p1 c_p2 f_p2 c_p3 f_p3 c_p4 f_p4
    refine (HN2.out _).mono ?_
    rintro e w_ ⟨rfl, rfl⟩
    have c_g0 : k1.cell? ⟨g, 0, none⟩ = some (Value.slice Bs ss.length ds) := (blk_cell HK1.out 0).trans rfl
    have f_g0 := blk_frozen HK1.out 0
    have c_g1 : k1.cell? ⟨g, 1, none⟩ = some (Value.slice Bt ts.length dt) := (blk_cell HK1.out 1).trans rfl
    have f_g1 := blk_frozen HK1.out 1
    have c_p0 : k1.cell? ⟨p, 0, none⟩ = some (Value.string t.schema) := (blk_cell HK2.out 0).trans rfl
    have f_p0 := blk_frozen HK2.out 0
    have c_p1 : k1.cell? ⟨p, 1, none⟩ = some (Value.string t.name) := (blk_cell HK2.out 1).trans rfl
    have f_p1 := blk_frozen HK2.out 1
    have c_p2 : k1.cell? ⟨p, 2, none⟩ = some (Value.string t.owner) := (blk_cell HK2.out 2).trans rfl
    have f_p2 := blk_frozen HK2.out 2
    have c_p3 : k1.cell? ⟨p, 3, none⟩ = some (Value.slice A3 t.cols.length c3) := (blk_cell HK2.out 3).trans rfl
    have f_p3 := blk_frozen HK2.out 3
    have c_p4 : k1.cell? ⟨p, 4, none⟩ = some (Value.slice A4 t.rules.length c4) := (blk_cell HK2.out 4).trans rfl
    have f_p4 := blk_frozen HK2.out 4
    go_wp2
    go_region_held3 (fun w' => w'.cell? ⟨g, 0, none⟩ = some (Value.slice Bs ss.length ds) ∧ w'.cell? ⟨p, 0, none⟩ = some (Value.string t.schema) ∧ Below k1.heap.size k1 w')
      (first | exact kp2 (by assumption) (by assumption) | exact ⟨c_g0, c_p0, below_drew (Below.refl _ _)⟩)
      (first | (go_at_call 54; refine (HNM.out _ ?_).mono ?_; exact below_drew (HBk1k.out); rintro e k2 ⟨rfl, hbx⟩))
    rename_i hH
    have hb2 := hH.2.2
    clear c_g0 f_g0 c_g1 f_g1 c_p0 f_p0 c_p1 f_p1 c_p2 f_p2 c_p3 f_p3 c_p4 f_p4
    have HBk2k := Aside0.mk (below_step (HBk1k.out) hb2)
    have HK3 := Aside0.mk (blk_below (HK1.out) hb2)
    have HK4 := Aside0.mk (blk_below (HK2.out) hb2)
    clear hH hbx hb2
    have c_g0 : k2.cell? ⟨g, 0, none⟩ = some (Value.slice Bs ss.length ds) := (blk_cell HK3.out 0).trans rfl
    have f_g0 := blk_frozen HK3.out 0
    have c_g1 : k2.cell? ⟨g, 1, none⟩ = some (Value.slice Bt ts.length dt) := (blk_cell HK3.out 1).trans rfl
    have f_g1 := blk_frozen HK3.out 1
    have c_p0 : k2.cell? ⟨p, 0, none⟩ = some (Value.string t.schema) := (blk_cell HK4.out 0).trans rfl
    have f_p0 := blk_frozen HK4.out 0
    have c_p1 : k2.cell? ⟨p, 1, none⟩ = some (Value.string t.name) := (blk_cell HK4.out 1).trans rfl
    have f_p1 := blk_frozen HK4.out 1
    have c_p2 : k2.cell? ⟨p, 2, none⟩ = some (Value.string t.owner) := (blk_cell HK4.out 2).trans rfl
    have f_p2 := blk_frozen HK4.out 2
    have c_p3 : k2.cell? ⟨p, 3, none⟩ = some (Value.slice A3 t.cols.length c3) := (blk_cell HK4.out 3).trans rfl
    have f_p3 := blk_frozen HK4.out 3
    have c_p4 : k2.cell? ⟨p, 4, none⟩ = some (Value.slice A4 t.rules.length c4) := (blk_cell HK4.out 4).trans rfl
    have f_p4 := blk_frozen HK4.out 4
    have HX := Aside0.mk (DidT.err (g := g) 61 HE.out (by decide) (HBk2k.out) HBW.out.1)
    go_wp2
    go_ret
    exact HX.out
  rw [hi, if_pos (show (0 : Int) ≤ (m : Int) by omega)] at HE0
  rw [show idx (fun x : Sch => x.name.toList == t.schema.toList) ss = (m : Int) from hi] at HNM
  have hd : decide ((m : Int) < 0) = false := decide_eq_false (by omega)
  clear hi y1 y2 hm
  rcases idx_cases (isT t.schema t.name) ts with ⟨k, hk, hi, y1, y2⟩ | ⟨hi, y1⟩
  · have HE := Aside0.mk (show addTabR ss ts t = (60, [], []) by rw [HE0.out, hi, if_pos (by omega)])
    rw [hi] at HWH
    have hd2 : decide ((0 : Int) ≤ (k : Int)) = true := decide_eq_true (by omega)
    clear hi y1 y2 hk HE0 HR HS HPW HWI HMC HC3 HC4
    go_enter Tryz.func75, Tryz.ntmps75
    have c_g0 : w.cell? ⟨g, 0, none⟩ = some (Value.slice Bs ss.length ds) := (blk_cell HG.out 0).trans rfl
    have f_g0 := blk_frozen HG.out 0
    have c_g1 : w.cell? ⟨g, 1, none⟩ = some (Value.slice Bt ts.length dt) := (blk_cell HG.out 1).trans rfl
    have f_g1 := blk_frozen HG.out 1
    have c_p0 : w.cell? ⟨p, 0, none⟩ = some (Value.string t.schema) := (blk_cell HP.out 0).trans rfl
    have f_p0 := blk_frozen HP.out 0
    have c_p1 : w.cell? ⟨p, 1, none⟩ = some (Value.string t.name) := (blk_cell HP.out 1).trans rfl
    have f_p1 := blk_frozen HP.out 1
    have c_p2 : w.cell? ⟨p, 2, none⟩ = some (Value.string t.owner) := (blk_cell HP.out 2).trans rfl
    have f_p2 := blk_frozen HP.out 2
    have c_p3 : w.cell? ⟨p, 3, none⟩ = some (Value.slice A3 t.cols.length c3) := (blk_cell HP.out 3).trans rfl
    have f_p3 := blk_frozen HP.out 3
    have c_p4 : w.cell? ⟨p, 4, none⟩ = some (Value.slice A4 t.rules.length c4) := (blk_cell HP.out 4).trans rfl
    have f_p4 := blk_frozen HP.out 4
    go_wp2
    go_region_held3 (fun w' => w'.cell? ⟨g, 0, none⟩ = some (Value.slice Bs ss.length ds) ∧ w'.cell? ⟨g, 1, none⟩ = some (Value.slice Bt ts.length dt) ∧ w'.cell? ⟨p, 0, none⟩ = some (Value.string t.schema) ∧ w'.cell? ⟨p, 1, none⟩ = some (Value.string t.name) ∧ Below w.heap.size w w')
      (first | exact kp4 (by assumption) (by assumption) | exact ⟨c_g0, c_g1, c_p0, c_p1, below_drew (Below.refl _ _)⟩)
      (first | (go_at_call 73; refine (HWH.out _ ?_).mono ?_; exact below_drew (HX0.out); rintro e k1 ⟨rfl, hbx⟩))
    rename_i hH
    have hb2 := hH.2.2.2.2
    clear c_g0 f_g0 c_g1 f_g1 c_p0 f_p0 c_p1 f_p1 c_p2 f_p2 c_p3 f_p3 c_p4 f_p4
    have HBk1k := Aside0.mk (below_step (HX0.out) hb2)
    have HK1 := Aside0.mk (blk_below (HG.out) hb2)
    have HK2 := Aside0.mk (blk_below (HP.out) hb2)
    clear hH hbx hb2
    have c_g0 : k1.cell? ⟨g, 0, none⟩ = some (Value.slice Bs ss.length ds) := (blk_cell HK1.out 0).trans rfl
    have f_g0 := blk_frozen HK1.out 0
    have c_g1 : k1.cell? ⟨g, 1, none⟩ = some (Value.slice Bt ts.length dt) := (blk_cell HK1.out 1).trans rfl
    have f_g1 := blk_frozen HK1.out 1
    have c_p0 : k1.cell? ⟨p, 0, none⟩ = some (Value.string t.schema) := (blk_cell HK2.out 0).trans rfl
    have f_p0 := blk_frozen HK2.out 0
    have c_p1 : k1.cell? ⟨p, 1, none⟩ = some (Value.string t.name) := (blk_cell HK2.out 1).trans rfl
    have f_p1 := blk_frozen HK2.out 1
    have c_p2 : k1.cell? ⟨p, 2, none⟩ = some (Value.string t.owner) := (blk_cell HK2.out 2).trans rfl
    have f_p2 := blk_frozen HK2.out 2
    have c_p3 : k1.cell? ⟨p, 3, none⟩ = some (Value.slice A3 t.cols.length c3) := (blk_cell HK2.out 3).trans rfl
    have f_p3 := blk_frozen HK2.out 3
    have c_p4 : k1.cell? ⟨p, 4, none⟩ = some (Value.slice A4 t.rules.length c4) := (blk_cell HK2.out 4).trans rfl
    have f_p4 := blk_frozen HK2.out 4
    go_wp2_with fail
    clear c_g0 f_g0 c_g1 f_g1 c_p0 f_p0 c_p1 f_p1 c_p2 f_p2 c_p3 f_p3 c_p4 f_p4
    refine (HN1.out _).mono ?_
    rintro e w_ ⟨rfl, rfl⟩
    have c_g0 : k1.cell? ⟨g, 0, none⟩ = some (Value.slice Bs ss.length ds) := (blk_cell HK1.out 0).trans rfl
    have f_g0 := blk_frozen HK1.out 0
    have c_g1 : k1.cell? ⟨g, 1, none⟩ = some (Value.slice Bt ts.length dt) := (blk_cell HK1.out 1).trans rfl
    have f_g1 := blk_frozen HK1.out 1
    have c_p0 : k1.cell? ⟨p, 0, none⟩ = some (Value.string t.schema) := (blk_cell HK2.out 0).trans rfl
    have f_p0 := blk_frozen HK2.out 0
    have c_p1 : k1.cell? ⟨p, 1, none⟩ = some (Value.string t.name) := (blk_cell HK2.out 1).trans rfl
    have f_p1 := blk_frozen HK2.out 1
    have c_p2 : k1.cell? ⟨p, 2, none⟩ = some (Value.string t.owner) := (blk_cell HK2.out 2).trans rfl
    have f_p2 := blk_frozen HK2.out 2
    have c_p3 : k1.cell? ⟨p, 3, none⟩ = some (Value.slice A3 t.cols.length c3) := (blk_cell HK2.out 3).trans rfl
    have f_p3 := blk_frozen HK2.out 3
    have c_p4 : k1.cell? ⟨p, 4, none⟩ = some (Value.slice A4 t.rules.length c4) := (blk_cell HK2.out 4).trans rfl
    have f_p4 := blk_frozen HK2.out 4
    go_wp2_with fail
    clear c_g0 f_g0 c_g1 f_g1 c_p0 f_p0 c_p1 f_p1 c_p2 f_p2 c_p3 f_p3 c_p4 f_p4
    refine (HN2.out _).mono ?_
    rintro e w_ ⟨rfl, rfl⟩
    have c_g0 : k1.cell? ⟨g, 0, none⟩ = some (Value.slice Bs ss.length ds) := (blk_cell HK1.out 0).trans rfl
    have f_g0 := blk_frozen HK1.out 0
    have c_g1 : k1.cell? ⟨g, 1, none⟩ = some (Value.slice Bt ts.length dt) := (blk_cell HK1.out 1).trans rfl
    have f_g1 := blk_frozen HK1.out 1
    have c_p0 : k1.cell? ⟨p, 0, none⟩ = some (Value.string t.schema) := (blk_cell HK2.out 0).trans rfl
    have f_p0 := blk_frozen HK2.out 0
    have c_p1 : k1.cell? ⟨p, 1, none⟩ = some (Value.string t.name) := (blk_cell HK2.out 1).trans rfl
    have f_p1 := blk_frozen HK2.out 1
    have c_p2 : k1.cell? ⟨p, 2, none⟩ = some (Value.string t.owner) := (blk_cell HK2.out 2).trans rfl
    have f_p2 := blk_frozen HK2.out 2
    have c_p3 : k1.cell? ⟨p, 3, none⟩ = some (Value.slice A3 t.cols.length c3) := (blk_cell HK2.out 3).trans rfl
    have f_p3 := blk_frozen HK2.out 3
    have c_p4 : k1.cell? ⟨p, 4, none⟩ = some (Value.slice A4 t.rules.length c4) := (blk_cell HK2.out 4).trans rfl
    have f_p4 := blk_frozen HK2.out 4
    go_wp2
    go_region_held3 (fun w' => w'.cell? ⟨g, 0, none⟩ = some (Value.slice Bs ss.length ds) ∧ w'.cell? ⟨p, 0, none⟩ = some (Value.string t.schema) ∧ Below k1.heap.size k1 w')
      (first | exact kp2 (by assumption) (by assumption) | exact ⟨c_g0, c_p0, below_drew (Below.refl _ _)⟩)
      (first | (go_at_call 54; refine (HNM.out _ ?_).mono ?_; exact below_drew (HBk1k.out); rintro e k2 ⟨rfl, hbx⟩))
    rename_i hH
    have hb2 := hH.2.2
    clear c_g0 f_g0 c_g1 f_g1 c_p0 f_p0 c_p1 f_p1 c_p2 f_p2 c_p3 f_p3 c_p4 f_p4
    have HBk2k := Aside0.mk (below_step (HBk1k.out) hb2)
    have HK3 := Aside0.mk (blk_below (HK1.out) hb2)
    have HK4 := Aside0.mk (blk_below (HK2.out) hb2)
    clear hH hbx hb2
    have c_g0 : k2.cell? ⟨g, 0, none⟩ = some (Value.slice Bs ss.length ds) := (blk_cell HK3.out 0).trans rfl
    have f_g0 := blk_frozen HK3.out 0
    have c_g1 : k2.cell? ⟨g, 1, none⟩ = some (Value.slice Bt ts.length dt) := (blk_cell HK3.out 1).trans rfl
    have f_g1 := blk_frozen HK3.out 1
    have c_p0 : k2.cell? ⟨p, 0, none⟩ = some (Value.string t.schema) := (blk_cell HK4.out 0).trans rfl
    have f_p0 := blk_frozen HK4.out 0
    have c_p1 : k2.cell? ⟨p, 1, none⟩ = some (Value.string t.name) := (blk_cell HK4.out 1).trans rfl
    have f_p1 := blk_frozen HK4.out 1
    have c_p2 : k2.cell? ⟨p, 2, none⟩ = some (Value.string t.owner) := (blk_cell HK4.out 2).trans rfl
    have f_p2 := blk_frozen HK4.out 2
    have c_p3 : k2.cell? ⟨p, 3, none⟩ = some (Value.slice A3 t.cols.length c3) := (blk_cell HK4.out 3).trans rfl
    have f_p3 := blk_frozen HK4.out 3
    have c_p4 : k2.cell? ⟨p, 4, none⟩ = some (Value.slice A4 t.rules.length c4) := (blk_cell HK4.out 4).trans rfl
    have f_p4 := blk_frozen HK4.out 4
    have HX := Aside0.mk (DidT.err (g := g) 60 HE.out (by decide) (HBk2k.out) HBW.out.1)
    go_wp2
    go_ret
    exact HX.out
  rw [hi, if_neg (show ¬ (0 : Int) ≤ -1 by omega)] at HE0
  rw [hi] at HWH
  have hd2 : decide ((0 : Int) ≤ -1) = false := rfl
  have HNE := Aside0.mk (show ∀ a ∈ ts, ltOf orderT t a = true ∨ ltOf orderT a t = true from fun a ha => by
    obtain ⟨j, hj, rfl⟩ := List.getElem_of_mem ha
    rcases order_tri t ts[j] with h | h | h
    · exact .inl h
    · exact .inr h
    · have h2 := (isT_iff t.schema t.name ts[j]).2 ⟨h.1.symm, h.2.symm⟩
      rw [y1 j hj] at h2
      cases h2)
  clear hi y1
  by_cases h8 : 8 ≤ cnt (ofS t.schema) ts
  · have HE := Aside0.mk (show addTabR ss ts t = (2, [], []) by rw [HE0.out, if_pos h8])
    have hd8 : decide ((8 : Int) ≤ (cnt (ofS t.schema) ts : Int)) = true := decide_eq_true (by omega)
    clear HE0 HR HS HPW HMC HC3 HC4
    go_enter Tryz.func75, Tryz.ntmps75
    have c_g0 : w.cell? ⟨g, 0, none⟩ = some (Value.slice Bs ss.length ds) := (blk_cell HG.out 0).trans rfl
    have f_g0 := blk_frozen HG.out 0
    have c_g1 : w.cell? ⟨g, 1, none⟩ = some (Value.slice Bt ts.length dt) := (blk_cell HG.out 1).trans rfl
    have f_g1 := blk_frozen HG.out 1
    have c_p0 : w.cell? ⟨p, 0, none⟩ = some (Value.string t.schema) := (blk_cell HP.out 0).trans rfl
    have f_p0 := blk_frozen HP.out 0
    have c_p1 : w.cell? ⟨p, 1, none⟩ = some (Value.string t.name) := (blk_cell HP.out 1).trans rfl
    have f_p1 := blk_frozen HP.out 1
    have c_p2 : w.cell? ⟨p, 2, none⟩ = some (Value.string t.owner) := (blk_cell HP.out 2).trans rfl
    have f_p2 := blk_frozen HP.out 2
    have c_p3 : w.cell? ⟨p, 3, none⟩ = some (Value.slice A3 t.cols.length c3) := (blk_cell HP.out 3).trans rfl
    have f_p3 := blk_frozen HP.out 3
    have c_p4 : w.cell? ⟨p, 4, none⟩ = some (Value.slice A4 t.rules.length c4) := (blk_cell HP.out 4).trans rfl
    have f_p4 := blk_frozen HP.out 4
    go_wp2
    go_region_held3 (fun w' => w'.cell? ⟨g, 0, none⟩ = some (Value.slice Bs ss.length ds) ∧ w'.cell? ⟨g, 1, none⟩ = some (Value.slice Bt ts.length dt) ∧ w'.cell? ⟨p, 0, none⟩ = some (Value.string t.schema) ∧ w'.cell? ⟨p, 1, none⟩ = some (Value.string t.name) ∧ Below w.heap.size w w')
      (first | exact kp4 (by assumption) (by assumption) | exact ⟨c_g0, c_g1, c_p0, c_p1, below_drew (Below.refl _ _)⟩)
      (first | (go_at_call 73; refine (HWH.out _ ?_).mono ?_; exact below_drew (HX0.out); rintro e k1 ⟨rfl, hbx⟩))
    rename_i hH
    have hb2 := hH.2.2.2.2
    clear c_g0 f_g0 c_g1 f_g1 c_p0 f_p0 c_p1 f_p1 c_p2 f_p2 c_p3 f_p3 c_p4 f_p4
    have HBk1k := Aside0.mk (below_step (HX0.out) hb2)
    have HK1 := Aside0.mk (blk_below (HG.out) hb2)
    have HK2 := Aside0.mk (blk_below (HP.out) hb2)
    clear hH hbx hb2
    have c_g0 : k1.cell? ⟨g, 0, none⟩ = some (Value.slice Bs ss.length ds) := (blk_cell HK1.out 0).trans rfl
    have f_g0 := blk_frozen HK1.out 0
    have c_g1 : k1.cell? ⟨g, 1, none⟩ = some (Value.slice Bt ts.length dt) := (blk_cell HK1.out 1).trans rfl
    have f_g1 := blk_frozen HK1.out 1
    have c_p0 : k1.cell? ⟨p, 0, none⟩ = some (Value.string t.schema) := (blk_cell HK2.out 0).trans rfl
    have f_p0 := blk_frozen HK2.out 0
    have c_p1 : k1.cell? ⟨p, 1, none⟩ = some (Value.string t.name) := (blk_cell HK2.out 1).trans rfl
    have f_p1 := blk_frozen HK2.out 1
    have c_p2 : k1.cell? ⟨p, 2, none⟩ = some (Value.string t.owner) := (blk_cell HK2.out 2).trans rfl
    have f_p2 := blk_frozen HK2.out 2
    have c_p3 : k1.cell? ⟨p, 3, none⟩ = some (Value.slice A3 t.cols.length c3) := (blk_cell HK2.out 3).trans rfl
    have f_p3 := blk_frozen HK2.out 3
    have c_p4 : k1.cell? ⟨p, 4, none⟩ = some (Value.slice A4 t.rules.length c4) := (blk_cell HK2.out 4).trans rfl
    have f_p4 := blk_frozen HK2.out 4
    go_wp2_with fail
    clear c_g0 f_g0 c_g1 f_g1 c_p0 f_p0 c_p1 f_p1 c_p2 f_p2 c_p3 f_p3 c_p4 f_p4
    refine (HN1.out _).mono ?_
    rintro e w_ ⟨rfl, rfl⟩
    have c_g0 : k1.cell? ⟨g, 0, none⟩ = some (Value.slice Bs ss.length ds) := (blk_cell HK1.out 0).trans rfl
    have f_g0 := blk_frozen HK1.out 0
    have c_g1 : k1.cell? ⟨g, 1, none⟩ = some (Value.slice Bt ts.length dt) := (blk_cell HK1.out 1).trans rfl
    have f_g1 := blk_frozen HK1.out 1
    have c_p0 : k1.cell? ⟨p, 0, none⟩ = some (Value.string t.schema) := (blk_cell HK2.out 0).trans rfl
    have f_p0 := blk_frozen HK2.out 0
    have c_p1 : k1.cell? ⟨p, 1, none⟩ = some (Value.string t.name) := (blk_cell HK2.out 1).trans rfl
    have f_p1 := blk_frozen HK2.out 1
    have c_p2 : k1.cell? ⟨p, 2, none⟩ = some (Value.string t.owner) := (blk_cell HK2.out 2).trans rfl
    have f_p2 := blk_frozen HK2.out 2
    have c_p3 : k1.cell? ⟨p, 3, none⟩ = some (Value.slice A3 t.cols.length c3) := (blk_cell HK2.out 3).trans rfl
    have f_p3 := blk_frozen HK2.out 3
    have c_p4 : k1.cell? ⟨p, 4, none⟩ = some (Value.slice A4 t.rules.length c4) := (blk_cell HK2.out 4).trans rfl
    have f_p4 := blk_frozen HK2.out 4
    go_wp2_with fail
    clear c_g0 f_g0 c_g1 f_g1 c_p0 f_p0 c_p1 f_p1 c_p2 f_p2 c_p3 f_p3 c_p4 f_p4
    refine (HN2.out _).mono ?_
    rintro e w_ ⟨rfl, rfl⟩
    have c_g0 : k1.cell? ⟨g, 0, none⟩ = some (Value.slice Bs ss.length ds) := (blk_cell HK1.out 0).trans rfl
    have f_g0 := blk_frozen HK1.out 0
    have c_g1 : k1.cell? ⟨g, 1, none⟩ = some (Value.slice Bt ts.length dt) := (blk_cell HK1.out 1).trans rfl
    have f_g1 := blk_frozen HK1.out 1
    have c_p0 : k1.cell? ⟨p, 0, none⟩ = some (Value.string t.schema) := (blk_cell HK2.out 0).trans rfl
    have f_p0 := blk_frozen HK2.out 0
    have c_p1 : k1.cell? ⟨p, 1, none⟩ = some (Value.string t.name) := (blk_cell HK2.out 1).trans rfl
    have f_p1 := blk_frozen HK2.out 1
    have c_p2 : k1.cell? ⟨p, 2, none⟩ = some (Value.string t.owner) := (blk_cell HK2.out 2).trans rfl
    have f_p2 := blk_frozen HK2.out 2
    have c_p3 : k1.cell? ⟨p, 3, none⟩ = some (Value.slice A3 t.cols.length c3) := (blk_cell HK2.out 3).trans rfl
    have f_p3 := blk_frozen HK2.out 3
    have c_p4 : k1.cell? ⟨p, 4, none⟩ = some (Value.slice A4 t.rules.length c4) := (blk_cell HK2.out 4).trans rfl
    have f_p4 := blk_frozen HK2.out 4
    go_wp2
    go_region_held3 (fun w' => w'.cell? ⟨g, 0, none⟩ = some (Value.slice Bs ss.length ds) ∧ w'.cell? ⟨p, 0, none⟩ = some (Value.string t.schema) ∧ Below k1.heap.size k1 w')
      (first | exact kp2 (by assumption) (by assumption) | exact ⟨c_g0, c_p0, below_drew (Below.refl _ _)⟩)
      (first | (go_at_call 54; refine (HNM.out _ ?_).mono ?_; exact below_drew (HBk1k.out); rintro e k2 ⟨rfl, hbx⟩))
    rename_i hH
    have hb2 := hH.2.2
    clear c_g0 f_g0 c_g1 f_g1 c_p0 f_p0 c_p1 f_p1 c_p2 f_p2 c_p3 f_p3 c_p4 f_p4
    have HBk2k := Aside0.mk (below_step (HBk1k.out) hb2)
    have HK3 := Aside0.mk (blk_below (HK1.out) hb2)
    have HK4 := Aside0.mk (blk_below (HK2.out) hb2)
    clear hH hbx hb2
    have c_g0 : k2.cell? ⟨g, 0, none⟩ = some (Value.slice Bs ss.length ds) := (blk_cell HK3.out 0).trans rfl
    have f_g0 := blk_frozen HK3.out 0
    have c_g1 : k2.cell? ⟨g, 1, none⟩ = some (Value.slice Bt ts.length dt) := (blk_cell HK3.out 1).trans rfl
    have f_g1 := blk_frozen HK3.out 1
    have c_p0 : k2.cell? ⟨p, 0, none⟩ = some (Value.string t.schema) := (blk_cell HK4.out 0).trans rfl
    have f_p0 := blk_frozen HK4.out 0
    have c_p1 : k2.cell? ⟨p, 1, none⟩ = some (Value.string t.name) := (blk_cell HK4.out 1).trans rfl
    have f_p1 := blk_frozen HK4.out 1
    have c_p2 : k2.cell? ⟨p, 2, none⟩ = some (Value.string t.owner) := (blk_cell HK4.out 2).trans rfl
    have f_p2 := blk_frozen HK4.out 2
    have c_p3 : k2.cell? ⟨p, 3, none⟩ = some (Value.slice A3 t.cols.length c3) := (blk_cell HK4.out 3).trans rfl
    have f_p3 := blk_frozen HK4.out 3
    have c_p4 : k2.cell? ⟨p, 4, none⟩ = some (Value.slice A4 t.rules.length c4) := (blk_cell HK4.out 4).trans rfl
    have f_p4 := blk_frozen HK4.out 4
    go_wp2
    go_region_held3 (fun w' => w'.cell? ⟨g, 0, none⟩ = some (Value.slice Bs ss.length ds) ∧ w'.cell? ⟨g, 1, none⟩ = some (Value.slice Bt ts.length dt) ∧ w'.cell? ⟨p, 0, none⟩ = some (Value.string t.schema) ∧ Below k2.heap.size k2 w')
      (first | exact kp3 (by assumption) (by assumption) | exact ⟨c_g0, c_g1, c_p0, below_drew (Below.refl _ _)⟩)
      (first | (go_at_call 65; refine (HWI.out _ ?_).mono ?_; exact below_drew (HBk2k.out); rintro e k3 ⟨rfl, hbx⟩))
    rename_i hH
    have hb2 := hH.2.2.2
    clear c_g0 f_g0 c_g1 f_g1 c_p0 f_p0 c_p1 f_p1 c_p2 f_p2 c_p3 f_p3 c_p4 f_p4
    have HBk3k := Aside0.mk (below_step (HBk2k.out) hb2)
    have HK5 := Aside0.mk (blk_below (HK3.out) hb2)
    have HK6 := Aside0.mk (blk_below (HK4.out) hb2)
    clear hH hbx hb2
    have c_g0 : k3.cell? ⟨g, 0, none⟩ = some (Value.slice Bs ss.length ds) := (blk_cell HK5.out 0).trans rfl
    have f_g0 := blk_frozen HK5.out 0
    have c_g1 : k3.cell? ⟨g, 1, none⟩ = some (Value.slice Bt ts.length dt) := (blk_cell HK5.out 1).trans rfl
    have f_g1 := blk_frozen HK5.out 1
    have c_p0 : k3.cell? ⟨p, 0, none⟩ = some (Value.string t.schema) := (blk_cell HK6.out 0).trans rfl
    have f_p0 := blk_frozen HK6.out 0
    have c_p1 : k3.cell? ⟨p, 1, none⟩ = some (Value.string t.name) := (blk_cell HK6.out 1).trans rfl
    have f_p1 := blk_frozen HK6.out 1
    have c_p2 : k3.cell? ⟨p, 2, none⟩ = some (Value.string t.owner) := (blk_cell HK6.out 2).trans rfl
    have f_p2 := blk_frozen HK6.out 2
    have c_p3 : k3.cell? ⟨p, 3, none⟩ = some (Value.slice A3 t.cols.length c3) := (blk_cell HK6.out 3).trans rfl
    have f_p3 := blk_frozen HK6.out 3
    have c_p4 : k3.cell? ⟨p, 4, none⟩ = some (Value.slice A4 t.rules.length c4) := (blk_cell HK6.out 4).trans rfl
    have f_p4 := blk_frozen HK6.out 4
    have HX := Aside0.mk (DidT.err (g := g) 2 HE.out (by decide) (HBk3k.out) HBW.out.1)
    go_wp2
    go_ret
    exact HX.out
  rw [if_neg h8] at HE0
  have hd8 : decide ((8 : Int) ≤ (cnt (ofS t.schema) ts : Int)) = false := decide_eq_false (by omega)
  cases h5 : mayCols t.cols with
  | false =>
    have HE := Aside0.mk (show addTabR ss ts t = (63, [], []) by rw [HE0.out, h5]; rfl)
    rw [h5] at HMC
    clear h5 HE0 HR HS HPW HC3 HC4
    go_enter Tryz.func75, Tryz.ntmps75
    have c_g0 : w.cell? ⟨g, 0, none⟩ = some (Value.slice Bs ss.length ds) := (blk_cell HG.out 0).trans rfl
    have f_g0 := blk_frozen HG.out 0
    have c_g1 : w.cell? ⟨g, 1, none⟩ = some (Value.slice Bt ts.length dt) := (blk_cell HG.out 1).trans rfl
    have f_g1 := blk_frozen HG.out 1
    have c_p0 : w.cell? ⟨p, 0, none⟩ = some (Value.string t.schema) := (blk_cell HP.out 0).trans rfl
    have f_p0 := blk_frozen HP.out 0
    have c_p1 : w.cell? ⟨p, 1, none⟩ = some (Value.string t.name) := (blk_cell HP.out 1).trans rfl
    have f_p1 := blk_frozen HP.out 1
    have c_p2 : w.cell? ⟨p, 2, none⟩ = some (Value.string t.owner) := (blk_cell HP.out 2).trans rfl
    have f_p2 := blk_frozen HP.out 2
    have c_p3 : w.cell? ⟨p, 3, none⟩ = some (Value.slice A3 t.cols.length c3) := (blk_cell HP.out 3).trans rfl
    have f_p3 := blk_frozen HP.out 3
    have c_p4 : w.cell? ⟨p, 4, none⟩ = some (Value.slice A4 t.rules.length c4) := (blk_cell HP.out 4).trans rfl
    have f_p4 := blk_frozen HP.out 4
    go_wp2
    go_region_held3 (fun w' => w'.cell? ⟨g, 0, none⟩ = some (Value.slice Bs ss.length ds) ∧ w'.cell? ⟨g, 1, none⟩ = some (Value.slice Bt ts.length dt) ∧ w'.cell? ⟨p, 0, none⟩ = some (Value.string t.schema) ∧ w'.cell? ⟨p, 1, none⟩ = some (Value.string t.name) ∧ Below w.heap.size w w')
      (first | exact kp4 (by assumption) (by assumption) | exact ⟨c_g0, c_g1, c_p0, c_p1, below_drew (Below.refl _ _)⟩)
      (first | (go_at_call 73; refine (HWH.out _ ?_).mono ?_; exact below_drew (HX0.out); rintro e k1 ⟨rfl, hbx⟩))
    rename_i hH
    have hb2 := hH.2.2.2.2
    clear c_g0 f_g0 c_g1 f_g1 c_p0 f_p0 c_p1 f_p1 c_p2 f_p2 c_p3 f_p3 c_p4 f_p4
    have HBk1k := Aside0.mk (below_step (HX0.out) hb2)
    have HK1 := Aside0.mk (blk_below (HG.out) hb2)
    have HK2 := Aside0.mk (blk_below (HP.out) hb2)
    clear hH hbx hb2
    have c_g0 : k1.cell? ⟨g, 0, none⟩ = some (Value.slice Bs ss.length ds) := (blk_cell HK1.out 0).trans rfl
    have f_g0 := blk_frozen HK1.out 0
    have c_g1 : k1.cell? ⟨g, 1, none⟩ = some (Value.slice Bt ts.length dt) := (blk_cell HK1.out 1).trans rfl
    have f_g1 := blk_frozen HK1.out 1
    have c_p0 : k1.cell? ⟨p, 0, none⟩ = some (Value.string t.schema) := (blk_cell HK2.out 0).trans rfl
    have f_p0 := blk_frozen HK2.out 0
    have c_p1 : k1.cell? ⟨p, 1, none⟩ = some (Value.string t.name) := (blk_cell HK2.out 1).trans rfl
    have f_p1 := blk_frozen HK2.out 1
    have c_p2 : k1.cell? ⟨p, 2, none⟩ = some (Value.string t.owner) := (blk_cell HK2.out 2).trans rfl
    have f_p2 := blk_frozen HK2.out 2
    have c_p3 : k1.cell? ⟨p, 3, none⟩ = some (Value.slice A3 t.cols.length c3) := (blk_cell HK2.out 3).trans rfl
    have f_p3 := blk_frozen HK2.out 3
    have c_p4 : k1.cell? ⟨p, 4, none⟩ = some (Value.slice A4 t.rules.length c4) := (blk_cell HK2.out 4).trans rfl
    have f_p4 := blk_frozen HK2.out 4
    go_wp2_with fail
    clear c_g0 f_g0 c_g1 f_g1 c_p0 f_p0 c_p1 f_p1 c_p2 f_p2 c_p3 f_p3 c_p4 f_p4
    refine (HN1.out _).mono ?_
    rintro e w_ ⟨rfl, rfl⟩
    have c_g0 : k1.cell? ⟨g, 0, none⟩ = some (Value.slice Bs ss.length ds) := (blk_cell HK1.out 0).trans rfl
    have f_g0 := blk_frozen HK1.out 0
    have c_g1 : k1.cell? ⟨g, 1, none⟩ = some (Value.slice Bt ts.length dt) := (blk_cell HK1.out 1).trans rfl
    have f_g1 := blk_frozen HK1.out 1
    have c_p0 : k1.cell? ⟨p, 0, none⟩ = some (Value.string t.schema) := (blk_cell HK2.out 0).trans rfl
    have f_p0 := blk_frozen HK2.out 0
    have c_p1 : k1.cell? ⟨p, 1, none⟩ = some (Value.string t.name) := (blk_cell HK2.out 1).trans rfl
    have f_p1 := blk_frozen HK2.out 1
    have c_p2 : k1.cell? ⟨p, 2, none⟩ = some (Value.string t.owner) := (blk_cell HK2.out 2).trans rfl
    have f_p2 := blk_frozen HK2.out 2
    have c_p3 : k1.cell? ⟨p, 3, none⟩ = some (Value.slice A3 t.cols.length c3) := (blk_cell HK2.out 3).trans rfl
    have f_p3 := blk_frozen HK2.out 3
    have c_p4 : k1.cell? ⟨p, 4, none⟩ = some (Value.slice A4 t.rules.length c4) := (blk_cell HK2.out 4).trans rfl
    have f_p4 := blk_frozen HK2.out 4
    go_wp2_with fail
    clear c_g0 f_g0 c_g1 f_g1 c_p0 f_p0 c_p1 f_p1 c_p2 f_p2 c_p3 f_p3 c_p4 f_p4
    refine (HN2.out _).mono ?_
    rintro e w_ ⟨rfl, rfl⟩
    have c_g0 : k1.cell? ⟨g, 0, none⟩ = some (Value.slice Bs ss.length ds) := (blk_cell HK1.out 0).trans rfl
    have f_g0 := blk_frozen HK1.out 0
    have c_g1 : k1.cell? ⟨g, 1, none⟩ = some (Value.slice Bt ts.length dt) := (blk_cell HK1.out 1).trans rfl
    have f_g1 := blk_frozen HK1.out 1
    have c_p0 : k1.cell? ⟨p, 0, none⟩ = some (Value.string t.schema) := (blk_cell HK2.out 0).trans rfl
    have f_p0 := blk_frozen HK2.out 0
    have c_p1 : k1.cell? ⟨p, 1, none⟩ = some (Value.string t.name) := (blk_cell HK2.out 1).trans rfl
    have f_p1 := blk_frozen HK2.out 1
    have c_p2 : k1.cell? ⟨p, 2, none⟩ = some (Value.string t.owner) := (blk_cell HK2.out 2).trans rfl
    have f_p2 := blk_frozen HK2.out 2
    have c_p3 : k1.cell? ⟨p, 3, none⟩ = some (Value.slice A3 t.cols.length c3) := (blk_cell HK2.out 3).trans rfl
    have f_p3 := blk_frozen HK2.out 3
    have c_p4 : k1.cell? ⟨p, 4, none⟩ = some (Value.slice A4 t.rules.length c4) := (blk_cell HK2.out 4).trans rfl
    have f_p4 := blk_frozen HK2.out 4
    go_wp2
    go_region_held3 (fun w' => w'.cell? ⟨g, 0, none⟩ = some (Value.slice Bs ss.length ds) ∧ w'.cell? ⟨p, 0, none⟩ = some (Value.string t.schema) ∧ Below k1.heap.size k1 w')
      (first | exact kp2 (by assumption) (by assumption) | exact ⟨c_g0, c_p0, below_drew (Below.refl _ _)⟩)
      (first | (go_at_call 54; refine (HNM.out _ ?_).mono ?_; exact below_drew (HBk1k.out); rintro e k2 ⟨rfl, hbx⟩))
    rename_i hH
    have hb2 := hH.2.2
    clear c_g0 f_g0 c_g1 f_g1 c_p0 f_p0 c_p1 f_p1 c_p2 f_p2 c_p3 f_p3 c_p4 f_p4
    have HBk2k := Aside0.mk (below_step (HBk1k.out) hb2)
    have HK3 := Aside0.mk (blk_below (HK1.out) hb2)
    have HK4 := Aside0.mk (blk_below (HK2.out) hb2)
    clear hH hbx hb2
    have c_g0 : k2.cell? ⟨g, 0, none⟩ = some (Value.slice Bs ss.length ds) := (blk_cell HK3.out 0).trans rfl
    have f_g0 := blk_frozen HK3.out 0
    have c_g1 : k2.cell? ⟨g, 1, none⟩ = some (Value.slice Bt ts.length dt) := (blk_cell HK3.out 1).trans rfl
    have f_g1 := blk_frozen HK3.out 1
    have c_p0 : k2.cell? ⟨p, 0, none⟩ = some (Value.string t.schema) := (blk_cell HK4.out 0).trans rfl
    have f_p0 := blk_frozen HK4.out 0
    have c_p1 : k2.cell? ⟨p, 1, none⟩ = some (Value.string t.name) := (blk_cell HK4.out 1).trans rfl
    have f_p1 := blk_frozen HK4.out 1
    have c_p2 : k2.cell? ⟨p, 2, none⟩ = some (Value.string t.owner) := (blk_cell HK4.out 2).trans rfl
    have f_p2 := blk_frozen HK4.out 2
    have c_p3 : k2.cell? ⟨p, 3, none⟩ = some (Value.slice A3 t.cols.length c3) := (blk_cell HK4.out 3).trans rfl
    have f_p3 := blk_frozen HK4.out 3
    have c_p4 : k2.cell? ⟨p, 4, none⟩ = some (Value.slice A4 t.rules.length c4) := (blk_cell HK4.out 4).trans rfl
    have f_p4 := blk_frozen HK4.out 4
    go_wp2
    go_region_held3 (fun w' => w'.cell? ⟨g, 0, none⟩ = some (Value.slice Bs ss.length ds) ∧ w'.cell? ⟨g, 1, none⟩ = some (Value.slice Bt ts.length dt) ∧ w'.cell? ⟨p, 0, none⟩ = some (Value.string t.schema) ∧ Below k2.heap.size k2 w')
      (first | exact kp3 (by assumption) (by assumption) | exact ⟨c_g0, c_g1, c_p0, below_drew (Below.refl _ _)⟩)
      (first | (go_at_call 65; refine (HWI.out _ ?_).mono ?_; exact below_drew (HBk2k.out); rintro e k3 ⟨rfl, hbx⟩))
    rename_i hH
    have hb2 := hH.2.2.2
    clear c_g0 f_g0 c_g1 f_g1 c_p0 f_p0 c_p1 f_p1 c_p2 f_p2 c_p3 f_p3 c_p4 f_p4
    have HBk3k := Aside0.mk (below_step (HBk2k.out) hb2)
    have HK5 := Aside0.mk (blk_below (HK3.out) hb2)
    have HK6 := Aside0.mk (blk_below (HK4.out) hb2)
    clear hH hbx hb2
    have c_g0 : k3.cell? ⟨g, 0, none⟩ = some (Value.slice Bs ss.length ds) := (blk_cell HK5.out 0).trans rfl
    have f_g0 := blk_frozen HK5.out 0
    have c_g1 : k3.cell? ⟨g, 1, none⟩ = some (Value.slice Bt ts.length dt) := (blk_cell HK5.out 1).trans rfl
    have f_g1 := blk_frozen HK5.out 1
    have c_p0 : k3.cell? ⟨p, 0, none⟩ = some (Value.string t.schema) := (blk_cell HK6.out 0).trans rfl
    have f_p0 := blk_frozen HK6.out 0
    have c_p1 : k3.cell? ⟨p, 1, none⟩ = some (Value.string t.name) := (blk_cell HK6.out 1).trans rfl
    have f_p1 := blk_frozen HK6.out 1
    have c_p2 : k3.cell? ⟨p, 2, none⟩ = some (Value.string t.owner) := (blk_cell HK6.out 2).trans rfl
    have f_p2 := blk_frozen HK6.out 2
    have c_p3 : k3.cell? ⟨p, 3, none⟩ = some (Value.slice A3 t.cols.length c3) := (blk_cell HK6.out 3).trans rfl
    have f_p3 := blk_frozen HK6.out 3
    have c_p4 : k3.cell? ⟨p, 4, none⟩ = some (Value.slice A4 t.rules.length c4) := (blk_cell HK6.out 4).trans rfl
    have f_p4 := blk_frozen HK6.out 4
    go_wp2_with fail
    clear c_g0 f_g0 c_g1 f_g1 c_p0 f_p0 c_p1 f_p1 c_p2 f_p2 c_p3 f_p3 c_p4 f_p4
    refine (HMC.out _ HBk3k.out).mono ?_
    rintro e w1 ⟨rfl, hb1⟩
    have HB1 := Aside0.mk (below_step (HBk3k.out) hb1)
    have HK7 := Aside0.mk (blk_below (HK5.out) hb1)
    have HK8 := Aside0.mk (blk_below (HK6.out) hb1)
    have HS1 := Aside0.mk hb1
    clear hb1
    have c_g0 : w1.cell? ⟨g, 0, none⟩ = some (Value.slice Bs ss.length ds) := (blk_cell HK7.out 0).trans rfl
    have f_g0 := blk_frozen HK7.out 0
    have c_g1 : w1.cell? ⟨g, 1, none⟩ = some (Value.slice Bt ts.length dt) := (blk_cell HK7.out 1).trans rfl
    have f_g1 := blk_frozen HK7.out 1
    have c_p0 : w1.cell? ⟨p, 0, none⟩ = some (Value.string t.schema) := (blk_cell HK8.out 0).trans rfl
    have f_p0 := blk_frozen HK8.out 0
    have c_p1 : w1.cell? ⟨p, 1, none⟩ = some (Value.string t.name) := (blk_cell HK8.out 1).trans rfl
    have f_p1 := blk_frozen HK8.out 1
    have c_p2 : w1.cell? ⟨p, 2, none⟩ = some (Value.string t.owner) := (blk_cell HK8.out 2).trans rfl
    have f_p2 := blk_frozen HK8.out 2
    have c_p3 : w1.cell? ⟨p, 3, none⟩ = some (Value.slice A3 t.cols.length c3) := (blk_cell HK8.out 3).trans rfl
    have f_p3 := blk_frozen HK8.out 3
    have c_p4 : w1.cell? ⟨p, 4, none⟩ = some (Value.slice A4 t.rules.length c4) := (blk_cell HK8.out 4).trans rfl
    have f_p4 := blk_frozen HK8.out 4
    have HX := Aside0.mk (DidT.err (g := g) 63 HE.out (by decide) (HB1.out) HBW.out.1)
    go_wp2
    go_ret
    exact HX.out
  | true =>
  rw [h5] at HE0 HMC
  by_cases h6 : t.rules.length = 0
  rotate_left
  · have HE := Aside0.mk (show addTabR ss ts t = (63, [], []) by rw [HE0.out, decide_eq_false h6]; rfl)
    have hd6 : decide ((0 : Int) < (t.rules.length : Int)) = true := decide_eq_true (by omega)
    have hd6n : 0 < t.rules.length := by omega
    clear h5 h6 HE0 HR HS HPW HC3 HC4
    go_enter Tryz.func75, Tryz.ntmps75
    have c_g0 : w.cell? ⟨g, 0, none⟩ = some (Value.slice Bs ss.length ds) := (blk_cell HG.out 0).trans rfl
    have f_g0 := blk_frozen HG.out 0
    have c_g1 : w.cell? ⟨g, 1, none⟩ = some (Value.slice Bt ts.length dt) := (blk_cell HG.out 1).trans rfl
    have f_g1 := blk_frozen HG.out 1
    have c_p0 : w.cell? ⟨p, 0, none⟩ = some (Value.string t.schema) := (blk_cell HP.out 0).trans rfl
    have f_p0 := blk_frozen HP.out 0
    have c_p1 : w.cell? ⟨p, 1, none⟩ = some (Value.string t.name) := (blk_cell HP.out 1).trans rfl
    have f_p1 := blk_frozen HP.out 1
    have c_p2 : w.cell? ⟨p, 2, none⟩ = some (Value.string t.owner) := (blk_cell HP.out 2).trans rfl
    have f_p2 := blk_frozen HP.out 2
    have c_p3 : w.cell? ⟨p, 3, none⟩ = some (Value.slice A3 t.cols.length c3) := (blk_cell HP.out 3).trans rfl
    have f_p3 := blk_frozen HP.out 3
    have c_p4 : w.cell? ⟨p, 4, none⟩ = some (Value.slice A4 t.rules.length c4) := (blk_cell HP.out 4).trans rfl
    have f_p4 := blk_frozen HP.out 4
    go_wp2
    go_region_held3 (fun w' => w'.cell? ⟨g, 0, none⟩ = some (Value.slice Bs ss.length ds) ∧ w'.cell? ⟨g, 1, none⟩ = some (Value.slice Bt ts.length dt) ∧ w'.cell? ⟨p, 0, none⟩ = some (Value.string t.schema) ∧ w'.cell? ⟨p, 1, none⟩ = some (Value.string t.name) ∧ Below w.heap.size w w')
      (first | exact kp4 (by assumption) (by assumption) | exact ⟨c_g0, c_g1, c_p0, c_p1, below_drew (Below.refl _ _)⟩)
      (first | (go_at_call 73; refine (HWH.out _ ?_).mono ?_; exact below_drew (HX0.out); rintro e k1 ⟨rfl, hbx⟩))
    rename_i hH
    have hb2 := hH.2.2.2.2
    clear c_g0 f_g0 c_g1 f_g1 c_p0 f_p0 c_p1 f_p1 c_p2 f_p2 c_p3 f_p3 c_p4 f_p4
    have HBk1k := Aside0.mk (below_step (HX0.out) hb2)
    have HK1 := Aside0.mk (blk_below (HG.out) hb2)
    have HK2 := Aside0.mk (blk_below (HP.out) hb2)
    clear hH hbx hb2
    have c_g0 : k1.cell? ⟨g, 0, none⟩ = some (Value.slice Bs ss.length ds) := (blk_cell HK1.out 0).trans rfl
    have f_g0 := blk_frozen HK1.out 0
    have c_g1 : k1.cell? ⟨g, 1, none⟩ = some (Value.slice Bt ts.length dt) := (blk_cell HK1.out 1).trans rfl
    have f_g1 := blk_frozen HK1.out 1
    have c_p0 : k1.cell? ⟨p, 0, none⟩ = some (Value.string t.schema) := (blk_cell HK2.out 0).trans rfl
    have f_p0 := blk_frozen HK2.out 0
    have c_p1 : k1.cell? ⟨p, 1, none⟩ = some (Value.string t.name) := (blk_cell HK2.out 1).trans rfl
    have f_p1 := blk_frozen HK2.out 1
    have c_p2 : k1.cell? ⟨p, 2, none⟩ = some (Value.string t.owner) := (blk_cell HK2.out 2).trans rfl
    have f_p2 := blk_frozen HK2.out 2
    have c_p3 : k1.cell? ⟨p, 3, none⟩ = some (Value.slice A3 t.cols.length c3) := (blk_cell HK2.out 3).trans rfl
    have f_p3 := blk_frozen HK2.out 3
    have c_p4 : k1.cell? ⟨p, 4, none⟩ = some (Value.slice A4 t.rules.length c4) := (blk_cell HK2.out 4).trans rfl
    have f_p4 := blk_frozen HK2.out 4
    go_wp2_with fail
    clear c_g0 f_g0 c_g1 f_g1 c_p0 f_p0 c_p1 f_p1 c_p2 f_p2 c_p3 f_p3 c_p4 f_p4
    refine (HN1.out _).mono ?_
    rintro e w_ ⟨rfl, rfl⟩
    have c_g0 : k1.cell? ⟨g, 0, none⟩ = some (Value.slice Bs ss.length ds) := (blk_cell HK1.out 0).trans rfl
    have f_g0 := blk_frozen HK1.out 0
    have c_g1 : k1.cell? ⟨g, 1, none⟩ = some (Value.slice Bt ts.length dt) := (blk_cell HK1.out 1).trans rfl
    have f_g1 := blk_frozen HK1.out 1
    have c_p0 : k1.cell? ⟨p, 0, none⟩ = some (Value.string t.schema) := (blk_cell HK2.out 0).trans rfl
    have f_p0 := blk_frozen HK2.out 0
    have c_p1 : k1.cell? ⟨p, 1, none⟩ = some (Value.string t.name) := (blk_cell HK2.out 1).trans rfl
    have f_p1 := blk_frozen HK2.out 1
    have c_p2 : k1.cell? ⟨p, 2, none⟩ = some (Value.string t.owner) := (blk_cell HK2.out 2).trans rfl
    have f_p2 := blk_frozen HK2.out 2
    have c_p3 : k1.cell? ⟨p, 3, none⟩ = some (Value.slice A3 t.cols.length c3) := (blk_cell HK2.out 3).trans rfl
    have f_p3 := blk_frozen HK2.out 3
    have c_p4 : k1.cell? ⟨p, 4, none⟩ = some (Value.slice A4 t.rules.length c4) := (blk_cell HK2.out 4).trans rfl
    have f_p4 := blk_frozen HK2.out 4
    go_wp2_with fail
    clear c_g0 f_g0 c_g1 f_g1 c_p0 f_p0 c_p1 f_p1 c_p2 f_p2 c_p3 f_p3 c_p4 f_p4
    refine (HN2.out _).mono ?_
    rintro e w_ ⟨rfl, rfl⟩
    have c_g0 : k1.cell? ⟨g, 0, none⟩ = some (Value.slice Bs ss.length ds) := (blk_cell HK1.out 0).trans rfl
    have f_g0 := blk_frozen HK1.out 0
    have c_g1 : k1.cell? ⟨g, 1, none⟩ = some (Value.slice Bt ts.length dt) := (blk_cell HK1.out 1).trans rfl
    have f_g1 := blk_frozen HK1.out 1
    have c_p0 : k1.cell? ⟨p, 0, none⟩ = some (Value.string t.schema) := (blk_cell HK2.out 0).trans rfl
    have f_p0 := blk_frozen HK2.out 0
    have c_p1 : k1.cell? ⟨p, 1, none⟩ = some (Value.string t.name) := (blk_cell HK2.out 1).trans rfl
    have f_p1 := blk_frozen HK2.out 1
    have c_p2 : k1.cell? ⟨p, 2, none⟩ = some (Value.string t.owner) := (blk_cell HK2.out 2).trans rfl
    have f_p2 := blk_frozen HK2.out 2
    have c_p3 : k1.cell? ⟨p, 3, none⟩ = some (Value.slice A3 t.cols.length c3) := (blk_cell HK2.out 3).trans rfl
    have f_p3 := blk_frozen HK2.out 3
    have c_p4 : k1.cell? ⟨p, 4, none⟩ = some (Value.slice A4 t.rules.length c4) := (blk_cell HK2.out 4).trans rfl
    have f_p4 := blk_frozen HK2.out 4
    go_wp2
    go_region_held3 (fun w' => w'.cell? ⟨g, 0, none⟩ = some (Value.slice Bs ss.length ds) ∧ w'.cell? ⟨p, 0, none⟩ = some (Value.string t.schema) ∧ Below k1.heap.size k1 w')
      (first | exact kp2 (by assumption) (by assumption) | exact ⟨c_g0, c_p0, below_drew (Below.refl _ _)⟩)
      (first | (go_at_call 54; refine (HNM.out _ ?_).mono ?_; exact below_drew (HBk1k.out); rintro e k2 ⟨rfl, hbx⟩))
    rename_i hH
    have hb2 := hH.2.2
    clear c_g0 f_g0 c_g1 f_g1 c_p0 f_p0 c_p1 f_p1 c_p2 f_p2 c_p3 f_p3 c_p4 f_p4
    have HBk2k := Aside0.mk (below_step (HBk1k.out) hb2)
    have HK3 := Aside0.mk (blk_below (HK1.out) hb2)
    have HK4 := Aside0.mk (blk_below (HK2.out) hb2)
    clear hH hbx hb2
    have c_g0 : k2.cell? ⟨g, 0, none⟩ = some (Value.slice Bs ss.length ds) := (blk_cell HK3.out 0).trans rfl
    have f_g0 := blk_frozen HK3.out 0
    have c_g1 : k2.cell? ⟨g, 1, none⟩ = some (Value.slice Bt ts.length dt) := (blk_cell HK3.out 1).trans rfl
    have f_g1 := blk_frozen HK3.out 1
    have c_p0 : k2.cell? ⟨p, 0, none⟩ = some (Value.string t.schema) := (blk_cell HK4.out 0).trans rfl
    have f_p0 := blk_frozen HK4.out 0
    have c_p1 : k2.cell? ⟨p, 1, none⟩ = some (Value.string t.name) := (blk_cell HK4.out 1).trans rfl
    have f_p1 := blk_frozen HK4.out 1
    have c_p2 : k2.cell? ⟨p, 2, none⟩ = some (Value.string t.owner) := (blk_cell HK4.out 2).trans rfl
    have f_p2 := blk_frozen HK4.out 2
    have c_p3 : k2.cell? ⟨p, 3, none⟩ = some (Value.slice A3 t.cols.length c3) := (blk_cell HK4.out 3).trans rfl
    have f_p3 := blk_frozen HK4.out 3
    have c_p4 : k2.cell? ⟨p, 4, none⟩ = some (Value.slice A4 t.rules.length c4) := (blk_cell HK4.out 4).trans rfl
    have f_p4 := blk_frozen HK4.out 4
    go_wp2
    go_region_held3 (fun w' => w'.cell? ⟨g, 0, none⟩ = some (Value.slice Bs ss.length ds) ∧ w'.cell? ⟨g, 1, none⟩ = some (Value.slice Bt ts.length dt) ∧ w'.cell? ⟨p, 0, none⟩ = some (Value.string t.schema) ∧ Below k2.heap.size k2 w')
      (first | exact kp3 (by assumption) (by assumption) | exact ⟨c_g0, c_g1, c_p0, below_drew (Below.refl _ _)⟩)
      (first | (go_at_call 65; refine (HWI.out _ ?_).mono ?_; exact below_drew (HBk2k.out); rintro e k3 ⟨rfl, hbx⟩))
    rename_i hH
    have hb2 := hH.2.2.2
    clear c_g0 f_g0 c_g1 f_g1 c_p0 f_p0 c_p1 f_p1 c_p2 f_p2 c_p3 f_p3 c_p4 f_p4
    have HBk3k := Aside0.mk (below_step (HBk2k.out) hb2)
    have HK5 := Aside0.mk (blk_below (HK3.out) hb2)
    have HK6 := Aside0.mk (blk_below (HK4.out) hb2)
    clear hH hbx hb2
    have c_g0 : k3.cell? ⟨g, 0, none⟩ = some (Value.slice Bs ss.length ds) := (blk_cell HK5.out 0).trans rfl
    have f_g0 := blk_frozen HK5.out 0
    have c_g1 : k3.cell? ⟨g, 1, none⟩ = some (Value.slice Bt ts.length dt) := (blk_cell HK5.out 1).trans rfl
    have f_g1 := blk_frozen HK5.out 1
    have c_p0 : k3.cell? ⟨p, 0, none⟩ = some (Value.string t.schema) := (blk_cell HK6.out 0).trans rfl
    have f_p0 := blk_frozen HK6.out 0
    have c_p1 : k3.cell? ⟨p, 1, none⟩ = some (Value.string t.name) := (blk_cell HK6.out 1).trans rfl
    have f_p1 := blk_frozen HK6.out 1
    have c_p2 : k3.cell? ⟨p, 2, none⟩ = some (Value.string t.owner) := (blk_cell HK6.out 2).trans rfl
    have f_p2 := blk_frozen HK6.out 2
    have c_p3 : k3.cell? ⟨p, 3, none⟩ = some (Value.slice A3 t.cols.length c3) := (blk_cell HK6.out 3).trans rfl
    have f_p3 := blk_frozen HK6.out 3
    have c_p4 : k3.cell? ⟨p, 4, none⟩ = some (Value.slice A4 t.rules.length c4) := (blk_cell HK6.out 4).trans rfl
    have f_p4 := blk_frozen HK6.out 4
    go_wp2_with fail
    clear c_g0 f_g0 c_g1 f_g1 c_p0 f_p0 c_p1 f_p1 c_p2 f_p2 c_p3 f_p3 c_p4 f_p4
    refine (HMC.out _ HBk3k.out).mono ?_
    rintro e w1 ⟨rfl, hb1⟩
    have HB1 := Aside0.mk (below_step (HBk3k.out) hb1)
    have HK7 := Aside0.mk (blk_below (HK5.out) hb1)
    have HK8 := Aside0.mk (blk_below (HK6.out) hb1)
    have HS1 := Aside0.mk hb1
    clear hb1
    have c_g0 : w1.cell? ⟨g, 0, none⟩ = some (Value.slice Bs ss.length ds) := (blk_cell HK7.out 0).trans rfl
    have f_g0 := blk_frozen HK7.out 0
    have c_g1 : w1.cell? ⟨g, 1, none⟩ = some (Value.slice Bt ts.length dt) := (blk_cell HK7.out 1).trans rfl
    have f_g1 := blk_frozen HK7.out 1
    have c_p0 : w1.cell? ⟨p, 0, none⟩ = some (Value.string t.schema) := (blk_cell HK8.out 0).trans rfl
    have f_p0 := blk_frozen HK8.out 0
    have c_p1 : w1.cell? ⟨p, 1, none⟩ = some (Value.string t.name) := (blk_cell HK8.out 1).trans rfl
    have f_p1 := blk_frozen HK8.out 1
    have c_p2 : w1.cell? ⟨p, 2, none⟩ = some (Value.string t.owner) := (blk_cell HK8.out 2).trans rfl
    have f_p2 := blk_frozen HK8.out 2
    have c_p3 : w1.cell? ⟨p, 3, none⟩ = some (Value.slice A3 t.cols.length c3) := (blk_cell HK8.out 3).trans rfl
    have f_p3 := blk_frozen HK8.out 3
    have c_p4 : w1.cell? ⟨p, 4, none⟩ = some (Value.slice A4 t.rules.length c4) := (blk_cell HK8.out 4).trans rfl
    have f_p4 := blk_frozen HK8.out 4
    have HX := Aside0.mk (DidT.err (g := g) 63 HE.out (by decide) (HB1.out) HBW.out.1)
    go_wp2
    go_ret
    exact HX.out
  have HE := Aside0.mk (show addTabR ss ts t = (0, ss, ins (ltOf orderT) t ts) by rw [HE0.out, decide_eq_true h6]; rfl)
  have HTB := Aside0.mk (show TabB t from by
    unfold mayCols at h5
    simp only [Bool.and_eq_true, decide_eq_true_eq] at h5
    refine ⟨by have := h5.2.1; omega, by omega, fun r hr => ?_⟩
    rw [List.length_eq_zero_iff.1 h6] at hr
    cases hr)
  have hl1 : (ts ++ [t]).length = ts.length + 1 := by simp
  have hd6 : decide ((0 : Int) < (t.rules.length : Int)) = false := decide_eq_false (by omega)
  have hd6n : ¬ 0 < t.rules.length := by omega
  clear h5 h6 HE0
  go_enter Tryz.func75, Tryz.ntmps75
  have c_g0 : w.cell? ⟨g, 0, none⟩ = some (Value.slice Bs ss.length ds) := (blk_cell HG.out 0).trans rfl
  have f_g0 := blk_frozen HG.out 0
  have c_g1 : w.cell? ⟨g, 1, none⟩ = some (Value.slice Bt ts.length dt) := (blk_cell HG.out 1).trans rfl
  have f_g1 := blk_frozen HG.out 1
  have c_p0 : w.cell? ⟨p, 0, none⟩ = some (Value.string t.schema) := (blk_cell HP.out 0).trans rfl
  have f_p0 := blk_frozen HP.out 0
  have c_p1 : w.cell? ⟨p, 1, none⟩ = some (Value.string t.name) := (blk_cell HP.out 1).trans rfl
  have f_p1 := blk_frozen HP.out 1
  have c_p2 : w.cell? ⟨p, 2, none⟩ = some (Value.string t.owner) := (blk_cell HP.out 2).trans rfl
  have f_p2 := blk_frozen HP.out 2
  have c_p3 : w.cell? ⟨p, 3, none⟩ = some (Value.slice A3 t.cols.length c3) := (blk_cell HP.out 3).trans rfl
  have f_p3 := blk_frozen HP.out 3
  have c_p4 : w.cell? ⟨p, 4, none⟩ = some (Value.slice A4 t.rules.length c4) := (blk_cell HP.out 4).trans rfl
  have f_p4 := blk_frozen HP.out 4
  go_wp2
  go_region_held3 (fun w' => w'.cell? ⟨g, 0, none⟩ = some (Value.slice Bs ss.length ds) ∧ w'.cell? ⟨g, 1, none⟩ = some (Value.slice Bt ts.length dt) ∧ w'.cell? ⟨p, 0, none⟩ = some (Value.string t.schema) ∧ w'.cell? ⟨p, 1, none⟩ = some (Value.string t.name) ∧ Below w.heap.size w w')
    (first | exact kp4 (by assumption) (by assumption) | exact ⟨c_g0, c_g1, c_p0, c_p1, below_drew (Below.refl _ _)⟩)
    (first | (go_at_call 73; refine (HWH.out _ ?_).mono ?_; exact below_drew (HX0.out); rintro e k1 ⟨rfl, hbx⟩))
  rename_i hH
  have hb2 := hH.2.2.2.2
  clear c_g0 f_g0 c_g1 f_g1 c_p0 f_p0 c_p1 f_p1 c_p2 f_p2 c_p3 f_p3 c_p4 f_p4
  have HBk1k := Aside0.mk (below_step (HX0.out) hb2)
  have HK1 := Aside0.mk (blk_below (HG.out) hb2)
  have HK2 := Aside0.mk (blk_below (HP.out) hb2)
  clear hH hbx hb2
  have c_g0 : k1.cell? ⟨g, 0, none⟩ = some (Value.slice Bs ss.length ds) := (blk_cell HK1.out 0).trans rfl
  have f_g0 := blk_frozen HK1.out 0
  have c_g1 : k1.cell? ⟨g, 1, none⟩ = some (Value.slice Bt ts.length dt) := (blk_cell HK1.out 1).trans rfl
  have f_g1 := blk_frozen HK1.out 1
  have c_p0 : k1.cell? ⟨p, 0, none⟩ = some (Value.string t.schema) := (blk_cell HK2.out 0).trans rfl
  have f_p0 := blk_frozen HK2.out 0
  have c_p1 : k1.cell? ⟨p, 1, none⟩ = some (Value.string t.name) := (blk_cell HK2.out 1).trans rfl
  have f_p1 := blk_frozen HK2.out 1
  have c_p2 : k1.cell? ⟨p, 2, none⟩ = some (Value.string t.owner) := (blk_cell HK2.out 2).trans rfl
  have f_p2 := blk_frozen HK2.out 2
  have c_p3 : k1.cell? ⟨p, 3, none⟩ = some (Value.slice A3 t.cols.length c3) := (blk_cell HK2.out 3).trans rfl
  have f_p3 := blk_frozen HK2.out 3
  have c_p4 : k1.cell? ⟨p, 4, none⟩ = some (Value.slice A4 t.rules.length c4) := (blk_cell HK2.out 4).trans rfl
  have f_p4 := blk_frozen HK2.out 4
  go_wp2_with fail
  clear c_g0 f_g0 c_g1 f_g1 c_p0 f_p0 c_p1 f_p1 c_p2 f_p2 c_p3 f_p3 c_p4 f_p4
  refine (HN1.out _).mono ?_
  rintro e w_ ⟨rfl, rfl⟩
  have c_g0 : k1.cell? ⟨g, 0, none⟩ = some (Value.slice Bs ss.length ds) := (blk_cell HK1.out 0).trans rfl
  have f_g0 := blk_frozen HK1.out 0
  have c_g1 : k1.cell? ⟨g, 1, none⟩ = some (Value.slice Bt ts.length dt) := (blk_cell HK1.out 1).trans rfl
  have f_g1 := blk_frozen HK1.out 1
  have c_p0 : k1.cell? ⟨p, 0, none⟩ = some (Value.string t.schema) := (blk_cell HK2.out 0).trans rfl
  have f_p0 := blk_frozen HK2.out 0
  have c_p1 : k1.cell? ⟨p, 1, none⟩ = some (Value.string t.name) := (blk_cell HK2.out 1).trans rfl
  have f_p1 := blk_frozen HK2.out 1
  have c_p2 : k1.cell? ⟨p, 2, none⟩ = some (Value.string t.owner) := (blk_cell HK2.out 2).trans rfl
  have f_p2 := blk_frozen HK2.out 2
  have c_p3 : k1.cell? ⟨p, 3, none⟩ = some (Value.slice A3 t.cols.length c3) := (blk_cell HK2.out 3).trans rfl
  have f_p3 := blk_frozen HK2.out 3
  have c_p4 : k1.cell? ⟨p, 4, none⟩ = some (Value.slice A4 t.rules.length c4) := (blk_cell HK2.out 4).trans rfl
  have f_p4 := blk_frozen HK2.out 4
  go_wp2_with fail
  clear c_g0 f_g0 c_g1 f_g1 c_p0 f_p0 c_p1 f_p1 c_p2 f_p2 c_p3 f_p3 c_p4 f_p4
  refine (HN2.out _).mono ?_
  rintro e w_ ⟨rfl, rfl⟩
  have c_g0 : k1.cell? ⟨g, 0, none⟩ = some (Value.slice Bs ss.length ds) := (blk_cell HK1.out 0).trans rfl
  have f_g0 := blk_frozen HK1.out 0
  have c_g1 : k1.cell? ⟨g, 1, none⟩ = some (Value.slice Bt ts.length dt) := (blk_cell HK1.out 1).trans rfl
  have f_g1 := blk_frozen HK1.out 1
  have c_p0 : k1.cell? ⟨p, 0, none⟩ = some (Value.string t.schema) := (blk_cell HK2.out 0).trans rfl
  have f_p0 := blk_frozen HK2.out 0
  have c_p1 : k1.cell? ⟨p, 1, none⟩ = some (Value.string t.name) := (blk_cell HK2.out 1).trans rfl
  have f_p1 := blk_frozen HK2.out 1
  have c_p2 : k1.cell? ⟨p, 2, none⟩ = some (Value.string t.owner) := (blk_cell HK2.out 2).trans rfl
  have f_p2 := blk_frozen HK2.out 2
  have c_p3 : k1.cell? ⟨p, 3, none⟩ = some (Value.slice A3 t.cols.length c3) := (blk_cell HK2.out 3).trans rfl
  have f_p3 := blk_frozen HK2.out 3
  have c_p4 : k1.cell? ⟨p, 4, none⟩ = some (Value.slice A4 t.rules.length c4) := (blk_cell HK2.out 4).trans rfl
  have f_p4 := blk_frozen HK2.out 4
  go_wp2
  go_region_held3 (fun w' => w'.cell? ⟨g, 0, none⟩ = some (Value.slice Bs ss.length ds) ∧ w'.cell? ⟨p, 0, none⟩ = some (Value.string t.schema) ∧ Below k1.heap.size k1 w')
    (first | exact kp2 (by assumption) (by assumption) | exact ⟨c_g0, c_p0, below_drew (Below.refl _ _)⟩)
    (first | (go_at_call 54; refine (HNM.out _ ?_).mono ?_; exact below_drew (HBk1k.out); rintro e k2 ⟨rfl, hbx⟩))
  rename_i hH
  have hb2 := hH.2.2
  clear c_g0 f_g0 c_g1 f_g1 c_p0 f_p0 c_p1 f_p1 c_p2 f_p2 c_p3 f_p3 c_p4 f_p4
  have HBk2k := Aside0.mk (below_step (HBk1k.out) hb2)
  have HK3 := Aside0.mk (blk_below (HK1.out) hb2)
  have HK4 := Aside0.mk (blk_below (HK2.out) hb2)
  clear hH hbx hb2
  have c_g0 : k2.cell? ⟨g, 0, none⟩ = some (Value.slice Bs ss.length ds) := (blk_cell HK3.out 0).trans rfl
  have f_g0 := blk_frozen HK3.out 0
  have c_g1 : k2.cell? ⟨g, 1, none⟩ = some (Value.slice Bt ts.length dt) := (blk_cell HK3.out 1).trans rfl
  have f_g1 := blk_frozen HK3.out 1
  have c_p0 : k2.cell? ⟨p, 0, none⟩ = some (Value.string t.schema) := (blk_cell HK4.out 0).trans rfl
  have f_p0 := blk_frozen HK4.out 0
  have c_p1 : k2.cell? ⟨p, 1, none⟩ = some (Value.string t.name) := (blk_cell HK4.out 1).trans rfl
  have f_p1 := blk_frozen HK4.out 1
  have c_p2 : k2.cell? ⟨p, 2, none⟩ = some (Value.string t.owner) := (blk_cell HK4.out 2).trans rfl
  have f_p2 := blk_frozen HK4.out 2
  have c_p3 : k2.cell? ⟨p, 3, none⟩ = some (Value.slice A3 t.cols.length c3) := (blk_cell HK4.out 3).trans rfl
  have f_p3 := blk_frozen HK4.out 3
  have c_p4 : k2.cell? ⟨p, 4, none⟩ = some (Value.slice A4 t.rules.length c4) := (blk_cell HK4.out 4).trans rfl
  have f_p4 := blk_frozen HK4.out 4
  go_wp2
  go_region_held3 (fun w' => w'.cell? ⟨g, 0, none⟩ = some (Value.slice Bs ss.length ds) ∧ w'.cell? ⟨g, 1, none⟩ = some (Value.slice Bt ts.length dt) ∧ w'.cell? ⟨p, 0, none⟩ = some (Value.string t.schema) ∧ Below k2.heap.size k2 w')
    (first | exact kp3 (by assumption) (by assumption) | exact ⟨c_g0, c_g1, c_p0, below_drew (Below.refl _ _)⟩)
    (first | (go_at_call 65; refine (HWI.out _ ?_).mono ?_; exact below_drew (HBk2k.out); rintro e k3 ⟨rfl, hbx⟩))
  rename_i hH
  have hb2 := hH.2.2.2
  clear c_g0 f_g0 c_g1 f_g1 c_p0 f_p0 c_p1 f_p1 c_p2 f_p2 c_p3 f_p3 c_p4 f_p4
  have HBk3k := Aside0.mk (below_step (HBk2k.out) hb2)
  have HK5 := Aside0.mk (blk_below (HK3.out) hb2)
  have HK6 := Aside0.mk (blk_below (HK4.out) hb2)
  clear hH hbx hb2
  have c_g0 : k3.cell? ⟨g, 0, none⟩ = some (Value.slice Bs ss.length ds) := (blk_cell HK5.out 0).trans rfl
  have f_g0 := blk_frozen HK5.out 0
  have c_g1 : k3.cell? ⟨g, 1, none⟩ = some (Value.slice Bt ts.length dt) := (blk_cell HK5.out 1).trans rfl
  have f_g1 := blk_frozen HK5.out 1
  have c_p0 : k3.cell? ⟨p, 0, none⟩ = some (Value.string t.schema) := (blk_cell HK6.out 0).trans rfl
  have f_p0 := blk_frozen HK6.out 0
  have c_p1 : k3.cell? ⟨p, 1, none⟩ = some (Value.string t.name) := (blk_cell HK6.out 1).trans rfl
  have f_p1 := blk_frozen HK6.out 1
  have c_p2 : k3.cell? ⟨p, 2, none⟩ = some (Value.string t.owner) := (blk_cell HK6.out 2).trans rfl
  have f_p2 := blk_frozen HK6.out 2
  have c_p3 : k3.cell? ⟨p, 3, none⟩ = some (Value.slice A3 t.cols.length c3) := (blk_cell HK6.out 3).trans rfl
  have f_p3 := blk_frozen HK6.out 3
  have c_p4 : k3.cell? ⟨p, 4, none⟩ = some (Value.slice A4 t.rules.length c4) := (blk_cell HK6.out 4).trans rfl
  have f_p4 := blk_frozen HK6.out 4
  go_wp2_with fail
  clear c_g0 f_g0 c_g1 f_g1 c_p0 f_p0 c_p1 f_p1 c_p2 f_p2 c_p3 f_p3 c_p4 f_p4
  refine (HMC.out _ HBk3k.out).mono ?_
  rintro e w1 ⟨rfl, hb1⟩
  have HB1 := Aside0.mk (below_step (HBk3k.out) hb1)
  have HK7 := Aside0.mk (blk_below (HK5.out) hb1)
  have HK8 := Aside0.mk (blk_below (HK6.out) hb1)
  have HS1 := Aside0.mk hb1
  clear hb1
  have HS2 := Aside0.mk (Kd.S_drew (Kd.S_below HS.out HB1.out))
  have HR2 := Aside0.mk (Kd.R_drew (Kd.R_below HR.out HB1.out))
  have HGd := Aside0.mk (show w1.drew.heap[g]? = some (.cells #[Value.slice Bs ss.length ds, Value.slice Bt ts.length dt] 25 (0, 0)) from HK7.out)
  have HLE := Aside0.mk (show B ≤ w1.drew.heap.size from Nat.le_trans HBW.out.1 HB1.out.size)
  have HBd := Aside0.mk (below_drew HB1.out)
  have HK := Aside0.mk (copied.at_ t (c3 := c3) (c4 := c4) w HC3.out HC4.out HTB.out)
  have HPd := Aside0.mk (show w1.drew.heap[p]? = some (.cells #[Value.string t.schema, Value.string t.name, Value.string t.owner, Value.slice A3 t.cols.length c3, Value.slice A4 t.rules.length c4] 50 (0, 0)) from HK8.out)
  have c_g0 : w1.cell? ⟨g, 0, none⟩ = some (Value.slice Bs ss.length ds) := (blk_cell HK7.out 0).trans rfl
  have f_g0 := blk_frozen HK7.out 0
  have c_g1 : w1.cell? ⟨g, 1, none⟩ = some (Value.slice Bt ts.length dt) := (blk_cell HK7.out 1).trans rfl
  have f_g1 := blk_frozen HK7.out 1
  have c_p0 : w1.cell? ⟨p, 0, none⟩ = some (Value.string t.schema) := (blk_cell HK8.out 0).trans rfl
  have f_p0 := blk_frozen HK8.out 0
  have c_p1 : w1.cell? ⟨p, 1, none⟩ = some (Value.string t.name) := (blk_cell HK8.out 1).trans rfl
  have f_p1 := blk_frozen HK8.out 1
  have c_p2 : w1.cell? ⟨p, 2, none⟩ = some (Value.string t.owner) := (blk_cell HK8.out 2).trans rfl
  have f_p2 := blk_frozen HK8.out 2
  have c_p3 : w1.cell? ⟨p, 3, none⟩ = some (Value.slice A3 t.cols.length c3) := (blk_cell HK8.out 3).trans rfl
  have f_p3 := blk_frozen HK8.out 3
  have c_p4 : w1.cell? ⟨p, 4, none⟩ = some (Value.slice A4 t.rules.length c4) := (blk_cell HK8.out 4).trans rfl
  have f_p4 := blk_frozen HK8.out 4
  go_wp2
  go_region_law (first
    | (refine append_tab (w0 := w1.drew) (W0 := w1.drew) B (by rfl) (.tmp 62) (.tmp 65) rfl (.slice Bt ts.length dt) ts t B3 B4 d3 d4 rfl rfl HS2.out HV.out.2.2.1 HV.out.1 HV.out.2.1 (HV.out.2.2.1.mono HLE.out) HLE.out (by omega) ?_; intro v1 w4 hS4 hB4 hg4; obtain ⟨g5, c5, e1⟩ := RT_addr (Kd.S_R hS4) (by simp); rw [hl1] at e1; subst e1; have hT2 := Kd.S_R (Kd.S_below HS2.out HV.out.2.2.1); have hG4 := blk_grown HV.out.2.2.2 hg4 (Kd.R_ne hT2 HV.out.2.2.2 (by decide)); have y0 : w4.cell? ⟨g, 1, none⟩ = some (.slice Bt ts.length dt) := (blk_cell hG4 1).trans rfl; have y1 := blk_frozen hG4 1; have HY := Aside0.mk (And.intro hg4 (And.intro (Kd.S_R hS4) (And.intro hG4 hT2))); clear hS4 hB4 hg4 hG4 hT2)
    | (go_simp; go_wp2_with (go_at_call 77; refine (HK.out _ HBd.out).mono ?_; rintro e w2 ⟨B3, d3, B4, d4, rfl, h3, h4, hb⟩; have hG2 := blk_below HGd.out hb; have hP2 := blk_below HPd.out hb; have hg2 : w2.cell? ⟨g, 1, none⟩ = some (.slice Bt ts.length dt) := (blk_cell hG2 1).trans rfl; have hg2a : ∀ o, (w2.alloc o).cell? ⟨g, 1, none⟩ = some (.slice Bt ts.length dt) := fun o => (blk_cell (blk_alloc hG2 o) 1).trans rfl; have HV := Aside0.mk (And.intro h3 (And.intro h4 (And.intro hb hG2))); clear h3 h4 hb hG2 hP2)))
  all_goals
    have HX2 := Aside0.mk (sortTab.calls (ts ++ [t]) (w4.setCell ⟨g, 1, none⟩ (.slice (some ⟨g5, 0, none⟩) (ts.length + 1) c5)) (base := B) (ok := fun _ => True) (g := g5) (c := c5) (by rw [hl1]; omega) (by rw [hl1]; exact Kd.R_set HY.out.2.1 HY.out.2.2.1 (by decide) 1 _))
    rw [hl1] at HX2
    clear c_g0 f_g0 c_g1 f_g1 c_p0 f_p0 c_p1 f_p1 c_p2 f_p2 c_p3 f_p3 c_p4 f_p4
    clear hg2 hg2a
    go_wp2_with (first | (go_at_call 78; refine HX2.out.mono ?_; rintro e w5 ⟨rfl, d', hp', hs', hT6, hg6⟩))
    have HF := Aside0.mk (Did.tabs (below_step HBd.out HV.out.2.2.1) HBW.out.1 HBW.out.2 (Kd.R_below HR2.out HV.out.2.2.1) HY.out.2.2.2 HV.out.2.2.2 HY.out.1 HY.out.2.1 hg6 hT6)
    rw [sorted_ins swoOrder HPW.out HNE.out (by simp) hp' hs'] at HF
    clear hp' hs' hT6 hg6 HX2 HY HV
    go_ret
    rw [HE.out]
    exact HF.out
end Go.Proofs.YtmmiehckgkadgaaGreat.O
