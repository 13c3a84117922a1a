/- Own lemmas and walks (UD), without what the law does not need. Laid by a program of this session (prune.py). -/
import Derived.Test.YtmmiehckgkadgaaGreatPr15
import Derived.Test.YtmmiehckgkadgaaGreatPr16
import Derived.Test.YtmmiehckgkadgaaGreatPr17
namespace Go.Proofs.YtmmiehckgkadgaaGreat.O
set_option linter.unusedVariables false
set_option linter.unusedSimpArgs false
open Go.RowKit Go.Proofs.YtmmiehckgkadgaaGreatW.PrintWords Go.Sort
def sameR (name : ByteArray) (x : Rul) : Bool := x.name.toList == name.toList
def addRulM (ts : List Tab) (r : Rul) (t : Tab) : Int × Tab := if fitsB t.cols r = true then (if 0 ≤ idx (sameR r.name) t.rules then (60, t) else if 8 ≤ t.rules.length then (2, t) else if (r.kind == 4 && keyE ts t.cols r != 0) = true then (keyE ts t.cols r, t) else (0, { t with rules := ins (ltOf cfR) r t.rules })) else (63, t)
theorem SprX.grown {X : Nat → Prop} {B : Nat} {w w' : World} {row : Option Nat} (hg : w.grownBy w' row) (hr : ∀ q, row = some q → B ≤ q) (hB : B ≤ w.heap.size) : SprX X B w w' := SprX.of ((Below.refl B w).grown hg hB hr)
theorem InDidX.rules {p B : Nat} {W W0 Wx w1 w3 : World} {ss : List Sch} {ts : List Tab} {k : Nat} {Bs A4 : Option Addr} {ds g dt c4 n : Nat} {t : Tab} {v1 : Value} {oki : Nat → Prop} {xs : List Rul} {j : Nat} (hb : Below W.heap.size W W0) (hBW : B ≤ W.heap.size) (hgB : B ≤ g) (hpB : p < B) {v2 : Value} (hx : Wx = W0.setCell ⟨p, 2, none⟩ v2) (hp : ∃ cells, W0.heap[p]? = some (.cells cells 29 (0, 0)))
    (hR : kSch.R 76 W B (fun _ => True) (.slice Bs ss.length ds) ss) (h4 : kRul.R 29 Wx B oki (.slice A4 n c4) xs) (hg1 : Wx.grownBy w1 (Value.slice A4 n c4).ownBlock)
    (hgc : ∃ cells, w1.heap[g]? = some (.cells cells 50 (0, 0))) {A5 : Option Addr} {c5 m : Nat} {ys : List Rul} (h5 : kRul.R 29 (w1.setCell ⟨g, j, none⟩ v1) B (fun _ => True) (.slice A5 m c5) ys) (hg3 : (w1.setCell ⟨g, j, none⟩ v1).grownBy w3 (Value.slice A5 m c5).ownBlock) (hS : Kd.S kTab 50 w3 B (fun _ => True) (.slice (some ⟨g, 0, none⟩) ts.length dt) (ts.set k t)) : InDidX (fun q => q = p) B W ss ts k Bs ds g dt (0, t) (.returned (.int .i64 0)) w3 := by
  obtain ⟨cells, hgc⟩ := hgc
  obtain ⟨pc, hp⟩ := hp
  have hbW0 : SprX (fun q => q = p) B W W0 := SprX.of (hb.mono hBW)
  have hbx : SprX (fun q => q = p) B W Wx := by rw [hx]; exact hbW0.set (.inr rfl) 2 v2
  have hWx : Wx.heap.size = W0.heap.size := by rw [hx]; simp
  have hb1 : SprX (fun q => q = p) B W w1 := hbx.trans (SprX.grown hg1 (fun q hq => Kd.R_base h4 q hq) (by rw [hWx]; exact Nat.le_trans hBW hb.size))
  have hb2 : SprX (fun q => q = p) B W (w1.setCell ⟨g, j, none⟩ v1) := hb1.set (.inl hgB) j v1
  have hb3 : SprX (fun q => q = p) B W w3 := hb2.trans (SprX.grown hg3 (fun q hq => Kd.R_base h5 q hq) (Nat.le_trans hBW hb2.size))
  have hRx : kSch.R 76 Wx B (fun _ => True) (.slice Bs ss.length ds) ss := by rw [hx]; exact Kd.R_set (Kd.R_below hR hb) hp (by decide) 2 v2
  have key : ∀ (q : Nat) (cs : Array Value), W.heap[q]? = some (.cells cs 25 (0, 0)) → w3.heap[q]? = some (.cells cs 25 (0, 0)) := fun q cs hq => by
    have q0 := blk_below hq hb
    have qx : Wx.heap[q]? = some (.cells cs 25 (0, 0)) := by rw [hx]; exact blk_far (p := ⟨p, 2, none⟩) q0 (blk_ne q0 hp (by decide)) _
    have q1 := blk_grown qx hg1 (Kd.R_ne h4 qx (by decide))
    have q2 : (w1.setCell ⟨g, j, none⟩ v1).heap[q]? = _ := blk_far (p := ⟨g, j, none⟩) q1 (blk_ne q1 hgc (by decide)) _
    exact blk_grown q2 hg3 (Kd.R_ne h5 q2 (by decide))
  exact ⟨rfl, hb3, key, fun _ => ⟨Kd.R_over' (Kd.R_set (Kd.R_over' hRx (Kd.R_typed h4) (by decide) hg1) hgc (by decide) j v1) (Kd.R_typed h5) (by decide) hg3, hS⟩⟩
set_option maxRecDepth 20000 in
set_option maxHeartbeats 8000000 in
theorem AddRule1.calls (ss : List Sch) (ts : List Tab) (r : Rul) {A2 : Option Addr} {c2 : Nat} (w : World) (p : Nat) (hp : w.heap[p]? = some (.cells #[.string r.name, .int .i64 r.kind, .slice A2 r.cols.length c2, .int .i64 r.low, .int .i64 r.high, .string r.schema, .string r.table, .string r.key] 29 (0, 0))) (h2 : Kd.string.C w A2 r.cols.length r.cols) (hRF : RulF r) (hRL : r.cols.length ≤ 3000) (hF : TabsF ts) (hB : TabsB ts) (hck : checkB ss ts = true) :
    InnerX (fun q => q = p) 27 #[.pointer (some ⟨p, 0, none⟩)] w ss ts (addRulM ts r) := by
  intro k hk B W Bs ds g dt hA
  show Calls Tryz.prog 27 #[.agg #[.slice Bs ss.length ds, .slice (some ⟨g, 0, none⟩) ts.length dt], .pointer (some ⟨g, k * 5, none⟩), .pointer (some ⟨p, 0, none⟩)] W _
  obtain ⟨hW, hwB, hBW, hR, hS⟩ := hA
  have htb := hB.2 _ (List.getElem_mem hk)
  have hlc : ts[k].cols.length ≤ 3000 := htb.1
  have hlr : ts[k].rules.length ≤ 3000 := htb.2.1
  obtain ⟨hB1, hX1⟩ := boxes1 W (.cells #[.slice Bs ss.length ds, .slice (some ⟨g, 0, none⟩) ts.length dt] 25)
  have HP := Aside0.mk (blk_below hp hW)
  have HPB := Aside0.mk (Nat.lt_of_lt_of_le (blk_lt hp) hwB)
  have HGB := Aside0.mk (show B ≤ g from Kd.S_base hS g rfl)
  have HB1 := Aside0.mk hB1
  have HO1 := Aside0.mk hX1
  have HBW := Aside0.mk hBW
  have HR := Aside0.mk hR
  have HS := Aside0.mk hS
  have H2 := Aside0.mk (Kd.C_below h2 hW)
  have HRL := Aside0.mk (show r.cols.length ≤ 8796093022207 by omega)
  obtain ⟨oki0, A3, c3, e3, _, h3, _, _⟩ := S_cols hS k hk
  obtain ⟨oki1, A4, c4, e4, _, h4, _, _⟩ := S_rules hS k hk
  have HC := Aside0.mk (And.intro e3 e4)
  have HFI := Aside0.mk (fun W' (hW' : Below W.heap.size W W') => fits.calls (c0 := c3) (c2 := c2) ts[k].cols r W' (Kd.C_below (Kd.R_reads' h3).2.2 hW') (by omega) (Kd.C_below H2.out hW') (by omega) hRF.2)
  have HNM := Aside0.mk (fun W' (hW' : Below W.heap.size W W') => byNameRul.calls A4 c4 ts[k].rules r.name W' (Kd.C_below (Kd.R_reads' h4).2.2 hW') (by omega))
  have HKE := Aside0.mk (fun W' (hW' : Below W.heap.size W W') => key.calls (As := Bs) (ns := ss.length) (cs := ds) (ct := dt) (c0 := c3) (c2 := c2) ts ts[k].cols r W' (Kd.C_below (Kd.R_reads' (Kd.S_R hS)).2.2 hW') hF (Kd.C_below (Kd.R_reads' h3).2.2 hW') (by omega) (Kd.C_below H2.out hW') (by omega))
  have hl1 : (ts[k].rules ++ [r]).length = ts[k].rules.length + 1 := by simp
  have HPR := Aside0.mk (show ts[k].rules.Pairwise (fun a b => ltOf cfR a b = true) from ((of_check hck).r _ (List.getElem_mem hk)).r.imp fun h => decide_eq_true (show cfR _ _ < 0 from h))
  clear hp h2 hRF hW hwB hBW hR hS hB1 hX1 e3 e4 h3 h4 hF hB htb
  by_cases h1 : fitsB ts[k].cols r = true
  case neg =>
    have hm : fitsB ts[k].cols r = false := by simpa using h1
    have HQ := Aside0.mk (show (addRulM ts r ts[k]).1 = 63 by unfold addRulM; rw [hm]; rfl)
    rw [hm] at HFI
    clear h1 hm
    go_enter Tryz.func27, Tryz.ntmps27
    have r0 : ((W.alloc (.cells #[.slice Bs ss.length ds, .slice (some ⟨g, 0, none⟩) ts.length dt] 25))).cell? ⟨p, 0, none⟩ = some (Value.string r.name) := (blk_cell (blk_below HP.out HB1.out) 0).trans rfl
    have r1 : ((W.alloc (.cells #[.slice Bs ss.length ds, .slice (some ⟨g, 0, none⟩) ts.length dt] 25))).cell? ⟨p, 1, none⟩ = some (Value.int .i64 r.kind) := (blk_cell (blk_below HP.out HB1.out) 1).trans rfl
    have r2 : ((W.alloc (.cells #[.slice Bs ss.length ds, .slice (some ⟨g, 0, none⟩) ts.length dt] 25))).cell? ⟨p, 2, none⟩ = some (Value.slice A2 r.cols.length c2) := (blk_cell (blk_below HP.out HB1.out) 2).trans rfl
    have r3 : ((W.alloc (.cells #[.slice Bs ss.length ds, .slice (some ⟨g, 0, none⟩) ts.length dt] 25))).cell? ⟨p, 3, none⟩ = some (Value.int .i64 r.low) := (blk_cell (blk_below HP.out HB1.out) 3).trans rfl
    have r4 : ((W.alloc (.cells #[.slice Bs ss.length ds, .slice (some ⟨g, 0, none⟩) ts.length dt] 25))).cell? ⟨p, 4, none⟩ = some (Value.int .i64 r.high) := (blk_cell (blk_below HP.out HB1.out) 4).trans rfl
    have r5 : ((W.alloc (.cells #[.slice Bs ss.length ds, .slice (some ⟨g, 0, none⟩) ts.length dt] 25))).cell? ⟨p, 5, none⟩ = some (Value.string r.schema) := (blk_cell (blk_below HP.out HB1.out) 5).trans rfl
    have r6 : ((W.alloc (.cells #[.slice Bs ss.length ds, .slice (some ⟨g, 0, none⟩) ts.length dt] 25))).cell? ⟨p, 6, none⟩ = some (Value.string r.table) := (blk_cell (blk_below HP.out HB1.out) 6).trans rfl
    have r7 : ((W.alloc (.cells #[.slice Bs ss.length ds, .slice (some ⟨g, 0, none⟩) ts.length dt] 25))).cell? ⟨p, 7, none⟩ = some (Value.string r.key) := (blk_cell (blk_below HP.out HB1.out) 7).trans rfl
    have t3 : ((W.alloc (.cells #[.slice Bs ss.length ds, .slice (some ⟨g, 0, none⟩) ts.length dt] 25))).cell? ⟨g, k * 5 + 3, none⟩ = some (Value.slice A3 ts[k].cols.length c3) := pw_cell_below HB1.out HC.out.1
    have t4 : ((W.alloc (.cells #[.slice Bs ss.length ds, .slice (some ⟨g, 0, none⟩) ts.length dt] 25))).cell? ⟨g, k * 5 + 4, none⟩ = some (Value.slice A4 ts[k].rules.length c4) := pw_cell_below HB1.out HC.out.2
    go_wp2
    go_region_held3 (fun w' => w'.cell? ⟨g, k * 5 + 3, none⟩ = some (Value.slice A3 ts[k].cols.length c3) ∧ w'.cell? ⟨p, 0, none⟩ = some (Value.string r.name) ∧ w'.cell? ⟨p, 1, none⟩ = some (Value.int .i64 r.kind) ∧ w'.cell? ⟨p, 2, none⟩ = some (Value.slice A2 r.cols.length c2) ∧ w'.cell? ⟨p, 3, none⟩ = some (Value.int .i64 r.low) ∧ w'.cell? ⟨p, 4, none⟩ = some (Value.int .i64 r.high) ∧ w'.cell? ⟨p, 5, none⟩ = some (Value.string r.schema) ∧ w'.cell? ⟨p, 6, none⟩ = some (Value.string r.table) ∧ w'.cell? ⟨p, 7, none⟩ = some (Value.string r.key) ∧ Below (W.alloc (.cells #[.slice Bs ss.length ds, .slice (some ⟨g, 0, none⟩) ts.length dt] 25)).heap.size (W.alloc (.cells #[.slice Bs ss.length ds, .slice (some ⟨g, 0, none⟩) ts.length dt] 25)) w')
      (first | exact kq9 (by assumption) (by assumption) | exact ⟨t3, r0, r1, r2, r3, r4, r5, r6, r7, below_drew (Below.refl _ _)⟩)
      (first | (go_at_call 28; refine (HFI.out _ ?_).mono ?_; exact below_drew HB1.out; rintro e w1 ⟨rfl, hbx⟩))
    rename_i hH
    have hb2 := hH.2.2.2.2.2.2.2.2.2
    have HB2 := Aside0.mk (below_step HB1.out hb2)
    have HBo := Aside0.mk hb2
    clear hH hbx hb2 HFI r0 r1 r2 r3 r4 r5 r6 r7 t3 t4
    have r0 : (w1).cell? ⟨p, 0, none⟩ = some (Value.string r.name) := (blk_cell (blk_below HP.out HB2.out) 0).trans rfl
    have r1 : (w1).cell? ⟨p, 1, none⟩ = some (Value.int .i64 r.kind) := (blk_cell (blk_below HP.out HB2.out) 1).trans rfl
    have r2 : (w1).cell? ⟨p, 2, none⟩ = some (Value.slice A2 r.cols.length c2) := (blk_cell (blk_below HP.out HB2.out) 2).trans rfl
    have r3 : (w1).cell? ⟨p, 3, none⟩ = some (Value.int .i64 r.low) := (blk_cell (blk_below HP.out HB2.out) 3).trans rfl
    have r4 : (w1).cell? ⟨p, 4, none⟩ = some (Value.int .i64 r.high) := (blk_cell (blk_below HP.out HB2.out) 4).trans rfl
    have r5 : (w1).cell? ⟨p, 5, none⟩ = some (Value.string r.schema) := (blk_cell (blk_below HP.out HB2.out) 5).trans rfl
    have r6 : (w1).cell? ⟨p, 6, none⟩ = some (Value.string r.table) := (blk_cell (blk_below HP.out HB2.out) 6).trans rfl
    have r7 : (w1).cell? ⟨p, 7, none⟩ = some (Value.string r.key) := (blk_cell (blk_below HP.out HB2.out) 7).trans rfl
    have t3 : (w1).cell? ⟨g, k * 5 + 3, none⟩ = some (Value.slice A3 ts[k].cols.length c3) := pw_cell_below HB2.out HC.out.1
    have t4 : (w1).cell? ⟨g, k * 5 + 4, none⟩ = some (Value.slice A4 ts[k].rules.length c4) := pw_cell_below HB2.out HC.out.2
    have HX := Aside0.mk (InDidX.err (X := fun q => q = p) (ss := ss) (ts := ts) (k := k) (Bs := Bs) (ds := ds) (g := g) (dt := dt) 63 HQ.out (by decide) HB2.out HBW.out)
    go_wp2
    go_ret
    exact HX.out
  case pos =>
  have HAM := Aside0.mk (show addRulM ts r ts[k] = (if 0 ≤ idx (sameR r.name) ts[k].rules then (60, ts[k]) else if 8 ≤ ts[k].rules.length then (2, ts[k]) else if (r.kind == 4 && keyE ts ts[k].cols r != 0) = true then (keyE ts ts[k].cols r, ts[k]) else (0, { ts[k] with rules := ins (ltOf cfR) r ts[k].rules })) by unfold addRulM; rw [h1]; rfl)
  rw [h1] at HFI
  clear h1
  rcases idx_cases (sameR r.name) ts[k].rules with ⟨m, hm, hi, y1, y2⟩ | ⟨hi, y1⟩
  · rw [show idx (fun x : Rul => x.name.toList == r.name.toList) ts[k].rules = (m : Int) from hi] at HNM
    have HQ := Aside0.mk (show (addRulM ts r ts[k]).1 = 60 by rw [HAM.out, hi, if_pos (by omega)])
    have hd : decide ((0 : Int) ≤ (m : Int)) = true := decide_eq_true (by omega)
    clear hi y1 y2 HAM hm
    go_enter Tryz.func27, Tryz.ntmps27
    have r0 : ((W.alloc (.cells #[.slice Bs ss.length ds, .slice (some ⟨g, 0, none⟩) ts.length dt] 25))).cell? ⟨p, 0, none⟩ = some (Value.string r.name) := (blk_cell (blk_below HP.out HB1.out) 0).trans rfl
    have r1 : ((W.alloc (.cells #[.slice Bs ss.length ds, .slice (some ⟨g, 0, none⟩) ts.length dt] 25))).cell? ⟨p, 1, none⟩ = some (Value.int .i64 r.kind) := (blk_cell (blk_below HP.out HB1.out) 1).trans rfl
    have r2 : ((W.alloc (.cells #[.slice Bs ss.length ds, .slice (some ⟨g, 0, none⟩) ts.length dt] 25))).cell? ⟨p, 2, none⟩ = some (Value.slice A2 r.cols.length c2) := (blk_cell (blk_below HP.out HB1.out) 2).trans rfl
    have r3 : ((W.alloc (.cells #[.slice Bs ss.length ds, .slice (some ⟨g, 0, none⟩) ts.length dt] 25))).cell? ⟨p, 3, none⟩ = some (Value.int .i64 r.low) := (blk_cell (blk_below HP.out HB1.out) 3).trans rfl
    have r4 : ((W.alloc (.cells #[.slice Bs ss.length ds, .slice (some ⟨g, 0, none⟩) ts.length dt] 25))).cell? ⟨p, 4, none⟩ = some (Value.int .i64 r.high) := (blk_cell (blk_below HP.out HB1.out) 4).trans rfl
    have r5 : ((W.alloc (.cells #[.slice Bs ss.length ds, .slice (some ⟨g, 0, none⟩) ts.length dt] 25))).cell? ⟨p, 5, none⟩ = some (Value.string r.schema) := (blk_cell (blk_below HP.out HB1.out) 5).trans rfl
    have r6 : ((W.alloc (.cells #[.slice Bs ss.length ds, .slice (some ⟨g, 0, none⟩) ts.length dt] 25))).cell? ⟨p, 6, none⟩ = some (Value.string r.table) := (blk_cell (blk_below HP.out HB1.out) 6).trans rfl
    have r7 : ((W.alloc (.cells #[.slice Bs ss.length ds, .slice (some ⟨g, 0, none⟩) ts.length dt] 25))).cell? ⟨p, 7, none⟩ = some (Value.string r.key) := (blk_cell (blk_below HP.out HB1.out) 7).trans rfl
    have t3 : ((W.alloc (.cells #[.slice Bs ss.length ds, .slice (some ⟨g, 0, none⟩) ts.length dt] 25))).cell? ⟨g, k * 5 + 3, none⟩ = some (Value.slice A3 ts[k].cols.length c3) := pw_cell_below HB1.out HC.out.1
    have t4 : ((W.alloc (.cells #[.slice Bs ss.length ds, .slice (some ⟨g, 0, none⟩) ts.length dt] 25))).cell? ⟨g, k * 5 + 4, none⟩ = some (Value.slice A4 ts[k].rules.length c4) := pw_cell_below HB1.out HC.out.2
    go_wp2
    go_region_held3 (fun w' => w'.cell? ⟨g, k * 5 + 3, none⟩ = some (Value.slice A3 ts[k].cols.length c3) ∧ w'.cell? ⟨p, 0, none⟩ = some (Value.string r.name) ∧ w'.cell? ⟨p, 1, none⟩ = some (Value.int .i64 r.kind) ∧ w'.cell? ⟨p, 2, none⟩ = some (Value.slice A2 r.cols.length c2) ∧ w'.cell? ⟨p, 3, none⟩ = some (Value.int .i64 r.low) ∧ w'.cell? ⟨p, 4, none⟩ = some (Value.int .i64 r.high) ∧ w'.cell? ⟨p, 5, none⟩ = some (Value.string r.schema) ∧ w'.cell? ⟨p, 6, none⟩ = some (Value.string r.table) ∧ w'.cell? ⟨p, 7, none⟩ = some (Value.string r.key) ∧ Below (W.alloc (.cells #[.slice Bs ss.length ds, .slice (some ⟨g, 0, none⟩) ts.length dt] 25)).heap.size (W.alloc (.cells #[.slice Bs ss.length ds, .slice (some ⟨g, 0, none⟩) ts.length dt] 25)) w')
      (first | exact kq9 (by assumption) (by assumption) | exact ⟨t3, r0, r1, r2, r3, r4, r5, r6, r7, below_drew (Below.refl _ _)⟩)
      (first | (go_at_call 28; refine (HFI.out _ ?_).mono ?_; exact below_drew HB1.out; rintro e w1 ⟨rfl, hbx⟩))
    rename_i hH
    have hb2 := hH.2.2.2.2.2.2.2.2.2
    have HB2 := Aside0.mk (below_step HB1.out hb2)
    have HBo := Aside0.mk hb2
    clear hH hbx hb2 HFI r0 r1 r2 r3 r4 r5 r6 r7 t3 t4
    have r0 : (w1).cell? ⟨p, 0, none⟩ = some (Value.string r.name) := (blk_cell (blk_below HP.out HB2.out) 0).trans rfl
    have r1 : (w1).cell? ⟨p, 1, none⟩ = some (Value.int .i64 r.kind) := (blk_cell (blk_below HP.out HB2.out) 1).trans rfl
    have r2 : (w1).cell? ⟨p, 2, none⟩ = some (Value.slice A2 r.cols.length c2) := (blk_cell (blk_below HP.out HB2.out) 2).trans rfl
    have r3 : (w1).cell? ⟨p, 3, none⟩ = some (Value.int .i64 r.low) := (blk_cell (blk_below HP.out HB2.out) 3).trans rfl
    have r4 : (w1).cell? ⟨p, 4, none⟩ = some (Value.int .i64 r.high) := (blk_cell (blk_below HP.out HB2.out) 4).trans rfl
    have r5 : (w1).cell? ⟨p, 5, none⟩ = some (Value.string r.schema) := (blk_cell (blk_below HP.out HB2.out) 5).trans rfl
    have r6 : (w1).cell? ⟨p, 6, none⟩ = some (Value.string r.table) := (blk_cell (blk_below HP.out HB2.out) 6).trans rfl
    have r7 : (w1).cell? ⟨p, 7, none⟩ = some (Value.string r.key) := (blk_cell (blk_below HP.out HB2.out) 7).trans rfl
    have t3 : (w1).cell? ⟨g, k * 5 + 3, none⟩ = some (Value.slice A3 ts[k].cols.length c3) := pw_cell_below HB2.out HC.out.1
    have t4 : (w1).cell? ⟨g, k * 5 + 4, none⟩ = some (Value.slice A4 ts[k].rules.length c4) := pw_cell_below HB2.out HC.out.2
    go_wp2
    go_region_held3 (fun w' => w'.cell? ⟨g, k * 5 + 4, none⟩ = some (Value.slice A4 ts[k].rules.length c4) ∧ w'.cell? ⟨p, 0, none⟩ = some (Value.string r.name) ∧ Below w1.heap.size w1 w')
      (first | exact kq2 (by assumption) (by assumption) | exact ⟨t4, r0, below_drew (Below.refl _ _)⟩)
      (first | (go_at_call 29; refine (HNM.out _ ?_).mono ?_; exact below_drew HB2.out; rintro e w2 ⟨rfl, hbx⟩))
    rename_i hH
    have hb3 := hH.2.2
    have HB3 := Aside0.mk (below_step HB2.out hb3)
    have HBO := Aside0.mk (below_step HBo.out hb3)
    clear hH hbx hb3 HNM r0 r1 r2 r3 r4 r5 r6 r7 t3 t4
    have r0 : (w2).cell? ⟨p, 0, none⟩ = some (Value.string r.name) := (blk_cell (blk_below HP.out HB3.out) 0).trans rfl
    have r1 : (w2).cell? ⟨p, 1, none⟩ = some (Value.int .i64 r.kind) := (blk_cell (blk_below HP.out HB3.out) 1).trans rfl
    have r2 : (w2).cell? ⟨p, 2, none⟩ = some (Value.slice A2 r.cols.length c2) := (blk_cell (blk_below HP.out HB3.out) 2).trans rfl
    have r3 : (w2).cell? ⟨p, 3, none⟩ = some (Value.int .i64 r.low) := (blk_cell (blk_below HP.out HB3.out) 3).trans rfl
    have r4 : (w2).cell? ⟨p, 4, none⟩ = some (Value.int .i64 r.high) := (blk_cell (blk_below HP.out HB3.out) 4).trans rfl
    have r5 : (w2).cell? ⟨p, 5, none⟩ = some (Value.string r.schema) := (blk_cell (blk_below HP.out HB3.out) 5).trans rfl
    have r6 : (w2).cell? ⟨p, 6, none⟩ = some (Value.string r.table) := (blk_cell (blk_below HP.out HB3.out) 6).trans rfl
    have r7 : (w2).cell? ⟨p, 7, none⟩ = some (Value.string r.key) := (blk_cell (blk_below HP.out HB3.out) 7).trans rfl
    have t3 : (w2).cell? ⟨g, k * 5 + 3, none⟩ = some (Value.slice A3 ts[k].cols.length c3) := pw_cell_below HB3.out HC.out.1
    have t4 : (w2).cell? ⟨g, k * 5 + 4, none⟩ = some (Value.slice A4 ts[k].rules.length c4) := pw_cell_below HB3.out HC.out.2
    have HX := Aside0.mk (InDidX.err (X := fun q => q = p) (ss := ss) (ts := ts) (k := k) (Bs := Bs) (ds := ds) (g := g) (dt := dt) 60 HQ.out (by decide) HB3.out HBW.out)
    go_wp2
    go_ret
    exact HX.out
  rw [show idx (fun x : Rul => x.name.toList == r.name.toList) ts[k].rules = -1 from hi] at HNM
  have HNE := Aside0.mk (show ∀ a ∈ ts[k].rules, ltOf cfR r a = true ∨ ltOf cfR a r = true from fun a ha => by
    obtain ⟨j, hj, rfl⟩ := List.getElem_of_mem ha
    have hne : ts[k].rules[j].name ≠ r.name := fun e => by have h := y1 j hj; unfold sameR at h; rw [e] at h; simp at h
    rcases cmpS_tri hne with h | h
    · exact .inr (decide_eq_true h)
    · exact .inl (decide_eq_true h))
  have hd : decide ((0 : Int) ≤ -1) = false := rfl
  rw [hi, if_neg (by omega)] at HAM
  clear hi y1
  by_cases h8 : 8 ≤ ts[k].rules.length
  · have HQ := Aside0.mk (show (addRulM ts r ts[k]).1 = 2 by rw [HAM.out, if_pos h8])
    have hd8 : decide ((8 : Int) ≤ (ts[k].rules.length : Int)) = true := decide_eq_true (by omega)
    clear HAM
    go_enter Tryz.func27, Tryz.ntmps27
    have r0 : ((W.alloc (.cells #[.slice Bs ss.length ds, .slice (some ⟨g, 0, none⟩) ts.length dt] 25))).cell? ⟨p, 0, none⟩ = some (Value.string r.name) := (blk_cell (blk_below HP.out HB1.out) 0).trans rfl
    have r1 : ((W.alloc (.cells #[.slice Bs ss.length ds, .slice (some ⟨g, 0, none⟩) ts.length dt] 25))).cell? ⟨p, 1, none⟩ = some (Value.int .i64 r.kind) := (blk_cell (blk_below HP.out HB1.out) 1).trans rfl
    have r2 : ((W.alloc (.cells #[.slice Bs ss.length ds, .slice (some ⟨g, 0, none⟩) ts.length dt] 25))).cell? ⟨p, 2, none⟩ = some (Value.slice A2 r.cols.length c2) := (blk_cell (blk_below HP.out HB1.out) 2).trans rfl
    have r3 : ((W.alloc (.cells #[.slice Bs ss.length ds, .slice (some ⟨g, 0, none⟩) ts.length dt] 25))).cell? ⟨p, 3, none⟩ = some (Value.int .i64 r.low) := (blk_cell (blk_below HP.out HB1.out) 3).trans rfl
    have r4 : ((W.alloc (.cells #[.slice Bs ss.length ds, .slice (some ⟨g, 0, none⟩) ts.length dt] 25))).cell? ⟨p, 4, none⟩ = some (Value.int .i64 r.high) := (blk_cell (blk_below HP.out HB1.out) 4).trans rfl
    have r5 : ((W.alloc (.cells #[.slice Bs ss.length ds, .slice (some ⟨g, 0, none⟩) ts.length dt] 25))).cell? ⟨p, 5, none⟩ = some (Value.string r.schema) := (blk_cell (blk_below HP.out HB1.out) 5).trans rfl
    have r6 : ((W.alloc (.cells #[.slice Bs ss.length ds, .slice (some ⟨g, 0, none⟩) ts.length dt] 25))).cell? ⟨p, 6, none⟩ = some (Value.string r.table) := (blk_cell (blk_below HP.out HB1.out) 6).trans rfl
    have r7 : ((W.alloc (.cells #[.slice Bs ss.length ds, .slice (some ⟨g, 0, none⟩) ts.length dt] 25))).cell? ⟨p, 7, none⟩ = some (Value.string r.key) := (blk_cell (blk_below HP.out HB1.out) 7).trans rfl
    have t3 : ((W.alloc (.cells #[.slice Bs ss.length ds, .slice (some ⟨g, 0, none⟩) ts.length dt] 25))).cell? ⟨g, k * 5 + 3, none⟩ = some (Value.slice A3 ts[k].cols.length c3) := pw_cell_below HB1.out HC.out.1
    have t4 : ((W.alloc (.cells #[.slice Bs ss.length ds, .slice (some ⟨g, 0, none⟩) ts.length dt] 25))).cell? ⟨g, k * 5 + 4, none⟩ = some (Value.slice A4 ts[k].rules.length c4) := pw_cell_below HB1.out HC.out.2
    go_wp2
    go_region_held3 (fun w' => w'.cell? ⟨g, k * 5 + 3, none⟩ = some (Value.slice A3 ts[k].cols.length c3) ∧ w'.cell? ⟨p, 0, none⟩ = some (Value.string r.name) ∧ w'.cell? ⟨p, 1, none⟩ = some (Value.int .i64 r.kind) ∧ w'.cell? ⟨p, 2, none⟩ = some (Value.slice A2 r.cols.length c2) ∧ w'.cell? ⟨p, 3, none⟩ = some (Value.int .i64 r.low) ∧ w'.cell? ⟨p, 4, none⟩ = some (Value.int .i64 r.high) ∧ w'.cell? ⟨p, 5, none⟩ = some (Value.string r.schema) ∧ w'.cell? ⟨p, 6, none⟩ = some (Value.string r.table) ∧ w'.cell? ⟨p, 7, none⟩ = some (Value.string r.key) ∧ Below (W.alloc (.cells #[.slice Bs ss.length ds, .slice (some ⟨g, 0, none⟩) ts.length dt] 25)).heap.size (W.alloc (.cells #[.slice Bs ss.length ds, .slice (some ⟨g, 0, none⟩) ts.length dt] 25)) w')
      (first | exact kq9 (by assumption) (by assumption) | exact ⟨t3, r0, r1, r2, r3, r4, r5, r6, r7, below_drew (Below.refl _ _)⟩)
      (first | (go_at_call 28; refine (HFI.out _ ?_).mono ?_; exact below_drew HB1.out; rintro e w1 ⟨rfl, hbx⟩))
    rename_i hH
    have hb2 := hH.2.2.2.2.2.2.2.2.2
    have HB2 := Aside0.mk (below_step HB1.out hb2)
    have HBo := Aside0.mk hb2
    clear hH hbx hb2 HFI r0 r1 r2 r3 r4 r5 r6 r7 t3 t4
    have r0 : (w1).cell? ⟨p, 0, none⟩ = some (Value.string r.name) := (blk_cell (blk_below HP.out HB2.out) 0).trans rfl
    have r1 : (w1).cell? ⟨p, 1, none⟩ = some (Value.int .i64 r.kind) := (blk_cell (blk_below HP.out HB2.out) 1).trans rfl
    have r2 : (w1).cell? ⟨p, 2, none⟩ = some (Value.slice A2 r.cols.length c2) := (blk_cell (blk_below HP.out HB2.out) 2).trans rfl
    have r3 : (w1).cell? ⟨p, 3, none⟩ = some (Value.int .i64 r.low) := (blk_cell (blk_below HP.out HB2.out) 3).trans rfl
    have r4 : (w1).cell? ⟨p, 4, none⟩ = some (Value.int .i64 r.high) := (blk_cell (blk_below HP.out HB2.out) 4).trans rfl
    have r5 : (w1).cell? ⟨p, 5, none⟩ = some (Value.string r.schema) := (blk_cell (blk_below HP.out HB2.out) 5).trans rfl
    have r6 : (w1).cell? ⟨p, 6, none⟩ = some (Value.string r.table) := (blk_cell (blk_below HP.out HB2.out) 6).trans rfl
    have r7 : (w1).cell? ⟨p, 7, none⟩ = some (Value.string r.key) := (blk_cell (blk_below HP.out HB2.out) 7).trans rfl
    have t3 : (w1).cell? ⟨g, k * 5 + 3, none⟩ = some (Value.slice A3 ts[k].cols.length c3) := pw_cell_below HB2.out HC.out.1
    have t4 : (w1).cell? ⟨g, k * 5 + 4, none⟩ = some (Value.slice A4 ts[k].rules.length c4) := pw_cell_below HB2.out HC.out.2
    go_wp2
    go_region_held3 (fun w' => w'.cell? ⟨g, k * 5 + 4, none⟩ = some (Value.slice A4 ts[k].rules.length c4) ∧ w'.cell? ⟨p, 0, none⟩ = some (Value.string r.name) ∧ Below w1.heap.size w1 w')
      (first | exact kq2 (by assumption) (by assumption) | exact ⟨t4, r0, below_drew (Below.refl _ _)⟩)
      (first | (go_at_call 29; refine (HNM.out _ ?_).mono ?_; exact below_drew HB2.out; rintro e w2 ⟨rfl, hbx⟩))
    rename_i hH
    have hb3 := hH.2.2
    have HB3 := Aside0.mk (below_step HB2.out hb3)
    have HBO := Aside0.mk (below_step HBo.out hb3)
    clear hH hbx hb3 HNM r0 r1 r2 r3 r4 r5 r6 r7 t3 t4
    have r0 : (w2).cell? ⟨p, 0, none⟩ = some (Value.string r.name) := (blk_cell (blk_below HP.out HB3.out) 0).trans rfl
    have r1 : (w2).cell? ⟨p, 1, none⟩ = some (Value.int .i64 r.kind) := (blk_cell (blk_below HP.out HB3.out) 1).trans rfl
    have r2 : (w2).cell? ⟨p, 2, none⟩ = some (Value.slice A2 r.cols.length c2) := (blk_cell (blk_below HP.out HB3.out) 2).trans rfl
    have r3 : (w2).cell? ⟨p, 3, none⟩ = some (Value.int .i64 r.low) := (blk_cell (blk_below HP.out HB3.out) 3).trans rfl
    have r4 : (w2).cell? ⟨p, 4, none⟩ = some (Value.int .i64 r.high) := (blk_cell (blk_below HP.out HB3.out) 4).trans rfl
    have r5 : (w2).cell? ⟨p, 5, none⟩ = some (Value.string r.schema) := (blk_cell (blk_below HP.out HB3.out) 5).trans rfl
    have r6 : (w2).cell? ⟨p, 6, none⟩ = some (Value.string r.table) := (blk_cell (blk_below HP.out HB3.out) 6).trans rfl
    have r7 : (w2).cell? ⟨p, 7, none⟩ = some (Value.string r.key) := (blk_cell (blk_below HP.out HB3.out) 7).trans rfl
    have t3 : (w2).cell? ⟨g, k * 5 + 3, none⟩ = some (Value.slice A3 ts[k].cols.length c3) := pw_cell_below HB3.out HC.out.1
    have t4 : (w2).cell? ⟨g, k * 5 + 4, none⟩ = some (Value.slice A4 ts[k].rules.length c4) := pw_cell_below HB3.out HC.out.2
    have HX := Aside0.mk (InDidX.err (X := fun q => q = p) (ss := ss) (ts := ts) (k := k) (Bs := Bs) (ds := ds) (g := g) (dt := dt) 2 HQ.out (by decide) HB3.out HBW.out)
    go_wp2
    go_ret
    exact HX.out
  rw [if_neg h8] at HAM
  have hd8 : decide ((8 : Int) ≤ (ts[k].rules.length : Int)) = false := decide_eq_false (by omega)
  clear h8
  cases hk4 : (r.kind == 4) with
  | false =>
    have HQ := Aside0.mk (show addRulM ts r ts[k] = (0, { ts[k] with rules := ins (ltOf cfR) r ts[k].rules }) by rw [HAM.out, hk4]; rfl)
    clear HAM HKE
    go_enter Tryz.func27, Tryz.ntmps27
    have r0 : ((W.alloc (.cells #[.slice Bs ss.length ds, .slice (some ⟨g, 0, none⟩) ts.length dt] 25))).cell? ⟨p, 0, none⟩ = some (Value.string r.name) := (blk_cell (blk_below HP.out HB1.out) 0).trans rfl
    have r1 : ((W.alloc (.cells #[.slice Bs ss.length ds, .slice (some ⟨g, 0, none⟩) ts.length dt] 25))).cell? ⟨p, 1, none⟩ = some (Value.int .i64 r.kind) := (blk_cell (blk_below HP.out HB1.out) 1).trans rfl
    have r2 : ((W.alloc (.cells #[.slice Bs ss.length ds, .slice (some ⟨g, 0, none⟩) ts.length dt] 25))).cell? ⟨p, 2, none⟩ = some (Value.slice A2 r.cols.length c2) := (blk_cell (blk_below HP.out HB1.out) 2).trans rfl
    have r3 : ((W.alloc (.cells #[.slice Bs ss.length ds, .slice (some ⟨g, 0, none⟩) ts.length dt] 25))).cell? ⟨p, 3, none⟩ = some (Value.int .i64 r.low) := (blk_cell (blk_below HP.out HB1.out) 3).trans rfl
    have r4 : ((W.alloc (.cells #[.slice Bs ss.length ds, .slice (some ⟨g, 0, none⟩) ts.length dt] 25))).cell? ⟨p, 4, none⟩ = some (Value.int .i64 r.high) := (blk_cell (blk_below HP.out HB1.out) 4).trans rfl
    have r5 : ((W.alloc (.cells #[.slice Bs ss.length ds, .slice (some ⟨g, 0, none⟩) ts.length dt] 25))).cell? ⟨p, 5, none⟩ = some (Value.string r.schema) := (blk_cell (blk_below HP.out HB1.out) 5).trans rfl
    have r6 : ((W.alloc (.cells #[.slice Bs ss.length ds, .slice (some ⟨g, 0, none⟩) ts.length dt] 25))).cell? ⟨p, 6, none⟩ = some (Value.string r.table) := (blk_cell (blk_below HP.out HB1.out) 6).trans rfl
    have r7 : ((W.alloc (.cells #[.slice Bs ss.length ds, .slice (some ⟨g, 0, none⟩) ts.length dt] 25))).cell? ⟨p, 7, none⟩ = some (Value.string r.key) := (blk_cell (blk_below HP.out HB1.out) 7).trans rfl
    have t3 : ((W.alloc (.cells #[.slice Bs ss.length ds, .slice (some ⟨g, 0, none⟩) ts.length dt] 25))).cell? ⟨g, k * 5 + 3, none⟩ = some (Value.slice A3 ts[k].cols.length c3) := pw_cell_below HB1.out HC.out.1
    have t4 : ((W.alloc (.cells #[.slice Bs ss.length ds, .slice (some ⟨g, 0, none⟩) ts.length dt] 25))).cell? ⟨g, k * 5 + 4, none⟩ = some (Value.slice A4 ts[k].rules.length c4) := pw_cell_below HB1.out HC.out.2
    go_wp2
    go_region_held3 (fun w' => w'.cell? ⟨g, k * 5 + 3, none⟩ = some (Value.slice A3 ts[k].cols.length c3) ∧ w'.cell? ⟨p, 0, none⟩ = some (Value.string r.name) ∧ w'.cell? ⟨p, 1, none⟩ = some (Value.int .i64 r.kind) ∧ w'.cell? ⟨p, 2, none⟩ = some (Value.slice A2 r.cols.length c2) ∧ w'.cell? ⟨p, 3, none⟩ = some (Value.int .i64 r.low) ∧ w'.cell? ⟨p, 4, none⟩ = some (Value.int .i64 r.high) ∧ w'.cell? ⟨p, 5, none⟩ = some (Value.string r.schema) ∧ w'.cell? ⟨p, 6, none⟩ = some (Value.string r.table) ∧ w'.cell? ⟨p, 7, none⟩ = some (Value.string r.key) ∧ Below (W.alloc (.cells #[.slice Bs ss.length ds, .slice (some ⟨g, 0, none⟩) ts.length dt] 25)).heap.size (W.alloc (.cells #[.slice Bs ss.length ds, .slice (some ⟨g, 0, none⟩) ts.length dt] 25)) w')
      (first | exact kq9 (by assumption) (by assumption) | exact ⟨t3, r0, r1, r2, r3, r4, r5, r6, r7, below_drew (Below.refl _ _)⟩)
      (first | (go_at_call 28; refine (HFI.out _ ?_).mono ?_; exact below_drew HB1.out; rintro e w1 ⟨rfl, hbx⟩))
    rename_i hH
    have hb2 := hH.2.2.2.2.2.2.2.2.2
    have HB2 := Aside0.mk (below_step HB1.out hb2)
    have HBo := Aside0.mk hb2
    clear hH hbx hb2 HFI r0 r1 r2 r3 r4 r5 r6 r7 t3 t4
    have r0 : (w1).cell? ⟨p, 0, none⟩ = some (Value.string r.name) := (blk_cell (blk_below HP.out HB2.out) 0).trans rfl
    have r1 : (w1).cell? ⟨p, 1, none⟩ = some (Value.int .i64 r.kind) := (blk_cell (blk_below HP.out HB2.out) 1).trans rfl
    have r2 : (w1).cell? ⟨p, 2, none⟩ = some (Value.slice A2 r.cols.length c2) := (blk_cell (blk_below HP.out HB2.out) 2).trans rfl
    have r3 : (w1).cell? ⟨p, 3, none⟩ = some (Value.int .i64 r.low) := (blk_cell (blk_below HP.out HB2.out) 3).trans rfl
    have r4 : (w1).cell? ⟨p, 4, none⟩ = some (Value.int .i64 r.high) := (blk_cell (blk_below HP.out HB2.out) 4).trans rfl
    have r5 : (w1).cell? ⟨p, 5, none⟩ = some (Value.string r.schema) := (blk_cell (blk_below HP.out HB2.out) 5).trans rfl
    have r6 : (w1).cell? ⟨p, 6, none⟩ = some (Value.string r.table) := (blk_cell (blk_below HP.out HB2.out) 6).trans rfl
    have r7 : (w1).cell? ⟨p, 7, none⟩ = some (Value.string r.key) := (blk_cell (blk_below HP.out HB2.out) 7).trans rfl
    have t3 : (w1).cell? ⟨g, k * 5 + 3, none⟩ = some (Value.slice A3 ts[k].cols.length c3) := pw_cell_below HB2.out HC.out.1
    have t4 : (w1).cell? ⟨g, k * 5 + 4, none⟩ = some (Value.slice A4 ts[k].rules.length c4) := pw_cell_below HB2.out HC.out.2
    go_wp2
    go_region_held3 (fun w' => w'.cell? ⟨g, k * 5 + 4, none⟩ = some (Value.slice A4 ts[k].rules.length c4) ∧ w'.cell? ⟨p, 0, none⟩ = some (Value.string r.name) ∧ Below w1.heap.size w1 w')
      (first | exact kq2 (by assumption) (by assumption) | exact ⟨t4, r0, below_drew (Below.refl _ _)⟩)
      (first | (go_at_call 29; refine (HNM.out _ ?_).mono ?_; exact below_drew HB2.out; rintro e w2 ⟨rfl, hbx⟩))
    rename_i hH
    have hb3 := hH.2.2
    have HB3 := Aside0.mk (below_step HB2.out hb3)
    have HBO := Aside0.mk (below_step HBo.out hb3)
    clear hH hbx hb3 HNM r0 r1 r2 r3 r4 r5 r6 r7 t3 t4
    have r0 : (w2).cell? ⟨p, 0, none⟩ = some (Value.string r.name) := (blk_cell (blk_below HP.out HB3.out) 0).trans rfl
    have r1 : (w2).cell? ⟨p, 1, none⟩ = some (Value.int .i64 r.kind) := (blk_cell (blk_below HP.out HB3.out) 1).trans rfl
    have r2 : (w2).cell? ⟨p, 2, none⟩ = some (Value.slice A2 r.cols.length c2) := (blk_cell (blk_below HP.out HB3.out) 2).trans rfl
    have r3 : (w2).cell? ⟨p, 3, none⟩ = some (Value.int .i64 r.low) := (blk_cell (blk_below HP.out HB3.out) 3).trans rfl
    have r4 : (w2).cell? ⟨p, 4, none⟩ = some (Value.int .i64 r.high) := (blk_cell (blk_below HP.out HB3.out) 4).trans rfl
    have r5 : (w2).cell? ⟨p, 5, none⟩ = some (Value.string r.schema) := (blk_cell (blk_below HP.out HB3.out) 5).trans rfl
    have r6 : (w2).cell? ⟨p, 6, none⟩ = some (Value.string r.table) := (blk_cell (blk_below HP.out HB3.out) 6).trans rfl
    have r7 : (w2).cell? ⟨p, 7, none⟩ = some (Value.string r.key) := (blk_cell (blk_below HP.out HB3.out) 7).trans rfl
    have t3 : (w2).cell? ⟨g, k * 5 + 3, none⟩ = some (Value.slice A3 ts[k].cols.length c3) := pw_cell_below HB3.out HC.out.1
    have t4 : (w2).cell? ⟨g, k * 5 + 4, none⟩ = some (Value.slice A4 ts[k].rules.length c4) := pw_cell_below HB3.out HC.out.2
    have HCL := Aside0.mk (cloneStr.raw (c0 := c2) r.cols w2 w2 (Below.refl _ _) (Kd.C_below H2.out HB3.out) HRL.out)
    have fp : ∀ (i : Nat), w2.frozen? ⟨p, i, none⟩ = false := fun i => blk_frozen (blk_below HP.out HB3.out) i
    go_wp2_with fail
    refine HCL.out.mono ?_
    rintro e w4 ⟨v2, rfl, hcl, hb4⟩
    have h2 := CloneRes_flat hcl (flatStr _ _ _)
    obtain ⟨B2, d2, rfl⟩ := Kd.R_slice h2
    have HB4 := Aside0.mk (below_step HB3.out hb4)
    have HS4 := Aside0.mk (Kd.S_old HS.out (HB3.out))
    clear hcl r0 r1 r2 r3 r4 r5 r6 r7 t3 t4 fp HCL
    have HPW := Aside0.mk (blk_below HP.out HB4.out)
    have r0 : (w4).cell? ⟨p, 0, none⟩ = some (Value.string r.name) := (blk_cell (blk_below HP.out HB4.out) 0).trans rfl
    have r1 : (w4).cell? ⟨p, 1, none⟩ = some (Value.int .i64 r.kind) := (blk_cell (blk_below HP.out HB4.out) 1).trans rfl
    have r2 : (w4).cell? ⟨p, 2, none⟩ = some (Value.slice A2 r.cols.length c2) := (blk_cell (blk_below HP.out HB4.out) 2).trans rfl
    have r3 : (w4).cell? ⟨p, 3, none⟩ = some (Value.int .i64 r.low) := (blk_cell (blk_below HP.out HB4.out) 3).trans rfl
    have r4 : (w4).cell? ⟨p, 4, none⟩ = some (Value.int .i64 r.high) := (blk_cell (blk_below HP.out HB4.out) 4).trans rfl
    have r5 : (w4).cell? ⟨p, 5, none⟩ = some (Value.string r.schema) := (blk_cell (blk_below HP.out HB4.out) 5).trans rfl
    have r6 : (w4).cell? ⟨p, 6, none⟩ = some (Value.string r.table) := (blk_cell (blk_below HP.out HB4.out) 6).trans rfl
    have r7 : (w4).cell? ⟨p, 7, none⟩ = some (Value.string r.key) := (blk_cell (blk_below HP.out HB4.out) 7).trans rfl
    have t3 : (w4).cell? ⟨g, k * 5 + 3, none⟩ = some (Value.slice A3 ts[k].cols.length c3) := pw_cell_below HB4.out HC.out.1
    have t4 : (w4).cell? ⟨g, k * 5 + 4, none⟩ = some (Value.slice A4 ts[k].rules.length c4) := pw_cell_below HB4.out HC.out.2
    have fp : w4.frozen? ⟨p, 2, none⟩ = false := blk_frozen HPW.out 2
    obtain ⟨Wx, hWx⟩ : ∃ Wx, Wx = w4.setCell ⟨p, 2, none⟩ (Value.slice B2 r.cols.length d2) := ⟨_, rfl⟩
    have HSX := Aside0.mk (show Kd.S kTab 50 Wx B (fun q => q < w2.heap.size) (.slice (some ⟨g, 0, none⟩) ts.length dt) ts by
      rw [hWx]
      exact Kd.S_mono (Kd.S_step (Kd.S_bound (Kd.S_below (Kd.S_mono (Kd.S_bound (Kd.S_below HS.out HB3.out)) (fun q hq => hq.2.2.1)) hb4)) (fun q hq _ => Below.heap_setCell _ _ _ q (fun e => by have e' : q = p := e; have := hq.2.1; have := HPB.out; omega))) (fun q hq => hq.1))
    obtain ⟨oki, A4', c4', e4, f4, h4, ho, hset⟩ := S_rulesN HSX.out k hk
    have t4x : Wx.cell? ⟨g, k * 5 + 4, none⟩ = some (Value.slice A4 ts[k].rules.length c4) := by rw [hWx]; exact (World.cell?_setCell_far _ _ _ _ (fun e => by have e' : p = g := e; have := HPB.out; have := HGB.out; omega)).trans t4
    have ee := e4.symm.trans t4x
    injection ee with ee
    injection ee with e1 e2 e5
    subst e1 e5
    have h2x : Kd.string.R 9 Wx w2.heap.size (fun _ => True) (.slice B2 r.cols.length d2) r.cols := by rw [hWx]; exact Kd.R_set h2 HPW.out (by decide) 2 _
    have HPX := Aside0.mk (show Wx.heap[p]? = some (.cells #[.string r.name, .int .i64 r.kind, .slice B2 r.cols.length d2, .int .i64 r.low, .int .i64 r.high, .string r.schema, .string r.table, .string r.key] 29 (0, 0)) by rw [hWx]; exact blk_set HPW.out 2 _)
    have HSZ := Aside0.mk (show Wx.heap.size = w4.heap.size by rw [hWx]; simp)
    have HY := Aside0.mk (And.intro h4 (And.intro hset (And.intro ho (And.intro h2x hb4.size))))
    clear e2 e4 ho hset h2x h4 hb4 h2 t3
    have t4a : ∀ o, (Wx.alloc o).cell? ⟨g, k * 5 + 4, none⟩ = some (Value.slice A4' ts[k].rules.length c4') := fun o => pw_cell_below (below_alloc (Below.refl _ _) o) t4x
    subst hWx
    clear t4x
    go_wp2
    go_region_law ((refine append_rul (W := (w4.setCell ⟨p, 2, none⟩ (Value.slice B2 r.cols.length d2)).drew) B w2.heap.size (by rfl) (.tmp 52) (.tmp 54) rfl (.slice A4' ts[k].rules.length c4') ts[k].rules r B2 d2 oki (by rfl) (by rw [show ((w4.setCell ⟨p, 2, none⟩ (Value.slice B2 r.cols.length d2)).drew).heap.size = w4.heap.size from HSZ.out]; rfl) (Kd.R_drew HY.out.1) (fun q hq => (HY.out.2.2.1 q hq).2.1) (Nat.le_trans HBW.out HB3.out.size) (by have h1 := HSZ.out; have h2 := HY.out.2.2.2.2; show _ ≤ (w4.setCell ⟨p, 2, none⟩ (Value.slice B2 r.cols.length d2)).heap.size; omega) (by omega) (Kd.R_drew HY.out.2.2.2.1) ?_; intro v1 w5 hR5 hb5 hg5; obtain ⟨g5, c5, e1⟩ := RT_addr hR5 (by simp); subst e1; have hg5x : (w4.setCell ⟨p, 2, none⟩ (Value.slice B2 r.cols.length d2)).grownBy w5 (Value.slice A4' ts[k].rules.length c4').ownBlock := ⟨hg5.os, hg5.tape, hg5.output, hg5.size, hg5.block⟩; obtain ⟨y1, y2, y3, y4⟩ := HY.out.2.1 w5 _ _ hg5x hR5; have HZ := Aside0.mk (And.intro hg5x (And.intro y3 (rul_in hk y1 y4))); rw [hl1] at HZ; clear hR5 hb5 hg5 hg5x y3 y4))
    all_goals
      obtain ⟨oki2, hR6, hset6⟩ := HZ.out.2.2
      have HX2 := Aside0.mk (sortRul.calls (ts[k].rules ++ [r]) (w5.setCell ⟨g, k * 5 + 4, none⟩ (.slice (some ⟨g5, 0, none⟩) (ts[k].rules.length + 1) c5)) (base := B) (ok := oki2) (g := g5) (c := c5) (by rw [hl1]; omega) (by rw [hl1]; exact hR6))
      have HS6 := Aside0.mk (And.intro hR6 hset6)
      rw [hl1] at HX2
      have z4 : (w5.setCell ⟨g, k * 5 + 4, none⟩ (.slice (some ⟨g5, 0, none⟩) (ts[k].rules.length + 1) c5)).cell? ⟨g, k * 5 + 4, none⟩ = some (.slice (some ⟨g5, 0, none⟩) (ts[k].rules.length + 1) c5) := World.cell?_setCell_same' _ _ _ (by rw [y1]; rfl)
      clear r0 r1 r2 r3 r4 r5 r6 r7 fp t4 t4a hR6 hset6
      go_wp2_with (first | (go_at_call 33; refine HX2.out.mono ?_; rintro e w7 ⟨rfl, d', hp', hs', hT7, hg7⟩))
      rw [sorted_ins (cf := cfR) (swo_key (fun x : Rul => x.name)) HPR.out HNE.out (by simp) hp' hs'] at hT7
      have HF := Aside0.mk (InDidX.rules (t := { ts[k] with rules := ins (ltOf cfR) r ts[k].rules }) HB4.out HBW.out HGB.out HPB.out rfl ⟨_, HPW.out⟩ HR.out HY.out.1 HZ.out.1 HZ.out.2.1 (Kd.R_mono HS6.out.1 (fun _ _ => trivial)) hg7 (HS6.out.2 w7 _ (by rw [len_ins]) hg7 hT7))
      clear hp' hs' hT7 hg7 HX2 HY HZ HS6 z4 y1 y2
      go_wp2
      go_ret
      rw [HQ.out]
      exact HF.out
  | true =>
    generalize hke : keyE ts ts[k].cols r = ke at *
    by_cases h0 : ke = 0
    case neg =>
      have hne : (ke != 0) = true := bne_iff_ne.2 h0
      have hne2 : (ke == 0) = false := beq_eq_false_iff_ne.2 h0
      have HQ := Aside0.mk (show (addRulM ts r ts[k]).1 = ke by rw [HAM.out, hk4, hne]; rfl)
      clear HAM hke
      go_enter Tryz.func27, Tryz.ntmps27
      have r0 : ((W.alloc (.cells #[.slice Bs ss.length ds, .slice (some ⟨g, 0, none⟩) ts.length dt] 25))).cell? ⟨p, 0, none⟩ = some (Value.string r.name) := (blk_cell (blk_below HP.out HB1.out) 0).trans rfl
      have r1 : ((W.alloc (.cells #[.slice Bs ss.length ds, .slice (some ⟨g, 0, none⟩) ts.length dt] 25))).cell? ⟨p, 1, none⟩ = some (Value.int .i64 r.kind) := (blk_cell (blk_below HP.out HB1.out) 1).trans rfl
      have r2 : ((W.alloc (.cells #[.slice Bs ss.length ds, .slice (some ⟨g, 0, none⟩) ts.length dt] 25))).cell? ⟨p, 2, none⟩ = some (Value.slice A2 r.cols.length c2) := (blk_cell (blk_below HP.out HB1.out) 2).trans rfl
      have r3 : ((W.alloc (.cells #[.slice Bs ss.length ds, .slice (some ⟨g, 0, none⟩) ts.length dt] 25))).cell? ⟨p, 3, none⟩ = some (Value.int .i64 r.low) := (blk_cell (blk_below HP.out HB1.out) 3).trans rfl
      have r4 : ((W.alloc (.cells #[.slice Bs ss.length ds, .slice (some ⟨g, 0, none⟩) ts.length dt] 25))).cell? ⟨p, 4, none⟩ = some (Value.int .i64 r.high) := (blk_cell (blk_below HP.out HB1.out) 4).trans rfl
      have r5 : ((W.alloc (.cells #[.slice Bs ss.length ds, .slice (some ⟨g, 0, none⟩) ts.length dt] 25))).cell? ⟨p, 5, none⟩ = some (Value.string r.schema) := (blk_cell (blk_below HP.out HB1.out) 5).trans rfl
      have r6 : ((W.alloc (.cells #[.slice Bs ss.length ds, .slice (some ⟨g, 0, none⟩) ts.length dt] 25))).cell? ⟨p, 6, none⟩ = some (Value.string r.table) := (blk_cell (blk_below HP.out HB1.out) 6).trans rfl
      have r7 : ((W.alloc (.cells #[.slice Bs ss.length ds, .slice (some ⟨g, 0, none⟩) ts.length dt] 25))).cell? ⟨p, 7, none⟩ = some (Value.string r.key) := (blk_cell (blk_below HP.out HB1.out) 7).trans rfl
      have t3 : ((W.alloc (.cells #[.slice Bs ss.length ds, .slice (some ⟨g, 0, none⟩) ts.length dt] 25))).cell? ⟨g, k * 5 + 3, none⟩ = some (Value.slice A3 ts[k].cols.length c3) := pw_cell_below HB1.out HC.out.1
      have t4 : ((W.alloc (.cells #[.slice Bs ss.length ds, .slice (some ⟨g, 0, none⟩) ts.length dt] 25))).cell? ⟨g, k * 5 + 4, none⟩ = some (Value.slice A4 ts[k].rules.length c4) := pw_cell_below HB1.out HC.out.2
      go_wp2
      go_region_held3 (fun w' => w'.cell? ⟨g, k * 5 + 3, none⟩ = some (Value.slice A3 ts[k].cols.length c3) ∧ w'.cell? ⟨p, 0, none⟩ = some (Value.string r.name) ∧ w'.cell? ⟨p, 1, none⟩ = some (Value.int .i64 r.kind) ∧ w'.cell? ⟨p, 2, none⟩ = some (Value.slice A2 r.cols.length c2) ∧ w'.cell? ⟨p, 3, none⟩ = some (Value.int .i64 r.low) ∧ w'.cell? ⟨p, 4, none⟩ = some (Value.int .i64 r.high) ∧ w'.cell? ⟨p, 5, none⟩ = some (Value.string r.schema) ∧ w'.cell? ⟨p, 6, none⟩ = some (Value.string r.table) ∧ w'.cell? ⟨p, 7, none⟩ = some (Value.string r.key) ∧ Below (W.alloc (.cells #[.slice Bs ss.length ds, .slice (some ⟨g, 0, none⟩) ts.length dt] 25)).heap.size (W.alloc (.cells #[.slice Bs ss.length ds, .slice (some ⟨g, 0, none⟩) ts.length dt] 25)) w')
        (first | exact kq9 (by assumption) (by assumption) | exact ⟨t3, r0, r1, r2, r3, r4, r5, r6, r7, below_drew (Below.refl _ _)⟩)
        (first | (go_at_call 28; refine (HFI.out _ ?_).mono ?_; exact below_drew HB1.out; rintro e w1 ⟨rfl, hbx⟩))
      rename_i hH
      have hb2 := hH.2.2.2.2.2.2.2.2.2
      have HB2 := Aside0.mk (below_step HB1.out hb2)
      have HBo := Aside0.mk hb2
      clear hH hbx hb2 HFI r0 r1 r2 r3 r4 r5 r6 r7 t3 t4
      have r0 : (w1).cell? ⟨p, 0, none⟩ = some (Value.string r.name) := (blk_cell (blk_below HP.out HB2.out) 0).trans rfl
      have r1 : (w1).cell? ⟨p, 1, none⟩ = some (Value.int .i64 r.kind) := (blk_cell (blk_below HP.out HB2.out) 1).trans rfl
      have r2 : (w1).cell? ⟨p, 2, none⟩ = some (Value.slice A2 r.cols.length c2) := (blk_cell (blk_below HP.out HB2.out) 2).trans rfl
      have r3 : (w1).cell? ⟨p, 3, none⟩ = some (Value.int .i64 r.low) := (blk_cell (blk_below HP.out HB2.out) 3).trans rfl
      have r4 : (w1).cell? ⟨p, 4, none⟩ = some (Value.int .i64 r.high) := (blk_cell (blk_below HP.out HB2.out) 4).trans rfl
      have r5 : (w1).cell? ⟨p, 5, none⟩ = some (Value.string r.schema) := (blk_cell (blk_below HP.out HB2.out) 5).trans rfl
      have r6 : (w1).cell? ⟨p, 6, none⟩ = some (Value.string r.table) := (blk_cell (blk_below HP.out HB2.out) 6).trans rfl
      have r7 : (w1).cell? ⟨p, 7, none⟩ = some (Value.string r.key) := (blk_cell (blk_below HP.out HB2.out) 7).trans rfl
      have t3 : (w1).cell? ⟨g, k * 5 + 3, none⟩ = some (Value.slice A3 ts[k].cols.length c3) := pw_cell_below HB2.out HC.out.1
      have t4 : (w1).cell? ⟨g, k * 5 + 4, none⟩ = some (Value.slice A4 ts[k].rules.length c4) := pw_cell_below HB2.out HC.out.2
      go_wp2
      go_region_held3 (fun w' => w'.cell? ⟨g, k * 5 + 4, none⟩ = some (Value.slice A4 ts[k].rules.length c4) ∧ w'.cell? ⟨p, 0, none⟩ = some (Value.string r.name) ∧ Below w1.heap.size w1 w')
        (first | exact kq2 (by assumption) (by assumption) | exact ⟨t4, r0, below_drew (Below.refl _ _)⟩)
        (first | (go_at_call 29; refine (HNM.out _ ?_).mono ?_; exact below_drew HB2.out; rintro e w2 ⟨rfl, hbx⟩))
      rename_i hH
      have hb3 := hH.2.2
      have HB3 := Aside0.mk (below_step HB2.out hb3)
      have HBO := Aside0.mk (below_step HBo.out hb3)
      clear hH hbx hb3 HNM r0 r1 r2 r3 r4 r5 r6 r7 t3 t4
      have r0 : (w2).cell? ⟨p, 0, none⟩ = some (Value.string r.name) := (blk_cell (blk_below HP.out HB3.out) 0).trans rfl
      have r1 : (w2).cell? ⟨p, 1, none⟩ = some (Value.int .i64 r.kind) := (blk_cell (blk_below HP.out HB3.out) 1).trans rfl
      have r2 : (w2).cell? ⟨p, 2, none⟩ = some (Value.slice A2 r.cols.length c2) := (blk_cell (blk_below HP.out HB3.out) 2).trans rfl
      have r3 : (w2).cell? ⟨p, 3, none⟩ = some (Value.int .i64 r.low) := (blk_cell (blk_below HP.out HB3.out) 3).trans rfl
      have r4 : (w2).cell? ⟨p, 4, none⟩ = some (Value.int .i64 r.high) := (blk_cell (blk_below HP.out HB3.out) 4).trans rfl
      have r5 : (w2).cell? ⟨p, 5, none⟩ = some (Value.string r.schema) := (blk_cell (blk_below HP.out HB3.out) 5).trans rfl
      have r6 : (w2).cell? ⟨p, 6, none⟩ = some (Value.string r.table) := (blk_cell (blk_below HP.out HB3.out) 6).trans rfl
      have r7 : (w2).cell? ⟨p, 7, none⟩ = some (Value.string r.key) := (blk_cell (blk_below HP.out HB3.out) 7).trans rfl
      have t3 : (w2).cell? ⟨g, k * 5 + 3, none⟩ = some (Value.slice A3 ts[k].cols.length c3) := pw_cell_below HB3.out HC.out.1
      have t4 : (w2).cell? ⟨g, k * 5 + 4, none⟩ = some (Value.slice A4 ts[k].rules.length c4) := pw_cell_below HB3.out HC.out.2
      have o0 : w2.cell? ⟨W.heap.size, 0, none⟩ = some (Value.slice Bs ss.length ds) := (blk_cell (blk_below HO1.out HBO.out) 0).trans rfl
      have o1 : w2.cell? ⟨W.heap.size, 1, none⟩ = some (Value.slice (some ⟨g, 0, none⟩) ts.length dt) := (blk_cell (blk_below HO1.out HBO.out) 1).trans rfl
      go_wp2
      go_region_held3 (fun w' => w'.cell? ⟨W.heap.size, 0, none⟩ = some (Value.slice Bs ss.length ds) ∧ w'.cell? ⟨W.heap.size, 1, none⟩ = some (Value.slice (some ⟨g, 0, none⟩) ts.length dt) ∧ w'.cell? ⟨g, k * 5 + 3, none⟩ = some (Value.slice A3 ts[k].cols.length c3) ∧ w'.cell? ⟨p, 0, none⟩ = some (Value.string r.name) ∧ w'.cell? ⟨p, 1, none⟩ = some (Value.int .i64 r.kind) ∧ w'.cell? ⟨p, 2, none⟩ = some (Value.slice A2 r.cols.length c2) ∧ w'.cell? ⟨p, 3, none⟩ = some (Value.int .i64 r.low) ∧ w'.cell? ⟨p, 4, none⟩ = some (Value.int .i64 r.high) ∧ w'.cell? ⟨p, 5, none⟩ = some (Value.string r.schema) ∧ w'.cell? ⟨p, 6, none⟩ = some (Value.string r.table) ∧ w'.cell? ⟨p, 7, none⟩ = some (Value.string r.key) ∧ Below w2.heap.size w2 w')
        (first | exact kq11 (by assumption) (by assumption) | exact ⟨o0, o1, t3, r0, r1, r2, r3, r4, r5, r6, r7, below_drew (Below.refl _ _)⟩)
        (first | (go_at_call 31; refine (HKE.out _ ?_).mono ?_; exact below_drew HB3.out; rintro e w3 ⟨rfl, hbx⟩))
      rename_i hH
      have hb5 := hH.2.2.2.2.2.2.2.2.2.2.2
      have HB5 := Aside0.mk (below_step HB3.out hb5)
      clear hH hbx hb5 HKE o0 o1 r0 r1 r2 r3 r4 r5 r6 r7 t3 t4
      have r0 : (w3).cell? ⟨p, 0, none⟩ = some (Value.string r.name) := (blk_cell (blk_below HP.out HB5.out) 0).trans rfl
      have r1 : (w3).cell? ⟨p, 1, none⟩ = some (Value.int .i64 r.kind) := (blk_cell (blk_below HP.out HB5.out) 1).trans rfl
      have r2 : (w3).cell? ⟨p, 2, none⟩ = some (Value.slice A2 r.cols.length c2) := (blk_cell (blk_below HP.out HB5.out) 2).trans rfl
      have r3 : (w3).cell? ⟨p, 3, none⟩ = some (Value.int .i64 r.low) := (blk_cell (blk_below HP.out HB5.out) 3).trans rfl
      have r4 : (w3).cell? ⟨p, 4, none⟩ = some (Value.int .i64 r.high) := (blk_cell (blk_below HP.out HB5.out) 4).trans rfl
      have r5 : (w3).cell? ⟨p, 5, none⟩ = some (Value.string r.schema) := (blk_cell (blk_below HP.out HB5.out) 5).trans rfl
      have r6 : (w3).cell? ⟨p, 6, none⟩ = some (Value.string r.table) := (blk_cell (blk_below HP.out HB5.out) 6).trans rfl
      have r7 : (w3).cell? ⟨p, 7, none⟩ = some (Value.string r.key) := (blk_cell (blk_below HP.out HB5.out) 7).trans rfl
      have t3 : (w3).cell? ⟨g, k * 5 + 3, none⟩ = some (Value.slice A3 ts[k].cols.length c3) := pw_cell_below HB5.out HC.out.1
      have t4 : (w3).cell? ⟨g, k * 5 + 4, none⟩ = some (Value.slice A4 ts[k].rules.length c4) := pw_cell_below HB5.out HC.out.2
      have HX := Aside0.mk (InDidX.err (X := fun q => q = p) (ss := ss) (ts := ts) (k := k) (Bs := Bs) (ds := ds) (g := g) (dt := dt) ke HQ.out (by assumption) HB5.out HBW.out)
      go_wp2
      go_ret
      exact HX.out
    case pos =>
      have HQ := Aside0.mk (show addRulM ts r ts[k] = (0, { ts[k] with rules := ins (ltOf cfR) r ts[k].rules }) by rw [HAM.out, hk4, h0]; rfl)
      subst h0
      clear HAM hke
      go_enter Tryz.func27, Tryz.ntmps27
      have r0 : ((W.alloc (.cells #[.slice Bs ss.length ds, .slice (some ⟨g, 0, none⟩) ts.length dt] 25))).cell? ⟨p, 0, none⟩ = some (Value.string r.name) := (blk_cell (blk_below HP.out HB1.out) 0).trans rfl
      have r1 : ((W.alloc (.cells #[.slice Bs ss.length ds, .slice (some ⟨g, 0, none⟩) ts.length dt] 25))).cell? ⟨p, 1, none⟩ = some (Value.int .i64 r.kind) := (blk_cell (blk_below HP.out HB1.out) 1).trans rfl
      have r2 : ((W.alloc (.cells #[.slice Bs ss.length ds, .slice (some ⟨g, 0, none⟩) ts.length dt] 25))).cell? ⟨p, 2, none⟩ = some (Value.slice A2 r.cols.length c2) := (blk_cell (blk_below HP.out HB1.out) 2).trans rfl
      have r3 : ((W.alloc (.cells #[.slice Bs ss.length ds, .slice (some ⟨g, 0, none⟩) ts.length dt] 25))).cell? ⟨p, 3, none⟩ = some (Value.int .i64 r.low) := (blk_cell (blk_below HP.out HB1.out) 3).trans rfl
      have r4 : ((W.alloc (.cells #[.slice Bs ss.length ds, .slice (some ⟨g, 0, none⟩) ts.length dt] 25))).cell? ⟨p, 4, none⟩ = some (Value.int .i64 r.high) := (blk_cell (blk_below HP.out HB1.out) 4).trans rfl
      have r5 : ((W.alloc (.cells #[.slice Bs ss.length ds, .slice (some ⟨g, 0, none⟩) ts.length dt] 25))).cell? ⟨p, 5, none⟩ = some (Value.string r.schema) := (blk_cell (blk_below HP.out HB1.out) 5).trans rfl
      have r6 : ((W.alloc (.cells #[.slice Bs ss.length ds, .slice (some ⟨g, 0, none⟩) ts.length dt] 25))).cell? ⟨p, 6, none⟩ = some (Value.string r.table) := (blk_cell (blk_below HP.out HB1.out) 6).trans rfl
      have r7 : ((W.alloc (.cells #[.slice Bs ss.length ds, .slice (some ⟨g, 0, none⟩) ts.length dt] 25))).cell? ⟨p, 7, none⟩ = some (Value.string r.key) := (blk_cell (blk_below HP.out HB1.out) 7).trans rfl
      have t3 : ((W.alloc (.cells #[.slice Bs ss.length ds, .slice (some ⟨g, 0, none⟩) ts.length dt] 25))).cell? ⟨g, k * 5 + 3, none⟩ = some (Value.slice A3 ts[k].cols.length c3) := pw_cell_below HB1.out HC.out.1
      have t4 : ((W.alloc (.cells #[.slice Bs ss.length ds, .slice (some ⟨g, 0, none⟩) ts.length dt] 25))).cell? ⟨g, k * 5 + 4, none⟩ = some (Value.slice A4 ts[k].rules.length c4) := pw_cell_below HB1.out HC.out.2
      go_wp2
      go_region_held3 (fun w' => w'.cell? ⟨g, k * 5 + 3, none⟩ = some (Value.slice A3 ts[k].cols.length c3) ∧ w'.cell? ⟨p, 0, none⟩ = some (Value.string r.name) ∧ w'.cell? ⟨p, 1, none⟩ = some (Value.int .i64 r.kind) ∧ w'.cell? ⟨p, 2, none⟩ = some (Value.slice A2 r.cols.length c2) ∧ w'.cell? ⟨p, 3, none⟩ = some (Value.int .i64 r.low) ∧ w'.cell? ⟨p, 4, none⟩ = some (Value.int .i64 r.high) ∧ w'.cell? ⟨p, 5, none⟩ = some (Value.string r.schema) ∧ w'.cell? ⟨p, 6, none⟩ = some (Value.string r.table) ∧ w'.cell? ⟨p, 7, none⟩ = some (Value.string r.key) ∧ Below (W.alloc (.cells #[.slice Bs ss.length ds, .slice (some ⟨g, 0, none⟩) ts.length dt] 25)).heap.size (W.alloc (.cells #[.slice Bs ss.length ds, .slice (some ⟨g, 0, none⟩) ts.length dt] 25)) w')
        (first | exact kq9 (by assumption) (by assumption) | exact ⟨t3, r0, r1, r2, r3, r4, r5, r6, r7, below_drew (Below.refl _ _)⟩)
        (first | (go_at_call 28; refine (HFI.out _ ?_).mono ?_; exact below_drew HB1.out; rintro e w1 ⟨rfl, hbx⟩))
      rename_i hH
      have hb2 := hH.2.2.2.2.2.2.2.2.2
      have HB2 := Aside0.mk (below_step HB1.out hb2)
      have HBo := Aside0.mk hb2
      clear hH hbx hb2 HFI r0 r1 r2 r3 r4 r5 r6 r7 t3 t4
      have r0 : (w1).cell? ⟨p, 0, none⟩ = some (Value.string r.name) := (blk_cell (blk_below HP.out HB2.out) 0).trans rfl
      have r1 : (w1).cell? ⟨p, 1, none⟩ = some (Value.int .i64 r.kind) := (blk_cell (blk_below HP.out HB2.out) 1).trans rfl
      have r2 : (w1).cell? ⟨p, 2, none⟩ = some (Value.slice A2 r.cols.length c2) := (blk_cell (blk_below HP.out HB2.out) 2).trans rfl
      have r3 : (w1).cell? ⟨p, 3, none⟩ = some (Value.int .i64 r.low) := (blk_cell (blk_below HP.out HB2.out) 3).trans rfl
      have r4 : (w1).cell? ⟨p, 4, none⟩ = some (Value.int .i64 r.high) := (blk_cell (blk_below HP.out HB2.out) 4).trans rfl
      have r5 : (w1).cell? ⟨p, 5, none⟩ = some (Value.string r.schema) := (blk_cell (blk_below HP.out HB2.out) 5).trans rfl
      have r6 : (w1).cell? ⟨p, 6, none⟩ = some (Value.string r.table) := (blk_cell (blk_below HP.out HB2.out) 6).trans rfl
      have r7 : (w1).cell? ⟨p, 7, none⟩ = some (Value.string r.key) := (blk_cell (blk_below HP.out HB2.out) 7).trans rfl
      have t3 : (w1).cell? ⟨g, k * 5 + 3, none⟩ = some (Value.slice A3 ts[k].cols.length c3) := pw_cell_below HB2.out HC.out.1
      have t4 : (w1).cell? ⟨g, k * 5 + 4, none⟩ = some (Value.slice A4 ts[k].rules.length c4) := pw_cell_below HB2.out HC.out.2
      go_wp2
      go_region_held3 (fun w' => w'.cell? ⟨g, k * 5 + 4, none⟩ = some (Value.slice A4 ts[k].rules.length c4) ∧ w'.cell? ⟨p, 0, none⟩ = some (Value.string r.name) ∧ Below w1.heap.size w1 w')
        (first | exact kq2 (by assumption) (by assumption) | exact ⟨t4, r0, below_drew (Below.refl _ _)⟩)
        (first | (go_at_call 29; refine (HNM.out _ ?_).mono ?_; exact below_drew HB2.out; rintro e w2 ⟨rfl, hbx⟩))
      rename_i hH
      have hb3 := hH.2.2
      have HB3 := Aside0.mk (below_step HB2.out hb3)
      have HBO := Aside0.mk (below_step HBo.out hb3)
      clear hH hbx hb3 HNM r0 r1 r2 r3 r4 r5 r6 r7 t3 t4
      have r0 : (w2).cell? ⟨p, 0, none⟩ = some (Value.string r.name) := (blk_cell (blk_below HP.out HB3.out) 0).trans rfl
      have r1 : (w2).cell? ⟨p, 1, none⟩ = some (Value.int .i64 r.kind) := (blk_cell (blk_below HP.out HB3.out) 1).trans rfl
      have r2 : (w2).cell? ⟨p, 2, none⟩ = some (Value.slice A2 r.cols.length c2) := (blk_cell (blk_below HP.out HB3.out) 2).trans rfl
      have r3 : (w2).cell? ⟨p, 3, none⟩ = some (Value.int .i64 r.low) := (blk_cell (blk_below HP.out HB3.out) 3).trans rfl
      have r4 : (w2).cell? ⟨p, 4, none⟩ = some (Value.int .i64 r.high) := (blk_cell (blk_below HP.out HB3.out) 4).trans rfl
      have r5 : (w2).cell? ⟨p, 5, none⟩ = some (Value.string r.schema) := (blk_cell (blk_below HP.out HB3.out) 5).trans rfl
      have r6 : (w2).cell? ⟨p, 6, none⟩ = some (Value.string r.table) := (blk_cell (blk_below HP.out HB3.out) 6).trans rfl
      have r7 : (w2).cell? ⟨p, 7, none⟩ = some (Value.string r.key) := (blk_cell (blk_below HP.out HB3.out) 7).trans rfl
      have t3 : (w2).cell? ⟨g, k * 5 + 3, none⟩ = some (Value.slice A3 ts[k].cols.length c3) := pw_cell_below HB3.out HC.out.1
      have t4 : (w2).cell? ⟨g, k * 5 + 4, none⟩ = some (Value.slice A4 ts[k].rules.length c4) := pw_cell_below HB3.out HC.out.2
      have o0 : w2.cell? ⟨W.heap.size, 0, none⟩ = some (Value.slice Bs ss.length ds) := (blk_cell (blk_below HO1.out HBO.out) 0).trans rfl
      have o1 : w2.cell? ⟨W.heap.size, 1, none⟩ = some (Value.slice (some ⟨g, 0, none⟩) ts.length dt) := (blk_cell (blk_below HO1.out HBO.out) 1).trans rfl
      go_wp2
      go_region_held3 (fun w' => w'.cell? ⟨W.heap.size, 0, none⟩ = some (Value.slice Bs ss.length ds) ∧ w'.cell? ⟨W.heap.size, 1, none⟩ = some (Value.slice (some ⟨g, 0, none⟩) ts.length dt) ∧ w'.cell? ⟨g, k * 5 + 3, none⟩ = some (Value.slice A3 ts[k].cols.length c3) ∧ w'.cell? ⟨p, 0, none⟩ = some (Value.string r.name) ∧ w'.cell? ⟨p, 1, none⟩ = some (Value.int .i64 r.kind) ∧ w'.cell? ⟨p, 2, none⟩ = some (Value.slice A2 r.cols.length c2) ∧ w'.cell? ⟨p, 3, none⟩ = some (Value.int .i64 r.low) ∧ w'.cell? ⟨p, 4, none⟩ = some (Value.int .i64 r.high) ∧ w'.cell? ⟨p, 5, none⟩ = some (Value.string r.schema) ∧ w'.cell? ⟨p, 6, none⟩ = some (Value.string r.table) ∧ w'.cell? ⟨p, 7, none⟩ = some (Value.string r.key) ∧ Below w2.heap.size w2 w')
        (first | exact kq11 (by assumption) (by assumption) | exact ⟨o0, o1, t3, r0, r1, r2, r3, r4, r5, r6, r7, below_drew (Below.refl _ _)⟩)
        (first | (go_at_call 31; refine (HKE.out _ ?_).mono ?_; exact below_drew HB3.out; rintro e w3 ⟨rfl, hbx⟩))
      rename_i hH
      have hb5 := hH.2.2.2.2.2.2.2.2.2.2.2
      have HB5 := Aside0.mk (below_step HB3.out hb5)
      clear hH hbx hb5 HKE o0 o1 r0 r1 r2 r3 r4 r5 r6 r7 t3 t4
      have r0 : (w3).cell? ⟨p, 0, none⟩ = some (Value.string r.name) := (blk_cell (blk_below HP.out HB5.out) 0).trans rfl
      have r1 : (w3).cell? ⟨p, 1, none⟩ = some (Value.int .i64 r.kind) := (blk_cell (blk_below HP.out HB5.out) 1).trans rfl
      have r2 : (w3).cell? ⟨p, 2, none⟩ = some (Value.slice A2 r.cols.length c2) := (blk_cell (blk_below HP.out HB5.out) 2).trans rfl
      have r3 : (w3).cell? ⟨p, 3, none⟩ = some (Value.int .i64 r.low) := (blk_cell (blk_below HP.out HB5.out) 3).trans rfl
      have r4 : (w3).cell? ⟨p, 4, none⟩ = some (Value.int .i64 r.high) := (blk_cell (blk_below HP.out HB5.out) 4).trans rfl
      have r5 : (w3).cell? ⟨p, 5, none⟩ = some (Value.string r.schema) := (blk_cell (blk_below HP.out HB5.out) 5).trans rfl
      have r6 : (w3).cell? ⟨p, 6, none⟩ = some (Value.string r.table) := (blk_cell (blk_below HP.out HB5.out) 6).trans rfl
      have r7 : (w3).cell? ⟨p, 7, none⟩ = some (Value.string r.key) := (blk_cell (blk_below HP.out HB5.out) 7).trans rfl
      have t3 : (w3).cell? ⟨g, k * 5 + 3, none⟩ = some (Value.slice A3 ts[k].cols.length c3) := pw_cell_below HB5.out HC.out.1
      have t4 : (w3).cell? ⟨g, k * 5 + 4, none⟩ = some (Value.slice A4 ts[k].rules.length c4) := pw_cell_below HB5.out HC.out.2
      have HCL := Aside0.mk (cloneStr.raw (c0 := c2) r.cols w3 w3 (Below.refl _ _) (Kd.C_below H2.out HB5.out) HRL.out)
      have fp : ∀ (i : Nat), w3.frozen? ⟨p, i, none⟩ = false := fun i => blk_frozen (blk_below HP.out HB5.out) i
      go_wp2_with fail
      refine HCL.out.mono ?_
      rintro e w4 ⟨v2, rfl, hcl, hb4⟩
      have h2 := CloneRes_flat hcl (flatStr _ _ _)
      obtain ⟨B2, d2, rfl⟩ := Kd.R_slice h2
      have HB4 := Aside0.mk (below_step HB5.out hb4)
      have HS4 := Aside0.mk (Kd.S_old HS.out (HB5.out))
      clear hcl r0 r1 r2 r3 r4 r5 r6 r7 t3 t4 fp HCL
      have HPW := Aside0.mk (blk_below HP.out HB4.out)
      have r0 : (w4).cell? ⟨p, 0, none⟩ = some (Value.string r.name) := (blk_cell (blk_below HP.out HB4.out) 0).trans rfl
      have r1 : (w4).cell? ⟨p, 1, none⟩ = some (Value.int .i64 r.kind) := (blk_cell (blk_below HP.out HB4.out) 1).trans rfl
      have r2 : (w4).cell? ⟨p, 2, none⟩ = some (Value.slice A2 r.cols.length c2) := (blk_cell (blk_below HP.out HB4.out) 2).trans rfl
      have r3 : (w4).cell? ⟨p, 3, none⟩ = some (Value.int .i64 r.low) := (blk_cell (blk_below HP.out HB4.out) 3).trans rfl
      have r4 : (w4).cell? ⟨p, 4, none⟩ = some (Value.int .i64 r.high) := (blk_cell (blk_below HP.out HB4.out) 4).trans rfl
      have r5 : (w4).cell? ⟨p, 5, none⟩ = some (Value.string r.schema) := (blk_cell (blk_below HP.out HB4.out) 5).trans rfl
      have r6 : (w4).cell? ⟨p, 6, none⟩ = some (Value.string r.table) := (blk_cell (blk_below HP.out HB4.out) 6).trans rfl
      have r7 : (w4).cell? ⟨p, 7, none⟩ = some (Value.string r.key) := (blk_cell (blk_below HP.out HB4.out) 7).trans rfl
      have t3 : (w4).cell? ⟨g, k * 5 + 3, none⟩ = some (Value.slice A3 ts[k].cols.length c3) := pw_cell_below HB4.out HC.out.1
      have t4 : (w4).cell? ⟨g, k * 5 + 4, none⟩ = some (Value.slice A4 ts[k].rules.length c4) := pw_cell_below HB4.out HC.out.2
      have fp : w4.frozen? ⟨p, 2, none⟩ = false := blk_frozen HPW.out 2
      obtain ⟨Wx, hWx⟩ : ∃ Wx, Wx = w4.setCell ⟨p, 2, none⟩ (Value.slice B2 r.cols.length d2) := ⟨_, rfl⟩
      have HSX := Aside0.mk (show Kd.S kTab 50 Wx B (fun q => q < w3.heap.size) (.slice (some ⟨g, 0, none⟩) ts.length dt) ts by
        rw [hWx]
        exact Kd.S_mono (Kd.S_step (Kd.S_bound (Kd.S_below (Kd.S_mono (Kd.S_bound (Kd.S_below HS.out HB5.out)) (fun q hq => hq.2.2.1)) hb4)) (fun q hq _ => Below.heap_setCell _ _ _ q (fun e => by have e' : q = p := e; have := hq.2.1; have := HPB.out; omega))) (fun q hq => hq.1))
      obtain ⟨oki, A4', c4', e4, f4, h4, ho, hset⟩ := S_rulesN HSX.out k hk
      have t4x : Wx.cell? ⟨g, k * 5 + 4, none⟩ = some (Value.slice A4 ts[k].rules.length c4) := by rw [hWx]; exact (World.cell?_setCell_far _ _ _ _ (fun e => by have e' : p = g := e; have := HPB.out; have := HGB.out; omega)).trans t4
      have ee := e4.symm.trans t4x
      injection ee with ee
      injection ee with e1 e2 e5
      subst e1 e5
      have h2x : Kd.string.R 9 Wx w3.heap.size (fun _ => True) (.slice B2 r.cols.length d2) r.cols := by rw [hWx]; exact Kd.R_set h2 HPW.out (by decide) 2 _
      have HPX := Aside0.mk (show Wx.heap[p]? = some (.cells #[.string r.name, .int .i64 r.kind, .slice B2 r.cols.length d2, .int .i64 r.low, .int .i64 r.high, .string r.schema, .string r.table, .string r.key] 29 (0, 0)) by rw [hWx]; exact blk_set HPW.out 2 _)
      have HSZ := Aside0.mk (show Wx.heap.size = w4.heap.size by rw [hWx]; simp)
      have HY := Aside0.mk (And.intro h4 (And.intro hset (And.intro ho (And.intro h2x hb4.size))))
      clear e2 e4 ho hset h2x h4 hb4 h2 t3
      have t4a : ∀ o, (Wx.alloc o).cell? ⟨g, k * 5 + 4, none⟩ = some (Value.slice A4' ts[k].rules.length c4') := fun o => pw_cell_below (below_alloc (Below.refl _ _) o) t4x
      subst hWx
      clear t4x
      go_wp2
      go_region_law ((refine append_rul (W := (w4.setCell ⟨p, 2, none⟩ (Value.slice B2 r.cols.length d2)).drew) B w3.heap.size (by rfl) (.tmp 52) (.tmp 54) rfl (.slice A4' ts[k].rules.length c4') ts[k].rules r B2 d2 oki (by rfl) (by rw [show ((w4.setCell ⟨p, 2, none⟩ (Value.slice B2 r.cols.length d2)).drew).heap.size = w4.heap.size from HSZ.out]; rfl) (Kd.R_drew HY.out.1) (fun q hq => (HY.out.2.2.1 q hq).2.1) (Nat.le_trans HBW.out HB5.out.size) (by have h1 := HSZ.out; have h2 := HY.out.2.2.2.2; show _ ≤ (w4.setCell ⟨p, 2, none⟩ (Value.slice B2 r.cols.length d2)).heap.size; omega) (by omega) (Kd.R_drew HY.out.2.2.2.1) ?_; intro v1 w5 hR5 hb5 hg5; obtain ⟨g5, c5, e1⟩ := RT_addr hR5 (by simp); subst e1; have hg5x : (w4.setCell ⟨p, 2, none⟩ (Value.slice B2 r.cols.length d2)).grownBy w5 (Value.slice A4' ts[k].rules.length c4').ownBlock := ⟨hg5.os, hg5.tape, hg5.output, hg5.size, hg5.block⟩; obtain ⟨y1, y2, y3, y4⟩ := HY.out.2.1 w5 _ _ hg5x hR5; have HZ := Aside0.mk (And.intro hg5x (And.intro y3 (rul_in hk y1 y4))); rw [hl1] at HZ; clear hR5 hb5 hg5 hg5x y3 y4))
      all_goals
        obtain ⟨oki2, hR6, hset6⟩ := HZ.out.2.2
        have HX2 := Aside0.mk (sortRul.calls (ts[k].rules ++ [r]) (w5.setCell ⟨g, k * 5 + 4, none⟩ (.slice (some ⟨g5, 0, none⟩) (ts[k].rules.length + 1) c5)) (base := B) (ok := oki2) (g := g5) (c := c5) (by rw [hl1]; omega) (by rw [hl1]; exact hR6))
        have HS6 := Aside0.mk (And.intro hR6 hset6)
        rw [hl1] at HX2
        have z4 : (w5.setCell ⟨g, k * 5 + 4, none⟩ (.slice (some ⟨g5, 0, none⟩) (ts[k].rules.length + 1) c5)).cell? ⟨g, k * 5 + 4, none⟩ = some (.slice (some ⟨g5, 0, none⟩) (ts[k].rules.length + 1) c5) := World.cell?_setCell_same' _ _ _ (by rw [y1]; rfl)
        clear r0 r1 r2 r3 r4 r5 r6 r7 fp t4 t4a hR6 hset6
        go_wp2_with (first | (go_at_call 33; refine HX2.out.mono ?_; rintro e w7 ⟨rfl, d', hp', hs', hT7, hg7⟩))
        rw [sorted_ins (cf := cfR) (swo_key (fun x : Rul => x.name)) HPR.out HNE.out (by simp) hp' hs'] at hT7
        have HF := Aside0.mk (InDidX.rules (t := { ts[k] with rules := ins (ltOf cfR) r ts[k].rules }) HB4.out HBW.out HGB.out HPB.out rfl ⟨_, HPW.out⟩ HR.out HY.out.1 HZ.out.1 HZ.out.2.1 (Kd.R_mono HS6.out.1 (fun _ _ => trivial)) hg7 (HS6.out.2 w7 _ (by rw [len_ins]) hg7 hT7))
        clear hp' hs' hT7 hg7 HX2 HY HZ HS6 z4 y1 y2
        go_wp2
        go_ret
        rw [HQ.out]
        exact HF.out
end Go.Proofs.YtmmiehckgkadgaaGreat.O
