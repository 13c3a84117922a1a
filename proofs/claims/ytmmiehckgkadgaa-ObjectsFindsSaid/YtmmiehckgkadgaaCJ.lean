/- objects.SetOwner. -/
import Derived.Test.YtmmiehckgkadgaaCI
namespace Go.Proofs.Ytmmiehckgkadgaa.O
set_option linter.unusedVariables false
set_option linter.unusedSimpArgs false
open Go.RowKit Go.Proofs.YtmmiehckgkadgaaW.PrintWords

/-- table k of one's own: its cells, its columns and rules, and what a store into it leaves -/
theorem S_table {B g dt : Nat} {W : World} {ts : List Tab} (h : Kd.S kTab 35 W B (fun _ => True) (.slice (some ⟨g, 0, none⟩) ts.length dt) ts) (k : Nat) (hk : k < ts.length) : ∃ (oki : Nat → Prop) (v3 v4 : Value),
    W.cell? ⟨g, k * 5, none⟩ = some (.string ts[k].schema) ∧ W.cell? ⟨g, k * 5 + 1, none⟩ = some (.string ts[k].name) ∧ W.cell? ⟨g, k * 5 + 2, none⟩ = some (.string ts[k].owner) ∧ W.cell? ⟨g, k * 5 + 3, none⟩ = some v3 ∧ W.cell? ⟨g, k * 5 + 4, none⟩ = some v4 ∧ (∀ j, W.frozen? ⟨g, k * 5 + j, none⟩ = false) ∧
    kCol.R 41 W B oki v3 ts[k].cols ∧ kRul.R 57 W B oki v4 ts[k].rules ∧ (∀ q, oki q → q ≠ g) ∧ Kd.H kTab 35 W B (fun _ => True) (.slice (some ⟨g, 0, none⟩) ts.length dt) ts (k : Int) oki [.string ts[k].schema, .string ts[k].name, .string ts[k].owner, v3, v4] := by
  obtain ⟨oki, c, hcl, hM, hc, hf, ho, hH⟩ := Kd.S_elem h zTab (k : Int) (by omega) (by omega)
  rw [Int.toNat_natCast, List.getD_eq_getElem?_getD, List.getElem?_eq_getElem hk] at hM
  rw [Int.toNat_natCast] at hc hf
  obtain ⟨v3, v4, rfl, h3, h4⟩ := kTab_openM hM
  exact ⟨oki, v3, v4, hc 0 _ rfl, hc 1 _ rfl, hc 2 _ rfl, hc 3 _ rfl, hc 4 _ rfl, hf, h3, h4, fun q hq => (ho q hq).2, hH⟩
theorem Col.eta (c : Col) : c = ⟨c.name, c.kind, c.null⟩ := rfl

set_option maxRecDepth 20000 in
set_option maxHeartbeats 2000000 in
theorem SetOwner1.calls (ss : List Sch) (ts : List Tab) (owner : ByteArray) (w : World) (p : Nat) (hp : w.cell? ⟨p, 0, none⟩ = some (.string owner)) (hln : ts.length ≤ 3000) :
    Inner 55 #[.pointer (some ⟨p, 0, none⟩)] w ss ts (fun t => (0, { t with owner := owner })) := by
  intro k hk B W Bs ds g dt hA
  show Calls Try.prog 55 #[.agg #[.slice Bs ss.length ds, .slice (some ⟨g, 0, none⟩) ts.length dt], .pointer (some ⟨g, k * 5, none⟩), .pointer (some ⟨p, 0, none⟩)] W _
  obtain ⟨hW, hwB, hBW, hR, hS⟩ := hA
  obtain ⟨hB1, hX1⟩ := boxes1 W (.cells #[.slice Bs ss.length ds, .slice (some ⟨g, 0, none⟩) ts.length dt] 26)
  have hp1 : ∀ o, (W.alloc o).cell? ⟨p, 0, none⟩ = some (.string owner) := fun o => pw_cell_below (below_alloc hW o) hp
  have hS1 := Kd.S_below hS hB1
  obtain ⟨oki, v3, v4, c0, c1, c2, c3, c4, hf, h3, h4, ho, hH⟩ := S_table hS1 k hk
  have hf2 := hf 2
  have hseg := Kd.S_seg (okg := fun _ => False) (okp := oki) (Kd.H_mono hH (fun q hq => ⟨trivial, id⟩)) (by omega) (by omega) (j := 2) (seg := [.string owner]) (Nat.le_of_ble_eq_true rfl) (x' := { ts[k] with owner := owner }) (kTab_mkM _ _ _ { ts[k] with owner := owner } h3 h4) (fun q hq => .inl hq) (fun q hq => hq.elim)
  rw [Int.toNat_natCast, show (W.alloc (.cells #[.slice Bs ss.length ds, .slice (some ⟨g, 0, none⟩) ts.length dt] 26)).setCells g (k * kTab.sz + 2) [.string owner] = (W.alloc (.cells #[.slice Bs ss.length ds, .slice (some ⟨g, 0, none⟩) ts.length dt] 26)).setCell ⟨g, k * 5 + 2, none⟩ (.string owner) from rfl] at hseg
  obtain ⟨cells, hgc⟩ := Kd.S_typed hS1 g rfl
  have hgB : B ≤ g := Kd.S_base hS1 g rfl
  have HX := Aside0.mk (show InDid B W ss ts k Bs ds g dt (0, { ts[k] with owner := owner }) (.returned (.int .i64 0)) ((W.alloc (.cells #[.slice Bs ss.length ds, .slice (some ⟨g, 0, none⟩) ts.length dt] 26)).setCell ⟨g, k * 5 + 2, none⟩ (.string owner)) from
    ⟨rfl, (hB1.mono hBW).setCell hgB _, fun q cs hq => blk_far (p := ⟨g, k * 5 + 2, none⟩) (blk_below hq hB1) (blk_ne (blk_below hq hB1) hgc (by decide)) _, fun _ => ⟨Kd.R_set (Kd.R_below hR hB1) hgc (by decide) _ _, hseg.1⟩⟩)
  clear hW hwB hBW hR hS hB1 hX1 hp hS1 c0 c1 c3 c4 hf h3 h4 ho hH hseg hgc hgB
  go_enter Try.func55, Try.ntmps55
  go_wp2
  go_ret
  exact HX.out

def setOwner (ss : List Sch) (ts : List Tab) (schema table owner : ByteArray) : Res := if checkB ss ts = true then (if nameB owner = true then tch ss ts schema table (fun t => (0, { t with owner := owner })) else (1, [], [])) else (63, [], [])
theorem tch_zero (ss : List Sch) (ts : List Tab) (schema table : ByteArray) (md : Tab → Int × Tab) : chg ss ts (tch ss ts schema table md) = if checkB ss ts = true then (if (tch ss ts schema table md).1 = 0 then tch ss ts schema table md else ((tch ss ts schema table md).1, [], [])) else (63, [], []) := rfl
theorem chg_bad {ss : List Sch} {ts : List Tab} (r : Res) (h : checkB ss ts = false) : chg ss ts r = (63, [], []) := by unfold chg; rw [h]; rfl
theorem chg_norm {ss : List Sch} {ts : List Tab} {r : Res} (h : checkB ss ts = true) (hn : r.1 ≠ 0 → r.2 = ([], [])) : chg ss ts r = r := by
  unfold chg
  rw [if_pos h]
  by_cases h0 : r.1 = 0
  · rw [if_pos h0]
  · rw [if_neg h0]; obtain ⟨a, b⟩ := r; rw [← hn h0]
theorem chg_own {ss : List Sch} {ts : List Tab} (schema table owner : ByteArray) (h : checkB ss ts = true) : chg ss ts (tch ss ts schema table (fun t => (0, { t with owner := owner }))) = tch ss ts schema table (fun t => (0, { t with owner := owner })) := by
  refine chg_norm h fun hn => ?_
  unfold tch at hn ⊢
  by_cases hi : 0 ≤ idx (isT schema table) ts
  · rw [if_pos hi] at hn; exact absurd rfl hn
  · rw [if_neg hi]
theorem zeroOut {w w1 : World} {g : Nat} {n : Int} (hb : Below w.heap.size w w1) (hg : w.heap.size ≤ g) : Out w (n, [], []) (.returned (.tuple #[.agg #[.slice none 0 0, .slice none 0 0], .int .i64 n])) ((w1.setCell ⟨g, 0, none⟩ (.slice none 0 0)).setCell ⟨g, 1, none⟩ (.slice none 0 0)) := ⟨_, _, rfl, Kd.R_nil _ _ _ _ _, Kd.R_nil _ _ _ _ _, set2_below hb hg _ _⟩
set_option maxRecDepth 20000 in
set_option maxHeartbeats 2000000 in
theorem SetOwner.calls {As At : Option Addr} {cs ct : Nat} (ss : List Sch) (ts : List Tab) (schema table owner : ByteArray) (w : World) (hs : kSch.C w As ss.length ss) (hsl : ss.length ≤ 3000) (ht : kTab.C w At ts.length ts) (hF : TabsF ts) (hB : TabsB ts) :
    Calls Try.prog 19 #[.agg #[.slice As ss.length cs, .slice At ts.length ct], .string schema, .string table, .string owner] w (Out w (setOwner ss ts schema table owner)) := by
  have H3 := Aside0.mk (boxes3 w (.cells #[.slice As ss.length cs, .slice At ts.length ct] 26) (.cells #[.string owner] 9) (.cells #[.slice none 0 0, .slice none 0 0] 26))
  have HCK := Aside0.mk (fun W (hW : Below w.heap.size w W) => Check.calls (As := As) (cs := cs) (At := At) (ct := ct) ss ts W (Kd.C_below hs hW) (by omega) (Kd.C_below ht hW) hF)
  have HT := Aside0.mk (fun (W : World) (hW : Below w.heap.size w W) (p : Nat) (hp : W.cell? ⟨p, 0, none⟩ = some (.string owner)) => tableChanged.calls (As := As) (At := At) (cs := cs) (ct := ct) 55 #[.pointer (some ⟨p, 0, none⟩)] (enters Try.func55 (by decide) rfl) ss ts schema table _ W (Kd.C_below hs hW) hsl (Kd.C_below ht hW) hF hB (fun _ => SetOwner1.calls ss ts owner W p hp hB.1))
  have HN := Aside0.mk (fun W => Name.calls owner W)
  clear hs ht hF hB
  cases hck : checkB ss ts with
  | false =>
    have HE : Aside0 (checkE ss ts = 63) := ⟨by unfold checkE; rw [hck]; rfl⟩
    have HQ : Aside0 (setOwner ss ts schema table owner = chg ss ts (tch ss ts schema table (fun t => (0, { t with owner := owner })))) := ⟨by rw [chg_bad _ hck]; unfold setOwner; rw [hck]; rfl⟩
    clear hck
    rw [HQ.out]
    clear HQ HN
    generalize chg ss ts (tch ss ts schema table (fun t => (0, { t with owner := owner }))) = q at *
    go_enter Try.func19, Try.ntmps19
    go_wp2_with fail
    refine (HCK.out _ H3.out.1).mono ?_
    rintro e w1 ⟨rfl, hb1⟩
    rw [HE.out]
    have hK1 := blk_below H3.out.2.1 hb1
    have c0 : w1.cell? ⟨w.heap.size, 0, none⟩ = some (.slice As ss.length cs) := (blk_cell hK1 0).trans rfl
    have c1 : w1.cell? ⟨w.heap.size, 1, none⟩ = some (.slice At ts.length ct) := (blk_cell hK1 1).trans rfl
    have HP := Aside0.mk (show w1.cell? ⟨w.heap.size + 1, 0, none⟩ = some (.string owner) from (blk_cell (blk_below H3.out.2.2.1 hb1) 0).trans rfl)
    have HZ1 := Aside0.mk (blk_below H3.out.2.2.2 hb1)
    have HB1 := Aside0.mk (below_step H3.out.1 hb1)
    clear hb1 hK1 HCK HE H3
    go_wp2_with fail
    refine (HT.out _ HB1.out _ HP.out).mono ?_
    rintro e w2 ⟨vs, vt, rfl, h1, h2, hb⟩
    obtain ⟨Es, es, rfl⟩ := Kd.R_slice h1
    obtain ⟨Et, et, rfl⟩ := Kd.R_slice h2
    have hZ2 := blk_below HZ1.out hb
    have z0 : w2.cell? ⟨w.heap.size + 1 + 1, 0, none⟩ = some (.slice none 0 0) := (blk_cell hZ2 0).trans rfl
    have z1 : w2.cell? ⟨w.heap.size + 1 + 1, 1, none⟩ = some (.slice none 0 0) := (blk_cell hZ2 1).trans rfl
    have f0 := blk_frozen hZ2 0
    have f1 := blk_frozen hZ2 1
    have HX := Aside0.mk (Out.wrap (g := w.heap.size + 1 + 1) HB1.out (by omega) HZ1.out h1 h2 hb)
    clear h1 h2 hb hZ2 HZ1 HB1 HT c0 c1 HP
    go_wp2
    refine bodyPost_ret (v := .tuple #[.agg #[.slice Es q.2.1.length es, .slice Et q.2.2.length et], .int .i64 q.1]) (by simp [results, Try.results19, go_sem, *]) rfl ?_
    exact ⟨_, _, rfl, HX.out⟩
  | true =>
    have HE : Aside0 (checkE ss ts = 0) := ⟨by unfold checkE; rw [hck]; rfl⟩
    cases hnm : nameB owner with
    | false =>
      have HQ : Aside0 (setOwner ss ts schema table owner = (1, [], [])) := ⟨by unfold setOwner; rw [hck, hnm]; rfl⟩
      rw [hnm] at HN
      clear hck hnm HT
      rw [HQ.out]
      go_enter Try.func19, Try.ntmps19
      go_wp2_with fail
      refine (HCK.out _ H3.out.1).mono ?_
      rintro e w1 ⟨rfl, hb1⟩
      rw [HE.out]
      have hK1 := blk_below H3.out.2.1 hb1
      have c0 : w1.cell? ⟨w.heap.size, 0, none⟩ = some (.slice As ss.length cs) := (blk_cell hK1 0).trans rfl
      have c1 : w1.cell? ⟨w.heap.size, 1, none⟩ = some (.slice At ts.length ct) := (blk_cell hK1 1).trans rfl
      have hP : w1.cell? ⟨w.heap.size + 1, 0, none⟩ = some (.string owner) := (blk_cell (blk_below H3.out.2.2.1 hb1) 0).trans rfl
      have HP := Aside0.mk (show w1.cell? ⟨w.heap.size + 1, 0, none⟩ = some (.string owner) from (blk_cell (blk_below H3.out.2.2.1 hb1) 0).trans rfl)
      have HZ1 := Aside0.mk (blk_below H3.out.2.2.2 hb1)
      have HB1 := Aside0.mk (below_step H3.out.1 hb1)
      clear hb1 hK1 HCK HE H3
      go_wp2_with fail
      refine (HN.out _).mono ?_
      rintro e w2 ⟨rfl, rfl⟩
      have z0 : w1.cell? ⟨w.heap.size + 1 + 1, 0, none⟩ = some (.slice none 0 0) := (blk_cell HZ1.out 0).trans rfl
      have z1 : w1.cell? ⟨w.heap.size + 1 + 1, 1, none⟩ = some (.slice none 0 0) := (blk_cell HZ1.out 1).trans rfl
      have f0 := blk_frozen HZ1.out 0
      have f1 := blk_frozen HZ1.out 1
      have HX := Aside0.mk (zeroOut (g := w.heap.size + 1 + 1) (n := 1) HB1.out (by omega))
      clear HZ1 HB1 HP c0 c1 HN HQ
      go_wp2
      refine bodyPost_ret (v := .tuple #[.agg #[.slice none 0 0, .slice none 0 0], .int .i64 1]) (by simp [results, Try.results19, go_sem, *]) rfl ?_
      exact HX.out
    | true =>
      have HQ : Aside0 (setOwner ss ts schema table owner = chg ss ts (tch ss ts schema table (fun t => (0, { t with owner := owner })))) := ⟨by rw [chg_own _ _ _ hck]; unfold setOwner; rw [hck, hnm]; rfl⟩
      rw [hnm] at HN
      clear hck hnm
      rw [HQ.out]
      clear HQ
      generalize chg ss ts (tch ss ts schema table (fun t => (0, { t with owner := owner }))) = q at *
      go_enter Try.func19, Try.ntmps19
      go_wp2_with fail
      refine (HCK.out _ H3.out.1).mono ?_
      rintro e w1 ⟨rfl, hb1⟩
      rw [HE.out]
      have hK1 := blk_below H3.out.2.1 hb1
      have c0 : w1.cell? ⟨w.heap.size, 0, none⟩ = some (.slice As ss.length cs) := (blk_cell hK1 0).trans rfl
      have c1 : w1.cell? ⟨w.heap.size, 1, none⟩ = some (.slice At ts.length ct) := (blk_cell hK1 1).trans rfl
      have hP : w1.cell? ⟨w.heap.size + 1, 0, none⟩ = some (.string owner) := (blk_cell (blk_below H3.out.2.2.1 hb1) 0).trans rfl
      have HP := Aside0.mk (show w1.cell? ⟨w.heap.size + 1, 0, none⟩ = some (.string owner) from (blk_cell (blk_below H3.out.2.2.1 hb1) 0).trans rfl)
      have HZ1 := Aside0.mk (blk_below H3.out.2.2.2 hb1)
      have HB1 := Aside0.mk (below_step H3.out.1 hb1)
      clear hb1 hK1 HCK HE H3
      go_wp2_with fail
      refine (HN.out _).mono ?_
      rintro e w2 ⟨rfl, rfl⟩
      clear HN
      go_wp2_with fail
      refine (HT.out _ HB1.out _ HP.out).mono ?_
      rintro e w2 ⟨vs, vt, rfl, h1, h2, hb⟩
      obtain ⟨Es, es, rfl⟩ := Kd.R_slice h1
      obtain ⟨Et, et, rfl⟩ := Kd.R_slice h2
      have hZ2 := blk_below HZ1.out hb
      have z0 : w2.cell? ⟨w.heap.size + 1 + 1, 0, none⟩ = some (.slice none 0 0) := (blk_cell hZ2 0).trans rfl
      have z1 : w2.cell? ⟨w.heap.size + 1 + 1, 1, none⟩ = some (.slice none 0 0) := (blk_cell hZ2 1).trans rfl
      have f0 := blk_frozen hZ2 0
      have f1 := blk_frozen hZ2 1
      have HX := Aside0.mk (Out.wrap (g := w.heap.size + 1 + 1) HB1.out (by omega) HZ1.out h1 h2 hb)
      clear h1 h2 hb hZ2 HZ1 HB1 HT c0 c1 HP
      go_wp2
      refine bodyPost_ret (v := .tuple #[.agg #[.slice Es q.2.1.length es, .slice Et q.2.2.length et], .int .i64 q.1]) (by simp [results, Try.results19, go_sem, *]) rfl ?_
      exact ⟨_, _, rfl, HX.out⟩
end Go.Proofs.Ytmmiehckgkadgaa.O
