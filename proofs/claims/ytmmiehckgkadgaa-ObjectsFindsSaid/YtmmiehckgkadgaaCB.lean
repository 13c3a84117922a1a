/- objects.copied: a table in memory of its own. -/
import Derived.Test.YtmmiehckgkadgaaCA
namespace Go.Proofs.Ytmmiehckgkadgaa.O
set_option linter.unusedVariables false
set_option linter.unusedSimpArgs false
open Go.RowKit Go.Proofs.YtmmiehckgkadgaaW.PrintWords

def RulB (r : Rul) : Prop := r.cols.length ≤ 3000
def TabB (t : Tab) : Prop := t.cols.length ≤ 3000 ∧ t.rules.length ≤ 3000 ∧ ∀ r ∈ t.rules, RulB r
def tabC (t : Tab) (v3 v4 : Value) : Array Value := #[.string t.schema, .string t.name, .string t.owner, v3, v4]
/-- rows: the first k are rules of one's own (made since b), the rest stand as they stood in w -/
def RowsTo (w W : World) (b : Nat) (v : Value) (xs : List Rul) (k : Nat) : Prop := ∃ rows : List (List Value), rows.length = xs.length ∧ (Kd.raw 8).R 57 W b (fun _ => True) v rows ∧
  ∀ (j : Nat) (x : Rul) (c : List Value), xs[j]? = some x → rows[j]? = some c → (j < k → kRul.M W b (fun q => some q ≠ v.ownBlock) x c) ∧ (k ≤ j → kRul.K w x c)
theorem RowsTo.start {w0 w W : World} {v : Value} {xs : List Rul} (h : CloneRes kRul 57 w0 w W v xs) (b : Nat) (hb : b ≤ w.heap.size) : RowsTo w0 W b v xs 0 := by
  obtain ⟨rows, hl, hR, hE⟩ := h
  exact ⟨rows, hl, Kd.R_lower hR hb, fun j x c hx hc => ⟨fun hj => absurd hj (Nat.not_lt_zero _), fun _ => hE j x c hx hc⟩⟩
theorem RowsTo.below {w W W1 : World} {b : Nat} {v : Value} {xs : List Rul} {k : Nat} (h : RowsTo w W b v xs k) (hb : Below W.heap.size W W1) : RowsTo w W1 b v xs k := by
  obtain ⟨rows, hl, hR, hE⟩ := h
  exact ⟨rows, hl, Kd.R_below hR hb, fun j x c hx hc => ⟨fun hj => Kd.M_below ((hE j x c hx hc).1 hj) hb, (hE j x c hx hc).2⟩⟩
theorem RowsTo.set {w W : World} {b : Nat} {v : Value} {xs : List Rul} {k : Nat} (h : RowsTo w W b v xs k) {g t : Nat} {cells : Array Value} (hg : W.heap[g]? = some (.cells cells t (0, 0))) (ht : ∀ q, q ∈ [57, 9] → q ≠ t) (j : Nat) (u : Value) : RowsTo w (W.setCell ⟨g, j, none⟩ u) b v xs k := by
  obtain ⟨rows, hl, hR, hE⟩ := h
  exact ⟨rows, hl, Kd.R_set hR hg (fun q hq => ht q (by simp [Kd.raw] at hq; simp [hq])) j u, fun i x c hx hc => ⟨fun hj => kRul.M_mono (fun q hq => hq.1) (Kd.M_far (p := ⟨g, j, none⟩) (Kd.M_types ((hE i x c hx hc).1 hj) hg (fun q hq => ht q (List.mem_cons_of_mem _ hq))) (fun _ hk => hk.2) u), (hE i x c hx hc).2⟩⟩
theorem RowsTo.done {w W : World} {b : Nat} {v : Value} {xs : List Rul} (h : RowsTo w W b v xs xs.length) : kRul.R 57 W b (fun _ => True) v xs := by
  obtain ⟨rows, hl, hR, hE⟩ := h
  exact raw_R (d := kRul) hR hl (fun j x c hx hc => kRul.M_mono (fun q hq => ⟨trivial, hq⟩) ((hE j x c hx hc).1 (List.getElem?_eq_some_iff.1 hx).1))

theorem RowsTo.at_ {w W : World} {b : Nat} {v : Value} {xs : List Rul} {k : Nat} (h : RowsTo w W b v xs k) (hk : k < xs.length) : ∃ (g cap : Nat) (A2 : Option Addr) (c2 : Nat), v = .slice (some ⟨g, 0, none⟩) xs.length cap ∧ b ≤ g ∧ (∃ cells, W.heap[g]? = some (.cells cells 57 (0, 0))) ∧
    W.cell? ⟨g, k * 8 + 2, none⟩ = some (.slice A2 xs[k].cols.length c2) ∧ W.frozen? ⟨g, k * 8 + 2, none⟩ = false ∧ Kd.string.C w A2 xs[k].cols.length xs[k].cols := by
  obtain ⟨rows, hl, hR, hE⟩ := h
  obtain ⟨g, cap, rfl, hb, _, hcs⟩ := Kd.R_form hR (by omega)
  obtain ⟨c, hcl, hM, hc, hf⟩ := Kd.R_elem hR ([] : List Value) (k : Int) (by omega) (by omega)
  have hkr : k < rows.length := by omega
  have hrk := List.getElem?_eq_getElem hkr
  have hck : c = rows[k] := by
    have h1 : c = rows.getD (k : Int).toNat [] := hM.1
    rw [h1, Int.toNat_natCast, List.getD_eq_getElem?_getD, hrk]; rfl
  obtain ⟨A2, c2, ho, hl2, hC⟩ := kRul_open ((hE k xs[k] rows[k] (List.getElem?_eq_getElem hk) hrk).2 (Nat.le_refl _))
  refine ⟨g, cap, A2, c2, by rw [hl], hb, hcs, ?_, ?_, hC⟩
  · have := hc 2 (.slice A2 xs[k].cols.length c2) (by rw [hck, ho]; rfl)
    exact this
  · exact hf 2
theorem RowsTo.next {w W W1 : World} {b g cap k : Nat} {xs : List Rul} {u : Value} (h : RowsTo w W b (.slice (some ⟨g, 0, none⟩) xs.length cap) xs k) (hk : k < xs.length) (hb : Below W.heap.size W W1) (hbW : b ≤ W.heap.size)
    (hu : Kd.string.R 9 W1 W.heap.size (fun _ => True) u xs[k].cols) : RowsTo w (W1.setCell ⟨g, k * 8 + 2, none⟩ u) b (.slice (some ⟨g, 0, none⟩) xs.length cap) xs (k + 1) := by
  obtain ⟨rows, hl, hR, hE⟩ := h
  have hR1 := Kd.R_below hR hb
  obtain ⟨c, hcl, hM, hc, hf⟩ := Kd.R_elem hR1 ([] : List Value) (k : Int) (by omega) (by omega)
  obtain ⟨cells, hg⟩ := Kd.R_typed hR1 g rfl
  have hkr : k < rows.length := by omega
  have hrk := List.getElem?_eq_getElem hkr
  have hck : c = rows[k] := by
    have h1 : c = rows.getD (k : Int).toNat [] := hM.1
    rw [h1, Int.toNat_natCast, List.getD_eq_getElem?_getD, hrk]; rfl
  obtain ⟨A2, c2, ho, hl2, hC⟩ := kRul_open ((hE k xs[k] rows[k] (List.getElem?_eq_getElem hk) hrk).2 (Nat.le_refl _))
  have hco := hck.trans ho
  obtain ⟨B, d, rfl⟩ := Kd.R_slice hu
  have hs := Kd.R_seg hR1 (k : Int) (by omega) (by omega) hcl hc (j := 2) (seg := [.slice B xs[k].cols.length d]) (x' := [.string xs[k].name, .int .i64 xs[k].kind, .slice B xs[k].cols.length d, .int .i64 xs[k].low, .int .i64 xs[k].high, .string xs[k].schema, .string xs[k].table, .string xs[k].key]) (okp := fun _ => False) (Nat.le_of_ble_eq_true rfl)
    (by rw [hco]; exact ⟨rfl, rfl, by simp [Value.oneCell']⟩) (fun _ hk => hk.elim)
  rw [Int.toNat_natCast] at hs
  have hR2 : (Kd.raw 8).R 57 (W1.setCell ⟨g, k * 8 + 2, none⟩ (.slice B xs[k].cols.length d)) b (fun _ => True) (.slice (some ⟨g, 0, none⟩) xs.length cap) (rows.set k _) := hs.1
  refine ⟨_, by rw [List.length_set]; exact hl, hR2, fun j x c hx hc => ?_⟩
  have hjl := (List.getElem?_eq_some_iff.1 hx).1
  by_cases hjk : j = k
  · subst hjk
    rw [List.getElem?_set_self hkr] at hc
    injection hc with hc
    subst hc
    have hxk : xs[j] = x := by rw [List.getElem?_eq_getElem hjl] at hx; injection hx
    subst hxk
    refine ⟨fun _ => kRul_mkM _ _ _ _ ?_, fun hj => by omega⟩
    exact Kd.R_mono (Kd.R_far (p := ⟨g, j * 8 + 2, none⟩) (Kd.R_types (Kd.R_lower hu hbW) hg (by decide)) (fun _ hq => hq.2) _) (fun q hq => fun he => hq.2 (by injection he))
  · rw [List.getElem?_set_ne (Ne.symm hjk)] at hc
    obtain ⟨h1, h2⟩ := hE j x c hx hc
    exact ⟨fun hj => kRul.M_mono (fun q hq => hq.1) (Kd.M_far (p := ⟨g, k * 8 + 2, none⟩) (Kd.M_types (Kd.M_below (h1 (by omega)) hb) hg (by decide)) (fun _ hk => hk.2) _), fun hj => h2 (by omega)⟩

def CopI (t : Tab) (w : World) (B3 : Option Addr) (d3 : Nat) (B4 : Option Addr) (d4 : Nat) (W : World) (k : Nat) : Prop :=
  Below w.heap.size w W ∧ W.heap[w.heap.size]? = some (.cells (tabC t (.slice B3 t.cols.length d3) (.slice B4 t.rules.length d4)) 35 (0, 0)) ∧ W.heap[w.heap.size + 1]? = some (.cells (tabC zTab (.slice none 0 0) (.slice none 0 0)) 35 (0, 0)) ∧
      kCol.R 41 W w.heap.size (fun _ => True) (.slice B3 t.cols.length d3) t.cols ∧ RowsTo w W w.heap.size (.slice B4 t.rules.length d4) t.rules k
theorem CopI.next {t : Tab} {w W w1 : World} {B3 B : Option Addr} {d3 d4 d k g : Nat} (h : CopI t w B3 d3 (some ⟨g, 0, none⟩) d4 W k) (hlt : k < t.rules.length) (hg : w.heap.size ≤ g) (hcs : ∃ cells, W.heap[g]? = some (.cells cells 57 (0, 0)))
    (hv : CloneRes Kd.string 9 w W.drew w1 (.slice B t.rules[k].cols.length d) t.rules[k].cols) (hb' : Below W.drew.heap.size W.drew w1) : CopI t w B3 d3 (some ⟨g, 0, none⟩) d4 (w1.setCell ⟨g, k * 8 + 2, none⟩ (.slice B t.rules[k].cols.length d)) (k + 1) := by
  obtain ⟨hB, hK, hZ, hR, hW⟩ := h
  obtain ⟨cells, hc⟩ := hcs
  have hb : Below W.heap.size W w1 := below_step (below_drew (Below.refl _ _)) hb'
  have hc1 := blk_below hc hb
  have hn1 := blk_ne (blk_below hK hb) hc1 (by decide)
  have hn2 := blk_ne (blk_below hZ hb) hc1 (by decide)
  exact ⟨below_set (below_step hB hb) hg, blk_far (p := ⟨g, k * 8 + 2, none⟩) (blk_below hK hb) hn1 _, blk_far (p := ⟨g, k * 8 + 2, none⟩) (blk_below hZ hb) hn2 _, Kd.R_set (Kd.R_below hR hb) hc1 (by decide) _ _,
    RowsTo.next hW hlt hb hB.size (CloneRes_flat hv (flatStr _ _ _))⟩

set_option maxRecDepth 20000 in
set_option maxHeartbeats 2000000 in
theorem copied.calls (t : Tab) {A3 A4 : Option Addr} {c3 c4 : Nat} (w : World) (h3 : kCol.C w A3 t.cols.length t.cols) (h4 : kRul.C w A4 t.rules.length t.rules) (hF : TabB t) :
    Calls Try.prog 52 #[.agg #[.string t.schema, .string t.name, .string t.owner, .slice A3 t.cols.length c3, .slice A4 t.rules.length c4]] w fun e w' => ∃ v3 v4, e = .returned (.agg #[.string t.schema, .string t.name, .string t.owner, v3, v4]) ∧ kCol.R 41 w' w.heap.size (fun _ => True) v3 t.cols ∧ kRul.R 57 w' w.heap.size (fun _ => True) v4 t.rules ∧ Below w.heap.size w w' := by
  obtain ⟨hF1, hF2, hF3⟩ := hF
  have HF := Aside0.mk (And.intro hF1 (And.intro hF2 hF3))
  have HC := Aside0.mk (fun W hW => cloneCol.raw (A0 := A3) (c0 := c3) t.cols w W hW h3 (by omega))
  have HU := Aside0.mk (fun W hW => cloneRul.raw (A0 := A4) (c0 := c4) t.rules w W hW h4 (by omega))
  have hln : t.rules.length ≤ 3000 := hF2
  clear h3 h4 hF1 hF2 hF3
  go_enter Try.func52, Try.ntmps52
  go_wp2_with fail
  generalize hW0 : (w.alloc _).alloc _ = W0
  obtain ⟨hB0, hK0, hZ0⟩ : Below w.heap.size w W0 ∧ W0.heap[w.heap.size]? = some (.cells (tabC t (.slice A3 t.cols.length c3) (.slice A4 t.rules.length c4)) 35 (0, 0)) ∧ W0.heap[w.heap.size + 1]? = some (.cells (tabC zTab (.slice none 0 0) (.slice none 0 0)) 35 (0, 0)) := by
    rw [← hW0]; exact boxes2 w _ _
  clear hW0
  refine (HC.out W0 hB0).mono ?_
  rintro e w1 ⟨v3, rfl, hv3, hb1⟩
  obtain ⟨B3, d3, rfl⟩ := CloneRes_slice hv3
  have hK1 := blk_below hK0 hb1
  have hZ1 := blk_below hZ0 hb1
  have hc : w1.cell? ⟨w.heap.size, 3, none⟩ = some (.slice A3 t.cols.length c3) := (blk_cell hK1 3).trans rfl
  have hc4 : w1.cell? ⟨w.heap.size, 4, none⟩ = some (.slice A4 t.rules.length c4) := (blk_cell hK1 4).trans rfl
  have hf := blk_frozen hK1 3
  have hR3 := Kd.R_set (Kd.R_lower (CloneRes_flat hv3 (flatCol _ _ _)) hB0.size) hK1 (by decide) 3 (.slice B3 t.cols.length d3)
  have HS := Aside0.mk (And.intro (below_set (j := 3) (v := .slice B3 t.cols.length d3) (below_step hB0 hb1) (Nat.le_refl _)) (And.intro (blk_set hK1 3 (.slice B3 t.cols.length d3)) (And.intro (blk_far (p := ⟨w.heap.size, 3, none⟩) hZ1 (succ_ne _) (.slice B3 t.cols.length d3)) hR3)))
  clear hK0 hZ0 hB0 hb1 hv3 hK1 hZ1 hR3
  go_wp2_with fail
  generalize w1.setCell ⟨w.heap.size, 3, none⟩ (.slice B3 t.cols.length d3) = W1 at *
  obtain ⟨hB1, hK1, hZ1, hR3⟩ := HS.out
  clear hc hc4 hf HS
  refine (HU.out W1 hB1).mono ?_
  rintro e w2 ⟨v4, rfl, hv4, hb2⟩
  obtain ⟨B4, d4, rfl⟩ := CloneRes_slice hv4
  have hK2 := blk_below hK1 hb2
  have hZ2 := blk_below hZ1 hb2
  have hc : w2.cell? ⟨w.heap.size, 4, none⟩ = some (.slice A4 t.rules.length c4) := (blk_cell hK2 4).trans rfl
  have hf := blk_frozen hK2 4
  have hR3' := Kd.R_set (Kd.R_below hR3 hb2) hK2 (by decide) 4 (.slice B4 t.rules.length d4)
  have HS := Aside0.mk (And.intro (below_set (j := 4) (v := .slice B4 t.rules.length d4) (below_step hB1 hb2) (Nat.le_refl _)) (And.intro (blk_set hK2 4 (.slice B4 t.rules.length d4)) (And.intro (blk_far (p := ⟨w.heap.size, 4, none⟩) hZ2 (succ_ne _) (.slice B4 t.rules.length d4)) (And.intro hR3' (RowsTo.set (RowsTo.start hv4 w.heap.size hB1.size) hK2 (by decide) 4 (.slice B4 t.rules.length d4))))))
  clear hK1 hZ1 hB1 hb2 hv4 hK2 hZ2 hR3 hR3'
  go_wp2
  generalize w2.setCell ⟨w.heap.size, 4, none⟩ (.slice B4 t.rules.length d4) = W2 at *
  clear hc hf
  have HS2 : Aside0 (CopI t w B3 d3 B4 d4 W2 0) := ⟨HS.out⟩
  clear HS
  go_loopw [15] (fun i w' => ∃ k : Nat, k ≤ t.rules.length ∧ i = .int .i64 k ∧ Aside0 (CopI t w B3 d3 B4 d4 w' k)) (fun i _ => t.rules.length - (intOf i).toNat)
  case atStart => exact ⟨0, Nat.zero_le _, rfl, HS2⟩
  case round =>
    clear HS2
    obtain ⟨k, hk, rfl, HJ⟩ := hrel
    by_cases hlt : k < t.rules.length
    · obtain ⟨g, cap, A2, c2, hv, hbg, hcs, hcell, hfr, hC⟩ := RowsTo.at_ HJ.out.2.2.2.2 hlt
      injection hv with hA hl0 hcap
      clear hl0
      subst hA hcap
      have hb4 : wr.cell? ⟨w.heap.size, 4, none⟩ = some (.slice (some ⟨g, 0, none⟩) t.rules.length d4) := (blk_cell HJ.out.2.1 4).trans rfl
      have HK := Aside0.mk (fun W hW => cloneStr.raw (A0 := A2) (c0 := c2) t.rules[k].cols w W hW hC (Nat.le_trans (HF.out.2.2 _ (List.getElem_mem hlt)) (by decide)))
      have HX := Aside0.mk (And.intro hbg hcs)
      clear hbg hcs hC HF HC HU
      have h0 : (0 : Int) ≤ (k : Int) := by omega
      have h1 : (k : Int) < (t.rules.length : Int) := by omega
      go_wp2_with fail
      go_region_with (first | (go_at_call 101; refine (HK.out _ ?_).mono ?_; exact (below_drew HJ.out.1); rintro e w1 ⟨v, rfl, hv, hb⟩; obtain ⟨B, d, rfl⟩ := CloneRes_slice hv; have hc1 := pw_cell_below hb hcell; have hc2 := pw_cell_below hb hb4; have hf1 := (hb.frozen (p := ⟨g, k * 8 + 2, none⟩) (World.block_lt_of_cell? wr _ hcell)).trans hfr; have HV := Aside0.mk (And.intro hv hb); clear hv hb))
      all_goals
        have HN := Aside0.mk (CopI.next HJ.out hlt HX.out.1 HX.out.2 HV.out.1 HV.out.2)
        clear HV HK HX HJ hb4 hcell hfr hc1 hc2 hf1
        go_wp2
        go_roundw
        case rel => exact ⟨k + 1, by omega, by go_num, HN⟩
        case measure => simp [intOf]; omega
    · have hd : decide (k < t.rules.length) = false := decide_eq_false hlt
      obtain rfl : k = t.rules.length := by omega
      obtain ⟨hB, hK, hZ, hR, hW⟩ := HJ.out
      have c0 : wr.cell? ⟨w.heap.size, 0, none⟩ = some (.string t.schema) := (blk_cell hK 0).trans rfl
      have c1 : wr.cell? ⟨w.heap.size, 1, none⟩ = some (.string t.name) := (blk_cell hK 1).trans rfl
      have c2 : wr.cell? ⟨w.heap.size, 2, none⟩ = some (.string t.owner) := (blk_cell hK 2).trans rfl
      have c3 : wr.cell? ⟨w.heap.size, 3, none⟩ = some (.slice B3 t.cols.length d3) := (blk_cell hK 3).trans rfl
      have c4 : wr.cell? ⟨w.heap.size, 4, none⟩ = some (.slice B4 t.rules.length d4) := (blk_cell hK 4).trans rfl
      have z0 : wr.cell? ⟨w.heap.size + 1, 0, none⟩ = some (.string ⟨#[]⟩) := (blk_cell hZ 0).trans rfl
      have z1 : wr.cell? ⟨w.heap.size + 1, 1, none⟩ = some (.string ⟨#[]⟩) := (blk_cell hZ 1).trans rfl
      have z2 : wr.cell? ⟨w.heap.size + 1, 2, none⟩ = some (.string ⟨#[]⟩) := (blk_cell hZ 2).trans rfl
      have z3 : wr.cell? ⟨w.heap.size + 1, 3, none⟩ = some (.slice none 0 0) := (blk_cell hZ 3).trans rfl
      have z4 : wr.cell? ⟨w.heap.size + 1, 4, none⟩ = some (.slice none 0 0) := (blk_cell hZ 4).trans rfl
      have f0 := blk_frozen hZ 0
      have f1 := blk_frozen hZ 1
      have f2 := blk_frozen hZ 2
      have f3 := blk_frozen hZ 3
      have f4 := blk_frozen hZ 4
      have HX := Aside0.mk (And.intro (R_only hR hZ (by decide) (set5_far wr (w.heap.size + 1) (.string t.schema) (.string t.name) (.string t.owner) (.slice B3 t.cols.length d3) (.slice B4 t.rules.length d4)))
        (And.intro (R_only hW.done hZ (by decide) (set5_far wr (w.heap.size + 1) (.string t.schema) (.string t.name) (.string t.owner) (.slice B3 t.cols.length d3) (.slice B4 t.rules.length d4)))
        (set5_below hB (Nat.le_succ _) (.string t.schema) (.string t.name) (.string t.owner) (.slice B3 t.cols.length d3) (.slice B4 t.rules.length d4))))
      clear hB hK hZ hR hW HJ
      go_wp2
      refine bodyPost_ret (v := .agg #[.string t.schema, .string t.name, .string t.owner, .slice B3 t.cols.length d3, .slice B4 t.rules.length d4]) (by simp [results, Try.results52, go_sem, *]) rfl ?_
      exact ⟨_, _, rfl, HX.out⟩
end Go.Proofs.Ytmmiehckgkadgaa.O
