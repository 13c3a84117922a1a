/- The document's Copy: a table in memory of its own. -/
import Derived.Test.YtmmiehckgkadgaaCC
namespace Go.Proofs.Ytmmiehckgkadgaa.O
set_option linter.unusedVariables false
set_option linter.unusedSimpArgs false
open Go.RowKit Go.Proofs.YtmmiehckgkadgaaW.PrintWords

theorem rulAt {w : World} {A : Option Addr} {n : Nat} {xs : List Rul} (h : kRul.C w A n xs) (j : Nat) (hj : j < xs.length) : ∃ ad A2 c2, A = some ad ∧ w.cell? (ad.add (j * 8)) = some (.string xs[j].name) ∧ w.cell? ⟨(ad.add (j * 8)).block, (ad.add (j * 8)).off + 1, none⟩ = some (.int .i64 xs[j].kind) ∧ w.cell? ⟨(ad.add (j * 8)).block, (ad.add (j * 8)).off + 2, none⟩ = some (.slice A2 xs[j].cols.length c2) ∧ w.cell? ⟨(ad.add (j * 8)).block, (ad.add (j * 8)).off + 3, none⟩ = some (.int .i64 xs[j].low) ∧ w.cell? ⟨(ad.add (j * 8)).block, (ad.add (j * 8)).off + 4, none⟩ = some (.int .i64 xs[j].high) ∧ w.cell? ⟨(ad.add (j * 8)).block, (ad.add (j * 8)).off + 5, none⟩ = some (.string xs[j].schema) ∧ w.cell? ⟨(ad.add (j * 8)).block, (ad.add (j * 8)).off + 6, none⟩ = some (.string xs[j].table) ∧ w.cell? ⟨(ad.add (j * 8)).block, (ad.add (j * 8)).off + 7, none⟩ = some (.string xs[j].key) ∧ xs[j].cols.length ≤ c2 ∧ Kd.string.C w A2 xs[j].cols.length xs[j].cols := by
  have h1 := atRul h (j : Int) (by omega) (by have := h.1; omega)
  rw [show rdRul xs (j : Int) = xs[j] by simp [rdRul, List.getD_eq_getElem?_getD, List.getElem?_eq_getElem hj], Int.toNat_natCast] at h1
  exact h1
theorem sz_set (w : World) (p : Addr) (u : Value) : (w.setCell p u).heap.size = w.heap.size := by simp
theorem R_only2 {α : Type} {d : Kd α} {e base g g' t : Nat} {W W' : World} {ok : Nat → Prop} {v : Value} {xs : List α} {cs cs' : Array Value} (h : d.R e W base ok v xs) (hz : W.heap[g]? = some (.cells cs t (0, 0))) (hz' : W.heap[g']? = some (.cells cs' t (0, 0))) (ht : ∀ q, q ∈ e :: d.E → q ≠ t) (hk : ∀ k, k ≠ g → k ≠ g' → W'.heap[k]? = W.heap[k]?) : d.R e W' base ok v xs :=
  Kd.R_mono (Kd.R_step (Kd.R_types (Kd.R_types h hz ht) hz' ht) (fun k ho _ => hk k ho.1.2 ho.2)) (fun _ hq => hq.1.1)
theorem set7_far (W : World) (b g : Nat) (x y a c d e f : Value) : ∀ k, k ≠ b → k ≠ g → (((((((W.setCell ⟨b, 3, none⟩ x).setCell ⟨b, 4, none⟩ y).setCell ⟨g, 0, none⟩ a).setCell ⟨g, 1, none⟩ c).setCell ⟨g, 2, none⟩ d).setCell ⟨g, 3, none⟩ e).setCell ⟨g, 4, none⟩ f).heap[k]? = W.heap[k]? := fun k hb hg => by
  rw [set5_far _ g _ _ _ _ _ k hg, Below.heap_setCell _ _ _ k hb, Below.heap_setCell _ _ _ k hb]
def rulC (r : Rul) (v : Value) : Array Value := #[.string r.name, .int .i64 r.kind, v, .int .i64 r.low, .int .i64 r.high, .string r.schema, .string r.table, .string r.key]
def CpyI (t : Tab) (A3 A4 : Option Addr) (c3 c4 : Nat) (w : World) (B3 : Option Addr) (d3 : Nat) (v : Value) (W : World) (k : Nat) : Prop :=
  Below w.heap.size w W ∧ W.heap[w.heap.size]? = some (.cells (tabC t (.slice A3 t.cols.length c3) (.slice A4 t.rules.length c4)) 35 (0, 0)) ∧ W.heap[w.heap.size + 1]? = some (.cells (tabC zTab (.slice none 0 0) (.slice none 0 0)) 35 (0, 0)) ∧
      kCol.R 41 W w.heap.size (fun _ => True) (.slice B3 t.cols.length d3) t.cols ∧ kRul.R 57 W w.heap.size (fun _ => True) v (t.rules.take k)

theorem CpyI.next {t : Tab} {A3 A4 : Option Addr} {c3 c4 : Nat} {w W W1 : World} {B3 : Option Addr} {d3 k : Nat} {v v1 : Value} (h : CpyI t A3 A4 c3 c4 w B3 d3 v W k) (hlt : k < t.rules.length) (hg : W.grownBy W1 v.ownBlock) (hB : Below w.heap.size w W1)
    (hR : kRul.R 57 W1 w.heap.size (fun _ => True) v1 (t.rules.take k ++ [t.rules[k]])) : CpyI t A3 A4 c3 c4 w B3 d3 v1 W1 (k + 1) := by
  obtain ⟨hb, hK, hZ, hR3, hR4⟩ := h
  exact ⟨hB, blk_grown hK hg (Kd.R_ne hR4 hK (by decide)), blk_grown hZ hg (Kd.R_ne hR4 hZ (by decide)), Kd.R_over' hR3 (Kd.R_typed hR4) (by decide) hg, by rw [List.take_succ_eq_append_getElem hlt]; exact hR⟩
theorem CpyI.move {t : Tab} {A3 A4 : Option Addr} {c3 c4 : Nat} {w W W1 : World} {B3 : Option Addr} {d3 k : Nat} {v : Value} (h : CpyI t A3 A4 c3 c4 w B3 d3 v W k) (hb : Below W.heap.size W W1) : CpyI t A3 A4 c3 c4 w B3 d3 v W1 k := by
  obtain ⟨hB, hK, hZ, hR3, hR4⟩ := h
  exact ⟨below_step hB hb, blk_below hK hb, blk_below hZ hb, Kd.R_below hR3 hb, Kd.R_below hR4 hb⟩
set_option maxRecDepth 20000 in
set_option maxHeartbeats 2000000 in
theorem rCopy.calls (t : Tab) {A3 A4 : Option Addr} {c3 c4 : Nat} (w : World) (h3 : kCol.C w A3 t.cols.length t.cols) (h4 : kRul.C w A4 t.rules.length t.rules) (hF : TabB t) :
    Calls Try.prog 50 #[.agg #[.string t.schema, .string t.name, .string t.owner, .slice A3 t.cols.length c3, .slice A4 t.rules.length c4]] w fun e w' => ∃ v3 v4, e = .returned (.agg #[.string t.schema, .string t.name, .string t.owner, v3, v4]) ∧ kCol.R 41 w' w.heap.size (fun _ => True) v3 t.cols ∧ kRul.R 57 w' w.heap.size (fun _ => True) v4 t.rules ∧ Below w.heap.size w w' := by
  obtain ⟨hF1, hF2, hF3⟩ := hF
  have HF := Aside0.mk hF3
  have hln : t.rules.length ≤ 3000 := hF2
  have hlc : t.cols.length ≤ 3000 := hF1
  have HC := Aside0.mk h3
  have HU := Aside0.mk h4
  have HB2 := Aside0.mk (boxes2 w (.cells (tabC t (.slice A3 t.cols.length c3) (.slice A4 t.rules.length c4)) 35) (.cells (tabC zTab (.slice none 0 0) (.slice none 0 0)) 35))
  clear h3 h4 hF1 hF2 hF3
  go_enter Try.func50, Try.ntmps50
  go_wp2_with ((at_builtin; refine Kd.R_append_rows kCol (Rr := kCol.K w) (w0 := w) w.heap.size rfl (.tmp 8) (.tmp 10) 32 41 (.agg #[(.string ⟨#[]⟩), (.int .i64 0), (.bool false)]) 32 rfl Try.underlying32 infoCol rfl (by decide) (by decide) (.slice none 0 0) [] t.cols A3 t.cols.length c3 (fun _ => True) (fun _ => False) rfl rfl (Kd.R_nil _ _ _ _ _) (ReadsRow.imp_ HC.out HB2.out.1 (fun _ _ h => h)) (fun x cs hk => flatCol w _ _ _ x cs hk) (fun _ hk => hk.elim) (fun _ _ => trivial) HB2.out.1 HB2.out.1.size (by simp; omega) ?_; intro v1 w1 hR1 hB1 hg1 _))
  obtain ⟨B3, d3, rfl⟩ := Kd.R_slice hR1
  rw [List.nil_append] at hR1 ⊢
  have HS : Aside0 (CpyI t A3 A4 c3 c4 w B3 d3 (.slice none 0 0) w1 0) := ⟨hB1, blk_grown HB2.out.2.1 hg1 (by simp [Value.ownBlock]), blk_grown HB2.out.2.2 hg1 (by simp [Value.ownBlock]), hR1, Kd.R_nil _ _ _ _ _⟩
  clear hR1 hB1 hg1 HB2 HC
  go_loopw [4, 5] (fun v i w' => ∃ k : Nat, k ≤ t.rules.length ∧ i = .int .i64 k ∧ Aside0 (CpyI t A3 A4 c3 c4 w B3 d3 v w' k)) (fun _ i _ => t.rules.length - (intOf i).toNat)
  case atStart => exact ⟨0, Nat.zero_le _, rfl, HS⟩
  case round =>
    clear HS
    obtain ⟨k, hk, rfl, HJ⟩ := hrel
    have hb4 : wr.cell? ⟨w.heap.size, 4, none⟩ = some (.slice A4 t.rules.length c4) := (blk_cell HJ.out.2.1 4).trans rfl
    by_cases hlt : k < t.rules.length
    · obtain ⟨ad, A2, c2, e, hc0, hc1, hc2, hc3, hc4, hc5, hc6, hc7, hl2, hC⟩ := rulAt (Kd.C_below HU.out HJ.out.1) k hlt
      cases e
      have HK := Aside0.mk hC
      have hlr : t.rules[k].cols.length ≤ 3000 := HF.out _ (List.getElem_mem hlt)
      have h0 : (0 : Int) ≤ (k : Int) := by omega
      have h1 : (k : Int) < (t.rules.length : Int) := by omega
      have HW := Aside0.mk (boxes1 wr (.cells (rulC t.rules[k] (.slice A2 t.rules[k].cols.length c2)) 57))
      clear hC hl2
      go_wp2_with (first
        | (at_builtin; refine Kd.R_append_rows Kd.string (Rr := Kd.string.K wr) (w0 := w) w.heap.size rfl (.tmp 24) (.tmp 26) 55 9 (.string ⟨#[]⟩) 16 rfl Try.underlying55 infoStr rfl (by decide) (by decide) (.slice none 0 0) [] t.rules[k].cols A2 t.rules[k].cols.length c2 (fun _ => True) (fun _ => False) rfl rfl (Kd.R_nil _ _ _ _ _) (ReadsRow.imp_ HK.out HW.out.1 (fun _ _ h => h)) (fun x cs hk => flatStr wr _ _ _ x cs hk) (fun _ hk => hk.elim) (fun _ _ => trivial) (below_step HJ.out.1 HW.out.1) (below_step HJ.out.1 HW.out.1).size (by simp; omega) ?_; intro v2 w2 hR2 hB2 hg2 _; rw [List.nil_append] at hR2; obtain ⟨B2, d2, rfl⟩ := Kd.R_slice hR2; have hK2 := blk_grown HW.out.2 hg2 (by simp [Value.ownBlock]); have e0 : w2.cell? ⟨wr.heap.size, 0, none⟩ = some (.string t.rules[k].name) := (blk_cell hK2 0).trans rfl; have e1 : w2.cell? ⟨wr.heap.size, 1, none⟩ = some (.int .i64 t.rules[k].kind) := (blk_cell hK2 1).trans rfl; have e2 : w2.cell? ⟨wr.heap.size, 2, none⟩ = some (.slice A2 t.rules[k].cols.length c2) := (blk_cell hK2 2).trans rfl; have e3 : w2.cell? ⟨wr.heap.size, 3, none⟩ = some (.int .i64 t.rules[k].low) := (blk_cell hK2 3).trans rfl; have e4 : w2.cell? ⟨wr.heap.size, 4, none⟩ = some (.int .i64 t.rules[k].high) := (blk_cell hK2 4).trans rfl; have e5 : w2.cell? ⟨wr.heap.size, 5, none⟩ = some (.string t.rules[k].schema) := (blk_cell hK2 5).trans rfl; have e6 : w2.cell? ⟨wr.heap.size, 6, none⟩ = some (.string t.rules[k].table) := (blk_cell hK2 6).trans rfl; have e7 : w2.cell? ⟨wr.heap.size, 7, none⟩ = some (.string t.rules[k].key) := (blk_cell hK2 7).trans rfl; have f2 := blk_frozen hK2 2;
            have hBW : Below wr.heap.size wr (w2.setCell ⟨wr.heap.size, 2, none⟩ (.slice B2 t.rules[k].cols.length d2)) := below_set (HW.out.1.grown hg2 HW.out.1.size (by simp [Value.ownBlock])) (Nat.le_refl _);
            have hJ2 := CpyI.move HJ.out hBW;
            have HV := Aside0.mk (And.intro hJ2 (Kd.R_mono (Kd.R_apart' (Kd.R_set hR2 hK2 (by decide) 2 (.slice B2 t.rules[k].cols.length d2)) (Kd.R_typed hJ2.2.2.2.2) (by decide)) (fun q hq => hq.2))); clear hR2 hB2 hg2 hK2 hBW hJ2)
        | (at_builtin; refine Kd.R_append kRul (w0 := w) w.heap.size (by rfl) (.tmp 30) (.tmp 32) 33 57 (.agg #[(.string ⟨#[]⟩), (.int .i64 0), (.slice none 0 0), (.int .i64 0), (.int .i64 0), (.string ⟨#[]⟩), (.string ⟨#[]⟩), (.string ⟨#[]⟩)]) 112 (by rfl) Try.underlying33 infoRul rfl (by decide) (by decide) u4 (t.rules.take k) t.rules[k] [.string t.rules[k].name, .int .i64 t.rules[k].kind, .slice B2 t.rules[k].cols.length d2, .int .i64 t.rules[k].low, .int .i64 t.rules[k].high, .string t.rules[k].schema, .string t.rules[k].table, .string t.rules[k].key] (fun _ => True) (fun q => some q ≠ u4.ownBlock) (by rfl) (by rw [sz_set]; rfl) (kRul_mkM _ _ _ _ HV.out.2) (fun _ hq => ⟨trivial, hq⟩) (fun _ _ => trivial) HV.out.1.2.2.2.2 HV.out.1.1 HV.out.1.1.size (by have := List.length_take_le k t.rules; omega) ?_; intro v3 w3 hR3 hB3 hg3 _))
      have HN := Aside0.mk (CpyI.next HV.out.1 hlt hg3 hB3 hR3)
      clear hR3 hB3 hg3 HV HW HJ HK hb4 hc0 hc1 hc2 hc3 hc4 hc5 hc6 hc7 e0 e1 e2 e3 e4 e5 e6 e7 f2
      go_roundw
      case rel => exact ⟨k + 1, by omega, by go_num, HN⟩
      case measure => simp [intOf]; omega
    · have hd : decide (k < t.rules.length) = false := decide_eq_false hlt
      obtain rfl : k = t.rules.length := by omega
      obtain ⟨hB, hK, hZ, hR, hW⟩ := HJ.out
      rw [List.take_length] at hW
      obtain ⟨B4, d4, rfl⟩ := Kd.R_slice hW
      have c0 : wr.cell? ⟨w.heap.size, 0, none⟩ = some (.string t.schema) := (blk_cell hK 0).trans rfl
      have c1 : wr.cell? ⟨w.heap.size, 1, none⟩ = some (.string t.name) := (blk_cell hK 1).trans rfl
      have c2 : wr.cell? ⟨w.heap.size, 2, none⟩ = some (.string t.owner) := (blk_cell hK 2).trans rfl
      have c3 : wr.cell? ⟨w.heap.size, 3, none⟩ = some (.slice A3 t.cols.length c3) := (blk_cell hK 3).trans rfl
      have z0 : wr.cell? ⟨w.heap.size + 1, 0, none⟩ = some (.string ⟨#[]⟩) := (blk_cell hZ 0).trans rfl
      have z1 : wr.cell? ⟨w.heap.size + 1, 1, none⟩ = some (.string ⟨#[]⟩) := (blk_cell hZ 1).trans rfl
      have z2 : wr.cell? ⟨w.heap.size + 1, 2, none⟩ = some (.string ⟨#[]⟩) := (blk_cell hZ 2).trans rfl
      have z3 : wr.cell? ⟨w.heap.size + 1, 3, none⟩ = some (.slice none 0 0) := (blk_cell hZ 3).trans rfl
      have z4 : wr.cell? ⟨w.heap.size + 1, 4, none⟩ = some (.slice none 0 0) := (blk_cell hZ 4).trans rfl
      have g3 := blk_frozen hK 3
      have g4 := blk_frozen hK 4
      have f0 := blk_frozen hZ 0
      have f1 := blk_frozen hZ 1
      have f2 := blk_frozen hZ 2
      have f3 := blk_frozen hZ 3
      have f4 := blk_frozen hZ 4
      have HX := Aside0.mk (And.intro (R_only2 hR hK hZ (by decide) (set7_far wr w.heap.size (w.heap.size + 1) (.slice B3 t.cols.length d3) (.slice B4 t.rules.length d4) (.string t.schema) (.string t.name) (.string t.owner) (.slice B3 t.cols.length d3) (.slice B4 t.rules.length d4)))
        (And.intro (R_only2 hW hK hZ (by decide) (set7_far wr w.heap.size (w.heap.size + 1) (.slice B3 t.cols.length d3) (.slice B4 t.rules.length d4) (.string t.schema) (.string t.name) (.string t.owner) (.slice B3 t.cols.length d3) (.slice B4 t.rules.length d4)))
        (set5_below (g := w.heap.size + 1) (below_set (j := 4) (v := .slice B4 t.rules.length d4) (below_set (j := 3) (v := .slice B3 t.cols.length d3) hB (Nat.le_refl _)) (Nat.le_refl _)) (Nat.le_succ _) (.string t.schema) (.string t.name) (.string t.owner) (.slice B3 t.cols.length d3) (.slice B4 t.rules.length d4))))
      clear hB hK hZ hR hW HJ HF HU
      go_wp2
      refine bodyPost_ret (v := .agg #[.string t.schema, .string t.name, .string t.owner, .slice B3 t.cols.length d3, .slice B4 t.rules.length d4]) (by simp [results, Try.results50, go_sem, *]) rfl ?_
      exact ⟨_, _, rfl, HX.out⟩
end Go.Proofs.Ytmmiehckgkadgaa.O
