/- Own lemmas and walks (OT), without what the law does not need. Laid by a program of this session (prune.py). -/
import Derived.Test.YtmmiehckgkadgaaPt10
import Derived.Test.YtmmiehckgkadgaaPt13
import Derived.Test.YtmmiehckgkadgaaPt14
namespace Go.Proofs.Ytmmiehckgkadgaa.O
set_option linter.unusedVariables false
set_option linter.unusedSimpArgs false
open Go.RowKit Go.Proofs.YtmmiehckgkadgaaW.PrintWords
theorem keepC10 {w0 w w' : World} {v0 v1 v2 v3 v4 v5 v6 v7 v8 v9 : Value} {a0 a1 a2 a3 a4 a5 a6 a7 a8 a9 : Addr} (h : w.cell? a0 = some v0 ∧ w.cell? a1 = some v1 ∧ w.cell? a2 = some v2 ∧ w.cell? a3 = some v3 ∧ w.cell? a4 = some v4 ∧ w.cell? a5 = some v5 ∧ w.cell? a6 = some v6 ∧ w.cell? a7 = some v7 ∧ w.cell? a8 = some v8 ∧ w.cell? a9 = some v9 ∧ Below w0.heap.size w0 w) (hb : Below w.heap.size w w') : w'.cell? a0 = some v0 ∧ w'.cell? a1 = some v1 ∧ w'.cell? a2 = some v2 ∧ w'.cell? a3 = some v3 ∧ w'.cell? a4 = some v4 ∧ w'.cell? a5 = some v5 ∧ w'.cell? a6 = some v6 ∧ w'.cell? a7 = some v7 ∧ w'.cell? a8 = some v8 ∧ w'.cell? a9 = some v9 ∧ Below w0.heap.size w0 w' :=
  ⟨pw_cell_below hb h.1, pw_cell_below hb h.2.1, pw_cell_below hb h.2.2.1, pw_cell_below hb h.2.2.2.1, pw_cell_below hb h.2.2.2.2.1, pw_cell_below hb h.2.2.2.2.2.1, pw_cell_below hb h.2.2.2.2.2.2.1, pw_cell_below hb h.2.2.2.2.2.2.2.1, pw_cell_below hb h.2.2.2.2.2.2.2.2.1, pw_cell_below hb h.2.2.2.2.2.2.2.2.2.1, h.2.2.2.2.2.2.2.2.2.2.trans (hb.mono h.2.2.2.2.2.2.2.2.2.2.size)⟩
theorem keepC11 {w0 w w' : World} {v0 v1 v2 v3 v4 v5 v6 v7 v8 v9 v10 : Value} {a0 a1 a2 a3 a4 a5 a6 a7 a8 a9 a10 : Addr} (h : w.cell? a0 = some v0 ∧ w.cell? a1 = some v1 ∧ w.cell? a2 = some v2 ∧ w.cell? a3 = some v3 ∧ w.cell? a4 = some v4 ∧ w.cell? a5 = some v5 ∧ w.cell? a6 = some v6 ∧ w.cell? a7 = some v7 ∧ w.cell? a8 = some v8 ∧ w.cell? a9 = some v9 ∧ w.cell? a10 = some v10 ∧ Below w0.heap.size w0 w) (hb : Below w.heap.size w w') : w'.cell? a0 = some v0 ∧ w'.cell? a1 = some v1 ∧ w'.cell? a2 = some v2 ∧ w'.cell? a3 = some v3 ∧ w'.cell? a4 = some v4 ∧ w'.cell? a5 = some v5 ∧ w'.cell? a6 = some v6 ∧ w'.cell? a7 = some v7 ∧ w'.cell? a8 = some v8 ∧ w'.cell? a9 = some v9 ∧ w'.cell? a10 = some v10 ∧ Below w0.heap.size w0 w' :=
  ⟨pw_cell_below hb h.1, pw_cell_below hb h.2.1, pw_cell_below hb h.2.2.1, pw_cell_below hb h.2.2.2.1, pw_cell_below hb h.2.2.2.2.1, pw_cell_below hb h.2.2.2.2.2.1, pw_cell_below hb h.2.2.2.2.2.2.1, pw_cell_below hb h.2.2.2.2.2.2.2.1, pw_cell_below hb h.2.2.2.2.2.2.2.2.1, pw_cell_below hb h.2.2.2.2.2.2.2.2.2.1, pw_cell_below hb h.2.2.2.2.2.2.2.2.2.2.1, h.2.2.2.2.2.2.2.2.2.2.2.trans (hb.mono h.2.2.2.2.2.2.2.2.2.2.2.size)⟩
set_option maxHeartbeats 4000000 in
theorem rRight.calls {As At A3 A4 : Option Addr} {cs ct c3 c4 : Nat} (ss : List Sch) (ts : List Tab) (t : Tab) (w : World) (hs : kSch.C w As ss.length ss) (hsl : ss.length ≤ 140737488355328) (ht : kTab.C w At ts.length ts) (hF : TabsF ts) (h3 : kCol.C w A3 t.cols.length t.cols) (h4 : kRul.C w A4 t.rules.length t.rules) (hTF : TabF t) (hlc3 : t.cols.length ≤ c3) :
    Calls Try.prog 49 #[.agg #[.slice As ss.length cs, .slice At ts.length ct], .agg #[.string t.schema, .string t.name, .string t.owner, .slice A3 t.cols.length c3, .slice A4 t.rules.length c4]] w fun e w' => e = .returned (.bool (rightT ss ts t)) ∧ Below w.heap.size w w' := by
  have HF := Aside0.mk hF
  have HTF := Aside0.mk hTF
  have HS := Aside0.mk hs
  have HT := Aside0.mk ht
  have H3 := Aside0.mk h3
  have H4 := Aside0.mk h4
  have HX := Aside0.mk ((BoxO_new w As ss.length cs At ts.length ct).below (below_alloc (Below.refl _ _) (tabBox t A3 c3 A4 c4)))
  have HX2 := Aside0.mk (show BoxT ((w.alloc (objBox As ss.length cs At ts.length ct)).alloc (tabBox t A3 c3 A4 c4)) (w.heap.size + 1) t A3 c3 A4 c4 by have := BoxT_new (w.alloc (objBox As ss.length cs At ts.length ct)) t A3 c3 A4 c4; simpa using this)
  have HW : Aside0 (Below w.heap.size w ((w.alloc (objBox As ss.length cs At ts.length ct)).alloc (tabBox t A3 c3 A4 c4))) := ⟨below_alloc (below_alloc (Below.refl _ _) _) _⟩
  generalize hi : rightT ss ts t = q
  have HI := Aside0.mk hi
  have HN1 := Aside0.mk (fun W => rNameB.calls t.name W)
  have HN2 := Aside0.mk (fun W => rNameB.calls t.owner W)
  have HM := Aside0.mk (fun W (hW : Below w.heap.size w W) => rColumns.calls A3 c3 t.cols W (Kd.C_below H3.out hW) hlc3 (by have := HTF.out.1; omega))
  have HB := Aside0.mk (fun W (hW : Below w.heap.size w W) => rSchema.calls (A0 := As) (c0 := cs) (At := At) (nt := ts.length) (ct := ct) t.schema ss W (Kd.C_below HS.out hW) hsl)
  clear hi hs ht hF h3 h4 hTF
  go_enter Try.func49, Try.ntmps49
  go_wp2_with fail
  refine (HB.out _ HW.out).mono ?_
  rintro e w1 ⟨rfl, hb⟩
  have HW1 := Aside0.mk (HW.out.trans (hb.mono HW.out.size))
  have HO1 := Aside0.mk (HX.out.below hb)
  have HT1 := Aside0.mk (HX2.out.below hb)
  clear hb
  obtain ⟨o0, o1⟩ := HO1.out
  obtain ⟨t0, t1, t2, t3, t4⟩ := HT1.out
  by_cases h5 : 0 ≤ idx (fun x : Sch => x.name.toList == t.schema.toList) ss
  case neg =>
    have HI1 := Aside0.mk (show false = q by rw [← HI.out]; unfold rightT; rw [decide_eq_false h5, Bool.false_and, Bool.and_false, Bool.and_false, Bool.and_false, Bool.and_false])
    have g5 : decide (idx (fun x : Sch => x.name.toList == t.schema.toList) ss < 0) = true := decide_eq_true (by omega)
    clear h5
    go_wp2
    go_ret
    exact ⟨ret_bool HI1.out, HW1.out⟩
  have N5 := Aside0.mk h5
  have g5 : decide (idx (fun x : Sch => x.name.toList == t.schema.toList) ss < 0) = false := decide_eq_false (by omega)
  clear h5
  go_wp2_with fail
  refine (HN1.out _).mono ?_
  rintro e w2 ⟨rfl, hb⟩
  have HW2 := Aside0.mk (HW1.out.trans (hb.mono HW1.out.size))
  have HO2 := Aside0.mk (HO1.out.below hb)
  have HT2 := Aside0.mk (HT1.out.below hb)
  clear hb o0 o1 t0 t1 t2 t3 t4
  obtain ⟨o0, o1⟩ := HO2.out
  obtain ⟨t0, t1, t2, t3, t4⟩ := HT2.out
  cases n1 : nameB t.name with
  | false =>
    have HI1 := Aside0.mk (show false = q by rw [← HI.out]; unfold rightT; rw [n1]; rfl)
    clear n1
    go_wp2
    go_ret
    exact ⟨ret_bool HI1.out, HW2.out⟩
  | true =>
  have N2 := Aside0.mk n1
  clear n1
  go_wp2_with fail
  refine (HN2.out _).mono ?_
  rintro e w3 ⟨rfl, hb⟩
  have HW3 := Aside0.mk (HW2.out.trans (hb.mono HW2.out.size))
  have HO3 := Aside0.mk (HO2.out.below hb)
  have HT3 := Aside0.mk (HT2.out.below hb)
  clear hb o0 o1 t0 t1 t2 t3 t4
  obtain ⟨o0, o1⟩ := HO3.out
  obtain ⟨t0, t1, t2, t3, t4⟩ := HT3.out
  cases n2 : nameB t.owner with
  | false =>
    have HI1 := Aside0.mk (show false = q by rw [← HI.out]; unfold rightT; rw [n2]; rw [Bool.false_and, Bool.and_false])
    clear n2
    go_wp2
    go_ret
    exact ⟨ret_bool HI1.out, HW3.out⟩
  | true =>
  have N3 := Aside0.mk n2
  clear n2
  go_wp2_with fail
  refine (HM.out _ HW3.out).mono ?_
  rintro e w4 ⟨rfl, hb⟩
  have HW4 := Aside0.mk (HW3.out.trans (hb.mono HW3.out.size))
  have HO4 := Aside0.mk (HO3.out.below hb)
  have HT4 := Aside0.mk (HT3.out.below hb)
  clear hb o0 o1 t0 t1 t2 t3 t4
  obtain ⟨o0, o1⟩ := HO4.out
  obtain ⟨t0, t1, t2, t3, t4⟩ := HT4.out
  cases n3 : mayCols t.cols with
  | false =>
    have HI1 := Aside0.mk (show false = q by rw [← HI.out]; unfold rightT; rw [n3]; rw [Bool.false_and, Bool.and_false, Bool.and_false])
    clear n3
    go_wp2
    go_ret
    exact ⟨ret_bool HI1.out, HW4.out⟩
  | true =>
  have N4 := Aside0.mk n3
  clear n3
  by_cases h8 : t.rules.length ≤ 8
  case neg =>
    have HI1 := Aside0.mk (show false = q by rw [← HI.out]; unfold rightT; rw [decide_eq_false h8, Bool.false_and, Bool.and_false, Bool.and_false, Bool.and_false])
    have g8 : decide ((8 : Int) < (t.rules.length : Int)) = true := decide_eq_true (by omega)
    clear h8
    go_wp2
    go_ret
    exact ⟨ret_bool HI1.out, HW4.out⟩
  have N8 := Aside0.mk h8
  have g8 : decide ((8 : Int) < (t.rules.length : Int)) = false := decide_eq_false (by omega)
  clear h8
  have HI1 := Aside0.mk ((rightT_tail N2.out N3.out N4.out N8.out N5.out).symm.trans HI.out)
  go_wp2
  clear o0 o1 t0 t1 t2 t3 t4
  go_loopw [5] (fun i w' => ∃ k : Nat, k ≤ t.rules.length ∧ i = .int .i64 k ∧ Aside0 ((∀ j, j < k → ruleOK ts t.cols (t.rules.getD j zRul) = true) ∧ (∀ j (h : j + 1 < t.rules.length), j + 1 < k → cmpS t.rules[j].name t.rules[j + 1].name < 0) ∧ BoxO w' w.heap.size As ss.length cs At ts.length ct ∧ BoxT w' (w.heap.size + 1) t A3 c3 A4 c4 ∧ Below w.heap.size w w')) (fun i _ => t.rules.length - (intOf i).toNat)
  case atStart => exact ⟨0, Nat.zero_le _, rfl, ⟨fun _ h => absurd h (Nat.not_lt_zero _), fun _ _ h => absurd h (Nat.not_lt_zero _), HO4.out, HT4.out, HW4.out⟩⟩
  case round =>
    obtain ⟨k, hk, rfl, HJ⟩ := hrel
    obtain ⟨o0, o1⟩ := HJ.out.2.2.1
    obtain ⟨t0, t1, t2, t3, t4⟩ := HJ.out.2.2.2.1
    have HJB := Aside0.mk HJ.out.2.2.2.2
    have hn8 := N8.out
    by_cases hlt : k < t.rules.length
    · obtain ⟨ad4, A5, c5, e, hd0, hd1, hd2, hd3, hd4, hd5, hd6, hd7, hs5, hs6⟩ := cRul (Kd.C_below H4.out HJB.out) k hlt
      cases e
      have hRF := Aside0.mk (HTF.out.2.2 _ (List.getElem_mem hlt))
      have HS2 := Aside0.mk (And.intro hs5 hs6)
      clear hs5 hs6
      have t3' : ∀ o, ((wr.alloc o).drew).cell? ⟨w.heap.size + 1, 3, none⟩ = some (.slice A3 t.cols.length c3) := fun o => pw_cell_below (below_alloc (Below.refl _ _) o) t3
      have t4' : ∀ o, ((wr.alloc o).drew).cell? ⟨w.heap.size + 1, 4, none⟩ = some (.slice (some ad4) t.rules.length c4) := fun o => pw_cell_below (below_alloc (Below.refl _ _) o) t4
      have HBX := Aside0.mk (BoxR_new wr t.rules[k] A5 c5)
      obtain ⟨b0, b1, b2, b3, b4, b5, b6, b7⟩ := (show BoxR ((wr.alloc (rulBox t.rules[k] A5 c5)).drew) wr.heap.size t.rules[k] A5 c5 from HBX.out)
      have HFI := Aside0.mk (fun W (hW : Below wr.heap.size wr W) => rFits.calls (A0 := A3) (c0 := c3) (A2 := A5) (c2 := c5) t.cols t.rules[k] W (Kd.C_below H3.out (HJB.out.trans (hW.mono HJB.out.size))) (by have := HTF.out.1; omega) (Kd.C_below HS2.out.2 hW) (by have := hRF.out.1; omega) HS2.out.1)
      have HKE := Aside0.mk (fun W (hW2 : Below wr.heap.size wr W) => rKey.calls (As := As) (ns := ss.length) (cs := cs) (At := At) (ct := ct) (A0 := A3) (c0 := c3) (A2 := A5) (c2 := c5) ts t.cols t.rules[k] W (Kd.C_below HT.out (HJB.out.trans (hW2.mono HJB.out.size))) HF.out (Kd.C_below H3.out (HJB.out.trans (hW2.mono HJB.out.size))) (by have := HTF.out.1; omega) (Kd.C_below HS2.out.2 hW2) hRF.out.1)
      have HE := Aside0.mk (show ruleOK ts t.cols (t.rules.getD k zRul) = (fitsB t.cols t.rules[k] && (t.rules[k].kind != 4 || keyE ts t.cols t.rules[k] == 0)) by rw [getD_at hlt]; rfl)
      have HNO := Aside0.mk (show ruleOK ts t.cols (t.rules.getD k zRul) = false → false = q from fun h => by rw [← HI1.out]; unfold rulesOK; rw [allB_false hlt h]; rfl)
      have HBOX := Aside0.mk (fun W (hW : Below wr.heap.size wr W) => And.intro (HJ.out.2.2.1.below hW) (And.intro (HJ.out.2.2.2.1.below hW) (HJB.out.trans (hW.mono HJB.out.size))))
      by_cases hk0 : k = 0
      · have hg : decide ((0 : Int) < (k : Int)) = false := decide_eq_false (by omega)
        have hg' : decide (0 < k) = false := decide_eq_false (by omega)
        have hg'' : ¬ 0 < k := by omega
        have HRI := Aside0.mk (show ∀ j (h : j + 1 < t.rules.length), j + 1 < k + 1 → cmpS t.rules[j].name t.rules[j + 1].name < 0 from fun j h h' => by omega)
        clear hk0
        have HN8 := Aside0.mk hn8
        cases f1 : fitsB t.cols t.rules[k] with
        | false =>
          have HI2 := Aside0.mk (HNO.out (HE.out.trans (by rw [f1, Bool.false_and])))
          rw [f1] at HFI
          clear f1
          go_wp2_with fail
          refine wp_region_held_drew (S := (fun w' => w'.cell? ⟨w.heap.size + 1, 3, none⟩ = some (.slice A3 t.cols.length c3) ∧ w'.cell? ⟨w.heap.size + 1, 4, none⟩ = some (.slice (some ad4) t.rules.length c4) ∧ w'.cell? ⟨wr.heap.size, 0, none⟩ = some (.string t.rules[k].name) ∧ w'.cell? ⟨wr.heap.size, 1, none⟩ = some (.int .i64 t.rules[k].kind) ∧ w'.cell? ⟨wr.heap.size, 2, none⟩ = some (.slice A5 t.rules[k].cols.length c5) ∧ w'.cell? ⟨wr.heap.size, 3, none⟩ = some (.int .i64 t.rules[k].low) ∧ w'.cell? ⟨wr.heap.size, 4, none⟩ = some (.int .i64 t.rules[k].high) ∧ w'.cell? ⟨wr.heap.size, 5, none⟩ = some (.string t.rules[k].schema) ∧ w'.cell? ⟨wr.heap.size, 6, none⟩ = some (.string t.rules[k].table) ∧ w'.cell? ⟨wr.heap.size, 7, none⟩ = some (.string t.rules[k].key) ∧ Below wr.heap.size wr w')) (by kernel_rfl) ⟨t3' _, t4' _, b0, b1, b2, b3, b4, b5, b6, b7, pw_below_drewN (below_alloc (Below.refl _ _) _) 1⟩ (fun hHeld0 => ?_)
          refine wpAnyH_take (i := 0) (oi := { dst := some 48, op := _, type := _, pos := _, after := _, guard := _ }) (v := ?v0x8) rfl (by kernel_rfl) (by kernel_rfl) (by kernel_rfl) (fun _ _ _ h => h) (Or.inl ⟨by kernel_rfl, ?hy0x8⟩) hHeld0 ?rest0x8
          case hy0x8 => (intro w hSw; (try dsimp only at hSw); go_simp; (first | done | with_reducible rfl))
          try simp only [Act.put, List.setIfInBounds_toArray, List.set_cons_zero, List.set_cons_succ]
          refine wpAnyH_take (i := 1) (oi := { dst := some 49, op := _, type := _, pos := _, after := _, guard := _ }) (v := ?v1x8) rfl (by kernel_rfl) (by kernel_rfl) (by kernel_rfl) (fun _ _ _ h => h) (Or.inl ⟨by kernel_rfl, ?hy1x8⟩) hHeld0 ?rest1x8
          case hy1x8 => (intro w hSw; (try dsimp only at hSw); go_simp; (first | done | with_reducible rfl))
          try simp only [Act.put, List.setIfInBounds_toArray, List.set_cons_zero, List.set_cons_succ]
          refine wpAnyH_take (i := 2) (oi := { dst := some 50, op := _, type := _, pos := _, after := _, guard := _ }) (v := ?v2x8) rfl (by kernel_rfl) (by kernel_rfl) (by kernel_rfl) (fun _ _ _ h => h) (Or.inl ⟨by kernel_rfl, ?hy2x8⟩) hHeld0 ?rest2x8
          case hy2x8 => (intro w hSw; (try dsimp only at hSw); go_simp; (first | done | with_reducible rfl))
          try simp only [Act.put, List.setIfInBounds_toArray, List.set_cons_zero, List.set_cons_succ]
          refine wpAnyH_take (i := 3) (oi := { dst := some 51, op := _, type := _, pos := _, after := _, guard := _ }) (v := undef) rfl (by kernel_rfl) (by kernel_rfl) (by kernel_rfl) (fun _ _ _ h => h) (Or.inr ⟨by kernel_rfl, rfl⟩) hHeld0 ?_
          try simp only [Act.put, List.setIfInBounds_toArray, List.set_cons_zero, List.set_cons_succ]
          refine wpAnyH_take (i := 4) (oi := { dst := some 52, op := _, type := _, pos := _, after := _, guard := _ }) (v := undef) rfl (by kernel_rfl) (by kernel_rfl) (by kernel_rfl) (fun _ _ _ h => h) (Or.inr ⟨by kernel_rfl, rfl⟩) hHeld0 ?_
          try simp only [Act.put, List.setIfInBounds_toArray, List.set_cons_zero, List.set_cons_succ]
          refine wpAnyH_take (i := 5) (oi := { dst := some 53, op := _, type := _, pos := _, after := _, guard := _ }) (v := undef) rfl (by kernel_rfl) (by kernel_rfl) (by kernel_rfl) (fun _ _ _ h => h) (Or.inr ⟨by kernel_rfl, rfl⟩) hHeld0 ?_
          try simp only [Act.put, List.setIfInBounds_toArray, List.set_cons_zero, List.set_cons_succ]
          refine wpAnyH_take (i := 6) (oi := { dst := some 54, op := _, type := _, pos := _, after := _, guard := _ }) (v := undef) rfl (by kernel_rfl) (by kernel_rfl) (by kernel_rfl) (fun _ _ _ h => h) (Or.inr ⟨by kernel_rfl, rfl⟩) hHeld0 ?_
          try simp only [Act.put, List.setIfInBounds_toArray, List.set_cons_zero, List.set_cons_succ]
          refine wpAnyH_take (i := 7) (oi := { dst := some 55, op := _, type := _, pos := _, after := _, guard := _ }) (v := undef) rfl (by kernel_rfl) (by kernel_rfl) (by kernel_rfl) (fun _ _ _ h => h) (Or.inr ⟨by kernel_rfl, rfl⟩) hHeld0 ?_
          try simp only [Act.put, List.setIfInBounds_toArray, List.set_cons_zero, List.set_cons_succ]
          refine wpAnyH_take (i := 8) (oi := { dst := some 56, op := _, type := _, pos := _, after := _, guard := _ }) (v := undef) rfl (by kernel_rfl) (by kernel_rfl) (by kernel_rfl) (fun _ _ _ h => h) (Or.inr ⟨by kernel_rfl, rfl⟩) hHeld0 ?_
          try simp only [Act.put, List.setIfInBounds_toArray, List.set_cons_zero, List.set_cons_succ]
          refine wpAnyH_take (i := 9) (oi := { dst := some 57, op := _, type := _, pos := _, after := _, guard := _ }) (v := undef) rfl (by kernel_rfl) (by kernel_rfl) (by kernel_rfl) (fun _ _ _ h => h) (Or.inr ⟨by kernel_rfl, rfl⟩) hHeld0 ?_
          try simp only [Act.put, List.setIfInBounds_toArray, List.set_cons_zero, List.set_cons_succ]
          refine wpAnyH_take (i := 10) (oi := { dst := some 58, op := _, type := _, pos := _, after := _, guard := _ }) (v := undef) rfl (by kernel_rfl) (by kernel_rfl) (by kernel_rfl) (fun _ _ _ h => h) (Or.inr ⟨by kernel_rfl, rfl⟩) hHeld0 ?_
          try simp only [Act.put, List.setIfInBounds_toArray, List.set_cons_zero, List.set_cons_succ]
          refine wpAnyH_take (i := 11) (oi := { dst := some 59, op := _, type := _, pos := _, after := _, guard := _ }) (v := undef) rfl (by kernel_rfl) (by kernel_rfl) (by kernel_rfl) (fun _ _ _ h => h) (Or.inr ⟨by kernel_rfl, rfl⟩) hHeld0 ?_
          try simp only [Act.put, List.setIfInBounds_toArray, List.set_cons_zero, List.set_cons_succ]
          refine wpAnyH_take (i := 12) (oi := { dst := some 60, op := _, type := _, pos := _, after := _, guard := _ }) (v := undef) rfl (by kernel_rfl) (by kernel_rfl) (by kernel_rfl) (fun _ _ _ h => h) (Or.inr ⟨by kernel_rfl, rfl⟩) hHeld0 ?_
          try simp only [Act.put, List.setIfInBounds_toArray, List.set_cons_zero, List.set_cons_succ]
          refine wpAnyH_take (i := 13) (oi := { dst := some 61, op := _, type := _, pos := _, after := _, guard := _ }) (v := ?v13x8) rfl (by kernel_rfl) (by kernel_rfl) (by kernel_rfl) (fun _ _ _ h => h) (Or.inl ⟨by kernel_rfl, ?hy13x8⟩) hHeld0 ?rest13x8
          case hy13x8 => (intro w hSw; (try dsimp only at hSw); go_simp; (first | done | with_reducible rfl))
          try simp only [Act.put, List.setIfInBounds_toArray, List.set_cons_zero, List.set_cons_succ]
          refine wpAnyH_take (i := 14) (oi := { dst := some 62, op := _, type := _, pos := _, after := _, guard := _ }) (v := ?v14x8) rfl (by kernel_rfl) (by kernel_rfl) (by kernel_rfl) (fun _ _ _ h => h) (Or.inl ⟨by kernel_rfl, ?hy14x8⟩) hHeld0 ?rest14x8
          case hy14x8 => (intro w hSw; (try dsimp only at hSw); go_simp; (first | done | with_reducible rfl))
          try simp only [Act.put, List.setIfInBounds_toArray, List.set_cons_zero, List.set_cons_succ]
          refine wpAnyH_take (i := 15) (oi := { dst := some 63, op := _, type := _, pos := _, after := _, guard := _ }) (v := ?v15x8) rfl (by kernel_rfl) (by kernel_rfl) (by kernel_rfl) (fun _ _ _ h => h) (Or.inl ⟨by kernel_rfl, ?hy15x8⟩) hHeld0 ?rest15x8
          case hy15x8 => (intro w hSw; (try dsimp only at hSw); go_simp; (first | done | with_reducible rfl))
          try simp only [Act.put, List.setIfInBounds_toArray, List.set_cons_zero, List.set_cons_succ]
          refine wpAnyH_take (i := 16) (oi := { dst := some 64, op := _, type := _, pos := _, after := _, guard := _ }) (v := ?v16x8) rfl (by kernel_rfl) (by kernel_rfl) (by kernel_rfl) (fun _ _ _ h => h) (Or.inl ⟨by kernel_rfl, ?hy16x8⟩) hHeld0 ?rest16x8
          case hy16x8 => (intro w hSw; (try dsimp only at hSw); go_simp; (first | done | with_reducible rfl))
          try simp only [Act.put, List.setIfInBounds_toArray, List.set_cons_zero, List.set_cons_succ]
          refine wpAnyH_take (i := 17) (oi := { dst := some 65, op := _, type := _, pos := _, after := _, guard := _ }) (v := ?v17x8) rfl (by kernel_rfl) (by kernel_rfl) (by kernel_rfl) (fun _ _ _ h => h) (Or.inl ⟨by kernel_rfl, ?hy17x8⟩) hHeld0 ?rest17x8
          case hy17x8 => (intro w hSw; (try dsimp only at hSw); go_simp; (first | done | with_reducible rfl))
          try simp only [Act.put, List.setIfInBounds_toArray, List.set_cons_zero, List.set_cons_succ]
          refine wpAnyH_ready (rs := [18]) (by kernel_rfl) (by simp) ?_
          refine AllReadyH.cons (o := { dst := some 66, op := _, type := _, pos := _, after := _, guard := _ }) rfl (fun K hK => ?_) AllReadyH.nil
          go_simp
          (go_at_call 95; refine (HFI.out _ (hHeld0.2.2.2.2.2.2.2.2.2.2)).mono ?_; rintro e w' ⟨rfl, hb⟩)
          refine hK.out _ _ (keepC10 hHeld0 hb) (fun hHeld1 => ?_)
          clear hK K hHeld0
          try simp only [Act.put, List.setIfInBounds_toArray, List.set_cons_zero, List.set_cons_succ]
          refine wpAnyH_take (i := 19) (oi := { dst := some 67, op := _, type := _, pos := _, after := _, guard := _ }) (v := ?v19x8) rfl (by kernel_rfl) (by kernel_rfl) (by kernel_rfl) (fun _ _ _ h => h) (Or.inl ⟨by kernel_rfl, ?hy19x8⟩) hHeld1 ?rest19x8
          case hy19x8 => (intro w hSw; (try dsimp only at hSw); go_simp; (first | done | with_reducible rfl))
          try simp only [Act.put, List.setIfInBounds_toArray, List.set_cons_zero, List.set_cons_succ]
          refine wpAnyH_take (i := 20) (oi := { dst := some 68, op := _, type := _, pos := _, after := _, guard := _ }) (v := ?v20x8) rfl (by kernel_rfl) (by kernel_rfl) (by kernel_rfl) (fun _ _ _ h => h) (Or.inl ⟨by kernel_rfl, ?hy20x8⟩) hHeld1 ?rest20x8
          case hy20x8 => (intro w hSw; (try dsimp only at hSw); go_simp; (first | done | with_reducible rfl))
          try simp only [Act.put, List.setIfInBounds_toArray, List.set_cons_zero, List.set_cons_succ]
          refine wpAnyH_done (by kernel_rfl) ?_ _
          have hH := hHeld1
          clear hHeld1
          have HB := Aside0.mk (HBOX.out _ hH.2.2.2.2.2.2.2.2.2.2)
          clear hH
          go_wp2
          go_ret
          exact ⟨ret_bool HI2.out, HB.out.2.2⟩
        | true =>
          have F1 := Aside0.mk f1
          rw [f1] at HFI
          clear f1
          go_wp2_with fail
          refine wp_region_held_drew (S := (fun w' => w'.cell? ⟨w.heap.size + 1, 3, none⟩ = some (.slice A3 t.cols.length c3) ∧ w'.cell? ⟨w.heap.size + 1, 4, none⟩ = some (.slice (some ad4) t.rules.length c4) ∧ w'.cell? ⟨wr.heap.size, 0, none⟩ = some (.string t.rules[k].name) ∧ w'.cell? ⟨wr.heap.size, 1, none⟩ = some (.int .i64 t.rules[k].kind) ∧ w'.cell? ⟨wr.heap.size, 2, none⟩ = some (.slice A5 t.rules[k].cols.length c5) ∧ w'.cell? ⟨wr.heap.size, 3, none⟩ = some (.int .i64 t.rules[k].low) ∧ w'.cell? ⟨wr.heap.size, 4, none⟩ = some (.int .i64 t.rules[k].high) ∧ w'.cell? ⟨wr.heap.size, 5, none⟩ = some (.string t.rules[k].schema) ∧ w'.cell? ⟨wr.heap.size, 6, none⟩ = some (.string t.rules[k].table) ∧ w'.cell? ⟨wr.heap.size, 7, none⟩ = some (.string t.rules[k].key) ∧ Below wr.heap.size wr w')) (by kernel_rfl) ⟨t3' _, t4' _, b0, b1, b2, b3, b4, b5, b6, b7, pw_below_drewN (below_alloc (Below.refl _ _) _) 1⟩ (fun hHeld0 => ?_)
          refine wpAnyH_take (i := 0) (oi := { dst := some 48, op := _, type := _, pos := _, after := _, guard := _ }) (v := ?v0x9) rfl (by kernel_rfl) (by kernel_rfl) (by kernel_rfl) (fun _ _ _ h => h) (Or.inl ⟨by kernel_rfl, ?hy0x9⟩) hHeld0 ?rest0x9
          case hy0x9 => (intro w hSw; (try dsimp only at hSw); go_simp; (first | done | with_reducible rfl))
          try simp only [Act.put, List.setIfInBounds_toArray, List.set_cons_zero, List.set_cons_succ]
          refine wpAnyH_take (i := 1) (oi := { dst := some 49, op := _, type := _, pos := _, after := _, guard := _ }) (v := ?v1x9) rfl (by kernel_rfl) (by kernel_rfl) (by kernel_rfl) (fun _ _ _ h => h) (Or.inl ⟨by kernel_rfl, ?hy1x9⟩) hHeld0 ?rest1x9
          case hy1x9 => (intro w hSw; (try dsimp only at hSw); go_simp; (first | done | with_reducible rfl))
          try simp only [Act.put, List.setIfInBounds_toArray, List.set_cons_zero, List.set_cons_succ]
          refine wpAnyH_take (i := 2) (oi := { dst := some 50, op := _, type := _, pos := _, after := _, guard := _ }) (v := ?v2x9) rfl (by kernel_rfl) (by kernel_rfl) (by kernel_rfl) (fun _ _ _ h => h) (Or.inl ⟨by kernel_rfl, ?hy2x9⟩) hHeld0 ?rest2x9
          case hy2x9 => (intro w hSw; (try dsimp only at hSw); go_simp; (first | done | with_reducible rfl))
          try simp only [Act.put, List.setIfInBounds_toArray, List.set_cons_zero, List.set_cons_succ]
          refine wpAnyH_take (i := 3) (oi := { dst := some 51, op := _, type := _, pos := _, after := _, guard := _ }) (v := undef) rfl (by kernel_rfl) (by kernel_rfl) (by kernel_rfl) (fun _ _ _ h => h) (Or.inr ⟨by kernel_rfl, rfl⟩) hHeld0 ?_
          try simp only [Act.put, List.setIfInBounds_toArray, List.set_cons_zero, List.set_cons_succ]
          refine wpAnyH_take (i := 4) (oi := { dst := some 52, op := _, type := _, pos := _, after := _, guard := _ }) (v := undef) rfl (by kernel_rfl) (by kernel_rfl) (by kernel_rfl) (fun _ _ _ h => h) (Or.inr ⟨by kernel_rfl, rfl⟩) hHeld0 ?_
          try simp only [Act.put, List.setIfInBounds_toArray, List.set_cons_zero, List.set_cons_succ]
          refine wpAnyH_take (i := 5) (oi := { dst := some 53, op := _, type := _, pos := _, after := _, guard := _ }) (v := undef) rfl (by kernel_rfl) (by kernel_rfl) (by kernel_rfl) (fun _ _ _ h => h) (Or.inr ⟨by kernel_rfl, rfl⟩) hHeld0 ?_
          try simp only [Act.put, List.setIfInBounds_toArray, List.set_cons_zero, List.set_cons_succ]
          refine wpAnyH_take (i := 6) (oi := { dst := some 54, op := _, type := _, pos := _, after := _, guard := _ }) (v := undef) rfl (by kernel_rfl) (by kernel_rfl) (by kernel_rfl) (fun _ _ _ h => h) (Or.inr ⟨by kernel_rfl, rfl⟩) hHeld0 ?_
          try simp only [Act.put, List.setIfInBounds_toArray, List.set_cons_zero, List.set_cons_succ]
          refine wpAnyH_take (i := 7) (oi := { dst := some 55, op := _, type := _, pos := _, after := _, guard := _ }) (v := undef) rfl (by kernel_rfl) (by kernel_rfl) (by kernel_rfl) (fun _ _ _ h => h) (Or.inr ⟨by kernel_rfl, rfl⟩) hHeld0 ?_
          try simp only [Act.put, List.setIfInBounds_toArray, List.set_cons_zero, List.set_cons_succ]
          refine wpAnyH_take (i := 8) (oi := { dst := some 56, op := _, type := _, pos := _, after := _, guard := _ }) (v := undef) rfl (by kernel_rfl) (by kernel_rfl) (by kernel_rfl) (fun _ _ _ h => h) (Or.inr ⟨by kernel_rfl, rfl⟩) hHeld0 ?_
          try simp only [Act.put, List.setIfInBounds_toArray, List.set_cons_zero, List.set_cons_succ]
          refine wpAnyH_take (i := 9) (oi := { dst := some 57, op := _, type := _, pos := _, after := _, guard := _ }) (v := undef) rfl (by kernel_rfl) (by kernel_rfl) (by kernel_rfl) (fun _ _ _ h => h) (Or.inr ⟨by kernel_rfl, rfl⟩) hHeld0 ?_
          try simp only [Act.put, List.setIfInBounds_toArray, List.set_cons_zero, List.set_cons_succ]
          refine wpAnyH_take (i := 10) (oi := { dst := some 58, op := _, type := _, pos := _, after := _, guard := _ }) (v := undef) rfl (by kernel_rfl) (by kernel_rfl) (by kernel_rfl) (fun _ _ _ h => h) (Or.inr ⟨by kernel_rfl, rfl⟩) hHeld0 ?_
          try simp only [Act.put, List.setIfInBounds_toArray, List.set_cons_zero, List.set_cons_succ]
          refine wpAnyH_take (i := 11) (oi := { dst := some 59, op := _, type := _, pos := _, after := _, guard := _ }) (v := undef) rfl (by kernel_rfl) (by kernel_rfl) (by kernel_rfl) (fun _ _ _ h => h) (Or.inr ⟨by kernel_rfl, rfl⟩) hHeld0 ?_
          try simp only [Act.put, List.setIfInBounds_toArray, List.set_cons_zero, List.set_cons_succ]
          refine wpAnyH_take (i := 12) (oi := { dst := some 60, op := _, type := _, pos := _, after := _, guard := _ }) (v := undef) rfl (by kernel_rfl) (by kernel_rfl) (by kernel_rfl) (fun _ _ _ h => h) (Or.inr ⟨by kernel_rfl, rfl⟩) hHeld0 ?_
          try simp only [Act.put, List.setIfInBounds_toArray, List.set_cons_zero, List.set_cons_succ]
          refine wpAnyH_take (i := 13) (oi := { dst := some 61, op := _, type := _, pos := _, after := _, guard := _ }) (v := ?v13x9) rfl (by kernel_rfl) (by kernel_rfl) (by kernel_rfl) (fun _ _ _ h => h) (Or.inl ⟨by kernel_rfl, ?hy13x9⟩) hHeld0 ?rest13x9
          case hy13x9 => (intro w hSw; (try dsimp only at hSw); go_simp; (first | done | with_reducible rfl))
          try simp only [Act.put, List.setIfInBounds_toArray, List.set_cons_zero, List.set_cons_succ]
          refine wpAnyH_take (i := 14) (oi := { dst := some 62, op := _, type := _, pos := _, after := _, guard := _ }) (v := ?v14x9) rfl (by kernel_rfl) (by kernel_rfl) (by kernel_rfl) (fun _ _ _ h => h) (Or.inl ⟨by kernel_rfl, ?hy14x9⟩) hHeld0 ?rest14x9
          case hy14x9 => (intro w hSw; (try dsimp only at hSw); go_simp; (first | done | with_reducible rfl))
          try simp only [Act.put, List.setIfInBounds_toArray, List.set_cons_zero, List.set_cons_succ]
          refine wpAnyH_take (i := 15) (oi := { dst := some 63, op := _, type := _, pos := _, after := _, guard := _ }) (v := ?v15x9) rfl (by kernel_rfl) (by kernel_rfl) (by kernel_rfl) (fun _ _ _ h => h) (Or.inl ⟨by kernel_rfl, ?hy15x9⟩) hHeld0 ?rest15x9
          case hy15x9 => (intro w hSw; (try dsimp only at hSw); go_simp; (first | done | with_reducible rfl))
          try simp only [Act.put, List.setIfInBounds_toArray, List.set_cons_zero, List.set_cons_succ]
          refine wpAnyH_take (i := 16) (oi := { dst := some 64, op := _, type := _, pos := _, after := _, guard := _ }) (v := ?v16x9) rfl (by kernel_rfl) (by kernel_rfl) (by kernel_rfl) (fun _ _ _ h => h) (Or.inl ⟨by kernel_rfl, ?hy16x9⟩) hHeld0 ?rest16x9
          case hy16x9 => (intro w hSw; (try dsimp only at hSw); go_simp; (first | done | with_reducible rfl))
          try simp only [Act.put, List.setIfInBounds_toArray, List.set_cons_zero, List.set_cons_succ]
          refine wpAnyH_take (i := 17) (oi := { dst := some 65, op := _, type := _, pos := _, after := _, guard := _ }) (v := ?v17x9) rfl (by kernel_rfl) (by kernel_rfl) (by kernel_rfl) (fun _ _ _ h => h) (Or.inl ⟨by kernel_rfl, ?hy17x9⟩) hHeld0 ?rest17x9
          case hy17x9 => (intro w hSw; (try dsimp only at hSw); go_simp; (first | done | with_reducible rfl))
          try simp only [Act.put, List.setIfInBounds_toArray, List.set_cons_zero, List.set_cons_succ]
          refine wpAnyH_ready (rs := [18]) (by kernel_rfl) (by simp) ?_
          refine AllReadyH.cons (o := { dst := some 66, op := _, type := _, pos := _, after := _, guard := _ }) rfl (fun K hK => ?_) AllReadyH.nil
          go_simp
          (go_at_call 95; refine (HFI.out _ (hHeld0.2.2.2.2.2.2.2.2.2.2)).mono ?_; rintro e w' ⟨rfl, hb⟩)
          refine hK.out _ _ (keepC10 hHeld0 hb) (fun hHeld1 => ?_)
          clear hK K hHeld0
          try simp only [Act.put, List.setIfInBounds_toArray, List.set_cons_zero, List.set_cons_succ]
          refine wpAnyH_take (i := 19) (oi := { dst := some 67, op := _, type := _, pos := _, after := _, guard := _ }) (v := ?v19x9) rfl (by kernel_rfl) (by kernel_rfl) (by kernel_rfl) (fun _ _ _ h => h) (Or.inl ⟨by kernel_rfl, ?hy19x9⟩) hHeld1 ?rest19x9
          case hy19x9 => (intro w hSw; (try dsimp only at hSw); go_simp; (first | done | with_reducible rfl))
          try simp only [Act.put, List.setIfInBounds_toArray, List.set_cons_zero, List.set_cons_succ]
          refine wpAnyH_take (i := 20) (oi := { dst := some 68, op := _, type := _, pos := _, after := _, guard := _ }) (v := ?v20x9) rfl (by kernel_rfl) (by kernel_rfl) (by kernel_rfl) (fun _ _ _ h => h) (Or.inl ⟨by kernel_rfl, ?hy20x9⟩) hHeld1 ?rest20x9
          case hy20x9 => (intro w hSw; (try dsimp only at hSw); go_simp; (first | done | with_reducible rfl))
          try simp only [Act.put, List.setIfInBounds_toArray, List.set_cons_zero, List.set_cons_succ]
          refine wpAnyH_done (by kernel_rfl) ?_ _
          have hH := hHeld1
          clear hHeld1
          have HB := Aside0.mk (HBOX.out _ hH.2.2.2.2.2.2.2.2.2.2)
          have HBL := Aside0.mk hH.2.2.2.2.2.2.2.2.2.2
          clear b0 b1 b2 b3 b4 b5 b6 b7 hd0 hd1 hd2 hd3 hd4 hd5 hd6 hd7 o0 o1 t0 t1 t2 t3 t4 t3' t4'
          obtain ⟨x3, x4, b0, b1, b2, b3, b4, b5, b6, b7, x11⟩ := hH
          clear x11 x3 x4
          obtain ⟨o0, o1⟩ := HB.out.1
          obtain ⟨t0, t1, t2, t3, t4⟩ := HB.out.2.1
          cases k4 : (t.rules[k].kind == 4) with
          | false =>
            have HQ := Aside0.mk (show ruleOK ts t.cols (t.rules.getD (k) zRul) = true from HE.out.trans (by rw [F1.out, show (t.rules[k].kind != 4) = true by simpa using k4]; rfl))
            go_wp2
            go_roundw
            case rel => exact ⟨k + 1, by omega, by go_num, ⟨snocB (f := fun i => ruleOK ts t.cols (t.rules.getD i zRul)) HJ.out.1 HQ.out, HRI.out, HB.out.1, HB.out.2.1, HB.out.2.2⟩⟩
            case measure => simp [intOf]; omega
          | true =>
            have K4 := Aside0.mk (show (t.rules[k].kind != 4) = false by simpa using k4)
            go_wp2_with fail
            refine (HKE.out _ HBL.out).mono ?_
            rintro e w9 ⟨rfl, hb9⟩
            have HB9 := Aside0.mk (HBOX.out _ (HBL.out.trans (hb9.mono HBL.out.size)))
            clear hb9
            cases ke : (keyE ts t.cols t.rules[k] != 0) with
            | true =>
              have HI2 := Aside0.mk (HNO.out (HE.out.trans (by rw [F1.out, K4.out, show (keyE ts t.cols t.rules[k] == 0) = false by simpa using ke]; rfl)))
              go_wp2
              go_ret
              exact ⟨ret_bool HI2.out, HB9.out.2.2⟩
            | false =>
              have HQ := Aside0.mk (show ruleOK ts t.cols (t.rules.getD (k) zRul) = true from HE.out.trans (by rw [F1.out, K4.out, show (keyE ts t.cols t.rules[k] == 0) = true by simpa using ke]; rfl))
              go_wp2
              go_roundw
              case rel => exact ⟨k + 1, by omega, by go_num, ⟨snocB (f := fun i => ruleOK ts t.cols (t.rules.getD i zRul)) HJ.out.1 HQ.out, HRI.out, HB9.out.1, HB9.out.2.1, HB9.out.2.2⟩⟩
              case measure => simp [intOf]; omega
      · obtain ⟨j, rfl⟩ : ∃ j, k = j + 1 := ⟨k - 1, by omega⟩
        clear hk0
        obtain ⟨ad', C5, d5, e, p0', p1', p2', p3', p4', p5', p6', p7', ps1, ps2⟩ := cRul (Kd.C_below H4.out HJB.out) j (by omega)
        cases e
        clear ps1 ps2 p1' p2' p3' p4' p5' p6' p7'
        have p0 : ((wr.alloc (rulBox t.rules[j + 1] A5 c5)).drew).cell? (ad4.add (j * 8)) = some (.string t.rules[j].name) := pw_cell_below (below_alloc (Below.refl _ _) _) p0'
        have hg : decide ((0 : Int) < (j : Int) + 1) = true := decide_eq_true (by omega)
        have hs1 : IntKind.i64.wrap ((j : Int) + 1 - 1) = (j : Int) := by rw [Int.add_sub_cancel]; exact IntWalk.i64_in _ (by omega)
        have hs2 : IntKind.i64.wrap (j : Int) = (j : Int) := IntWalk.i64_in _ (by omega)
        have hz1 : (j : Int) < (t.rules.length : Int) := by omega
        cases hl : Op.bytesLess t.rules[j].name.toList t.rules[j + 1].name.toList with
        | false =>
          have HQ := Aside0.mk (show false = q by
            rw [← HI1.out]
            rw [rises_no (fun x y : Rul => cmpS x.name y.name) t.rules j hlt (fun h => by have h2 := less_S t.rules[j].name t.rules[j + 1].name; rw [hl] at h2; exact absurd h (of_decide_eq_false h2.symm)), Bool.and_false])
          go_wp2_with fail
          refine wp_region_held_drew (S := (fun w' => w'.cell? ⟨w.heap.size + 1, 3, none⟩ = some (.slice A3 t.cols.length c3) ∧ w'.cell? ⟨w.heap.size + 1, 4, none⟩ = some (.slice (some ad4) t.rules.length c4) ∧ w'.cell? ⟨wr.heap.size, 0, none⟩ = some (.string t.rules[j + 1].name) ∧ w'.cell? ⟨wr.heap.size, 1, none⟩ = some (.int .i64 t.rules[j + 1].kind) ∧ w'.cell? ⟨wr.heap.size, 2, none⟩ = some (.slice A5 t.rules[j + 1].cols.length c5) ∧ w'.cell? ⟨wr.heap.size, 3, none⟩ = some (.int .i64 t.rules[j + 1].low) ∧ w'.cell? ⟨wr.heap.size, 4, none⟩ = some (.int .i64 t.rules[j + 1].high) ∧ w'.cell? ⟨wr.heap.size, 5, none⟩ = some (.string t.rules[j + 1].schema) ∧ w'.cell? ⟨wr.heap.size, 6, none⟩ = some (.string t.rules[j + 1].table) ∧ w'.cell? ⟨wr.heap.size, 7, none⟩ = some (.string t.rules[j + 1].key) ∧ w'.cell? (ad4.add (j * 8)) = some (.string t.rules[j].name) ∧ Below wr.heap.size wr w')) (by kernel_rfl) ⟨t3' _, t4' _, b0, b1, b2, b3, b4, b5, b6, b7, p0, pw_below_drewN (below_alloc (Below.refl _ _) _) 1⟩ (fun hHeld0 => ?_)
          refine wpAnyH_take (i := 0) (oi := { dst := some 48, op := _, type := _, pos := _, after := _, guard := _ }) (v := ?v0x10) rfl (by kernel_rfl) (by kernel_rfl) (by kernel_rfl) (fun _ _ _ h => h) (Or.inl ⟨by kernel_rfl, ?hy0x10⟩) hHeld0 ?rest0x10
          case hy0x10 => (intro w hSw; (try dsimp only at hSw); go_simp; (first | done | with_reducible rfl))
          try simp only [Act.put, List.setIfInBounds_toArray, List.set_cons_zero, List.set_cons_succ]
          refine wpAnyH_take (i := 1) (oi := { dst := some 49, op := _, type := _, pos := _, after := _, guard := _ }) (v := ?v1x10) rfl (by kernel_rfl) (by kernel_rfl) (by kernel_rfl) (fun _ _ _ h => h) (Or.inl ⟨by kernel_rfl, ?hy1x10⟩) hHeld0 ?rest1x10
          case hy1x10 => (intro w hSw; (try dsimp only at hSw); go_simp; (first | done | with_reducible rfl))
          try simp only [Act.put, List.setIfInBounds_toArray, List.set_cons_zero, List.set_cons_succ]
          refine wpAnyH_take (i := 2) (oi := { dst := some 50, op := _, type := _, pos := _, after := _, guard := _ }) (v := ?v2x10) rfl (by kernel_rfl) (by kernel_rfl) (by kernel_rfl) (fun _ _ _ h => h) (Or.inl ⟨by kernel_rfl, ?hy2x10⟩) hHeld0 ?rest2x10
          case hy2x10 => (intro w hSw; (try dsimp only at hSw); go_simp; (first | done | with_reducible rfl))
          try simp only [Act.put, List.setIfInBounds_toArray, List.set_cons_zero, List.set_cons_succ]
          refine wpAnyH_take (i := 3) (oi := { dst := some 51, op := _, type := _, pos := _, after := _, guard := _ }) (v := ?v3x10) rfl (by kernel_rfl) (by kernel_rfl) (by kernel_rfl) (fun _ _ _ h => h) (Or.inl ⟨by kernel_rfl, ?hy3x10⟩) hHeld0 ?rest3x10
          case hy3x10 => (intro w hSw; (try dsimp only at hSw); go_simp; (first | done | with_reducible rfl))
          try simp only [Act.put, List.setIfInBounds_toArray, List.set_cons_zero, List.set_cons_succ]
          refine wpAnyH_take (i := 4) (oi := { dst := some 52, op := _, type := _, pos := _, after := _, guard := _ }) (v := ?v4x10) rfl (by kernel_rfl) (by kernel_rfl) (by kernel_rfl) (fun _ _ _ h => h) (Or.inl ⟨by kernel_rfl, ?hy4x10⟩) hHeld0 ?rest4x10
          case hy4x10 => (intro w hSw; (try dsimp only at hSw); go_simp; (first | done | with_reducible rfl))
          try simp only [Act.put, List.setIfInBounds_toArray, List.set_cons_zero, List.set_cons_succ]
          refine wpAnyH_take (i := 5) (oi := { dst := some 53, op := _, type := _, pos := _, after := _, guard := _ }) (v := ?v5x10) rfl (by kernel_rfl) (by kernel_rfl) (by kernel_rfl) (fun _ _ _ h => h) (Or.inl ⟨by kernel_rfl, ?hy5x10⟩) hHeld0 ?rest5x10
          case hy5x10 => (intro w hSw; (try dsimp only at hSw); go_simp; (first | done | with_reducible rfl))
          try simp only [Act.put, List.setIfInBounds_toArray, List.set_cons_zero, List.set_cons_succ]
          refine wpAnyH_take (i := 6) (oi := { dst := some 54, op := _, type := _, pos := _, after := _, guard := _ }) (v := ?v6x10) rfl (by kernel_rfl) (by kernel_rfl) (by kernel_rfl) (fun _ _ _ h => h) (Or.inl ⟨by kernel_rfl, ?hy6x10⟩) hHeld0 ?rest6x10
          case hy6x10 => (intro w hSw; (try dsimp only at hSw); go_simp; (first | done | with_reducible rfl))
          try simp only [Act.put, List.setIfInBounds_toArray, List.set_cons_zero, List.set_cons_succ]
          refine wpAnyH_take (i := 7) (oi := { dst := some 55, op := _, type := _, pos := _, after := _, guard := _ }) (v := ?v7x10) rfl (by kernel_rfl) (by kernel_rfl) (by kernel_rfl) (fun _ _ _ h => h) (Or.inl ⟨by kernel_rfl, ?hy7x10⟩) hHeld0 ?rest7x10
          case hy7x10 => (intro w hSw; (try dsimp only at hSw); go_simp; (first | done | with_reducible rfl))
          try simp only [Act.put, List.setIfInBounds_toArray, List.set_cons_zero, List.set_cons_succ]
          refine wpAnyH_take (i := 8) (oi := { dst := some 56, op := _, type := _, pos := _, after := _, guard := _ }) (v := ?v8x10) rfl (by kernel_rfl) (by kernel_rfl) (by kernel_rfl) (fun _ _ _ h => h) (Or.inl ⟨by kernel_rfl, ?hy8x10⟩) hHeld0 ?rest8x10
          case hy8x10 => (intro w hSw; (try dsimp only at hSw); go_simp; (first | done | with_reducible rfl))
          try simp only [Act.put, List.setIfInBounds_toArray, List.set_cons_zero, List.set_cons_succ]
          refine wpAnyH_take (i := 9) (oi := { dst := some 57, op := _, type := _, pos := _, after := _, guard := _ }) (v := ?v9x10) rfl (by kernel_rfl) (by kernel_rfl) (by kernel_rfl) (fun _ _ _ h => h) (Or.inl ⟨by kernel_rfl, ?hy9x10⟩) hHeld0 ?rest9x10
          case hy9x10 => (intro w hSw; (try dsimp only at hSw); go_simp; (first | done | with_reducible rfl))
          try simp only [Act.put, List.setIfInBounds_toArray, List.set_cons_zero, List.set_cons_succ]
          refine wpAnyH_take (i := 10) (oi := { dst := some 58, op := _, type := _, pos := _, after := _, guard := _ }) (v := ?v10x10) rfl (by kernel_rfl) (by kernel_rfl) (by kernel_rfl) (fun _ _ _ h => h) (Or.inl ⟨by kernel_rfl, ?hy10x10⟩) hHeld0 ?rest10x10
          case hy10x10 => (intro w hSw; (try dsimp only at hSw); go_simp; (first | done | with_reducible rfl))
          try simp only [Act.put, List.setIfInBounds_toArray, List.set_cons_zero, List.set_cons_succ]
          refine wpAnyH_take (i := 11) (oi := { dst := some 59, op := _, type := _, pos := _, after := _, guard := _ }) (v := ?v11x10) rfl (by kernel_rfl) (by kernel_rfl) (by kernel_rfl) (fun _ _ _ h => h) (Or.inl ⟨by kernel_rfl, ?hy11x10⟩) hHeld0 ?rest11x10
          case hy11x10 => (intro w hSw; (try dsimp only at hSw); go_simp; (first | done | with_reducible rfl))
          try simp only [Act.put, List.setIfInBounds_toArray, List.set_cons_zero, List.set_cons_succ]
          refine wpAnyH_take (i := 12) (oi := { dst := some 60, op := _, type := _, pos := _, after := _, guard := _ }) (v := ?v12x10) rfl (by kernel_rfl) (by kernel_rfl) (by kernel_rfl) (fun _ _ _ h => h) (Or.inl ⟨by kernel_rfl, ?hy12x10⟩) hHeld0 ?rest12x10
          case hy12x10 => (intro w hSw; (try dsimp only at hSw); go_simp; (first | done | with_reducible rfl))
          try simp only [Act.put, List.setIfInBounds_toArray, List.set_cons_zero, List.set_cons_succ]
          refine wpAnyH_take (i := 13) (oi := { dst := some 61, op := _, type := _, pos := _, after := _, guard := _ }) (v := ?v13x10) rfl (by kernel_rfl) (by kernel_rfl) (by kernel_rfl) (fun _ _ _ h => h) (Or.inl ⟨by kernel_rfl, ?hy13x10⟩) hHeld0 ?rest13x10
          case hy13x10 => (intro w hSw; (try dsimp only at hSw); go_simp; (first | done | with_reducible rfl))
          try simp only [Act.put, List.setIfInBounds_toArray, List.set_cons_zero, List.set_cons_succ]
          refine wpAnyH_take (i := 14) (oi := { dst := some 62, op := _, type := _, pos := _, after := _, guard := _ }) (v := ?v14x10) rfl (by kernel_rfl) (by kernel_rfl) (by kernel_rfl) (fun _ _ _ h => h) (Or.inl ⟨by kernel_rfl, ?hy14x10⟩) hHeld0 ?rest14x10
          case hy14x10 => (intro w hSw; (try dsimp only at hSw); go_simp; (first | done | with_reducible rfl))
          try simp only [Act.put, List.setIfInBounds_toArray, List.set_cons_zero, List.set_cons_succ]
          refine wpAnyH_take (i := 15) (oi := { dst := some 63, op := _, type := _, pos := _, after := _, guard := _ }) (v := undef) rfl (by kernel_rfl) (by kernel_rfl) (by kernel_rfl) (fun _ _ _ h => h) (Or.inr ⟨by kernel_rfl, rfl⟩) hHeld0 ?_
          try simp only [Act.put, List.setIfInBounds_toArray, List.set_cons_zero, List.set_cons_succ]
          refine wpAnyH_take (i := 16) (oi := { dst := some 64, op := _, type := _, pos := _, after := _, guard := _ }) (v := undef) rfl (by kernel_rfl) (by kernel_rfl) (by kernel_rfl) (fun _ _ _ h => h) (Or.inr ⟨by kernel_rfl, rfl⟩) hHeld0 ?_
          try simp only [Act.put, List.setIfInBounds_toArray, List.set_cons_zero, List.set_cons_succ]
          refine wpAnyH_take (i := 17) (oi := { dst := some 65, op := _, type := _, pos := _, after := _, guard := _ }) (v := undef) rfl (by kernel_rfl) (by kernel_rfl) (by kernel_rfl) (fun _ _ _ h => h) (Or.inr ⟨by kernel_rfl, rfl⟩) hHeld0 ?_
          try simp only [Act.put, List.setIfInBounds_toArray, List.set_cons_zero, List.set_cons_succ]
          refine wpAnyH_take (i := 18) (oi := { dst := some 66, op := _, type := _, pos := _, after := _, guard := _ }) (v := undef) rfl (by kernel_rfl) (by kernel_rfl) (by kernel_rfl) (fun _ _ _ h => h) (Or.inr ⟨by kernel_rfl, rfl⟩) hHeld0 ?_
          try simp only [Act.put, List.setIfInBounds_toArray, List.set_cons_zero, List.set_cons_succ]
          refine wpAnyH_take (i := 19) (oi := { dst := some 67, op := _, type := _, pos := _, after := _, guard := _ }) (v := undef) rfl (by kernel_rfl) (by kernel_rfl) (by kernel_rfl) (fun _ _ _ h => h) (Or.inr ⟨by kernel_rfl, rfl⟩) hHeld0 ?_
          try simp only [Act.put, List.setIfInBounds_toArray, List.set_cons_zero, List.set_cons_succ]
          refine wpAnyH_take (i := 20) (oi := { dst := some 68, op := _, type := _, pos := _, after := _, guard := _ }) (v := ?v20x10) rfl (by kernel_rfl) (by kernel_rfl) (by kernel_rfl) (fun _ _ _ h => h) (Or.inl ⟨by kernel_rfl, ?hy20x10⟩) hHeld0 ?rest20x10
          case hy20x10 => (intro w hSw; (try dsimp only at hSw); go_simp; (first | done | with_reducible rfl))
          try simp only [Act.put, List.setIfInBounds_toArray, List.set_cons_zero, List.set_cons_succ]
          refine wpAnyH_done (by kernel_rfl) ?_ _
          have hH := hHeld0
          clear hHeld0
          have HB := Aside0.mk (HBOX.out _ hH.2.2.2.2.2.2.2.2.2.2.2)
          clear hH
          go_wp2
          go_ret
          exact ⟨ret_bool HQ.out, HB.out.2.2⟩
        | true =>
        have HRI := Aside0.mk (show ∀ i (h : i + 1 < t.rules.length), i + 1 < j + 1 + 1 → cmpS t.rules[i].name t.rules[i + 1].name < 0 from fun i h h' => by
          rcases Nat.lt_or_ge i j with h3 | h3
          · exact HJ.out.2.1 i h (by omega)
          · obtain rfl : i = j := by omega
            have h2 := less_S t.rules[i].name t.rules[i + 1].name; rw [hl] at h2; exact of_decide_eq_true h2.symm)
        have HN8 := Aside0.mk hn8
        cases f1 : fitsB t.cols t.rules[j + 1] with
        | false =>
          have HI2 := Aside0.mk (HNO.out (HE.out.trans (by rw [f1, Bool.false_and])))
          rw [f1] at HFI
          clear f1
          go_wp2_with fail
          refine wp_region_held_drew (S := (fun w' => w'.cell? ⟨w.heap.size + 1, 3, none⟩ = some (.slice A3 t.cols.length c3) ∧ w'.cell? ⟨w.heap.size + 1, 4, none⟩ = some (.slice (some ad4) t.rules.length c4) ∧ w'.cell? ⟨wr.heap.size, 0, none⟩ = some (.string t.rules[j + 1].name) ∧ w'.cell? ⟨wr.heap.size, 1, none⟩ = some (.int .i64 t.rules[j + 1].kind) ∧ w'.cell? ⟨wr.heap.size, 2, none⟩ = some (.slice A5 t.rules[j + 1].cols.length c5) ∧ w'.cell? ⟨wr.heap.size, 3, none⟩ = some (.int .i64 t.rules[j + 1].low) ∧ w'.cell? ⟨wr.heap.size, 4, none⟩ = some (.int .i64 t.rules[j + 1].high) ∧ w'.cell? ⟨wr.heap.size, 5, none⟩ = some (.string t.rules[j + 1].schema) ∧ w'.cell? ⟨wr.heap.size, 6, none⟩ = some (.string t.rules[j + 1].table) ∧ w'.cell? ⟨wr.heap.size, 7, none⟩ = some (.string t.rules[j + 1].key) ∧ w'.cell? (ad4.add (j * 8)) = some (.string t.rules[j].name) ∧ Below wr.heap.size wr w')) (by kernel_rfl) ⟨t3' _, t4' _, b0, b1, b2, b3, b4, b5, b6, b7, p0, pw_below_drewN (below_alloc (Below.refl _ _) _) 1⟩ (fun hHeld0 => ?_)
          refine wpAnyH_take (i := 0) (oi := { dst := some 48, op := _, type := _, pos := _, after := _, guard := _ }) (v := ?v0x11) rfl (by kernel_rfl) (by kernel_rfl) (by kernel_rfl) (fun _ _ _ h => h) (Or.inl ⟨by kernel_rfl, ?hy0x11⟩) hHeld0 ?rest0x11
          case hy0x11 => (intro w hSw; (try dsimp only at hSw); go_simp; (first | done | with_reducible rfl))
          try simp only [Act.put, List.setIfInBounds_toArray, List.set_cons_zero, List.set_cons_succ]
          refine wpAnyH_take (i := 1) (oi := { dst := some 49, op := _, type := _, pos := _, after := _, guard := _ }) (v := ?v1x11) rfl (by kernel_rfl) (by kernel_rfl) (by kernel_rfl) (fun _ _ _ h => h) (Or.inl ⟨by kernel_rfl, ?hy1x11⟩) hHeld0 ?rest1x11
          case hy1x11 => (intro w hSw; (try dsimp only at hSw); go_simp; (first | done | with_reducible rfl))
          try simp only [Act.put, List.setIfInBounds_toArray, List.set_cons_zero, List.set_cons_succ]
          refine wpAnyH_take (i := 2) (oi := { dst := some 50, op := _, type := _, pos := _, after := _, guard := _ }) (v := ?v2x11) rfl (by kernel_rfl) (by kernel_rfl) (by kernel_rfl) (fun _ _ _ h => h) (Or.inl ⟨by kernel_rfl, ?hy2x11⟩) hHeld0 ?rest2x11
          case hy2x11 => (intro w hSw; (try dsimp only at hSw); go_simp; (first | done | with_reducible rfl))
          try simp only [Act.put, List.setIfInBounds_toArray, List.set_cons_zero, List.set_cons_succ]
          refine wpAnyH_take (i := 3) (oi := { dst := some 51, op := _, type := _, pos := _, after := _, guard := _ }) (v := ?v3x11) rfl (by kernel_rfl) (by kernel_rfl) (by kernel_rfl) (fun _ _ _ h => h) (Or.inl ⟨by kernel_rfl, ?hy3x11⟩) hHeld0 ?rest3x11
          case hy3x11 => (intro w hSw; (try dsimp only at hSw); go_simp; (first | done | with_reducible rfl))
          try simp only [Act.put, List.setIfInBounds_toArray, List.set_cons_zero, List.set_cons_succ]
          refine wpAnyH_take (i := 4) (oi := { dst := some 52, op := _, type := _, pos := _, after := _, guard := _ }) (v := ?v4x11) rfl (by kernel_rfl) (by kernel_rfl) (by kernel_rfl) (fun _ _ _ h => h) (Or.inl ⟨by kernel_rfl, ?hy4x11⟩) hHeld0 ?rest4x11
          case hy4x11 => (intro w hSw; (try dsimp only at hSw); go_simp; (first | done | with_reducible rfl))
          try simp only [Act.put, List.setIfInBounds_toArray, List.set_cons_zero, List.set_cons_succ]
          refine wpAnyH_take (i := 5) (oi := { dst := some 53, op := _, type := _, pos := _, after := _, guard := _ }) (v := ?v5x11) rfl (by kernel_rfl) (by kernel_rfl) (by kernel_rfl) (fun _ _ _ h => h) (Or.inl ⟨by kernel_rfl, ?hy5x11⟩) hHeld0 ?rest5x11
          case hy5x11 => (intro w hSw; (try dsimp only at hSw); go_simp; (first | done | with_reducible rfl))
          try simp only [Act.put, List.setIfInBounds_toArray, List.set_cons_zero, List.set_cons_succ]
          refine wpAnyH_take (i := 6) (oi := { dst := some 54, op := _, type := _, pos := _, after := _, guard := _ }) (v := ?v6x11) rfl (by kernel_rfl) (by kernel_rfl) (by kernel_rfl) (fun _ _ _ h => h) (Or.inl ⟨by kernel_rfl, ?hy6x11⟩) hHeld0 ?rest6x11
          case hy6x11 => (intro w hSw; (try dsimp only at hSw); go_simp; (first | done | with_reducible rfl))
          try simp only [Act.put, List.setIfInBounds_toArray, List.set_cons_zero, List.set_cons_succ]
          refine wpAnyH_take (i := 7) (oi := { dst := some 55, op := _, type := _, pos := _, after := _, guard := _ }) (v := ?v7x11) rfl (by kernel_rfl) (by kernel_rfl) (by kernel_rfl) (fun _ _ _ h => h) (Or.inl ⟨by kernel_rfl, ?hy7x11⟩) hHeld0 ?rest7x11
          case hy7x11 => (intro w hSw; (try dsimp only at hSw); go_simp; (first | done | with_reducible rfl))
          try simp only [Act.put, List.setIfInBounds_toArray, List.set_cons_zero, List.set_cons_succ]
          refine wpAnyH_take (i := 8) (oi := { dst := some 56, op := _, type := _, pos := _, after := _, guard := _ }) (v := ?v8x11) rfl (by kernel_rfl) (by kernel_rfl) (by kernel_rfl) (fun _ _ _ h => h) (Or.inl ⟨by kernel_rfl, ?hy8x11⟩) hHeld0 ?rest8x11
          case hy8x11 => (intro w hSw; (try dsimp only at hSw); go_simp; (first | done | with_reducible rfl))
          try simp only [Act.put, List.setIfInBounds_toArray, List.set_cons_zero, List.set_cons_succ]
          refine wpAnyH_take (i := 9) (oi := { dst := some 57, op := _, type := _, pos := _, after := _, guard := _ }) (v := ?v9x11) rfl (by kernel_rfl) (by kernel_rfl) (by kernel_rfl) (fun _ _ _ h => h) (Or.inl ⟨by kernel_rfl, ?hy9x11⟩) hHeld0 ?rest9x11
          case hy9x11 => (intro w hSw; (try dsimp only at hSw); go_simp; (first | done | with_reducible rfl))
          try simp only [Act.put, List.setIfInBounds_toArray, List.set_cons_zero, List.set_cons_succ]
          refine wpAnyH_take (i := 10) (oi := { dst := some 58, op := _, type := _, pos := _, after := _, guard := _ }) (v := ?v10x11) rfl (by kernel_rfl) (by kernel_rfl) (by kernel_rfl) (fun _ _ _ h => h) (Or.inl ⟨by kernel_rfl, ?hy10x11⟩) hHeld0 ?rest10x11
          case hy10x11 => (intro w hSw; (try dsimp only at hSw); go_simp; (first | done | with_reducible rfl))
          try simp only [Act.put, List.setIfInBounds_toArray, List.set_cons_zero, List.set_cons_succ]
          refine wpAnyH_take (i := 11) (oi := { dst := some 59, op := _, type := _, pos := _, after := _, guard := _ }) (v := ?v11x11) rfl (by kernel_rfl) (by kernel_rfl) (by kernel_rfl) (fun _ _ _ h => h) (Or.inl ⟨by kernel_rfl, ?hy11x11⟩) hHeld0 ?rest11x11
          case hy11x11 => (intro w hSw; (try dsimp only at hSw); go_simp; (first | done | with_reducible rfl))
          try simp only [Act.put, List.setIfInBounds_toArray, List.set_cons_zero, List.set_cons_succ]
          refine wpAnyH_take (i := 12) (oi := { dst := some 60, op := _, type := _, pos := _, after := _, guard := _ }) (v := ?v12x11) rfl (by kernel_rfl) (by kernel_rfl) (by kernel_rfl) (fun _ _ _ h => h) (Or.inl ⟨by kernel_rfl, ?hy12x11⟩) hHeld0 ?rest12x11
          case hy12x11 => (intro w hSw; (try dsimp only at hSw); go_simp; (first | done | with_reducible rfl))
          try simp only [Act.put, List.setIfInBounds_toArray, List.set_cons_zero, List.set_cons_succ]
          refine wpAnyH_take (i := 13) (oi := { dst := some 61, op := _, type := _, pos := _, after := _, guard := _ }) (v := ?v13x11) rfl (by kernel_rfl) (by kernel_rfl) (by kernel_rfl) (fun _ _ _ h => h) (Or.inl ⟨by kernel_rfl, ?hy13x11⟩) hHeld0 ?rest13x11
          case hy13x11 => (intro w hSw; (try dsimp only at hSw); go_simp; (first | done | with_reducible rfl))
          try simp only [Act.put, List.setIfInBounds_toArray, List.set_cons_zero, List.set_cons_succ]
          refine wpAnyH_take (i := 14) (oi := { dst := some 62, op := _, type := _, pos := _, after := _, guard := _ }) (v := ?v14x11) rfl (by kernel_rfl) (by kernel_rfl) (by kernel_rfl) (fun _ _ _ h => h) (Or.inl ⟨by kernel_rfl, ?hy14x11⟩) hHeld0 ?rest14x11
          case hy14x11 => (intro w hSw; (try dsimp only at hSw); go_simp; (first | done | with_reducible rfl))
          try simp only [Act.put, List.setIfInBounds_toArray, List.set_cons_zero, List.set_cons_succ]
          refine wpAnyH_take (i := 15) (oi := { dst := some 63, op := _, type := _, pos := _, after := _, guard := _ }) (v := ?v15x11) rfl (by kernel_rfl) (by kernel_rfl) (by kernel_rfl) (fun _ _ _ h => h) (Or.inl ⟨by kernel_rfl, ?hy15x11⟩) hHeld0 ?rest15x11
          case hy15x11 => (intro w hSw; (try dsimp only at hSw); go_simp; (first | done | with_reducible rfl))
          try simp only [Act.put, List.setIfInBounds_toArray, List.set_cons_zero, List.set_cons_succ]
          refine wpAnyH_take (i := 16) (oi := { dst := some 64, op := _, type := _, pos := _, after := _, guard := _ }) (v := ?v16x11) rfl (by kernel_rfl) (by kernel_rfl) (by kernel_rfl) (fun _ _ _ h => h) (Or.inl ⟨by kernel_rfl, ?hy16x11⟩) hHeld0 ?rest16x11
          case hy16x11 => (intro w hSw; (try dsimp only at hSw); go_simp; (first | done | with_reducible rfl))
          try simp only [Act.put, List.setIfInBounds_toArray, List.set_cons_zero, List.set_cons_succ]
          refine wpAnyH_take (i := 17) (oi := { dst := some 65, op := _, type := _, pos := _, after := _, guard := _ }) (v := ?v17x11) rfl (by kernel_rfl) (by kernel_rfl) (by kernel_rfl) (fun _ _ _ h => h) (Or.inl ⟨by kernel_rfl, ?hy17x11⟩) hHeld0 ?rest17x11
          case hy17x11 => (intro w hSw; (try dsimp only at hSw); go_simp; (first | done | with_reducible rfl))
          try simp only [Act.put, List.setIfInBounds_toArray, List.set_cons_zero, List.set_cons_succ]
          refine wpAnyH_ready (rs := [18]) (by kernel_rfl) (by simp) ?_
          refine AllReadyH.cons (o := { dst := some 66, op := _, type := _, pos := _, after := _, guard := _ }) rfl (fun K hK => ?_) AllReadyH.nil
          go_simp
          (go_at_call 95; refine (HFI.out _ (hHeld0.2.2.2.2.2.2.2.2.2.2.2)).mono ?_; rintro e w' ⟨rfl, hb⟩)
          refine hK.out _ _ (keepC11 hHeld0 hb) (fun hHeld1 => ?_)
          clear hK K hHeld0
          try simp only [Act.put, List.setIfInBounds_toArray, List.set_cons_zero, List.set_cons_succ]
          refine wpAnyH_take (i := 19) (oi := { dst := some 67, op := _, type := _, pos := _, after := _, guard := _ }) (v := ?v19x11) rfl (by kernel_rfl) (by kernel_rfl) (by kernel_rfl) (fun _ _ _ h => h) (Or.inl ⟨by kernel_rfl, ?hy19x11⟩) hHeld1 ?rest19x11
          case hy19x11 => (intro w hSw; (try dsimp only at hSw); go_simp; (first | done | with_reducible rfl))
          try simp only [Act.put, List.setIfInBounds_toArray, List.set_cons_zero, List.set_cons_succ]
          refine wpAnyH_take (i := 20) (oi := { dst := some 68, op := _, type := _, pos := _, after := _, guard := _ }) (v := ?v20x11) rfl (by kernel_rfl) (by kernel_rfl) (by kernel_rfl) (fun _ _ _ h => h) (Or.inl ⟨by kernel_rfl, ?hy20x11⟩) hHeld1 ?rest20x11
          case hy20x11 => (intro w hSw; (try dsimp only at hSw); go_simp; (first | done | with_reducible rfl))
          try simp only [Act.put, List.setIfInBounds_toArray, List.set_cons_zero, List.set_cons_succ]
          refine wpAnyH_done (by kernel_rfl) ?_ _
          have hH := hHeld1
          clear hHeld1
          have HB := Aside0.mk (HBOX.out _ hH.2.2.2.2.2.2.2.2.2.2.2)
          clear hH
          go_wp2
          go_ret
          exact ⟨ret_bool HI2.out, HB.out.2.2⟩
        | true =>
          have F1 := Aside0.mk f1
          rw [f1] at HFI
          clear f1
          go_wp2_with fail
          refine wp_region_held_drew (S := (fun w' => w'.cell? ⟨w.heap.size + 1, 3, none⟩ = some (.slice A3 t.cols.length c3) ∧ w'.cell? ⟨w.heap.size + 1, 4, none⟩ = some (.slice (some ad4) t.rules.length c4) ∧ w'.cell? ⟨wr.heap.size, 0, none⟩ = some (.string t.rules[j + 1].name) ∧ w'.cell? ⟨wr.heap.size, 1, none⟩ = some (.int .i64 t.rules[j + 1].kind) ∧ w'.cell? ⟨wr.heap.size, 2, none⟩ = some (.slice A5 t.rules[j + 1].cols.length c5) ∧ w'.cell? ⟨wr.heap.size, 3, none⟩ = some (.int .i64 t.rules[j + 1].low) ∧ w'.cell? ⟨wr.heap.size, 4, none⟩ = some (.int .i64 t.rules[j + 1].high) ∧ w'.cell? ⟨wr.heap.size, 5, none⟩ = some (.string t.rules[j + 1].schema) ∧ w'.cell? ⟨wr.heap.size, 6, none⟩ = some (.string t.rules[j + 1].table) ∧ w'.cell? ⟨wr.heap.size, 7, none⟩ = some (.string t.rules[j + 1].key) ∧ w'.cell? (ad4.add (j * 8)) = some (.string t.rules[j].name) ∧ Below wr.heap.size wr w')) (by kernel_rfl) ⟨t3' _, t4' _, b0, b1, b2, b3, b4, b5, b6, b7, p0, pw_below_drewN (below_alloc (Below.refl _ _) _) 1⟩ (fun hHeld0 => ?_)
          refine wpAnyH_take (i := 0) (oi := { dst := some 48, op := _, type := _, pos := _, after := _, guard := _ }) (v := ?v0x12) rfl (by kernel_rfl) (by kernel_rfl) (by kernel_rfl) (fun _ _ _ h => h) (Or.inl ⟨by kernel_rfl, ?hy0x12⟩) hHeld0 ?rest0x12
          case hy0x12 => (intro w hSw; (try dsimp only at hSw); go_simp; (first | done | with_reducible rfl))
          try simp only [Act.put, List.setIfInBounds_toArray, List.set_cons_zero, List.set_cons_succ]
          refine wpAnyH_take (i := 1) (oi := { dst := some 49, op := _, type := _, pos := _, after := _, guard := _ }) (v := ?v1x12) rfl (by kernel_rfl) (by kernel_rfl) (by kernel_rfl) (fun _ _ _ h => h) (Or.inl ⟨by kernel_rfl, ?hy1x12⟩) hHeld0 ?rest1x12
          case hy1x12 => (intro w hSw; (try dsimp only at hSw); go_simp; (first | done | with_reducible rfl))
          try simp only [Act.put, List.setIfInBounds_toArray, List.set_cons_zero, List.set_cons_succ]
          refine wpAnyH_take (i := 2) (oi := { dst := some 50, op := _, type := _, pos := _, after := _, guard := _ }) (v := ?v2x12) rfl (by kernel_rfl) (by kernel_rfl) (by kernel_rfl) (fun _ _ _ h => h) (Or.inl ⟨by kernel_rfl, ?hy2x12⟩) hHeld0 ?rest2x12
          case hy2x12 => (intro w hSw; (try dsimp only at hSw); go_simp; (first | done | with_reducible rfl))
          try simp only [Act.put, List.setIfInBounds_toArray, List.set_cons_zero, List.set_cons_succ]
          refine wpAnyH_take (i := 3) (oi := { dst := some 51, op := _, type := _, pos := _, after := _, guard := _ }) (v := ?v3x12) rfl (by kernel_rfl) (by kernel_rfl) (by kernel_rfl) (fun _ _ _ h => h) (Or.inl ⟨by kernel_rfl, ?hy3x12⟩) hHeld0 ?rest3x12
          case hy3x12 => (intro w hSw; (try dsimp only at hSw); go_simp; (first | done | with_reducible rfl))
          try simp only [Act.put, List.setIfInBounds_toArray, List.set_cons_zero, List.set_cons_succ]
          refine wpAnyH_take (i := 4) (oi := { dst := some 52, op := _, type := _, pos := _, after := _, guard := _ }) (v := ?v4x12) rfl (by kernel_rfl) (by kernel_rfl) (by kernel_rfl) (fun _ _ _ h => h) (Or.inl ⟨by kernel_rfl, ?hy4x12⟩) hHeld0 ?rest4x12
          case hy4x12 => (intro w hSw; (try dsimp only at hSw); go_simp; (first | done | with_reducible rfl))
          try simp only [Act.put, List.setIfInBounds_toArray, List.set_cons_zero, List.set_cons_succ]
          refine wpAnyH_take (i := 5) (oi := { dst := some 53, op := _, type := _, pos := _, after := _, guard := _ }) (v := ?v5x12) rfl (by kernel_rfl) (by kernel_rfl) (by kernel_rfl) (fun _ _ _ h => h) (Or.inl ⟨by kernel_rfl, ?hy5x12⟩) hHeld0 ?rest5x12
          case hy5x12 => (intro w hSw; (try dsimp only at hSw); go_simp; (first | done | with_reducible rfl))
          try simp only [Act.put, List.setIfInBounds_toArray, List.set_cons_zero, List.set_cons_succ]
          refine wpAnyH_take (i := 6) (oi := { dst := some 54, op := _, type := _, pos := _, after := _, guard := _ }) (v := ?v6x12) rfl (by kernel_rfl) (by kernel_rfl) (by kernel_rfl) (fun _ _ _ h => h) (Or.inl ⟨by kernel_rfl, ?hy6x12⟩) hHeld0 ?rest6x12
          case hy6x12 => (intro w hSw; (try dsimp only at hSw); go_simp; (first | done | with_reducible rfl))
          try simp only [Act.put, List.setIfInBounds_toArray, List.set_cons_zero, List.set_cons_succ]
          refine wpAnyH_take (i := 7) (oi := { dst := some 55, op := _, type := _, pos := _, after := _, guard := _ }) (v := ?v7x12) rfl (by kernel_rfl) (by kernel_rfl) (by kernel_rfl) (fun _ _ _ h => h) (Or.inl ⟨by kernel_rfl, ?hy7x12⟩) hHeld0 ?rest7x12
          case hy7x12 => (intro w hSw; (try dsimp only at hSw); go_simp; (first | done | with_reducible rfl))
          try simp only [Act.put, List.setIfInBounds_toArray, List.set_cons_zero, List.set_cons_succ]
          refine wpAnyH_take (i := 8) (oi := { dst := some 56, op := _, type := _, pos := _, after := _, guard := _ }) (v := ?v8x12) rfl (by kernel_rfl) (by kernel_rfl) (by kernel_rfl) (fun _ _ _ h => h) (Or.inl ⟨by kernel_rfl, ?hy8x12⟩) hHeld0 ?rest8x12
          case hy8x12 => (intro w hSw; (try dsimp only at hSw); go_simp; (first | done | with_reducible rfl))
          try simp only [Act.put, List.setIfInBounds_toArray, List.set_cons_zero, List.set_cons_succ]
          refine wpAnyH_take (i := 9) (oi := { dst := some 57, op := _, type := _, pos := _, after := _, guard := _ }) (v := ?v9x12) rfl (by kernel_rfl) (by kernel_rfl) (by kernel_rfl) (fun _ _ _ h => h) (Or.inl ⟨by kernel_rfl, ?hy9x12⟩) hHeld0 ?rest9x12
          case hy9x12 => (intro w hSw; (try dsimp only at hSw); go_simp; (first | done | with_reducible rfl))
          try simp only [Act.put, List.setIfInBounds_toArray, List.set_cons_zero, List.set_cons_succ]
          refine wpAnyH_take (i := 10) (oi := { dst := some 58, op := _, type := _, pos := _, after := _, guard := _ }) (v := ?v10x12) rfl (by kernel_rfl) (by kernel_rfl) (by kernel_rfl) (fun _ _ _ h => h) (Or.inl ⟨by kernel_rfl, ?hy10x12⟩) hHeld0 ?rest10x12
          case hy10x12 => (intro w hSw; (try dsimp only at hSw); go_simp; (first | done | with_reducible rfl))
          try simp only [Act.put, List.setIfInBounds_toArray, List.set_cons_zero, List.set_cons_succ]
          refine wpAnyH_take (i := 11) (oi := { dst := some 59, op := _, type := _, pos := _, after := _, guard := _ }) (v := ?v11x12) rfl (by kernel_rfl) (by kernel_rfl) (by kernel_rfl) (fun _ _ _ h => h) (Or.inl ⟨by kernel_rfl, ?hy11x12⟩) hHeld0 ?rest11x12
          case hy11x12 => (intro w hSw; (try dsimp only at hSw); go_simp; (first | done | with_reducible rfl))
          try simp only [Act.put, List.setIfInBounds_toArray, List.set_cons_zero, List.set_cons_succ]
          refine wpAnyH_take (i := 12) (oi := { dst := some 60, op := _, type := _, pos := _, after := _, guard := _ }) (v := ?v12x12) rfl (by kernel_rfl) (by kernel_rfl) (by kernel_rfl) (fun _ _ _ h => h) (Or.inl ⟨by kernel_rfl, ?hy12x12⟩) hHeld0 ?rest12x12
          case hy12x12 => (intro w hSw; (try dsimp only at hSw); go_simp; (first | done | with_reducible rfl))
          try simp only [Act.put, List.setIfInBounds_toArray, List.set_cons_zero, List.set_cons_succ]
          refine wpAnyH_take (i := 13) (oi := { dst := some 61, op := _, type := _, pos := _, after := _, guard := _ }) (v := ?v13x12) rfl (by kernel_rfl) (by kernel_rfl) (by kernel_rfl) (fun _ _ _ h => h) (Or.inl ⟨by kernel_rfl, ?hy13x12⟩) hHeld0 ?rest13x12
          case hy13x12 => (intro w hSw; (try dsimp only at hSw); go_simp; (first | done | with_reducible rfl))
          try simp only [Act.put, List.setIfInBounds_toArray, List.set_cons_zero, List.set_cons_succ]
          refine wpAnyH_take (i := 14) (oi := { dst := some 62, op := _, type := _, pos := _, after := _, guard := _ }) (v := ?v14x12) rfl (by kernel_rfl) (by kernel_rfl) (by kernel_rfl) (fun _ _ _ h => h) (Or.inl ⟨by kernel_rfl, ?hy14x12⟩) hHeld0 ?rest14x12
          case hy14x12 => (intro w hSw; (try dsimp only at hSw); go_simp; (first | done | with_reducible rfl))
          try simp only [Act.put, List.setIfInBounds_toArray, List.set_cons_zero, List.set_cons_succ]
          refine wpAnyH_take (i := 15) (oi := { dst := some 63, op := _, type := _, pos := _, after := _, guard := _ }) (v := ?v15x12) rfl (by kernel_rfl) (by kernel_rfl) (by kernel_rfl) (fun _ _ _ h => h) (Or.inl ⟨by kernel_rfl, ?hy15x12⟩) hHeld0 ?rest15x12
          case hy15x12 => (intro w hSw; (try dsimp only at hSw); go_simp; (first | done | with_reducible rfl))
          try simp only [Act.put, List.setIfInBounds_toArray, List.set_cons_zero, List.set_cons_succ]
          refine wpAnyH_take (i := 16) (oi := { dst := some 64, op := _, type := _, pos := _, after := _, guard := _ }) (v := ?v16x12) rfl (by kernel_rfl) (by kernel_rfl) (by kernel_rfl) (fun _ _ _ h => h) (Or.inl ⟨by kernel_rfl, ?hy16x12⟩) hHeld0 ?rest16x12
          case hy16x12 => (intro w hSw; (try dsimp only at hSw); go_simp; (first | done | with_reducible rfl))
          try simp only [Act.put, List.setIfInBounds_toArray, List.set_cons_zero, List.set_cons_succ]
          refine wpAnyH_take (i := 17) (oi := { dst := some 65, op := _, type := _, pos := _, after := _, guard := _ }) (v := ?v17x12) rfl (by kernel_rfl) (by kernel_rfl) (by kernel_rfl) (fun _ _ _ h => h) (Or.inl ⟨by kernel_rfl, ?hy17x12⟩) hHeld0 ?rest17x12
          case hy17x12 => (intro w hSw; (try dsimp only at hSw); go_simp; (first | done | with_reducible rfl))
          try simp only [Act.put, List.setIfInBounds_toArray, List.set_cons_zero, List.set_cons_succ]
          refine wpAnyH_ready (rs := [18]) (by kernel_rfl) (by simp) ?_
          refine AllReadyH.cons (o := { dst := some 66, op := _, type := _, pos := _, after := _, guard := _ }) rfl (fun K hK => ?_) AllReadyH.nil
          go_simp
          (go_at_call 95; refine (HFI.out _ (hHeld0.2.2.2.2.2.2.2.2.2.2.2)).mono ?_; rintro e w' ⟨rfl, hb⟩)
          refine hK.out _ _ (keepC11 hHeld0 hb) (fun hHeld1 => ?_)
          clear hK K hHeld0
          try simp only [Act.put, List.setIfInBounds_toArray, List.set_cons_zero, List.set_cons_succ]
          refine wpAnyH_take (i := 19) (oi := { dst := some 67, op := _, type := _, pos := _, after := _, guard := _ }) (v := ?v19x12) rfl (by kernel_rfl) (by kernel_rfl) (by kernel_rfl) (fun _ _ _ h => h) (Or.inl ⟨by kernel_rfl, ?hy19x12⟩) hHeld1 ?rest19x12
          case hy19x12 => (intro w hSw; (try dsimp only at hSw); go_simp; (first | done | with_reducible rfl))
          try simp only [Act.put, List.setIfInBounds_toArray, List.set_cons_zero, List.set_cons_succ]
          refine wpAnyH_take (i := 20) (oi := { dst := some 68, op := _, type := _, pos := _, after := _, guard := _ }) (v := ?v20x12) rfl (by kernel_rfl) (by kernel_rfl) (by kernel_rfl) (fun _ _ _ h => h) (Or.inl ⟨by kernel_rfl, ?hy20x12⟩) hHeld1 ?rest20x12
          case hy20x12 => (intro w hSw; (try dsimp only at hSw); go_simp; (first | done | with_reducible rfl))
          try simp only [Act.put, List.setIfInBounds_toArray, List.set_cons_zero, List.set_cons_succ]
          refine wpAnyH_done (by kernel_rfl) ?_ _
          have hH := hHeld1
          clear hHeld1
          have HB := Aside0.mk (HBOX.out _ hH.2.2.2.2.2.2.2.2.2.2.2)
          have HBL := Aside0.mk hH.2.2.2.2.2.2.2.2.2.2.2
          clear b0 b1 b2 b3 b4 b5 b6 b7 hd0 hd1 hd2 hd3 hd4 hd5 hd6 hd7 o0 o1 t0 t1 t2 t3 t4 t3' t4'
          obtain ⟨x3, x4, b0, b1, b2, b3, b4, b5, b6, b7, x10, x11⟩ := hH
          clear x10 x11 x3 x4
          obtain ⟨o0, o1⟩ := HB.out.1
          obtain ⟨t0, t1, t2, t3, t4⟩ := HB.out.2.1
          cases k4 : (t.rules[j + 1].kind == 4) with
          | false =>
            have HQ := Aside0.mk (show ruleOK ts t.cols (t.rules.getD (j + 1) zRul) = true from HE.out.trans (by rw [F1.out, show (t.rules[j + 1].kind != 4) = true by simpa using k4]; rfl))
            go_wp2
            go_roundw
            case rel => exact ⟨j + 1 + 1, by omega, by go_num, ⟨snocB (f := fun i => ruleOK ts t.cols (t.rules.getD i zRul)) HJ.out.1 HQ.out, HRI.out, HB.out.1, HB.out.2.1, HB.out.2.2⟩⟩
            case measure => simp [intOf]; omega
          | true =>
            have K4 := Aside0.mk (show (t.rules[j + 1].kind != 4) = false by simpa using k4)
            go_wp2_with fail
            refine (HKE.out _ HBL.out).mono ?_
            rintro e w9 ⟨rfl, hb9⟩
            have HB9 := Aside0.mk (HBOX.out _ (HBL.out.trans (hb9.mono HBL.out.size)))
            clear hb9
            cases ke : (keyE ts t.cols t.rules[j + 1] != 0) with
            | true =>
              have HI2 := Aside0.mk (HNO.out (HE.out.trans (by rw [F1.out, K4.out, show (keyE ts t.cols t.rules[j + 1] == 0) = false by simpa using ke]; rfl)))
              go_wp2
              go_ret
              exact ⟨ret_bool HI2.out, HB9.out.2.2⟩
            | false =>
              have HQ := Aside0.mk (show ruleOK ts t.cols (t.rules.getD (j + 1) zRul) = true from HE.out.trans (by rw [F1.out, K4.out, show (keyE ts t.cols t.rules[j + 1] == 0) = true by simpa using ke]; rfl))
              go_wp2
              go_roundw
              case rel => exact ⟨j + 1 + 1, by omega, by go_num, ⟨snocB (f := fun i => ruleOK ts t.cols (t.rules.getD i zRul)) HJ.out.1 HQ.out, HRI.out, HB9.out.1, HB9.out.2.1, HB9.out.2.2⟩⟩
              case measure => simp [intOf]; omega
    · have hd : decide (k < t.rules.length) = false := decide_eq_false hlt
      have HI2 := Aside0.mk (show true = q by rw [← HI1.out, show rulesOK ts t = true from allB_true fun j hj => HJ.out.1 j (by omega), rises_yes _ t.rules (fun j hj => HJ.out.2.1 j hj (by omega))]; rfl)
      go_wp2
      go_ret
      exact ⟨ret_bool HI2.out, HJB.out⟩
end Go.Proofs.Ytmmiehckgkadgaa.O
