/- Own lemmas and walks (OL), without what the law does not need. Laid by a program of this session (prune.py). -/
import Derived.BigQuiet
import Derived.Test.YtmmiehckgkadgaaPt8
namespace Go.Proofs.Ytmmiehckgkadgaa.O
set_option linter.unusedVariables false
set_option linter.unusedSimpArgs false
open Go.RowKit Go.Proofs.YtmmiehckgkadgaaW.PrintWords
theorem kindOf_some {l : List Col} {a : ByteArray} {n : Nat} (hn : n < l.length) (e : idx (fun x : Col => x.name.toList == a.toList) l = (n : Int)) : kindOf l a = some l[n].kind := by unfold kindOf; rw [e, if_pos (by omega), Int.toNat_natCast, getD_at hn]
theorem kindOf_none {l : List Col} {a : ByteArray} (e : idx (fun x : Col => x.name.toList == a.toList) l = -1) : kindOf l a = none := by unfold kindOf; rw [e, if_neg (by omega)]
theorem goB_false {l c : List Col} {ns ms : List ByteArray} {k : Nat} (hl : ms.length = ns.length) (hk : k < ms.length) (h : pairOK l c (ns.getD k nStr) (ms.getD k nStr) = false) : goB l c ns ms = false := by unfold goB; rw [allB_false hk h, Bool.and_false]
theorem goB_true {l c : List Col} {ns ms : List ByteArray} (hl : ms.length = ns.length) (h : ∀ k, k < ms.length → pairOK l c (ns.getD k nStr) (ms.getD k nStr) = true) : goB l c ns ms = true := by unfold goB; rw [allB_true h, decide_eq_true hl]; rfl
set_option maxHeartbeats 4000000 in
theorem rKey.calls {As At A0 A2 : Option Addr} {ns cs ct c0 c2 : Nat} (ts : List Tab) (xs : List Col) (r : Rul) (w : World) (ht : kTab.C w At ts.length ts) (hF : TabsF ts) (hr : kCol.C w A0 xs.length xs) (hl : xs.length ≤ 140737488355328) (hr2 : Kd.string.C w A2 r.cols.length r.cols) (hl2 : r.cols.length ≤ 8796093022208) :
    Calls Try.prog 96 #[.agg #[.slice As ns cs, .slice At ts.length ct], .slice A0 xs.length c0, .agg #[.string r.name, .int .i64 r.kind, .slice A2 r.cols.length c2, .int .i64 r.low, .int .i64 r.high, .string r.schema, .string r.table, .string r.key]] w fun e w' => e = .returned (.int .i64 (keyE ts xs r)) ∧ Below w.heap.size w w' := by
  have HF := Aside0.mk hF
  have HT := Aside0.mk ht
  have HR := Aside0.mk hr
  have HR2 := Aside0.mk hr2
  have HX := Aside0.mk ((BoxO_new w As ns cs At ts.length ct).below (below_alloc (Below.refl _ _) (rulBox r A2 c2)))
  have HX2 := Aside0.mk (show BoxR ((w.alloc (objBox As ns cs At ts.length ct)).alloc (rulBox r A2 c2)) (w.heap.size + 1) r A2 c2 by have := BoxR_new (w.alloc (objBox As ns cs At ts.length ct)) r A2 c2; simpa using this)
  have HW : Aside0 (Below w.heap.size w ((w.alloc (objBox As ns cs At ts.length ct)).alloc (rulBox r A2 c2))) := ⟨below_alloc (below_alloc (Below.refl _ _) _) _⟩
  generalize hi : keyE ts xs r = q
  have HI := Aside0.mk hi
  have HC := Aside0.mk (fun W (hW : Below w.heap.size w W) => rTable.calls (As := As) (ns := ns) (cs := cs) (A0 := At) (c0 := ct) r.schema r.table ts W (Kd.C_below HT.out hW) (by have := HF.out.1; omega))
  clear hr hi hr2 ht hF
  rcases idx_cases (isT r.schema r.table) ts with ⟨n, hn, e, hz1⟩ | ⟨e, hz1⟩
  · clear hz1
    have HI1 := Aside0.mk ((keyE_some (l := xs) hn e).symm.trans HI.out)
    have hTF := Aside0.mk (HF.out.2 _ (List.getElem_mem hn))
    rw [e] at HC
    clear e
    go_enter Try.func96, Try.ntmps96
    go_wp2_with fail
    refine (HC.out _ HW.out).mono ?_
    rintro e w1 ⟨rfl, hb1⟩
    have HB := Aside0.mk (HW.out.trans (hb1.mono HW.out.size))
    have HX3 := Aside0.mk (HX.out.below hb1)
    have HX4 := Aside0.mk (HX2.out.below hb1)
    clear hb1
    obtain ⟨o0, o1⟩ := HX3.out
    obtain ⟨b0, b1, b2, b3, b4, b5, b6, b7⟩ := HX4.out
    obtain ⟨ad, A3, c3, A4, c4, e, hc0, hc1, hc2, hc3, hc4, hs1, hs2, hs3, hs4⟩ := cTab (Kd.C_below HT.out HB.out) n hn
    cases e
    have HS := Aside0.mk (And.intro hs1 (And.intro hs2 (And.intro hs3 hs4)))
    clear hs1 hs2 hs3 hs4
    have b7' : ∀ o, (w1.alloc o).cell? ⟨w.heap.size + 1, 7, none⟩ = some (.string r.key) := fun o => pw_cell_below (below_alloc (Below.refl _ _) o) b7
    have HBX := Aside0.mk (BoxT_new w1 ts[n] A3 c3 A4 c4)
    have HB1 := Aside0.mk (below_alloc HB.out (tabBox ts[n] A3 c3 A4 c4))
    have HX5 := Aside0.mk (HX4.out.below (below_alloc (Below.refl _ _) (tabBox ts[n] A3 c3 A4 c4)))
    have HCR := Aside0.mk (fun W (hW : Below w1.heap.size w1 W) => rRule.calls (A0 := A4) (c0 := c4) r.key ts[n].rules W (Kd.C_below HS.out.2.2.2 hW) (by have := hTF.out.2.1; omega))
    rcases idx_cases (fun x : Rul => x.name.toList == r.key.toList) ts[n].rules with ⟨m, hm, e, hz1⟩ | ⟨e, hz1⟩
    · clear hz1
      have HI2 := Aside0.mk ((keyE_rule (l := xs) hm e).symm.trans HI1.out)
      have hRF := Aside0.mk (hTF.out.2.2 _ (List.getElem_mem hm))
      rw [e] at HCR
      clear e
      go_wp2_with fail
      refine (HCR.out _ (below_alloc (Below.refl _ _) _)).mono ?_
      rintro e w2 ⟨rfl, hb2⟩
      have HB2 := Aside0.mk (HB1.out.trans (hb2.mono HB1.out.size))
      have HBX2 := Aside0.mk (HBX.out.below hb2)
      have HX6 := Aside0.mk (HX5.out.below hb2)
      have HW12 := Aside0.mk (show Below w1.heap.size w1 w2 from (below_alloc (Below.refl _ _) (tabBox ts[n] A3 c3 A4 c4)).trans (hb2.mono (by simp)))
      clear hb2 b0 b1 b2 b3 b4 b5 b6 b7 b7' o0 o1 hc0 hc1 hc2 hc3 hc4
      obtain ⟨t0, t1, t2, t3, t4⟩ := HBX2.out
      obtain ⟨ad4, A5, c5, e, hd0, hd1, hd2, hd3, hd4, hd5, hd6, hd7, hs5, hs6⟩ := cRul (Kd.C_below HS.out.2.2.2 HW12.out) m hm
      cases e
      have HS2 := Aside0.mk (And.intro hs5 hs6)
      clear hs5 hs6
      have hdm : decide ((m : Int) < 0) = false := decide_eq_false (by omega)
      cases hk2 : (ts[n].rules[m].kind != 2) with
      | true =>
        go_wp2
        go_ret
        exact ⟨ret_int (by rw [← HI2.out, if_neg (show ¬ ts[n].rules[m].kind = 2 by simpa using hk2)]), HB2.out⟩
      | false =>
        have HI3 := Aside0.mk (show (if goB xs ts[n].cols r.cols ts[n].rules[m].cols = true then (0 : Int) else 63) = q by rw [← HI2.out, if_pos (show ts[n].rules[m].kind = 2 by simpa using hk2)])
        obtain ⟨b0, b1, b2, b3, b4, b5, b6, b7⟩ := HX6.out
        generalize hms : ts[n].rules[m].cols = ms at *
        generalize htc : ts[n].cols = tc at *
        by_cases e1 : ms.length = r.cols.length
        · have f1 : ((ms.length : Int) != (r.cols.length : Int)) = false := by rw [e1]; simp
          have E1 := Aside0.mk e1
          go_wp2
          go_loopw [11] (fun i w' => ∃ k : Nat, k ≤ ms.length ∧ i = .int .i64 k ∧ Aside0 ((∀ j, j < k → pairOK xs tc (r.cols.getD j nStr) (ms.getD j nStr) = true) ∧ w'.cell? ⟨w.heap.size + 1, 2, none⟩ = some (.slice A2 r.cols.length c2) ∧ w'.cell? ⟨w1.heap.size, 3, none⟩ = some (.slice A3 tc.length c3) ∧ Below w2.heap.size w2 w')) (fun i _ => ms.length - (intOf i).toNat)
          case atStart => exact ⟨0, Nat.zero_le _, rfl, ⟨fun _ h => absurd h (Nat.not_lt_zero _), b2, t3, Below.refl _ _⟩⟩
          case round =>
            obtain ⟨k, hk, rfl, HJ⟩ := hrel
            clear b0 b1 b2 b3 b4 b5 b6 b7 t0 t1 t2 t3 t4 hd0 hd1 hd2 hd3 hd4 hd5 hd6 hd7
            have HBr := Aside0.mk (HB2.out.trans (HJ.out.2.2.2.mono HB2.out.size))
            obtain ⟨x1, x2, x3, x4⟩ := HJ.out
            clear x1 x4
            by_cases hlt : k < ms.length
            · have hlt2 : k < r.cols.length := by omega
              have hz3 : (k : Int) < (r.cols.length : Int) := by omega
              have hz4 : (k : Int) < (ms.length : Int) := by omega
              obtain ⟨ad2, e, hs0⟩ := cStr (Kd.C_below HR2.out HBr.out) k hlt2
              cases e
              obtain ⟨ad5, e, hm0⟩ := cStr (Kd.C_below HS2.out.2 HJ.out.2.2.2) k hlt
              cases e
              have HC1 := Aside0.mk (fun W (hW : Below w.heap.size w W) => rColumn.calls (A0 := A0) (c0 := c0) r.cols[k] xs W (Kd.C_below HR.out hW) hl)
              have HC2 := Aside0.mk (fun W (hW : Below w2.heap.size w2 W) => rColumn.calls (A0 := A3) (c0 := c3) ms[k] tc W (Kd.C_below (Kd.C_below HS.out.2.1 HW12.out) hW) (by have := hTF.out.1; rw [htc] at this; omega))
              have HP := Aside0.mk (show pairOK xs tc (r.cols.getD k nStr) (ms.getD k nStr) = pairOK xs tc r.cols[k] ms[k] by rw [getD_at hlt2, getD_at hlt])
              rcases idx_cases (fun x : Col => x.name.toList == r.cols[k].toList) xs with ⟨a, ha, ea, hz1⟩ | ⟨ea, hz1⟩
              · clear hz1
                have EA := Aside0.mk (kindOf_some ha ea)
                rw [ea] at HC1
                clear ea
                have hda : decide ((a : Int) < 0) = false := decide_eq_false (by omega)
                rcases idx_cases (fun x : Col => x.name.toList == ms[k].toList) tc with ⟨b, hbb, eb, hz1⟩ | ⟨eb, hz1⟩
                · clear hz1
                  have EB := Aside0.mk (kindOf_some hbb eb)
                  rw [eb] at HC2
                  clear eb
                  have hdb : decide ((b : Int) < 0) = false := decide_eq_false (by omega)
                  have hz5 : (a : Int) < (xs.length : Int) := by omega
                  have hz6 : (b : Int) < (tc.length : Int) := by omega
                  go_wp2_with fail
                  refine (HC1.out _ HBr.out).mono ?_
                  rintro e w3 ⟨rfl, hb3⟩
                  have y2 := pw_cell_below hb3 x2
                  have y3 := pw_cell_below hb3 x3
                  have hm3 := pw_cell_below hb3 hm0
                  have HB3 := Aside0.mk (HJ.out.2.2.2.trans (hb3.mono HJ.out.2.2.2.size))
                  clear hb3 x2 x3 hs0 hm0
                  go_wp2_with fail
                  go_region_held3 (fun w' => w'.cell? ⟨w.heap.size + 1, 2, none⟩ = some (.slice (some ad2) r.cols.length c2) ∧ w'.cell? ⟨w1.heap.size, 3, none⟩ = some (.slice A3 tc.length c3) ∧ w'.cell? (ad5.add k) = some (.string ms[k]) ∧ Below w2.heap.size w2 w')
                    (first | assumption | exact keepC3 (by assumption) (by assumption) | exact ⟨y2, y3, hm3, pw_below_drewN HB3.out 1⟩)
                    (first | (go_at_call 63; refine (HC2.out _ (And.right (And.right (And.right (by assumption))))).mono ?_; rintro e w4 ⟨rfl, hb4⟩))
                  rename_i hH
                  have HB4 := Aside0.mk hH.2.2.2
                  have z2 := hH.1
                  have z3 := hH.2.1
                  clear hH y2 y3 hm3
                  obtain ⟨adx, e, u0, u1, u2⟩ := cCol (Kd.C_below HR.out (HB2.out.trans (HB4.out.mono HB2.out.size))) a ha
                  cases e
                  obtain ⟨ady, e, v0, v1, v2⟩ := cCol (Kd.C_below (Kd.C_below HS.out.2.1 HW12.out) HB4.out) b hbb
                  cases e
                  cases hkk : (xs[a].kind != tc[b].kind) with
                  | true =>
                    have HI4 := Aside0.mk (show (63 : Int) = q by rw [← HI3.out, goB_false E1.out hlt (HP.out.trans (by unfold pairOK; rw [EA.out, EB.out, decide_eq_false (by simpa using hkk)]; rfl))]; rfl)
                    go_wp2_with fail
                    go_quiet (fail)
                    go_wp2
                    go_ret
                    exact ⟨ret_int HI4.out, HB2.out.trans ((pw_below_drewN HB4.out _).mono HB2.out.size)⟩
                  | false =>
                    have HQ := Aside0.mk (show pairOK xs tc (r.cols.getD k nStr) (ms.getD k nStr) = true from HP.out.trans (by unfold pairOK; rw [EA.out, EB.out, decide_eq_true (by simpa using hkk)]; rfl))
                    go_wp2_with fail
                    go_quiet (fail)
                    go_wp2
                    go_roundw
                    case rel => exact ⟨k + 1, by omega, by go_num, ⟨snocB (f := fun j => pairOK xs tc (r.cols.getD j nStr) (ms.getD j nStr)) HJ.out.1 HQ.out, z2, z3, pw_below_drewN HB4.out _⟩⟩
                    case measure => simp [intOf]; omega
                · clear hz1
                  have EB := Aside0.mk (kindOf_none eb)
                  rw [eb] at HC2
                  clear eb
                  have HI4 := Aside0.mk (show (63 : Int) = q by rw [← HI3.out, goB_false E1.out hlt (HP.out.trans (by unfold pairOK; rw [EA.out, EB.out]; rfl))]; rfl)
                  go_wp2_with fail
                  refine (HC1.out _ HBr.out).mono ?_
                  rintro e w3 ⟨rfl, hb3⟩
                  have y2 := pw_cell_below hb3 x2
                  have y3 := pw_cell_below hb3 x3
                  have hm3 := pw_cell_below hb3 hm0
                  have HB3 := Aside0.mk (HJ.out.2.2.2.trans (hb3.mono HJ.out.2.2.2.size))
                  clear hb3 x2 x3 hs0 hm0
                  go_wp2_with fail
                  go_region_held3 (fun w' => w'.cell? ⟨w.heap.size + 1, 2, none⟩ = some (.slice (some ad2) r.cols.length c2) ∧ w'.cell? ⟨w1.heap.size, 3, none⟩ = some (.slice A3 tc.length c3) ∧ w'.cell? (ad5.add k) = some (.string ms[k]) ∧ Below w2.heap.size w2 w')
                    (first | assumption | exact keepC3 (by assumption) (by assumption) | exact ⟨y2, y3, hm3, pw_below_drewN HB3.out 1⟩)
                    (first | (go_at_call 63; refine (HC2.out _ (And.right (And.right (And.right (by assumption))))).mono ?_; rintro e w4 ⟨rfl, hb4⟩))
                  rename_i hH
                  have HB4 := Aside0.mk hH.2.2.2
                  have z2 := hH.1
                  have z3 := hH.2.1
                  clear hH y2 y3 hm3
                  go_wp2_with fail
                  go_quiet (fail)
                  go_wp2
                  go_ret
                  exact ⟨ret_int HI4.out, HB2.out.trans ((pw_below_drewN HB4.out _).mono HB2.out.size)⟩
              · clear hz1
                have EA := Aside0.mk (kindOf_none ea)
                rw [ea] at HC1
                clear ea
                generalize idx (fun x : Col => x.name.toList == ms[k].toList) tc = mb at HC2
                have HI4 := Aside0.mk (show (63 : Int) = q by rw [← HI3.out, goB_false E1.out hlt (HP.out.trans (by unfold pairOK; rw [EA.out, Option.isSome_none, Bool.and_false]))]; rfl)
                go_wp2_with fail
                refine (HC1.out _ HBr.out).mono ?_
                rintro e w3 ⟨rfl, hb3⟩
                have y2 := pw_cell_below hb3 x2
                have y3 := pw_cell_below hb3 x3
                have hm3 := pw_cell_below hb3 hm0
                have HB3 := Aside0.mk (HJ.out.2.2.2.trans (hb3.mono HJ.out.2.2.2.size))
                clear hb3 x2 x3 hs0 hm0
                go_wp2_with fail
                go_region_held3 (fun w' => w'.cell? ⟨w.heap.size + 1, 2, none⟩ = some (.slice (some ad2) r.cols.length c2) ∧ w'.cell? ⟨w1.heap.size, 3, none⟩ = some (.slice A3 tc.length c3) ∧ w'.cell? (ad5.add k) = some (.string ms[k]) ∧ Below w2.heap.size w2 w')
                  (first | assumption | exact keepC3 (by assumption) (by assumption) | exact ⟨y2, y3, hm3, pw_below_drewN HB3.out 1⟩)
                  (first | (go_at_call 63; refine (HC2.out _ (And.right (And.right (And.right (by assumption))))).mono ?_; rintro e w4 ⟨rfl, hb4⟩))
                rename_i hH
                have HB4 := Aside0.mk hH.2.2.2
                have z2 := hH.1
                have z3 := hH.2.1
                clear hH y2 y3 hm3
                go_wp2_with fail
                go_quiet (fail)
                go_wp2
                go_ret
                exact ⟨ret_int HI4.out, HB2.out.trans ((pw_below_drewN HB4.out _).mono HB2.out.size)⟩
            · have hd : decide (k < ms.length) = false := decide_eq_false hlt
              have HI4 := Aside0.mk (show (0 : Int) = q by rw [← HI3.out, goB_true E1.out (fun j hj => HJ.out.1 j (by omega))]; rfl)
              go_wp2
              go_ret
              exact ⟨ret_int HI4.out, HBr.out⟩
        · have f1 : ((ms.length : Int) != (r.cols.length : Int)) = true := bne_iff_ne.2 (by omega)
          have HI4 := Aside0.mk (show (63 : Int) = q by rw [← HI3.out, goB_no (fun h => e1 h.1)]; rfl)
          clear e1
          go_wp2
          go_ret
          exact ⟨ret_int HI4.out, HB2.out⟩
    · clear hz1
      have HI2 := Aside0.mk ((keyE_bare (l := xs) e).symm.trans HI1.out)
      rw [e] at HCR
      clear e
      go_wp2_with fail
      refine (HCR.out _ (below_alloc (Below.refl _ _) _)).mono ?_
      rintro e w2 ⟨rfl, hb2⟩
      have HB2 := Aside0.mk (HB1.out.trans (hb2.mono HB1.out.size))
      clear hb2
      go_wp2
      go_ret
      exact ⟨ret_int HI2.out, HB2.out⟩
  · clear hz1
    have HI1 := Aside0.mk ((keyE_none (l := xs) e).symm.trans HI.out)
    rw [e] at HC
    clear e
    go_enter Try.func96, Try.ntmps96
    go_wp2_with fail
    refine (HC.out _ HW.out).mono ?_
    rintro e w1 ⟨rfl, hb1⟩
    have HB := Aside0.mk (HW.out.trans (hb1.mono HW.out.size))
    clear hb1
    go_wp2
    go_ret
    exact ⟨ret_int HI1.out, HB.out⟩
end Go.Proofs.Ytmmiehckgkadgaa.O
