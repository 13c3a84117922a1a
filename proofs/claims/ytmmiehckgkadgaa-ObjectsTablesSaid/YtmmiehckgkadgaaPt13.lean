/- Own lemmas and walks (OH), without what the law does not need. Laid by a program of this session (prune.py). -/
import Derived.Test.YtmmiehckgkadgaaPt8
namespace Go.Proofs.Ytmmiehckgkadgaa.O
set_option linter.unusedVariables false
set_option linter.unusedSimpArgs false
open Go.RowKit Go.Proofs.YtmmiehckgkadgaaW.PrintWords
theorem any_take {r : List ByteArray} {k : Nat} (h : k < r.length) : (r.take k).any (fun y => y.toList == r[k].toList) = !decide (idx (fun y => r[k].toList == y.toList) r = (k : Int)) := by
  rw [← idx_take (p := fun y : ByteArray => r[k].toList == y.toList) h (bytes_self _)]
  have e : (fun y : ByteArray => y.toList == r[k].toList) = (fun y => r[k].toList == y.toList) := funext fun y => Bool.beq_comm
  rw [e]
  unfold idx
  cases h1 : (r.take k).any (fun y => r[k].toList == y.toList) with
  | true => rw [if_pos rfl]; exact (decide_eq_true (by omega)).symm
  | false => rw [if_neg (by simp)]; exact (decide_eq_false (by omega)).symm
theorem fitAt_ref {l : List Col} {r : List ByteArray} {k : Nat} (h : k < r.length) : fitAt l r k = (decide (0 ≤ idx (fun x => x.name.toList == r[k].toList) l) && !((r.take k).any (fun y => y.toList == r[k].toList))) := by
  rw [fitAt_at h, any_take h, Bool.not_not]
theorem keepFit {w0 w w' : World} {a b : Addr} {u v : Value} {g : Nat} {r : Rul} {A2 : Option Addr} {c2 : Nat} (h : w.cell? a = some u ∧ w.cell? b = some v ∧ BoxR w g r A2 c2 ∧ Below w0.heap.size w0 w) (hb : Below w.heap.size w w') : w'.cell? a = some u ∧ w'.cell? b = some v ∧ BoxR w' g r A2 c2 ∧ Below w0.heap.size w0 w' :=
  ⟨pw_cell_below hb h.1, pw_cell_below hb h.2.1, h.2.2.1.below hb, h.2.2.2.trans (hb.mono h.2.2.2.size)⟩
set_option maxHeartbeats 2000000 in
theorem rFits.calls {A0 A2 : Option Addr} {c0 c2 : Nat} (xs : List Col) (r : Rul) (w : World) (hr : kCol.C w A0 xs.length xs) (hl : xs.length ≤ 140737488355328) (hr2 : Kd.string.C w A2 r.cols.length r.cols) (hl2 : r.cols.length ≤ 140737488355328) (hlc : r.cols.length ≤ c2) :
    Calls Try.prog 95 #[.slice A0 xs.length c0, .agg #[.string r.name, .int .i64 r.kind, .slice A2 r.cols.length c2, .int .i64 r.low, .int .i64 r.high, .string r.schema, .string r.table, .string r.key]] w fun e w' => e = .returned (.bool (fitsB xs r)) ∧ Below w.heap.size w w' := by
  have HR := Aside0.mk hr
  have HR2 := Aside0.mk hr2
  have HX := Aside0.mk (BoxR_new w r A2 c2)
  have HW : Aside0 (Below w.heap.size w (w.alloc (rulBox r A2 c2))) := ⟨below_alloc (Below.refl _ _) _⟩
  generalize hi : fitsB xs r = q
  have HI := Aside0.mk hi
  clear hr hi hr2
  have HN := Aside0.mk (fun W => rName.calls r.name W)
  generalize hnm : nameB r.name = nm at HN
  have HNM := Aside0.mk hnm
  clear hnm
  go_enter Try.func95, Try.ntmps95
  go_wp2
  go_loopw [5] (fun i w' => ∃ k : Nat, k ≤ r.cols.length ∧ i = .int .i64 k ∧ Aside0 ((∀ j, j < k → fitAt xs r.cols j = true) ∧ BoxR w' w.heap.size r A2 c2 ∧ Below w.heap.size w w')) (fun i _ => r.cols.length - (intOf i).toNat)
  case atStart => exact ⟨0, Nat.zero_le _, rfl, ⟨fun _ h => absurd h (Nat.not_lt_zero _), HX.out, HW.out⟩⟩
  case round =>
    obtain ⟨k, hk, rfl, HJ⟩ := hrel
    obtain ⟨b0, b1, b2, b3, b4, b5, b6, b7⟩ := HJ.out.2.1
    by_cases hlt : k < r.cols.length
    · obtain ⟨ad2, e, hs⟩ := cStr (Kd.C_below HR2.out HJ.out.2.2) k hlt
      cases e
      have htl : (r.cols.take k).length = k := by rw [List.length_take]; omega
      have hkc : (k : Int) ≤ (c2 : Int) := by omega
      have hkz : (0 : Int) ≤ (k : Int) := by omega
      have HC := Aside0.mk (fun W (hW : Below w.heap.size w W) => rColumn.calls (A0 := A0) (c0 := c0) r.cols[k] xs W (Kd.C_below HR.out hW) hl)
      have HS := Aside0.mk (fun W (hW : Below w.heap.size w W) => rIn.calls (A0 := some ad2) (c0 := c2) r.cols[k] (r.cols.take k) W (Kd.C_take (Kd.C_below HR2.out hW) (by omega)) (by omega))
      rw [htl] at HS
      have HE := Aside0.mk (fitAt_ref (l := xs) hlt)
      generalize idx (fun x : Col => x.name.toList == r.cols[k].toList) xs = m at HC HE
      generalize (r.cols.take k).any (fun y : ByteArray => y.toList == r.cols[k].toList) = n at HS HE
      by_cases hm : m < 0
      · skip
        ·   have hm' : ¬ 0 ≤ m := by omega
            go_wp2_with fail
            refine wp_region_held_drew (S := (fun w' => w'.cell? ⟨w.heap.size, 2, none⟩ = some (.slice (some ad2) r.cols.length c2) ∧ w'.cell? (ad2.add k) = some (.string r.cols[k]) ∧ BoxR w' w.heap.size r (some ad2) c2 ∧ Below w.heap.size w w')) (by kernel_rfl) ⟨b2, hs, HJ.out.2.1.below (drewN_below (Below.refl _ _) 1), pw_below_drewN HJ.out.2.2 1⟩ (fun hHeld0 => ?_)
            refine wpAnyH_take (i := 0) (oi := { dst := some 14, op := _, type := _, pos := _, after := _, guard := _ }) (v := ?v0) rfl (by kernel_rfl) (by kernel_rfl) (by kernel_rfl) (fun _ _ _ h => h) (Or.inl ⟨by kernel_rfl, ?hy0⟩) hHeld0 ?rest0
            case hy0 => (intro w hSw; (try dsimp only at hSw); go_simp; (first | done | with_reducible rfl))
            try simp only [Act.put, List.setIfInBounds_toArray, List.set_cons_zero, List.set_cons_succ]
            refine wpAnyH_take (i := 1) (oi := { dst := some 15, op := _, type := _, pos := _, after := _, guard := _ }) (v := ?v1) rfl (by kernel_rfl) (by kernel_rfl) (by kernel_rfl) (fun _ _ _ h => h) (Or.inl ⟨by kernel_rfl, ?hy1⟩) hHeld0 ?rest1
            case hy1 => (intro w hSw; (try dsimp only at hSw); go_simp; (first | done | with_reducible rfl))
            try simp only [Act.put, List.setIfInBounds_toArray, List.set_cons_zero, List.set_cons_succ]
            refine wpAnyH_take (i := 2) (oi := { dst := some 16, op := _, type := _, pos := _, after := _, guard := _ }) (v := ?v2) rfl (by kernel_rfl) (by kernel_rfl) (by kernel_rfl) (fun _ _ _ h => h) (Or.inl ⟨by kernel_rfl, ?hy2⟩) hHeld0 ?rest2
            case hy2 => (intro w hSw; (try dsimp only at hSw); go_simp; (first | done | with_reducible rfl))
            try simp only [Act.put, List.setIfInBounds_toArray, List.set_cons_zero, List.set_cons_succ]
            refine wpAnyH_take (i := 3) (oi := { dst := some 17, op := _, type := _, pos := _, after := _, guard := _ }) (v := ?v3) rfl (by kernel_rfl) (by kernel_rfl) (by kernel_rfl) (fun _ _ _ h => h) (Or.inl ⟨by kernel_rfl, ?hy3⟩) hHeld0 ?rest3
            case hy3 => (intro w hSw; (try dsimp only at hSw); go_simp; (first | done | with_reducible rfl))
            try simp only [Act.put, List.setIfInBounds_toArray, List.set_cons_zero, List.set_cons_succ]
            refine wpAnyH_take (i := 4) (oi := { dst := some 18, op := _, type := _, pos := _, after := _, guard := _ }) (v := ?v4) rfl (by kernel_rfl) (by kernel_rfl) (by kernel_rfl) (fun _ _ _ h => h) (Or.inl ⟨by kernel_rfl, ?hy4⟩) hHeld0 ?rest4
            case hy4 => (intro w hSw; (try dsimp only at hSw); go_simp; (first | done | with_reducible rfl))
            try simp only [Act.put, List.setIfInBounds_toArray, List.set_cons_zero, List.set_cons_succ]
            refine wpAnyH_take (i := 5) (oi := { dst := some 19, op := _, type := _, pos := _, after := _, guard := _ }) (v := ?v5) rfl (by kernel_rfl) (by kernel_rfl) (by kernel_rfl) (fun _ _ _ h => h) (Or.inl ⟨by kernel_rfl, ?hy5⟩) hHeld0 ?rest5
            case hy5 => (intro w hSw; (try dsimp only at hSw); go_simp; (first | done | with_reducible rfl))
            try simp only [Act.put, List.setIfInBounds_toArray, List.set_cons_zero, List.set_cons_succ]
            refine wpAnyH_ready (rs := [6]) (by kernel_rfl) (by simp) ?_
            refine AllReadyH.cons (o := { dst := some 20, op := _, type := _, pos := _, after := _, guard := _ }) rfl (fun K hK => ?_) AllReadyH.nil
            go_simp
            (go_at_call 63; refine (HC.out _ (And.right (And.right (And.right hHeld0)))).mono ?_; rintro e w' ⟨rfl, hb⟩)
            refine hK.out _ _ (keepFit hHeld0 hb) (fun hHeld1 => ?_)
            clear hK K hHeld0
            try simp only [Act.put, List.setIfInBounds_toArray, List.set_cons_zero, List.set_cons_succ]
            refine wpAnyH_take (i := 7) (oi := { dst := some 21, op := _, type := _, pos := _, after := _, guard := _ }) (v := ?v7) rfl (by kernel_rfl) (by kernel_rfl) (by kernel_rfl) (fun _ _ _ h => h) (Or.inl ⟨by kernel_rfl, ?hy7⟩) hHeld1 ?rest7
            case hy7 => (intro w hSw; (try dsimp only at hSw); go_simp; (first | done | with_reducible rfl))
            try simp only [Act.put, List.setIfInBounds_toArray, List.set_cons_zero, List.set_cons_succ]
            refine wpAnyH_take (i := 8) (oi := { dst := some 22, op := _, type := _, pos := _, after := _, guard := _ }) (v := ?v8) rfl (by kernel_rfl) (by kernel_rfl) (by kernel_rfl) (fun _ _ _ h => h) (Or.inl ⟨by kernel_rfl, ?hy8⟩) hHeld1 ?rest8
            case hy8 => (intro w hSw; (try dsimp only at hSw); go_simp; (first | done | with_reducible rfl))
            try simp only [Act.put, List.setIfInBounds_toArray, List.set_cons_zero, List.set_cons_succ]
            refine wpAnyH_take (i := 9) (oi := { dst := some 23, op := _, type := _, pos := _, after := _, guard := _ }) (v := undef) rfl (by kernel_rfl) (by kernel_rfl) (by kernel_rfl) (fun _ _ _ h => h) (Or.inr ⟨by kernel_rfl, rfl⟩) hHeld1 ?_
            try simp only [Act.put, List.setIfInBounds_toArray, List.set_cons_zero, List.set_cons_succ]
            refine wpAnyH_take (i := 10) (oi := { dst := some 24, op := _, type := _, pos := _, after := _, guard := _ }) (v := undef) rfl (by kernel_rfl) (by kernel_rfl) (by kernel_rfl) (fun _ _ _ h => h) (Or.inr ⟨by kernel_rfl, rfl⟩) hHeld1 ?_
            try simp only [Act.put, List.setIfInBounds_toArray, List.set_cons_zero, List.set_cons_succ]
            refine wpAnyH_take (i := 11) (oi := { dst := some 25, op := _, type := _, pos := _, after := _, guard := _ }) (v := undef) rfl (by kernel_rfl) (by kernel_rfl) (by kernel_rfl) (fun _ _ _ h => h) (Or.inr ⟨by kernel_rfl, rfl⟩) hHeld1 ?_
            try simp only [Act.put, List.setIfInBounds_toArray, List.set_cons_zero, List.set_cons_succ]
            refine wpAnyH_take (i := 12) (oi := { dst := some 26, op := _, type := _, pos := _, after := _, guard := _ }) (v := undef) rfl (by kernel_rfl) (by kernel_rfl) (by kernel_rfl) (fun _ _ _ h => h) (Or.inr ⟨by kernel_rfl, rfl⟩) hHeld1 ?_
            try simp only [Act.put, List.setIfInBounds_toArray, List.set_cons_zero, List.set_cons_succ]
            refine wpAnyH_take (i := 13) (oi := { dst := some 27, op := _, type := _, pos := _, after := _, guard := _ }) (v := undef) rfl (by kernel_rfl) (by kernel_rfl) (by kernel_rfl) (fun _ _ _ h => h) (Or.inr ⟨by kernel_rfl, rfl⟩) hHeld1 ?_
            try simp only [Act.put, List.setIfInBounds_toArray, List.set_cons_zero, List.set_cons_succ]
            refine wpAnyH_take (i := 14) (oi := { dst := some 28, op := _, type := _, pos := _, after := _, guard := _ }) (v := undef) rfl (by kernel_rfl) (by kernel_rfl) (by kernel_rfl) (fun _ _ _ h => h) (Or.inr ⟨by kernel_rfl, rfl⟩) hHeld1 ?_
            try simp only [Act.put, List.setIfInBounds_toArray, List.set_cons_zero, List.set_cons_succ]
            refine wpAnyH_take (i := 15) (oi := { dst := some 29, op := _, type := _, pos := _, after := _, guard := _ }) (v := undef) rfl (by kernel_rfl) (by kernel_rfl) (by kernel_rfl) (fun _ _ _ h => h) (Or.inr ⟨by kernel_rfl, rfl⟩) hHeld1 ?_
            try simp only [Act.put, List.setIfInBounds_toArray, List.set_cons_zero, List.set_cons_succ]
            refine wpAnyH_take (i := 16) (oi := { dst := some 30, op := _, type := _, pos := _, after := _, guard := _ }) (v := undef) rfl (by kernel_rfl) (by kernel_rfl) (by kernel_rfl) (fun _ _ _ h => h) (Or.inr ⟨by kernel_rfl, rfl⟩) hHeld1 ?_
            try simp only [Act.put, List.setIfInBounds_toArray, List.set_cons_zero, List.set_cons_succ]
            refine wpAnyH_take (i := 17) (oi := { dst := some 31, op := _, type := _, pos := _, after := _, guard := _ }) (v := undef) rfl (by kernel_rfl) (by kernel_rfl) (by kernel_rfl) (fun _ _ _ h => h) (Or.inr ⟨by kernel_rfl, rfl⟩) hHeld1 ?_
            try simp only [Act.put, List.setIfInBounds_toArray, List.set_cons_zero, List.set_cons_succ]
            refine wpAnyH_take (i := 18) (oi := { dst := some 32, op := _, type := _, pos := _, after := _, guard := _ }) (v := undef) rfl (by kernel_rfl) (by kernel_rfl) (by kernel_rfl) (fun _ _ _ h => h) (Or.inr ⟨by kernel_rfl, rfl⟩) hHeld1 ?_
            try simp only [Act.put, List.setIfInBounds_toArray, List.set_cons_zero, List.set_cons_succ]
            refine wpAnyH_take (i := 19) (oi := { dst := some 33, op := _, type := _, pos := _, after := _, guard := _ }) (v := ?v19) rfl (by kernel_rfl) (by kernel_rfl) (by kernel_rfl) (fun _ _ _ h => h) (Or.inl ⟨by kernel_rfl, ?hy19⟩) hHeld1 ?rest19
            case hy19 => (intro w hSw; (try dsimp only at hSw); go_simp; (first | done | with_reducible rfl))
            try simp only [Act.put, List.setIfInBounds_toArray, List.set_cons_zero, List.set_cons_succ]
            refine wpAnyH_done (by kernel_rfl) ?_ _
            have hH := hHeld1
            clear hHeld1
            have HB := Aside0.mk hH.2.2.2
            clear hH
            go_wp2
            go_ret
            exact ⟨ret_bool ((fits_none (allB_false hlt (by rw [HE.out, decide_eq_false (show ¬ 0 ≤ m by omega), Bool.false_and]))).symm.trans HI.out), HB.out⟩
      · have hm' : 0 ≤ m := by omega
        have hdm : decide (m < 0) = false := decide_eq_false hm
        cases n with
        | true =>
              go_wp2_with fail
              go_region_held3 (fun w' => w'.cell? ⟨w.heap.size, 2, none⟩ = some (.slice (some ad2) r.cols.length c2) ∧ w'.cell? (ad2.add k) = some (.string r.cols[k]) ∧ BoxR w' w.heap.size r (some ad2) c2 ∧ Below w.heap.size w w')
                (first | assumption | exact keepFit (by assumption) (by assumption) | exact ⟨b2, hs, HJ.out.2.1.below (drewN_below (Below.refl _ _) 1), pw_below_drewN HJ.out.2.2 1⟩)
                (first | (go_at_call 63; refine (HC.out _ (And.right (And.right (And.right (by assumption))))).mono ?_; rintro e w' ⟨rfl, hb⟩) | (go_at_call 69; refine (HS.out _ (And.right (And.right (And.right (by assumption))))).mono ?_; rintro e w' ⟨rfl, hb⟩))
              rename_i hH
              have HB := Aside0.mk hH.2.2.2
              clear hH
              go_wp2
              go_ret
              exact ⟨ret_bool ((fits_none (allB_false hlt (by rw [HE.out, Bool.not_true, Bool.and_false]))).symm.trans HI.out), HB.out⟩
        | false =>
              go_wp2_with fail
              go_region_held3 (fun w' => w'.cell? ⟨w.heap.size, 2, none⟩ = some (.slice (some ad2) r.cols.length c2) ∧ w'.cell? (ad2.add k) = some (.string r.cols[k]) ∧ BoxR w' w.heap.size r (some ad2) c2 ∧ Below w.heap.size w w')
                (first | assumption | exact keepFit (by assumption) (by assumption) | exact ⟨b2, hs, HJ.out.2.1.below (drewN_below (Below.refl _ _) 1), pw_below_drewN HJ.out.2.2 1⟩)
                (first | (go_at_call 63; refine (HC.out _ (And.right (And.right (And.right (by assumption))))).mono ?_; rintro e w' ⟨rfl, hb⟩) | (go_at_call 69; refine (HS.out _ (And.right (And.right (And.right (by assumption))))).mono ?_; rintro e w' ⟨rfl, hb⟩))
              rename_i hH
              have HB := Aside0.mk hH.2.2
              clear hH
              go_wp2
              go_roundw
              case rel => exact ⟨k + 1, by omega, by go_num, ⟨snocB HJ.out.1 (by rw [HE.out, decide_eq_true (show 0 ≤ m by omega)]; rfl), HB.out.1, HB.out.2⟩⟩
              case measure => simp [intOf]; omega
    · have hd : decide (k < r.cols.length) = false := decide_eq_false hlt
      have HA := Aside0.mk (show ∀ j, j < r.cols.length → fitAt xs r.cols j = true from fun j hj => HJ.out.1 j (by omega))
      cases nm with
      | false =>
        go_wp2_with fail
        refine (HN.out _).mono ?_
        rintro e w1 ⟨rfl, rfl⟩
        go_wp2
        go_ret
        exact ⟨ret_bool (by rw [← HI.out]; unfold fitsB; rw [HNM.out]; rfl), HJ.out.2.2⟩
      | true =>
       by_cases h1 : 1 ≤ r.cols.length
       · skip
         ·  have g1 : ((r.cols.length : Int) == 0) = false := beq_eq_false_iff_ne.2 (by omega)
            have HT := Aside0.mk ((fits_tail HNM.out h1 (allB_true fun j hj => HA.out j hj)).symm.trans HI.out)
            go_wp2_with fail
            refine (HN.out _).mono ?_
            rintro e w1 ⟨rfl, rfl⟩
            by_cases k3 : r.kind = 3
            · skip
              cases e5 : r.schema.toList.isEmpty with
              | false =>
                go_wp2
                go_ret
                exact ⟨ret_bool (by rw [← HT.out, tailB]; simp [bareR, k3, e5]), HJ.out.2.2⟩
              | true =>
                cases e6 : r.table.toList.isEmpty with
                | false =>
                  go_wp2
                  go_ret
                  exact ⟨ret_bool (by rw [← HT.out, tailB]; simp [bareR, k3, e5, e6]), HJ.out.2.2⟩
                | true =>
                  cases e7 : r.key.toList.isEmpty with
                  | false =>
                    go_wp2
                    go_ret
                    exact ⟨ret_bool (by rw [← HT.out, tailB]; simp [bareR, k3, e5, e6, e7]), HJ.out.2.2⟩
                  | true =>
                    by_cases e1 : r.cols.length = 1
                    · obtain ⟨ad2, e, hs⟩ := cStr (Kd.C_below HR2.out HJ.out.2.2) 0 (by omega)
                      cases e
                      have HC := Aside0.mk (fun W (hW : Below w.heap.size w W) => rColumn.calls (A0 := A0) (c0 := c0) r.cols[0] xs W (Kd.C_below HR.out hW) hl)
                      obtain ⟨n, hn, en, _, _⟩ := idx_has (show 0 < r.cols.length by omega) (HA.out 0 (by omega))
                      have EN := Aside0.mk en
                      rw [en] at HC
                      clear en
                      have hk0 : kindAt xs r.cols[0] = xs[n].kind := by unfold kindAt; rw [EN.out, Int.toNat_natCast, getD_at hn]
                      have HK0 := Aside0.mk hk0
                      clear hk0
                      have e1' : ((r.cols.length : Int) == 1) = true := by rw [e1]; rfl
                      have hs' : wr.cell? ad2 = some (.string r.cols[0]) := by simpa [Addr.add] using hs
                      go_wp2_with fail
                      refine (HC.out _ HJ.out.2.2).mono ?_
                      rintro e w1 ⟨rfl, hb1⟩
                      have HB1 := Aside0.mk (HJ.out.2.2.trans (hb1.mono HJ.out.2.2.size))
                      obtain ⟨c0_, c1_, c2_, c3_, c4_, c5_, c6_, c7_⟩ := HJ.out.2.1.below hb1
                      clear hb1
                      obtain ⟨ad, e, hc0, hc1, hc2⟩ := cCol (Kd.C_below HR.out HB1.out) n hn
                      cases e
                      cases q2 : (xs[n].kind == 2) with
                      | false =>
                        go_wp2
                        go_ret
                        exact ⟨ret_bool (by rw [← HT.out, tailB]; simp [bareR, k3, e5, e6, e7, q2, HK0.out, e1]), HB1.out⟩
                      | true =>
                        by_cases lh : r.low ≤ r.high
                        · skip
                          go_wp2
                          go_ret
                          exact ⟨ret_bool (by rw [← HT.out, tailB]; simp [bareR, k3, e5, e6, e7, q2, lh, HK0.out, e1]), HB1.out⟩
                        · have lh' : r.high < r.low := by omega
                          go_wp2
                          go_ret
                          exact ⟨ret_bool (by rw [← HT.out, tailB]; simp [bareR, k3, e5, e6, e7, q2, lh, HK0.out, e1]), HB1.out⟩
                    · have e1' : ((r.cols.length : Int) == 1) = false := beq_eq_false_iff_ne.2 (by omega)
                      go_wp2
                      go_ret
                      exact ⟨ret_bool (by rw [← HT.out, tailB]; simp [bareR, k3, e5, e6, e7, e1]), HJ.out.2.2⟩
            · by_cases k4 : r.kind = 4
              · skip
                cases e5 : r.schema.toList.isEmpty with
                | false =>
                  have Hn5 := Aside0.mk (fun W => rName.calls r.schema W)
                  have Hn6 := Aside0.mk (fun W => rName.calls r.table W)
                  have Hn7 := Aside0.mk (fun W => rName.calls r.key W)
                  cases n5 : nameB r.schema with
                  | false =>
                    rw [n5] at Hn5
                    go_wp2_with fail
                    refine (Hn5.out _).mono ?_
                    rintro e _ ⟨rfl, rfl⟩
                    go_wp2
                    go_ret
                    exact ⟨ret_bool (by rw [← HT.out, tailB]; simp [bareR, k4, e5, n5]), HJ.out.2.2⟩
                  | true =>
                    rw [n5] at Hn5
                    cases n6 : nameB r.table with
                    | false =>
                      rw [n6] at Hn6
                      go_wp2_with fail
                      refine (Hn5.out _).mono ?_
                      rintro e _ ⟨rfl, rfl⟩
                      go_wp2_with fail
                      refine (Hn6.out _).mono ?_
                      rintro e _ ⟨rfl, rfl⟩
                      go_wp2
                      go_ret
                      exact ⟨ret_bool (by rw [← HT.out, tailB]; simp [bareR, k4, e5, n5, n6]), HJ.out.2.2⟩
                    | true =>
                      rw [n6] at Hn6
                      cases n7 : nameB r.key with
                      | false =>
                        rw [n7] at Hn7
                        go_wp2_with fail
                        refine (Hn5.out _).mono ?_
                        rintro e _ ⟨rfl, rfl⟩
                        go_wp2_with fail
                        refine (Hn6.out _).mono ?_
                        rintro e _ ⟨rfl, rfl⟩
                        go_wp2_with fail
                        refine (Hn7.out _).mono ?_
                        rintro e _ ⟨rfl, rfl⟩
                        go_wp2
                        go_ret
                        exact ⟨ret_bool (by rw [← HT.out, tailB]; simp [bareR, k4, e5, n5, n6, n7]), HJ.out.2.2⟩
                      | true =>
                        rw [n7] at Hn7
                        cases l0 : (r.low == 0) with
                        | false =>
                          go_wp2_with fail
                          refine (Hn5.out _).mono ?_
                          rintro e _ ⟨rfl, rfl⟩
                          go_wp2_with fail
                          refine (Hn6.out _).mono ?_
                          rintro e _ ⟨rfl, rfl⟩
                          go_wp2_with fail
                          refine (Hn7.out _).mono ?_
                          rintro e _ ⟨rfl, rfl⟩
                          go_wp2
                          go_ret
                          exact ⟨ret_bool (by rw [← HT.out, tailB]; simp [bareR, k4, e5, n5, n6, n7, l0]), HJ.out.2.2⟩
                        | true =>
                          cases h0 : (r.high == 0) with
                          | false =>
                            go_wp2_with fail
                            refine (Hn5.out _).mono ?_
                            rintro e _ ⟨rfl, rfl⟩
                            go_wp2_with fail
                            refine (Hn6.out _).mono ?_
                            rintro e _ ⟨rfl, rfl⟩
                            go_wp2_with fail
                            refine (Hn7.out _).mono ?_
                            rintro e _ ⟨rfl, rfl⟩
                            go_wp2
                            go_ret
                            exact ⟨ret_bool (by rw [← HT.out, tailB]; simp [bareR, k4, e5, n5, n6, n7, l0, h0]), HJ.out.2.2⟩
                          | true =>
                            go_wp2_with fail
                            refine (Hn5.out _).mono ?_
                            rintro e _ ⟨rfl, rfl⟩
                            go_wp2_with fail
                            refine (Hn6.out _).mono ?_
                            rintro e _ ⟨rfl, rfl⟩
                            go_wp2_with fail
                            refine (Hn7.out _).mono ?_
                            rintro e _ ⟨rfl, rfl⟩
                            go_wp2
                            go_ret
                            exact ⟨ret_bool (by rw [← HT.out, tailB]; simp [bareR, k4, e5, n5, n6, n7, l0, h0]), HJ.out.2.2⟩
                | true =>
                  cases e6 : r.table.toList.isEmpty with
                  | false =>
                    have Hn5 := Aside0.mk (fun W => rName.calls r.schema W)
                    have Hn6 := Aside0.mk (fun W => rName.calls r.table W)
                    have Hn7 := Aside0.mk (fun W => rName.calls r.key W)
                    cases n5 : nameB r.schema with
                    | false =>
                      rw [n5] at Hn5
                      go_wp2_with fail
                      refine (Hn5.out _).mono ?_
                      rintro e _ ⟨rfl, rfl⟩
                      go_wp2
                      go_ret
                      exact ⟨ret_bool (by rw [← HT.out, tailB]; simp [bareR, k4, e5, e6, n5]), HJ.out.2.2⟩
                    | true =>
                      rw [n5] at Hn5
                      cases n6 : nameB r.table with
                      | false =>
                        rw [n6] at Hn6
                        go_wp2_with fail
                        refine (Hn5.out _).mono ?_
                        rintro e _ ⟨rfl, rfl⟩
                        go_wp2_with fail
                        refine (Hn6.out _).mono ?_
                        rintro e _ ⟨rfl, rfl⟩
                        go_wp2
                        go_ret
                        exact ⟨ret_bool (by rw [← HT.out, tailB]; simp [bareR, k4, e5, e6, n5, n6]), HJ.out.2.2⟩
                      | true =>
                        rw [n6] at Hn6
                        cases n7 : nameB r.key with
                        | false =>
                          rw [n7] at Hn7
                          go_wp2_with fail
                          refine (Hn5.out _).mono ?_
                          rintro e _ ⟨rfl, rfl⟩
                          go_wp2_with fail
                          refine (Hn6.out _).mono ?_
                          rintro e _ ⟨rfl, rfl⟩
                          go_wp2_with fail
                          refine (Hn7.out _).mono ?_
                          rintro e _ ⟨rfl, rfl⟩
                          go_wp2
                          go_ret
                          exact ⟨ret_bool (by rw [← HT.out, tailB]; simp [bareR, k4, e5, e6, n5, n6, n7]), HJ.out.2.2⟩
                        | true =>
                          rw [n7] at Hn7
                          cases l0 : (r.low == 0) with
                          | false =>
                            go_wp2_with fail
                            refine (Hn5.out _).mono ?_
                            rintro e _ ⟨rfl, rfl⟩
                            go_wp2_with fail
                            refine (Hn6.out _).mono ?_
                            rintro e _ ⟨rfl, rfl⟩
                            go_wp2_with fail
                            refine (Hn7.out _).mono ?_
                            rintro e _ ⟨rfl, rfl⟩
                            go_wp2
                            go_ret
                            exact ⟨ret_bool (by rw [← HT.out, tailB]; simp [bareR, k4, e5, e6, n5, n6, n7, l0]), HJ.out.2.2⟩
                          | true =>
                            cases h0 : (r.high == 0) with
                            | false =>
                              go_wp2_with fail
                              refine (Hn5.out _).mono ?_
                              rintro e _ ⟨rfl, rfl⟩
                              go_wp2_with fail
                              refine (Hn6.out _).mono ?_
                              rintro e _ ⟨rfl, rfl⟩
                              go_wp2_with fail
                              refine (Hn7.out _).mono ?_
                              rintro e _ ⟨rfl, rfl⟩
                              go_wp2
                              go_ret
                              exact ⟨ret_bool (by rw [← HT.out, tailB]; simp [bareR, k4, e5, e6, n5, n6, n7, l0, h0]), HJ.out.2.2⟩
                            | true =>
                              go_wp2_with fail
                              refine (Hn5.out _).mono ?_
                              rintro e _ ⟨rfl, rfl⟩
                              go_wp2_with fail
                              refine (Hn6.out _).mono ?_
                              rintro e _ ⟨rfl, rfl⟩
                              go_wp2_with fail
                              refine (Hn7.out _).mono ?_
                              rintro e _ ⟨rfl, rfl⟩
                              go_wp2
                              go_ret
                              exact ⟨ret_bool (by rw [← HT.out, tailB]; simp [bareR, k4, e5, e6, n5, n6, n7, l0, h0]), HJ.out.2.2⟩
                  | true =>
                    cases e7 : r.key.toList.isEmpty with
                    | false =>
                      have Hn5 := Aside0.mk (fun W => rName.calls r.schema W)
                      have Hn6 := Aside0.mk (fun W => rName.calls r.table W)
                      have Hn7 := Aside0.mk (fun W => rName.calls r.key W)
                      cases n5 : nameB r.schema with
                      | false =>
                        rw [n5] at Hn5
                        go_wp2_with fail
                        refine (Hn5.out _).mono ?_
                        rintro e _ ⟨rfl, rfl⟩
                        go_wp2
                        go_ret
                        exact ⟨ret_bool (by rw [← HT.out, tailB]; simp [bareR, k4, e5, e6, e7, n5]), HJ.out.2.2⟩
                      | true =>
                        rw [n5] at Hn5
                        cases n6 : nameB r.table with
                        | false =>
                          rw [n6] at Hn6
                          go_wp2_with fail
                          refine (Hn5.out _).mono ?_
                          rintro e _ ⟨rfl, rfl⟩
                          go_wp2_with fail
                          refine (Hn6.out _).mono ?_
                          rintro e _ ⟨rfl, rfl⟩
                          go_wp2
                          go_ret
                          exact ⟨ret_bool (by rw [← HT.out, tailB]; simp [bareR, k4, e5, e6, e7, n5, n6]), HJ.out.2.2⟩
                        | true =>
                          rw [n6] at Hn6
                          cases n7 : nameB r.key with
                          | false =>
                            rw [n7] at Hn7
                            go_wp2_with fail
                            refine (Hn5.out _).mono ?_
                            rintro e _ ⟨rfl, rfl⟩
                            go_wp2_with fail
                            refine (Hn6.out _).mono ?_
                            rintro e _ ⟨rfl, rfl⟩
                            go_wp2_with fail
                            refine (Hn7.out _).mono ?_
                            rintro e _ ⟨rfl, rfl⟩
                            go_wp2
                            go_ret
                            exact ⟨ret_bool (by rw [← HT.out, tailB]; simp [bareR, k4, e5, e6, e7, n5, n6, n7]), HJ.out.2.2⟩
                          | true =>
                            rw [n7] at Hn7
                            cases l0 : (r.low == 0) with
                            | false =>
                              go_wp2_with fail
                              refine (Hn5.out _).mono ?_
                              rintro e _ ⟨rfl, rfl⟩
                              go_wp2_with fail
                              refine (Hn6.out _).mono ?_
                              rintro e _ ⟨rfl, rfl⟩
                              go_wp2_with fail
                              refine (Hn7.out _).mono ?_
                              rintro e _ ⟨rfl, rfl⟩
                              go_wp2
                              go_ret
                              exact ⟨ret_bool (by rw [← HT.out, tailB]; simp [bareR, k4, e5, e6, e7, n5, n6, n7, l0]), HJ.out.2.2⟩
                            | true =>
                              cases h0 : (r.high == 0) with
                              | false =>
                                go_wp2_with fail
                                refine (Hn5.out _).mono ?_
                                rintro e _ ⟨rfl, rfl⟩
                                go_wp2_with fail
                                refine (Hn6.out _).mono ?_
                                rintro e _ ⟨rfl, rfl⟩
                                go_wp2_with fail
                                refine (Hn7.out _).mono ?_
                                rintro e _ ⟨rfl, rfl⟩
                                go_wp2
                                go_ret
                                exact ⟨ret_bool (by rw [← HT.out, tailB]; simp [bareR, k4, e5, e6, e7, n5, n6, n7, l0, h0]), HJ.out.2.2⟩
                              | true =>
                                go_wp2_with fail
                                refine (Hn5.out _).mono ?_
                                rintro e _ ⟨rfl, rfl⟩
                                go_wp2_with fail
                                refine (Hn6.out _).mono ?_
                                rintro e _ ⟨rfl, rfl⟩
                                go_wp2_with fail
                                refine (Hn7.out _).mono ?_
                                rintro e _ ⟨rfl, rfl⟩
                                go_wp2
                                go_ret
                                exact ⟨ret_bool (by rw [← HT.out, tailB]; simp [bareR, k4, e5, e6, e7, n5, n6, n7, l0, h0]), HJ.out.2.2⟩
                    | true =>
                      have Hn5 := Aside0.mk (fun W => rName.calls r.schema W)
                      have Hn6 := Aside0.mk (fun W => rName.calls r.table W)
                      have Hn7 := Aside0.mk (fun W => rName.calls r.key W)
                      cases n5 : nameB r.schema with
                      | false =>
                        rw [n5] at Hn5
                        go_wp2_with fail
                        refine (Hn5.out _).mono ?_
                        rintro e _ ⟨rfl, rfl⟩
                        go_wp2
                        go_ret
                        exact ⟨ret_bool (by rw [← HT.out, tailB]; simp [bareR, k4, e5, e6, e7, n5]), HJ.out.2.2⟩
                      | true =>
                        rw [n5] at Hn5
                        cases n6 : nameB r.table with
                        | false =>
                          rw [n6] at Hn6
                          go_wp2_with fail
                          refine (Hn5.out _).mono ?_
                          rintro e _ ⟨rfl, rfl⟩
                          go_wp2_with fail
                          refine (Hn6.out _).mono ?_
                          rintro e _ ⟨rfl, rfl⟩
                          go_wp2
                          go_ret
                          exact ⟨ret_bool (by rw [← HT.out, tailB]; simp [bareR, k4, e5, e6, e7, n5, n6]), HJ.out.2.2⟩
                        | true =>
                          rw [n6] at Hn6
                          cases n7 : nameB r.key with
                          | false =>
                            rw [n7] at Hn7
                            go_wp2_with fail
                            refine (Hn5.out _).mono ?_
                            rintro e _ ⟨rfl, rfl⟩
                            go_wp2_with fail
                            refine (Hn6.out _).mono ?_
                            rintro e _ ⟨rfl, rfl⟩
                            go_wp2_with fail
                            refine (Hn7.out _).mono ?_
                            rintro e _ ⟨rfl, rfl⟩
                            go_wp2
                            go_ret
                            exact ⟨ret_bool (by rw [← HT.out, tailB]; simp [bareR, k4, e5, e6, e7, n5, n6, n7]), HJ.out.2.2⟩
                          | true =>
                            rw [n7] at Hn7
                            cases l0 : (r.low == 0) with
                            | false =>
                              go_wp2_with fail
                              refine (Hn5.out _).mono ?_
                              rintro e _ ⟨rfl, rfl⟩
                              go_wp2_with fail
                              refine (Hn6.out _).mono ?_
                              rintro e _ ⟨rfl, rfl⟩
                              go_wp2_with fail
                              refine (Hn7.out _).mono ?_
                              rintro e _ ⟨rfl, rfl⟩
                              go_wp2
                              go_ret
                              exact ⟨ret_bool (by rw [← HT.out, tailB]; simp [bareR, k4, e5, e6, e7, n5, n6, n7, l0]), HJ.out.2.2⟩
                            | true =>
                              cases h0 : (r.high == 0) with
                              | false =>
                                go_wp2_with fail
                                refine (Hn5.out _).mono ?_
                                rintro e _ ⟨rfl, rfl⟩
                                go_wp2_with fail
                                refine (Hn6.out _).mono ?_
                                rintro e _ ⟨rfl, rfl⟩
                                go_wp2_with fail
                                refine (Hn7.out _).mono ?_
                                rintro e _ ⟨rfl, rfl⟩
                                go_wp2
                                go_ret
                                exact ⟨ret_bool (by rw [← HT.out, tailB]; simp [bareR, k4, e5, e6, e7, n5, n6, n7, l0, h0]), HJ.out.2.2⟩
                              | true =>
                                go_wp2_with fail
                                refine (Hn5.out _).mono ?_
                                rintro e _ ⟨rfl, rfl⟩
                                go_wp2_with fail
                                refine (Hn6.out _).mono ?_
                                rintro e _ ⟨rfl, rfl⟩
                                go_wp2_with fail
                                refine (Hn7.out _).mono ?_
                                rintro e _ ⟨rfl, rfl⟩
                                go_wp2
                                go_ret
                                exact ⟨ret_bool (by rw [← HT.out, tailB]; simp [bareR, k4, e5, e6, e7, n5, n6, n7, l0, h0]), HJ.out.2.2⟩
              · by_cases k1 : r.kind = 1
                · skip
                  cases e5 : r.schema.toList.isEmpty with
                  | false =>
                    go_wp2
                    go_ret
                    exact ⟨ret_bool (by rw [← HT.out, tailB]; simp [bareR, k1, e5]), HJ.out.2.2⟩
                  | true =>
                    cases e6 : r.table.toList.isEmpty with
                    | false =>
                      go_wp2
                      go_ret
                      exact ⟨ret_bool (by rw [← HT.out, tailB]; simp [bareR, k1, e5, e6]), HJ.out.2.2⟩
                    | true =>
                      cases e7 : r.key.toList.isEmpty with
                      | false =>
                        go_wp2
                        go_ret
                        exact ⟨ret_bool (by rw [← HT.out, tailB]; simp [bareR, k1, e5, e6, e7]), HJ.out.2.2⟩
                      | true =>
                        cases l0 : (r.low == 0) with
                        | false =>
                          go_wp2
                          go_ret
                          exact ⟨ret_bool (by rw [← HT.out, tailB]; simp [bareR, k1, e5, e6, e7, l0]), HJ.out.2.2⟩
                        | true =>
                          cases h0 : (r.high == 0) with
                          | false =>
                            go_wp2
                            go_ret
                            exact ⟨ret_bool (by rw [← HT.out, tailB]; simp [bareR, k1, e5, e6, e7, l0, h0]), HJ.out.2.2⟩
                          | true =>
                            go_wp2
                            go_ret
                            exact ⟨ret_bool (by rw [← HT.out, tailB]; simp [bareR, k1, e5, e6, e7, l0, h0]), HJ.out.2.2⟩
                · by_cases k2 : r.kind = 2
                  · skip
                    cases e5 : r.schema.toList.isEmpty with
                    | false =>
                      go_wp2
                      go_ret
                      exact ⟨ret_bool (by rw [← HT.out, tailB]; simp [bareR, k2, e5]), HJ.out.2.2⟩
                    | true =>
                      cases e6 : r.table.toList.isEmpty with
                      | false =>
                        go_wp2
                        go_ret
                        exact ⟨ret_bool (by rw [← HT.out, tailB]; simp [bareR, k2, e5, e6]), HJ.out.2.2⟩
                      | true =>
                        cases e7 : r.key.toList.isEmpty with
                        | false =>
                          go_wp2
                          go_ret
                          exact ⟨ret_bool (by rw [← HT.out, tailB]; simp [bareR, k2, e5, e6, e7]), HJ.out.2.2⟩
                        | true =>
                          cases l0 : (r.low == 0) with
                          | false =>
                            go_wp2
                            go_ret
                            exact ⟨ret_bool (by rw [← HT.out, tailB]; simp [bareR, k2, e5, e6, e7, l0]), HJ.out.2.2⟩
                          | true =>
                            cases h0 : (r.high == 0) with
                            | false =>
                              go_wp2
                              go_ret
                              exact ⟨ret_bool (by rw [← HT.out, tailB]; simp [bareR, k2, e5, e6, e7, l0, h0]), HJ.out.2.2⟩
                            | true =>
                              go_wp2
                              go_ret
                              exact ⟨ret_bool (by rw [← HT.out, tailB]; simp [bareR, k2, e5, e6, e7, l0, h0]), HJ.out.2.2⟩
                  · have q1 : (r.kind == 1) = false := beq_eq_false_iff_ne.2 k1
                    have q2 : (r.kind == 2) = false := beq_eq_false_iff_ne.2 k2
                    have q3 : (r.kind == 3) = false := beq_eq_false_iff_ne.2 k3
                    have q4 : (r.kind == 4) = false := beq_eq_false_iff_ne.2 k4
                    cases e5 : r.schema.toList.isEmpty with
                    | false =>
                      go_wp2
                      go_ret
                      exact ⟨ret_bool (by rw [← HT.out, tailB]; simp [bareR, e5, k1, k2, k3, k4]), HJ.out.2.2⟩
                    | true =>
                      cases e6 : r.table.toList.isEmpty with
                      | false =>
                        go_wp2
                        go_ret
                        exact ⟨ret_bool (by rw [← HT.out, tailB]; simp [bareR, e5, e6, k1, k2, k3, k4]), HJ.out.2.2⟩
                      | true =>
                        cases e7 : r.key.toList.isEmpty with
                        | false =>
                          go_wp2
                          go_ret
                          exact ⟨ret_bool (by rw [← HT.out, tailB]; simp [bareR, e5, e6, e7, k1, k2, k3, k4]), HJ.out.2.2⟩
                        | true =>
                          go_wp2
                          go_ret
                          exact ⟨ret_bool (by rw [← HT.out, tailB]; simp [bareR, e5, e6, e7, k1, k2, k3, k4]), HJ.out.2.2⟩
       · have g1 : ((r.cols.length : Int) == 0) = true := beq_iff_eq.2 (by omega)
         go_wp2_with fail
         refine (HN.out _).mono ?_
         rintro e w1 ⟨rfl, rfl⟩
         go_wp2
         go_ret
         exact ⟨ret_bool (by rw [← HI.out]; unfold fitsB; rw [decide_eq_false h1, Bool.false_and, Bool.and_false]), HJ.out.2.2⟩
end Go.Proofs.Ytmmiehckgkadgaa.O
