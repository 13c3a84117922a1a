/- ObjectsChecks: the law, walked. Printed by a program of this session (gen_rows.py out of XOX.txt). -/
import Derived.Test.YtmmiehckgkadgaaOW
namespace Go.Proofs.Ytmmiehckgkadgaa.O
set_option linter.unusedVariables false
set_option linter.unusedSimpArgs false
open Go.RowKit Go.Proofs.YtmmiehckgkadgaaW.PrintWords

set_option maxHeartbeats 2000000 in
theorem checks.calls (w : World) : Calls Try.prog 12 #[] w fun e w' => e = .returned (.bool true) ∧ Below w.heap.size w w' := by
  have HO := Aside0.mk (one.calls w)
  go_enter Try.func12, Try.ntmps12
  go_wp2_with fail
  refine HO.out.mono ?_
  rintro e w1 ⟨As, cs, At, ct, rfl, l1, l2, hs, ht, hb1⟩
  have HL := Aside0.mk (And.intro l1 l2)
  have HB1 := Aside0.mk hb1
  have HK1 := Aside0.mk (fun W (hW : Below w1.heap.size w1 W) => Check.calls (As := As) (cs := cs) (At := At) (ct := ct) [sch1] [tab1] W (Kd.C_below hs hW) (by decide) (Kd.C_below ht hW) tabsF_one)
  have HK2 := Aside0.mk (fun W (hW : Below w1.heap.size w1 W) => Check.calls (As := none) (cs := 0) (At := At) (ct := ct) [] [tab1] W (Kd.C_nil kSch W) (by decide) (Kd.C_below ht hW) tabsF_one)
  rw [check_one] at HK1
  rw [check_bare] at HK2
  have HX := Aside0.mk (BoxO_new w1 As 1 cs At 1 ct)
  have HW1 := Aside0.mk (below_alloc (Below.refl w1.heap.size w1) (objBox As 1 cs At 1 ct))
  clear l1 l2 hs ht hb1
  go_wp2_with fail
  refine (HK1.out _ HW1.out).mono ?_
  rintro e w2 ⟨rfl, hb2⟩
  have HW2 := Aside0.mk (HW1.out.trans (hb2.mono HW1.out.size))
  have HX2 := Aside0.mk (HX.out.below hb2)
  obtain ⟨o0, o1⟩ := HX2.out
  clear hb2
  go_wp2_with fail
  refine (HK2.out _ HW2.out).mono ?_
  rintro e w3 ⟨rfl, hb3⟩
  have HW3 := Aside0.mk (HW2.out.trans (hb3.mono HW2.out.size))
  clear hb3
  go_wp2
  go_ret
  exact ⟨rfl, HB1.out.trans (HW3.out.mono HB1.out.size)⟩

theorem checkE_eq (ss : List Sch) (ts : List Tab) : (checkE ss ts == 0) = checkB ss ts := by unfold checkE; cases checkB ss ts <;> rfl
set_option maxHeartbeats 4000000 in
theorem law_ObjectsChecks.calls {As At : Option Addr} {cs ct : Nat} (ss : List Sch) (ts : List Tab) (w : World) (hs : kSch.C w As ss.length ss) (hsl : ss.length ≤ 8796093022208) (ht : kTab.C w At ts.length ts) (hF : TabsF ts) :
    Calls Try.prog 4 #[.agg #[.slice As ss.length cs, .slice At ts.length ct]] w fun e w' => e = .returned (.bool true) ∧ Below w.heap.size w w' := by
  have HX := Aside0.mk (BoxO_new w As ss.length cs At ts.length ct)
  have HW : Aside0 (Below w.heap.size w (w.alloc (objBox As ss.length cs At ts.length ct))) := ⟨below_alloc (Below.refl _ _) _⟩
  have HLG := Aside0.mk (large.calls (As := As) (cs := cs) (At := At) (ct := ct) ss ts (w.alloc (objBox As ss.length cs At ts.length ct)) hsl (Kd.C_below ht HW.out) hF)
  have HK1 := Aside0.mk (fun W (hW : Below w.heap.size w W) => Check.calls (As := As) (cs := cs) (At := At) (ct := ct) ss ts W (Kd.C_below hs hW) (by omega) (Kd.C_below ht hW) hF)
  have HK2 := Aside0.mk (fun W (hW : Below w.heap.size w W) => rRightAll.calls (As := As) (cs := cs) (At := At) (ct := ct) ss ts W (Kd.C_below hs hW) hsl (Kd.C_below ht hW) hF)
  have HCK := Aside0.mk (fun W => checks.calls W)
  clear hs ht hF
  go_enter Try.func4, Try.ntmps4
  go_wp2_with fail
  refine HLG.out.mono ?_
  rintro e w1 ⟨b, rfl, _, hb1⟩
  have HW1 := Aside0.mk (HW.out.trans (hb1.mono HW.out.size))
  have HX1 := Aside0.mk (HX.out.below hb1)
  clear hb1
  cases b with
  | true =>
    go_wp2
    go_ret
    exact ⟨rfl, HW1.out⟩
  | false =>
  obtain ⟨o0, o1⟩ := HX1.out
  cases hc : checkB ss ts with
  | true =>
    rw [hc] at HK2
    rw [checkE_yes hc] at HK1
    clear hc
    go_wp2_with fail
    refine wp_region_held_drew (S := (fun w' => w'.cell? ⟨w.heap.size, 0, none⟩ = some (.slice As ss.length cs) ∧ w'.cell? ⟨w.heap.size, 1, none⟩ = some (.slice At ts.length ct) ∧ Below w.heap.size w w')) (by kernel_rfl) ⟨o0, o1, pw_below_drewN HW1.out 1⟩ (fun hHeld0 => ?_)
    refine wpAnyH_ready (rs := [0]) (by kernel_rfl) (by simp) ?_
    refine AllReadyH.cons (o := { dst := some 5, op := _, type := _, pos := _, after := _, guard := _ }) rfl (fun K hK => ?_) AllReadyH.nil
    go_simp
    (go_at_call 12; refine (HCK.out _).mono ?_; rintro e w' ⟨rfl, hb⟩)
    refine hK.out _ _ (keep2b hHeld0 hb) (fun hHeld1 => ?_)
    clear hK K hHeld0
    try simp only [Act.put, List.setIfInBounds_toArray, List.set_cons_zero, List.set_cons_succ]
    refine wpAnyH_take (i := 1) (oi := { dst := some 6, op := _, type := _, pos := _, after := _, guard := _ }) (v := ?v1x13) rfl (by kernel_rfl) (by kernel_rfl) (by kernel_rfl) (fun _ _ _ h => h) (Or.inl ⟨by kernel_rfl, ?hy1x13⟩) hHeld1 ?rest1x13
    case hy1x13 => (intro w hSw; (try dsimp only at hSw); go_simp; (first | done | with_reducible rfl))
    try simp only [Act.put, List.setIfInBounds_toArray, List.set_cons_zero, List.set_cons_succ]
    refine wpAnyH_take (i := 2) (oi := { dst := some 7, op := _, type := _, pos := _, after := _, guard := _ }) (v := ?v2x13) rfl (by kernel_rfl) (by kernel_rfl) (by kernel_rfl) (fun _ _ _ h => h) (Or.inl ⟨by kernel_rfl, ?hy2x13⟩) hHeld1 ?rest2x13
    case hy2x13 => (intro w hSw; (try dsimp only at hSw); go_simp; (first | done | with_reducible rfl))
    try simp only [Act.put, List.setIfInBounds_toArray, List.set_cons_zero, List.set_cons_succ]
    refine wpAnyH_take (i := 5) (oi := { dst := some 10, op := _, type := _, pos := _, after := _, guard := _ }) (v := ?v5x13) rfl (by kernel_rfl) (by kernel_rfl) (by kernel_rfl) (fun _ _ _ h => h) (Or.inl ⟨by kernel_rfl, ?hy5x13⟩) hHeld1 ?rest5x13
    case hy5x13 => (intro w hSw; (try dsimp only at hSw); go_simp; (first | done | with_reducible rfl))
    try simp only [Act.put, List.setIfInBounds_toArray, List.set_cons_zero, List.set_cons_succ]
    refine wpAnyH_ready (rs := [3]) (by kernel_rfl) (by simp) ?_
    refine AllReadyH.cons (o := { dst := some 8, op := _, type := _, pos := _, after := _, guard := _ }) rfl (fun K hK => ?_) AllReadyH.nil
    go_simp
    (go_at_call 13; refine (HK1.out _ (hHeld1.2.2)).mono ?_; rintro e w' ⟨rfl, hb⟩)
    refine hK.out _ _ (keep2b hHeld1 hb) (fun hHeld2 => ?_)
    clear hK K hHeld1
    try simp only [Act.put, List.setIfInBounds_toArray, List.set_cons_zero, List.set_cons_succ]
    refine wpAnyH_take (i := 4) (oi := { dst := some 9, op := _, type := _, pos := _, after := _, guard := _ }) (v := ?v4x13) rfl (by kernel_rfl) (by kernel_rfl) (by kernel_rfl) (fun _ _ _ h => h) (Or.inl ⟨by kernel_rfl, ?hy4x13⟩) hHeld2 ?rest4x13
    case hy4x13 => (intro w hSw; (try dsimp only at hSw); go_simp; (first | done | with_reducible rfl))
    try simp only [Act.put, List.setIfInBounds_toArray, List.set_cons_zero, List.set_cons_succ]
    refine wpAnyH_ready (rs := [6]) (by kernel_rfl) (by simp) ?_
    refine AllReadyH.cons (o := { dst := some 11, op := _, type := _, pos := _, after := _, guard := _ }) rfl (fun K hK => ?_) AllReadyH.nil
    go_simp
    (go_at_call 14; refine (HK2.out _ (hHeld2.2.2)).mono ?_; rintro e w' ⟨rfl, hb⟩)
    refine hK.out _ _ (keep2b hHeld2 hb) (fun hHeld3 => ?_)
    clear hK K hHeld2
    try simp only [Act.put, List.setIfInBounds_toArray, List.set_cons_zero, List.set_cons_succ]
    refine wpAnyH_take (i := 7) (oi := { dst := some 12, op := _, type := _, pos := _, after := _, guard := _ }) (v := ?v7x13) rfl (by kernel_rfl) (by kernel_rfl) (by kernel_rfl) (fun _ _ _ h => h) (Or.inl ⟨by kernel_rfl, ?hy7x13⟩) hHeld3 ?rest7x13
    case hy7x13 => (intro w hSw; (try dsimp only at hSw); go_simp; (first | done | with_reducible rfl))
    try simp only [Act.put, List.setIfInBounds_toArray, List.set_cons_zero, List.set_cons_succ]
    refine wpAnyH_take (i := 8) (oi := { dst := some 13, op := _, type := _, pos := _, after := _, guard := _ }) (v := ?v8x13) rfl (by kernel_rfl) (by kernel_rfl) (by kernel_rfl) (fun _ _ _ h => h) (Or.inl ⟨by kernel_rfl, ?hy8x13⟩) hHeld3 ?rest8x13
    case hy8x13 => (intro w hSw; (try dsimp only at hSw); go_simp; (first | done | with_reducible rfl))
    try simp only [Act.put, List.setIfInBounds_toArray, List.set_cons_zero, List.set_cons_succ]
    refine wpAnyH_take (i := 9) (oi := { dst := some 14, op := _, type := _, pos := _, after := _, guard := _ }) (v := ?v9x13) rfl (by kernel_rfl) (by kernel_rfl) (by kernel_rfl) (fun _ _ _ h => h) (Or.inl ⟨by kernel_rfl, ?hy9x13⟩) hHeld3 ?rest9x13
    case hy9x13 => (intro w hSw; (try dsimp only at hSw); go_simp; (first | done | with_reducible rfl))
    try simp only [Act.put, List.setIfInBounds_toArray, List.set_cons_zero, List.set_cons_succ]
    refine wpAnyH_take (i := 10) (oi := { dst := some 15, op := _, type := _, pos := _, after := _, guard := _ }) (v := ?v10x13) rfl (by kernel_rfl) (by kernel_rfl) (by kernel_rfl) (fun _ _ _ h => h) (Or.inl ⟨by kernel_rfl, ?hy10x13⟩) hHeld3 ?rest10x13
    case hy10x13 => (intro w hSw; (try dsimp only at hSw); go_simp; (first | done | with_reducible rfl))
    try simp only [Act.put, List.setIfInBounds_toArray, List.set_cons_zero, List.set_cons_succ]
    refine wpAnyH_ready (rs := [11]) (by kernel_rfl) (by simp) ?_
    refine AllReadyH.cons (o := { dst := some 16, op := _, type := _, pos := _, after := _, guard := _ }) rfl (fun K hK => ?_) AllReadyH.nil
    go_simp
    (go_at_call 13; refine (HK1.out _ (hHeld3.2.2)).mono ?_; rintro e w' ⟨rfl, hb⟩)
    refine hK.out _ _ (keep2b hHeld3 hb) (fun hHeld4 => ?_)
    clear hK K hHeld3
    try simp only [Act.put, List.setIfInBounds_toArray, List.set_cons_zero, List.set_cons_succ]
    refine wpAnyH_take (i := 12) (oi := { dst := some 17, op := _, type := _, pos := _, after := _, guard := _ }) (v := ?v12x13) rfl (by kernel_rfl) (by kernel_rfl) (by kernel_rfl) (fun _ _ _ h => h) (Or.inl ⟨by kernel_rfl, ?hy12x13⟩) hHeld4 ?rest12x13
    case hy12x13 => (intro w hSw; (try dsimp only at hSw); go_simp; (first | done | with_reducible rfl))
    try simp only [Act.put, List.setIfInBounds_toArray, List.set_cons_zero, List.set_cons_succ]
    refine wpAnyH_take (i := 13) (oi := { dst := some 18, op := _, type := _, pos := _, after := _, guard := _ }) (v := ?v13x13) rfl (by kernel_rfl) (by kernel_rfl) (by kernel_rfl) (fun _ _ _ h => h) (Or.inl ⟨by kernel_rfl, ?hy13x13⟩) hHeld4 ?rest13x13
    case hy13x13 => (intro w hSw; (try dsimp only at hSw); go_simp; (first | done | with_reducible rfl))
    try simp only [Act.put, List.setIfInBounds_toArray, List.set_cons_zero, List.set_cons_succ]
    refine wpAnyH_take (i := 14) (oi := { dst := some 19, op := _, type := _, pos := _, after := _, guard := _ }) (v := undef) rfl (by kernel_rfl) (by kernel_rfl) (by kernel_rfl) (fun _ _ _ h => h) (Or.inr ⟨by kernel_rfl, rfl⟩) hHeld4 ?_
    try simp only [Act.put, List.setIfInBounds_toArray, List.set_cons_zero, List.set_cons_succ]
    refine wpAnyH_take (i := 15) (oi := { dst := some 20, op := _, type := _, pos := _, after := _, guard := _ }) (v := undef) rfl (by kernel_rfl) (by kernel_rfl) (by kernel_rfl) (fun _ _ _ h => h) (Or.inr ⟨by kernel_rfl, rfl⟩) hHeld4 ?_
    try simp only [Act.put, List.setIfInBounds_toArray, List.set_cons_zero, List.set_cons_succ]
    refine wpAnyH_take (i := 16) (oi := { dst := some 21, op := _, type := _, pos := _, after := _, guard := _ }) (v := undef) rfl (by kernel_rfl) (by kernel_rfl) (by kernel_rfl) (fun _ _ _ h => h) (Or.inr ⟨by kernel_rfl, rfl⟩) hHeld4 ?_
    try simp only [Act.put, List.setIfInBounds_toArray, List.set_cons_zero, List.set_cons_succ]
    refine wpAnyH_take (i := 17) (oi := { dst := some 22, op := _, type := _, pos := _, after := _, guard := _ }) (v := ?v17x13) rfl (by kernel_rfl) (by kernel_rfl) (by kernel_rfl) (fun _ _ _ h => h) (Or.inl ⟨by kernel_rfl, ?hy17x13⟩) hHeld4 ?rest17x13
    case hy17x13 => (intro w hSw; (try dsimp only at hSw); go_simp; (first | done | with_reducible rfl))
    try simp only [Act.put, List.setIfInBounds_toArray, List.set_cons_zero, List.set_cons_succ]
    refine wpAnyH_take (i := 18) (oi := { dst := some 23, op := _, type := _, pos := _, after := _, guard := _ }) (v := ?v18x13) rfl (by kernel_rfl) (by kernel_rfl) (by kernel_rfl) (fun _ _ _ h => h) (Or.inl ⟨by kernel_rfl, ?hy18x13⟩) hHeld4 ?rest18x13
    case hy18x13 => (intro w hSw; (try dsimp only at hSw); go_simp; (first | done | with_reducible rfl))
    try simp only [Act.put, List.setIfInBounds_toArray, List.set_cons_zero, List.set_cons_succ]
    refine wpAnyH_take (i := 19) (oi := { dst := some 2, op := _, type := _, pos := _, after := _, guard := _ }) (v := ?v19x13) rfl (by kernel_rfl) (by kernel_rfl) (by kernel_rfl) (fun _ _ _ h => h) (Or.inl ⟨by kernel_rfl, ?hy19x13⟩) hHeld4 ?rest19x13
    case hy19x13 => (intro w hSw; (try dsimp only at hSw); go_simp; (first | done | with_reducible rfl))
    try simp only [Act.put, List.setIfInBounds_toArray, List.set_cons_zero, List.set_cons_succ]
    refine wpAnyH_done (by kernel_rfl) ?_ _
    have hH := hHeld4
    clear hHeld4
    have HB := Aside0.mk hH.2.2
    clear hH
    go_wp2
    go_ret
    exact ⟨rfl, HB.out⟩
  | false =>
    rw [hc] at HK2
    rw [checkE_no hc] at HK1
    clear hc
    go_wp2_with fail
    refine wp_region_held_drew (S := (fun w' => w'.cell? ⟨w.heap.size, 0, none⟩ = some (.slice As ss.length cs) ∧ w'.cell? ⟨w.heap.size, 1, none⟩ = some (.slice At ts.length ct) ∧ Below w.heap.size w w')) (by kernel_rfl) ⟨o0, o1, pw_below_drewN HW1.out 1⟩ (fun hHeld0 => ?_)
    refine wpAnyH_ready (rs := [0]) (by kernel_rfl) (by simp) ?_
    refine AllReadyH.cons (o := { dst := some 5, op := _, type := _, pos := _, after := _, guard := _ }) rfl (fun K hK => ?_) AllReadyH.nil
    go_simp
    (go_at_call 12; refine (HCK.out _).mono ?_; rintro e w' ⟨rfl, hb⟩)
    refine hK.out _ _ (keep2b hHeld0 hb) (fun hHeld1 => ?_)
    clear hK K hHeld0
    try simp only [Act.put, List.setIfInBounds_toArray, List.set_cons_zero, List.set_cons_succ]
    refine wpAnyH_take (i := 1) (oi := { dst := some 6, op := _, type := _, pos := _, after := _, guard := _ }) (v := ?v1x14) rfl (by kernel_rfl) (by kernel_rfl) (by kernel_rfl) (fun _ _ _ h => h) (Or.inl ⟨by kernel_rfl, ?hy1x14⟩) hHeld1 ?rest1x14
    case hy1x14 => (intro w hSw; (try dsimp only at hSw); go_simp; (first | done | with_reducible rfl))
    try simp only [Act.put, List.setIfInBounds_toArray, List.set_cons_zero, List.set_cons_succ]
    refine wpAnyH_take (i := 2) (oi := { dst := some 7, op := _, type := _, pos := _, after := _, guard := _ }) (v := ?v2x14) rfl (by kernel_rfl) (by kernel_rfl) (by kernel_rfl) (fun _ _ _ h => h) (Or.inl ⟨by kernel_rfl, ?hy2x14⟩) hHeld1 ?rest2x14
    case hy2x14 => (intro w hSw; (try dsimp only at hSw); go_simp; (first | done | with_reducible rfl))
    try simp only [Act.put, List.setIfInBounds_toArray, List.set_cons_zero, List.set_cons_succ]
    refine wpAnyH_take (i := 5) (oi := { dst := some 10, op := _, type := _, pos := _, after := _, guard := _ }) (v := ?v5x14) rfl (by kernel_rfl) (by kernel_rfl) (by kernel_rfl) (fun _ _ _ h => h) (Or.inl ⟨by kernel_rfl, ?hy5x14⟩) hHeld1 ?rest5x14
    case hy5x14 => (intro w hSw; (try dsimp only at hSw); go_simp; (first | done | with_reducible rfl))
    try simp only [Act.put, List.setIfInBounds_toArray, List.set_cons_zero, List.set_cons_succ]
    refine wpAnyH_ready (rs := [3]) (by kernel_rfl) (by simp) ?_
    refine AllReadyH.cons (o := { dst := some 8, op := _, type := _, pos := _, after := _, guard := _ }) rfl (fun K hK => ?_) AllReadyH.nil
    go_simp
    (go_at_call 13; refine (HK1.out _ (hHeld1.2.2)).mono ?_; rintro e w' ⟨rfl, hb⟩)
    refine hK.out _ _ (keep2b hHeld1 hb) (fun hHeld2 => ?_)
    clear hK K hHeld1
    try simp only [Act.put, List.setIfInBounds_toArray, List.set_cons_zero, List.set_cons_succ]
    refine wpAnyH_take (i := 4) (oi := { dst := some 9, op := _, type := _, pos := _, after := _, guard := _ }) (v := ?v4x14) rfl (by kernel_rfl) (by kernel_rfl) (by kernel_rfl) (fun _ _ _ h => h) (Or.inl ⟨by kernel_rfl, ?hy4x14⟩) hHeld2 ?rest4x14
    case hy4x14 => (intro w hSw; (try dsimp only at hSw); go_simp; (first | done | with_reducible rfl))
    try simp only [Act.put, List.setIfInBounds_toArray, List.set_cons_zero, List.set_cons_succ]
    refine wpAnyH_ready (rs := [6]) (by kernel_rfl) (by simp) ?_
    refine AllReadyH.cons (o := { dst := some 11, op := _, type := _, pos := _, after := _, guard := _ }) rfl (fun K hK => ?_) AllReadyH.nil
    go_simp
    (go_at_call 14; refine (HK2.out _ (hHeld2.2.2)).mono ?_; rintro e w' ⟨rfl, hb⟩)
    refine hK.out _ _ (keep2b hHeld2 hb) (fun hHeld3 => ?_)
    clear hK K hHeld2
    try simp only [Act.put, List.setIfInBounds_toArray, List.set_cons_zero, List.set_cons_succ]
    refine wpAnyH_take (i := 7) (oi := { dst := some 12, op := _, type := _, pos := _, after := _, guard := _ }) (v := ?v7x14) rfl (by kernel_rfl) (by kernel_rfl) (by kernel_rfl) (fun _ _ _ h => h) (Or.inl ⟨by kernel_rfl, ?hy7x14⟩) hHeld3 ?rest7x14
    case hy7x14 => (intro w hSw; (try dsimp only at hSw); go_simp; (first | done | with_reducible rfl))
    try simp only [Act.put, List.setIfInBounds_toArray, List.set_cons_zero, List.set_cons_succ]
    refine wpAnyH_take (i := 8) (oi := { dst := some 13, op := _, type := _, pos := _, after := _, guard := _ }) (v := ?v8x14) rfl (by kernel_rfl) (by kernel_rfl) (by kernel_rfl) (fun _ _ _ h => h) (Or.inl ⟨by kernel_rfl, ?hy8x14⟩) hHeld3 ?rest8x14
    case hy8x14 => (intro w hSw; (try dsimp only at hSw); go_simp; (first | done | with_reducible rfl))
    try simp only [Act.put, List.setIfInBounds_toArray, List.set_cons_zero, List.set_cons_succ]
    refine wpAnyH_take (i := 9) (oi := { dst := some 14, op := _, type := _, pos := _, after := _, guard := _ }) (v := ?v9x14) rfl (by kernel_rfl) (by kernel_rfl) (by kernel_rfl) (fun _ _ _ h => h) (Or.inl ⟨by kernel_rfl, ?hy9x14⟩) hHeld3 ?rest9x14
    case hy9x14 => (intro w hSw; (try dsimp only at hSw); go_simp; (first | done | with_reducible rfl))
    try simp only [Act.put, List.setIfInBounds_toArray, List.set_cons_zero, List.set_cons_succ]
    refine wpAnyH_take (i := 10) (oi := { dst := some 15, op := _, type := _, pos := _, after := _, guard := _ }) (v := ?v10x14) rfl (by kernel_rfl) (by kernel_rfl) (by kernel_rfl) (fun _ _ _ h => h) (Or.inl ⟨by kernel_rfl, ?hy10x14⟩) hHeld3 ?rest10x14
    case hy10x14 => (intro w hSw; (try dsimp only at hSw); go_simp; (first | done | with_reducible rfl))
    try simp only [Act.put, List.setIfInBounds_toArray, List.set_cons_zero, List.set_cons_succ]
    refine wpAnyH_ready (rs := [11]) (by kernel_rfl) (by simp) ?_
    refine AllReadyH.cons (o := { dst := some 16, op := _, type := _, pos := _, after := _, guard := _ }) rfl (fun K hK => ?_) AllReadyH.nil
    go_simp
    (go_at_call 13; refine (HK1.out _ (hHeld3.2.2)).mono ?_; rintro e w' ⟨rfl, hb⟩)
    refine hK.out _ _ (keep2b hHeld3 hb) (fun hHeld4 => ?_)
    clear hK K hHeld3
    try simp only [Act.put, List.setIfInBounds_toArray, List.set_cons_zero, List.set_cons_succ]
    refine wpAnyH_take (i := 12) (oi := { dst := some 17, op := _, type := _, pos := _, after := _, guard := _ }) (v := ?v12x14) rfl (by kernel_rfl) (by kernel_rfl) (by kernel_rfl) (fun _ _ _ h => h) (Or.inl ⟨by kernel_rfl, ?hy12x14⟩) hHeld4 ?rest12x14
    case hy12x14 => (intro w hSw; (try dsimp only at hSw); go_simp; (first | done | with_reducible rfl))
    try simp only [Act.put, List.setIfInBounds_toArray, List.set_cons_zero, List.set_cons_succ]
    refine wpAnyH_take (i := 13) (oi := { dst := some 18, op := _, type := _, pos := _, after := _, guard := _ }) (v := ?v13x14) rfl (by kernel_rfl) (by kernel_rfl) (by kernel_rfl) (fun _ _ _ h => h) (Or.inl ⟨by kernel_rfl, ?hy13x14⟩) hHeld4 ?rest13x14
    case hy13x14 => (intro w hSw; (try dsimp only at hSw); go_simp; (first | done | with_reducible rfl))
    try simp only [Act.put, List.setIfInBounds_toArray, List.set_cons_zero, List.set_cons_succ]
    refine wpAnyH_take (i := 14) (oi := { dst := some 19, op := _, type := _, pos := _, after := _, guard := _ }) (v := ?v14x14) rfl (by kernel_rfl) (by kernel_rfl) (by kernel_rfl) (fun _ _ _ h => h) (Or.inl ⟨by kernel_rfl, ?hy14x14⟩) hHeld4 ?rest14x14
    case hy14x14 => (intro w hSw; (try dsimp only at hSw); go_simp; (first | done | with_reducible rfl))
    try simp only [Act.put, List.setIfInBounds_toArray, List.set_cons_zero, List.set_cons_succ]
    refine wpAnyH_ready (rs := [15]) (by kernel_rfl) (by simp) ?_
    refine AllReadyH.cons (o := { dst := some 20, op := _, type := _, pos := _, after := _, guard := _ }) rfl (fun K hK => ?_) AllReadyH.nil
    go_simp
    (go_at_call 13; refine (HK1.out _ (hHeld4.2.2)).mono ?_; rintro e w' ⟨rfl, hb⟩)
    refine hK.out _ _ (keep2b hHeld4 hb) (fun hHeld5 => ?_)
    clear hK K hHeld4
    try simp only [Act.put, List.setIfInBounds_toArray, List.set_cons_zero, List.set_cons_succ]
    refine wpAnyH_take (i := 16) (oi := { dst := some 21, op := _, type := _, pos := _, after := _, guard := _ }) (v := ?v16x14) rfl (by kernel_rfl) (by kernel_rfl) (by kernel_rfl) (fun _ _ _ h => h) (Or.inl ⟨by kernel_rfl, ?hy16x14⟩) hHeld5 ?rest16x14
    case hy16x14 => (intro w hSw; (try dsimp only at hSw); go_simp; (first | done | with_reducible rfl))
    try simp only [Act.put, List.setIfInBounds_toArray, List.set_cons_zero, List.set_cons_succ]
    refine wpAnyH_take (i := 17) (oi := { dst := some 22, op := _, type := _, pos := _, after := _, guard := _ }) (v := ?v17x14) rfl (by kernel_rfl) (by kernel_rfl) (by kernel_rfl) (fun _ _ _ h => h) (Or.inl ⟨by kernel_rfl, ?hy17x14⟩) hHeld5 ?rest17x14
    case hy17x14 => (intro w hSw; (try dsimp only at hSw); go_simp; (first | done | with_reducible rfl))
    try simp only [Act.put, List.setIfInBounds_toArray, List.set_cons_zero, List.set_cons_succ]
    refine wpAnyH_take (i := 18) (oi := { dst := some 23, op := _, type := _, pos := _, after := _, guard := _ }) (v := ?v18x14) rfl (by kernel_rfl) (by kernel_rfl) (by kernel_rfl) (fun _ _ _ h => h) (Or.inl ⟨by kernel_rfl, ?hy18x14⟩) hHeld5 ?rest18x14
    case hy18x14 => (intro w hSw; (try dsimp only at hSw); go_simp; (first | done | with_reducible rfl))
    try simp only [Act.put, List.setIfInBounds_toArray, List.set_cons_zero, List.set_cons_succ]
    refine wpAnyH_take (i := 19) (oi := { dst := some 2, op := _, type := _, pos := _, after := _, guard := _ }) (v := ?v19x14) rfl (by kernel_rfl) (by kernel_rfl) (by kernel_rfl) (fun _ _ _ h => h) (Or.inl ⟨by kernel_rfl, ?hy19x14⟩) hHeld5 ?rest19x14
    case hy19x14 => (intro w hSw; (try dsimp only at hSw); go_simp; (first | done | with_reducible rfl))
    try simp only [Act.put, List.setIfInBounds_toArray, List.set_cons_zero, List.set_cons_succ]
    refine wpAnyH_done (by kernel_rfl) ?_ _
    have hH := hHeld5
    clear hHeld5
    have HB := Aside0.mk hH.2.2
    clear hH
    go_wp2
    go_ret
    exact ⟨rfl, HB.out⟩
end Go.Proofs.Ytmmiehckgkadgaa.O
