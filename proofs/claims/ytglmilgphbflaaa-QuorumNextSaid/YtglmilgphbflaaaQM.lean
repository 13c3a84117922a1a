/- The statement QuorumMeets' own walk: two majorities of one set have a number in common. -/
import Derived.Test.YtglmilgphbflaaaQR
namespace Go.Proofs.Ytglmilgphbflaaa.Q
set_option linter.unusedVariables false
set_option linter.unusedSimpArgs false
open Go.RowKit Go.Proofs.YtglmilgphbflaaaW.PrintWords Go.Proofs.YtglmilgphbflaaaW.PrintLast Go.Proofs.YtglmilgphbflaaaW.PrintMore

theorem cnt_apart (v a b : List Int) (h : ∀ x ∈ v, ¬ (x ∈ a ∧ x ∈ b)) : cnt v a + cnt v b ≤ v.length := by
  induction v with
  | nil => exact Nat.le_refl _
  | cons x v ih =>
    have h1 := ih fun y hy => h y (List.mem_cons_of_mem _ hy)
    have h2 := h x List.mem_cons_self
    unfold cnt at h1 ⊢
    rw [List.filter_cons, List.filter_cons, List.length_cons]
    by_cases ha : x ∈ a
    · by_cases hb : x ∈ b
      · exact absurd ⟨ha, hb⟩ h2
      · rw [if_pos (decide_eq_true ha), if_neg (by simp [hb]), List.length_cons]; omega
    · by_cases hb : x ∈ b
      · rw [if_neg (by simp [ha]), if_pos (decide_eq_true hb), List.length_cons]; omega
      · rw [if_neg (by simp [ha]), if_neg (by simp [hb])]; omega
theorem reached_cnt {v a : List Int} (h : reachedB v a = true) : v.length / 2 + 1 ≤ cnt v a := by
  unfold reachedB at h
  simp only [Bool.and_eq_true, decide_eq_true_eq] at h
  exact h.2.2
theorem cnt_apart_at (v a b : List Int) (h : ∀ j (hj : j < v.length), ¬ (v[j] ∈ a ∧ v[j] ∈ b)) : cnt v a + cnt v b ≤ v.length :=
  cnt_apart v a b fun x hx => by obtain ⟨j, hj, rfl⟩ := List.getElem_of_mem hx; exact h j hj
theorem snoc_not {v : List Int} {P : Int → Prop} {j : Nat} (h : ∀ q (hq : q < v.length), q < j → ¬ P v[q]) (hj : j < v.length) (hn : ¬ P v[j]) : ∀ q (hq : q < v.length), q < j + 1 → ¬ P v[q] := fun q hq hlt => by
  rcases Nat.lt_or_ge q j with h' | h'
  · exact h q hq h'
  · obtain rfl : q = j := by omega
    exact hn

set_option maxHeartbeats 1000000 in
theorem law_QuorumMeets.calls (A0 : Option Addr) (c0 : Nat) (l0 : List Int) (A1 : Option Addr) (c1 : Nat) (l1 : List Int) (A2 : Option Addr) (c2 : Nat) (l2 : List Int) (w : World) (hr0 : Kd.C (Kd.int .i64) w A0 l0.length l0) (hc0 : l0.length ≤ c0) (_y0 : l0.length * 8 ≤ 140737488351232) (_w0 : ∀ x ∈ l0, (Lit.int .i64 x).wf = true) (hr1 : Kd.C (Kd.int .i64) w A1 l1.length l1) (hc1 : l1.length ≤ c1) (_y1 : l1.length * 8 ≤ 140737488351232) (_w1 : ∀ x ∈ l1, (Lit.int .i64 x).wf = true) (hr2 : Kd.C (Kd.int .i64) w A2 l2.length l2) (hc2 : l2.length ≤ c2) (_y2 : l2.length * 8 ≤ 140737488351232) (_w2 : ∀ x ∈ l2, (Lit.int .i64 x).wf = true) :
    Calls Try.prog 5 #[.slice A0 l0.length c0, .slice A1 l1.length c1, .slice A2 l2.length c2] w fun e w' => e = .returned (.bool true) ∧ Below w.heap.size w w' := by
  clear _y0 _w0 _y1 _w1 _y2 _w2
  by_cases h0 : l0.length ≤ 300
  · by_cases h1 : l1.length ≤ 300
    · by_cases h2 : l2.length ≤ 300
      · have HR0 := Aside0.mk hr0
        have HR1 := Aside0.mk hr1
        have HR2 := Aside0.mk hr2
        have HC := Aside0.mk (And.intro hc0 (And.intro hc1 hc2))
        clear hr0 hr1 hr2 hc0 hc1 hc2
        have h0' : ¬ (300 : Int) < (l0.length : Int) := by omega
        have h1' : ¬ (300 : Int) < (l1.length : Int) := by omega
        have h2' : ¬ (300 : Int) < (l2.length : Int) := by omega
        have HA := Aside0.mk (quorum_Reached.calls A0 c0 l0 A1 c1 l1 w HR0.out HC.out.1 HR1.out HC.out.2.1 (by omega) (by omega))
        by_cases ha : reachedB l0 l1 = true
        · rw [ha] at HA
          have HPA := Aside0.mk (reached_cnt ha)
          clear ha
          have HB := Aside0.mk (show ∀ w1, Below w.heap.size w w1 → _ from fun w1 hb => quorum_Reached.calls A0 c0 l0 A2 c2 l2 w1 (Kd.C_below HR0.out hb) HC.out.1 (Kd.C_below HR2.out hb) HC.out.2.2 (by omega) (by omega))
          by_cases hb : reachedB l0 l2 = true
          · rw [hb] at HB
            have HPB := Aside0.mk (reached_cnt hb)
            clear hb
            go_enter Try.func5, Try.ntmps5
            go_wp2_with fail
            refine HA.out.mono ?_
            rintro e w1 ⟨rfl, hb1⟩
            have HB1 := Aside0.mk hb1
            clear hb1
            go_wp2_with fail
            refine (HB.out w1 HB1.out).mono ?_
            rintro e w2 ⟨rfl, hb2⟩
            have HB2 := Aside0.mk (HB1.out.trans (hb2.mono HB1.out.size))
            clear hb2 HA HB
            go_wp2_with fail
            go_loopw [7] (fun i w' => ∃ j : Nat, j ≤ l0.length ∧ i = .int .i64 j ∧ Aside0 ((∀ q (hq : q < l0.length), q < j → ¬ (l0[q] ∈ l1 ∧ l0[q] ∈ l2)) ∧ Below w.heap.size w w')) (fun i _ => l0.length - (intOf i).toNat)
            case atStart => exact ⟨0, Nat.zero_le _, rfl, ⟨fun _ _ h => absurd h (by omega), HB2.out⟩⟩
            case round =>
              clear HB1 HB2
              obtain ⟨j, hj, rfl, HJ⟩ := hrel
              by_cases hlt : j < l0.length
              · obtain ⟨ad, e, hc⟩ := Kd.at_int (Kd.C_below HR0.out HJ.out.2) j (by omega) (by omega)
                rw [rd_nat l0 j hlt] at hc
                cases e
                rw [Int.toNat_natCast] at hc
                obtain ⟨k1, hk1⟩ := (rhas_ev l1 l0[j] (by omega)).rounds
                obtain ⟨k2, hk2⟩ := (rhas_ev l2 l0[j] (by omega)).rounds
                have HK1 := Aside0.mk (folkmootref04_Has.calls k1 A1 c1 l1 l0[j] _ wr (Kd.C_below HR1.out HJ.out.2) HC.out.2.1 hk1)
                have HK2 := Aside0.mk (fun m => folkmootref04_Has.calls k2 A2 c2 l2 l0[j] _ (wr.drewN m) (Kd.C_below HR2.out (pw_below_drewN HJ.out.2 m)) HC.out.2.2 hk2)
                clear hk1 hk2
                by_cases m1 : l0[j] ∈ l1
                · rw [decide_eq_true m1] at HK1
                  by_cases m2 : l0[j] ∈ l2
                  · rw [decide_eq_true m2] at HK2
                    clear m1 m2
                    go_wp2_with fail
                    refine HK1.out.mono ?_
                    rintro e w3 ⟨rfl, ⟨m, rfl⟩⟩
                    go_wp2_with fail
                    refine (HK2.out m).mono ?_
                    rintro e w3 ⟨rfl, ⟨m', rfl⟩⟩
                    go_wp2_with fail
                    refine (law_reached.calls _).mono ?_
                    rintro e w4 ⟨rfl, hb4⟩
                    have HB4 := Aside0.mk ((pw_below_drewN HJ.out.2 (m + m')).trans (hb4.mono HJ.out.2.size))
                    clear hb4
                    go_wp2
                    go_ret
                    exact ⟨rfl, HB4.out⟩
                  · rw [decide_eq_false m2] at HK2
                    have HN := Aside0.mk m2
                    clear m1 m2
                    go_wp2_with fail
                    refine HK1.out.mono ?_
                    rintro e w3 ⟨rfl, ⟨m, rfl⟩⟩
                    go_wp2_with fail
                    refine (HK2.out m).mono ?_
                    rintro e w3 ⟨rfl, ⟨m', rfl⟩⟩
                    go_wp2
                    go_roundw
                    case rel => exact ⟨j + 1, by omega, by go_num, Aside0.mk ⟨snoc_not (P := fun x => x ∈ l1 ∧ x ∈ l2) HJ.out.1 hlt (fun hh => HN.out hh.2), pw_below_drewN HJ.out.2 (m + m')⟩⟩
                    case measure => simp [intOf]; omega
                · rw [decide_eq_false m1] at HK1
                  have HN := Aside0.mk m1
                  clear m1
                  go_wp2_with fail
                  refine HK1.out.mono ?_
                  rintro e w3 ⟨rfl, ⟨m, rfl⟩⟩
                  go_wp2
                  go_roundw
                  case rel => exact ⟨j + 1, by omega, by go_num, Aside0.mk ⟨snoc_not (P := fun x => x ∈ l1 ∧ x ∈ l2) HJ.out.1 hlt (fun hh => HN.out hh.1), pw_below_drewN HJ.out.2 m⟩⟩
                  case measure => simp [intOf]; omega
              · have hge : l0.length ≤ j := by omega
                exfalso
                have h1 := cnt_apart_at l0 l1 l2 (fun q hq => HJ.out.1 q hq (by omega))
                have h2 := HPA.out
                have h3 := HPB.out
                omega
          · have hb' : reachedB l0 l2 = false := by simpa using hb
            rw [hb'] at HB
            clear hb hb'
            go_enter Try.func5, Try.ntmps5
            go_wp2_with fail
            refine HA.out.mono ?_
            rintro e w1 ⟨rfl, hb1⟩
            have HB1 := Aside0.mk hb1
            clear hb1
            go_wp2_with fail
            refine (HB.out w1 HB1.out).mono ?_
            rintro e w2 ⟨rfl, hb2⟩
            have HB2 := Aside0.mk (HB1.out.trans (hb2.mono HB1.out.size))
            clear hb2 HA HB
            go_wp2_with fail
            refine (law_reached.calls _).mono ?_
            rintro e w4 ⟨rfl, hb4⟩
            have HB4 := Aside0.mk (HB2.out.trans (hb4.mono HB2.out.size))
            clear hb4
            go_wp2
            go_ret
            exact ⟨rfl, HB4.out⟩
        · have ha' : reachedB l0 l1 = false := by simpa using ha
          rw [ha'] at HA
          clear ha ha'
          go_enter Try.func5, Try.ntmps5
          go_wp2_with fail
          refine HA.out.mono ?_
          rintro e w1 ⟨rfl, hb1⟩
          have HB1 := Aside0.mk hb1
          clear hb1
          go_wp2_with fail
          refine (law_reached.calls _).mono ?_
          rintro e w4 ⟨rfl, hb4⟩
          have HB4 := Aside0.mk (HB1.out.trans (hb4.mono HB1.out.size))
          clear hb4
          go_wp2
          go_ret
          exact ⟨rfl, HB4.out⟩
      · have h2' : (300 : Int) < (l2.length : Int) := by omega
        go_enter Try.func5, Try.ntmps5
        go_wp2
        go_ret
        exact ⟨rfl, Below.refl _ _⟩
    · have h1' : (300 : Int) < (l1.length : Int) := by omega
      go_enter Try.func5, Try.ntmps5
      go_wp2
      go_ret
      exact ⟨rfl, Below.refl _ _⟩
  · have h0' : (300 : Int) < (l0.length : Int) := by omega
    go_enter Try.func5, Try.ntmps5
    go_wp2
    go_ret
    exact ⟨rfl, Below.refl _ _⟩
end Go.Proofs.Ytglmilgphbflaaa.Q
