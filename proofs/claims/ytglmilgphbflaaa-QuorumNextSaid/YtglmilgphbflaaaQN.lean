/- The statement QuorumNext's own walk: majorities of a set and of that set with one number more have a number in common. -/
import Derived.Test.YtglmilgphbflaaaQM
namespace Go.Proofs.Ytglmilgphbflaaa.Q
set_option linter.unusedVariables false
set_option linter.unusedSimpArgs false
open Go.RowKit Go.Proofs.YtglmilgphbflaaaW.PrintWords Go.Proofs.YtglmilgphbflaaaW.PrintLast Go.Proofs.YtglmilgphbflaaaW.PrintMore

theorem cnt_app (l m s : List Int) : cnt (l ++ m) s = cnt l s + cnt m s := by unfold cnt; rw [List.filter_append, List.length_append]
theorem cnt_one (x : Int) (s : List Int) : cnt [x] s = if x ∈ s then 1 else 0 := by
  unfold cnt
  by_cases e : x ∈ s <;> simp [e]
theorem put_l (l : List Int) (n : Int) (b : List Int) (hl : l.length ≤ 16) : ∀ (d i : Nat) (out : List Int) (inn : Bool), i + d = l.length → out.length ≤ i + (if inn then 1 else 0) → ∃ r : List Int, Ev (fun k => folkmootref04_Put.l0 k l n out inn (i : Int)) r ∧
    r.length = out.length + d + (if inn then 0 else 1) ∧ cnt r b = cnt out b + cnt (l.drop i) b + (if inn then 0 else if n ∈ b then 1 else 0)
  | 0, i, out, inn, h, ho => by
    rw [List.drop_of_length_le (by omega)]
    cases inn with
    | true =>
      refine ⟨out, Ev.step (f := fun _ => some out) (fun k => ?_) (Ev.now _), by simp, by simp [cnt]⟩
      simp only [folkmootref04_Put.l0]
      rw [if_neg (by omega), if_pos True.intro]
    | false =>
      refine ⟨out ++ [n], Ev.step (f := fun _ => some (out ++ [n])) (fun k => ?_) (Ev.now _), by simp, by rw [cnt_app, cnt_one]; simp [cnt]⟩
      simp only [folkmootref04_Put.l0]
      rw [if_neg (by omega), if_neg (by decide), if_pos (by simp at ho; omega)]
  | d + 1, i, out, inn, h, ho => by
    have hlt : i < l.length := by omega
    rw [cnt_drop l b i hlt]
    cases inn with
    | true =>
      obtain ⟨r, hr, h1, h2⟩ := put_l l n b hl d (i + 1) (out ++ [l[i]]) true (by omega) (by simp at ho ⊢; omega)
      refine ⟨r, Ev.step (fun k => ?_) hr, by rw [h1]; simp; omega, by rw [h2, cnt_app, cnt_one]; simp; omega⟩
      simp only [folkmootref04_Put.l0]
      rw [if_pos (by omega), if_pos True.intro, if_pos (by omega), if_pos (by simp at ho; omega), rd_nat l i hlt, wsucc i (by omega)]
    | false =>
      by_cases hx : n < l[i]
      · obtain ⟨r, hr, h1, h2⟩ := put_l l n b hl d (i + 1) (out ++ [n] ++ [l[i]]) true (by omega) (by simp at ho ⊢; omega)
        refine ⟨r, Ev.step (fun k => ?_) hr, by rw [h1]; simp; omega, by rw [h2, cnt_app, cnt_app, cnt_one, cnt_one]; simp; omega⟩
        simp only [folkmootref04_Put.l0]
        rw [if_pos (by omega), if_neg (by decide), if_pos (by omega), rd_nat l i hlt, if_pos hx, if_pos (by simp at ho; omega), wsucc i (by omega)]
        simp only [Option.bind_some]
        rw [if_pos (by simp at ho ⊢; omega)]
      · obtain ⟨r, hr, h1, h2⟩ := put_l l n b hl d (i + 1) (out ++ [l[i]]) false (by omega) (by simp at ho ⊢; omega)
        refine ⟨r, Ev.step (fun k => ?_) hr, by rw [h1]; simp; omega, by rw [h2, cnt_app, cnt_one]; simp; omega⟩
        simp only [folkmootref04_Put.l0]
        rw [if_pos (by omega), if_neg (by decide), if_pos (by omega), rd_nat l i hlt, if_neg hx, if_pos (by simp at ho; omega), wsucc i (by omega)]
theorem put_ev (l : List Int) (n : Int) (b : List Int) (hl : l.length ≤ 16) : ∃ r : List Int, Ev (fun k => folkmootref04_Put.f k l n) r ∧ r.length = l.length + (if n ∈ l then 0 else 1) ∧ cnt r b = cnt l b + (if n ∈ l then 0 else if n ∈ b then 1 else 0) := by
  obtain ⟨r, hr, h1, h2⟩ := put_l l n b hl l.length 0 [] (decide (n ∈ l)) (by omega) (by simp)
  refine ⟨r, ?_, by rw [h1]; simp, by rw [h2]; simp [cnt]⟩
  unfold folkmootref04_Put.f
  exact Ev.bind (rhas_ev l n (by omega)) hr
theorem next_meets {v r a b : List Int} {n : Int} (h1 : v.length / 2 + 1 ≤ cnt v a) (h2 : r.length / 2 + 1 ≤ cnt r b) (h3 : r.length = v.length + (if n ∈ v then 0 else 1)) (h4 : cnt r b = cnt v b + (if n ∈ v then 0 else if n ∈ b then 1 else 0)) : ¬ cnt v a + cnt v b ≤ v.length := by
  by_cases e : n ∈ v
  · rw [if_pos e] at h3 h4; omega
  · rw [if_neg e] at h3 h4
    by_cases e' : n ∈ b
    · rw [if_pos e'] at h4; omega
    · rw [if_neg e'] at h4; omega

set_option maxHeartbeats 1000000 in
theorem law_QuorumNext.calls (A0 : Option Addr) (c0 : Nat) (l0 : List Int) (a1 : Int) (A2 : Option Addr) (c2 : Nat) (l2 : List Int) (A3 : Option Addr) (c3 : Nat) (l3 : List Int) (w : World) (hr0 : Kd.C (Kd.int .i64) w A0 l0.length l0) (hc0 : l0.length ≤ c0) (_y0 : l0.length * 8 ≤ 140737488351232) (_w0 : ∀ x ∈ l0, (Lit.int .i64 x).wf = true) (_w1 : (Lit.int .i64 a1).wf = true) (hr2 : Kd.C (Kd.int .i64) w A2 l2.length l2) (hc2 : l2.length ≤ c2) (_y2 : l2.length * 8 ≤ 140737488351232) (_w2 : ∀ x ∈ l2, (Lit.int .i64 x).wf = true) (hr3 : Kd.C (Kd.int .i64) w A3 l3.length l3) (hc3 : l3.length ≤ c3) (_y3 : l3.length * 8 ≤ 140737488351232) (_w3 : ∀ x ∈ l3, (Lit.int .i64 x).wf = true) :
    Calls Try.prog 6 #[.slice A0 l0.length c0, .int .i64 a1, .slice A2 l2.length c2, .slice A3 l3.length c3] w fun e w' => e = .returned (.bool true) ∧ Below w.heap.size w w' := by
  clear _w0 _w1 _w2 _w3 _y2 _y3
  by_cases h0 : l0.length < 16
  · by_cases h2 : l2.length ≤ 300
    · by_cases h3 : l3.length ≤ 300
      · have HR0 := Aside0.mk hr0
        have HR2 := Aside0.mk hr2
        have HR3 := Aside0.mk hr3
        have HC := Aside0.mk (And.intro hc0 (And.intro hc2 hc3))
        obtain ⟨ki, hki⟩ := (ris_ev l0 (by omega)).rounds
        have HI := Aside0.mk (folkmootref04_Is.calls ki A0 c0 l0 _ w hr0 hc0 hki)
        clear hr0 hr2 hr3 hc0 hc2 hc3 hki _y0
        have h0' : ¬ (16 : Int) ≤ (l0.length : Int) := by omega
        have h2' : ¬ (300 : Int) < (l2.length : Int) := by omega
        have h3' : ¬ (300 : Int) < (l3.length : Int) := by omega
        by_cases hi : isB l0 = true
        · rw [hi] at HI
          clear hi
          have HA := Aside0.mk (show ∀ m, _ from fun m => quorum_Reached.calls A0 c0 l0 A2 c2 l2 (w.drewN m) (Kd.C_below HR0.out (pw_below_drewN (Below.refl _ _) m)) HC.out.1 (Kd.C_below HR2.out (pw_below_drewN (Below.refl _ _) m)) HC.out.2.1 (by omega) (by omega))
          by_cases ha : reachedB l0 l2 = true
          · rw [ha] at HA
            have HPA := Aside0.mk (reached_cnt ha)
            clear ha
            obtain ⟨r, hpe, hpl, hpc⟩ := put_ev l0 a1 l3 (by omega)
            obtain ⟨kp, hkp⟩ := hpe.rounds
            have hrl : r.length ≤ 17 := by rw [hpl]; split <;> omega
            have HP := Aside0.mk (show ∀ w1, Below w.heap.size w w1 → _ from fun w1 hb => folkmootref04_Put.calls kp A0 c0 l0 a1 r w1 (Kd.C_below HR0.out hb) HC.out.1 hkp)
            have HB := Aside0.mk (show ∀ w1 A c, Below w.heap.size w w1 → r.length ≤ c → Kd.C (Kd.int .i64) w1 A r.length r → _ from fun w1 A c hb hc hr => quorum_Reached.calls A c r A3 c3 l3 w1 hr hc (Kd.C_below HR3.out hb) HC.out.2.2 (by omega) (by omega))
            by_cases hb : reachedB r l3 = true
            · rw [hb] at HB
              have HPB := Aside0.mk (next_meets HPA.out (reached_cnt hb) hpl hpc)
              clear hb hpl hpc hpe hkp
              go_enter Try.func6, Try.ntmps6
              go_wp2_with fail
              refine HI.out.mono ?_
              rintro e w1 ⟨rfl, ⟨mi, rfl⟩⟩
              have HB1 := Aside0.mk (pw_below_drewN (Below.refl w.heap.size w) mi)
              go_wp2_with fail
              refine (HA.out mi).mono ?_
              rintro e w2 ⟨rfl, hb2⟩
              have HB2 := Aside0.mk (HB1.out.trans (hb2.mono HB1.out.size))
              clear hb2
              go_wp2_with fail
              refine (HP.out w2 HB2.out).mono ?_
              rintro e w3 ⟨vr, rfl, hvr, hb3⟩
              have HB3 := Aside0.mk (HB2.out.trans (hb3.mono HB2.out.size))
              obtain ⟨Ar, cr, rfl, hcr, hrr⟩ := Kd.R_reads hvr
              have HV := Aside0.mk (And.intro hcr hrr)
              clear hvr hb3 hcr hrr
              go_wp2_with fail
              refine (HB.out w3 Ar cr HB3.out HV.out.1 HV.out.2).mono ?_
              rintro e w4 ⟨rfl, hb4⟩
              have HB4 := Aside0.mk (HB3.out.trans (hb4.mono HB3.out.size))
              clear hb4 HI HA HP HB HV
              go_wp2_with fail
              go_loopw [9] (fun i w' => ∃ j : Nat, j ≤ l0.length ∧ i = .int .i64 j ∧ Aside0 ((∀ q (hq : q < l0.length), q < j → ¬ (l0[q] ∈ l2 ∧ l0[q] ∈ l3)) ∧ Below w.heap.size w w')) (fun i _ => l0.length - (intOf i).toNat)
              case atStart => exact ⟨0, Nat.zero_le _, rfl, ⟨fun _ _ h => absurd h (by omega), HB4.out⟩⟩
              case round =>
                clear HB1 HB2 HB3 HB4
                obtain ⟨j, hj, rfl, HJ⟩ := hrel
                by_cases hlt : j < l0.length
                · obtain ⟨ad, e, hc⟩ := Kd.at_int (Kd.C_below HR0.out HJ.out.2) j (by omega) (by omega)
                  rw [rd_nat l0 j hlt] at hc
                  cases e
                  rw [Int.toNat_natCast] at hc
                  obtain ⟨k1, hk1⟩ := (rhas_ev l2 l0[j] (by omega)).rounds
                  obtain ⟨k2, hk2⟩ := (rhas_ev l3 l0[j] (by omega)).rounds
                  have HK1 := Aside0.mk (folkmootref04_Has.calls k1 A2 c2 l2 l0[j] _ wr (Kd.C_below HR2.out HJ.out.2) HC.out.2.1 hk1)
                  have HK2 := Aside0.mk (fun m => folkmootref04_Has.calls k2 A3 c3 l3 l0[j] _ (wr.drewN m) (Kd.C_below HR3.out (pw_below_drewN HJ.out.2 m)) HC.out.2.2 hk2)
                  clear hk1 hk2
                  by_cases m1 : l0[j] ∈ l2
                  · rw [decide_eq_true m1] at HK1
                    by_cases m2 : l0[j] ∈ l3
                    · rw [decide_eq_true m2] at HK2
                      clear m1 m2
                      go_wp2_with fail
                      refine HK1.out.mono ?_
                      rintro e w3 ⟨rfl, ⟨m, rfl⟩⟩
                      go_wp2_with fail
                      refine (HK2.out m).mono ?_
                      rintro e w3 ⟨rfl, ⟨m', rfl⟩⟩
                      go_wp2_with fail
                      refine (law_reached.calls _).mono ?_
                      rintro e w4 ⟨rfl, hb4⟩
                      have HB4 := Aside0.mk ((pw_below_drewN HJ.out.2 (m + m')).trans (hb4.mono HJ.out.2.size))
                      clear hb4
                      go_wp2
                      go_ret
                      exact ⟨rfl, HB4.out⟩
                    · rw [decide_eq_false m2] at HK2
                      have HN := Aside0.mk m2
                      clear m1 m2
                      go_wp2_with fail
                      refine HK1.out.mono ?_
                      rintro e w3 ⟨rfl, ⟨m, rfl⟩⟩
                      go_wp2_with fail
                      refine (HK2.out m).mono ?_
                      rintro e w3 ⟨rfl, ⟨m', rfl⟩⟩
                      go_wp2
                      go_roundw
                      case rel => exact ⟨j + 1, by omega, by go_num, Aside0.mk ⟨snoc_not (P := fun x => x ∈ l2 ∧ x ∈ l3) HJ.out.1 hlt (fun hh => HN.out hh.2), pw_below_drewN HJ.out.2 (m + m')⟩⟩
                      case measure => simp [intOf]; omega
                  · rw [decide_eq_false m1] at HK1
                    have HN := Aside0.mk m1
                    clear m1
                    go_wp2_with fail
                    refine HK1.out.mono ?_
                    rintro e w3 ⟨rfl, ⟨m, rfl⟩⟩
                    go_wp2
                    go_roundw
                    case rel => exact ⟨j + 1, by omega, by go_num, Aside0.mk ⟨snoc_not (P := fun x => x ∈ l2 ∧ x ∈ l3) HJ.out.1 hlt (fun hh => HN.out hh.1), pw_below_drewN HJ.out.2 m⟩⟩
                    case measure => simp [intOf]; omega
                · have hge : l0.length ≤ j := by omega
                  exfalso
                  have h1 := cnt_apart_at l0 l2 l3 (fun q hq => HJ.out.1 q hq (by omega))
                  exact HPB.out h1
            · have hb' : reachedB r l3 = false := by simpa using hb
              rw [hb'] at HB
              clear hb hb' hpl hpc hpe hkp
              go_enter Try.func6, Try.ntmps6
              go_wp2_with fail
              refine HI.out.mono ?_
              rintro e w1 ⟨rfl, ⟨mi, rfl⟩⟩
              have HB1 := Aside0.mk (pw_below_drewN (Below.refl w.heap.size w) mi)
              go_wp2_with fail
              refine (HA.out mi).mono ?_
              rintro e w2 ⟨rfl, hb2⟩
              have HB2 := Aside0.mk (HB1.out.trans (hb2.mono HB1.out.size))
              clear hb2
              go_wp2_with fail
              refine (HP.out w2 HB2.out).mono ?_
              rintro e w3 ⟨vr, rfl, hvr, hb3⟩
              have HB3 := Aside0.mk (HB2.out.trans (hb3.mono HB2.out.size))
              obtain ⟨Ar, cr, rfl, hcr, hrr⟩ := Kd.R_reads hvr
              have HV := Aside0.mk (And.intro hcr hrr)
              clear hvr hb3 hcr hrr
              go_wp2_with fail
              refine (HB.out w3 Ar cr HB3.out HV.out.1 HV.out.2).mono ?_
              rintro e w4 ⟨rfl, hb4⟩
              have HB4 := Aside0.mk (HB3.out.trans (hb4.mono HB3.out.size))
              clear hb4 HI HA HP HB HV
              go_wp2_with fail
              refine (law_reached.calls _).mono ?_
              rintro e w5 ⟨rfl, hb5⟩
              have HB5 := Aside0.mk (HB4.out.trans (hb5.mono HB4.out.size))
              clear hb5
              go_wp2
              go_ret
              exact ⟨rfl, HB5.out⟩
          · have ha' : reachedB l0 l2 = false := by simpa using ha
            rw [ha'] at HA
            clear ha ha'
            go_enter Try.func6, Try.ntmps6
            go_wp2_with fail
            refine HI.out.mono ?_
            rintro e w1 ⟨rfl, ⟨mi, rfl⟩⟩
            have HB1 := Aside0.mk (pw_below_drewN (Below.refl w.heap.size w) mi)
            go_wp2_with fail
            refine (HA.out mi).mono ?_
            rintro e w2 ⟨rfl, hb2⟩
            have HB2 := Aside0.mk (HB1.out.trans (hb2.mono HB1.out.size))
            clear hb2
            go_wp2_with fail
            refine (law_reached.calls _).mono ?_
            rintro e w5 ⟨rfl, hb5⟩
            have HB5 := Aside0.mk (HB2.out.trans (hb5.mono HB2.out.size))
            clear hb5
            go_wp2
            go_ret
            exact ⟨rfl, HB5.out⟩
        · have hi' : isB l0 = false := by simpa using hi
          rw [hi'] at HI
          clear hi hi'
          go_enter Try.func6, Try.ntmps6
          go_wp2_with fail
          refine HI.out.mono ?_
          rintro e w1 ⟨rfl, ⟨mi, rfl⟩⟩
          go_wp2
          go_ret
          exact ⟨rfl, pw_below_drewN (Below.refl w.heap.size w) mi⟩
      · have h0' : ¬ (16 : Int) ≤ (l0.length : Int) := by omega
        have h2' : ¬ (300 : Int) < (l2.length : Int) := by omega
        have h3' : (300 : Int) < (l3.length : Int) := by omega
        go_enter Try.func6, Try.ntmps6
        go_wp2
        go_ret
        exact ⟨rfl, Below.refl _ _⟩
    · have h0' : ¬ (16 : Int) ≤ (l0.length : Int) := by omega
      have h2' : (300 : Int) < (l2.length : Int) := by omega
      go_enter Try.func6, Try.ntmps6
      go_wp2
      go_ret
      exact ⟨rfl, Below.refl _ _⟩
  · have h0' : (16 : Int) ≤ (l0.length : Int) := by omega
    go_enter Try.func6, Try.ntmps6
    go_wp2
    go_ret
    exact ⟨rfl, Below.refl _ _⟩
end Go.Proofs.Ytglmilgphbflaaa.Q
