/- Objects that are right: the document's. -/
import Derived.Test.YtmmiehckgkadgaaOT
namespace Go.Proofs.Ytmmiehckgkadgaa.O
set_option linter.unusedVariables false
set_option linter.unusedSimpArgs false
open Go.RowKit Go.Proofs.YtmmiehckgkadgaaW.PrintWords

theorem checkB_rows (ss : List Sch) (ts : List Tab) (h2 : ts.length ≤ 64) : checkB ss ts = (rowsB ss ts && tabsOK ss ts) := by
  unfold checkB rowsB
  rw [decide_eq_true h2]
  cases decide (ss.length ≤ 8) <;> cases rises orderT ts <;> cases rises (fun x y : Sch => cmpS x.name y.name) ss <;> cases schsOK ss ts <;> cases tabsOK ss ts <;> rfl

set_option maxHeartbeats 4000000 in
theorem rRightAll.calls {As At : Option Addr} {cs ct : Nat} (ss : List Sch) (ts : List Tab) (w : World) (hs : kSch.C w As ss.length ss) (hsl : ss.length ≤ 8796093022208) (ht : kTab.C w At ts.length ts) (hF : TabsF ts) :
    Calls Try.prog 14 #[.agg #[.slice As ss.length cs, .slice At ts.length ct]] w fun e w' => e = .returned (.bool (checkB ss ts)) ∧ Below w.heap.size w w' := by
  have HF := Aside0.mk hF
  have HS := Aside0.mk hs
  have HT := Aside0.mk ht
  have HX := Aside0.mk (BoxO_new w As ss.length cs At ts.length ct)
  have HW : Aside0 (Below w.heap.size w (w.alloc (objBox As ss.length cs At ts.length ct))) := ⟨below_alloc (Below.refl _ _) _⟩
  generalize hi : checkB ss ts = q
  have HI := Aside0.mk hi
  have HRW := Aside0.mk (rRows.calls (As := As) (cs := cs) (At := At) (ct := ct) ss ts (w.alloc (objBox As ss.length cs At ts.length ct)) (Kd.C_below HS.out HW.out) hsl (Kd.C_below HT.out HW.out) HF.out)
  have hn64 := hF.1
  clear hi hs ht hF
  by_cases h1 : ss.length ≤ 8
  case neg =>
    have g1 : decide ((8 : Int) < (ss.length : Int)) = true := decide_eq_true (by omega)
    have HI1 := Aside0.mk (show false = q by rw [← HI.out]; unfold checkB; rw [decide_eq_false h1]; rfl)
    clear h1
    go_enter Try.func14, Try.ntmps14
    go_wp2
    go_ret
    exact ⟨ret_bool HI1.out, HW.out⟩
  have g1 : decide ((8 : Int) < (ss.length : Int)) = false := decide_eq_false (by omega)
  clear h1
  by_cases h2 : ts.length ≤ 64
  case neg =>
    have g2 : decide ((64 : Int) < (ts.length : Int)) = true := decide_eq_true (by omega)
    have HI1 := Aside0.mk (show false = q by rw [← HI.out]; unfold checkB; rw [decide_eq_false h2, Bool.false_and, Bool.and_false])
    clear h2
    go_enter Try.func14, Try.ntmps14
    go_wp2
    go_ret
    exact ⟨ret_bool HI1.out, HW.out⟩
  have HCB := Aside0.mk ((checkB_rows ss ts h2).symm.trans HI.out)
  have H64 := Aside0.mk h2
  have g2 : decide ((64 : Int) < (ts.length : Int)) = false := decide_eq_false (by omega)
  clear h2
  generalize hrow : rowsB ss ts = rw_ at HRW HCB
  clear hrow
  have hxo := HX.out
  obtain ⟨o0, o1⟩ := hxo
  go_enter Try.func14, Try.ntmps14
  go_wp2_with fail
  refine HRW.out.mono ?_
  rintro e w1 ⟨rfl, hb1⟩
  have HW1 := Aside0.mk (HW.out.trans (hb1.mono HW.out.size))
  have HX1 := Aside0.mk (HX.out.below hb1)
  clear hb1 o0 o1
  cases rw_ with
  | false =>
    have HI1 := Aside0.mk (show false = q by rw [← HCB.out]; rfl)
    go_wp2
    go_ret
    exact ⟨ret_bool HI1.out, HW1.out⟩
  | true =>
  have HI1 := Aside0.mk (show tabsOK ss ts = q by rw [← HCB.out]; rfl)
  go_wp2
  go_loopw [3] (fun i w' => ∃ k : Nat, k ≤ ts.length ∧ i = .int .i64 k ∧ Aside0 ((∀ j, j < k → rightT ss ts (ts.getD j zTab) = true) ∧ BoxO w' w.heap.size As ss.length cs At ts.length ct ∧ Below w.heap.size w w')) (fun i _ => ts.length - (intOf i).toNat)
  case atStart => exact ⟨0, Nat.zero_le _, rfl, ⟨fun _ h => absurd h (Nat.not_lt_zero _), HX1.out, HW1.out⟩⟩
  case round =>
    obtain ⟨k, hk, rfl, HJ⟩ := hrel
    have hn64 := H64.out
    obtain ⟨o0, o1⟩ := HJ.out.2.1
    have HJB2 := Aside0.mk HJ.out.2.2
    by_cases hlt : k < ts.length
    · obtain ⟨ad, A3, c3, A4, c4, e, hc0, hc1, hc2, hc3, hc4, hs1, hs2, hs3, hs4⟩ := cTab HT.out k hlt
      cases e
      have hdk : decide ((k : Int) < (ts.length : Int)) = true := decide_eq_true (by omega)
      have e0 := pw_cell_below HJB2.out hc0
      have e1 := pw_cell_below HJB2.out hc1
      have e2 := pw_cell_below HJB2.out hc2
      have e3 := pw_cell_below HJB2.out hc3
      have e4 := pw_cell_below HJB2.out hc4
      have hTF := Aside0.mk (HF.out.2 _ (List.getElem_mem hlt))
      have HRT := Aside0.mk (fun W (hW : Below w.heap.size w W) => rRight.calls (As := As) (cs := cs) (At := some ad) (ct := ct) (A3 := A3) (c3 := c3) (A4 := A4) (c4 := c4) ss ts ts[k] W (Kd.C_below HS.out hW) (by omega) (Kd.C_below HT.out hW) HF.out (Kd.C_below hs2 hW) (Kd.C_below hs4 hW) hTF.out hs1)
      have HE := Aside0.mk (show rightT ss ts (ts.getD k zTab) = rightT ss ts ts[k] by rw [getD_at hlt])
      have HNO := Aside0.mk (show rightT ss ts (ts.getD k zTab) = false → false = q from fun h => by rw [← HI1.out]; exact (allB_false hlt h).symm)
      clear hs1 hs2 hs3 hs4 hc0 hc1 hc2 hc3 hc4
      generalize rightT ss ts ts[k] = p at HE HRT
      go_wp2_with fail
      go_region_held3 (fun w' => w'.cell? ⟨w.heap.size, 0, none⟩ = some (.slice As ss.length cs) ∧ w'.cell? ⟨w.heap.size, 1, none⟩ = some (.slice (some ad) ts.length ct) ∧ w'.cell? (ad.add (k * 5)) = some (.string ts[k].schema) ∧ w'.cell? ⟨(ad.add (k * 5)).block, (ad.add (k * 5)).off + 1, none⟩ = some (.string ts[k].name) ∧ w'.cell? ⟨(ad.add (k * 5)).block, (ad.add (k * 5)).off + 2, none⟩ = some (.string ts[k].owner) ∧ w'.cell? ⟨(ad.add (k * 5)).block, (ad.add (k * 5)).off + 3, none⟩ = some (.slice A3 ts[k].cols.length c3) ∧ w'.cell? ⟨(ad.add (k * 5)).block, (ad.add (k * 5)).off + 4, none⟩ = some (.slice A4 ts[k].rules.length c4) ∧ Below w.heap.size w w')
        (first | assumption | exact keepC7 (by assumption) (by assumption) | exact ⟨o0, o1, e0, e1, e2, e3, e4, pw_below_drewN HJB2.out 1⟩)
        (first | (go_at_call 49; refine (HRT.out _ (And.right (And.right (And.right (And.right (And.right (And.right (And.right (by assumption)))))))) ).mono ?_; rintro e w5 ⟨rfl, hb5⟩))
      rename_i hH
      have HW5 := Aside0.mk hH.2.2.2.2.2.2.2
      have HX5 : Aside0 (BoxO _ w.heap.size As ss.length cs (some ad) ts.length ct) := Aside0.mk ⟨hH.1, hH.2.1⟩
      clear hH hb5 o0 o1 e0 e1 e2 e3 e4
      cases p with
      | false =>
        have HQ := Aside0.mk (HNO.out HE.out)
        go_wp2
        go_ret
        exact ⟨ret_bool HQ.out, HW5.out⟩
      | true =>
        go_wp2
        go_roundw
        case rel => exact ⟨k + 1, by omega, by go_num, ⟨snocB (f := fun j => rightT ss ts (ts.getD j zTab)) HJ.out.1 HE.out, HX5.out, HW5.out⟩⟩
        case measure => simp [intOf]; omega
    · have hd : decide (k < ts.length) = false := decide_eq_false hlt
      have HI2 := Aside0.mk (show true = q by rw [← HI1.out]; exact (allB_true fun j hj => HJ.out.1 j (by omega)).symm)
      go_wp2
      go_ret
      exact ⟨ret_bool HI2.out, HJB2.out⟩
end Go.Proofs.Ytmmiehckgkadgaa.O
