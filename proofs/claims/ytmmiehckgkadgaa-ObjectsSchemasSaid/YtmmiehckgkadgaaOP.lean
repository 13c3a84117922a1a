/- Tables that are right: the model and the program's walk. -/
import Derived.Test.YtmmiehckgkadgaaOJ
namespace Go.Proofs.Ytmmiehckgkadgaa.O
set_option linter.unusedVariables false
set_option linter.unusedSimpArgs false
open Go.RowKit Go.Proofs.YtmmiehckgkadgaaW.PrintWords

def ruleOK (ts : List Tab) (l : List Col) (r : Rul) : Bool := fitsB l r && (r.kind != 4 || keyE ts l r == 0)
def rulesOK (ts : List Tab) (t : Tab) : Bool := allB t.rules.length (fun i => ruleOK ts t.cols (t.rules.getD i zRul))
def byNameR (x y : Rul) : Int := cmpS x.name y.name
def rightT (ss : List Sch) (ts : List Tab) (t : Tab) : Bool :=
  nameB t.name && (nameB t.owner && (mayCols t.cols && (decide (t.rules.length ≤ 8) && (decide (0 ≤ idx (fun x => x.name.toList == t.schema.toList) ss) && (rulesOK ts t && rises (fun x y => cmpS x.name y.name) t.rules)))))
theorem rightT_tail {ss : List Sch} {ts : List Tab} {t : Tab} (h1 : nameB t.name = true) (h2 : nameB t.owner = true) (h3 : mayCols t.cols = true) (h4 : t.rules.length ≤ 8) (h5 : 0 ≤ idx (fun x => x.name.toList == t.schema.toList) ss) : rightT ss ts t = (rulesOK ts t && rises (fun x y => cmpS x.name y.name) t.rules) := by
  unfold rightT; rw [h1, h2, h3, decide_eq_true h4, decide_eq_true h5, Bool.true_and, Bool.true_and, Bool.true_and, Bool.true_and, Bool.true_and]

set_option maxHeartbeats 2000000 in
theorem right.calls {As At A3 A4 : Option Addr} {cs ct c3 c4 : Nat} (ss : List Sch) (ts : List Tab) (t : Tab) (w : World) (hs : kSch.C w As ss.length ss) (hsl : ss.length ≤ 140737488355328) (ht : kTab.C w At ts.length ts) (hF : TabsF ts) (h3 : kCol.C w A3 t.cols.length t.cols) (h4 : kRul.C w A4 t.rules.length t.rules) (hTF : TabF t) :
    Calls Try.prog 47 #[.agg #[.slice As ss.length cs, .slice At ts.length ct], .agg #[.string t.schema, .string t.name, .string t.owner, .slice A3 t.cols.length c3, .slice A4 t.rules.length c4]] w fun e w' => e = .returned (.bool (rightT ss ts t)) ∧ Below w.heap.size w w' := by
  have HF := Aside0.mk hF
  have HTF := Aside0.mk hTF
  have HS := Aside0.mk hs
  have HT := Aside0.mk ht
  have H3 := Aside0.mk h3
  have H4 := Aside0.mk h4
  have HX := Aside0.mk ((BoxO_new w As ss.length cs At ts.length ct).below (below_alloc (Below.refl _ _) (tabBox t A3 c3 A4 c4)))
  have HX2 := Aside0.mk (show BoxT ((w.alloc (objBox As ss.length cs At ts.length ct)).alloc (tabBox t A3 c3 A4 c4)) (w.heap.size + 1) t A3 c3 A4 c4 by have := BoxT_new (w.alloc (objBox As ss.length cs At ts.length ct)) t A3 c3 A4 c4; simpa using this)
  have HW : Aside0 (Below w.heap.size w ((w.alloc (objBox As ss.length cs At ts.length ct)).alloc (tabBox t A3 c3 A4 c4))) := ⟨below_alloc (below_alloc (Below.refl _ _) _) _⟩
  generalize hi : rightT ss ts t = q
  have HI := Aside0.mk hi
  have HN1 := Aside0.mk (fun W => Name.calls t.name W)
  have HN2 := Aside0.mk (fun W => Name.calls t.owner W)
  have HM := Aside0.mk (fun W (hW : Below w.heap.size w W) => mayColumns.calls A3 c3 t.cols W (Kd.C_below H3.out hW) (by have := HTF.out.1; omega))
  have HB := Aside0.mk (fun W (hW : Below w.heap.size w W) => byNameSch.calls As cs ss t.schema W (Kd.C_below HS.out hW) hsl)
  have HRI := Aside0.mk (fun W (hW : Below w.heap.size w W) => risesRul.calls A4 c4 t.rules W (Kd.C_below H4.out hW) (by have := HTF.out.2.1; omega))
  clear hi hs ht hF h3 h4 hTF
  cases n1 : nameB t.name with
  | false =>
    have HI1 := Aside0.mk (show false = q by rw [← HI.out]; unfold rightT; rw [n1]; rfl)
    rw [n1] at HN1
    clear n1
    go_enter Try.func47, Try.ntmps47
    go_wp2_with fail
    refine (HN1.out _).mono ?_
    rintro e _ ⟨rfl, rfl⟩
    go_wp2
    go_ret
    exact ⟨ret_bool HI1.out, HW.out⟩
  | true =>
  have N1 := Aside0.mk n1
  rw [n1] at HN1
  clear n1
  cases n2 : nameB t.owner with
  | false =>
    have HI1 := Aside0.mk (show false = q by rw [← HI.out]; unfold rightT; rw [n2, Bool.false_and, Bool.and_false])
    rw [n2] at HN2
    clear n2
    go_enter Try.func47, Try.ntmps47
    go_wp2_with fail
    refine (HN1.out _).mono ?_
    rintro e _ ⟨rfl, rfl⟩
    go_wp2_with fail
    refine (HN2.out _).mono ?_
    rintro e _ ⟨rfl, rfl⟩
    go_wp2
    go_ret
    exact ⟨ret_bool HI1.out, HW.out⟩
  | true =>
  have N2 := Aside0.mk n2
  rw [n2] at HN2
  clear n2
  go_enter Try.func47, Try.ntmps47
  go_wp2_with fail
  refine (HN1.out _).mono ?_
  rintro e _ ⟨rfl, rfl⟩
  go_wp2_with fail
  refine (HN2.out _).mono ?_
  rintro e _ ⟨rfl, rfl⟩
  go_wp2_with fail
  refine (HM.out _ HW.out).mono ?_
  rintro e w1 ⟨rfl, hb1⟩
  have HW1 := Aside0.mk (HW.out.trans (hb1.mono HW.out.size))
  have HX3 := Aside0.mk (HX.out.below hb1)
  have HX4 := Aside0.mk (HX2.out.below hb1)
  clear hb1 HX HX2 HN1 HN2
  obtain ⟨o0, o1⟩ := HX3.out
  obtain ⟨t0, t1, t2, t3, t4⟩ := HX4.out
  cases n3 : mayCols t.cols with
  | false =>
    have HI1 := Aside0.mk (show false = q by rw [← HI.out]; unfold rightT; rw [n3, Bool.false_and, Bool.and_false, Bool.and_false])
    clear n3
    go_wp2
    go_ret
    exact ⟨ret_bool HI1.out, HW1.out⟩
  | true =>
  have N3 := Aside0.mk n3
  clear n3
  by_cases h8 : t.rules.length ≤ 8
  case neg =>
    have HI1 := Aside0.mk (show false = q by rw [← HI.out]; unfold rightT; rw [decide_eq_false h8, Bool.false_and, Bool.and_false, Bool.and_false, Bool.and_false])
    have g8 : decide ((8 : Int) < (t.rules.length : Int)) = true := decide_eq_true (by omega)
    clear h8
    go_wp2
    go_ret
    exact ⟨ret_bool HI1.out, HW1.out⟩
  have N8 := Aside0.mk h8
  have g8 : decide ((8 : Int) < (t.rules.length : Int)) = false := decide_eq_false (by omega)
  clear h8
  go_wp2_with fail
  refine (HB.out _ HW1.out).mono ?_
  rintro e w2 ⟨rfl, hb2⟩
  have HW2 := Aside0.mk (HW1.out.trans (hb2.mono HW1.out.size))
  have HX5 := Aside0.mk (HX3.out.below hb2)
  have HX6 := Aside0.mk (HX4.out.below hb2)
  clear hb2 HX3 HX4 o0 o1 t0 t1 t2 t3 t4
  obtain ⟨o0, o1⟩ := HX5.out
  obtain ⟨t0, t1, t2, t3, t4⟩ := HX6.out
  by_cases h5 : 0 ≤ idx (fun x : Sch => x.name.toList == t.schema.toList) ss
  case neg =>
    have HI1 := Aside0.mk (show false = q by rw [← HI.out]; unfold rightT; rw [decide_eq_false h5, Bool.false_and, Bool.and_false, Bool.and_false, Bool.and_false, Bool.and_false])
    have g5 : decide (idx (fun x : Sch => x.name.toList == t.schema.toList) ss < 0) = true := decide_eq_true (by omega)
    clear h5
    go_wp2
    go_ret
    exact ⟨ret_bool HI1.out, HW2.out⟩
  have HI1 := Aside0.mk ((rightT_tail N1.out N2.out N3.out N8.out h5).symm.trans HI.out)
  have g5 : decide (idx (fun x : Sch => x.name.toList == t.schema.toList) ss < 0) = false := decide_eq_false (by omega)
  clear h5
  go_wp2
  clear o0 o1 t0 t1 t2 t3 t4
  go_loopw [40] (fun i w' => ∃ k : Nat, k ≤ t.rules.length ∧ i = .int .i64 k ∧ Aside0 ((∀ j, j < k → ruleOK ts t.cols (t.rules.getD j zRul) = true) ∧ BoxO w' w.heap.size As ss.length cs At ts.length ct ∧ BoxT w' (w.heap.size + 1) t A3 c3 A4 c4 ∧ Below w.heap.size w w')) (fun i _ => t.rules.length - (intOf i).toNat)
  case atStart => exact ⟨0, Nat.zero_le _, rfl, ⟨fun _ h => absurd h (Nat.not_lt_zero _), HX5.out, HX6.out, HW2.out⟩⟩
  case round =>
    obtain ⟨k, hk, rfl, HJ⟩ := hrel
    obtain ⟨o0, o1⟩ := HJ.out.2.1
    obtain ⟨t0, t1, t2, t3, t4⟩ := HJ.out.2.2.1
    have HJB := Aside0.mk HJ.out.2.2.2
    have hn8 := N8.out
    by_cases hlt : k < t.rules.length
    · obtain ⟨ad4, A5, c5, e, hd0, hd1, hd2, hd3, hd4, hd5, hd6, hd7, hs5, hs6⟩ := cRul (Kd.C_below H4.out HJB.out) k hlt
      cases e
      have hRF := Aside0.mk (HTF.out.2.2 _ (List.getElem_mem hlt))
      have HS2 := Aside0.mk (And.intro hs5 hs6)
      clear hs5 hs6
      have t3' : ∀ o, (wr.alloc o).cell? ⟨w.heap.size + 1, 3, none⟩ = some (.slice A3 t.cols.length c3) := fun o => pw_cell_below (below_alloc (Below.refl _ _) o) t3
      have HBW := Aside0.mk (below_alloc HJB.out (rulBox t.rules[k] A5 c5))
      have HBX := Aside0.mk (BoxR_new wr t.rules[k] A5 c5)
      have HBO := Aside0.mk (HJ.out.2.1.below (below_alloc (Below.refl _ _) (rulBox t.rules[k] A5 c5)))
      have HBT := Aside0.mk (HJ.out.2.2.1.below (below_alloc (Below.refl _ _) (rulBox t.rules[k] A5 c5)))
      have HFI := Aside0.mk (fits.calls (A0 := A3) (c0 := c3) (A2 := A5) (c2 := c5) t.cols t.rules[k] (wr.alloc (rulBox t.rules[k] A5 c5)) (Kd.C_below H3.out HBW.out) (by have := HTF.out.1; omega) (Kd.C_below HS2.out.2 (below_alloc (Below.refl _ _) _)) (by have := hRF.out.1; omega) hRF.out.2)
      have HKE := Aside0.mk (fun W (hW : Below w.heap.size w W) (hW2 : Below wr.heap.size wr W) => key.calls (As := As) (ns := ss.length) (cs := cs) (At := At) (ct := ct) (A0 := A3) (c0 := c3) (A2 := A5) (c2 := c5) ts t.cols t.rules[k] W (Kd.C_below HT.out hW) HF.out (Kd.C_below H3.out hW) (by have := HTF.out.1; omega) (Kd.C_below HS2.out.2 hW2) hRF.out.1)
      have HE := Aside0.mk (show ruleOK ts t.cols (t.rules.getD k zRul) = (fitsB t.cols t.rules[k] && (t.rules[k].kind != 4 || keyE ts t.cols t.rules[k] == 0)) by rw [getD_at hlt]; rfl)
      have HNO := Aside0.mk (show ruleOK ts t.cols (t.rules.getD k zRul) = false → false = q from fun h => by rw [← HI1.out]; unfold rulesOK; rw [allB_false hlt h]; rfl)
      clear o0 o1 t0 t1 t2 t3 t4
      go_wp2_with fail
      refine HFI.out.mono ?_
      rintro e w3 ⟨rfl, hb3⟩
      have HW3 := Aside0.mk (HBW.out.trans (hb3.mono HBW.out.size))
      have HWR3 := Aside0.mk (show Below wr.heap.size wr w3 from (below_alloc (Below.refl _ _) (rulBox t.rules[k] A5 c5)).trans (hb3.mono (by simp)))
      have HX7 := Aside0.mk (HBO.out.below hb3)
      have HX8 := Aside0.mk (HBT.out.below hb3)
      have HX9 := Aside0.mk (HBX.out.below hb3)
      clear hb3 hd0 hd1 hd2 hd3 hd4 hd5 hd6 hd7
      obtain ⟨o0, o1⟩ := HX7.out
      obtain ⟨t0, t1, t2, t3, t4⟩ := HX8.out
      obtain ⟨b0, b1, b2, b3, b4, b5, b6, b7⟩ := HX9.out
      cases f1 : fitsB t.cols t.rules[k] with
      | false =>
        have HI2 := Aside0.mk (HNO.out (HE.out.trans (by rw [f1, Bool.false_and])))
        clear f1
        go_wp2
        go_ret
        exact ⟨ret_bool HI2.out, HW3.out⟩
      | true =>
      have F1 := Aside0.mk f1
      clear f1
      cases k4 : (t.rules[k].kind == 4) with
      | false =>
        have HQ := Aside0.mk (show ruleOK ts t.cols (t.rules.getD k zRul) = true from HE.out.trans (by rw [F1.out, show (t.rules[k].kind != 4) = true by simpa using k4]; rfl))
        go_wp2
        go_roundw
        case rel => exact ⟨k + 1, by omega, by go_num, ⟨snocB (f := fun i => ruleOK ts t.cols (t.rules.getD i zRul)) HJ.out.1 HQ.out, HX7.out, HX8.out, HW3.out⟩⟩
        case measure => simp [intOf]; omega
      | true =>
      have K4 := Aside0.mk (show (t.rules[k].kind != 4) = false by simpa using k4)
      go_wp2_with fail
      refine (HKE.out _ HW3.out HWR3.out).mono ?_
      rintro e w4 ⟨rfl, hb4⟩
      have HW4 := Aside0.mk (HW3.out.trans (hb4.mono HW3.out.size))
      have HX10 := Aside0.mk (HX7.out.below hb4)
      have HX11 := Aside0.mk (HX8.out.below hb4)
      clear hb4
      cases ke : (keyE ts t.cols t.rules[k] != 0) with
      | true =>
        have HI2 := Aside0.mk (HNO.out (HE.out.trans (by rw [F1.out, K4.out, show (keyE ts t.cols t.rules[k] == 0) = false by simpa using ke]; rfl)))
        go_wp2
        go_ret
        exact ⟨ret_bool HI2.out, HW4.out⟩
      | false =>
        have HQ := Aside0.mk (show ruleOK ts t.cols (t.rules.getD k zRul) = true from HE.out.trans (by rw [F1.out, K4.out, show (keyE ts t.cols t.rules[k] == 0) = true by simpa using ke]; rfl))
        go_wp2
        go_roundw
        case rel => exact ⟨k + 1, by omega, by go_num, ⟨snocB (f := fun i => ruleOK ts t.cols (t.rules.getD i zRul)) HJ.out.1 HQ.out, HX10.out, HX11.out, HW4.out⟩⟩
        case measure => simp [intOf]; omega
    · have hd : decide (k < t.rules.length) = false := decide_eq_false hlt
      have HI2 := Aside0.mk (show rises (fun x y : Rul => cmpS x.name y.name) t.rules = q by rw [← HI1.out, show rulesOK ts t = true from allB_true fun j hj => HJ.out.1 j (by omega)]; rfl)
      go_wp2_with fail
      refine (HRI.out _ HJB.out).mono ?_
      rintro e w4 ⟨rfl, hb4⟩
      have HW4 := Aside0.mk (HJB.out.trans (hb4.mono HJB.out.size))
      clear hb4
      go_wp2
      go_ret
      exact ⟨ret_bool HI2.out, HW4.out⟩
end Go.Proofs.Ytmmiehckgkadgaa.O
