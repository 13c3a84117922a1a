/- Own lemmas and walks (OQ, OS), without what the law does not need. Laid by a program of this session (prune.py). -/
import Derived.Test.YtmmiehckgkadgaaGreatPr8
namespace Go.Proofs.YtmmiehckgkadgaaGreat.O
set_option linter.unusedVariables false
set_option linter.unusedSimpArgs false
open Go.RowKit Go.Proofs.YtmmiehckgkadgaaGreatW.PrintWords
def schOK (ts : List Tab) (s : Sch) : Bool := nameB s.name && (nameB s.owner && decide (cnt (ofS s.name) ts ≤ 8))
def schsOK (ss : List Sch) (ts : List Tab) : Bool := allB ss.length (fun i => schOK ts (ss.getD i zSch))
def tabsOK (ss : List Sch) (ts : List Tab) : Bool := allB ts.length (fun i => rightT ss ts (ts.getD i zTab))
def checkB (ss : List Sch) (ts : List Tab) : Bool :=
  decide (ss.length ≤ 8) && (decide (ts.length ≤ 64) && (rises orderT ts && (rises (fun x y => cmpS x.name y.name) ss && (schsOK ss ts && tabsOK ss ts))))
def checkE (ss : List Sch) (ts : List Tab) : Int := if checkB ss ts = true then 0 else 63
theorem checkB_tail {ss : List Sch} {ts : List Tab} (h1 : ss.length ≤ 8) (h2 : ts.length ≤ 64) (h3 : rises orderT ts = true) (h4 : rises (fun x y : Sch => cmpS x.name y.name) ss = true) : checkB ss ts = (schsOK ss ts && tabsOK ss ts) := by
  unfold checkB; rw [decide_eq_true h1, decide_eq_true h2, h3, h4, Bool.true_and, Bool.true_and, Bool.true_and, Bool.true_and]
theorem checkE_no {ss : List Sch} {ts : List Tab} (h : checkB ss ts = false) : checkE ss ts = 63 := by unfold checkE; rw [h]; rfl
theorem checkE_yes {ss : List Sch} {ts : List Tab} (h : checkB ss ts = true) : checkE ss ts = 0 := by unfold checkE; rw [h]; rfl
theorem keepC7 {w0 w w' : World} {v0 v1 v2 v3 v4 v5 v6 : Value} {a0 a1 a2 a3 a4 a5 a6 : Addr} (h : w.cell? a0 = some v0 ∧ w.cell? a1 = some v1 ∧ w.cell? a2 = some v2 ∧ w.cell? a3 = some v3 ∧ w.cell? a4 = some v4 ∧ w.cell? a5 = some v5 ∧ w.cell? a6 = some v6 ∧ Below w0.heap.size w0 w) (hb : Below w.heap.size w w') :
    w'.cell? a0 = some v0 ∧ w'.cell? a1 = some v1 ∧ w'.cell? a2 = some v2 ∧ w'.cell? a3 = some v3 ∧ w'.cell? a4 = some v4 ∧ w'.cell? a5 = some v5 ∧ w'.cell? a6 = some v6 ∧ Below w0.heap.size w0 w' :=
  ⟨pw_cell_below hb h.1, pw_cell_below hb h.2.1, pw_cell_below hb h.2.2.1, pw_cell_below hb h.2.2.2.1, pw_cell_below hb h.2.2.2.2.1, pw_cell_below hb h.2.2.2.2.2.1, pw_cell_below hb h.2.2.2.2.2.2.1, h.2.2.2.2.2.2.2.trans (hb.mono h.2.2.2.2.2.2.2.size)⟩
set_option maxHeartbeats 4000000 in
theorem Check.calls {As At : Option Addr} {cs ct : Nat} (ss : List Sch) (ts : List Tab) (w : World) (hs : kSch.C w As ss.length ss) (hsl : ss.length ≤ 140737488355328) (ht : kTab.C w At ts.length ts) (hF : TabsF ts) :
    Calls Tryz.prog 21 #[.agg #[.slice As ss.length cs, .slice At ts.length ct]] w fun e w' => e = .returned (.int .i64 (checkE ss ts)) ∧ Below w.heap.size w w' := by
  have HF := Aside0.mk hF
  have HS := Aside0.mk hs
  have HT := Aside0.mk ht
  have HX := Aside0.mk (BoxO_new w As ss.length cs At ts.length ct)
  have HW : Aside0 (Below w.heap.size w (w.alloc (objBox As ss.length cs At ts.length ct))) := ⟨below_alloc (Below.refl _ _) _⟩
  generalize hi : checkE ss ts = q
  have HI := Aside0.mk hi
  have HR1 := Aside0.mk (risesTab.calls At ct ts (w.alloc (objBox As ss.length cs At ts.length ct)) (Kd.C_below HT.out HW.out) (by have := HF.out.1; omega))
  have HR2 := Aside0.mk (fun W (hW : Below w.heap.size w W) => risesSch.calls As cs ss W (Kd.C_below HS.out hW) hsl)
  have HWI := Aside0.mk (fun s W (hW : Below w.heap.size w W) => within.calls (As := As) (ns := ss.length) (cs := cs) (At := At) (ct := ct) ts s W (Kd.C_below HT.out hW) (by have := HF.out.1; omega))
  have HNM := Aside0.mk (fun s W => Name.calls s W)
  have hct := Aside0.mk (fun s => cnt_le (ofS s) ts)
  clear hi hs ht hF
  by_cases h1 : ss.length ≤ 8
  case neg =>
    have g1 : decide ((ss.length : Int) ≤ 8) = false := decide_eq_false (by omega)
    have HI1 := Aside0.mk (show (63 : Int) = q by rw [← HI.out]; exact (checkE_no (by unfold checkB; rw [decide_eq_false h1]; rfl)).symm)
    clear h1
    go_enter Tryz.func21, Tryz.ntmps21
    go_wp2
    refine wp_loop_rounds 1 ?_
    rw [rounds_succ]
    go_wp2
    refine wp_loop_rounds 1 ?_
    rw [rounds_succ]
    go_wp2
    go_ret
    exact ⟨ret_int HI1.out, HW.out⟩
  have H8 := Aside0.mk h1
  have g1 : decide ((ss.length : Int) ≤ 8) = true := decide_eq_true (by omega)
  clear h1
  by_cases h2 : ts.length ≤ 64
  case neg =>
    have g2 : decide ((ts.length : Int) ≤ 64) = false := decide_eq_false (by omega)
    have HI1 := Aside0.mk (show (63 : Int) = q by rw [← HI.out]; exact (checkE_no (by unfold checkB; rw [decide_eq_false h2, Bool.false_and, Bool.and_false])).symm)
    clear h2
    go_enter Tryz.func21, Tryz.ntmps21
    go_wp2
    refine wp_loop_rounds 1 ?_
    rw [rounds_succ]
    go_wp2
    refine wp_loop_rounds 1 ?_
    rw [rounds_succ]
    go_wp2
    go_ret
    exact ⟨ret_int HI1.out, HW.out⟩
  have H64 := Aside0.mk h2
  have g2 : decide ((ts.length : Int) ≤ 64) = true := decide_eq_true (by omega)
  clear h2
  have hxo := HX.out
  obtain ⟨o0, o1⟩ := hxo
  go_enter Tryz.func21, Tryz.ntmps21
  go_wp2_with fail
  refine HR1.out.mono ?_
  rintro e w1 ⟨rfl, hb1⟩
  have HW1 := Aside0.mk (HW.out.trans (hb1.mono HW.out.size))
  have HX1 := Aside0.mk (HX.out.below hb1)
  clear hb1 o0 o1
  obtain ⟨o0, o1⟩ := HX1.out
  cases r1 : rises orderT ts with
  | false =>
    have HI1 := Aside0.mk (show (63 : Int) = q by rw [← HI.out]; exact (checkE_no (by unfold checkB; rw [r1, Bool.false_and, Bool.and_false, Bool.and_false])).symm)
    clear r1
    go_wp2
    refine wp_loop_rounds 1 ?_
    rw [rounds_succ]
    go_wp2
    refine wp_loop_rounds 1 ?_
    rw [rounds_succ]
    go_wp2
    go_ret
    exact ⟨ret_int HI1.out, HW1.out⟩
  | true =>
  have R1 := Aside0.mk r1
  clear r1
  go_wp2_with fail
  refine (HR2.out _ HW1.out).mono ?_
  rintro e w2 ⟨rfl, hb2⟩
  have HW2 := Aside0.mk (HW1.out.trans (hb2.mono HW1.out.size))
  have HX2 := Aside0.mk (HX1.out.below hb2)
  clear hb2 o0 o1
  obtain ⟨o0, o1⟩ := HX2.out
  cases r2 : rises (fun x y : Sch => cmpS x.name y.name) ss with
  | false =>
    have HI1 := Aside0.mk (show (63 : Int) = q by rw [← HI.out]; exact (checkE_no (by unfold checkB; rw [r2, Bool.false_and, Bool.and_false, Bool.and_false, Bool.and_false])).symm)
    clear r2
    go_wp2
    refine wp_loop_rounds 1 ?_
    rw [rounds_succ]
    go_wp2
    refine wp_loop_rounds 1 ?_
    rw [rounds_succ]
    go_wp2
    go_ret
    exact ⟨ret_int HI1.out, HW2.out⟩
  | true =>
  have HCB := Aside0.mk (checkB_tail H8.out H64.out R1.out r2)
  clear r2
  go_wp2
  clear o0 o1
  go_loopw [3, 4] (fun ok i w' => ∃ b : Bool, ∃ k : Nat, k ≤ ss.length ∧ ok = .bool b ∧ i = .int .i64 k ∧ Aside0 ((b = true → ∀ j, j < k → schOK ts (ss.getD j zSch) = true) ∧ (b = false → schsOK ss ts = false) ∧ BoxO w' w.heap.size As ss.length cs At ts.length ct ∧ Below w.heap.size w w')) (fun _ i _ => ss.length - (intOf i).toNat)
  case atStart => exact ⟨true, 0, Nat.zero_le _, rfl, rfl, ⟨fun _ _ h => absurd h (Nat.not_lt_zero _), fun h => by (cases h), HX2.out, HW2.out⟩⟩
  case round =>
    obtain ⟨b, k, hk, rfl, rfl, HJ⟩ := hrel
    have hn8 := H8.out
    have hn64 := H64.out
    obtain ⟨o0, o1⟩ := HJ.out.2.2.1
    have HJB := Aside0.mk HJ.out.2.2.2
    cases b with
    | false =>
      have HI1 := Aside0.mk (show (63 : Int) = q by rw [← HI.out]; exact (checkE_no (HCB.out.trans (by rw [HJ.out.2.1 rfl]; rfl))).symm)
      go_wp2
      refine wp_loop_rounds 1 ?_
      rw [rounds_succ]
      go_wp2
      go_ret
      exact ⟨ret_int HI1.out, HJB.out⟩
    | true =>
    have HJ1 := Aside0.mk (HJ.out.1 rfl)
    by_cases hlt : k < ss.length
    · obtain ⟨ad, e, hc0, hc1⟩ := cSch (Kd.C_below HS.out HJB.out) k hlt
      cases e
      have hdk : decide ((k : Int) < (ss.length : Int)) = true := decide_eq_true (by omega)
      have o0' : ∀ o, (wr.alloc o).cell? ⟨w.heap.size, 0, none⟩ = some (.slice (some ad) ss.length cs) := fun o => pw_cell_below (below_alloc (Below.refl _ _) o) o0
      have o1' : ∀ o, (wr.alloc o).cell? ⟨w.heap.size, 1, none⟩ = some (.slice At ts.length ct) := fun o => pw_cell_below (below_alloc (Below.refl _ _) o) o1
      have HBW := Aside0.mk (fun o => below_alloc HJB.out o)
      have HBO := Aside0.mk (fun o => HJ.out.2.2.1.below (below_alloc (Below.refl _ _) o))
      have HE := Aside0.mk (show schOK ts (ss.getD k zSch) = (nameB ss[k].name && (nameB ss[k].owner && decide (cnt (ofS ss[k].name) ts ≤ 8))) by rw [getD_at hlt]; rfl)
      have HNO := Aside0.mk (show schOK ts (ss.getD k zSch) = false → schsOK ss ts = false from fun h => allB_false hlt h)
      have HN1 := Aside0.mk (fun W => Name.calls ss[k].name W)
      have HN2 := Aside0.mk (fun W => Name.calls ss[k].owner W)
      have HW3 := Aside0.mk (fun W hW => HWI.out ss[k].name W hW)
      have hcn := Aside0.mk (hct.out ss[k].name)
      cases n1 : nameB ss[k].name with
      | false =>
        have HQ := Aside0.mk (HNO.out (HE.out.trans (by rw [n1]; rfl)))
        rw [n1] at HN1
        go_wp2_with fail
        refine (HN1.out _).mono ?_
        rintro e _ ⟨rfl, rfl⟩
        go_wp2
        go_roundw
        case rel => exact ⟨false, k + 1, by omega, rfl, by go_num, ⟨fun h => by (cases h), fun _ => HQ.out, HBO.out _, HBW.out _⟩⟩
        case measure => simp [intOf]; omega
      | true =>
        rw [n1] at HN1
        cases n2 : nameB ss[k].owner with
        | false =>
          have HQ := Aside0.mk (HNO.out (HE.out.trans (by rw [n1, n2]; rfl)))
          rw [n2] at HN2
          clear n1 n2
          go_wp2_with fail
          refine (HN1.out _).mono ?_
          rintro e _ ⟨rfl, rfl⟩
          go_wp2_with fail
          refine (HN2.out _).mono ?_
          rintro e _ ⟨rfl, rfl⟩
          go_wp2
          go_roundw
          case rel => exact ⟨false, k + 1, by omega, rfl, by go_num, ⟨fun h => by (cases h), fun _ => HQ.out, HBO.out _, HBW.out _⟩⟩
          case measure => simp [intOf]; omega
        | true =>
          rw [n2] at HN2
          have HE2 := Aside0.mk (HE.out.trans (by rw [n1, n2, Bool.true_and, Bool.true_and]))
          clear n1 n2
          go_wp2_with fail
          refine (HN1.out _).mono ?_
          rintro e _ ⟨rfl, rfl⟩
          go_wp2_with fail
          refine (HN2.out _).mono ?_
          rintro e _ ⟨rfl, rfl⟩
          go_wp2_with fail
          refine (HW3.out _ (HBW.out _)).mono ?_
          rintro e w4 ⟨rfl, hb4⟩
          have HW4 := Aside0.mk ((HBW.out _).trans (hb4.mono (HBW.out _).size))
          have HX4 := Aside0.mk ((HBO.out _).below hb4)
          clear hb4
          by_cases h9 : cnt (ofS ss[k].name) ts ≤ 8
          · have g9 : decide (((cnt (ofS ss[k].name) ts : Nat) : Int) ≤ 8) = true := decide_eq_true (by omega)
            have HQ := Aside0.mk (HE2.out.trans (decide_eq_true h9))
            clear h9
            go_wp2
            go_roundw
            case rel => exact ⟨true, k + 1, by omega, rfl, by go_num, ⟨fun _ => snocB (f := fun j => schOK ts (ss.getD j zSch)) HJ1.out HQ.out, fun h => by (cases h), HX4.out, HW4.out⟩⟩
            case measure => simp [intOf]; omega
          · have g9 : decide (((cnt (ofS ss[k].name) ts : Nat) : Int) ≤ 8) = false := decide_eq_false (by omega)
            have HQ := Aside0.mk (HNO.out (HE2.out.trans (decide_eq_false h9)))
            clear h9
            go_wp2
            go_roundw
            case rel => exact ⟨false, k + 1, by omega, rfl, by go_num, ⟨fun h => by (cases h), fun _ => HQ.out, HX4.out, HW4.out⟩⟩
            case measure => simp [intOf]; omega
    · have hd : decide (k < ss.length) = false := decide_eq_false hlt
      have HSO := Aside0.mk (show schsOK ss ts = true from allB_true fun j hj => HJ1.out j (by omega))
      have HCB2 := Aside0.mk (HCB.out.trans (by rw [HSO.out, Bool.true_and]))
      have HXJ := Aside0.mk HJ.out.2.2.1
      go_wp2
      clear o0 o1 hd hlt hk HJ HJ1
      go_loopw [3, 6] (fun ok i w' => ∃ b : Bool, ∃ k : Nat, k ≤ ts.length ∧ ok = .bool b ∧ i = .int .i64 k ∧ Aside0 ((b = true → ∀ j, j < k → rightT ss ts (ts.getD j zTab) = true) ∧ (b = false → tabsOK ss ts = false) ∧ BoxO w' w.heap.size As ss.length cs At ts.length ct ∧ Below w.heap.size w w')) (fun _ i _ => ts.length - (intOf i).toNat)
      case atStart => exact ⟨true, 0, Nat.zero_le _, rfl, rfl, ⟨fun _ _ h => absurd h (Nat.not_lt_zero _), fun h => by (cases h), HXJ.out, HJB.out⟩⟩
      case round =>
        obtain ⟨b, k, hk, rfl, rfl, HJ⟩ := hrel
        have hn8 := H8.out
        have hn64 := H64.out
        obtain ⟨o0, o1⟩ := HJ.out.2.2.1
        have HJB2 := Aside0.mk HJ.out.2.2.2
        cases b with
        | false =>
          have HI1 := Aside0.mk (show (63 : Int) = q by rw [← HI.out]; exact (checkE_no (HCB2.out.trans (HJ.out.2.1 rfl))).symm)
          go_wp2
          go_ret
          exact ⟨ret_int HI1.out, HJB2.out⟩
        | true =>
        have HJ1 := Aside0.mk (HJ.out.1 rfl)
        by_cases hlt : k < ts.length
        · obtain ⟨ad, A3, c3, A4, c4, e, hc0, hc1, hc2, hc3, hc4, hs1, hs2, hs3, hs4⟩ := cTab HT.out k hlt
          cases e
          have hdk : decide ((k : Int) < (ts.length : Int)) = true := decide_eq_true (by omega)
          have e0 := pw_cell_below HJB2.out hc0
          have e1 := pw_cell_below HJB2.out hc1
          have e2 := pw_cell_below HJB2.out hc2
          have e3 := pw_cell_below HJB2.out hc3
          have e4 := pw_cell_below HJB2.out hc4
          have hTF := Aside0.mk (HF.out.2 _ (List.getElem_mem hlt))
          have HRT := Aside0.mk (fun W (hW : Below w.heap.size w W) => right.calls (As := As) (cs := cs) (At := some ad) (ct := ct) (A3 := A3) (c3 := c3) (A4 := A4) (c4 := c4) ss ts ts[k] W (Kd.C_below HS.out hW) hsl (Kd.C_below HT.out hW) HF.out (Kd.C_below hs2 hW) (Kd.C_below hs4 hW) hTF.out)
          have HE := Aside0.mk (show rightT ss ts (ts.getD k zTab) = rightT ss ts ts[k] by rw [getD_at hlt])
          have HNO := Aside0.mk (show rightT ss ts (ts.getD k zTab) = false → tabsOK ss ts = false from fun h => allB_false hlt h)
          clear hs1 hs2 hs3 hs4 hc0 hc1 hc2 hc3 hc4
          generalize rightT ss ts ts[k] = p at HE HRT
          go_wp2_with fail
          go_region_held3 (fun w' => w'.cell? ⟨w.heap.size, 0, none⟩ = some (.slice As ss.length cs) ∧ w'.cell? ⟨w.heap.size, 1, none⟩ = some (.slice (some ad) ts.length ct) ∧ w'.cell? (ad.add (k * 5)) = some (.string ts[k].schema) ∧ w'.cell? ⟨(ad.add (k * 5)).block, (ad.add (k * 5)).off + 1, none⟩ = some (.string ts[k].name) ∧ w'.cell? ⟨(ad.add (k * 5)).block, (ad.add (k * 5)).off + 2, none⟩ = some (.string ts[k].owner) ∧ w'.cell? ⟨(ad.add (k * 5)).block, (ad.add (k * 5)).off + 3, none⟩ = some (.slice A3 ts[k].cols.length c3) ∧ w'.cell? ⟨(ad.add (k * 5)).block, (ad.add (k * 5)).off + 4, none⟩ = some (.slice A4 ts[k].rules.length c4) ∧ Below w.heap.size w w')
            (first | assumption | exact keepC7 (by assumption) (by assumption) | exact ⟨o0, o1, e0, e1, e2, e3, e4, pw_below_drewN HJB2.out 1⟩)
            (first | (go_at_call 71; refine (HRT.out _ (And.right (And.right (And.right (And.right (And.right (And.right (And.right (by assumption)))))))) ).mono ?_; rintro e w5 ⟨rfl, hb5⟩))
          rename_i hH
          have HW5 := Aside0.mk hH.2.2.2.2.2.2.2
          have HX5 : Aside0 (BoxO _ w.heap.size As ss.length cs (some ad) ts.length ct) := Aside0.mk ⟨hH.1, hH.2.1⟩
          clear hH hb5 o0 o1 e0 e1 e2 e3 e4
          cases p with
          | false =>
            have HQ := Aside0.mk (HNO.out HE.out)
            go_wp2
            go_roundw
            case rel => exact ⟨false, k + 1, by omega, rfl, by go_num, ⟨fun h => by (cases h), fun _ => HQ.out, HX5.out, HW5.out⟩⟩
            case measure => simp [intOf]; omega
          | true =>
            go_wp2
            go_roundw
            case rel => exact ⟨true, k + 1, by omega, rfl, by go_num, ⟨fun _ => snocB (f := fun j => rightT ss ts (ts.getD j zTab)) HJ1.out HE.out, fun h => by (cases h), HX5.out, HW5.out⟩⟩
            case measure => simp [intOf]; omega
        · have hd : decide (k < ts.length) = false := decide_eq_false hlt
          have HI1 := Aside0.mk (show (0 : Int) = q by rw [← HI.out]; exact (checkE_yes (HCB2.out.trans (allB_true fun j hj => HJ1.out j (by omega)))).symm)
          go_wp2
          go_ret
          exact ⟨ret_int HI1.out, HJB2.out⟩
end Go.Proofs.YtmmiehckgkadgaaGreat.O
namespace Go.Proofs.YtmmiehckgkadgaaGreat.O
set_option linter.unusedVariables false
set_option linter.unusedSimpArgs false
open Go.RowKit Go.Proofs.YtmmiehckgkadgaaGreatW.PrintWords
theorem u8_eq {a b : UInt8} (h1 : ¬ a < b) (h2 : ¬ b < a) : a = b := by
  apply UInt8.toNat_inj.1
  rw [UInt8.lt_iff_toNat_lt] at h1 h2
  omega
theorem eq_cmp : ∀ x y : List UInt8, (x == y) = decide (Lib.compareBytes x y = 0)
  | [], [] => rfl
  | [], _ :: _ => rfl
  | _ :: _, [] => rfl
  | a :: x, b :: y => by
    have ih := eq_cmp x y
    unfold Lib.compareBytes
    rw [List.cons_beq_cons]
    by_cases h1 : a < b
    · rw [if_pos h1]
      have : (a == b) = false := beq_eq_false_iff_ne.2 fun he => by subst he; exact absurd h1 (by rw [UInt8.lt_iff_toNat_lt]; omega)
      rw [this, Bool.false_and]; rfl
    · rw [if_neg h1]
      by_cases h2 : b < a
      · rw [if_pos h2]
        have : (a == b) = false := beq_eq_false_iff_ne.2 fun he => by subst he; exact h1 h2
        rw [this, Bool.false_and]; rfl
      · rw [if_neg h2, u8_eq h1 h2, beq_self_eq_true, Bool.true_and, ih]
theorem eq_S (a b : ByteArray) : (a.toList == b.toList) = decide (cmpS a b = 0) := by rw [Lib.toList_data, Lib.toList_data, eq_cmp]; rfl
end Go.Proofs.YtmmiehckgkadgaaGreat.O
