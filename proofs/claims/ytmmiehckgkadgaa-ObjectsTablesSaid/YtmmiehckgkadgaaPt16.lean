/- Own lemmas and walks (OU, OV, OW, OX, G2), without what the law does not need. Laid by a program of this session (prune.py). -/
import Derived.Test.YtmmiehckgkadgaaPt12
import Derived.Test.YtmmiehckgkadgaaPt15
namespace Go.Proofs.Ytmmiehckgkadgaa.O
set_option linter.unusedVariables false
set_option linter.unusedSimpArgs false
open Go.RowKit Go.Proofs.YtmmiehckgkadgaaW.PrintWords
theorem checkB_rows (ss : List Sch) (ts : List Tab) (h2 : ts.length ≤ 64) : checkB ss ts = (rowsB ss ts && tabsOK ss ts) := by
  unfold checkB rowsB
  rw [decide_eq_true h2]
  cases decide (ss.length ≤ 8) <;> cases rises orderT ts <;> cases rises (fun x y : Sch => cmpS x.name y.name) ss <;> cases schsOK ss ts <;> cases tabsOK ss ts <;> rfl
set_option maxHeartbeats 4000000 in
theorem rRightAll.calls {As At : Option Addr} {cs ct : Nat} (ss : List Sch) (ts : List Tab) (w : World) (hs : kSch.C w As ss.length ss) (hsl : ss.length ≤ 8796093022208) (ht : kTab.C w At ts.length ts) (hF : TabsF ts) :
    Calls Try.prog 14 #[.agg #[.slice As ss.length cs, .slice At ts.length ct]] w fun e w' => e = .returned (.bool (checkB ss ts)) ∧ Below w.heap.size w w' := by
  have HF := Aside0.mk hF
  have HS := Aside0.mk hs
  have HT := Aside0.mk ht
  have HX := Aside0.mk (BoxO_new w As ss.length cs At ts.length ct)
  have HW : Aside0 (Below w.heap.size w (w.alloc (objBox As ss.length cs At ts.length ct))) := ⟨below_alloc (Below.refl _ _) _⟩
  generalize hi : checkB ss ts = q
  have HI := Aside0.mk hi
  have HRW := Aside0.mk (rRows.calls (As := As) (cs := cs) (At := At) (ct := ct) ss ts (w.alloc (objBox As ss.length cs At ts.length ct)) (Kd.C_below HS.out HW.out) hsl (Kd.C_below HT.out HW.out) HF.out)
  have hn64 := hF.1
  clear hi hs ht hF
  by_cases h1 : ss.length ≤ 8
  case neg =>
    have g1 : decide ((8 : Int) < (ss.length : Int)) = true := decide_eq_true (by omega)
    have HI1 := Aside0.mk (show false = q by rw [← HI.out]; unfold checkB; rw [decide_eq_false h1]; rfl)
    clear h1
    go_enter Try.func14, Try.ntmps14
    go_wp2
    go_ret
    exact ⟨ret_bool HI1.out, HW.out⟩
  have g1 : decide ((8 : Int) < (ss.length : Int)) = false := decide_eq_false (by omega)
  clear h1
  by_cases h2 : ts.length ≤ 64
  case neg =>
    have g2 : decide ((64 : Int) < (ts.length : Int)) = true := decide_eq_true (by omega)
    have HI1 := Aside0.mk (show false = q by rw [← HI.out]; unfold checkB; rw [decide_eq_false h2, Bool.false_and, Bool.and_false])
    clear h2
    go_enter Try.func14, Try.ntmps14
    go_wp2
    go_ret
    exact ⟨ret_bool HI1.out, HW.out⟩
  have HCB := Aside0.mk ((checkB_rows ss ts h2).symm.trans HI.out)
  have H64 := Aside0.mk h2
  have g2 : decide ((64 : Int) < (ts.length : Int)) = false := decide_eq_false (by omega)
  clear h2
  generalize hrow : rowsB ss ts = rw_ at HRW HCB
  clear hrow
  have hxo := HX.out
  obtain ⟨o0, o1⟩ := hxo
  go_enter Try.func14, Try.ntmps14
  go_wp2_with fail
  refine HRW.out.mono ?_
  rintro e w1 ⟨rfl, hb1⟩
  have HW1 := Aside0.mk (HW.out.trans (hb1.mono HW.out.size))
  have HX1 := Aside0.mk (HX.out.below hb1)
  clear hb1 o0 o1
  cases rw_ with
  | false =>
    have HI1 := Aside0.mk (show false = q by rw [← HCB.out]; rfl)
    go_wp2
    go_ret
    exact ⟨ret_bool HI1.out, HW1.out⟩
  | true =>
  have HI1 := Aside0.mk (show tabsOK ss ts = q by rw [← HCB.out]; rfl)
  go_wp2
  go_loopw [3] (fun i w' => ∃ k : Nat, k ≤ ts.length ∧ i = .int .i64 k ∧ Aside0 ((∀ j, j < k → rightT ss ts (ts.getD j zTab) = true) ∧ BoxO w' w.heap.size As ss.length cs At ts.length ct ∧ Below w.heap.size w w')) (fun i _ => ts.length - (intOf i).toNat)
  case atStart => exact ⟨0, Nat.zero_le _, rfl, ⟨fun _ h => absurd h (Nat.not_lt_zero _), HX1.out, HW1.out⟩⟩
  case round =>
    obtain ⟨k, hk, rfl, HJ⟩ := hrel
    have hn64 := H64.out
    obtain ⟨o0, o1⟩ := HJ.out.2.1
    have HJB2 := Aside0.mk HJ.out.2.2
    by_cases hlt : k < ts.length
    · obtain ⟨ad, A3, c3, A4, c4, e, hc0, hc1, hc2, hc3, hc4, hs1, hs2, hs3, hs4⟩ := cTab HT.out k hlt
      cases e
      have hdk : decide ((k : Int) < (ts.length : Int)) = true := decide_eq_true (by omega)
      have e0 := pw_cell_below HJB2.out hc0
      have e1 := pw_cell_below HJB2.out hc1
      have e2 := pw_cell_below HJB2.out hc2
      have e3 := pw_cell_below HJB2.out hc3
      have e4 := pw_cell_below HJB2.out hc4
      have hTF := Aside0.mk (HF.out.2 _ (List.getElem_mem hlt))
      have HRT := Aside0.mk (fun W (hW : Below w.heap.size w W) => rRight.calls (As := As) (cs := cs) (At := some ad) (ct := ct) (A3 := A3) (c3 := c3) (A4 := A4) (c4 := c4) ss ts ts[k] W (Kd.C_below HS.out hW) (by omega) (Kd.C_below HT.out hW) HF.out (Kd.C_below hs2 hW) (Kd.C_below hs4 hW) hTF.out hs1)
      have HE := Aside0.mk (show rightT ss ts (ts.getD k zTab) = rightT ss ts ts[k] by rw [getD_at hlt])
      have HNO := Aside0.mk (show rightT ss ts (ts.getD k zTab) = false → false = q from fun h => by rw [← HI1.out]; exact (allB_false hlt h).symm)
      clear hs1 hs2 hs3 hs4 hc0 hc1 hc2 hc3 hc4
      generalize rightT ss ts ts[k] = p at HE HRT
      go_wp2_with fail
      go_region_held3 (fun w' => w'.cell? ⟨w.heap.size, 0, none⟩ = some (.slice As ss.length cs) ∧ w'.cell? ⟨w.heap.size, 1, none⟩ = some (.slice (some ad) ts.length ct) ∧ w'.cell? (ad.add (k * 5)) = some (.string ts[k].schema) ∧ w'.cell? ⟨(ad.add (k * 5)).block, (ad.add (k * 5)).off + 1, none⟩ = some (.string ts[k].name) ∧ w'.cell? ⟨(ad.add (k * 5)).block, (ad.add (k * 5)).off + 2, none⟩ = some (.string ts[k].owner) ∧ w'.cell? ⟨(ad.add (k * 5)).block, (ad.add (k * 5)).off + 3, none⟩ = some (.slice A3 ts[k].cols.length c3) ∧ w'.cell? ⟨(ad.add (k * 5)).block, (ad.add (k * 5)).off + 4, none⟩ = some (.slice A4 ts[k].rules.length c4) ∧ Below w.heap.size w w')
        (first | assumption | exact keepC7 (by assumption) (by assumption) | exact ⟨o0, o1, e0, e1, e2, e3, e4, pw_below_drewN HJB2.out 1⟩)
        (first | (go_at_call 49; refine (HRT.out _ (And.right (And.right (And.right (And.right (And.right (And.right (And.right (by assumption)))))))) ).mono ?_; rintro e w5 ⟨rfl, hb5⟩))
      rename_i hH
      have HW5 := Aside0.mk hH.2.2.2.2.2.2.2
      have HX5 : Aside0 (BoxO _ w.heap.size As ss.length cs (some ad) ts.length ct) := Aside0.mk ⟨hH.1, hH.2.1⟩
      clear hH hb5 o0 o1 e0 e1 e2 e3 e4
      cases p with
      | false =>
        have HQ := Aside0.mk (HNO.out HE.out)
        go_wp2
        go_ret
        exact ⟨ret_bool HQ.out, HW5.out⟩
      | true =>
        go_wp2
        go_roundw
        case rel => exact ⟨k + 1, by omega, by go_num, ⟨snocB (f := fun j => rightT ss ts (ts.getD j zTab)) HJ.out.1 HE.out, HX5.out, HW5.out⟩⟩
        case measure => simp [intOf]; omega
    · have hd : decide (k < ts.length) = false := decide_eq_false hlt
      have HI2 := Aside0.mk (show true = q by rw [← HI1.out]; exact (allB_true fun j hj => HJ.out.1 j (by omega)).symm)
      go_wp2
      go_ret
      exact ⟨ret_bool HI2.out, HJB2.out⟩
end Go.Proofs.Ytmmiehckgkadgaa.O
namespace Go.Proofs.Ytmmiehckgkadgaa.O
set_option linter.unusedVariables false
set_option linter.unusedSimpArgs false
open Go.RowKit Go.Proofs.YtmmiehckgkadgaaW.PrintWords
def RulS (r : Rul) : Prop := r.cols.length ≤ 3000
def TabS (t : Tab) : Prop := t.cols.length ≤ 3000 ∧ t.rules.length ≤ 3000 ∧ ∀ r ∈ t.rules, RulS r
def ObjS (ss : List Sch) (ts : List Tab) : Prop := ss.length ≤ 3000 ∧ ts.length ≤ 3000 ∧ ∀ t ∈ ts, TabS t
theorem all_of_lt {α : Type} {l : List α} {P : α → Prop} (h : ∀ j (hj : j < l.length), P l[j]) : ∀ x ∈ l, P x := fun x hx => by obtain ⟨j, hj, rfl⟩ := List.getElem_of_mem hx; exact h j hj
set_option maxHeartbeats 4000000 in
theorem large.calls {As At : Option Addr} {cs ct : Nat} (ss : List Sch) (ts : List Tab) (w : World) (hsl : ss.length ≤ 8796093022208) (ht : kTab.C w At ts.length ts) (hF : TabsF ts) :
    Calls Try.prog 11 #[.agg #[.slice As ss.length cs, .slice At ts.length ct]] w fun e w' => ∃ b, e = .returned (.bool b) ∧ (b = false → ObjS ss ts) ∧ Below w.heap.size w w' := by
  have HF := Aside0.mk hF
  have HT := Aside0.mk ht
  have HX := Aside0.mk (BoxO_new w As ss.length cs At ts.length ct)
  have HW : Aside0 (Below w.heap.size w (w.alloc (objBox As ss.length cs At ts.length ct))) := ⟨below_alloc (Below.refl _ _) _⟩
  have hn64 := hF.1
  clear ht hF
  go_enter Try.func11, Try.ntmps11
  go_wp2
  go_loopw [3, 4] (fun n i w' => ∃ m k : Nat, k ≤ ts.length ∧ n = .int .i64 m ∧ i = .int .i64 k ∧ m ≤ 70368744177664 ∧ Aside0 ((m ≤ 3000 → ss.length + ts.length ≤ 3000 ∧ ∀ j (h : j < ts.length), j < k → TabS ts[j]) ∧ BoxO w' w.heap.size As ss.length cs At ts.length ct ∧ Below w.heap.size w w')) (fun _ i _ => ts.length - (intOf i).toNat)
  case atStart => exact ⟨ss.length + ts.length, 0, Nat.zero_le _, by go_num, rfl, by omega, ⟨fun h => ⟨h, fun _ _ h => absurd h (Nat.not_lt_zero _)⟩, HX.out, HW.out⟩⟩
  case round =>
    obtain ⟨m, k, hk, rfl, rfl, hm, HJ⟩ := hrel
    obtain ⟨o0, o1⟩ := HJ.out.2.1
    have HJB := Aside0.mk HJ.out.2.2
    by_cases hlt : k < ts.length
    · have hdk : decide ((k : Int) < (ts.length : Int)) = true := decide_eq_true (by omega)
      by_cases hm3 : m ≤ 3000
      · have hdm : decide ((m : Int) ≤ 3000) = true := decide_eq_true (by omega)
        obtain ⟨ad, A3, c3, A4, c4, e, hc0, hc1, hc2, hc3, hc4, hs1, hs2, hs3, hs4⟩ := cTab (Kd.C_below HT.out HJB.out) k hlt
        cases e
        have hTF := Aside0.mk (HF.out.2 _ (List.getElem_mem hlt))
        have hL1 := hTF.out.1
        have hL2 := hTF.out.2.1
        have H4 := Aside0.mk hs4
        have HBX := Aside0.mk (BoxT_new wr ts[k] A3 c3 A4 c4)
        have HBW := Aside0.mk (below_alloc HJB.out (tabBox ts[k] A3 c3 A4 c4))
        have HBO := Aside0.mk (HJ.out.2.1.below (below_alloc (Below.refl _ _) (tabBox ts[k] A3 c3 A4 c4)))
        have HM := Aside0.mk (HJ.out.1 hm3)
        clear hs1 hs2 hs3 hs4
        go_wp2
        clear o0 o1 hc0 hc1 hc2 hc3 hc4
        go_loopw [3, 6] (fun n i w' => ∃ p h : Nat, h ≤ ts[k].rules.length ∧ n = .int .i64 p ∧ i = .int .i64 h ∧ p ≤ 35184372088832 ∧ Aside0 ((p ≤ 3000 → m + ts[k].cols.length + ts[k].rules.length ≤ 3000 ∧ ∀ j (hj : j < ts[k].rules.length), j < h → RulS ts[k].rules[j]) ∧ BoxO w' w.heap.size As ss.length cs (some ad) ts.length ct ∧ BoxT w' wr.heap.size ts[k] A3 c3 A4 c4 ∧ Below wr.heap.size wr w')) (fun _ i _ => ts[k].rules.length - (intOf i).toNat)
        case atStart => exact ⟨m + ts[k].cols.length + ts[k].rules.length, 0, Nat.zero_le _, by go_num, rfl, by omega, ⟨fun h => ⟨h, fun _ _ h => absurd h (Nat.not_lt_zero _)⟩, HBO.out, HBX.out, below_alloc (Below.refl _ _) _⟩⟩
        case round =>
          obtain ⟨p, h, hh, rfl, rfl, hp, HI⟩ := hrel
          have HIB := Aside0.mk HI.out.2.2.2
          obtain ⟨t0, t1, t2, t3, t4⟩ := HI.out.2.2.1
          have HBZ := Aside0.mk (HJB.out.trans (HI.out.2.2.2.mono HJB.out.size))
          by_cases hlt2 : h < ts[k].rules.length
          · have hdh : decide ((h : Int) < (ts[k].rules.length : Int)) = true := decide_eq_true (by omega)
            by_cases hp3 : p ≤ 3000
            · have hdp : decide ((p : Int) ≤ 3000) = true := decide_eq_true (by omega)
              have HM2 := Aside0.mk (HI.out.1 hp3)
              obtain ⟨ad4, A5, c5, e, hd0, hd1, hd2, hd3, hd4, hd5, hd6, hd7, hs5, hs6⟩ := cRul (Kd.C_below H4.out HIB.out) h hlt2
              cases e
              have hL3 := (hTF.out.2.2 _ (List.getElem_mem hlt2)).1
              clear hs5 hs6
              go_wp2
              go_roundw
              case rel => exact ⟨p + ts[k].rules[h].cols.length, h + 1, by omega, by go_num, by go_num, by omega, ⟨fun h5 => ⟨HM2.out.1, fun j hj hjl => by
                rcases Nat.lt_or_ge j h with h3 | h3
                · exact HM2.out.2 j hj h3
                · obtain rfl : j = h := by omega
                  show ts[k].rules[j].cols.length ≤ 3000
                  omega⟩, HI.out.2.1, HI.out.2.2.1, HIB.out⟩⟩
              case measure => simp [intOf]; omega
            · have hdp : decide ((p : Int) ≤ 3000) = false := decide_eq_false (by omega)
              have HIX := Aside0.mk HI.out.2.1
              go_wp2
              clear t0 t1 t2 t3 t4
              go_roundw
              case rel => exact ⟨p, k + 1, by omega, by go_num, by go_num, by omega, ⟨fun h5 => absurd h5 hp3, HIX.out, HBZ.out⟩⟩
              case measure => simp [intOf]; omega
          · have hdh : decide ((h : Int) < (ts[k].rules.length : Int)) = false := decide_eq_false (by omega)
            have HIX := Aside0.mk HI.out.2.1
            have HI1 := Aside0.mk HI.out.1
            go_wp2
            clear t0 t1 t2 t3 t4
            go_roundw
            case rel => exact ⟨p, k + 1, by omega, by go_num, by go_num, by omega, ⟨fun h5 => by
              have h6 := HI1.out h5
              refine ⟨HM.out.1, fun j hj hjl => ?_⟩
              rcases Nat.lt_or_ge j k with h3 | h3
              · exact HM.out.2 j hj h3
              · obtain rfl : j = k := by omega
                exact ⟨by omega, by omega, all_of_lt fun i hi => h6.2 i hi (by omega)⟩, HIX.out, HBZ.out⟩⟩
            case measure => simp [intOf]; omega
      · have hdm : decide ((m : Int) ≤ 3000) = false := decide_eq_false (by omega)
        have hgt : decide ((3000 : Int) < (m : Int)) = true := decide_eq_true (by omega)
        go_wp2
        go_ret
        exact ⟨true, rfl, fun h => by (cases h), HJB.out⟩
    · have hdk : decide ((k : Int) < (ts.length : Int)) = false := decide_eq_false (by omega)
      by_cases hm3 : m ≤ 3000
      · have hgt : decide ((3000 : Int) < (m : Int)) = false := decide_eq_false (by omega)
        have HM := Aside0.mk (HJ.out.1 hm3)
        go_wp2
        go_ret
        exact ⟨false, rfl, fun _ => ⟨by have := HM.out.1; omega, by have := HM.out.1; omega, all_of_lt fun j hj => HM.out.2 j hj (by omega)⟩, HJB.out⟩
      · have hgt : decide ((3000 : Int) < (m : Int)) = true := decide_eq_true (by omega)
        go_wp2
        go_ret
        exact ⟨true, rfl, fun h => by (cases h), HJB.out⟩
end Go.Proofs.Ytmmiehckgkadgaa.O
namespace Go.Proofs.Ytmmiehckgkadgaa.O
set_option linter.unusedVariables false
set_option linter.unusedSimpArgs false
open Go.RowKit Go.Proofs.YtmmiehckgkadgaaW.PrintWords
theorem C_one {α : Type} {d : Kd α} {w : World} {g : Nat} {x : α} {c : List Value} (hl : c.length = d.sz) (hk : d.K w x c) (hc : ∀ i u, c[i]? = some u → w.cell? ⟨g, i, none⟩ = some u) : d.C w (some ⟨g, 0, none⟩) 1 [x] :=
  ⟨rfl, by decide, fun _ => ⟨_, rfl, fun j p hp => by
    cases j with
    | zero => obtain rfl : x = p := by simpa using hp
              exact ⟨c, hl, hk, fun i u hu => by rw [Nat.zero_mul, Nat.zero_add, add_plain]; exact hc i u hu⟩
    | succ j => simp at hp⟩⟩
theorem C_two {α : Type} {d : Kd α} {w : World} {g : Nat} {x y : α} {c e : List Value} (hl : c.length = d.sz) (hk : d.K w x c) (hc : ∀ i u, c[i]? = some u → w.cell? ⟨g, i, none⟩ = some u) (hl2 : e.length = d.sz) (hk2 : d.K w y e) (hc2 : ∀ i u, e[i]? = some u → w.cell? ⟨g, d.sz + i, none⟩ = some u) : d.C w (some ⟨g, 0, none⟩) 2 [x, y] :=
  ⟨rfl, by decide, fun _ => ⟨_, rfl, fun j p hp => by
    match j, hp with
    | 0, hp => obtain rfl : x = p := by simpa using hp
               exact ⟨c, hl, hk, fun i u hu => by rw [Nat.zero_mul, Nat.zero_add, add_plain]; exact hc i u hu⟩
    | 1, hp => obtain rfl : y = p := by simpa using hp
               exact ⟨e, hl2, hk2, fun i u hu => by rw [Nat.one_mul, add_plain]; exact hc2 i u hu⟩
    | j + 2, hp => simp at hp⟩⟩
def sx : ByteArray := ⟨#[120]⟩
def sy : ByteArray := ⟨#[121]⟩
def sk : ByteArray := ⟨#[107]⟩
def s_s : ByteArray := ⟨#[115]⟩
def st_ : ByteArray := ⟨#[116]⟩
def so_ : ByteArray := ⟨#[111]⟩
def rul1 : Rul := ⟨sk, 2, [sx], 0, 0, nStr, nStr, nStr⟩
def tab1 : Tab := ⟨s_s, st_, so_, [⟨sx, 2, false⟩, ⟨sy, 3, true⟩], [rul1]⟩
def sch1 : Sch := ⟨s_s, so_⟩
theorem check_one : checkE [sch1] [tab1] = 0 := by decide +kernel
theorem check_bare : checkE [] [tab1] = 63 := by decide +kernel
theorem tabsF_one : TabsF [tab1] := by
  refine ⟨by decide, fun t ht => ?_⟩
  obtain rfl : t = tab1 := by simpa using ht
  refine ⟨by decide, by decide, fun r hr => ?_⟩
  obtain rfl : r = rul1 := by simpa [tab1] using hr
  exact ⟨by decide, by decide, by decide, by decide⟩
theorem cell_in {X WF : World} {c : List Value} {t : TypeId} {g : Nat} (hg : g = X.heap.size) (hb : Below (X.alloc (.cells c.toArray t)).heap.size (X.alloc (.cells c.toArray t)) WF) : ∀ i u, c[i]? = some u → WF.cell? ⟨g, i, none⟩ = some u := fun i u h => by
  subst hg
  exact pw_cell_below hb (by rw [World.cell?_alloc_new]; simpa using h)
def oT (g : Nat) : List Value := [.string s_s, .string st_, .string so_, .slice (some ⟨g + 1 + 1 + 1, 0, none⟩) 2 2, .slice (some ⟨g + 1 + 1 + 1 + 1, 0, none⟩) 1 1]
def oR (g : Nat) : List Value := [.string sk, .int .i64 2, .slice (some ⟨g + 1, 0, none⟩) 1 1, .int .i64 0, .int .i64 0, .string nStr, .string nStr, .string nStr]
def oC : List Value := [.string sx, .int .i64 2, .bool false, .string sy, .int .i64 3, .bool true]
def oS : List Value := [.string s_s, .string so_]
def oO (g : Nat) : List Value := [.slice (some ⟨g + 1 + 1 + 1 + 1 + 1 + 1, 0, none⟩) 1 1, .slice (some ⟨g + 1 + 1 + 1 + 1 + 1 + 1 + 1, 0, none⟩) 1 1]
def w1_ (w : World) : World := (w.alloc (.cells (oO w.heap.size).toArray 26))
def w2_ (w : World) : World := (w1_ w).alloc (.cells ([.string sx] : List Value).toArray 9)
def w3_ (w : World) : World := (w2_ w).alloc (.cells (oR w.heap.size).toArray 57)
def w4_ (w : World) : World := (w3_ w).alloc (.cells oC.toArray 41)
def w5_ (w : World) : World := (w4_ w).alloc (.cells (oR w.heap.size).toArray 57)
def w6_ (w : World) : World := (w5_ w).alloc (.cells (oT w.heap.size).toArray 35)
def w7_ (w : World) : World := (w6_ w).alloc (.cells oS.toArray 63)
def w8_ (w : World) : World := (w7_ w).alloc (.cells (oT w.heap.size).toArray 35)
theorem sz_ (w : World) (o : Obj) : (w.alloc o).heap.size = w.heap.size + 1 := by simp
theorem one_reads (w : World) : kSch.C (w8_ w) (some ⟨w.heap.size + 1 + 1 + 1 + 1 + 1 + 1, 0, none⟩) 1 [sch1] ∧ kTab.C (w8_ w) (some ⟨w.heap.size + 1 + 1 + 1 + 1 + 1 + 1 + 1, 0, none⟩) 1 [tab1] := by
  have B0 : ∀ X : World, Below X.heap.size X X := fun X => Below.refl _ _
  have B : ∀ (X Y : World) (o : Obj), Below X.heap.size X Y → Below X.heap.size X (Y.alloc o) := fun X Y o h => below_alloc h o
  have s1 : (w1_ w).heap.size = w.heap.size + 1 := sz_ _ _
  have s2 : (w2_ w).heap.size = w.heap.size + 1 + 1 := by rw [w2_, sz_, s1]
  have s3 : (w3_ w).heap.size = w.heap.size + 1 + 1 + 1 := by rw [w3_, sz_, s2]
  have s4 : (w4_ w).heap.size = w.heap.size + 1 + 1 + 1 + 1 := by rw [w4_, sz_, s3]
  have s5 : (w5_ w).heap.size = w.heap.size + 1 + 1 + 1 + 1 + 1 := by rw [w5_, sz_, s4]
  have s6 : (w6_ w).heap.size = w.heap.size + 1 + 1 + 1 + 1 + 1 + 1 := by rw [w6_, sz_, s5]
  have s7 : (w7_ w).heap.size = w.heap.size + 1 + 1 + 1 + 1 + 1 + 1 + 1 := by rw [w7_, sz_, s6]
  have c1 := cell_in (X := w1_ w) (WF := w8_ w) s1.symm (B _ _ _ (B _ _ _ (B _ _ _ (B _ _ _ (B _ _ _ (B _ _ _ (B0 (w2_ w))))))))
  have c3 := cell_in (X := w3_ w) (WF := w8_ w) s3.symm (B _ _ _ (B _ _ _ (B _ _ _ (B _ _ _ (B0 (w4_ w))))))
  have c4 := cell_in (X := w4_ w) (WF := w8_ w) s4.symm (B _ _ _ (B _ _ _ (B _ _ _ (B0 (w5_ w)))))
  have c6 := cell_in (X := w6_ w) (WF := w8_ w) s6.symm (B _ _ _ (B0 (w7_ w)))
  have c7 := cell_in (X := w7_ w) (WF := w8_ w) s7.symm (B0 (w8_ w))
  refine ⟨C_one rfl (kSch_mk _ sch1) c6, C_one rfl ?_ c7⟩
  refine kTab_mk _ tab1 (c3 := 2) (c4 := 1) (by decide) ?_ (by decide) ?_
  · exact C_two (d := kCol) rfl (kCol_mk _ ⟨sx, 2, false⟩) (fun i u h => c3 i u (by match i, h with | 0, h => exact h | 1, h => exact h | 2, h => exact h | i + 3, h => simp at h)) rfl (kCol_mk _ ⟨sy, 3, true⟩)
      (fun i u h => by rw [show kCol.sz + i = i + 3 from Nat.add_comm 3 i]; exact c3 (i + 3) u h)
  · refine C_one rfl ?_ c4
    exact kRul_mk _ rul1 (c2 := 1) (by decide) (C_one (d := Kd.string) rfl rfl c1)
theorem one_below (w : World) : Below w.heap.size w (w8_ w) := below_alloc (below_alloc (below_alloc (below_alloc (below_alloc (below_alloc (below_alloc (below_alloc (Below.refl _ _) _) _) _) _) _) _) _) _
theorem one_cells (w : World) : (w8_ w).cell? ⟨w.heap.size, 0, none⟩ = some (.slice (some ⟨w.heap.size + 1 + 1 + 1 + 1 + 1 + 1, 0, none⟩) 1 1) ∧ (w8_ w).cell? ⟨w.heap.size, 1, none⟩ = some (.slice (some ⟨w.heap.size + 1 + 1 + 1 + 1 + 1 + 1 + 1, 0, none⟩) 1 1) := by
  have c0 := cell_in (X := w) (WF := w8_ w) (c := oO w.heap.size) (t := 26) rfl (below_alloc (below_alloc (below_alloc (below_alloc (below_alloc (below_alloc (below_alloc (Below.refl _ (w1_ w)) _) _) _) _) _) _) _)
  exact ⟨c0 0 _ rfl, c0 1 _ rfl⟩
set_option maxHeartbeats 2000000 in
theorem one.calls (w : World) : Calls Try.prog 40 #[] w fun e w' => ∃ As cs At ct, e = .returned (.agg #[.slice As 1 cs, .slice At 1 ct]) ∧ 1 ≤ cs ∧ 1 ≤ ct ∧ kSch.C w' As 1 [sch1] ∧ kTab.C w' At 1 [tab1] ∧ Below w.heap.size w w' := by
  have HR := Aside0.mk (one_reads w)
  have HB := Aside0.mk (one_below w)
  have HC := Aside0.mk (one_cells w)
  go_enter Try.func40, Try.ntmps40
  go_wp2
  refine bodyPost_ret (v := .agg #[.slice (some ⟨w.heap.size + 1 + 1 + 1 + 1 + 1 + 1, 0, none⟩) 1 1, .slice (some ⟨w.heap.size + 1 + 1 + 1 + 1 + 1 + 1 + 1, 0, none⟩) 1 1]) (by simp [results, Try.results40, go_sem]) rfl ?_
  exact ⟨_, _, _, _, rfl, Nat.le_refl _, Nat.le_refl _, HR.out.1, HR.out.2, HB.out⟩
end Go.Proofs.Ytmmiehckgkadgaa.O
namespace Go.Proofs.Ytmmiehckgkadgaa.O
set_option linter.unusedVariables false
set_option linter.unusedSimpArgs false
open Go.RowKit Go.Proofs.YtmmiehckgkadgaaW.PrintWords
set_option maxHeartbeats 2000000 in
theorem checks.calls (w : World) : Calls Try.prog 12 #[] w fun e w' => e = .returned (.bool true) ∧ Below w.heap.size w w' := by
  have HO := Aside0.mk (one.calls w)
  go_enter Try.func12, Try.ntmps12
  go_wp2_with fail
  refine HO.out.mono ?_
  rintro e w1 ⟨As, cs, At, ct, rfl, l1, l2, hs, ht, hb1⟩
  have HL := Aside0.mk (And.intro l1 l2)
  have HB1 := Aside0.mk hb1
  have HK1 := Aside0.mk (fun W (hW : Below w1.heap.size w1 W) => Check.calls (As := As) (cs := cs) (At := At) (ct := ct) [sch1] [tab1] W (Kd.C_below hs hW) (by decide) (Kd.C_below ht hW) tabsF_one)
  have HK2 := Aside0.mk (fun W (hW : Below w1.heap.size w1 W) => Check.calls (As := none) (cs := 0) (At := At) (ct := ct) [] [tab1] W (Kd.C_nil kSch W) (by decide) (Kd.C_below ht hW) tabsF_one)
  rw [check_one] at HK1
  rw [check_bare] at HK2
  have HX := Aside0.mk (BoxO_new w1 As 1 cs At 1 ct)
  have HW1 := Aside0.mk (below_alloc (Below.refl w1.heap.size w1) (objBox As 1 cs At 1 ct))
  clear l1 l2 hs ht hb1
  go_wp2_with fail
  refine (HK1.out _ HW1.out).mono ?_
  rintro e w2 ⟨rfl, hb2⟩
  have HW2 := Aside0.mk (HW1.out.trans (hb2.mono HW1.out.size))
  have HX2 := Aside0.mk (HX.out.below hb2)
  obtain ⟨o0, o1⟩ := HX2.out
  clear hb2
  go_wp2_with fail
  refine (HK2.out _ HW2.out).mono ?_
  rintro e w3 ⟨rfl, hb3⟩
  have HW3 := Aside0.mk (HW2.out.trans (hb3.mono HW2.out.size))
  clear hb3
  go_wp2
  go_ret
  exact ⟨rfl, HB1.out.trans (HW3.out.mono HB1.out.size)⟩
set_option maxHeartbeats 4000000 in
theorem law_ObjectsChecks.calls {As At : Option Addr} {cs ct : Nat} (ss : List Sch) (ts : List Tab) (w : World) (hs : kSch.C w As ss.length ss) (hsl : ss.length ≤ 8796093022208) (ht : kTab.C w At ts.length ts) (hF : TabsF ts) :
    Calls Try.prog 4 #[.agg #[.slice As ss.length cs, .slice At ts.length ct]] w fun e w' => e = .returned (.bool true) ∧ Below w.heap.size w w' := by
  have HX := Aside0.mk (BoxO_new w As ss.length cs At ts.length ct)
  have HW : Aside0 (Below w.heap.size w (w.alloc (objBox As ss.length cs At ts.length ct))) := ⟨below_alloc (Below.refl _ _) _⟩
  have HLG := Aside0.mk (large.calls (As := As) (cs := cs) (At := At) (ct := ct) ss ts (w.alloc (objBox As ss.length cs At ts.length ct)) hsl (Kd.C_below ht HW.out) hF)
  have HK1 := Aside0.mk (fun W (hW : Below w.heap.size w W) => Check.calls (As := As) (cs := cs) (At := At) (ct := ct) ss ts W (Kd.C_below hs hW) (by omega) (Kd.C_below ht hW) hF)
  have HK2 := Aside0.mk (fun W (hW : Below w.heap.size w W) => rRightAll.calls (As := As) (cs := cs) (At := At) (ct := ct) ss ts W (Kd.C_below hs hW) hsl (Kd.C_below ht hW) hF)
  have HCK := Aside0.mk (fun W => checks.calls W)
  clear hs ht hF
  go_enter Try.func4, Try.ntmps4
  go_wp2_with fail
  refine HLG.out.mono ?_
  rintro e w1 ⟨b, rfl, _, hb1⟩
  have HW1 := Aside0.mk (HW.out.trans (hb1.mono HW.out.size))
  have HX1 := Aside0.mk (HX.out.below hb1)
  clear hb1
  cases b with
  | true =>
    go_wp2
    go_ret
    exact ⟨rfl, HW1.out⟩
  | false =>
  obtain ⟨o0, o1⟩ := HX1.out
  cases hc : checkB ss ts with
  | true =>
    rw [hc] at HK2
    rw [checkE_yes hc] at HK1
    clear hc
    go_wp2_with fail
    refine wp_region_held_drew (S := (fun w' => w'.cell? ⟨w.heap.size, 0, none⟩ = some (.slice As ss.length cs) ∧ w'.cell? ⟨w.heap.size, 1, none⟩ = some (.slice At ts.length ct) ∧ Below w.heap.size w w')) (by kernel_rfl) ⟨o0, o1, pw_below_drewN HW1.out 1⟩ (fun hHeld0 => ?_)
    refine wpAnyH_ready (rs := [0]) (by kernel_rfl) (by simp) ?_
    refine AllReadyH.cons (o := { dst := some 5, op := _, type := _, pos := _, after := _, guard := _ }) rfl (fun K hK => ?_) AllReadyH.nil
    go_simp
    (go_at_call 12; refine (HCK.out _).mono ?_; rintro e w' ⟨rfl, hb⟩)
    refine hK.out _ _ (keep2b hHeld0 hb) (fun hHeld1 => ?_)
    clear hK K hHeld0
    try simp only [Act.put, List.setIfInBounds_toArray, List.set_cons_zero, List.set_cons_succ]
    refine wpAnyH_take (i := 1) (oi := { dst := some 6, op := _, type := _, pos := _, after := _, guard := _ }) (v := ?v1x13) rfl (by kernel_rfl) (by kernel_rfl) (by kernel_rfl) (fun _ _ _ h => h) (Or.inl ⟨by kernel_rfl, ?hy1x13⟩) hHeld1 ?rest1x13
    case hy1x13 => (intro w hSw; (try dsimp only at hSw); go_simp; (first | done | with_reducible rfl))
    try simp only [Act.put, List.setIfInBounds_toArray, List.set_cons_zero, List.set_cons_succ]
    refine wpAnyH_take (i := 2) (oi := { dst := some 7, op := _, type := _, pos := _, after := _, guard := _ }) (v := ?v2x13) rfl (by kernel_rfl) (by kernel_rfl) (by kernel_rfl) (fun _ _ _ h => h) (Or.inl ⟨by kernel_rfl, ?hy2x13⟩) hHeld1 ?rest2x13
    case hy2x13 => (intro w hSw; (try dsimp only at hSw); go_simp; (first | done | with_reducible rfl))
    try simp only [Act.put, List.setIfInBounds_toArray, List.set_cons_zero, List.set_cons_succ]
    refine wpAnyH_take (i := 5) (oi := { dst := some 10, op := _, type := _, pos := _, after := _, guard := _ }) (v := ?v5x13) rfl (by kernel_rfl) (by kernel_rfl) (by kernel_rfl) (fun _ _ _ h => h) (Or.inl ⟨by kernel_rfl, ?hy5x13⟩) hHeld1 ?rest5x13
    case hy5x13 => (intro w hSw; (try dsimp only at hSw); go_simp; (first | done | with_reducible rfl))
    try simp only [Act.put, List.setIfInBounds_toArray, List.set_cons_zero, List.set_cons_succ]
    refine wpAnyH_ready (rs := [3]) (by kernel_rfl) (by simp) ?_
    refine AllReadyH.cons (o := { dst := some 8, op := _, type := _, pos := _, after := _, guard := _ }) rfl (fun K hK => ?_) AllReadyH.nil
    go_simp
    (go_at_call 13; refine (HK1.out _ (hHeld1.2.2)).mono ?_; rintro e w' ⟨rfl, hb⟩)
    refine hK.out _ _ (keep2b hHeld1 hb) (fun hHeld2 => ?_)
    clear hK K hHeld1
    try simp only [Act.put, List.setIfInBounds_toArray, List.set_cons_zero, List.set_cons_succ]
    refine wpAnyH_take (i := 4) (oi := { dst := some 9, op := _, type := _, pos := _, after := _, guard := _ }) (v := ?v4x13) rfl (by kernel_rfl) (by kernel_rfl) (by kernel_rfl) (fun _ _ _ h => h) (Or.inl ⟨by kernel_rfl, ?hy4x13⟩) hHeld2 ?rest4x13
    case hy4x13 => (intro w hSw; (try dsimp only at hSw); go_simp; (first | done | with_reducible rfl))
    try simp only [Act.put, List.setIfInBounds_toArray, List.set_cons_zero, List.set_cons_succ]
    refine wpAnyH_ready (rs := [6]) (by kernel_rfl) (by simp) ?_
    refine AllReadyH.cons (o := { dst := some 11, op := _, type := _, pos := _, after := _, guard := _ }) rfl (fun K hK => ?_) AllReadyH.nil
    go_simp
    (go_at_call 14; refine (HK2.out _ (hHeld2.2.2)).mono ?_; rintro e w' ⟨rfl, hb⟩)
    refine hK.out _ _ (keep2b hHeld2 hb) (fun hHeld3 => ?_)
    clear hK K hHeld2
    try simp only [Act.put, List.setIfInBounds_toArray, List.set_cons_zero, List.set_cons_succ]
    refine wpAnyH_take (i := 7) (oi := { dst := some 12, op := _, type := _, pos := _, after := _, guard := _ }) (v := ?v7x13) rfl (by kernel_rfl) (by kernel_rfl) (by kernel_rfl) (fun _ _ _ h => h) (Or.inl ⟨by kernel_rfl, ?hy7x13⟩) hHeld3 ?rest7x13
    case hy7x13 => (intro w hSw; (try dsimp only at hSw); go_simp; (first | done | with_reducible rfl))
    try simp only [Act.put, List.setIfInBounds_toArray, List.set_cons_zero, List.set_cons_succ]
    refine wpAnyH_take (i := 8) (oi := { dst := some 13, op := _, type := _, pos := _, after := _, guard := _ }) (v := ?v8x13) rfl (by kernel_rfl) (by kernel_rfl) (by kernel_rfl) (fun _ _ _ h => h) (Or.inl ⟨by kernel_rfl, ?hy8x13⟩) hHeld3 ?rest8x13
    case hy8x13 => (intro w hSw; (try dsimp only at hSw); go_simp; (first | done | with_reducible rfl))
    try simp only [Act.put, List.setIfInBounds_toArray, List.set_cons_zero, List.set_cons_succ]
    refine wpAnyH_take (i := 9) (oi := { dst := some 14, op := _, type := _, pos := _, after := _, guard := _ }) (v := ?v9x13) rfl (by kernel_rfl) (by kernel_rfl) (by kernel_rfl) (fun _ _ _ h => h) (Or.inl ⟨by kernel_rfl, ?hy9x13⟩) hHeld3 ?rest9x13
    case hy9x13 => (intro w hSw; (try dsimp only at hSw); go_simp; (first | done | with_reducible rfl))
    try simp only [Act.put, List.setIfInBounds_toArray, List.set_cons_zero, List.set_cons_succ]
    refine wpAnyH_take (i := 10) (oi := { dst := some 15, op := _, type := _, pos := _, after := _, guard := _ }) (v := ?v10x13) rfl (by kernel_rfl) (by kernel_rfl) (by kernel_rfl) (fun _ _ _ h => h) (Or.inl ⟨by kernel_rfl, ?hy10x13⟩) hHeld3 ?rest10x13
    case hy10x13 => (intro w hSw; (try dsimp only at hSw); go_simp; (first | done | with_reducible rfl))
    try simp only [Act.put, List.setIfInBounds_toArray, List.set_cons_zero, List.set_cons_succ]
    refine wpAnyH_ready (rs := [11]) (by kernel_rfl) (by simp) ?_
    refine AllReadyH.cons (o := { dst := some 16, op := _, type := _, pos := _, after := _, guard := _ }) rfl (fun K hK => ?_) AllReadyH.nil
    go_simp
    (go_at_call 13; refine (HK1.out _ (hHeld3.2.2)).mono ?_; rintro e w' ⟨rfl, hb⟩)
    refine hK.out _ _ (keep2b hHeld3 hb) (fun hHeld4 => ?_)
    clear hK K hHeld3
    try simp only [Act.put, List.setIfInBounds_toArray, List.set_cons_zero, List.set_cons_succ]
    refine wpAnyH_take (i := 12) (oi := { dst := some 17, op := _, type := _, pos := _, after := _, guard := _ }) (v := ?v12x13) rfl (by kernel_rfl) (by kernel_rfl) (by kernel_rfl) (fun _ _ _ h => h) (Or.inl ⟨by kernel_rfl, ?hy12x13⟩) hHeld4 ?rest12x13
    case hy12x13 => (intro w hSw; (try dsimp only at hSw); go_simp; (first | done | with_reducible rfl))
    try simp only [Act.put, List.setIfInBounds_toArray, List.set_cons_zero, List.set_cons_succ]
    refine wpAnyH_take (i := 13) (oi := { dst := some 18, op := _, type := _, pos := _, after := _, guard := _ }) (v := ?v13x13) rfl (by kernel_rfl) (by kernel_rfl) (by kernel_rfl) (fun _ _ _ h => h) (Or.inl ⟨by kernel_rfl, ?hy13x13⟩) hHeld4 ?rest13x13
    case hy13x13 => (intro w hSw; (try dsimp only at hSw); go_simp; (first | done | with_reducible rfl))
    try simp only [Act.put, List.setIfInBounds_toArray, List.set_cons_zero, List.set_cons_succ]
    refine wpAnyH_take (i := 14) (oi := { dst := some 19, op := _, type := _, pos := _, after := _, guard := _ }) (v := undef) rfl (by kernel_rfl) (by kernel_rfl) (by kernel_rfl) (fun _ _ _ h => h) (Or.inr ⟨by kernel_rfl, rfl⟩) hHeld4 ?_
    try simp only [Act.put, List.setIfInBounds_toArray, List.set_cons_zero, List.set_cons_succ]
    refine wpAnyH_take (i := 15) (oi := { dst := some 20, op := _, type := _, pos := _, after := _, guard := _ }) (v := undef) rfl (by kernel_rfl) (by kernel_rfl) (by kernel_rfl) (fun _ _ _ h => h) (Or.inr ⟨by kernel_rfl, rfl⟩) hHeld4 ?_
    try simp only [Act.put, List.setIfInBounds_toArray, List.set_cons_zero, List.set_cons_succ]
    refine wpAnyH_take (i := 16) (oi := { dst := some 21, op := _, type := _, pos := _, after := _, guard := _ }) (v := undef) rfl (by kernel_rfl) (by kernel_rfl) (by kernel_rfl) (fun _ _ _ h => h) (Or.inr ⟨by kernel_rfl, rfl⟩) hHeld4 ?_
    try simp only [Act.put, List.setIfInBounds_toArray, List.set_cons_zero, List.set_cons_succ]
    refine wpAnyH_take (i := 17) (oi := { dst := some 22, op := _, type := _, pos := _, after := _, guard := _ }) (v := ?v17x13) rfl (by kernel_rfl) (by kernel_rfl) (by kernel_rfl) (fun _ _ _ h => h) (Or.inl ⟨by kernel_rfl, ?hy17x13⟩) hHeld4 ?rest17x13
    case hy17x13 => (intro w hSw; (try dsimp only at hSw); go_simp; (first | done | with_reducible rfl))
    try simp only [Act.put, List.setIfInBounds_toArray, List.set_cons_zero, List.set_cons_succ]
    refine wpAnyH_take (i := 18) (oi := { dst := some 23, op := _, type := _, pos := _, after := _, guard := _ }) (v := ?v18x13) rfl (by kernel_rfl) (by kernel_rfl) (by kernel_rfl) (fun _ _ _ h => h) (Or.inl ⟨by kernel_rfl, ?hy18x13⟩) hHeld4 ?rest18x13
    case hy18x13 => (intro w hSw; (try dsimp only at hSw); go_simp; (first | done | with_reducible rfl))
    try simp only [Act.put, List.setIfInBounds_toArray, List.set_cons_zero, List.set_cons_succ]
    refine wpAnyH_take (i := 19) (oi := { dst := some 2, op := _, type := _, pos := _, after := _, guard := _ }) (v := ?v19x13) rfl (by kernel_rfl) (by kernel_rfl) (by kernel_rfl) (fun _ _ _ h => h) (Or.inl ⟨by kernel_rfl, ?hy19x13⟩) hHeld4 ?rest19x13
    case hy19x13 => (intro w hSw; (try dsimp only at hSw); go_simp; (first | done | with_reducible rfl))
    try simp only [Act.put, List.setIfInBounds_toArray, List.set_cons_zero, List.set_cons_succ]
    refine wpAnyH_done (by kernel_rfl) ?_ _
    have hH := hHeld4
    clear hHeld4
    have HB := Aside0.mk hH.2.2
    clear hH
    go_wp2
    go_ret
    exact ⟨rfl, HB.out⟩
  | false =>
    rw [hc] at HK2
    rw [checkE_no hc] at HK1
    clear hc
    go_wp2_with fail
    refine wp_region_held_drew (S := (fun w' => w'.cell? ⟨w.heap.size, 0, none⟩ = some (.slice As ss.length cs) ∧ w'.cell? ⟨w.heap.size, 1, none⟩ = some (.slice At ts.length ct) ∧ Below w.heap.size w w')) (by kernel_rfl) ⟨o0, o1, pw_below_drewN HW1.out 1⟩ (fun hHeld0 => ?_)
    refine wpAnyH_ready (rs := [0]) (by kernel_rfl) (by simp) ?_
    refine AllReadyH.cons (o := { dst := some 5, op := _, type := _, pos := _, after := _, guard := _ }) rfl (fun K hK => ?_) AllReadyH.nil
    go_simp
    (go_at_call 12; refine (HCK.out _).mono ?_; rintro e w' ⟨rfl, hb⟩)
    refine hK.out _ _ (keep2b hHeld0 hb) (fun hHeld1 => ?_)
    clear hK K hHeld0
    try simp only [Act.put, List.setIfInBounds_toArray, List.set_cons_zero, List.set_cons_succ]
    refine wpAnyH_take (i := 1) (oi := { dst := some 6, op := _, type := _, pos := _, after := _, guard := _ }) (v := ?v1x14) rfl (by kernel_rfl) (by kernel_rfl) (by kernel_rfl) (fun _ _ _ h => h) (Or.inl ⟨by kernel_rfl, ?hy1x14⟩) hHeld1 ?rest1x14
    case hy1x14 => (intro w hSw; (try dsimp only at hSw); go_simp; (first | done | with_reducible rfl))
    try simp only [Act.put, List.setIfInBounds_toArray, List.set_cons_zero, List.set_cons_succ]
    refine wpAnyH_take (i := 2) (oi := { dst := some 7, op := _, type := _, pos := _, after := _, guard := _ }) (v := ?v2x14) rfl (by kernel_rfl) (by kernel_rfl) (by kernel_rfl) (fun _ _ _ h => h) (Or.inl ⟨by kernel_rfl, ?hy2x14⟩) hHeld1 ?rest2x14
    case hy2x14 => (intro w hSw; (try dsimp only at hSw); go_simp; (first | done | with_reducible rfl))
    try simp only [Act.put, List.setIfInBounds_toArray, List.set_cons_zero, List.set_cons_succ]
    refine wpAnyH_take (i := 5) (oi := { dst := some 10, op := _, type := _, pos := _, after := _, guard := _ }) (v := ?v5x14) rfl (by kernel_rfl) (by kernel_rfl) (by kernel_rfl) (fun _ _ _ h => h) (Or.inl ⟨by kernel_rfl, ?hy5x14⟩) hHeld1 ?rest5x14
    case hy5x14 => (intro w hSw; (try dsimp only at hSw); go_simp; (first | done | with_reducible rfl))
    try simp only [Act.put, List.setIfInBounds_toArray, List.set_cons_zero, List.set_cons_succ]
    refine wpAnyH_ready (rs := [3]) (by kernel_rfl) (by simp) ?_
    refine AllReadyH.cons (o := { dst := some 8, op := _, type := _, pos := _, after := _, guard := _ }) rfl (fun K hK => ?_) AllReadyH.nil
    go_simp
    (go_at_call 13; refine (HK1.out _ (hHeld1.2.2)).mono ?_; rintro e w' ⟨rfl, hb⟩)
    refine hK.out _ _ (keep2b hHeld1 hb) (fun hHeld2 => ?_)
    clear hK K hHeld1
    try simp only [Act.put, List.setIfInBounds_toArray, List.set_cons_zero, List.set_cons_succ]
    refine wpAnyH_take (i := 4) (oi := { dst := some 9, op := _, type := _, pos := _, after := _, guard := _ }) (v := ?v4x14) rfl (by kernel_rfl) (by kernel_rfl) (by kernel_rfl) (fun _ _ _ h => h) (Or.inl ⟨by kernel_rfl, ?hy4x14⟩) hHeld2 ?rest4x14
    case hy4x14 => (intro w hSw; (try dsimp only at hSw); go_simp; (first | done | with_reducible rfl))
    try simp only [Act.put, List.setIfInBounds_toArray, List.set_cons_zero, List.set_cons_succ]
    refine wpAnyH_ready (rs := [6]) (by kernel_rfl) (by simp) ?_
    refine AllReadyH.cons (o := { dst := some 11, op := _, type := _, pos := _, after := _, guard := _ }) rfl (fun K hK => ?_) AllReadyH.nil
    go_simp
    (go_at_call 14; refine (HK2.out _ (hHeld2.2.2)).mono ?_; rintro e w' ⟨rfl, hb⟩)
    refine hK.out _ _ (keep2b hHeld2 hb) (fun hHeld3 => ?_)
    clear hK K hHeld2
    try simp only [Act.put, List.setIfInBounds_toArray, List.set_cons_zero, List.set_cons_succ]
    refine wpAnyH_take (i := 7) (oi := { dst := some 12, op := _, type := _, pos := _, after := _, guard := _ }) (v := ?v7x14) rfl (by kernel_rfl) (by kernel_rfl) (by kernel_rfl) (fun _ _ _ h => h) (Or.inl ⟨by kernel_rfl, ?hy7x14⟩) hHeld3 ?rest7x14
    case hy7x14 => (intro w hSw; (try dsimp only at hSw); go_simp; (first | done | with_reducible rfl))
    try simp only [Act.put, List.setIfInBounds_toArray, List.set_cons_zero, List.set_cons_succ]
    refine wpAnyH_take (i := 8) (oi := { dst := some 13, op := _, type := _, pos := _, after := _, guard := _ }) (v := ?v8x14) rfl (by kernel_rfl) (by kernel_rfl) (by kernel_rfl) (fun _ _ _ h => h) (Or.inl ⟨by kernel_rfl, ?hy8x14⟩) hHeld3 ?rest8x14
    case hy8x14 => (intro w hSw; (try dsimp only at hSw); go_simp; (first | done | with_reducible rfl))
    try simp only [Act.put, List.setIfInBounds_toArray, List.set_cons_zero, List.set_cons_succ]
    refine wpAnyH_take (i := 9) (oi := { dst := some 14, op := _, type := _, pos := _, after := _, guard := _ }) (v := ?v9x14) rfl (by kernel_rfl) (by kernel_rfl) (by kernel_rfl) (fun _ _ _ h => h) (Or.inl ⟨by kernel_rfl, ?hy9x14⟩) hHeld3 ?rest9x14
    case hy9x14 => (intro w hSw; (try dsimp only at hSw); go_simp; (first | done | with_reducible rfl))
    try simp only [Act.put, List.setIfInBounds_toArray, List.set_cons_zero, List.set_cons_succ]
    refine wpAnyH_take (i := 10) (oi := { dst := some 15, op := _, type := _, pos := _, after := _, guard := _ }) (v := ?v10x14) rfl (by kernel_rfl) (by kernel_rfl) (by kernel_rfl) (fun _ _ _ h => h) (Or.inl ⟨by kernel_rfl, ?hy10x14⟩) hHeld3 ?rest10x14
    case hy10x14 => (intro w hSw; (try dsimp only at hSw); go_simp; (first | done | with_reducible rfl))
    try simp only [Act.put, List.setIfInBounds_toArray, List.set_cons_zero, List.set_cons_succ]
    refine wpAnyH_ready (rs := [11]) (by kernel_rfl) (by simp) ?_
    refine AllReadyH.cons (o := { dst := some 16, op := _, type := _, pos := _, after := _, guard := _ }) rfl (fun K hK => ?_) AllReadyH.nil
    go_simp
    (go_at_call 13; refine (HK1.out _ (hHeld3.2.2)).mono ?_; rintro e w' ⟨rfl, hb⟩)
    refine hK.out _ _ (keep2b hHeld3 hb) (fun hHeld4 => ?_)
    clear hK K hHeld3
    try simp only [Act.put, List.setIfInBounds_toArray, List.set_cons_zero, List.set_cons_succ]
    refine wpAnyH_take (i := 12) (oi := { dst := some 17, op := _, type := _, pos := _, after := _, guard := _ }) (v := ?v12x14) rfl (by kernel_rfl) (by kernel_rfl) (by kernel_rfl) (fun _ _ _ h => h) (Or.inl ⟨by kernel_rfl, ?hy12x14⟩) hHeld4 ?rest12x14
    case hy12x14 => (intro w hSw; (try dsimp only at hSw); go_simp; (first | done | with_reducible rfl))
    try simp only [Act.put, List.setIfInBounds_toArray, List.set_cons_zero, List.set_cons_succ]
    refine wpAnyH_take (i := 13) (oi := { dst := some 18, op := _, type := _, pos := _, after := _, guard := _ }) (v := ?v13x14) rfl (by kernel_rfl) (by kernel_rfl) (by kernel_rfl) (fun _ _ _ h => h) (Or.inl ⟨by kernel_rfl, ?hy13x14⟩) hHeld4 ?rest13x14
    case hy13x14 => (intro w hSw; (try dsimp only at hSw); go_simp; (first | done | with_reducible rfl))
    try simp only [Act.put, List.setIfInBounds_toArray, List.set_cons_zero, List.set_cons_succ]
    refine wpAnyH_take (i := 14) (oi := { dst := some 19, op := _, type := _, pos := _, after := _, guard := _ }) (v := ?v14x14) rfl (by kernel_rfl) (by kernel_rfl) (by kernel_rfl) (fun _ _ _ h => h) (Or.inl ⟨by kernel_rfl, ?hy14x14⟩) hHeld4 ?rest14x14
    case hy14x14 => (intro w hSw; (try dsimp only at hSw); go_simp; (first | done | with_reducible rfl))
    try simp only [Act.put, List.setIfInBounds_toArray, List.set_cons_zero, List.set_cons_succ]
    refine wpAnyH_ready (rs := [15]) (by kernel_rfl) (by simp) ?_
    refine AllReadyH.cons (o := { dst := some 20, op := _, type := _, pos := _, after := _, guard := _ }) rfl (fun K hK => ?_) AllReadyH.nil
    go_simp
    (go_at_call 13; refine (HK1.out _ (hHeld4.2.2)).mono ?_; rintro e w' ⟨rfl, hb⟩)
    refine hK.out _ _ (keep2b hHeld4 hb) (fun hHeld5 => ?_)
    clear hK K hHeld4
    try simp only [Act.put, List.setIfInBounds_toArray, List.set_cons_zero, List.set_cons_succ]
    refine wpAnyH_take (i := 16) (oi := { dst := some 21, op := _, type := _, pos := _, after := _, guard := _ }) (v := ?v16x14) rfl (by kernel_rfl) (by kernel_rfl) (by kernel_rfl) (fun _ _ _ h => h) (Or.inl ⟨by kernel_rfl, ?hy16x14⟩) hHeld5 ?rest16x14
    case hy16x14 => (intro w hSw; (try dsimp only at hSw); go_simp; (first | done | with_reducible rfl))
    try simp only [Act.put, List.setIfInBounds_toArray, List.set_cons_zero, List.set_cons_succ]
    refine wpAnyH_take (i := 17) (oi := { dst := some 22, op := _, type := _, pos := _, after := _, guard := _ }) (v := ?v17x14) rfl (by kernel_rfl) (by kernel_rfl) (by kernel_rfl) (fun _ _ _ h => h) (Or.inl ⟨by kernel_rfl, ?hy17x14⟩) hHeld5 ?rest17x14
    case hy17x14 => (intro w hSw; (try dsimp only at hSw); go_simp; (first | done | with_reducible rfl))
    try simp only [Act.put, List.setIfInBounds_toArray, List.set_cons_zero, List.set_cons_succ]
    refine wpAnyH_take (i := 18) (oi := { dst := some 23, op := _, type := _, pos := _, after := _, guard := _ }) (v := ?v18x14) rfl (by kernel_rfl) (by kernel_rfl) (by kernel_rfl) (fun _ _ _ h => h) (Or.inl ⟨by kernel_rfl, ?hy18x14⟩) hHeld5 ?rest18x14
    case hy18x14 => (intro w hSw; (try dsimp only at hSw); go_simp; (first | done | with_reducible rfl))
    try simp only [Act.put, List.setIfInBounds_toArray, List.set_cons_zero, List.set_cons_succ]
    refine wpAnyH_take (i := 19) (oi := { dst := some 2, op := _, type := _, pos := _, after := _, guard := _ }) (v := ?v19x14) rfl (by kernel_rfl) (by kernel_rfl) (by kernel_rfl) (fun _ _ _ h => h) (Or.inl ⟨by kernel_rfl, ?hy19x14⟩) hHeld5 ?rest19x14
    case hy19x14 => (intro w hSw; (try dsimp only at hSw); go_simp; (first | done | with_reducible rfl))
    try simp only [Act.put, List.setIfInBounds_toArray, List.set_cons_zero, List.set_cons_succ]
    refine wpAnyH_done (by kernel_rfl) ?_ _
    have hH := hHeld5
    clear hHeld5
    have HB := Aside0.mk hH.2.2
    clear hH
    go_wp2
    go_ret
    exact ⟨rfl, HB.out⟩
end Go.Proofs.Ytmmiehckgkadgaa.O
namespace Go.Proofs.Ytmmiehckgkadgaa.O
set_option linter.unusedVariables false
set_option linter.unusedSimpArgs false
open Go.RowKit Go.Proofs.YtmmiehckgkadgaaW.PrintWords
abbrev Res := Int × List Sch × List Tab
def Out (w : World) (r : Res) (e : Ending) (w' : World) : Prop := ∃ vs vt, e = .returned (.tuple #[.agg #[vs, vt], .int .i64 r.1]) ∧ kSch.R 63 w' w.heap.size (fun _ => True) vs r.2.1 ∧ kTab.R 35 w' w.heap.size (fun _ => True) vt r.2.2 ∧ Below w.heap.size w w'
def Did (B : Nat) (W : World) (g : Nat) (r : Res) (e : Ending) (w' : World) : Prop := e = .returned (.int .i64 r.1) ∧ Below B W w' ∧ (r.1 = 0 → ∃ vs vt, w'.heap[g]? = some (.cells #[vs, vt] 26 (0, 0)) ∧ kSch.R 63 w' B (fun _ => True) vs r.2.1 ∧ kTab.R 35 w' B (fun _ => True) vt r.2.2)
def Mine (B : Nat) (g : Nat) (Bs Bt : Option Addr) (ds dt : Nat) (ss : List Sch) (ts : List Tab) (W : World) : Prop := B ≤ g ∧ B ≤ W.heap.size ∧ W.heap[g]? = some (.cells #[.slice Bs ss.length ds, .slice Bt ts.length dt] 26 (0, 0)) ∧ kSch.R 63 W B (fun _ => True) (.slice Bs ss.length ds) ss ∧ Kd.S kTab 35 W B (fun _ => True) (.slice Bt ts.length dt) ts
def chg (ss : List Sch) (ts : List Tab) (r : Res) : Res := if checkB ss ts = true then (if r.1 = 0 then r else (r.1, [], [])) else (63, [], [])
set_option maxRecDepth 20000 in
set_option maxHeartbeats 2000000 in
theorem changed.calls {As At : Option Addr} {cs ct : Nat} (f : Nat) (caps : Array Value) (ss : List Sch) (ts : List Tab) (r : Res) (w : World) (hs : kSch.C w As ss.length ss) (hsl : ss.length ≤ 3000) (ht : kTab.C w At ts.length ts) (hF : TabsF ts) (hB : TabsB ts)
    (hent : ∀ (xs : Array Value) (W : World), (callFunc f xs).run Try.prog W = .ok (.enter f xs) W) (hdo : checkB ss ts = true → ∀ B g Bs ds Bt dt W, Below w.heap.size w W → w.heap.size ≤ B → Mine B g Bs Bt ds dt ss ts W → Calls Try.prog f (#[.pointer (some ⟨g, 0, none⟩)] ++ caps) W (Did B W g r)) :
    Calls Try.prog 70 #[.agg #[.slice As ss.length cs, .slice At ts.length ct], .func (.func f) #[] caps] w (Out w (chg ss ts r)) := by
  have HCK := Aside0.mk (fun W (hW : Below w.heap.size w W) => Check.calls (As := As) (cs := cs) (At := At) (ct := ct) ss ts W (Kd.C_below hs hW) (by omega) (Kd.C_below ht hW) hF)
  have HOW := Aside0.mk (fun W (hW : Below w.heap.size w W) => own.calls (As := As) (cs := cs) (At := At) (ct := ct) ss ts W (Kd.C_below hs hW) hsl (Kd.C_below ht hW) hB)
  have HB2 := Aside0.mk (boxes2 w (.cells #[.slice As ss.length cs, .slice At ts.length ct] 26) (.cells #[.slice none 0 0, .slice none 0 0] 26))
  have HDO := Aside0.mk hdo
  generalize hq : chg ss ts r = q
  have HQ := Aside0.mk hq
  clear hs ht hF hB hq hdo
  cases hck : checkB ss ts with
  | false =>
    have HE : Aside0 (checkE ss ts = 63) := ⟨by unfold checkE; rw [hck]; rfl⟩
    have HQ2 : Aside0 (q = (63, [], [])) := ⟨by rw [← HQ.out]; unfold chg; rw [hck]; rfl⟩
    clear hck HQ HDO HOW
    go_enter Try.func70, Try.ntmps70
    go_wp2_with fail
    refine (HCK.out _ HB2.out.1).mono ?_
    rintro e w1 ⟨rfl, hb1⟩
    rw [HE.out]
    have hK1 := blk_below HB2.out.2.1 hb1
    have hZ1 := blk_below HB2.out.2.2 hb1
    have z0 : w1.cell? ⟨w.heap.size + 1, 0, none⟩ = some (.slice none 0 0) := (blk_cell hZ1 0).trans rfl
    have z1 : w1.cell? ⟨w.heap.size + 1, 1, none⟩ = some (.slice none 0 0) := (blk_cell hZ1 1).trans rfl
    have f0 := blk_frozen hZ1 0
    have f1 := blk_frozen hZ1 1
    have HB1 := Aside0.mk (set2_below (g := w.heap.size + 1) (below_step HB2.out.1 hb1) (Nat.le_succ _) (.slice none 0 0) (.slice none 0 0))
    clear hb1 hK1 hZ1 HB2 HCK
    go_wp2
    refine bodyPost_ret (v := .tuple #[.agg #[.slice none 0 0, .slice none 0 0], .int .i64 63]) (by simp [results, Try.results70, go_sem, *]) rfl ?_
    rw [HQ2.out]
    exact ⟨_, _, rfl, Kd.R_nil _ _ _ _ _, Kd.R_nil _ _ _ _ _, HB1.out⟩
  | true =>
    have HE : Aside0 (checkE ss ts = 0) := ⟨by unfold checkE; rw [hck]; rfl⟩
    have HD := Aside0.mk (HDO.out hck)
    clear hck HDO
    go_enter Try.func70, Try.ntmps70
    go_wp2_with fail
    refine (HCK.out _ HB2.out.1).mono ?_
    rintro e w1 ⟨rfl, hb1⟩
    rw [HE.out]
    have hK1 := blk_below HB2.out.2.1 hb1
    have hZ1 := blk_below HB2.out.2.2 hb1
    have c0 : w1.cell? ⟨w.heap.size, 0, none⟩ = some (.slice As ss.length cs) := (blk_cell hK1 0).trans rfl
    have c1 : w1.cell? ⟨w.heap.size, 1, none⟩ = some (.slice At ts.length ct) := (blk_cell hK1 1).trans rfl
    have HB1 := Aside0.mk (below_step HB2.out.1 hb1)
    clear hb1 hK1
    go_wp2_with fail
    refine (HOW.out _ HB1.out).mono ?_
    rintro e w2 ⟨Bs, ds, Bt, dt, rfl, hR, hS, hb2⟩
    have hZ2 := blk_below hZ1 hb2
    have HZ := Aside0.mk hZ2
    have HM := Aside0.mk (show Mine w1.heap.size w2.heap.size Bs Bt ds dt ss ts (w2.alloc (.cells #[.slice Bs ss.length ds, .slice Bt ts.length dt] 26)) from ⟨hb2.size, (below_alloc hb2 _).size, blk_new w2 _, Kd.R_alloc hR _, Kd.S_alloc hS _⟩)
    have HW := Aside0.mk (below_alloc (below_step HB1.out hb2) (.cells #[.slice Bs ss.length ds, .slice Bt ts.length dt] 26))
    have HZ := Aside0.mk (And.intro (blk_alloc hZ2 (.cells #[.slice Bs ss.length ds, .slice Bt ts.length dt] 26)) (blk_lt hZ1))
    clear c0 c1 hZ1 hR hS hb2 hZ2
    go_wp2_with fail
    refine (HD.out _ _ _ _ _ _ _ HW.out HB1.out.size HM.out).mono ?_
    rintro e w3 ⟨rfl, hb3, hres⟩
    have hZ3 := (hb3.block _ HZ.out.2).trans HZ.out.1
    have z0 : w3.cell? ⟨w.heap.size + 1, 0, none⟩ = some (.slice none 0 0) := (blk_cell hZ3 0).trans rfl
    have z1 : w3.cell? ⟨w.heap.size + 1, 1, none⟩ = some (.slice none 0 0) := (blk_cell hZ3 1).trans rfl
    have f0 := blk_frozen hZ3 0
    have f1 := blk_frozen hZ3 1
    have HB3 := Aside0.mk (HW.out.trans (hb3.mono HB1.out.size))
    have HB1s := Aside0.mk HB1.out.size
    have HR := Aside0.mk hres
    have HZ3 := Aside0.mk hZ3
    clear hres hb3 HW HM HD HZ hZ3 HB2 HCK HOW HB1
    by_cases h0 : r.1 = 0
    · obtain ⟨vs, vt, hg, hRs, hRt⟩ := HR.out h0
      obtain ⟨Es, es, rfl⟩ := Kd.R_slice hRs
      obtain ⟨Et, et, rfl⟩ := Kd.R_slice hRt
      have c0 : w3.cell? ⟨w2.heap.size, 0, none⟩ = some (.slice Es r.2.1.length es) := (blk_cell hg 0).trans rfl
      have c1 : w3.cell? ⟨w2.heap.size, 1, none⟩ = some (.slice Et r.2.2.length et) := (blk_cell hg 1).trans rfl
      have HX := Aside0.mk (And.intro (R_only (Kd.R_lower hRs HB1s.out) HZ3.out (by decide) (set2_far w3 (w.heap.size + 1) (.slice Es r.2.1.length es) (.slice Et r.2.2.length et)))
        (And.intro (R_only (Kd.R_lower hRt HB1s.out) HZ3.out (by decide) (set2_far w3 (w.heap.size + 1) (.slice Es r.2.1.length es) (.slice Et r.2.2.length et)))
        (set2_below HB3.out (Nat.le_succ _) (.slice Es r.2.1.length es) (.slice Et r.2.2.length et))))
      have HQ2 := Aside0.mk (show q = r by rw [← HQ.out]; unfold chg; rw [if_pos (by have := HE.out; unfold checkE at this; split at this; assumption; cases this), if_pos h0])
      have HE0 := Aside0.mk h0
      rw [h0]
      clear h0 hg hRs hRt HR HQ HB3 HZ3
      go_wp2
      refine bodyPost_ret (v := .tuple #[.agg #[.slice Es r.2.1.length es, .slice Et r.2.2.length et], .int .i64 0]) (by simp [results, Try.results70, go_sem, *]) rfl ?_
      rw [HQ2.out]
      exact ⟨_, _, by rw [HE0.out], HX.out⟩
    · have hne : (r.1 == 0) = false := beq_eq_false_iff_ne.2 h0
      have hn2 : (r.1 != 0) = true := bne_iff_ne.2 h0
      have HX := Aside0.mk (set2_below (g := w.heap.size + 1) HB3.out (Nat.le_succ _) (.slice none 0 0) (.slice none 0 0))
      have HQ2 := Aside0.mk (show q = (r.1, [], []) by rw [← HQ.out]; unfold chg; rw [if_pos (by have := HE.out; unfold checkE at this; split at this; assumption; cases this), if_neg h0])
      generalize r.1 = n at *
      clear HR HQ HB3 HZ3
      go_wp2
      refine bodyPost_ret (v := .tuple #[.agg #[.slice none 0 0, .slice none 0 0], .int .i64 n]) (by simp [results, Try.results70, go_sem, *]) rfl ?_
      rw [HQ2.out]
      exact ⟨_, _, rfl, Kd.R_nil _ _ _ _ _, Kd.R_nil _ _ _ _ _, HX.out⟩
end Go.Proofs.Ytmmiehckgkadgaa.O
namespace Go.Proofs.Ytmmiehckgkadgaa.O
set_option linter.unusedVariables false
set_option linter.unusedSimpArgs false
open Go.RowKit Go.Proofs.YtmmiehckgkadgaaW.PrintWords
def InDid (B : Nat) (W : World) (ss : List Sch) (ts : List Tab) (k : Nat) (Bs : Option Addr) (ds g dt : Nat) (r : Int × Tab) (e : Ending) (w' : World) : Prop := e = .returned (.int .i64 r.1) ∧ Below B W w' ∧ (∀ (q : Nat) (cs : Array Value), W.heap[q]? = some (.cells cs 26 (0, 0)) → w'.heap[q]? = some (.cells cs 26 (0, 0))) ∧
  (r.1 = 0 → kSch.R 63 w' B (fun _ => True) (.slice Bs ss.length ds) ss ∧ Kd.S kTab 35 w' B (fun _ => True) (.slice (some ⟨g, 0, none⟩) ts.length dt) (ts.set k r.2))
theorem enters {f : Nat} {fn : Func} (hf : Try.prog.funcs[f]? = some fn) (hname : (fn.name == "runtime.NumGoroutine") = false) (hb : fn.body.isSome = true) : ∀ (xs : Array Value) (W : World), (callFunc f xs).run Try.prog W = .ok (.enter f xs) W := fun xs W => Go.Proofs.YtmmiehckgkadgaaW.PrintLast.enters_ hf hname hb xs W
theorem Out.wrap {w W w1 : World} {g : Nat} {vs vt : Value} {ss : List Sch} {ts : List Tab} (hW : Below w.heap.size w W) (hg : w.heap.size ≤ g) (hZ : W.heap[g]? = some (.cells #[.slice none 0 0, .slice none 0 0] 26 (0, 0))) (hs : kSch.R 63 w1 W.heap.size (fun _ => True) vs ss) (ht : kTab.R 35 w1 W.heap.size (fun _ => True) vt ts) (hb : Below W.heap.size W w1) :
    kSch.R 63 ((w1.setCell ⟨g, 0, none⟩ vs).setCell ⟨g, 1, none⟩ vt) w.heap.size (fun _ => True) vs ss ∧ kTab.R 35 ((w1.setCell ⟨g, 0, none⟩ vs).setCell ⟨g, 1, none⟩ vt) w.heap.size (fun _ => True) vt ts ∧ Below w.heap.size w ((w1.setCell ⟨g, 0, none⟩ vs).setCell ⟨g, 1, none⟩ vt) :=
  ⟨R_only (Kd.R_lower hs hW.size) (blk_below hZ hb) (by decide) (set2_far w1 g vs vt), R_only (Kd.R_lower ht hW.size) (blk_below hZ hb) (by decide) (set2_far w1 g vs vt), set2_below (below_step hW hb) hg vs vt⟩
end Go.Proofs.Ytmmiehckgkadgaa.O
namespace Go.Proofs.Ytmmiehckgkadgaa.O
set_option linter.unusedVariables false
set_option linter.unusedSimpArgs false
open Go.RowKit Go.Proofs.YtmmiehckgkadgaaW.PrintWords
theorem chg_bad {ss : List Sch} {ts : List Tab} (r : Res) (h : checkB ss ts = false) : chg ss ts r = (63, [], []) := by unfold chg; rw [h]; rfl
theorem zeroOut {w w1 : World} {g : Nat} {n : Int} (hb : Below w.heap.size w w1) (hg : w.heap.size ≤ g) : Out w (n, [], []) (.returned (.tuple #[.agg #[.slice none 0 0, .slice none 0 0], .int .i64 n])) ((w1.setCell ⟨g, 0, none⟩ (.slice none 0 0)).setCell ⟨g, 1, none⟩ (.slice none 0 0)) := ⟨_, _, rfl, Kd.R_nil _ _ _ _ _, Kd.R_nil _ _ _ _ _, set2_below hb hg _ _⟩
end Go.Proofs.Ytmmiehckgkadgaa.O
namespace Go.Proofs.Ytmmiehckgkadgaa.O
set_option linter.unusedVariables false
set_option linter.unusedSimpArgs false
open Go.RowKit Go.Proofs.YtmmiehckgkadgaaW.PrintWords
set_option maxHeartbeats 400000 in
theorem rNo.calls (n : Int) (w : World) : Calls Try.prog 56 #[.int .i64 n] w fun e w' => e = .returned (.tuple #[.agg #[.slice none 0 0, .slice none 0 0], .int .i64 n]) ∧ Below w.heap.size w w' := by
  have HX := Aside0.mk (below_alloc (Below.refl w.heap.size w) (.cells #[.slice none 0 0, .slice none 0 0] 26))
  go_enter Try.func56, Try.ntmps56
  go_wp2
  refine bodyPost_ret (v := .tuple #[.agg #[.slice none 0 0, .slice none 0 0], .int .i64 n]) (by simp [results, Try.results56, go_sem, *]) rfl ?_
  exact ⟨rfl, HX.out⟩
theorem S_addr {B : Nat} {Bt : Option Addr} {dt n : Nat} {W : World} {ts : List Tab} (h : Kd.S kTab 35 W B (fun _ => True) (.slice Bt n dt) ts) (hk : 0 < ts.length) : ∃ g, Bt = some ⟨g, 0, none⟩ := by
  obtain ⟨gt, cap, hv, _⟩ := Kd.S_form h hk
  injection hv with hA _ _
  exact ⟨gt, hA⟩
end Go.Proofs.Ytmmiehckgkadgaa.O
namespace Go.Proofs.Ytmmiehckgkadgaa.O
set_option linter.unusedVariables false
set_option linter.unusedSimpArgs false
open Go.RowKit Go.Proofs.YtmmiehckgkadgaaW.PrintWords
theorem S_table2 {B g dt : Nat} {W : World} {ts : List Tab} (h : Kd.S kTab 35 W B (fun _ => True) (.slice (some ⟨g, 0, none⟩) ts.length dt) ts) (k : Nat) (hk : k < ts.length) : ∃ (oki : Nat → Prop) (v3 v4 : Value),
    W.cell? ⟨g, k * 5, none⟩ = some (.string ts[k].schema) ∧ W.cell? ⟨g, k * 5 + 1, none⟩ = some (.string ts[k].name) ∧ W.cell? ⟨g, k * 5 + 2, none⟩ = some (.string ts[k].owner) ∧ W.cell? ⟨g, k * 5 + 3, none⟩ = some v3 ∧ W.cell? ⟨g, k * 5 + 4, none⟩ = some v4 ∧ (∀ j, W.frozen? ⟨g, k * 5 + j, none⟩ = false) ∧
    kCol.R 41 W B oki v3 ts[k].cols ∧ kRul.R 57 W B oki v4 ts[k].rules ∧ (∀ q, oki q → q ≠ g ∧ q < W.heap.size ∧ B ≤ q) ∧ Kd.H kTab 35 W B (fun q => True ∧ ¬ (W.heap.size ≤ q)) (.slice (some ⟨g, 0, none⟩) ts.length dt) ts (k : Int) oki [.string ts[k].schema, .string ts[k].name, .string ts[k].owner, v3, v4] := by
  obtain ⟨oki, c, hcl, hM, hc, hf, ho, hH⟩ := Kd.S_elem (Kd.S_bound h) zTab (k : Int) (by omega) (by omega)
  rw [Int.toNat_natCast, List.getD_eq_getElem?_getD, List.getElem?_eq_getElem hk] at hM
  rw [Int.toNat_natCast] at hc hf
  obtain ⟨v3, v4, rfl, h3, h4⟩ := kTab_openM hM
  exact ⟨oki, v3, v4, hc 0 _ rfl, hc 1 _ rfl, hc 2 _ rfl, hc 3 _ rfl, hc 4 _ rfl, hf, h3, h4, fun q hq => ⟨(ho q hq).2, (ho q hq).1.2.2.1, (ho q hq).1.2.1⟩, Kd.H_mono hH (fun q hq => ⟨trivial, Nat.not_le_of_lt hq.2.2.1⟩)⟩
end Go.Proofs.Ytmmiehckgkadgaa.O
