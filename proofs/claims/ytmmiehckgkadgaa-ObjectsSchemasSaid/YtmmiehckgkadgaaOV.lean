/- The statement's own helpers: large, one. -/
import Derived.Test.YtmmiehckgkadgaaOU
namespace Go.Proofs.Ytmmiehckgkadgaa.O
set_option linter.unusedVariables false
set_option linter.unusedSimpArgs false
open Go.RowKit Go.Proofs.YtmmiehckgkadgaaW.PrintWords

def RulS (r : Rul) : Prop := r.cols.length ≤ 3000
def TabS (t : Tab) : Prop := t.cols.length ≤ 3000 ∧ t.rules.length ≤ 3000 ∧ ∀ r ∈ t.rules, RulS r
def ObjS (ss : List Sch) (ts : List Tab) : Prop := ss.length ≤ 3000 ∧ ts.length ≤ 3000 ∧ ∀ t ∈ ts, TabS t
theorem all_of_lt {α : Type} {l : List α} {P : α → Prop} (h : ∀ j (hj : j < l.length), P l[j]) : ∀ x ∈ l, P x := fun x hx => by obtain ⟨j, hj, rfl⟩ := List.getElem_of_mem hx; exact h j hj

set_option maxHeartbeats 4000000 in
theorem large.calls {As At : Option Addr} {cs ct : Nat} (ss : List Sch) (ts : List Tab) (w : World) (hsl : ss.length ≤ 8796093022208) (ht : kTab.C w At ts.length ts) (hF : TabsF ts) :
    Calls Try.prog 11 #[.agg #[.slice As ss.length cs, .slice At ts.length ct]] w fun e w' => ∃ b, e = .returned (.bool b) ∧ (b = false → ObjS ss ts) ∧ Below w.heap.size w w' := by
  have HF := Aside0.mk hF
  have HT := Aside0.mk ht
  have HX := Aside0.mk (BoxO_new w As ss.length cs At ts.length ct)
  have HW : Aside0 (Below w.heap.size w (w.alloc (objBox As ss.length cs At ts.length ct))) := ⟨below_alloc (Below.refl _ _) _⟩
  have hn64 := hF.1
  clear ht hF
  go_enter Try.func11, Try.ntmps11
  go_wp2
  go_loopw [3, 4] (fun n i w' => ∃ m k : Nat, k ≤ ts.length ∧ n = .int .i64 m ∧ i = .int .i64 k ∧ m ≤ 70368744177664 ∧ Aside0 ((m ≤ 3000 → ss.length + ts.length ≤ 3000 ∧ ∀ j (h : j < ts.length), j < k → TabS ts[j]) ∧ BoxO w' w.heap.size As ss.length cs At ts.length ct ∧ Below w.heap.size w w')) (fun _ i _ => ts.length - (intOf i).toNat)
  case atStart => exact ⟨ss.length + ts.length, 0, Nat.zero_le _, by go_num, rfl, by omega, ⟨fun h => ⟨h, fun _ _ h => absurd h (Nat.not_lt_zero _)⟩, HX.out, HW.out⟩⟩
  case round =>
    obtain ⟨m, k, hk, rfl, rfl, hm, HJ⟩ := hrel
    obtain ⟨o0, o1⟩ := HJ.out.2.1
    have HJB := Aside0.mk HJ.out.2.2
    by_cases hlt : k < ts.length
    · have hdk : decide ((k : Int) < (ts.length : Int)) = true := decide_eq_true (by omega)
      by_cases hm3 : m ≤ 3000
      · have hdm : decide ((m : Int) ≤ 3000) = true := decide_eq_true (by omega)
        obtain ⟨ad, A3, c3, A4, c4, e, hc0, hc1, hc2, hc3, hc4, hs1, hs2, hs3, hs4⟩ := cTab (Kd.C_below HT.out HJB.out) k hlt
        cases e
        have hTF := Aside0.mk (HF.out.2 _ (List.getElem_mem hlt))
        have hL1 := hTF.out.1
        have hL2 := hTF.out.2.1
        have H4 := Aside0.mk hs4
        have HBX := Aside0.mk (BoxT_new wr ts[k] A3 c3 A4 c4)
        have HBW := Aside0.mk (below_alloc HJB.out (tabBox ts[k] A3 c3 A4 c4))
        have HBO := Aside0.mk (HJ.out.2.1.below (below_alloc (Below.refl _ _) (tabBox ts[k] A3 c3 A4 c4)))
        have HM := Aside0.mk (HJ.out.1 hm3)
        clear hs1 hs2 hs3 hs4
        go_wp2
        clear o0 o1 hc0 hc1 hc2 hc3 hc4
        go_loopw [3, 6] (fun n i w' => ∃ p h : Nat, h ≤ ts[k].rules.length ∧ n = .int .i64 p ∧ i = .int .i64 h ∧ p ≤ 35184372088832 ∧ Aside0 ((p ≤ 3000 → m + ts[k].cols.length + ts[k].rules.length ≤ 3000 ∧ ∀ j (hj : j < ts[k].rules.length), j < h → RulS ts[k].rules[j]) ∧ BoxO w' w.heap.size As ss.length cs (some ad) ts.length ct ∧ BoxT w' wr.heap.size ts[k] A3 c3 A4 c4 ∧ Below wr.heap.size wr w')) (fun _ i _ => ts[k].rules.length - (intOf i).toNat)
        case atStart => exact ⟨m + ts[k].cols.length + ts[k].rules.length, 0, Nat.zero_le _, by go_num, rfl, by omega, ⟨fun h => ⟨h, fun _ _ h => absurd h (Nat.not_lt_zero _)⟩, HBO.out, HBX.out, below_alloc (Below.refl _ _) _⟩⟩
        case round =>
          obtain ⟨p, h, hh, rfl, rfl, hp, HI⟩ := hrel
          have HIB := Aside0.mk HI.out.2.2.2
          obtain ⟨t0, t1, t2, t3, t4⟩ := HI.out.2.2.1
          have HBZ := Aside0.mk (HJB.out.trans (HI.out.2.2.2.mono HJB.out.size))
          by_cases hlt2 : h < ts[k].rules.length
          · have hdh : decide ((h : Int) < (ts[k].rules.length : Int)) = true := decide_eq_true (by omega)
            by_cases hp3 : p ≤ 3000
            · have hdp : decide ((p : Int) ≤ 3000) = true := decide_eq_true (by omega)
              have HM2 := Aside0.mk (HI.out.1 hp3)
              obtain ⟨ad4, A5, c5, e, hd0, hd1, hd2, hd3, hd4, hd5, hd6, hd7, hs5, hs6⟩ := cRul (Kd.C_below H4.out HIB.out) h hlt2
              cases e
              have hL3 := (hTF.out.2.2 _ (List.getElem_mem hlt2)).1
              clear hs5 hs6
              go_wp2
              go_roundw
              case rel => exact ⟨p + ts[k].rules[h].cols.length, h + 1, by omega, by go_num, by go_num, by omega, ⟨fun h5 => ⟨HM2.out.1, fun j hj hjl => by
                rcases Nat.lt_or_ge j h with h3 | h3
                · exact HM2.out.2 j hj h3
                · obtain rfl : j = h := by omega
                  show ts[k].rules[j].cols.length ≤ 3000
                  omega⟩, HI.out.2.1, HI.out.2.2.1, HIB.out⟩⟩
              case measure => simp [intOf]; omega
            · have hdp : decide ((p : Int) ≤ 3000) = false := decide_eq_false (by omega)
              have HIX := Aside0.mk HI.out.2.1
              go_wp2
              clear t0 t1 t2 t3 t4
              go_roundw
              case rel => exact ⟨p, k + 1, by omega, by go_num, by go_num, by omega, ⟨fun h5 => absurd h5 hp3, HIX.out, HBZ.out⟩⟩
              case measure => simp [intOf]; omega
          · have hdh : decide ((h : Int) < (ts[k].rules.length : Int)) = false := decide_eq_false (by omega)
            have HIX := Aside0.mk HI.out.2.1
            have HI1 := Aside0.mk HI.out.1
            go_wp2
            clear t0 t1 t2 t3 t4
            go_roundw
            case rel => exact ⟨p, k + 1, by omega, by go_num, by go_num, by omega, ⟨fun h5 => by
              have h6 := HI1.out h5
              refine ⟨HM.out.1, fun j hj hjl => ?_⟩
              rcases Nat.lt_or_ge j k with h3 | h3
              · exact HM.out.2 j hj h3
              · obtain rfl : j = k := by omega
                exact ⟨by omega, by omega, all_of_lt fun i hi => h6.2 i hi (by omega)⟩, HIX.out, HBZ.out⟩⟩
            case measure => simp [intOf]; omega
      · have hdm : decide ((m : Int) ≤ 3000) = false := decide_eq_false (by omega)
        have hgt : decide ((3000 : Int) < (m : Int)) = true := decide_eq_true (by omega)
        go_wp2
        go_ret
        exact ⟨true, rfl, fun h => by (cases h), HJB.out⟩
    · have hdk : decide ((k : Int) < (ts.length : Int)) = false := decide_eq_false (by omega)
      by_cases hm3 : m ≤ 3000
      · have hgt : decide ((3000 : Int) < (m : Int)) = false := decide_eq_false (by omega)
        have HM := Aside0.mk (HJ.out.1 hm3)
        go_wp2
        go_ret
        exact ⟨false, rfl, fun _ => ⟨by have := HM.out.1; omega, by have := HM.out.1; omega, all_of_lt fun j hj => HM.out.2 j hj (by omega)⟩, HJB.out⟩
      · have hgt : decide ((3000 : Int) < (m : Int)) = true := decide_eq_true (by omega)
        go_wp2
        go_ret
        exact ⟨true, rfl, fun h => by (cases h), HJB.out⟩
end Go.Proofs.Ytmmiehckgkadgaa.O
