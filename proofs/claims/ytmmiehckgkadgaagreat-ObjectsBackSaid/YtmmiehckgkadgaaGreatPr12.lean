/- Own lemmas and walks (OV, OW, OX, G2), without what the law does not need. Laid by a program of this session (prune.py). -/
import Derived.BigQuiet
import Derived.Test.YtmmiehckgkadgaaGreatPr8
import Derived.Test.YtmmiehckgkadgaaGreatPr9
import Derived.Test.YtmmiehckgkadgaaGreatPr11
namespace Go.Proofs.YtmmiehckgkadgaaGreat.O
set_option linter.unusedVariables false
set_option linter.unusedSimpArgs false
open Go.RowKit Go.Proofs.YtmmiehckgkadgaaGreatW.PrintWords
def RulS (r : Rul) : Prop := r.cols.length ≤ 3000
def TabS (t : Tab) : Prop := t.cols.length ≤ 3000 ∧ t.rules.length ≤ 3000 ∧ ∀ r ∈ t.rules, RulS r
def ObjS (ss : List Sch) (ts : List Tab) : Prop := ss.length ≤ 3000 ∧ ts.length ≤ 3000 ∧ ∀ t ∈ ts, TabS t
theorem all_of_lt {α : Type} {l : List α} {P : α → Prop} (h : ∀ j (hj : j < l.length), P l[j]) : ∀ x ∈ l, P x := fun x hx => by obtain ⟨j, hj, rfl⟩ := List.getElem_of_mem hx; exact h j hj
set_option maxHeartbeats 4000000 in
theorem large.calls {As At : Option Addr} {cs ct : Nat} (ss : List Sch) (ts : List Tab) (w : World) (hsl : ss.length ≤ 8796093022208) (ht : kTab.C w At ts.length ts) (hF : TabsF ts) :
    Calls Tryz.prog 6 #[.agg #[.slice As ss.length cs, .slice At ts.length ct]] w fun e w' => ∃ b, e = .returned (.bool b) ∧ (b = false → ObjS ss ts) ∧ Below w.heap.size w w' := by
  have HF := Aside0.mk hF
  have HT := Aside0.mk ht
  have HX := Aside0.mk (BoxO_new w As ss.length cs At ts.length ct)
  have HW : Aside0 (Below w.heap.size w (w.alloc (objBox As ss.length cs At ts.length ct))) := ⟨below_alloc (Below.refl _ _) _⟩
  have hn64 := hF.1
  clear ht hF
  go_enter Tryz.func6, Tryz.ntmps6
  go_wp2
  go_loopw [3, 4] (fun n i w' => ∃ m k : Nat, k ≤ ts.length ∧ n = .int .i64 m ∧ i = .int .i64 k ∧ m ≤ 70368744177664 ∧ Aside0 ((m ≤ 3000 → ss.length + ts.length ≤ 3000 ∧ ∀ j (h : j < ts.length), j < k → TabS ts[j]) ∧ BoxO w' w.heap.size As ss.length cs At ts.length ct ∧ Below w.heap.size w w')) (fun _ i _ => ts.length - (intOf i).toNat)
  case atStart => exact ⟨ss.length + ts.length, 0, Nat.zero_le _, by go_num, rfl, by omega, ⟨fun h => ⟨h, fun _ _ h => absurd h (Nat.not_lt_zero _)⟩, HX.out, HW.out⟩⟩
  case round =>
    obtain ⟨m, k, hk, rfl, rfl, hm, HJ⟩ := hrel
    obtain ⟨o0, o1⟩ := HJ.out.2.1
    have HJB := Aside0.mk HJ.out.2.2
    by_cases hlt : k < ts.length
    · have hdk : decide ((k : Int) < (ts.length : Int)) = true := decide_eq_true (by omega)
      by_cases hm3 : m ≤ 3000
      · have hdm : decide ((m : Int) ≤ 3000) = true := decide_eq_true (by omega)
        obtain ⟨ad, A3, c3, A4, c4, e, hc0, hc1, hc2, hc3, hc4, hs1, hs2, hs3, hs4⟩ := cTab (Kd.C_below HT.out HJB.out) k hlt
        cases e
        have hTF := Aside0.mk (HF.out.2 _ (List.getElem_mem hlt))
        have hL1 := hTF.out.1
        have hL2 := hTF.out.2.1
        have H4 := Aside0.mk hs4
        have HBX := Aside0.mk (BoxT_new wr ts[k] A3 c3 A4 c4)
        have HBW := Aside0.mk (below_alloc HJB.out (tabBox ts[k] A3 c3 A4 c4))
        have HBO := Aside0.mk (HJ.out.2.1.below (below_alloc (Below.refl _ _) (tabBox ts[k] A3 c3 A4 c4)))
        have HM := Aside0.mk (HJ.out.1 hm3)
        clear hs1 hs2 hs3 hs4
        go_wp2
        clear o0 o1 hc0 hc1 hc2 hc3 hc4
        go_loopw [3, 6] (fun n i w' => ∃ p h : Nat, h ≤ ts[k].rules.length ∧ n = .int .i64 p ∧ i = .int .i64 h ∧ p ≤ 35184372088832 ∧ Aside0 ((p ≤ 3000 → m + ts[k].cols.length + ts[k].rules.length ≤ 3000 ∧ ∀ j (hj : j < ts[k].rules.length), j < h → RulS ts[k].rules[j]) ∧ BoxO w' w.heap.size As ss.length cs (some ad) ts.length ct ∧ BoxT w' wr.heap.size ts[k] A3 c3 A4 c4 ∧ Below wr.heap.size wr w')) (fun _ i _ => ts[k].rules.length - (intOf i).toNat)
        case atStart => exact ⟨m + ts[k].cols.length + ts[k].rules.length, 0, Nat.zero_le _, by go_num, rfl, by omega, ⟨fun h => ⟨h, fun _ _ h => absurd h (Nat.not_lt_zero _)⟩, HBO.out, HBX.out, below_alloc (Below.refl _ _) _⟩⟩
        case round =>
          obtain ⟨p, h, hh, rfl, rfl, hp, HI⟩ := hrel
          have HIB := Aside0.mk HI.out.2.2.2
          obtain ⟨t0, t1, t2, t3, t4⟩ := HI.out.2.2.1
          have HBZ := Aside0.mk (HJB.out.trans (HI.out.2.2.2.mono HJB.out.size))
          by_cases hlt2 : h < ts[k].rules.length
          · have hdh : decide ((h : Int) < (ts[k].rules.length : Int)) = true := decide_eq_true (by omega)
            by_cases hp3 : p ≤ 3000
            · have hdp : decide ((p : Int) ≤ 3000) = true := decide_eq_true (by omega)
              have HM2 := Aside0.mk (HI.out.1 hp3)
              obtain ⟨ad4, A5, c5, e, hd0, hd1, hd2, hd3, hd4, hd5, hd6, hd7, hs5, hs6⟩ := cRul (Kd.C_below H4.out HIB.out) h hlt2
              cases e
              have hL3 := (hTF.out.2.2 _ (List.getElem_mem hlt2)).1
              clear hs5 hs6
              go_wp2
              go_roundw
              case rel => exact ⟨p + ts[k].rules[h].cols.length, h + 1, by omega, by go_num, by go_num, by omega, ⟨fun h5 => ⟨HM2.out.1, fun j hj hjl => by
                rcases Nat.lt_or_ge j h with h3 | h3
                · exact HM2.out.2 j hj h3
                · obtain rfl : j = h := by omega
                  show ts[k].rules[j].cols.length ≤ 3000
                  omega⟩, HI.out.2.1, HI.out.2.2.1, HIB.out⟩⟩
              case measure => simp [intOf]; omega
            · have hdp : decide ((p : Int) ≤ 3000) = false := decide_eq_false (by omega)
              have HIX := Aside0.mk HI.out.2.1
              go_wp2
              clear t0 t1 t2 t3 t4
              go_roundw
              case rel => exact ⟨p, k + 1, by omega, by go_num, by go_num, by omega, ⟨fun h5 => absurd h5 hp3, HIX.out, HBZ.out⟩⟩
              case measure => simp [intOf]; omega
          · have hdh : decide ((h : Int) < (ts[k].rules.length : Int)) = false := decide_eq_false (by omega)
            have HIX := Aside0.mk HI.out.2.1
            have HI1 := Aside0.mk HI.out.1
            go_wp2
            clear t0 t1 t2 t3 t4
            go_roundw
            case rel => exact ⟨p, k + 1, by omega, by go_num, by go_num, by omega, ⟨fun h5 => by
              have h6 := HI1.out h5
              refine ⟨HM.out.1, fun j hj hjl => ?_⟩
              rcases Nat.lt_or_ge j k with h3 | h3
              · exact HM.out.2 j hj h3
              · obtain rfl : j = k := by omega
                exact ⟨by omega, by omega, all_of_lt fun i hi => h6.2 i hi (by omega)⟩, HIX.out, HBZ.out⟩⟩
            case measure => simp [intOf]; omega
      · have hdm : decide ((m : Int) ≤ 3000) = false := decide_eq_false (by omega)
        have hgt : decide ((3000 : Int) < (m : Int)) = true := decide_eq_true (by omega)
        go_wp2
        go_ret
        exact ⟨true, rfl, fun h => by (cases h), HJB.out⟩
    · have hdk : decide ((k : Int) < (ts.length : Int)) = false := decide_eq_false (by omega)
      by_cases hm3 : m ≤ 3000
      · have hgt : decide ((3000 : Int) < (m : Int)) = false := decide_eq_false (by omega)
        have HM := Aside0.mk (HJ.out.1 hm3)
        go_wp2
        go_ret
        exact ⟨false, rfl, fun _ => ⟨by have := HM.out.1; omega, by have := HM.out.1; omega, all_of_lt fun j hj => HM.out.2 j hj (by omega)⟩, HJB.out⟩
      · have hgt : decide ((3000 : Int) < (m : Int)) = true := decide_eq_true (by omega)
        go_wp2
        go_ret
        exact ⟨true, rfl, fun h => by (cases h), HJB.out⟩
end Go.Proofs.YtmmiehckgkadgaaGreat.O
namespace Go.Proofs.YtmmiehckgkadgaaGreat.O
set_option linter.unusedVariables false
set_option linter.unusedSimpArgs false
open Go.RowKit Go.Proofs.YtmmiehckgkadgaaGreatW.PrintWords
theorem C_one {α : Type} {d : Kd α} {w : World} {g : Nat} {x : α} {c : List Value} (hl : c.length = d.sz) (hk : d.K w x c) (hc : ∀ i u, c[i]? = some u → w.cell? ⟨g, i, none⟩ = some u) : d.C w (some ⟨g, 0, none⟩) 1 [x] :=
  ⟨rfl, by decide, fun _ => ⟨_, rfl, fun j p hp => by
    cases j with
    | zero => obtain rfl : x = p := by simpa using hp
              exact ⟨c, hl, hk, fun i u hu => by rw [Nat.zero_mul, Nat.zero_add, add_plain]; exact hc i u hu⟩
    | succ j => simp at hp⟩⟩
theorem C_two {α : Type} {d : Kd α} {w : World} {g : Nat} {x y : α} {c e : List Value} (hl : c.length = d.sz) (hk : d.K w x c) (hc : ∀ i u, c[i]? = some u → w.cell? ⟨g, i, none⟩ = some u) (hl2 : e.length = d.sz) (hk2 : d.K w y e) (hc2 : ∀ i u, e[i]? = some u → w.cell? ⟨g, d.sz + i, none⟩ = some u) : d.C w (some ⟨g, 0, none⟩) 2 [x, y] :=
  ⟨rfl, by decide, fun _ => ⟨_, rfl, fun j p hp => by
    match j, hp with
    | 0, hp => obtain rfl : x = p := by simpa using hp
               exact ⟨c, hl, hk, fun i u hu => by rw [Nat.zero_mul, Nat.zero_add, add_plain]; exact hc i u hu⟩
    | 1, hp => obtain rfl : y = p := by simpa using hp
               exact ⟨e, hl2, hk2, fun i u hu => by rw [Nat.one_mul, add_plain]; exact hc2 i u hu⟩
    | j + 2, hp => simp at hp⟩⟩
def sx : ByteArray := ⟨#[120]⟩
def sy : ByteArray := ⟨#[121]⟩
def sk : ByteArray := ⟨#[107]⟩
def s_s : ByteArray := ⟨#[115]⟩
def st_ : ByteArray := ⟨#[116]⟩
def so_ : ByteArray := ⟨#[111]⟩
def rul1 : Rul := ⟨sk, 2, [sx], 0, 0, nStr, nStr, nStr⟩
def tab1 : Tab := ⟨s_s, st_, so_, [⟨sx, 2, false⟩, ⟨sy, 3, true⟩], [rul1]⟩
def sch1 : Sch := ⟨s_s, so_⟩
theorem check_one : checkE [sch1] [tab1] = 0 := by decide +kernel
theorem check_bare : checkE [] [tab1] = 63 := by decide +kernel
theorem tabsF_one : TabsF [tab1] := by
  refine ⟨by decide, fun t ht => ?_⟩
  obtain rfl : t = tab1 := by simpa using ht
  refine ⟨by decide, by decide, fun r hr => ?_⟩
  obtain rfl : r = rul1 := by simpa [tab1] using hr
  exact ⟨by decide, by decide, by decide, by decide⟩
theorem cell_in {X WF : World} {c : List Value} {t : TypeId} {g : Nat} (hg : g = X.heap.size) (hb : Below (X.alloc (.cells c.toArray t)).heap.size (X.alloc (.cells c.toArray t)) WF) : ∀ i u, c[i]? = some u → WF.cell? ⟨g, i, none⟩ = some u := fun i u h => by
  subst hg
  exact pw_cell_below hb (by rw [World.cell?_alloc_new]; simpa using h)
def oT (g : Nat) : List Value := [.string s_s, .string st_, .string so_, .slice (some ⟨g + 1 + 1 + 1, 0, none⟩) 2 2, .slice (some ⟨g + 1 + 1 + 1 + 1, 0, none⟩) 1 1]
def oR (g : Nat) : List Value := [.string sk, .int .i64 2, .slice (some ⟨g + 1, 0, none⟩) 1 1, .int .i64 0, .int .i64 0, .string nStr, .string nStr, .string nStr]
def oC : List Value := [.string sx, .int .i64 2, .bool false, .string sy, .int .i64 3, .bool true]
def oS : List Value := [.string s_s, .string so_]
def oO (g : Nat) : List Value := [.slice (some ⟨g + 1 + 1 + 1 + 1 + 1 + 1, 0, none⟩) 1 1, .slice (some ⟨g + 1 + 1 + 1 + 1 + 1 + 1 + 1, 0, none⟩) 1 1]
def w1_ (w : World) : World := (w.alloc (.cells (oO w.heap.size).toArray 25))
def w2_ (w : World) : World := (w1_ w).alloc (.cells ([.string sx] : List Value).toArray 9)
def w3_ (w : World) : World := (w2_ w).alloc (.cells (oR w.heap.size).toArray 29)
def w4_ (w : World) : World := (w3_ w).alloc (.cells oC.toArray 41)
def w5_ (w : World) : World := (w4_ w).alloc (.cells (oR w.heap.size).toArray 29)
def w6_ (w : World) : World := (w5_ w).alloc (.cells (oT w.heap.size).toArray 50)
def w7_ (w : World) : World := (w6_ w).alloc (.cells oS.toArray 76)
def w8_ (w : World) : World := (w7_ w).alloc (.cells (oT w.heap.size).toArray 50)
theorem sz_ (w : World) (o : Obj) : (w.alloc o).heap.size = w.heap.size + 1 := by simp
theorem one_reads (w : World) : kSch.C (w8_ w) (some ⟨w.heap.size + 1 + 1 + 1 + 1 + 1 + 1, 0, none⟩) 1 [sch1] ∧ kTab.C (w8_ w) (some ⟨w.heap.size + 1 + 1 + 1 + 1 + 1 + 1 + 1, 0, none⟩) 1 [tab1] := by
  have B0 : ∀ X : World, Below X.heap.size X X := fun X => Below.refl _ _
  have B : ∀ (X Y : World) (o : Obj), Below X.heap.size X Y → Below X.heap.size X (Y.alloc o) := fun X Y o h => below_alloc h o
  have s1 : (w1_ w).heap.size = w.heap.size + 1 := sz_ _ _
  have s2 : (w2_ w).heap.size = w.heap.size + 1 + 1 := by rw [w2_, sz_, s1]
  have s3 : (w3_ w).heap.size = w.heap.size + 1 + 1 + 1 := by rw [w3_, sz_, s2]
  have s4 : (w4_ w).heap.size = w.heap.size + 1 + 1 + 1 + 1 := by rw [w4_, sz_, s3]
  have s5 : (w5_ w).heap.size = w.heap.size + 1 + 1 + 1 + 1 + 1 := by rw [w5_, sz_, s4]
  have s6 : (w6_ w).heap.size = w.heap.size + 1 + 1 + 1 + 1 + 1 + 1 := by rw [w6_, sz_, s5]
  have s7 : (w7_ w).heap.size = w.heap.size + 1 + 1 + 1 + 1 + 1 + 1 + 1 := by rw [w7_, sz_, s6]
  have c1 := cell_in (X := w1_ w) (WF := w8_ w) s1.symm (B _ _ _ (B _ _ _ (B _ _ _ (B _ _ _ (B _ _ _ (B _ _ _ (B0 (w2_ w))))))))
  have c3 := cell_in (X := w3_ w) (WF := w8_ w) s3.symm (B _ _ _ (B _ _ _ (B _ _ _ (B _ _ _ (B0 (w4_ w))))))
  have c4 := cell_in (X := w4_ w) (WF := w8_ w) s4.symm (B _ _ _ (B _ _ _ (B _ _ _ (B0 (w5_ w)))))
  have c6 := cell_in (X := w6_ w) (WF := w8_ w) s6.symm (B _ _ _ (B0 (w7_ w)))
  have c7 := cell_in (X := w7_ w) (WF := w8_ w) s7.symm (B0 (w8_ w))
  refine ⟨C_one rfl (kSch_mk _ sch1) c6, C_one rfl ?_ c7⟩
  refine kTab_mk _ tab1 (c3 := 2) (c4 := 1) (by decide) ?_ (by decide) ?_
  · exact C_two (d := kCol) rfl (kCol_mk _ ⟨sx, 2, false⟩) (fun i u h => c3 i u (by match i, h with | 0, h => exact h | 1, h => exact h | 2, h => exact h | i + 3, h => simp at h)) rfl (kCol_mk _ ⟨sy, 3, true⟩)
      (fun i u h => by rw [show kCol.sz + i = i + 3 from Nat.add_comm 3 i]; exact c3 (i + 3) u h)
  · refine C_one rfl ?_ c4
    exact kRul_mk _ rul1 (c2 := 1) (by decide) (C_one (d := Kd.string) rfl rfl c1)
theorem one_below (w : World) : Below w.heap.size w (w8_ w) := below_alloc (below_alloc (below_alloc (below_alloc (below_alloc (below_alloc (below_alloc (below_alloc (Below.refl _ _) _) _) _) _) _) _) _) _
theorem one_cells (w : World) : (w8_ w).cell? ⟨w.heap.size, 0, none⟩ = some (.slice (some ⟨w.heap.size + 1 + 1 + 1 + 1 + 1 + 1, 0, none⟩) 1 1) ∧ (w8_ w).cell? ⟨w.heap.size, 1, none⟩ = some (.slice (some ⟨w.heap.size + 1 + 1 + 1 + 1 + 1 + 1 + 1, 0, none⟩) 1 1) := by
  have c0 := cell_in (X := w) (WF := w8_ w) (c := oO w.heap.size) (t := 25) rfl (below_alloc (below_alloc (below_alloc (below_alloc (below_alloc (below_alloc (below_alloc (Below.refl _ (w1_ w)) _) _) _) _) _) _) _)
  exact ⟨c0 0 _ rfl, c0 1 _ rfl⟩
set_option maxHeartbeats 2000000 in
theorem one.calls (w : World) : Calls Tryz.prog 46 #[] w fun e w' => ∃ As cs At ct, e = .returned (.agg #[.slice As 1 cs, .slice At 1 ct]) ∧ 1 ≤ cs ∧ 1 ≤ ct ∧ kSch.C w' As 1 [sch1] ∧ kTab.C w' At 1 [tab1] ∧ Below w.heap.size w w' := by
  have HR := Aside0.mk (one_reads w)
  have HB := Aside0.mk (one_below w)
  have HC := Aside0.mk (one_cells w)
  go_enter Tryz.func46, Tryz.ntmps46
  go_wp2
  refine bodyPost_ret (v := .agg #[.slice (some ⟨w.heap.size + 1 + 1 + 1 + 1 + 1 + 1, 0, none⟩) 1 1, .slice (some ⟨w.heap.size + 1 + 1 + 1 + 1 + 1 + 1 + 1, 0, none⟩) 1 1]) (by simp [results, Tryz.results46, go_sem]) rfl ?_
  exact ⟨_, _, _, _, rfl, Nat.le_refl _, Nat.le_refl _, HR.out.1, HR.out.2, HB.out⟩
end Go.Proofs.YtmmiehckgkadgaaGreat.O
namespace Go.Proofs.YtmmiehckgkadgaaGreat.O
set_option linter.unusedVariables false
set_option linter.unusedSimpArgs false
open Go.RowKit Go.Proofs.YtmmiehckgkadgaaGreatW.PrintWords
set_option maxHeartbeats 2000000 in
theorem checks.calls (w : World) : Calls Tryz.prog 23 #[] w fun e w' => e = .returned (.bool true) ∧ Below w.heap.size w w' := by
  have HO := Aside0.mk (one.calls w)
  go_enter Tryz.func23, Tryz.ntmps23
  go_wp2_with fail
  refine HO.out.mono ?_
  rintro e w1 ⟨As, cs, At, ct, rfl, l1, l2, hs, ht, hb1⟩
  have HL := Aside0.mk (And.intro l1 l2)
  have HB1 := Aside0.mk hb1
  have HK1 := Aside0.mk (fun W (hW : Below w1.heap.size w1 W) => Check.calls (As := As) (cs := cs) (At := At) (ct := ct) [sch1] [tab1] W (Kd.C_below hs hW) (by decide) (Kd.C_below ht hW) tabsF_one)
  have HK2 := Aside0.mk (fun W (hW : Below w1.heap.size w1 W) => Check.calls (As := none) (cs := 0) (At := At) (ct := ct) [] [tab1] W (Kd.C_nil kSch W) (by decide) (Kd.C_below ht hW) tabsF_one)
  rw [check_one] at HK1
  rw [check_bare] at HK2
  have HX := Aside0.mk (BoxO_new w1 As 1 cs At 1 ct)
  have HW1 := Aside0.mk (below_alloc (Below.refl w1.heap.size w1) (objBox As 1 cs At 1 ct))
  clear l1 l2 hs ht hb1
  go_wp2_with fail
  refine (HK1.out _ HW1.out).mono ?_
  rintro e w2 ⟨rfl, hb2⟩
  have HW2 := Aside0.mk (HW1.out.trans (hb2.mono HW1.out.size))
  have HX2 := Aside0.mk (HX.out.below hb2)
  obtain ⟨o0, o1⟩ := HX2.out
  clear hb2
  go_wp2_with fail
  refine (HK2.out _ HW2.out).mono ?_
  rintro e w3 ⟨rfl, hb3⟩
  have HW3 := Aside0.mk (HW2.out.trans (hb3.mono HW2.out.size))
  clear hb3
  go_wp2
  go_ret
  exact ⟨rfl, HB1.out.trans (HW3.out.mono HB1.out.size)⟩
end Go.Proofs.YtmmiehckgkadgaaGreat.O
namespace Go.Proofs.YtmmiehckgkadgaaGreat.O
set_option linter.unusedVariables false
set_option linter.unusedSimpArgs false
open Go.RowKit Go.Proofs.YtmmiehckgkadgaaGreatW.PrintWords
abbrev Res := Int × List Sch × List Tab
def Out (w : World) (r : Res) (e : Ending) (w' : World) : Prop := ∃ vs vt, e = .returned (.tuple #[.agg #[vs, vt], .int .i64 r.1]) ∧ kSch.R 76 w' w.heap.size (fun _ => True) vs r.2.1 ∧ kTab.R 50 w' w.heap.size (fun _ => True) vt r.2.2 ∧ Below w.heap.size w w'
def Did (B : Nat) (W : World) (g : Nat) (r : Res) (e : Ending) (w' : World) : Prop := e = .returned (.int .i64 r.1) ∧ Below B W w' ∧ (r.1 = 0 → ∃ vs vt, w'.heap[g]? = some (.cells #[vs, vt] 25 (0, 0)) ∧ kSch.R 76 w' B (fun _ => True) vs r.2.1 ∧ kTab.R 50 w' B (fun _ => True) vt r.2.2)
def Mine (B : Nat) (g : Nat) (Bs Bt : Option Addr) (ds dt : Nat) (ss : List Sch) (ts : List Tab) (W : World) : Prop := B ≤ g ∧ B ≤ W.heap.size ∧ W.heap[g]? = some (.cells #[.slice Bs ss.length ds, .slice Bt ts.length dt] 25 (0, 0)) ∧ kSch.R 76 W B (fun _ => True) (.slice Bs ss.length ds) ss ∧ Kd.S kTab 50 W B (fun _ => True) (.slice Bt ts.length dt) ts
def chg (ss : List Sch) (ts : List Tab) (r : Res) : Res := if checkB ss ts = true then (if r.1 = 0 then r else (r.1, [], [])) else (63, [], [])
set_option maxRecDepth 20000 in
set_option maxHeartbeats 2000000 in
theorem changed.calls {As At : Option Addr} {cs ct : Nat} (f : Nat) (caps : Array Value) (ss : List Sch) (ts : List Tab) (r : Res) (w : World) (hs : kSch.C w As ss.length ss) (hsl : ss.length ≤ 3000) (ht : kTab.C w At ts.length ts) (hF : TabsF ts) (hB : TabsB ts)
    (hent : ∀ (xs : Array Value) (W : World), (callFunc f xs).run Tryz.prog W = .ok (.enter f xs) W) (hdo : checkB ss ts = true → ∀ B g Bs ds Bt dt W, Below w.heap.size w W → w.heap.size ≤ B → Mine B g Bs Bt ds dt ss ts W → Calls Tryz.prog f (#[.pointer (some ⟨g, 0, none⟩)] ++ caps) W (Did B W g r)) :
    Calls Tryz.prog 51 #[.agg #[.slice As ss.length cs, .slice At ts.length ct], .func (.func f) #[] caps] w (Out w (chg ss ts r)) := by
  have HCK := Aside0.mk (fun W (hW : Below w.heap.size w W) => Check.calls (As := As) (cs := cs) (At := At) (ct := ct) ss ts W (Kd.C_below hs hW) (by omega) (Kd.C_below ht hW) hF)
  have HOW := Aside0.mk (fun W (hW : Below w.heap.size w W) => own.calls (As := As) (cs := cs) (At := At) (ct := ct) ss ts W (Kd.C_below hs hW) hsl (Kd.C_below ht hW) hB)
  have HB2 := Aside0.mk (boxes2 w (.cells #[.slice As ss.length cs, .slice At ts.length ct] 25) (.cells #[.slice none 0 0, .slice none 0 0] 25))
  have HDO := Aside0.mk hdo
  generalize hq : chg ss ts r = q
  have HQ := Aside0.mk hq
  clear hs ht hF hB hq hdo
  cases hck : checkB ss ts with
  | false =>
    have HE : Aside0 (checkE ss ts = 63) := ⟨by unfold checkE; rw [hck]; rfl⟩
    have HQ2 : Aside0 (q = (63, [], [])) := ⟨by rw [← HQ.out]; unfold chg; rw [hck]; rfl⟩
    clear hck HQ HDO HOW
    go_enter Tryz.func51, Tryz.ntmps51
    go_wp2_with fail
    refine (HCK.out _ HB2.out.1).mono ?_
    rintro e w1 ⟨rfl, hb1⟩
    rw [HE.out]
    have hK1 := blk_below HB2.out.2.1 hb1
    have hZ1 := blk_below HB2.out.2.2 hb1
    have z0 : w1.cell? ⟨w.heap.size + 1, 0, none⟩ = some (.slice none 0 0) := (blk_cell hZ1 0).trans rfl
    have z1 : w1.cell? ⟨w.heap.size + 1, 1, none⟩ = some (.slice none 0 0) := (blk_cell hZ1 1).trans rfl
    have f0 := blk_frozen hZ1 0
    have f1 := blk_frozen hZ1 1
    have HB1 := Aside0.mk (set2_below (g := w.heap.size + 1) (below_step HB2.out.1 hb1) (Nat.le_succ _) (.slice none 0 0) (.slice none 0 0))
    clear hb1 hK1 hZ1 HB2 HCK
    go_wp2
    refine bodyPost_ret (v := .tuple #[.agg #[.slice none 0 0, .slice none 0 0], .int .i64 63]) (by simp [results, Tryz.results51, go_sem, *]) rfl ?_
    rw [HQ2.out]
    exact ⟨_, _, rfl, Kd.R_nil _ _ _ _ _, Kd.R_nil _ _ _ _ _, HB1.out⟩
  | true =>
    have HE : Aside0 (checkE ss ts = 0) := ⟨by unfold checkE; rw [hck]; rfl⟩
    have HD := Aside0.mk (HDO.out hck)
    clear hck HDO
    go_enter Tryz.func51, Tryz.ntmps51
    go_wp2_with fail
    refine (HCK.out _ HB2.out.1).mono ?_
    rintro e w1 ⟨rfl, hb1⟩
    rw [HE.out]
    have hK1 := blk_below HB2.out.2.1 hb1
    have hZ1 := blk_below HB2.out.2.2 hb1
    have c0 : w1.cell? ⟨w.heap.size, 0, none⟩ = some (.slice As ss.length cs) := (blk_cell hK1 0).trans rfl
    have c1 : w1.cell? ⟨w.heap.size, 1, none⟩ = some (.slice At ts.length ct) := (blk_cell hK1 1).trans rfl
    have HB1 := Aside0.mk (below_step HB2.out.1 hb1)
    clear hb1 hK1
    go_wp2_with fail
    refine (HOW.out _ HB1.out).mono ?_
    rintro e w2 ⟨Bs, ds, Bt, dt, rfl, hR, hS, hb2⟩
    have hZ2 := blk_below hZ1 hb2
    have HZ := Aside0.mk hZ2
    have HM := Aside0.mk (show Mine w1.heap.size w2.heap.size Bs Bt ds dt ss ts (w2.alloc (.cells #[.slice Bs ss.length ds, .slice Bt ts.length dt] 25)) from ⟨hb2.size, (below_alloc hb2 _).size, blk_new w2 _, Kd.R_alloc hR _, Kd.S_alloc hS _⟩)
    have HW := Aside0.mk (below_alloc (below_step HB1.out hb2) (.cells #[.slice Bs ss.length ds, .slice Bt ts.length dt] 25))
    have HZ := Aside0.mk (And.intro (blk_alloc hZ2 (.cells #[.slice Bs ss.length ds, .slice Bt ts.length dt] 25)) (blk_lt hZ1))
    clear c0 c1 hZ1 hR hS hb2 hZ2
    go_wp2_with fail
    refine (HD.out _ _ _ _ _ _ _ HW.out HB1.out.size HM.out).mono ?_
    rintro e w3 ⟨rfl, hb3, hres⟩
    have hZ3 := (hb3.block _ HZ.out.2).trans HZ.out.1
    have z0 : w3.cell? ⟨w.heap.size + 1, 0, none⟩ = some (.slice none 0 0) := (blk_cell hZ3 0).trans rfl
    have z1 : w3.cell? ⟨w.heap.size + 1, 1, none⟩ = some (.slice none 0 0) := (blk_cell hZ3 1).trans rfl
    have f0 := blk_frozen hZ3 0
    have f1 := blk_frozen hZ3 1
    have HB3 := Aside0.mk (HW.out.trans (hb3.mono HB1.out.size))
    have HB1s := Aside0.mk HB1.out.size
    have HR := Aside0.mk hres
    have HZ3 := Aside0.mk hZ3
    clear hres hb3 HW HM HD HZ hZ3 HB2 HCK HOW HB1
    by_cases h0 : r.1 = 0
    · obtain ⟨vs, vt, hg, hRs, hRt⟩ := HR.out h0
      obtain ⟨Es, es, rfl⟩ := Kd.R_slice hRs
      obtain ⟨Et, et, rfl⟩ := Kd.R_slice hRt
      have c0 : w3.cell? ⟨w2.heap.size, 0, none⟩ = some (.slice Es r.2.1.length es) := (blk_cell hg 0).trans rfl
      have c1 : w3.cell? ⟨w2.heap.size, 1, none⟩ = some (.slice Et r.2.2.length et) := (blk_cell hg 1).trans rfl
      have HX := Aside0.mk (And.intro (R_only (Kd.R_lower hRs HB1s.out) HZ3.out (by decide) (set2_far w3 (w.heap.size + 1) (.slice Es r.2.1.length es) (.slice Et r.2.2.length et)))
        (And.intro (R_only (Kd.R_lower hRt HB1s.out) HZ3.out (by decide) (set2_far w3 (w.heap.size + 1) (.slice Es r.2.1.length es) (.slice Et r.2.2.length et)))
        (set2_below HB3.out (Nat.le_succ _) (.slice Es r.2.1.length es) (.slice Et r.2.2.length et))))
      have HQ2 := Aside0.mk (show q = r by rw [← HQ.out]; unfold chg; rw [if_pos (by have := HE.out; unfold checkE at this; split at this; assumption; cases this), if_pos h0])
      have HE0 := Aside0.mk h0
      rw [h0]
      clear h0 hg hRs hRt HR HQ HB3 HZ3
      go_wp2
      refine bodyPost_ret (v := .tuple #[.agg #[.slice Es r.2.1.length es, .slice Et r.2.2.length et], .int .i64 0]) (by simp [results, Tryz.results51, go_sem, *]) rfl ?_
      rw [HQ2.out]
      exact ⟨_, _, by rw [HE0.out], HX.out⟩
    · have hne : (r.1 == 0) = false := beq_eq_false_iff_ne.2 h0
      have hn2 : (r.1 != 0) = true := bne_iff_ne.2 h0
      have HX := Aside0.mk (set2_below (g := w.heap.size + 1) HB3.out (Nat.le_succ _) (.slice none 0 0) (.slice none 0 0))
      have HQ2 := Aside0.mk (show q = (r.1, [], []) by rw [← HQ.out]; unfold chg; rw [if_pos (by have := HE.out; unfold checkE at this; split at this; assumption; cases this), if_neg h0])
      generalize r.1 = n at *
      clear HR HQ HB3 HZ3
      go_wp2
      refine bodyPost_ret (v := .tuple #[.agg #[.slice none 0 0, .slice none 0 0], .int .i64 n]) (by simp [results, Tryz.results51, go_sem, *]) rfl ?_
      rw [HQ2.out]
      exact ⟨_, _, rfl, Kd.R_nil _ _ _ _ _, Kd.R_nil _ _ _ _ _, HX.out⟩
end Go.Proofs.YtmmiehckgkadgaaGreat.O
namespace Go.Proofs.YtmmiehckgkadgaaGreat.O
set_option linter.unusedVariables false
set_option linter.unusedSimpArgs false
open Go.RowKit Go.Proofs.YtmmiehckgkadgaaGreatW.PrintWords
def tch (ss : List Sch) (ts : List Tab) (schema table : ByteArray) (md : Tab → Int × Tab) : Res :=
  if 0 ≤ idx (isT schema table) ts then ((md (ts.getD (idx (isT schema table) ts).toNat zTab)).1, ss, ts.set (idx (isT schema table) ts).toNat (md (ts.getD (idx (isT schema table) ts).toNat zTab)).2) else (61, [], [])
def InDid (B : Nat) (W : World) (ss : List Sch) (ts : List Tab) (k : Nat) (Bs : Option Addr) (ds g dt : Nat) (r : Int × Tab) (e : Ending) (w' : World) : Prop := e = .returned (.int .i64 r.1) ∧ Below B W w' ∧ (∀ (q : Nat) (cs : Array Value), W.heap[q]? = some (.cells cs 25 (0, 0)) → w'.heap[q]? = some (.cells cs 25 (0, 0))) ∧
  (r.1 = 0 → kSch.R 76 w' B (fun _ => True) (.slice Bs ss.length ds) ss ∧ Kd.S kTab 50 w' B (fun _ => True) (.slice (some ⟨g, 0, none⟩) ts.length dt) (ts.set k r.2))
def InAsk (w : World) (B : Nat) (W : World) (ss : List Sch) (ts : List Tab) (Bs : Option Addr) (ds g dt : Nat) : Prop := Below w.heap.size w W ∧ w.heap.size ≤ B ∧ B ≤ W.heap.size ∧ kSch.R 76 W B (fun _ => True) (.slice Bs ss.length ds) ss ∧ Kd.S kTab 50 W B (fun _ => True) (.slice (some ⟨g, 0, none⟩) ts.length dt) ts
def Inner (f : Nat) (caps : Array Value) (w : World) (ss : List Sch) (ts : List Tab) (md : Tab → Int × Tab) : Prop := ∀ (k : Nat) (hk : k < ts.length) B W Bs ds g dt, InAsk w B W ss ts Bs ds g dt → Calls Tryz.prog f (#[.agg #[.slice Bs ss.length ds, .slice (some ⟨g, 0, none⟩) ts.length dt], .pointer (some ⟨g, k * 5, none⟩)] ++ caps) W (InDid B W ss ts k Bs ds g dt (md ts[k]))
theorem keep5 {w0 w w' : World} {v0 v1 v2 v3 v4 : Value} {a0 a1 a2 a3 a4 : Addr} (h : w.cell? a0 = some v0 ∧ w.cell? a1 = some v1 ∧ w.cell? a2 = some v2 ∧ w.cell? a3 = some v3 ∧ w.cell? a4 = some v4 ∧ Below w0.heap.size w0 w) (hb : Below w.heap.size w w') : w'.cell? a0 = some v0 ∧ w'.cell? a1 = some v1 ∧ w'.cell? a2 = some v2 ∧ w'.cell? a3 = some v3 ∧ w'.cell? a4 = some v4 ∧ Below w0.heap.size w0 w' :=
  ⟨pw_cell_below hb h.1, pw_cell_below hb h.2.1, pw_cell_below hb h.2.2.1, pw_cell_below hb h.2.2.2.1, pw_cell_below hb h.2.2.2.2.1, below_step h.2.2.2.2.2 hb⟩
set_option maxRecDepth 20000 in
set_option maxHeartbeats 2000000 in
theorem tableChanged1.calls (f : Nat) (caps : Array Value) (hent : ∀ (xs : Array Value) (W : World), (callFunc f xs).run Tryz.prog W = .ok (.enter f xs) W) (ss : List Sch) (ts : List Tab) (schema table : ByteArray) (md : Tab → Int × Tab) (w : World) (p1 p2 p3 : Nat)
    (h1 : w.cell? ⟨p1, 0, none⟩ = some (.string schema)) (h2 : w.cell? ⟨p2, 0, none⟩ = some (.string table)) (h3 : w.cell? ⟨p3, 0, none⟩ = some (.func (.func f) #[] caps)) (hln : ts.length ≤ 3000) (hin : Inner f caps w ss ts md)
    (B g : Nat) (Bs : Option Addr) (ds : Nat) (Bt : Option Addr) (dt : Nat) (W : World) (hW : Below w.heap.size w W) (hwB : w.heap.size ≤ B) (hM : Mine B g Bs Bt ds dt ss ts W) :
    Calls Tryz.prog 79 (#[.pointer (some ⟨g, 0, none⟩)] ++ #[.pointer (some ⟨p1, 0, none⟩), .pointer (some ⟨p2, 0, none⟩), .pointer (some ⟨p3, 0, none⟩)]) W (Did B W g (tch ss ts schema table md)) := by
  show Calls Tryz.prog 79 #[.pointer (some ⟨g, 0, none⟩), .pointer (some ⟨p1, 0, none⟩), .pointer (some ⟨p2, 0, none⟩), .pointer (some ⟨p3, 0, none⟩)] W _
  obtain ⟨hBg, hBW, hG, hR, hS⟩ := hM
  have e1 := pw_cell_below hW h1
  have e2 := pw_cell_below hW h2
  have e3 := pw_cell_below hW h3
  have l1 := Nat.lt_of_lt_of_le (World.block_lt_of_cell? w _ h1) hwB
  have g0 : W.cell? ⟨g, 0, none⟩ = some (.slice Bs ss.length ds) := (blk_cell hG 0).trans rfl
  have g1 : W.cell? ⟨g, 1, none⟩ = some (.slice Bt ts.length dt) := (blk_cell hG 1).trans rfl
  have HWH := Aside0.mk (fun W' (hW' : Below W.heap.size W W') => where.calls (As := Bs) (ns := ss.length) (cs := ds) (At := Bt) (ct := dt) ts schema table W' (Kd.C_below (Kd.S_reads' hS).2.2 hW') (by omega))
  have HI := Aside0.mk hin
  have HG := Aside0.mk hG
  have HRS := Aside0.mk (And.intro hR hS)
  have HW := Aside0.mk (And.intro hW (And.intro hwB (And.intro hBW hBg)))
  have L3 := Aside0.mk (Nat.lt_of_lt_of_le (World.block_lt_of_cell? w _ h3) hwB)
  clear h1 h2 h3 hin hG hR hS hW hwB hBW hBg l1
  rcases idx_cases (isT schema table) ts with ⟨k, hk, hi, hx1, hx2⟩ | ⟨hi, hx1⟩
  · have HT := Aside0.mk (show tch ss ts schema table md = ((md ts[k]).1, ss, ts.set k (md ts[k]).2) by
      unfold tch; rw [hi, if_pos (by omega), Int.toNat_natCast, List.getD_eq_getElem?_getD, List.getElem?_eq_getElem hk]; rfl)
    rw [hi] at HWH
    clear hi hx1 hx2
    obtain ⟨gt, rfl⟩ : ∃ gt, Bt = some ⟨gt, 0, none⟩ := by
      obtain ⟨gt, cap, hv, _⟩ := Kd.S_form HRS.out.2 (by omega)
      injection hv with hA _ _
      exact ⟨gt, hA⟩
    have hb : decide ((0 : Int) ≤ (k : Int)) = true := decide_eq_true (by omega)
    go_enter Tryz.func79, Tryz.ntmps79
    go_wp2
    go_region_held3 (fun w' => w'.cell? ⟨p1, 0, none⟩ = some (.string schema) ∧ w'.cell? ⟨p2, 0, none⟩ = some (.string table) ∧ w'.cell? ⟨p3, 0, none⟩ = some (.func (.func f) #[] caps) ∧ w'.cell? ⟨g, 0, none⟩ = some (.slice Bs ss.length ds) ∧ w'.cell? ⟨g, 1, none⟩ = some (.slice (some ⟨gt, 0, none⟩) ts.length dt) ∧ Below W.heap.size W w')
      (first | exact keep5 (by assumption) (by assumption) | exact ⟨e1, e2, e3, g0, g1, below_drew (Below.refl _ _)⟩)
      (first | (go_at_call 73; refine (HWH.out _ ?_).mono ?_; exact below_drew (Below.refl _ _); rintro e w' ⟨rfl, hbx⟩))
    rename_i hH
    obtain ⟨d1, d2, d3, d0, d4, hb1⟩ := hH
    have h0 : (0 : Int) ≤ (k : Int) := by omega
    have h1 : (k : Int) < (ts.length : Int) := by omega
    have HB1 := Aside0.mk hb1
    have HR1 := Aside0.mk (Kd.R_below HRS.out.1 hb1)
    have HS1 := Aside0.mk (Kd.S_below HRS.out.2 hb1)
    have HG1 := Aside0.mk (blk_below HG.out hb1)
    clear e1 e2 e3 g0 g1 hb1 hbx HRS HG HWH
    have HA := Aside0.mk (HI.out k hk B w'.drew Bs ds gt dt ⟨below_drew (below_step HW.out.1 HB1.out), HW.out.2.1, Nat.le_trans HW.out.2.2.1 HB1.out.size, Kd.R_drew HR1.out, Kd.S_drew HS1.out⟩)
    clear HI HR1 HS1 d1 d2
    go_wp2
    go_region_held3 (fun w'' => w''.cell? ⟨p3, 0, none⟩ = some (.func (.func f) #[] caps) ∧ w''.cell? ⟨g, 0, none⟩ = some (.slice Bs ss.length ds) ∧ w''.cell? ⟨g, 1, none⟩ = some (.slice (some ⟨gt, 0, none⟩) ts.length dt))
      (first | exact ⟨(hb2.cell (p := ⟨p3, 0, none⟩) L3.out).trans d3, (blk_cell (hq _ _ HG1.out) 0).trans rfl, (blk_cell (hq _ _ HG1.out) 1).trans rfl⟩ | exact ⟨d3, d0, d4⟩)
      (first | (refine HA.out.mono ?_; rintro e w2 ⟨rfl, hb2, hq, hres⟩))
    have HX := Aside0.mk (And.intro ((below_drew (HB1.out.mono HW.out.2.2.1)).trans hb2) (And.intro (hq _ _ HG1.out) hres))
    clear hb2 hq hres d3 d0 d4
    go_wp2
    go_ret
    rw [HT.out]
    refine ⟨rfl, HX.out.1, fun h => ⟨_, _, HX.out.2.1, (HX.out.2.2 h).1, Kd.S_R ?_⟩⟩
    exact (HX.out.2.2 h).2
  · have HT := Aside0.mk (show tch ss ts schema table md = (61, [], []) by unfold tch; rw [hi, if_neg (by omega)])
    rw [hi] at HWH
    clear hi hx1
    have hb : decide ((0 : Int) ≤ -1) = false := rfl
    go_enter Tryz.func79, Tryz.ntmps79
    go_wp2
    go_region_held3 (fun w' => w'.cell? ⟨p1, 0, none⟩ = some (.string schema) ∧ w'.cell? ⟨p2, 0, none⟩ = some (.string table) ∧ w'.cell? ⟨p3, 0, none⟩ = some (.func (.func f) #[] caps) ∧ w'.cell? ⟨g, 0, none⟩ = some (.slice Bs ss.length ds) ∧ w'.cell? ⟨g, 1, none⟩ = some (.slice Bt ts.length dt) ∧ Below W.heap.size W w')
      (first | exact keep5 (by assumption) (by assumption) | exact ⟨e1, e2, e3, g0, g1, below_drew (Below.refl _ _)⟩)
      (first | (go_at_call 73; refine (HWH.out _ ?_).mono ?_; exact below_drew (Below.refl _ _); rintro e w' ⟨rfl, hbx⟩))
    rename_i hH
    have HB1 := Aside0.mk (show Below B W w' from hH.2.2.2.2.2.mono HW.out.2.2.1)
    clear hH e1 e2 e3 g0 g1 hbx HRS HG HWH
    go_wp2
    go_ret
    rw [HT.out]
    exact ⟨rfl, HB1.out, fun h => by cases h⟩
theorem enters {f : Nat} {fn : Func} (hf : Tryz.prog.funcs[f]? = some fn) (hname : (fn.name == "runtime.NumGoroutine") = false) (hb : fn.body.isSome = true) : ∀ (xs : Array Value) (W : World), (callFunc f xs).run Tryz.prog W = .ok (.enter f xs) W := fun xs W => Go.Proofs.YtmmiehckgkadgaaGreatW.PrintLast.enters_ hf hname hb xs W
theorem boxes5 (w : World) (o1 o2 o3 o4 o5 : Obj) : Below w.heap.size w (((((w.alloc o1).alloc o2).alloc o3).alloc o4).alloc o5) ∧ (((((w.alloc o1).alloc o2).alloc o3).alloc o4).alloc o5).heap[w.heap.size]? = some o1 ∧ (((((w.alloc o1).alloc o2).alloc o3).alloc o4).alloc o5).heap[w.heap.size + 1]? = some o2 ∧ (((((w.alloc o1).alloc o2).alloc o3).alloc o4).alloc o5).heap[w.heap.size + 1 + 1]? = some o3 ∧ (((((w.alloc o1).alloc o2).alloc o3).alloc o4).alloc o5).heap[w.heap.size + 1 + 1 + 1]? = some o4 ∧ (((((w.alloc o1).alloc o2).alloc o3).alloc o4).alloc o5).heap[w.heap.size + 1 + 1 + 1 + 1]? = some o5 := by
  obtain ⟨h0, h1, h2, h3⟩ := boxes3 w o1 o2 o3
  have e : (((w.alloc o1).alloc o2).alloc o3).heap.size = w.heap.size + 1 + 1 + 1 := by simp
  obtain ⟨k0, k1, k2⟩ := boxes2 (((w.alloc o1).alloc o2).alloc o3) o4 o5
  rw [e] at k1 k2
  exact ⟨below_step h0 k0, blk_below h1 k0, blk_below h2 k0, blk_below h3 k0, k1, k2⟩
theorem Out.wrap {w W w1 : World} {g : Nat} {vs vt : Value} {ss : List Sch} {ts : List Tab} (hW : Below w.heap.size w W) (hg : w.heap.size ≤ g) (hZ : W.heap[g]? = some (.cells #[.slice none 0 0, .slice none 0 0] 25 (0, 0))) (hs : kSch.R 76 w1 W.heap.size (fun _ => True) vs ss) (ht : kTab.R 50 w1 W.heap.size (fun _ => True) vt ts) (hb : Below W.heap.size W w1) :
    kSch.R 76 ((w1.setCell ⟨g, 0, none⟩ vs).setCell ⟨g, 1, none⟩ vt) w.heap.size (fun _ => True) vs ss ∧ kTab.R 50 ((w1.setCell ⟨g, 0, none⟩ vs).setCell ⟨g, 1, none⟩ vt) w.heap.size (fun _ => True) vt ts ∧ Below w.heap.size w ((w1.setCell ⟨g, 0, none⟩ vs).setCell ⟨g, 1, none⟩ vt) :=
  ⟨R_only (Kd.R_lower hs hW.size) (blk_below hZ hb) (by decide) (set2_far w1 g vs vt), R_only (Kd.R_lower ht hW.size) (blk_below hZ hb) (by decide) (set2_far w1 g vs vt), set2_below (below_step hW hb) hg vs vt⟩
set_option maxRecDepth 20000 in
set_option maxHeartbeats 2000000 in
theorem tableChanged.calls {As At : Option Addr} {cs ct : Nat} (f : Nat) (caps : Array Value) (hent : ∀ (xs : Array Value) (W : World), (callFunc f xs).run Tryz.prog W = .ok (.enter f xs) W) (ss : List Sch) (ts : List Tab) (schema table : ByteArray) (md : Tab → Int × Tab) (w : World) (hs : kSch.C w As ss.length ss) (hsl : ss.length ≤ 3000) (ht : kTab.C w At ts.length ts) (hF : TabsF ts) (hB : TabsB ts)
    (hin : checkB ss ts = true → Inner f caps w ss ts md) :
    Calls Tryz.prog 26 #[.agg #[.slice As ss.length cs, .slice At ts.length ct], .string schema, .string table, .func (.func f) #[] caps] w (Out w (chg ss ts (tch ss ts schema table md))) := by
  have H5 := Aside0.mk (boxes5 w (.cells #[.slice As ss.length cs, .slice At ts.length ct] 25) (.cells #[.string schema] 9) (.cells #[.string table] 9) (.cells #[.func (.func f) #[] caps] 65) (.cells #[.slice none 0 0, .slice none 0 0] 25))
  have HCH := Aside0.mk (fun (W : World) (hW : Below w.heap.size w W) (p1 p2 p3 : Nat) (h1 : W.cell? ⟨p1, 0, none⟩ = some (.string schema)) (h2 : W.cell? ⟨p2, 0, none⟩ = some (.string table)) (h3 : W.cell? ⟨p3, 0, none⟩ = some (.func (.func f) #[] caps)) =>
    changed.calls (As := As) (At := At) (cs := cs) (ct := ct) 79 #[.pointer (some ⟨p1, 0, none⟩), .pointer (some ⟨p2, 0, none⟩), .pointer (some ⟨p3, 0, none⟩)] ss ts (tch ss ts schema table md) W (Kd.C_below hs hW) hsl (Kd.C_below ht hW) hF hB (enters Tryz.func79 (by decide) rfl)
      (fun hck B g Bs ds Bt dt W2 hW2 hle hM => tableChanged1.calls f caps hent ss ts schema table md W p1 p2 p3 h1 h2 h3 hB.1 (fun k hk B W' Bs' ds' g' dt' hA => hin hck k hk B W' Bs' ds' g' dt' ⟨below_step hW hA.1, Nat.le_trans hW.size hA.2.1, hA.2.2⟩) B g Bs ds Bt dt W2 hW2 hle hM))
  clear hs ht hF hB hin
  generalize hq : chg ss ts (tch ss ts schema table md) = q at *
  clear hq
  go_enter Tryz.func26, Tryz.ntmps26
  go_wp2_with fail
  refine (HCH.out _ H5.out.1 (w.heap.size + 1) (w.heap.size + 1 + 1) (w.heap.size + 1 + 1 + 1) ((blk_cell H5.out.2.2.1 0).trans rfl) ((blk_cell H5.out.2.2.2.1 0).trans rfl) ((blk_cell H5.out.2.2.2.2.1 0).trans rfl)).mono ?_
  rintro e w1 ⟨vs, vt, rfl, h1, h2, hb⟩
  obtain ⟨Es, es, rfl⟩ := Kd.R_slice h1
  obtain ⟨Et, et, rfl⟩ := Kd.R_slice h2
  have hZ1 := blk_below H5.out.2.2.2.2.2 hb
  have z0 : w1.cell? ⟨w.heap.size + 1 + 1 + 1 + 1, 0, none⟩ = some (.slice none 0 0) := (blk_cell hZ1 0).trans rfl
  have z1 : w1.cell? ⟨w.heap.size + 1 + 1 + 1 + 1, 1, none⟩ = some (.slice none 0 0) := (blk_cell hZ1 1).trans rfl
  have f0 := blk_frozen hZ1 0
  have f1 := blk_frozen hZ1 1
  have HX := Aside0.mk (Out.wrap (g := w.heap.size + 1 + 1 + 1 + 1) H5.out.1 (by omega) H5.out.2.2.2.2.2 h1 h2 hb)
  clear h1 h2 hb hZ1 H5 HCH
  go_wp2
  refine bodyPost_ret (v := .tuple #[.agg #[.slice Es q.2.1.length es, .slice Et q.2.2.length et], .int .i64 q.1]) (by simp [results, Tryz.results26, go_sem, *]) rfl ?_
  exact ⟨_, _, rfl, HX.out⟩
end Go.Proofs.YtmmiehckgkadgaaGreat.O
namespace Go.Proofs.YtmmiehckgkadgaaGreat.O
set_option linter.unusedVariables false
set_option linter.unusedSimpArgs false
open Go.RowKit Go.Proofs.YtmmiehckgkadgaaGreatW.PrintWords
theorem chg_bad {ss : List Sch} {ts : List Tab} (r : Res) (h : checkB ss ts = false) : chg ss ts r = (63, [], []) := by unfold chg; rw [h]; rfl
end Go.Proofs.YtmmiehckgkadgaaGreat.O
namespace Go.Proofs.YtmmiehckgkadgaaGreat.O
set_option linter.unusedVariables false
set_option linter.unusedSimpArgs false
open Go.RowKit Go.Proofs.YtmmiehckgkadgaaGreatW.PrintWords
theorem S_addr {B : Nat} {Bt : Option Addr} {dt n : Nat} {W : World} {ts : List Tab} (h : Kd.S kTab 50 W B (fun _ => True) (.slice Bt n dt) ts) (hk : 0 < ts.length) : ∃ g, Bt = some ⟨g, 0, none⟩ := by
  obtain ⟨gt, cap, hv, _⟩ := Kd.S_form h hk
  injection hv with hA _ _
  exact ⟨gt, hA⟩
end Go.Proofs.YtmmiehckgkadgaaGreat.O
namespace Go.Proofs.YtmmiehckgkadgaaGreat.O
set_option linter.unusedVariables false
set_option linter.unusedSimpArgs false
open Go.RowKit Go.Proofs.YtmmiehckgkadgaaGreatW.PrintWords
theorem S_table2 {B g dt : Nat} {W : World} {ts : List Tab} (h : Kd.S kTab 50 W B (fun _ => True) (.slice (some ⟨g, 0, none⟩) ts.length dt) ts) (k : Nat) (hk : k < ts.length) : ∃ (oki : Nat → Prop) (v3 v4 : Value),
    W.cell? ⟨g, k * 5, none⟩ = some (.string ts[k].schema) ∧ W.cell? ⟨g, k * 5 + 1, none⟩ = some (.string ts[k].name) ∧ W.cell? ⟨g, k * 5 + 2, none⟩ = some (.string ts[k].owner) ∧ W.cell? ⟨g, k * 5 + 3, none⟩ = some v3 ∧ W.cell? ⟨g, k * 5 + 4, none⟩ = some v4 ∧ (∀ j, W.frozen? ⟨g, k * 5 + j, none⟩ = false) ∧
    kCol.R 41 W B oki v3 ts[k].cols ∧ kRul.R 29 W B oki v4 ts[k].rules ∧ (∀ q, oki q → q ≠ g ∧ q < W.heap.size ∧ B ≤ q) ∧ Kd.H kTab 50 W B (fun q => True ∧ ¬ (W.heap.size ≤ q)) (.slice (some ⟨g, 0, none⟩) ts.length dt) ts (k : Int) oki [.string ts[k].schema, .string ts[k].name, .string ts[k].owner, v3, v4] := by
  obtain ⟨oki, c, hcl, hM, hc, hf, ho, hH⟩ := Kd.S_elem (Kd.S_bound h) zTab (k : Int) (by omega) (by omega)
  rw [Int.toNat_natCast, List.getD_eq_getElem?_getD, List.getElem?_eq_getElem hk] at hM
  rw [Int.toNat_natCast] at hc hf
  obtain ⟨v3, v4, rfl, h3, h4⟩ := kTab_openM hM
  exact ⟨oki, v3, v4, hc 0 _ rfl, hc 1 _ rfl, hc 2 _ rfl, hc 3 _ rfl, hc 4 _ rfl, hf, h3, h4, fun q hq => ⟨(ho q hq).2, (ho q hq).1.2.2.1, (ho q hq).1.2.1⟩, Kd.H_mono hH (fun q hq => ⟨trivial, Nat.not_le_of_lt hq.2.2.1⟩)⟩
theorem S_cols {B g dt : Nat} {W : World} {ts : List Tab} (h : Kd.S kTab 50 W B (fun _ => True) (.slice (some ⟨g, 0, none⟩) ts.length dt) ts) (k : Nat) (hk : k < ts.length) : ∃ (oki : Nat → Prop) (A3 : Option Addr) (c3 : Nat),
    W.cell? ⟨g, k * 5 + 3, none⟩ = some (.slice A3 ts[k].cols.length c3) ∧ W.frozen? ⟨g, k * 5 + 3, none⟩ = false ∧ kCol.R 41 W B oki (.slice A3 ts[k].cols.length c3) ts[k].cols ∧ (∀ q, oki q → q ≠ g ∧ q < W.heap.size ∧ B ≤ q) ∧
    ∀ (w1 : World) (v1 : Value) (cols : List Col), W.grownBy w1 (Value.slice A3 ts[k].cols.length c3).ownBlock → kCol.R 41 w1 B (fun q => oki q ∨ W.heap.size ≤ q) v1 cols →
      w1.cell? ⟨g, k * 5 + 3, none⟩ = some (.slice A3 ts[k].cols.length c3) ∧ w1.frozen? ⟨g, k * 5 + 3, none⟩ = false ∧ (∃ cells, w1.heap[g]? = some (.cells cells 50 (0, 0))) ∧ Kd.S kTab 50 (w1.setCell ⟨g, k * 5 + 3, none⟩ v1) B (fun _ => True) (.slice (some ⟨g, 0, none⟩) ts.length dt) (ts.set k { ts[k] with cols := cols }) := by
  obtain ⟨oki, v3, v4, c0, c1, c2, c3, c4, hf, h3, h4, ho, hH⟩ := S_table2 h k hk
  obtain ⟨A3, d3, rfl⟩ := Kd.R_slice h3
  refine ⟨oki, A3, d3, c3, hf 3, h3, ho, fun w1 v1 cols hg hR => ?_⟩
  obtain ⟨cells, hgc⟩ := Kd.S_typed h g rfl
  have hne : some g ≠ (Value.slice A3 ts[k].cols.length d3).ownBlock := fun e => (ho g (h3.1 g e.symm)).1 rfl
  have hg1 := blk_grown hgc hg hne
  obtain ⟨A1, n1, rfl⟩ := Kd.R_slice hR
  have hlt : g < W.heap.size := blk_lt hgc
  have hH1 := Kd.H_grown hH hg (fun q hq => h3.1 q hq)
  have h41 := Kd.R_over' h4 (Kd.R_typed h3) (by decide) hg
  have hseg := Kd.S_seg (ok := fun _ => True) (okg := fun q => W.heap.size ≤ q) (okp := fun q => oki q ∨ W.heap.size ≤ q) hH1 (by omega) (by omega) (j := 3) (seg := [.slice A1 cols.length n1]) (Nat.le_of_ble_eq_true rfl) (x' := { ts[k] with cols := cols }) (kTab_mkM _ _ _ { ts[k] with cols := cols } hR (Kd.R_mono h41 (fun q hq => .inl hq))) (fun q hq => hq) (fun q hq => ⟨trivial, by omega⟩)
  rw [Int.toNat_natCast, show w1.setCells g (k * kTab.sz + 3) [.slice A1 cols.length n1] = w1.setCell ⟨g, k * 5 + 3, none⟩ (.slice A1 cols.length n1) from rfl] at hseg
  refine ⟨?_, blk_frozen hg1 _, ⟨cells, hg1⟩, hseg.1⟩
  rw [blk_cell hg1, ← blk_cell hgc]; exact c3
theorem S_rules {B g dt : Nat} {W : World} {ts : List Tab} (h : Kd.S kTab 50 W B (fun _ => True) (.slice (some ⟨g, 0, none⟩) ts.length dt) ts) (k : Nat) (hk : k < ts.length) : ∃ (oki : Nat → Prop) (A4 : Option Addr) (c4 : Nat),
    W.cell? ⟨g, k * 5 + 4, none⟩ = some (.slice A4 ts[k].rules.length c4) ∧ W.frozen? ⟨g, k * 5 + 4, none⟩ = false ∧ kRul.R 29 W B oki (.slice A4 ts[k].rules.length c4) ts[k].rules ∧ (∀ q, oki q → q ≠ g ∧ q < W.heap.size ∧ B ≤ q) ∧
    ∀ (w1 : World) (v1 : Value) (rules : List Rul), W.grownBy w1 (Value.slice A4 ts[k].rules.length c4).ownBlock → kRul.R 29 w1 B (fun q => oki q ∨ W.heap.size ≤ q) v1 rules →
      w1.cell? ⟨g, k * 5 + 4, none⟩ = some (.slice A4 ts[k].rules.length c4) ∧ w1.frozen? ⟨g, k * 5 + 4, none⟩ = false ∧ (∃ cells, w1.heap[g]? = some (.cells cells 50 (0, 0))) ∧ Kd.S kTab 50 (w1.setCell ⟨g, k * 5 + 4, none⟩ v1) B (fun _ => True) (.slice (some ⟨g, 0, none⟩) ts.length dt) (ts.set k { ts[k] with rules := rules }) := by
  obtain ⟨oki, v3, v4, c0, c1, c2, c3, c4, hf, h3, h4, ho, hH⟩ := S_table2 h k hk
  obtain ⟨A4, d4, rfl⟩ := Kd.R_slice h4
  refine ⟨oki, A4, d4, c4, hf 4, h4, ho, fun w1 v1 rules hg hR => ?_⟩
  obtain ⟨cells, hgc⟩ := Kd.S_typed h g rfl
  have hne : some g ≠ (Value.slice A4 ts[k].rules.length d4).ownBlock := fun e => (ho g (h4.1 g e.symm)).1 rfl
  have hg1 := blk_grown hgc hg hne
  obtain ⟨A1, n1, rfl⟩ := Kd.R_slice hR
  have hlt : g < W.heap.size := blk_lt hgc
  have hH1 := Kd.H_grown hH hg (fun q hq => h4.1 q hq)
  have h31 := Kd.R_over' h3 (Kd.R_typed h4) (by decide) hg
  have hseg := Kd.S_seg (ok := fun _ => True) (okg := fun q => W.heap.size ≤ q) (okp := fun q => oki q ∨ W.heap.size ≤ q) hH1 (by omega) (by omega) (j := 4) (seg := [.slice A1 rules.length n1]) (Nat.le_of_ble_eq_true rfl) (x' := { ts[k] with rules := rules }) (kTab_mkM _ _ _ { ts[k] with rules := rules } (Kd.R_mono h31 (fun q hq => .inl hq)) hR) (fun q hq => hq) (fun q hq => ⟨trivial, by omega⟩)
  rw [Int.toNat_natCast, show w1.setCells g (k * kTab.sz + 4) [.slice A1 rules.length n1] = w1.setCell ⟨g, k * 5 + 4, none⟩ (.slice A1 rules.length n1) from rfl] at hseg
  refine ⟨?_, blk_frozen hg1 _, ⟨cells, hg1⟩, hseg.1⟩
  rw [blk_cell hg1, ← blk_cell hgc]; exact c4
end Go.Proofs.YtmmiehckgkadgaaGreat.O
