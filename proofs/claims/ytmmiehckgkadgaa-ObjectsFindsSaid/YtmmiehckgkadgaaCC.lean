/- objects.own: objects in memory of their own. -/
import Derived.Test.YtmmiehckgkadgaaCB
import Derived.Deep.RegionLaw
namespace Go.Proofs.Ytmmiehckgkadgaa.O
set_option linter.unusedVariables false
set_option linter.unusedSimpArgs false
open Go.RowKit Go.Proofs.YtmmiehckgkadgaaW.PrintWords

def TabsB (ts : List Tab) : Prop := ts.length ≤ 3000 ∧ ∀ t ∈ ts, TabB t
theorem tabAt {w : World} {A : Option Addr} {n : Nat} {xs : List Tab} (h : kTab.C w A n xs) (j : Nat) (hj : j < xs.length) : ∃ ad A3 c3 A4 c4, A = some ad ∧ w.cell? (ad.add (j * 5)) = some (.string xs[j].schema) ∧ w.cell? ⟨(ad.add (j * 5)).block, (ad.add (j * 5)).off + 1, none⟩ = some (.string xs[j].name) ∧ w.cell? ⟨(ad.add (j * 5)).block, (ad.add (j * 5)).off + 2, none⟩ = some (.string xs[j].owner) ∧ w.cell? ⟨(ad.add (j * 5)).block, (ad.add (j * 5)).off + 3, none⟩ = some (.slice A3 xs[j].cols.length c3) ∧ w.cell? ⟨(ad.add (j * 5)).block, (ad.add (j * 5)).off + 4, none⟩ = some (.slice A4 xs[j].rules.length c4) ∧ xs[j].cols.length ≤ c3 ∧ kCol.C w A3 xs[j].cols.length xs[j].cols ∧ xs[j].rules.length ≤ c4 ∧ kRul.C w A4 xs[j].rules.length xs[j].rules := by
  have h1 := atTab h (j : Int) (by omega) (by have := h.1; omega)
  rw [show rdTab xs (j : Int) = xs[j] by simp [rdTab, List.getD_eq_getElem?_getD, List.getElem?_eq_getElem hj], Int.toNat_natCast] at h1
  exact h1
section
variable {ops : Array Oper} {o : Oper} {a : Act} {Q : Exit → Act → World → Prop} {Kc : Act → World → Prop}
/-- append(v, x), x a copy of t that was made since W0 -/
theorem append_tab {w0 W0 W : World} (base : Nat) (hw : Region.wanted o (yielded ops a.tmps) = true) (s x : Operand) (ho : o.op = .call { callee := .builtin .append, args := #[s, x], argTypes := #[24, 24] })
    (v : Value) (xs : List Tab) (t : Tab) (B3 B4 : Option Addr) (d3 d4 : Nat) (hs : a.eval s = v) (hx : a.eval x = .slice (some ⟨W.heap.size, 0, none⟩) 1 1)
    (HS : Kd.S kTab 35 W0 base (fun _ => True) v xs) (hb : Below W0.heap.size W0 W) (h3 : kCol.R 41 W W0.heap.size (fun _ => True) (.slice B3 t.cols.length d3) t.cols) (h4 : kRul.R 57 W W0.heap.size (fun _ => True) (.slice B4 t.rules.length d4) t.rules)
    (HB : Below base w0 W) (hbase : base ≤ W0.heap.size) (hl : xs.length ≤ 100000)
    (h : ∀ v1 w1, Kd.S kTab 35 w1 base (fun _ => True) v1 (xs ++ [t]) → Below base w0 w1 → W.grownBy w1 v.ownBlock → Kc (a.put o.dst v1) w1) :
    if Region.wanted o (yielded ops a.tmps) = true then Oper.wp Try.prog o a (W.alloc (.cells #[.string t.schema, .string t.name, .string t.owner, .slice B3 t.cols.length d3, .slice B4 t.rules.length d4] 35)) Kc Q else Kc (a.put o.dst undef) (W.alloc (.cells #[.string t.schema, .string t.name, .string t.owner, .slice B3 t.cols.length d3, .slice B4 t.rules.length d4] 35)) := by
  refine Kd.S_append_step kTab base hw s x 24 35 (.agg #[(.string ⟨#[]⟩), (.string ⟨#[]⟩), (.string ⟨#[]⟩), (.slice none 0 0), (.slice none 0 0)]) 96 ho Try.underlying24 infoTab rfl (by decide) (by decide) v xs t [.string t.schema, .string t.name, .string t.owner, .slice B3 t.cols.length d3, .slice B4 t.rules.length d4]
    (fun _ => True) (fun q => W0.heap.size ≤ q) hs hx ?_ ?_ (fun _ _ => trivial) ?_ HB (Nat.le_trans hbase hb.size) (by omega) (fun v1 w1 hS hB hg _ => h v1 w1 hS hB hg)
  · exact kTab_mkM _ _ _ t (Kd.R_lower (Kd.R_mono (Kd.R_bound h3) (fun q hq => hq.2.1)) hbase) (Kd.R_lower (Kd.R_mono (Kd.R_bound h4) (fun q hq => hq.2.1)) hbase)
  · exact fun q hq => ⟨trivial, fun he => by have := Kd.S_lt HS q he.symm; omega⟩
  · exact Kd.S_mono (Kd.S_old HS hb) (fun q hq => ⟨trivial, Nat.not_le_of_lt hq.2⟩)
end
theorem copied.at_ (t : Tab) {A3 A4 : Option Addr} {c3 c4 : Nat} (w : World) (h3 : kCol.C w A3 t.cols.length t.cols) (h4 : kRul.C w A4 t.rules.length t.rules) (hF : TabB t) (W : World) (hW : Below w.heap.size w W) :
    Calls Try.prog 52 #[.agg #[.string t.schema, .string t.name, .string t.owner, .slice A3 t.cols.length c3, .slice A4 t.rules.length c4]] W fun e w' => ∃ B3 d3 B4 d4, e = .returned (.agg #[.string t.schema, .string t.name, .string t.owner, .slice B3 t.cols.length d3, .slice B4 t.rules.length d4]) ∧ kCol.R 41 w' W.heap.size (fun _ => True) (.slice B3 t.cols.length d3) t.cols ∧ kRul.R 57 w' W.heap.size (fun _ => True) (.slice B4 t.rules.length d4) t.rules ∧ Below W.heap.size W w' := by
  refine (copied.calls t W (Kd.C_below h3 hW) (Kd.C_below h4 hW) hF).mono ?_
  rintro e w' ⟨v3, v4, rfl, h3, h4, hb⟩
  obtain ⟨B3, d3, rfl⟩ := Kd.R_slice h3
  obtain ⟨B4, d4, rfl⟩ := Kd.R_slice h4
  exact ⟨B3, d3, B4, d4, rfl, h3, h4, hb⟩

def OwnI (As At : Option Addr) (cs ct : Nat) (ss : List Sch) (ts : List Tab) (w : World) (g : Nat) (Bs : Option Addr) (ds : Nat) (W : World) (k : Nat) : Prop :=
  ∃ (Bt : Option Addr) (dt : Nat), Below w.heap.size w W ∧ W.heap[w.heap.size + 1]? = some (.cells #[.slice none 0 0, .slice none 0 0] 26 (0, 0)) ∧ W.heap[g]? = some (.cells #[.slice Bs ss.length ds, .slice Bt k dt] 26 (0, 0)) ∧
    kSch.R 63 W w.heap.size (fun _ => True) (.slice Bs ss.length ds) ss ∧ Kd.S kTab 35 W w.heap.size (fun _ => True) (.slice Bt k dt) (ts.take k)
theorem OwnI.next {As At : Option Addr} {cs ct : Nat} {ss : List Sch} {ts : List Tab} {w wr w2 w3 : World} {g : Nat} {Bs Bt B1 : Option Addr} {ds dt d1 k : Nat} (hlt : k < ts.length) (hgw : w.heap.size + 1 ≠ g) (hge : w.heap.size ≤ g)
    (hZ : wr.heap[w.heap.size + 1]? = some (.cells #[.slice none 0 0, .slice none 0 0] 26 (0, 0))) (hR : kSch.R 63 wr w.heap.size (fun _ => True) (.slice Bs ss.length ds) ss) (hS : Kd.S kTab 35 wr w.heap.size (fun _ => True) (.slice Bt k dt) (ts.take k))
    (hb : Below wr.heap.size wr w2) (hG : w3.heap[g]? = some (.cells #[.slice Bs ss.length ds, .slice Bt k dt] 26 (0, 0))) (hS3 : Kd.S kTab 35 w3 w.heap.size (fun _ => True) (.slice B1 (k + 1) d1) (ts.take k ++ [ts[k]])) (hB3 : Below w.heap.size w w3) (hg3 : w2.grownBy w3 (Value.slice Bt k dt).ownBlock) :
    OwnI As At cs ct ss ts w g Bs ds (w3.setCell ⟨g, 1, none⟩ (.slice B1 (k + 1) d1)) (k + 1) := by
  have hS2 := Kd.S_below hS hb
  have hZ2 := blk_below hZ hb
  have hZ3 := blk_grown hZ2 hg3 (Kd.S_ne hS2 hZ2 (by decide))
  refine ⟨B1, d1, below_set hB3 hge, blk_far (p := ⟨g, 1, none⟩) hZ3 hgw _, blk_set hG 1 _, Kd.R_set (Kd.R_over' (Kd.R_below hR hb) (Kd.S_typed hS2) (by decide) hg3) hG (by decide) 1 _, ?_⟩
  rw [List.take_succ_eq_append_getElem hlt]
  exact Kd.S_set hS3 hG (by decide) 1 _
set_option maxRecDepth 20000 in
set_option maxHeartbeats 2000000 in
theorem own.calls {As At : Option Addr} {cs ct : Nat} (ss : List Sch) (ts : List Tab) (w : World) (hs : kSch.C w As ss.length ss) (hsl : ss.length ≤ 3000) (ht : kTab.C w At ts.length ts) (hF : TabsB ts) :
    Calls Try.prog 107 #[.agg #[.slice As ss.length cs, .slice At ts.length ct]] w fun e w' => ∃ Bs ds Bt dt, e = .returned (.agg #[.slice Bs ss.length ds, .slice Bt ts.length dt]) ∧ kSch.R 63 w' w.heap.size (fun _ => True) (.slice Bs ss.length ds) ss ∧ Kd.S kTab 35 w' w.heap.size (fun _ => True) (.slice Bt ts.length dt) ts ∧ Below w.heap.size w w' := by
  have hln : ts.length ≤ 3000 := hF.1
  have HF := Aside0.mk hF.2
  have HT := Aside0.mk ht
  have HC := Aside0.mk (fun W hW => cloneSch.raw (A0 := As) (c0 := cs) ss w W hW hs (by omega))
  clear hs ht hF
  go_enter Try.func107, Try.ntmps107
  go_wp2_with fail
  generalize hW0 : (w.alloc _).alloc _ = W0
  obtain ⟨hB0, hK0, hZ0⟩ : Below w.heap.size w W0 ∧ W0.heap[w.heap.size]? = some (.cells #[.slice As ss.length cs, .slice At ts.length ct] 26 (0, 0)) ∧ W0.heap[w.heap.size + 1]? = some (.cells #[.slice none 0 0, .slice none 0 0] 26 (0, 0)) := by
    rw [← hW0]; exact boxes2 w _ _
  clear hW0
  refine (HC.out W0 hB0).mono ?_
  rintro e w1 ⟨v3, rfl, hv3, hb1⟩
  obtain ⟨Bs, ds, rfl⟩ := CloneRes_slice hv3
  have hK1 := blk_below hK0 hb1
  have hZ1 := blk_below hZ0 hb1
  have hc1 : ∀ o, (w1.alloc o).cell? ⟨w.heap.size, 1, none⟩ = some (.slice At ts.length ct) := fun o => (blk_cell (blk_alloc hK1 o) 1).trans rfl
  have hR := Kd.R_lower (CloneRes_flat hv3 (flatSch _ _ _)) hB0.size
  go_wp2
  generalize hW1 : w1.alloc _ = W1
  have HS : Aside0 (OwnI As At cs ct ss ts w w1.heap.size Bs ds W1 0) := by
    refine ⟨none, 0, ?_, ?_, ?_, ?_, ?_⟩
    · rw [← hW1]; exact below_alloc (below_step hB0 hb1) _
    · rw [← hW1]; exact blk_alloc hZ1 _
    · rw [← hW1]; exact blk_new w1 _
    · rw [← hW1]; exact Kd.R_alloc hR _
    · exact Kd.S_nil _ _ _ _ _
  have hgw : w.heap.size + 1 ≠ w1.heap.size := by have := blk_lt hZ1; omega
  have hge : w.heap.size ≤ w1.heap.size := by have := blk_lt hZ1; omega
  clear hW1 hc1 hR hZ1 hK1 hv3 hb1 hK0 hZ0 hB0
  generalize w1.heap.size = g at *
  have HG := Aside0.mk (And.intro hgw hge)
  clear hgw hge HC
  go_loopw [13] (fun i w' => ∃ k : Nat, k ≤ ts.length ∧ i = .int .i64 k ∧ Aside0 (OwnI As At cs ct ss ts w g Bs ds w' k)) (fun i _ => ts.length - (intOf i).toNat)
  case atStart => exact ⟨0, Nat.zero_le _, rfl, HS⟩
  case round =>
    clear HS
    obtain ⟨k, hk, rfl, HJ⟩ := hrel
    by_cases hlt : k < ts.length
    · obtain ⟨Bt, dt, hB, hZ, hG, hR, hS⟩ := HJ.out
      obtain ⟨ad, A3, c3, A4, c4, e, hc0, hc1, hc2, hc3, hc4, hl3, h3, hl4, h4⟩ := tabAt (Kd.C_below HT.out hB) k hlt
      cases e
      have HK := Aside0.mk (copied.at_ ts[k] (c3 := c3) (c4 := c4) wr h3 h4 (HF.out _ (List.getElem_mem hlt)))
      have hg1 : ∀ o, (wr.alloc o).cell? ⟨g, 1, none⟩ = some (.slice Bt k dt) := fun o => (blk_cell (blk_alloc hG o) 1).trans rfl
      have HX := Aside0.mk (And.intro hB (And.intro hZ (And.intro hG (And.intro hR hS))))
      have h0 : (0 : Int) ≤ (k : Int) := by omega
      have h1 : (k : Int) < (ts.length : Int) := by omega
      clear hB hZ hG hR hS h3 h4 hl3 hl4 HJ HF
      go_wp2_with fail
      go_region_law (first
        | (refine append_tab (w0 := w) w.heap.size (by rfl) (.tmp 18) (.tmp 21) rfl (.slice Bt k dt) (ts.take k) ts[k] B3 B4 d3 d4 rfl rfl (Kd.S_drew (Kd.S_alloc HX.out.2.2.2.2 _)) HV.out.2.2.1 HV.out.1 HV.out.2.1 (below_step (below_drew (below_alloc HX.out.1 _)) HV.out.2.2.1) (below_drew (below_alloc HX.out.1 _)).size (by have := List.length_take_le k ts; omega) ?_; intro v1 w3 hS3 hB3 hg3; obtain ⟨B1, d1, e1⟩ := Kd.S_slice hS3; rw [show (ts.take k ++ [ts[k]]).length = k + 1 from by simp; omega] at e1; subst e1; have hG3 := blk_grown HV.out.2.2.2 hg3 (Kd.S_ne (Kd.S_below (Kd.S_drew (Kd.S_alloc HX.out.2.2.2.2 _)) HV.out.2.2.1) HV.out.2.2.2 (by decide)); have hg31 : w3.cell? ⟨g, 1, none⟩ = some (.slice Bt k dt) := (blk_cell hG3 1).trans rfl; have hf31 := blk_frozen hG3 1; have HY := Aside0.mk (And.intro hS3 (And.intro hB3 (And.intro hg3 hG3))); clear hS3 hB3 hg3 hG3)
        | (go_simp; go_wp2_with (go_at_call 52; refine (HK.out _ ?_).mono ?_; exact below_drew (below_alloc (Below.refl _ _) _); rintro e w2 ⟨B3, d3, B4, d4, rfl, h3, h4, hb⟩; have hG2 := blk_below (blk_drew (blk_alloc HX.out.2.2.1 _)) hb; have hg2 : w2.cell? ⟨g, 1, none⟩ = some (.slice Bt k dt) := (blk_cell hG2 1).trans rfl; have hg2a : ∀ o, (w2.alloc o).cell? ⟨g, 1, none⟩ = some (.slice Bt k dt) := fun o => (blk_cell (blk_alloc hG2 o) 1).trans rfl; have HV := Aside0.mk (And.intro h3 (And.intro h4 (And.intro hb hG2))); clear h3 h4 hb hG2)))
      all_goals
        have HN := Aside0.mk (OwnI.next (As := As) (At := some ad) (cs := cs) (ct := ct) hlt HG.out.1 HG.out.2 HX.out.2.1 HX.out.2.2.2.1 HX.out.2.2.2.2 (below_step (below_drew (below_alloc (Below.refl _ _) _)) HV.out.2.2.1) HY.out.2.2.2 HY.out.1 HY.out.2.1 HY.out.2.2.1)
        clear HV HK HX HY hg1 hg2 hg2a hg31 hf31 hc0 hc1 hc2 hc3 hc4
        go_wp2
        go_roundw
        case rel => exact ⟨k + 1, by omega, by go_num, HN⟩
        case measure => simp [intOf]; omega
    · have hd : decide (k < ts.length) = false := decide_eq_false hlt
      obtain rfl : k = ts.length := by omega
      obtain ⟨Bt, dt, hB, hZ, hG, hR, hS⟩ := HJ.out
      rw [List.take_length] at hS
      have c0 : wr.cell? ⟨g, 0, none⟩ = some (.slice Bs ss.length ds) := (blk_cell hG 0).trans rfl
      have c1 : wr.cell? ⟨g, 1, none⟩ = some (.slice Bt ts.length dt) := (blk_cell hG 1).trans rfl
      have z0 : wr.cell? ⟨w.heap.size + 1, 0, none⟩ = some (.slice none 0 0) := (blk_cell hZ 0).trans rfl
      have z1 : wr.cell? ⟨w.heap.size + 1, 1, none⟩ = some (.slice none 0 0) := (blk_cell hZ 1).trans rfl
      have f0 := blk_frozen hZ 0
      have f1 := blk_frozen hZ 1
      have HX := Aside0.mk (And.intro (R_only hR hZ (by decide) (set2_far wr (w.heap.size + 1) (.slice Bs ss.length ds) (.slice Bt ts.length dt)))
        (And.intro (S_only hS hZ (by decide) (set2_far wr (w.heap.size + 1) (.slice Bs ss.length ds) (.slice Bt ts.length dt)))
        (set2_below hB (Nat.le_succ _) (.slice Bs ss.length ds) (.slice Bt ts.length dt))))
      clear hB hZ hG hR hS HJ HT HF
      go_wp2
      refine bodyPost_ret (v := .agg #[.slice Bs ss.length ds, .slice Bt ts.length dt]) (by simp [results, Try.results107, go_sem, *]) rfl ?_
      exact ⟨_, _, _, _, rfl, HX.out⟩
end Go.Proofs.Ytmmiehckgkadgaa.O
