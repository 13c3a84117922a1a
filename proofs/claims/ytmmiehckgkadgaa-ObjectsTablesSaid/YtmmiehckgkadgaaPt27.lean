/- Own lemmas and walks (TM), without what the law does not need. Laid by a program of this session (prune.py). -/
import Derived.Test.YtmmiehckgkadgaaPt20
import Derived.Test.YtmmiehckgkadgaaPt26
namespace Go.Proofs.Ytmmiehckgkadgaa.O
set_option linter.unusedVariables false
set_option linter.unusedSimpArgs false
open Go.RowKit Go.Proofs.YtmmiehckgkadgaaW.PrintWords
set_option maxRecDepth 20000 in
set_option maxHeartbeats 2000000 in
theorem tables.calls (w : World) : Calls Try.prog 37 #[] w fun e w' => e = .returned (.bool true) ∧ Below w.heap.size w w' := by
  have HO := Aside0.mk (fun W => one.calls W)
  have HX0 := Aside0.mk (Below.refl w.heap.size w)
  go_enter Try.func37, Try.ntmps37
  go_wp2_with fail
  refine (HO.out _).mono ?_
  rintro e w1 ⟨As1, cs1, At1, ct1, rfl, l1, l2, hs, ht, hb1⟩
  have HB1 := Aside0.mk (below_step (HX0.out) hb1)
  have HS1 := Aside0.mk hb1
  clear hb1
  have HFD := Aside0.mk (addOneT2 (cs := cs1) (ct := ct1) w1 hs ht)
  clear l1 l2 hs ht
  go_wp2_with fail
  refine (HFD.out).mono ?_
  rintro e w2 ⟨Es, Esd, Et, Etd, rfl, hx, hb2⟩
  have HB2 := Aside0.mk (below_step (HB1.out) hb2)
  have HS2 := Aside0.mk hb2
  clear hb2
  have HME := Aside0.mk hx
  clear hx HFD
  go_wp2_with fail
  obtain ⟨v1, he1⟩ : ∃ W, W = (w2.alloc (.cells #[Value.slice Es 1 Esd, Value.slice Et 2 Etd] 26)) := ⟨_, rfl⟩
  have hb_ : Below w2.heap.size w2 v1 := by rw [he1]; exact below_alloc (Below.refl _ _) _
  have HZ1 := Aside0.mk (show v1.heap.size = w2.heap.size + 1 by rw [he1]; simp)
  have HN1 := Aside0.mk (show v1.heap[w2.heap.size]? = some (.cells #[Value.slice Es 1 Esd, Value.slice Et 2 Etd] 26 (0, 0)) by rw [he1]; exact blk_new _ _)
  have HV1 := Aside0.mk (below_step (HB2.out) hb_)
  have HT1 := Aside0.mk ((HME.out).below hb_)
  rw [← he1]
  clear he1
  refine (HO.out _).mono ?_
  rintro e w3 ⟨As2, cs2, At2, ct2, rfl, l1, l2, hs, ht, hb3⟩
  have HB3 := Aside0.mk (below_step (HV1.out) hb3)
  have HK2 := Aside0.mk (blk_below (HN1.out) hb3)
  have HT3 := Aside0.mk ((HT1.out).below hb3)
  have HS3 := Aside0.mk hb3
  clear hb3
  have HFD := Aside0.mk (dropOneT (cs := cs2) (ct := ct2) w3 hs ht)
  clear l1 l2 hs ht
  have c_x0 : w3.cell? ⟨w2.heap.size, 0, none⟩ = some (Value.slice Es 1 Esd) := (blk_cell HK2.out 0).trans rfl
  have f_x0 := blk_frozen HK2.out 0
  have c_x1 : w3.cell? ⟨w2.heap.size, 1, none⟩ = some (Value.slice Et 2 Etd) := (blk_cell HK2.out 1).trans rfl
  have f_x1 := blk_frozen HK2.out 1
  go_wp2_with fail
  clear c_x0 f_x0 c_x1 f_x1
  refine (HFD.out).mono ?_
  rintro e w4 ⟨Fs, Fsd, Ft, Ftd, rfl, hx, hb4⟩
  have HB4 := Aside0.mk (below_step (HB3.out) hb4)
  have HK4 := Aside0.mk (blk_below (HK2.out) hb4)
  have HT5 := Aside0.mk ((HT3.out).below hb4)
  have HS4 := Aside0.mk hb4
  clear hb4
  have HMF := Aside0.mk hx
  clear hx HFD
  obtain ⟨ad1, rfl, k1⟩ := twoTabs HT5.out
  rw [show tabU.name = (⟨#[117]⟩ : ByteArray) from rfl] at k1
  have k1a : ∀ o, (w4.alloc o).cell? _ = _ := fun o => pw_cell_below (below_alloc (Below.refl _ _) o) k1
  have c_x0 : w4.cell? ⟨w2.heap.size, 0, none⟩ = some (Value.slice Es 1 Esd) := (blk_cell HK4.out 0).trans rfl
  have f_x0 := blk_frozen HK4.out 0
  have a_x0 : ∀ o, (w4.alloc o).cell? ⟨w2.heap.size, 0, none⟩ = some (Value.slice Es 1 Esd) := fun o => (blk_cell (blk_alloc HK4.out o) 0).trans rfl
  have c_x1 : w4.cell? ⟨w2.heap.size, 1, none⟩ = some (Value.slice (some ad1) 2 Etd) := (blk_cell HK4.out 1).trans rfl
  have f_x1 := blk_frozen HK4.out 1
  have a_x1 : ∀ o, (w4.alloc o).cell? ⟨w2.heap.size, 1, none⟩ = some (Value.slice (some ad1) 2 Etd) := fun o => (blk_cell (blk_alloc HK4.out o) 1).trans rfl
  go_wp2
  go_ret
  exact ⟨rfl, below_alloc (HB4.out) _⟩
set_option maxRecDepth 20000 in
set_option maxHeartbeats 8000000 in
theorem law_ObjectsTables.calls {As At A3 A4 : Option Addr} {cs ct c3 c4 : Nat} (ss : List Sch) (ts : List Tab) (t : Tab) (schema table : ByteArray) (w : World) (hs : kSch.C w As ss.length ss) (hsl : ss.length ≤ 8796093022208) (ht : kTab.C w At ts.length ts) (hF : TabsF ts) (h3 : kCol.C w A3 t.cols.length t.cols) (h4 : kRul.C w A4 t.rules.length t.rules) (hcc : t.cols.length ≤ c3) :
    Calls Try.prog 8 #[.agg #[.slice As ss.length cs, .slice At ts.length ct], .agg #[.string t.schema, .string t.name, .string t.owner, .slice A3 t.cols.length c3, .slice A4 t.rules.length c4], .string schema, .string table] w fun e w' => e = .returned (.bool true) ∧ Below w.heap.size w w' := by
  have HX0 := Aside0.mk (boxes2 w (.cells #[Value.slice As ss.length cs, Value.slice At ts.length ct] 26) (.cells #[Value.string t.schema, Value.string t.name, Value.string t.owner, Value.slice A3 t.cols.length c3, Value.slice A4 t.rules.length c4] 35))
  have HLG := Aside0.mk (fun W (hW : Below w.heap.size w W) => large.calls (As := As) (cs := cs) (At := At) (ct := ct) ss ts W hsl (Kd.C_below ht hW) hF)
  have HO0 := Aside0.mk (OF.of_C hs ht)
  have HFF := Aside0.mk hF
  have HH := Aside0.mk (And.intro h3 (And.intro h4 hcc))
  clear hs ht hF hsl h3 h4 hcc
  go_enter Try.func8, Try.ntmps8
  have c_o0 : ((w.alloc (.cells #[Value.slice As ss.length cs, Value.slice At ts.length ct] 26)).alloc (.cells #[Value.string t.schema, Value.string t.name, Value.string t.owner, Value.slice A3 t.cols.length c3, Value.slice A4 t.rules.length c4] 35)).cell? ⟨w.heap.size, 0, none⟩ = some (Value.slice As ss.length cs) := (blk_cell HX0.out.2.1 0).trans rfl
  have f_o0 := blk_frozen HX0.out.2.1 0
  have c_o1 : ((w.alloc (.cells #[Value.slice As ss.length cs, Value.slice At ts.length ct] 26)).alloc (.cells #[Value.string t.schema, Value.string t.name, Value.string t.owner, Value.slice A3 t.cols.length c3, Value.slice A4 t.rules.length c4] 35)).cell? ⟨w.heap.size, 1, none⟩ = some (Value.slice At ts.length ct) := (blk_cell HX0.out.2.1 1).trans rfl
  have f_o1 := blk_frozen HX0.out.2.1 1
  have c_t0 : ((w.alloc (.cells #[Value.slice As ss.length cs, Value.slice At ts.length ct] 26)).alloc (.cells #[Value.string t.schema, Value.string t.name, Value.string t.owner, Value.slice A3 t.cols.length c3, Value.slice A4 t.rules.length c4] 35)).cell? ⟨w.heap.size + 1, 0, none⟩ = some (Value.string t.schema) := (blk_cell HX0.out.2.2 0).trans rfl
  have f_t0 := blk_frozen HX0.out.2.2 0
  have c_t1 : ((w.alloc (.cells #[Value.slice As ss.length cs, Value.slice At ts.length ct] 26)).alloc (.cells #[Value.string t.schema, Value.string t.name, Value.string t.owner, Value.slice A3 t.cols.length c3, Value.slice A4 t.rules.length c4] 35)).cell? ⟨w.heap.size + 1, 1, none⟩ = some (Value.string t.name) := (blk_cell HX0.out.2.2 1).trans rfl
  have f_t1 := blk_frozen HX0.out.2.2 1
  have c_t2 : ((w.alloc (.cells #[Value.slice As ss.length cs, Value.slice At ts.length ct] 26)).alloc (.cells #[Value.string t.schema, Value.string t.name, Value.string t.owner, Value.slice A3 t.cols.length c3, Value.slice A4 t.rules.length c4] 35)).cell? ⟨w.heap.size + 1, 2, none⟩ = some (Value.string t.owner) := (blk_cell HX0.out.2.2 2).trans rfl
  have f_t2 := blk_frozen HX0.out.2.2 2
  have c_t3 : ((w.alloc (.cells #[Value.slice As ss.length cs, Value.slice At ts.length ct] 26)).alloc (.cells #[Value.string t.schema, Value.string t.name, Value.string t.owner, Value.slice A3 t.cols.length c3, Value.slice A4 t.rules.length c4] 35)).cell? ⟨w.heap.size + 1, 3, none⟩ = some (Value.slice A3 t.cols.length c3) := (blk_cell HX0.out.2.2 3).trans rfl
  have f_t3 := blk_frozen HX0.out.2.2 3
  have c_t4 : ((w.alloc (.cells #[Value.slice As ss.length cs, Value.slice At ts.length ct] 26)).alloc (.cells #[Value.string t.schema, Value.string t.name, Value.string t.owner, Value.slice A3 t.cols.length c3, Value.slice A4 t.rules.length c4] 35)).cell? ⟨w.heap.size + 1, 4, none⟩ = some (Value.slice A4 t.rules.length c4) := (blk_cell HX0.out.2.2 4).trans rfl
  have f_t4 := blk_frozen HX0.out.2.2 4
  go_wp2_with fail
  clear c_o0 f_o0 c_o1 f_o1 c_t0 f_t0 c_t1 f_t1 c_t2 f_t2 c_t3 f_t3 c_t4 f_t4
  refine (HLG.out _ HX0.out.1).mono ?_
  rintro e w1 ⟨b, rfl, hObj, hb1⟩
  have HB1 := Aside0.mk (below_step (HX0.out.1) hb1)
  have HK1 := Aside0.mk (blk_below (HX0.out.2.1) hb1)
  have HK2 := Aside0.mk (blk_below (HX0.out.2.2) hb1)
  have HT3 := Aside0.mk (((OF.below HO0.out HX0.out.1)).below hb1)
  have HS1 := Aside0.mk hb1
  clear hb1
  have HZ0 := Aside0.mk (show w.heap.size + 2 ≤ w1.heap.size by have := HS1.out.size; simp at this; omega)
  cases b with
  | true =>
    go_wp2
    go_ret
    exact ⟨rfl, HB1.out⟩
  | false =>
  have hSm := hObj rfl
  have HTB := Aside0.mk (tabsB_of hSm)
  have hsl3 : ss.length ≤ 3000 := hSm.1
  clear hObj hSm HLG
  have c_t0 : w1.cell? ⟨w.heap.size + 1, 0, none⟩ = some (Value.string t.schema) := (blk_cell HK2.out 0).trans rfl
  have f_t0 := blk_frozen HK2.out 0
  have c_t1 : w1.cell? ⟨w.heap.size + 1, 1, none⟩ = some (Value.string t.name) := (blk_cell HK2.out 1).trans rfl
  have f_t1 := blk_frozen HK2.out 1
  have c_t2 : w1.cell? ⟨w.heap.size + 1, 2, none⟩ = some (Value.string t.owner) := (blk_cell HK2.out 2).trans rfl
  have f_t2 := blk_frozen HK2.out 2
  have c_t3 : w1.cell? ⟨w.heap.size + 1, 3, none⟩ = some (Value.slice A3 t.cols.length c3) := (blk_cell HK2.out 3).trans rfl
  have f_t3 := blk_frozen HK2.out 3
  have c_t4 : w1.cell? ⟨w.heap.size + 1, 4, none⟩ = some (Value.slice A4 t.rules.length c4) := (blk_cell HK2.out 4).trans rfl
  have f_t4 := blk_frozen HK2.out 4
  by_cases q1 : t.cols.length ≤ 3000
  rotate_left
  · have d1 : decide ((3000 : Int) < (t.cols.length : Int)) = true := decide_eq_true (by omega)
    have e1 : decide (3000 < t.cols.length) = true := decide_eq_true (by omega)
    clear q1
    go_wp2
    go_ret
    exact ⟨rfl, HB1.out⟩
  have d1 : decide ((3000 : Int) < (t.cols.length : Int)) = false := decide_eq_false (by omega)
  have e1 : decide (3000 < t.cols.length) = false := decide_eq_false (by omega)
  have HQ1 := Aside0.mk q1
  clear q1
  by_cases q2 : t.rules.length ≤ 3000
  rotate_left
  · have d2 : decide ((3000 : Int) < (t.rules.length : Int)) = true := decide_eq_true (by omega)
    have e2 : decide (3000 < t.rules.length) = true := decide_eq_true (by omega)
    clear q2
    go_wp2
    go_ret
    exact ⟨rfl, HB1.out⟩
  have d2 : decide ((3000 : Int) < (t.rules.length : Int)) = false := decide_eq_false (by omega)
  have e2 : decide (3000 < t.rules.length) = false := decide_eq_false (by omega)
  have HQ2 := Aside0.mk q2
  clear q2
  have c_o0 : w1.cell? ⟨w.heap.size, 0, none⟩ = some (Value.slice As ss.length cs) := (blk_cell HK1.out 0).trans rfl
  have f_o0 := blk_frozen HK1.out 0
  have c_o1 : w1.cell? ⟨w.heap.size, 1, none⟩ = some (Value.slice At ts.length ct) := (blk_cell HK1.out 1).trans rfl
  have f_o1 := blk_frozen HK1.out 1
  go_wp2_with fail
  clear c_t0 f_t0 c_t1 f_t1 c_t2 f_t2 c_t3 f_t3 c_t4 f_t4 c_o0 f_o0 c_o1 f_o1
  refine (rOwn.made (cs := cs) (ct := ct) ss ts w1 (Kd.F_now HT3.out.1) hsl3 (Kd.F_now HT3.out.2) HTB.out).mono ?_
  rintro e w2 ⟨Bs, ds, Bt, dt, rfl, hOwn, hb2⟩
  have HB2 := Aside0.mk (below_step (HB1.out) hb2)
  have HK4 := Aside0.mk (blk_below (HK1.out) hb2)
  have HK5 := Aside0.mk (blk_below (HK2.out) hb2)
  have HT6 := Aside0.mk ((HT3.out).below hb2)
  have HS2 := Aside0.mk hb2
  clear hb2
  have HOwn := Aside0.mk hOwn
  clear hOwn d1 e1 d2 e2
  obtain ⟨r, hr⟩ : ∃ r, r = addTable ss ts t := ⟨_, rfl⟩
  have HRB := Aside0.mk (addTable_B (t := t) hsl3 HTB.out)
  rw [← hr] at HRB
  have HR := Aside0.mk hr
  clear hr
  have c_o0 : w2.cell? ⟨w.heap.size, 0, none⟩ = some (Value.slice As ss.length cs) := (blk_cell HK4.out 0).trans rfl
  have f_o0 := blk_frozen HK4.out 0
  have a_o0 : ∀ o, (w2.alloc o).cell? ⟨w.heap.size, 0, none⟩ = some (Value.slice As ss.length cs) := fun o => (blk_cell (blk_alloc HK4.out o) 0).trans rfl
  have c_o1 : w2.cell? ⟨w.heap.size, 1, none⟩ = some (Value.slice At ts.length ct) := (blk_cell HK4.out 1).trans rfl
  have f_o1 := blk_frozen HK4.out 1
  have a_o1 : ∀ o, (w2.alloc o).cell? ⟨w.heap.size, 1, none⟩ = some (Value.slice At ts.length ct) := fun o => (blk_cell (blk_alloc HK4.out o) 1).trans rfl
  have c_t0 : w2.cell? ⟨w.heap.size + 1, 0, none⟩ = some (Value.string t.schema) := (blk_cell HK5.out 0).trans rfl
  have f_t0 := blk_frozen HK5.out 0
  have a_t0 : ∀ o, (w2.alloc o).cell? ⟨w.heap.size + 1, 0, none⟩ = some (Value.string t.schema) := fun o => (blk_cell (blk_alloc HK5.out o) 0).trans rfl
  have c_t1 : w2.cell? ⟨w.heap.size + 1, 1, none⟩ = some (Value.string t.name) := (blk_cell HK5.out 1).trans rfl
  have f_t1 := blk_frozen HK5.out 1
  have a_t1 : ∀ o, (w2.alloc o).cell? ⟨w.heap.size + 1, 1, none⟩ = some (Value.string t.name) := fun o => (blk_cell (blk_alloc HK5.out o) 1).trans rfl
  have c_t2 : w2.cell? ⟨w.heap.size + 1, 2, none⟩ = some (Value.string t.owner) := (blk_cell HK5.out 2).trans rfl
  have f_t2 := blk_frozen HK5.out 2
  have a_t2 : ∀ o, (w2.alloc o).cell? ⟨w.heap.size + 1, 2, none⟩ = some (Value.string t.owner) := fun o => (blk_cell (blk_alloc HK5.out o) 2).trans rfl
  have c_t3 : w2.cell? ⟨w.heap.size + 1, 3, none⟩ = some (Value.slice A3 t.cols.length c3) := (blk_cell HK5.out 3).trans rfl
  have f_t3 := blk_frozen HK5.out 3
  have a_t3 : ∀ o, (w2.alloc o).cell? ⟨w.heap.size + 1, 3, none⟩ = some (Value.slice A3 t.cols.length c3) := fun o => (blk_cell (blk_alloc HK5.out o) 3).trans rfl
  have c_t4 : w2.cell? ⟨w.heap.size + 1, 4, none⟩ = some (Value.slice A4 t.rules.length c4) := (blk_cell HK5.out 4).trans rfl
  have f_t4 := blk_frozen HK5.out 4
  have a_t4 : ∀ o, (w2.alloc o).cell? ⟨w.heap.size + 1, 4, none⟩ = some (Value.slice A4 t.rules.length c4) := fun o => (blk_cell (blk_alloc HK5.out o) 4).trans rfl
  go_wp2_with fail
  clear c_o0 f_o0 a_o0 c_o1 f_o1 a_o1 c_t0 f_t0 a_t0 c_t1 f_t1 a_t1 c_t2 f_t2 a_t2 c_t3 f_t3 a_t3 c_t4 f_t4 a_t4
  obtain ⟨v1, he1⟩ : ∃ W, W = (w2.alloc (.cells #[Value.slice Bs ss.length ds, Value.slice Bt ts.length dt] 26)) := ⟨_, rfl⟩
  have hb_ : Below w2.heap.size w2 v1 := by rw [he1]; exact below_alloc (Below.refl _ _) _
  have HZ1 := Aside0.mk (show v1.heap.size = w2.heap.size + 1 by rw [he1]; simp)
  have HN1 := Aside0.mk (show v1.heap[w2.heap.size]? = some (.cells #[Value.slice Bs ss.length ds, Value.slice Bt ts.length dt] 26 (0, 0)) by rw [he1]; exact blk_new _ _)
  have HV1 := Aside0.mk (below_step (HB2.out) hb_)
  have HK7 := Aside0.mk (blk_below (HK4.out) hb_)
  have HK8 := Aside0.mk (blk_below (HK5.out) hb_)
  have HT9 := Aside0.mk ((HT6.out).below hb_)
  have HT10 := Aside0.mk ((HOwn.out).below hb_)
  rw [← he1]
  clear he1
  refine (calls_made (AddTable.calls (cs := cs) (ct := ct) (c3 := c3) (c4 := c4) ss ts t v1 (Kd.F_now HT9.out.1) hsl3 (Kd.F_now HT9.out.2) HFF.out HTB.out (Kd.C_below HH.out.1 HV1.out) (Kd.C_below HH.out.2.1 HV1.out) (by have := HQ1.out; omega))).mono ?_
  rw [← HR.out]
  rintro e w3 ⟨Es, Esd, Et, Etd, rfl, hx, hb3⟩
  have HB3 := Aside0.mk (below_step (HV1.out) hb3)
  have HK11 := Aside0.mk (blk_below (HK7.out) hb3)
  have HK12 := Aside0.mk (blk_below (HK8.out) hb3)
  have HK13 := Aside0.mk (blk_below (HN1.out) hb3)
  have HT14 := Aside0.mk ((HT9.out).below hb3)
  have HT15 := Aside0.mk ((HT10.out).below hb3)
  have HS3 := Aside0.mk hb3
  have HM3 := Aside0.mk hx
  clear hx hb3
  have c_o0 : w3.cell? ⟨w.heap.size, 0, none⟩ = some (Value.slice As ss.length cs) := (blk_cell HK11.out 0).trans rfl
  have f_o0 := blk_frozen HK11.out 0
  have a_o0 : ∀ o, (w3.alloc o).cell? ⟨w.heap.size, 0, none⟩ = some (Value.slice As ss.length cs) := fun o => (blk_cell (blk_alloc HK11.out o) 0).trans rfl
  have c_o1 : w3.cell? ⟨w.heap.size, 1, none⟩ = some (Value.slice At ts.length ct) := (blk_cell HK11.out 1).trans rfl
  have f_o1 := blk_frozen HK11.out 1
  have a_o1 : ∀ o, (w3.alloc o).cell? ⟨w.heap.size, 1, none⟩ = some (Value.slice At ts.length ct) := fun o => (blk_cell (blk_alloc HK11.out o) 1).trans rfl
  have c_t0 : w3.cell? ⟨w.heap.size + 1, 0, none⟩ = some (Value.string t.schema) := (blk_cell HK12.out 0).trans rfl
  have f_t0 := blk_frozen HK12.out 0
  have a_t0 : ∀ o, (w3.alloc o).cell? ⟨w.heap.size + 1, 0, none⟩ = some (Value.string t.schema) := fun o => (blk_cell (blk_alloc HK12.out o) 0).trans rfl
  have c_t1 : w3.cell? ⟨w.heap.size + 1, 1, none⟩ = some (Value.string t.name) := (blk_cell HK12.out 1).trans rfl
  have f_t1 := blk_frozen HK12.out 1
  have a_t1 : ∀ o, (w3.alloc o).cell? ⟨w.heap.size + 1, 1, none⟩ = some (Value.string t.name) := fun o => (blk_cell (blk_alloc HK12.out o) 1).trans rfl
  have c_t2 : w3.cell? ⟨w.heap.size + 1, 2, none⟩ = some (Value.string t.owner) := (blk_cell HK12.out 2).trans rfl
  have f_t2 := blk_frozen HK12.out 2
  have a_t2 : ∀ o, (w3.alloc o).cell? ⟨w.heap.size + 1, 2, none⟩ = some (Value.string t.owner) := fun o => (blk_cell (blk_alloc HK12.out o) 2).trans rfl
  have c_t3 : w3.cell? ⟨w.heap.size + 1, 3, none⟩ = some (Value.slice A3 t.cols.length c3) := (blk_cell HK12.out 3).trans rfl
  have f_t3 := blk_frozen HK12.out 3
  have a_t3 : ∀ o, (w3.alloc o).cell? ⟨w.heap.size + 1, 3, none⟩ = some (Value.slice A3 t.cols.length c3) := fun o => (blk_cell (blk_alloc HK12.out o) 3).trans rfl
  have c_t4 : w3.cell? ⟨w.heap.size + 1, 4, none⟩ = some (Value.slice A4 t.rules.length c4) := (blk_cell HK12.out 4).trans rfl
  have f_t4 := blk_frozen HK12.out 4
  have a_t4 : ∀ o, (w3.alloc o).cell? ⟨w.heap.size + 1, 4, none⟩ = some (Value.slice A4 t.rules.length c4) := fun o => (blk_cell (blk_alloc HK12.out o) 4).trans rfl
  have c_own0 : w3.cell? ⟨w2.heap.size, 0, none⟩ = some (Value.slice Bs ss.length ds) := (blk_cell HK13.out 0).trans rfl
  have f_own0 := blk_frozen HK13.out 0
  have a_own0 : ∀ o, (w3.alloc o).cell? ⟨w2.heap.size, 0, none⟩ = some (Value.slice Bs ss.length ds) := fun o => (blk_cell (blk_alloc HK13.out o) 0).trans rfl
  have c_own1 : w3.cell? ⟨w2.heap.size, 1, none⟩ = some (Value.slice Bt ts.length dt) := (blk_cell HK13.out 1).trans rfl
  have f_own1 := blk_frozen HK13.out 1
  have a_own1 : ∀ o, (w3.alloc o).cell? ⟨w2.heap.size, 1, none⟩ = some (Value.slice Bt ts.length dt) := fun o => (blk_cell (blk_alloc HK13.out o) 1).trans rfl
  go_wp2_with fail
  clear c_o0 f_o0 a_o0 c_o1 f_o1 a_o1 c_t0 f_t0 a_t0 c_t1 f_t1 a_t1 c_t2 f_t2 a_t2 c_t3 f_t3 a_t3 c_t4 f_t4 a_t4 c_own0 f_own0 a_own0 c_own1 f_own1 a_own1
  obtain ⟨v2, he2⟩ : ∃ W, W = (w3.alloc (.cells #[Value.slice Es r.2.1.length Esd, Value.slice Et r.2.2.length Etd] 26)) := ⟨_, rfl⟩
  have hb_ : Below w3.heap.size w3 v2 := by rw [he2]; exact below_alloc (Below.refl _ _) _
  have HZ2 := Aside0.mk (show v2.heap.size = w3.heap.size + 1 by rw [he2]; simp)
  have HN2 := Aside0.mk (show v2.heap[w3.heap.size]? = some (.cells #[Value.slice Es r.2.1.length Esd, Value.slice Et r.2.2.length Etd] 26 (0, 0)) by rw [he2]; exact blk_new _ _)
  have HV2 := Aside0.mk (below_step (HB3.out) hb_)
  have HK16 := Aside0.mk (blk_below (HK11.out) hb_)
  have HK17 := Aside0.mk (blk_below (HK12.out) hb_)
  have HK18 := Aside0.mk (blk_below (HK13.out) hb_)
  have HT19 := Aside0.mk ((HT14.out).below hb_)
  have HT20 := Aside0.mk ((HT15.out).below hb_)
  have HT21 := Aside0.mk ((HM3.out).below hb_)
  rw [← he2]
  clear he2
  refine (calls_made (rAddTable.calls (cs := ds) (ct := dt) (c3 := c3) (c4 := c4) ss ts t v2 (Kd.F_now (HT20.out).OF.1) hsl3 (Kd.F_now (HT20.out).OF.2) HFF.out HTB.out (Kd.C_below HH.out.1 HV2.out) (Kd.C_below HH.out.2.1 HV2.out) HH.out.2.2 (by have := HQ1.out; omega))).mono ?_
  rw [← HR.out]
  rintro e w4 ⟨Fs, Fsd, Ft, Ftd, rfl, hx, hb4⟩
  have HB4 := Aside0.mk (below_step (HV2.out) hb4)
  have HK22 := Aside0.mk (blk_below (HK16.out) hb4)
  have HK23 := Aside0.mk (blk_below (HK17.out) hb4)
  have HK24 := Aside0.mk (blk_below (HK18.out) hb4)
  have HK25 := Aside0.mk (blk_below (HN2.out) hb4)
  have HT26 := Aside0.mk ((HT19.out).below hb4)
  have HT27 := Aside0.mk ((HT20.out).below hb4)
  have HT28 := Aside0.mk ((HT21.out).below hb4)
  have HS4 := Aside0.mk hb4
  have HM4 := Aside0.mk hx
  clear hx hb4
  obtain ⟨q, hq⟩ : ∃ r, r = dropTable ss ts schema table := ⟨_, rfl⟩
  have HQB := Aside0.mk (dropTable_B (schema := schema) (table := table) hsl3 HTB.out)
  rw [← hq] at HQB
  have HQ := Aside0.mk hq
  clear hq
  have c_o0 : w4.cell? ⟨w.heap.size, 0, none⟩ = some (Value.slice As ss.length cs) := (blk_cell HK22.out 0).trans rfl
  have f_o0 := blk_frozen HK22.out 0
  have a_o0 : ∀ o, (w4.alloc o).cell? ⟨w.heap.size, 0, none⟩ = some (Value.slice As ss.length cs) := fun o => (blk_cell (blk_alloc HK22.out o) 0).trans rfl
  have c_o1 : w4.cell? ⟨w.heap.size, 1, none⟩ = some (Value.slice At ts.length ct) := (blk_cell HK22.out 1).trans rfl
  have f_o1 := blk_frozen HK22.out 1
  have a_o1 : ∀ o, (w4.alloc o).cell? ⟨w.heap.size, 1, none⟩ = some (Value.slice At ts.length ct) := fun o => (blk_cell (blk_alloc HK22.out o) 1).trans rfl
  have c_t0 : w4.cell? ⟨w.heap.size + 1, 0, none⟩ = some (Value.string t.schema) := (blk_cell HK23.out 0).trans rfl
  have f_t0 := blk_frozen HK23.out 0
  have a_t0 : ∀ o, (w4.alloc o).cell? ⟨w.heap.size + 1, 0, none⟩ = some (Value.string t.schema) := fun o => (blk_cell (blk_alloc HK23.out o) 0).trans rfl
  have c_t1 : w4.cell? ⟨w.heap.size + 1, 1, none⟩ = some (Value.string t.name) := (blk_cell HK23.out 1).trans rfl
  have f_t1 := blk_frozen HK23.out 1
  have a_t1 : ∀ o, (w4.alloc o).cell? ⟨w.heap.size + 1, 1, none⟩ = some (Value.string t.name) := fun o => (blk_cell (blk_alloc HK23.out o) 1).trans rfl
  have c_t2 : w4.cell? ⟨w.heap.size + 1, 2, none⟩ = some (Value.string t.owner) := (blk_cell HK23.out 2).trans rfl
  have f_t2 := blk_frozen HK23.out 2
  have a_t2 : ∀ o, (w4.alloc o).cell? ⟨w.heap.size + 1, 2, none⟩ = some (Value.string t.owner) := fun o => (blk_cell (blk_alloc HK23.out o) 2).trans rfl
  have c_t3 : w4.cell? ⟨w.heap.size + 1, 3, none⟩ = some (Value.slice A3 t.cols.length c3) := (blk_cell HK23.out 3).trans rfl
  have f_t3 := blk_frozen HK23.out 3
  have a_t3 : ∀ o, (w4.alloc o).cell? ⟨w.heap.size + 1, 3, none⟩ = some (Value.slice A3 t.cols.length c3) := fun o => (blk_cell (blk_alloc HK23.out o) 3).trans rfl
  have c_t4 : w4.cell? ⟨w.heap.size + 1, 4, none⟩ = some (Value.slice A4 t.rules.length c4) := (blk_cell HK23.out 4).trans rfl
  have f_t4 := blk_frozen HK23.out 4
  have a_t4 : ∀ o, (w4.alloc o).cell? ⟨w.heap.size + 1, 4, none⟩ = some (Value.slice A4 t.rules.length c4) := fun o => (blk_cell (blk_alloc HK23.out o) 4).trans rfl
  have c_own0 : w4.cell? ⟨w2.heap.size, 0, none⟩ = some (Value.slice Bs ss.length ds) := (blk_cell HK24.out 0).trans rfl
  have f_own0 := blk_frozen HK24.out 0
  have a_own0 : ∀ o, (w4.alloc o).cell? ⟨w2.heap.size, 0, none⟩ = some (Value.slice Bs ss.length ds) := fun o => (blk_cell (blk_alloc HK24.out o) 0).trans rfl
  have c_own1 : w4.cell? ⟨w2.heap.size, 1, none⟩ = some (Value.slice Bt ts.length dt) := (blk_cell HK24.out 1).trans rfl
  have f_own1 := blk_frozen HK24.out 1
  have a_own1 : ∀ o, (w4.alloc o).cell? ⟨w2.heap.size, 1, none⟩ = some (Value.slice Bt ts.length dt) := fun o => (blk_cell (blk_alloc HK24.out o) 1).trans rfl
  have c_x0 : w4.cell? ⟨w3.heap.size, 0, none⟩ = some (Value.slice Es r.2.1.length Esd) := (blk_cell HK25.out 0).trans rfl
  have f_x0 := blk_frozen HK25.out 0
  have a_x0 : ∀ o, (w4.alloc o).cell? ⟨w3.heap.size, 0, none⟩ = some (Value.slice Es r.2.1.length Esd) := fun o => (blk_cell (blk_alloc HK25.out o) 0).trans rfl
  have c_x1 : w4.cell? ⟨w3.heap.size, 1, none⟩ = some (Value.slice Et r.2.2.length Etd) := (blk_cell HK25.out 1).trans rfl
  have f_x1 := blk_frozen HK25.out 1
  have a_x1 : ∀ o, (w4.alloc o).cell? ⟨w3.heap.size, 1, none⟩ = some (Value.slice Et r.2.2.length Etd) := fun o => (blk_cell (blk_alloc HK25.out o) 1).trans rfl
  go_wp2_with fail
  clear c_o0 f_o0 a_o0 c_o1 f_o1 a_o1 c_t0 f_t0 a_t0 c_t1 f_t1 a_t1 c_t2 f_t2 a_t2 c_t3 f_t3 a_t3 c_t4 f_t4 a_t4 c_own0 f_own0 a_own0 c_own1 f_own1 a_own1 c_x0 f_x0 a_x0 c_x1 f_x1 a_x1
  obtain ⟨v3, he3⟩ : ∃ W, W = (w4.alloc (.cells #[Value.slice Fs r.2.1.length Fsd, Value.slice Ft r.2.2.length Ftd] 26)) := ⟨_, rfl⟩
  have hb_ : Below w4.heap.size w4 v3 := by rw [he3]; exact below_alloc (Below.refl _ _) _
  have HZ3 := Aside0.mk (show v3.heap.size = w4.heap.size + 1 by rw [he3]; simp)
  have HN3 := Aside0.mk (show v3.heap[w4.heap.size]? = some (.cells #[Value.slice Fs r.2.1.length Fsd, Value.slice Ft r.2.2.length Ftd] 26 (0, 0)) by rw [he3]; exact blk_new _ _)
  have HV3 := Aside0.mk (below_step (HB4.out) hb_)
  have HK29 := Aside0.mk (blk_below (HK22.out) hb_)
  have HK30 := Aside0.mk (blk_below (HK23.out) hb_)
  have HK31 := Aside0.mk (blk_below (HK24.out) hb_)
  have HK32 := Aside0.mk (blk_below (HK25.out) hb_)
  have HT33 := Aside0.mk ((HT26.out).below hb_)
  have HT34 := Aside0.mk ((HT27.out).below hb_)
  have HT35 := Aside0.mk ((HT28.out).below hb_)
  have HT36 := Aside0.mk ((HM4.out).below hb_)
  rw [← he3]
  clear he3
  refine (calls_made (DropTable.calls (cs := cs) (ct := ct) ss ts schema table v3 (Kd.F_now HT33.out.1) hsl3 (Kd.F_now HT33.out.2) HFF.out HTB.out)).mono ?_
  rw [← HQ.out]
  rintro e w5 ⟨Gs, Gsd, Gt, Gtd, rfl, hx, hb5⟩
  have HB5 := Aside0.mk (below_step (HV3.out) hb5)
  have HK37 := Aside0.mk (blk_below (HK29.out) hb5)
  have HK38 := Aside0.mk (blk_below (HK30.out) hb5)
  have HK39 := Aside0.mk (blk_below (HK31.out) hb5)
  have HK40 := Aside0.mk (blk_below (HK32.out) hb5)
  have HK41 := Aside0.mk (blk_below (HN3.out) hb5)
  have HT42 := Aside0.mk ((HT33.out).below hb5)
  have HT43 := Aside0.mk ((HT34.out).below hb5)
  have HT44 := Aside0.mk ((HT35.out).below hb5)
  have HT45 := Aside0.mk ((HT36.out).below hb5)
  have HS5 := Aside0.mk hb5
  have HM5 := Aside0.mk hx
  clear hx hb5
  have c_o0 : w5.cell? ⟨w.heap.size, 0, none⟩ = some (Value.slice As ss.length cs) := (blk_cell HK37.out 0).trans rfl
  have f_o0 := blk_frozen HK37.out 0
  have a_o0 : ∀ o, (w5.alloc o).cell? ⟨w.heap.size, 0, none⟩ = some (Value.slice As ss.length cs) := fun o => (blk_cell (blk_alloc HK37.out o) 0).trans rfl
  have c_o1 : w5.cell? ⟨w.heap.size, 1, none⟩ = some (Value.slice At ts.length ct) := (blk_cell HK37.out 1).trans rfl
  have f_o1 := blk_frozen HK37.out 1
  have a_o1 : ∀ o, (w5.alloc o).cell? ⟨w.heap.size, 1, none⟩ = some (Value.slice At ts.length ct) := fun o => (blk_cell (blk_alloc HK37.out o) 1).trans rfl
  have c_t0 : w5.cell? ⟨w.heap.size + 1, 0, none⟩ = some (Value.string t.schema) := (blk_cell HK38.out 0).trans rfl
  have f_t0 := blk_frozen HK38.out 0
  have a_t0 : ∀ o, (w5.alloc o).cell? ⟨w.heap.size + 1, 0, none⟩ = some (Value.string t.schema) := fun o => (blk_cell (blk_alloc HK38.out o) 0).trans rfl
  have c_t1 : w5.cell? ⟨w.heap.size + 1, 1, none⟩ = some (Value.string t.name) := (blk_cell HK38.out 1).trans rfl
  have f_t1 := blk_frozen HK38.out 1
  have a_t1 : ∀ o, (w5.alloc o).cell? ⟨w.heap.size + 1, 1, none⟩ = some (Value.string t.name) := fun o => (blk_cell (blk_alloc HK38.out o) 1).trans rfl
  have c_t2 : w5.cell? ⟨w.heap.size + 1, 2, none⟩ = some (Value.string t.owner) := (blk_cell HK38.out 2).trans rfl
  have f_t2 := blk_frozen HK38.out 2
  have a_t2 : ∀ o, (w5.alloc o).cell? ⟨w.heap.size + 1, 2, none⟩ = some (Value.string t.owner) := fun o => (blk_cell (blk_alloc HK38.out o) 2).trans rfl
  have c_t3 : w5.cell? ⟨w.heap.size + 1, 3, none⟩ = some (Value.slice A3 t.cols.length c3) := (blk_cell HK38.out 3).trans rfl
  have f_t3 := blk_frozen HK38.out 3
  have a_t3 : ∀ o, (w5.alloc o).cell? ⟨w.heap.size + 1, 3, none⟩ = some (Value.slice A3 t.cols.length c3) := fun o => (blk_cell (blk_alloc HK38.out o) 3).trans rfl
  have c_t4 : w5.cell? ⟨w.heap.size + 1, 4, none⟩ = some (Value.slice A4 t.rules.length c4) := (blk_cell HK38.out 4).trans rfl
  have f_t4 := blk_frozen HK38.out 4
  have a_t4 : ∀ o, (w5.alloc o).cell? ⟨w.heap.size + 1, 4, none⟩ = some (Value.slice A4 t.rules.length c4) := fun o => (blk_cell (blk_alloc HK38.out o) 4).trans rfl
  have c_own0 : w5.cell? ⟨w2.heap.size, 0, none⟩ = some (Value.slice Bs ss.length ds) := (blk_cell HK39.out 0).trans rfl
  have f_own0 := blk_frozen HK39.out 0
  have a_own0 : ∀ o, (w5.alloc o).cell? ⟨w2.heap.size, 0, none⟩ = some (Value.slice Bs ss.length ds) := fun o => (blk_cell (blk_alloc HK39.out o) 0).trans rfl
  have c_own1 : w5.cell? ⟨w2.heap.size, 1, none⟩ = some (Value.slice Bt ts.length dt) := (blk_cell HK39.out 1).trans rfl
  have f_own1 := blk_frozen HK39.out 1
  have a_own1 : ∀ o, (w5.alloc o).cell? ⟨w2.heap.size, 1, none⟩ = some (Value.slice Bt ts.length dt) := fun o => (blk_cell (blk_alloc HK39.out o) 1).trans rfl
  have c_x0 : w5.cell? ⟨w3.heap.size, 0, none⟩ = some (Value.slice Es r.2.1.length Esd) := (blk_cell HK40.out 0).trans rfl
  have f_x0 := blk_frozen HK40.out 0
  have a_x0 : ∀ o, (w5.alloc o).cell? ⟨w3.heap.size, 0, none⟩ = some (Value.slice Es r.2.1.length Esd) := fun o => (blk_cell (blk_alloc HK40.out o) 0).trans rfl
  have c_x1 : w5.cell? ⟨w3.heap.size, 1, none⟩ = some (Value.slice Et r.2.2.length Etd) := (blk_cell HK40.out 1).trans rfl
  have f_x1 := blk_frozen HK40.out 1
  have a_x1 : ∀ o, (w5.alloc o).cell? ⟨w3.heap.size, 1, none⟩ = some (Value.slice Et r.2.2.length Etd) := fun o => (blk_cell (blk_alloc HK40.out o) 1).trans rfl
  have c_y0 : w5.cell? ⟨w4.heap.size, 0, none⟩ = some (Value.slice Fs r.2.1.length Fsd) := (blk_cell HK41.out 0).trans rfl
  have f_y0 := blk_frozen HK41.out 0
  have a_y0 : ∀ o, (w5.alloc o).cell? ⟨w4.heap.size, 0, none⟩ = some (Value.slice Fs r.2.1.length Fsd) := fun o => (blk_cell (blk_alloc HK41.out o) 0).trans rfl
  have c_y1 : w5.cell? ⟨w4.heap.size, 1, none⟩ = some (Value.slice Ft r.2.2.length Ftd) := (blk_cell HK41.out 1).trans rfl
  have f_y1 := blk_frozen HK41.out 1
  have a_y1 : ∀ o, (w5.alloc o).cell? ⟨w4.heap.size, 1, none⟩ = some (Value.slice Ft r.2.2.length Ftd) := fun o => (blk_cell (blk_alloc HK41.out o) 1).trans rfl
  go_wp2_with fail
  clear c_o0 f_o0 a_o0 c_o1 f_o1 a_o1 c_t0 f_t0 a_t0 c_t1 f_t1 a_t1 c_t2 f_t2 a_t2 c_t3 f_t3 a_t3 c_t4 f_t4 a_t4 c_own0 f_own0 a_own0 c_own1 f_own1 a_own1 c_x0 f_x0 a_x0 c_x1 f_x1 a_x1 c_y0 f_y0 a_y0 c_y1 f_y1 a_y1
  obtain ⟨v4, he4⟩ : ∃ W, W = (w5.alloc (.cells #[Value.slice Gs q.2.1.length Gsd, Value.slice Gt q.2.2.length Gtd] 26)) := ⟨_, rfl⟩
  have hb_ : Below w5.heap.size w5 v4 := by rw [he4]; exact below_alloc (Below.refl _ _) _
  have HZ4 := Aside0.mk (show v4.heap.size = w5.heap.size + 1 by rw [he4]; simp)
  have HN4 := Aside0.mk (show v4.heap[w5.heap.size]? = some (.cells #[Value.slice Gs q.2.1.length Gsd, Value.slice Gt q.2.2.length Gtd] 26 (0, 0)) by rw [he4]; exact blk_new _ _)
  have HV4 := Aside0.mk (below_step (HB5.out) hb_)
  have HK46 := Aside0.mk (blk_below (HK37.out) hb_)
  have HK47 := Aside0.mk (blk_below (HK38.out) hb_)
  have HK48 := Aside0.mk (blk_below (HK39.out) hb_)
  have HK49 := Aside0.mk (blk_below (HK40.out) hb_)
  have HK50 := Aside0.mk (blk_below (HK41.out) hb_)
  have HT51 := Aside0.mk ((HT42.out).below hb_)
  have HT52 := Aside0.mk ((HT43.out).below hb_)
  have HT53 := Aside0.mk ((HT44.out).below hb_)
  have HT54 := Aside0.mk ((HT45.out).below hb_)
  have HT55 := Aside0.mk ((HM5.out).below hb_)
  rw [← he4]
  clear he4
  refine (calls_made (rDropTable.calls (cs := ds) (ct := dt) ss ts schema table v4 (Kd.F_now (HT52.out).OF.1) hsl3 (Kd.F_now (HT52.out).OF.2) HFF.out HTB.out)).mono ?_
  rw [← HQ.out]
  rintro e w6 ⟨Hs, Hsd, Ht, Htd, rfl, hx, hb6⟩
  have HB6 := Aside0.mk (below_step (HV4.out) hb6)
  have HK56 := Aside0.mk (blk_below (HK46.out) hb6)
  have HK57 := Aside0.mk (blk_below (HK47.out) hb6)
  have HK58 := Aside0.mk (blk_below (HK48.out) hb6)
  have HK59 := Aside0.mk (blk_below (HK49.out) hb6)
  have HK60 := Aside0.mk (blk_below (HK50.out) hb6)
  have HK61 := Aside0.mk (blk_below (HN4.out) hb6)
  have HT62 := Aside0.mk ((HT51.out).below hb6)
  have HT63 := Aside0.mk ((HT52.out).below hb6)
  have HT64 := Aside0.mk ((HT53.out).below hb6)
  have HT65 := Aside0.mk ((HT54.out).below hb6)
  have HT66 := Aside0.mk ((HT55.out).below hb6)
  have HS6 := Aside0.mk hb6
  have HM6 := Aside0.mk hx
  clear hx hb6
  have c_o0 : w6.cell? ⟨w.heap.size, 0, none⟩ = some (Value.slice As ss.length cs) := (blk_cell HK56.out 0).trans rfl
  have f_o0 := blk_frozen HK56.out 0
  have a_o0 : ∀ o, (w6.alloc o).cell? ⟨w.heap.size, 0, none⟩ = some (Value.slice As ss.length cs) := fun o => (blk_cell (blk_alloc HK56.out o) 0).trans rfl
  have c_o1 : w6.cell? ⟨w.heap.size, 1, none⟩ = some (Value.slice At ts.length ct) := (blk_cell HK56.out 1).trans rfl
  have f_o1 := blk_frozen HK56.out 1
  have a_o1 : ∀ o, (w6.alloc o).cell? ⟨w.heap.size, 1, none⟩ = some (Value.slice At ts.length ct) := fun o => (blk_cell (blk_alloc HK56.out o) 1).trans rfl
  have c_t0 : w6.cell? ⟨w.heap.size + 1, 0, none⟩ = some (Value.string t.schema) := (blk_cell HK57.out 0).trans rfl
  have f_t0 := blk_frozen HK57.out 0
  have a_t0 : ∀ o, (w6.alloc o).cell? ⟨w.heap.size + 1, 0, none⟩ = some (Value.string t.schema) := fun o => (blk_cell (blk_alloc HK57.out o) 0).trans rfl
  have c_t1 : w6.cell? ⟨w.heap.size + 1, 1, none⟩ = some (Value.string t.name) := (blk_cell HK57.out 1).trans rfl
  have f_t1 := blk_frozen HK57.out 1
  have a_t1 : ∀ o, (w6.alloc o).cell? ⟨w.heap.size + 1, 1, none⟩ = some (Value.string t.name) := fun o => (blk_cell (blk_alloc HK57.out o) 1).trans rfl
  have c_t2 : w6.cell? ⟨w.heap.size + 1, 2, none⟩ = some (Value.string t.owner) := (blk_cell HK57.out 2).trans rfl
  have f_t2 := blk_frozen HK57.out 2
  have a_t2 : ∀ o, (w6.alloc o).cell? ⟨w.heap.size + 1, 2, none⟩ = some (Value.string t.owner) := fun o => (blk_cell (blk_alloc HK57.out o) 2).trans rfl
  have c_t3 : w6.cell? ⟨w.heap.size + 1, 3, none⟩ = some (Value.slice A3 t.cols.length c3) := (blk_cell HK57.out 3).trans rfl
  have f_t3 := blk_frozen HK57.out 3
  have a_t3 : ∀ o, (w6.alloc o).cell? ⟨w.heap.size + 1, 3, none⟩ = some (Value.slice A3 t.cols.length c3) := fun o => (blk_cell (blk_alloc HK57.out o) 3).trans rfl
  have c_t4 : w6.cell? ⟨w.heap.size + 1, 4, none⟩ = some (Value.slice A4 t.rules.length c4) := (blk_cell HK57.out 4).trans rfl
  have f_t4 := blk_frozen HK57.out 4
  have a_t4 : ∀ o, (w6.alloc o).cell? ⟨w.heap.size + 1, 4, none⟩ = some (Value.slice A4 t.rules.length c4) := fun o => (blk_cell (blk_alloc HK57.out o) 4).trans rfl
  have c_own0 : w6.cell? ⟨w2.heap.size, 0, none⟩ = some (Value.slice Bs ss.length ds) := (blk_cell HK58.out 0).trans rfl
  have f_own0 := blk_frozen HK58.out 0
  have a_own0 : ∀ o, (w6.alloc o).cell? ⟨w2.heap.size, 0, none⟩ = some (Value.slice Bs ss.length ds) := fun o => (blk_cell (blk_alloc HK58.out o) 0).trans rfl
  have c_own1 : w6.cell? ⟨w2.heap.size, 1, none⟩ = some (Value.slice Bt ts.length dt) := (blk_cell HK58.out 1).trans rfl
  have f_own1 := blk_frozen HK58.out 1
  have a_own1 : ∀ o, (w6.alloc o).cell? ⟨w2.heap.size, 1, none⟩ = some (Value.slice Bt ts.length dt) := fun o => (blk_cell (blk_alloc HK58.out o) 1).trans rfl
  have c_x0 : w6.cell? ⟨w3.heap.size, 0, none⟩ = some (Value.slice Es r.2.1.length Esd) := (blk_cell HK59.out 0).trans rfl
  have f_x0 := blk_frozen HK59.out 0
  have a_x0 : ∀ o, (w6.alloc o).cell? ⟨w3.heap.size, 0, none⟩ = some (Value.slice Es r.2.1.length Esd) := fun o => (blk_cell (blk_alloc HK59.out o) 0).trans rfl
  have c_x1 : w6.cell? ⟨w3.heap.size, 1, none⟩ = some (Value.slice Et r.2.2.length Etd) := (blk_cell HK59.out 1).trans rfl
  have f_x1 := blk_frozen HK59.out 1
  have a_x1 : ∀ o, (w6.alloc o).cell? ⟨w3.heap.size, 1, none⟩ = some (Value.slice Et r.2.2.length Etd) := fun o => (blk_cell (blk_alloc HK59.out o) 1).trans rfl
  have c_y0 : w6.cell? ⟨w4.heap.size, 0, none⟩ = some (Value.slice Fs r.2.1.length Fsd) := (blk_cell HK60.out 0).trans rfl
  have f_y0 := blk_frozen HK60.out 0
  have a_y0 : ∀ o, (w6.alloc o).cell? ⟨w4.heap.size, 0, none⟩ = some (Value.slice Fs r.2.1.length Fsd) := fun o => (blk_cell (blk_alloc HK60.out o) 0).trans rfl
  have c_y1 : w6.cell? ⟨w4.heap.size, 1, none⟩ = some (Value.slice Ft r.2.2.length Ftd) := (blk_cell HK60.out 1).trans rfl
  have f_y1 := blk_frozen HK60.out 1
  have a_y1 : ∀ o, (w6.alloc o).cell? ⟨w4.heap.size, 1, none⟩ = some (Value.slice Ft r.2.2.length Ftd) := fun o => (blk_cell (blk_alloc HK60.out o) 1).trans rfl
  have c_u0 : w6.cell? ⟨w5.heap.size, 0, none⟩ = some (Value.slice Gs q.2.1.length Gsd) := (blk_cell HK61.out 0).trans rfl
  have f_u0 := blk_frozen HK61.out 0
  have a_u0 : ∀ o, (w6.alloc o).cell? ⟨w5.heap.size, 0, none⟩ = some (Value.slice Gs q.2.1.length Gsd) := fun o => (blk_cell (blk_alloc HK61.out o) 0).trans rfl
  have c_u1 : w6.cell? ⟨w5.heap.size, 1, none⟩ = some (Value.slice Gt q.2.2.length Gtd) := (blk_cell HK61.out 1).trans rfl
  have f_u1 := blk_frozen HK61.out 1
  have a_u1 : ∀ o, (w6.alloc o).cell? ⟨w5.heap.size, 1, none⟩ = some (Value.slice Gt q.2.2.length Gtd) := fun o => (blk_cell (blk_alloc HK61.out o) 1).trans rfl
  go_wp2_with fail
  clear c_o0 f_o0 a_o0 c_o1 f_o1 a_o1 c_t0 f_t0 a_t0 c_t1 f_t1 a_t1 c_t2 f_t2 a_t2 c_t3 f_t3 a_t3 c_t4 f_t4 a_t4 c_own0 f_own0 a_own0 c_own1 f_own1 a_own1 c_x0 f_x0 a_x0 c_x1 f_x1 a_x1 c_y0 f_y0 a_y0 c_y1 f_y1 a_y1 c_u0 f_u0 a_u0 c_u1 f_u1 a_u1
  obtain ⟨v5, he5⟩ : ∃ W, W = (w6.alloc (.cells #[Value.slice Hs q.2.1.length Hsd, Value.slice Ht q.2.2.length Htd] 26)) := ⟨_, rfl⟩
  have hb_ : Below w6.heap.size w6 v5 := by rw [he5]; exact below_alloc (Below.refl _ _) _
  have HZ5 := Aside0.mk (show v5.heap.size = w6.heap.size + 1 by rw [he5]; simp)
  have HN5 := Aside0.mk (show v5.heap[w6.heap.size]? = some (.cells #[Value.slice Hs q.2.1.length Hsd, Value.slice Ht q.2.2.length Htd] 26 (0, 0)) by rw [he5]; exact blk_new _ _)
  have HV5 := Aside0.mk (below_step (HB6.out) hb_)
  have HK67 := Aside0.mk (blk_below (HK56.out) hb_)
  have HK68 := Aside0.mk (blk_below (HK57.out) hb_)
  have HK69 := Aside0.mk (blk_below (HK58.out) hb_)
  have HK70 := Aside0.mk (blk_below (HK59.out) hb_)
  have HK71 := Aside0.mk (blk_below (HK60.out) hb_)
  have HK72 := Aside0.mk (blk_below (HK61.out) hb_)
  have HT73 := Aside0.mk ((HT62.out).below hb_)
  have HT74 := Aside0.mk ((HT63.out).below hb_)
  have HT75 := Aside0.mk ((HT64.out).below hb_)
  have HT76 := Aside0.mk ((HT65.out).below hb_)
  have HT77 := Aside0.mk ((HT66.out).below hb_)
  have HT78 := Aside0.mk ((HM6.out).below hb_)
  rw [← he5]
  clear he5
  refine (tables.calls v5).mono ?_
  rintro e w7 ⟨rfl, hb7⟩
  have HB7 := Aside0.mk (below_step (HV5.out) hb7)
  have HK79 := Aside0.mk (blk_below (HK67.out) hb7)
  have HK80 := Aside0.mk (blk_below (HK68.out) hb7)
  have HK81 := Aside0.mk (blk_below (HK69.out) hb7)
  have HK82 := Aside0.mk (blk_below (HK70.out) hb7)
  have HK83 := Aside0.mk (blk_below (HK71.out) hb7)
  have HK84 := Aside0.mk (blk_below (HK72.out) hb7)
  have HK85 := Aside0.mk (blk_below (HN5.out) hb7)
  have HT86 := Aside0.mk ((HT73.out).below hb7)
  have HT87 := Aside0.mk ((HT74.out).below hb7)
  have HT88 := Aside0.mk ((HT75.out).below hb7)
  have HT89 := Aside0.mk ((HT76.out).below hb7)
  have HT90 := Aside0.mk ((HT77.out).below hb7)
  have HT91 := Aside0.mk ((HT78.out).below hb7)
  have HS7 := Aside0.mk hb7
  clear hb7
  have c_o0 : w7.cell? ⟨w.heap.size, 0, none⟩ = some (Value.slice As ss.length cs) := (blk_cell HK79.out 0).trans rfl
  have f_o0 := blk_frozen HK79.out 0
  have c_o1 : w7.cell? ⟨w.heap.size, 1, none⟩ = some (Value.slice At ts.length ct) := (blk_cell HK79.out 1).trans rfl
  have f_o1 := blk_frozen HK79.out 1
  have c_t0 : w7.cell? ⟨w.heap.size + 1, 0, none⟩ = some (Value.string t.schema) := (blk_cell HK80.out 0).trans rfl
  have f_t0 := blk_frozen HK80.out 0
  have c_t1 : w7.cell? ⟨w.heap.size + 1, 1, none⟩ = some (Value.string t.name) := (blk_cell HK80.out 1).trans rfl
  have f_t1 := blk_frozen HK80.out 1
  have c_t2 : w7.cell? ⟨w.heap.size + 1, 2, none⟩ = some (Value.string t.owner) := (blk_cell HK80.out 2).trans rfl
  have f_t2 := blk_frozen HK80.out 2
  have c_t3 : w7.cell? ⟨w.heap.size + 1, 3, none⟩ = some (Value.slice A3 t.cols.length c3) := (blk_cell HK80.out 3).trans rfl
  have f_t3 := blk_frozen HK80.out 3
  have c_t4 : w7.cell? ⟨w.heap.size + 1, 4, none⟩ = some (Value.slice A4 t.rules.length c4) := (blk_cell HK80.out 4).trans rfl
  have f_t4 := blk_frozen HK80.out 4
  have c_own0 : w7.cell? ⟨w2.heap.size, 0, none⟩ = some (Value.slice Bs ss.length ds) := (blk_cell HK81.out 0).trans rfl
  have f_own0 := blk_frozen HK81.out 0
  have c_own1 : w7.cell? ⟨w2.heap.size, 1, none⟩ = some (Value.slice Bt ts.length dt) := (blk_cell HK81.out 1).trans rfl
  have f_own1 := blk_frozen HK81.out 1
  have c_x0 : w7.cell? ⟨w3.heap.size, 0, none⟩ = some (Value.slice Es r.2.1.length Esd) := (blk_cell HK82.out 0).trans rfl
  have f_x0 := blk_frozen HK82.out 0
  have c_x1 : w7.cell? ⟨w3.heap.size, 1, none⟩ = some (Value.slice Et r.2.2.length Etd) := (blk_cell HK82.out 1).trans rfl
  have f_x1 := blk_frozen HK82.out 1
  have c_y0 : w7.cell? ⟨w4.heap.size, 0, none⟩ = some (Value.slice Fs r.2.1.length Fsd) := (blk_cell HK83.out 0).trans rfl
  have f_y0 := blk_frozen HK83.out 0
  have c_y1 : w7.cell? ⟨w4.heap.size, 1, none⟩ = some (Value.slice Ft r.2.2.length Ftd) := (blk_cell HK83.out 1).trans rfl
  have f_y1 := blk_frozen HK83.out 1
  have c_u0 : w7.cell? ⟨w5.heap.size, 0, none⟩ = some (Value.slice Gs q.2.1.length Gsd) := (blk_cell HK84.out 0).trans rfl
  have f_u0 := blk_frozen HK84.out 0
  have c_u1 : w7.cell? ⟨w5.heap.size, 1, none⟩ = some (Value.slice Gt q.2.2.length Gtd) := (blk_cell HK84.out 1).trans rfl
  have f_u1 := blk_frozen HK84.out 1
  have c_v0 : w7.cell? ⟨w6.heap.size, 0, none⟩ = some (Value.slice Hs q.2.1.length Hsd) := (blk_cell HK85.out 0).trans rfl
  have f_v0 := blk_frozen HK85.out 0
  have c_v1 : w7.cell? ⟨w6.heap.size, 1, none⟩ = some (Value.slice Ht q.2.2.length Htd) := (blk_cell HK85.out 1).trans rfl
  have f_v1 := blk_frozen HK85.out 1
  go_wp2_with fail
  clear c_o0 f_o0 c_o1 f_o1 c_t0 f_t0 c_t1 f_t1 c_t2 f_t2 c_t3 f_t3 c_t4 f_t4 c_own0 f_own0 c_own1 f_own1 c_x0 f_x0 c_x1 f_x1 c_y0 f_y0 c_y1 f_y1 c_u0 f_u0 c_u1 f_u1 c_v0 f_v0 c_v1 f_v1
  have z0 := HB1.out.size
  have z1 := HZ0.out
  have z2 := HB2.out.size
  have z3 := HS2.out.size
  have z4 := HZ1.out
  have z5 := HB3.out.size
  have z6 := HS3.out.size
  have z7 := HZ2.out
  have z8 := HB4.out.size
  have z9 := HS4.out.size
  have z10 := HZ3.out
  have z11 := HB5.out.size
  have z12 := HS5.out.size
  have z13 := HZ4.out
  have z14 := HB6.out.size
  have z15 := HS6.out.size
  have z16 := HZ5.out
  have z17 := HB7.out.size
  have z18 := HS7.out.size
  refine (told.law r.1 r.2.1 r.2.2 ss ts w7 v1.heap.size w3.heap.size HT88.out (HT89.out).OF HT86.out (fun k hk hs => by have hk' : k < w.heap.size := hk; have := hs.1; omega) (HT87.out).OF (fun k hk hs => by have hk' := hk.2; have := hs.1; omega) (by omega) HRB.out.1 HRB.out.2 hsl3 HTB.out).mono ?_
  clear z0 z1 z2 z3 z4 z5 z6 z7 z8 z9 z10 z11 z12 z13 z14 z15 z16 z17 z18
  rintro e wz ⟨rfl, hz⟩
  have z0 := HB1.out.size
  have z1 := HZ0.out
  have z2 := HB2.out.size
  have z3 := HS2.out.size
  have z4 := HZ1.out
  have z5 := HB3.out.size
  have z6 := HS3.out.size
  have z7 := HZ2.out
  have z8 := HB4.out.size
  have z9 := HS4.out.size
  have z10 := HZ3.out
  have z11 := HB5.out.size
  have z12 := HS5.out.size
  have z13 := HZ4.out
  have z14 := HB6.out.size
  have z15 := HS6.out.size
  have z16 := HZ5.out
  have z17 := HB7.out.size
  have z18 := HS7.out.size
  have HBz := Aside0.mk (((Spr.of_below (HB7.out)).trans hz).below (fun k hk => by have := hk.1; omega) (Nat.le_refl _))
  have HK92 := Aside0.mk ((hz.2.2.2.2 _ (blk_lt (HK79.out)) (fun hk => by have h1 := hk.1; have h2 := hk.2; omega)).trans (HK79.out))
  have HK93 := Aside0.mk ((hz.2.2.2.2 _ (blk_lt (HK80.out)) (fun hk => by have h1 := hk.1; have h2 := hk.2; omega)).trans (HK80.out))
  have HK94 := Aside0.mk ((hz.2.2.2.2 _ (blk_lt (HK81.out)) (fun hk => by have h1 := hk.1; have h2 := hk.2; omega)).trans (HK81.out))
  have HK95 := Aside0.mk ((hz.2.2.2.2 _ (blk_lt (HK82.out)) (fun hk => by have h1 := hk.1; have h2 := hk.2; omega)).trans (HK82.out))
  have HK96 := Aside0.mk ((hz.2.2.2.2 _ (blk_lt (HK83.out)) (fun hk => by have h1 := hk.1; have h2 := hk.2; omega)).trans (HK83.out))
  have HK97 := Aside0.mk ((hz.2.2.2.2 _ (blk_lt (HK84.out)) (fun hk => by have h1 := hk.1; have h2 := hk.2; omega)).trans (HK84.out))
  have HK98 := Aside0.mk ((hz.2.2.2.2 _ (blk_lt (HK85.out)) (fun hk => by have h1 := hk.1; have h2 := hk.2; omega)).trans (HK85.out))
  have HT99 := Aside0.mk ((HT86.out).step hz (fun k hk hs => by have hk' : k < w.heap.size := hk; have := hs.1; omega))
  have HT100 := Aside0.mk ((HT87.out).step hz (fun k h1 h2 hs => by have := hs.1; omega))
  have HT101 := Aside0.mk ((HT90.out).step hz (fun k h1 h2 hs => by have := hs.2; omega))
  have HT102 := Aside0.mk ((HT91.out).step hz (fun k h1 h2 hs => by have := hs.2; omega))
  clear z0 z1 z2 z3 z4 z5 z6 z7 z8 z9 z10 z11 z12 z13 z14 z15 z16 z17 z18
  have HZS := Aside0.mk hz.2.2.2.1
  clear hz
  have c_o0 : wz.cell? ⟨w.heap.size, 0, none⟩ = some (Value.slice As ss.length cs) := (blk_cell HK92.out 0).trans rfl
  have f_o0 := blk_frozen HK92.out 0
  have c_o1 : wz.cell? ⟨w.heap.size, 1, none⟩ = some (Value.slice At ts.length ct) := (blk_cell HK92.out 1).trans rfl
  have f_o1 := blk_frozen HK92.out 1
  have c_t0 : wz.cell? ⟨w.heap.size + 1, 0, none⟩ = some (Value.string t.schema) := (blk_cell HK93.out 0).trans rfl
  have f_t0 := blk_frozen HK93.out 0
  have c_t1 : wz.cell? ⟨w.heap.size + 1, 1, none⟩ = some (Value.string t.name) := (blk_cell HK93.out 1).trans rfl
  have f_t1 := blk_frozen HK93.out 1
  have c_t2 : wz.cell? ⟨w.heap.size + 1, 2, none⟩ = some (Value.string t.owner) := (blk_cell HK93.out 2).trans rfl
  have f_t2 := blk_frozen HK93.out 2
  have c_t3 : wz.cell? ⟨w.heap.size + 1, 3, none⟩ = some (Value.slice A3 t.cols.length c3) := (blk_cell HK93.out 3).trans rfl
  have f_t3 := blk_frozen HK93.out 3
  have c_t4 : wz.cell? ⟨w.heap.size + 1, 4, none⟩ = some (Value.slice A4 t.rules.length c4) := (blk_cell HK93.out 4).trans rfl
  have f_t4 := blk_frozen HK93.out 4
  have c_own0 : wz.cell? ⟨w2.heap.size, 0, none⟩ = some (Value.slice Bs ss.length ds) := (blk_cell HK94.out 0).trans rfl
  have f_own0 := blk_frozen HK94.out 0
  have c_own1 : wz.cell? ⟨w2.heap.size, 1, none⟩ = some (Value.slice Bt ts.length dt) := (blk_cell HK94.out 1).trans rfl
  have f_own1 := blk_frozen HK94.out 1
  have c_x0 : wz.cell? ⟨w3.heap.size, 0, none⟩ = some (Value.slice Es r.2.1.length Esd) := (blk_cell HK95.out 0).trans rfl
  have f_x0 := blk_frozen HK95.out 0
  have c_x1 : wz.cell? ⟨w3.heap.size, 1, none⟩ = some (Value.slice Et r.2.2.length Etd) := (blk_cell HK95.out 1).trans rfl
  have f_x1 := blk_frozen HK95.out 1
  have c_y0 : wz.cell? ⟨w4.heap.size, 0, none⟩ = some (Value.slice Fs r.2.1.length Fsd) := (blk_cell HK96.out 0).trans rfl
  have f_y0 := blk_frozen HK96.out 0
  have c_y1 : wz.cell? ⟨w4.heap.size, 1, none⟩ = some (Value.slice Ft r.2.2.length Ftd) := (blk_cell HK96.out 1).trans rfl
  have f_y1 := blk_frozen HK96.out 1
  have c_u0 : wz.cell? ⟨w5.heap.size, 0, none⟩ = some (Value.slice Gs q.2.1.length Gsd) := (blk_cell HK97.out 0).trans rfl
  have f_u0 := blk_frozen HK97.out 0
  have c_u1 : wz.cell? ⟨w5.heap.size, 1, none⟩ = some (Value.slice Gt q.2.2.length Gtd) := (blk_cell HK97.out 1).trans rfl
  have f_u1 := blk_frozen HK97.out 1
  have c_v0 : wz.cell? ⟨w6.heap.size, 0, none⟩ = some (Value.slice Hs q.2.1.length Hsd) := (blk_cell HK98.out 0).trans rfl
  have f_v0 := blk_frozen HK98.out 0
  have c_v1 : wz.cell? ⟨w6.heap.size, 1, none⟩ = some (Value.slice Ht q.2.2.length Htd) := (blk_cell HK98.out 1).trans rfl
  have f_v1 := blk_frozen HK98.out 1
  go_wp2_with fail
  clear c_o0 f_o0 c_o1 f_o1 c_t0 f_t0 c_t1 f_t1 c_t2 f_t2 c_t3 f_t3 c_t4 f_t4 c_own0 f_own0 c_own1 f_own1 c_x0 f_x0 c_x1 f_x1 c_y0 f_y0 c_y1 f_y1 c_u0 f_u0 c_u1 f_u1 c_v0 f_v0 c_v1 f_v1
  have z0 := HB1.out.size
  have z1 := HZ0.out
  have z2 := HB2.out.size
  have z3 := HS2.out.size
  have z4 := HZ1.out
  have z5 := HB3.out.size
  have z6 := HS3.out.size
  have z7 := HZ2.out
  have z8 := HB4.out.size
  have z9 := HS4.out.size
  have z10 := HZ3.out
  have z11 := HB5.out.size
  have z12 := HS5.out.size
  have z13 := HZ4.out
  have z14 := HB6.out.size
  have z15 := HS6.out.size
  have z16 := HZ5.out
  have z17 := HB7.out.size
  have z18 := HS7.out.size
  have z19 := HZS.out
  refine (told.law q.1 q.2.1 q.2.2 ss ts wz v3.heap.size w5.heap.size HT101.out (HT102.out).OF HT99.out (fun k hk hs => by have hk' : k < w.heap.size := hk; have := hs.1; omega) (HT100.out).OF (fun k hk hs => by have hk' := hk.2; have := hs.1; omega) (by omega) HQB.out.1 HQB.out.2 hsl3 HTB.out).mono ?_
  clear z0 z1 z2 z3 z4 z5 z6 z7 z8 z9 z10 z11 z12 z13 z14 z15 z16 z17 z18 z19
  rintro e wy ⟨rfl, hz⟩
  have z0 := HB1.out.size
  have z1 := HZ0.out
  have z2 := HB2.out.size
  have z3 := HS2.out.size
  have z4 := HZ1.out
  have z5 := HB3.out.size
  have z6 := HS3.out.size
  have z7 := HZ2.out
  have z8 := HB4.out.size
  have z9 := HS4.out.size
  have z10 := HZ3.out
  have z11 := HB5.out.size
  have z12 := HS5.out.size
  have z13 := HZ4.out
  have z14 := HB6.out.size
  have z15 := HS6.out.size
  have z16 := HZ5.out
  have z17 := HB7.out.size
  have z18 := HS7.out.size
  have z19 := HZS.out
  have HFIN := Aside0.mk (((Spr.of_below (HBz.out)).trans hz).below (B := w.heap.size) (fun k hk => by have := hk.1; omega) (Nat.le_refl _))
  clear z0 z1 z2 z3 z4 z5 z6 z7 z8 z9 z10 z11 z12 z13 z14 z15 z16 z17 z18 z19
  clear hz
  go_wp2
  go_ret
  exact ⟨rfl, HFIN.out⟩
theorem law_ObjectsTables.deep (x : List Sch × List Tab) (c : Option Addr × Nat × Option Addr × Nat) (y : Tab) (d : Option Addr × Nat × Option Addr × Nat) (a1 a2 : ByteArray) (w : World) (h : ObjIn w x c) (h2 : TabIn w y d) (_ : a1.size ≤ 140737488351232) (_ : a2.size ≤ 140737488351232) : Calls Try.prog 8 #[objV x c, tabV y d, .string a1, .string a2] w fun e w' => e = .returned (.bool true) ∧ Below w.heap.size w w' :=
  law_ObjectsTables.calls x.1 x.2 y a1 a2 w h.1 (by have := h.2.1; omega) h.2.2.1 h.2.2.2.1 h2.2.1 h2.2.2.1 h2.2.2.2.1
end Go.Proofs.Ytmmiehckgkadgaa.O
