/- Own lemmas and walks (RC), without what the law does not need. Laid by a program of this session (prune.py). -/
import Derived.Test.YtmmiehckgkadgaaGreatPr12
import Derived.Test.YtmmiehckgkadgaaGreatPr29
import Derived.Test.YtmmiehckgkadgaaGreatPr30
import Derived.Test.YtmmiehckgkadgaaGreatPr31
namespace Go.Proofs.YtmmiehckgkadgaaGreat.O
set_option linter.unusedVariables false
set_option linter.unusedSimpArgs false
open Go.RowKit Go.Proofs.YtmmiehckgkadgaaGreatW.PrintWords
set_option maxRecDepth 20000 in
set_option maxHeartbeats 40000000 in
theorem law_ObjectsRight.calls {As At A2 A3 A4 : Option Addr} {cs ct c2 c3 c4 : Nat} (ss : List Sch) (ts : List Tab) (t : Tab) (r : Rul) (schema name : ByteArray) (w : World) (hs : kSch.C w As ss.length ss) (hsl : ss.length ≤ 8796093022208) (ht : kTab.C w At ts.length ts) (hF : TabsF ts) (h3 : kCol.C w A3 t.cols.length t.cols) (h4 : kRul.C w A4 t.rules.length t.rules) (htF : TabF t) (h2 : Kd.string.C w A2 r.cols.length r.cols) (hrF : RulF r) :
    Calls Tryz.prog 5 #[.agg #[.slice As ss.length cs, .slice At ts.length ct], .agg #[.string t.schema, .string t.name, .string t.owner, .slice A3 t.cols.length c3, .slice A4 t.rules.length c4], .agg #[.string r.name, .int .i64 r.kind, .slice A2 r.cols.length c2, .int .i64 r.low, .int .i64 r.high, .string r.schema, .string r.table, .string r.key], .string schema, .string name] w fun e w' => e = .returned (.bool true) ∧ Below w.heap.size w w' := by
  have HX0 := Aside0.mk (boxes3 w (.cells #[Value.slice As ss.length cs, Value.slice At ts.length ct] 25) (.cells #[Value.string t.schema, Value.string t.name, Value.string t.owner, Value.slice A3 t.cols.length c3, Value.slice A4 t.rules.length c4] 50) (.cells #[Value.string r.name, Value.int .i64 r.kind, Value.slice A2 r.cols.length c2, Value.int .i64 r.low, Value.int .i64 r.high, Value.string r.schema, Value.string r.table, Value.string r.key] 29))
  have HLG := Aside0.mk (fun W (hW : Below w.heap.size w W) => large.calls (As := As) (cs := cs) (At := At) (ct := ct) ss ts W hsl (Kd.C_below ht hW) hF)
  have HO0 := Aside0.mk (OF.of_C hs ht)
  have HFF := Aside0.mk hF
  have HH := Aside0.mk (And.intro h3 (And.intro h4 h2))
  have HTF := Aside0.mk htF
  have HRFF := Aside0.mk hrF
  clear hs ht hF hsl h3 h4 h2 htF hrF
  go_enter Tryz.func5, Tryz.ntmps5
  have c_o0 : (((w.alloc (.cells #[Value.slice As ss.length cs, Value.slice At ts.length ct] 25)).alloc (.cells #[Value.string t.schema, Value.string t.name, Value.string t.owner, Value.slice A3 t.cols.length c3, Value.slice A4 t.rules.length c4] 50)).alloc (.cells #[Value.string r.name, Value.int .i64 r.kind, Value.slice A2 r.cols.length c2, Value.int .i64 r.low, Value.int .i64 r.high, Value.string r.schema, Value.string r.table, Value.string r.key] 29)).cell? ⟨w.heap.size, 0, none⟩ = some (Value.slice As ss.length cs) := (blk_cell HX0.out.2.1 0).trans rfl
  have f_o0 := blk_frozen HX0.out.2.1 0
  have c_o1 : (((w.alloc (.cells #[Value.slice As ss.length cs, Value.slice At ts.length ct] 25)).alloc (.cells #[Value.string t.schema, Value.string t.name, Value.string t.owner, Value.slice A3 t.cols.length c3, Value.slice A4 t.rules.length c4] 50)).alloc (.cells #[Value.string r.name, Value.int .i64 r.kind, Value.slice A2 r.cols.length c2, Value.int .i64 r.low, Value.int .i64 r.high, Value.string r.schema, Value.string r.table, Value.string r.key] 29)).cell? ⟨w.heap.size, 1, none⟩ = some (Value.slice At ts.length ct) := (blk_cell HX0.out.2.1 1).trans rfl
  have f_o1 := blk_frozen HX0.out.2.1 1
  go_wp2_with fail
  clear c_o0 f_o0 c_o1 f_o1
  refine (HLG.out _ HX0.out.1).mono ?_
  rintro e w1 ⟨b, rfl, hObj, hb1⟩
  have HB1 := Aside0.mk (below_step (HX0.out.1) hb1)
  have HK1 := Aside0.mk (blk_below (HX0.out.2.1) hb1)
  have HK2 := Aside0.mk (blk_below (HX0.out.2.2.1) hb1)
  have HK3 := Aside0.mk (blk_below (HX0.out.2.2.2) hb1)
  have HT4 := Aside0.mk (((OF.below HO0.out HX0.out.1)).below hb1)
  have HS1 := Aside0.mk hb1
  clear hb1
  cases b with
  | true =>
    go_wp2
    go_ret
    exact ⟨rfl, HB1.out⟩
  | false =>
  have hSm := hObj rfl
  have HTB := Aside0.mk (tabsB_of hSm)
  have hsl3 : ss.length ≤ 3000 := hSm.1
  clear hObj hSm HLG
  have c_t0 : w1.cell? ⟨w.heap.size + 1, 0, none⟩ = some (Value.string t.schema) := (blk_cell HK2.out 0).trans rfl
  have f_t0 := blk_frozen HK2.out 0
  have c_t1 : w1.cell? ⟨w.heap.size + 1, 1, none⟩ = some (Value.string t.name) := (blk_cell HK2.out 1).trans rfl
  have f_t1 := blk_frozen HK2.out 1
  have c_t2 : w1.cell? ⟨w.heap.size + 1, 2, none⟩ = some (Value.string t.owner) := (blk_cell HK2.out 2).trans rfl
  have f_t2 := blk_frozen HK2.out 2
  have c_t3 : w1.cell? ⟨w.heap.size + 1, 3, none⟩ = some (Value.slice A3 t.cols.length c3) := (blk_cell HK2.out 3).trans rfl
  have f_t3 := blk_frozen HK2.out 3
  have c_t4 : w1.cell? ⟨w.heap.size + 1, 4, none⟩ = some (Value.slice A4 t.rules.length c4) := (blk_cell HK2.out 4).trans rfl
  have f_t4 := blk_frozen HK2.out 4
  have c_r0 : w1.cell? ⟨w.heap.size + 1 + 1, 0, none⟩ = some (Value.string r.name) := (blk_cell HK3.out 0).trans rfl
  have f_r0 := blk_frozen HK3.out 0
  have c_r1 : w1.cell? ⟨w.heap.size + 1 + 1, 1, none⟩ = some (Value.int .i64 r.kind) := (blk_cell HK3.out 1).trans rfl
  have f_r1 := blk_frozen HK3.out 1
  have c_r2 : w1.cell? ⟨w.heap.size + 1 + 1, 2, none⟩ = some (Value.slice A2 r.cols.length c2) := (blk_cell HK3.out 2).trans rfl
  have f_r2 := blk_frozen HK3.out 2
  have c_r3 : w1.cell? ⟨w.heap.size + 1 + 1, 3, none⟩ = some (Value.int .i64 r.low) := (blk_cell HK3.out 3).trans rfl
  have f_r3 := blk_frozen HK3.out 3
  have c_r4 : w1.cell? ⟨w.heap.size + 1 + 1, 4, none⟩ = some (Value.int .i64 r.high) := (blk_cell HK3.out 4).trans rfl
  have f_r4 := blk_frozen HK3.out 4
  have c_r5 : w1.cell? ⟨w.heap.size + 1 + 1, 5, none⟩ = some (Value.string r.schema) := (blk_cell HK3.out 5).trans rfl
  have f_r5 := blk_frozen HK3.out 5
  have c_r6 : w1.cell? ⟨w.heap.size + 1 + 1, 6, none⟩ = some (Value.string r.table) := (blk_cell HK3.out 6).trans rfl
  have f_r6 := blk_frozen HK3.out 6
  have c_r7 : w1.cell? ⟨w.heap.size + 1 + 1, 7, none⟩ = some (Value.string r.key) := (blk_cell HK3.out 7).trans rfl
  have f_r7 := blk_frozen HK3.out 7
  by_cases q1 : t.cols.length ≤ 3000
  rotate_left
  · have d1 : decide ((3000 : Int) < (t.cols.length : Int)) = true := decide_eq_true (by omega)
    have e1 : decide (3000 < t.cols.length) = true := decide_eq_true (by omega)
    clear q1
    go_wp2
    go_ret
    exact ⟨rfl, HB1.out⟩
  have d1 : decide ((3000 : Int) < (t.cols.length : Int)) = false := decide_eq_false (by omega)
  have e1 : decide (3000 < t.cols.length) = false := decide_eq_false (by omega)
  have HQ1 := Aside0.mk q1
  clear q1
  by_cases q2 : t.rules.length ≤ 3000
  rotate_left
  · have d2 : decide ((3000 : Int) < (t.rules.length : Int)) = true := decide_eq_true (by omega)
    have e2 : decide (3000 < t.rules.length) = true := decide_eq_true (by omega)
    clear q2
    go_wp2
    go_ret
    exact ⟨rfl, HB1.out⟩
  have d2 : decide ((3000 : Int) < (t.rules.length : Int)) = false := decide_eq_false (by omega)
  have e2 : decide (3000 < t.rules.length) = false := decide_eq_false (by omega)
  have HQ2 := Aside0.mk q2
  clear q2
  by_cases q3 : r.cols.length ≤ 3000
  rotate_left
  · have d3 : decide ((3000 : Int) < (r.cols.length : Int)) = true := decide_eq_true (by omega)
    have e3 : decide (3000 < r.cols.length) = true := decide_eq_true (by omega)
    clear q3
    go_wp2
    go_ret
    exact ⟨rfl, HB1.out⟩
  have d3 : decide ((3000 : Int) < (r.cols.length : Int)) = false := decide_eq_false (by omega)
  have e3 : decide (3000 < r.cols.length) = false := decide_eq_false (by omega)
  have HQ3 := Aside0.mk q3
  clear q3
  have c_o0 : w1.cell? ⟨w.heap.size, 0, none⟩ = some (Value.slice As ss.length cs) := (blk_cell HK1.out 0).trans rfl
  have f_o0 := blk_frozen HK1.out 0
  have c_o1 : w1.cell? ⟨w.heap.size, 1, none⟩ = some (Value.slice At ts.length ct) := (blk_cell HK1.out 1).trans rfl
  have f_o1 := blk_frozen HK1.out 1
  go_wp2_with fail
  clear c_t0 f_t0 c_t1 f_t1 c_t2 f_t2 c_t3 f_t3 c_t4 f_t4 c_r0 f_r0 c_r1 f_r1 c_r2 f_r2 c_r3 f_r3 c_r4 f_r4 c_r5 f_r5 c_r6 f_r6 c_r7 f_r7 c_o0 f_o0 c_o1 f_o1
  refine (Check.calls (As := As) (cs := cs) (At := At) (ct := ct) ss ts w1 (Kd.F_now HT4.out.1) (by omega) (Kd.F_now HT4.out.2) HFF.out).mono ?_
  rintro e w2 ⟨rfl, hb2⟩
  have HB2 := Aside0.mk (below_step (HB1.out) hb2)
  have HK5 := Aside0.mk (blk_below (HK1.out) hb2)
  have HK6 := Aside0.mk (blk_below (HK2.out) hb2)
  have HK7 := Aside0.mk (blk_below (HK3.out) hb2)
  have HT8 := Aside0.mk ((HT4.out).below hb2)
  have HS2 := Aside0.mk hb2
  clear hb2
  clear d1 e1 d2 e2 d3 e3
  cases hck : checkB ss ts with
  | false =>
    rw [checkE_no hck]
    have HCK := Aside0.mk hck
    clear hck
    have c_o0 : w2.cell? ⟨w.heap.size, 0, none⟩ = some (Value.slice As ss.length cs) := (blk_cell HK5.out 0).trans rfl
    have f_o0 := blk_frozen HK5.out 0
    have c_o1 : w2.cell? ⟨w.heap.size, 1, none⟩ = some (Value.slice At ts.length ct) := (blk_cell HK5.out 1).trans rfl
    have f_o1 := blk_frozen HK5.out 1
    go_wp2_with fail
    clear c_o0 f_o0 c_o1 f_o1
    refine (calls_made (AddSchema.calls (cs := cs) (ct := ct) ss ts name name w2 (Kd.F_now HT8.out.1) hsl3 (Kd.F_now HT8.out.2) HFF.out HTB.out)).mono ?_
    rw [show addSchema ss ts name name = (63, [], []) from chg_bad _ HCK.out]
    rintro e w3 ⟨Eas, Easd, Eat, Eatd, rfl, hx, hb3⟩
    have HB3 := Aside0.mk (below_step (HB2.out) hb3)
    have HK9 := Aside0.mk (blk_below (HK5.out) hb3)
    have HK10 := Aside0.mk (blk_below (HK6.out) hb3)
    have HK11 := Aside0.mk (blk_below (HK7.out) hb3)
    have HT12 := Aside0.mk ((HT8.out).below hb3)
    clear hx hb3
    have c_o0 : w3.cell? ⟨w.heap.size, 0, none⟩ = some (Value.slice As ss.length cs) := (blk_cell HK9.out 0).trans rfl
    have f_o0 := blk_frozen HK9.out 0
    have a_o0 : ∀ o, (w3.alloc o).cell? ⟨w.heap.size, 0, none⟩ = some (Value.slice As ss.length cs) := fun o => (blk_cell (blk_alloc HK9.out o) 0).trans rfl
    have c_o1 : w3.cell? ⟨w.heap.size, 1, none⟩ = some (Value.slice At ts.length ct) := (blk_cell HK9.out 1).trans rfl
    have f_o1 := blk_frozen HK9.out 1
    have a_o1 : ∀ o, (w3.alloc o).cell? ⟨w.heap.size, 1, none⟩ = some (Value.slice At ts.length ct) := fun o => (blk_cell (blk_alloc HK9.out o) 1).trans rfl
    have c_t0 : w3.cell? ⟨w.heap.size + 1, 0, none⟩ = some (Value.string t.schema) := (blk_cell HK10.out 0).trans rfl
    have f_t0 := blk_frozen HK10.out 0
    have a_t0 : ∀ o, (w3.alloc o).cell? ⟨w.heap.size + 1, 0, none⟩ = some (Value.string t.schema) := fun o => (blk_cell (blk_alloc HK10.out o) 0).trans rfl
    have c_t1 : w3.cell? ⟨w.heap.size + 1, 1, none⟩ = some (Value.string t.name) := (blk_cell HK10.out 1).trans rfl
    have f_t1 := blk_frozen HK10.out 1
    have a_t1 : ∀ o, (w3.alloc o).cell? ⟨w.heap.size + 1, 1, none⟩ = some (Value.string t.name) := fun o => (blk_cell (blk_alloc HK10.out o) 1).trans rfl
    have c_t2 : w3.cell? ⟨w.heap.size + 1, 2, none⟩ = some (Value.string t.owner) := (blk_cell HK10.out 2).trans rfl
    have f_t2 := blk_frozen HK10.out 2
    have a_t2 : ∀ o, (w3.alloc o).cell? ⟨w.heap.size + 1, 2, none⟩ = some (Value.string t.owner) := fun o => (blk_cell (blk_alloc HK10.out o) 2).trans rfl
    have c_t3 : w3.cell? ⟨w.heap.size + 1, 3, none⟩ = some (Value.slice A3 t.cols.length c3) := (blk_cell HK10.out 3).trans rfl
    have f_t3 := blk_frozen HK10.out 3
    have a_t3 : ∀ o, (w3.alloc o).cell? ⟨w.heap.size + 1, 3, none⟩ = some (Value.slice A3 t.cols.length c3) := fun o => (blk_cell (blk_alloc HK10.out o) 3).trans rfl
    have c_t4 : w3.cell? ⟨w.heap.size + 1, 4, none⟩ = some (Value.slice A4 t.rules.length c4) := (blk_cell HK10.out 4).trans rfl
    have f_t4 := blk_frozen HK10.out 4
    have a_t4 : ∀ o, (w3.alloc o).cell? ⟨w.heap.size + 1, 4, none⟩ = some (Value.slice A4 t.rules.length c4) := fun o => (blk_cell (blk_alloc HK10.out o) 4).trans rfl
    go_wp2_with fail
    clear c_o0 f_o0 a_o0 c_o1 f_o1 a_o1 c_t0 f_t0 a_t0 c_t1 f_t1 a_t1 c_t2 f_t2 a_t2 c_t3 f_t3 a_t3 c_t4 f_t4 a_t4
    obtain ⟨v1, he1⟩ : ∃ W, W = (w3.alloc (.cells #[Value.slice Eas 0 Easd, Value.slice Eat 0 Eatd] 25)) := ⟨_, rfl⟩
    have hb_ : Below w3.heap.size w3 v1 := by rw [he1]; exact below_alloc (Below.refl _ _) _
    have HZ1 := Aside0.mk (show v1.heap.size = w3.heap.size + 1 by rw [he1]; simp)
    have HN1 := Aside0.mk (show v1.heap[w3.heap.size]? = some (.cells #[Value.slice Eas 0 Easd, Value.slice Eat 0 Eatd] 25 (0, 0)) by rw [he1]; exact blk_new _ _)
    have HV1 := Aside0.mk (below_step (HB3.out) hb_)
    have HK13 := Aside0.mk (blk_below (HK9.out) hb_)
    have HK14 := Aside0.mk (blk_below (HK10.out) hb_)
    have HK15 := Aside0.mk (blk_below (HK11.out) hb_)
    have HT16 := Aside0.mk ((HT12.out).below hb_)
    rw [← he1]
    clear he1
    refine (calls_made (DropTable.calls (cs := cs) (ct := ct) ss ts schema t.name v1 (Kd.F_now HT16.out.1) hsl3 (Kd.F_now HT16.out.2) HFF.out HTB.out)).mono ?_
    rw [show dropTable ss ts schema t.name = (63, [], []) from chg_bad _ HCK.out]
    rintro e w4 ⟨Eus, Eusd, Eut, Eutd, rfl, hx, hb4⟩
    have HB4 := Aside0.mk (below_step (HV1.out) hb4)
    have HK17 := Aside0.mk (blk_below (HK13.out) hb4)
    have HK18 := Aside0.mk (blk_below (HK14.out) hb4)
    have HK19 := Aside0.mk (blk_below (HK15.out) hb4)
    have HK20 := Aside0.mk (blk_below (HN1.out) hb4)
    have HT21 := Aside0.mk ((HT16.out).below hb4)
    clear hx hb4
    go_wp2_with fail
    obtain ⟨v2, he2⟩ : ∃ W, W = (w4.alloc (.cells #[Value.slice Eus 0 Eusd, Value.slice Eut 0 Eutd] 25)) := ⟨_, rfl⟩
    have hb_ : Below w4.heap.size w4 v2 := by rw [he2]; exact below_alloc (Below.refl _ _) _
    have HZ2 := Aside0.mk (show v2.heap.size = w4.heap.size + 1 by rw [he2]; simp)
    have HN2 := Aside0.mk (show v2.heap[w4.heap.size]? = some (.cells #[Value.slice Eus 0 Eusd, Value.slice Eut 0 Eutd] 25 (0, 0)) by rw [he2]; exact blk_new _ _)
    have HV2 := Aside0.mk (below_step (HB4.out) hb_)
    have HK22 := Aside0.mk (blk_below (HK17.out) hb_)
    have HK23 := Aside0.mk (blk_below (HK18.out) hb_)
    have HK24 := Aside0.mk (blk_below (HK19.out) hb_)
    have HK25 := Aside0.mk (blk_below (HK20.out) hb_)
    have HT26 := Aside0.mk ((HT21.out).below hb_)
    rw [← he2]
    clear he2
    refine (checks.calls v2).mono ?_
    rintro e w5 ⟨rfl, hb5⟩
    have HB5 := Aside0.mk (below_step (HV2.out) hb5)
    have HK27 := Aside0.mk (blk_below (HK22.out) hb5)
    have HK28 := Aside0.mk (blk_below (HK23.out) hb5)
    have HK29 := Aside0.mk (blk_below (HK24.out) hb5)
    have HK30 := Aside0.mk (blk_below (HK25.out) hb5)
    have HK31 := Aside0.mk (blk_below (HN2.out) hb5)
    have HT32 := Aside0.mk ((HT26.out).below hb5)
    have HS5 := Aside0.mk hb5
    clear hb5
    go_wp2
    go_ret
    exact ⟨rfl, HB5.out⟩
  | true =>
    rw [checkE_yes hck]
    clear hck
    obtain ⟨ra, hra⟩ : ∃ r_, r_ = addSchema ss ts name name := ⟨_, rfl⟩
    have HRAB := Aside0.mk (addSchema_B (name := name) (owner := name) hsl3 HTB.out)
    have HRAF := Aside0.mk (addSchema_F (ss := ss) (name := name) (owner := name) HFF.out)
    have HRAR := Aside0.mk (addSchema_right (ss := ss) (ts := ts) (name := name) (owner := name))
    rw [← hra] at HRAB HRAF HRAR
    have HRA := Aside0.mk hra
    clear hra
    have c_o0 : w2.cell? ⟨w.heap.size, 0, none⟩ = some (Value.slice As ss.length cs) := (blk_cell HK5.out 0).trans rfl
    have f_o0 := blk_frozen HK5.out 0
    have c_o1 : w2.cell? ⟨w.heap.size, 1, none⟩ = some (Value.slice At ts.length ct) := (blk_cell HK5.out 1).trans rfl
    have f_o1 := blk_frozen HK5.out 1
    go_wp2_with fail
    clear c_o0 f_o0 c_o1 f_o1
    refine (calls_made (AddSchema.calls (cs := cs) (ct := ct) ss ts name name w2 (Kd.F_now HT8.out.1) hsl3 (Kd.F_now HT8.out.2) HFF.out HTB.out)).mono ?_
    rw [← HRA.out]
    rintro e w3 ⟨Eas, Easd, Eat, Eatd, rfl, hx, hb3⟩
    have HB3 := Aside0.mk (below_step (HB2.out) hb3)
    have HK9 := Aside0.mk (blk_below (HK5.out) hb3)
    have HK10 := Aside0.mk (blk_below (HK6.out) hb3)
    have HK11 := Aside0.mk (blk_below (HK7.out) hb3)
    have HT12 := Aside0.mk ((HT8.out).below hb3)
    have HM3 := Aside0.mk hx
    clear hx hb3
    obtain ⟨rb, hrb⟩ : ∃ r_, r_ = addTable ss ts t := ⟨_, rfl⟩
    have HRBB := Aside0.mk (addTable_B (t := t) hsl3 HTB.out)
    have HRBF := Aside0.mk (addTable_F (ss := ss) HFF.out HTB.out.1 HTF.out)
    have HRBR := Aside0.mk (addTable_right (ss := ss) (ts := ts) (t := t))
    rw [← hrb] at HRBB HRBF HRBR
    have HRB := Aside0.mk hrb
    clear hrb
    have c_o0 : w3.cell? ⟨w.heap.size, 0, none⟩ = some (Value.slice As ss.length cs) := (blk_cell HK9.out 0).trans rfl
    have f_o0 := blk_frozen HK9.out 0
    have a_o0 : ∀ o, (w3.alloc o).cell? ⟨w.heap.size, 0, none⟩ = some (Value.slice As ss.length cs) := fun o => (blk_cell (blk_alloc HK9.out o) 0).trans rfl
    have c_o1 : w3.cell? ⟨w.heap.size, 1, none⟩ = some (Value.slice At ts.length ct) := (blk_cell HK9.out 1).trans rfl
    have f_o1 := blk_frozen HK9.out 1
    have a_o1 : ∀ o, (w3.alloc o).cell? ⟨w.heap.size, 1, none⟩ = some (Value.slice At ts.length ct) := fun o => (blk_cell (blk_alloc HK9.out o) 1).trans rfl
    have c_t0 : w3.cell? ⟨w.heap.size + 1, 0, none⟩ = some (Value.string t.schema) := (blk_cell HK10.out 0).trans rfl
    have f_t0 := blk_frozen HK10.out 0
    have a_t0 : ∀ o, (w3.alloc o).cell? ⟨w.heap.size + 1, 0, none⟩ = some (Value.string t.schema) := fun o => (blk_cell (blk_alloc HK10.out o) 0).trans rfl
    have c_t1 : w3.cell? ⟨w.heap.size + 1, 1, none⟩ = some (Value.string t.name) := (blk_cell HK10.out 1).trans rfl
    have f_t1 := blk_frozen HK10.out 1
    have a_t1 : ∀ o, (w3.alloc o).cell? ⟨w.heap.size + 1, 1, none⟩ = some (Value.string t.name) := fun o => (blk_cell (blk_alloc HK10.out o) 1).trans rfl
    have c_t2 : w3.cell? ⟨w.heap.size + 1, 2, none⟩ = some (Value.string t.owner) := (blk_cell HK10.out 2).trans rfl
    have f_t2 := blk_frozen HK10.out 2
    have a_t2 : ∀ o, (w3.alloc o).cell? ⟨w.heap.size + 1, 2, none⟩ = some (Value.string t.owner) := fun o => (blk_cell (blk_alloc HK10.out o) 2).trans rfl
    have c_t3 : w3.cell? ⟨w.heap.size + 1, 3, none⟩ = some (Value.slice A3 t.cols.length c3) := (blk_cell HK10.out 3).trans rfl
    have f_t3 := blk_frozen HK10.out 3
    have a_t3 : ∀ o, (w3.alloc o).cell? ⟨w.heap.size + 1, 3, none⟩ = some (Value.slice A3 t.cols.length c3) := fun o => (blk_cell (blk_alloc HK10.out o) 3).trans rfl
    have c_t4 : w3.cell? ⟨w.heap.size + 1, 4, none⟩ = some (Value.slice A4 t.rules.length c4) := (blk_cell HK10.out 4).trans rfl
    have f_t4 := blk_frozen HK10.out 4
    have a_t4 : ∀ o, (w3.alloc o).cell? ⟨w.heap.size + 1, 4, none⟩ = some (Value.slice A4 t.rules.length c4) := fun o => (blk_cell (blk_alloc HK10.out o) 4).trans rfl
    go_wp2_with fail
    clear c_o0 f_o0 a_o0 c_o1 f_o1 a_o1 c_t0 f_t0 a_t0 c_t1 f_t1 a_t1 c_t2 f_t2 a_t2 c_t3 f_t3 a_t3 c_t4 f_t4 a_t4
    obtain ⟨v1, he1⟩ : ∃ W, W = (w3.alloc (.cells #[Value.slice Eas ra.2.1.length Easd, Value.slice Eat ra.2.2.length Eatd] 25)) := ⟨_, rfl⟩
    have hb_ : Below w3.heap.size w3 v1 := by rw [he1]; exact below_alloc (Below.refl _ _) _
    have HZ1 := Aside0.mk (show v1.heap.size = w3.heap.size + 1 by rw [he1]; simp)
    have HN1 := Aside0.mk (show v1.heap[w3.heap.size]? = some (.cells #[Value.slice Eas ra.2.1.length Easd, Value.slice Eat ra.2.2.length Eatd] 25 (0, 0)) by rw [he1]; exact blk_new _ _)
    have HV1 := Aside0.mk (below_step (HB3.out) hb_)
    have HK13 := Aside0.mk (blk_below (HK9.out) hb_)
    have HK14 := Aside0.mk (blk_below (HK10.out) hb_)
    have HK15 := Aside0.mk (blk_below (HK11.out) hb_)
    have HT16 := Aside0.mk ((HT12.out).below hb_)
    have HT17 := Aside0.mk ((HM3.out).below hb_)
    rw [← he1]
    clear he1
    refine (calls_made (AddTable.calls (cs := cs) (ct := ct) (c3 := c3) (c4 := c4) ss ts t v1 (Kd.F_now HT16.out.1) hsl3 (Kd.F_now HT16.out.2) HFF.out HTB.out (Kd.C_below HH.out.1 HV1.out) (Kd.C_below HH.out.2.1 HV1.out) (by have := HQ1.out; omega))).mono ?_
    rw [← HRB.out]
    rintro e w4 ⟨Ebs, Ebsd, Ebt, Ebtd, rfl, hx, hb4⟩
    have HB4 := Aside0.mk (below_step (HV1.out) hb4)
    have HK18 := Aside0.mk (blk_below (HK13.out) hb4)
    have HK19 := Aside0.mk (blk_below (HK14.out) hb4)
    have HK20 := Aside0.mk (blk_below (HK15.out) hb4)
    have HK21 := Aside0.mk (blk_below (HN1.out) hb4)
    have HT22 := Aside0.mk ((HT16.out).below hb4)
    have HT23 := Aside0.mk ((HT17.out).below hb4)
    have HM4 := Aside0.mk hx
    clear hx hb4
    obtain ⟨rc, hrc⟩ : ∃ r_, r_ = addRule ss ts schema t.name r := ⟨_, rfl⟩
    have HRCB := Aside0.mk (addRule_B (schema := schema) (table := t.name) hsl3 HTB.out HQ3.out)
    have HRCF := Aside0.mk (addRule_F (ss := ss) (schema := schema) (table := t.name) HFF.out HRFF.out)
    have HRCR := Aside0.mk (addRule_right (ss := ss) (ts := ts) (schema := schema) (table := t.name) (r := r))
    rw [← hrc] at HRCB HRCF HRCR
    have HRC := Aside0.mk hrc
    clear hrc
    have c_o0 : w4.cell? ⟨w.heap.size, 0, none⟩ = some (Value.slice As ss.length cs) := (blk_cell HK18.out 0).trans rfl
    have f_o0 := blk_frozen HK18.out 0
    have a_o0 : ∀ o, (w4.alloc o).cell? ⟨w.heap.size, 0, none⟩ = some (Value.slice As ss.length cs) := fun o => (blk_cell (blk_alloc HK18.out o) 0).trans rfl
    have c_o1 : w4.cell? ⟨w.heap.size, 1, none⟩ = some (Value.slice At ts.length ct) := (blk_cell HK18.out 1).trans rfl
    have f_o1 := blk_frozen HK18.out 1
    have a_o1 : ∀ o, (w4.alloc o).cell? ⟨w.heap.size, 1, none⟩ = some (Value.slice At ts.length ct) := fun o => (blk_cell (blk_alloc HK18.out o) 1).trans rfl
    have c_t0 : w4.cell? ⟨w.heap.size + 1, 0, none⟩ = some (Value.string t.schema) := (blk_cell HK19.out 0).trans rfl
    have f_t0 := blk_frozen HK19.out 0
    have a_t0 : ∀ o, (w4.alloc o).cell? ⟨w.heap.size + 1, 0, none⟩ = some (Value.string t.schema) := fun o => (blk_cell (blk_alloc HK19.out o) 0).trans rfl
    have c_t1 : w4.cell? ⟨w.heap.size + 1, 1, none⟩ = some (Value.string t.name) := (blk_cell HK19.out 1).trans rfl
    have f_t1 := blk_frozen HK19.out 1
    have a_t1 : ∀ o, (w4.alloc o).cell? ⟨w.heap.size + 1, 1, none⟩ = some (Value.string t.name) := fun o => (blk_cell (blk_alloc HK19.out o) 1).trans rfl
    have c_t2 : w4.cell? ⟨w.heap.size + 1, 2, none⟩ = some (Value.string t.owner) := (blk_cell HK19.out 2).trans rfl
    have f_t2 := blk_frozen HK19.out 2
    have a_t2 : ∀ o, (w4.alloc o).cell? ⟨w.heap.size + 1, 2, none⟩ = some (Value.string t.owner) := fun o => (blk_cell (blk_alloc HK19.out o) 2).trans rfl
    have c_t3 : w4.cell? ⟨w.heap.size + 1, 3, none⟩ = some (Value.slice A3 t.cols.length c3) := (blk_cell HK19.out 3).trans rfl
    have f_t3 := blk_frozen HK19.out 3
    have a_t3 : ∀ o, (w4.alloc o).cell? ⟨w.heap.size + 1, 3, none⟩ = some (Value.slice A3 t.cols.length c3) := fun o => (blk_cell (blk_alloc HK19.out o) 3).trans rfl
    have c_t4 : w4.cell? ⟨w.heap.size + 1, 4, none⟩ = some (Value.slice A4 t.rules.length c4) := (blk_cell HK19.out 4).trans rfl
    have f_t4 := blk_frozen HK19.out 4
    have a_t4 : ∀ o, (w4.alloc o).cell? ⟨w.heap.size + 1, 4, none⟩ = some (Value.slice A4 t.rules.length c4) := fun o => (blk_cell (blk_alloc HK19.out o) 4).trans rfl
    have c_r0 : w4.cell? ⟨w.heap.size + 1 + 1, 0, none⟩ = some (Value.string r.name) := (blk_cell HK20.out 0).trans rfl
    have f_r0 := blk_frozen HK20.out 0
    have a_r0 : ∀ o, (w4.alloc o).cell? ⟨w.heap.size + 1 + 1, 0, none⟩ = some (Value.string r.name) := fun o => (blk_cell (blk_alloc HK20.out o) 0).trans rfl
    have c_r1 : w4.cell? ⟨w.heap.size + 1 + 1, 1, none⟩ = some (Value.int .i64 r.kind) := (blk_cell HK20.out 1).trans rfl
    have f_r1 := blk_frozen HK20.out 1
    have a_r1 : ∀ o, (w4.alloc o).cell? ⟨w.heap.size + 1 + 1, 1, none⟩ = some (Value.int .i64 r.kind) := fun o => (blk_cell (blk_alloc HK20.out o) 1).trans rfl
    have c_r2 : w4.cell? ⟨w.heap.size + 1 + 1, 2, none⟩ = some (Value.slice A2 r.cols.length c2) := (blk_cell HK20.out 2).trans rfl
    have f_r2 := blk_frozen HK20.out 2
    have a_r2 : ∀ o, (w4.alloc o).cell? ⟨w.heap.size + 1 + 1, 2, none⟩ = some (Value.slice A2 r.cols.length c2) := fun o => (blk_cell (blk_alloc HK20.out o) 2).trans rfl
    have c_r3 : w4.cell? ⟨w.heap.size + 1 + 1, 3, none⟩ = some (Value.int .i64 r.low) := (blk_cell HK20.out 3).trans rfl
    have f_r3 := blk_frozen HK20.out 3
    have a_r3 : ∀ o, (w4.alloc o).cell? ⟨w.heap.size + 1 + 1, 3, none⟩ = some (Value.int .i64 r.low) := fun o => (blk_cell (blk_alloc HK20.out o) 3).trans rfl
    have c_r4 : w4.cell? ⟨w.heap.size + 1 + 1, 4, none⟩ = some (Value.int .i64 r.high) := (blk_cell HK20.out 4).trans rfl
    have f_r4 := blk_frozen HK20.out 4
    have a_r4 : ∀ o, (w4.alloc o).cell? ⟨w.heap.size + 1 + 1, 4, none⟩ = some (Value.int .i64 r.high) := fun o => (blk_cell (blk_alloc HK20.out o) 4).trans rfl
    have c_r5 : w4.cell? ⟨w.heap.size + 1 + 1, 5, none⟩ = some (Value.string r.schema) := (blk_cell HK20.out 5).trans rfl
    have f_r5 := blk_frozen HK20.out 5
    have a_r5 : ∀ o, (w4.alloc o).cell? ⟨w.heap.size + 1 + 1, 5, none⟩ = some (Value.string r.schema) := fun o => (blk_cell (blk_alloc HK20.out o) 5).trans rfl
    have c_r6 : w4.cell? ⟨w.heap.size + 1 + 1, 6, none⟩ = some (Value.string r.table) := (blk_cell HK20.out 6).trans rfl
    have f_r6 := blk_frozen HK20.out 6
    have a_r6 : ∀ o, (w4.alloc o).cell? ⟨w.heap.size + 1 + 1, 6, none⟩ = some (Value.string r.table) := fun o => (blk_cell (blk_alloc HK20.out o) 6).trans rfl
    have c_r7 : w4.cell? ⟨w.heap.size + 1 + 1, 7, none⟩ = some (Value.string r.key) := (blk_cell HK20.out 7).trans rfl
    have f_r7 := blk_frozen HK20.out 7
    have a_r7 : ∀ o, (w4.alloc o).cell? ⟨w.heap.size + 1 + 1, 7, none⟩ = some (Value.string r.key) := fun o => (blk_cell (blk_alloc HK20.out o) 7).trans rfl
    go_wp2_with fail
    clear c_o0 f_o0 a_o0 c_o1 f_o1 a_o1 c_t0 f_t0 a_t0 c_t1 f_t1 a_t1 c_t2 f_t2 a_t2 c_t3 f_t3 a_t3 c_t4 f_t4 a_t4 c_r0 f_r0 a_r0 c_r1 f_r1 a_r1 c_r2 f_r2 a_r2 c_r3 f_r3 a_r3 c_r4 f_r4 a_r4 c_r5 f_r5 a_r5 c_r6 f_r6 a_r6 c_r7 f_r7 a_r7
    obtain ⟨v2, he2⟩ : ∃ W, W = (w4.alloc (.cells #[Value.slice Ebs rb.2.1.length Ebsd, Value.slice Ebt rb.2.2.length Ebtd] 25)) := ⟨_, rfl⟩
    have hb_ : Below w4.heap.size w4 v2 := by rw [he2]; exact below_alloc (Below.refl _ _) _
    have HZ2 := Aside0.mk (show v2.heap.size = w4.heap.size + 1 by rw [he2]; simp)
    have HN2 := Aside0.mk (show v2.heap[w4.heap.size]? = some (.cells #[Value.slice Ebs rb.2.1.length Ebsd, Value.slice Ebt rb.2.2.length Ebtd] 25 (0, 0)) by rw [he2]; exact blk_new _ _)
    have HV2 := Aside0.mk (below_step (HB4.out) hb_)
    have HK24 := Aside0.mk (blk_below (HK18.out) hb_)
    have HK25 := Aside0.mk (blk_below (HK19.out) hb_)
    have HK26 := Aside0.mk (blk_below (HK20.out) hb_)
    have HK27 := Aside0.mk (blk_below (HK21.out) hb_)
    have HT28 := Aside0.mk ((HT22.out).below hb_)
    have HT29 := Aside0.mk ((HT23.out).below hb_)
    have HT30 := Aside0.mk ((HM4.out).below hb_)
    rw [← he2]
    clear he2
    refine (calls_made (AddRule.calls (cs := cs) (ct := ct) (c2 := c2) ss ts schema t.name r v2 (Kd.F_now HT28.out.1) hsl3 (Kd.F_now HT28.out.2) HFF.out HTB.out (Kd.C_below HH.out.2.2 HV2.out) HRFF.out HQ3.out)).mono ?_
    rw [← HRC.out]
    rintro e w5 ⟨Ecs, Ecsd, Ect, Ectd, rfl, hx, hb5⟩
    have HB5 := Aside0.mk (below_step (HV2.out) hb5)
    have HK31 := Aside0.mk (blk_below (HK24.out) hb5)
    have HK32 := Aside0.mk (blk_below (HK25.out) hb5)
    have HK33 := Aside0.mk (blk_below (HK26.out) hb5)
    have HK34 := Aside0.mk (blk_below (HK27.out) hb5)
    have HK35 := Aside0.mk (blk_below (HN2.out) hb5)
    have HT36 := Aside0.mk ((HT28.out).below hb5)
    have HT37 := Aside0.mk ((HT29.out).below hb5)
    have HT38 := Aside0.mk ((HT30.out).below hb5)
    have HM5 := Aside0.mk hx
    clear hx hb5
    obtain ⟨rd, hrd⟩ : ∃ r_, r_ = dropRule ss ts schema t.name r.name := ⟨_, rfl⟩
    have HRDB := Aside0.mk (dropRule_B (schema := schema) (table := t.name) (name := r.name) hsl3 HTB.out)
    have HRDF := Aside0.mk (dropRule_F (ss := ss) (schema := schema) (table := t.name) (name := r.name) HFF.out)
    have HRDR := Aside0.mk (dropRule_right (ss := ss) (ts := ts) (schema := schema) (table := t.name) (name := r.name))
    rw [← hrd] at HRDB HRDF HRDR
    have HRD := Aside0.mk hrd
    clear hrd
    have c_o0 : w5.cell? ⟨w.heap.size, 0, none⟩ = some (Value.slice As ss.length cs) := (blk_cell HK31.out 0).trans rfl
    have f_o0 := blk_frozen HK31.out 0
    have a_o0 : ∀ o, (w5.alloc o).cell? ⟨w.heap.size, 0, none⟩ = some (Value.slice As ss.length cs) := fun o => (blk_cell (blk_alloc HK31.out o) 0).trans rfl
    have c_o1 : w5.cell? ⟨w.heap.size, 1, none⟩ = some (Value.slice At ts.length ct) := (blk_cell HK31.out 1).trans rfl
    have f_o1 := blk_frozen HK31.out 1
    have a_o1 : ∀ o, (w5.alloc o).cell? ⟨w.heap.size, 1, none⟩ = some (Value.slice At ts.length ct) := fun o => (blk_cell (blk_alloc HK31.out o) 1).trans rfl
    have c_t0 : w5.cell? ⟨w.heap.size + 1, 0, none⟩ = some (Value.string t.schema) := (blk_cell HK32.out 0).trans rfl
    have f_t0 := blk_frozen HK32.out 0
    have a_t0 : ∀ o, (w5.alloc o).cell? ⟨w.heap.size + 1, 0, none⟩ = some (Value.string t.schema) := fun o => (blk_cell (blk_alloc HK32.out o) 0).trans rfl
    have c_t1 : w5.cell? ⟨w.heap.size + 1, 1, none⟩ = some (Value.string t.name) := (blk_cell HK32.out 1).trans rfl
    have f_t1 := blk_frozen HK32.out 1
    have a_t1 : ∀ o, (w5.alloc o).cell? ⟨w.heap.size + 1, 1, none⟩ = some (Value.string t.name) := fun o => (blk_cell (blk_alloc HK32.out o) 1).trans rfl
    have c_t2 : w5.cell? ⟨w.heap.size + 1, 2, none⟩ = some (Value.string t.owner) := (blk_cell HK32.out 2).trans rfl
    have f_t2 := blk_frozen HK32.out 2
    have a_t2 : ∀ o, (w5.alloc o).cell? ⟨w.heap.size + 1, 2, none⟩ = some (Value.string t.owner) := fun o => (blk_cell (blk_alloc HK32.out o) 2).trans rfl
    have c_t3 : w5.cell? ⟨w.heap.size + 1, 3, none⟩ = some (Value.slice A3 t.cols.length c3) := (blk_cell HK32.out 3).trans rfl
    have f_t3 := blk_frozen HK32.out 3
    have a_t3 : ∀ o, (w5.alloc o).cell? ⟨w.heap.size + 1, 3, none⟩ = some (Value.slice A3 t.cols.length c3) := fun o => (blk_cell (blk_alloc HK32.out o) 3).trans rfl
    have c_t4 : w5.cell? ⟨w.heap.size + 1, 4, none⟩ = some (Value.slice A4 t.rules.length c4) := (blk_cell HK32.out 4).trans rfl
    have f_t4 := blk_frozen HK32.out 4
    have a_t4 : ∀ o, (w5.alloc o).cell? ⟨w.heap.size + 1, 4, none⟩ = some (Value.slice A4 t.rules.length c4) := fun o => (blk_cell (blk_alloc HK32.out o) 4).trans rfl
    have c_r0 : w5.cell? ⟨w.heap.size + 1 + 1, 0, none⟩ = some (Value.string r.name) := (blk_cell HK33.out 0).trans rfl
    have f_r0 := blk_frozen HK33.out 0
    have a_r0 : ∀ o, (w5.alloc o).cell? ⟨w.heap.size + 1 + 1, 0, none⟩ = some (Value.string r.name) := fun o => (blk_cell (blk_alloc HK33.out o) 0).trans rfl
    have c_r1 : w5.cell? ⟨w.heap.size + 1 + 1, 1, none⟩ = some (Value.int .i64 r.kind) := (blk_cell HK33.out 1).trans rfl
    have f_r1 := blk_frozen HK33.out 1
    have a_r1 : ∀ o, (w5.alloc o).cell? ⟨w.heap.size + 1 + 1, 1, none⟩ = some (Value.int .i64 r.kind) := fun o => (blk_cell (blk_alloc HK33.out o) 1).trans rfl
    have c_r2 : w5.cell? ⟨w.heap.size + 1 + 1, 2, none⟩ = some (Value.slice A2 r.cols.length c2) := (blk_cell HK33.out 2).trans rfl
    have f_r2 := blk_frozen HK33.out 2
    have a_r2 : ∀ o, (w5.alloc o).cell? ⟨w.heap.size + 1 + 1, 2, none⟩ = some (Value.slice A2 r.cols.length c2) := fun o => (blk_cell (blk_alloc HK33.out o) 2).trans rfl
    have c_r3 : w5.cell? ⟨w.heap.size + 1 + 1, 3, none⟩ = some (Value.int .i64 r.low) := (blk_cell HK33.out 3).trans rfl
    have f_r3 := blk_frozen HK33.out 3
    have a_r3 : ∀ o, (w5.alloc o).cell? ⟨w.heap.size + 1 + 1, 3, none⟩ = some (Value.int .i64 r.low) := fun o => (blk_cell (blk_alloc HK33.out o) 3).trans rfl
    have c_r4 : w5.cell? ⟨w.heap.size + 1 + 1, 4, none⟩ = some (Value.int .i64 r.high) := (blk_cell HK33.out 4).trans rfl
    have f_r4 := blk_frozen HK33.out 4
    have a_r4 : ∀ o, (w5.alloc o).cell? ⟨w.heap.size + 1 + 1, 4, none⟩ = some (Value.int .i64 r.high) := fun o => (blk_cell (blk_alloc HK33.out o) 4).trans rfl
    have c_r5 : w5.cell? ⟨w.heap.size + 1 + 1, 5, none⟩ = some (Value.string r.schema) := (blk_cell HK33.out 5).trans rfl
    have f_r5 := blk_frozen HK33.out 5
    have a_r5 : ∀ o, (w5.alloc o).cell? ⟨w.heap.size + 1 + 1, 5, none⟩ = some (Value.string r.schema) := fun o => (blk_cell (blk_alloc HK33.out o) 5).trans rfl
    have c_r6 : w5.cell? ⟨w.heap.size + 1 + 1, 6, none⟩ = some (Value.string r.table) := (blk_cell HK33.out 6).trans rfl
    have f_r6 := blk_frozen HK33.out 6
    have a_r6 : ∀ o, (w5.alloc o).cell? ⟨w.heap.size + 1 + 1, 6, none⟩ = some (Value.string r.table) := fun o => (blk_cell (blk_alloc HK33.out o) 6).trans rfl
    have c_r7 : w5.cell? ⟨w.heap.size + 1 + 1, 7, none⟩ = some (Value.string r.key) := (blk_cell HK33.out 7).trans rfl
    have f_r7 := blk_frozen HK33.out 7
    have a_r7 : ∀ o, (w5.alloc o).cell? ⟨w.heap.size + 1 + 1, 7, none⟩ = some (Value.string r.key) := fun o => (blk_cell (blk_alloc HK33.out o) 7).trans rfl
    go_wp2_with fail
    clear c_o0 f_o0 a_o0 c_o1 f_o1 a_o1 c_t0 f_t0 a_t0 c_t1 f_t1 a_t1 c_t2 f_t2 a_t2 c_t3 f_t3 a_t3 c_t4 f_t4 a_t4 c_r0 f_r0 a_r0 c_r1 f_r1 a_r1 c_r2 f_r2 a_r2 c_r3 f_r3 a_r3 c_r4 f_r4 a_r4 c_r5 f_r5 a_r5 c_r6 f_r6 a_r6 c_r7 f_r7 a_r7
    obtain ⟨v3, he3⟩ : ∃ W, W = (w5.alloc (.cells #[Value.slice Ecs rc.2.1.length Ecsd, Value.slice Ect rc.2.2.length Ectd] 25)) := ⟨_, rfl⟩
    have hb_ : Below w5.heap.size w5 v3 := by rw [he3]; exact below_alloc (Below.refl _ _) _
    have HZ3 := Aside0.mk (show v3.heap.size = w5.heap.size + 1 by rw [he3]; simp)
    have HN3 := Aside0.mk (show v3.heap[w5.heap.size]? = some (.cells #[Value.slice Ecs rc.2.1.length Ecsd, Value.slice Ect rc.2.2.length Ectd] 25 (0, 0)) by rw [he3]; exact blk_new _ _)
    have HV3 := Aside0.mk (below_step (HB5.out) hb_)
    have HK39 := Aside0.mk (blk_below (HK31.out) hb_)
    have HK40 := Aside0.mk (blk_below (HK32.out) hb_)
    have HK41 := Aside0.mk (blk_below (HK33.out) hb_)
    have HK42 := Aside0.mk (blk_below (HK34.out) hb_)
    have HK43 := Aside0.mk (blk_below (HK35.out) hb_)
    have HT44 := Aside0.mk ((HT36.out).below hb_)
    have HT45 := Aside0.mk ((HT37.out).below hb_)
    have HT46 := Aside0.mk ((HT38.out).below hb_)
    have HT47 := Aside0.mk ((HM5.out).below hb_)
    rw [← he3]
    clear he3
    refine (calls_made (DropRule.calls (cs := cs) (ct := ct) ss ts schema t.name r.name v3 (Kd.F_now HT44.out.1) hsl3 (Kd.F_now HT44.out.2) HFF.out HTB.out)).mono ?_
    rw [← HRD.out]
    rintro e w6 ⟨Eds, Edsd, Edt, Edtd, rfl, hx, hb6⟩
    have HB6 := Aside0.mk (below_step (HV3.out) hb6)
    have HK48 := Aside0.mk (blk_below (HK39.out) hb6)
    have HK49 := Aside0.mk (blk_below (HK40.out) hb6)
    have HK50 := Aside0.mk (blk_below (HK41.out) hb6)
    have HK51 := Aside0.mk (blk_below (HK42.out) hb6)
    have HK52 := Aside0.mk (blk_below (HK43.out) hb6)
    have HK53 := Aside0.mk (blk_below (HN3.out) hb6)
    have HT54 := Aside0.mk ((HT44.out).below hb6)
    have HT55 := Aside0.mk ((HT45.out).below hb6)
    have HT56 := Aside0.mk ((HT46.out).below hb6)
    have HT57 := Aside0.mk ((HT47.out).below hb6)
    have HM6 := Aside0.mk hx
    clear hx hb6
    obtain ⟨ru, hru⟩ : ∃ r_, r_ = dropTable ss ts schema t.name := ⟨_, rfl⟩
    have HRUB := Aside0.mk (dropTable_B (schema := schema) (table := t.name) hsl3 HTB.out)
    have HRUF := Aside0.mk (dropTable_F (ss := ss) (schema := schema) (table := t.name) HFF.out)
    have HRUR := Aside0.mk (dropTable_right (ss := ss) (ts := ts) (schema := schema) (table := t.name))
    rw [← hru] at HRUB HRUF HRUR
    have HRU := Aside0.mk hru
    clear hru
    have c_o0 : w6.cell? ⟨w.heap.size, 0, none⟩ = some (Value.slice As ss.length cs) := (blk_cell HK48.out 0).trans rfl
    have f_o0 := blk_frozen HK48.out 0
    have a_o0 : ∀ o, (w6.alloc o).cell? ⟨w.heap.size, 0, none⟩ = some (Value.slice As ss.length cs) := fun o => (blk_cell (blk_alloc HK48.out o) 0).trans rfl
    have c_o1 : w6.cell? ⟨w.heap.size, 1, none⟩ = some (Value.slice At ts.length ct) := (blk_cell HK48.out 1).trans rfl
    have f_o1 := blk_frozen HK48.out 1
    have a_o1 : ∀ o, (w6.alloc o).cell? ⟨w.heap.size, 1, none⟩ = some (Value.slice At ts.length ct) := fun o => (blk_cell (blk_alloc HK48.out o) 1).trans rfl
    have c_t0 : w6.cell? ⟨w.heap.size + 1, 0, none⟩ = some (Value.string t.schema) := (blk_cell HK49.out 0).trans rfl
    have f_t0 := blk_frozen HK49.out 0
    have a_t0 : ∀ o, (w6.alloc o).cell? ⟨w.heap.size + 1, 0, none⟩ = some (Value.string t.schema) := fun o => (blk_cell (blk_alloc HK49.out o) 0).trans rfl
    have c_t1 : w6.cell? ⟨w.heap.size + 1, 1, none⟩ = some (Value.string t.name) := (blk_cell HK49.out 1).trans rfl
    have f_t1 := blk_frozen HK49.out 1
    have a_t1 : ∀ o, (w6.alloc o).cell? ⟨w.heap.size + 1, 1, none⟩ = some (Value.string t.name) := fun o => (blk_cell (blk_alloc HK49.out o) 1).trans rfl
    have c_t2 : w6.cell? ⟨w.heap.size + 1, 2, none⟩ = some (Value.string t.owner) := (blk_cell HK49.out 2).trans rfl
    have f_t2 := blk_frozen HK49.out 2
    have a_t2 : ∀ o, (w6.alloc o).cell? ⟨w.heap.size + 1, 2, none⟩ = some (Value.string t.owner) := fun o => (blk_cell (blk_alloc HK49.out o) 2).trans rfl
    have c_t3 : w6.cell? ⟨w.heap.size + 1, 3, none⟩ = some (Value.slice A3 t.cols.length c3) := (blk_cell HK49.out 3).trans rfl
    have f_t3 := blk_frozen HK49.out 3
    have a_t3 : ∀ o, (w6.alloc o).cell? ⟨w.heap.size + 1, 3, none⟩ = some (Value.slice A3 t.cols.length c3) := fun o => (blk_cell (blk_alloc HK49.out o) 3).trans rfl
    have c_t4 : w6.cell? ⟨w.heap.size + 1, 4, none⟩ = some (Value.slice A4 t.rules.length c4) := (blk_cell HK49.out 4).trans rfl
    have f_t4 := blk_frozen HK49.out 4
    have a_t4 : ∀ o, (w6.alloc o).cell? ⟨w.heap.size + 1, 4, none⟩ = some (Value.slice A4 t.rules.length c4) := fun o => (blk_cell (blk_alloc HK49.out o) 4).trans rfl
    go_wp2_with fail
    clear c_o0 f_o0 a_o0 c_o1 f_o1 a_o1 c_t0 f_t0 a_t0 c_t1 f_t1 a_t1 c_t2 f_t2 a_t2 c_t3 f_t3 a_t3 c_t4 f_t4 a_t4
    obtain ⟨v4, he4⟩ : ∃ W, W = (w6.alloc (.cells #[Value.slice Eds rd.2.1.length Edsd, Value.slice Edt rd.2.2.length Edtd] 25)) := ⟨_, rfl⟩
    have hb_ : Below w6.heap.size w6 v4 := by rw [he4]; exact below_alloc (Below.refl _ _) _
    have HZ4 := Aside0.mk (show v4.heap.size = w6.heap.size + 1 by rw [he4]; simp)
    have HN4 := Aside0.mk (show v4.heap[w6.heap.size]? = some (.cells #[Value.slice Eds rd.2.1.length Edsd, Value.slice Edt rd.2.2.length Edtd] 25 (0, 0)) by rw [he4]; exact blk_new _ _)
    have HV4 := Aside0.mk (below_step (HB6.out) hb_)
    have HK58 := Aside0.mk (blk_below (HK48.out) hb_)
    have HK59 := Aside0.mk (blk_below (HK49.out) hb_)
    have HK60 := Aside0.mk (blk_below (HK50.out) hb_)
    have HK61 := Aside0.mk (blk_below (HK51.out) hb_)
    have HK62 := Aside0.mk (blk_below (HK52.out) hb_)
    have HK63 := Aside0.mk (blk_below (HK53.out) hb_)
    have HT64 := Aside0.mk ((HT54.out).below hb_)
    have HT65 := Aside0.mk ((HT55.out).below hb_)
    have HT66 := Aside0.mk ((HT56.out).below hb_)
    have HT67 := Aside0.mk ((HT57.out).below hb_)
    have HT68 := Aside0.mk ((HM6.out).below hb_)
    rw [← he4]
    clear he4
    refine (calls_made (DropTable.calls (cs := cs) (ct := ct) ss ts schema t.name v4 (Kd.F_now HT64.out.1) hsl3 (Kd.F_now HT64.out.2) HFF.out HTB.out)).mono ?_
    rw [← HRU.out]
    rintro e w7 ⟨Eus, Eusd, Eut, Eutd, rfl, hx, hb7⟩
    have HB7 := Aside0.mk (below_step (HV4.out) hb7)
    have HK69 := Aside0.mk (blk_below (HK58.out) hb7)
    have HK70 := Aside0.mk (blk_below (HK59.out) hb7)
    have HK71 := Aside0.mk (blk_below (HK60.out) hb7)
    have HK72 := Aside0.mk (blk_below (HK61.out) hb7)
    have HK73 := Aside0.mk (blk_below (HK62.out) hb7)
    have HK74 := Aside0.mk (blk_below (HK63.out) hb7)
    have HK75 := Aside0.mk (blk_below (HN4.out) hb7)
    have HT76 := Aside0.mk ((HT64.out).below hb7)
    have HT77 := Aside0.mk ((HT65.out).below hb7)
    have HT78 := Aside0.mk ((HT66.out).below hb7)
    have HT79 := Aside0.mk ((HT67.out).below hb7)
    have HT80 := Aside0.mk ((HT68.out).below hb7)
    have HM7 := Aside0.mk hx
    clear hx hb7
    obtain ⟨rv, hrv⟩ : ∃ r_, r_ = dropColumn ss ts schema t.name name := ⟨_, rfl⟩
    have HRVB := Aside0.mk (dropColumn_B (schema := schema) (table := t.name) (name := name) hsl3 HTB.out)
    have HRVF := Aside0.mk (dropColumn_F (ss := ss) (schema := schema) (table := t.name) (name := name) HFF.out)
    have HRVR := Aside0.mk (dropColumn_right (ss := ss) (ts := ts) (schema := schema) (table := t.name) (name := name))
    rw [← hrv] at HRVB HRVF HRVR
    have HRV := Aside0.mk hrv
    clear hrv
    have c_o0 : w7.cell? ⟨w.heap.size, 0, none⟩ = some (Value.slice As ss.length cs) := (blk_cell HK69.out 0).trans rfl
    have f_o0 := blk_frozen HK69.out 0
    have a_o0 : ∀ o, (w7.alloc o).cell? ⟨w.heap.size, 0, none⟩ = some (Value.slice As ss.length cs) := fun o => (blk_cell (blk_alloc HK69.out o) 0).trans rfl
    have c_o1 : w7.cell? ⟨w.heap.size, 1, none⟩ = some (Value.slice At ts.length ct) := (blk_cell HK69.out 1).trans rfl
    have f_o1 := blk_frozen HK69.out 1
    have a_o1 : ∀ o, (w7.alloc o).cell? ⟨w.heap.size, 1, none⟩ = some (Value.slice At ts.length ct) := fun o => (blk_cell (blk_alloc HK69.out o) 1).trans rfl
    have c_t0 : w7.cell? ⟨w.heap.size + 1, 0, none⟩ = some (Value.string t.schema) := (blk_cell HK70.out 0).trans rfl
    have f_t0 := blk_frozen HK70.out 0
    have a_t0 : ∀ o, (w7.alloc o).cell? ⟨w.heap.size + 1, 0, none⟩ = some (Value.string t.schema) := fun o => (blk_cell (blk_alloc HK70.out o) 0).trans rfl
    have c_t1 : w7.cell? ⟨w.heap.size + 1, 1, none⟩ = some (Value.string t.name) := (blk_cell HK70.out 1).trans rfl
    have f_t1 := blk_frozen HK70.out 1
    have a_t1 : ∀ o, (w7.alloc o).cell? ⟨w.heap.size + 1, 1, none⟩ = some (Value.string t.name) := fun o => (blk_cell (blk_alloc HK70.out o) 1).trans rfl
    have c_t2 : w7.cell? ⟨w.heap.size + 1, 2, none⟩ = some (Value.string t.owner) := (blk_cell HK70.out 2).trans rfl
    have f_t2 := blk_frozen HK70.out 2
    have a_t2 : ∀ o, (w7.alloc o).cell? ⟨w.heap.size + 1, 2, none⟩ = some (Value.string t.owner) := fun o => (blk_cell (blk_alloc HK70.out o) 2).trans rfl
    have c_t3 : w7.cell? ⟨w.heap.size + 1, 3, none⟩ = some (Value.slice A3 t.cols.length c3) := (blk_cell HK70.out 3).trans rfl
    have f_t3 := blk_frozen HK70.out 3
    have a_t3 : ∀ o, (w7.alloc o).cell? ⟨w.heap.size + 1, 3, none⟩ = some (Value.slice A3 t.cols.length c3) := fun o => (blk_cell (blk_alloc HK70.out o) 3).trans rfl
    have c_t4 : w7.cell? ⟨w.heap.size + 1, 4, none⟩ = some (Value.slice A4 t.rules.length c4) := (blk_cell HK70.out 4).trans rfl
    have f_t4 := blk_frozen HK70.out 4
    have a_t4 : ∀ o, (w7.alloc o).cell? ⟨w.heap.size + 1, 4, none⟩ = some (Value.slice A4 t.rules.length c4) := fun o => (blk_cell (blk_alloc HK70.out o) 4).trans rfl
    go_wp2_with fail
    clear c_o0 f_o0 a_o0 c_o1 f_o1 a_o1 c_t0 f_t0 a_t0 c_t1 f_t1 a_t1 c_t2 f_t2 a_t2 c_t3 f_t3 a_t3 c_t4 f_t4 a_t4
    obtain ⟨v5, he5⟩ : ∃ W, W = (w7.alloc (.cells #[Value.slice Eus ru.2.1.length Eusd, Value.slice Eut ru.2.2.length Eutd] 25)) := ⟨_, rfl⟩
    have hb_ : Below w7.heap.size w7 v5 := by rw [he5]; exact below_alloc (Below.refl _ _) _
    have HZ5 := Aside0.mk (show v5.heap.size = w7.heap.size + 1 by rw [he5]; simp)
    have HN5 := Aside0.mk (show v5.heap[w7.heap.size]? = some (.cells #[Value.slice Eus ru.2.1.length Eusd, Value.slice Eut ru.2.2.length Eutd] 25 (0, 0)) by rw [he5]; exact blk_new _ _)
    have HV5 := Aside0.mk (below_step (HB7.out) hb_)
    have HK81 := Aside0.mk (blk_below (HK69.out) hb_)
    have HK82 := Aside0.mk (blk_below (HK70.out) hb_)
    have HK83 := Aside0.mk (blk_below (HK71.out) hb_)
    have HK84 := Aside0.mk (blk_below (HK72.out) hb_)
    have HK85 := Aside0.mk (blk_below (HK73.out) hb_)
    have HK86 := Aside0.mk (blk_below (HK74.out) hb_)
    have HK87 := Aside0.mk (blk_below (HK75.out) hb_)
    have HT88 := Aside0.mk ((HT76.out).below hb_)
    have HT89 := Aside0.mk ((HT77.out).below hb_)
    have HT90 := Aside0.mk ((HT78.out).below hb_)
    have HT91 := Aside0.mk ((HT79.out).below hb_)
    have HT92 := Aside0.mk ((HT80.out).below hb_)
    have HT93 := Aside0.mk ((HM7.out).below hb_)
    rw [← he5]
    clear he5
    refine (calls_made (DropColumn.calls (cs := cs) (ct := ct) ss ts schema t.name name v5 (Kd.F_now HT88.out.1) hsl3 (Kd.F_now HT88.out.2) HFF.out HTB.out)).mono ?_
    rw [← HRV.out]
    rintro e w8 ⟨Evs, Evsd, Evt, Evtd, rfl, hx, hb8⟩
    have HB8 := Aside0.mk (below_step (HV5.out) hb8)
    have HK94 := Aside0.mk (blk_below (HK81.out) hb8)
    have HK95 := Aside0.mk (blk_below (HK82.out) hb8)
    have HK96 := Aside0.mk (blk_below (HK83.out) hb8)
    have HK97 := Aside0.mk (blk_below (HK84.out) hb8)
    have HK98 := Aside0.mk (blk_below (HK85.out) hb8)
    have HK99 := Aside0.mk (blk_below (HK86.out) hb8)
    have HK100 := Aside0.mk (blk_below (HK87.out) hb8)
    have HK101 := Aside0.mk (blk_below (HN5.out) hb8)
    have HT102 := Aside0.mk ((HT88.out).below hb8)
    have HT103 := Aside0.mk ((HT89.out).below hb8)
    have HT104 := Aside0.mk ((HT90.out).below hb8)
    have HT105 := Aside0.mk ((HT91.out).below hb8)
    have HT106 := Aside0.mk ((HT92.out).below hb8)
    have HT107 := Aside0.mk ((HT93.out).below hb8)
    have HM8 := Aside0.mk hx
    clear hx hb8
    by_cases zra : ra.1 = 0
    case pos =>
      have nra : (ra.1 != 0) = false := by rw [zra]; rfl
      have HZRA := Aside0.mk zra
      clear zra
      have c_xa0 : w8.cell? ⟨w3.heap.size, 0, none⟩ = some (Value.slice Eas ra.2.1.length Easd) := (blk_cell HK97.out 0).trans rfl
      have f_xa0 := blk_frozen HK97.out 0
      have a_xa0 : ∀ o, (w8.alloc o).cell? ⟨w3.heap.size, 0, none⟩ = some (Value.slice Eas ra.2.1.length Easd) := fun o => (blk_cell (blk_alloc HK97.out o) 0).trans rfl
      have c_xa1 : w8.cell? ⟨w3.heap.size, 1, none⟩ = some (Value.slice Eat ra.2.2.length Eatd) := (blk_cell HK97.out 1).trans rfl
      have f_xa1 := blk_frozen HK97.out 1
      have a_xa1 : ∀ o, (w8.alloc o).cell? ⟨w3.heap.size, 1, none⟩ = some (Value.slice Eat ra.2.2.length Eatd) := fun o => (blk_cell (blk_alloc HK97.out o) 1).trans rfl
      go_wp2_with fail
      clear c_xa0 f_xa0 a_xa0 c_xa1 f_xa1 a_xa1
      obtain ⟨v6, he6⟩ : ∃ W, W = (w8.alloc (.cells #[Value.slice Evs rv.2.1.length Evsd, Value.slice Evt rv.2.2.length Evtd] 25)) := ⟨_, rfl⟩
      have hb_ : Below w8.heap.size w8 v6 := by rw [he6]; exact below_alloc (Below.refl _ _) _
      have HZ6 := Aside0.mk (show v6.heap.size = w8.heap.size + 1 by rw [he6]; simp)
      have HN6 := Aside0.mk (show v6.heap[w8.heap.size]? = some (.cells #[Value.slice Evs rv.2.1.length Evsd, Value.slice Evt rv.2.2.length Evtd] 25 (0, 0)) by rw [he6]; exact blk_new _ _)
      have HV6 := Aside0.mk (below_step (HB8.out) hb_)
      have HK108 := Aside0.mk (blk_below (HK97.out) hb_)
      have HK109 := Aside0.mk (blk_below (HK98.out) hb_)
      have HK110 := Aside0.mk (blk_below (HK99.out) hb_)
      have HK111 := Aside0.mk (blk_below (HK100.out) hb_)
      have HK112 := Aside0.mk (blk_below (HK101.out) hb_)
      have HT113 := Aside0.mk ((HT103.out).below hb_)
      have HT114 := Aside0.mk ((HT104.out).below hb_)
      have HT115 := Aside0.mk ((HT105.out).below hb_)
      have HT116 := Aside0.mk ((HT106.out).below hb_)
      have HT117 := Aside0.mk ((HT107.out).below hb_)
      have HT118 := Aside0.mk ((HM8.out).below hb_)
      rw [← he6]
      clear he6
      refine (Check.calls (As := Eas) (cs := Easd) (At := Eat) (ct := Eatd) ra.2.1 ra.2.2 v6 (Kd.R_reads' HT113.out.1).2.2 (by have := HRAB.out.1; omega) (Kd.R_reads' HT113.out.2).2.2 HRAF.out).mono ?_
      rintro e w9 ⟨rfl, hb9⟩
      have HB9 := Aside0.mk (below_step (HV6.out) hb9)
      have HK119 := Aside0.mk (blk_below (HK108.out) hb9)
      have HK120 := Aside0.mk (blk_below (HK109.out) hb9)
      have HK121 := Aside0.mk (blk_below (HK110.out) hb9)
      have HK122 := Aside0.mk (blk_below (HK111.out) hb9)
      have HK123 := Aside0.mk (blk_below (HK112.out) hb9)
      have HK124 := Aside0.mk (blk_below (HN6.out) hb9)
      have HT125 := Aside0.mk ((HT113.out).below hb9)
      have HT126 := Aside0.mk ((HT114.out).below hb9)
      have HT127 := Aside0.mk ((HT115.out).below hb9)
      have HT128 := Aside0.mk ((HT116.out).below hb9)
      have HT129 := Aside0.mk ((HT117.out).below hb9)
      have HT130 := Aside0.mk ((HT118.out).below hb9)
      have HS9 := Aside0.mk hb9
      clear hb9
      rw [checkE_yes (HRAR.out HZRA.out)]
      by_cases zrb : rb.1 = 0
      case pos =>
        have nrb : (rb.1 != 0) = false := by rw [zrb]; rfl
        have HZRB := Aside0.mk zrb
        clear zrb
        have c_xb0 : w9.cell? ⟨w4.heap.size, 0, none⟩ = some (Value.slice Ebs rb.2.1.length Ebsd) := (blk_cell HK120.out 0).trans rfl
        have f_xb0 := blk_frozen HK120.out 0
        have c_xb1 : w9.cell? ⟨w4.heap.size, 1, none⟩ = some (Value.slice Ebt rb.2.2.length Ebtd) := (blk_cell HK120.out 1).trans rfl
        have f_xb1 := blk_frozen HK120.out 1
        go_wp2_with fail
        clear c_xb0 f_xb0 c_xb1 f_xb1
        refine (Check.calls (As := Ebs) (cs := Ebsd) (At := Ebt) (ct := Ebtd) rb.2.1 rb.2.2 w9 (Kd.R_reads' HT126.out.1).2.2 (by have := HRBB.out.1; omega) (Kd.R_reads' HT126.out.2).2.2 HRBF.out).mono ?_
        rintro e w10 ⟨rfl, hb10⟩
        have HB10 := Aside0.mk (below_step (HB9.out) hb10)
        have HK131 := Aside0.mk (blk_below (HK120.out) hb10)
        have HK132 := Aside0.mk (blk_below (HK121.out) hb10)
        have HK133 := Aside0.mk (blk_below (HK122.out) hb10)
        have HK134 := Aside0.mk (blk_below (HK123.out) hb10)
        have HK135 := Aside0.mk (blk_below (HK124.out) hb10)
        have HT136 := Aside0.mk ((HT126.out).below hb10)
        have HT137 := Aside0.mk ((HT127.out).below hb10)
        have HT138 := Aside0.mk ((HT128.out).below hb10)
        have HT139 := Aside0.mk ((HT129.out).below hb10)
        have HT140 := Aside0.mk ((HT130.out).below hb10)
        have HS10 := Aside0.mk hb10
        clear hb10
        rw [checkE_yes (HRBR.out HZRB.out)]
        by_cases zrc : rc.1 = 0
        case pos =>
          have nrc : (rc.1 != 0) = false := by rw [zrc]; rfl
          have HZRC := Aside0.mk zrc
          clear zrc
          have c_xc0 : w10.cell? ⟨w5.heap.size, 0, none⟩ = some (Value.slice Ecs rc.2.1.length Ecsd) := (blk_cell HK132.out 0).trans rfl
          have f_xc0 := blk_frozen HK132.out 0
          have c_xc1 : w10.cell? ⟨w5.heap.size, 1, none⟩ = some (Value.slice Ect rc.2.2.length Ectd) := (blk_cell HK132.out 1).trans rfl
          have f_xc1 := blk_frozen HK132.out 1
          go_wp2_with fail
          clear c_xc0 f_xc0 c_xc1 f_xc1
          refine (Check.calls (As := Ecs) (cs := Ecsd) (At := Ect) (ct := Ectd) rc.2.1 rc.2.2 w10 (Kd.R_reads' HT137.out.1).2.2 (by have := HRCB.out.1; omega) (Kd.R_reads' HT137.out.2).2.2 HRCF.out).mono ?_
          rintro e w11 ⟨rfl, hb11⟩
          have HB11 := Aside0.mk (below_step (HB10.out) hb11)
          have HK141 := Aside0.mk (blk_below (HK132.out) hb11)
          have HK142 := Aside0.mk (blk_below (HK133.out) hb11)
          have HK143 := Aside0.mk (blk_below (HK134.out) hb11)
          have HK144 := Aside0.mk (blk_below (HK135.out) hb11)
          have HT145 := Aside0.mk ((HT137.out).below hb11)
          have HT146 := Aside0.mk ((HT138.out).below hb11)
          have HT147 := Aside0.mk ((HT139.out).below hb11)
          have HT148 := Aside0.mk ((HT140.out).below hb11)
          have HS11 := Aside0.mk hb11
          clear hb11
          rw [checkE_yes (HRCR.out HZRC.out)]
          by_cases zrd : rd.1 = 0
          case pos =>
            have nrd : (rd.1 != 0) = false := by rw [zrd]; rfl
            have HZRD := Aside0.mk zrd
            clear zrd
            have c_xd0 : w11.cell? ⟨w6.heap.size, 0, none⟩ = some (Value.slice Eds rd.2.1.length Edsd) := (blk_cell HK142.out 0).trans rfl
            have f_xd0 := blk_frozen HK142.out 0
            have c_xd1 : w11.cell? ⟨w6.heap.size, 1, none⟩ = some (Value.slice Edt rd.2.2.length Edtd) := (blk_cell HK142.out 1).trans rfl
            have f_xd1 := blk_frozen HK142.out 1
            go_wp2_with fail
            clear c_xd0 f_xd0 c_xd1 f_xd1
            refine (Check.calls (As := Eds) (cs := Edsd) (At := Edt) (ct := Edtd) rd.2.1 rd.2.2 w11 (Kd.R_reads' HT146.out.1).2.2 (by have := HRDB.out.1; omega) (Kd.R_reads' HT146.out.2).2.2 HRDF.out).mono ?_
            rintro e w12 ⟨rfl, hb12⟩
            have HB12 := Aside0.mk (below_step (HB11.out) hb12)
            have HK149 := Aside0.mk (blk_below (HK142.out) hb12)
            have HK150 := Aside0.mk (blk_below (HK143.out) hb12)
            have HK151 := Aside0.mk (blk_below (HK144.out) hb12)
            have HT152 := Aside0.mk ((HT146.out).below hb12)
            have HT153 := Aside0.mk ((HT147.out).below hb12)
            have HT154 := Aside0.mk ((HT148.out).below hb12)
            have HS12 := Aside0.mk hb12
            clear hb12
            rw [checkE_yes (HRDR.out HZRD.out)]
            by_cases zru : ru.1 = 0
            case pos =>
              have nru : (ru.1 != 0) = false := by rw [zru]; rfl
              have HZRU := Aside0.mk zru
              clear zru
              have c_xu0 : w12.cell? ⟨w7.heap.size, 0, none⟩ = some (Value.slice Eus ru.2.1.length Eusd) := (blk_cell HK150.out 0).trans rfl
              have f_xu0 := blk_frozen HK150.out 0
              have c_xu1 : w12.cell? ⟨w7.heap.size, 1, none⟩ = some (Value.slice Eut ru.2.2.length Eutd) := (blk_cell HK150.out 1).trans rfl
              have f_xu1 := blk_frozen HK150.out 1
              go_wp2_with fail
              clear c_xu0 f_xu0 c_xu1 f_xu1
              refine (Check.calls (As := Eus) (cs := Eusd) (At := Eut) (ct := Eutd) ru.2.1 ru.2.2 w12 (Kd.R_reads' HT153.out.1).2.2 (by have := HRUB.out.1; omega) (Kd.R_reads' HT153.out.2).2.2 HRUF.out).mono ?_
              rintro e w13 ⟨rfl, hb13⟩
              have HB13 := Aside0.mk (below_step (HB12.out) hb13)
              have HK155 := Aside0.mk (blk_below (HK150.out) hb13)
              have HK156 := Aside0.mk (blk_below (HK151.out) hb13)
              have HT157 := Aside0.mk ((HT153.out).below hb13)
              have HT158 := Aside0.mk ((HT154.out).below hb13)
              have HS13 := Aside0.mk hb13
              clear hb13
              rw [checkE_yes (HRUR.out HZRU.out)]
              by_cases zrv : rv.1 = 0
              case pos =>
                have nrv : (rv.1 != 0) = false := by rw [zrv]; rfl
                have HZRV := Aside0.mk zrv
                clear zrv
                have c_xv0 : w13.cell? ⟨w8.heap.size, 0, none⟩ = some (Value.slice Evs rv.2.1.length Evsd) := (blk_cell HK156.out 0).trans rfl
                have f_xv0 := blk_frozen HK156.out 0
                have c_xv1 : w13.cell? ⟨w8.heap.size, 1, none⟩ = some (Value.slice Evt rv.2.2.length Evtd) := (blk_cell HK156.out 1).trans rfl
                have f_xv1 := blk_frozen HK156.out 1
                go_wp2_with fail
                clear c_xv0 f_xv0 c_xv1 f_xv1
                refine (Check.calls (As := Evs) (cs := Evsd) (At := Evt) (ct := Evtd) rv.2.1 rv.2.2 w13 (Kd.R_reads' HT158.out.1).2.2 (by have := HRVB.out.1; omega) (Kd.R_reads' HT158.out.2).2.2 HRVF.out).mono ?_
                rintro e w14 ⟨rfl, hb14⟩
                have HB14 := Aside0.mk (below_step (HB13.out) hb14)
                have HK159 := Aside0.mk (blk_below (HK156.out) hb14)
                have HT160 := Aside0.mk ((HT158.out).below hb14)
                have HS14 := Aside0.mk hb14
                clear hb14
                rw [checkE_yes (HRVR.out HZRV.out)]
                go_wp2_with fail
                refine (checks.calls w14).mono ?_
                rintro e w15 ⟨rfl, hb15⟩
                have HB15 := Aside0.mk (below_step (HB14.out) hb15)
                have HS15 := Aside0.mk hb15
                clear hb15
                go_wp2_with fail
                refine (schemas.calls w15).mono ?_
                rintro e w16 ⟨rfl, hb16⟩
                have HB16 := Aside0.mk (below_step (HB15.out) hb16)
                have HS16 := Aside0.mk hb16
                clear hb16
                go_wp2
                go_ret
                exact ⟨rfl, HB16.out⟩
              case neg =>
                have nrv : (rv.1 != 0) = true := bne_iff_ne.2 zrv
                have HZRV := Aside0.mk zrv
                clear zrv
                go_wp2_with fail
                refine (checks.calls w13).mono ?_
                rintro e w14 ⟨rfl, hb14⟩
                have HB14 := Aside0.mk (below_step (HB13.out) hb14)
                have HS14 := Aside0.mk hb14
                clear hb14
                go_wp2_with fail
                refine (schemas.calls w14).mono ?_
                rintro e w15 ⟨rfl, hb15⟩
                have HB15 := Aside0.mk (below_step (HB14.out) hb15)
                have HS15 := Aside0.mk hb15
                clear hb15
                go_wp2
                go_ret
                exact ⟨rfl, HB15.out⟩
            case neg =>
              have nru : (ru.1 != 0) = true := bne_iff_ne.2 zru
              have HZRU := Aside0.mk zru
              clear zru
              by_cases zrv : rv.1 = 0
              case pos =>
                have nrv : (rv.1 != 0) = false := by rw [zrv]; rfl
                have HZRV := Aside0.mk zrv
                clear zrv
                have c_xv0 : w12.cell? ⟨w8.heap.size, 0, none⟩ = some (Value.slice Evs rv.2.1.length Evsd) := (blk_cell HK151.out 0).trans rfl
                have f_xv0 := blk_frozen HK151.out 0
                have c_xv1 : w12.cell? ⟨w8.heap.size, 1, none⟩ = some (Value.slice Evt rv.2.2.length Evtd) := (blk_cell HK151.out 1).trans rfl
                have f_xv1 := blk_frozen HK151.out 1
                go_wp2_with fail
                clear c_xv0 f_xv0 c_xv1 f_xv1
                refine (Check.calls (As := Evs) (cs := Evsd) (At := Evt) (ct := Evtd) rv.2.1 rv.2.2 w12 (Kd.R_reads' HT154.out.1).2.2 (by have := HRVB.out.1; omega) (Kd.R_reads' HT154.out.2).2.2 HRVF.out).mono ?_
                rintro e w13 ⟨rfl, hb13⟩
                have HB13 := Aside0.mk (below_step (HB12.out) hb13)
                have HK155 := Aside0.mk (blk_below (HK151.out) hb13)
                have HT156 := Aside0.mk ((HT154.out).below hb13)
                have HS13 := Aside0.mk hb13
                clear hb13
                rw [checkE_yes (HRVR.out HZRV.out)]
                go_wp2_with fail
                refine (checks.calls w13).mono ?_
                rintro e w14 ⟨rfl, hb14⟩
                have HB14 := Aside0.mk (below_step (HB13.out) hb14)
                have HS14 := Aside0.mk hb14
                clear hb14
                go_wp2_with fail
                refine (schemas.calls w14).mono ?_
                rintro e w15 ⟨rfl, hb15⟩
                have HB15 := Aside0.mk (below_step (HB14.out) hb15)
                have HS15 := Aside0.mk hb15
                clear hb15
                go_wp2
                go_ret
                exact ⟨rfl, HB15.out⟩
              case neg =>
                have nrv : (rv.1 != 0) = true := bne_iff_ne.2 zrv
                have HZRV := Aside0.mk zrv
                clear zrv
                go_wp2_with fail
                refine (checks.calls w12).mono ?_
                rintro e w13 ⟨rfl, hb13⟩
                have HB13 := Aside0.mk (below_step (HB12.out) hb13)
                have HS13 := Aside0.mk hb13
                clear hb13
                go_wp2_with fail
                refine (schemas.calls w13).mono ?_
                rintro e w14 ⟨rfl, hb14⟩
                have HB14 := Aside0.mk (below_step (HB13.out) hb14)
                have HS14 := Aside0.mk hb14
                clear hb14
                go_wp2
                go_ret
                exact ⟨rfl, HB14.out⟩
          case neg =>
            have nrd : (rd.1 != 0) = true := bne_iff_ne.2 zrd
            have HZRD := Aside0.mk zrd
            clear zrd
            by_cases zru : ru.1 = 0
            case pos =>
              have nru : (ru.1 != 0) = false := by rw [zru]; rfl
              have HZRU := Aside0.mk zru
              clear zru
              have c_xu0 : w11.cell? ⟨w7.heap.size, 0, none⟩ = some (Value.slice Eus ru.2.1.length Eusd) := (blk_cell HK143.out 0).trans rfl
              have f_xu0 := blk_frozen HK143.out 0
              have c_xu1 : w11.cell? ⟨w7.heap.size, 1, none⟩ = some (Value.slice Eut ru.2.2.length Eutd) := (blk_cell HK143.out 1).trans rfl
              have f_xu1 := blk_frozen HK143.out 1
              go_wp2_with fail
              clear c_xu0 f_xu0 c_xu1 f_xu1
              refine (Check.calls (As := Eus) (cs := Eusd) (At := Eut) (ct := Eutd) ru.2.1 ru.2.2 w11 (Kd.R_reads' HT147.out.1).2.2 (by have := HRUB.out.1; omega) (Kd.R_reads' HT147.out.2).2.2 HRUF.out).mono ?_
              rintro e w12 ⟨rfl, hb12⟩
              have HB12 := Aside0.mk (below_step (HB11.out) hb12)
              have HK149 := Aside0.mk (blk_below (HK143.out) hb12)
              have HK150 := Aside0.mk (blk_below (HK144.out) hb12)
              have HT151 := Aside0.mk ((HT147.out).below hb12)
              have HT152 := Aside0.mk ((HT148.out).below hb12)
              have HS12 := Aside0.mk hb12
              clear hb12
              rw [checkE_yes (HRUR.out HZRU.out)]
              by_cases zrv : rv.1 = 0
              case pos =>
                have nrv : (rv.1 != 0) = false := by rw [zrv]; rfl
                have HZRV := Aside0.mk zrv
                clear zrv
                have c_xv0 : w12.cell? ⟨w8.heap.size, 0, none⟩ = some (Value.slice Evs rv.2.1.length Evsd) := (blk_cell HK150.out 0).trans rfl
                have f_xv0 := blk_frozen HK150.out 0
                have c_xv1 : w12.cell? ⟨w8.heap.size, 1, none⟩ = some (Value.slice Evt rv.2.2.length Evtd) := (blk_cell HK150.out 1).trans rfl
                have f_xv1 := blk_frozen HK150.out 1
                go_wp2_with fail
                clear c_xv0 f_xv0 c_xv1 f_xv1
                refine (Check.calls (As := Evs) (cs := Evsd) (At := Evt) (ct := Evtd) rv.2.1 rv.2.2 w12 (Kd.R_reads' HT152.out.1).2.2 (by have := HRVB.out.1; omega) (Kd.R_reads' HT152.out.2).2.2 HRVF.out).mono ?_
                rintro e w13 ⟨rfl, hb13⟩
                have HB13 := Aside0.mk (below_step (HB12.out) hb13)
                have HK153 := Aside0.mk (blk_below (HK150.out) hb13)
                have HT154 := Aside0.mk ((HT152.out).below hb13)
                have HS13 := Aside0.mk hb13
                clear hb13
                rw [checkE_yes (HRVR.out HZRV.out)]
                go_wp2_with fail
                refine (checks.calls w13).mono ?_
                rintro e w14 ⟨rfl, hb14⟩
                have HB14 := Aside0.mk (below_step (HB13.out) hb14)
                have HS14 := Aside0.mk hb14
                clear hb14
                go_wp2_with fail
                refine (schemas.calls w14).mono ?_
                rintro e w15 ⟨rfl, hb15⟩
                have HB15 := Aside0.mk (below_step (HB14.out) hb15)
                have HS15 := Aside0.mk hb15
                clear hb15
                go_wp2
                go_ret
                exact ⟨rfl, HB15.out⟩
              case neg =>
                have nrv : (rv.1 != 0) = true := bne_iff_ne.2 zrv
                have HZRV := Aside0.mk zrv
                clear zrv
                go_wp2_with fail
                refine (checks.calls w12).mono ?_
                rintro e w13 ⟨rfl, hb13⟩
                have HB13 := Aside0.mk (below_step (HB12.out) hb13)
                have HS13 := Aside0.mk hb13
                clear hb13
                go_wp2_with fail
                refine (schemas.calls w13).mono ?_
                rintro e w14 ⟨rfl, hb14⟩
                have HB14 := Aside0.mk (below_step (HB13.out) hb14)
                have HS14 := Aside0.mk hb14
                clear hb14
                go_wp2
                go_ret
                exact ⟨rfl, HB14.out⟩
            case neg =>
              have nru : (ru.1 != 0) = true := bne_iff_ne.2 zru
              have HZRU := Aside0.mk zru
              clear zru
              by_cases zrv : rv.1 = 0
              case pos =>
                have nrv : (rv.1 != 0) = false := by rw [zrv]; rfl
                have HZRV := Aside0.mk zrv
                clear zrv
                have c_xv0 : w11.cell? ⟨w8.heap.size, 0, none⟩ = some (Value.slice Evs rv.2.1.length Evsd) := (blk_cell HK144.out 0).trans rfl
                have f_xv0 := blk_frozen HK144.out 0
                have c_xv1 : w11.cell? ⟨w8.heap.size, 1, none⟩ = some (Value.slice Evt rv.2.2.length Evtd) := (blk_cell HK144.out 1).trans rfl
                have f_xv1 := blk_frozen HK144.out 1
                go_wp2_with fail
                clear c_xv0 f_xv0 c_xv1 f_xv1
                refine (Check.calls (As := Evs) (cs := Evsd) (At := Evt) (ct := Evtd) rv.2.1 rv.2.2 w11 (Kd.R_reads' HT148.out.1).2.2 (by have := HRVB.out.1; omega) (Kd.R_reads' HT148.out.2).2.2 HRVF.out).mono ?_
                rintro e w12 ⟨rfl, hb12⟩
                have HB12 := Aside0.mk (below_step (HB11.out) hb12)
                have HK149 := Aside0.mk (blk_below (HK144.out) hb12)
                have HT150 := Aside0.mk ((HT148.out).below hb12)
                have HS12 := Aside0.mk hb12
                clear hb12
                rw [checkE_yes (HRVR.out HZRV.out)]
                go_wp2_with fail
                refine (checks.calls w12).mono ?_
                rintro e w13 ⟨rfl, hb13⟩
                have HB13 := Aside0.mk (below_step (HB12.out) hb13)
                have HS13 := Aside0.mk hb13
                clear hb13
                go_wp2_with fail
                refine (schemas.calls w13).mono ?_
                rintro e w14 ⟨rfl, hb14⟩
                have HB14 := Aside0.mk (below_step (HB13.out) hb14)
                have HS14 := Aside0.mk hb14
                clear hb14
                go_wp2
                go_ret
                exact ⟨rfl, HB14.out⟩
              case neg =>
                have nrv : (rv.1 != 0) = true := bne_iff_ne.2 zrv
                have HZRV := Aside0.mk zrv
                clear zrv
                go_wp2_with fail
                refine (checks.calls w11).mono ?_
                rintro e w12 ⟨rfl, hb12⟩
                have HB12 := Aside0.mk (below_step (HB11.out) hb12)
                have HS12 := Aside0.mk hb12
                clear hb12
                go_wp2_with fail
                refine (schemas.calls w12).mono ?_
                rintro e w13 ⟨rfl, hb13⟩
                have HB13 := Aside0.mk (below_step (HB12.out) hb13)
                have HS13 := Aside0.mk hb13
                clear hb13
                go_wp2
                go_ret
                exact ⟨rfl, HB13.out⟩
        case neg =>
          have nrc : (rc.1 != 0) = true := bne_iff_ne.2 zrc
          have HZRC := Aside0.mk zrc
          clear zrc
          by_cases zrd : rd.1 = 0
          case pos =>
            have nrd : (rd.1 != 0) = false := by rw [zrd]; rfl
            have HZRD := Aside0.mk zrd
            clear zrd
            have c_xd0 : w10.cell? ⟨w6.heap.size, 0, none⟩ = some (Value.slice Eds rd.2.1.length Edsd) := (blk_cell HK133.out 0).trans rfl
            have f_xd0 := blk_frozen HK133.out 0
            have c_xd1 : w10.cell? ⟨w6.heap.size, 1, none⟩ = some (Value.slice Edt rd.2.2.length Edtd) := (blk_cell HK133.out 1).trans rfl
            have f_xd1 := blk_frozen HK133.out 1
            go_wp2_with fail
            clear c_xd0 f_xd0 c_xd1 f_xd1
            refine (Check.calls (As := Eds) (cs := Edsd) (At := Edt) (ct := Edtd) rd.2.1 rd.2.2 w10 (Kd.R_reads' HT138.out.1).2.2 (by have := HRDB.out.1; omega) (Kd.R_reads' HT138.out.2).2.2 HRDF.out).mono ?_
            rintro e w11 ⟨rfl, hb11⟩
            have HB11 := Aside0.mk (below_step (HB10.out) hb11)
            have HK141 := Aside0.mk (blk_below (HK133.out) hb11)
            have HK142 := Aside0.mk (blk_below (HK134.out) hb11)
            have HK143 := Aside0.mk (blk_below (HK135.out) hb11)
            have HT144 := Aside0.mk ((HT138.out).below hb11)
            have HT145 := Aside0.mk ((HT139.out).below hb11)
            have HT146 := Aside0.mk ((HT140.out).below hb11)
            have HS11 := Aside0.mk hb11
            clear hb11
            rw [checkE_yes (HRDR.out HZRD.out)]
            by_cases zru : ru.1 = 0
            case pos =>
              have nru : (ru.1 != 0) = false := by rw [zru]; rfl
              have HZRU := Aside0.mk zru
              clear zru
              have c_xu0 : w11.cell? ⟨w7.heap.size, 0, none⟩ = some (Value.slice Eus ru.2.1.length Eusd) := (blk_cell HK142.out 0).trans rfl
              have f_xu0 := blk_frozen HK142.out 0
              have c_xu1 : w11.cell? ⟨w7.heap.size, 1, none⟩ = some (Value.slice Eut ru.2.2.length Eutd) := (blk_cell HK142.out 1).trans rfl
              have f_xu1 := blk_frozen HK142.out 1
              go_wp2_with fail
              clear c_xu0 f_xu0 c_xu1 f_xu1
              refine (Check.calls (As := Eus) (cs := Eusd) (At := Eut) (ct := Eutd) ru.2.1 ru.2.2 w11 (Kd.R_reads' HT145.out.1).2.2 (by have := HRUB.out.1; omega) (Kd.R_reads' HT145.out.2).2.2 HRUF.out).mono ?_
              rintro e w12 ⟨rfl, hb12⟩
              have HB12 := Aside0.mk (below_step (HB11.out) hb12)
              have HK147 := Aside0.mk (blk_below (HK142.out) hb12)
              have HK148 := Aside0.mk (blk_below (HK143.out) hb12)
              have HT149 := Aside0.mk ((HT145.out).below hb12)
              have HT150 := Aside0.mk ((HT146.out).below hb12)
              have HS12 := Aside0.mk hb12
              clear hb12
              rw [checkE_yes (HRUR.out HZRU.out)]
              by_cases zrv : rv.1 = 0
              case pos =>
                have nrv : (rv.1 != 0) = false := by rw [zrv]; rfl
                have HZRV := Aside0.mk zrv
                clear zrv
                have c_xv0 : w12.cell? ⟨w8.heap.size, 0, none⟩ = some (Value.slice Evs rv.2.1.length Evsd) := (blk_cell HK148.out 0).trans rfl
                have f_xv0 := blk_frozen HK148.out 0
                have c_xv1 : w12.cell? ⟨w8.heap.size, 1, none⟩ = some (Value.slice Evt rv.2.2.length Evtd) := (blk_cell HK148.out 1).trans rfl
                have f_xv1 := blk_frozen HK148.out 1
                go_wp2_with fail
                clear c_xv0 f_xv0 c_xv1 f_xv1
                refine (Check.calls (As := Evs) (cs := Evsd) (At := Evt) (ct := Evtd) rv.2.1 rv.2.2 w12 (Kd.R_reads' HT150.out.1).2.2 (by have := HRVB.out.1; omega) (Kd.R_reads' HT150.out.2).2.2 HRVF.out).mono ?_
                rintro e w13 ⟨rfl, hb13⟩
                have HB13 := Aside0.mk (below_step (HB12.out) hb13)
                have HK151 := Aside0.mk (blk_below (HK148.out) hb13)
                have HT152 := Aside0.mk ((HT150.out).below hb13)
                have HS13 := Aside0.mk hb13
                clear hb13
                rw [checkE_yes (HRVR.out HZRV.out)]
                go_wp2_with fail
                refine (checks.calls w13).mono ?_
                rintro e w14 ⟨rfl, hb14⟩
                have HB14 := Aside0.mk (below_step (HB13.out) hb14)
                have HS14 := Aside0.mk hb14
                clear hb14
                go_wp2_with fail
                refine (schemas.calls w14).mono ?_
                rintro e w15 ⟨rfl, hb15⟩
                have HB15 := Aside0.mk (below_step (HB14.out) hb15)
                have HS15 := Aside0.mk hb15
                clear hb15
                go_wp2
                go_ret
                exact ⟨rfl, HB15.out⟩
              case neg =>
                have nrv : (rv.1 != 0) = true := bne_iff_ne.2 zrv
                have HZRV := Aside0.mk zrv
                clear zrv
                go_wp2_with fail
                refine (checks.calls w12).mono ?_
                rintro e w13 ⟨rfl, hb13⟩
                have HB13 := Aside0.mk (below_step (HB12.out) hb13)
                have HS13 := Aside0.mk hb13
                clear hb13
                go_wp2_with fail
                refine (schemas.calls w13).mono ?_
                rintro e w14 ⟨rfl, hb14⟩
                have HB14 := Aside0.mk (below_step (HB13.out) hb14)
                have HS14 := Aside0.mk hb14
                clear hb14
                go_wp2
                go_ret
                exact ⟨rfl, HB14.out⟩
            case neg =>
              have nru : (ru.1 != 0) = true := bne_iff_ne.2 zru
              have HZRU := Aside0.mk zru
              clear zru
              by_cases zrv : rv.1 = 0
              case pos =>
                have nrv : (rv.1 != 0) = false := by rw [zrv]; rfl
                have HZRV := Aside0.mk zrv
                clear zrv
                have c_xv0 : w11.cell? ⟨w8.heap.size, 0, none⟩ = some (Value.slice Evs rv.2.1.length Evsd) := (blk_cell HK143.out 0).trans rfl
                have f_xv0 := blk_frozen HK143.out 0
                have c_xv1 : w11.cell? ⟨w8.heap.size, 1, none⟩ = some (Value.slice Evt rv.2.2.length Evtd) := (blk_cell HK143.out 1).trans rfl
                have f_xv1 := blk_frozen HK143.out 1
                go_wp2_with fail
                clear c_xv0 f_xv0 c_xv1 f_xv1
                refine (Check.calls (As := Evs) (cs := Evsd) (At := Evt) (ct := Evtd) rv.2.1 rv.2.2 w11 (Kd.R_reads' HT146.out.1).2.2 (by have := HRVB.out.1; omega) (Kd.R_reads' HT146.out.2).2.2 HRVF.out).mono ?_
                rintro e w12 ⟨rfl, hb12⟩
                have HB12 := Aside0.mk (below_step (HB11.out) hb12)
                have HK147 := Aside0.mk (blk_below (HK143.out) hb12)
                have HT148 := Aside0.mk ((HT146.out).below hb12)
                have HS12 := Aside0.mk hb12
                clear hb12
                rw [checkE_yes (HRVR.out HZRV.out)]
                go_wp2_with fail
                refine (checks.calls w12).mono ?_
                rintro e w13 ⟨rfl, hb13⟩
                have HB13 := Aside0.mk (below_step (HB12.out) hb13)
                have HS13 := Aside0.mk hb13
                clear hb13
                go_wp2_with fail
                refine (schemas.calls w13).mono ?_
                rintro e w14 ⟨rfl, hb14⟩
                have HB14 := Aside0.mk (below_step (HB13.out) hb14)
                have HS14 := Aside0.mk hb14
                clear hb14
                go_wp2
                go_ret
                exact ⟨rfl, HB14.out⟩
              case neg =>
                have nrv : (rv.1 != 0) = true := bne_iff_ne.2 zrv
                have HZRV := Aside0.mk zrv
                clear zrv
                go_wp2_with fail
                refine (checks.calls w11).mono ?_
                rintro e w12 ⟨rfl, hb12⟩
                have HB12 := Aside0.mk (below_step (HB11.out) hb12)
                have HS12 := Aside0.mk hb12
                clear hb12
                go_wp2_with fail
                refine (schemas.calls w12).mono ?_
                rintro e w13 ⟨rfl, hb13⟩
                have HB13 := Aside0.mk (below_step (HB12.out) hb13)
                have HS13 := Aside0.mk hb13
                clear hb13
                go_wp2
                go_ret
                exact ⟨rfl, HB13.out⟩
          case neg =>
            have nrd : (rd.1 != 0) = true := bne_iff_ne.2 zrd
            have HZRD := Aside0.mk zrd
            clear zrd
            by_cases zru : ru.1 = 0
            case pos =>
              have nru : (ru.1 != 0) = false := by rw [zru]; rfl
              have HZRU := Aside0.mk zru
              clear zru
              have c_xu0 : w10.cell? ⟨w7.heap.size, 0, none⟩ = some (Value.slice Eus ru.2.1.length Eusd) := (blk_cell HK134.out 0).trans rfl
              have f_xu0 := blk_frozen HK134.out 0
              have c_xu1 : w10.cell? ⟨w7.heap.size, 1, none⟩ = some (Value.slice Eut ru.2.2.length Eutd) := (blk_cell HK134.out 1).trans rfl
              have f_xu1 := blk_frozen HK134.out 1
              go_wp2_with fail
              clear c_xu0 f_xu0 c_xu1 f_xu1
              refine (Check.calls (As := Eus) (cs := Eusd) (At := Eut) (ct := Eutd) ru.2.1 ru.2.2 w10 (Kd.R_reads' HT139.out.1).2.2 (by have := HRUB.out.1; omega) (Kd.R_reads' HT139.out.2).2.2 HRUF.out).mono ?_
              rintro e w11 ⟨rfl, hb11⟩
              have HB11 := Aside0.mk (below_step (HB10.out) hb11)
              have HK141 := Aside0.mk (blk_below (HK134.out) hb11)
              have HK142 := Aside0.mk (blk_below (HK135.out) hb11)
              have HT143 := Aside0.mk ((HT139.out).below hb11)
              have HT144 := Aside0.mk ((HT140.out).below hb11)
              have HS11 := Aside0.mk hb11
              clear hb11
              rw [checkE_yes (HRUR.out HZRU.out)]
              by_cases zrv : rv.1 = 0
              case pos =>
                have nrv : (rv.1 != 0) = false := by rw [zrv]; rfl
                have HZRV := Aside0.mk zrv
                clear zrv
                have c_xv0 : w11.cell? ⟨w8.heap.size, 0, none⟩ = some (Value.slice Evs rv.2.1.length Evsd) := (blk_cell HK142.out 0).trans rfl
                have f_xv0 := blk_frozen HK142.out 0
                have c_xv1 : w11.cell? ⟨w8.heap.size, 1, none⟩ = some (Value.slice Evt rv.2.2.length Evtd) := (blk_cell HK142.out 1).trans rfl
                have f_xv1 := blk_frozen HK142.out 1
                go_wp2_with fail
                clear c_xv0 f_xv0 c_xv1 f_xv1
                refine (Check.calls (As := Evs) (cs := Evsd) (At := Evt) (ct := Evtd) rv.2.1 rv.2.2 w11 (Kd.R_reads' HT144.out.1).2.2 (by have := HRVB.out.1; omega) (Kd.R_reads' HT144.out.2).2.2 HRVF.out).mono ?_
                rintro e w12 ⟨rfl, hb12⟩
                have HB12 := Aside0.mk (below_step (HB11.out) hb12)
                have HK145 := Aside0.mk (blk_below (HK142.out) hb12)
                have HT146 := Aside0.mk ((HT144.out).below hb12)
                have HS12 := Aside0.mk hb12
                clear hb12
                rw [checkE_yes (HRVR.out HZRV.out)]
                go_wp2_with fail
                refine (checks.calls w12).mono ?_
                rintro e w13 ⟨rfl, hb13⟩
                have HB13 := Aside0.mk (below_step (HB12.out) hb13)
                have HS13 := Aside0.mk hb13
                clear hb13
                go_wp2_with fail
                refine (schemas.calls w13).mono ?_
                rintro e w14 ⟨rfl, hb14⟩
                have HB14 := Aside0.mk (below_step (HB13.out) hb14)
                have HS14 := Aside0.mk hb14
                clear hb14
                go_wp2
                go_ret
                exact ⟨rfl, HB14.out⟩
              case neg =>
                have nrv : (rv.1 != 0) = true := bne_iff_ne.2 zrv
                have HZRV := Aside0.mk zrv
                clear zrv
                go_wp2_with fail
                refine (checks.calls w11).mono ?_
                rintro e w12 ⟨rfl, hb12⟩
                have HB12 := Aside0.mk (below_step (HB11.out) hb12)
                have HS12 := Aside0.mk hb12
                clear hb12
                go_wp2_with fail
                refine (schemas.calls w12).mono ?_
                rintro e w13 ⟨rfl, hb13⟩
                have HB13 := Aside0.mk (below_step (HB12.out) hb13)
                have HS13 := Aside0.mk hb13
                clear hb13
                go_wp2
                go_ret
                exact ⟨rfl, HB13.out⟩
            case neg =>
              have nru : (ru.1 != 0) = true := bne_iff_ne.2 zru
              have HZRU := Aside0.mk zru
              clear zru
              by_cases zrv : rv.1 = 0
              case pos =>
                have nrv : (rv.1 != 0) = false := by rw [zrv]; rfl
                have HZRV := Aside0.mk zrv
                clear zrv
                have c_xv0 : w10.cell? ⟨w8.heap.size, 0, none⟩ = some (Value.slice Evs rv.2.1.length Evsd) := (blk_cell HK135.out 0).trans rfl
                have f_xv0 := blk_frozen HK135.out 0
                have c_xv1 : w10.cell? ⟨w8.heap.size, 1, none⟩ = some (Value.slice Evt rv.2.2.length Evtd) := (blk_cell HK135.out 1).trans rfl
                have f_xv1 := blk_frozen HK135.out 1
                go_wp2_with fail
                clear c_xv0 f_xv0 c_xv1 f_xv1
                refine (Check.calls (As := Evs) (cs := Evsd) (At := Evt) (ct := Evtd) rv.2.1 rv.2.2 w10 (Kd.R_reads' HT140.out.1).2.2 (by have := HRVB.out.1; omega) (Kd.R_reads' HT140.out.2).2.2 HRVF.out).mono ?_
                rintro e w11 ⟨rfl, hb11⟩
                have HB11 := Aside0.mk (below_step (HB10.out) hb11)
                have HK141 := Aside0.mk (blk_below (HK135.out) hb11)
                have HT142 := Aside0.mk ((HT140.out).below hb11)
                have HS11 := Aside0.mk hb11
                clear hb11
                rw [checkE_yes (HRVR.out HZRV.out)]
                go_wp2_with fail
                refine (checks.calls w11).mono ?_
                rintro e w12 ⟨rfl, hb12⟩
                have HB12 := Aside0.mk (below_step (HB11.out) hb12)
                have HS12 := Aside0.mk hb12
                clear hb12
                go_wp2_with fail
                refine (schemas.calls w12).mono ?_
                rintro e w13 ⟨rfl, hb13⟩
                have HB13 := Aside0.mk (below_step (HB12.out) hb13)
                have HS13 := Aside0.mk hb13
                clear hb13
                go_wp2
                go_ret
                exact ⟨rfl, HB13.out⟩
              case neg =>
                have nrv : (rv.1 != 0) = true := bne_iff_ne.2 zrv
                have HZRV := Aside0.mk zrv
                clear zrv
                go_wp2_with fail
                refine (checks.calls w10).mono ?_
                rintro e w11 ⟨rfl, hb11⟩
                have HB11 := Aside0.mk (below_step (HB10.out) hb11)
                have HS11 := Aside0.mk hb11
                clear hb11
                go_wp2_with fail
                refine (schemas.calls w11).mono ?_
                rintro e w12 ⟨rfl, hb12⟩
                have HB12 := Aside0.mk (below_step (HB11.out) hb12)
                have HS12 := Aside0.mk hb12
                clear hb12
                go_wp2
                go_ret
                exact ⟨rfl, HB12.out⟩
      case neg =>
        have nrb : (rb.1 != 0) = true := bne_iff_ne.2 zrb
        have HZRB := Aside0.mk zrb
        clear zrb
        by_cases zrc : rc.1 = 0
        case pos =>
          have nrc : (rc.1 != 0) = false := by rw [zrc]; rfl
          have HZRC := Aside0.mk zrc
          clear zrc
          have c_xc0 : w9.cell? ⟨w5.heap.size, 0, none⟩ = some (Value.slice Ecs rc.2.1.length Ecsd) := (blk_cell HK121.out 0).trans rfl
          have f_xc0 := blk_frozen HK121.out 0
          have c_xc1 : w9.cell? ⟨w5.heap.size, 1, none⟩ = some (Value.slice Ect rc.2.2.length Ectd) := (blk_cell HK121.out 1).trans rfl
          have f_xc1 := blk_frozen HK121.out 1
          go_wp2_with fail
          clear c_xc0 f_xc0 c_xc1 f_xc1
          refine (Check.calls (As := Ecs) (cs := Ecsd) (At := Ect) (ct := Ectd) rc.2.1 rc.2.2 w9 (Kd.R_reads' HT127.out.1).2.2 (by have := HRCB.out.1; omega) (Kd.R_reads' HT127.out.2).2.2 HRCF.out).mono ?_
          rintro e w10 ⟨rfl, hb10⟩
          have HB10 := Aside0.mk (below_step (HB9.out) hb10)
          have HK131 := Aside0.mk (blk_below (HK121.out) hb10)
          have HK132 := Aside0.mk (blk_below (HK122.out) hb10)
          have HK133 := Aside0.mk (blk_below (HK123.out) hb10)
          have HK134 := Aside0.mk (blk_below (HK124.out) hb10)
          have HT135 := Aside0.mk ((HT127.out).below hb10)
          have HT136 := Aside0.mk ((HT128.out).below hb10)
          have HT137 := Aside0.mk ((HT129.out).below hb10)
          have HT138 := Aside0.mk ((HT130.out).below hb10)
          have HS10 := Aside0.mk hb10
          clear hb10
          rw [checkE_yes (HRCR.out HZRC.out)]
          by_cases zrd : rd.1 = 0
          case pos =>
            have nrd : (rd.1 != 0) = false := by rw [zrd]; rfl
            have HZRD := Aside0.mk zrd
            clear zrd
            have c_xd0 : w10.cell? ⟨w6.heap.size, 0, none⟩ = some (Value.slice Eds rd.2.1.length Edsd) := (blk_cell HK132.out 0).trans rfl
            have f_xd0 := blk_frozen HK132.out 0
            have c_xd1 : w10.cell? ⟨w6.heap.size, 1, none⟩ = some (Value.slice Edt rd.2.2.length Edtd) := (blk_cell HK132.out 1).trans rfl
            have f_xd1 := blk_frozen HK132.out 1
            go_wp2_with fail
            clear c_xd0 f_xd0 c_xd1 f_xd1
            refine (Check.calls (As := Eds) (cs := Edsd) (At := Edt) (ct := Edtd) rd.2.1 rd.2.2 w10 (Kd.R_reads' HT136.out.1).2.2 (by have := HRDB.out.1; omega) (Kd.R_reads' HT136.out.2).2.2 HRDF.out).mono ?_
            rintro e w11 ⟨rfl, hb11⟩
            have HB11 := Aside0.mk (below_step (HB10.out) hb11)
            have HK139 := Aside0.mk (blk_below (HK132.out) hb11)
            have HK140 := Aside0.mk (blk_below (HK133.out) hb11)
            have HK141 := Aside0.mk (blk_below (HK134.out) hb11)
            have HT142 := Aside0.mk ((HT136.out).below hb11)
            have HT143 := Aside0.mk ((HT137.out).below hb11)
            have HT144 := Aside0.mk ((HT138.out).below hb11)
            have HS11 := Aside0.mk hb11
            clear hb11
            rw [checkE_yes (HRDR.out HZRD.out)]
            by_cases zru : ru.1 = 0
            case pos =>
              have nru : (ru.1 != 0) = false := by rw [zru]; rfl
              have HZRU := Aside0.mk zru
              clear zru
              have c_xu0 : w11.cell? ⟨w7.heap.size, 0, none⟩ = some (Value.slice Eus ru.2.1.length Eusd) := (blk_cell HK140.out 0).trans rfl
              have f_xu0 := blk_frozen HK140.out 0
              have c_xu1 : w11.cell? ⟨w7.heap.size, 1, none⟩ = some (Value.slice Eut ru.2.2.length Eutd) := (blk_cell HK140.out 1).trans rfl
              have f_xu1 := blk_frozen HK140.out 1
              go_wp2_with fail
              clear c_xu0 f_xu0 c_xu1 f_xu1
              refine (Check.calls (As := Eus) (cs := Eusd) (At := Eut) (ct := Eutd) ru.2.1 ru.2.2 w11 (Kd.R_reads' HT143.out.1).2.2 (by have := HRUB.out.1; omega) (Kd.R_reads' HT143.out.2).2.2 HRUF.out).mono ?_
              rintro e w12 ⟨rfl, hb12⟩
              have HB12 := Aside0.mk (below_step (HB11.out) hb12)
              have HK145 := Aside0.mk (blk_below (HK140.out) hb12)
              have HK146 := Aside0.mk (blk_below (HK141.out) hb12)
              have HT147 := Aside0.mk ((HT143.out).below hb12)
              have HT148 := Aside0.mk ((HT144.out).below hb12)
              have HS12 := Aside0.mk hb12
              clear hb12
              rw [checkE_yes (HRUR.out HZRU.out)]
              by_cases zrv : rv.1 = 0
              case pos =>
                have nrv : (rv.1 != 0) = false := by rw [zrv]; rfl
                have HZRV := Aside0.mk zrv
                clear zrv
                have c_xv0 : w12.cell? ⟨w8.heap.size, 0, none⟩ = some (Value.slice Evs rv.2.1.length Evsd) := (blk_cell HK146.out 0).trans rfl
                have f_xv0 := blk_frozen HK146.out 0
                have c_xv1 : w12.cell? ⟨w8.heap.size, 1, none⟩ = some (Value.slice Evt rv.2.2.length Evtd) := (blk_cell HK146.out 1).trans rfl
                have f_xv1 := blk_frozen HK146.out 1
                go_wp2_with fail
                clear c_xv0 f_xv0 c_xv1 f_xv1
                refine (Check.calls (As := Evs) (cs := Evsd) (At := Evt) (ct := Evtd) rv.2.1 rv.2.2 w12 (Kd.R_reads' HT148.out.1).2.2 (by have := HRVB.out.1; omega) (Kd.R_reads' HT148.out.2).2.2 HRVF.out).mono ?_
                rintro e w13 ⟨rfl, hb13⟩
                have HB13 := Aside0.mk (below_step (HB12.out) hb13)
                have HK149 := Aside0.mk (blk_below (HK146.out) hb13)
                have HT150 := Aside0.mk ((HT148.out).below hb13)
                have HS13 := Aside0.mk hb13
                clear hb13
                rw [checkE_yes (HRVR.out HZRV.out)]
                go_wp2_with fail
                refine (checks.calls w13).mono ?_
                rintro e w14 ⟨rfl, hb14⟩
                have HB14 := Aside0.mk (below_step (HB13.out) hb14)
                have HS14 := Aside0.mk hb14
                clear hb14
                go_wp2_with fail
                refine (schemas.calls w14).mono ?_
                rintro e w15 ⟨rfl, hb15⟩
                have HB15 := Aside0.mk (below_step (HB14.out) hb15)
                have HS15 := Aside0.mk hb15
                clear hb15
                go_wp2
                go_ret
                exact ⟨rfl, HB15.out⟩
              case neg =>
                have nrv : (rv.1 != 0) = true := bne_iff_ne.2 zrv
                have HZRV := Aside0.mk zrv
                clear zrv
                go_wp2_with fail
                refine (checks.calls w12).mono ?_
                rintro e w13 ⟨rfl, hb13⟩
                have HB13 := Aside0.mk (below_step (HB12.out) hb13)
                have HS13 := Aside0.mk hb13
                clear hb13
                go_wp2_with fail
                refine (schemas.calls w13).mono ?_
                rintro e w14 ⟨rfl, hb14⟩
                have HB14 := Aside0.mk (below_step (HB13.out) hb14)
                have HS14 := Aside0.mk hb14
                clear hb14
                go_wp2
                go_ret
                exact ⟨rfl, HB14.out⟩
            case neg =>
              have nru : (ru.1 != 0) = true := bne_iff_ne.2 zru
              have HZRU := Aside0.mk zru
              clear zru
              by_cases zrv : rv.1 = 0
              case pos =>
                have nrv : (rv.1 != 0) = false := by rw [zrv]; rfl
                have HZRV := Aside0.mk zrv
                clear zrv
                have c_xv0 : w11.cell? ⟨w8.heap.size, 0, none⟩ = some (Value.slice Evs rv.2.1.length Evsd) := (blk_cell HK141.out 0).trans rfl
                have f_xv0 := blk_frozen HK141.out 0
                have c_xv1 : w11.cell? ⟨w8.heap.size, 1, none⟩ = some (Value.slice Evt rv.2.2.length Evtd) := (blk_cell HK141.out 1).trans rfl
                have f_xv1 := blk_frozen HK141.out 1
                go_wp2_with fail
                clear c_xv0 f_xv0 c_xv1 f_xv1
                refine (Check.calls (As := Evs) (cs := Evsd) (At := Evt) (ct := Evtd) rv.2.1 rv.2.2 w11 (Kd.R_reads' HT144.out.1).2.2 (by have := HRVB.out.1; omega) (Kd.R_reads' HT144.out.2).2.2 HRVF.out).mono ?_
                rintro e w12 ⟨rfl, hb12⟩
                have HB12 := Aside0.mk (below_step (HB11.out) hb12)
                have HK145 := Aside0.mk (blk_below (HK141.out) hb12)
                have HT146 := Aside0.mk ((HT144.out).below hb12)
                have HS12 := Aside0.mk hb12
                clear hb12
                rw [checkE_yes (HRVR.out HZRV.out)]
                go_wp2_with fail
                refine (checks.calls w12).mono ?_
                rintro e w13 ⟨rfl, hb13⟩
                have HB13 := Aside0.mk (below_step (HB12.out) hb13)
                have HS13 := Aside0.mk hb13
                clear hb13
                go_wp2_with fail
                refine (schemas.calls w13).mono ?_
                rintro e w14 ⟨rfl, hb14⟩
                have HB14 := Aside0.mk (below_step (HB13.out) hb14)
                have HS14 := Aside0.mk hb14
                clear hb14
                go_wp2
                go_ret
                exact ⟨rfl, HB14.out⟩
              case neg =>
                have nrv : (rv.1 != 0) = true := bne_iff_ne.2 zrv
                have HZRV := Aside0.mk zrv
                clear zrv
                go_wp2_with fail
                refine (checks.calls w11).mono ?_
                rintro e w12 ⟨rfl, hb12⟩
                have HB12 := Aside0.mk (below_step (HB11.out) hb12)
                have HS12 := Aside0.mk hb12
                clear hb12
                go_wp2_with fail
                refine (schemas.calls w12).mono ?_
                rintro e w13 ⟨rfl, hb13⟩
                have HB13 := Aside0.mk (below_step (HB12.out) hb13)
                have HS13 := Aside0.mk hb13
                clear hb13
                go_wp2
                go_ret
                exact ⟨rfl, HB13.out⟩
          case neg =>
            have nrd : (rd.1 != 0) = true := bne_iff_ne.2 zrd
            have HZRD := Aside0.mk zrd
            clear zrd
            by_cases zru : ru.1 = 0
            case pos =>
              have nru : (ru.1 != 0) = false := by rw [zru]; rfl
              have HZRU := Aside0.mk zru
              clear zru
              have c_xu0 : w10.cell? ⟨w7.heap.size, 0, none⟩ = some (Value.slice Eus ru.2.1.length Eusd) := (blk_cell HK133.out 0).trans rfl
              have f_xu0 := blk_frozen HK133.out 0
              have c_xu1 : w10.cell? ⟨w7.heap.size, 1, none⟩ = some (Value.slice Eut ru.2.2.length Eutd) := (blk_cell HK133.out 1).trans rfl
              have f_xu1 := blk_frozen HK133.out 1
              go_wp2_with fail
              clear c_xu0 f_xu0 c_xu1 f_xu1
              refine (Check.calls (As := Eus) (cs := Eusd) (At := Eut) (ct := Eutd) ru.2.1 ru.2.2 w10 (Kd.R_reads' HT137.out.1).2.2 (by have := HRUB.out.1; omega) (Kd.R_reads' HT137.out.2).2.2 HRUF.out).mono ?_
              rintro e w11 ⟨rfl, hb11⟩
              have HB11 := Aside0.mk (below_step (HB10.out) hb11)
              have HK139 := Aside0.mk (blk_below (HK133.out) hb11)
              have HK140 := Aside0.mk (blk_below (HK134.out) hb11)
              have HT141 := Aside0.mk ((HT137.out).below hb11)
              have HT142 := Aside0.mk ((HT138.out).below hb11)
              have HS11 := Aside0.mk hb11
              clear hb11
              rw [checkE_yes (HRUR.out HZRU.out)]
              by_cases zrv : rv.1 = 0
              case pos =>
                have nrv : (rv.1 != 0) = false := by rw [zrv]; rfl
                have HZRV := Aside0.mk zrv
                clear zrv
                have c_xv0 : w11.cell? ⟨w8.heap.size, 0, none⟩ = some (Value.slice Evs rv.2.1.length Evsd) := (blk_cell HK140.out 0).trans rfl
                have f_xv0 := blk_frozen HK140.out 0
                have c_xv1 : w11.cell? ⟨w8.heap.size, 1, none⟩ = some (Value.slice Evt rv.2.2.length Evtd) := (blk_cell HK140.out 1).trans rfl
                have f_xv1 := blk_frozen HK140.out 1
                go_wp2_with fail
                clear c_xv0 f_xv0 c_xv1 f_xv1
                refine (Check.calls (As := Evs) (cs := Evsd) (At := Evt) (ct := Evtd) rv.2.1 rv.2.2 w11 (Kd.R_reads' HT142.out.1).2.2 (by have := HRVB.out.1; omega) (Kd.R_reads' HT142.out.2).2.2 HRVF.out).mono ?_
                rintro e w12 ⟨rfl, hb12⟩
                have HB12 := Aside0.mk (below_step (HB11.out) hb12)
                have HK143 := Aside0.mk (blk_below (HK140.out) hb12)
                have HT144 := Aside0.mk ((HT142.out).below hb12)
                have HS12 := Aside0.mk hb12
                clear hb12
                rw [checkE_yes (HRVR.out HZRV.out)]
                go_wp2_with fail
                refine (checks.calls w12).mono ?_
                rintro e w13 ⟨rfl, hb13⟩
                have HB13 := Aside0.mk (below_step (HB12.out) hb13)
                have HS13 := Aside0.mk hb13
                clear hb13
                go_wp2_with fail
                refine (schemas.calls w13).mono ?_
                rintro e w14 ⟨rfl, hb14⟩
                have HB14 := Aside0.mk (below_step (HB13.out) hb14)
                have HS14 := Aside0.mk hb14
                clear hb14
                go_wp2
                go_ret
                exact ⟨rfl, HB14.out⟩
              case neg =>
                have nrv : (rv.1 != 0) = true := bne_iff_ne.2 zrv
                have HZRV := Aside0.mk zrv
                clear zrv
                go_wp2_with fail
                refine (checks.calls w11).mono ?_
                rintro e w12 ⟨rfl, hb12⟩
                have HB12 := Aside0.mk (below_step (HB11.out) hb12)
                have HS12 := Aside0.mk hb12
                clear hb12
                go_wp2_with fail
                refine (schemas.calls w12).mono ?_
                rintro e w13 ⟨rfl, hb13⟩
                have HB13 := Aside0.mk (below_step (HB12.out) hb13)
                have HS13 := Aside0.mk hb13
                clear hb13
                go_wp2
                go_ret
                exact ⟨rfl, HB13.out⟩
            case neg =>
              have nru : (ru.1 != 0) = true := bne_iff_ne.2 zru
              have HZRU := Aside0.mk zru
              clear zru
              by_cases zrv : rv.1 = 0
              case pos =>
                have nrv : (rv.1 != 0) = false := by rw [zrv]; rfl
                have HZRV := Aside0.mk zrv
                clear zrv
                have c_xv0 : w10.cell? ⟨w8.heap.size, 0, none⟩ = some (Value.slice Evs rv.2.1.length Evsd) := (blk_cell HK134.out 0).trans rfl
                have f_xv0 := blk_frozen HK134.out 0
                have c_xv1 : w10.cell? ⟨w8.heap.size, 1, none⟩ = some (Value.slice Evt rv.2.2.length Evtd) := (blk_cell HK134.out 1).trans rfl
                have f_xv1 := blk_frozen HK134.out 1
                go_wp2_with fail
                clear c_xv0 f_xv0 c_xv1 f_xv1
                refine (Check.calls (As := Evs) (cs := Evsd) (At := Evt) (ct := Evtd) rv.2.1 rv.2.2 w10 (Kd.R_reads' HT138.out.1).2.2 (by have := HRVB.out.1; omega) (Kd.R_reads' HT138.out.2).2.2 HRVF.out).mono ?_
                rintro e w11 ⟨rfl, hb11⟩
                have HB11 := Aside0.mk (below_step (HB10.out) hb11)
                have HK139 := Aside0.mk (blk_below (HK134.out) hb11)
                have HT140 := Aside0.mk ((HT138.out).below hb11)
                have HS11 := Aside0.mk hb11
                clear hb11
                rw [checkE_yes (HRVR.out HZRV.out)]
                go_wp2_with fail
                refine (checks.calls w11).mono ?_
                rintro e w12 ⟨rfl, hb12⟩
                have HB12 := Aside0.mk (below_step (HB11.out) hb12)
                have HS12 := Aside0.mk hb12
                clear hb12
                go_wp2_with fail
                refine (schemas.calls w12).mono ?_
                rintro e w13 ⟨rfl, hb13⟩
                have HB13 := Aside0.mk (below_step (HB12.out) hb13)
                have HS13 := Aside0.mk hb13
                clear hb13
                go_wp2
                go_ret
                exact ⟨rfl, HB13.out⟩
              case neg =>
                have nrv : (rv.1 != 0) = true := bne_iff_ne.2 zrv
                have HZRV := Aside0.mk zrv
                clear zrv
                go_wp2_with fail
                refine (checks.calls w10).mono ?_
                rintro e w11 ⟨rfl, hb11⟩
                have HB11 := Aside0.mk (below_step (HB10.out) hb11)
                have HS11 := Aside0.mk hb11
                clear hb11
                go_wp2_with fail
                refine (schemas.calls w11).mono ?_
                rintro e w12 ⟨rfl, hb12⟩
                have HB12 := Aside0.mk (below_step (HB11.out) hb12)
                have HS12 := Aside0.mk hb12
                clear hb12
                go_wp2
                go_ret
                exact ⟨rfl, HB12.out⟩
        case neg =>
          have nrc : (rc.1 != 0) = true := bne_iff_ne.2 zrc
          have HZRC := Aside0.mk zrc
          clear zrc
          by_cases zrd : rd.1 = 0
          case pos =>
            have nrd : (rd.1 != 0) = false := by rw [zrd]; rfl
            have HZRD := Aside0.mk zrd
            clear zrd
            have c_xd0 : w9.cell? ⟨w6.heap.size, 0, none⟩ = some (Value.slice Eds rd.2.1.length Edsd) := (blk_cell HK122.out 0).trans rfl
            have f_xd0 := blk_frozen HK122.out 0
            have c_xd1 : w9.cell? ⟨w6.heap.size, 1, none⟩ = some (Value.slice Edt rd.2.2.length Edtd) := (blk_cell HK122.out 1).trans rfl
            have f_xd1 := blk_frozen HK122.out 1
            go_wp2_with fail
            clear c_xd0 f_xd0 c_xd1 f_xd1
            refine (Check.calls (As := Eds) (cs := Edsd) (At := Edt) (ct := Edtd) rd.2.1 rd.2.2 w9 (Kd.R_reads' HT128.out.1).2.2 (by have := HRDB.out.1; omega) (Kd.R_reads' HT128.out.2).2.2 HRDF.out).mono ?_
            rintro e w10 ⟨rfl, hb10⟩
            have HB10 := Aside0.mk (below_step (HB9.out) hb10)
            have HK131 := Aside0.mk (blk_below (HK122.out) hb10)
            have HK132 := Aside0.mk (blk_below (HK123.out) hb10)
            have HK133 := Aside0.mk (blk_below (HK124.out) hb10)
            have HT134 := Aside0.mk ((HT128.out).below hb10)
            have HT135 := Aside0.mk ((HT129.out).below hb10)
            have HT136 := Aside0.mk ((HT130.out).below hb10)
            have HS10 := Aside0.mk hb10
            clear hb10
            rw [checkE_yes (HRDR.out HZRD.out)]
            by_cases zru : ru.1 = 0
            case pos =>
              have nru : (ru.1 != 0) = false := by rw [zru]; rfl
              have HZRU := Aside0.mk zru
              clear zru
              have c_xu0 : w10.cell? ⟨w7.heap.size, 0, none⟩ = some (Value.slice Eus ru.2.1.length Eusd) := (blk_cell HK132.out 0).trans rfl
              have f_xu0 := blk_frozen HK132.out 0
              have c_xu1 : w10.cell? ⟨w7.heap.size, 1, none⟩ = some (Value.slice Eut ru.2.2.length Eutd) := (blk_cell HK132.out 1).trans rfl
              have f_xu1 := blk_frozen HK132.out 1
              go_wp2_with fail
              clear c_xu0 f_xu0 c_xu1 f_xu1
              refine (Check.calls (As := Eus) (cs := Eusd) (At := Eut) (ct := Eutd) ru.2.1 ru.2.2 w10 (Kd.R_reads' HT135.out.1).2.2 (by have := HRUB.out.1; omega) (Kd.R_reads' HT135.out.2).2.2 HRUF.out).mono ?_
              rintro e w11 ⟨rfl, hb11⟩
              have HB11 := Aside0.mk (below_step (HB10.out) hb11)
              have HK137 := Aside0.mk (blk_below (HK132.out) hb11)
              have HK138 := Aside0.mk (blk_below (HK133.out) hb11)
              have HT139 := Aside0.mk ((HT135.out).below hb11)
              have HT140 := Aside0.mk ((HT136.out).below hb11)
              have HS11 := Aside0.mk hb11
              clear hb11
              rw [checkE_yes (HRUR.out HZRU.out)]
              by_cases zrv : rv.1 = 0
              case pos =>
                have nrv : (rv.1 != 0) = false := by rw [zrv]; rfl
                have HZRV := Aside0.mk zrv
                clear zrv
                have c_xv0 : w11.cell? ⟨w8.heap.size, 0, none⟩ = some (Value.slice Evs rv.2.1.length Evsd) := (blk_cell HK138.out 0).trans rfl
                have f_xv0 := blk_frozen HK138.out 0
                have c_xv1 : w11.cell? ⟨w8.heap.size, 1, none⟩ = some (Value.slice Evt rv.2.2.length Evtd) := (blk_cell HK138.out 1).trans rfl
                have f_xv1 := blk_frozen HK138.out 1
                go_wp2_with fail
                clear c_xv0 f_xv0 c_xv1 f_xv1
                refine (Check.calls (As := Evs) (cs := Evsd) (At := Evt) (ct := Evtd) rv.2.1 rv.2.2 w11 (Kd.R_reads' HT140.out.1).2.2 (by have := HRVB.out.1; omega) (Kd.R_reads' HT140.out.2).2.2 HRVF.out).mono ?_
                rintro e w12 ⟨rfl, hb12⟩
                have HB12 := Aside0.mk (below_step (HB11.out) hb12)
                have HK141 := Aside0.mk (blk_below (HK138.out) hb12)
                have HT142 := Aside0.mk ((HT140.out).below hb12)
                have HS12 := Aside0.mk hb12
                clear hb12
                rw [checkE_yes (HRVR.out HZRV.out)]
                go_wp2_with fail
                refine (checks.calls w12).mono ?_
                rintro e w13 ⟨rfl, hb13⟩
                have HB13 := Aside0.mk (below_step (HB12.out) hb13)
                have HS13 := Aside0.mk hb13
                clear hb13
                go_wp2_with fail
                refine (schemas.calls w13).mono ?_
                rintro e w14 ⟨rfl, hb14⟩
                have HB14 := Aside0.mk (below_step (HB13.out) hb14)
                have HS14 := Aside0.mk hb14
                clear hb14
                go_wp2
                go_ret
                exact ⟨rfl, HB14.out⟩
              case neg =>
                have nrv : (rv.1 != 0) = true := bne_iff_ne.2 zrv
                have HZRV := Aside0.mk zrv
                clear zrv
                go_wp2_with fail
                refine (checks.calls w11).mono ?_
                rintro e w12 ⟨rfl, hb12⟩
                have HB12 := Aside0.mk (below_step (HB11.out) hb12)
                have HS12 := Aside0.mk hb12
                clear hb12
                go_wp2_with fail
                refine (schemas.calls w12).mono ?_
                rintro e w13 ⟨rfl, hb13⟩
                have HB13 := Aside0.mk (below_step (HB12.out) hb13)
                have HS13 := Aside0.mk hb13
                clear hb13
                go_wp2
                go_ret
                exact ⟨rfl, HB13.out⟩
            case neg =>
              have nru : (ru.1 != 0) = true := bne_iff_ne.2 zru
              have HZRU := Aside0.mk zru
              clear zru
              by_cases zrv : rv.1 = 0
              case pos =>
                have nrv : (rv.1 != 0) = false := by rw [zrv]; rfl
                have HZRV := Aside0.mk zrv
                clear zrv
                have c_xv0 : w10.cell? ⟨w8.heap.size, 0, none⟩ = some (Value.slice Evs rv.2.1.length Evsd) := (blk_cell HK133.out 0).trans rfl
                have f_xv0 := blk_frozen HK133.out 0
                have c_xv1 : w10.cell? ⟨w8.heap.size, 1, none⟩ = some (Value.slice Evt rv.2.2.length Evtd) := (blk_cell HK133.out 1).trans rfl
                have f_xv1 := blk_frozen HK133.out 1
                go_wp2_with fail
                clear c_xv0 f_xv0 c_xv1 f_xv1
                refine (Check.calls (As := Evs) (cs := Evsd) (At := Evt) (ct := Evtd) rv.2.1 rv.2.2 w10 (Kd.R_reads' HT136.out.1).2.2 (by have := HRVB.out.1; omega) (Kd.R_reads' HT136.out.2).2.2 HRVF.out).mono ?_
                rintro e w11 ⟨rfl, hb11⟩
                have HB11 := Aside0.mk (below_step (HB10.out) hb11)
                have HK137 := Aside0.mk (blk_below (HK133.out) hb11)
                have HT138 := Aside0.mk ((HT136.out).below hb11)
                have HS11 := Aside0.mk hb11
                clear hb11
                rw [checkE_yes (HRVR.out HZRV.out)]
                go_wp2_with fail
                refine (checks.calls w11).mono ?_
                rintro e w12 ⟨rfl, hb12⟩
                have HB12 := Aside0.mk (below_step (HB11.out) hb12)
                have HS12 := Aside0.mk hb12
                clear hb12
                go_wp2_with fail
                refine (schemas.calls w12).mono ?_
                rintro e w13 ⟨rfl, hb13⟩
                have HB13 := Aside0.mk (below_step (HB12.out) hb13)
                have HS13 := Aside0.mk hb13
                clear hb13
                go_wp2
                go_ret
                exact ⟨rfl, HB13.out⟩
              case neg =>
                have nrv : (rv.1 != 0) = true := bne_iff_ne.2 zrv
                have HZRV := Aside0.mk zrv
                clear zrv
                go_wp2_with fail
                refine (checks.calls w10).mono ?_
                rintro e w11 ⟨rfl, hb11⟩
                have HB11 := Aside0.mk (below_step (HB10.out) hb11)
                have HS11 := Aside0.mk hb11
                clear hb11
                go_wp2_with fail
                refine (schemas.calls w11).mono ?_
                rintro e w12 ⟨rfl, hb12⟩
                have HB12 := Aside0.mk (below_step (HB11.out) hb12)
                have HS12 := Aside0.mk hb12
                clear hb12
                go_wp2
                go_ret
                exact ⟨rfl, HB12.out⟩
          case neg =>
            have nrd : (rd.1 != 0) = true := bne_iff_ne.2 zrd
            have HZRD := Aside0.mk zrd
            clear zrd
            by_cases zru : ru.1 = 0
            case pos =>
              have nru : (ru.1 != 0) = false := by rw [zru]; rfl
              have HZRU := Aside0.mk zru
              clear zru
              have c_xu0 : w9.cell? ⟨w7.heap.size, 0, none⟩ = some (Value.slice Eus ru.2.1.length Eusd) := (blk_cell HK123.out 0).trans rfl
              have f_xu0 := blk_frozen HK123.out 0
              have c_xu1 : w9.cell? ⟨w7.heap.size, 1, none⟩ = some (Value.slice Eut ru.2.2.length Eutd) := (blk_cell HK123.out 1).trans rfl
              have f_xu1 := blk_frozen HK123.out 1
              go_wp2_with fail
              clear c_xu0 f_xu0 c_xu1 f_xu1
              refine (Check.calls (As := Eus) (cs := Eusd) (At := Eut) (ct := Eutd) ru.2.1 ru.2.2 w9 (Kd.R_reads' HT129.out.1).2.2 (by have := HRUB.out.1; omega) (Kd.R_reads' HT129.out.2).2.2 HRUF.out).mono ?_
              rintro e w10 ⟨rfl, hb10⟩
              have HB10 := Aside0.mk (below_step (HB9.out) hb10)
              have HK131 := Aside0.mk (blk_below (HK123.out) hb10)
              have HK132 := Aside0.mk (blk_below (HK124.out) hb10)
              have HT133 := Aside0.mk ((HT129.out).below hb10)
              have HT134 := Aside0.mk ((HT130.out).below hb10)
              have HS10 := Aside0.mk hb10
              clear hb10
              rw [checkE_yes (HRUR.out HZRU.out)]
              by_cases zrv : rv.1 = 0
              case pos =>
                have nrv : (rv.1 != 0) = false := by rw [zrv]; rfl
                have HZRV := Aside0.mk zrv
                clear zrv
                have c_xv0 : w10.cell? ⟨w8.heap.size, 0, none⟩ = some (Value.slice Evs rv.2.1.length Evsd) := (blk_cell HK132.out 0).trans rfl
                have f_xv0 := blk_frozen HK132.out 0
                have c_xv1 : w10.cell? ⟨w8.heap.size, 1, none⟩ = some (Value.slice Evt rv.2.2.length Evtd) := (blk_cell HK132.out 1).trans rfl
                have f_xv1 := blk_frozen HK132.out 1
                go_wp2_with fail
                clear c_xv0 f_xv0 c_xv1 f_xv1
                refine (Check.calls (As := Evs) (cs := Evsd) (At := Evt) (ct := Evtd) rv.2.1 rv.2.2 w10 (Kd.R_reads' HT134.out.1).2.2 (by have := HRVB.out.1; omega) (Kd.R_reads' HT134.out.2).2.2 HRVF.out).mono ?_
                rintro e w11 ⟨rfl, hb11⟩
                have HB11 := Aside0.mk (below_step (HB10.out) hb11)
                have HK135 := Aside0.mk (blk_below (HK132.out) hb11)
                have HT136 := Aside0.mk ((HT134.out).below hb11)
                have HS11 := Aside0.mk hb11
                clear hb11
                rw [checkE_yes (HRVR.out HZRV.out)]
                go_wp2_with fail
                refine (checks.calls w11).mono ?_
                rintro e w12 ⟨rfl, hb12⟩
                have HB12 := Aside0.mk (below_step (HB11.out) hb12)
                have HS12 := Aside0.mk hb12
                clear hb12
                go_wp2_with fail
                refine (schemas.calls w12).mono ?_
                rintro e w13 ⟨rfl, hb13⟩
                have HB13 := Aside0.mk (below_step (HB12.out) hb13)
                have HS13 := Aside0.mk hb13
                clear hb13
                go_wp2
                go_ret
                exact ⟨rfl, HB13.out⟩
              case neg =>
                have nrv : (rv.1 != 0) = true := bne_iff_ne.2 zrv
                have HZRV := Aside0.mk zrv
                clear zrv
                go_wp2_with fail
                refine (checks.calls w10).mono ?_
                rintro e w11 ⟨rfl, hb11⟩
                have HB11 := Aside0.mk (below_step (HB10.out) hb11)
                have HS11 := Aside0.mk hb11
                clear hb11
                go_wp2_with fail
                refine (schemas.calls w11).mono ?_
                rintro e w12 ⟨rfl, hb12⟩
                have HB12 := Aside0.mk (below_step (HB11.out) hb12)
                have HS12 := Aside0.mk hb12
                clear hb12
                go_wp2
                go_ret
                exact ⟨rfl, HB12.out⟩
            case neg =>
              have nru : (ru.1 != 0) = true := bne_iff_ne.2 zru
              have HZRU := Aside0.mk zru
              clear zru
              by_cases zrv : rv.1 = 0
              case pos =>
                have nrv : (rv.1 != 0) = false := by rw [zrv]; rfl
                have HZRV := Aside0.mk zrv
                clear zrv
                have c_xv0 : w9.cell? ⟨w8.heap.size, 0, none⟩ = some (Value.slice Evs rv.2.1.length Evsd) := (blk_cell HK124.out 0).trans rfl
                have f_xv0 := blk_frozen HK124.out 0
                have c_xv1 : w9.cell? ⟨w8.heap.size, 1, none⟩ = some (Value.slice Evt rv.2.2.length Evtd) := (blk_cell HK124.out 1).trans rfl
                have f_xv1 := blk_frozen HK124.out 1
                go_wp2_with fail
                clear c_xv0 f_xv0 c_xv1 f_xv1
                refine (Check.calls (As := Evs) (cs := Evsd) (At := Evt) (ct := Evtd) rv.2.1 rv.2.2 w9 (Kd.R_reads' HT130.out.1).2.2 (by have := HRVB.out.1; omega) (Kd.R_reads' HT130.out.2).2.2 HRVF.out).mono ?_
                rintro e w10 ⟨rfl, hb10⟩
                have HB10 := Aside0.mk (below_step (HB9.out) hb10)
                have HK131 := Aside0.mk (blk_below (HK124.out) hb10)
                have HT132 := Aside0.mk ((HT130.out).below hb10)
                have HS10 := Aside0.mk hb10
                clear hb10
                rw [checkE_yes (HRVR.out HZRV.out)]
                go_wp2_with fail
                refine (checks.calls w10).mono ?_
                rintro e w11 ⟨rfl, hb11⟩
                have HB11 := Aside0.mk (below_step (HB10.out) hb11)
                have HS11 := Aside0.mk hb11
                clear hb11
                go_wp2_with fail
                refine (schemas.calls w11).mono ?_
                rintro e w12 ⟨rfl, hb12⟩
                have HB12 := Aside0.mk (below_step (HB11.out) hb12)
                have HS12 := Aside0.mk hb12
                clear hb12
                go_wp2
                go_ret
                exact ⟨rfl, HB12.out⟩
              case neg =>
                have nrv : (rv.1 != 0) = true := bne_iff_ne.2 zrv
                have HZRV := Aside0.mk zrv
                clear zrv
                go_wp2_with fail
                refine (checks.calls w9).mono ?_
                rintro e w10 ⟨rfl, hb10⟩
                have HB10 := Aside0.mk (below_step (HB9.out) hb10)
                have HS10 := Aside0.mk hb10
                clear hb10
                go_wp2_with fail
                refine (schemas.calls w10).mono ?_
                rintro e w11 ⟨rfl, hb11⟩
                have HB11 := Aside0.mk (below_step (HB10.out) hb11)
                have HS11 := Aside0.mk hb11
                clear hb11
                go_wp2
                go_ret
                exact ⟨rfl, HB11.out⟩
    case neg =>
      have nra : (ra.1 != 0) = true := bne_iff_ne.2 zra
      have HZRA := Aside0.mk zra
      clear zra
      by_cases zrb : rb.1 = 0
      case pos =>
        have nrb : (rb.1 != 0) = false := by rw [zrb]; rfl
        have HZRB := Aside0.mk zrb
        clear zrb
        have c_xb0 : w8.cell? ⟨w4.heap.size, 0, none⟩ = some (Value.slice Ebs rb.2.1.length Ebsd) := (blk_cell HK98.out 0).trans rfl
        have f_xb0 := blk_frozen HK98.out 0
        have a_xb0 : ∀ o, (w8.alloc o).cell? ⟨w4.heap.size, 0, none⟩ = some (Value.slice Ebs rb.2.1.length Ebsd) := fun o => (blk_cell (blk_alloc HK98.out o) 0).trans rfl
        have c_xb1 : w8.cell? ⟨w4.heap.size, 1, none⟩ = some (Value.slice Ebt rb.2.2.length Ebtd) := (blk_cell HK98.out 1).trans rfl
        have f_xb1 := blk_frozen HK98.out 1
        have a_xb1 : ∀ o, (w8.alloc o).cell? ⟨w4.heap.size, 1, none⟩ = some (Value.slice Ebt rb.2.2.length Ebtd) := fun o => (blk_cell (blk_alloc HK98.out o) 1).trans rfl
        go_wp2_with fail
        clear c_xb0 f_xb0 a_xb0 c_xb1 f_xb1 a_xb1
        obtain ⟨v6, he6⟩ : ∃ W, W = (w8.alloc (.cells #[Value.slice Evs rv.2.1.length Evsd, Value.slice Evt rv.2.2.length Evtd] 25)) := ⟨_, rfl⟩
        have hb_ : Below w8.heap.size w8 v6 := by rw [he6]; exact below_alloc (Below.refl _ _) _
        have HZ6 := Aside0.mk (show v6.heap.size = w8.heap.size + 1 by rw [he6]; simp)
        have HN6 := Aside0.mk (show v6.heap[w8.heap.size]? = some (.cells #[Value.slice Evs rv.2.1.length Evsd, Value.slice Evt rv.2.2.length Evtd] 25 (0, 0)) by rw [he6]; exact blk_new _ _)
        have HV6 := Aside0.mk (below_step (HB8.out) hb_)
        have HK108 := Aside0.mk (blk_below (HK98.out) hb_)
        have HK109 := Aside0.mk (blk_below (HK99.out) hb_)
        have HK110 := Aside0.mk (blk_below (HK100.out) hb_)
        have HK111 := Aside0.mk (blk_below (HK101.out) hb_)
        have HT112 := Aside0.mk ((HT104.out).below hb_)
        have HT113 := Aside0.mk ((HT105.out).below hb_)
        have HT114 := Aside0.mk ((HT106.out).below hb_)
        have HT115 := Aside0.mk ((HT107.out).below hb_)
        have HT116 := Aside0.mk ((HM8.out).below hb_)
        rw [← he6]
        clear he6
        refine (Check.calls (As := Ebs) (cs := Ebsd) (At := Ebt) (ct := Ebtd) rb.2.1 rb.2.2 v6 (Kd.R_reads' HT112.out.1).2.2 (by have := HRBB.out.1; omega) (Kd.R_reads' HT112.out.2).2.2 HRBF.out).mono ?_
        rintro e w9 ⟨rfl, hb9⟩
        have HB9 := Aside0.mk (below_step (HV6.out) hb9)
        have HK117 := Aside0.mk (blk_below (HK108.out) hb9)
        have HK118 := Aside0.mk (blk_below (HK109.out) hb9)
        have HK119 := Aside0.mk (blk_below (HK110.out) hb9)
        have HK120 := Aside0.mk (blk_below (HK111.out) hb9)
        have HK121 := Aside0.mk (blk_below (HN6.out) hb9)
        have HT122 := Aside0.mk ((HT112.out).below hb9)
        have HT123 := Aside0.mk ((HT113.out).below hb9)
        have HT124 := Aside0.mk ((HT114.out).below hb9)
        have HT125 := Aside0.mk ((HT115.out).below hb9)
        have HT126 := Aside0.mk ((HT116.out).below hb9)
        have HS9 := Aside0.mk hb9
        clear hb9
        rw [checkE_yes (HRBR.out HZRB.out)]
        by_cases zrc : rc.1 = 0
        case pos =>
          have nrc : (rc.1 != 0) = false := by rw [zrc]; rfl
          have HZRC := Aside0.mk zrc
          clear zrc
          have c_xc0 : w9.cell? ⟨w5.heap.size, 0, none⟩ = some (Value.slice Ecs rc.2.1.length Ecsd) := (blk_cell HK118.out 0).trans rfl
          have f_xc0 := blk_frozen HK118.out 0
          have c_xc1 : w9.cell? ⟨w5.heap.size, 1, none⟩ = some (Value.slice Ect rc.2.2.length Ectd) := (blk_cell HK118.out 1).trans rfl
          have f_xc1 := blk_frozen HK118.out 1
          go_wp2_with fail
          clear c_xc0 f_xc0 c_xc1 f_xc1
          refine (Check.calls (As := Ecs) (cs := Ecsd) (At := Ect) (ct := Ectd) rc.2.1 rc.2.2 w9 (Kd.R_reads' HT123.out.1).2.2 (by have := HRCB.out.1; omega) (Kd.R_reads' HT123.out.2).2.2 HRCF.out).mono ?_
          rintro e w10 ⟨rfl, hb10⟩
          have HB10 := Aside0.mk (below_step (HB9.out) hb10)
          have HK127 := Aside0.mk (blk_below (HK118.out) hb10)
          have HK128 := Aside0.mk (blk_below (HK119.out) hb10)
          have HK129 := Aside0.mk (blk_below (HK120.out) hb10)
          have HK130 := Aside0.mk (blk_below (HK121.out) hb10)
          have HT131 := Aside0.mk ((HT123.out).below hb10)
          have HT132 := Aside0.mk ((HT124.out).below hb10)
          have HT133 := Aside0.mk ((HT125.out).below hb10)
          have HT134 := Aside0.mk ((HT126.out).below hb10)
          have HS10 := Aside0.mk hb10
          clear hb10
          rw [checkE_yes (HRCR.out HZRC.out)]
          by_cases zrd : rd.1 = 0
          case pos =>
            have nrd : (rd.1 != 0) = false := by rw [zrd]; rfl
            have HZRD := Aside0.mk zrd
            clear zrd
            have c_xd0 : w10.cell? ⟨w6.heap.size, 0, none⟩ = some (Value.slice Eds rd.2.1.length Edsd) := (blk_cell HK128.out 0).trans rfl
            have f_xd0 := blk_frozen HK128.out 0
            have c_xd1 : w10.cell? ⟨w6.heap.size, 1, none⟩ = some (Value.slice Edt rd.2.2.length Edtd) := (blk_cell HK128.out 1).trans rfl
            have f_xd1 := blk_frozen HK128.out 1
            go_wp2_with fail
            clear c_xd0 f_xd0 c_xd1 f_xd1
            refine (Check.calls (As := Eds) (cs := Edsd) (At := Edt) (ct := Edtd) rd.2.1 rd.2.2 w10 (Kd.R_reads' HT132.out.1).2.2 (by have := HRDB.out.1; omega) (Kd.R_reads' HT132.out.2).2.2 HRDF.out).mono ?_
            rintro e w11 ⟨rfl, hb11⟩
            have HB11 := Aside0.mk (below_step (HB10.out) hb11)
            have HK135 := Aside0.mk (blk_below (HK128.out) hb11)
            have HK136 := Aside0.mk (blk_below (HK129.out) hb11)
            have HK137 := Aside0.mk (blk_below (HK130.out) hb11)
            have HT138 := Aside0.mk ((HT132.out).below hb11)
            have HT139 := Aside0.mk ((HT133.out).below hb11)
            have HT140 := Aside0.mk ((HT134.out).below hb11)
            have HS11 := Aside0.mk hb11
            clear hb11
            rw [checkE_yes (HRDR.out HZRD.out)]
            by_cases zru : ru.1 = 0
            case pos =>
              have nru : (ru.1 != 0) = false := by rw [zru]; rfl
              have HZRU := Aside0.mk zru
              clear zru
              have c_xu0 : w11.cell? ⟨w7.heap.size, 0, none⟩ = some (Value.slice Eus ru.2.1.length Eusd) := (blk_cell HK136.out 0).trans rfl
              have f_xu0 := blk_frozen HK136.out 0
              have c_xu1 : w11.cell? ⟨w7.heap.size, 1, none⟩ = some (Value.slice Eut ru.2.2.length Eutd) := (blk_cell HK136.out 1).trans rfl
              have f_xu1 := blk_frozen HK136.out 1
              go_wp2_with fail
              clear c_xu0 f_xu0 c_xu1 f_xu1
              refine (Check.calls (As := Eus) (cs := Eusd) (At := Eut) (ct := Eutd) ru.2.1 ru.2.2 w11 (Kd.R_reads' HT139.out.1).2.2 (by have := HRUB.out.1; omega) (Kd.R_reads' HT139.out.2).2.2 HRUF.out).mono ?_
              rintro e w12 ⟨rfl, hb12⟩
              have HB12 := Aside0.mk (below_step (HB11.out) hb12)
              have HK141 := Aside0.mk (blk_below (HK136.out) hb12)
              have HK142 := Aside0.mk (blk_below (HK137.out) hb12)
              have HT143 := Aside0.mk ((HT139.out).below hb12)
              have HT144 := Aside0.mk ((HT140.out).below hb12)
              have HS12 := Aside0.mk hb12
              clear hb12
              rw [checkE_yes (HRUR.out HZRU.out)]
              by_cases zrv : rv.1 = 0
              case pos =>
                have nrv : (rv.1 != 0) = false := by rw [zrv]; rfl
                have HZRV := Aside0.mk zrv
                clear zrv
                have c_xv0 : w12.cell? ⟨w8.heap.size, 0, none⟩ = some (Value.slice Evs rv.2.1.length Evsd) := (blk_cell HK142.out 0).trans rfl
                have f_xv0 := blk_frozen HK142.out 0
                have c_xv1 : w12.cell? ⟨w8.heap.size, 1, none⟩ = some (Value.slice Evt rv.2.2.length Evtd) := (blk_cell HK142.out 1).trans rfl
                have f_xv1 := blk_frozen HK142.out 1
                go_wp2_with fail
                clear c_xv0 f_xv0 c_xv1 f_xv1
                refine (Check.calls (As := Evs) (cs := Evsd) (At := Evt) (ct := Evtd) rv.2.1 rv.2.2 w12 (Kd.R_reads' HT144.out.1).2.2 (by have := HRVB.out.1; omega) (Kd.R_reads' HT144.out.2).2.2 HRVF.out).mono ?_
                rintro e w13 ⟨rfl, hb13⟩
                have HB13 := Aside0.mk (below_step (HB12.out) hb13)
                have HK145 := Aside0.mk (blk_below (HK142.out) hb13)
                have HT146 := Aside0.mk ((HT144.out).below hb13)
                have HS13 := Aside0.mk hb13
                clear hb13
                rw [checkE_yes (HRVR.out HZRV.out)]
                go_wp2_with fail
                refine (checks.calls w13).mono ?_
                rintro e w14 ⟨rfl, hb14⟩
                have HB14 := Aside0.mk (below_step (HB13.out) hb14)
                have HS14 := Aside0.mk hb14
                clear hb14
                go_wp2_with fail
                refine (schemas.calls w14).mono ?_
                rintro e w15 ⟨rfl, hb15⟩
                have HB15 := Aside0.mk (below_step (HB14.out) hb15)
                have HS15 := Aside0.mk hb15
                clear hb15
                go_wp2
                go_ret
                exact ⟨rfl, HB15.out⟩
              case neg =>
                have nrv : (rv.1 != 0) = true := bne_iff_ne.2 zrv
                have HZRV := Aside0.mk zrv
                clear zrv
                go_wp2_with fail
                refine (checks.calls w12).mono ?_
                rintro e w13 ⟨rfl, hb13⟩
                have HB13 := Aside0.mk (below_step (HB12.out) hb13)
                have HS13 := Aside0.mk hb13
                clear hb13
                go_wp2_with fail
                refine (schemas.calls w13).mono ?_
                rintro e w14 ⟨rfl, hb14⟩
                have HB14 := Aside0.mk (below_step (HB13.out) hb14)
                have HS14 := Aside0.mk hb14
                clear hb14
                go_wp2
                go_ret
                exact ⟨rfl, HB14.out⟩
            case neg =>
              have nru : (ru.1 != 0) = true := bne_iff_ne.2 zru
              have HZRU := Aside0.mk zru
              clear zru
              by_cases zrv : rv.1 = 0
              case pos =>
                have nrv : (rv.1 != 0) = false := by rw [zrv]; rfl
                have HZRV := Aside0.mk zrv
                clear zrv
                have c_xv0 : w11.cell? ⟨w8.heap.size, 0, none⟩ = some (Value.slice Evs rv.2.1.length Evsd) := (blk_cell HK137.out 0).trans rfl
                have f_xv0 := blk_frozen HK137.out 0
                have c_xv1 : w11.cell? ⟨w8.heap.size, 1, none⟩ = some (Value.slice Evt rv.2.2.length Evtd) := (blk_cell HK137.out 1).trans rfl
                have f_xv1 := blk_frozen HK137.out 1
                go_wp2_with fail
                clear c_xv0 f_xv0 c_xv1 f_xv1
                refine (Check.calls (As := Evs) (cs := Evsd) (At := Evt) (ct := Evtd) rv.2.1 rv.2.2 w11 (Kd.R_reads' HT140.out.1).2.2 (by have := HRVB.out.1; omega) (Kd.R_reads' HT140.out.2).2.2 HRVF.out).mono ?_
                rintro e w12 ⟨rfl, hb12⟩
                have HB12 := Aside0.mk (below_step (HB11.out) hb12)
                have HK141 := Aside0.mk (blk_below (HK137.out) hb12)
                have HT142 := Aside0.mk ((HT140.out).below hb12)
                have HS12 := Aside0.mk hb12
                clear hb12
                rw [checkE_yes (HRVR.out HZRV.out)]
                go_wp2_with fail
                refine (checks.calls w12).mono ?_
                rintro e w13 ⟨rfl, hb13⟩
                have HB13 := Aside0.mk (below_step (HB12.out) hb13)
                have HS13 := Aside0.mk hb13
                clear hb13
                go_wp2_with fail
                refine (schemas.calls w13).mono ?_
                rintro e w14 ⟨rfl, hb14⟩
                have HB14 := Aside0.mk (below_step (HB13.out) hb14)
                have HS14 := Aside0.mk hb14
                clear hb14
                go_wp2
                go_ret
                exact ⟨rfl, HB14.out⟩
              case neg =>
                have nrv : (rv.1 != 0) = true := bne_iff_ne.2 zrv
                have HZRV := Aside0.mk zrv
                clear zrv
                go_wp2_with fail
                refine (checks.calls w11).mono ?_
                rintro e w12 ⟨rfl, hb12⟩
                have HB12 := Aside0.mk (below_step (HB11.out) hb12)
                have HS12 := Aside0.mk hb12
                clear hb12
                go_wp2_with fail
                refine (schemas.calls w12).mono ?_
                rintro e w13 ⟨rfl, hb13⟩
                have HB13 := Aside0.mk (below_step (HB12.out) hb13)
                have HS13 := Aside0.mk hb13
                clear hb13
                go_wp2
                go_ret
                exact ⟨rfl, HB13.out⟩
          case neg =>
            have nrd : (rd.1 != 0) = true := bne_iff_ne.2 zrd
            have HZRD := Aside0.mk zrd
            clear zrd
            by_cases zru : ru.1 = 0
            case pos =>
              have nru : (ru.1 != 0) = false := by rw [zru]; rfl
              have HZRU := Aside0.mk zru
              clear zru
              have c_xu0 : w10.cell? ⟨w7.heap.size, 0, none⟩ = some (Value.slice Eus ru.2.1.length Eusd) := (blk_cell HK129.out 0).trans rfl
              have f_xu0 := blk_frozen HK129.out 0
              have c_xu1 : w10.cell? ⟨w7.heap.size, 1, none⟩ = some (Value.slice Eut ru.2.2.length Eutd) := (blk_cell HK129.out 1).trans rfl
              have f_xu1 := blk_frozen HK129.out 1
              go_wp2_with fail
              clear c_xu0 f_xu0 c_xu1 f_xu1
              refine (Check.calls (As := Eus) (cs := Eusd) (At := Eut) (ct := Eutd) ru.2.1 ru.2.2 w10 (Kd.R_reads' HT133.out.1).2.2 (by have := HRUB.out.1; omega) (Kd.R_reads' HT133.out.2).2.2 HRUF.out).mono ?_
              rintro e w11 ⟨rfl, hb11⟩
              have HB11 := Aside0.mk (below_step (HB10.out) hb11)
              have HK135 := Aside0.mk (blk_below (HK129.out) hb11)
              have HK136 := Aside0.mk (blk_below (HK130.out) hb11)
              have HT137 := Aside0.mk ((HT133.out).below hb11)
              have HT138 := Aside0.mk ((HT134.out).below hb11)
              have HS11 := Aside0.mk hb11
              clear hb11
              rw [checkE_yes (HRUR.out HZRU.out)]
              by_cases zrv : rv.1 = 0
              case pos =>
                have nrv : (rv.1 != 0) = false := by rw [zrv]; rfl
                have HZRV := Aside0.mk zrv
                clear zrv
                have c_xv0 : w11.cell? ⟨w8.heap.size, 0, none⟩ = some (Value.slice Evs rv.2.1.length Evsd) := (blk_cell HK136.out 0).trans rfl
                have f_xv0 := blk_frozen HK136.out 0
                have c_xv1 : w11.cell? ⟨w8.heap.size, 1, none⟩ = some (Value.slice Evt rv.2.2.length Evtd) := (blk_cell HK136.out 1).trans rfl
                have f_xv1 := blk_frozen HK136.out 1
                go_wp2_with fail
                clear c_xv0 f_xv0 c_xv1 f_xv1
                refine (Check.calls (As := Evs) (cs := Evsd) (At := Evt) (ct := Evtd) rv.2.1 rv.2.2 w11 (Kd.R_reads' HT138.out.1).2.2 (by have := HRVB.out.1; omega) (Kd.R_reads' HT138.out.2).2.2 HRVF.out).mono ?_
                rintro e w12 ⟨rfl, hb12⟩
                have HB12 := Aside0.mk (below_step (HB11.out) hb12)
                have HK139 := Aside0.mk (blk_below (HK136.out) hb12)
                have HT140 := Aside0.mk ((HT138.out).below hb12)
                have HS12 := Aside0.mk hb12
                clear hb12
                rw [checkE_yes (HRVR.out HZRV.out)]
                go_wp2_with fail
                refine (checks.calls w12).mono ?_
                rintro e w13 ⟨rfl, hb13⟩
                have HB13 := Aside0.mk (below_step (HB12.out) hb13)
                have HS13 := Aside0.mk hb13
                clear hb13
                go_wp2_with fail
                refine (schemas.calls w13).mono ?_
                rintro e w14 ⟨rfl, hb14⟩
                have HB14 := Aside0.mk (below_step (HB13.out) hb14)
                have HS14 := Aside0.mk hb14
                clear hb14
                go_wp2
                go_ret
                exact ⟨rfl, HB14.out⟩
              case neg =>
                have nrv : (rv.1 != 0) = true := bne_iff_ne.2 zrv
                have HZRV := Aside0.mk zrv
                clear zrv
                go_wp2_with fail
                refine (checks.calls w11).mono ?_
                rintro e w12 ⟨rfl, hb12⟩
                have HB12 := Aside0.mk (below_step (HB11.out) hb12)
                have HS12 := Aside0.mk hb12
                clear hb12
                go_wp2_with fail
                refine (schemas.calls w12).mono ?_
                rintro e w13 ⟨rfl, hb13⟩
                have HB13 := Aside0.mk (below_step (HB12.out) hb13)
                have HS13 := Aside0.mk hb13
                clear hb13
                go_wp2
                go_ret
                exact ⟨rfl, HB13.out⟩
            case neg =>
              have nru : (ru.1 != 0) = true := bne_iff_ne.2 zru
              have HZRU := Aside0.mk zru
              clear zru
              by_cases zrv : rv.1 = 0
              case pos =>
                have nrv : (rv.1 != 0) = false := by rw [zrv]; rfl
                have HZRV := Aside0.mk zrv
                clear zrv
                have c_xv0 : w10.cell? ⟨w8.heap.size, 0, none⟩ = some (Value.slice Evs rv.2.1.length Evsd) := (blk_cell HK130.out 0).trans rfl
                have f_xv0 := blk_frozen HK130.out 0
                have c_xv1 : w10.cell? ⟨w8.heap.size, 1, none⟩ = some (Value.slice Evt rv.2.2.length Evtd) := (blk_cell HK130.out 1).trans rfl
                have f_xv1 := blk_frozen HK130.out 1
                go_wp2_with fail
                clear c_xv0 f_xv0 c_xv1 f_xv1
                refine (Check.calls (As := Evs) (cs := Evsd) (At := Evt) (ct := Evtd) rv.2.1 rv.2.2 w10 (Kd.R_reads' HT134.out.1).2.2 (by have := HRVB.out.1; omega) (Kd.R_reads' HT134.out.2).2.2 HRVF.out).mono ?_
                rintro e w11 ⟨rfl, hb11⟩
                have HB11 := Aside0.mk (below_step (HB10.out) hb11)
                have HK135 := Aside0.mk (blk_below (HK130.out) hb11)
                have HT136 := Aside0.mk ((HT134.out).below hb11)
                have HS11 := Aside0.mk hb11
                clear hb11
                rw [checkE_yes (HRVR.out HZRV.out)]
                go_wp2_with fail
                refine (checks.calls w11).mono ?_
                rintro e w12 ⟨rfl, hb12⟩
                have HB12 := Aside0.mk (below_step (HB11.out) hb12)
                have HS12 := Aside0.mk hb12
                clear hb12
                go_wp2_with fail
                refine (schemas.calls w12).mono ?_
                rintro e w13 ⟨rfl, hb13⟩
                have HB13 := Aside0.mk (below_step (HB12.out) hb13)
                have HS13 := Aside0.mk hb13
                clear hb13
                go_wp2
                go_ret
                exact ⟨rfl, HB13.out⟩
              case neg =>
                have nrv : (rv.1 != 0) = true := bne_iff_ne.2 zrv
                have HZRV := Aside0.mk zrv
                clear zrv
                go_wp2_with fail
                refine (checks.calls w10).mono ?_
                rintro e w11 ⟨rfl, hb11⟩
                have HB11 := Aside0.mk (below_step (HB10.out) hb11)
                have HS11 := Aside0.mk hb11
                clear hb11
                go_wp2_with fail
                refine (schemas.calls w11).mono ?_
                rintro e w12 ⟨rfl, hb12⟩
                have HB12 := Aside0.mk (below_step (HB11.out) hb12)
                have HS12 := Aside0.mk hb12
                clear hb12
                go_wp2
                go_ret
                exact ⟨rfl, HB12.out⟩
        case neg =>
          have nrc : (rc.1 != 0) = true := bne_iff_ne.2 zrc
          have HZRC := Aside0.mk zrc
          clear zrc
          by_cases zrd : rd.1 = 0
          case pos =>
            have nrd : (rd.1 != 0) = false := by rw [zrd]; rfl
            have HZRD := Aside0.mk zrd
            clear zrd
            have c_xd0 : w9.cell? ⟨w6.heap.size, 0, none⟩ = some (Value.slice Eds rd.2.1.length Edsd) := (blk_cell HK119.out 0).trans rfl
            have f_xd0 := blk_frozen HK119.out 0
            have c_xd1 : w9.cell? ⟨w6.heap.size, 1, none⟩ = some (Value.slice Edt rd.2.2.length Edtd) := (blk_cell HK119.out 1).trans rfl
            have f_xd1 := blk_frozen HK119.out 1
            go_wp2_with fail
            clear c_xd0 f_xd0 c_xd1 f_xd1
            refine (Check.calls (As := Eds) (cs := Edsd) (At := Edt) (ct := Edtd) rd.2.1 rd.2.2 w9 (Kd.R_reads' HT124.out.1).2.2 (by have := HRDB.out.1; omega) (Kd.R_reads' HT124.out.2).2.2 HRDF.out).mono ?_
            rintro e w10 ⟨rfl, hb10⟩
            have HB10 := Aside0.mk (below_step (HB9.out) hb10)
            have HK127 := Aside0.mk (blk_below (HK119.out) hb10)
            have HK128 := Aside0.mk (blk_below (HK120.out) hb10)
            have HK129 := Aside0.mk (blk_below (HK121.out) hb10)
            have HT130 := Aside0.mk ((HT124.out).below hb10)
            have HT131 := Aside0.mk ((HT125.out).below hb10)
            have HT132 := Aside0.mk ((HT126.out).below hb10)
            have HS10 := Aside0.mk hb10
            clear hb10
            rw [checkE_yes (HRDR.out HZRD.out)]
            by_cases zru : ru.1 = 0
            case pos =>
              have nru : (ru.1 != 0) = false := by rw [zru]; rfl
              have HZRU := Aside0.mk zru
              clear zru
              have c_xu0 : w10.cell? ⟨w7.heap.size, 0, none⟩ = some (Value.slice Eus ru.2.1.length Eusd) := (blk_cell HK128.out 0).trans rfl
              have f_xu0 := blk_frozen HK128.out 0
              have c_xu1 : w10.cell? ⟨w7.heap.size, 1, none⟩ = some (Value.slice Eut ru.2.2.length Eutd) := (blk_cell HK128.out 1).trans rfl
              have f_xu1 := blk_frozen HK128.out 1
              go_wp2_with fail
              clear c_xu0 f_xu0 c_xu1 f_xu1
              refine (Check.calls (As := Eus) (cs := Eusd) (At := Eut) (ct := Eutd) ru.2.1 ru.2.2 w10 (Kd.R_reads' HT131.out.1).2.2 (by have := HRUB.out.1; omega) (Kd.R_reads' HT131.out.2).2.2 HRUF.out).mono ?_
              rintro e w11 ⟨rfl, hb11⟩
              have HB11 := Aside0.mk (below_step (HB10.out) hb11)
              have HK133 := Aside0.mk (blk_below (HK128.out) hb11)
              have HK134 := Aside0.mk (blk_below (HK129.out) hb11)
              have HT135 := Aside0.mk ((HT131.out).below hb11)
              have HT136 := Aside0.mk ((HT132.out).below hb11)
              have HS11 := Aside0.mk hb11
              clear hb11
              rw [checkE_yes (HRUR.out HZRU.out)]
              by_cases zrv : rv.1 = 0
              case pos =>
                have nrv : (rv.1 != 0) = false := by rw [zrv]; rfl
                have HZRV := Aside0.mk zrv
                clear zrv
                have c_xv0 : w11.cell? ⟨w8.heap.size, 0, none⟩ = some (Value.slice Evs rv.2.1.length Evsd) := (blk_cell HK134.out 0).trans rfl
                have f_xv0 := blk_frozen HK134.out 0
                have c_xv1 : w11.cell? ⟨w8.heap.size, 1, none⟩ = some (Value.slice Evt rv.2.2.length Evtd) := (blk_cell HK134.out 1).trans rfl
                have f_xv1 := blk_frozen HK134.out 1
                go_wp2_with fail
                clear c_xv0 f_xv0 c_xv1 f_xv1
                refine (Check.calls (As := Evs) (cs := Evsd) (At := Evt) (ct := Evtd) rv.2.1 rv.2.2 w11 (Kd.R_reads' HT136.out.1).2.2 (by have := HRVB.out.1; omega) (Kd.R_reads' HT136.out.2).2.2 HRVF.out).mono ?_
                rintro e w12 ⟨rfl, hb12⟩
                have HB12 := Aside0.mk (below_step (HB11.out) hb12)
                have HK137 := Aside0.mk (blk_below (HK134.out) hb12)
                have HT138 := Aside0.mk ((HT136.out).below hb12)
                have HS12 := Aside0.mk hb12
                clear hb12
                rw [checkE_yes (HRVR.out HZRV.out)]
                go_wp2_with fail
                refine (checks.calls w12).mono ?_
                rintro e w13 ⟨rfl, hb13⟩
                have HB13 := Aside0.mk (below_step (HB12.out) hb13)
                have HS13 := Aside0.mk hb13
                clear hb13
                go_wp2_with fail
                refine (schemas.calls w13).mono ?_
                rintro e w14 ⟨rfl, hb14⟩
                have HB14 := Aside0.mk (below_step (HB13.out) hb14)
                have HS14 := Aside0.mk hb14
                clear hb14
                go_wp2
                go_ret
                exact ⟨rfl, HB14.out⟩
              case neg =>
                have nrv : (rv.1 != 0) = true := bne_iff_ne.2 zrv
                have HZRV := Aside0.mk zrv
                clear zrv
                go_wp2_with fail
                refine (checks.calls w11).mono ?_
                rintro e w12 ⟨rfl, hb12⟩
                have HB12 := Aside0.mk (below_step (HB11.out) hb12)
                have HS12 := Aside0.mk hb12
                clear hb12
                go_wp2_with fail
                refine (schemas.calls w12).mono ?_
                rintro e w13 ⟨rfl, hb13⟩
                have HB13 := Aside0.mk (below_step (HB12.out) hb13)
                have HS13 := Aside0.mk hb13
                clear hb13
                go_wp2
                go_ret
                exact ⟨rfl, HB13.out⟩
            case neg =>
              have nru : (ru.1 != 0) = true := bne_iff_ne.2 zru
              have HZRU := Aside0.mk zru
              clear zru
              by_cases zrv : rv.1 = 0
              case pos =>
                have nrv : (rv.1 != 0) = false := by rw [zrv]; rfl
                have HZRV := Aside0.mk zrv
                clear zrv
                have c_xv0 : w10.cell? ⟨w8.heap.size, 0, none⟩ = some (Value.slice Evs rv.2.1.length Evsd) := (blk_cell HK129.out 0).trans rfl
                have f_xv0 := blk_frozen HK129.out 0
                have c_xv1 : w10.cell? ⟨w8.heap.size, 1, none⟩ = some (Value.slice Evt rv.2.2.length Evtd) := (blk_cell HK129.out 1).trans rfl
                have f_xv1 := blk_frozen HK129.out 1
                go_wp2_with fail
                clear c_xv0 f_xv0 c_xv1 f_xv1
                refine (Check.calls (As := Evs) (cs := Evsd) (At := Evt) (ct := Evtd) rv.2.1 rv.2.2 w10 (Kd.R_reads' HT132.out.1).2.2 (by have := HRVB.out.1; omega) (Kd.R_reads' HT132.out.2).2.2 HRVF.out).mono ?_
                rintro e w11 ⟨rfl, hb11⟩
                have HB11 := Aside0.mk (below_step (HB10.out) hb11)
                have HK133 := Aside0.mk (blk_below (HK129.out) hb11)
                have HT134 := Aside0.mk ((HT132.out).below hb11)
                have HS11 := Aside0.mk hb11
                clear hb11
                rw [checkE_yes (HRVR.out HZRV.out)]
                go_wp2_with fail
                refine (checks.calls w11).mono ?_
                rintro e w12 ⟨rfl, hb12⟩
                have HB12 := Aside0.mk (below_step (HB11.out) hb12)
                have HS12 := Aside0.mk hb12
                clear hb12
                go_wp2_with fail
                refine (schemas.calls w12).mono ?_
                rintro e w13 ⟨rfl, hb13⟩
                have HB13 := Aside0.mk (below_step (HB12.out) hb13)
                have HS13 := Aside0.mk hb13
                clear hb13
                go_wp2
                go_ret
                exact ⟨rfl, HB13.out⟩
              case neg =>
                have nrv : (rv.1 != 0) = true := bne_iff_ne.2 zrv
                have HZRV := Aside0.mk zrv
                clear zrv
                go_wp2_with fail
                refine (checks.calls w10).mono ?_
                rintro e w11 ⟨rfl, hb11⟩
                have HB11 := Aside0.mk (below_step (HB10.out) hb11)
                have HS11 := Aside0.mk hb11
                clear hb11
                go_wp2_with fail
                refine (schemas.calls w11).mono ?_
                rintro e w12 ⟨rfl, hb12⟩
                have HB12 := Aside0.mk (below_step (HB11.out) hb12)
                have HS12 := Aside0.mk hb12
                clear hb12
                go_wp2
                go_ret
                exact ⟨rfl, HB12.out⟩
          case neg =>
            have nrd : (rd.1 != 0) = true := bne_iff_ne.2 zrd
            have HZRD := Aside0.mk zrd
            clear zrd
            by_cases zru : ru.1 = 0
            case pos =>
              have nru : (ru.1 != 0) = false := by rw [zru]; rfl
              have HZRU := Aside0.mk zru
              clear zru
              have c_xu0 : w9.cell? ⟨w7.heap.size, 0, none⟩ = some (Value.slice Eus ru.2.1.length Eusd) := (blk_cell HK120.out 0).trans rfl
              have f_xu0 := blk_frozen HK120.out 0
              have c_xu1 : w9.cell? ⟨w7.heap.size, 1, none⟩ = some (Value.slice Eut ru.2.2.length Eutd) := (blk_cell HK120.out 1).trans rfl
              have f_xu1 := blk_frozen HK120.out 1
              go_wp2_with fail
              clear c_xu0 f_xu0 c_xu1 f_xu1
              refine (Check.calls (As := Eus) (cs := Eusd) (At := Eut) (ct := Eutd) ru.2.1 ru.2.2 w9 (Kd.R_reads' HT125.out.1).2.2 (by have := HRUB.out.1; omega) (Kd.R_reads' HT125.out.2).2.2 HRUF.out).mono ?_
              rintro e w10 ⟨rfl, hb10⟩
              have HB10 := Aside0.mk (below_step (HB9.out) hb10)
              have HK127 := Aside0.mk (blk_below (HK120.out) hb10)
              have HK128 := Aside0.mk (blk_below (HK121.out) hb10)
              have HT129 := Aside0.mk ((HT125.out).below hb10)
              have HT130 := Aside0.mk ((HT126.out).below hb10)
              have HS10 := Aside0.mk hb10
              clear hb10
              rw [checkE_yes (HRUR.out HZRU.out)]
              by_cases zrv : rv.1 = 0
              case pos =>
                have nrv : (rv.1 != 0) = false := by rw [zrv]; rfl
                have HZRV := Aside0.mk zrv
                clear zrv
                have c_xv0 : w10.cell? ⟨w8.heap.size, 0, none⟩ = some (Value.slice Evs rv.2.1.length Evsd) := (blk_cell HK128.out 0).trans rfl
                have f_xv0 := blk_frozen HK128.out 0
                have c_xv1 : w10.cell? ⟨w8.heap.size, 1, none⟩ = some (Value.slice Evt rv.2.2.length Evtd) := (blk_cell HK128.out 1).trans rfl
                have f_xv1 := blk_frozen HK128.out 1
                go_wp2_with fail
                clear c_xv0 f_xv0 c_xv1 f_xv1
                refine (Check.calls (As := Evs) (cs := Evsd) (At := Evt) (ct := Evtd) rv.2.1 rv.2.2 w10 (Kd.R_reads' HT130.out.1).2.2 (by have := HRVB.out.1; omega) (Kd.R_reads' HT130.out.2).2.2 HRVF.out).mono ?_
                rintro e w11 ⟨rfl, hb11⟩
                have HB11 := Aside0.mk (below_step (HB10.out) hb11)
                have HK131 := Aside0.mk (blk_below (HK128.out) hb11)
                have HT132 := Aside0.mk ((HT130.out).below hb11)
                have HS11 := Aside0.mk hb11
                clear hb11
                rw [checkE_yes (HRVR.out HZRV.out)]
                go_wp2_with fail
                refine (checks.calls w11).mono ?_
                rintro e w12 ⟨rfl, hb12⟩
                have HB12 := Aside0.mk (below_step (HB11.out) hb12)
                have HS12 := Aside0.mk hb12
                clear hb12
                go_wp2_with fail
                refine (schemas.calls w12).mono ?_
                rintro e w13 ⟨rfl, hb13⟩
                have HB13 := Aside0.mk (below_step (HB12.out) hb13)
                have HS13 := Aside0.mk hb13
                clear hb13
                go_wp2
                go_ret
                exact ⟨rfl, HB13.out⟩
              case neg =>
                have nrv : (rv.1 != 0) = true := bne_iff_ne.2 zrv
                have HZRV := Aside0.mk zrv
                clear zrv
                go_wp2_with fail
                refine (checks.calls w10).mono ?_
                rintro e w11 ⟨rfl, hb11⟩
                have HB11 := Aside0.mk (below_step (HB10.out) hb11)
                have HS11 := Aside0.mk hb11
                clear hb11
                go_wp2_with fail
                refine (schemas.calls w11).mono ?_
                rintro e w12 ⟨rfl, hb12⟩
                have HB12 := Aside0.mk (below_step (HB11.out) hb12)
                have HS12 := Aside0.mk hb12
                clear hb12
                go_wp2
                go_ret
                exact ⟨rfl, HB12.out⟩
            case neg =>
              have nru : (ru.1 != 0) = true := bne_iff_ne.2 zru
              have HZRU := Aside0.mk zru
              clear zru
              by_cases zrv : rv.1 = 0
              case pos =>
                have nrv : (rv.1 != 0) = false := by rw [zrv]; rfl
                have HZRV := Aside0.mk zrv
                clear zrv
                have c_xv0 : w9.cell? ⟨w8.heap.size, 0, none⟩ = some (Value.slice Evs rv.2.1.length Evsd) := (blk_cell HK121.out 0).trans rfl
                have f_xv0 := blk_frozen HK121.out 0
                have c_xv1 : w9.cell? ⟨w8.heap.size, 1, none⟩ = some (Value.slice Evt rv.2.2.length Evtd) := (blk_cell HK121.out 1).trans rfl
                have f_xv1 := blk_frozen HK121.out 1
                go_wp2_with fail
                clear c_xv0 f_xv0 c_xv1 f_xv1
                refine (Check.calls (As := Evs) (cs := Evsd) (At := Evt) (ct := Evtd) rv.2.1 rv.2.2 w9 (Kd.R_reads' HT126.out.1).2.2 (by have := HRVB.out.1; omega) (Kd.R_reads' HT126.out.2).2.2 HRVF.out).mono ?_
                rintro e w10 ⟨rfl, hb10⟩
                have HB10 := Aside0.mk (below_step (HB9.out) hb10)
                have HK127 := Aside0.mk (blk_below (HK121.out) hb10)
                have HT128 := Aside0.mk ((HT126.out).below hb10)
                have HS10 := Aside0.mk hb10
                clear hb10
                rw [checkE_yes (HRVR.out HZRV.out)]
                go_wp2_with fail
                refine (checks.calls w10).mono ?_
                rintro e w11 ⟨rfl, hb11⟩
                have HB11 := Aside0.mk (below_step (HB10.out) hb11)
                have HS11 := Aside0.mk hb11
                clear hb11
                go_wp2_with fail
                refine (schemas.calls w11).mono ?_
                rintro e w12 ⟨rfl, hb12⟩
                have HB12 := Aside0.mk (below_step (HB11.out) hb12)
                have HS12 := Aside0.mk hb12
                clear hb12
                go_wp2
                go_ret
                exact ⟨rfl, HB12.out⟩
              case neg =>
                have nrv : (rv.1 != 0) = true := bne_iff_ne.2 zrv
                have HZRV := Aside0.mk zrv
                clear zrv
                go_wp2_with fail
                refine (checks.calls w9).mono ?_
                rintro e w10 ⟨rfl, hb10⟩
                have HB10 := Aside0.mk (below_step (HB9.out) hb10)
                have HS10 := Aside0.mk hb10
                clear hb10
                go_wp2_with fail
                refine (schemas.calls w10).mono ?_
                rintro e w11 ⟨rfl, hb11⟩
                have HB11 := Aside0.mk (below_step (HB10.out) hb11)
                have HS11 := Aside0.mk hb11
                clear hb11
                go_wp2
                go_ret
                exact ⟨rfl, HB11.out⟩
      case neg =>
        have nrb : (rb.1 != 0) = true := bne_iff_ne.2 zrb
        have HZRB := Aside0.mk zrb
        clear zrb
        by_cases zrc : rc.1 = 0
        case pos =>
          have nrc : (rc.1 != 0) = false := by rw [zrc]; rfl
          have HZRC := Aside0.mk zrc
          clear zrc
          have c_xc0 : w8.cell? ⟨w5.heap.size, 0, none⟩ = some (Value.slice Ecs rc.2.1.length Ecsd) := (blk_cell HK99.out 0).trans rfl
          have f_xc0 := blk_frozen HK99.out 0
          have a_xc0 : ∀ o, (w8.alloc o).cell? ⟨w5.heap.size, 0, none⟩ = some (Value.slice Ecs rc.2.1.length Ecsd) := fun o => (blk_cell (blk_alloc HK99.out o) 0).trans rfl
          have c_xc1 : w8.cell? ⟨w5.heap.size, 1, none⟩ = some (Value.slice Ect rc.2.2.length Ectd) := (blk_cell HK99.out 1).trans rfl
          have f_xc1 := blk_frozen HK99.out 1
          have a_xc1 : ∀ o, (w8.alloc o).cell? ⟨w5.heap.size, 1, none⟩ = some (Value.slice Ect rc.2.2.length Ectd) := fun o => (blk_cell (blk_alloc HK99.out o) 1).trans rfl
          go_wp2_with fail
          clear c_xc0 f_xc0 a_xc0 c_xc1 f_xc1 a_xc1
          obtain ⟨v6, he6⟩ : ∃ W, W = (w8.alloc (.cells #[Value.slice Evs rv.2.1.length Evsd, Value.slice Evt rv.2.2.length Evtd] 25)) := ⟨_, rfl⟩
          have hb_ : Below w8.heap.size w8 v6 := by rw [he6]; exact below_alloc (Below.refl _ _) _
          have HZ6 := Aside0.mk (show v6.heap.size = w8.heap.size + 1 by rw [he6]; simp)
          have HN6 := Aside0.mk (show v6.heap[w8.heap.size]? = some (.cells #[Value.slice Evs rv.2.1.length Evsd, Value.slice Evt rv.2.2.length Evtd] 25 (0, 0)) by rw [he6]; exact blk_new _ _)
          have HV6 := Aside0.mk (below_step (HB8.out) hb_)
          have HK108 := Aside0.mk (blk_below (HK99.out) hb_)
          have HK109 := Aside0.mk (blk_below (HK100.out) hb_)
          have HK110 := Aside0.mk (blk_below (HK101.out) hb_)
          have HT111 := Aside0.mk ((HT105.out).below hb_)
          have HT112 := Aside0.mk ((HT106.out).below hb_)
          have HT113 := Aside0.mk ((HT107.out).below hb_)
          have HT114 := Aside0.mk ((HM8.out).below hb_)
          rw [← he6]
          clear he6
          refine (Check.calls (As := Ecs) (cs := Ecsd) (At := Ect) (ct := Ectd) rc.2.1 rc.2.2 v6 (Kd.R_reads' HT111.out.1).2.2 (by have := HRCB.out.1; omega) (Kd.R_reads' HT111.out.2).2.2 HRCF.out).mono ?_
          rintro e w9 ⟨rfl, hb9⟩
          have HB9 := Aside0.mk (below_step (HV6.out) hb9)
          have HK115 := Aside0.mk (blk_below (HK108.out) hb9)
          have HK116 := Aside0.mk (blk_below (HK109.out) hb9)
          have HK117 := Aside0.mk (blk_below (HK110.out) hb9)
          have HK118 := Aside0.mk (blk_below (HN6.out) hb9)
          have HT119 := Aside0.mk ((HT111.out).below hb9)
          have HT120 := Aside0.mk ((HT112.out).below hb9)
          have HT121 := Aside0.mk ((HT113.out).below hb9)
          have HT122 := Aside0.mk ((HT114.out).below hb9)
          have HS9 := Aside0.mk hb9
          clear hb9
          rw [checkE_yes (HRCR.out HZRC.out)]
          by_cases zrd : rd.1 = 0
          case pos =>
            have nrd : (rd.1 != 0) = false := by rw [zrd]; rfl
            have HZRD := Aside0.mk zrd
            clear zrd
            have c_xd0 : w9.cell? ⟨w6.heap.size, 0, none⟩ = some (Value.slice Eds rd.2.1.length Edsd) := (blk_cell HK116.out 0).trans rfl
            have f_xd0 := blk_frozen HK116.out 0
            have c_xd1 : w9.cell? ⟨w6.heap.size, 1, none⟩ = some (Value.slice Edt rd.2.2.length Edtd) := (blk_cell HK116.out 1).trans rfl
            have f_xd1 := blk_frozen HK116.out 1
            go_wp2_with fail
            clear c_xd0 f_xd0 c_xd1 f_xd1
            refine (Check.calls (As := Eds) (cs := Edsd) (At := Edt) (ct := Edtd) rd.2.1 rd.2.2 w9 (Kd.R_reads' HT120.out.1).2.2 (by have := HRDB.out.1; omega) (Kd.R_reads' HT120.out.2).2.2 HRDF.out).mono ?_
            rintro e w10 ⟨rfl, hb10⟩
            have HB10 := Aside0.mk (below_step (HB9.out) hb10)
            have HK123 := Aside0.mk (blk_below (HK116.out) hb10)
            have HK124 := Aside0.mk (blk_below (HK117.out) hb10)
            have HK125 := Aside0.mk (blk_below (HK118.out) hb10)
            have HT126 := Aside0.mk ((HT120.out).below hb10)
            have HT127 := Aside0.mk ((HT121.out).below hb10)
            have HT128 := Aside0.mk ((HT122.out).below hb10)
            have HS10 := Aside0.mk hb10
            clear hb10
            rw [checkE_yes (HRDR.out HZRD.out)]
            by_cases zru : ru.1 = 0
            case pos =>
              have nru : (ru.1 != 0) = false := by rw [zru]; rfl
              have HZRU := Aside0.mk zru
              clear zru
              have c_xu0 : w10.cell? ⟨w7.heap.size, 0, none⟩ = some (Value.slice Eus ru.2.1.length Eusd) := (blk_cell HK124.out 0).trans rfl
              have f_xu0 := blk_frozen HK124.out 0
              have c_xu1 : w10.cell? ⟨w7.heap.size, 1, none⟩ = some (Value.slice Eut ru.2.2.length Eutd) := (blk_cell HK124.out 1).trans rfl
              have f_xu1 := blk_frozen HK124.out 1
              go_wp2_with fail
              clear c_xu0 f_xu0 c_xu1 f_xu1
              refine (Check.calls (As := Eus) (cs := Eusd) (At := Eut) (ct := Eutd) ru.2.1 ru.2.2 w10 (Kd.R_reads' HT127.out.1).2.2 (by have := HRUB.out.1; omega) (Kd.R_reads' HT127.out.2).2.2 HRUF.out).mono ?_
              rintro e w11 ⟨rfl, hb11⟩
              have HB11 := Aside0.mk (below_step (HB10.out) hb11)
              have HK129 := Aside0.mk (blk_below (HK124.out) hb11)
              have HK130 := Aside0.mk (blk_below (HK125.out) hb11)
              have HT131 := Aside0.mk ((HT127.out).below hb11)
              have HT132 := Aside0.mk ((HT128.out).below hb11)
              have HS11 := Aside0.mk hb11
              clear hb11
              rw [checkE_yes (HRUR.out HZRU.out)]
              by_cases zrv : rv.1 = 0
              case pos =>
                have nrv : (rv.1 != 0) = false := by rw [zrv]; rfl
                have HZRV := Aside0.mk zrv
                clear zrv
                have c_xv0 : w11.cell? ⟨w8.heap.size, 0, none⟩ = some (Value.slice Evs rv.2.1.length Evsd) := (blk_cell HK130.out 0).trans rfl
                have f_xv0 := blk_frozen HK130.out 0
                have c_xv1 : w11.cell? ⟨w8.heap.size, 1, none⟩ = some (Value.slice Evt rv.2.2.length Evtd) := (blk_cell HK130.out 1).trans rfl
                have f_xv1 := blk_frozen HK130.out 1
                go_wp2_with fail
                clear c_xv0 f_xv0 c_xv1 f_xv1
                refine (Check.calls (As := Evs) (cs := Evsd) (At := Evt) (ct := Evtd) rv.2.1 rv.2.2 w11 (Kd.R_reads' HT132.out.1).2.2 (by have := HRVB.out.1; omega) (Kd.R_reads' HT132.out.2).2.2 HRVF.out).mono ?_
                rintro e w12 ⟨rfl, hb12⟩
                have HB12 := Aside0.mk (below_step (HB11.out) hb12)
                have HK133 := Aside0.mk (blk_below (HK130.out) hb12)
                have HT134 := Aside0.mk ((HT132.out).below hb12)
                have HS12 := Aside0.mk hb12
                clear hb12
                rw [checkE_yes (HRVR.out HZRV.out)]
                go_wp2_with fail
                refine (checks.calls w12).mono ?_
                rintro e w13 ⟨rfl, hb13⟩
                have HB13 := Aside0.mk (below_step (HB12.out) hb13)
                have HS13 := Aside0.mk hb13
                clear hb13
                go_wp2_with fail
                refine (schemas.calls w13).mono ?_
                rintro e w14 ⟨rfl, hb14⟩
                have HB14 := Aside0.mk (below_step (HB13.out) hb14)
                have HS14 := Aside0.mk hb14
                clear hb14
                go_wp2
                go_ret
                exact ⟨rfl, HB14.out⟩
              case neg =>
                have nrv : (rv.1 != 0) = true := bne_iff_ne.2 zrv
                have HZRV := Aside0.mk zrv
                clear zrv
                go_wp2_with fail
                refine (checks.calls w11).mono ?_
                rintro e w12 ⟨rfl, hb12⟩
                have HB12 := Aside0.mk (below_step (HB11.out) hb12)
                have HS12 := Aside0.mk hb12
                clear hb12
                go_wp2_with fail
                refine (schemas.calls w12).mono ?_
                rintro e w13 ⟨rfl, hb13⟩
                have HB13 := Aside0.mk (below_step (HB12.out) hb13)
                have HS13 := Aside0.mk hb13
                clear hb13
                go_wp2
                go_ret
                exact ⟨rfl, HB13.out⟩
            case neg =>
              have nru : (ru.1 != 0) = true := bne_iff_ne.2 zru
              have HZRU := Aside0.mk zru
              clear zru
              by_cases zrv : rv.1 = 0
              case pos =>
                have nrv : (rv.1 != 0) = false := by rw [zrv]; rfl
                have HZRV := Aside0.mk zrv
                clear zrv
                have c_xv0 : w10.cell? ⟨w8.heap.size, 0, none⟩ = some (Value.slice Evs rv.2.1.length Evsd) := (blk_cell HK125.out 0).trans rfl
                have f_xv0 := blk_frozen HK125.out 0
                have c_xv1 : w10.cell? ⟨w8.heap.size, 1, none⟩ = some (Value.slice Evt rv.2.2.length Evtd) := (blk_cell HK125.out 1).trans rfl
                have f_xv1 := blk_frozen HK125.out 1
                go_wp2_with fail
                clear c_xv0 f_xv0 c_xv1 f_xv1
                refine (Check.calls (As := Evs) (cs := Evsd) (At := Evt) (ct := Evtd) rv.2.1 rv.2.2 w10 (Kd.R_reads' HT128.out.1).2.2 (by have := HRVB.out.1; omega) (Kd.R_reads' HT128.out.2).2.2 HRVF.out).mono ?_
                rintro e w11 ⟨rfl, hb11⟩
                have HB11 := Aside0.mk (below_step (HB10.out) hb11)
                have HK129 := Aside0.mk (blk_below (HK125.out) hb11)
                have HT130 := Aside0.mk ((HT128.out).below hb11)
                have HS11 := Aside0.mk hb11
                clear hb11
                rw [checkE_yes (HRVR.out HZRV.out)]
                go_wp2_with fail
                refine (checks.calls w11).mono ?_
                rintro e w12 ⟨rfl, hb12⟩
                have HB12 := Aside0.mk (below_step (HB11.out) hb12)
                have HS12 := Aside0.mk hb12
                clear hb12
                go_wp2_with fail
                refine (schemas.calls w12).mono ?_
                rintro e w13 ⟨rfl, hb13⟩
                have HB13 := Aside0.mk (below_step (HB12.out) hb13)
                have HS13 := Aside0.mk hb13
                clear hb13
                go_wp2
                go_ret
                exact ⟨rfl, HB13.out⟩
              case neg =>
                have nrv : (rv.1 != 0) = true := bne_iff_ne.2 zrv
                have HZRV := Aside0.mk zrv
                clear zrv
                go_wp2_with fail
                refine (checks.calls w10).mono ?_
                rintro e w11 ⟨rfl, hb11⟩
                have HB11 := Aside0.mk (below_step (HB10.out) hb11)
                have HS11 := Aside0.mk hb11
                clear hb11
                go_wp2_with fail
                refine (schemas.calls w11).mono ?_
                rintro e w12 ⟨rfl, hb12⟩
                have HB12 := Aside0.mk (below_step (HB11.out) hb12)
                have HS12 := Aside0.mk hb12
                clear hb12
                go_wp2
                go_ret
                exact ⟨rfl, HB12.out⟩
          case neg =>
            have nrd : (rd.1 != 0) = true := bne_iff_ne.2 zrd
            have HZRD := Aside0.mk zrd
            clear zrd
            by_cases zru : ru.1 = 0
            case pos =>
              have nru : (ru.1 != 0) = false := by rw [zru]; rfl
              have HZRU := Aside0.mk zru
              clear zru
              have c_xu0 : w9.cell? ⟨w7.heap.size, 0, none⟩ = some (Value.slice Eus ru.2.1.length Eusd) := (blk_cell HK117.out 0).trans rfl
              have f_xu0 := blk_frozen HK117.out 0
              have c_xu1 : w9.cell? ⟨w7.heap.size, 1, none⟩ = some (Value.slice Eut ru.2.2.length Eutd) := (blk_cell HK117.out 1).trans rfl
              have f_xu1 := blk_frozen HK117.out 1
              go_wp2_with fail
              clear c_xu0 f_xu0 c_xu1 f_xu1
              refine (Check.calls (As := Eus) (cs := Eusd) (At := Eut) (ct := Eutd) ru.2.1 ru.2.2 w9 (Kd.R_reads' HT121.out.1).2.2 (by have := HRUB.out.1; omega) (Kd.R_reads' HT121.out.2).2.2 HRUF.out).mono ?_
              rintro e w10 ⟨rfl, hb10⟩
              have HB10 := Aside0.mk (below_step (HB9.out) hb10)
              have HK123 := Aside0.mk (blk_below (HK117.out) hb10)
              have HK124 := Aside0.mk (blk_below (HK118.out) hb10)
              have HT125 := Aside0.mk ((HT121.out).below hb10)
              have HT126 := Aside0.mk ((HT122.out).below hb10)
              have HS10 := Aside0.mk hb10
              clear hb10
              rw [checkE_yes (HRUR.out HZRU.out)]
              by_cases zrv : rv.1 = 0
              case pos =>
                have nrv : (rv.1 != 0) = false := by rw [zrv]; rfl
                have HZRV := Aside0.mk zrv
                clear zrv
                have c_xv0 : w10.cell? ⟨w8.heap.size, 0, none⟩ = some (Value.slice Evs rv.2.1.length Evsd) := (blk_cell HK124.out 0).trans rfl
                have f_xv0 := blk_frozen HK124.out 0
                have c_xv1 : w10.cell? ⟨w8.heap.size, 1, none⟩ = some (Value.slice Evt rv.2.2.length Evtd) := (blk_cell HK124.out 1).trans rfl
                have f_xv1 := blk_frozen HK124.out 1
                go_wp2_with fail
                clear c_xv0 f_xv0 c_xv1 f_xv1
                refine (Check.calls (As := Evs) (cs := Evsd) (At := Evt) (ct := Evtd) rv.2.1 rv.2.2 w10 (Kd.R_reads' HT126.out.1).2.2 (by have := HRVB.out.1; omega) (Kd.R_reads' HT126.out.2).2.2 HRVF.out).mono ?_
                rintro e w11 ⟨rfl, hb11⟩
                have HB11 := Aside0.mk (below_step (HB10.out) hb11)
                have HK127 := Aside0.mk (blk_below (HK124.out) hb11)
                have HT128 := Aside0.mk ((HT126.out).below hb11)
                have HS11 := Aside0.mk hb11
                clear hb11
                rw [checkE_yes (HRVR.out HZRV.out)]
                go_wp2_with fail
                refine (checks.calls w11).mono ?_
                rintro e w12 ⟨rfl, hb12⟩
                have HB12 := Aside0.mk (below_step (HB11.out) hb12)
                have HS12 := Aside0.mk hb12
                clear hb12
                go_wp2_with fail
                refine (schemas.calls w12).mono ?_
                rintro e w13 ⟨rfl, hb13⟩
                have HB13 := Aside0.mk (below_step (HB12.out) hb13)
                have HS13 := Aside0.mk hb13
                clear hb13
                go_wp2
                go_ret
                exact ⟨rfl, HB13.out⟩
              case neg =>
                have nrv : (rv.1 != 0) = true := bne_iff_ne.2 zrv
                have HZRV := Aside0.mk zrv
                clear zrv
                go_wp2_with fail
                refine (checks.calls w10).mono ?_
                rintro e w11 ⟨rfl, hb11⟩
                have HB11 := Aside0.mk (below_step (HB10.out) hb11)
                have HS11 := Aside0.mk hb11
                clear hb11
                go_wp2_with fail
                refine (schemas.calls w11).mono ?_
                rintro e w12 ⟨rfl, hb12⟩
                have HB12 := Aside0.mk (below_step (HB11.out) hb12)
                have HS12 := Aside0.mk hb12
                clear hb12
                go_wp2
                go_ret
                exact ⟨rfl, HB12.out⟩
            case neg =>
              have nru : (ru.1 != 0) = true := bne_iff_ne.2 zru
              have HZRU := Aside0.mk zru
              clear zru
              by_cases zrv : rv.1 = 0
              case pos =>
                have nrv : (rv.1 != 0) = false := by rw [zrv]; rfl
                have HZRV := Aside0.mk zrv
                clear zrv
                have c_xv0 : w9.cell? ⟨w8.heap.size, 0, none⟩ = some (Value.slice Evs rv.2.1.length Evsd) := (blk_cell HK118.out 0).trans rfl
                have f_xv0 := blk_frozen HK118.out 0
                have c_xv1 : w9.cell? ⟨w8.heap.size, 1, none⟩ = some (Value.slice Evt rv.2.2.length Evtd) := (blk_cell HK118.out 1).trans rfl
                have f_xv1 := blk_frozen HK118.out 1
                go_wp2_with fail
                clear c_xv0 f_xv0 c_xv1 f_xv1
                refine (Check.calls (As := Evs) (cs := Evsd) (At := Evt) (ct := Evtd) rv.2.1 rv.2.2 w9 (Kd.R_reads' HT122.out.1).2.2 (by have := HRVB.out.1; omega) (Kd.R_reads' HT122.out.2).2.2 HRVF.out).mono ?_
                rintro e w10 ⟨rfl, hb10⟩
                have HB10 := Aside0.mk (below_step (HB9.out) hb10)
                have HK123 := Aside0.mk (blk_below (HK118.out) hb10)
                have HT124 := Aside0.mk ((HT122.out).below hb10)
                have HS10 := Aside0.mk hb10
                clear hb10
                rw [checkE_yes (HRVR.out HZRV.out)]
                go_wp2_with fail
                refine (checks.calls w10).mono ?_
                rintro e w11 ⟨rfl, hb11⟩
                have HB11 := Aside0.mk (below_step (HB10.out) hb11)
                have HS11 := Aside0.mk hb11
                clear hb11
                go_wp2_with fail
                refine (schemas.calls w11).mono ?_
                rintro e w12 ⟨rfl, hb12⟩
                have HB12 := Aside0.mk (below_step (HB11.out) hb12)
                have HS12 := Aside0.mk hb12
                clear hb12
                go_wp2
                go_ret
                exact ⟨rfl, HB12.out⟩
              case neg =>
                have nrv : (rv.1 != 0) = true := bne_iff_ne.2 zrv
                have HZRV := Aside0.mk zrv
                clear zrv
                go_wp2_with fail
                refine (checks.calls w9).mono ?_
                rintro e w10 ⟨rfl, hb10⟩
                have HB10 := Aside0.mk (below_step (HB9.out) hb10)
                have HS10 := Aside0.mk hb10
                clear hb10
                go_wp2_with fail
                refine (schemas.calls w10).mono ?_
                rintro e w11 ⟨rfl, hb11⟩
                have HB11 := Aside0.mk (below_step (HB10.out) hb11)
                have HS11 := Aside0.mk hb11
                clear hb11
                go_wp2
                go_ret
                exact ⟨rfl, HB11.out⟩
        case neg =>
          have nrc : (rc.1 != 0) = true := bne_iff_ne.2 zrc
          have HZRC := Aside0.mk zrc
          clear zrc
          by_cases zrd : rd.1 = 0
          case pos =>
            have nrd : (rd.1 != 0) = false := by rw [zrd]; rfl
            have HZRD := Aside0.mk zrd
            clear zrd
            have c_xd0 : w8.cell? ⟨w6.heap.size, 0, none⟩ = some (Value.slice Eds rd.2.1.length Edsd) := (blk_cell HK100.out 0).trans rfl
            have f_xd0 := blk_frozen HK100.out 0
            have a_xd0 : ∀ o, (w8.alloc o).cell? ⟨w6.heap.size, 0, none⟩ = some (Value.slice Eds rd.2.1.length Edsd) := fun o => (blk_cell (blk_alloc HK100.out o) 0).trans rfl
            have c_xd1 : w8.cell? ⟨w6.heap.size, 1, none⟩ = some (Value.slice Edt rd.2.2.length Edtd) := (blk_cell HK100.out 1).trans rfl
            have f_xd1 := blk_frozen HK100.out 1
            have a_xd1 : ∀ o, (w8.alloc o).cell? ⟨w6.heap.size, 1, none⟩ = some (Value.slice Edt rd.2.2.length Edtd) := fun o => (blk_cell (blk_alloc HK100.out o) 1).trans rfl
            go_wp2_with fail
            clear c_xd0 f_xd0 a_xd0 c_xd1 f_xd1 a_xd1
            obtain ⟨v6, he6⟩ : ∃ W, W = (w8.alloc (.cells #[Value.slice Evs rv.2.1.length Evsd, Value.slice Evt rv.2.2.length Evtd] 25)) := ⟨_, rfl⟩
            have hb_ : Below w8.heap.size w8 v6 := by rw [he6]; exact below_alloc (Below.refl _ _) _
            have HZ6 := Aside0.mk (show v6.heap.size = w8.heap.size + 1 by rw [he6]; simp)
            have HN6 := Aside0.mk (show v6.heap[w8.heap.size]? = some (.cells #[Value.slice Evs rv.2.1.length Evsd, Value.slice Evt rv.2.2.length Evtd] 25 (0, 0)) by rw [he6]; exact blk_new _ _)
            have HV6 := Aside0.mk (below_step (HB8.out) hb_)
            have HK108 := Aside0.mk (blk_below (HK100.out) hb_)
            have HK109 := Aside0.mk (blk_below (HK101.out) hb_)
            have HT110 := Aside0.mk ((HT106.out).below hb_)
            have HT111 := Aside0.mk ((HT107.out).below hb_)
            have HT112 := Aside0.mk ((HM8.out).below hb_)
            rw [← he6]
            clear he6
            refine (Check.calls (As := Eds) (cs := Edsd) (At := Edt) (ct := Edtd) rd.2.1 rd.2.2 v6 (Kd.R_reads' HT110.out.1).2.2 (by have := HRDB.out.1; omega) (Kd.R_reads' HT110.out.2).2.2 HRDF.out).mono ?_
            rintro e w9 ⟨rfl, hb9⟩
            have HB9 := Aside0.mk (below_step (HV6.out) hb9)
            have HK113 := Aside0.mk (blk_below (HK108.out) hb9)
            have HK114 := Aside0.mk (blk_below (HK109.out) hb9)
            have HK115 := Aside0.mk (blk_below (HN6.out) hb9)
            have HT116 := Aside0.mk ((HT110.out).below hb9)
            have HT117 := Aside0.mk ((HT111.out).below hb9)
            have HT118 := Aside0.mk ((HT112.out).below hb9)
            have HS9 := Aside0.mk hb9
            clear hb9
            rw [checkE_yes (HRDR.out HZRD.out)]
            by_cases zru : ru.1 = 0
            case pos =>
              have nru : (ru.1 != 0) = false := by rw [zru]; rfl
              have HZRU := Aside0.mk zru
              clear zru
              have c_xu0 : w9.cell? ⟨w7.heap.size, 0, none⟩ = some (Value.slice Eus ru.2.1.length Eusd) := (blk_cell HK114.out 0).trans rfl
              have f_xu0 := blk_frozen HK114.out 0
              have c_xu1 : w9.cell? ⟨w7.heap.size, 1, none⟩ = some (Value.slice Eut ru.2.2.length Eutd) := (blk_cell HK114.out 1).trans rfl
              have f_xu1 := blk_frozen HK114.out 1
              go_wp2_with fail
              clear c_xu0 f_xu0 c_xu1 f_xu1
              refine (Check.calls (As := Eus) (cs := Eusd) (At := Eut) (ct := Eutd) ru.2.1 ru.2.2 w9 (Kd.R_reads' HT117.out.1).2.2 (by have := HRUB.out.1; omega) (Kd.R_reads' HT117.out.2).2.2 HRUF.out).mono ?_
              rintro e w10 ⟨rfl, hb10⟩
              have HB10 := Aside0.mk (below_step (HB9.out) hb10)
              have HK119 := Aside0.mk (blk_below (HK114.out) hb10)
              have HK120 := Aside0.mk (blk_below (HK115.out) hb10)
              have HT121 := Aside0.mk ((HT117.out).below hb10)
              have HT122 := Aside0.mk ((HT118.out).below hb10)
              have HS10 := Aside0.mk hb10
              clear hb10
              rw [checkE_yes (HRUR.out HZRU.out)]
              by_cases zrv : rv.1 = 0
              case pos =>
                have nrv : (rv.1 != 0) = false := by rw [zrv]; rfl
                have HZRV := Aside0.mk zrv
                clear zrv
                have c_xv0 : w10.cell? ⟨w8.heap.size, 0, none⟩ = some (Value.slice Evs rv.2.1.length Evsd) := (blk_cell HK120.out 0).trans rfl
                have f_xv0 := blk_frozen HK120.out 0
                have c_xv1 : w10.cell? ⟨w8.heap.size, 1, none⟩ = some (Value.slice Evt rv.2.2.length Evtd) := (blk_cell HK120.out 1).trans rfl
                have f_xv1 := blk_frozen HK120.out 1
                go_wp2_with fail
                clear c_xv0 f_xv0 c_xv1 f_xv1
                refine (Check.calls (As := Evs) (cs := Evsd) (At := Evt) (ct := Evtd) rv.2.1 rv.2.2 w10 (Kd.R_reads' HT122.out.1).2.2 (by have := HRVB.out.1; omega) (Kd.R_reads' HT122.out.2).2.2 HRVF.out).mono ?_
                rintro e w11 ⟨rfl, hb11⟩
                have HB11 := Aside0.mk (below_step (HB10.out) hb11)
                have HK123 := Aside0.mk (blk_below (HK120.out) hb11)
                have HT124 := Aside0.mk ((HT122.out).below hb11)
                have HS11 := Aside0.mk hb11
                clear hb11
                rw [checkE_yes (HRVR.out HZRV.out)]
                go_wp2_with fail
                refine (checks.calls w11).mono ?_
                rintro e w12 ⟨rfl, hb12⟩
                have HB12 := Aside0.mk (below_step (HB11.out) hb12)
                have HS12 := Aside0.mk hb12
                clear hb12
                go_wp2_with fail
                refine (schemas.calls w12).mono ?_
                rintro e w13 ⟨rfl, hb13⟩
                have HB13 := Aside0.mk (below_step (HB12.out) hb13)
                have HS13 := Aside0.mk hb13
                clear hb13
                go_wp2
                go_ret
                exact ⟨rfl, HB13.out⟩
              case neg =>
                have nrv : (rv.1 != 0) = true := bne_iff_ne.2 zrv
                have HZRV := Aside0.mk zrv
                clear zrv
                go_wp2_with fail
                refine (checks.calls w10).mono ?_
                rintro e w11 ⟨rfl, hb11⟩
                have HB11 := Aside0.mk (below_step (HB10.out) hb11)
                have HS11 := Aside0.mk hb11
                clear hb11
                go_wp2_with fail
                refine (schemas.calls w11).mono ?_
                rintro e w12 ⟨rfl, hb12⟩
                have HB12 := Aside0.mk (below_step (HB11.out) hb12)
                have HS12 := Aside0.mk hb12
                clear hb12
                go_wp2
                go_ret
                exact ⟨rfl, HB12.out⟩
            case neg =>
              have nru : (ru.1 != 0) = true := bne_iff_ne.2 zru
              have HZRU := Aside0.mk zru
              clear zru
              by_cases zrv : rv.1 = 0
              case pos =>
                have nrv : (rv.1 != 0) = false := by rw [zrv]; rfl
                have HZRV := Aside0.mk zrv
                clear zrv
                have c_xv0 : w9.cell? ⟨w8.heap.size, 0, none⟩ = some (Value.slice Evs rv.2.1.length Evsd) := (blk_cell HK115.out 0).trans rfl
                have f_xv0 := blk_frozen HK115.out 0
                have c_xv1 : w9.cell? ⟨w8.heap.size, 1, none⟩ = some (Value.slice Evt rv.2.2.length Evtd) := (blk_cell HK115.out 1).trans rfl
                have f_xv1 := blk_frozen HK115.out 1
                go_wp2_with fail
                clear c_xv0 f_xv0 c_xv1 f_xv1
                refine (Check.calls (As := Evs) (cs := Evsd) (At := Evt) (ct := Evtd) rv.2.1 rv.2.2 w9 (Kd.R_reads' HT118.out.1).2.2 (by have := HRVB.out.1; omega) (Kd.R_reads' HT118.out.2).2.2 HRVF.out).mono ?_
                rintro e w10 ⟨rfl, hb10⟩
                have HB10 := Aside0.mk (below_step (HB9.out) hb10)
                have HK119 := Aside0.mk (blk_below (HK115.out) hb10)
                have HT120 := Aside0.mk ((HT118.out).below hb10)
                have HS10 := Aside0.mk hb10
                clear hb10
                rw [checkE_yes (HRVR.out HZRV.out)]
                go_wp2_with fail
                refine (checks.calls w10).mono ?_
                rintro e w11 ⟨rfl, hb11⟩
                have HB11 := Aside0.mk (below_step (HB10.out) hb11)
                have HS11 := Aside0.mk hb11
                clear hb11
                go_wp2_with fail
                refine (schemas.calls w11).mono ?_
                rintro e w12 ⟨rfl, hb12⟩
                have HB12 := Aside0.mk (below_step (HB11.out) hb12)
                have HS12 := Aside0.mk hb12
                clear hb12
                go_wp2
                go_ret
                exact ⟨rfl, HB12.out⟩
              case neg =>
                have nrv : (rv.1 != 0) = true := bne_iff_ne.2 zrv
                have HZRV := Aside0.mk zrv
                clear zrv
                go_wp2_with fail
                refine (checks.calls w9).mono ?_
                rintro e w10 ⟨rfl, hb10⟩
                have HB10 := Aside0.mk (below_step (HB9.out) hb10)
                have HS10 := Aside0.mk hb10
                clear hb10
                go_wp2_with fail
                refine (schemas.calls w10).mono ?_
                rintro e w11 ⟨rfl, hb11⟩
                have HB11 := Aside0.mk (below_step (HB10.out) hb11)
                have HS11 := Aside0.mk hb11
                clear hb11
                go_wp2
                go_ret
                exact ⟨rfl, HB11.out⟩
          case neg =>
            have nrd : (rd.1 != 0) = true := bne_iff_ne.2 zrd
            have HZRD := Aside0.mk zrd
            clear zrd
            by_cases zru : ru.1 = 0
            case pos =>
              have nru : (ru.1 != 0) = false := by rw [zru]; rfl
              have HZRU := Aside0.mk zru
              clear zru
              have c_xu0 : w8.cell? ⟨w7.heap.size, 0, none⟩ = some (Value.slice Eus ru.2.1.length Eusd) := (blk_cell HK101.out 0).trans rfl
              have f_xu0 := blk_frozen HK101.out 0
              have a_xu0 : ∀ o, (w8.alloc o).cell? ⟨w7.heap.size, 0, none⟩ = some (Value.slice Eus ru.2.1.length Eusd) := fun o => (blk_cell (blk_alloc HK101.out o) 0).trans rfl
              have c_xu1 : w8.cell? ⟨w7.heap.size, 1, none⟩ = some (Value.slice Eut ru.2.2.length Eutd) := (blk_cell HK101.out 1).trans rfl
              have f_xu1 := blk_frozen HK101.out 1
              have a_xu1 : ∀ o, (w8.alloc o).cell? ⟨w7.heap.size, 1, none⟩ = some (Value.slice Eut ru.2.2.length Eutd) := fun o => (blk_cell (blk_alloc HK101.out o) 1).trans rfl
              go_wp2_with fail
              clear c_xu0 f_xu0 a_xu0 c_xu1 f_xu1 a_xu1
              obtain ⟨v6, he6⟩ : ∃ W, W = (w8.alloc (.cells #[Value.slice Evs rv.2.1.length Evsd, Value.slice Evt rv.2.2.length Evtd] 25)) := ⟨_, rfl⟩
              have hb_ : Below w8.heap.size w8 v6 := by rw [he6]; exact below_alloc (Below.refl _ _) _
              have HZ6 := Aside0.mk (show v6.heap.size = w8.heap.size + 1 by rw [he6]; simp)
              have HN6 := Aside0.mk (show v6.heap[w8.heap.size]? = some (.cells #[Value.slice Evs rv.2.1.length Evsd, Value.slice Evt rv.2.2.length Evtd] 25 (0, 0)) by rw [he6]; exact blk_new _ _)
              have HV6 := Aside0.mk (below_step (HB8.out) hb_)
              have HK108 := Aside0.mk (blk_below (HK101.out) hb_)
              have HT109 := Aside0.mk ((HT107.out).below hb_)
              have HT110 := Aside0.mk ((HM8.out).below hb_)
              rw [← he6]
              clear he6
              refine (Check.calls (As := Eus) (cs := Eusd) (At := Eut) (ct := Eutd) ru.2.1 ru.2.2 v6 (Kd.R_reads' HT109.out.1).2.2 (by have := HRUB.out.1; omega) (Kd.R_reads' HT109.out.2).2.2 HRUF.out).mono ?_
              rintro e w9 ⟨rfl, hb9⟩
              have HB9 := Aside0.mk (below_step (HV6.out) hb9)
              have HK111 := Aside0.mk (blk_below (HK108.out) hb9)
              have HK112 := Aside0.mk (blk_below (HN6.out) hb9)
              have HT113 := Aside0.mk ((HT109.out).below hb9)
              have HT114 := Aside0.mk ((HT110.out).below hb9)
              have HS9 := Aside0.mk hb9
              clear hb9
              rw [checkE_yes (HRUR.out HZRU.out)]
              by_cases zrv : rv.1 = 0
              case pos =>
                have nrv : (rv.1 != 0) = false := by rw [zrv]; rfl
                have HZRV := Aside0.mk zrv
                clear zrv
                have c_xv0 : w9.cell? ⟨w8.heap.size, 0, none⟩ = some (Value.slice Evs rv.2.1.length Evsd) := (blk_cell HK112.out 0).trans rfl
                have f_xv0 := blk_frozen HK112.out 0
                have c_xv1 : w9.cell? ⟨w8.heap.size, 1, none⟩ = some (Value.slice Evt rv.2.2.length Evtd) := (blk_cell HK112.out 1).trans rfl
                have f_xv1 := blk_frozen HK112.out 1
                go_wp2_with fail
                clear c_xv0 f_xv0 c_xv1 f_xv1
                refine (Check.calls (As := Evs) (cs := Evsd) (At := Evt) (ct := Evtd) rv.2.1 rv.2.2 w9 (Kd.R_reads' HT114.out.1).2.2 (by have := HRVB.out.1; omega) (Kd.R_reads' HT114.out.2).2.2 HRVF.out).mono ?_
                rintro e w10 ⟨rfl, hb10⟩
                have HB10 := Aside0.mk (below_step (HB9.out) hb10)
                have HK115 := Aside0.mk (blk_below (HK112.out) hb10)
                have HT116 := Aside0.mk ((HT114.out).below hb10)
                have HS10 := Aside0.mk hb10
                clear hb10
                rw [checkE_yes (HRVR.out HZRV.out)]
                go_wp2_with fail
                refine (checks.calls w10).mono ?_
                rintro e w11 ⟨rfl, hb11⟩
                have HB11 := Aside0.mk (below_step (HB10.out) hb11)
                have HS11 := Aside0.mk hb11
                clear hb11
                go_wp2_with fail
                refine (schemas.calls w11).mono ?_
                rintro e w12 ⟨rfl, hb12⟩
                have HB12 := Aside0.mk (below_step (HB11.out) hb12)
                have HS12 := Aside0.mk hb12
                clear hb12
                go_wp2
                go_ret
                exact ⟨rfl, HB12.out⟩
              case neg =>
                have nrv : (rv.1 != 0) = true := bne_iff_ne.2 zrv
                have HZRV := Aside0.mk zrv
                clear zrv
                go_wp2_with fail
                refine (checks.calls w9).mono ?_
                rintro e w10 ⟨rfl, hb10⟩
                have HB10 := Aside0.mk (below_step (HB9.out) hb10)
                have HS10 := Aside0.mk hb10
                clear hb10
                go_wp2_with fail
                refine (schemas.calls w10).mono ?_
                rintro e w11 ⟨rfl, hb11⟩
                have HB11 := Aside0.mk (below_step (HB10.out) hb11)
                have HS11 := Aside0.mk hb11
                clear hb11
                go_wp2
                go_ret
                exact ⟨rfl, HB11.out⟩
            case neg =>
              have nru : (ru.1 != 0) = true := bne_iff_ne.2 zru
              have HZRU := Aside0.mk zru
              clear zru
              by_cases zrv : rv.1 = 0
              case pos =>
                have nrv : (rv.1 != 0) = false := by rw [zrv]; rfl
                have HZRV := Aside0.mk zrv
                clear zrv
                go_wp2_with fail
                obtain ⟨v6, he6⟩ : ∃ W, W = (w8.alloc (.cells #[Value.slice Evs rv.2.1.length Evsd, Value.slice Evt rv.2.2.length Evtd] 25)) := ⟨_, rfl⟩
                have hb_ : Below w8.heap.size w8 v6 := by rw [he6]; exact below_alloc (Below.refl _ _) _
                have HZ6 := Aside0.mk (show v6.heap.size = w8.heap.size + 1 by rw [he6]; simp)
                have HN6 := Aside0.mk (show v6.heap[w8.heap.size]? = some (.cells #[Value.slice Evs rv.2.1.length Evsd, Value.slice Evt rv.2.2.length Evtd] 25 (0, 0)) by rw [he6]; exact blk_new _ _)
                have HV6 := Aside0.mk (below_step (HB8.out) hb_)
                have HT108 := Aside0.mk ((HM8.out).below hb_)
                rw [← he6]
                clear he6
                refine (Check.calls (As := Evs) (cs := Evsd) (At := Evt) (ct := Evtd) rv.2.1 rv.2.2 v6 (Kd.R_reads' HT108.out.1).2.2 (by have := HRVB.out.1; omega) (Kd.R_reads' HT108.out.2).2.2 HRVF.out).mono ?_
                rintro e w9 ⟨rfl, hb9⟩
                have HB9 := Aside0.mk (below_step (HV6.out) hb9)
                have HK109 := Aside0.mk (blk_below (HN6.out) hb9)
                have HT110 := Aside0.mk ((HT108.out).below hb9)
                have HS9 := Aside0.mk hb9
                clear hb9
                rw [checkE_yes (HRVR.out HZRV.out)]
                go_wp2_with fail
                refine (checks.calls w9).mono ?_
                rintro e w10 ⟨rfl, hb10⟩
                have HB10 := Aside0.mk (below_step (HB9.out) hb10)
                have HS10 := Aside0.mk hb10
                clear hb10
                go_wp2_with fail
                refine (schemas.calls w10).mono ?_
                rintro e w11 ⟨rfl, hb11⟩
                have HB11 := Aside0.mk (below_step (HB10.out) hb11)
                have HS11 := Aside0.mk hb11
                clear hb11
                go_wp2
                go_ret
                exact ⟨rfl, HB11.out⟩
              case neg =>
                have nrv : (rv.1 != 0) = true := bne_iff_ne.2 zrv
                have HZRV := Aside0.mk zrv
                clear zrv
                go_wp2_with fail
                obtain ⟨v6, he6⟩ : ∃ W, W = (w8.alloc (.cells #[Value.slice Evs rv.2.1.length Evsd, Value.slice Evt rv.2.2.length Evtd] 25)) := ⟨_, rfl⟩
                have hb_ : Below w8.heap.size w8 v6 := by rw [he6]; exact below_alloc (Below.refl _ _) _
                have HZ6 := Aside0.mk (show v6.heap.size = w8.heap.size + 1 by rw [he6]; simp)
                have HN6 := Aside0.mk (show v6.heap[w8.heap.size]? = some (.cells #[Value.slice Evs rv.2.1.length Evsd, Value.slice Evt rv.2.2.length Evtd] 25 (0, 0)) by rw [he6]; exact blk_new _ _)
                have HV6 := Aside0.mk (below_step (HB8.out) hb_)
                rw [← he6]
                clear he6
                refine (checks.calls v6).mono ?_
                rintro e w9 ⟨rfl, hb9⟩
                have HB9 := Aside0.mk (below_step (HV6.out) hb9)
                have HK108 := Aside0.mk (blk_below (HN6.out) hb9)
                have HS9 := Aside0.mk hb9
                clear hb9
                go_wp2_with fail
                refine (schemas.calls w9).mono ?_
                rintro e w10 ⟨rfl, hb10⟩
                have HB10 := Aside0.mk (below_step (HB9.out) hb10)
                have HS10 := Aside0.mk hb10
                clear hb10
                go_wp2
                go_ret
                exact ⟨rfl, HB10.out⟩
theorem law_ObjectsRight.deep (x : List Sch × List Tab) (c : Option Addr × Nat × Option Addr × Nat) (y : Tab) (d : Option Addr × Nat × Option Addr × Nat) (z : Rul) (q : Option Addr × Nat) (a1 a2 : ByteArray) (w : World) (h : ObjIn w x c) (h2 : TabIn w y d) (h3 : RulIn w z q) (_ : a1.size ≤ 140737488351232) (_ : a2.size ≤ 140737488351232) : Calls Tryz.prog 5 #[objV x c, tabV y d, rulV z q, .string a1, .string a2] w fun e w' => e = .returned (.bool true) ∧ Below w.heap.size w w' :=
  law_ObjectsRight.calls x.1 x.2 y z a1 a2 w h.1 (by have := h.2.1; omega) h.2.2.1 h.2.2.2.1 h2.2.1 h2.2.2.1 h2.1 h3.2 h3.1
end Go.Proofs.YtmmiehckgkadgaaGreat.O
