/- finds and ObjectsFinds: the law, walked. Printed by a program of this session (gen_law7.py). -/
import Derived.Test.YtmmiehckgkadgaaCO
namespace Go.Proofs.Ytmmiehckgkadgaa.O
set_option linter.unusedVariables false
set_option linter.unusedSimpArgs false
open Go.RowKit Go.Proofs.YtmmiehckgkadgaaW.PrintWords

theorem OutT.made {W w' : World} {r : Int × Tab} {e : Ending} (h : OutT W r e w') : ∃ B3 d3 B4 d4, e = .returned (.tuple #[.agg #[.string r.2.schema, .string r.2.name, .string r.2.owner, .slice B3 r.2.cols.length d3, .slice B4 r.2.rules.length d4], .int .i64 r.1]) ∧ kCol.R 41 w' W.heap.size (fun k => W.heap.size ≤ k ∧ k < w'.heap.size) (.slice B3 r.2.cols.length d3) r.2.cols ∧ kRul.R 57 w' W.heap.size (fun k => W.heap.size ≤ k ∧ k < w'.heap.size) (.slice B4 r.2.rules.length d4) r.2.rules ∧ Below W.heap.size W w' := by
  obtain ⟨v3, v4, he, h3, h4, hb⟩ := h
  obtain ⟨B3, d3, rfl⟩ := Kd.R_slice h3
  obtain ⟨B4, d4, rfl⟩ := Kd.R_slice h4
  exact ⟨B3, d3, B4, d4, he, Kd.R_mono (Kd.R_bound h3) (fun k hk => ⟨hk.2.1, hk.2.2.1⟩), Kd.R_mono (Kd.R_bound h4) (fun k hk => ⟨hk.2.1, hk.2.2.1⟩), hb⟩
theorem tabsB_one : TabsB [tab1] := ⟨by decide, fun t ht => by
  obtain rfl : t = tab1 := by simpa using ht
  exact ⟨by decide, by decide, fun r hr => by obtain rfl : r = rul1 := by simpa [tab1] using hr
                                              show _ ≤ _
                                              decide⟩⟩
theorem checkB_one : checkB [sch1] [tab1] = true := by decide +kernel
theorem findT_one1 : findT [sch1] [tab1] ⟨#[115]⟩ ⟨#[116]⟩ = (0, tab1) := by
  unfold findT
  rw [if_pos checkB_one, show idx (isT ⟨#[115]⟩ ⟨#[116]⟩) [tab1] = 0 by decide +kernel]
  rfl
theorem findT_one2 : findT [sch1] [tab1] ⟨#[115]⟩ ⟨#[117]⟩ = (61, zTab) := by
  unfold findT
  rw [if_pos checkB_one, show idx (isT ⟨#[115]⟩ ⟨#[117]⟩) [tab1] = -1 by decide +kernel]
  rfl
theorem Find_one1 {As At : Option Addr} {cs ct : Nat} (W : World) (hs : kSch.C W As 1 [sch1]) (ht : kTab.C W At 1 [tab1]) : Calls Try.prog 16 #[.agg #[.slice As 1 cs, .slice At 1 ct], .string ⟨#[115]⟩, .string ⟨#[116]⟩] W fun e w' => ∃ B3 d3 B4 d4, e = .returned (.tuple #[.agg #[.string ⟨#[115]⟩, .string ⟨#[116]⟩, .string ⟨#[111]⟩, .slice B3 2 d3, .slice B4 1 d4], .int .i64 0]) ∧ Below W.heap.size W w' := by
  have h := Find.calls (cs := cs) (ct := ct) [sch1] [tab1] ⟨#[115]⟩ ⟨#[116]⟩ W hs (by decide) ht tabsF_one tabsB_one
  rw [findT_one1] at h
  exact h.mono fun e w' h => by
    obtain ⟨B3, d3, B4, d4, he, _, _, hb⟩ := h.made
    exact ⟨B3, d3, B4, d4, he, hb⟩
theorem Find_one2 {As At : Option Addr} {cs ct : Nat} (W : World) (hs : kSch.C W As 1 [sch1]) (ht : kTab.C W At 1 [tab1]) : Calls Try.prog 16 #[.agg #[.slice As 1 cs, .slice At 1 ct], .string ⟨#[115]⟩, .string ⟨#[117]⟩] W fun e w' => ∃ B3 d3 B4 d4, e = .returned (.tuple #[.agg #[.string ⟨#[]⟩, .string ⟨#[]⟩, .string ⟨#[]⟩, .slice B3 0 d3, .slice B4 0 d4], .int .i64 61]) ∧ Below W.heap.size W w' := by
  have h := Find.calls (cs := cs) (ct := ct) [sch1] [tab1] ⟨#[115]⟩ ⟨#[117]⟩ W hs (by decide) ht tabsF_one tabsB_one
  rw [findT_one2] at h
  exact h.mono fun e w' h => by
    obtain ⟨B3, d3, B4, d4, he, _, _, hb⟩ := h.made
    exact ⟨B3, d3, B4, d4, he, hb⟩
theorem setOwner_B {ss : List Sch} {ts : List Tab} {schema table owner : ByteArray} (hs : ss.length ≤ 3000) (ht : TabsB ts) : (setOwner ss ts schema table owner).2.1.length ≤ 3000 ∧ TabsB (setOwner ss ts schema table owner).2.2 := by
  have h0 : TabsB ([] : List Tab) := ⟨by decide, fun t h => by simp at h⟩
  unfold setOwner tch
  split
  · split
    · split
      · rename_i hi
        have hlt : (idx (isT schema table) ts).toNat < ts.length := by have := idx_lo (isT schema table) ts; omega
        refine ⟨hs, by rw [List.length_set]; exact ht.1, fun t h => ?_⟩
        rcases List.mem_or_eq_of_mem_set h with h | h
        · exact ht.2 t h
        · subst h
          rw [List.getD_eq_getElem?_getD, List.getElem?_eq_getElem hlt]
          exact (ht.2 _ (List.getElem_mem hlt) : TabB ts[(idx (isT schema table) ts).toNat])
      · exact ⟨by decide, h0⟩
    · exact ⟨by decide, h0⟩
  · exact ⟨by decide, h0⟩
theorem findT_B {ss : List Sch} {ts : List Tab} {schema table : ByteArray} (ht : TabsB ts) : TabB (findT ss ts schema table).2 := by
  have h0 : TabB zTab := ⟨by decide, by decide, fun r h => by simp [zTab] at h⟩
  unfold findT
  split
  · split
    · rename_i hi
      have hlt : (idx (isT schema table) ts).toNat < ts.length := by have := idx_lo (isT schema table) ts; omega
      show TabB (ts.getD _ _)
      rw [List.getD_eq_getElem?_getD, List.getElem?_eq_getElem hlt]
      exact ht.2 _ (List.getElem_mem hlt)
    · exact h0
  · exact h0

set_option maxRecDepth 20000 in
set_option maxHeartbeats 2000000 in
theorem finds.calls (w : World) : Calls Try.prog 21 #[] w fun e w' => e = .returned (.bool true) ∧ Below w.heap.size w w' := by
  have HO := Aside0.mk (fun W => one.calls W)
  have HX0 := Aside0.mk (Below.refl w.heap.size w)
  go_enter Try.func21, Try.ntmps21
  go_wp2_with fail
  refine (HO.out _).mono ?_
  rintro e w1 ⟨As1, cs1, At1, ct1, rfl, l1, l2, hs, ht, hb1⟩
  have HB1 := Aside0.mk (below_step (HX0.out) hb1)
  have HS1 := Aside0.mk hb1
  clear hb1
  have HFD := Aside0.mk (Find_one1 (cs := cs1) (ct := ct1) w1 hs ht)
  clear l1 l2 hs ht
  go_wp2_with fail
  refine (HFD.out).mono ?_
  rintro e w2 ⟨B3, d3, B4, d4, rfl, hb2⟩
  have HB2 := Aside0.mk (below_step (HB1.out) hb2)
  have HS2 := Aside0.mk hb2
  clear hb2
  clear HFD
  go_wp2_with fail
  obtain ⟨v1, he1⟩ : ∃ W, W = (w2.alloc (.cells #[Value.string ⟨#[115]⟩, Value.string ⟨#[116]⟩, Value.string ⟨#[111]⟩, Value.slice B3 2 d3, Value.slice B4 1 d4] 35)) := ⟨_, rfl⟩
  have hb_ : Below w2.heap.size w2 v1 := by rw [he1]; exact below_alloc (Below.refl _ _) _
  have HZ1 := Aside0.mk (show v1.heap.size = w2.heap.size + 1 by rw [he1]; simp)
  have HN1 := Aside0.mk (show v1.heap[w2.heap.size]? = some (.cells #[Value.string ⟨#[115]⟩, Value.string ⟨#[116]⟩, Value.string ⟨#[111]⟩, Value.slice B3 2 d3, Value.slice B4 1 d4] 35 (0, 0)) by rw [he1]; exact blk_new _ _)
  have HV1 := Aside0.mk (below_step (HB2.out) hb_)
  rw [← he1]
  clear he1
  refine (HO.out _).mono ?_
  rintro e w3 ⟨As2, cs2, At2, ct2, rfl, l1, l2, hs, ht, hb3⟩
  have HB3 := Aside0.mk (below_step (HV1.out) hb3)
  have HK1 := Aside0.mk (blk_below (HN1.out) hb3)
  have HS3 := Aside0.mk hb3
  clear hb3
  have HFD := Aside0.mk (Find_one2 (cs := cs2) (ct := ct2) w3 hs ht)
  clear l1 l2 hs ht
  have c_t0 : w3.cell? ⟨w2.heap.size, 0, none⟩ = some (Value.string ⟨#[115]⟩) := (blk_cell HK1.out 0).trans rfl
  have f_t0 := blk_frozen HK1.out 0
  have c_t1 : w3.cell? ⟨w2.heap.size, 1, none⟩ = some (Value.string ⟨#[116]⟩) := (blk_cell HK1.out 1).trans rfl
  have f_t1 := blk_frozen HK1.out 1
  have c_t2 : w3.cell? ⟨w2.heap.size, 2, none⟩ = some (Value.string ⟨#[111]⟩) := (blk_cell HK1.out 2).trans rfl
  have f_t2 := blk_frozen HK1.out 2
  have c_t3 : w3.cell? ⟨w2.heap.size, 3, none⟩ = some (Value.slice B3 2 d3) := (blk_cell HK1.out 3).trans rfl
  have f_t3 := blk_frozen HK1.out 3
  have c_t4 : w3.cell? ⟨w2.heap.size, 4, none⟩ = some (Value.slice B4 1 d4) := (blk_cell HK1.out 4).trans rfl
  have f_t4 := blk_frozen HK1.out 4
  go_wp2_with fail
  clear c_t0 f_t0 c_t1 f_t1 c_t2 f_t2 c_t3 f_t3 c_t4 f_t4
  refine (HFD.out).mono ?_
  rintro e w4 ⟨C3, e3, C4, e4, rfl, hb4⟩
  have HB4 := Aside0.mk (below_step (HB3.out) hb4)
  have HK2 := Aside0.mk (blk_below (HK1.out) hb4)
  have HS4 := Aside0.mk hb4
  clear hb4
  have c_t0 : w4.cell? ⟨w2.heap.size, 0, none⟩ = some (Value.string ⟨#[115]⟩) := (blk_cell HK2.out 0).trans rfl
  have f_t0 := blk_frozen HK2.out 0
  have a_t0 : ∀ o, (w4.alloc o).cell? ⟨w2.heap.size, 0, none⟩ = some (Value.string ⟨#[115]⟩) := fun o => (blk_cell (blk_alloc HK2.out o) 0).trans rfl
  have c_t1 : w4.cell? ⟨w2.heap.size, 1, none⟩ = some (Value.string ⟨#[116]⟩) := (blk_cell HK2.out 1).trans rfl
  have f_t1 := blk_frozen HK2.out 1
  have a_t1 : ∀ o, (w4.alloc o).cell? ⟨w2.heap.size, 1, none⟩ = some (Value.string ⟨#[116]⟩) := fun o => (blk_cell (blk_alloc HK2.out o) 1).trans rfl
  have c_t2 : w4.cell? ⟨w2.heap.size, 2, none⟩ = some (Value.string ⟨#[111]⟩) := (blk_cell HK2.out 2).trans rfl
  have f_t2 := blk_frozen HK2.out 2
  have a_t2 : ∀ o, (w4.alloc o).cell? ⟨w2.heap.size, 2, none⟩ = some (Value.string ⟨#[111]⟩) := fun o => (blk_cell (blk_alloc HK2.out o) 2).trans rfl
  have c_t3 : w4.cell? ⟨w2.heap.size, 3, none⟩ = some (Value.slice B3 2 d3) := (blk_cell HK2.out 3).trans rfl
  have f_t3 := blk_frozen HK2.out 3
  have a_t3 : ∀ o, (w4.alloc o).cell? ⟨w2.heap.size, 3, none⟩ = some (Value.slice B3 2 d3) := fun o => (blk_cell (blk_alloc HK2.out o) 3).trans rfl
  have c_t4 : w4.cell? ⟨w2.heap.size, 4, none⟩ = some (Value.slice B4 1 d4) := (blk_cell HK2.out 4).trans rfl
  have f_t4 := blk_frozen HK2.out 4
  have a_t4 : ∀ o, (w4.alloc o).cell? ⟨w2.heap.size, 4, none⟩ = some (Value.slice B4 1 d4) := fun o => (blk_cell (blk_alloc HK2.out o) 4).trans rfl
  go_wp2
  go_ret
  exact ⟨rfl, below_alloc (HB4.out) _⟩

set_option maxRecDepth 20000 in
set_option maxHeartbeats 8000000 in
theorem law_ObjectsFinds.calls {As At : Option Addr} {cs ct : Nat} (ss : List Sch) (ts : List Tab) (schema table owner : ByteArray) (w : World) (hs : kSch.C w As ss.length ss) (hsl : ss.length ≤ 8796093022208) (ht : kTab.C w At ts.length ts) (hF : TabsF ts) :
    Calls Try.prog 5 #[.agg #[.slice As ss.length cs, .slice At ts.length ct], .string schema, .string table, .string owner] w fun e w' => e = .returned (.bool true) ∧ Below w.heap.size w w' := by
  have HX0 := Aside0.mk (boxes1 w (.cells #[Value.slice As ss.length cs, Value.slice At ts.length ct] 26))
  have HLG := Aside0.mk (fun W (hW : Below w.heap.size w W) => large.calls (As := As) (cs := cs) (At := At) (ct := ct) ss ts W hsl (Kd.C_below ht hW) hF)
  have HO0 := Aside0.mk (OF.of_C hs ht)
  have HFF := Aside0.mk hF
  have HIN := Aside0.mk (And.intro hs ht)
  clear hs ht hF hsl
  go_enter Try.func5, Try.ntmps5
  have c_o0 : (w.alloc (.cells #[Value.slice As ss.length cs, Value.slice At ts.length ct] 26)).cell? ⟨w.heap.size, 0, none⟩ = some (Value.slice As ss.length cs) := (blk_cell HX0.out.2 0).trans rfl
  have f_o0 := blk_frozen HX0.out.2 0
  have c_o1 : (w.alloc (.cells #[Value.slice As ss.length cs, Value.slice At ts.length ct] 26)).cell? ⟨w.heap.size, 1, none⟩ = some (Value.slice At ts.length ct) := (blk_cell HX0.out.2 1).trans rfl
  have f_o1 := blk_frozen HX0.out.2 1
  go_wp2_with fail
  clear c_o0 f_o0 c_o1 f_o1
  refine (HLG.out _ HX0.out.1).mono ?_
  rintro e w1 ⟨b, rfl, hObj, hb1⟩
  have HB1 := Aside0.mk (below_step (HX0.out.1) hb1)
  have HK1 := Aside0.mk (blk_below (HX0.out.2) hb1)
  have HT2 := Aside0.mk (((OF.below HO0.out HX0.out.1)).below hb1)
  have HS1 := Aside0.mk hb1
  clear hb1
  cases b with
  | true =>
    go_wp2
    go_ret
    exact ⟨rfl, HB1.out⟩
  | false =>
  have hSm := hObj rfl
  have HTB := Aside0.mk (tabsB_of hSm)
  have hsl3 : ss.length ≤ 3000 := hSm.1
  clear hObj hSm HLG
  have c_o0 : w1.cell? ⟨w.heap.size, 0, none⟩ = some (Value.slice As ss.length cs) := (blk_cell HK1.out 0).trans rfl
  have f_o0 := blk_frozen HK1.out 0
  have c_o1 : w1.cell? ⟨w.heap.size, 1, none⟩ = some (Value.slice At ts.length ct) := (blk_cell HK1.out 1).trans rfl
  have f_o1 := blk_frozen HK1.out 1
  go_wp2_with fail
  clear c_o0 f_o0 c_o1 f_o1
  refine (rOwn.made (cs := cs) (ct := ct) ss ts w1 (Kd.F_now HT2.out.1) hsl3 (Kd.F_now HT2.out.2) HTB.out).mono ?_
  rintro e w2 ⟨Bs, ds, Bt, dt, rfl, hOwn, hb2⟩
  have HB2 := Aside0.mk (below_step (HB1.out) hb2)
  have HK3 := Aside0.mk (blk_below (HK1.out) hb2)
  have HT4 := Aside0.mk ((HT2.out).below hb2)
  have HS2 := Aside0.mk hb2
  clear hb2
  have HOwn := Aside0.mk hOwn
  clear hOwn
  have HQB := Aside0.mk (findT_B (ss := ss) (schema := schema) (table := table) HTB.out)
  obtain ⟨q, hq⟩ : ∃ q, q = findT ss ts schema table := ⟨_, rfl⟩
  rw [← hq] at HQB
  have HQ := Aside0.mk hq
  clear hq
  have c_o0 : w2.cell? ⟨w.heap.size, 0, none⟩ = some (Value.slice As ss.length cs) := (blk_cell HK3.out 0).trans rfl
  have f_o0 := blk_frozen HK3.out 0
  have a_o0 : ∀ o, (w2.alloc o).cell? ⟨w.heap.size, 0, none⟩ = some (Value.slice As ss.length cs) := fun o => (blk_cell (blk_alloc HK3.out o) 0).trans rfl
  have c_o1 : w2.cell? ⟨w.heap.size, 1, none⟩ = some (Value.slice At ts.length ct) := (blk_cell HK3.out 1).trans rfl
  have f_o1 := blk_frozen HK3.out 1
  have a_o1 : ∀ o, (w2.alloc o).cell? ⟨w.heap.size, 1, none⟩ = some (Value.slice At ts.length ct) := fun o => (blk_cell (blk_alloc HK3.out o) 1).trans rfl
  go_wp2_with fail
  clear c_o0 f_o0 a_o0 c_o1 f_o1 a_o1
  obtain ⟨v1, he1⟩ : ∃ W, W = (w2.alloc (.cells #[Value.slice Bs ss.length ds, Value.slice Bt ts.length dt] 26)) := ⟨_, rfl⟩
  have hb_ : Below w2.heap.size w2 v1 := by rw [he1]; exact below_alloc (Below.refl _ _) _
  have HZ1 := Aside0.mk (show v1.heap.size = w2.heap.size + 1 by rw [he1]; simp)
  have HN1 := Aside0.mk (show v1.heap[w2.heap.size]? = some (.cells #[Value.slice Bs ss.length ds, Value.slice Bt ts.length dt] 26 (0, 0)) by rw [he1]; exact blk_new _ _)
  have HV1 := Aside0.mk (below_step (HB2.out) hb_)
  have HK5 := Aside0.mk (blk_below (HK3.out) hb_)
  have HT6 := Aside0.mk ((HT4.out).below hb_)
  have HT7 := Aside0.mk ((HOwn.out).below hb_)
  rw [← he1]
  clear he1
  refine (Find.calls (cs := cs) (ct := ct) ss ts schema table v1 (Kd.F_now (HT6.out).1) hsl3 (Kd.F_now (HT6.out).2) HFF.out HTB.out).mono ?_
  rw [← HQ.out]
  rintro e w3 hq
  obtain ⟨B3, B3d, B4, B4d, rfl, hc, hr, hb3⟩ := hq.made
  clear hq
  have HB3 := Aside0.mk (below_step (HV1.out) hb3)
  have HK8 := Aside0.mk (blk_below (HK5.out) hb3)
  have HK9 := Aside0.mk (blk_below (HN1.out) hb3)
  have HT10 := Aside0.mk ((HT6.out).below hb3)
  have HT11 := Aside0.mk ((HT7.out).below hb3)
  have HS3 := Aside0.mk hb3
  have HCB := Aside0.mk hc
  have HRB := Aside0.mk hr
  clear hc hr hb3
  have c_o0 : w3.cell? ⟨w.heap.size, 0, none⟩ = some (Value.slice As ss.length cs) := (blk_cell HK8.out 0).trans rfl
  have f_o0 := blk_frozen HK8.out 0
  have a_o0 : ∀ o, (w3.alloc o).cell? ⟨w.heap.size, 0, none⟩ = some (Value.slice As ss.length cs) := fun o => (blk_cell (blk_alloc HK8.out o) 0).trans rfl
  have c_o1 : w3.cell? ⟨w.heap.size, 1, none⟩ = some (Value.slice At ts.length ct) := (blk_cell HK8.out 1).trans rfl
  have f_o1 := blk_frozen HK8.out 1
  have a_o1 : ∀ o, (w3.alloc o).cell? ⟨w.heap.size, 1, none⟩ = some (Value.slice At ts.length ct) := fun o => (blk_cell (blk_alloc HK8.out o) 1).trans rfl
  have c_own0 : w3.cell? ⟨w2.heap.size, 0, none⟩ = some (Value.slice Bs ss.length ds) := (blk_cell HK9.out 0).trans rfl
  have f_own0 := blk_frozen HK9.out 0
  have a_own0 : ∀ o, (w3.alloc o).cell? ⟨w2.heap.size, 0, none⟩ = some (Value.slice Bs ss.length ds) := fun o => (blk_cell (blk_alloc HK9.out o) 0).trans rfl
  have c_own1 : w3.cell? ⟨w2.heap.size, 1, none⟩ = some (Value.slice Bt ts.length dt) := (blk_cell HK9.out 1).trans rfl
  have f_own1 := blk_frozen HK9.out 1
  have a_own1 : ∀ o, (w3.alloc o).cell? ⟨w2.heap.size, 1, none⟩ = some (Value.slice Bt ts.length dt) := fun o => (blk_cell (blk_alloc HK9.out o) 1).trans rfl
  go_wp2_with fail
  clear c_o0 f_o0 a_o0 c_o1 f_o1 a_o1 c_own0 f_own0 a_own0 c_own1 f_own1 a_own1
  obtain ⟨v2, he2⟩ : ∃ W, W = (w3.alloc (.cells #[Value.string q.2.schema, Value.string q.2.name, Value.string q.2.owner, Value.slice B3 q.2.cols.length B3d, Value.slice B4 q.2.rules.length B4d] 35)) := ⟨_, rfl⟩
  have hb_ : Below w3.heap.size w3 v2 := by rw [he2]; exact below_alloc (Below.refl _ _) _
  have HZ2 := Aside0.mk (show v2.heap.size = w3.heap.size + 1 by rw [he2]; simp)
  have HN2 := Aside0.mk (show v2.heap[w3.heap.size]? = some (.cells #[Value.string q.2.schema, Value.string q.2.name, Value.string q.2.owner, Value.slice B3 q.2.cols.length B3d, Value.slice B4 q.2.rules.length B4d] 35 (0, 0)) by rw [he2]; exact blk_new _ _)
  have HV2 := Aside0.mk (below_step (HB3.out) hb_)
  have HK12 := Aside0.mk (blk_below (HK8.out) hb_)
  have HK13 := Aside0.mk (blk_below (HK9.out) hb_)
  have HT14 := Aside0.mk ((HT10.out).below hb_)
  have HT15 := Aside0.mk ((HT11.out).below hb_)
  have HT16 := Aside0.mk (Kd.R_below (HCB.out) hb_)
  have HT17 := Aside0.mk (Kd.R_below (HRB.out) hb_)
  rw [← he2]
  clear he2
  refine (rFind.calls (cs := ds) (ct := dt) ss ts schema table v2 (Kd.F_now (HT15.out.OF).1) hsl3 (Kd.F_now (HT15.out.OF).2) HFF.out HTB.out).mono ?_
  rw [← HQ.out]
  rintro e w4 hq
  obtain ⟨C3, C3d, C4, C4d, rfl, hc, hr, hb4⟩ := hq.made
  clear hq
  have HB4 := Aside0.mk (below_step (HV2.out) hb4)
  have HK18 := Aside0.mk (blk_below (HK12.out) hb4)
  have HK19 := Aside0.mk (blk_below (HK13.out) hb4)
  have HK20 := Aside0.mk (blk_below (HN2.out) hb4)
  have HT21 := Aside0.mk ((HT14.out).below hb4)
  have HT22 := Aside0.mk ((HT15.out).below hb4)
  have HT23 := Aside0.mk (Kd.R_below (HT16.out) hb4)
  have HT24 := Aside0.mk (Kd.R_below (HT17.out) hb4)
  have HS4 := Aside0.mk hb4
  have HCC := Aside0.mk hc
  have HRC := Aside0.mk hr
  clear hc hr hb4
  have c_o0 : w4.cell? ⟨w.heap.size, 0, none⟩ = some (Value.slice As ss.length cs) := (blk_cell HK18.out 0).trans rfl
  have f_o0 := blk_frozen HK18.out 0
  have a_o0 : ∀ o, (w4.alloc o).cell? ⟨w.heap.size, 0, none⟩ = some (Value.slice As ss.length cs) := fun o => (blk_cell (blk_alloc HK18.out o) 0).trans rfl
  have c_o1 : w4.cell? ⟨w.heap.size, 1, none⟩ = some (Value.slice At ts.length ct) := (blk_cell HK18.out 1).trans rfl
  have f_o1 := blk_frozen HK18.out 1
  have a_o1 : ∀ o, (w4.alloc o).cell? ⟨w.heap.size, 1, none⟩ = some (Value.slice At ts.length ct) := fun o => (blk_cell (blk_alloc HK18.out o) 1).trans rfl
  have c_own0 : w4.cell? ⟨w2.heap.size, 0, none⟩ = some (Value.slice Bs ss.length ds) := (blk_cell HK19.out 0).trans rfl
  have f_own0 := blk_frozen HK19.out 0
  have a_own0 : ∀ o, (w4.alloc o).cell? ⟨w2.heap.size, 0, none⟩ = some (Value.slice Bs ss.length ds) := fun o => (blk_cell (blk_alloc HK19.out o) 0).trans rfl
  have c_own1 : w4.cell? ⟨w2.heap.size, 1, none⟩ = some (Value.slice Bt ts.length dt) := (blk_cell HK19.out 1).trans rfl
  have f_own1 := blk_frozen HK19.out 1
  have a_own1 : ∀ o, (w4.alloc o).cell? ⟨w2.heap.size, 1, none⟩ = some (Value.slice Bt ts.length dt) := fun o => (blk_cell (blk_alloc HK19.out o) 1).trans rfl
  have c_t0 : w4.cell? ⟨w3.heap.size, 0, none⟩ = some (Value.string q.2.schema) := (blk_cell HK20.out 0).trans rfl
  have f_t0 := blk_frozen HK20.out 0
  have a_t0 : ∀ o, (w4.alloc o).cell? ⟨w3.heap.size, 0, none⟩ = some (Value.string q.2.schema) := fun o => (blk_cell (blk_alloc HK20.out o) 0).trans rfl
  have c_t1 : w4.cell? ⟨w3.heap.size, 1, none⟩ = some (Value.string q.2.name) := (blk_cell HK20.out 1).trans rfl
  have f_t1 := blk_frozen HK20.out 1
  have a_t1 : ∀ o, (w4.alloc o).cell? ⟨w3.heap.size, 1, none⟩ = some (Value.string q.2.name) := fun o => (blk_cell (blk_alloc HK20.out o) 1).trans rfl
  have c_t2 : w4.cell? ⟨w3.heap.size, 2, none⟩ = some (Value.string q.2.owner) := (blk_cell HK20.out 2).trans rfl
  have f_t2 := blk_frozen HK20.out 2
  have a_t2 : ∀ o, (w4.alloc o).cell? ⟨w3.heap.size, 2, none⟩ = some (Value.string q.2.owner) := fun o => (blk_cell (blk_alloc HK20.out o) 2).trans rfl
  have c_t3 : w4.cell? ⟨w3.heap.size, 3, none⟩ = some (Value.slice B3 q.2.cols.length B3d) := (blk_cell HK20.out 3).trans rfl
  have f_t3 := blk_frozen HK20.out 3
  have a_t3 : ∀ o, (w4.alloc o).cell? ⟨w3.heap.size, 3, none⟩ = some (Value.slice B3 q.2.cols.length B3d) := fun o => (blk_cell (blk_alloc HK20.out o) 3).trans rfl
  have c_t4 : w4.cell? ⟨w3.heap.size, 4, none⟩ = some (Value.slice B4 q.2.rules.length B4d) := (blk_cell HK20.out 4).trans rfl
  have f_t4 := blk_frozen HK20.out 4
  have a_t4 : ∀ o, (w4.alloc o).cell? ⟨w3.heap.size, 4, none⟩ = some (Value.slice B4 q.2.rules.length B4d) := fun o => (blk_cell (blk_alloc HK20.out o) 4).trans rfl
  go_wp2_with fail
  clear c_o0 f_o0 a_o0 c_o1 f_o1 a_o1 c_own0 f_own0 a_own0 c_own1 f_own1 a_own1 c_t0 f_t0 a_t0 c_t1 f_t1 a_t1 c_t2 f_t2 a_t2 c_t3 f_t3 a_t3 c_t4 f_t4 a_t4
  obtain ⟨v3, he3⟩ : ∃ W, W = (w4.alloc (.cells #[Value.string q.2.schema, Value.string q.2.name, Value.string q.2.owner, Value.slice C3 q.2.cols.length C3d, Value.slice C4 q.2.rules.length C4d] 35)) := ⟨_, rfl⟩
  have hb_ : Below w4.heap.size w4 v3 := by rw [he3]; exact below_alloc (Below.refl _ _) _
  have HZ3 := Aside0.mk (show v3.heap.size = w4.heap.size + 1 by rw [he3]; simp)
  have HN3 := Aside0.mk (show v3.heap[w4.heap.size]? = some (.cells #[Value.string q.2.schema, Value.string q.2.name, Value.string q.2.owner, Value.slice C3 q.2.cols.length C3d, Value.slice C4 q.2.rules.length C4d] 35 (0, 0)) by rw [he3]; exact blk_new _ _)
  have HV3 := Aside0.mk (below_step (HB4.out) hb_)
  have HK25 := Aside0.mk (blk_below (HK18.out) hb_)
  have HK26 := Aside0.mk (blk_below (HK19.out) hb_)
  have HK27 := Aside0.mk (blk_below (HK20.out) hb_)
  have HT28 := Aside0.mk ((HT21.out).below hb_)
  have HT29 := Aside0.mk ((HT22.out).below hb_)
  have HT30 := Aside0.mk (Kd.R_below (HT23.out) hb_)
  have HT31 := Aside0.mk (Kd.R_below (HT24.out) hb_)
  have HT32 := Aside0.mk (Kd.R_below (HCC.out) hb_)
  have HT33 := Aside0.mk (Kd.R_below (HRC.out) hb_)
  rw [← he3]
  clear he3
  refine (rSameTable.calls q.2 (c3 := B3d) (c4 := B4d) (d3 := C3d) (d4 := C4d) v3 (Kd.R_reads' HT30.out).2.2 (Kd.R_reads' HT31.out).2.2 (Kd.R_reads' HT32.out).2.2 (Kd.R_reads' HT33.out).2.2 HQB.out).mono ?_
  rintro e w5 ⟨rfl, hb5⟩
  have HB5 := Aside0.mk (below_step (HV3.out) hb5)
  have HK34 := Aside0.mk (blk_below (HK25.out) hb5)
  have HK35 := Aside0.mk (blk_below (HK26.out) hb5)
  have HK36 := Aside0.mk (blk_below (HK27.out) hb5)
  have HK37 := Aside0.mk (blk_below (HN3.out) hb5)
  have HT38 := Aside0.mk ((HT28.out).below hb5)
  have HT39 := Aside0.mk ((HT29.out).below hb5)
  have HT40 := Aside0.mk (Kd.R_below (HT30.out) hb5)
  have HT41 := Aside0.mk (Kd.R_below (HT31.out) hb5)
  have HT42 := Aside0.mk (Kd.R_below (HT32.out) hb5)
  have HT43 := Aside0.mk (Kd.R_below (HT33.out) hb5)
  have HS5 := Aside0.mk hb5
  clear hb5
  have c_o0 : w5.cell? ⟨w.heap.size, 0, none⟩ = some (Value.slice As ss.length cs) := (blk_cell HK34.out 0).trans rfl
  have f_o0 := blk_frozen HK34.out 0
  have c_o1 : w5.cell? ⟨w.heap.size, 1, none⟩ = some (Value.slice At ts.length ct) := (blk_cell HK34.out 1).trans rfl
  have f_o1 := blk_frozen HK34.out 1
  have c_own0 : w5.cell? ⟨w2.heap.size, 0, none⟩ = some (Value.slice Bs ss.length ds) := (blk_cell HK35.out 0).trans rfl
  have f_own0 := blk_frozen HK35.out 0
  have c_own1 : w5.cell? ⟨w2.heap.size, 1, none⟩ = some (Value.slice Bt ts.length dt) := (blk_cell HK35.out 1).trans rfl
  have f_own1 := blk_frozen HK35.out 1
  have c_t0 : w5.cell? ⟨w3.heap.size, 0, none⟩ = some (Value.string q.2.schema) := (blk_cell HK36.out 0).trans rfl
  have f_t0 := blk_frozen HK36.out 0
  have c_t1 : w5.cell? ⟨w3.heap.size, 1, none⟩ = some (Value.string q.2.name) := (blk_cell HK36.out 1).trans rfl
  have f_t1 := blk_frozen HK36.out 1
  have c_t2 : w5.cell? ⟨w3.heap.size, 2, none⟩ = some (Value.string q.2.owner) := (blk_cell HK36.out 2).trans rfl
  have f_t2 := blk_frozen HK36.out 2
  have c_t3 : w5.cell? ⟨w3.heap.size, 3, none⟩ = some (Value.slice B3 q.2.cols.length B3d) := (blk_cell HK36.out 3).trans rfl
  have f_t3 := blk_frozen HK36.out 3
  have c_t4 : w5.cell? ⟨w3.heap.size, 4, none⟩ = some (Value.slice B4 q.2.rules.length B4d) := (blk_cell HK36.out 4).trans rfl
  have f_t4 := blk_frozen HK36.out 4
  have c_u0 : w5.cell? ⟨w4.heap.size, 0, none⟩ = some (Value.string q.2.schema) := (blk_cell HK37.out 0).trans rfl
  have f_u0 := blk_frozen HK37.out 0
  have c_u1 : w5.cell? ⟨w4.heap.size, 1, none⟩ = some (Value.string q.2.name) := (blk_cell HK37.out 1).trans rfl
  have f_u1 := blk_frozen HK37.out 1
  have c_u2 : w5.cell? ⟨w4.heap.size, 2, none⟩ = some (Value.string q.2.owner) := (blk_cell HK37.out 2).trans rfl
  have f_u2 := blk_frozen HK37.out 2
  have c_u3 : w5.cell? ⟨w4.heap.size, 3, none⟩ = some (Value.slice C3 q.2.cols.length C3d) := (blk_cell HK37.out 3).trans rfl
  have f_u3 := blk_frozen HK37.out 3
  have c_u4 : w5.cell? ⟨w4.heap.size, 4, none⟩ = some (Value.slice C4 q.2.rules.length C4d) := (blk_cell HK37.out 4).trans rfl
  have f_u4 := blk_frozen HK37.out 4
  have hlq : q.2.cols.length ≤ 3000 := HQB.out.1
  go_wp2
  clear c_o0 f_o0 c_o1 f_o1 c_own0 f_own0 c_own1 f_own1 c_t0 f_t0 c_t1 f_t1 c_t2 f_t2 c_t3 f_t3 c_t4 f_t4 c_u0 f_u0 c_u1 f_u1 c_u2 f_u2 c_u3 f_u3 c_u4 f_u4
  go_loopw [15] (fun i w' => ∃ j : Nat, j ≤ q.2.cols.length ∧ i = .int .i64 j ∧ Aside0 (Ovr (fun k => v1.heap.size ≤ k ∧ k < w3.heap.size) w5 w')) (fun i _ => q.2.cols.length - (intOf i).toNat)
  case atStart => exact ⟨0, Nat.zero_le _, rfl, ⟨Ovr.refl _ _⟩⟩
  case round =>
    obtain ⟨j, hj, rfl, HJ⟩ := hrel
    have z0 := HB1.out.size
    have z1 := HB2.out.size
    have z2 := HS2.out.size
    have z3 := HZ1.out
    have z4 := HB3.out.size
    have z5 := HS3.out.size
    have z6 := HZ2.out
    have z7 := HB4.out.size
    have z8 := HS4.out.size
    have z9 := HZ3.out
    have z10 := HB5.out.size
    have z11 := HS5.out.size
    have HBr := Aside0.mk (((Spr.of_below (HB5.out)).trans (Ovr.spr HJ.out)).below (fun k hk => by have := hk.1; omega) (Nat.le_refl _))
    have HK44 := Aside0.mk (((Ovr.spr HJ.out).2.2.2.2 _ (blk_lt (HK34.out)) (fun hk => by have h1 := hk.1; have h2 := hk.2; omega)).trans (HK34.out))
    have HK45 := Aside0.mk (((Ovr.spr HJ.out).2.2.2.2 _ (blk_lt (HK35.out)) (fun hk => by have h1 := hk.1; have h2 := hk.2; omega)).trans (HK35.out))
    have HK46 := Aside0.mk (((Ovr.spr HJ.out).2.2.2.2 _ (blk_lt (HK36.out)) (fun hk => by have h1 := hk.1; have h2 := hk.2; omega)).trans (HK36.out))
    have HK47 := Aside0.mk (((Ovr.spr HJ.out).2.2.2.2 _ (blk_lt (HK37.out)) (fun hk => by have h1 := hk.1; have h2 := hk.2; omega)).trans (HK37.out))
    have HT48 := Aside0.mk ((HT38.out).step (Ovr.spr HJ.out) (fun k hk hs => by have hk' : k < w.heap.size := hk; have := hs.1; omega))
    have HT49 := Aside0.mk ((HT39.out).step (Ovr.spr HJ.out) (fun k h1 h2 hs => by have := hs.1; omega))
    clear z0 z1 z2 z3 z4 z5 z6 z7 z8 z9 z10 z11
    have c_t0 : wr.cell? ⟨w3.heap.size, 0, none⟩ = some (Value.string q.2.schema) := (blk_cell HK46.out 0).trans rfl
    have f_t0 := blk_frozen HK46.out 0
    have c_t1 : wr.cell? ⟨w3.heap.size, 1, none⟩ = some (Value.string q.2.name) := (blk_cell HK46.out 1).trans rfl
    have f_t1 := blk_frozen HK46.out 1
    have c_t2 : wr.cell? ⟨w3.heap.size, 2, none⟩ = some (Value.string q.2.owner) := (blk_cell HK46.out 2).trans rfl
    have f_t2 := blk_frozen HK46.out 2
    have c_t3 : wr.cell? ⟨w3.heap.size, 3, none⟩ = some (Value.slice B3 q.2.cols.length B3d) := (blk_cell HK46.out 3).trans rfl
    have f_t3 := blk_frozen HK46.out 3
    have c_t4 : wr.cell? ⟨w3.heap.size, 4, none⟩ = some (Value.slice B4 q.2.rules.length B4d) := (blk_cell HK46.out 4).trans rfl
    have f_t4 := blk_frozen HK46.out 4
    by_cases hlt : j < q.2.cols.length
    · obtain ⟨gc, ea, ok2, pl2, z0⟩ := ownCol (HT40.out) j hlt
      cases ea
      obtain ⟨⟨s0, z1⟩, z2⟩ := HJ.out.text pl2 z0
      have HN := Aside0.mk (HJ.out.store ok2 pl2 z0 ⟨#[111, 118, 101, 114]⟩)
      have j0 : (0 : Int) ≤ (j : Int) := by omega
      have j1 : (j : Int) < (q.2.cols.length : Int) := by omega
      clear ok2 pl2 z0
      go_wp2
      go_roundw
      case rel => exact ⟨j + 1, by omega, by go_num, HN⟩
      case measure => simp [intOf]; omega
    · have hd : decide (j < q.2.cols.length) = false := decide_eq_false hlt
      obtain ⟨r, hr⟩ : ∃ r, r = setOwner ss ts schema table owner := ⟨_, rfl⟩
      have HRB := Aside0.mk (setOwner_B (schema := schema) (table := table) (owner := owner) hsl3 HTB.out)
      rw [← hr] at HRB
      have HR := Aside0.mk hr
      clear hr
      have c_o0 : wr.cell? ⟨w.heap.size, 0, none⟩ = some (Value.slice As ss.length cs) := (blk_cell HK44.out 0).trans rfl
      have f_o0 := blk_frozen HK44.out 0
      have c_o1 : wr.cell? ⟨w.heap.size, 1, none⟩ = some (Value.slice At ts.length ct) := (blk_cell HK44.out 1).trans rfl
      have f_o1 := blk_frozen HK44.out 1
      have c_own0 : wr.cell? ⟨w2.heap.size, 0, none⟩ = some (Value.slice Bs ss.length ds) := (blk_cell HK45.out 0).trans rfl
      have f_own0 := blk_frozen HK45.out 0
      have c_own1 : wr.cell? ⟨w2.heap.size, 1, none⟩ = some (Value.slice Bt ts.length dt) := (blk_cell HK45.out 1).trans rfl
      have f_own1 := blk_frozen HK45.out 1
      have c_u0 : wr.cell? ⟨w4.heap.size, 0, none⟩ = some (Value.string q.2.schema) := (blk_cell HK47.out 0).trans rfl
      have f_u0 := blk_frozen HK47.out 0
      have c_u1 : wr.cell? ⟨w4.heap.size, 1, none⟩ = some (Value.string q.2.name) := (blk_cell HK47.out 1).trans rfl
      have f_u1 := blk_frozen HK47.out 1
      have c_u2 : wr.cell? ⟨w4.heap.size, 2, none⟩ = some (Value.string q.2.owner) := (blk_cell HK47.out 2).trans rfl
      have f_u2 := blk_frozen HK47.out 2
      have c_u3 : wr.cell? ⟨w4.heap.size, 3, none⟩ = some (Value.slice C3 q.2.cols.length C3d) := (blk_cell HK47.out 3).trans rfl
      have f_u3 := blk_frozen HK47.out 3
      have c_u4 : wr.cell? ⟨w4.heap.size, 4, none⟩ = some (Value.slice C4 q.2.rules.length C4d) := (blk_cell HK47.out 4).trans rfl
      have f_u4 := blk_frozen HK47.out 4
      go_wp2_with fail
      clear c_t0 f_t0 c_t1 f_t1 c_t2 f_t2 c_t3 f_t3 c_t4 f_t4 c_o0 f_o0 c_o1 f_o1 c_own0 f_own0 c_own1 f_own1 c_u0 f_u0 c_u1 f_u1 c_u2 f_u2 c_u3 f_u3 c_u4 f_u4
      refine (calls_made (SetOwner.calls (cs := cs) (ct := ct) ss ts schema table owner wr (Kd.F_now HT48.out.1) hsl3 (Kd.F_now HT48.out.2) HFF.out HTB.out)).mono ?_
      rw [← HR.out]
      rintro e w6 ⟨Es, Esd, Et, Etd, rfl, hx, hb6⟩
      have HB6 := Aside0.mk (below_step (HBr.out) hb6)
      have HK50 := Aside0.mk (blk_below (HK44.out) hb6)
      have HK51 := Aside0.mk (blk_below (HK45.out) hb6)
      have HK52 := Aside0.mk (blk_below (HK46.out) hb6)
      have HK53 := Aside0.mk (blk_below (HK47.out) hb6)
      have HT54 := Aside0.mk ((HT48.out).below hb6)
      have HT55 := Aside0.mk ((HT49.out).below hb6)
      have HS6 := Aside0.mk hb6
      have HM6 := Aside0.mk hx
      clear hx hb6
      have c_o0 : w6.cell? ⟨w.heap.size, 0, none⟩ = some (Value.slice As ss.length cs) := (blk_cell HK50.out 0).trans rfl
      have f_o0 := blk_frozen HK50.out 0
      have a_o0 : ∀ o, (w6.alloc o).cell? ⟨w.heap.size, 0, none⟩ = some (Value.slice As ss.length cs) := fun o => (blk_cell (blk_alloc HK50.out o) 0).trans rfl
      have c_o1 : w6.cell? ⟨w.heap.size, 1, none⟩ = some (Value.slice At ts.length ct) := (blk_cell HK50.out 1).trans rfl
      have f_o1 := blk_frozen HK50.out 1
      have a_o1 : ∀ o, (w6.alloc o).cell? ⟨w.heap.size, 1, none⟩ = some (Value.slice At ts.length ct) := fun o => (blk_cell (blk_alloc HK50.out o) 1).trans rfl
      have c_own0 : w6.cell? ⟨w2.heap.size, 0, none⟩ = some (Value.slice Bs ss.length ds) := (blk_cell HK51.out 0).trans rfl
      have f_own0 := blk_frozen HK51.out 0
      have a_own0 : ∀ o, (w6.alloc o).cell? ⟨w2.heap.size, 0, none⟩ = some (Value.slice Bs ss.length ds) := fun o => (blk_cell (blk_alloc HK51.out o) 0).trans rfl
      have c_own1 : w6.cell? ⟨w2.heap.size, 1, none⟩ = some (Value.slice Bt ts.length dt) := (blk_cell HK51.out 1).trans rfl
      have f_own1 := blk_frozen HK51.out 1
      have a_own1 : ∀ o, (w6.alloc o).cell? ⟨w2.heap.size, 1, none⟩ = some (Value.slice Bt ts.length dt) := fun o => (blk_cell (blk_alloc HK51.out o) 1).trans rfl
      have c_t0 : w6.cell? ⟨w3.heap.size, 0, none⟩ = some (Value.string q.2.schema) := (blk_cell HK52.out 0).trans rfl
      have f_t0 := blk_frozen HK52.out 0
      have a_t0 : ∀ o, (w6.alloc o).cell? ⟨w3.heap.size, 0, none⟩ = some (Value.string q.2.schema) := fun o => (blk_cell (blk_alloc HK52.out o) 0).trans rfl
      have c_t1 : w6.cell? ⟨w3.heap.size, 1, none⟩ = some (Value.string q.2.name) := (blk_cell HK52.out 1).trans rfl
      have f_t1 := blk_frozen HK52.out 1
      have a_t1 : ∀ o, (w6.alloc o).cell? ⟨w3.heap.size, 1, none⟩ = some (Value.string q.2.name) := fun o => (blk_cell (blk_alloc HK52.out o) 1).trans rfl
      have c_t2 : w6.cell? ⟨w3.heap.size, 2, none⟩ = some (Value.string q.2.owner) := (blk_cell HK52.out 2).trans rfl
      have f_t2 := blk_frozen HK52.out 2
      have a_t2 : ∀ o, (w6.alloc o).cell? ⟨w3.heap.size, 2, none⟩ = some (Value.string q.2.owner) := fun o => (blk_cell (blk_alloc HK52.out o) 2).trans rfl
      have c_t3 : w6.cell? ⟨w3.heap.size, 3, none⟩ = some (Value.slice B3 q.2.cols.length B3d) := (blk_cell HK52.out 3).trans rfl
      have f_t3 := blk_frozen HK52.out 3
      have a_t3 : ∀ o, (w6.alloc o).cell? ⟨w3.heap.size, 3, none⟩ = some (Value.slice B3 q.2.cols.length B3d) := fun o => (blk_cell (blk_alloc HK52.out o) 3).trans rfl
      have c_t4 : w6.cell? ⟨w3.heap.size, 4, none⟩ = some (Value.slice B4 q.2.rules.length B4d) := (blk_cell HK52.out 4).trans rfl
      have f_t4 := blk_frozen HK52.out 4
      have a_t4 : ∀ o, (w6.alloc o).cell? ⟨w3.heap.size, 4, none⟩ = some (Value.slice B4 q.2.rules.length B4d) := fun o => (blk_cell (blk_alloc HK52.out o) 4).trans rfl
      have c_u0 : w6.cell? ⟨w4.heap.size, 0, none⟩ = some (Value.string q.2.schema) := (blk_cell HK53.out 0).trans rfl
      have f_u0 := blk_frozen HK53.out 0
      have a_u0 : ∀ o, (w6.alloc o).cell? ⟨w4.heap.size, 0, none⟩ = some (Value.string q.2.schema) := fun o => (blk_cell (blk_alloc HK53.out o) 0).trans rfl
      have c_u1 : w6.cell? ⟨w4.heap.size, 1, none⟩ = some (Value.string q.2.name) := (blk_cell HK53.out 1).trans rfl
      have f_u1 := blk_frozen HK53.out 1
      have a_u1 : ∀ o, (w6.alloc o).cell? ⟨w4.heap.size, 1, none⟩ = some (Value.string q.2.name) := fun o => (blk_cell (blk_alloc HK53.out o) 1).trans rfl
      have c_u2 : w6.cell? ⟨w4.heap.size, 2, none⟩ = some (Value.string q.2.owner) := (blk_cell HK53.out 2).trans rfl
      have f_u2 := blk_frozen HK53.out 2
      have a_u2 : ∀ o, (w6.alloc o).cell? ⟨w4.heap.size, 2, none⟩ = some (Value.string q.2.owner) := fun o => (blk_cell (blk_alloc HK53.out o) 2).trans rfl
      have c_u3 : w6.cell? ⟨w4.heap.size, 3, none⟩ = some (Value.slice C3 q.2.cols.length C3d) := (blk_cell HK53.out 3).trans rfl
      have f_u3 := blk_frozen HK53.out 3
      have a_u3 : ∀ o, (w6.alloc o).cell? ⟨w4.heap.size, 3, none⟩ = some (Value.slice C3 q.2.cols.length C3d) := fun o => (blk_cell (blk_alloc HK53.out o) 3).trans rfl
      have c_u4 : w6.cell? ⟨w4.heap.size, 4, none⟩ = some (Value.slice C4 q.2.rules.length C4d) := (blk_cell HK53.out 4).trans rfl
      have f_u4 := blk_frozen HK53.out 4
      have a_u4 : ∀ o, (w6.alloc o).cell? ⟨w4.heap.size, 4, none⟩ = some (Value.slice C4 q.2.rules.length C4d) := fun o => (blk_cell (blk_alloc HK53.out o) 4).trans rfl
      go_wp2_with fail
      clear c_o0 f_o0 a_o0 c_o1 f_o1 a_o1 c_own0 f_own0 a_own0 c_own1 f_own1 a_own1 c_t0 f_t0 a_t0 c_t1 f_t1 a_t1 c_t2 f_t2 a_t2 c_t3 f_t3 a_t3 c_t4 f_t4 a_t4 c_u0 f_u0 a_u0 c_u1 f_u1 a_u1 c_u2 f_u2 a_u2 c_u3 f_u3 a_u3 c_u4 f_u4 a_u4
      obtain ⟨v4, he4⟩ : ∃ W, W = (w6.alloc (.cells #[Value.slice Es r.2.1.length Esd, Value.slice Et r.2.2.length Etd] 26)) := ⟨_, rfl⟩
      have hb_ : Below w6.heap.size w6 v4 := by rw [he4]; exact below_alloc (Below.refl _ _) _
      have HZ4 := Aside0.mk (show v4.heap.size = w6.heap.size + 1 by rw [he4]; simp)
      have HN4 := Aside0.mk (show v4.heap[w6.heap.size]? = some (.cells #[Value.slice Es r.2.1.length Esd, Value.slice Et r.2.2.length Etd] 26 (0, 0)) by rw [he4]; exact blk_new _ _)
      have HV4 := Aside0.mk (below_step (HB6.out) hb_)
      have HK56 := Aside0.mk (blk_below (HK50.out) hb_)
      have HK57 := Aside0.mk (blk_below (HK51.out) hb_)
      have HK58 := Aside0.mk (blk_below (HK52.out) hb_)
      have HK59 := Aside0.mk (blk_below (HK53.out) hb_)
      have HT60 := Aside0.mk ((HT54.out).below hb_)
      have HT61 := Aside0.mk ((HT55.out).below hb_)
      have HT62 := Aside0.mk ((HM6.out).below hb_)
      rw [← he4]
      clear he4
      refine (calls_made (rSetOwner.calls (cs := ds) (ct := dt) ss ts schema table owner v4 (Kd.F_now (HT61.out).OF.1) hsl3 (Kd.F_now (HT61.out).OF.2) HFF.out HTB.out)).mono ?_
      rw [← HR.out]
      rintro e w7 ⟨Fs, Fsd, Ft, Ftd, rfl, hx, hb7⟩
      have HB7 := Aside0.mk (below_step (HV4.out) hb7)
      have HK63 := Aside0.mk (blk_below (HK56.out) hb7)
      have HK64 := Aside0.mk (blk_below (HK57.out) hb7)
      have HK65 := Aside0.mk (blk_below (HK58.out) hb7)
      have HK66 := Aside0.mk (blk_below (HK59.out) hb7)
      have HK67 := Aside0.mk (blk_below (HN4.out) hb7)
      have HT68 := Aside0.mk ((HT60.out).below hb7)
      have HT69 := Aside0.mk ((HT61.out).below hb7)
      have HT70 := Aside0.mk ((HT62.out).below hb7)
      have HS7 := Aside0.mk hb7
      have HM7 := Aside0.mk hx
      clear hx hb7
      have c_o0 : w7.cell? ⟨w.heap.size, 0, none⟩ = some (Value.slice As ss.length cs) := (blk_cell HK63.out 0).trans rfl
      have f_o0 := blk_frozen HK63.out 0
      have a_o0 : ∀ o, (w7.alloc o).cell? ⟨w.heap.size, 0, none⟩ = some (Value.slice As ss.length cs) := fun o => (blk_cell (blk_alloc HK63.out o) 0).trans rfl
      have c_o1 : w7.cell? ⟨w.heap.size, 1, none⟩ = some (Value.slice At ts.length ct) := (blk_cell HK63.out 1).trans rfl
      have f_o1 := blk_frozen HK63.out 1
      have a_o1 : ∀ o, (w7.alloc o).cell? ⟨w.heap.size, 1, none⟩ = some (Value.slice At ts.length ct) := fun o => (blk_cell (blk_alloc HK63.out o) 1).trans rfl
      have c_own0 : w7.cell? ⟨w2.heap.size, 0, none⟩ = some (Value.slice Bs ss.length ds) := (blk_cell HK64.out 0).trans rfl
      have f_own0 := blk_frozen HK64.out 0
      have a_own0 : ∀ o, (w7.alloc o).cell? ⟨w2.heap.size, 0, none⟩ = some (Value.slice Bs ss.length ds) := fun o => (blk_cell (blk_alloc HK64.out o) 0).trans rfl
      have c_own1 : w7.cell? ⟨w2.heap.size, 1, none⟩ = some (Value.slice Bt ts.length dt) := (blk_cell HK64.out 1).trans rfl
      have f_own1 := blk_frozen HK64.out 1
      have a_own1 : ∀ o, (w7.alloc o).cell? ⟨w2.heap.size, 1, none⟩ = some (Value.slice Bt ts.length dt) := fun o => (blk_cell (blk_alloc HK64.out o) 1).trans rfl
      have c_t0 : w7.cell? ⟨w3.heap.size, 0, none⟩ = some (Value.string q.2.schema) := (blk_cell HK65.out 0).trans rfl
      have f_t0 := blk_frozen HK65.out 0
      have a_t0 : ∀ o, (w7.alloc o).cell? ⟨w3.heap.size, 0, none⟩ = some (Value.string q.2.schema) := fun o => (blk_cell (blk_alloc HK65.out o) 0).trans rfl
      have c_t1 : w7.cell? ⟨w3.heap.size, 1, none⟩ = some (Value.string q.2.name) := (blk_cell HK65.out 1).trans rfl
      have f_t1 := blk_frozen HK65.out 1
      have a_t1 : ∀ o, (w7.alloc o).cell? ⟨w3.heap.size, 1, none⟩ = some (Value.string q.2.name) := fun o => (blk_cell (blk_alloc HK65.out o) 1).trans rfl
      have c_t2 : w7.cell? ⟨w3.heap.size, 2, none⟩ = some (Value.string q.2.owner) := (blk_cell HK65.out 2).trans rfl
      have f_t2 := blk_frozen HK65.out 2
      have a_t2 : ∀ o, (w7.alloc o).cell? ⟨w3.heap.size, 2, none⟩ = some (Value.string q.2.owner) := fun o => (blk_cell (blk_alloc HK65.out o) 2).trans rfl
      have c_t3 : w7.cell? ⟨w3.heap.size, 3, none⟩ = some (Value.slice B3 q.2.cols.length B3d) := (blk_cell HK65.out 3).trans rfl
      have f_t3 := blk_frozen HK65.out 3
      have a_t3 : ∀ o, (w7.alloc o).cell? ⟨w3.heap.size, 3, none⟩ = some (Value.slice B3 q.2.cols.length B3d) := fun o => (blk_cell (blk_alloc HK65.out o) 3).trans rfl
      have c_t4 : w7.cell? ⟨w3.heap.size, 4, none⟩ = some (Value.slice B4 q.2.rules.length B4d) := (blk_cell HK65.out 4).trans rfl
      have f_t4 := blk_frozen HK65.out 4
      have a_t4 : ∀ o, (w7.alloc o).cell? ⟨w3.heap.size, 4, none⟩ = some (Value.slice B4 q.2.rules.length B4d) := fun o => (blk_cell (blk_alloc HK65.out o) 4).trans rfl
      have c_u0 : w7.cell? ⟨w4.heap.size, 0, none⟩ = some (Value.string q.2.schema) := (blk_cell HK66.out 0).trans rfl
      have f_u0 := blk_frozen HK66.out 0
      have a_u0 : ∀ o, (w7.alloc o).cell? ⟨w4.heap.size, 0, none⟩ = some (Value.string q.2.schema) := fun o => (blk_cell (blk_alloc HK66.out o) 0).trans rfl
      have c_u1 : w7.cell? ⟨w4.heap.size, 1, none⟩ = some (Value.string q.2.name) := (blk_cell HK66.out 1).trans rfl
      have f_u1 := blk_frozen HK66.out 1
      have a_u1 : ∀ o, (w7.alloc o).cell? ⟨w4.heap.size, 1, none⟩ = some (Value.string q.2.name) := fun o => (blk_cell (blk_alloc HK66.out o) 1).trans rfl
      have c_u2 : w7.cell? ⟨w4.heap.size, 2, none⟩ = some (Value.string q.2.owner) := (blk_cell HK66.out 2).trans rfl
      have f_u2 := blk_frozen HK66.out 2
      have a_u2 : ∀ o, (w7.alloc o).cell? ⟨w4.heap.size, 2, none⟩ = some (Value.string q.2.owner) := fun o => (blk_cell (blk_alloc HK66.out o) 2).trans rfl
      have c_u3 : w7.cell? ⟨w4.heap.size, 3, none⟩ = some (Value.slice C3 q.2.cols.length C3d) := (blk_cell HK66.out 3).trans rfl
      have f_u3 := blk_frozen HK66.out 3
      have a_u3 : ∀ o, (w7.alloc o).cell? ⟨w4.heap.size, 3, none⟩ = some (Value.slice C3 q.2.cols.length C3d) := fun o => (blk_cell (blk_alloc HK66.out o) 3).trans rfl
      have c_u4 : w7.cell? ⟨w4.heap.size, 4, none⟩ = some (Value.slice C4 q.2.rules.length C4d) := (blk_cell HK66.out 4).trans rfl
      have f_u4 := blk_frozen HK66.out 4
      have a_u4 : ∀ o, (w7.alloc o).cell? ⟨w4.heap.size, 4, none⟩ = some (Value.slice C4 q.2.rules.length C4d) := fun o => (blk_cell (blk_alloc HK66.out o) 4).trans rfl
      have c_x0 : w7.cell? ⟨w6.heap.size, 0, none⟩ = some (Value.slice Es r.2.1.length Esd) := (blk_cell HK67.out 0).trans rfl
      have f_x0 := blk_frozen HK67.out 0
      have a_x0 : ∀ o, (w7.alloc o).cell? ⟨w6.heap.size, 0, none⟩ = some (Value.slice Es r.2.1.length Esd) := fun o => (blk_cell (blk_alloc HK67.out o) 0).trans rfl
      have c_x1 : w7.cell? ⟨w6.heap.size, 1, none⟩ = some (Value.slice Et r.2.2.length Etd) := (blk_cell HK67.out 1).trans rfl
      have f_x1 := blk_frozen HK67.out 1
      have a_x1 : ∀ o, (w7.alloc o).cell? ⟨w6.heap.size, 1, none⟩ = some (Value.slice Et r.2.2.length Etd) := fun o => (blk_cell (blk_alloc HK67.out o) 1).trans rfl
      go_wp2_with fail
      clear c_o0 f_o0 a_o0 c_o1 f_o1 a_o1 c_own0 f_own0 a_own0 c_own1 f_own1 a_own1 c_t0 f_t0 a_t0 c_t1 f_t1 a_t1 c_t2 f_t2 a_t2 c_t3 f_t3 a_t3 c_t4 f_t4 a_t4 c_u0 f_u0 a_u0 c_u1 f_u1 a_u1 c_u2 f_u2 a_u2 c_u3 f_u3 a_u3 c_u4 f_u4 a_u4 c_x0 f_x0 a_x0 c_x1 f_x1 a_x1
      obtain ⟨v5, he5⟩ : ∃ W, W = (w7.alloc (.cells #[Value.slice Fs r.2.1.length Fsd, Value.slice Ft r.2.2.length Ftd] 26)) := ⟨_, rfl⟩
      have hb_ : Below w7.heap.size w7 v5 := by rw [he5]; exact below_alloc (Below.refl _ _) _
      have HZ5 := Aside0.mk (show v5.heap.size = w7.heap.size + 1 by rw [he5]; simp)
      have HN5 := Aside0.mk (show v5.heap[w7.heap.size]? = some (.cells #[Value.slice Fs r.2.1.length Fsd, Value.slice Ft r.2.2.length Ftd] 26 (0, 0)) by rw [he5]; exact blk_new _ _)
      have HV5 := Aside0.mk (below_step (HB7.out) hb_)
      have HK71 := Aside0.mk (blk_below (HK63.out) hb_)
      have HK72 := Aside0.mk (blk_below (HK64.out) hb_)
      have HK73 := Aside0.mk (blk_below (HK65.out) hb_)
      have HK74 := Aside0.mk (blk_below (HK66.out) hb_)
      have HK75 := Aside0.mk (blk_below (HK67.out) hb_)
      have HT76 := Aside0.mk ((HT68.out).below hb_)
      have HT77 := Aside0.mk ((HT69.out).below hb_)
      have HT78 := Aside0.mk ((HT70.out).below hb_)
      have HT79 := Aside0.mk ((HM7.out).below hb_)
      rw [← he5]
      clear he5
      refine (finds.calls v5).mono ?_
      rintro e w8 ⟨rfl, hb8⟩
      have HB8 := Aside0.mk (below_step (HV5.out) hb8)
      have HK80 := Aside0.mk (blk_below (HK71.out) hb8)
      have HK81 := Aside0.mk (blk_below (HK72.out) hb8)
      have HK82 := Aside0.mk (blk_below (HK73.out) hb8)
      have HK83 := Aside0.mk (blk_below (HK74.out) hb8)
      have HK84 := Aside0.mk (blk_below (HK75.out) hb8)
      have HK85 := Aside0.mk (blk_below (HN5.out) hb8)
      have HT86 := Aside0.mk ((HT76.out).below hb8)
      have HT87 := Aside0.mk ((HT77.out).below hb8)
      have HT88 := Aside0.mk ((HT78.out).below hb8)
      have HT89 := Aside0.mk ((HT79.out).below hb8)
      have HS8 := Aside0.mk hb8
      clear hb8
      have c_o0 : w8.cell? ⟨w.heap.size, 0, none⟩ = some (Value.slice As ss.length cs) := (blk_cell HK80.out 0).trans rfl
      have f_o0 := blk_frozen HK80.out 0
      have c_o1 : w8.cell? ⟨w.heap.size, 1, none⟩ = some (Value.slice At ts.length ct) := (blk_cell HK80.out 1).trans rfl
      have f_o1 := blk_frozen HK80.out 1
      have c_own0 : w8.cell? ⟨w2.heap.size, 0, none⟩ = some (Value.slice Bs ss.length ds) := (blk_cell HK81.out 0).trans rfl
      have f_own0 := blk_frozen HK81.out 0
      have c_own1 : w8.cell? ⟨w2.heap.size, 1, none⟩ = some (Value.slice Bt ts.length dt) := (blk_cell HK81.out 1).trans rfl
      have f_own1 := blk_frozen HK81.out 1
      have c_t0 : w8.cell? ⟨w3.heap.size, 0, none⟩ = some (Value.string q.2.schema) := (blk_cell HK82.out 0).trans rfl
      have f_t0 := blk_frozen HK82.out 0
      have c_t1 : w8.cell? ⟨w3.heap.size, 1, none⟩ = some (Value.string q.2.name) := (blk_cell HK82.out 1).trans rfl
      have f_t1 := blk_frozen HK82.out 1
      have c_t2 : w8.cell? ⟨w3.heap.size, 2, none⟩ = some (Value.string q.2.owner) := (blk_cell HK82.out 2).trans rfl
      have f_t2 := blk_frozen HK82.out 2
      have c_t3 : w8.cell? ⟨w3.heap.size, 3, none⟩ = some (Value.slice B3 q.2.cols.length B3d) := (blk_cell HK82.out 3).trans rfl
      have f_t3 := blk_frozen HK82.out 3
      have c_t4 : w8.cell? ⟨w3.heap.size, 4, none⟩ = some (Value.slice B4 q.2.rules.length B4d) := (blk_cell HK82.out 4).trans rfl
      have f_t4 := blk_frozen HK82.out 4
      have c_u0 : w8.cell? ⟨w4.heap.size, 0, none⟩ = some (Value.string q.2.schema) := (blk_cell HK83.out 0).trans rfl
      have f_u0 := blk_frozen HK83.out 0
      have c_u1 : w8.cell? ⟨w4.heap.size, 1, none⟩ = some (Value.string q.2.name) := (blk_cell HK83.out 1).trans rfl
      have f_u1 := blk_frozen HK83.out 1
      have c_u2 : w8.cell? ⟨w4.heap.size, 2, none⟩ = some (Value.string q.2.owner) := (blk_cell HK83.out 2).trans rfl
      have f_u2 := blk_frozen HK83.out 2
      have c_u3 : w8.cell? ⟨w4.heap.size, 3, none⟩ = some (Value.slice C3 q.2.cols.length C3d) := (blk_cell HK83.out 3).trans rfl
      have f_u3 := blk_frozen HK83.out 3
      have c_u4 : w8.cell? ⟨w4.heap.size, 4, none⟩ = some (Value.slice C4 q.2.rules.length C4d) := (blk_cell HK83.out 4).trans rfl
      have f_u4 := blk_frozen HK83.out 4
      have c_x0 : w8.cell? ⟨w6.heap.size, 0, none⟩ = some (Value.slice Es r.2.1.length Esd) := (blk_cell HK84.out 0).trans rfl
      have f_x0 := blk_frozen HK84.out 0
      have c_x1 : w8.cell? ⟨w6.heap.size, 1, none⟩ = some (Value.slice Et r.2.2.length Etd) := (blk_cell HK84.out 1).trans rfl
      have f_x1 := blk_frozen HK84.out 1
      have c_y0 : w8.cell? ⟨w7.heap.size, 0, none⟩ = some (Value.slice Fs r.2.1.length Fsd) := (blk_cell HK85.out 0).trans rfl
      have f_y0 := blk_frozen HK85.out 0
      have c_y1 : w8.cell? ⟨w7.heap.size, 1, none⟩ = some (Value.slice Ft r.2.2.length Ftd) := (blk_cell HK85.out 1).trans rfl
      have f_y1 := blk_frozen HK85.out 1
      go_wp2_with fail
      clear c_o0 f_o0 c_o1 f_o1 c_own0 f_own0 c_own1 f_own1 c_t0 f_t0 c_t1 f_t1 c_t2 f_t2 c_t3 f_t3 c_t4 f_t4 c_u0 f_u0 c_u1 f_u1 c_u2 f_u2 c_u3 f_u3 c_u4 f_u4 c_x0 f_x0 c_x1 f_x1 c_y0 f_y0 c_y1 f_y1
      have z0 := HB1.out.size
      have z1 := HB2.out.size
      have z2 := HS2.out.size
      have z3 := HZ1.out
      have z4 := HB3.out.size
      have z5 := HS3.out.size
      have z6 := HZ2.out
      have z7 := HB4.out.size
      have z8 := HS4.out.size
      have z9 := HZ3.out
      have z10 := HB5.out.size
      have z11 := HS5.out.size
      have z12 := HJ.out.2.2.2.1
      have z13 := HB6.out.size
      have z14 := HS6.out.size
      have z15 := HZ4.out
      have z16 := HB7.out.size
      have z17 := HS7.out.size
      have z18 := HZ5.out
      have z19 := HB8.out.size
      have z20 := HS8.out.size
      refine (told.law r.1 r.2.1 r.2.2 ss ts w8 wr.heap.size w6.heap.size HT88.out (HT89.out).OF HT86.out (fun k hk hs => by have hk' : k < w.heap.size := hk; have := hs.1; omega) (HT87.out).OF (fun k hk hs => by have hk' := hk.2; have := hs.1; omega) (by omega) HRB.out.1 HRB.out.2 hsl3 HTB.out).mono ?_
      clear z0 z1 z2 z3 z4 z5 z6 z7 z8 z9 z10 z11 z12 z13 z14 z15 z16 z17 z18 z19 z20
      rintro e wz ⟨rfl, hz⟩
      have z0 := HB1.out.size
      have z1 := HB2.out.size
      have z2 := HS2.out.size
      have z3 := HZ1.out
      have z4 := HB3.out.size
      have z5 := HS3.out.size
      have z6 := HZ2.out
      have z7 := HB4.out.size
      have z8 := HS4.out.size
      have z9 := HZ3.out
      have z10 := HB5.out.size
      have z11 := HS5.out.size
      have z12 := HJ.out.2.2.2.1
      have z13 := HB6.out.size
      have z14 := HS6.out.size
      have z15 := HZ4.out
      have z16 := HB7.out.size
      have z17 := HS7.out.size
      have z18 := HZ5.out
      have z19 := HB8.out.size
      have z20 := HS8.out.size
      have HFIN := Aside0.mk (((Spr.of_below (HB8.out)).trans hz).below (B := w.heap.size) (fun k hk => by have := hk.1; omega) (Nat.le_refl _))
      clear z0 z1 z2 z3 z4 z5 z6 z7 z8 z9 z10 z11 z12 z13 z14 z15 z16 z17 z18 z19 z20
      clear hz
      go_wp2
      go_ret
      exact ⟨rfl, HFIN.out⟩
theorem law_ObjectsFinds.deep (x : List Sch × List Tab) (c : Option Addr × Nat × Option Addr × Nat) (a1 a2 a3 : ByteArray) (w : World) (h : ObjIn w x c) (_ : a1.size ≤ 140737488351232) (_ : a2.size ≤ 140737488351232) (_ : a3.size ≤ 140737488351232) : Calls Try.prog 5 #[objV x c, .string a1, .string a2, .string a3] w fun e w' => e = .returned (.bool true) ∧ Below w.heap.size w w' :=
  law_ObjectsFinds.calls x.1 x.2 a1 a2 a3 w h.1 (by have := h.2.1; omega) h.2.2.1 h.2.2.2.1
end Go.Proofs.Ytmmiehckgkadgaa.O
