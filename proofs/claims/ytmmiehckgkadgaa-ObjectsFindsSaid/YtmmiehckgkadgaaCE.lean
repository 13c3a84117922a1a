/- The document's Own: objects in memory of their own. -/
import Derived.Test.YtmmiehckgkadgaaCD
namespace Go.Proofs.Ytmmiehckgkadgaa.O
set_option linter.unusedVariables false
set_option linter.unusedSimpArgs false
open Go.RowKit Go.Proofs.YtmmiehckgkadgaaW.PrintWords

theorem ne_succ2 (n : Nat) : n ≠ n + 1 + 1 := by omega
theorem boxes3 (w : World) (o1 o2 o3 : Obj) : Below w.heap.size w (((w.alloc o1).alloc o2).alloc o3) ∧ (((w.alloc o1).alloc o2).alloc o3).heap[w.heap.size]? = some o1 ∧ (((w.alloc o1).alloc o2).alloc o3).heap[w.heap.size + 1]? = some o2 ∧ (((w.alloc o1).alloc o2).alloc o3).heap[w.heap.size + 1 + 1]? = some o3 :=
  ⟨below_alloc (boxes2 w o1 o2).1 _, blk_alloc (boxes2 w o1 o2).2.1 _, blk_alloc (boxes2 w o1 o2).2.2 _, by have := blk_new ((w.alloc o1).alloc o2) o3; rwa [show ((w.alloc o1).alloc o2).heap.size = w.heap.size + 1 + 1 from by simp] at this⟩
theorem rCopy.at_ (t : Tab) {A3 A4 : Option Addr} {c3 c4 : Nat} (w : World) (h3 : kCol.C w A3 t.cols.length t.cols) (h4 : kRul.C w A4 t.rules.length t.rules) (hF : TabB t) (W : World) (hW : Below w.heap.size w W) :
    Calls Try.prog 50 #[.agg #[.string t.schema, .string t.name, .string t.owner, .slice A3 t.cols.length c3, .slice A4 t.rules.length c4]] W fun e w' => ∃ B3 d3 B4 d4, e = .returned (.agg #[.string t.schema, .string t.name, .string t.owner, .slice B3 t.cols.length d3, .slice B4 t.rules.length d4]) ∧ kCol.R 41 w' W.heap.size (fun _ => True) (.slice B3 t.cols.length d3) t.cols ∧ kRul.R 57 w' W.heap.size (fun _ => True) (.slice B4 t.rules.length d4) t.rules ∧ Below W.heap.size W w' := by
  refine (rCopy.calls t W (Kd.C_below h3 hW) (Kd.C_below h4 hW) hF).mono ?_
  rintro e w' ⟨v3, v4, rfl, h3, h4, hb⟩
  obtain ⟨B3, d3, rfl⟩ := Kd.R_slice h3
  obtain ⟨B4, d4, rfl⟩ := Kd.R_slice h4
  exact ⟨B3, d3, B4, d4, rfl, h3, h4, hb⟩
set_option maxRecDepth 20000 in
set_option maxHeartbeats 2000000 in
theorem rOwn.calls {As At : Option Addr} {cs ct : Nat} (ss : List Sch) (ts : List Tab) (w : World) (hs : kSch.C w As ss.length ss) (hsl : ss.length ≤ 3000) (ht : kTab.C w At ts.length ts) (hF : TabsB ts) :
    Calls Try.prog 15 #[.agg #[.slice As ss.length cs, .slice At ts.length ct]] w fun e w' => ∃ Bs ds Bt dt, e = .returned (.agg #[.slice Bs ss.length ds, .slice Bt ts.length dt]) ∧ kSch.R 63 w' w.heap.size (fun _ => True) (.slice Bs ss.length ds) ss ∧ Kd.S kTab 35 w' w.heap.size (fun _ => True) (.slice Bt ts.length dt) ts ∧ Below w.heap.size w w' := by
  have hln : ts.length ≤ 3000 := hF.1
  have HF := Aside0.mk hF.2
  have HT := Aside0.mk ht
  have HC := Aside0.mk hs
  have HB3 := Aside0.mk (boxes3 w (.cells #[.slice As ss.length cs, .slice At ts.length ct] 26) (.cells #[.slice none 0 0, .slice none 0 0] 26) (.cells #[.slice none 0 0, .slice none 0 0] 26))
  clear hs ht hF
  go_enter Try.func15, Try.ntmps15
  go_wp2_with ((at_builtin; refine Kd.R_append_rows kSch (Rr := kSch.K w) (w0 := w) w.heap.size (by rfl) (.tmp 7) (.tmp 9) 23 63 (.agg #[(.string ⟨#[]⟩), (.string ⟨#[]⟩)]) 32 (by rfl) Try.underlying23 infoSch rfl (by decide) (by decide) (.slice none 0 0) [] ss As ss.length cs (fun _ => True) (fun _ => False) (by rfl) (by rfl) (Kd.R_nil _ _ _ _ _) (ReadsRow.imp_ HC.out HB3.out.1 (fun _ _ h => h)) (fun x c hk => flatSch w _ _ _ x c hk) (fun _ hk => hk.elim) (fun _ _ => trivial) HB3.out.1 HB3.out.1.size (by simp; omega) ?_; intro v1 w1 hR1 hB1 hg1 _; rw [List.nil_append] at hR1; obtain ⟨Bs, ds, rfl⟩ := Kd.R_slice hR1; have hK1 := blk_grown HB3.out.2.1 hg1 (by simp [Value.ownBlock]); have hZ1 := blk_grown HB3.out.2.2.1 hg1 (by simp [Value.ownBlock]); have hG1 := blk_grown HB3.out.2.2.2 hg1 (by simp [Value.ownBlock]); have e0 : w1.cell? ⟨w.heap.size + 1 + 1, 0, none⟩ = some (.slice none 0 0) := (blk_cell hG1 0).trans rfl; have f0 := blk_frozen hG1 0; have HS := Aside0.mk (And.intro (below_set (g := w.heap.size + 1 + 1) (j := 0) (v := .slice Bs ss.length ds) hB1 (by omega)) (And.intro (blk_far (p := ⟨w.heap.size + 1 + 1, 0, none⟩) hZ1 (ne_succ _) (.slice Bs ss.length ds)) (And.intro (blk_set hG1 0 (.slice Bs ss.length ds)) (And.intro (Kd.R_set hR1 hG1 (by decide) 0 (.slice Bs ss.length ds)) (blk_far (p := ⟨w.heap.size + 1 + 1, 0, none⟩) hK1 (ne_succ2 _) (.slice Bs ss.length ds)))))); clear hR1 hB1 hg1 hK1 hZ1 hG1))
  generalize w1.setCell ⟨w.heap.size + 1 + 1, 0, none⟩ (.slice Bs ss.length ds) = W1 at *
  clear e0 f0 HC HB3
  have HS2 : Aside0 (OwnI As At cs ct ss ts w (w.heap.size + 1 + 1) Bs ds W1 0 ∧ W1.heap[w.heap.size]? = some (.cells #[.slice As ss.length cs, .slice At ts.length ct] 26 (0, 0))) := ⟨⟨none, 0, HS.out.1, HS.out.2.1, HS.out.2.2.1, HS.out.2.2.2.1, Kd.S_nil _ _ _ _ _⟩, HS.out.2.2.2.2⟩
  clear HS
  go_loopw [4] (fun i w' => ∃ k : Nat, k ≤ ts.length ∧ i = .int .i64 k ∧ Aside0 (OwnI As At cs ct ss ts w (w.heap.size + 1 + 1) Bs ds w' k ∧ w'.heap[w.heap.size]? = some (.cells #[.slice As ss.length cs, .slice At ts.length ct] 26 (0, 0)))) (fun i _ => ts.length - (intOf i).toNat)
  case atStart => exact ⟨0, Nat.zero_le _, rfl, HS2⟩
  case round =>
    clear HS2
    obtain ⟨k, hk, rfl, HJ⟩ := hrel
    have hb1 : wr.cell? ⟨w.heap.size, 1, none⟩ = some (.slice At ts.length ct) := (blk_cell HJ.out.2 1).trans rfl
    by_cases hlt : k < ts.length
    · obtain ⟨⟨Bt, dt, hB, hZ, hG, hR, hS⟩, hK⟩ := HJ.out
      obtain ⟨ad, A3, c3, A4, c4, e, hc0, hc1, hc2, hc3, hc4, hl3, h3, hl4, h4⟩ := tabAt (Kd.C_below HT.out hB) k hlt
      cases e
      have HK := Aside0.mk (rCopy.at_ ts[k] (c3 := c3) (c4 := c4) wr h3 h4 (HF.out _ (List.getElem_mem hlt)))
      have hg1 : wr.cell? ⟨w.heap.size + 1 + 1, 1, none⟩ = some (.slice Bt k dt) := (blk_cell hG 1).trans rfl
      have HX := Aside0.mk (And.intro hB (And.intro hZ (And.intro hG (And.intro hR (And.intro hS hK)))))
      have h0 : (0 : Int) ≤ (k : Int) := by omega
      have h1 : (k : Int) < (ts.length : Int) := by omega
      clear hB hZ hG hR hS hK h3 h4 hl3 hl4 HJ HF
      go_wp2_with fail
      go_region_law (first
        | (refine append_tab (w0 := w) w.heap.size (by rfl) (.tmp 20) (.tmp 27) rfl (.slice Bt k dt) (ts.take k) ts[k] B3 B4 d3 d4 rfl rfl (Kd.S_drew HX.out.2.2.2.2.1) HV.out.2.2.1 HV.out.1 HV.out.2.1 (below_step (below_drew HX.out.1) HV.out.2.2.1) (below_drew HX.out.1).size (by have := List.length_take_le k ts; omega) ?_; intro v1 w3 hS3 hB3 hg3; obtain ⟨B1, d1, e1⟩ := Kd.S_slice hS3; rw [show (ts.take k ++ [ts[k]]).length = k + 1 from by simp; omega] at e1; subst e1; have hG3 := blk_grown HV.out.2.2.2 hg3 (Kd.S_ne (Kd.S_below (Kd.S_drew HX.out.2.2.2.2.1) HV.out.2.2.1) HV.out.2.2.2 (by decide)); have hg31 : w3.cell? ⟨w.heap.size + 1 + 1, 1, none⟩ = some (.slice Bt k dt) := (blk_cell hG3 1).trans rfl; have hf31 := blk_frozen hG3 1; have HY := Aside0.mk (And.intro hS3 (And.intro hB3 (And.intro hg3 hG3))); clear hS3 hB3 hg3 hG3)
        | (go_simp; go_wp2_with (go_at_call 50; refine (HK.out _ ?_).mono ?_; exact below_drew (Below.refl _ _); rintro e w2 ⟨B3, d3, B4, d4, rfl, h3, h4, hb⟩; have hG2 := blk_below (blk_drew HX.out.2.2.1) hb; have hg2 : w2.cell? ⟨w.heap.size + 1 + 1, 1, none⟩ = some (.slice Bt k dt) := (blk_cell hG2 1).trans rfl; have hg2a : ∀ o, (w2.alloc o).cell? ⟨w.heap.size + 1 + 1, 1, none⟩ = some (.slice Bt k dt) := fun o => (blk_cell (blk_alloc hG2 o) 1).trans rfl; have HV := Aside0.mk (And.intro h3 (And.intro h4 (And.intro hb hG2))); clear h3 h4 hb hG2)))
      all_goals
        have hbW := Aside0.mk (below_step (below_drew (Below.refl wr.heap.size wr)) HV.out.2.2.1)
        have HN := Aside0.mk (And.intro (OwnI.next (As := As) (At := some ad) (cs := cs) (ct := ct) hlt (ne_succ _) (by omega) HX.out.2.1 HX.out.2.2.2.1 HX.out.2.2.2.2.1 hbW.out HY.out.2.2.2 HY.out.1 HY.out.2.1 HY.out.2.2.1)
          (blk_far (p := ⟨w.heap.size + 1 + 1, 1, none⟩) (blk_grown (blk_below HX.out.2.2.2.2.2 hbW.out) HY.out.2.2.1 (Kd.S_ne (Kd.S_below HX.out.2.2.2.2.1 hbW.out) (blk_below HX.out.2.2.2.2.2 hbW.out) (by decide))) (ne_succ2 _) (.slice B1 (k + 1) d1)))
        clear HV HK HX HY hbW hg1 hg2 hg2a hg31 hf31 hb1 hc0 hc1 hc2 hc3 hc4
        go_wp2
        go_roundw
        case rel => exact ⟨k + 1, by omega, by go_num, HN⟩
        case measure => simp [intOf]; omega
    · have hd : decide (k < ts.length) = false := decide_eq_false hlt
      obtain rfl : k = ts.length := by omega
      obtain ⟨⟨Bt, dt, hB, hZ, hG, hR, hS⟩, _⟩ := HJ.out
      rw [List.take_length] at hS
      have c0 : wr.cell? ⟨w.heap.size + 1 + 1, 0, none⟩ = some (.slice Bs ss.length ds) := (blk_cell hG 0).trans rfl
      have c1 : wr.cell? ⟨w.heap.size + 1 + 1, 1, none⟩ = some (.slice Bt ts.length dt) := (blk_cell hG 1).trans rfl
      have z0 : wr.cell? ⟨w.heap.size + 1, 0, none⟩ = some (.slice none 0 0) := (blk_cell hZ 0).trans rfl
      have z1 : wr.cell? ⟨w.heap.size + 1, 1, none⟩ = some (.slice none 0 0) := (blk_cell hZ 1).trans rfl
      have f0 := blk_frozen hZ 0
      have f1 := blk_frozen hZ 1
      have HX := Aside0.mk (And.intro (R_only hR hZ (by decide) (set2_far wr (w.heap.size + 1) (.slice Bs ss.length ds) (.slice Bt ts.length dt)))
        (And.intro (S_only hS hZ (by decide) (set2_far wr (w.heap.size + 1) (.slice Bs ss.length ds) (.slice Bt ts.length dt)))
        (set2_below hB (Nat.le_succ _) (.slice Bs ss.length ds) (.slice Bt ts.length dt))))
      clear hB hZ hG hR hS HJ HT HF
      go_wp2
      refine bodyPost_ret (v := .agg #[.slice Bs ss.length ds, .slice Bt ts.length dt]) (by simp [results, Try.results15, go_sem, *]) rfl ?_
      exact ⟨_, _, _, _, rfl, HX.out⟩
end Go.Proofs.Ytmmiehckgkadgaa.O
