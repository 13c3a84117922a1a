/- Own lemmas and walks (SF, SG, RB, SH), without what the law does not need. Laid by a program of this session (prune.py). -/
import Derived.Test.YtmmiehckgkadgaaGreatPr26
import Derived.Test.YtmmiehckgkadgaaGreatPr27
import Derived.Test.YtmmiehckgkadgaaGreatPr28
namespace Go.Proofs.YtmmiehckgkadgaaGreat.O
set_option linter.unusedVariables false
set_option linter.unusedSimpArgs false
open Go.RowKit Go.Proofs.YtmmiehckgkadgaaGreatW.PrintWords Go.Sort
theorem chg_at {ss : List Sch} {ts : List Tab} {r : Res} {n : Int} (h : checkB ss ts = true) (hr : r = (n, [], [])) : chg ss ts r = (n, [], []) := by
  subst hr; unfold chg; rw [h]; simp only [if_true]
  split
  · rfl
  · rfl
theorem chg_ok {ss ss' : List Sch} {ts ts' : List Tab} {r : Res} (h : checkB ss ts = true) (hr : r = (0, ss', ts')) : chg ss ts r = (0, ss', ts') := by subst hr; unfold chg; rw [h]; rfl
theorem Out.schs {B b z : Nat} {w U wr : World} {ss' : List Sch} {ts : List Tab} {v vt : Value} {cs cz : Array Value} (hU : Below w.heap.size w U) (hwr : Below U.heap.size U wr) (hb : U.heap[b]? = some (.cells cs 25 (0, 0))) (hz : U.heap[z]? = some (.cells cz 25 (0, 0)))
    (hR : kSch.R 76 wr U.heap.size (fun _ => True) v ss') (hT : kTab.R 50 U B (fun _ => True) vt ts) (hB : w.heap.size ≤ B) (hwb : w.heap.size ≤ b) (hwz : w.heap.size ≤ z) :
    Out w (0, ss', ts) (.returned (.tuple #[.agg #[v, vt], .int .i64 0])) (((wr.setCell ⟨b, 0, none⟩ v).setCell ⟨z, 0, none⟩ v).setCell ⟨z, 1, none⟩ vt) := by
  have kb := blk_below hb hwr
  have kz := blk_below hz hwr
  have hR1 := Kd.R_set (Kd.R_lower hR hU.size) kb (by decide) 0 v
  have hT1 := Kd.R_set (Kd.R_lower (Kd.R_below hT hwr) hB) kb (by decide) 0 v
  have kz1 : ∃ c', (wr.setCell ⟨b, 0, none⟩ v).heap[z]? = some (.cells c' 25 (0, 0)) := by
    by_cases e : z = b
    · subst e; exact ⟨_, blk_set kb 0 v⟩
    · exact ⟨_, blk_far (p := ⟨b, 0, none⟩) kz e v⟩
  obtain ⟨c', kz1⟩ := kz1
  exact ⟨_, _, rfl, R_only hR1 kz1 (by decide) (set2_far _ _ _ _), R_only hT1 kz1 (by decide) (set2_far _ _ _ _), set2_below ((below_step hU hwr).setCell (p := ⟨b, 0, none⟩) hwb _) hwz _ _⟩
end Go.Proofs.YtmmiehckgkadgaaGreat.O
namespace Go.Proofs.YtmmiehckgkadgaaGreat.O
set_option linter.unusedVariables false
set_option linter.unusedSimpArgs false
open Go.RowKit Go.Proofs.YtmmiehckgkadgaaGreatW.PrintWords Go.Sort
theorem addSchema_B {ss : List Sch} {ts : List Tab} {name owner : ByteArray} (hs : ss.length ≤ 3000) (ht : TabsB ts) : (addSchema ss ts name owner).2.1.length ≤ 3000 ∧ TabsB (addSchema ss ts name owner).2.2 :=
  chg_B (by
    unfold addSchR
    split
    · split
      · exact ⟨Nat.zero_le _, tabsB_nil⟩
      · split
        · exact ⟨Nat.zero_le _, tabsB_nil⟩
        · refine ⟨?_, ht⟩
          show (ins _ _ ss).length ≤ 3000
          rw [(ins_perm _ ss).length_eq, List.length_append]; simp; omega
    · exact ⟨Nat.zero_le _, tabsB_nil⟩)
def schA : Sch := ⟨⟨#[97]⟩, ⟨#[111]⟩⟩
theorem addSchema_one : addSchema [sch1] [tab1] ⟨#[97]⟩ ⟨#[111]⟩ = (0, [schA, sch1], [tab1]) := by
  unfold addSchema
  refine chg_ok checkB_one ?_
  unfold addSchR
  rw [if_pos (by decide +kernel), if_neg (by decide +kernel), if_neg (by decide)]
  unfold ins
  rw [if_pos (by decide +kernel)]; rfl
theorem dropSchema_one : dropSchema [sch1] [tab1] ⟨#[115]⟩ = (62, [], []) := by
  unfold dropSchema
  refine chg_at checkB_one ?_
  unfold dropSchR
  rw [if_pos (by decide +kernel), if_pos (by decide +kernel)]
end Go.Proofs.YtmmiehckgkadgaaGreat.O
namespace Go.Proofs.YtmmiehckgkadgaaGreat.O
set_option linter.unusedVariables false
set_option linter.unusedSimpArgs false
open Go.Sort
theorem tabsF_nil : TabsF [] := ⟨by decide, fun t h => by simp at h⟩
theorem chg_right {ss : List Sch} {ts : List Tab} {r : Res} (h : Rt ss ts → r.1 = 0 → Rt r.2.1 r.2.2) (h0 : (chg ss ts r).1 = 0) : checkB (chg ss ts r).2.1 (chg ss ts r).2.2 = true := by
  unfold chg at h0 ⊢
  split at h0
  · rename_i hc
    rw [if_pos hc]
    split at h0
    · rename_i hr
      rw [if_pos hr]
      exact (h (of_check hc) hr).check
    · rename_i hr
      exact absurd h0 hr
  · cases h0
theorem chg_F {ss : List Sch} {ts : List Tab} {r : Res} (h : TabsF r.2.2) : TabsF (chg ss ts r).2.2 := by
  unfold chg
  split
  · split
    · exact h
    · exact tabsF_nil
  · exact tabsF_nil
theorem tch_right {ss : List Sch} {ts : List Tab} {schema table : ByteArray} {md : Tab → Int × Tab} (hm : ∀ k (hk : k < ts.length), ts[k].schema = schema → ts[k].name = table → (md ts[k]).1 = 0 → Rt ss (ts.set k (md ts[k]).2)) (h0 : (tch ss ts schema table md).1 = 0) : Rt (tch ss ts schema table md).2.1 (tch ss ts schema table md).2.2 := by
  unfold tch at h0 ⊢
  rcases idx_cases (isT schema table) ts with ⟨k, hk, e, y, _⟩ | ⟨e, _⟩
  · rw [e, if_pos (by omega), Int.toNat_natCast, getD_at hk] at h0 ⊢
    have y' := isT_eq.1 y
    exact hm k hk y'.1 y'.2 h0
  · rw [e] at h0; cases h0
theorem tch_F {ss : List Sch} {ts : List Tab} {schema table : ByteArray} {md : Tab → Int × Tab} (h : TabsF ts) (hm : ∀ t, TabF t → TabF (md t).2) : TabsF (tch ss ts schema table md).2.2 := by
  unfold tch
  split
  · refine ⟨by show (ts.set _ _).length ≤ _; rw [List.length_set]; exact h.1, fun t ht => ?_⟩
    rcases List.mem_or_eq_of_mem_set ht with ht | ht
    · exact h.2 t ht
    · subst ht
      refine hm _ ?_
      rename_i hi
      have hlt : (idx (isT schema table) ts).toNat < ts.length := by have := idx_lo (isT schema table) ts; omega
      rw [getD_at hlt]
      exact h.2 _ (List.getElem_mem hlt)
  · exact tabsF_nil
theorem no_idx {α : Type} {p : α → Bool} {l : List α} (h : ¬ 0 ≤ idx p l) : ∀ x ∈ l, p x = false := fun x hx => by
  cases hp : p x with
  | false => rfl
  | true => exact absurd (idx_pos.2 ⟨x, hx, hp⟩) h
theorem ne_of_beq {a b : ByteArray} (h : (a.toList == b.toList) = false) : a ≠ b := fun e => by subst e; simp at h
theorem addSchema_right {ss : List Sch} {ts : List Tab} {name owner : ByteArray} (h0 : (addSchema ss ts name owner).1 = 0) : checkB (addSchema ss ts name owner).2.1 (addSchema ss ts name owner).2.2 = true := by
  refine chg_right (fun h h0 => ?_) h0
  unfold addSchR at h0 ⊢
  split at h0
  · rename_i h1
    rw [if_pos h1]
    rw [Bool.and_eq_true] at h1
    split at h0
    · cases h0
    · rename_i h2
      rw [if_neg h2]
      split at h0
      · cases h0
      · rename_i h3
        rw [if_neg h3]
        exact h.addSch h1.1 h1.2 (fun s hs => ne_of_beq (no_idx h2 s hs)) (by omega)
  · cases h0
theorem addSchema_F {ss : List Sch} {ts : List Tab} {name owner : ByteArray} (h : TabsF ts) : TabsF (addSchema ss ts name owner).2.2 := chg_F (by
  unfold addSchR
  split
  · split
    · exact tabsF_nil
    · split
      · exact tabsF_nil
      · exact h
  · exact tabsF_nil)
theorem addTable_right {ss : List Sch} {ts : List Tab} {t : Tab} (h0 : (addTable ss ts t).1 = 0) : checkB (addTable ss ts t).2.1 (addTable ss ts t).2.2 = true := by
  refine chg_right (fun h h0 => ?_) h0
  unfold addTabR at h0 ⊢
  split at h0
  · rename_i h1
    rw [if_pos h1]
    rw [Bool.and_eq_true] at h1
    split at h0
    · rename_i h2
      rw [if_pos h2]
      split at h0
      · cases h0
      · rename_i h3
        rw [if_neg h3]
        split at h0
        · cases h0
        · rename_i h4
          rw [if_neg h4]
          split at h0
          · rename_i h5
            rw [if_pos h5]
            rw [Bool.and_eq_true, decide_eq_true_eq] at h5
            obtain ⟨s, hs, hp⟩ := idx_pos.1 h2
            refine h.addTab h1.1 h1.2 ⟨s, hs, beqS_iff.1 hp⟩ (fun x hx e => ?_) (by omega) h5.1 (List.length_eq_zero_iff.1 h5.2)
            have := no_idx h3 x hx
            rw [isT_eq.2 e] at this
            cases this
          · cases h0
    · cases h0
  · cases h0
theorem addTable_F {ss : List Sch} {ts : List Tab} {t : Tab} (h : TabsF ts) (hl : ts.length ≤ 3000) (ht : TabF t) : TabsF (addTable ss ts t).2.2 := chg_F (by
  unfold addTabR
  split
  · split
    · split
      · exact tabsF_nil
      · split
        · exact tabsF_nil
        · split
          · refine ⟨by show (ins _ _ _).length ≤ _; rw [len_ins]; omega, fun x hx => ?_⟩
            rcases mem_ins.1 hx with hx | rfl
            · exact h.2 x hx
            · exact ht
          · exact tabsF_nil
    · exact tabsF_nil
  · exact tabsF_nil)
theorem dropTable_right {ss : List Sch} {ts : List Tab} {schema table : ByteArray} (h0 : (dropTable ss ts schema table).1 = 0) : checkB (dropTable ss ts schema table).2.1 (dropTable ss ts schema table).2.2 = true := by
  rw [← dropTable_P] at h0 ⊢
  refine chg_right (fun h h0 => ?_) h0
  unfold dropTabP at h0 ⊢
  rcases idx_cases (isT schema table) ts with ⟨k, hk, e, y, _⟩ | ⟨e, _⟩
  · rw [e, if_pos (by omega), Int.toNat_natCast] at h0 ⊢
    split at h0
    · cases h0
    · rename_i h1
      rw [if_neg h1]
      have y' := isT_eq.1 y
      refine h.dropTab hk fun j hj hne r hr h4 he => h1 (List.any_eq_true.2 ⟨ts[j], List.getElem_mem hj, ?_⟩)
      rw [Bool.and_eq_true, Bool.not_eq_true']
      refine ⟨?_, List.any_eq_true.2 ⟨r, hr, ?_⟩⟩
      · cases hc : isT schema table ts[j] with
        | false => rfl
        | true =>
          have c := isT_eq.1 hc
          exact absurd (tabs_one h.t hj hk (c.1.trans y'.1.symm) (c.2.trans y'.2.symm)) hne
      · unfold foreignTo
        rw [beq_iff_eq.2 h4, beqS_iff.2 (he.1.trans y'.1), beqS_iff.2 (he.2.trans y'.2)]; rfl
  · rw [e] at h0; cases h0
theorem dropTable_F {ss : List Sch} {ts : List Tab} {schema table : ByteArray} (h : TabsF ts) : TabsF (dropTable ss ts schema table).2.2 := chg_F (by
  unfold dropTabR
  split
  · split
    · exact tabsF_nil
    · exact ⟨Nat.le_trans (List.length_eraseIdx_le _ _) h.1, fun x hx => h.2 x (List.mem_of_mem_eraseIdx hx)⟩
  · exact tabsF_nil)
theorem dropColumn_right {ss : List Sch} {ts : List Tab} {schema table name : ByteArray} (h0 : (dropColumn ss ts schema table name).1 = 0) : checkB (dropColumn ss ts schema table name).2.1 (dropColumn ss ts schema table name).2.2 = true := by
  refine chg_right (fun h h0 => tch_right (fun k hk e1 e2 h0 => ?_) h0) h0
  unfold dropColM at h0 ⊢
  rcases idx_cases (isC name) ts[k].cols with ⟨m, hm, e, y, _⟩ | ⟨e, _⟩
  · rw [e, if_pos (by omega), Int.toNat_natCast] at h0 ⊢
    split at h0
    · cases h0
    · rename_i h1
      rw [if_neg h1]
      rw [Bool.not_eq_true, Bool.or_eq_false_iff, beq_eq_false_iff_ne, decide_eq_false_iff_not] at h1
      have y' : ts[k].cols[m].name = name := beqS_iff.1 y
      refine h.dropCol hk hm h1.1 fun r hr hin => ?_
      have := no_idx h1.2 r hr
      unfold usesB at this
      rw [decide_eq_false_iff_not] at this
      exact this (idx_pos.2 ⟨_, hin, by rw [y']; simp⟩)
  · rw [e] at h0; cases h0
theorem dropColumn_F {ss : List Sch} {ts : List Tab} {schema table name : ByteArray} (h : TabsF ts) : TabsF (dropColumn ss ts schema table name).2.2 := chg_F (tch_F h fun t ht => by
  unfold dropColM
  split
  · split
    · exact ht
    · exact ⟨Nat.le_trans (List.length_eraseIdx_le _ _) ht.1, ht.2⟩
  · exact ht)
theorem addRule_right {ss : List Sch} {ts : List Tab} {schema table : ByteArray} {r : Rul} (h0 : (addRule ss ts schema table r).1 = 0) : checkB (addRule ss ts schema table r).2.1 (addRule ss ts schema table r).2.2 = true := by
  refine chg_right (fun h h0 => tch_right (fun k hk e1 e2 h0 => ?_) h0) h0
  unfold addRulM at h0 ⊢
  split at h0
  · rename_i h1
    rw [if_pos h1]
    split at h0
    · cases h0
    · rename_i h2
      rw [if_neg h2]
      split at h0
      · cases h0
      · rename_i h3
        rw [if_neg h3]
        split at h0
        · rename_i h4
          rw [Bool.and_eq_true, bne_iff_ne] at h4
          exact absurd h0 h4.2
        · rename_i h4
          rw [if_neg h4]
          refine h.addRul hk h1 (fun x hx => ne_of_beq (no_idx h2 x hx)) (by omega) fun hk4 => keyP_of ?_
          rw [Bool.not_eq_true, Bool.and_eq_false_iff] at h4
          rcases h4 with h4 | h4
          · rw [hk4] at h4; cases h4
          · rwa [bne_eq_false_iff_eq] at h4
  · cases h0
theorem addRule_F {ss : List Sch} {ts : List Tab} {schema table : ByteArray} {r : Rul} (h : TabsF ts) (hr : RulF r) : TabsF (addRule ss ts schema table r).2.2 := chg_F (tch_F h fun t ht => by
  unfold addRulM
  split
  · split
    · exact ht
    · split
      · exact ht
      · rename_i h8
        split
        · exact ht
        · refine ⟨ht.1, ?_, fun x hx => ?_⟩
          · show (ins _ _ _).length ≤ _
            rw [len_ins]; omega
          · rcases mem_ins.1 hx with hx | rfl
            · exact ht.2.2 x hx
            · exact hr
  · exact ht)
theorem dropRule_right {ss : List Sch} {ts : List Tab} {schema table name : ByteArray} (h0 : (dropRule ss ts schema table name).1 = 0) : checkB (dropRule ss ts schema table name).2.1 (dropRule ss ts schema table name).2.2 = true := by
  refine chg_right (fun h h0 => tch_right (fun k hk e1 e2 h0 => ?_) h0) h0
  unfold dropRulM at h0 ⊢
  rcases idx_cases (sameN name) ts[k].rules with ⟨m, hm, e, y, _⟩ | ⟨e, _⟩
  · rw [e, if_pos (by omega), Int.toNat_natCast, getD_at hm] at h0 ⊢
    split at h0
    · cases h0
    · rename_i h1
      rw [if_neg h1]
      have y' : ts[k].rules[m].name = name := beqS_iff.1 y
      refine h.dropRul hk hm fun h2 t ht r hr h4 f1 f2 f3 => h1 ?_
      rw [Bool.and_eq_true]
      refine ⟨beq_iff_eq.2 h2, List.any_eq_true.2 ⟨t, ht, List.any_eq_true.2 ⟨r, hr, ?_⟩⟩⟩
      unfold needsR foreignTo
      rw [beq_iff_eq.2 h4, beqS_iff.2 (f1.trans e1), beqS_iff.2 (f2.trans e2), beqS_iff.2 (f3.trans y')]; rfl
  · rw [e] at h0; cases h0
theorem dropRule_F {ss : List Sch} {ts : List Tab} {schema table name : ByteArray} (h : TabsF ts) : TabsF (dropRule ss ts schema table name).2.2 := chg_F (tch_F h fun t ht => by
  unfold dropRulM
  split
  · split
    · exact ht
    · exact ⟨ht.1, Nat.le_trans (List.length_eraseIdx_le _ _) ht.2.1, fun x hx => ht.2.2 x (List.mem_of_mem_eraseIdx hx)⟩
  · exact ht)
theorem addRule_B {ss : List Sch} {ts : List Tab} {schema table : ByteArray} {r : Rul} (hs : ss.length ≤ 3000) (ht : TabsB ts) (hr : RulB r) : (addRule ss ts schema table r).2.1.length ≤ 3000 ∧ TabsB (addRule ss ts schema table r).2.2 := chg_B (tch_B hs ht fun t h => by
  unfold addRulM
  split
  · split
    · exact h
    · split
      · exact h
      · split
        · exact h
        · refine ⟨h.1, ?_, fun x hx => ?_⟩
          · show (ins _ _ _).length ≤ _
            rw [len_ins]; omega
          · rcases mem_ins.1 hx with hx | rfl
            · exact h.2.2 x hx
            · exact hr
  · exact h)
theorem dropRule_B {ss : List Sch} {ts : List Tab} {schema table name : ByteArray} (hs : ss.length ≤ 3000) (ht : TabsB ts) : (dropRule ss ts schema table name).2.1.length ≤ 3000 ∧ TabsB (dropRule ss ts schema table name).2.2 := chg_B (tch_B hs ht fun t h => by
  unfold dropRulM
  split
  · split
    · exact h
    · exact ⟨h.1, Nat.le_trans (List.length_eraseIdx_le _ _) h.2.1, fun x hx => h.2.2 x (List.mem_of_mem_eraseIdx hx)⟩
  · exact h)
end Go.Proofs.YtmmiehckgkadgaaGreat.O
namespace Go.Proofs.YtmmiehckgkadgaaGreat.O
set_option linter.unusedVariables false
set_option linter.unusedSimpArgs false
open Go.RowKit Go.Proofs.YtmmiehckgkadgaaGreatW.PrintWords
theorem addOneS {As At : Option Addr} {cs ct : Nat} (W : World) (hs : kSch.C W As 1 [sch1]) (ht : kTab.C W At 1 [tab1]) : Calls Tryz.prog 15 #[.agg #[.slice As 1 cs, .slice At 1 ct], .string ⟨#[97]⟩, .string ⟨#[111]⟩] W fun e w' => ∃ Es es Et et, e = .returned (.tuple #[.agg #[.slice Es 2 es, .slice Et 1 et], .int .i64 0]) ∧ OM w' W.heap.size w'.heap.size (.slice Es 2 es) (.slice Et 1 et) [schA, sch1] [tab1] ∧ Below W.heap.size W w' := by
  have h := calls_made (AddSchema.calls (cs := cs) (ct := ct) [sch1] [tab1] ⟨#[97]⟩ ⟨#[111]⟩ W hs (by decide) ht tabsF_one tabsB_one)
  rw [addSchema_one] at h
  exact h
theorem dropOneS {As At : Option Addr} {cs ct : Nat} (W : World) (hs : kSch.C W As 1 [sch1]) (ht : kTab.C W At 1 [tab1]) : Calls Tryz.prog 18 #[.agg #[.slice As 1 cs, .slice At 1 ct], .string ⟨#[115]⟩] W fun e w' => ∃ Es es Et et, e = .returned (.tuple #[.agg #[.slice Es 0 es, .slice Et 0 et], .int .i64 62]) ∧ OM w' W.heap.size w'.heap.size (.slice Es 0 es) (.slice Et 0 et) [] [] ∧ Below W.heap.size W w' := by
  have h := calls_made (DropSchema.calls (cs := cs) (ct := ct) [sch1] [tab1] ⟨#[115]⟩ W hs (by decide) ht tabsF_one tabsB_one)
  rw [dropSchema_one] at h
  exact h
theorem oneSch {W : World} {b e : Nat} {vt : Value} {Es : Option Addr} {es : Nat} {x y : Sch} {ts : List Tab} (h : OM W b e (.slice Es 2 es) vt [x, y] ts) : ∃ ad, Es = some ad ∧ W.cell? ad = some (.string x.name) := by
  obtain ⟨ad, e, c0, _⟩ := schAt_ (Kd.R_reads' h.1).2.2 0 (by simp)
  exact ⟨ad, e, by simpa [Addr.add] using c0⟩
set_option maxRecDepth 20000 in
set_option maxHeartbeats 2000000 in
theorem schemas.calls (w : World) : Calls Tryz.prog 20 #[] w fun e w' => e = .returned (.bool true) ∧ Below w.heap.size w w' := by
  have HO := Aside0.mk (fun W => one.calls W)
  have HX0 := Aside0.mk (Below.refl w.heap.size w)
  go_enter Tryz.func20, Tryz.ntmps20
  go_wp2_with fail
  refine (HO.out _).mono ?_
  rintro e w1 ⟨As1, cs1, At1, ct1, rfl, l1, l2, hs, ht, hb1⟩
  have HB1 := Aside0.mk (below_step (HX0.out) hb1)
  have HS1 := Aside0.mk hb1
  clear hb1
  have HFD := Aside0.mk (addOneS (cs := cs1) (ct := ct1) w1 hs ht)
  clear l1 l2 hs ht
  go_wp2_with fail
  refine (HFD.out).mono ?_
  rintro e w2 ⟨Es, Esd, Et, Etd, rfl, hx, hb2⟩
  have HB2 := Aside0.mk (below_step (HB1.out) hb2)
  have HS2 := Aside0.mk hb2
  clear hb2
  have HME := Aside0.mk hx
  clear hx HFD
  go_wp2_with fail
  obtain ⟨v1, he1⟩ : ∃ W, W = (w2.alloc (.cells #[Value.slice Es 2 Esd, Value.slice Et 1 Etd] 25)) := ⟨_, rfl⟩
  have hb_ : Below w2.heap.size w2 v1 := by rw [he1]; exact below_alloc (Below.refl _ _) _
  have HZ1 := Aside0.mk (show v1.heap.size = w2.heap.size + 1 by rw [he1]; simp)
  have HN1 := Aside0.mk (show v1.heap[w2.heap.size]? = some (.cells #[Value.slice Es 2 Esd, Value.slice Et 1 Etd] 25 (0, 0)) by rw [he1]; exact blk_new _ _)
  have HV1 := Aside0.mk (below_step (HB2.out) hb_)
  have HT1 := Aside0.mk ((HME.out).below hb_)
  rw [← he1]
  clear he1
  refine (HO.out _).mono ?_
  rintro e w3 ⟨As2, cs2, At2, ct2, rfl, l1, l2, hs, ht, hb3⟩
  have HB3 := Aside0.mk (below_step (HV1.out) hb3)
  have HK2 := Aside0.mk (blk_below (HN1.out) hb3)
  have HT3 := Aside0.mk ((HT1.out).below hb3)
  have HS3 := Aside0.mk hb3
  clear hb3
  have HFD := Aside0.mk (dropOneS (cs := cs2) (ct := ct2) w3 hs ht)
  clear l1 l2 hs ht
  have c_x0 : w3.cell? ⟨w2.heap.size, 0, none⟩ = some (Value.slice Es 2 Esd) := (blk_cell HK2.out 0).trans rfl
  have f_x0 := blk_frozen HK2.out 0
  have c_x1 : w3.cell? ⟨w2.heap.size, 1, none⟩ = some (Value.slice Et 1 Etd) := (blk_cell HK2.out 1).trans rfl
  have f_x1 := blk_frozen HK2.out 1
  go_wp2_with fail
  clear c_x0 f_x0 c_x1 f_x1
  refine (HFD.out).mono ?_
  rintro e w4 ⟨Fs, Fsd, Ft, Ftd, rfl, hx, hb4⟩
  have HB4 := Aside0.mk (below_step (HB3.out) hb4)
  have HK4 := Aside0.mk (blk_below (HK2.out) hb4)
  have HT5 := Aside0.mk ((HT3.out).below hb4)
  have HS4 := Aside0.mk hb4
  clear hb4
  have HMF := Aside0.mk hx
  clear hx HFD
  obtain ⟨ad1, rfl, k1⟩ := oneSch HT5.out
  rw [show schA.name = (⟨#[97]⟩ : ByteArray) from rfl] at k1
  have k1a : ∀ o, (w4.alloc o).cell? _ = _ := fun o => pw_cell_below (below_alloc (Below.refl _ _) o) k1
  have c_x0 : w4.cell? ⟨w2.heap.size, 0, none⟩ = some (Value.slice (some ad1) 2 Esd) := (blk_cell HK4.out 0).trans rfl
  have f_x0 := blk_frozen HK4.out 0
  have a_x0 : ∀ o, (w4.alloc o).cell? ⟨w2.heap.size, 0, none⟩ = some (Value.slice (some ad1) 2 Esd) := fun o => (blk_cell (blk_alloc HK4.out o) 0).trans rfl
  have c_x1 : w4.cell? ⟨w2.heap.size, 1, none⟩ = some (Value.slice Et 1 Etd) := (blk_cell HK4.out 1).trans rfl
  have f_x1 := blk_frozen HK4.out 1
  have a_x1 : ∀ o, (w4.alloc o).cell? ⟨w2.heap.size, 1, none⟩ = some (Value.slice Et 1 Etd) := fun o => (blk_cell (blk_alloc HK4.out o) 1).trans rfl
  go_wp2
  go_ret
  exact ⟨rfl, below_alloc (HB4.out) _⟩
end Go.Proofs.YtmmiehckgkadgaaGreat.O
