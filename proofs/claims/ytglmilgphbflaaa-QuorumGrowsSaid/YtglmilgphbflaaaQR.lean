/- Contracts of quorum.Reached, of the reference's, and of the statement QuorumReached itself, proved by walking their text. -/
import Derived.Test.YtglmilgphbflaaaQH
namespace Go.Proofs.Ytglmilgphbflaaa.Q
set_option linter.unusedVariables false
set_option linter.unusedSimpArgs false
open Go.RowKit Go.Proofs.YtglmilgphbflaaaW.PrintWords Go.Proofs.YtglmilgphbflaaaW.PrintLast Go.Proofs.YtglmilgphbflaaaW.PrintMore

def adjB : List Int → Bool
  | a :: b :: r => decide (a < b) && adjB (b :: r)
  | _ => true
def isB (l : List Int) : Bool := adjB l && decide (l.length ≤ 16)
theorem adjB_drop (l : List Int) (i : Nat) (h : i + 1 < l.length) : adjB (l.drop i) = (decide (l[i] < l[i + 1]) && adjB (l.drop (i + 1))) := by
  rw [List.drop_eq_getElem_cons (show i < l.length by omega), List.drop_eq_getElem_cons h]; rfl
theorem adjB_short (l : List Int) (h : l.length ≤ 1) : adjB l = true := by
  match l, h with
  | [], _ => rfl
  | [_], _ => rfl

theorem is_l (l : List Int) (m : Nat) (hm : m + 1 = l.length ∨ (m = 0 ∧ l.length = 0)) (hl : l.length ≤ 140737488355328) : ∀ (d i : Nat), i + d = m → Ev (fun k => sets_Is.l0 k l (m : Int) (i : Int)) (adjB (l.drop i) && decide (l.length ≤ 16))
  | 0, i, h => Ev.step (f := fun _ => some (adjB (l.drop i) && decide (l.length ≤ 16))) (fun k => by
      simp only [sets_Is.l0]
      rw [if_neg (by omega), adjB_short _ (by rw [List.length_drop]; omega), Bool.true_and, decide_eq_decide.2 (show ((l.length : Int) ≤ 16) ↔ l.length ≤ 16 by omega)]) (Ev.now _)
  | d + 1, i, h => by
    have hi : i + 1 < l.length := by omega
    rw [adjB_drop l i hi]
    by_cases e : l[i] < l[i + 1]
    · rw [decide_eq_true e, Bool.true_and]
      refine Ev.step (fun k => ?_) (is_l l m hm hl d (i + 1) (by omega))
      simp only [sets_Is.l0]
      rw [wsucc i (by omega), if_pos (by omega), if_pos (by omega), if_pos (by omega), if_pos (by omega), if_pos (by omega), rd_nat l i (by omega), rd_nat l (i + 1) hi, if_neg (by omega)]
    · rw [decide_eq_false e]
      refine Ev.step (f := fun _ => some false) (fun k => ?_) (Ev.now _)
      simp only [sets_Is.l0]
      rw [wsucc i (by omega), if_pos (by omega), if_pos (by omega), if_pos (by omega), if_pos (by omega), if_pos (by omega), rd_nat l i (by omega), rd_nat l (i + 1) hi, if_pos (by omega)]
theorem is_ev (l : List Int) (hl : l.length ≤ 140737488355328) : Ev (fun k => sets_Is.f k l) (isB l) := by
  have e : mx 0 (wrap64 ((l.length : Int) - 1)) = ((l.length - 1 : Nat) : Int) := by unfold mx wrap64; split <;> omega
  unfold sets_Is.f isB
  rw [e]
  exact is_l l (l.length - 1) (by omega) hl (l.length - 1) 0 (by omega)
theorem ris_l (l : List Int) (hl : l.length ≤ 140737488355328) : ∀ (d i : Nat), i + 1 + d = l.length → Ev (fun k => folkmootref04_Is.l0 k l ((i + 1 : Nat) : Int)) (adjB (l.drop i) && decide (l.length ≤ 16))
  | 0, i, h => Ev.step (f := fun _ => some (adjB (l.drop i) && decide (l.length ≤ 16))) (fun k => by
      simp only [folkmootref04_Is.l0]
      rw [if_neg (by omega), adjB_short _ (by rw [List.length_drop]; omega), Bool.true_and, decide_eq_decide.2 (show ((l.length : Int) ≤ 16) ↔ l.length ≤ 16 by omega)]) (Ev.now _)
  | d + 1, i, h => by
    have hi : i + 1 < l.length := by omega
    have e1 : wrap64 (((i + 1 : Nat) : Int) - 1) = (i : Int) := by unfold wrap64; omega
    rw [adjB_drop l i hi]
    by_cases e : l[i] < l[i + 1]
    · rw [decide_eq_true e, Bool.true_and]
      refine Ev.step (fun k => ?_) (ris_l l hl d (i + 1) (by omega))
      simp only [folkmootref04_Is.l0]
      rw [e1, wsucc (i + 1) (by omega), if_pos (by omega), if_pos (by omega), if_pos (by omega), if_pos (by omega), rd_nat l i (by omega), rd_nat l (i + 1) hi, if_neg (by omega)]
    · rw [decide_eq_false e]
      refine Ev.step (f := fun _ => some false) (fun k => ?_) (Ev.now _)
      simp only [folkmootref04_Is.l0]
      rw [e1, if_pos (by omega), if_pos (by omega), if_pos (by omega), if_pos (by omega), rd_nat l i (by omega), rd_nat l (i + 1) hi, if_pos (by omega)]
theorem ris_ev (l : List Int) (hl : l.length ≤ 140737488355328) : Ev (fun k => folkmootref04_Is.f k l) (isB l) := by
  unfold folkmootref04_Is.f isB
  by_cases h0 : l.length = 0
  · refine Ev.step (f := fun _ => some (adjB l && decide (l.length ≤ 16))) (fun k => ?_) (Ev.now _)
    simp only [folkmootref04_Is.l0]
    rw [if_neg (by omega), adjB_short _ (by omega), Bool.true_and, decide_eq_decide.2 (show ((l.length : Int) ≤ 16) ↔ l.length ≤ 16 by omega)]
  · exact ris_l l hl (l.length - 1) 0 (by omega)

theorem ret_bool {a b : Bool} (h : a = b) : Ending.returned (.bool a) = .returned (.bool b) := by rw [h]
def reachedB (v y : List Int) : Bool := isB v && (decide (0 < v.length) && decide (v.length / 2 + 1 ≤ cnt v y))

theorem maj_eq (n : Nat) (h : 0 < n) (hn : n ≤ 140737488355328) : quorum_Majority.f (n : Int) = some ((n / 2 + 1 : Nat) : Int) := by
  unfold quorum_Majority.f
  rw [if_neg (by omega), Int.tdiv_eq_ediv_of_nonneg (by omega)]
  congr 1
  unfold wrap64
  omega
set_option maxHeartbeats 400000 in
theorem quorum_Reached.calls (A0 : Option Addr) (c0 : Nat) (l0 : List Int) (A1 : Option Addr) (c1 : Nat) (l1 : List Int) (w : World) (hr0 : Kd.C (Kd.int .i64) w A0 l0.length l0) (hc0 : l0.length ≤ c0) (hr1 : Kd.C (Kd.int .i64) w A1 l1.length l1) (hc1 : l1.length ≤ c1) (hl0 : l0.length ≤ 140737488355328) (hl1 : l1.length ≤ 140737488355328) :
    Calls Try.prog 13 #[.slice A0 l0.length c0, .slice A1 l1.length c1] w fun e w' => e = .returned (.bool (reachedB l0 l1)) ∧ Below w.heap.size w w' := by
  obtain ⟨k, hk⟩ := (is_ev l0 hl0).rounds
  have HI := Aside0.mk (sets_Is.calls k A0 c0 l0 (isB l0) w hr0 hc0 hk)
  have HC := Aside0.mk (show ∀ w1, Below w.heap.size w w1 → _ from fun w1 hb => quorum_count.calls A0 c0 l0 A1 c1 l1 w1 (Kd.C_below hr0 hb) hc0 (Kd.C_below hr1 hb) hc1 hl0 hl1)
  have HM := Aside0.mk (show ∀ w1, 0 < l0.length → _ from fun w1 h => quorum_Majority.calls (l0.length : Int) ((l0.length / 2 + 1 : Nat) : Int) w1 (maj_eq l0.length h (by omega)))
  have hcl : cnt l0 l1 ≤ l0.length := cnt_le _ _
  have HR := Aside0.mk (show reachedB l0 l1 = (isB l0 && (decide (0 < l0.length) && decide (l0.length / 2 + 1 ≤ cnt l0 l1))) from rfl)
  rw [HR.out]
  clear hk hr0 hc0 hr1 hc1 HR
  generalize hb : isB l0 = b at HI ⊢
  cases b with
  | false =>
    clear hb
    go_enter Try.func13, Try.ntmps13
    go_wp2_with fail
    refine HI.out.mono ?_
    rintro e w1 ⟨rfl, hb1⟩
    have HB1 := Aside0.mk hb1
    clear hb1
    go_wp2
    go_ret
    exact ⟨rfl, HB1.out⟩
  | true =>
    clear hb
    by_cases hp : 0 < l0.length
    · rw [decide_eq_true hp]
      have hp' : (0 : Int) < (l0.length : Int) := by omega
      go_enter Try.func13, Try.ntmps13
      go_wp2_with fail
      refine HI.out.mono ?_
      rintro e w1 ⟨rfl, hb1⟩
      have HB1 := Aside0.mk hb1
      clear hb1
      go_wp2_with fail
      refine (HC.out w1 HB1.out).mono ?_
      rintro e w2 ⟨rfl, hb2⟩
      have HB2 := Aside0.mk (HB1.out.trans (hb2.mono HB1.out.size))
      clear hb2
      go_wp2_with fail
      refine (HM.out w2 hp).mono ?_
      rintro e w3 ⟨rfl, ⟨m, rfl⟩⟩
      go_wp2
      go_ret
      refine ⟨ret_bool ?_, pw_below_drewN HB2.out _⟩
      rw [Bool.true_and, Bool.true_and]
      exact decide_eq_decide.2 (by omega)
    · rw [decide_eq_false hp]
      have hp' : ¬ (0 : Int) < (l0.length : Int) := by omega
      go_enter Try.func13, Try.ntmps13
      go_wp2_with fail
      refine HI.out.mono ?_
      rintro e w1 ⟨rfl, hb1⟩
      have HB1 := Aside0.mk hb1
      clear hb1
      go_wp2
      go_ret
      exact ⟨rfl, HB1.out⟩

theorem C_lit {W : World} {g : Nat} {l : List Int} (h : W.heap[g]? = some (.cells (nums .i64 l).toArray 3 (0, 0))) (hl : l.length ≤ 1000) : Kd.C (Kd.int .i64) W (some ⟨g, 0, none⟩) l.length l :=
  C_of_blk (r := []) (by rw [List.append_nil]; exact h) rfl (by omega)
theorem alloc_at (w : World) (o : Obj) : (w.alloc o).heap[w.heap.size]? = some o := by show (w.heap.push o)[w.heap.size]? = _; simp
theorem alloc_old {w : World} {o o' : Obj} {g : Nat} (h : w.heap[g]? = some o') : (w.alloc o).heap[g]? = some o' := (Below.heap_alloc w o g (blk_lt h)).trans h
set_option maxHeartbeats 400000 in
theorem law_reached.calls (w : World) : Calls Try.prog 15 #[] w fun e w' => e = .returned (.bool true) ∧ Below w.heap.size w w' := by
  have HA := Aside0.mk (show ∀ (W : World) (l m : List Int), l.length ≤ 1000 → m.length ≤ 1000 → _ from fun W l m hl hm =>
    quorum_Reached.calls (some ⟨W.heap.size, 0, none⟩) l.length l (some ⟨W.heap.size + 1, 0, none⟩) m.length m ((W.alloc (.cells (nums .i64 l).toArray 3)).alloc (.cells (nums .i64 m).toArray 3))
      (C_lit (alloc_old (alloc_at _ _)) hl) (Nat.le_refl _) (C_lit (by have h := alloc_at (W.alloc (.cells (nums .i64 l).toArray 3)) (.cells (nums .i64 m).toArray 3); simpa using h) hm) (Nat.le_refl _) (by omega) (by omega))
  go_enter Try.func15, Try.ntmps15
  go_wp2_with fail
  refine (HA.out w [1, 2, 3] [2, 3] (by decide) (by decide)).mono ?_
  rintro e w1 ⟨rfl, hb1⟩
  rw [show reachedB [1, 2, 3] [2, 3] = true by decide]
  have HB1 := Aside0.mk (((Below.refl w.heap.size w).alloc (Nat.le_refl _) _).alloc (by simp) _ |>.trans (hb1.mono (by simp; omega)))
  clear hb1
  go_wp2_with fail
  refine (HA.out w1 [1, 2, 3, 4] [1, 2] (by decide) (by decide)).mono ?_
  rintro e w2 ⟨rfl, hb2⟩
  rw [show reachedB [1, 2, 3, 4] [1, 2] = false by decide]
  have hz := HB1.out.size
  have HB2 := Aside0.mk ((HB1.out.alloc hz _).alloc (by simp; omega) _ |>.trans (hb2.mono (by simp; omega)))
  clear hb2 hz
  go_wp2
  go_ret
  exact ⟨rfl, HB2.out⟩

theorem rhas_l (l : List Int) (a : Int) (hl : l.length ≤ 140737488355328) : ∀ (d i : Nat), i + d = l.length → Ev (fun k => folkmootref04_Has.l0 k l a (i : Int)) (decide (a ∈ l.drop i))
  | 0, i, h => Ev.step (f := fun _ => some (decide (a ∈ l.drop i))) (fun k => by simp only [folkmootref04_Has.l0]; rw [if_neg (by omega), List.drop_of_length_le (by omega)]; rfl) (Ev.now _)
  | d + 1, i, h => by
    have hlt : i < l.length := by omega
    rw [List.drop_eq_getElem_cons hlt]
    by_cases e : l[i] = a
    · rw [decide_eq_true (by rw [e]; exact List.mem_cons_self)]
      refine Ev.step (f := fun _ => some true) (fun k => ?_) (Ev.now _)
      simp only [folkmootref04_Has.l0]
      rw [if_pos (by omega), if_pos (by omega), rd_nat l i hlt, if_pos e]
    · have h2 := rhas_l l a hl d (i + 1) (by omega)
      rw [show decide (a ∈ l[i] :: l.drop (i + 1)) = decide (a ∈ l.drop (i + 1)) from decide_eq_decide.2 (by simp only [List.mem_cons, Ne.symm e, false_or])]
      refine Ev.step (fun k => ?_) h2
      simp only [folkmootref04_Has.l0]
      rw [if_pos (by omega), if_pos (by omega), rd_nat l i hlt, if_neg e, wsucc i (by omega)]
theorem rhas_ev (l : List Int) (a : Int) (hl : l.length ≤ 140737488355328) : Ev (fun k => folkmootref04_Has.f k l a) (decide (a ∈ l)) := by
  unfold folkmootref04_Has.f
  exact rhas_l l a hl l.length 0 (by omega)
theorem cnt_drop (l s : List Int) (i : Nat) (h : i < l.length) : cnt (l.drop i) s = (if l[i] ∈ s then 1 else 0) + cnt (l.drop (i + 1)) s := by
  unfold cnt
  rw [List.drop_eq_getElem_cons h, List.filter_cons]
  by_cases e : l[i] ∈ s
  · rw [if_pos (decide_eq_true e), if_pos e, List.length_cons]; omega
  · rw [if_neg (by simp [e]), if_neg e]; omega
theorem rreached_l (l s : List Int) (hl : l.length ≤ 140737488355328) (hs : s.length ≤ 140737488355328) : ∀ (d i c : Nat), i + d = l.length → c ≤ i → Ev (fun k => folkmootref05_Reached.l0 k l s (c : Int) (i : Int)) (isB l && (decide (0 < l.length) && decide (l.length / 2 + 1 ≤ c + cnt (l.drop i) s)))
  | 0, i, c, h, hc => by
    refine Ev.step (f := fun k => (folkmootref04_Is.f k l).bind fun t => if t = true then (if (l.length : Int) > 0 then some (decide (l.length / 2 + 1 ≤ c)) else some false) else some false) (fun k => ?_) (Ev.bind (ris_ev l hl) ?_)
    · simp only [folkmootref05_Reached.l0]
      rw [if_neg (by omega)]
      congr 1
      funext t
      unfold folkmootref05_Enough.f
      rw [show wrap64 ((l.length : Int) - (c : Int)) = (l.length : Int) - c by unfold wrap64; omega]
      simp only [Option.bind_some]
      rw [show decide ((c : Int) > (l.length : Int) - c) = decide (l.length / 2 + 1 ≤ c) from decide_eq_decide.2 (by omega)]
    · rw [List.drop_of_length_le (by omega), show cnt [] s = 0 from rfl, Nat.add_zero]
      cases isB l with
      | false => exact Ev.now _
      | true =>
        by_cases hp : 0 < l.length
        · rw [decide_eq_true hp]
          exact Ev.congr (fun k => by rw [if_pos rfl, if_pos (by omega)]; rfl) (Ev.now _)
        · rw [decide_eq_false hp]
          exact Ev.congr (fun k => by rw [if_pos rfl, if_neg (by omega)]; rfl) (Ev.now _)
  | d + 1, i, c, h, hc => by
    have hlt : i < l.length := by omega
    rw [cnt_drop l s i hlt]
    refine Ev.step (f := fun k => (folkmootref04_Has.f k s (rd l (i : Int))).bind fun t => if t = true then folkmootref05_Reached.l0 k l s (wrap64 ((c : Int) + 1)) (wrap64 ((i : Int) + 1)) else folkmootref05_Reached.l0 k l s (c : Int) (wrap64 ((i : Int) + 1))) (fun k => ?_) (Ev.bind (rhas_ev s _ hs) ?_)
    · simp only [folkmootref05_Reached.l0]
      rw [if_pos (by omega), if_pos (by omega)]
    · rw [rd_nat l i hlt, wsucc i (by omega), wsucc c (by omega)]
      by_cases e : l[i] ∈ s
      · rw [if_pos e, decide_eq_true e, show c + (1 + cnt (l.drop (i + 1)) s) = (c + 1) + cnt (l.drop (i + 1)) s by omega]
        exact Ev.congr (fun k => by rw [if_pos rfl]) (rreached_l l s hl hs d (i + 1) (c + 1) (by omega) (by omega))
      · rw [if_neg e, decide_eq_false e, Nat.zero_add]
        exact Ev.congr (fun k => by rw [if_neg (by decide)]) (rreached_l l s hl hs d (i + 1) c (by omega) (by omega))
theorem rreached_ev (l s : List Int) (hl : l.length ≤ 140737488355328) (hs : s.length ≤ 140737488355328) : Ev (fun k => folkmootref05_Reached.f k l s) (reachedB l s) := by
  have h := rreached_l l s hl hs l.length 0 0 (by omega) (Nat.le_refl _)
  unfold folkmootref05_Reached.f reachedB
  rw [List.drop_zero, Nat.zero_add] at h
  exact h

set_option maxHeartbeats 400000 in
theorem law_QuorumReached.calls (A0 : Option Addr) (c0 : Nat) (l0 : List Int) (A1 : Option Addr) (c1 : Nat) (l1 : List Int) (w : World) (hr0 : Kd.C (Kd.int .i64) w A0 l0.length l0) (hc0 : l0.length ≤ c0) (_y0 : l0.length * 8 ≤ 140737488351232) (_w0 : ∀ x ∈ l0, (Lit.int .i64 x).wf = true) (hr1 : Kd.C (Kd.int .i64) w A1 l1.length l1) (hc1 : l1.length ≤ c1) (_y1 : l1.length * 8 ≤ 140737488351232) (_w1 : ∀ x ∈ l1, (Lit.int .i64 x).wf = true) :
    Calls Try.prog 4 #[.slice A0 l0.length c0, .slice A1 l1.length c1] w fun e w' => e = .returned (.bool true) ∧ Below w.heap.size w w' := by
  by_cases h0 : l0.length ≤ 300
  · by_cases h1 : l1.length ≤ 300
    · obtain ⟨k, hk⟩ := (rreached_ev l0 l1 (by omega) (by omega)).rounds
      have HR0 := Aside0.mk hr0
      have HR1 := Aside0.mk hr1
      have HK := Aside0.mk hk
      clear hr0 hr1 hk
      go_enter Try.func4, Try.ntmps4
      go_wp2_with fail
      refine (keep_LendInts.calls A0 c0 l0 w HR0.out (by omega)).mono ?_
      rintro e w1 ⟨g, rfl, hg, hgc, hb1⟩
      have HG := Aside0.mk (And.intro hg hgc)
      have HB1 := Aside0.mk hb1
      clear hg hgc hb1
      go_wp2_with fail
      refine (keep_LendInts.calls A1 c1 l1 w1 (Kd.C_below HR1.out HB1.out) (by omega)).mono ?_
      rintro e w2 ⟨g', rfl, hg, hgc, hb2⟩
      have HG' := Aside0.mk (And.intro hg hgc)
      have HB2 := Aside0.mk hb2
      clear hg hgc hb2
      have hgg : g < g' := Nat.lt_of_lt_of_le (blk_lt HG.out.2) HG'.out.1
      have Hgg := Aside0.mk hgg
      have hg1 := blk_lt HG.out.2
      have hg2 := blk_lt HG'.out.2
      have hx : w2.heap[g]? = some (.cells (nums .i64 (l0 ++ [-77])).toArray 3 (0, 0)) := (HB2.out.block g (blk_lt HG.out.2)).trans HG.out.2
      have HX := Aside0.mk hx
      have HBa := Aside0.mk (HB1.out.trans (HB2.out.mono HB1.out.size))
      clear hgg hg1 hg2 hx
      go_wp2_with fail
      refine (quorum_Reached.calls _ (l0.length + 1) l0 _ (l1.length + 1) l1 w2 (C_of_blk (by rw [HX.out, nums_append]) rfl (by omega)) (by omega) (C_of_blk (by rw [HG'.out.2, nums_append]) rfl (by omega)) (by omega) (by omega) (by omega)).mono ?_
      rintro e w3 ⟨rfl, hb3⟩
      have HX3 := Aside0.mk ((hb3.block g (blk_lt HX.out)).trans HX.out)
      have HY3 := Aside0.mk ((hb3.block g' (blk_lt HG'.out.2)).trans HG'.out.2)
      have HBb := Aside0.mk (HBa.out.trans (hb3.mono HBa.out.size))
      clear hb3
      generalize hrb : reachedB l0 l1 = rb at HK ⊢
      clear hrb
      go_wp2_with fail
      refine (keep_BackInts.calls g A0 c0 l0 w3 HX3.out (Kd.C_below HR0.out HBb.out) hc0 (by omega)).mono ?_
      rintro e w4 ⟨rfl, hgr⟩
      have HY4 := Aside0.mk ((hgr.block g' (blk_lt HY3.out) (by intro e; injection e with e; have := Hgg.out; omega)).trans HY3.out)
      have HBc := Aside0.mk (HBb.out.grown hgr HBb.out.size (by intro k e; injection e with e; have := HG.out.1; omega))
      clear hgr
      go_wp2_with fail
      refine (keep_BackInts.calls g' A1 c1 l1 w4 HY4.out (Kd.C_below HR1.out HBc.out) hc1 (by omega)).mono ?_
      rintro e w5 ⟨rfl, hgr⟩
      have HBd := Aside0.mk (HBc.out.grown hgr HBc.out.size (by intro k e; injection e with e; have h1 := HG'.out.1; have h2 := HB1.out.size; omega))
      clear hgr
      go_wp2_with fail
      refine (law_reached.calls w5).mono ?_
      rintro e w6 ⟨rfl, hb6⟩
      have HBe := Aside0.mk (HBd.out.trans (hb6.mono HBd.out.size))
      clear hb6
      go_wp2_with fail
      refine (folkmootref05_Reached.calls k A0 c0 l0 A1 c1 l1 rb w6 (Kd.C_below HR0.out HBe.out) hc0 (Kd.C_below HR1.out HBe.out) hc1 HK.out).mono ?_
      rintro e w7 ⟨rfl, ⟨m, rfl⟩⟩
      go_wp2
      go_ret
      exact ⟨by simp, pw_below_drewN HBe.out _⟩
    · have h1' : (300 : Int) < (l1.length : Int) := by omega
      go_enter Try.func4, Try.ntmps4
      go_wp2
      go_ret
      exact ⟨rfl, Below.refl _ _⟩
  · have h0' : (300 : Int) < (l0.length : Int) := by omega
    go_enter Try.func4, Try.ntmps4
    go_wp2
    go_ret
    exact ⟨rfl, Below.refl _ _⟩
end Go.Proofs.Ytglmilgphbflaaa.Q
