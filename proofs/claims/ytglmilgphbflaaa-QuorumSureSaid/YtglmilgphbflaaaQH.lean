/- Contracts of the functions of quorum and of the statements' helpers (LendInts, BackInts, asked.has, count), proved by walking their text. No statement of its own. -/
import Derived.Test.YtglmilgphbflaaaQx
import Derived.Laws.CopyOwn
namespace Go.Proofs.Ytglmilgphbflaaa.Q
set_option linter.unusedVariables false
set_option linter.unusedSimpArgs false
open Go.RowKit Go.Proofs.YtglmilgphbflaaaW.PrintWords Go.Proofs.YtglmilgphbflaaaW.PrintLast Go.Proofs.YtglmilgphbflaaaW.PrintMore

theorem wsucc (i : Nat) (h : i < 9223372036854775807) : wrap64 ((i : Int) + 1) = ((i + 1 : Nat) : Int) := by unfold wrap64; omega
theorem rd_nat (l : List Int) (i : Nat) (h : i < l.length) : rd l (i : Int) = l[i] := by simp [rd, List.getD_eq_getElem?_getD, List.getElem?_eq_getElem h]

theorem index_l (l : List Int) (a : Int) (hl : l.length ≤ 140737488355328) : ∀ (d i : Nat), i + d = l.length → ∃ r : Int, Ev (fun k => api_Set_int_45.l0 k l a (l.length : Int) (i : Int)) r ∧ (decide (r ≥ 0) = decide (a ∈ l.drop i))
  | 0, i, h => ⟨-1, Ev.step (f := fun _ => some (-1)) (fun k => by simp only [api_Set_int_45.l0]; rw [if_neg (by omega)]) (Ev.now _), by
      rw [List.drop_of_length_le (by omega)]; simp⟩
  | d + 1, i, h => by
    have hlt : i < l.length := by omega
    rw [List.drop_eq_getElem_cons hlt]
    by_cases e : a = l[i]
    · refine ⟨i, Ev.step (f := fun _ => some (i : Int)) (fun k => ?_) (Ev.now _), ?_⟩
      · simp only [api_Set_int_45.l0]
        rw [if_pos (by omega), if_pos (by omega), if_pos (by omega), rd_nat l i hlt, if_pos e]
      · rw [decide_eq_true (by omega), decide_eq_true (by rw [e]; exact List.mem_cons_self)]
    · obtain ⟨r, hr, hd⟩ := index_l l a hl d (i + 1) (by omega)
      refine ⟨r, Ev.step (fun k => ?_) hr, ?_⟩
      · simp only [api_Set_int_45.l0]
        rw [if_pos (by omega), if_pos (by omega), if_pos (by omega), rd_nat l i hlt, if_neg e, wsucc i (by omega)]
      · rw [hd]; congr 1; simp only [List.mem_cons, e, false_or]

theorem has_ev (l : List Int) (a : Int) (hl : l.length ≤ 140737488355328) : Ev (fun k => sets_Has.f k l a) (decide (a ∈ l)) := by
  obtain ⟨r, hr, hd⟩ := index_l l a hl l.length 0 (by omega)
  unfold sets_Has.f api_Set_int_34.f api_Set_int_45.f
  refine Ev.bind (a := decide (a ∈ l)) (Ev.bind (a := r) hr ?_) (Ev.now _)
  rw [hd]; exact Ev.now _

set_option maxHeartbeats 400000 in
theorem asked_has.calls (A1 : Option Addr) (c1 : Nat) (l1 : List Int) (a1 : Int) (w : World) (hr : Kd.C (Kd.int .i64) w A1 l1.length l1) (hc : l1.length ≤ c1) (hl : l1.length ≤ 140737488355328) :
    Calls Try.prog 25 #[.agg #[.slice A1 l1.length c1], .int .i64 a1] w fun e w' => e = .returned (.bool (decide (a1 ∈ l1))) ∧ Below w.heap.size w w' := by
  obtain ⟨k, h⟩ := (has_ev l1 a1 hl).rounds
  generalize hb : decide (a1 ∈ l1) = b at h ⊢
  have HR := Aside0.mk hr
  have HC := Aside0.mk hc
  have H := Aside0.mk h
  clear hr hc h hb hl
  go_enter Try.func25, Try.ntmps25
  go_wp2_with fail
  refine (sets_Has.calls k A1 c1 l1 a1 b _ (Kd.C_below HR.out ((Below.refl _ _).alloc (Nat.le_refl _) _)) HC.out H.out).mono ?_
  rintro e w' ⟨rfl, hd⟩
  have HB := Aside0.mk (show Below w.heap.size w w' from ((Below.refl _ _).alloc (Nat.le_refl _) _).trans (hd.below.mono (by simp)))
  clear hd
  go_wp2
  go_ret
  exact ⟨rfl, HB.out⟩

def cnt (l s : List Int) : Nat := (l.filter fun x => decide (x ∈ s)).length
theorem cnt_snoc (l s : List Int) (k : Nat) (h : k < l.length) : cnt (l.take (k + 1)) s = cnt (l.take k) s + if l[k] ∈ s then 1 else 0 := by
  unfold cnt
  rw [List.take_succ_eq_append_getElem h, List.filter_append, List.length_append]
  by_cases e : l[k] ∈ s <;> simp [e]
theorem cnt_le (l s : List Int) : cnt l s ≤ l.length := List.length_filter_le _ _

set_option maxHeartbeats 400000 in
theorem quorum_count.calls (A0 : Option Addr) (c0 : Nat) (l0 : List Int) (A1 : Option Addr) (c1 : Nat) (l1 : List Int) (w : World) (hr0 : Kd.C (Kd.int .i64) w A0 l0.length l0) (hc0 : l0.length ≤ c0) (hr1 : Kd.C (Kd.int .i64) w A1 l1.length l1) (hc1 : l1.length ≤ c1) (hl0 : l0.length ≤ 140737488355328) (hl1 : l1.length ≤ 140737488355328) :
    Calls Try.prog 24 #[.slice A0 l0.length c0, .func (.func 25) #[.agg #[.slice A1 l1.length c1]] #[]] w fun e w' => e = .returned (.int .i64 (cnt l0 l1)) ∧ Below w.heap.size w w' := by
  have HR0 := Aside0.mk hr0
  have HR1 := Aside0.mk hr1
  have HC1 := Aside0.mk hc1
  have HL := Aside0.mk (And.intro hl0 hl1)
  clear hr0 hc0 hr1 hc1 hl0 hl1
  go_enter Try.func24, Try.ntmps24
  go_wp2
  go_loopw [5, 10] (fun c i w' => ∃ k : Nat, k ≤ l0.length ∧ i = .int .i64 k ∧ c = .int .i64 (cnt (l0.take k) l1) ∧ Aside0 (Below w.heap.size w w')) (fun _ i _ => l0.length - (intOf i).toNat)
  case atStart => exact ⟨0, Nat.zero_le _, rfl, rfl, ⟨Below.refl _ _⟩⟩
  case round =>
    obtain ⟨k, hk, rfl, rfl, HB⟩ := hrel
    by_cases hlt : k < l0.length
    · have hb : Aside0 (cnt (l0.take (k + 1)) l1 = cnt (l0.take k) l1 + if l0[k] ∈ l1 then 1 else 0) := ⟨cnt_snoc l0 l1 k hlt⟩
      have hle : cnt (l0.take k) l1 ≤ k := Nat.le_trans (cnt_le _ _) (List.length_take_le _ _)
      have hbig := HL.out.1
      obtain ⟨ad, e, hc⟩ := Kd.at_int (Kd.C_below HR0.out HB.out) k (by omega) (by omega)
      rw [rd_nat l0 k hlt] at hc
      cases e
      rw [Int.toNat_natCast] at hc
      go_wp2_with fail
      refine (asked_has.calls A1 c1 l1 l0[k] wr (Kd.C_below HR1.out HB.out) HC1.out HL.out.2).mono ?_
      rintro e w1 ⟨rfl, hb1⟩
      have HB1 := Aside0.mk (HB.out.trans (hb1.mono HB.out.size))
      clear hb1 hc HB
      by_cases hm : l0[k] ∈ l1
      · rw [decide_eq_true hm]
        have hb' := Aside0.mk (show cnt (l0.take (k + 1)) l1 = cnt (l0.take k) l1 + 1 by rw [hb.out, if_pos hm])
        clear hb hm
        go_wp2
        go_roundw
        case rel => exact ⟨k + 1, by omega, by go_num, by rw [hb'.out]; go_num, HB1⟩
        case measure => simp [intOf]; omega
      · rw [decide_eq_false hm]
        have hb' := Aside0.mk (show cnt (l0.take (k + 1)) l1 = cnt (l0.take k) l1 by rw [hb.out, if_neg hm]; rfl)
        clear hb hm
        go_wp2
        go_roundw
        case rel => exact ⟨k + 1, by omega, by go_num, by rw [hb'.out], HB1⟩
        case measure => simp [intOf]; omega
    · have hd : decide (k < l0.length) = false := decide_eq_false hlt
      go_wp2
      go_ret
      exact ⟨by rw [List.take_of_length_le (by omega)]; rfl, HB.out⟩

theorem qinfo3 : (Try.prog.info? 3).map (fun i => (i.zero, i.size, i.bytes)) = some (some (.int .i64 0), 1, 8) := by kernel_rfl
theorem own_heap {w : World} {base e g n : Nat} {xs : List Value} (h : w.ownsRow base e 1 (.slice (some ⟨g, 0, none⟩) n n) n xs) (hn : 0 < n) : w.heap[g]? = some (.cells xs.toArray e (0, 0)) ∧ xs.length = n := by
  obtain ⟨h1, h2⟩ := h
  rcases h2 with ⟨_, h0⟩ | ⟨g', cap, cur, he, _, hh, h3, _, h4, h5⟩
  · omega
  · simp only [Value.slice.injEq, Option.some.injEq, Addr.mk.injEq] at he
    obtain ⟨⟨rfl, _⟩, _, rfl⟩ := he
    rw [List.take_of_length_le (by simp [h4])] at h5
    rw [hh, ← h5]
    exact ⟨rfl, by simp [h4]⟩
theorem at_nums {w : World} {A : Option Addr} {n : Nat} {xs : List Int} (h : Kd.C (Kd.int .i64) w A n xs) (hn : 0 < n) : ∃ ad, A = some ad ∧ ∀ j v, (nums .i64 xs)[j]? = some v → w.cell? (ad.add j) = some v := by
  obtain ⟨ad, e, hc⟩ := (Kd.reads_of_C (enc := Value.int .i64) (d := (0 : Int)) (h1 := fun _ => rfl) h).2.2 hn
  refine ⟨ad, e, fun j v hj => ?_⟩
  have hl : j < xs.length := by have := (List.getElem?_eq_some_iff.1 hj).1; rwa [nums_length] at this
  rw [hc j (by have := h.1; omega)]
  simp [nums, List.getElem?_eq_getElem hl] at hj
  rw [← hj]
  simp [List.getD_eq_getElem?_getD, List.getElem?_eq_getElem hl]
theorem splice0 (l : List Int) (z : Value) (cur : List Value) (hc : cur.length = l.length + 1) : ((splice cur 0 (nums .i64 l)).toArray.setIfInBounds l.length z) = (nums .i64 l ++ [z]).toArray := by
  have hn : (nums .i64 l).length = l.length := nums_length _ _
  obtain ⟨a, b, rfl, ha⟩ : ∃ a b, cur = a ++ [b] ∧ a.length = l.length := by
    refine ⟨cur.take l.length, cur[l.length]'(by omega), ?_, by simp; omega⟩
    rw [← List.take_succ_eq_append_getElem (by omega), List.take_of_length_le (by omega)]
  simp [splice, hn, ← ha]
theorem cell_in {w : World} {g : Nat} {cs : Array Value} {t : TypeId} (h : w.heap[g]? = some (.cells cs t (0, 0))) (i : Nat) (hi : i < cs.size) : ∃ z, w.cell? ⟨g, i, none⟩ = some z := ⟨cs[i], by rw [blk_cell h]; simp [hi]⟩
set_option maxHeartbeats 400000 in
theorem keep_LendInts.calls (A0 : Option Addr) (c0 : Nat) (l0 : List Int) (w : World) (hr0 : Kd.C (Kd.int .i64) w A0 l0.length l0) (hl0 : l0.length ≤ 1000) :
    Calls Try.prog 12 #[.slice A0 l0.length c0] w fun e w' => ∃ g, e = .returned (.slice (some ⟨g, 0, none⟩) l0.length (l0.length + 1)) ∧ w.heap.size ≤ g ∧ w'.heap[g]? = some (.cells (nums .i64 (l0 ++ [-77])).toArray 3 (0, 0)) ∧ Below w.heap.size w w' := by
  obtain ⟨i0, hi, hz0, hz1, hz2⟩ := info_parts qinfo3
  obtain ⟨cs, hcs⟩ : ∃ cs, cs = nums .i64 l0 := ⟨_, rfl⟩
  have hcl : cs.length = l0.length := by rw [hcs, nums_length]
  have HC1 := Aside0.mk (show cs.length = Nat.min l0.length (l0.length + 1) by rw [hcl]; simp)
  have HC2 := Aside0.mk (show ∀ w1, Below w.heap.size w w1 → 0 < cs.length → ∃ ad, A0 = some ad ∧ ∀ j v, cs[j]? = some v → w1.cell? (ad.add j) = some v from fun w1 hb hp => by rw [hcs]; exact at_nums (Kd.C_below hr0 hb) (by omega))
  have HC3 := Aside0.mk (show ∀ v ∈ cs, v.oneCell' = true by rw [hcs]; intro v hv; obtain ⟨x, _, rfl⟩ := List.mem_map.1 hv; rfl)
  have HF := Aside0.mk (show ∀ cur : List Value, cur.length = l0.length + 1 → ((splice cur 0 cs).toArray.setIfInBounds l0.length (.int .i64 (-77))) = (nums .i64 (l0 ++ [-77])).toArray from fun cur hc => by rw [hcs, splice0 _ _ _ hc]; simp [nums])
  have HL := Aside0.mk hcl
  clear hr0 hcs hcl
  go_enter Try.func12, Try.ntmps12
  go_wp2_with (first
    | (have _g := HG; refine wpList_copy_splice rfl (.tmp 8) (.tmp 9) 25 25 rfl 3 Try.underlying25 (by kernel_rfl) (some ⟨w.heap.size, 0, none⟩) A0 (l0.length + 1) (l0.length + 1) l0.length c0 rfl rfl w.heap.size 0 _ 3 HG.out.1 cs HC1.out (fun hp => ⟨rfl, HC2.out _ HB.out hp⟩) (by rw [HL.out, HG.out.2]; omega) HC3.out w.heap.size w HB.out (Nat.le_refl _) ?_; intro w2 hg2 hb2; have HG2 := Aside0.mk hg2.out; have HB2 := Aside0.mk hb2; have hfz := blk_frozen hg2.out l0.length; obtain ⟨z, hcz⟩ := cell_in hg2.out l0.length (by rw [List.size_toArray, length_splice _ _ _ (by rw [HL.out, HG.out.2]; omega), HG.out.2]; omega); clear hg2 hb2 HB)
    | (at_make; refine wpList_make_full _ rfl _ _ 25 rfl w.heap.size 3 i0 (.int .i64 0) 1 Try.underlying25 hi hz0 hz1 .i64 .i64 _ _ (l0.length + 1) rfl rfl (by simp) (by simp) (by rw [hz2]; omega) (by unfold maxLen; omega) (Nat.le_refl _) ?_; intro w1 hown hg; have HG := Aside0.mk (own_heap hown (by omega)); have HB := Aside0.mk ((Below.refl w.heap.size w).grown hg (Nat.le_refl _) (fun k hk => by cases hk)); clear hown hg))
  go_ret
  refine ⟨_, rfl, Nat.le_refl _, ?_, HB2.out.setCell (Nat.le_refl _) _⟩
  rw [blk_set HG2.out, HF.out _ HG.out.2]

theorem ints_l (l : List Int) (hl : l.length ≤ 140737488355328) : ∀ (d i : Nat), i + d = l.length → Ev (fun k => folkmootkeep_Ints.l0 k l l (i : Int)) true
  | 0, i, h => Ev.step (f := fun _ => some true) (fun k => by simp only [folkmootkeep_Ints.l0]; rw [if_neg (by omega)]) (Ev.now _)
  | d + 1, i, h => Ev.step (fun k => by simp only [folkmootkeep_Ints.l0]; rw [if_pos (by omega), if_pos (by omega), if_pos (by omega), if_pos True.intro, wsucc i (by omega)]) (ints_l l hl d (i + 1) (by omega))
theorem ints_ev (l : List Int) (hl : l.length ≤ 140737488355328) : ∃ k, folkmootkeep_Ints.f k l l = some true := by
  obtain ⟨k, h⟩ := (ints_l l hl l.length 0 (by omega)).rounds
  exact ⟨k, by unfold folkmootkeep_Ints.f; rw [if_pos rfl]; exact h⟩
theorem C_of_blk {w : World} {g n : Nat} {l : List Int} {r : List Value} (h : w.heap[g]? = some (.cells (nums .i64 l ++ r).toArray 3 (0, 0))) (hn : l.length = n) (hm : n ≤ 9223372036854775807) : Kd.C (Kd.int .i64) w (some ⟨g, 0, none⟩) n l := by
  refine Kd.C_of_reads (d := (0 : Int)) (h1 := fun _ => rfl) ⟨hn, hm, fun _ => ⟨_, rfl, fun j hj => ?_⟩⟩
  rw [add_plain, blk_cell h, List.getElem?_toArray, List.getElem?_append_left (by rw [nums_length]; omega)]
  simp [nums, List.getElem?_eq_getElem (show j < l.length by omega), List.getD_eq_getElem?_getD]
theorem grownBy_set {w w1 : World} {g : Nat} (h : w.grownBy w1 (some g)) (i : Nat) (u : Value) : w.grownBy (w1.setCell ⟨g, i, none⟩ u) (some g) :=
  ⟨h.os, h.tape, h.output, by simpa [World.setCell] using h.size, fun k hk hne => (Below.heap_setCell w1 ⟨g, i, none⟩ u k (fun e => hne (by rw [e]))).trans (h.block k hk hne)⟩

set_option maxHeartbeats 400000 in
theorem keep_BackInts.calls (g : Nat) (A0 : Option Addr) (c0 : Nat) (l0 : List Int) (w : World) (hg : w.heap[g]? = some (.cells (nums .i64 (l0 ++ [-77])).toArray 3 (0, 0))) (hr0 : Kd.C (Kd.int .i64) w A0 l0.length l0) (hc0 : l0.length ≤ c0) (hl0 : l0.length ≤ 1000) :
    Calls Try.prog 14 #[.slice (some ⟨g, 0, none⟩) l0.length (l0.length + 1), .slice A0 l0.length c0] w fun e w' => e = .returned (.bool true) ∧ w.grownBy w' (some g) := by
  have HG := Aside0.mk hg
  obtain ⟨k, hk⟩ := ints_ev l0 (by omega)
  have hg' : w.heap[g]? = some (.cells (nums .i64 l0 ++ [Value.int .i64 (-77)]).toArray 3 (0, 0)) := by rw [hg]; simp [nums]
  have HI := Aside0.mk (folkmootkeep_Ints.calls k _ (l0.length + 1) l0 A0 c0 l0 true w (C_of_blk hg' rfl (by omega)) (by omega) hr0 hc0 hk)
  have hc := blk_cell hg' l0.length
  have hc' : w.cell? ⟨g, l0.length, none⟩ = some (.int .i64 (-77)) := by rw [hc]; simp [nums]
  clear hg hr0 hc0 hk hg' hc
  go_enter Try.func14, Try.ntmps14
  go_wp2_with fail
  refine HI.out.mono ?_
  rintro e w1 ⟨rfl, ⟨m, rfl⟩⟩
  go_wp2
  go_loopw [7] (fun i w' => ∃ j : Nat, j ≤ l0.length + 1 ∧ i = .int .i64 j ∧ Aside0 (w.grownBy w' (some g) ∧ ∃ cur : Array Value, cur.size = l0.length + 1 ∧ w'.heap[g]? = some (.cells cur 3 (0, 0)))) (fun i _ => l0.length + 1 - (intOf i).toNat)
  case atStart => exact ⟨0, Nat.zero_le _, rfl, ⟨⟨rfl, rfl, rfl, Nat.le_refl _, fun _ _ _ => rfl⟩, _, by simp [nums], HG.out⟩⟩
  case round =>
    obtain ⟨j, hj, rfl, HW⟩ := hrel
    by_cases hlt : j < l0.length + 1
    · obtain ⟨hgr, cur, hcs, hcur⟩ := HW.out
      have HW' := Aside0.mk (And.intro hgr (And.intro hcs hcur))
      obtain ⟨z, hz⟩ := cell_in hcur j (by omega)
      have hfz := blk_frozen hcur j
      have hlt' : (j : Int) < (l0.length : Int) + 1 := by omega
      clear hgr hcs hcur HW hc'
      go_wp2
      go_roundw
      case rel => exact ⟨j + 1, by omega, by go_num, ⟨grownBy_set HW'.out.1 _ _, _, by simpa using HW'.out.2.1, blk_set HW'.out.2.2 _ _⟩⟩
      case measure => simp [intOf]; omega
    · have hlt' : ¬ (j : Int) < (l0.length : Int) + 1 := by omega
      go_wp2
      go_ret
      exact ⟨rfl, HW.out.1⟩
end Go.Proofs.Ytglmilgphbflaaa.Q
