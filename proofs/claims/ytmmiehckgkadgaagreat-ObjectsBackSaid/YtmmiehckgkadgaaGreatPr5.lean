/- Own lemmas and walks (OA, OB, OC), without what the law does not need. Laid by a program of this session (prune.py). -/
import Derived.Deep.RegionHeld3
import Derived.Laws.EntriesVeiled
import Derived.Test.YtmmiehckgkadgaaGreatPr4
namespace Go.Proofs.YtmmiehckgkadgaaGreat.O
set_option linter.unusedVariables false
set_option linter.unusedSimpArgs false
open Go.RowKit Go.Proofs.YtmmiehckgkadgaaGreatW.PrintWords
def idx {α : Type} (p : α → Bool) (l : List α) : Int := if l.any p = true then (l.findIdx p : Int) else -1
theorem idx_hit {α : Type} {p : α → Bool} {l : List α} {k : Nat} (hk : k < l.length) (hp : p l[k] = true) (hn : ∀ j (hj : j < l.length), j < k → p l[j] = false) : idx p l = (k : Int) := by
  unfold idx
  rw [if_pos (List.any_eq_true.2 ⟨_, List.getElem_mem hk, hp⟩), (List.findIdx_eq hk).2 ⟨hp, fun j hj => by simpa using hn j (by omega) hj⟩]
theorem idx_none {α : Type} {p : α → Bool} {l : List α} (hn : ∀ j (hj : j < l.length), p l[j] = false) : idx p l = -1 := by
  unfold idx
  rw [if_neg]
  intro h
  obtain ⟨x, hx, hp⟩ := List.any_eq_true.1 h
  obtain ⟨j, hj, rfl⟩ := List.getElem_of_mem hx
  rw [hn j hj] at hp
  cases hp
theorem idx_cases {α : Type} (p : α → Bool) (l : List α) : (∃ k, ∃ hk : k < l.length, idx p l = (k : Int) ∧ p l[k] = true ∧ ∀ j (hj : j < l.length), j < k → p l[j] = false) ∨ (idx p l = -1 ∧ ∀ j (hj : j < l.length), p l[j] = false) := by
  by_cases h : l.any p = true
  · left
    have hk : l.findIdx p < l.length := List.findIdx_lt_length.2 (by obtain ⟨x, hx, hp⟩ := List.any_eq_true.1 h; exact ⟨x, hx, hp⟩)
    refine ⟨l.findIdx p, hk, by unfold idx; rw [if_pos h], List.findIdx_getElem, fun j hj hlt => by simpa using List.not_of_lt_findIdx hlt⟩
  · right
    have hn : ∀ j (hj : j < l.length), p l[j] = false := fun j hj => by
      cases e : p l[j] with
      | false => rfl
      | true => exact absurd (List.any_eq_true.2 ⟨_, List.getElem_mem hj, e⟩) h
    exact ⟨idx_none hn, hn⟩
theorem idx_lo {α : Type} (p : α → Bool) (l : List α) : -1 ≤ idx p l ∧ idx p l < l.length := by
  rcases idx_cases p l with ⟨k, hk, h, _⟩ | ⟨h, _⟩ <;> rw [h] <;> omega
theorem snoc_false {α : Type} {l : List α} {p : α → Bool} {k : Nat} (h : ∀ j (hj : j < l.length), j < k → p l[j] = false) (hk : k < l.length) (hn : p l[k] = false) : ∀ j (hj : j < l.length), j < k + 1 → p l[j] = false := fun j hj hlt => by
  rcases Nat.lt_or_ge j k with h' | h'
  · exact h j hj h'
  · obtain rfl : j = k := by omega
    exact hn
def cnt {α : Type} (p : α → Bool) (l : List α) : Nat := (l.filter p).length
theorem cnt_le {α : Type} (p : α → Bool) (l : List α) : cnt p l ≤ l.length := List.length_filter_le _ _
theorem cnt_snoc {α : Type} (p : α → Bool) (l : List α) (k : Nat) (h : k < l.length) : cnt p (l.take (k + 1)) = cnt p (l.take k) + if p l[k] = true then 1 else 0 := by
  unfold cnt
  rw [List.take_succ_eq_append_getElem h, List.filter_append, List.length_append]
  by_cases e : p l[k] = true <;> simp [e]
theorem cCol {w : World} {A : Option Addr} {n : Nat} {xs : List Col} (h : kCol.C w A n xs) (j : Nat) (hj : j < xs.length) : ∃ ad, A = some ad ∧ w.cell? (ad.add (j * 3)) = some (.string xs[j].name) ∧ w.cell? ⟨(ad.add (j * 3)).block, (ad.add (j * 3)).off + 1, none⟩ = some (.int .i64 xs[j].kind) ∧ w.cell? ⟨(ad.add (j * 3)).block, (ad.add (j * 3)).off + 2, none⟩ = some (.bool xs[j].null) := by
  have h1 := atCol h (j : Int) (by omega) (by have := h.1; omega)
  rw [show rdCol xs (j : Int) = xs[j] by simp [rdCol, List.getD_eq_getElem?_getD, List.getElem?_eq_getElem hj], Int.toNat_natCast] at h1
  exact h1
theorem cRul {w : World} {A : Option Addr} {n : Nat} {xs : List Rul} (h : kRul.C w A n xs) (j : Nat) (hj : j < xs.length) : ∃ ad A2 c2, A = some ad ∧ w.cell? (ad.add (j * 8)) = some (.string xs[j].name) ∧ w.cell? ⟨(ad.add (j * 8)).block, (ad.add (j * 8)).off + 1, none⟩ = some (.int .i64 xs[j].kind) ∧ w.cell? ⟨(ad.add (j * 8)).block, (ad.add (j * 8)).off + 2, none⟩ = some (.slice A2 xs[j].cols.length c2) ∧ w.cell? ⟨(ad.add (j * 8)).block, (ad.add (j * 8)).off + 3, none⟩ = some (.int .i64 xs[j].low) ∧ w.cell? ⟨(ad.add (j * 8)).block, (ad.add (j * 8)).off + 4, none⟩ = some (.int .i64 xs[j].high) ∧ w.cell? ⟨(ad.add (j * 8)).block, (ad.add (j * 8)).off + 5, none⟩ = some (.string xs[j].schema) ∧ w.cell? ⟨(ad.add (j * 8)).block, (ad.add (j * 8)).off + 6, none⟩ = some (.string xs[j].table) ∧ w.cell? ⟨(ad.add (j * 8)).block, (ad.add (j * 8)).off + 7, none⟩ = some (.string xs[j].key) ∧ xs[j].cols.length ≤ c2 ∧ Kd.string.C w A2 xs[j].cols.length xs[j].cols := by
  have h1 := atRul h (j : Int) (by omega) (by have := h.1; omega)
  rw [show rdRul xs (j : Int) = xs[j] by simp [rdRul, List.getD_eq_getElem?_getD, List.getElem?_eq_getElem hj], Int.toNat_natCast] at h1
  exact h1
theorem cSch {w : World} {A : Option Addr} {n : Nat} {xs : List Sch} (h : kSch.C w A n xs) (j : Nat) (hj : j < xs.length) : ∃ ad, A = some ad ∧ w.cell? (ad.add (j * 2)) = some (.string xs[j].name) ∧ w.cell? ⟨(ad.add (j * 2)).block, (ad.add (j * 2)).off + 1, none⟩ = some (.string xs[j].owner) := by
  have h1 := atSch h (j : Int) (by omega) (by have := h.1; omega)
  rw [show rdSch xs (j : Int) = xs[j] by simp [rdSch, List.getD_eq_getElem?_getD, List.getElem?_eq_getElem hj], Int.toNat_natCast] at h1
  exact h1
theorem cTab {w : World} {A : Option Addr} {n : Nat} {xs : List Tab} (h : kTab.C w A n xs) (j : Nat) (hj : j < xs.length) : ∃ ad A3 c3 A4 c4, A = some ad ∧ w.cell? (ad.add (j * 5)) = some (.string xs[j].schema) ∧ w.cell? ⟨(ad.add (j * 5)).block, (ad.add (j * 5)).off + 1, none⟩ = some (.string xs[j].name) ∧ w.cell? ⟨(ad.add (j * 5)).block, (ad.add (j * 5)).off + 2, none⟩ = some (.string xs[j].owner) ∧ w.cell? ⟨(ad.add (j * 5)).block, (ad.add (j * 5)).off + 3, none⟩ = some (.slice A3 xs[j].cols.length c3) ∧ w.cell? ⟨(ad.add (j * 5)).block, (ad.add (j * 5)).off + 4, none⟩ = some (.slice A4 xs[j].rules.length c4) ∧ xs[j].cols.length ≤ c3 ∧ kCol.C w A3 xs[j].cols.length xs[j].cols ∧ xs[j].rules.length ≤ c4 ∧ kRul.C w A4 xs[j].rules.length xs[j].rules := by
  have h1 := atTab h (j : Int) (by omega) (by have := h.1; omega)
  rw [show rdTab xs (j : Int) = xs[j] by simp [rdTab, List.getD_eq_getElem?_getD, List.getElem?_eq_getElem hj], Int.toNat_natCast] at h1
  exact h1
set_option maxHeartbeats 400000 in
theorem columnName.calls (x : Col) (w : World) : Calls Tryz.prog 50 #[.agg #[.string x.name, .int .i64 x.kind, .bool x.null]] w fun e w' => e = .returned (.string x.name) ∧ Below w.heap.size w w' := by
  go_enter Tryz.func50, Tryz.ntmps50
  go_wp2
  go_ret
  exact ⟨rfl, (Below.refl _ _).alloc (Nat.le_refl _) _⟩
theorem keepCol {w0 w w' : World} {v0 v1 v2 v3 v4 : Value} {a0 a1 a2 a3 a4 : Addr} (h : w.cell? a0 = some v0 ∧ w.cell? a1 = some v1 ∧ w.cell? a2 = some v2 ∧ w.cell? a3 = some v3 ∧ w.cell? a4 = some v4 ∧ Below w0.heap.size w0 w) (hb : Below w.heap.size w w') : w'.cell? a0 = some v0 ∧ w'.cell? a1 = some v1 ∧ w'.cell? a2 = some v2 ∧ w'.cell? a3 = some v3 ∧ w'.cell? a4 = some v4 ∧ Below w0.heap.size w0 w' :=
  ⟨pw_cell_below hb h.1, pw_cell_below hb h.2.1, pw_cell_below hb h.2.2.1, pw_cell_below hb h.2.2.2.1, pw_cell_below hb h.2.2.2.2.1, h.2.2.2.2.2.trans (hb.mono h.2.2.2.2.2.size)⟩
set_option maxHeartbeats 1000000 in
theorem byNameCol1.calls (x : Col) (bo bn : Nat) (name : ByteArray) (w : World) (h1 : w.cell? ⟨bo, 0, none⟩ = some (.func (.func 50) #[] #[])) (h2 : w.cell? ⟨bn, 0, none⟩ = some (.string name)) :
    Calls Tryz.prog 95 #[.agg #[.string x.name, .int .i64 x.kind, .bool x.null], .pointer (some ⟨bo, 0, none⟩), .pointer (some ⟨bn, 0, none⟩)] w fun e w' => e = .returned (.bool (x.name.toList == name.toList)) ∧ Below w.heap.size w w' := by
  have hb1 : bo < w.heap.size := World.block_lt_of_cell? w _ h1
  have hb2 : bn < w.heap.size := World.block_lt_of_cell? w _ h2
  have ha : ∀ o, (w.alloc o).cell? ⟨bo, 0, none⟩ = some (.func (.func 50) #[] #[]) := fun o => pw_cell_below (below_alloc (Below.refl _ _) o) h1
  have hc : ∀ o, (w.alloc o).cell? ⟨bn, 0, none⟩ = some (.string name) := fun o => pw_cell_below (below_alloc (Below.refl _ _) o) h2
  go_enter Tryz.func95, Tryz.ntmps95
  go_wp2_with fail
  go_region_held3 (fun w' => w'.cell? ⟨bo, 0, none⟩ = some (.func (.func 50) #[] #[]) ∧ w'.cell? ⟨bn, 0, none⟩ = some (.string name) ∧ w'.cell? ⟨w.heap.size, 0, none⟩ = some (.string x.name) ∧ w'.cell? ⟨w.heap.size, 1, none⟩ = some (.int .i64 x.kind) ∧ w'.cell? ⟨w.heap.size, 2, none⟩ = some (.bool x.null) ∧ Below w.heap.size w w') (first | exact keepCol (by assumption) (by assumption) | (exact ⟨(by simp [*]), (by simp [*]), (by simp), (by simp), (by simp), ((Below.refl _ _).alloc (Nat.le_refl _) _).drew⟩))
    (first | (go_at_call 50; refine (columnName.calls x _).mono ?_; rintro e w' ⟨rfl, hb⟩))
  rename_i hH
  have HB := Aside0.mk hH.2.2.2.2.2
  clear hH hb
  go_wp2
  go_ret
  exact ⟨rfl, HB.out⟩
set_option maxHeartbeats 1000000 in
theorem idxFuncCol.calls (A0 : Option Addr) (c0 : Nat) (xs : List Col) (bo bn : Nat) (name : ByteArray) (w : World) (hr : kCol.C w A0 xs.length xs) (hl : xs.length ≤ 140737488355328) (h1 : w.cell? ⟨bo, 0, none⟩ = some (.func (.func 50) #[] #[])) (h2 : w.cell? ⟨bn, 0, none⟩ = some (.string name)) :
    Calls Tryz.prog 94 #[.slice A0 xs.length c0, .func (.func 95) #[] #[.pointer (some ⟨bo, 0, none⟩), .pointer (some ⟨bn, 0, none⟩)]] w fun e w' => e = .returned (.int .i64 (idx (fun x => x.name.toList == name.toList) xs)) ∧ Below w.heap.size w w' := by
  have HR := Aside0.mk hr
  have H1 := Aside0.mk h1
  have H2 := Aside0.mk h2
  have HX := Aside0.mk (show ∀ k, idx (fun x => x.name.toList == name.toList) xs = k → idx (fun x => x.name.toList == name.toList) xs = k from fun _ h => h)
  generalize hi : idx (fun x : Col => x.name.toList == name.toList) xs = r at HX
  clear HX
  have HI := Aside0.mk hi
  clear hr h1 h2 hi
  go_enter Tryz.func94, Tryz.ntmps94
  go_wp2
  go_loopw [8] (fun i w' => ∃ k : Nat, k ≤ xs.length ∧ i = .int .i64 k ∧ Aside0 ((∀ j (hj : j < xs.length), j < k → (xs[j].name.toList == name.toList) = false) ∧ Below w.heap.size w w')) (fun i _ => xs.length - (intOf i).toNat)
  case atStart => exact ⟨0, Nat.zero_le _, rfl, ⟨fun _ _ h => absurd h (Nat.not_lt_zero _), Below.refl _ _⟩⟩
  case round =>
    obtain ⟨k, hk, rfl, HJ⟩ := hrel
    by_cases hlt : k < xs.length
    · obtain ⟨ad, e, hc0, hc1, hc2⟩ := cCol (Kd.C_below HR.out HJ.out.2) k hlt
      cases e
      have HC := Aside0.mk (byNameCol1.calls xs[k] bo bn name wr (pw_cell_below HJ.out.2 H1.out) (pw_cell_below HJ.out.2 H2.out))
      generalize hp : (xs[k].name.toList == name.toList) = p at HC
      have HP := Aside0.mk hp
      clear hp
      go_wp2_with fail
      refine HC.out.mono ?_
      rintro e w1 ⟨rfl, hb1⟩
      have HB := Aside0.mk (HJ.out.2.trans (hb1.mono HJ.out.2.size))
      clear hb1
      cases p with
      | true =>
        have hr := idx_hit (p := fun x : Col => x.name.toList == name.toList) hlt HP.out HJ.out.1
        have HR2 := Aside0.mk (hr.symm.trans HI.out)
        clear hr
        go_wp2
        go_ret
        exact ⟨ret_int HR2.out, HB.out⟩
      | false =>
        go_wp2
        go_roundw
        case rel => exact ⟨k + 1, by omega, by go_num, ⟨snoc_false (p := fun x : Col => x.name.toList == name.toList) HJ.out.1 hlt HP.out, HB.out⟩⟩
        case measure => simp [intOf]; omega
    · have hd : decide (k < xs.length) = false := decide_eq_false hlt
      go_wp2
      go_ret
      exact ⟨ret_int ((idx_none (p := fun x : Col => x.name.toList == name.toList) fun j hj => HJ.out.1 j hj (by omega)).symm.trans HI.out), HJ.out.2⟩
set_option maxHeartbeats 400000 in
theorem byNameCol.calls (A0 : Option Addr) (c0 : Nat) (xs : List Col) (name : ByteArray) (w : World) (hr : kCol.C w A0 xs.length xs) (hl : xs.length ≤ 140737488355328) :
    Calls Tryz.prog 49 #[.slice A0 xs.length c0, .string name, .func (.func 50) #[] #[]] w fun e w' => e = .returned (.int .i64 (idx (fun x => x.name.toList == name.toList) xs)) ∧ Below w.heap.size w w' := by
  have hbx : Below w.heap.size w ((w.alloc (.cells #[.string name] 9)).alloc (.cells #[.func (.func 50) #[] #[]] 79)) := below_alloc (below_alloc (Below.refl _ _) _) _
  have HC := Aside0.mk (idxFuncCol.calls A0 c0 xs (w.heap.size + 1) w.heap.size name _ (Kd.C_below hr hbx) hl (by simp) (by simp))
  have HB := Aside0.mk hbx
  clear hr hbx
  generalize idx (fun x : Col => x.name.toList == name.toList) xs = r at HC ⊢
  go_enter Tryz.func49, Tryz.ntmps49
  go_wp2_with fail
  refine HC.out.mono ?_
  rintro e w1 ⟨rfl, hb1⟩
  have HB1 := Aside0.mk (HB.out.trans (hb1.mono HB.out.size))
  clear hb1
  go_wp2
  go_ret
  exact ⟨rfl, HB1.out⟩
set_option maxHeartbeats 400000 in
theorem ruleName.calls (x : Rul) {A2 : Option Addr} {c2 : Nat} (w : World) : Calls Tryz.prog 30 #[.agg #[.string x.name, .int .i64 x.kind, .slice A2 x.cols.length c2, .int .i64 x.low, .int .i64 x.high, .string x.schema, .string x.table, .string x.key]] w fun e w' => e = .returned (.string x.name) ∧ Below w.heap.size w w' := by
  go_enter Tryz.func30, Tryz.ntmps30
  go_wp2
  go_ret
  exact ⟨rfl, (Below.refl _ _).alloc (Nat.le_refl _) _⟩
theorem keepRul {w0 w w' : World} {v0 v1 v2 v3 v4 v5 v6 v7 v8 v9 : Value} {a0 a1 a2 a3 a4 a5 a6 a7 a8 a9 : Addr} (h : w.cell? a0 = some v0 ∧ w.cell? a1 = some v1 ∧ w.cell? a2 = some v2 ∧ w.cell? a3 = some v3 ∧ w.cell? a4 = some v4 ∧ w.cell? a5 = some v5 ∧ w.cell? a6 = some v6 ∧ w.cell? a7 = some v7 ∧ w.cell? a8 = some v8 ∧ w.cell? a9 = some v9 ∧ Below w0.heap.size w0 w) (hb : Below w.heap.size w w') : w'.cell? a0 = some v0 ∧ w'.cell? a1 = some v1 ∧ w'.cell? a2 = some v2 ∧ w'.cell? a3 = some v3 ∧ w'.cell? a4 = some v4 ∧ w'.cell? a5 = some v5 ∧ w'.cell? a6 = some v6 ∧ w'.cell? a7 = some v7 ∧ w'.cell? a8 = some v8 ∧ w'.cell? a9 = some v9 ∧ Below w0.heap.size w0 w' :=
  ⟨pw_cell_below hb h.1, pw_cell_below hb h.2.1, pw_cell_below hb h.2.2.1, pw_cell_below hb h.2.2.2.1, pw_cell_below hb h.2.2.2.2.1, pw_cell_below hb h.2.2.2.2.2.1, pw_cell_below hb h.2.2.2.2.2.2.1, pw_cell_below hb h.2.2.2.2.2.2.2.1, pw_cell_below hb h.2.2.2.2.2.2.2.2.1, pw_cell_below hb h.2.2.2.2.2.2.2.2.2.1, h.2.2.2.2.2.2.2.2.2.2.trans (hb.mono h.2.2.2.2.2.2.2.2.2.2.size)⟩
set_option maxHeartbeats 1000000 in
theorem byNameRul1.calls (x : Rul) {A2 : Option Addr} {c2 : Nat} (bo bn : Nat) (name : ByteArray) (w : World) (h1 : w.cell? ⟨bo, 0, none⟩ = some (.func (.func 30) #[] #[])) (h2 : w.cell? ⟨bn, 0, none⟩ = some (.string name)) :
    Calls Tryz.prog 82 #[.agg #[.string x.name, .int .i64 x.kind, .slice A2 x.cols.length c2, .int .i64 x.low, .int .i64 x.high, .string x.schema, .string x.table, .string x.key], .pointer (some ⟨bo, 0, none⟩), .pointer (some ⟨bn, 0, none⟩)] w fun e w' => e = .returned (.bool (x.name.toList == name.toList)) ∧ Below w.heap.size w w' := by
  have hb1 : bo < w.heap.size := World.block_lt_of_cell? w _ h1
  have hb2 : bn < w.heap.size := World.block_lt_of_cell? w _ h2
  have ha : ∀ o, (w.alloc o).cell? ⟨bo, 0, none⟩ = some (.func (.func 30) #[] #[]) := fun o => pw_cell_below (below_alloc (Below.refl _ _) o) h1
  have hc : ∀ o, (w.alloc o).cell? ⟨bn, 0, none⟩ = some (.string name) := fun o => pw_cell_below (below_alloc (Below.refl _ _) o) h2
  go_enter Tryz.func82, Tryz.ntmps82
  go_wp2_with fail
  go_region_held3 (fun w' => w'.cell? ⟨bo, 0, none⟩ = some (.func (.func 30) #[] #[]) ∧ w'.cell? ⟨bn, 0, none⟩ = some (.string name) ∧ w'.cell? ⟨w.heap.size, 0, none⟩ = some (.string x.name) ∧ w'.cell? ⟨w.heap.size, 1, none⟩ = some (.int .i64 x.kind) ∧ w'.cell? ⟨w.heap.size, 2, none⟩ = some (.slice A2 x.cols.length c2) ∧ w'.cell? ⟨w.heap.size, 3, none⟩ = some (.int .i64 x.low) ∧ w'.cell? ⟨w.heap.size, 4, none⟩ = some (.int .i64 x.high) ∧ w'.cell? ⟨w.heap.size, 5, none⟩ = some (.string x.schema) ∧ w'.cell? ⟨w.heap.size, 6, none⟩ = some (.string x.table) ∧ w'.cell? ⟨w.heap.size, 7, none⟩ = some (.string x.key) ∧ Below w.heap.size w w') (first | exact keepRul (by assumption) (by assumption) | (exact ⟨(by simp [*]), (by simp [*]), (by simp), (by simp), (by simp), (by simp), (by simp), (by simp), (by simp), (by simp), ((Below.refl _ _).alloc (Nat.le_refl _) _).drew⟩))
    (first | (go_at_call 30; refine (ruleName.calls x _).mono ?_; rintro e w' ⟨rfl, hb⟩))
  rename_i hH
  have HB := Aside0.mk hH.2.2.2.2.2.2.2.2.2.2
  clear hH hb
  go_wp2
  go_ret
  exact ⟨rfl, HB.out⟩
set_option maxHeartbeats 1000000 in
theorem idxFuncRul.calls (A0 : Option Addr) (c0 : Nat) (xs : List Rul) (bo bn : Nat) (name : ByteArray) (w : World) (hr : kRul.C w A0 xs.length xs) (hl : xs.length ≤ 140737488355328) (h1 : w.cell? ⟨bo, 0, none⟩ = some (.func (.func 30) #[] #[])) (h2 : w.cell? ⟨bn, 0, none⟩ = some (.string name)) :
    Calls Tryz.prog 81 #[.slice A0 xs.length c0, .func (.func 82) #[] #[.pointer (some ⟨bo, 0, none⟩), .pointer (some ⟨bn, 0, none⟩)]] w fun e w' => e = .returned (.int .i64 (idx (fun x => x.name.toList == name.toList) xs)) ∧ Below w.heap.size w w' := by
  have HR := Aside0.mk hr
  have H1 := Aside0.mk h1
  have H2 := Aside0.mk h2
  have HX := Aside0.mk (show ∀ k, idx (fun x => x.name.toList == name.toList) xs = k → idx (fun x => x.name.toList == name.toList) xs = k from fun _ h => h)
  generalize hi : idx (fun x : Rul => x.name.toList == name.toList) xs = r at HX
  clear HX
  have HI := Aside0.mk hi
  clear hr h1 h2 hi
  go_enter Tryz.func81, Tryz.ntmps81
  go_wp2
  go_loopw [8] (fun i w' => ∃ k : Nat, k ≤ xs.length ∧ i = .int .i64 k ∧ Aside0 ((∀ j (hj : j < xs.length), j < k → (xs[j].name.toList == name.toList) = false) ∧ Below w.heap.size w w')) (fun i _ => xs.length - (intOf i).toNat)
  case atStart => exact ⟨0, Nat.zero_le _, rfl, ⟨fun _ _ h => absurd h (Nat.not_lt_zero _), Below.refl _ _⟩⟩
  case round =>
    obtain ⟨k, hk, rfl, HJ⟩ := hrel
    by_cases hlt : k < xs.length
    · obtain ⟨ad, A2, c2, e, hc0, hc1, hc2, hc3, hc4, hc5, hc6, hc7, hsl2, hsc2⟩ := cRul (Kd.C_below HR.out HJ.out.2) k hlt
      cases e
      have HC := Aside0.mk (byNameRul1.calls xs[k] (A2 := A2) (c2 := c2) bo bn name wr (pw_cell_below HJ.out.2 H1.out) (pw_cell_below HJ.out.2 H2.out))
      generalize hp : (xs[k].name.toList == name.toList) = p at HC
      have HP := Aside0.mk hp
      clear hp hsl2 hsc2
      go_wp2_with fail
      refine HC.out.mono ?_
      rintro e w1 ⟨rfl, hb1⟩
      have HB := Aside0.mk (HJ.out.2.trans (hb1.mono HJ.out.2.size))
      clear hb1
      cases p with
      | true =>
        have hr := idx_hit (p := fun x : Rul => x.name.toList == name.toList) hlt HP.out HJ.out.1
        have HR2 := Aside0.mk (hr.symm.trans HI.out)
        clear hr
        go_wp2
        go_ret
        exact ⟨ret_int HR2.out, HB.out⟩
      | false =>
        go_wp2
        go_roundw
        case rel => exact ⟨k + 1, by omega, by go_num, ⟨snoc_false (p := fun x : Rul => x.name.toList == name.toList) HJ.out.1 hlt HP.out, HB.out⟩⟩
        case measure => simp [intOf]; omega
    · have hd : decide (k < xs.length) = false := decide_eq_false hlt
      go_wp2
      go_ret
      exact ⟨ret_int ((idx_none (p := fun x : Rul => x.name.toList == name.toList) fun j hj => HJ.out.1 j hj (by omega)).symm.trans HI.out), HJ.out.2⟩
set_option maxHeartbeats 400000 in
theorem byNameRul.calls (A0 : Option Addr) (c0 : Nat) (xs : List Rul) (name : ByteArray) (w : World) (hr : kRul.C w A0 xs.length xs) (hl : xs.length ≤ 140737488355328) :
    Calls Tryz.prog 29 #[.slice A0 xs.length c0, .string name, .func (.func 30) #[] #[]] w fun e w' => e = .returned (.int .i64 (idx (fun x => x.name.toList == name.toList) xs)) ∧ Below w.heap.size w w' := by
  have hbx : Below w.heap.size w ((w.alloc (.cells #[.string name] 9)).alloc (.cells #[.func (.func 30) #[] #[]] 59)) := below_alloc (below_alloc (Below.refl _ _) _) _
  have HC := Aside0.mk (idxFuncRul.calls A0 c0 xs (w.heap.size + 1) w.heap.size name _ (Kd.C_below hr hbx) hl (by simp) (by simp))
  have HB := Aside0.mk hbx
  clear hr hbx
  generalize idx (fun x : Rul => x.name.toList == name.toList) xs = r at HC ⊢
  go_enter Tryz.func29, Tryz.ntmps29
  go_wp2_with fail
  refine HC.out.mono ?_
  rintro e w1 ⟨rfl, hb1⟩
  have HB1 := Aside0.mk (HB.out.trans (hb1.mono HB.out.size))
  clear hb1
  go_wp2
  go_ret
  exact ⟨rfl, HB1.out⟩
set_option maxHeartbeats 400000 in
theorem schemaName.calls (x : Sch) (w : World) : Calls Tryz.prog 55 #[.agg #[.string x.name, .string x.owner]] w fun e w' => e = .returned (.string x.name) ∧ Below w.heap.size w w' := by
  go_enter Tryz.func55, Tryz.ntmps55
  go_wp2
  go_ret
  exact ⟨rfl, (Below.refl _ _).alloc (Nat.le_refl _) _⟩
theorem keepSch {w0 w w' : World} {v0 v1 v2 v3 : Value} {a0 a1 a2 a3 : Addr} (h : w.cell? a0 = some v0 ∧ w.cell? a1 = some v1 ∧ w.cell? a2 = some v2 ∧ w.cell? a3 = some v3 ∧ Below w0.heap.size w0 w) (hb : Below w.heap.size w w') : w'.cell? a0 = some v0 ∧ w'.cell? a1 = some v1 ∧ w'.cell? a2 = some v2 ∧ w'.cell? a3 = some v3 ∧ Below w0.heap.size w0 w' :=
  ⟨pw_cell_below hb h.1, pw_cell_below hb h.2.1, pw_cell_below hb h.2.2.1, pw_cell_below hb h.2.2.2.1, h.2.2.2.2.trans (hb.mono h.2.2.2.2.size)⟩
set_option maxHeartbeats 1000000 in
theorem byNameSch1.calls (x : Sch) (bo bn : Nat) (name : ByteArray) (w : World) (h1 : w.cell? ⟨bo, 0, none⟩ = some (.func (.func 55) #[] #[])) (h2 : w.cell? ⟨bn, 0, none⟩ = some (.string name)) :
    Calls Tryz.prog 100 #[.agg #[.string x.name, .string x.owner], .pointer (some ⟨bo, 0, none⟩), .pointer (some ⟨bn, 0, none⟩)] w fun e w' => e = .returned (.bool (x.name.toList == name.toList)) ∧ Below w.heap.size w w' := by
  have hb1 : bo < w.heap.size := World.block_lt_of_cell? w _ h1
  have hb2 : bn < w.heap.size := World.block_lt_of_cell? w _ h2
  have ha : ∀ o, (w.alloc o).cell? ⟨bo, 0, none⟩ = some (.func (.func 55) #[] #[]) := fun o => pw_cell_below (below_alloc (Below.refl _ _) o) h1
  have hc : ∀ o, (w.alloc o).cell? ⟨bn, 0, none⟩ = some (.string name) := fun o => pw_cell_below (below_alloc (Below.refl _ _) o) h2
  go_enter Tryz.func100, Tryz.ntmps100
  go_wp2_with fail
  go_region_held3 (fun w' => w'.cell? ⟨bo, 0, none⟩ = some (.func (.func 55) #[] #[]) ∧ w'.cell? ⟨bn, 0, none⟩ = some (.string name) ∧ w'.cell? ⟨w.heap.size, 0, none⟩ = some (.string x.name) ∧ w'.cell? ⟨w.heap.size, 1, none⟩ = some (.string x.owner) ∧ Below w.heap.size w w') (first | exact keepSch (by assumption) (by assumption) | (exact ⟨(by simp [*]), (by simp [*]), (by simp), (by simp), ((Below.refl _ _).alloc (Nat.le_refl _) _).drew⟩))
    (first | (go_at_call 55; refine (schemaName.calls x _).mono ?_; rintro e w' ⟨rfl, hb⟩))
  rename_i hH
  have HB := Aside0.mk hH.2.2.2.2
  clear hH hb
  go_wp2
  go_ret
  exact ⟨rfl, HB.out⟩
set_option maxHeartbeats 1000000 in
theorem idxFuncSch.calls (A0 : Option Addr) (c0 : Nat) (xs : List Sch) (bo bn : Nat) (name : ByteArray) (w : World) (hr : kSch.C w A0 xs.length xs) (hl : xs.length ≤ 140737488355328) (h1 : w.cell? ⟨bo, 0, none⟩ = some (.func (.func 55) #[] #[])) (h2 : w.cell? ⟨bn, 0, none⟩ = some (.string name)) :
    Calls Tryz.prog 99 #[.slice A0 xs.length c0, .func (.func 100) #[] #[.pointer (some ⟨bo, 0, none⟩), .pointer (some ⟨bn, 0, none⟩)]] w fun e w' => e = .returned (.int .i64 (idx (fun x => x.name.toList == name.toList) xs)) ∧ Below w.heap.size w w' := by
  have HR := Aside0.mk hr
  have H1 := Aside0.mk h1
  have H2 := Aside0.mk h2
  have HX := Aside0.mk (show ∀ k, idx (fun x => x.name.toList == name.toList) xs = k → idx (fun x => x.name.toList == name.toList) xs = k from fun _ h => h)
  generalize hi : idx (fun x : Sch => x.name.toList == name.toList) xs = r at HX
  clear HX
  have HI := Aside0.mk hi
  clear hr h1 h2 hi
  go_enter Tryz.func99, Tryz.ntmps99
  go_wp2
  go_loopw [8] (fun i w' => ∃ k : Nat, k ≤ xs.length ∧ i = .int .i64 k ∧ Aside0 ((∀ j (hj : j < xs.length), j < k → (xs[j].name.toList == name.toList) = false) ∧ Below w.heap.size w w')) (fun i _ => xs.length - (intOf i).toNat)
  case atStart => exact ⟨0, Nat.zero_le _, rfl, ⟨fun _ _ h => absurd h (Nat.not_lt_zero _), Below.refl _ _⟩⟩
  case round =>
    obtain ⟨k, hk, rfl, HJ⟩ := hrel
    by_cases hlt : k < xs.length
    · obtain ⟨ad, e, hc0, hc1⟩ := cSch (Kd.C_below HR.out HJ.out.2) k hlt
      cases e
      have HC := Aside0.mk (byNameSch1.calls xs[k] bo bn name wr (pw_cell_below HJ.out.2 H1.out) (pw_cell_below HJ.out.2 H2.out))
      generalize hp : (xs[k].name.toList == name.toList) = p at HC
      have HP := Aside0.mk hp
      clear hp
      go_wp2_with fail
      refine HC.out.mono ?_
      rintro e w1 ⟨rfl, hb1⟩
      have HB := Aside0.mk (HJ.out.2.trans (hb1.mono HJ.out.2.size))
      clear hb1
      cases p with
      | true =>
        have hr := idx_hit (p := fun x : Sch => x.name.toList == name.toList) hlt HP.out HJ.out.1
        have HR2 := Aside0.mk (hr.symm.trans HI.out)
        clear hr
        go_wp2
        go_ret
        exact ⟨ret_int HR2.out, HB.out⟩
      | false =>
        go_wp2
        go_roundw
        case rel => exact ⟨k + 1, by omega, by go_num, ⟨snoc_false (p := fun x : Sch => x.name.toList == name.toList) HJ.out.1 hlt HP.out, HB.out⟩⟩
        case measure => simp [intOf]; omega
    · have hd : decide (k < xs.length) = false := decide_eq_false hlt
      go_wp2
      go_ret
      exact ⟨ret_int ((idx_none (p := fun x : Sch => x.name.toList == name.toList) fun j hj => HJ.out.1 j hj (by omega)).symm.trans HI.out), HJ.out.2⟩
set_option maxHeartbeats 400000 in
theorem byNameSch.calls (A0 : Option Addr) (c0 : Nat) (xs : List Sch) (name : ByteArray) (w : World) (hr : kSch.C w A0 xs.length xs) (hl : xs.length ≤ 140737488355328) :
    Calls Tryz.prog 54 #[.slice A0 xs.length c0, .string name, .func (.func 55) #[] #[]] w fun e w' => e = .returned (.int .i64 (idx (fun x => x.name.toList == name.toList) xs)) ∧ Below w.heap.size w w' := by
  have hbx : Below w.heap.size w ((w.alloc (.cells #[.string name] 9)).alloc (.cells #[.func (.func 55) #[] #[]] 84)) := below_alloc (below_alloc (Below.refl _ _) _) _
  have HC := Aside0.mk (idxFuncSch.calls A0 c0 xs (w.heap.size + 1) w.heap.size name _ (Kd.C_below hr hbx) hl (by simp) (by simp))
  have HB := Aside0.mk hbx
  clear hr hbx
  generalize idx (fun x : Sch => x.name.toList == name.toList) xs = r at HC ⊢
  go_enter Tryz.func54, Tryz.ntmps54
  go_wp2_with fail
  refine HC.out.mono ?_
  rintro e w1 ⟨rfl, hb1⟩
  have HB1 := Aside0.mk (HB.out.trans (hb1.mono HB.out.size))
  clear hb1
  go_wp2
  go_ret
  exact ⟨rfl, HB1.out⟩
end Go.Proofs.YtmmiehckgkadgaaGreat.O
namespace Go.Proofs.YtmmiehckgkadgaaGreat.O
set_option linter.unusedVariables false
set_option linter.unusedSimpArgs false
open Go.RowKit Go.Proofs.YtmmiehckgkadgaaGreatW.PrintWords
def cmpS (a b : ByteArray) : Int := Lib.compareBytes a.data.toList b.data.toList
theorem compare.calls (a b : ByteArray) (w : World) : Calls Tryz.prog 35 #[.string a, .string b] w fun e w' => e = .returned (.int .i64 (cmpS a b)) ∧ w = w' :=
  (Any.strings_Compare Tryz.lays106 a b w).mono fun e w' ⟨he, hw⟩ => ⟨he, hw.symm⟩
def orI (a b : Int) : Int := if a = 0 then b else a
set_option maxHeartbeats 400000 in
theorem cmpOr.calls (g : Nat) (a b : Int) (w : World) (h0 : w.cell? ⟨g, 0, none⟩ = some (.int .i64 a)) (h1 : w.cell? ⟨g, 1, none⟩ = some (.int .i64 b)) :
    Calls Tryz.prog 102 #[.slice (some ⟨g, 0, none⟩) 2 2] w fun e w' => e = .returned (.int .i64 (orI a b)) ∧ w = w' := by
  unfold orI
  by_cases ha : a = 0
  · rw [if_pos ha]
    subst ha
    by_cases hb : b = 0
    · subst hb
      go_enter Tryz.func102, Tryz.ntmps102
      go_wp2
      refine wp_loop_rounds 3 ?_
      rw [rounds_succ]
      go_wp2
      rw [rounds_succ]
      go_wp2
      rw [rounds_succ]
      go_wp2
      go_ret
      exact ⟨rfl, rfl⟩
    · have hb' : (b != 0) = true := bne_iff_ne.2 hb
      go_enter Tryz.func102, Tryz.ntmps102
      go_wp2
      refine wp_loop_rounds 2 ?_
      rw [rounds_succ]
      go_wp2
      rw [rounds_succ]
      go_wp2
      go_ret
      exact ⟨rfl, rfl⟩
  · rw [if_neg ha]
    have ha' : (a != 0) = true := bne_iff_ne.2 ha
    go_enter Tryz.func102, Tryz.ntmps102
    go_wp2
    refine wp_loop_rounds 1 ?_
    rw [rounds_succ]
    go_wp2
    go_ret
    exact ⟨rfl, rfl⟩
theorem cell_new3 (w : World) (o1 o2 : Obj) (c : Array Value) (t : TypeId) (i : Nat) : (((w.alloc o1).alloc o2).alloc (.cells c t)).drew.cell? ⟨w.heap.size + 1 + 1, i, none⟩ = c[i]? := by
  have h := World.cell?_alloc_new (w := (w.alloc o1).alloc o2) c t i
  simpa using h
def orderT (x y : Tab) : Int := orI (cmpS x.schema y.schema) (cmpS x.name y.name)
theorem keep4 {w0 w w' : World} {v0 v1 v2 v3 : Value} {a0 a1 a2 a3 : Addr} (h : w.cell? a0 = some v0 ∧ w.cell? a1 = some v1 ∧ w.cell? a2 = some v2 ∧ w.cell? a3 = some v3 ∧ Below w0.heap.size w0 w) (hb : Below w.heap.size w w') : w'.cell? a0 = some v0 ∧ w'.cell? a1 = some v1 ∧ w'.cell? a2 = some v2 ∧ w'.cell? a3 = some v3 ∧ Below w0.heap.size w0 w' :=
  ⟨pw_cell_below hb h.1, pw_cell_below hb h.2.1, pw_cell_below hb h.2.2.1, pw_cell_below hb h.2.2.2.1, h.2.2.2.2.trans (hb.mono h.2.2.2.2.size)⟩
set_option maxHeartbeats 1000000 in
theorem order.calls (x y : Tab) {A3 A4 B3 B4 : Option Addr} {c3 c4 d3 d4 : Nat} (w : World) :
    Calls Tryz.prog 68 #[.agg #[.string x.schema, .string x.name, .string x.owner, .slice A3 x.cols.length c3, .slice A4 x.rules.length c4], .agg #[.string y.schema, .string y.name, .string y.owner, .slice B3 y.cols.length d3, .slice B4 y.rules.length d4]] w
      fun e w' => e = .returned (.int .i64 (orderT x y)) ∧ Below w.heap.size w w' := by
  have HO := Aside0.mk (show orderT x y = orI (cmpS x.schema y.schema) (cmpS x.name y.name) from rfl)
  rw [HO.out]
  clear HO
  generalize hm : cmpS x.schema y.schema = m
  generalize hn : cmpS x.name y.name = n
  have HM := fun W => compare.calls x.schema y.schema W
  have HN := fun W => compare.calls x.name y.name W
  rw [hm] at HM
  rw [hn] at HN
  have HC := Aside0.mk (And.intro HM HN)
  clear HM HN hm hn
  go_enter Tryz.func68, Tryz.ntmps68
  go_wp2_with fail
  go_region_held3 (fun w' => w'.cell? ⟨w.heap.size, 0, none⟩ = some (.string x.schema) ∧ w'.cell? ⟨w.heap.size, 1, none⟩ = some (.string x.name) ∧ w'.cell? ⟨w.heap.size + 1, 0, none⟩ = some (.string y.schema) ∧ w'.cell? ⟨w.heap.size + 1, 1, none⟩ = some (.string y.name) ∧ Below w.heap.size w w')
    (first | assumption | exact keep4 (by assumption) (by assumption) | exact keep4 (by assumption) (below_alloc (Below.refl _ _) _) | (exact ⟨(by simp), (by simp), (by simp), (by simp), (((Below.refl _ _).alloc (Nat.le_refl _) _).alloc (by simp) _).drew⟩))
    (first | (go_at_call_of 35 (Value.string x.schema); refine (HC.out.1 _).mono ?_; rintro e w' ⟨rfl, rfl⟩) | (go_at_call_of 35 (Value.string x.name); refine (HC.out.2 _).mono ?_; rintro e w' ⟨rfl, rfl⟩) | (go_at_call 102; refine (cmpOr.calls _ m n _ (cell_new3 _ _ _ _ _ 0) (cell_new3 _ _ _ _ _ 1)).mono ?_; rintro e w' ⟨rfl, rfl⟩))
  rename_i hH
  have HB := Aside0.mk hH.2.2.2.2
  clear hH
  go_wp2
  go_ret
  exact ⟨rfl, HB.out⟩
end Go.Proofs.YtmmiehckgkadgaaGreat.O
namespace Go.Proofs.YtmmiehckgkadgaaGreat.O
set_option linter.unusedVariables false
set_option linter.unusedSimpArgs false
open Go.RowKit Go.Proofs.YtmmiehckgkadgaaGreatW.PrintWords
set_option maxHeartbeats 400000 in
theorem check1.calls (x y : Sch) (w : World) : Calls Tryz.prog 70 #[.agg #[.string x.name, .string x.owner], .agg #[.string y.name, .string y.owner]] w fun e w' => e = .returned (.int .i64 (cmpS x.name y.name)) ∧ Below w.heap.size w w' := by
  have HC := Aside0.mk (fun W => compare.calls x.name y.name W)
  generalize cmpS x.name y.name = m at HC ⊢
  go_enter Tryz.func70, Tryz.ntmps70
  go_wp2_with fail
  refine (HC.out _).mono ?_
  rintro e w' ⟨rfl, rfl⟩
  go_wp2
  go_ret
  exact ⟨rfl, ((Below.refl _ _).alloc (Nat.le_refl _) _).alloc (by simp) _⟩
set_option maxHeartbeats 400000 in
theorem right1.calls (x y : Rul) {A2 : Option Addr} {c2 : Nat} {B2 : Option Addr} {d2 : Nat} (w : World) : Calls Tryz.prog 104 #[.agg #[.string x.name, .int .i64 x.kind, .slice A2 x.cols.length c2, .int .i64 x.low, .int .i64 x.high, .string x.schema, .string x.table, .string x.key], .agg #[.string y.name, .int .i64 y.kind, .slice B2 y.cols.length d2, .int .i64 y.low, .int .i64 y.high, .string y.schema, .string y.table, .string y.key]] w fun e w' => e = .returned (.int .i64 (cmpS x.name y.name)) ∧ Below w.heap.size w w' := by
  have HC := Aside0.mk (fun W => compare.calls x.name y.name W)
  generalize cmpS x.name y.name = m at HC ⊢
  go_enter Tryz.func104, Tryz.ntmps104
  go_wp2_with fail
  refine (HC.out _).mono ?_
  rintro e w' ⟨rfl, rfl⟩
  go_wp2
  go_ret
  exact ⟨rfl, ((Below.refl _ _).alloc (Nat.le_refl _) _).alloc (by simp) _⟩
def rises {α : Type} (f : α → α → Int) : List α → Bool
  | a :: b :: r => decide (f a b < 0) && rises f (b :: r)
  | _ => true
theorem rises_drop {α : Type} (f : α → α → Int) (l : List α) (i : Nat) (h : i + 1 < l.length) : rises f (l.drop i) = (decide (f l[i] l[i + 1] < 0) && rises f (l.drop (i + 1))) := by
  rw [List.drop_eq_getElem_cons (show i < l.length by omega), List.drop_eq_getElem_cons h]; rfl
theorem rises_short {α : Type} (f : α → α → Int) (l : List α) (h : l.length ≤ 1) : rises f l = true := by
  match l, h with
  | [], _ => rfl
  | [_], _ => rfl
theorem keepB16 {w0 w w' : World} {v0 v1 v2 v3 v4 v5 v6 v7 v8 v9 v10 v11 v12 v13 v14 v15 : Value} {a0 a1 a2 a3 a4 a5 a6 a7 a8 a9 a10 a11 a12 a13 a14 a15 : Addr} (h : w.cell? a0 = some v0 ∧ w.cell? a1 = some v1 ∧ w.cell? a2 = some v2 ∧ w.cell? a3 = some v3 ∧ w.cell? a4 = some v4 ∧ w.cell? a5 = some v5 ∧ w.cell? a6 = some v6 ∧ w.cell? a7 = some v7 ∧ w.cell? a8 = some v8 ∧ w.cell? a9 = some v9 ∧ w.cell? a10 = some v10 ∧ w.cell? a11 = some v11 ∧ w.cell? a12 = some v12 ∧ w.cell? a13 = some v13 ∧ w.cell? a14 = some v14 ∧ w.cell? a15 = some v15 ∧ Below w0.heap.size w0 w) (hb : Below w.heap.size w w') : w'.cell? a0 = some v0 ∧ w'.cell? a1 = some v1 ∧ w'.cell? a2 = some v2 ∧ w'.cell? a3 = some v3 ∧ w'.cell? a4 = some v4 ∧ w'.cell? a5 = some v5 ∧ w'.cell? a6 = some v6 ∧ w'.cell? a7 = some v7 ∧ w'.cell? a8 = some v8 ∧ w'.cell? a9 = some v9 ∧ w'.cell? a10 = some v10 ∧ w'.cell? a11 = some v11 ∧ w'.cell? a12 = some v12 ∧ w'.cell? a13 = some v13 ∧ w'.cell? a14 = some v14 ∧ w'.cell? a15 = some v15 ∧ Below w0.heap.size w0 w' :=
  ⟨pw_cell_below hb h.1, pw_cell_below hb h.2.1, pw_cell_below hb h.2.2.1, pw_cell_below hb h.2.2.2.1, pw_cell_below hb h.2.2.2.2.1, pw_cell_below hb h.2.2.2.2.2.1, pw_cell_below hb h.2.2.2.2.2.2.1, pw_cell_below hb h.2.2.2.2.2.2.2.1, pw_cell_below hb h.2.2.2.2.2.2.2.2.1, pw_cell_below hb h.2.2.2.2.2.2.2.2.2.1, pw_cell_below hb h.2.2.2.2.2.2.2.2.2.2.1, pw_cell_below hb h.2.2.2.2.2.2.2.2.2.2.2.1, pw_cell_below hb h.2.2.2.2.2.2.2.2.2.2.2.2.1, pw_cell_below hb h.2.2.2.2.2.2.2.2.2.2.2.2.2.1, pw_cell_below hb h.2.2.2.2.2.2.2.2.2.2.2.2.2.2.1, pw_cell_below hb h.2.2.2.2.2.2.2.2.2.2.2.2.2.2.2.1, h.2.2.2.2.2.2.2.2.2.2.2.2.2.2.2.2.trans (hb.mono h.2.2.2.2.2.2.2.2.2.2.2.2.2.2.2.2.size)⟩
theorem keepB10 {w0 w w' : World} {v0 v1 v2 v3 v4 v5 v6 v7 v8 v9 : Value} {a0 a1 a2 a3 a4 a5 a6 a7 a8 a9 : Addr} (h : w.cell? a0 = some v0 ∧ w.cell? a1 = some v1 ∧ w.cell? a2 = some v2 ∧ w.cell? a3 = some v3 ∧ w.cell? a4 = some v4 ∧ w.cell? a5 = some v5 ∧ w.cell? a6 = some v6 ∧ w.cell? a7 = some v7 ∧ w.cell? a8 = some v8 ∧ w.cell? a9 = some v9 ∧ Below w0.heap.size w0 w) (hb : Below w.heap.size w w') : w'.cell? a0 = some v0 ∧ w'.cell? a1 = some v1 ∧ w'.cell? a2 = some v2 ∧ w'.cell? a3 = some v3 ∧ w'.cell? a4 = some v4 ∧ w'.cell? a5 = some v5 ∧ w'.cell? a6 = some v6 ∧ w'.cell? a7 = some v7 ∧ w'.cell? a8 = some v8 ∧ w'.cell? a9 = some v9 ∧ Below w0.heap.size w0 w' :=
  ⟨pw_cell_below hb h.1, pw_cell_below hb h.2.1, pw_cell_below hb h.2.2.1, pw_cell_below hb h.2.2.2.1, pw_cell_below hb h.2.2.2.2.1, pw_cell_below hb h.2.2.2.2.2.1, pw_cell_below hb h.2.2.2.2.2.2.1, pw_cell_below hb h.2.2.2.2.2.2.2.1, pw_cell_below hb h.2.2.2.2.2.2.2.2.1, pw_cell_below hb h.2.2.2.2.2.2.2.2.2.1, h.2.2.2.2.2.2.2.2.2.2.trans (hb.mono h.2.2.2.2.2.2.2.2.2.2.size)⟩
theorem keepB4 {w0 w w' : World} {v0 v1 v2 v3 : Value} {a0 a1 a2 a3 : Addr} (h : w.cell? a0 = some v0 ∧ w.cell? a1 = some v1 ∧ w.cell? a2 = some v2 ∧ w.cell? a3 = some v3 ∧ Below w0.heap.size w0 w) (hb : Below w.heap.size w w') : w'.cell? a0 = some v0 ∧ w'.cell? a1 = some v1 ∧ w'.cell? a2 = some v2 ∧ w'.cell? a3 = some v3 ∧ Below w0.heap.size w0 w' :=
  ⟨pw_cell_below hb h.1, pw_cell_below hb h.2.1, pw_cell_below hb h.2.2.1, pw_cell_below hb h.2.2.2.1, h.2.2.2.2.trans (hb.mono h.2.2.2.2.size)⟩
set_option maxHeartbeats 2000000 in
theorem risesSch.calls (A0 : Option Addr) (c0 : Nat) (xs : List Sch) (w : World) (hr : kSch.C w A0 xs.length xs) (hl : xs.length ≤ 140737488355328) :
    Calls Tryz.prog 69 #[.slice A0 xs.length c0, .func (.func 70) #[] #[]] w fun e w' => e = .returned (.bool (rises (fun x y : Sch => cmpS x.name y.name) xs)) ∧ Below w.heap.size w w' := by
  have HR := Aside0.mk hr
  generalize hres : rises (fun x y : Sch => cmpS x.name y.name) xs = r
  have HX := Aside0.mk hres
  clear hr hres
  by_cases h1 : xs.length ≤ 1
  · have hm : (if 0 < (xs.length : Int) - 1 then (xs.length : Int) - 1 else 0) = 0 := by split <;> omega
    have HE := Aside0.mk (rises_short (fun x y : Sch => cmpS x.name y.name) xs h1)
    go_enter Tryz.func69, Tryz.ntmps69
    go_wp2
    refine wp_loop_rounds 1 ?_
    rw [rounds_succ]
    go_wp2
    go_ret
    exact ⟨ret_bool (HE.out.symm.trans HX.out), Below.refl _ _⟩
  · have hm : (if 0 < (xs.length : Int) - 1 then (xs.length : Int) - 1 else 0) = (xs.length : Int) - 1 := by split <;> omega
    go_enter Tryz.func69, Tryz.ntmps69
    go_wp2
    go_loopw [10] (fun i w' => ∃ k : Nat, k + 1 ≤ xs.length ∧ i = .int .i64 k ∧ Aside0 (rises (fun x y : Sch => cmpS x.name y.name) (xs.drop k) = r ∧ Below w.heap.size w w')) (fun i _ => xs.length - (intOf i).toNat)
    case atStart => exact ⟨0, by omega, rfl, ⟨by rw [List.drop_zero]; exact HX.out, Below.refl _ _⟩⟩
    case round =>
      obtain ⟨k, hk, rfl, HJ⟩ := hrel
      by_cases hlt : k + 1 < xs.length
      · have hlt' : (k : Int) < (xs.length : Int) - 1 := by omega
        obtain ⟨ad, e, hx0, hx1⟩ := cSch (Kd.C_below HR.out HJ.out.2) k (by omega)
        obtain ⟨ad', e, hy0, hy1⟩ := cSch (Kd.C_below HR.out HJ.out.2) (k + 1) hlt
        cases e
        cases e
        have HC := Aside0.mk (fun W => check1.calls xs[k] xs[k + 1] W)
        have HD := Aside0.mk (rises_drop (fun x y : Sch => cmpS x.name y.name) xs k hlt)
        generalize hq : cmpS xs[k].name xs[k + 1].name = q at HC HD
        clear hq
        have hs1 : IntKind.i64.wrap ((k : Int) + 1) = (k : Int) + 1 := IntWalk.i64_in _ (by omega)
        have hs2 : (0 : Int) ≤ (k : Int) + 1 := by omega
        have hs3 : ((k : Int) + 1).toNat = k + 1 := by omega
        have hs4 : (k : Int) + 1 < (xs.length : Int) := by omega
        have hs5 : k < xs.length := by omega
        have hs6 : (k : Int) < (xs.length : Int) := by omega
        go_wp2_with fail
        go_region_held3 (fun w' => w'.cell? (ad.add (k * 2)) = some (.string xs[k].name) ∧ w'.cell? ⟨(ad.add (k * 2)).block, (ad.add (k * 2)).off + 1, none⟩ = some (.string xs[k].owner) ∧ w'.cell? (ad.add ((k + 1) * 2)) = some (.string xs[k + 1].name) ∧ w'.cell? ⟨(ad.add ((k + 1) * 2)).block, (ad.add ((k + 1) * 2)).off + 1, none⟩ = some (.string xs[k + 1].owner) ∧ Below w.heap.size w w')
          (first | assumption | exact keepB4 (by assumption) (by assumption) | exact ⟨hx0, hx1, hy0, hy1, pw_below_drewN HJ.out.2 1⟩)
          (first | (go_at_call 70; refine (HC.out _).mono ?_; rintro e w' ⟨rfl, hb⟩))
        rename_i hH
        have HB := Aside0.mk hH.2.2.2.2
        clear hH hx0 hx1 hy0 hy1
        by_cases hq : q < 0
        · have hq' : ¬ 0 ≤ q := by omega
          go_wp2
          go_roundw
          case rel => exact ⟨k + 1, by omega, by go_num, ⟨by have h1 := HJ.out.1; rw [HD.out, decide_eq_true hq, Bool.true_and] at h1; exact h1, HB.out⟩⟩
          case measure => simp [intOf]; omega
        · have hq' : 0 ≤ q := by omega
          go_wp2
          go_ret
          exact ⟨ret_bool (by have h1 := HJ.out.1; rw [HD.out, decide_eq_false (show ¬ q < 0 by omega), Bool.false_and] at h1; exact h1), HB.out⟩
      · have hlt' : ¬ (k : Int) < (xs.length : Int) - 1 := by omega
        have HE := Aside0.mk (rises_short (fun x y : Sch => cmpS x.name y.name) (xs.drop k) (by rw [List.length_drop]; omega))
        go_wp2
        go_ret
        exact ⟨ret_bool (HE.out.symm.trans HJ.out.1), HJ.out.2⟩
set_option maxHeartbeats 2000000 in
theorem risesRul.calls (A0 : Option Addr) (c0 : Nat) (xs : List Rul) (w : World) (hr : kRul.C w A0 xs.length xs) (hl : xs.length ≤ 140737488355328) :
    Calls Tryz.prog 103 #[.slice A0 xs.length c0, .func (.func 104) #[] #[]] w fun e w' => e = .returned (.bool (rises (fun x y : Rul => cmpS x.name y.name) xs)) ∧ Below w.heap.size w w' := by
  have HR := Aside0.mk hr
  generalize hres : rises (fun x y : Rul => cmpS x.name y.name) xs = r
  have HX := Aside0.mk hres
  clear hr hres
  by_cases h1 : xs.length ≤ 1
  · have hm : (if 0 < (xs.length : Int) - 1 then (xs.length : Int) - 1 else 0) = 0 := by split <;> omega
    have HE := Aside0.mk (rises_short (fun x y : Rul => cmpS x.name y.name) xs h1)
    go_enter Tryz.func103, Tryz.ntmps103
    go_wp2
    refine wp_loop_rounds 1 ?_
    rw [rounds_succ]
    go_wp2
    go_ret
    exact ⟨ret_bool (HE.out.symm.trans HX.out), Below.refl _ _⟩
  · have hm : (if 0 < (xs.length : Int) - 1 then (xs.length : Int) - 1 else 0) = (xs.length : Int) - 1 := by split <;> omega
    go_enter Tryz.func103, Tryz.ntmps103
    go_wp2
    go_loopw [10] (fun i w' => ∃ k : Nat, k + 1 ≤ xs.length ∧ i = .int .i64 k ∧ Aside0 (rises (fun x y : Rul => cmpS x.name y.name) (xs.drop k) = r ∧ Below w.heap.size w w')) (fun i _ => xs.length - (intOf i).toNat)
    case atStart => exact ⟨0, by omega, rfl, ⟨by rw [List.drop_zero]; exact HX.out, Below.refl _ _⟩⟩
    case round =>
      obtain ⟨k, hk, rfl, HJ⟩ := hrel
      by_cases hlt : k + 1 < xs.length
      · have hlt' : (k : Int) < (xs.length : Int) - 1 := by omega
        obtain ⟨ad, A2, c2, e, hx0, hx1, hx2, hx3, hx4, hx5, hx6, hx7, _, _⟩ := cRul (Kd.C_below HR.out HJ.out.2) k (by omega)
        obtain ⟨ad', B2, d2, e, hy0, hy1, hy2, hy3, hy4, hy5, hy6, hy7, _, _⟩ := cRul (Kd.C_below HR.out HJ.out.2) (k + 1) hlt
        cases e
        cases e
        have HC := Aside0.mk (fun W => right1.calls xs[k] xs[k + 1] (A2 := A2) (c2 := c2) (B2 := B2) (d2 := d2) W)
        have HD := Aside0.mk (rises_drop (fun x y : Rul => cmpS x.name y.name) xs k hlt)
        generalize hq : cmpS xs[k].name xs[k + 1].name = q at HC HD
        clear hq
        have hs1 : IntKind.i64.wrap ((k : Int) + 1) = (k : Int) + 1 := IntWalk.i64_in _ (by omega)
        have hs2 : (0 : Int) ≤ (k : Int) + 1 := by omega
        have hs3 : ((k : Int) + 1).toNat = k + 1 := by omega
        have hs4 : (k : Int) + 1 < (xs.length : Int) := by omega
        have hs5 : k < xs.length := by omega
        have hs6 : (k : Int) < (xs.length : Int) := by omega
        go_wp2_with fail
        go_region_held3 (fun w' => w'.cell? (ad.add (k * 8)) = some (.string xs[k].name) ∧ w'.cell? ⟨(ad.add (k * 8)).block, (ad.add (k * 8)).off + 1, none⟩ = some (.int .i64 xs[k].kind) ∧ w'.cell? ⟨(ad.add (k * 8)).block, (ad.add (k * 8)).off + 2, none⟩ = some (.slice A2 xs[k].cols.length c2) ∧ w'.cell? ⟨(ad.add (k * 8)).block, (ad.add (k * 8)).off + 3, none⟩ = some (.int .i64 xs[k].low) ∧ w'.cell? ⟨(ad.add (k * 8)).block, (ad.add (k * 8)).off + 4, none⟩ = some (.int .i64 xs[k].high) ∧ w'.cell? ⟨(ad.add (k * 8)).block, (ad.add (k * 8)).off + 5, none⟩ = some (.string xs[k].schema) ∧ w'.cell? ⟨(ad.add (k * 8)).block, (ad.add (k * 8)).off + 6, none⟩ = some (.string xs[k].table) ∧ w'.cell? ⟨(ad.add (k * 8)).block, (ad.add (k * 8)).off + 7, none⟩ = some (.string xs[k].key) ∧ w'.cell? (ad.add ((k + 1) * 8)) = some (.string xs[k + 1].name) ∧ w'.cell? ⟨(ad.add ((k + 1) * 8)).block, (ad.add ((k + 1) * 8)).off + 1, none⟩ = some (.int .i64 xs[k + 1].kind) ∧ w'.cell? ⟨(ad.add ((k + 1) * 8)).block, (ad.add ((k + 1) * 8)).off + 2, none⟩ = some (.slice B2 xs[k + 1].cols.length d2) ∧ w'.cell? ⟨(ad.add ((k + 1) * 8)).block, (ad.add ((k + 1) * 8)).off + 3, none⟩ = some (.int .i64 xs[k + 1].low) ∧ w'.cell? ⟨(ad.add ((k + 1) * 8)).block, (ad.add ((k + 1) * 8)).off + 4, none⟩ = some (.int .i64 xs[k + 1].high) ∧ w'.cell? ⟨(ad.add ((k + 1) * 8)).block, (ad.add ((k + 1) * 8)).off + 5, none⟩ = some (.string xs[k + 1].schema) ∧ w'.cell? ⟨(ad.add ((k + 1) * 8)).block, (ad.add ((k + 1) * 8)).off + 6, none⟩ = some (.string xs[k + 1].table) ∧ w'.cell? ⟨(ad.add ((k + 1) * 8)).block, (ad.add ((k + 1) * 8)).off + 7, none⟩ = some (.string xs[k + 1].key) ∧ Below w.heap.size w w')
          (first | assumption | exact keepB16 (by assumption) (by assumption) | exact ⟨hx0, hx1, hx2, hx3, hx4, hx5, hx6, hx7, hy0, hy1, hy2, hy3, hy4, hy5, hy6, hy7, pw_below_drewN HJ.out.2 1⟩)
          (first | (go_at_call 104; refine (HC.out _).mono ?_; rintro e w' ⟨rfl, hb⟩))
        rename_i hH
        have HB := Aside0.mk hH.2.2.2.2.2.2.2.2.2.2.2.2.2.2.2.2
        clear hH hx0 hx1 hx2 hx3 hx4 hx5 hx6 hx7 hy0 hy1 hy2 hy3 hy4 hy5 hy6 hy7
        by_cases hq : q < 0
        · have hq' : ¬ 0 ≤ q := by omega
          go_wp2
          go_roundw
          case rel => exact ⟨k + 1, by omega, by go_num, ⟨by have h1 := HJ.out.1; rw [HD.out, decide_eq_true hq, Bool.true_and] at h1; exact h1, HB.out⟩⟩
          case measure => simp [intOf]; omega
        · have hq' : 0 ≤ q := by omega
          go_wp2
          go_ret
          exact ⟨ret_bool (by have h1 := HJ.out.1; rw [HD.out, decide_eq_false (show ¬ q < 0 by omega), Bool.false_and] at h1; exact h1), HB.out⟩
      · have hlt' : ¬ (k : Int) < (xs.length : Int) - 1 := by omega
        have HE := Aside0.mk (rises_short (fun x y : Rul => cmpS x.name y.name) (xs.drop k) (by rw [List.length_drop]; omega))
        go_wp2
        go_ret
        exact ⟨ret_bool (HE.out.symm.trans HJ.out.1), HJ.out.2⟩
set_option maxHeartbeats 2000000 in
theorem risesTab.calls (A0 : Option Addr) (c0 : Nat) (xs : List Tab) (w : World) (hr : kTab.C w A0 xs.length xs) (hl : xs.length ≤ 140737488355328) :
    Calls Tryz.prog 67 #[.slice A0 xs.length c0, .func (.func 68) #[] #[]] w fun e w' => e = .returned (.bool (rises orderT xs)) ∧ Below w.heap.size w w' := by
  have HR := Aside0.mk hr
  generalize hres : rises orderT xs = r
  have HX := Aside0.mk hres
  clear hr hres
  by_cases h1 : xs.length ≤ 1
  · have hm : (if 0 < (xs.length : Int) - 1 then (xs.length : Int) - 1 else 0) = 0 := by split <;> omega
    have HE := Aside0.mk (rises_short orderT xs h1)
    go_enter Tryz.func67, Tryz.ntmps67
    go_wp2
    refine wp_loop_rounds 1 ?_
    rw [rounds_succ]
    go_wp2
    go_ret
    exact ⟨ret_bool (HE.out.symm.trans HX.out), Below.refl _ _⟩
  · have hm : (if 0 < (xs.length : Int) - 1 then (xs.length : Int) - 1 else 0) = (xs.length : Int) - 1 := by split <;> omega
    go_enter Tryz.func67, Tryz.ntmps67
    go_wp2
    go_loopw [10] (fun i w' => ∃ k : Nat, k + 1 ≤ xs.length ∧ i = .int .i64 k ∧ Aside0 (rises orderT (xs.drop k) = r ∧ Below w.heap.size w w')) (fun i _ => xs.length - (intOf i).toNat)
    case atStart => exact ⟨0, by omega, rfl, ⟨by rw [List.drop_zero]; exact HX.out, Below.refl _ _⟩⟩
    case round =>
      obtain ⟨k, hk, rfl, HJ⟩ := hrel
      by_cases hlt : k + 1 < xs.length
      · have hlt' : (k : Int) < (xs.length : Int) - 1 := by omega
        obtain ⟨ad, A3, c3, A4, c4, e, hx0, hx1, hx2, hx3, hx4, _, _, _, _⟩ := cTab (Kd.C_below HR.out HJ.out.2) k (by omega)
        obtain ⟨ad', B3, d3, B4, d4, e, hy0, hy1, hy2, hy3, hy4, _, _, _, _⟩ := cTab (Kd.C_below HR.out HJ.out.2) (k + 1) hlt
        cases e
        cases e
        have HC := Aside0.mk (fun W => order.calls xs[k] xs[k + 1] (A3 := A3) (c3 := c3) (B3 := B3) (d3 := d3) (A4 := A4) (c4 := c4) (B4 := B4) (d4 := d4) W)
        have HD := Aside0.mk (rises_drop orderT xs k hlt)
        generalize hq : orderT xs[k] xs[k + 1] = q at HC HD
        clear hq
        have hs1 : IntKind.i64.wrap ((k : Int) + 1) = (k : Int) + 1 := IntWalk.i64_in _ (by omega)
        have hs2 : (0 : Int) ≤ (k : Int) + 1 := by omega
        have hs3 : ((k : Int) + 1).toNat = k + 1 := by omega
        have hs4 : (k : Int) + 1 < (xs.length : Int) := by omega
        have hs5 : k < xs.length := by omega
        have hs6 : (k : Int) < (xs.length : Int) := by omega
        go_wp2_with fail
        go_region_held3 (fun w' => w'.cell? (ad.add (k * 5)) = some (.string xs[k].schema) ∧ w'.cell? ⟨(ad.add (k * 5)).block, (ad.add (k * 5)).off + 1, none⟩ = some (.string xs[k].name) ∧ w'.cell? ⟨(ad.add (k * 5)).block, (ad.add (k * 5)).off + 2, none⟩ = some (.string xs[k].owner) ∧ w'.cell? ⟨(ad.add (k * 5)).block, (ad.add (k * 5)).off + 3, none⟩ = some (.slice A3 xs[k].cols.length c3) ∧ w'.cell? ⟨(ad.add (k * 5)).block, (ad.add (k * 5)).off + 4, none⟩ = some (.slice A4 xs[k].rules.length c4) ∧ w'.cell? (ad.add ((k + 1) * 5)) = some (.string xs[k + 1].schema) ∧ w'.cell? ⟨(ad.add ((k + 1) * 5)).block, (ad.add ((k + 1) * 5)).off + 1, none⟩ = some (.string xs[k + 1].name) ∧ w'.cell? ⟨(ad.add ((k + 1) * 5)).block, (ad.add ((k + 1) * 5)).off + 2, none⟩ = some (.string xs[k + 1].owner) ∧ w'.cell? ⟨(ad.add ((k + 1) * 5)).block, (ad.add ((k + 1) * 5)).off + 3, none⟩ = some (.slice B3 xs[k + 1].cols.length d3) ∧ w'.cell? ⟨(ad.add ((k + 1) * 5)).block, (ad.add ((k + 1) * 5)).off + 4, none⟩ = some (.slice B4 xs[k + 1].rules.length d4) ∧ Below w.heap.size w w')
          (first | assumption | exact keepB10 (by assumption) (by assumption) | exact ⟨hx0, hx1, hx2, hx3, hx4, hy0, hy1, hy2, hy3, hy4, pw_below_drewN HJ.out.2 1⟩)
          (first | (go_at_call 68; refine (HC.out _).mono ?_; rintro e w' ⟨rfl, hb⟩))
        rename_i hH
        have HB := Aside0.mk hH.2.2.2.2.2.2.2.2.2.2
        clear hH hx0 hx1 hx2 hx3 hx4 hy0 hy1 hy2 hy3 hy4
        by_cases hq : q < 0
        · have hq' : ¬ 0 ≤ q := by omega
          go_wp2
          go_roundw
          case rel => exact ⟨k + 1, by omega, by go_num, ⟨by have h1 := HJ.out.1; rw [HD.out, decide_eq_true hq, Bool.true_and] at h1; exact h1, HB.out⟩⟩
          case measure => simp [intOf]; omega
        · have hq' : 0 ≤ q := by omega
          go_wp2
          go_ret
          exact ⟨ret_bool (by have h1 := HJ.out.1; rw [HD.out, decide_eq_false (show ¬ q < 0 by omega), Bool.false_and] at h1; exact h1), HB.out⟩
      · have hlt' : ¬ (k : Int) < (xs.length : Int) - 1 := by omega
        have HE := Aside0.mk (rises_short orderT (xs.drop k) (by rw [List.length_drop]; omega))
        go_wp2
        go_ret
        exact ⟨ret_bool (HE.out.symm.trans HJ.out.1), HJ.out.2⟩
end Go.Proofs.YtmmiehckgkadgaaGreat.O
