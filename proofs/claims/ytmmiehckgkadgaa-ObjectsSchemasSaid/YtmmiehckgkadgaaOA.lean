/- Reading the objects' rows; looking a name up in them; counting. Printed by a program of this session (gen_obj.py). -/
import Derived.Test.YtmmiehckgkadgaaON
import Derived.Deep.RegionHeld3
import Derived.Laws.EntriesVeiled
namespace Go.Proofs.Ytmmiehckgkadgaa.O
set_option linter.unusedVariables false
set_option linter.unusedSimpArgs false
open Go.RowKit Go.Proofs.YtmmiehckgkadgaaW.PrintWords


/-- the first place at which p holds, or -1 -/
def idx {α : Type} (p : α → Bool) (l : List α) : Int := if l.any p = true then (l.findIdx p : Int) else -1
theorem idx_hit {α : Type} {p : α → Bool} {l : List α} {k : Nat} (hk : k < l.length) (hp : p l[k] = true) (hn : ∀ j (hj : j < l.length), j < k → p l[j] = false) : idx p l = (k : Int) := by
  unfold idx
  rw [if_pos (List.any_eq_true.2 ⟨_, List.getElem_mem hk, hp⟩), (List.findIdx_eq hk).2 ⟨hp, fun j hj => by simpa using hn j (by omega) hj⟩]
theorem idx_none {α : Type} {p : α → Bool} {l : List α} (hn : ∀ j (hj : j < l.length), p l[j] = false) : idx p l = -1 := by
  unfold idx
  rw [if_neg]
  intro h
  obtain ⟨x, hx, hp⟩ := List.any_eq_true.1 h
  obtain ⟨j, hj, rfl⟩ := List.getElem_of_mem hx
  rw [hn j hj] at hp
  cases hp
theorem idx_cases {α : Type} (p : α → Bool) (l : List α) : (∃ k, ∃ hk : k < l.length, idx p l = (k : Int) ∧ p l[k] = true ∧ ∀ j (hj : j < l.length), j < k → p l[j] = false) ∨ (idx p l = -1 ∧ ∀ j (hj : j < l.length), p l[j] = false) := by
  by_cases h : l.any p = true
  · left
    have hk : l.findIdx p < l.length := List.findIdx_lt_length.2 (by obtain ⟨x, hx, hp⟩ := List.any_eq_true.1 h; exact ⟨x, hx, hp⟩)
    refine ⟨l.findIdx p, hk, by unfold idx; rw [if_pos h], List.findIdx_getElem, fun j hj hlt => by simpa using List.not_of_lt_findIdx hlt⟩
  · right
    have hn : ∀ j (hj : j < l.length), p l[j] = false := fun j hj => by
      cases e : p l[j] with
      | false => rfl
      | true => exact absurd (List.any_eq_true.2 ⟨_, List.getElem_mem hj, e⟩) h
    exact ⟨idx_none hn, hn⟩
theorem idx_lo {α : Type} (p : α → Bool) (l : List α) : -1 ≤ idx p l ∧ idx p l < l.length := by
  rcases idx_cases p l with ⟨k, hk, h, _⟩ | ⟨h, _⟩ <;> rw [h] <;> omega
theorem snoc_false {α : Type} {l : List α} {p : α → Bool} {k : Nat} (h : ∀ j (hj : j < l.length), j < k → p l[j] = false) (hk : k < l.length) (hn : p l[k] = false) : ∀ j (hj : j < l.length), j < k + 1 → p l[j] = false := fun j hj hlt => by
  rcases Nat.lt_or_ge j k with h' | h'
  · exact h j hj h'
  · obtain rfl : j = k := by omega
    exact hn
/-- how many -/
def cnt {α : Type} (p : α → Bool) (l : List α) : Nat := (l.filter p).length
theorem cnt_le {α : Type} (p : α → Bool) (l : List α) : cnt p l ≤ l.length := List.length_filter_le _ _
theorem cnt_snoc {α : Type} (p : α → Bool) (l : List α) (k : Nat) (h : k < l.length) : cnt p (l.take (k + 1)) = cnt p (l.take k) + if p l[k] = true then 1 else 0 := by
  unfold cnt
  rw [List.take_succ_eq_append_getElem h, List.filter_append, List.length_append]
  by_cases e : p l[k] = true <;> simp [e]
theorem drewN_below {w0 w : World} (h : Below w0.heap.size w0 w) (n : Nat) : Below w0.heap.size w0 (w.drewN n) := pw_below_drewN h n
/-- two text cells -/
theorem keep2 {w0 w w' : World} {a b : Addr} {v1 v2 : Value} (h : w.cell? a = some v1 ∧ w.cell? b = some v2) (hb : Below w.heap.size w w') : w'.cell? a = some v1 ∧ w'.cell? b = some v2 := ⟨pw_cell_below hb h.1, pw_cell_below hb h.2⟩

theorem cCol {w : World} {A : Option Addr} {n : Nat} {xs : List Col} (h : kCol.C w A n xs) (j : Nat) (hj : j < xs.length) : ∃ ad, A = some ad ∧ w.cell? (ad.add (j * 3)) = some (.string xs[j].name) ∧ w.cell? ⟨(ad.add (j * 3)).block, (ad.add (j * 3)).off + 1, none⟩ = some (.int .i64 xs[j].kind) ∧ w.cell? ⟨(ad.add (j * 3)).block, (ad.add (j * 3)).off + 2, none⟩ = some (.bool xs[j].null) := by
  have h1 := atCol h (j : Int) (by omega) (by have := h.1; omega)
  rw [show rdCol xs (j : Int) = xs[j] by simp [rdCol, List.getD_eq_getElem?_getD, List.getElem?_eq_getElem hj], Int.toNat_natCast] at h1
  exact h1
theorem cRul {w : World} {A : Option Addr} {n : Nat} {xs : List Rul} (h : kRul.C w A n xs) (j : Nat) (hj : j < xs.length) : ∃ ad A2 c2, A = some ad ∧ w.cell? (ad.add (j * 8)) = some (.string xs[j].name) ∧ w.cell? ⟨(ad.add (j * 8)).block, (ad.add (j * 8)).off + 1, none⟩ = some (.int .i64 xs[j].kind) ∧ w.cell? ⟨(ad.add (j * 8)).block, (ad.add (j * 8)).off + 2, none⟩ = some (.slice A2 xs[j].cols.length c2) ∧ w.cell? ⟨(ad.add (j * 8)).block, (ad.add (j * 8)).off + 3, none⟩ = some (.int .i64 xs[j].low) ∧ w.cell? ⟨(ad.add (j * 8)).block, (ad.add (j * 8)).off + 4, none⟩ = some (.int .i64 xs[j].high) ∧ w.cell? ⟨(ad.add (j * 8)).block, (ad.add (j * 8)).off + 5, none⟩ = some (.string xs[j].schema) ∧ w.cell? ⟨(ad.add (j * 8)).block, (ad.add (j * 8)).off + 6, none⟩ = some (.string xs[j].table) ∧ w.cell? ⟨(ad.add (j * 8)).block, (ad.add (j * 8)).off + 7, none⟩ = some (.string xs[j].key) ∧ xs[j].cols.length ≤ c2 ∧ Kd.string.C w A2 xs[j].cols.length xs[j].cols := by
  have h1 := atRul h (j : Int) (by omega) (by have := h.1; omega)
  rw [show rdRul xs (j : Int) = xs[j] by simp [rdRul, List.getD_eq_getElem?_getD, List.getElem?_eq_getElem hj], Int.toNat_natCast] at h1
  exact h1
theorem cSch {w : World} {A : Option Addr} {n : Nat} {xs : List Sch} (h : kSch.C w A n xs) (j : Nat) (hj : j < xs.length) : ∃ ad, A = some ad ∧ w.cell? (ad.add (j * 2)) = some (.string xs[j].name) ∧ w.cell? ⟨(ad.add (j * 2)).block, (ad.add (j * 2)).off + 1, none⟩ = some (.string xs[j].owner) := by
  have h1 := atSch h (j : Int) (by omega) (by have := h.1; omega)
  rw [show rdSch xs (j : Int) = xs[j] by simp [rdSch, List.getD_eq_getElem?_getD, List.getElem?_eq_getElem hj], Int.toNat_natCast] at h1
  exact h1
theorem cTab {w : World} {A : Option Addr} {n : Nat} {xs : List Tab} (h : kTab.C w A n xs) (j : Nat) (hj : j < xs.length) : ∃ ad A3 c3 A4 c4, A = some ad ∧ w.cell? (ad.add (j * 5)) = some (.string xs[j].schema) ∧ w.cell? ⟨(ad.add (j * 5)).block, (ad.add (j * 5)).off + 1, none⟩ = some (.string xs[j].name) ∧ w.cell? ⟨(ad.add (j * 5)).block, (ad.add (j * 5)).off + 2, none⟩ = some (.string xs[j].owner) ∧ w.cell? ⟨(ad.add (j * 5)).block, (ad.add (j * 5)).off + 3, none⟩ = some (.slice A3 xs[j].cols.length c3) ∧ w.cell? ⟨(ad.add (j * 5)).block, (ad.add (j * 5)).off + 4, none⟩ = some (.slice A4 xs[j].rules.length c4) ∧ xs[j].cols.length ≤ c3 ∧ kCol.C w A3 xs[j].cols.length xs[j].cols ∧ xs[j].rules.length ≤ c4 ∧ kRul.C w A4 xs[j].rules.length xs[j].rules := by
  have h1 := atTab h (j : Int) (by omega) (by have := h.1; omega)
  rw [show rdTab xs (j : Int) = xs[j] by simp [rdTab, List.getD_eq_getElem?_getD, List.getElem?_eq_getElem hj], Int.toNat_natCast] at h1
  exact h1
set_option maxHeartbeats 400000 in
theorem columnName.calls (x : Col) (w : World) : Calls Try.prog 61 #[.agg #[.string x.name, .int .i64 x.kind, .bool x.null]] w fun e w' => e = .returned (.string x.name) ∧ Below w.heap.size w w' := by
  go_enter Try.func61, Try.ntmps61
  go_wp2
  go_ret
  exact ⟨rfl, (Below.refl _ _).alloc (Nat.le_refl _) _⟩
theorem keepCol {w0 w w' : World} {v0 v1 v2 v3 v4 : Value} {a0 a1 a2 a3 a4 : Addr} (h : w.cell? a0 = some v0 ∧ w.cell? a1 = some v1 ∧ w.cell? a2 = some v2 ∧ w.cell? a3 = some v3 ∧ w.cell? a4 = some v4 ∧ Below w0.heap.size w0 w) (hb : Below w.heap.size w w') : w'.cell? a0 = some v0 ∧ w'.cell? a1 = some v1 ∧ w'.cell? a2 = some v2 ∧ w'.cell? a3 = some v3 ∧ w'.cell? a4 = some v4 ∧ Below w0.heap.size w0 w' :=
  ⟨pw_cell_below hb h.1, pw_cell_below hb h.2.1, pw_cell_below hb h.2.2.1, pw_cell_below hb h.2.2.2.1, pw_cell_below hb h.2.2.2.2.1, h.2.2.2.2.2.trans (hb.mono h.2.2.2.2.2.size)⟩
set_option maxHeartbeats 1000000 in
theorem byNameCol1.calls (x : Col) (bo bn : Nat) (name : ByteArray) (w : World) (h1 : w.cell? ⟨bo, 0, none⟩ = some (.func (.func 61) #[] #[])) (h2 : w.cell? ⟨bn, 0, none⟩ = some (.string name)) :
    Calls Try.prog 104 #[.agg #[.string x.name, .int .i64 x.kind, .bool x.null], .pointer (some ⟨bo, 0, none⟩), .pointer (some ⟨bn, 0, none⟩)] w fun e w' => e = .returned (.bool (x.name.toList == name.toList)) ∧ Below w.heap.size w w' := by
  have hb1 : bo < w.heap.size := World.block_lt_of_cell? w _ h1
  have hb2 : bn < w.heap.size := World.block_lt_of_cell? w _ h2
  have ha : ∀ o, (w.alloc o).cell? ⟨bo, 0, none⟩ = some (.func (.func 61) #[] #[]) := fun o => pw_cell_below (below_alloc (Below.refl _ _) o) h1
  have hc : ∀ o, (w.alloc o).cell? ⟨bn, 0, none⟩ = some (.string name) := fun o => pw_cell_below (below_alloc (Below.refl _ _) o) h2
  go_enter Try.func104, Try.ntmps104
  go_wp2_with fail
  go_region_held3 (fun w' => w'.cell? ⟨bo, 0, none⟩ = some (.func (.func 61) #[] #[]) ∧ w'.cell? ⟨bn, 0, none⟩ = some (.string name) ∧ w'.cell? ⟨w.heap.size, 0, none⟩ = some (.string x.name) ∧ w'.cell? ⟨w.heap.size, 1, none⟩ = some (.int .i64 x.kind) ∧ w'.cell? ⟨w.heap.size, 2, none⟩ = some (.bool x.null) ∧ Below w.heap.size w w') (first | exact keepCol (by assumption) (by assumption) | (exact ⟨(by simp [*]), (by simp [*]), (by simp), (by simp), (by simp), ((Below.refl _ _).alloc (Nat.le_refl _) _).drew⟩))
    (first | (go_at_call 61; refine (columnName.calls x _).mono ?_; rintro e w' ⟨rfl, hb⟩))
  rename_i hH
  have HB := Aside0.mk hH.2.2.2.2.2
  clear hH hb
  go_wp2
  go_ret
  exact ⟨rfl, HB.out⟩

set_option maxHeartbeats 1000000 in
theorem idxFuncCol.calls (A0 : Option Addr) (c0 : Nat) (xs : List Col) (bo bn : Nat) (name : ByteArray) (w : World) (hr : kCol.C w A0 xs.length xs) (hl : xs.length ≤ 140737488355328) (h1 : w.cell? ⟨bo, 0, none⟩ = some (.func (.func 61) #[] #[])) (h2 : w.cell? ⟨bn, 0, none⟩ = some (.string name)) :
    Calls Try.prog 103 #[.slice A0 xs.length c0, .func (.func 104) #[] #[.pointer (some ⟨bo, 0, none⟩), .pointer (some ⟨bn, 0, none⟩)]] w fun e w' => e = .returned (.int .i64 (idx (fun x => x.name.toList == name.toList) xs)) ∧ Below w.heap.size w w' := by
  have HR := Aside0.mk hr
  have H1 := Aside0.mk h1
  have H2 := Aside0.mk h2
  have HX := Aside0.mk (show ∀ k, idx (fun x => x.name.toList == name.toList) xs = k → idx (fun x => x.name.toList == name.toList) xs = k from fun _ h => h)
  generalize hi : idx (fun x : Col => x.name.toList == name.toList) xs = r at HX
  clear HX
  have HI := Aside0.mk hi
  clear hr h1 h2 hi
  go_enter Try.func103, Try.ntmps103
  go_wp2
  go_loopw [8] (fun i w' => ∃ k : Nat, k ≤ xs.length ∧ i = .int .i64 k ∧ Aside0 ((∀ j (hj : j < xs.length), j < k → (xs[j].name.toList == name.toList) = false) ∧ Below w.heap.size w w')) (fun i _ => xs.length - (intOf i).toNat)
  case atStart => exact ⟨0, Nat.zero_le _, rfl, ⟨fun _ _ h => absurd h (Nat.not_lt_zero _), Below.refl _ _⟩⟩
  case round =>
    obtain ⟨k, hk, rfl, HJ⟩ := hrel
    by_cases hlt : k < xs.length
    · obtain ⟨ad, e, hc0, hc1, hc2⟩ := cCol (Kd.C_below HR.out HJ.out.2) k hlt
      cases e
      have HC := Aside0.mk (byNameCol1.calls xs[k] bo bn name wr (pw_cell_below HJ.out.2 H1.out) (pw_cell_below HJ.out.2 H2.out))
      generalize hp : (xs[k].name.toList == name.toList) = p at HC
      have HP := Aside0.mk hp
      clear hp
      go_wp2_with fail
      refine HC.out.mono ?_
      rintro e w1 ⟨rfl, hb1⟩
      have HB := Aside0.mk (HJ.out.2.trans (hb1.mono HJ.out.2.size))
      clear hb1
      cases p with
      | true =>
        have hr := idx_hit (p := fun x : Col => x.name.toList == name.toList) hlt HP.out HJ.out.1
        have HR2 := Aside0.mk (hr.symm.trans HI.out)
        clear hr
        go_wp2
        go_ret
        exact ⟨ret_int HR2.out, HB.out⟩
      | false =>
        go_wp2
        go_roundw
        case rel => exact ⟨k + 1, by omega, by go_num, ⟨snoc_false (p := fun x : Col => x.name.toList == name.toList) HJ.out.1 hlt HP.out, HB.out⟩⟩
        case measure => simp [intOf]; omega
    · have hd : decide (k < xs.length) = false := decide_eq_false hlt
      go_wp2
      go_ret
      exact ⟨ret_int ((idx_none (p := fun x : Col => x.name.toList == name.toList) fun j hj => HJ.out.1 j hj (by omega)).symm.trans HI.out), HJ.out.2⟩
set_option maxHeartbeats 400000 in
theorem byNameCol.calls (A0 : Option Addr) (c0 : Nat) (xs : List Col) (name : ByteArray) (w : World) (hr : kCol.C w A0 xs.length xs) (hl : xs.length ≤ 140737488355328) :
    Calls Try.prog 60 #[.slice A0 xs.length c0, .string name, .func (.func 61) #[] #[]] w fun e w' => e = .returned (.int .i64 (idx (fun x => x.name.toList == name.toList) xs)) ∧ Below w.heap.size w w' := by
  have hbx : Below w.heap.size w ((w.alloc (.cells #[.string name] 9)).alloc (.cells #[.func (.func 61) #[] #[]] 79)) := below_alloc (below_alloc (Below.refl _ _) _) _
  have HC := Aside0.mk (idxFuncCol.calls A0 c0 xs (w.heap.size + 1) w.heap.size name _ (Kd.C_below hr hbx) hl (by simp) (by simp))
  have HB := Aside0.mk hbx
  clear hr hbx
  generalize idx (fun x : Col => x.name.toList == name.toList) xs = r at HC ⊢
  go_enter Try.func60, Try.ntmps60
  go_wp2_with fail
  refine HC.out.mono ?_
  rintro e w1 ⟨rfl, hb1⟩
  have HB1 := Aside0.mk (HB.out.trans (hb1.mono HB.out.size))
  clear hb1
  go_wp2
  go_ret
  exact ⟨rfl, HB1.out⟩

set_option maxHeartbeats 400000 in
theorem ruleName.calls (x : Rul) {A2 : Option Addr} {c2 : Nat} (w : World) : Calls Try.prog 117 #[.agg #[.string x.name, .int .i64 x.kind, .slice A2 x.cols.length c2, .int .i64 x.low, .int .i64 x.high, .string x.schema, .string x.table, .string x.key]] w fun e w' => e = .returned (.string x.name) ∧ Below w.heap.size w w' := by
  go_enter Try.func117, Try.ntmps117
  go_wp2
  go_ret
  exact ⟨rfl, (Below.refl _ _).alloc (Nat.le_refl _) _⟩
theorem keepRul {w0 w w' : World} {v0 v1 v2 v3 v4 v5 v6 v7 v8 v9 : Value} {a0 a1 a2 a3 a4 a5 a6 a7 a8 a9 : Addr} (h : w.cell? a0 = some v0 ∧ w.cell? a1 = some v1 ∧ w.cell? a2 = some v2 ∧ w.cell? a3 = some v3 ∧ w.cell? a4 = some v4 ∧ w.cell? a5 = some v5 ∧ w.cell? a6 = some v6 ∧ w.cell? a7 = some v7 ∧ w.cell? a8 = some v8 ∧ w.cell? a9 = some v9 ∧ Below w0.heap.size w0 w) (hb : Below w.heap.size w w') : w'.cell? a0 = some v0 ∧ w'.cell? a1 = some v1 ∧ w'.cell? a2 = some v2 ∧ w'.cell? a3 = some v3 ∧ w'.cell? a4 = some v4 ∧ w'.cell? a5 = some v5 ∧ w'.cell? a6 = some v6 ∧ w'.cell? a7 = some v7 ∧ w'.cell? a8 = some v8 ∧ w'.cell? a9 = some v9 ∧ Below w0.heap.size w0 w' :=
  ⟨pw_cell_below hb h.1, pw_cell_below hb h.2.1, pw_cell_below hb h.2.2.1, pw_cell_below hb h.2.2.2.1, pw_cell_below hb h.2.2.2.2.1, pw_cell_below hb h.2.2.2.2.2.1, pw_cell_below hb h.2.2.2.2.2.2.1, pw_cell_below hb h.2.2.2.2.2.2.2.1, pw_cell_below hb h.2.2.2.2.2.2.2.2.1, pw_cell_below hb h.2.2.2.2.2.2.2.2.2.1, h.2.2.2.2.2.2.2.2.2.2.trans (hb.mono h.2.2.2.2.2.2.2.2.2.2.size)⟩
set_option maxHeartbeats 1000000 in
theorem byNameRul1.calls (x : Rul) {A2 : Option Addr} {c2 : Nat} (bo bn : Nat) (name : ByteArray) (w : World) (h1 : w.cell? ⟨bo, 0, none⟩ = some (.func (.func 117) #[] #[])) (h2 : w.cell? ⟨bn, 0, none⟩ = some (.string name)) :
    Calls Try.prog 140 #[.agg #[.string x.name, .int .i64 x.kind, .slice A2 x.cols.length c2, .int .i64 x.low, .int .i64 x.high, .string x.schema, .string x.table, .string x.key], .pointer (some ⟨bo, 0, none⟩), .pointer (some ⟨bn, 0, none⟩)] w fun e w' => e = .returned (.bool (x.name.toList == name.toList)) ∧ Below w.heap.size w w' := by
  have hb1 : bo < w.heap.size := World.block_lt_of_cell? w _ h1
  have hb2 : bn < w.heap.size := World.block_lt_of_cell? w _ h2
  have ha : ∀ o, (w.alloc o).cell? ⟨bo, 0, none⟩ = some (.func (.func 117) #[] #[]) := fun o => pw_cell_below (below_alloc (Below.refl _ _) o) h1
  have hc : ∀ o, (w.alloc o).cell? ⟨bn, 0, none⟩ = some (.string name) := fun o => pw_cell_below (below_alloc (Below.refl _ _) o) h2
  go_enter Try.func140, Try.ntmps140
  go_wp2_with fail
  go_region_held3 (fun w' => w'.cell? ⟨bo, 0, none⟩ = some (.func (.func 117) #[] #[]) ∧ w'.cell? ⟨bn, 0, none⟩ = some (.string name) ∧ w'.cell? ⟨w.heap.size, 0, none⟩ = some (.string x.name) ∧ w'.cell? ⟨w.heap.size, 1, none⟩ = some (.int .i64 x.kind) ∧ w'.cell? ⟨w.heap.size, 2, none⟩ = some (.slice A2 x.cols.length c2) ∧ w'.cell? ⟨w.heap.size, 3, none⟩ = some (.int .i64 x.low) ∧ w'.cell? ⟨w.heap.size, 4, none⟩ = some (.int .i64 x.high) ∧ w'.cell? ⟨w.heap.size, 5, none⟩ = some (.string x.schema) ∧ w'.cell? ⟨w.heap.size, 6, none⟩ = some (.string x.table) ∧ w'.cell? ⟨w.heap.size, 7, none⟩ = some (.string x.key) ∧ Below w.heap.size w w') (first | exact keepRul (by assumption) (by assumption) | (exact ⟨(by simp [*]), (by simp [*]), (by simp), (by simp), (by simp), (by simp), (by simp), (by simp), (by simp), (by simp), ((Below.refl _ _).alloc (Nat.le_refl _) _).drew⟩))
    (first | (go_at_call 117; refine (ruleName.calls x _).mono ?_; rintro e w' ⟨rfl, hb⟩))
  rename_i hH
  have HB := Aside0.mk hH.2.2.2.2.2.2.2.2.2.2
  clear hH hb
  go_wp2
  go_ret
  exact ⟨rfl, HB.out⟩

set_option maxHeartbeats 1000000 in
theorem idxFuncRul.calls (A0 : Option Addr) (c0 : Nat) (xs : List Rul) (bo bn : Nat) (name : ByteArray) (w : World) (hr : kRul.C w A0 xs.length xs) (hl : xs.length ≤ 140737488355328) (h1 : w.cell? ⟨bo, 0, none⟩ = some (.func (.func 117) #[] #[])) (h2 : w.cell? ⟨bn, 0, none⟩ = some (.string name)) :
    Calls Try.prog 105 #[.slice A0 xs.length c0, .func (.func 140) #[] #[.pointer (some ⟨bo, 0, none⟩), .pointer (some ⟨bn, 0, none⟩)]] w fun e w' => e = .returned (.int .i64 (idx (fun x => x.name.toList == name.toList) xs)) ∧ Below w.heap.size w w' := by
  have HR := Aside0.mk hr
  have H1 := Aside0.mk h1
  have H2 := Aside0.mk h2
  have HX := Aside0.mk (show ∀ k, idx (fun x => x.name.toList == name.toList) xs = k → idx (fun x => x.name.toList == name.toList) xs = k from fun _ h => h)
  generalize hi : idx (fun x : Rul => x.name.toList == name.toList) xs = r at HX
  clear HX
  have HI := Aside0.mk hi
  clear hr h1 h2 hi
  go_enter Try.func105, Try.ntmps105
  go_wp2
  go_loopw [8] (fun i w' => ∃ k : Nat, k ≤ xs.length ∧ i = .int .i64 k ∧ Aside0 ((∀ j (hj : j < xs.length), j < k → (xs[j].name.toList == name.toList) = false) ∧ Below w.heap.size w w')) (fun i _ => xs.length - (intOf i).toNat)
  case atStart => exact ⟨0, Nat.zero_le _, rfl, ⟨fun _ _ h => absurd h (Nat.not_lt_zero _), Below.refl _ _⟩⟩
  case round =>
    obtain ⟨k, hk, rfl, HJ⟩ := hrel
    by_cases hlt : k < xs.length
    · obtain ⟨ad, A2, c2, e, hc0, hc1, hc2, hc3, hc4, hc5, hc6, hc7, hsl2, hsc2⟩ := cRul (Kd.C_below HR.out HJ.out.2) k hlt
      cases e
      have HC := Aside0.mk (byNameRul1.calls xs[k] (A2 := A2) (c2 := c2) bo bn name wr (pw_cell_below HJ.out.2 H1.out) (pw_cell_below HJ.out.2 H2.out))
      generalize hp : (xs[k].name.toList == name.toList) = p at HC
      have HP := Aside0.mk hp
      clear hp hsl2 hsc2
      go_wp2_with fail
      refine HC.out.mono ?_
      rintro e w1 ⟨rfl, hb1⟩
      have HB := Aside0.mk (HJ.out.2.trans (hb1.mono HJ.out.2.size))
      clear hb1
      cases p with
      | true =>
        have hr := idx_hit (p := fun x : Rul => x.name.toList == name.toList) hlt HP.out HJ.out.1
        have HR2 := Aside0.mk (hr.symm.trans HI.out)
        clear hr
        go_wp2
        go_ret
        exact ⟨ret_int HR2.out, HB.out⟩
      | false =>
        go_wp2
        go_roundw
        case rel => exact ⟨k + 1, by omega, by go_num, ⟨snoc_false (p := fun x : Rul => x.name.toList == name.toList) HJ.out.1 hlt HP.out, HB.out⟩⟩
        case measure => simp [intOf]; omega
    · have hd : decide (k < xs.length) = false := decide_eq_false hlt
      go_wp2
      go_ret
      exact ⟨ret_int ((idx_none (p := fun x : Rul => x.name.toList == name.toList) fun j hj => HJ.out.1 j hj (by omega)).symm.trans HI.out), HJ.out.2⟩
set_option maxHeartbeats 400000 in
theorem byNameRul.calls (A0 : Option Addr) (c0 : Nat) (xs : List Rul) (name : ByteArray) (w : World) (hr : kRul.C w A0 xs.length xs) (hl : xs.length ≤ 140737488355328) :
    Calls Try.prog 116 #[.slice A0 xs.length c0, .string name, .func (.func 117) #[] #[]] w fun e w' => e = .returned (.int .i64 (idx (fun x => x.name.toList == name.toList) xs)) ∧ Below w.heap.size w w' := by
  have hbx : Below w.heap.size w ((w.alloc (.cells #[.string name] 9)).alloc (.cells #[.func (.func 117) #[] #[]] 121)) := below_alloc (below_alloc (Below.refl _ _) _) _
  have HC := Aside0.mk (idxFuncRul.calls A0 c0 xs (w.heap.size + 1) w.heap.size name _ (Kd.C_below hr hbx) hl (by simp) (by simp))
  have HB := Aside0.mk hbx
  clear hr hbx
  generalize idx (fun x : Rul => x.name.toList == name.toList) xs = r at HC ⊢
  go_enter Try.func116, Try.ntmps116
  go_wp2_with fail
  refine HC.out.mono ?_
  rintro e w1 ⟨rfl, hb1⟩
  have HB1 := Aside0.mk (HB.out.trans (hb1.mono HB.out.size))
  clear hb1
  go_wp2
  go_ret
  exact ⟨rfl, HB1.out⟩

set_option maxHeartbeats 400000 in
theorem schemaName.calls (x : Sch) (w : World) : Calls Try.prog 73 #[.agg #[.string x.name, .string x.owner]] w fun e w' => e = .returned (.string x.name) ∧ Below w.heap.size w w' := by
  go_enter Try.func73, Try.ntmps73
  go_wp2
  go_ret
  exact ⟨rfl, (Below.refl _ _).alloc (Nat.le_refl _) _⟩
theorem keepSch {w0 w w' : World} {v0 v1 v2 v3 : Value} {a0 a1 a2 a3 : Addr} (h : w.cell? a0 = some v0 ∧ w.cell? a1 = some v1 ∧ w.cell? a2 = some v2 ∧ w.cell? a3 = some v3 ∧ Below w0.heap.size w0 w) (hb : Below w.heap.size w w') : w'.cell? a0 = some v0 ∧ w'.cell? a1 = some v1 ∧ w'.cell? a2 = some v2 ∧ w'.cell? a3 = some v3 ∧ Below w0.heap.size w0 w' :=
  ⟨pw_cell_below hb h.1, pw_cell_below hb h.2.1, pw_cell_below hb h.2.2.1, pw_cell_below hb h.2.2.2.1, h.2.2.2.2.trans (hb.mono h.2.2.2.2.size)⟩
set_option maxHeartbeats 1000000 in
theorem byNameSch1.calls (x : Sch) (bo bn : Nat) (name : ByteArray) (w : World) (h1 : w.cell? ⟨bo, 0, none⟩ = some (.func (.func 73) #[] #[])) (h2 : w.cell? ⟨bn, 0, none⟩ = some (.string name)) :
    Calls Try.prog 109 #[.agg #[.string x.name, .string x.owner], .pointer (some ⟨bo, 0, none⟩), .pointer (some ⟨bn, 0, none⟩)] w fun e w' => e = .returned (.bool (x.name.toList == name.toList)) ∧ Below w.heap.size w w' := by
  have hb1 : bo < w.heap.size := World.block_lt_of_cell? w _ h1
  have hb2 : bn < w.heap.size := World.block_lt_of_cell? w _ h2
  have ha : ∀ o, (w.alloc o).cell? ⟨bo, 0, none⟩ = some (.func (.func 73) #[] #[]) := fun o => pw_cell_below (below_alloc (Below.refl _ _) o) h1
  have hc : ∀ o, (w.alloc o).cell? ⟨bn, 0, none⟩ = some (.string name) := fun o => pw_cell_below (below_alloc (Below.refl _ _) o) h2
  go_enter Try.func109, Try.ntmps109
  go_wp2_with fail
  go_region_held3 (fun w' => w'.cell? ⟨bo, 0, none⟩ = some (.func (.func 73) #[] #[]) ∧ w'.cell? ⟨bn, 0, none⟩ = some (.string name) ∧ w'.cell? ⟨w.heap.size, 0, none⟩ = some (.string x.name) ∧ w'.cell? ⟨w.heap.size, 1, none⟩ = some (.string x.owner) ∧ Below w.heap.size w w') (first | exact keepSch (by assumption) (by assumption) | (exact ⟨(by simp [*]), (by simp [*]), (by simp), (by simp), ((Below.refl _ _).alloc (Nat.le_refl _) _).drew⟩))
    (first | (go_at_call 73; refine (schemaName.calls x _).mono ?_; rintro e w' ⟨rfl, hb⟩))
  rename_i hH
  have HB := Aside0.mk hH.2.2.2.2
  clear hH hb
  go_wp2
  go_ret
  exact ⟨rfl, HB.out⟩

set_option maxHeartbeats 1000000 in
theorem idxFuncSch.calls (A0 : Option Addr) (c0 : Nat) (xs : List Sch) (bo bn : Nat) (name : ByteArray) (w : World) (hr : kSch.C w A0 xs.length xs) (hl : xs.length ≤ 140737488355328) (h1 : w.cell? ⟨bo, 0, none⟩ = some (.func (.func 73) #[] #[])) (h2 : w.cell? ⟨bn, 0, none⟩ = some (.string name)) :
    Calls Try.prog 108 #[.slice A0 xs.length c0, .func (.func 109) #[] #[.pointer (some ⟨bo, 0, none⟩), .pointer (some ⟨bn, 0, none⟩)]] w fun e w' => e = .returned (.int .i64 (idx (fun x => x.name.toList == name.toList) xs)) ∧ Below w.heap.size w w' := by
  have HR := Aside0.mk hr
  have H1 := Aside0.mk h1
  have H2 := Aside0.mk h2
  have HX := Aside0.mk (show ∀ k, idx (fun x => x.name.toList == name.toList) xs = k → idx (fun x => x.name.toList == name.toList) xs = k from fun _ h => h)
  generalize hi : idx (fun x : Sch => x.name.toList == name.toList) xs = r at HX
  clear HX
  have HI := Aside0.mk hi
  clear hr h1 h2 hi
  go_enter Try.func108, Try.ntmps108
  go_wp2
  go_loopw [8] (fun i w' => ∃ k : Nat, k ≤ xs.length ∧ i = .int .i64 k ∧ Aside0 ((∀ j (hj : j < xs.length), j < k → (xs[j].name.toList == name.toList) = false) ∧ Below w.heap.size w w')) (fun i _ => xs.length - (intOf i).toNat)
  case atStart => exact ⟨0, Nat.zero_le _, rfl, ⟨fun _ _ h => absurd h (Nat.not_lt_zero _), Below.refl _ _⟩⟩
  case round =>
    obtain ⟨k, hk, rfl, HJ⟩ := hrel
    by_cases hlt : k < xs.length
    · obtain ⟨ad, e, hc0, hc1⟩ := cSch (Kd.C_below HR.out HJ.out.2) k hlt
      cases e
      have HC := Aside0.mk (byNameSch1.calls xs[k] bo bn name wr (pw_cell_below HJ.out.2 H1.out) (pw_cell_below HJ.out.2 H2.out))
      generalize hp : (xs[k].name.toList == name.toList) = p at HC
      have HP := Aside0.mk hp
      clear hp
      go_wp2_with fail
      refine HC.out.mono ?_
      rintro e w1 ⟨rfl, hb1⟩
      have HB := Aside0.mk (HJ.out.2.trans (hb1.mono HJ.out.2.size))
      clear hb1
      cases p with
      | true =>
        have hr := idx_hit (p := fun x : Sch => x.name.toList == name.toList) hlt HP.out HJ.out.1
        have HR2 := Aside0.mk (hr.symm.trans HI.out)
        clear hr
        go_wp2
        go_ret
        exact ⟨ret_int HR2.out, HB.out⟩
      | false =>
        go_wp2
        go_roundw
        case rel => exact ⟨k + 1, by omega, by go_num, ⟨snoc_false (p := fun x : Sch => x.name.toList == name.toList) HJ.out.1 hlt HP.out, HB.out⟩⟩
        case measure => simp [intOf]; omega
    · have hd : decide (k < xs.length) = false := decide_eq_false hlt
      go_wp2
      go_ret
      exact ⟨ret_int ((idx_none (p := fun x : Sch => x.name.toList == name.toList) fun j hj => HJ.out.1 j hj (by omega)).symm.trans HI.out), HJ.out.2⟩
set_option maxHeartbeats 400000 in
theorem byNameSch.calls (A0 : Option Addr) (c0 : Nat) (xs : List Sch) (name : ByteArray) (w : World) (hr : kSch.C w A0 xs.length xs) (hl : xs.length ≤ 140737488355328) :
    Calls Try.prog 72 #[.slice A0 xs.length c0, .string name, .func (.func 73) #[] #[]] w fun e w' => e = .returned (.int .i64 (idx (fun x => x.name.toList == name.toList) xs)) ∧ Below w.heap.size w w' := by
  have hbx : Below w.heap.size w ((w.alloc (.cells #[.string name] 9)).alloc (.cells #[.func (.func 73) #[] #[]] 88)) := below_alloc (below_alloc (Below.refl _ _) _) _
  have HC := Aside0.mk (idxFuncSch.calls A0 c0 xs (w.heap.size + 1) w.heap.size name _ (Kd.C_below hr hbx) hl (by simp) (by simp))
  have HB := Aside0.mk hbx
  clear hr hbx
  generalize idx (fun x : Sch => x.name.toList == name.toList) xs = r at HC ⊢
  go_enter Try.func72, Try.ntmps72
  go_wp2_with fail
  refine HC.out.mono ?_
  rintro e w1 ⟨rfl, hb1⟩
  have HB1 := Aside0.mk (HB.out.trans (hb1.mono HB.out.size))
  clear hb1
  go_wp2
  go_ret
  exact ⟨rfl, HB1.out⟩

end Go.Proofs.Ytmmiehckgkadgaa.O
