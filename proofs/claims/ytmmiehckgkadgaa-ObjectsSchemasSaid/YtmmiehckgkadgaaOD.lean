/- Tables looked up by schema and name, counted by schema; columns that may be. -/
import Derived.Test.YtmmiehckgkadgaaOC
namespace Go.Proofs.Ytmmiehckgkadgaa.O
set_option linter.unusedVariables false
set_option linter.unusedSimpArgs false
open Go.RowKit Go.Proofs.YtmmiehckgkadgaaW.PrintWords

theorem ret_int_bool {a b : Int} {p q : Bool} (h : a = b) (h' : p = q) : Ending.returned (.tuple #[.int .i64 a, .bool p]) = .returned (.tuple #[.int .i64 b, .bool q]) := by rw [h, h']
/-- a table of a schema, of a name -/
def isT (schema name : ByteArray) (t : Tab) : Bool := t.schema.toList == schema.toList && t.name.toList == name.toList
/-- a table of a schema -/
def ofS (schema : ByteArray) (t : Tab) : Bool := t.schema.toList == schema.toList

set_option maxHeartbeats 1000000 in
theorem where1.calls (x : Tab) {A3 A4 : Option Addr} {c3 c4 : Nat} (bo bn : Nat) (schema name : ByteArray) (w : World) (h1 : w.cell? ⟨bo, 0, none⟩ = some (.string schema)) (h2 : w.cell? ⟨bn, 0, none⟩ = some (.string name)) :
    Calls Try.prog 98 #[.agg #[.string x.schema, .string x.name, .string x.owner, .slice A3 x.cols.length c3, .slice A4 x.rules.length c4], .pointer (some ⟨bo, 0, none⟩), .pointer (some ⟨bn, 0, none⟩)] w fun e w' => e = .returned (.bool (isT schema name x)) ∧ Below w.heap.size w w' := by
  have hb1 : bo < w.heap.size := World.block_lt_of_cell? w _ h1
  have hb2 : bn < w.heap.size := World.block_lt_of_cell? w _ h2
  have ha : ∀ o, (w.alloc o).cell? ⟨bo, 0, none⟩ = some (.string schema) := fun o => pw_cell_below (below_alloc (Below.refl _ _) o) h1
  have hc : ∀ o, (w.alloc o).cell? ⟨bn, 0, none⟩ = some (.string name) := fun o => pw_cell_below (below_alloc (Below.refl _ _) o) h2
  have HB := Aside0.mk (fun o => ((Below.refl w.heap.size w).alloc (Nat.le_refl _) o).drew)
  unfold isT
  cases hp : (x.schema.toList == schema.toList) with
  | false =>
    go_enter Try.func98, Try.ntmps98
    go_wp2
    go_ret
    exact ⟨rfl, by first | exact HB.out _ | exact (Below.refl _ _).alloc (Nat.le_refl _) _⟩
  | true =>
    cases hq : (x.name.toList == name.toList) with
    | false =>
      go_enter Try.func98, Try.ntmps98
      go_wp2
      go_ret
      exact ⟨rfl, by first | exact HB.out _ | exact (Below.refl _ _).alloc (Nat.le_refl _) _⟩
    | true =>
      go_enter Try.func98, Try.ntmps98
      go_wp2
      go_ret
      exact ⟨rfl, by first | exact HB.out _ | exact (Below.refl _ _).alloc (Nat.le_refl _) _⟩

set_option maxHeartbeats 1000000 in
theorem whereI.calls (A0 : Option Addr) (c0 : Nat) (xs : List Tab) (bo bn : Nat) (schema name : ByteArray) (w : World) (hr : kTab.C w A0 xs.length xs) (hl : xs.length ≤ 140737488355328) (h1 : w.cell? ⟨bo, 0, none⟩ = some (.string schema)) (h2 : w.cell? ⟨bn, 0, none⟩ = some (.string name)) :
    Calls Try.prog 97 #[.slice A0 xs.length c0, .func (.func 98) #[] #[.pointer (some ⟨bo, 0, none⟩), .pointer (some ⟨bn, 0, none⟩)]] w fun e w' => e = .returned (.int .i64 (idx (isT schema name) xs)) ∧ Below w.heap.size w w' := by
  have HR := Aside0.mk hr
  have H1 := Aside0.mk h1
  have H2 := Aside0.mk h2
  generalize hi : idx (isT schema name) xs = r
  have HI := Aside0.mk hi
  clear hr h1 h2 hi
  go_enter Try.func97, Try.ntmps97
  go_wp2
  go_loopw [8] (fun i w' => ∃ k : Nat, k ≤ xs.length ∧ i = .int .i64 k ∧ Aside0 ((∀ j (hj : j < xs.length), j < k → isT schema name xs[j] = false) ∧ Below w.heap.size w w')) (fun i _ => xs.length - (intOf i).toNat)
  case atStart => exact ⟨0, Nat.zero_le _, rfl, ⟨fun _ _ h => absurd h (Nat.not_lt_zero _), Below.refl _ _⟩⟩
  case round =>
    obtain ⟨k, hk, rfl, HJ⟩ := hrel
    by_cases hlt : k < xs.length
    · obtain ⟨ad, A3, c3, A4, c4, e, hc0, hc1, hc2, hc3, hc4, hs1, hs2, hs3, hs4⟩ := cTab (Kd.C_below HR.out HJ.out.2) k hlt
      cases e
      have HC := Aside0.mk (where1.calls xs[k] (A3 := A3) (c3 := c3) (A4 := A4) (c4 := c4) bo bn schema name wr (pw_cell_below HJ.out.2 H1.out) (pw_cell_below HJ.out.2 H2.out))
      generalize hp : isT schema name xs[k] = p at HC
      have HP := Aside0.mk hp
      clear hp hs1 hs2 hs3 hs4
      go_wp2_with fail
      refine HC.out.mono ?_
      rintro e w1 ⟨rfl, hb1⟩
      have HB := Aside0.mk (HJ.out.2.trans (hb1.mono HJ.out.2.size))
      clear hb1
      cases p with
      | true =>
        have hr := idx_hit (p := isT schema name) hlt HP.out HJ.out.1
        have HR2 := Aside0.mk (hr.symm.trans HI.out)
        clear hr
        go_wp2
        go_ret
        exact ⟨ret_int HR2.out, HB.out⟩
      | false =>
        go_wp2
        go_roundw
        case rel => exact ⟨k + 1, by omega, by go_num, ⟨snoc_false (p := isT schema name) HJ.out.1 hlt HP.out, HB.out⟩⟩
        case measure => simp [intOf]; omega
    · have hd : decide (k < xs.length) = false := decide_eq_false hlt
      go_wp2
      go_ret
      exact ⟨ret_int ((idx_none (p := isT schema name) fun j hj => HJ.out.1 j hj (by omega)).symm.trans HI.out), HJ.out.2⟩

theorem cell_b1 (w : World) (a c : Obj) (v : Value) (t : TypeId) : (((w.alloc a).alloc (.cells #[v] t)).alloc c).cell? ⟨w.heap.size + 1, 0, none⟩ = some v := by
  rw [pw_cell_below (below_alloc (Below.refl _ _) c) (show ((w.alloc a).alloc (.cells #[v] t)).cell? ⟨w.heap.size + 1, 0, none⟩ = some v by have := World.cell?_alloc_new (w := w.alloc a) #[v] t 0; simp)]
theorem cell_b2 (w : World) (a c : Obj) (v : Value) (t : TypeId) : (((w.alloc a).alloc c).alloc (.cells #[v] t)).cell? ⟨w.heap.size + 2, 0, none⟩ = some v := by
  have := World.cell?_alloc_new (w := (w.alloc a).alloc c) #[v] t 0
  simpa using this
set_option maxHeartbeats 400000 in
theorem where.calls {As At : Option Addr} {cs ct ns : Nat} (ts : List Tab) (schema name : ByteArray) (w : World) (hr : kTab.C w At ts.length ts) (hl : ts.length ≤ 140737488355328) :
    Calls Try.prog 51 #[.agg #[.slice As ns cs, .slice At ts.length ct], .string schema, .string name] w fun e w' => e = .returned (.tuple #[.int .i64 (idx (isT schema name) ts), .bool (decide (0 ≤ idx (isT schema name) ts))]) ∧ Below w.heap.size w w' := by
  have hbx : ∀ a b c, Below w.heap.size w (((w.alloc a).alloc b).alloc c) := fun a b c => below_alloc (below_alloc (below_alloc (Below.refl _ _) _) _) _
  have HC := Aside0.mk (whereI.calls At ct ts (w.heap.size + 1) (w.heap.size + 2) schema name (((w.alloc (.cells #[.slice As ns cs, .slice At ts.length ct] 26)).alloc (.cells #[.string schema] 9)).alloc (.cells #[.string name] 9)) (Kd.C_below hr (hbx _ _ _)) hl (cell_b1 _ _ _ _ _) (cell_b2 _ _ _ _ _))
  have HB := Aside0.mk hbx
  clear hr hbx
  generalize idx (isT schema name) ts = r at HC ⊢
  go_enter Try.func51, Try.ntmps51
  go_wp2_with fail
  refine HC.out.mono ?_
  rintro e w1 ⟨rfl, hb1⟩
  have HB1 := Aside0.mk ((HB.out _ _ _).trans (hb1.mono (HB.out _ _ _).size))
  clear hb1
  go_wp2
  go_ret2
  exact ⟨rfl, HB1.out⟩

set_option maxHeartbeats 1000000 in
theorem within.calls {As At : Option Addr} {cs ct ns : Nat} (ts : List Tab) (schema : ByteArray) (w : World) (hr : kTab.C w At ts.length ts) (hl : ts.length ≤ 140737488355328) :
    Calls Try.prog 46 #[.agg #[.slice As ns cs, .slice At ts.length ct], .string schema] w fun e w' => e = .returned (.int .i64 (cnt (ofS schema) ts)) ∧ Below w.heap.size w w' := by
  have HR := Aside0.mk hr
  generalize hi : cnt (ofS schema) ts = r
  have HI := Aside0.mk hi
  clear hr hi
  go_enter Try.func46, Try.ntmps46
  go_wp2
  go_loopw [5, 11] (fun n i w' => ∃ k : Nat, k ≤ ts.length ∧ i = .int .i64 k ∧ n = .int .i64 (cnt (ofS schema) (ts.take k)) ∧ Aside0 (Below w.heap.size w w')) (fun _ i _ => ts.length - (intOf i).toNat)
  case atStart => exact ⟨0, Nat.zero_le _, rfl, rfl, ⟨by first | exact Below.refl _ _ | exact below_alloc (Below.refl _ _) _⟩⟩
  case round =>
    obtain ⟨k, hk, rfl, rfl, HJ⟩ := hrel
    have hle : cnt (ofS schema) (ts.take k) ≤ k := Nat.le_trans (cnt_le _ _) (List.length_take_le _ _)
    by_cases hlt : k < ts.length
    · obtain ⟨ad, A3, c3, A4, c4, e, hc0, hc1, hc2, hc3, hc4, hs1, hs2, hs3, hs4⟩ := cTab (Kd.C_below HR.out HJ.out) k hlt
      cases e
      have HN := Aside0.mk (cnt_snoc (ofS schema) ts k hlt)
      generalize hm : cnt (ofS schema) (ts.take k) = m at hle HN ⊢
      unfold ofS at HN
      clear hs1 hs2 hs3 hs4
      cases hp : (ts[k].schema.toList == schema.toList) with
      | true =>
        have HN' := Aside0.mk (HN.out.trans (by rw [hp, if_pos rfl]))
        clear HN
        go_wp2
        go_roundw
        case rel => exact ⟨k + 1, by omega, by go_num, by rw [show cnt (ofS schema) (ts.take (k + 1)) = m + 1 from HN'.out]; go_num, ⟨by first | exact HJ.out.alloc HJ.out.size _ | exact below_alloc HJ.out _⟩⟩
        case measure => simp [intOf]; omega
      | false =>
        have HN' := Aside0.mk (HN.out.trans (by rw [hp]))
        clear HN
        go_wp2
        go_roundw
        case rel => exact ⟨k + 1, by omega, by go_num, by rw [show cnt (ofS schema) (ts.take (k + 1)) = m from HN'.out], ⟨by first | exact HJ.out.alloc HJ.out.size _ | exact below_alloc HJ.out _⟩⟩
        case measure => simp [intOf]; omega
    · have hd : decide (k < ts.length) = false := decide_eq_false hlt
      have hf := Aside0.mk (show cnt (ofS schema) (ts.take k) = r by rw [List.take_of_length_le (by omega)]; exact HI.out)
      generalize hm : cnt (ofS schema) (ts.take k) = m at hf hle ⊢
      go_wp2
      go_ret
      exact ⟨ret_int (by rw [hf.out]), HJ.out⟩
end Go.Proofs.Ytmmiehckgkadgaa.O
