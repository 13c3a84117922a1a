/- Own lemmas and walks (OD, OE, OF), without what the law does not need. Laid by a program of this session (prune.py). -/
import Derived.Test.YtmmiehckgkadgaaPt5
namespace Go.Proofs.Ytmmiehckgkadgaa.O
set_option linter.unusedVariables false
set_option linter.unusedSimpArgs false
open Go.RowKit Go.Proofs.YtmmiehckgkadgaaW.PrintWords
def isT (schema name : ByteArray) (t : Tab) : Bool := t.schema.toList == schema.toList && t.name.toList == name.toList
def ofS (schema : ByteArray) (t : Tab) : Bool := t.schema.toList == schema.toList
set_option maxHeartbeats 1000000 in
theorem where1.calls (x : Tab) {A3 A4 : Option Addr} {c3 c4 : Nat} (bo bn : Nat) (schema name : ByteArray) (w : World) (h1 : w.cell? ⟨bo, 0, none⟩ = some (.string schema)) (h2 : w.cell? ⟨bn, 0, none⟩ = some (.string name)) :
    Calls Try.prog 98 #[.agg #[.string x.schema, .string x.name, .string x.owner, .slice A3 x.cols.length c3, .slice A4 x.rules.length c4], .pointer (some ⟨bo, 0, none⟩), .pointer (some ⟨bn, 0, none⟩)] w fun e w' => e = .returned (.bool (isT schema name x)) ∧ Below w.heap.size w w' := by
  have hb1 : bo < w.heap.size := World.block_lt_of_cell? w _ h1
  have hb2 : bn < w.heap.size := World.block_lt_of_cell? w _ h2
  have ha : ∀ o, (w.alloc o).cell? ⟨bo, 0, none⟩ = some (.string schema) := fun o => pw_cell_below (below_alloc (Below.refl _ _) o) h1
  have hc : ∀ o, (w.alloc o).cell? ⟨bn, 0, none⟩ = some (.string name) := fun o => pw_cell_below (below_alloc (Below.refl _ _) o) h2
  have HB := Aside0.mk (fun o => ((Below.refl w.heap.size w).alloc (Nat.le_refl _) o).drew)
  unfold isT
  cases hp : (x.schema.toList == schema.toList) with
  | false =>
    go_enter Try.func98, Try.ntmps98
    go_wp2
    go_ret
    exact ⟨rfl, by first | exact HB.out _ | exact (Below.refl _ _).alloc (Nat.le_refl _) _⟩
  | true =>
    cases hq : (x.name.toList == name.toList) with
    | false =>
      go_enter Try.func98, Try.ntmps98
      go_wp2
      go_ret
      exact ⟨rfl, by first | exact HB.out _ | exact (Below.refl _ _).alloc (Nat.le_refl _) _⟩
    | true =>
      go_enter Try.func98, Try.ntmps98
      go_wp2
      go_ret
      exact ⟨rfl, by first | exact HB.out _ | exact (Below.refl _ _).alloc (Nat.le_refl _) _⟩
set_option maxHeartbeats 1000000 in
theorem whereI.calls (A0 : Option Addr) (c0 : Nat) (xs : List Tab) (bo bn : Nat) (schema name : ByteArray) (w : World) (hr : kTab.C w A0 xs.length xs) (hl : xs.length ≤ 140737488355328) (h1 : w.cell? ⟨bo, 0, none⟩ = some (.string schema)) (h2 : w.cell? ⟨bn, 0, none⟩ = some (.string name)) :
    Calls Try.prog 97 #[.slice A0 xs.length c0, .func (.func 98) #[] #[.pointer (some ⟨bo, 0, none⟩), .pointer (some ⟨bn, 0, none⟩)]] w fun e w' => e = .returned (.int .i64 (idx (isT schema name) xs)) ∧ Below w.heap.size w w' := by
  have HR := Aside0.mk hr
  have H1 := Aside0.mk h1
  have H2 := Aside0.mk h2
  generalize hi : idx (isT schema name) xs = r
  have HI := Aside0.mk hi
  clear hr h1 h2 hi
  go_enter Try.func97, Try.ntmps97
  go_wp2
  go_loopw [8] (fun i w' => ∃ k : Nat, k ≤ xs.length ∧ i = .int .i64 k ∧ Aside0 ((∀ j (hj : j < xs.length), j < k → isT schema name xs[j] = false) ∧ Below w.heap.size w w')) (fun i _ => xs.length - (intOf i).toNat)
  case atStart => exact ⟨0, Nat.zero_le _, rfl, ⟨fun _ _ h => absurd h (Nat.not_lt_zero _), Below.refl _ _⟩⟩
  case round =>
    obtain ⟨k, hk, rfl, HJ⟩ := hrel
    by_cases hlt : k < xs.length
    · obtain ⟨ad, A3, c3, A4, c4, e, hc0, hc1, hc2, hc3, hc4, hs1, hs2, hs3, hs4⟩ := cTab (Kd.C_below HR.out HJ.out.2) k hlt
      cases e
      have HC := Aside0.mk (where1.calls xs[k] (A3 := A3) (c3 := c3) (A4 := A4) (c4 := c4) bo bn schema name wr (pw_cell_below HJ.out.2 H1.out) (pw_cell_below HJ.out.2 H2.out))
      generalize hp : isT schema name xs[k] = p at HC
      have HP := Aside0.mk hp
      clear hp hs1 hs2 hs3 hs4
      go_wp2_with fail
      refine HC.out.mono ?_
      rintro e w1 ⟨rfl, hb1⟩
      have HB := Aside0.mk (HJ.out.2.trans (hb1.mono HJ.out.2.size))
      clear hb1
      cases p with
      | true =>
        have hr := idx_hit (p := isT schema name) hlt HP.out HJ.out.1
        have HR2 := Aside0.mk (hr.symm.trans HI.out)
        clear hr
        go_wp2
        go_ret
        exact ⟨ret_int HR2.out, HB.out⟩
      | false =>
        go_wp2
        go_roundw
        case rel => exact ⟨k + 1, by omega, by go_num, ⟨snoc_false (p := isT schema name) HJ.out.1 hlt HP.out, HB.out⟩⟩
        case measure => simp [intOf]; omega
    · have hd : decide (k < xs.length) = false := decide_eq_false hlt
      go_wp2
      go_ret
      exact ⟨ret_int ((idx_none (p := isT schema name) fun j hj => HJ.out.1 j hj (by omega)).symm.trans HI.out), HJ.out.2⟩
theorem cell_b1 (w : World) (a c : Obj) (v : Value) (t : TypeId) : (((w.alloc a).alloc (.cells #[v] t)).alloc c).cell? ⟨w.heap.size + 1, 0, none⟩ = some v := by
  rw [pw_cell_below (below_alloc (Below.refl _ _) c) (show ((w.alloc a).alloc (.cells #[v] t)).cell? ⟨w.heap.size + 1, 0, none⟩ = some v by have := World.cell?_alloc_new (w := w.alloc a) #[v] t 0; simp)]
theorem cell_b2 (w : World) (a c : Obj) (v : Value) (t : TypeId) : (((w.alloc a).alloc c).alloc (.cells #[v] t)).cell? ⟨w.heap.size + 2, 0, none⟩ = some v := by
  have := World.cell?_alloc_new (w := (w.alloc a).alloc c) #[v] t 0
  simpa using this
set_option maxHeartbeats 400000 in
theorem where.calls {As At : Option Addr} {cs ct ns : Nat} (ts : List Tab) (schema name : ByteArray) (w : World) (hr : kTab.C w At ts.length ts) (hl : ts.length ≤ 140737488355328) :
    Calls Try.prog 51 #[.agg #[.slice As ns cs, .slice At ts.length ct], .string schema, .string name] w fun e w' => e = .returned (.tuple #[.int .i64 (idx (isT schema name) ts), .bool (decide (0 ≤ idx (isT schema name) ts))]) ∧ Below w.heap.size w w' := by
  have hbx : ∀ a b c, Below w.heap.size w (((w.alloc a).alloc b).alloc c) := fun a b c => below_alloc (below_alloc (below_alloc (Below.refl _ _) _) _) _
  have HC := Aside0.mk (whereI.calls At ct ts (w.heap.size + 1) (w.heap.size + 2) schema name (((w.alloc (.cells #[.slice As ns cs, .slice At ts.length ct] 26)).alloc (.cells #[.string schema] 9)).alloc (.cells #[.string name] 9)) (Kd.C_below hr (hbx _ _ _)) hl (cell_b1 _ _ _ _ _) (cell_b2 _ _ _ _ _))
  have HB := Aside0.mk hbx
  clear hr hbx
  generalize idx (isT schema name) ts = r at HC ⊢
  go_enter Try.func51, Try.ntmps51
  go_wp2_with fail
  refine HC.out.mono ?_
  rintro e w1 ⟨rfl, hb1⟩
  have HB1 := Aside0.mk ((HB.out _ _ _).trans (hb1.mono (HB.out _ _ _).size))
  clear hb1
  go_wp2
  go_ret2
  exact ⟨rfl, HB1.out⟩
set_option maxHeartbeats 1000000 in
theorem within.calls {As At : Option Addr} {cs ct ns : Nat} (ts : List Tab) (schema : ByteArray) (w : World) (hr : kTab.C w At ts.length ts) (hl : ts.length ≤ 140737488355328) :
    Calls Try.prog 46 #[.agg #[.slice As ns cs, .slice At ts.length ct], .string schema] w fun e w' => e = .returned (.int .i64 (cnt (ofS schema) ts)) ∧ Below w.heap.size w w' := by
  have HR := Aside0.mk hr
  generalize hi : cnt (ofS schema) ts = r
  have HI := Aside0.mk hi
  clear hr hi
  go_enter Try.func46, Try.ntmps46
  go_wp2
  go_loopw [5, 11] (fun n i w' => ∃ k : Nat, k ≤ ts.length ∧ i = .int .i64 k ∧ n = .int .i64 (cnt (ofS schema) (ts.take k)) ∧ Aside0 (Below w.heap.size w w')) (fun _ i _ => ts.length - (intOf i).toNat)
  case atStart => exact ⟨0, Nat.zero_le _, rfl, rfl, ⟨by first | exact Below.refl _ _ | exact below_alloc (Below.refl _ _) _⟩⟩
  case round =>
    obtain ⟨k, hk, rfl, rfl, HJ⟩ := hrel
    have hle : cnt (ofS schema) (ts.take k) ≤ k := Nat.le_trans (cnt_le _ _) (List.length_take_le _ _)
    by_cases hlt : k < ts.length
    · obtain ⟨ad, A3, c3, A4, c4, e, hc0, hc1, hc2, hc3, hc4, hs1, hs2, hs3, hs4⟩ := cTab (Kd.C_below HR.out HJ.out) k hlt
      cases e
      have HN := Aside0.mk (cnt_snoc (ofS schema) ts k hlt)
      generalize hm : cnt (ofS schema) (ts.take k) = m at hle HN ⊢
      unfold ofS at HN
      clear hs1 hs2 hs3 hs4
      cases hp : (ts[k].schema.toList == schema.toList) with
      | true =>
        have HN' := Aside0.mk (HN.out.trans (by rw [hp, if_pos rfl]))
        clear HN
        go_wp2
        go_roundw
        case rel => exact ⟨k + 1, by omega, by go_num, by rw [show cnt (ofS schema) (ts.take (k + 1)) = m + 1 from HN'.out]; go_num, ⟨by first | exact HJ.out.alloc HJ.out.size _ | exact below_alloc HJ.out _⟩⟩
        case measure => simp [intOf]; omega
      | false =>
        have HN' := Aside0.mk (HN.out.trans (by rw [hp]))
        clear HN
        go_wp2
        go_roundw
        case rel => exact ⟨k + 1, by omega, by go_num, by rw [show cnt (ofS schema) (ts.take (k + 1)) = m from HN'.out], ⟨by first | exact HJ.out.alloc HJ.out.size _ | exact below_alloc HJ.out _⟩⟩
        case measure => simp [intOf]; omega
    · have hd : decide (k < ts.length) = false := decide_eq_false hlt
      have hf := Aside0.mk (show cnt (ofS schema) (ts.take k) = r by rw [List.take_of_length_le (by omega)]; exact HI.out)
      generalize hm : cnt (ofS schema) (ts.take k) = m at hf hle ⊢
      go_wp2
      go_ret
      exact ⟨ret_int (by rw [hf.out]), HJ.out⟩
end Go.Proofs.Ytmmiehckgkadgaa.O
namespace Go.Proofs.Ytmmiehckgkadgaa.O
set_option linter.unusedVariables false
set_option linter.unusedSimpArgs false
open Go.RowKit Go.Proofs.YtmmiehckgkadgaaW.PrintWords
theorem any_hit {α : Type} {p : α → Bool} {l : List α} {k : Nat} (hk : k < l.length) (hp : p l[k] = true) : l.any p = true := List.any_eq_true.2 ⟨_, List.getElem_mem hk, hp⟩
theorem any_none {α : Type} {p : α → Bool} {l : List α} (hn : ∀ j (hj : j < l.length), p l[j] = false) : l.any p = false := by
  cases h : l.any p with
  | false => rfl
  | true => obtain ⟨x, hx, hp⟩ := List.any_eq_true.1 h; obtain ⟨j, hj, rfl⟩ := List.getElem_of_mem hx; rw [hn j hj] at hp; cases hp
theorem cStr {w : World} {A : Option Addr} {n : Nat} {xs : List ByteArray} (h : Kd.string.C w A n xs) (j : Nat) (hj : j < xs.length) : ∃ ad, A = some ad ∧ w.cell? (ad.add j) = some (.string xs[j]) := by
  obtain ⟨ad, c, e, _, hK, hc0⟩ := Kd.C_get h (⟨#[]⟩ : ByteArray) (j : Int) (by omega) (by have := h.1; omega)
  obtain rfl : c = [.string (xs.getD (j : Int).toNat ⟨#[]⟩)] := hK
  refine ⟨ad, e, ?_⟩
  have := hc0 0 _ rfl
  rw [show (j : Int).toNat * Kd.string.sz + 0 = j from (Nat.mul_one _).trans (Int.toNat_natCast j)] at this
  rw [Int.toNat_natCast, List.getD_eq_getElem?_getD, List.getElem?_eq_getElem hj] at this
  exact this
set_option maxHeartbeats 1000000 in
theorem sIndex.calls {A0 : Option Addr} {c0 : Nat} (s : ByteArray) (xs : List ByteArray) (w : World) (hr : Kd.string.C w A0 xs.length xs) (hl : xs.length ≤ 140737488355328) :
    Calls Try.prog 106 #[.slice A0 xs.length c0, .string s] w fun e w' => e = .returned (.int .i64 (idx (fun y => s.toList == y.toList) xs)) ∧ Below w.heap.size w w' := by
  have HR := Aside0.mk hr
  generalize hi : idx (fun y => s.toList == y.toList) xs = r
  have HI := Aside0.mk hi
  clear hr hi
  go_enter Try.func106, Try.ntmps106
  go_wp2
  go_loop [8] (fun i => ∃ k : Nat, k ≤ xs.length ∧ i = .int .i64 k ∧ Aside0 (∀ j (hj : j < xs.length), j < k → ((fun y => s.toList == y.toList)) xs[j] = false)) (fun i => xs.length - (intOf i).toNat)
  case atStart => exact ⟨0, Nat.zero_le _, rfl, ⟨fun _ _ h => absurd h (Nat.not_lt_zero _)⟩⟩
  case round =>
    obtain ⟨k, hk, rfl, HJ⟩ := hrel
    by_cases hlt : k < xs.length
    · obtain ⟨ad, e, hc0⟩ := cStr HR.out k hlt
      cases e
      skip
      cases hp0 : (s.toList == xs[k].toList) with
      | false =>
        have HP := Aside0.mk (show ((fun y => s.toList == y.toList)) xs[k] = false by simp only [List.length_nil]; simp [hp0])
        go_wp2
        go_round
        case rel => exact ⟨k + 1, by omega, by go_num, ⟨snoc_false (p := (fun y => s.toList == y.toList)) HJ.out hlt HP.out⟩⟩
        case measure => simp [intOf]; omega
      | true =>
        have HP := Aside0.mk (show ((fun y => s.toList == y.toList)) xs[k] = true by simp only [List.length_nil]; simp [hp0])
        have HR2 := Aside0.mk ((idx_hit (p := (fun y => s.toList == y.toList)) hlt HP.out HJ.out).symm.trans HI.out)
        go_wp2
        go_ret
        exact ⟨ret_int HR2.out, Below.refl _ _⟩
    · have hd : decide (k < xs.length) = false := decide_eq_false hlt
      go_wp2
      go_ret
      exact ⟨ret_int ((idx_none (p := (fun y => s.toList == y.toList)) fun j hj => HJ.out j hj (by omega)).symm.trans HI.out), Below.refl _ _⟩
set_option maxHeartbeats 1000000 in
theorem rIn.calls {A0 : Option Addr} {c0 : Nat} (s : ByteArray) (xs : List ByteArray) (w : World) (hr : Kd.string.C w A0 xs.length xs) (hl : xs.length ≤ 140737488355328) :
    Calls Try.prog 69 #[.slice A0 xs.length c0, .string s] w fun e w' => e = .returned (.bool (xs.any (fun y => y.toList == s.toList))) ∧ Below w.heap.size w w' := by
  have HR := Aside0.mk hr
  generalize hi : xs.any (fun y => y.toList == s.toList) = r
  have HI := Aside0.mk hi
  clear hr hi
  go_enter Try.func69, Try.ntmps69
  go_wp2
  go_loop [5] (fun i => ∃ k : Nat, k ≤ xs.length ∧ i = .int .i64 k ∧ Aside0 (∀ j (hj : j < xs.length), j < k → ((fun y => y.toList == s.toList)) xs[j] = false)) (fun i => xs.length - (intOf i).toNat)
  case atStart => exact ⟨0, Nat.zero_le _, rfl, ⟨fun _ _ h => absurd h (Nat.not_lt_zero _)⟩⟩
  case round =>
    obtain ⟨k, hk, rfl, HJ⟩ := hrel
    by_cases hlt : k < xs.length
    · obtain ⟨ad, e, hc0⟩ := cStr HR.out k hlt
      cases e
      skip
      cases hp0 : (xs[k].toList == s.toList) with
      | false =>
        have HP := Aside0.mk (show ((fun y => y.toList == s.toList)) xs[k] = false by simp only [List.length_nil]; simp [hp0])
        go_wp2
        go_round
        case rel => exact ⟨k + 1, by omega, by go_num, ⟨snoc_false (p := (fun y => y.toList == s.toList)) HJ.out hlt HP.out⟩⟩
        case measure => simp [intOf]; omega
      | true =>
        have HP := Aside0.mk (show ((fun y => y.toList == s.toList)) xs[k] = true by simp only [List.length_nil]; simp [hp0])
        have HR2 := Aside0.mk ((any_hit (p := (fun y => y.toList == s.toList)) hlt HP.out).symm.trans HI.out)
        go_wp2
        go_ret
        exact ⟨ret_bool HR2.out, Below.refl _ _⟩
    · have hd : decide (k < xs.length) = false := decide_eq_false hlt
      go_wp2
      go_ret
      exact ⟨ret_bool ((any_none (p := (fun y => y.toList == s.toList)) fun j hj => HJ.out j hj (by omega)).symm.trans HI.out), Below.refl _ _⟩
set_option maxHeartbeats 1000000 in
theorem rColumn.calls {A0 : Option Addr} {c0 : Nat} (name : ByteArray) (xs : List Col) (w : World) (hr : kCol.C w A0 xs.length xs) (hl : xs.length ≤ 140737488355328) :
    Calls Try.prog 63 #[.slice A0 xs.length c0, .string name] w fun e w' => e = .returned (.int .i64 (idx (fun x => x.name.toList == name.toList) xs)) ∧ Below w.heap.size w w' := by
  have HR := Aside0.mk hr
  generalize hi : idx (fun x => x.name.toList == name.toList) xs = r
  have HI := Aside0.mk hi
  clear hr hi
  go_enter Try.func63, Try.ntmps63
  go_wp2
  go_loop [5] (fun i => ∃ k : Nat, k ≤ xs.length ∧ i = .int .i64 k ∧ Aside0 (∀ j (hj : j < xs.length), j < k → ((fun x => x.name.toList == name.toList)) xs[j] = false)) (fun i => xs.length - (intOf i).toNat)
  case atStart => exact ⟨0, Nat.zero_le _, rfl, ⟨fun _ _ h => absurd h (Nat.not_lt_zero _)⟩⟩
  case round =>
    obtain ⟨k, hk, rfl, HJ⟩ := hrel
    by_cases hlt : k < xs.length
    · obtain ⟨ad, e, hc0, hc1, hc2⟩ := cCol HR.out k hlt
      cases e
      skip
      cases hp0 : (xs[k].name.toList == name.toList) with
      | false =>
        have HP := Aside0.mk (show ((fun x => x.name.toList == name.toList)) xs[k] = false by simp only [List.length_nil]; simp [hp0])
        go_wp2
        go_round
        case rel => exact ⟨k + 1, by omega, by go_num, ⟨snoc_false (p := (fun x => x.name.toList == name.toList)) HJ.out hlt HP.out⟩⟩
        case measure => simp [intOf]; omega
      | true =>
        have HP := Aside0.mk (show ((fun x => x.name.toList == name.toList)) xs[k] = true by simp only [List.length_nil]; simp [hp0])
        have HR2 := Aside0.mk ((idx_hit (p := (fun x => x.name.toList == name.toList)) hlt HP.out HJ.out).symm.trans HI.out)
        go_wp2
        go_ret
        exact ⟨ret_int HR2.out, Below.refl _ _⟩
    · have hd : decide (k < xs.length) = false := decide_eq_false hlt
      go_wp2
      go_ret
      exact ⟨ret_int ((idx_none (p := (fun x => x.name.toList == name.toList)) fun j hj => HJ.out j hj (by omega)).symm.trans HI.out), Below.refl _ _⟩
set_option maxHeartbeats 1000000 in
theorem rRule.calls {A0 : Option Addr} {c0 : Nat} (name : ByteArray) (xs : List Rul) (w : World) (hr : kRul.C w A0 xs.length xs) (hl : xs.length ≤ 140737488355328) :
    Calls Try.prog 120 #[.slice A0 xs.length c0, .string name] w fun e w' => e = .returned (.int .i64 (idx (fun x => x.name.toList == name.toList) xs)) ∧ Below w.heap.size w w' := by
  have HR := Aside0.mk hr
  generalize hi : idx (fun x => x.name.toList == name.toList) xs = r
  have HI := Aside0.mk hi
  clear hr hi
  go_enter Try.func120, Try.ntmps120
  go_wp2
  go_loop [5] (fun i => ∃ k : Nat, k ≤ xs.length ∧ i = .int .i64 k ∧ Aside0 (∀ j (hj : j < xs.length), j < k → ((fun x => x.name.toList == name.toList)) xs[j] = false)) (fun i => xs.length - (intOf i).toNat)
  case atStart => exact ⟨0, Nat.zero_le _, rfl, ⟨fun _ _ h => absurd h (Nat.not_lt_zero _)⟩⟩
  case round =>
    obtain ⟨k, hk, rfl, HJ⟩ := hrel
    by_cases hlt : k < xs.length
    · obtain ⟨ad, A2, c2, e, hc0, hc1, hc2, hc3, hc4, hc5, hc6, hc7, hsl2, hsc2⟩ := cRul HR.out k hlt
      cases e
      clear hsl2 hsc2
      cases hp0 : (xs[k].name.toList == name.toList) with
      | false =>
        have HP := Aside0.mk (show ((fun x => x.name.toList == name.toList)) xs[k] = false by simp only [List.length_nil]; simp [hp0])
        go_wp2
        go_round
        case rel => exact ⟨k + 1, by omega, by go_num, ⟨snoc_false (p := (fun x => x.name.toList == name.toList)) HJ.out hlt HP.out⟩⟩
        case measure => simp [intOf]; omega
      | true =>
        have HP := Aside0.mk (show ((fun x => x.name.toList == name.toList)) xs[k] = true by simp only [List.length_nil]; simp [hp0])
        have HR2 := Aside0.mk ((idx_hit (p := (fun x => x.name.toList == name.toList)) hlt HP.out HJ.out).symm.trans HI.out)
        go_wp2
        go_ret
        exact ⟨ret_int HR2.out, Below.refl _ _⟩
    · have hd : decide (k < xs.length) = false := decide_eq_false hlt
      go_wp2
      go_ret
      exact ⟨ret_int ((idx_none (p := (fun x => x.name.toList == name.toList)) fun j hj => HJ.out j hj (by omega)).symm.trans HI.out), Below.refl _ _⟩
set_option maxHeartbeats 1000000 in
theorem rSchema.calls {A0 At : Option Addr} {c0 nt ct : Nat} (name : ByteArray) (xs : List Sch) (w : World) (hr : kSch.C w A0 xs.length xs) (hl : xs.length ≤ 140737488355328) :
    Calls Try.prog 76 #[.agg #[.slice A0 xs.length c0, .slice At nt ct], .string name] w fun e w' => e = .returned (.int .i64 (idx (fun x => x.name.toList == name.toList) xs)) ∧ Below w.heap.size w w' := by
  have HR := Aside0.mk (Kd.C_below hr (below_alloc (Below.refl w.heap.size w) (.cells #[.slice A0 xs.length c0, .slice At nt ct] 26)))
  generalize hi : idx (fun x => x.name.toList == name.toList) xs = r
  have HI := Aside0.mk hi
  clear hr hi
  go_enter Try.func76, Try.ntmps76
  go_wp2
  go_loop [5] (fun i => ∃ k : Nat, k ≤ xs.length ∧ i = .int .i64 k ∧ Aside0 (∀ j (hj : j < xs.length), j < k → ((fun x => x.name.toList == name.toList)) xs[j] = false)) (fun i => xs.length - (intOf i).toNat)
  case atStart => exact ⟨0, Nat.zero_le _, rfl, ⟨fun _ _ h => absurd h (Nat.not_lt_zero _)⟩⟩
  case round =>
    obtain ⟨k, hk, rfl, HJ⟩ := hrel
    by_cases hlt : k < xs.length
    · obtain ⟨ad, e, hc0, hc1⟩ := cSch HR.out k hlt
      cases e
      skip
      cases hp0 : (xs[k].name.toList == name.toList) with
      | false =>
        have HP := Aside0.mk (show ((fun x => x.name.toList == name.toList)) xs[k] = false by simp only [List.length_nil]; simp [hp0])
        go_wp2
        go_round
        case rel => exact ⟨k + 1, by omega, by go_num, ⟨snoc_false (p := (fun x => x.name.toList == name.toList)) HJ.out hlt HP.out⟩⟩
        case measure => simp [intOf]; omega
      | true =>
        have HP := Aside0.mk (show ((fun x => x.name.toList == name.toList)) xs[k] = true by simp only [List.length_nil]; simp [hp0])
        have HR2 := Aside0.mk ((idx_hit (p := (fun x => x.name.toList == name.toList)) hlt HP.out HJ.out).symm.trans HI.out)
        go_wp2
        go_ret
        exact ⟨ret_int HR2.out, below_alloc (Below.refl _ _) _⟩
    · have hd : decide (k < xs.length) = false := decide_eq_false hlt
      go_wp2
      go_ret
      exact ⟨ret_int ((idx_none (p := (fun x => x.name.toList == name.toList)) fun j hj => HJ.out j hj (by omega)).symm.trans HI.out), below_alloc (Below.refl _ _) _⟩
set_option maxHeartbeats 1000000 in
theorem rTable.calls {As A0 : Option Addr} {ns cs c0 : Nat} (schema name : ByteArray) (xs : List Tab) (w : World) (hr : kTab.C w A0 xs.length xs) (hl : xs.length ≤ 140737488355328) :
    Calls Try.prog 53 #[.agg #[.slice As ns cs, .slice A0 xs.length c0], .string schema, .string name] w fun e w' => e = .returned (.int .i64 (idx (isT schema name) xs)) ∧ Below w.heap.size w w' := by
  have HR := Aside0.mk (Kd.C_below hr (below_alloc (Below.refl w.heap.size w) (.cells #[.slice As ns cs, .slice A0 xs.length c0] 26)))
  generalize hi : idx (isT schema name) xs = r
  have HI := Aside0.mk hi
  clear hr hi
  go_enter Try.func53, Try.ntmps53
  go_wp2
  go_loop [7] (fun i => ∃ k : Nat, k ≤ xs.length ∧ i = .int .i64 k ∧ Aside0 (∀ j (hj : j < xs.length), j < k → ((isT schema name)) xs[j] = false)) (fun i => xs.length - (intOf i).toNat)
  case atStart => exact ⟨0, Nat.zero_le _, rfl, ⟨fun _ _ h => absurd h (Nat.not_lt_zero _)⟩⟩
  case round =>
    obtain ⟨k, hk, rfl, HJ⟩ := hrel
    by_cases hlt : k < xs.length
    · obtain ⟨ad, A3, c3, A4, c4, e, hc0, hc1, hc2, hc3, hc4, hsl3, hsc3, hsl4, hsc4⟩ := cTab HR.out k hlt
      cases e
      clear hsl3 hsc3 hsl4 hsc4
      cases hp0 : (xs[k].schema.toList == schema.toList) with
      | false =>
        have HP := Aside0.mk (show ((isT schema name)) xs[k] = false by simp only [isT]; simp [hp0])
        go_wp2
        go_round
        case rel => exact ⟨k + 1, by omega, by go_num, ⟨snoc_false (p := (isT schema name)) HJ.out hlt HP.out⟩⟩
        case measure => simp [intOf]; omega
      | true =>
        cases hp1 : (xs[k].name.toList == name.toList) with
        | false =>
          have HP := Aside0.mk (show ((isT schema name)) xs[k] = false by simp only [isT]; simp [hp0, hp1])
          go_wp2
          go_round
          case rel => exact ⟨k + 1, by omega, by go_num, ⟨snoc_false (p := (isT schema name)) HJ.out hlt HP.out⟩⟩
          case measure => simp [intOf]; omega
        | true =>
          have HP := Aside0.mk (show ((isT schema name)) xs[k] = true by simp only [isT]; simp [hp0, hp1])
          have HR2 := Aside0.mk ((idx_hit (p := (isT schema name)) hlt HP.out HJ.out).symm.trans HI.out)
          go_wp2
          go_ret
          exact ⟨ret_int HR2.out, below_alloc (Below.refl _ _) _⟩
    · have hd : decide (k < xs.length) = false := decide_eq_false hlt
      go_wp2
      go_ret
      exact ⟨ret_int ((idx_none (p := (isT schema name)) fun j hj => HJ.out j hj (by omega)).symm.trans HI.out), below_alloc (Below.refl _ _) _⟩
set_option maxHeartbeats 1000000 in
theorem rTables.calls {As A0 : Option Addr} {ns cs c0 : Nat} (schema : ByteArray) (xs : List Tab) (w : World) (hr : kTab.C w A0 xs.length xs) (hl : xs.length ≤ 140737488355328) :
    Calls Try.prog 79 #[.agg #[.slice As ns cs, .slice A0 xs.length c0], .string schema] w fun e w' => e = .returned (.int .i64 (cnt (ofS schema) xs)) ∧ Below w.heap.size w w' := by
  have HR := Aside0.mk (Kd.C_below hr (below_alloc (Below.refl w.heap.size w) (.cells #[.slice As ns cs, .slice A0 xs.length c0] 26)))
  generalize hi : cnt (ofS schema) xs = r
  have HI := Aside0.mk hi
  clear hr hi
  go_enter Try.func79, Try.ntmps79
  go_wp2
  go_loop [5, 6] (fun n i => ∃ k : Nat, k ≤ xs.length ∧ i = .int .i64 k ∧ n = .int .i64 (cnt (ofS schema) (xs.take k))) (fun _ i => xs.length - (intOf i).toNat)
  case atStart => exact ⟨0, Nat.zero_le _, rfl, rfl⟩
  case round =>
    obtain ⟨k, hk, rfl, rfl⟩ := hrel
    have hle : cnt (ofS schema) (xs.take k) ≤ k := Nat.le_trans (cnt_le _ _) (List.length_take_le _ _)
    by_cases hlt : k < xs.length
    · obtain ⟨ad, A3, c3, A4, c4, e, hc0, hc1, hc2, hc3, hc4, hsl3, hsc3, hsl4, hsc4⟩ := cTab HR.out k hlt
      cases e
      clear hsl3 hsc3 hsl4 hsc4
      have HN := Aside0.mk (cnt_snoc (ofS schema) xs k hlt)
      generalize hm : cnt (ofS schema) (xs.take k) = m at hle HN ⊢
      unfold ofS at HN
      cases hp : (xs[k].schema.toList == schema.toList) with
      | true =>
        have HN' := Aside0.mk (HN.out.trans (by rw [hp, if_pos rfl]))
        clear HN
        go_wp2
        go_round
        case rel => exact ⟨k + 1, by omega, by go_num, by rw [show cnt (ofS schema) (xs.take (k + 1)) = m + 1 from HN'.out]; go_num⟩
        case measure => simp [intOf]; omega
      | false =>
        have HN' := Aside0.mk (HN.out.trans (by rw [hp]))
        clear HN
        go_wp2
        go_round
        case rel => exact ⟨k + 1, by omega, by go_num, by rw [show cnt (ofS schema) (xs.take (k + 1)) = m from HN'.out]⟩
        case measure => simp [intOf]; omega
    · have hd : decide (k < xs.length) = false := decide_eq_false hlt
      have hf := Aside0.mk (show cnt (ofS schema) (xs.take k) = r by rw [List.take_of_length_le (by omega)]; exact HI.out)
      generalize hm : cnt (ofS schema) (xs.take k) = m at hf hle ⊢
      go_wp2
      go_ret
      exact ⟨ret_int (by rw [hf.out]), below_alloc (Below.refl _ _) _⟩
def mayCol (c : Col) : Bool := nameB c.name && (c.kind == 2 || c.kind == 3)
set_option maxHeartbeats 1000000 in
theorem mayColumn.calls (x : Col) (w : World) : Calls Try.prog 59 #[.agg #[.string x.name, .int .i64 x.kind, .bool x.null]] w fun e w' => e = .returned (.bool (mayCol x)) ∧ Below w.heap.size w w' := by
  unfold mayCol
  have HN := Aside0.mk (fun W => Name.calls x.name W)
  generalize nameB x.name = b at HN ⊢
  cases b with
  | false =>
    go_enter Try.func59, Try.ntmps59
    go_wp2_with fail
    refine (HN.out _).mono ?_
    rintro e w' ⟨rfl, rfl⟩
    go_wp2
    go_ret
    exact ⟨rfl, below_alloc (Below.refl _ _) _⟩
  | true =>
    cases h2 : (x.kind == 2) with
    | true =>
      go_enter Try.func59, Try.ntmps59
      go_wp2_with fail
      refine (HN.out _).mono ?_
      rintro e w' ⟨rfl, rfl⟩
      go_wp2
      go_ret
      exact ⟨rfl, below_alloc (Below.refl _ _) _⟩
    | false =>
      cases h3 : (x.kind == 3) with
      | true =>
        go_enter Try.func59, Try.ntmps59
        go_wp2_with fail
        refine (HN.out _).mono ?_
        rintro e w' ⟨rfl, rfl⟩
        go_wp2
        go_ret
        exact ⟨rfl, below_alloc (Below.refl _ _) _⟩
      | false =>
        go_enter Try.func59, Try.ntmps59
        go_wp2_with fail
        refine (HN.out _).mono ?_
        rintro e w' ⟨rfl, rfl⟩
        go_wp2
        go_ret
        exact ⟨rfl, below_alloc (Below.refl _ _) _⟩
set_option maxHeartbeats 1000000 in
theorem rOne.calls (x : Col) (w : World) : Calls Try.prog 62 #[.agg #[.string x.name, .int .i64 x.kind, .bool x.null]] w fun e w' => e = .returned (.bool (mayCol x)) ∧ Below w.heap.size w w' := by
  unfold mayCol
  have HN := Aside0.mk (fun W => rName.calls x.name W)
  generalize nameB x.name = b at HN ⊢
  cases b with
  | false =>
    go_enter Try.func62, Try.ntmps62
    go_wp2_with fail
    refine (HN.out _).mono ?_
    rintro e w' ⟨rfl, rfl⟩
    go_wp2
    go_ret
    exact ⟨rfl, below_alloc (Below.refl _ _) _⟩
  | true =>
    cases h2 : (x.kind == 2) with
    | true =>
      go_enter Try.func62, Try.ntmps62
      go_wp2_with fail
      refine (HN.out _).mono ?_
      rintro e w' ⟨rfl, rfl⟩
      go_wp2
      go_ret
      exact ⟨rfl, below_alloc (Below.refl _ _) _⟩
    | false =>
      cases h3 : (x.kind == 3) with
      | true =>
        go_enter Try.func62, Try.ntmps62
        go_wp2_with fail
        refine (HN.out _).mono ?_
        rintro e w' ⟨rfl, rfl⟩
        go_wp2
        go_ret
        exact ⟨rfl, below_alloc (Below.refl _ _) _⟩
      | false =>
        go_enter Try.func62, Try.ntmps62
        go_wp2_with fail
        refine (HN.out _).mono ?_
        rintro e w' ⟨rfl, rfl⟩
        go_wp2
        go_ret
        exact ⟨rfl, below_alloc (Below.refl _ _) _⟩
end Go.Proofs.Ytmmiehckgkadgaa.O
namespace Go.Proofs.Ytmmiehckgkadgaa.O
set_option linter.unusedVariables false
set_option linter.unusedSimpArgs false
open Go.RowKit Go.Proofs.YtmmiehckgkadgaaW.PrintWords
def allB (n : Nat) (f : Nat → Bool) : Bool := decide (∀ k, k < n → f k = true)
theorem allB_false {n : Nat} {f : Nat → Bool} {k : Nat} (hk : k < n) (h : f k = false) : allB n f = false := decide_eq_false fun hh => by rw [hh k hk] at h; cases h
theorem allB_true {n : Nat} {f : Nat → Bool} (h : ∀ k, k < n → f k = true) : allB n f = true := decide_eq_true h
theorem allB_at {n : Nat} {f : Nat → Bool} (h : allB n f = true) {k : Nat} (hk : k < n) : f k = true := of_decide_eq_true h k hk
theorem snocB {f : Nat → Bool} {k : Nat} (h : ∀ j, j < k → f j = true) (hk : f k = true) : ∀ j, j < k + 1 → f j = true := fun j hj => by
  rcases Nat.lt_or_ge j k with h' | h'
  · exact h j h'
  · obtain rfl : j = k := by omega
    exact hk
theorem getD_at {α : Type} {l : List α} {k : Nat} (h : k < l.length) (z : α) : l.getD k z = l[k] := by rw [List.getD_eq_getElem?_getD, List.getElem?_eq_getElem h]; rfl
def colAt (l : List Col) (i : Nat) : Bool := mayCol (l.getD i zCol) && decide (idx (fun x => x.name.toList == (l.getD i zCol).name.toList) l = (i : Int))
def mayCols (l : List Col) : Bool := decide (1 ≤ l.length) && (decide (l.length ≤ 8) && allB l.length (colAt l))
theorem colAt_at {l : List Col} {k : Nat} (h : k < l.length) : colAt l k = (mayCol l[k] && decide (idx (fun x => x.name.toList == l[k].name.toList) l = (k : Int))) := by unfold colAt; rw [getD_at h]
set_option maxHeartbeats 1000000 in
theorem mayColumns.calls (A0 : Option Addr) (c0 : Nat) (xs : List Col) (w : World) (hr : kCol.C w A0 xs.length xs) (hl : xs.length ≤ 140737488355328) :
    Calls Try.prog 81 #[.slice A0 xs.length c0] w fun e w' => e = .returned (.bool (mayCols xs)) ∧ Below w.heap.size w w' := by
  have HR := Aside0.mk hr
  generalize hi : mayCols xs = r
  have HI := Aside0.mk hi
  clear hr hi
  by_cases h1 : 1 ≤ xs.length
  · by_cases h8 : xs.length ≤ 8
    · have HI' := Aside0.mk (show allB xs.length (colAt xs) = r by have := HI.out; unfold mayCols at this; rw [decide_eq_true h1, decide_eq_true h8, Bool.true_and, Bool.true_and] at this; exact this)
      have g1 : ¬ (xs.length : Int) < 1 := by omega
      have g8 : ¬ (8 : Int) < xs.length := by omega
      go_enter Try.func81, Try.ntmps81
      go_wp2
      go_loopw [15] (fun i w' => ∃ k : Nat, k ≤ xs.length ∧ i = .int .i64 k ∧ Aside0 ((∀ j, j < k → colAt xs j = true) ∧ Below w.heap.size w w')) (fun i _ => xs.length - (intOf i).toNat)
      case atStart => exact ⟨0, Nat.zero_le _, rfl, ⟨fun _ h => absurd h (Nat.not_lt_zero _), Below.refl _ _⟩⟩
      case round =>
        obtain ⟨k, hk, rfl, HJ⟩ := hrel
        by_cases hlt : k < xs.length
        · obtain ⟨ad, e, hc0, hc1, hc2⟩ := cCol (Kd.C_below HR.out HJ.out.2) k hlt
          cases e
          have HC := Aside0.mk (fun W => mayColumn.calls xs[k] W)
          have HE := Aside0.mk (colAt_at hlt)
          generalize hp : mayCol xs[k] = p at HC HE
          have HP := Aside0.mk hp
          clear hp
          go_wp2_with fail
          refine (HC.out _).mono ?_
          rintro e w1 ⟨rfl, hb1⟩
          have hx : w1.cell? ⟨wr.heap.size, 0, none⟩ = some (.string xs[k].name) := pw_cell_below hb1 (show (wr.alloc _).cell? ⟨wr.heap.size, 0, none⟩ = some (.string xs[k].name) by simp)
          have HB := Aside0.mk (((below_alloc HJ.out.2 _).trans (hb1.mono (below_alloc HJ.out.2 _).size)))
          clear hb1
          cases p with
          | false =>
            go_wp2
            go_ret
            exact ⟨ret_bool ((allB_false hlt (by rw [HE.out]; rfl)).symm.trans HI'.out), HB.out⟩
          | true =>
            have HD := Aside0.mk (byNameCol.calls (some ad) c0 xs xs[k].name w1 (Kd.C_below HR.out HB.out) hl)
            generalize idx (fun x : Col => x.name.toList == xs[k].name.toList) xs = m at HD HE
            go_wp2_with fail
            refine HD.out.mono ?_
            rintro e w2 ⟨rfl, hb2⟩
            have HB2 := Aside0.mk (HB.out.trans (hb2.mono HB.out.size))
            clear hb2
            cases hm : (m != (k : Int)) with
            | true =>
              go_wp2
              go_ret
              exact ⟨ret_bool ((allB_false hlt (by rw [HE.out, decide_eq_false (by simpa using hm)]; rfl)).symm.trans HI'.out), HB2.out⟩
            | false =>
              go_wp2
              go_roundw
              case rel => exact ⟨k + 1, by omega, by go_num, ⟨snocB HJ.out.1 (by rw [HE.out, decide_eq_true (by simpa using hm)]; rfl), HB2.out⟩⟩
              case measure => simp [intOf]; omega
        · have hd : decide (k < xs.length) = false := decide_eq_false hlt
          go_wp2
          go_ret
          exact ⟨ret_bool ((allB_true fun j hj => HJ.out.1 j (by omega)).symm.trans HI'.out), HJ.out.2⟩
    · have g8 : (8 : Int) < xs.length := by omega
      have g1 : ¬ (xs.length : Int) < 1 := by omega
      go_enter Try.func81, Try.ntmps81
      go_wp2
      go_ret
      exact ⟨ret_bool (by rw [← HI.out]; unfold mayCols; rw [decide_eq_false h8, Bool.false_and, Bool.and_false]), Below.refl _ _⟩
  · have g1 : (xs.length : Int) < 1 := by omega
    go_enter Try.func81, Try.ntmps81
    go_wp2
    go_ret
    exact ⟨ret_bool (by rw [← HI.out]; unfold mayCols; rw [decide_eq_false h1, Bool.false_and]), Below.refl _ _⟩
theorem keepC3 {w0 w w' : World} {v0 v1 v2 : Value} {a0 a1 a2 : Addr} (h : w.cell? a0 = some v0 ∧ w.cell? a1 = some v1 ∧ w.cell? a2 = some v2 ∧ Below w0.heap.size w0 w) (hb : Below w.heap.size w w') : w'.cell? a0 = some v0 ∧ w'.cell? a1 = some v1 ∧ w'.cell? a2 = some v2 ∧ Below w0.heap.size w0 w' :=
  ⟨pw_cell_below hb h.1, pw_cell_below hb h.2.1, pw_cell_below hb h.2.2.1, h.2.2.2.trans (hb.mono h.2.2.2.size)⟩
theorem idx_take {α : Type} {p : α → Bool} {l : List α} {k : Nat} (hk : k < l.length) (hp : p l[k] = true) : decide (0 ≤ idx p (l.take k)) = !decide (idx p l = (k : Int)) := by
  rcases idx_cases p (l.take k) with ⟨j, hj, h1, h2, h3⟩ | ⟨h1, h2⟩
  · have hj' : j < k := by rw [List.length_take] at hj; omega
    rw [List.getElem_take] at h2
    have : idx p l = (j : Int) := idx_hit (by omega) h2 fun i hi hij => by have := h3 i (by rw [List.length_take]; omega) hij; rwa [List.getElem_take] at this
    rw [h1, this, decide_eq_true (by omega), decide_eq_false (by omega)]; rfl
  · have : idx p l = (k : Int) := idx_hit hk hp fun i hi hik => by have := h2 i (by rw [List.length_take]; omega); rwa [List.getElem_take] at this
    rw [h1, this, decide_eq_false (by omega), decide_eq_true rfl]; rfl
theorem bytes_self (s : ByteArray) : (s.toList == s.toList) = true := beq_self_eq_true _
theorem colAt_ref {l : List Col} {k : Nat} (h : k < l.length) : colAt l k = (mayCol l[k] && !decide (0 ≤ idx (fun x => x.name.toList == l[k].name.toList) (l.take k))) := by
  rw [colAt_at h, idx_take (p := fun x : Col => x.name.toList == l[k].name.toList) h (bytes_self _), Bool.not_not]
set_option maxHeartbeats 2000000 in
theorem rColumns.calls (A0 : Option Addr) (c0 : Nat) (xs : List Col) (w : World) (hr : kCol.C w A0 xs.length xs) (hlc : xs.length ≤ c0) (hl : xs.length ≤ 140737488355328) :
    Calls Try.prog 83 #[.slice A0 xs.length c0] w fun e w' => e = .returned (.bool (mayCols xs)) ∧ Below w.heap.size w w' := by
  have HR := Aside0.mk hr
  generalize hi : mayCols xs = r
  have HI := Aside0.mk hi
  clear hr hi
  by_cases h1 : 1 ≤ xs.length
  · by_cases h8 : xs.length ≤ 8
    · have HI' := Aside0.mk (show allB xs.length (colAt xs) = r by have := HI.out; unfold mayCols at this; rw [decide_eq_true h1, decide_eq_true h8, Bool.true_and, Bool.true_and] at this; exact this)
      have g1 : ¬ (xs.length : Int) < 1 := by omega
      have g8 : ¬ (8 : Int) < xs.length := by omega
      go_enter Try.func83, Try.ntmps83
      go_wp2
      go_loopw [3] (fun i w' => ∃ k : Nat, k ≤ xs.length ∧ i = .int .i64 k ∧ Aside0 ((∀ j, j < k → colAt xs j = true) ∧ Below w.heap.size w w')) (fun i _ => xs.length - (intOf i).toNat)
      case atStart => exact ⟨0, Nat.zero_le _, rfl, ⟨fun _ h => absurd h (Nat.not_lt_zero _), Below.refl _ _⟩⟩
      case round =>
        obtain ⟨k, hk, rfl, HJ⟩ := hrel
        by_cases hlt : k < xs.length
        · obtain ⟨ad, e, hc0, hc1, hc2⟩ := cCol (Kd.C_below HR.out HJ.out.2) k hlt
          cases e
          have HC := Aside0.mk (fun W => rOne.calls xs[k] W)
          have HE := Aside0.mk (colAt_ref hlt)
          have htl : (xs.take k).length = k := by rw [List.length_take]; omega
          have hkc : (k : Int) ≤ (c0 : Int) := by omega
          have hkz : (0 : Int) ≤ (k : Int) := by omega
          have HT := Aside0.mk (fun W (hW : Below w.heap.size w W) => rColumn.calls (A0 := some ad) (c0 := c0) xs[k].name (xs.take k) W (Kd.C_take (Kd.C_below HR.out hW) (by omega)) (by omega))
          rw [htl] at HT
          generalize mayCol xs[k] = p at HC HE
          generalize idx (fun x : Col => x.name.toList == xs[k].name.toList) (xs.take k) = m at HE HT
          cases p with
          | false =>
            go_wp2_with fail
            refine wp_region_held_drew (S := (fun w' => w'.cell? (ad.add (k * 3)) = some (.string xs[k].name) ∧ w'.cell? ⟨(ad.add (k * 3)).block, (ad.add (k * 3)).off + 1, none⟩ = some (.int .i64 xs[k].kind) ∧ w'.cell? ⟨(ad.add (k * 3)).block, (ad.add (k * 3)).off + 2, none⟩ = some (.bool xs[k].null) ∧ Below w.heap.size w w')) (by kernel_rfl) ⟨hc0, hc1, hc2, pw_below_drewN HJ.out.2 1⟩ (fun hHeld0 => ?_)
            refine wpAnyH_take (i := 0) (oi := { dst := some 18, op := _, type := _, pos := _, after := _, guard := _ }) (v := ?v0) rfl (by kernel_rfl) (by kernel_rfl) (by kernel_rfl) (fun _ _ _ h => h) (Or.inl ⟨by kernel_rfl, ?hy0⟩) hHeld0 ?rest0
            case hy0 => (intro w hSw; (try dsimp only at hSw); go_simp; (first | done | with_reducible rfl))
            try simp only [Act.put, List.setIfInBounds_toArray, List.set_cons_zero, List.set_cons_succ]
            refine wpAnyH_take (i := 1) (oi := { dst := some 19, op := _, type := _, pos := _, after := _, guard := _ }) (v := ?v1) rfl (by kernel_rfl) (by kernel_rfl) (by kernel_rfl) (fun _ _ _ h => h) (Or.inl ⟨by kernel_rfl, ?hy1⟩) hHeld0 ?rest1
            case hy1 => (intro w hSw; (try dsimp only at hSw); go_simp; (first | done | with_reducible rfl))
            try simp only [Act.put, List.setIfInBounds_toArray, List.set_cons_zero, List.set_cons_succ]
            refine wpAnyH_take (i := 2) (oi := { dst := some 20, op := _, type := _, pos := _, after := _, guard := _ }) (v := ?v2) rfl (by kernel_rfl) (by kernel_rfl) (by kernel_rfl) (fun _ _ _ h => h) (Or.inl ⟨by kernel_rfl, ?hy2⟩) hHeld0 ?rest2
            case hy2 => (intro w hSw; (try dsimp only at hSw); go_simp; (first | done | with_reducible rfl))
            try simp only [Act.put, List.setIfInBounds_toArray, List.set_cons_zero, List.set_cons_succ]
            refine wpAnyH_take (i := 3) (oi := { dst := some 21, op := _, type := _, pos := _, after := _, guard := _ }) (v := ?v3) rfl (by kernel_rfl) (by kernel_rfl) (by kernel_rfl) (fun _ _ _ h => h) (Or.inl ⟨by kernel_rfl, ?hy3⟩) hHeld0 ?rest3
            case hy3 => (intro w hSw; (try dsimp only at hSw); go_simp; (first | done | with_reducible rfl))
            try simp only [Act.put, List.setIfInBounds_toArray, List.set_cons_zero, List.set_cons_succ]
            refine wpAnyH_ready (rs := [4]) (by kernel_rfl) (by simp) ?_
            refine AllReadyH.cons (o := { dst := some 22, op := _, type := _, pos := _, after := _, guard := _ }) rfl (fun K hK => ?_) AllReadyH.nil
            go_simp
            (go_at_call 62; refine (HC.out _).mono ?_; rintro e w' ⟨rfl, hb⟩)
            refine hK.out _ _ (keepC3 hHeld0 hb) (fun hHeld1 => ?_)
            clear hK K hHeld0
            try simp only [Act.put, List.setIfInBounds_toArray, List.set_cons_zero, List.set_cons_succ]
            refine wpAnyH_take (i := 5) (oi := { dst := some 23, op := _, type := _, pos := _, after := _, guard := _ }) (v := ?v5) rfl (by kernel_rfl) (by kernel_rfl) (by kernel_rfl) (fun _ _ _ h => h) (Or.inl ⟨by kernel_rfl, ?hy5⟩) hHeld1 ?rest5
            case hy5 => (intro w hSw; (try dsimp only at hSw); go_simp; (first | done | with_reducible rfl))
            try simp only [Act.put, List.setIfInBounds_toArray, List.set_cons_zero, List.set_cons_succ]
            refine wpAnyH_take (i := 6) (oi := { dst := some 24, op := _, type := _, pos := _, after := _, guard := _ }) (v := ?v6) rfl (by kernel_rfl) (by kernel_rfl) (by kernel_rfl) (fun _ _ _ h => h) (Or.inl ⟨by kernel_rfl, ?hy6⟩) hHeld1 ?rest6
            case hy6 => (intro w hSw; (try dsimp only at hSw); go_simp; (first | done | with_reducible rfl))
            try simp only [Act.put, List.setIfInBounds_toArray, List.set_cons_zero, List.set_cons_succ]
            refine wpAnyH_take (i := 7) (oi := { dst := some 25, op := _, type := _, pos := _, after := _, guard := _ }) (v := undef) rfl (by kernel_rfl) (by kernel_rfl) (by kernel_rfl) (fun _ _ _ h => h) (Or.inr ⟨by kernel_rfl, rfl⟩) hHeld1 ?_
            try simp only [Act.put, List.setIfInBounds_toArray, List.set_cons_zero, List.set_cons_succ]
            refine wpAnyH_take (i := 8) (oi := { dst := some 26, op := _, type := _, pos := _, after := _, guard := _ }) (v := undef) rfl (by kernel_rfl) (by kernel_rfl) (by kernel_rfl) (fun _ _ _ h => h) (Or.inr ⟨by kernel_rfl, rfl⟩) hHeld1 ?_
            try simp only [Act.put, List.setIfInBounds_toArray, List.set_cons_zero, List.set_cons_succ]
            refine wpAnyH_take (i := 9) (oi := { dst := some 27, op := _, type := _, pos := _, after := _, guard := _ }) (v := undef) rfl (by kernel_rfl) (by kernel_rfl) (by kernel_rfl) (fun _ _ _ h => h) (Or.inr ⟨by kernel_rfl, rfl⟩) hHeld1 ?_
            try simp only [Act.put, List.setIfInBounds_toArray, List.set_cons_zero, List.set_cons_succ]
            refine wpAnyH_take (i := 10) (oi := { dst := some 28, op := _, type := _, pos := _, after := _, guard := _ }) (v := undef) rfl (by kernel_rfl) (by kernel_rfl) (by kernel_rfl) (fun _ _ _ h => h) (Or.inr ⟨by kernel_rfl, rfl⟩) hHeld1 ?_
            try simp only [Act.put, List.setIfInBounds_toArray, List.set_cons_zero, List.set_cons_succ]
            refine wpAnyH_take (i := 11) (oi := { dst := some 29, op := _, type := _, pos := _, after := _, guard := _ }) (v := undef) rfl (by kernel_rfl) (by kernel_rfl) (by kernel_rfl) (fun _ _ _ h => h) (Or.inr ⟨by kernel_rfl, rfl⟩) hHeld1 ?_
            try simp only [Act.put, List.setIfInBounds_toArray, List.set_cons_zero, List.set_cons_succ]
            refine wpAnyH_take (i := 12) (oi := { dst := some 30, op := _, type := _, pos := _, after := _, guard := _ }) (v := undef) rfl (by kernel_rfl) (by kernel_rfl) (by kernel_rfl) (fun _ _ _ h => h) (Or.inr ⟨by kernel_rfl, rfl⟩) hHeld1 ?_
            try simp only [Act.put, List.setIfInBounds_toArray, List.set_cons_zero, List.set_cons_succ]
            refine wpAnyH_take (i := 13) (oi := { dst := some 31, op := _, type := _, pos := _, after := _, guard := _ }) (v := undef) rfl (by kernel_rfl) (by kernel_rfl) (by kernel_rfl) (fun _ _ _ h => h) (Or.inr ⟨by kernel_rfl, rfl⟩) hHeld1 ?_
            try simp only [Act.put, List.setIfInBounds_toArray, List.set_cons_zero, List.set_cons_succ]
            refine wpAnyH_take (i := 14) (oi := { dst := some 32, op := _, type := _, pos := _, after := _, guard := _ }) (v := undef) rfl (by kernel_rfl) (by kernel_rfl) (by kernel_rfl) (fun _ _ _ h => h) (Or.inr ⟨by kernel_rfl, rfl⟩) hHeld1 ?_
            try simp only [Act.put, List.setIfInBounds_toArray, List.set_cons_zero, List.set_cons_succ]
            refine wpAnyH_take (i := 15) (oi := { dst := some 33, op := _, type := _, pos := _, after := _, guard := _ }) (v := undef) rfl (by kernel_rfl) (by kernel_rfl) (by kernel_rfl) (fun _ _ _ h => h) (Or.inr ⟨by kernel_rfl, rfl⟩) hHeld1 ?_
            try simp only [Act.put, List.setIfInBounds_toArray, List.set_cons_zero, List.set_cons_succ]
            refine wpAnyH_take (i := 16) (oi := { dst := some 34, op := _, type := _, pos := _, after := _, guard := _ }) (v := undef) rfl (by kernel_rfl) (by kernel_rfl) (by kernel_rfl) (fun _ _ _ h => h) (Or.inr ⟨by kernel_rfl, rfl⟩) hHeld1 ?_
            try simp only [Act.put, List.setIfInBounds_toArray, List.set_cons_zero, List.set_cons_succ]
            refine wpAnyH_take (i := 17) (oi := { dst := some 35, op := _, type := _, pos := _, after := _, guard := _ }) (v := ?v17) rfl (by kernel_rfl) (by kernel_rfl) (by kernel_rfl) (fun _ _ _ h => h) (Or.inl ⟨by kernel_rfl, ?hy17⟩) hHeld1 ?rest17
            case hy17 => (intro w hSw; (try dsimp only at hSw); go_simp; (first | done | with_reducible rfl))
            try simp only [Act.put, List.setIfInBounds_toArray, List.set_cons_zero, List.set_cons_succ]
            refine wpAnyH_done (by kernel_rfl) ?_ _
            have hH := hHeld1
            clear hHeld1
            have HB := Aside0.mk hH.2.2.2
            clear hH hb hc0 hc1 hc2
            go_wp2
            go_ret
            exact ⟨ret_bool ((allB_false hlt (by rw [HE.out]; rfl)).symm.trans HI'.out), HB.out⟩
          | true =>
            by_cases hm : 0 ≤ m
            · go_wp2_with fail
              go_region_held3 (fun w' => w'.cell? (ad.add (k * 3)) = some (.string xs[k].name) ∧ w'.cell? ⟨(ad.add (k * 3)).block, (ad.add (k * 3)).off + 1, none⟩ = some (.int .i64 xs[k].kind) ∧ w'.cell? ⟨(ad.add (k * 3)).block, (ad.add (k * 3)).off + 2, none⟩ = some (.bool xs[k].null) ∧ Below w.heap.size w w')
                (first | assumption | exact keepC3 (by assumption) (by assumption) | exact ⟨hc0, hc1, hc2, pw_below_drewN HJ.out.2 1⟩)
                (first | (go_at_call 62; refine (HC.out _).mono ?_; rintro e w' ⟨rfl, hb⟩) | (go_at_call 63; refine (HT.out _ (And.right (And.right (And.right (by assumption))))).mono ?_; rintro e w' ⟨rfl, hb⟩))
              rename_i hH
              have HB := Aside0.mk hH.2.2.2
              clear hH hc0 hc1 hc2
              go_wp2
              go_ret
              exact ⟨ret_bool ((allB_false hlt (by rw [HE.out, decide_eq_true hm]; rfl)).symm.trans HI'.out), HB.out⟩
            · go_wp2_with fail
              go_region_held3 (fun w' => w'.cell? (ad.add (k * 3)) = some (.string xs[k].name) ∧ w'.cell? ⟨(ad.add (k * 3)).block, (ad.add (k * 3)).off + 1, none⟩ = some (.int .i64 xs[k].kind) ∧ w'.cell? ⟨(ad.add (k * 3)).block, (ad.add (k * 3)).off + 2, none⟩ = some (.bool xs[k].null) ∧ Below w.heap.size w w')
                (first | assumption | exact keepC3 (by assumption) (by assumption) | exact ⟨hc0, hc1, hc2, pw_below_drewN HJ.out.2 1⟩)
                (first | (go_at_call 62; refine (HC.out _).mono ?_; rintro e w' ⟨rfl, hb⟩) | (go_at_call 63; refine (HT.out _ (And.right (And.right (And.right (by assumption))))).mono ?_; rintro e w' ⟨rfl, hb⟩))
              rename_i hH
              have HB := Aside0.mk hH.2.2.2
              clear hH hc0 hc1 hc2
              go_wp2
              go_roundw
              case rel => exact ⟨k + 1, by omega, by go_num, ⟨snocB HJ.out.1 (by rw [HE.out, decide_eq_false (by omega)]; rfl), HB.out⟩⟩
              case measure => simp [intOf]; omega
        · have hd : decide (k < xs.length) = false := decide_eq_false hlt
          go_wp2
          go_ret
          exact ⟨ret_bool ((allB_true fun j hj => HJ.out.1 j (by omega)).symm.trans HI'.out), HJ.out.2⟩
    · have g8 : (8 : Int) < xs.length := by omega
      have g1 : ¬ (xs.length : Int) < 1 := by omega
      go_enter Try.func83, Try.ntmps83
      go_wp2
      go_ret
      exact ⟨ret_bool (by rw [← HI.out]; unfold mayCols; rw [decide_eq_false h8, Bool.false_and, Bool.and_false]), Below.refl _ _⟩
  · have g1 : (xs.length : Int) < 1 := by omega
    go_enter Try.func83, Try.ntmps83
    go_wp2
    go_ret
    exact ⟨ret_bool (by rw [← HI.out]; unfold mayCols; rw [decide_eq_false h1, Bool.false_and]), Below.refl _ _⟩
end Go.Proofs.Ytmmiehckgkadgaa.O
