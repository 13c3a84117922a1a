/- The document's functions that look things up; slices.Index at texts. Printed by a program of this session (gen_obj2.py). -/
import Derived.Test.YtmmiehckgkadgaaOD
namespace Go.Proofs.Ytmmiehckgkadgaa.O
set_option linter.unusedVariables false
set_option linter.unusedSimpArgs false
open Go.RowKit Go.Proofs.YtmmiehckgkadgaaW.PrintWords

theorem any_hit {α : Type} {p : α → Bool} {l : List α} {k : Nat} (hk : k < l.length) (hp : p l[k] = true) : l.any p = true := List.any_eq_true.2 ⟨_, List.getElem_mem hk, hp⟩
theorem any_none {α : Type} {p : α → Bool} {l : List α} (hn : ∀ j (hj : j < l.length), p l[j] = false) : l.any p = false := by
  cases h : l.any p with
  | false => rfl
  | true => obtain ⟨x, hx, hp⟩ := List.any_eq_true.1 h; obtain ⟨j, hj, rfl⟩ := List.getElem_of_mem hx; rw [hn j hj] at hp; cases hp
theorem cStr {w : World} {A : Option Addr} {n : Nat} {xs : List ByteArray} (h : Kd.string.C w A n xs) (j : Nat) (hj : j < xs.length) : ∃ ad, A = some ad ∧ w.cell? (ad.add j) = some (.string xs[j]) := by
  obtain ⟨ad, c, e, _, hK, hc0⟩ := Kd.C_get h (⟨#[]⟩ : ByteArray) (j : Int) (by omega) (by have := h.1; omega)
  obtain rfl : c = [.string (xs.getD (j : Int).toNat ⟨#[]⟩)] := hK
  refine ⟨ad, e, ?_⟩
  have := hc0 0 _ rfl
  rw [show (j : Int).toNat * Kd.string.sz + 0 = j from (Nat.mul_one _).trans (Int.toNat_natCast j)] at this
  rw [Int.toNat_natCast, List.getD_eq_getElem?_getD, List.getElem?_eq_getElem hj] at this
  exact this

set_option maxHeartbeats 1000000 in
theorem sIndex.calls {A0 : Option Addr} {c0 : Nat} (s : ByteArray) (xs : List ByteArray) (w : World) (hr : Kd.string.C w A0 xs.length xs) (hl : xs.length ≤ 140737488355328) :
    Calls Try.prog 106 #[.slice A0 xs.length c0, .string s] w fun e w' => e = .returned (.int .i64 (idx (fun y => s.toList == y.toList) xs)) ∧ Below w.heap.size w w' := by
  have HR := Aside0.mk hr
  generalize hi : idx (fun y => s.toList == y.toList) xs = r
  have HI := Aside0.mk hi
  clear hr hi
  go_enter Try.func106, Try.ntmps106
  go_wp2
  go_loop [8] (fun i => ∃ k : Nat, k ≤ xs.length ∧ i = .int .i64 k ∧ Aside0 (∀ j (hj : j < xs.length), j < k → ((fun y => s.toList == y.toList)) xs[j] = false)) (fun i => xs.length - (intOf i).toNat)
  case atStart => exact ⟨0, Nat.zero_le _, rfl, ⟨fun _ _ h => absurd h (Nat.not_lt_zero _)⟩⟩
  case round =>
    obtain ⟨k, hk, rfl, HJ⟩ := hrel
    by_cases hlt : k < xs.length
    · obtain ⟨ad, e, hc0⟩ := cStr HR.out k hlt
      cases e
      skip
      cases hp0 : (s.toList == xs[k].toList) with
      | false =>
        have HP := Aside0.mk (show ((fun y => s.toList == y.toList)) xs[k] = false by simp only [List.length_nil]; simp [hp0])
        go_wp2
        go_round
        case rel => exact ⟨k + 1, by omega, by go_num, ⟨snoc_false (p := (fun y => s.toList == y.toList)) HJ.out hlt HP.out⟩⟩
        case measure => simp [intOf]; omega
      | true =>
        have HP := Aside0.mk (show ((fun y => s.toList == y.toList)) xs[k] = true by simp only [List.length_nil]; simp [hp0])
        have HR2 := Aside0.mk ((idx_hit (p := (fun y => s.toList == y.toList)) hlt HP.out HJ.out).symm.trans HI.out)
        go_wp2
        go_ret
        exact ⟨ret_int HR2.out, Below.refl _ _⟩
    · have hd : decide (k < xs.length) = false := decide_eq_false hlt
      go_wp2
      go_ret
      exact ⟨ret_int ((idx_none (p := (fun y => s.toList == y.toList)) fun j hj => HJ.out j hj (by omega)).symm.trans HI.out), Below.refl _ _⟩

set_option maxHeartbeats 1000000 in
theorem rIn.calls {A0 : Option Addr} {c0 : Nat} (s : ByteArray) (xs : List ByteArray) (w : World) (hr : Kd.string.C w A0 xs.length xs) (hl : xs.length ≤ 140737488355328) :
    Calls Try.prog 69 #[.slice A0 xs.length c0, .string s] w fun e w' => e = .returned (.bool (xs.any (fun y => y.toList == s.toList))) ∧ Below w.heap.size w w' := by
  have HR := Aside0.mk hr
  generalize hi : xs.any (fun y => y.toList == s.toList) = r
  have HI := Aside0.mk hi
  clear hr hi
  go_enter Try.func69, Try.ntmps69
  go_wp2
  go_loop [5] (fun i => ∃ k : Nat, k ≤ xs.length ∧ i = .int .i64 k ∧ Aside0 (∀ j (hj : j < xs.length), j < k → ((fun y => y.toList == s.toList)) xs[j] = false)) (fun i => xs.length - (intOf i).toNat)
  case atStart => exact ⟨0, Nat.zero_le _, rfl, ⟨fun _ _ h => absurd h (Nat.not_lt_zero _)⟩⟩
  case round =>
    obtain ⟨k, hk, rfl, HJ⟩ := hrel
    by_cases hlt : k < xs.length
    · obtain ⟨ad, e, hc0⟩ := cStr HR.out k hlt
      cases e
      skip
      cases hp0 : (xs[k].toList == s.toList) with
      | false =>
        have HP := Aside0.mk (show ((fun y => y.toList == s.toList)) xs[k] = false by simp only [List.length_nil]; simp [hp0])
        go_wp2
        go_round
        case rel => exact ⟨k + 1, by omega, by go_num, ⟨snoc_false (p := (fun y => y.toList == s.toList)) HJ.out hlt HP.out⟩⟩
        case measure => simp [intOf]; omega
      | true =>
        have HP := Aside0.mk (show ((fun y => y.toList == s.toList)) xs[k] = true by simp only [List.length_nil]; simp [hp0])
        have HR2 := Aside0.mk ((any_hit (p := (fun y => y.toList == s.toList)) hlt HP.out).symm.trans HI.out)
        go_wp2
        go_ret
        exact ⟨ret_bool HR2.out, Below.refl _ _⟩
    · have hd : decide (k < xs.length) = false := decide_eq_false hlt
      go_wp2
      go_ret
      exact ⟨ret_bool ((any_none (p := (fun y => y.toList == s.toList)) fun j hj => HJ.out j hj (by omega)).symm.trans HI.out), Below.refl _ _⟩

set_option maxHeartbeats 1000000 in
theorem rColumn.calls {A0 : Option Addr} {c0 : Nat} (name : ByteArray) (xs : List Col) (w : World) (hr : kCol.C w A0 xs.length xs) (hl : xs.length ≤ 140737488355328) :
    Calls Try.prog 63 #[.slice A0 xs.length c0, .string name] w fun e w' => e = .returned (.int .i64 (idx (fun x => x.name.toList == name.toList) xs)) ∧ Below w.heap.size w w' := by
  have HR := Aside0.mk hr
  generalize hi : idx (fun x => x.name.toList == name.toList) xs = r
  have HI := Aside0.mk hi
  clear hr hi
  go_enter Try.func63, Try.ntmps63
  go_wp2
  go_loop [5] (fun i => ∃ k : Nat, k ≤ xs.length ∧ i = .int .i64 k ∧ Aside0 (∀ j (hj : j < xs.length), j < k → ((fun x => x.name.toList == name.toList)) xs[j] = false)) (fun i => xs.length - (intOf i).toNat)
  case atStart => exact ⟨0, Nat.zero_le _, rfl, ⟨fun _ _ h => absurd h (Nat.not_lt_zero _)⟩⟩
  case round =>
    obtain ⟨k, hk, rfl, HJ⟩ := hrel
    by_cases hlt : k < xs.length
    · obtain ⟨ad, e, hc0, hc1, hc2⟩ := cCol HR.out k hlt
      cases e
      skip
      cases hp0 : (xs[k].name.toList == name.toList) with
      | false =>
        have HP := Aside0.mk (show ((fun x => x.name.toList == name.toList)) xs[k] = false by simp only [List.length_nil]; simp [hp0])
        go_wp2
        go_round
        case rel => exact ⟨k + 1, by omega, by go_num, ⟨snoc_false (p := (fun x => x.name.toList == name.toList)) HJ.out hlt HP.out⟩⟩
        case measure => simp [intOf]; omega
      | true =>
        have HP := Aside0.mk (show ((fun x => x.name.toList == name.toList)) xs[k] = true by simp only [List.length_nil]; simp [hp0])
        have HR2 := Aside0.mk ((idx_hit (p := (fun x => x.name.toList == name.toList)) hlt HP.out HJ.out).symm.trans HI.out)
        go_wp2
        go_ret
        exact ⟨ret_int HR2.out, Below.refl _ _⟩
    · have hd : decide (k < xs.length) = false := decide_eq_false hlt
      go_wp2
      go_ret
      exact ⟨ret_int ((idx_none (p := (fun x => x.name.toList == name.toList)) fun j hj => HJ.out j hj (by omega)).symm.trans HI.out), Below.refl _ _⟩

set_option maxHeartbeats 1000000 in
theorem rRule.calls {A0 : Option Addr} {c0 : Nat} (name : ByteArray) (xs : List Rul) (w : World) (hr : kRul.C w A0 xs.length xs) (hl : xs.length ≤ 140737488355328) :
    Calls Try.prog 120 #[.slice A0 xs.length c0, .string name] w fun e w' => e = .returned (.int .i64 (idx (fun x => x.name.toList == name.toList) xs)) ∧ Below w.heap.size w w' := by
  have HR := Aside0.mk hr
  generalize hi : idx (fun x => x.name.toList == name.toList) xs = r
  have HI := Aside0.mk hi
  clear hr hi
  go_enter Try.func120, Try.ntmps120
  go_wp2
  go_loop [5] (fun i => ∃ k : Nat, k ≤ xs.length ∧ i = .int .i64 k ∧ Aside0 (∀ j (hj : j < xs.length), j < k → ((fun x => x.name.toList == name.toList)) xs[j] = false)) (fun i => xs.length - (intOf i).toNat)
  case atStart => exact ⟨0, Nat.zero_le _, rfl, ⟨fun _ _ h => absurd h (Nat.not_lt_zero _)⟩⟩
  case round =>
    obtain ⟨k, hk, rfl, HJ⟩ := hrel
    by_cases hlt : k < xs.length
    · obtain ⟨ad, A2, c2, e, hc0, hc1, hc2, hc3, hc4, hc5, hc6, hc7, hsl2, hsc2⟩ := cRul HR.out k hlt
      cases e
      clear hsl2 hsc2
      cases hp0 : (xs[k].name.toList == name.toList) with
      | false =>
        have HP := Aside0.mk (show ((fun x => x.name.toList == name.toList)) xs[k] = false by simp only [List.length_nil]; simp [hp0])
        go_wp2
        go_round
        case rel => exact ⟨k + 1, by omega, by go_num, ⟨snoc_false (p := (fun x => x.name.toList == name.toList)) HJ.out hlt HP.out⟩⟩
        case measure => simp [intOf]; omega
      | true =>
        have HP := Aside0.mk (show ((fun x => x.name.toList == name.toList)) xs[k] = true by simp only [List.length_nil]; simp [hp0])
        have HR2 := Aside0.mk ((idx_hit (p := (fun x => x.name.toList == name.toList)) hlt HP.out HJ.out).symm.trans HI.out)
        go_wp2
        go_ret
        exact ⟨ret_int HR2.out, Below.refl _ _⟩
    · have hd : decide (k < xs.length) = false := decide_eq_false hlt
      go_wp2
      go_ret
      exact ⟨ret_int ((idx_none (p := (fun x => x.name.toList == name.toList)) fun j hj => HJ.out j hj (by omega)).symm.trans HI.out), Below.refl _ _⟩

set_option maxHeartbeats 1000000 in
theorem rSchema.calls {A0 At : Option Addr} {c0 nt ct : Nat} (name : ByteArray) (xs : List Sch) (w : World) (hr : kSch.C w A0 xs.length xs) (hl : xs.length ≤ 140737488355328) :
    Calls Try.prog 76 #[.agg #[.slice A0 xs.length c0, .slice At nt ct], .string name] w fun e w' => e = .returned (.int .i64 (idx (fun x => x.name.toList == name.toList) xs)) ∧ Below w.heap.size w w' := by
  have HR := Aside0.mk (Kd.C_below hr (below_alloc (Below.refl w.heap.size w) (.cells #[.slice A0 xs.length c0, .slice At nt ct] 26)))
  generalize hi : idx (fun x => x.name.toList == name.toList) xs = r
  have HI := Aside0.mk hi
  clear hr hi
  go_enter Try.func76, Try.ntmps76
  go_wp2
  go_loop [5] (fun i => ∃ k : Nat, k ≤ xs.length ∧ i = .int .i64 k ∧ Aside0 (∀ j (hj : j < xs.length), j < k → ((fun x => x.name.toList == name.toList)) xs[j] = false)) (fun i => xs.length - (intOf i).toNat)
  case atStart => exact ⟨0, Nat.zero_le _, rfl, ⟨fun _ _ h => absurd h (Nat.not_lt_zero _)⟩⟩
  case round =>
    obtain ⟨k, hk, rfl, HJ⟩ := hrel
    by_cases hlt : k < xs.length
    · obtain ⟨ad, e, hc0, hc1⟩ := cSch HR.out k hlt
      cases e
      skip
      cases hp0 : (xs[k].name.toList == name.toList) with
      | false =>
        have HP := Aside0.mk (show ((fun x => x.name.toList == name.toList)) xs[k] = false by simp only [List.length_nil]; simp [hp0])
        go_wp2
        go_round
        case rel => exact ⟨k + 1, by omega, by go_num, ⟨snoc_false (p := (fun x => x.name.toList == name.toList)) HJ.out hlt HP.out⟩⟩
        case measure => simp [intOf]; omega
      | true =>
        have HP := Aside0.mk (show ((fun x => x.name.toList == name.toList)) xs[k] = true by simp only [List.length_nil]; simp [hp0])
        have HR2 := Aside0.mk ((idx_hit (p := (fun x => x.name.toList == name.toList)) hlt HP.out HJ.out).symm.trans HI.out)
        go_wp2
        go_ret
        exact ⟨ret_int HR2.out, below_alloc (Below.refl _ _) _⟩
    · have hd : decide (k < xs.length) = false := decide_eq_false hlt
      go_wp2
      go_ret
      exact ⟨ret_int ((idx_none (p := (fun x => x.name.toList == name.toList)) fun j hj => HJ.out j hj (by omega)).symm.trans HI.out), below_alloc (Below.refl _ _) _⟩

set_option maxHeartbeats 1000000 in
theorem rTable.calls {As A0 : Option Addr} {ns cs c0 : Nat} (schema name : ByteArray) (xs : List Tab) (w : World) (hr : kTab.C w A0 xs.length xs) (hl : xs.length ≤ 140737488355328) :
    Calls Try.prog 53 #[.agg #[.slice As ns cs, .slice A0 xs.length c0], .string schema, .string name] w fun e w' => e = .returned (.int .i64 (idx (isT schema name) xs)) ∧ Below w.heap.size w w' := by
  have HR := Aside0.mk (Kd.C_below hr (below_alloc (Below.refl w.heap.size w) (.cells #[.slice As ns cs, .slice A0 xs.length c0] 26)))
  generalize hi : idx (isT schema name) xs = r
  have HI := Aside0.mk hi
  clear hr hi
  go_enter Try.func53, Try.ntmps53
  go_wp2
  go_loop [7] (fun i => ∃ k : Nat, k ≤ xs.length ∧ i = .int .i64 k ∧ Aside0 (∀ j (hj : j < xs.length), j < k → ((isT schema name)) xs[j] = false)) (fun i => xs.length - (intOf i).toNat)
  case atStart => exact ⟨0, Nat.zero_le _, rfl, ⟨fun _ _ h => absurd h (Nat.not_lt_zero _)⟩⟩
  case round =>
    obtain ⟨k, hk, rfl, HJ⟩ := hrel
    by_cases hlt : k < xs.length
    · obtain ⟨ad, A3, c3, A4, c4, e, hc0, hc1, hc2, hc3, hc4, hsl3, hsc3, hsl4, hsc4⟩ := cTab HR.out k hlt
      cases e
      clear hsl3 hsc3 hsl4 hsc4
      cases hp0 : (xs[k].schema.toList == schema.toList) with
      | false =>
        have HP := Aside0.mk (show ((isT schema name)) xs[k] = false by simp only [isT]; simp [hp0])
        go_wp2
        go_round
        case rel => exact ⟨k + 1, by omega, by go_num, ⟨snoc_false (p := (isT schema name)) HJ.out hlt HP.out⟩⟩
        case measure => simp [intOf]; omega
      | true =>
        cases hp1 : (xs[k].name.toList == name.toList) with
        | false =>
          have HP := Aside0.mk (show ((isT schema name)) xs[k] = false by simp only [isT]; simp [hp0, hp1])
          go_wp2
          go_round
          case rel => exact ⟨k + 1, by omega, by go_num, ⟨snoc_false (p := (isT schema name)) HJ.out hlt HP.out⟩⟩
          case measure => simp [intOf]; omega
        | true =>
          have HP := Aside0.mk (show ((isT schema name)) xs[k] = true by simp only [isT]; simp [hp0, hp1])
          have HR2 := Aside0.mk ((idx_hit (p := (isT schema name)) hlt HP.out HJ.out).symm.trans HI.out)
          go_wp2
          go_ret
          exact ⟨ret_int HR2.out, below_alloc (Below.refl _ _) _⟩
    · have hd : decide (k < xs.length) = false := decide_eq_false hlt
      go_wp2
      go_ret
      exact ⟨ret_int ((idx_none (p := (isT schema name)) fun j hj => HJ.out j hj (by omega)).symm.trans HI.out), below_alloc (Below.refl _ _) _⟩

set_option maxHeartbeats 1000000 in
theorem rTables.calls {As A0 : Option Addr} {ns cs c0 : Nat} (schema : ByteArray) (xs : List Tab) (w : World) (hr : kTab.C w A0 xs.length xs) (hl : xs.length ≤ 140737488355328) :
    Calls Try.prog 79 #[.agg #[.slice As ns cs, .slice A0 xs.length c0], .string schema] w fun e w' => e = .returned (.int .i64 (cnt (ofS schema) xs)) ∧ Below w.heap.size w w' := by
  have HR := Aside0.mk (Kd.C_below hr (below_alloc (Below.refl w.heap.size w) (.cells #[.slice As ns cs, .slice A0 xs.length c0] 26)))
  generalize hi : cnt (ofS schema) xs = r
  have HI := Aside0.mk hi
  clear hr hi
  go_enter Try.func79, Try.ntmps79
  go_wp2
  go_loop [5, 6] (fun n i => ∃ k : Nat, k ≤ xs.length ∧ i = .int .i64 k ∧ n = .int .i64 (cnt (ofS schema) (xs.take k))) (fun _ i => xs.length - (intOf i).toNat)
  case atStart => exact ⟨0, Nat.zero_le _, rfl, rfl⟩
  case round =>
    obtain ⟨k, hk, rfl, rfl⟩ := hrel
    have hle : cnt (ofS schema) (xs.take k) ≤ k := Nat.le_trans (cnt_le _ _) (List.length_take_le _ _)
    by_cases hlt : k < xs.length
    · obtain ⟨ad, A3, c3, A4, c4, e, hc0, hc1, hc2, hc3, hc4, hsl3, hsc3, hsl4, hsc4⟩ := cTab HR.out k hlt
      cases e
      clear hsl3 hsc3 hsl4 hsc4
      have HN := Aside0.mk (cnt_snoc (ofS schema) xs k hlt)
      generalize hm : cnt (ofS schema) (xs.take k) = m at hle HN ⊢
      unfold ofS at HN
      cases hp : (xs[k].schema.toList == schema.toList) with
      | true =>
        have HN' := Aside0.mk (HN.out.trans (by rw [hp, if_pos rfl]))
        clear HN
        go_wp2
        go_round
        case rel => exact ⟨k + 1, by omega, by go_num, by rw [show cnt (ofS schema) (xs.take (k + 1)) = m + 1 from HN'.out]; go_num⟩
        case measure => simp [intOf]; omega
      | false =>
        have HN' := Aside0.mk (HN.out.trans (by rw [hp]))
        clear HN
        go_wp2
        go_round
        case rel => exact ⟨k + 1, by omega, by go_num, by rw [show cnt (ofS schema) (xs.take (k + 1)) = m from HN'.out]⟩
        case measure => simp [intOf]; omega
    · have hd : decide (k < xs.length) = false := decide_eq_false hlt
      have hf := Aside0.mk (show cnt (ofS schema) (xs.take k) = r by rw [List.take_of_length_le (by omega)]; exact HI.out)
      generalize hm : cnt (ofS schema) (xs.take k) = m at hf hle ⊢
      go_wp2
      go_ret
      exact ⟨ret_int (by rw [hf.out]), below_alloc (Below.refl _ _) _⟩

def mayCol (c : Col) : Bool := nameB c.name && (c.kind == 2 || c.kind == 3)
set_option maxHeartbeats 1000000 in
theorem mayColumn.calls (x : Col) (w : World) : Calls Try.prog 59 #[.agg #[.string x.name, .int .i64 x.kind, .bool x.null]] w fun e w' => e = .returned (.bool (mayCol x)) ∧ Below w.heap.size w w' := by
  unfold mayCol
  have HN := Aside0.mk (fun W => Name.calls x.name W)
  generalize nameB x.name = b at HN ⊢
  cases b with
  | false =>
    go_enter Try.func59, Try.ntmps59
    go_wp2_with fail
    refine (HN.out _).mono ?_
    rintro e w' ⟨rfl, rfl⟩
    go_wp2
    go_ret
    exact ⟨rfl, below_alloc (Below.refl _ _) _⟩
  | true =>
    cases h2 : (x.kind == 2) with
    | true =>
      go_enter Try.func59, Try.ntmps59
      go_wp2_with fail
      refine (HN.out _).mono ?_
      rintro e w' ⟨rfl, rfl⟩
      go_wp2
      go_ret
      exact ⟨rfl, below_alloc (Below.refl _ _) _⟩
    | false =>
      cases h3 : (x.kind == 3) with
      | true =>
        go_enter Try.func59, Try.ntmps59
        go_wp2_with fail
        refine (HN.out _).mono ?_
        rintro e w' ⟨rfl, rfl⟩
        go_wp2
        go_ret
        exact ⟨rfl, below_alloc (Below.refl _ _) _⟩
      | false =>
        go_enter Try.func59, Try.ntmps59
        go_wp2_with fail
        refine (HN.out _).mono ?_
        rintro e w' ⟨rfl, rfl⟩
        go_wp2
        go_ret
        exact ⟨rfl, below_alloc (Below.refl _ _) _⟩

set_option maxHeartbeats 1000000 in
theorem rOne.calls (x : Col) (w : World) : Calls Try.prog 62 #[.agg #[.string x.name, .int .i64 x.kind, .bool x.null]] w fun e w' => e = .returned (.bool (mayCol x)) ∧ Below w.heap.size w w' := by
  unfold mayCol
  have HN := Aside0.mk (fun W => rName.calls x.name W)
  generalize nameB x.name = b at HN ⊢
  cases b with
  | false =>
    go_enter Try.func62, Try.ntmps62
    go_wp2_with fail
    refine (HN.out _).mono ?_
    rintro e w' ⟨rfl, rfl⟩
    go_wp2
    go_ret
    exact ⟨rfl, below_alloc (Below.refl _ _) _⟩
  | true =>
    cases h2 : (x.kind == 2) with
    | true =>
      go_enter Try.func62, Try.ntmps62
      go_wp2_with fail
      refine (HN.out _).mono ?_
      rintro e w' ⟨rfl, rfl⟩
      go_wp2
      go_ret
      exact ⟨rfl, below_alloc (Below.refl _ _) _⟩
    | false =>
      cases h3 : (x.kind == 3) with
      | true =>
        go_enter Try.func62, Try.ntmps62
        go_wp2_with fail
        refine (HN.out _).mono ?_
        rintro e w' ⟨rfl, rfl⟩
        go_wp2
        go_ret
        exact ⟨rfl, below_alloc (Below.refl _ _) _⟩
      | false =>
        go_enter Try.func62, Try.ntmps62
        go_wp2_with fail
        refine (HN.out _).mono ?_
        rintro e w' ⟨rfl, rfl⟩
        go_wp2
        go_ret
        exact ⟨rfl, below_alloc (Below.refl _ _) _⟩

end Go.Proofs.Ytmmiehckgkadgaa.O
