/- Own lemmas and walks (OD, OE, OF), without what the law does not need. Laid by a program of this session (prune.py). -/
import Derived.Test.YtmmiehckgkadgaaGreatPr5
namespace Go.Proofs.YtmmiehckgkadgaaGreat.O
set_option linter.unusedVariables false
set_option linter.unusedSimpArgs false
open Go.RowKit Go.Proofs.YtmmiehckgkadgaaGreatW.PrintWords
def isT (schema name : ByteArray) (t : Tab) : Bool := t.schema.toList == schema.toList && t.name.toList == name.toList
def ofS (schema : ByteArray) (t : Tab) : Bool := t.schema.toList == schema.toList
set_option maxHeartbeats 1000000 in
theorem where1.calls (x : Tab) {A3 A4 : Option Addr} {c3 c4 : Nat} (bo bn : Nat) (schema name : ByteArray) (w : World) (h1 : w.cell? ⟨bo, 0, none⟩ = some (.string schema)) (h2 : w.cell? ⟨bn, 0, none⟩ = some (.string name)) :
    Calls Tryz.prog 106 #[.agg #[.string x.schema, .string x.name, .string x.owner, .slice A3 x.cols.length c3, .slice A4 x.rules.length c4], .pointer (some ⟨bo, 0, none⟩), .pointer (some ⟨bn, 0, none⟩)] w fun e w' => e = .returned (.bool (isT schema name x)) ∧ Below w.heap.size w w' := by
  have hb1 : bo < w.heap.size := World.block_lt_of_cell? w _ h1
  have hb2 : bn < w.heap.size := World.block_lt_of_cell? w _ h2
  have ha : ∀ o, (w.alloc o).cell? ⟨bo, 0, none⟩ = some (.string schema) := fun o => pw_cell_below (below_alloc (Below.refl _ _) o) h1
  have hc : ∀ o, (w.alloc o).cell? ⟨bn, 0, none⟩ = some (.string name) := fun o => pw_cell_below (below_alloc (Below.refl _ _) o) h2
  have HB := Aside0.mk (fun o => ((Below.refl w.heap.size w).alloc (Nat.le_refl _) o).drew)
  unfold isT
  cases hp : (x.schema.toList == schema.toList) with
  | false =>
    go_enter Tryz.func106, Tryz.ntmps106
    go_wp2
    go_ret
    exact ⟨rfl, by first | exact HB.out _ | exact (Below.refl _ _).alloc (Nat.le_refl _) _⟩
  | true =>
    cases hq : (x.name.toList == name.toList) with
    | false =>
      go_enter Tryz.func106, Tryz.ntmps106
      go_wp2
      go_ret
      exact ⟨rfl, by first | exact HB.out _ | exact (Below.refl _ _).alloc (Nat.le_refl _) _⟩
    | true =>
      go_enter Tryz.func106, Tryz.ntmps106
      go_wp2
      go_ret
      exact ⟨rfl, by first | exact HB.out _ | exact (Below.refl _ _).alloc (Nat.le_refl _) _⟩
set_option maxHeartbeats 1000000 in
theorem whereI.calls (A0 : Option Addr) (c0 : Nat) (xs : List Tab) (bo bn : Nat) (schema name : ByteArray) (w : World) (hr : kTab.C w A0 xs.length xs) (hl : xs.length ≤ 140737488355328) (h1 : w.cell? ⟨bo, 0, none⟩ = some (.string schema)) (h2 : w.cell? ⟨bn, 0, none⟩ = some (.string name)) :
    Calls Tryz.prog 105 #[.slice A0 xs.length c0, .func (.func 106) #[] #[.pointer (some ⟨bo, 0, none⟩), .pointer (some ⟨bn, 0, none⟩)]] w fun e w' => e = .returned (.int .i64 (idx (isT schema name) xs)) ∧ Below w.heap.size w w' := by
  have HR := Aside0.mk hr
  have H1 := Aside0.mk h1
  have H2 := Aside0.mk h2
  generalize hi : idx (isT schema name) xs = r
  have HI := Aside0.mk hi
  clear hr h1 h2 hi
  go_enter Tryz.func105, Tryz.ntmps105
  go_wp2
  go_loopw [8] (fun i w' => ∃ k : Nat, k ≤ xs.length ∧ i = .int .i64 k ∧ Aside0 ((∀ j (hj : j < xs.length), j < k → isT schema name xs[j] = false) ∧ Below w.heap.size w w')) (fun i _ => xs.length - (intOf i).toNat)
  case atStart => exact ⟨0, Nat.zero_le _, rfl, ⟨fun _ _ h => absurd h (Nat.not_lt_zero _), Below.refl _ _⟩⟩
  case round =>
    obtain ⟨k, hk, rfl, HJ⟩ := hrel
    by_cases hlt : k < xs.length
    · obtain ⟨ad, A3, c3, A4, c4, e, hc0, hc1, hc2, hc3, hc4, hs1, hs2, hs3, hs4⟩ := cTab (Kd.C_below HR.out HJ.out.2) k hlt
      cases e
      have HC := Aside0.mk (where1.calls xs[k] (A3 := A3) (c3 := c3) (A4 := A4) (c4 := c4) bo bn schema name wr (pw_cell_below HJ.out.2 H1.out) (pw_cell_below HJ.out.2 H2.out))
      generalize hp : isT schema name xs[k] = p at HC
      have HP := Aside0.mk hp
      clear hp hs1 hs2 hs3 hs4
      go_wp2_with fail
      refine HC.out.mono ?_
      rintro e w1 ⟨rfl, hb1⟩
      have HB := Aside0.mk (HJ.out.2.trans (hb1.mono HJ.out.2.size))
      clear hb1
      cases p with
      | true =>
        have hr := idx_hit (p := isT schema name) hlt HP.out HJ.out.1
        have HR2 := Aside0.mk (hr.symm.trans HI.out)
        clear hr
        go_wp2
        go_ret
        exact ⟨ret_int HR2.out, HB.out⟩
      | false =>
        go_wp2
        go_roundw
        case rel => exact ⟨k + 1, by omega, by go_num, ⟨snoc_false (p := isT schema name) HJ.out.1 hlt HP.out, HB.out⟩⟩
        case measure => simp [intOf]; omega
    · have hd : decide (k < xs.length) = false := decide_eq_false hlt
      go_wp2
      go_ret
      exact ⟨ret_int ((idx_none (p := isT schema name) fun j hj => HJ.out.1 j hj (by omega)).symm.trans HI.out), HJ.out.2⟩
theorem cell_b1 (w : World) (a c : Obj) (v : Value) (t : TypeId) : (((w.alloc a).alloc (.cells #[v] t)).alloc c).cell? ⟨w.heap.size + 1, 0, none⟩ = some v := by
  rw [pw_cell_below (below_alloc (Below.refl _ _) c) (show ((w.alloc a).alloc (.cells #[v] t)).cell? ⟨w.heap.size + 1, 0, none⟩ = some v by have := World.cell?_alloc_new (w := w.alloc a) #[v] t 0; simp)]
theorem cell_b2 (w : World) (a c : Obj) (v : Value) (t : TypeId) : (((w.alloc a).alloc c).alloc (.cells #[v] t)).cell? ⟨w.heap.size + 2, 0, none⟩ = some v := by
  have := World.cell?_alloc_new (w := (w.alloc a).alloc c) #[v] t 0
  simpa using this
set_option maxHeartbeats 400000 in
theorem where.calls {As At : Option Addr} {cs ct ns : Nat} (ts : List Tab) (schema name : ByteArray) (w : World) (hr : kTab.C w At ts.length ts) (hl : ts.length ≤ 140737488355328) :
    Calls Tryz.prog 73 #[.agg #[.slice As ns cs, .slice At ts.length ct], .string schema, .string name] w fun e w' => e = .returned (.tuple #[.int .i64 (idx (isT schema name) ts), .bool (decide (0 ≤ idx (isT schema name) ts))]) ∧ Below w.heap.size w w' := by
  have hbx : ∀ a b c, Below w.heap.size w (((w.alloc a).alloc b).alloc c) := fun a b c => below_alloc (below_alloc (below_alloc (Below.refl _ _) _) _) _
  have HC := Aside0.mk (whereI.calls At ct ts (w.heap.size + 1) (w.heap.size + 2) schema name (((w.alloc (.cells #[.slice As ns cs, .slice At ts.length ct] 25)).alloc (.cells #[.string schema] 9)).alloc (.cells #[.string name] 9)) (Kd.C_below hr (hbx _ _ _)) hl (cell_b1 _ _ _ _ _) (cell_b2 _ _ _ _ _))
  have HB := Aside0.mk hbx
  clear hr hbx
  generalize idx (isT schema name) ts = r at HC ⊢
  go_enter Tryz.func73, Tryz.ntmps73
  go_wp2_with fail
  refine HC.out.mono ?_
  rintro e w1 ⟨rfl, hb1⟩
  have HB1 := Aside0.mk ((HB.out _ _ _).trans (hb1.mono (HB.out _ _ _).size))
  clear hb1
  go_wp2
  go_ret2
  exact ⟨rfl, HB1.out⟩
set_option maxHeartbeats 1000000 in
theorem within.calls {As At : Option Addr} {cs ct ns : Nat} (ts : List Tab) (schema : ByteArray) (w : World) (hr : kTab.C w At ts.length ts) (hl : ts.length ≤ 140737488355328) :
    Calls Tryz.prog 65 #[.agg #[.slice As ns cs, .slice At ts.length ct], .string schema] w fun e w' => e = .returned (.int .i64 (cnt (ofS schema) ts)) ∧ Below w.heap.size w w' := by
  have HR := Aside0.mk hr
  generalize hi : cnt (ofS schema) ts = r
  have HI := Aside0.mk hi
  clear hr hi
  go_enter Tryz.func65, Tryz.ntmps65
  go_wp2
  go_loopw [5, 11] (fun n i w' => ∃ k : Nat, k ≤ ts.length ∧ i = .int .i64 k ∧ n = .int .i64 (cnt (ofS schema) (ts.take k)) ∧ Aside0 (Below w.heap.size w w')) (fun _ i _ => ts.length - (intOf i).toNat)
  case atStart => exact ⟨0, Nat.zero_le _, rfl, rfl, ⟨by first | exact Below.refl _ _ | exact below_alloc (Below.refl _ _) _⟩⟩
  case round =>
    obtain ⟨k, hk, rfl, rfl, HJ⟩ := hrel
    have hle : cnt (ofS schema) (ts.take k) ≤ k := Nat.le_trans (cnt_le _ _) (List.length_take_le _ _)
    by_cases hlt : k < ts.length
    · obtain ⟨ad, A3, c3, A4, c4, e, hc0, hc1, hc2, hc3, hc4, hs1, hs2, hs3, hs4⟩ := cTab (Kd.C_below HR.out HJ.out) k hlt
      cases e
      have HN := Aside0.mk (cnt_snoc (ofS schema) ts k hlt)
      generalize hm : cnt (ofS schema) (ts.take k) = m at hle HN ⊢
      unfold ofS at HN
      clear hs1 hs2 hs3 hs4
      cases hp : (ts[k].schema.toList == schema.toList) with
      | true =>
        have HN' := Aside0.mk (HN.out.trans (by rw [hp, if_pos rfl]))
        clear HN
        go_wp2
        go_roundw
        case rel => exact ⟨k + 1, by omega, by go_num, by rw [show cnt (ofS schema) (ts.take (k + 1)) = m + 1 from HN'.out]; go_num, ⟨by first | exact HJ.out.alloc HJ.out.size _ | exact below_alloc HJ.out _⟩⟩
        case measure => simp [intOf]; omega
      | false =>
        have HN' := Aside0.mk (HN.out.trans (by rw [hp]))
        clear HN
        go_wp2
        go_roundw
        case rel => exact ⟨k + 1, by omega, by go_num, by rw [show cnt (ofS schema) (ts.take (k + 1)) = m from HN'.out], ⟨by first | exact HJ.out.alloc HJ.out.size _ | exact below_alloc HJ.out _⟩⟩
        case measure => simp [intOf]; omega
    · have hd : decide (k < ts.length) = false := decide_eq_false hlt
      have hf := Aside0.mk (show cnt (ofS schema) (ts.take k) = r by rw [List.take_of_length_le (by omega)]; exact HI.out)
      generalize hm : cnt (ofS schema) (ts.take k) = m at hf hle ⊢
      go_wp2
      go_ret
      exact ⟨ret_int (by rw [hf.out]), HJ.out⟩
end Go.Proofs.YtmmiehckgkadgaaGreat.O
namespace Go.Proofs.YtmmiehckgkadgaaGreat.O
set_option linter.unusedVariables false
set_option linter.unusedSimpArgs false
open Go.RowKit Go.Proofs.YtmmiehckgkadgaaGreatW.PrintWords
theorem cStr {w : World} {A : Option Addr} {n : Nat} {xs : List ByteArray} (h : Kd.string.C w A n xs) (j : Nat) (hj : j < xs.length) : ∃ ad, A = some ad ∧ w.cell? (ad.add j) = some (.string xs[j]) := by
  obtain ⟨ad, c, e, _, hK, hc0⟩ := Kd.C_get h (⟨#[]⟩ : ByteArray) (j : Int) (by omega) (by have := h.1; omega)
  obtain rfl : c = [.string (xs.getD (j : Int).toNat ⟨#[]⟩)] := hK
  refine ⟨ad, e, ?_⟩
  have := hc0 0 _ rfl
  rw [show (j : Int).toNat * Kd.string.sz + 0 = j from (Nat.mul_one _).trans (Int.toNat_natCast j)] at this
  rw [Int.toNat_natCast, List.getD_eq_getElem?_getD, List.getElem?_eq_getElem hj] at this
  exact this
set_option maxHeartbeats 1000000 in
theorem sIndex.calls {A0 : Option Addr} {c0 : Nat} (s : ByteArray) (xs : List ByteArray) (w : World) (hr : Kd.string.C w A0 xs.length xs) (hl : xs.length ≤ 140737488355328) :
    Calls Tryz.prog 80 #[.slice A0 xs.length c0, .string s] w fun e w' => e = .returned (.int .i64 (idx (fun y => s.toList == y.toList) xs)) ∧ Below w.heap.size w w' := by
  have HR := Aside0.mk hr
  generalize hi : idx (fun y => s.toList == y.toList) xs = r
  have HI := Aside0.mk hi
  clear hr hi
  go_enter Tryz.func80, Tryz.ntmps80
  go_wp2
  go_loop [8] (fun i => ∃ k : Nat, k ≤ xs.length ∧ i = .int .i64 k ∧ Aside0 (∀ j (hj : j < xs.length), j < k → ((fun y => s.toList == y.toList)) xs[j] = false)) (fun i => xs.length - (intOf i).toNat)
  case atStart => exact ⟨0, Nat.zero_le _, rfl, ⟨fun _ _ h => absurd h (Nat.not_lt_zero _)⟩⟩
  case round =>
    obtain ⟨k, hk, rfl, HJ⟩ := hrel
    by_cases hlt : k < xs.length
    · obtain ⟨ad, e, hc0⟩ := cStr HR.out k hlt
      cases e
      skip
      cases hp0 : (s.toList == xs[k].toList) with
      | false =>
        have HP := Aside0.mk (show ((fun y => s.toList == y.toList)) xs[k] = false by simp only [List.length_nil]; simp [hp0])
        go_wp2
        go_round
        case rel => exact ⟨k + 1, by omega, by go_num, ⟨snoc_false (p := (fun y => s.toList == y.toList)) HJ.out hlt HP.out⟩⟩
        case measure => simp [intOf]; omega
      | true =>
        have HP := Aside0.mk (show ((fun y => s.toList == y.toList)) xs[k] = true by simp only [List.length_nil]; simp [hp0])
        have HR2 := Aside0.mk ((idx_hit (p := (fun y => s.toList == y.toList)) hlt HP.out HJ.out).symm.trans HI.out)
        go_wp2
        go_ret
        exact ⟨ret_int HR2.out, Below.refl _ _⟩
    · have hd : decide (k < xs.length) = false := decide_eq_false hlt
      go_wp2
      go_ret
      exact ⟨ret_int ((idx_none (p := (fun y => s.toList == y.toList)) fun j hj => HJ.out j hj (by omega)).symm.trans HI.out), Below.refl _ _⟩
def mayCol (c : Col) : Bool := nameB c.name && (c.kind == 2 || c.kind == 3)
set_option maxHeartbeats 1000000 in
theorem mayColumn.calls (x : Col) (w : World) : Calls Tryz.prog 48 #[.agg #[.string x.name, .int .i64 x.kind, .bool x.null]] w fun e w' => e = .returned (.bool (mayCol x)) ∧ Below w.heap.size w w' := by
  unfold mayCol
  have HN := Aside0.mk (fun W => Name.calls x.name W)
  generalize nameB x.name = b at HN ⊢
  cases b with
  | false =>
    go_enter Tryz.func48, Tryz.ntmps48
    go_wp2_with fail
    refine (HN.out _).mono ?_
    rintro e w' ⟨rfl, rfl⟩
    go_wp2
    go_ret
    exact ⟨rfl, below_alloc (Below.refl _ _) _⟩
  | true =>
    cases h2 : (x.kind == 2) with
    | true =>
      go_enter Tryz.func48, Tryz.ntmps48
      go_wp2_with fail
      refine (HN.out _).mono ?_
      rintro e w' ⟨rfl, rfl⟩
      go_wp2
      go_ret
      exact ⟨rfl, below_alloc (Below.refl _ _) _⟩
    | false =>
      cases h3 : (x.kind == 3) with
      | true =>
        go_enter Tryz.func48, Tryz.ntmps48
        go_wp2_with fail
        refine (HN.out _).mono ?_
        rintro e w' ⟨rfl, rfl⟩
        go_wp2
        go_ret
        exact ⟨rfl, below_alloc (Below.refl _ _) _⟩
      | false =>
        go_enter Tryz.func48, Tryz.ntmps48
        go_wp2_with fail
        refine (HN.out _).mono ?_
        rintro e w' ⟨rfl, rfl⟩
        go_wp2
        go_ret
        exact ⟨rfl, below_alloc (Below.refl _ _) _⟩
end Go.Proofs.YtmmiehckgkadgaaGreat.O
namespace Go.Proofs.YtmmiehckgkadgaaGreat.O
set_option linter.unusedVariables false
set_option linter.unusedSimpArgs false
open Go.RowKit Go.Proofs.YtmmiehckgkadgaaGreatW.PrintWords
def allB (n : Nat) (f : Nat → Bool) : Bool := decide (∀ k, k < n → f k = true)
theorem allB_false {n : Nat} {f : Nat → Bool} {k : Nat} (hk : k < n) (h : f k = false) : allB n f = false := decide_eq_false fun hh => by rw [hh k hk] at h; cases h
theorem allB_true {n : Nat} {f : Nat → Bool} (h : ∀ k, k < n → f k = true) : allB n f = true := decide_eq_true h
theorem allB_at {n : Nat} {f : Nat → Bool} (h : allB n f = true) {k : Nat} (hk : k < n) : f k = true := of_decide_eq_true h k hk
theorem snocB {f : Nat → Bool} {k : Nat} (h : ∀ j, j < k → f j = true) (hk : f k = true) : ∀ j, j < k + 1 → f j = true := fun j hj => by
  rcases Nat.lt_or_ge j k with h' | h'
  · exact h j h'
  · obtain rfl : j = k := by omega
    exact hk
theorem getD_at {α : Type} {l : List α} {k : Nat} (h : k < l.length) (z : α) : l.getD k z = l[k] := by rw [List.getD_eq_getElem?_getD, List.getElem?_eq_getElem h]; rfl
def colAt (l : List Col) (i : Nat) : Bool := mayCol (l.getD i zCol) && decide (idx (fun x => x.name.toList == (l.getD i zCol).name.toList) l = (i : Int))
def mayCols (l : List Col) : Bool := decide (1 ≤ l.length) && (decide (l.length ≤ 8) && allB l.length (colAt l))
theorem colAt_at {l : List Col} {k : Nat} (h : k < l.length) : colAt l k = (mayCol l[k] && decide (idx (fun x => x.name.toList == l[k].name.toList) l = (k : Int))) := by unfold colAt; rw [getD_at h]
set_option maxHeartbeats 1000000 in
theorem mayColumns.calls (A0 : Option Addr) (c0 : Nat) (xs : List Col) (w : World) (hr : kCol.C w A0 xs.length xs) (hl : xs.length ≤ 140737488355328) :
    Calls Tryz.prog 76 #[.slice A0 xs.length c0] w fun e w' => e = .returned (.bool (mayCols xs)) ∧ Below w.heap.size w w' := by
  have HR := Aside0.mk hr
  generalize hi : mayCols xs = r
  have HI := Aside0.mk hi
  clear hr hi
  by_cases h1 : 1 ≤ xs.length
  · by_cases h8 : xs.length ≤ 8
    · have HI' := Aside0.mk (show allB xs.length (colAt xs) = r by have := HI.out; unfold mayCols at this; rw [decide_eq_true h1, decide_eq_true h8, Bool.true_and, Bool.true_and] at this; exact this)
      have g1 : ¬ (xs.length : Int) < 1 := by omega
      have g8 : ¬ (8 : Int) < xs.length := by omega
      go_enter Tryz.func76, Tryz.ntmps76
      go_wp2
      go_loopw [15] (fun i w' => ∃ k : Nat, k ≤ xs.length ∧ i = .int .i64 k ∧ Aside0 ((∀ j, j < k → colAt xs j = true) ∧ Below w.heap.size w w')) (fun i _ => xs.length - (intOf i).toNat)
      case atStart => exact ⟨0, Nat.zero_le _, rfl, ⟨fun _ h => absurd h (Nat.not_lt_zero _), Below.refl _ _⟩⟩
      case round =>
        obtain ⟨k, hk, rfl, HJ⟩ := hrel
        by_cases hlt : k < xs.length
        · obtain ⟨ad, e, hc0, hc1, hc2⟩ := cCol (Kd.C_below HR.out HJ.out.2) k hlt
          cases e
          have HC := Aside0.mk (fun W => mayColumn.calls xs[k] W)
          have HE := Aside0.mk (colAt_at hlt)
          generalize hp : mayCol xs[k] = p at HC HE
          have HP := Aside0.mk hp
          clear hp
          go_wp2_with fail
          refine (HC.out _).mono ?_
          rintro e w1 ⟨rfl, hb1⟩
          have hx : w1.cell? ⟨wr.heap.size, 0, none⟩ = some (.string xs[k].name) := pw_cell_below hb1 (show (wr.alloc _).cell? ⟨wr.heap.size, 0, none⟩ = some (.string xs[k].name) by simp)
          have HB := Aside0.mk (((below_alloc HJ.out.2 _).trans (hb1.mono (below_alloc HJ.out.2 _).size)))
          clear hb1
          cases p with
          | false =>
            go_wp2
            go_ret
            exact ⟨ret_bool ((allB_false hlt (by rw [HE.out]; rfl)).symm.trans HI'.out), HB.out⟩
          | true =>
            have HD := Aside0.mk (byNameCol.calls (some ad) c0 xs xs[k].name w1 (Kd.C_below HR.out HB.out) hl)
            generalize idx (fun x : Col => x.name.toList == xs[k].name.toList) xs = m at HD HE
            go_wp2_with fail
            refine HD.out.mono ?_
            rintro e w2 ⟨rfl, hb2⟩
            have HB2 := Aside0.mk (HB.out.trans (hb2.mono HB.out.size))
            clear hb2
            cases hm : (m != (k : Int)) with
            | true =>
              go_wp2
              go_ret
              exact ⟨ret_bool ((allB_false hlt (by rw [HE.out, decide_eq_false (by simpa using hm)]; rfl)).symm.trans HI'.out), HB2.out⟩
            | false =>
              go_wp2
              go_roundw
              case rel => exact ⟨k + 1, by omega, by go_num, ⟨snocB HJ.out.1 (by rw [HE.out, decide_eq_true (by simpa using hm)]; rfl), HB2.out⟩⟩
              case measure => simp [intOf]; omega
        · have hd : decide (k < xs.length) = false := decide_eq_false hlt
          go_wp2
          go_ret
          exact ⟨ret_bool ((allB_true fun j hj => HJ.out.1 j (by omega)).symm.trans HI'.out), HJ.out.2⟩
    · have g8 : (8 : Int) < xs.length := by omega
      have g1 : ¬ (xs.length : Int) < 1 := by omega
      go_enter Tryz.func76, Tryz.ntmps76
      go_wp2
      go_ret
      exact ⟨ret_bool (by rw [← HI.out]; unfold mayCols; rw [decide_eq_false h8, Bool.false_and, Bool.and_false]), Below.refl _ _⟩
  · have g1 : (xs.length : Int) < 1 := by omega
    go_enter Tryz.func76, Tryz.ntmps76
    go_wp2
    go_ret
    exact ⟨ret_bool (by rw [← HI.out]; unfold mayCols; rw [decide_eq_false h1, Bool.false_and]), Below.refl _ _⟩
end Go.Proofs.YtmmiehckgkadgaaGreat.O
