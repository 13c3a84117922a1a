/- Columns that may be: the program's and the document's. -/
import Derived.Test.YtmmiehckgkadgaaOE
namespace Go.Proofs.Ytmmiehckgkadgaa.O
set_option linter.unusedVariables false
set_option linter.unusedSimpArgs false
open Go.RowKit Go.Proofs.YtmmiehckgkadgaaW.PrintWords

/-- all of the first n -/
def allB (n : Nat) (f : Nat → Bool) : Bool := decide (∀ k, k < n → f k = true)
theorem allB_false {n : Nat} {f : Nat → Bool} {k : Nat} (hk : k < n) (h : f k = false) : allB n f = false := decide_eq_false fun hh => by rw [hh k hk] at h; cases h
theorem allB_true {n : Nat} {f : Nat → Bool} (h : ∀ k, k < n → f k = true) : allB n f = true := decide_eq_true h
theorem allB_at {n : Nat} {f : Nat → Bool} (h : allB n f = true) {k : Nat} (hk : k < n) : f k = true := of_decide_eq_true h k hk
theorem snocB {f : Nat → Bool} {k : Nat} (h : ∀ j, j < k → f j = true) (hk : f k = true) : ∀ j, j < k + 1 → f j = true := fun j hj => by
  rcases Nat.lt_or_ge j k with h' | h'
  · exact h j h'
  · obtain rfl : j = k := by omega
    exact hk
theorem getD_at {α : Type} {l : List α} {k : Nat} (h : k < l.length) (z : α) : l.getD k z = l[k] := by rw [List.getD_eq_getElem?_getD, List.getElem?_eq_getElem h]; rfl

def colAt (l : List Col) (i : Nat) : Bool := mayCol (l.getD i zCol) && decide (idx (fun x => x.name.toList == (l.getD i zCol).name.toList) l = (i : Int))
def mayCols (l : List Col) : Bool := decide (1 ≤ l.length) && (decide (l.length ≤ 8) && allB l.length (colAt l))
theorem colAt_at {l : List Col} {k : Nat} (h : k < l.length) : colAt l k = (mayCol l[k] && decide (idx (fun x => x.name.toList == l[k].name.toList) l = (k : Int))) := by unfold colAt; rw [getD_at h]

set_option maxHeartbeats 1000000 in
theorem mayColumns.calls (A0 : Option Addr) (c0 : Nat) (xs : List Col) (w : World) (hr : kCol.C w A0 xs.length xs) (hl : xs.length ≤ 140737488355328) :
    Calls Try.prog 81 #[.slice A0 xs.length c0] w fun e w' => e = .returned (.bool (mayCols xs)) ∧ Below w.heap.size w w' := by
  have HR := Aside0.mk hr
  generalize hi : mayCols xs = r
  have HI := Aside0.mk hi
  clear hr hi
  by_cases h1 : 1 ≤ xs.length
  · by_cases h8 : xs.length ≤ 8
    · have HI' := Aside0.mk (show allB xs.length (colAt xs) = r by have := HI.out; unfold mayCols at this; rw [decide_eq_true h1, decide_eq_true h8, Bool.true_and, Bool.true_and] at this; exact this)
      have g1 : ¬ (xs.length : Int) < 1 := by omega
      have g8 : ¬ (8 : Int) < xs.length := by omega
      go_enter Try.func81, Try.ntmps81
      go_wp2
      go_loopw [15] (fun i w' => ∃ k : Nat, k ≤ xs.length ∧ i = .int .i64 k ∧ Aside0 ((∀ j, j < k → colAt xs j = true) ∧ Below w.heap.size w w')) (fun i _ => xs.length - (intOf i).toNat)
      case atStart => exact ⟨0, Nat.zero_le _, rfl, ⟨fun _ h => absurd h (Nat.not_lt_zero _), Below.refl _ _⟩⟩
      case round =>
        obtain ⟨k, hk, rfl, HJ⟩ := hrel
        by_cases hlt : k < xs.length
        · obtain ⟨ad, e, hc0, hc1, hc2⟩ := cCol (Kd.C_below HR.out HJ.out.2) k hlt
          cases e
          have HC := Aside0.mk (fun W => mayColumn.calls xs[k] W)
          have HE := Aside0.mk (colAt_at hlt)
          generalize hp : mayCol xs[k] = p at HC HE
          have HP := Aside0.mk hp
          clear hp
          go_wp2_with fail
          refine (HC.out _).mono ?_
          rintro e w1 ⟨rfl, hb1⟩
          have hx : w1.cell? ⟨wr.heap.size, 0, none⟩ = some (.string xs[k].name) := pw_cell_below hb1 (show (wr.alloc _).cell? ⟨wr.heap.size, 0, none⟩ = some (.string xs[k].name) by simp)
          have HB := Aside0.mk (((below_alloc HJ.out.2 _).trans (hb1.mono (below_alloc HJ.out.2 _).size)))
          clear hb1
          cases p with
          | false =>
            go_wp2
            go_ret
            exact ⟨ret_bool ((allB_false hlt (by rw [HE.out]; rfl)).symm.trans HI'.out), HB.out⟩
          | true =>
            have HD := Aside0.mk (byNameCol.calls (some ad) c0 xs xs[k].name w1 (Kd.C_below HR.out HB.out) hl)
            generalize idx (fun x : Col => x.name.toList == xs[k].name.toList) xs = m at HD HE
            go_wp2_with fail
            refine HD.out.mono ?_
            rintro e w2 ⟨rfl, hb2⟩
            have HB2 := Aside0.mk (HB.out.trans (hb2.mono HB.out.size))
            clear hb2
            cases hm : (m != (k : Int)) with
            | true =>
              go_wp2
              go_ret
              exact ⟨ret_bool ((allB_false hlt (by rw [HE.out, decide_eq_false (by simpa using hm)]; rfl)).symm.trans HI'.out), HB2.out⟩
            | false =>
              go_wp2
              go_roundw
              case rel => exact ⟨k + 1, by omega, by go_num, ⟨snocB HJ.out.1 (by rw [HE.out, decide_eq_true (by simpa using hm)]; rfl), HB2.out⟩⟩
              case measure => simp [intOf]; omega
        · have hd : decide (k < xs.length) = false := decide_eq_false hlt
          go_wp2
          go_ret
          exact ⟨ret_bool ((allB_true fun j hj => HJ.out.1 j (by omega)).symm.trans HI'.out), HJ.out.2⟩
    · have g8 : (8 : Int) < xs.length := by omega
      have g1 : ¬ (xs.length : Int) < 1 := by omega
      go_enter Try.func81, Try.ntmps81
      go_wp2
      go_ret
      exact ⟨ret_bool (by rw [← HI.out]; unfold mayCols; rw [decide_eq_false h8, Bool.false_and, Bool.and_false]), Below.refl _ _⟩
  · have g1 : (xs.length : Int) < 1 := by omega
    go_enter Try.func81, Try.ntmps81
    go_wp2
    go_ret
    exact ⟨ret_bool (by rw [← HI.out]; unfold mayCols; rw [decide_eq_false h1, Bool.false_and]), Below.refl _ _⟩

theorem keepC3 {w0 w w' : World} {v0 v1 v2 : Value} {a0 a1 a2 : Addr} (h : w.cell? a0 = some v0 ∧ w.cell? a1 = some v1 ∧ w.cell? a2 = some v2 ∧ Below w0.heap.size w0 w) (hb : Below w.heap.size w w') : w'.cell? a0 = some v0 ∧ w'.cell? a1 = some v1 ∧ w'.cell? a2 = some v2 ∧ Below w0.heap.size w0 w' :=
  ⟨pw_cell_below hb h.1, pw_cell_below hb h.2.1, pw_cell_below hb h.2.2.1, h.2.2.2.trans (hb.mono h.2.2.2.size)⟩
theorem idx_take {α : Type} {p : α → Bool} {l : List α} {k : Nat} (hk : k < l.length) (hp : p l[k] = true) : decide (0 ≤ idx p (l.take k)) = !decide (idx p l = (k : Int)) := by
  rcases idx_cases p (l.take k) with ⟨j, hj, h1, h2, h3⟩ | ⟨h1, h2⟩
  · have hj' : j < k := by rw [List.length_take] at hj; omega
    rw [List.getElem_take] at h2
    have : idx p l = (j : Int) := idx_hit (by omega) h2 fun i hi hij => by have := h3 i (by rw [List.length_take]; omega) hij; rwa [List.getElem_take] at this
    rw [h1, this, decide_eq_true (by omega), decide_eq_false (by omega)]; rfl
  · have : idx p l = (k : Int) := idx_hit hk hp fun i hi hik => by have := h2 i (by rw [List.length_take]; omega); rwa [List.getElem_take] at this
    rw [h1, this, decide_eq_false (by omega), decide_eq_true rfl]; rfl
theorem bytes_self (s : ByteArray) : (s.toList == s.toList) = true := beq_self_eq_true _
theorem colAt_ref {l : List Col} {k : Nat} (h : k < l.length) : colAt l k = (mayCol l[k] && !decide (0 ≤ idx (fun x => x.name.toList == l[k].name.toList) (l.take k))) := by
  rw [colAt_at h, idx_take (p := fun x : Col => x.name.toList == l[k].name.toList) h (bytes_self _), Bool.not_not]

set_option maxHeartbeats 2000000 in
theorem rColumns.calls (A0 : Option Addr) (c0 : Nat) (xs : List Col) (w : World) (hr : kCol.C w A0 xs.length xs) (hlc : xs.length ≤ c0) (hl : xs.length ≤ 140737488355328) :
    Calls Try.prog 83 #[.slice A0 xs.length c0] w fun e w' => e = .returned (.bool (mayCols xs)) ∧ Below w.heap.size w w' := by
  have HR := Aside0.mk hr
  generalize hi : mayCols xs = r
  have HI := Aside0.mk hi
  clear hr hi
  by_cases h1 : 1 ≤ xs.length
  · by_cases h8 : xs.length ≤ 8
    · have HI' := Aside0.mk (show allB xs.length (colAt xs) = r by have := HI.out; unfold mayCols at this; rw [decide_eq_true h1, decide_eq_true h8, Bool.true_and, Bool.true_and] at this; exact this)
      have g1 : ¬ (xs.length : Int) < 1 := by omega
      have g8 : ¬ (8 : Int) < xs.length := by omega
      go_enter Try.func83, Try.ntmps83
      go_wp2
      go_loopw [3] (fun i w' => ∃ k : Nat, k ≤ xs.length ∧ i = .int .i64 k ∧ Aside0 ((∀ j, j < k → colAt xs j = true) ∧ Below w.heap.size w w')) (fun i _ => xs.length - (intOf i).toNat)
      case atStart => exact ⟨0, Nat.zero_le _, rfl, ⟨fun _ h => absurd h (Nat.not_lt_zero _), Below.refl _ _⟩⟩
      case round =>
        obtain ⟨k, hk, rfl, HJ⟩ := hrel
        by_cases hlt : k < xs.length
        · obtain ⟨ad, e, hc0, hc1, hc2⟩ := cCol (Kd.C_below HR.out HJ.out.2) k hlt
          cases e
          have HC := Aside0.mk (fun W => rOne.calls xs[k] W)
          have HE := Aside0.mk (colAt_ref hlt)
          have htl : (xs.take k).length = k := by rw [List.length_take]; omega
          have hkc : (k : Int) ≤ (c0 : Int) := by omega
          have hkz : (0 : Int) ≤ (k : Int) := by omega
          have HT := Aside0.mk (fun W (hW : Below w.heap.size w W) => rColumn.calls (A0 := some ad) (c0 := c0) xs[k].name (xs.take k) W (Kd.C_take (Kd.C_below HR.out hW) (by omega)) (by omega))
          rw [htl] at HT
          generalize mayCol xs[k] = p at HC HE
          generalize idx (fun x : Col => x.name.toList == xs[k].name.toList) (xs.take k) = m at HE HT
          cases p with
          | false =>
            go_wp2_with fail
            refine wp_region_held_drew (S := (fun w' => w'.cell? (ad.add (k * 3)) = some (.string xs[k].name) ∧ w'.cell? ⟨(ad.add (k * 3)).block, (ad.add (k * 3)).off + 1, none⟩ = some (.int .i64 xs[k].kind) ∧ w'.cell? ⟨(ad.add (k * 3)).block, (ad.add (k * 3)).off + 2, none⟩ = some (.bool xs[k].null) ∧ Below w.heap.size w w')) (by kernel_rfl) ⟨hc0, hc1, hc2, pw_below_drewN HJ.out.2 1⟩ (fun hHeld0 => ?_)
            refine wpAnyH_take (i := 0) (oi := { dst := some 18, op := _, type := _, pos := _, after := _, guard := _ }) (v := ?v0) rfl (by kernel_rfl) (by kernel_rfl) (by kernel_rfl) (fun _ _ _ h => h) (Or.inl ⟨by kernel_rfl, ?hy0⟩) hHeld0 ?rest0
            case hy0 => (intro w hSw; (try dsimp only at hSw); go_simp; (first | done | with_reducible rfl))
            try simp only [Act.put, List.setIfInBounds_toArray, List.set_cons_zero, List.set_cons_succ]
            refine wpAnyH_take (i := 1) (oi := { dst := some 19, op := _, type := _, pos := _, after := _, guard := _ }) (v := ?v1) rfl (by kernel_rfl) (by kernel_rfl) (by kernel_rfl) (fun _ _ _ h => h) (Or.inl ⟨by kernel_rfl, ?hy1⟩) hHeld0 ?rest1
            case hy1 => (intro w hSw; (try dsimp only at hSw); go_simp; (first | done | with_reducible rfl))
            try simp only [Act.put, List.setIfInBounds_toArray, List.set_cons_zero, List.set_cons_succ]
            refine wpAnyH_take (i := 2) (oi := { dst := some 20, op := _, type := _, pos := _, after := _, guard := _ }) (v := ?v2) rfl (by kernel_rfl) (by kernel_rfl) (by kernel_rfl) (fun _ _ _ h => h) (Or.inl ⟨by kernel_rfl, ?hy2⟩) hHeld0 ?rest2
            case hy2 => (intro w hSw; (try dsimp only at hSw); go_simp; (first | done | with_reducible rfl))
            try simp only [Act.put, List.setIfInBounds_toArray, List.set_cons_zero, List.set_cons_succ]
            refine wpAnyH_take (i := 3) (oi := { dst := some 21, op := _, type := _, pos := _, after := _, guard := _ }) (v := ?v3) rfl (by kernel_rfl) (by kernel_rfl) (by kernel_rfl) (fun _ _ _ h => h) (Or.inl ⟨by kernel_rfl, ?hy3⟩) hHeld0 ?rest3
            case hy3 => (intro w hSw; (try dsimp only at hSw); go_simp; (first | done | with_reducible rfl))
            try simp only [Act.put, List.setIfInBounds_toArray, List.set_cons_zero, List.set_cons_succ]
            refine wpAnyH_ready (rs := [4]) (by kernel_rfl) (by simp) ?_
            refine AllReadyH.cons (o := { dst := some 22, op := _, type := _, pos := _, after := _, guard := _ }) rfl (fun K hK => ?_) AllReadyH.nil
            go_simp
            (go_at_call 62; refine (HC.out _).mono ?_; rintro e w' ⟨rfl, hb⟩)
            refine hK.out _ _ (keepC3 hHeld0 hb) (fun hHeld1 => ?_)
            clear hK K hHeld0
            try simp only [Act.put, List.setIfInBounds_toArray, List.set_cons_zero, List.set_cons_succ]
            refine wpAnyH_take (i := 5) (oi := { dst := some 23, op := _, type := _, pos := _, after := _, guard := _ }) (v := ?v5) rfl (by kernel_rfl) (by kernel_rfl) (by kernel_rfl) (fun _ _ _ h => h) (Or.inl ⟨by kernel_rfl, ?hy5⟩) hHeld1 ?rest5
            case hy5 => (intro w hSw; (try dsimp only at hSw); go_simp; (first | done | with_reducible rfl))
            try simp only [Act.put, List.setIfInBounds_toArray, List.set_cons_zero, List.set_cons_succ]
            refine wpAnyH_take (i := 6) (oi := { dst := some 24, op := _, type := _, pos := _, after := _, guard := _ }) (v := ?v6) rfl (by kernel_rfl) (by kernel_rfl) (by kernel_rfl) (fun _ _ _ h => h) (Or.inl ⟨by kernel_rfl, ?hy6⟩) hHeld1 ?rest6
            case hy6 => (intro w hSw; (try dsimp only at hSw); go_simp; (first | done | with_reducible rfl))
            try simp only [Act.put, List.setIfInBounds_toArray, List.set_cons_zero, List.set_cons_succ]
            refine wpAnyH_take (i := 7) (oi := { dst := some 25, op := _, type := _, pos := _, after := _, guard := _ }) (v := undef) rfl (by kernel_rfl) (by kernel_rfl) (by kernel_rfl) (fun _ _ _ h => h) (Or.inr ⟨by kernel_rfl, rfl⟩) hHeld1 ?_
            try simp only [Act.put, List.setIfInBounds_toArray, List.set_cons_zero, List.set_cons_succ]
            refine wpAnyH_take (i := 8) (oi := { dst := some 26, op := _, type := _, pos := _, after := _, guard := _ }) (v := undef) rfl (by kernel_rfl) (by kernel_rfl) (by kernel_rfl) (fun _ _ _ h => h) (Or.inr ⟨by kernel_rfl, rfl⟩) hHeld1 ?_
            try simp only [Act.put, List.setIfInBounds_toArray, List.set_cons_zero, List.set_cons_succ]
            refine wpAnyH_take (i := 9) (oi := { dst := some 27, op := _, type := _, pos := _, after := _, guard := _ }) (v := undef) rfl (by kernel_rfl) (by kernel_rfl) (by kernel_rfl) (fun _ _ _ h => h) (Or.inr ⟨by kernel_rfl, rfl⟩) hHeld1 ?_
            try simp only [Act.put, List.setIfInBounds_toArray, List.set_cons_zero, List.set_cons_succ]
            refine wpAnyH_take (i := 10) (oi := { dst := some 28, op := _, type := _, pos := _, after := _, guard := _ }) (v := undef) rfl (by kernel_rfl) (by kernel_rfl) (by kernel_rfl) (fun _ _ _ h => h) (Or.inr ⟨by kernel_rfl, rfl⟩) hHeld1 ?_
            try simp only [Act.put, List.setIfInBounds_toArray, List.set_cons_zero, List.set_cons_succ]
            refine wpAnyH_take (i := 11) (oi := { dst := some 29, op := _, type := _, pos := _, after := _, guard := _ }) (v := undef) rfl (by kernel_rfl) (by kernel_rfl) (by kernel_rfl) (fun _ _ _ h => h) (Or.inr ⟨by kernel_rfl, rfl⟩) hHeld1 ?_
            try simp only [Act.put, List.setIfInBounds_toArray, List.set_cons_zero, List.set_cons_succ]
            refine wpAnyH_take (i := 12) (oi := { dst := some 30, op := _, type := _, pos := _, after := _, guard := _ }) (v := undef) rfl (by kernel_rfl) (by kernel_rfl) (by kernel_rfl) (fun _ _ _ h => h) (Or.inr ⟨by kernel_rfl, rfl⟩) hHeld1 ?_
            try simp only [Act.put, List.setIfInBounds_toArray, List.set_cons_zero, List.set_cons_succ]
            refine wpAnyH_take (i := 13) (oi := { dst := some 31, op := _, type := _, pos := _, after := _, guard := _ }) (v := undef) rfl (by kernel_rfl) (by kernel_rfl) (by kernel_rfl) (fun _ _ _ h => h) (Or.inr ⟨by kernel_rfl, rfl⟩) hHeld1 ?_
            try simp only [Act.put, List.setIfInBounds_toArray, List.set_cons_zero, List.set_cons_succ]
            refine wpAnyH_take (i := 14) (oi := { dst := some 32, op := _, type := _, pos := _, after := _, guard := _ }) (v := undef) rfl (by kernel_rfl) (by kernel_rfl) (by kernel_rfl) (fun _ _ _ h => h) (Or.inr ⟨by kernel_rfl, rfl⟩) hHeld1 ?_
            try simp only [Act.put, List.setIfInBounds_toArray, List.set_cons_zero, List.set_cons_succ]
            refine wpAnyH_take (i := 15) (oi := { dst := some 33, op := _, type := _, pos := _, after := _, guard := _ }) (v := undef) rfl (by kernel_rfl) (by kernel_rfl) (by kernel_rfl) (fun _ _ _ h => h) (Or.inr ⟨by kernel_rfl, rfl⟩) hHeld1 ?_
            try simp only [Act.put, List.setIfInBounds_toArray, List.set_cons_zero, List.set_cons_succ]
            refine wpAnyH_take (i := 16) (oi := { dst := some 34, op := _, type := _, pos := _, after := _, guard := _ }) (v := undef) rfl (by kernel_rfl) (by kernel_rfl) (by kernel_rfl) (fun _ _ _ h => h) (Or.inr ⟨by kernel_rfl, rfl⟩) hHeld1 ?_
            try simp only [Act.put, List.setIfInBounds_toArray, List.set_cons_zero, List.set_cons_succ]
            refine wpAnyH_take (i := 17) (oi := { dst := some 35, op := _, type := _, pos := _, after := _, guard := _ }) (v := ?v17) rfl (by kernel_rfl) (by kernel_rfl) (by kernel_rfl) (fun _ _ _ h => h) (Or.inl ⟨by kernel_rfl, ?hy17⟩) hHeld1 ?rest17
            case hy17 => (intro w hSw; (try dsimp only at hSw); go_simp; (first | done | with_reducible rfl))
            try simp only [Act.put, List.setIfInBounds_toArray, List.set_cons_zero, List.set_cons_succ]
            refine wpAnyH_done (by kernel_rfl) ?_ _
            have hH := hHeld1
            clear hHeld1
            have HB := Aside0.mk hH.2.2.2
            clear hH hb hc0 hc1 hc2
            go_wp2
            go_ret
            exact ⟨ret_bool ((allB_false hlt (by rw [HE.out]; rfl)).symm.trans HI'.out), HB.out⟩
          | true =>
            by_cases hm : 0 ≤ m
            · go_wp2_with fail
              go_region_held3 (fun w' => w'.cell? (ad.add (k * 3)) = some (.string xs[k].name) ∧ w'.cell? ⟨(ad.add (k * 3)).block, (ad.add (k * 3)).off + 1, none⟩ = some (.int .i64 xs[k].kind) ∧ w'.cell? ⟨(ad.add (k * 3)).block, (ad.add (k * 3)).off + 2, none⟩ = some (.bool xs[k].null) ∧ Below w.heap.size w w')
                (first | assumption | exact keepC3 (by assumption) (by assumption) | exact ⟨hc0, hc1, hc2, pw_below_drewN HJ.out.2 1⟩)
                (first | (go_at_call 62; refine (HC.out _).mono ?_; rintro e w' ⟨rfl, hb⟩) | (go_at_call 63; refine (HT.out _ (And.right (And.right (And.right (by assumption))))).mono ?_; rintro e w' ⟨rfl, hb⟩))
              rename_i hH
              have HB := Aside0.mk hH.2.2.2
              clear hH hc0 hc1 hc2
              go_wp2
              go_ret
              exact ⟨ret_bool ((allB_false hlt (by rw [HE.out, decide_eq_true hm]; rfl)).symm.trans HI'.out), HB.out⟩
            · go_wp2_with fail
              go_region_held3 (fun w' => w'.cell? (ad.add (k * 3)) = some (.string xs[k].name) ∧ w'.cell? ⟨(ad.add (k * 3)).block, (ad.add (k * 3)).off + 1, none⟩ = some (.int .i64 xs[k].kind) ∧ w'.cell? ⟨(ad.add (k * 3)).block, (ad.add (k * 3)).off + 2, none⟩ = some (.bool xs[k].null) ∧ Below w.heap.size w w')
                (first | assumption | exact keepC3 (by assumption) (by assumption) | exact ⟨hc0, hc1, hc2, pw_below_drewN HJ.out.2 1⟩)
                (first | (go_at_call 62; refine (HC.out _).mono ?_; rintro e w' ⟨rfl, hb⟩) | (go_at_call 63; refine (HT.out _ (And.right (And.right (And.right (by assumption))))).mono ?_; rintro e w' ⟨rfl, hb⟩))
              rename_i hH
              have HB := Aside0.mk hH.2.2.2
              clear hH hc0 hc1 hc2
              go_wp2
              go_roundw
              case rel => exact ⟨k + 1, by omega, by go_num, ⟨snocB HJ.out.1 (by rw [HE.out, decide_eq_false (by omega)]; rfl), HB.out⟩⟩
              case measure => simp [intOf]; omega
        · have hd : decide (k < xs.length) = false := decide_eq_false hlt
          go_wp2
          go_ret
          exact ⟨ret_bool ((allB_true fun j hj => HJ.out.1 j (by omega)).symm.trans HI'.out), HJ.out.2⟩
    · have g8 : (8 : Int) < xs.length := by omega
      have g1 : ¬ (xs.length : Int) < 1 := by omega
      go_enter Try.func83, Try.ntmps83
      go_wp2
      go_ret
      exact ⟨ret_bool (by rw [← HI.out]; unfold mayCols; rw [decide_eq_false h8, Bool.false_and, Bool.and_false]), Below.refl _ _⟩
  · have g1 : (xs.length : Int) < 1 := by omega
    go_enter Try.func83, Try.ntmps83
    go_wp2
    go_ret
    exact ⟨ret_bool (by rw [← HI.out]; unfold mayCols; rw [decide_eq_false h1, Bool.false_and]), Below.refl _ _⟩
end Go.Proofs.Ytmmiehckgkadgaa.O
