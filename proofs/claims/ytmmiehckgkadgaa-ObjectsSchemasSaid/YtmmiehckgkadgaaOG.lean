/- Rules that fit columns: the program's and the document's. -/
import Derived.Test.YtmmiehckgkadgaaOF
namespace Go.Proofs.Ytmmiehckgkadgaa.O
set_option linter.unusedVariables false
set_option linter.unusedSimpArgs false
open Go.RowKit Go.Proofs.YtmmiehckgkadgaaW.PrintWords

theorem pigeon : ∀ (n m : Nat) (f : Nat → Nat), (∀ i, i < m → f i < n) → (∀ i j, i < j → j < m → f i ≠ f j) → m ≤ n
  | 0, m, f, h, _ => by
    rcases Nat.eq_zero_or_pos m with h0 | h0
    · omega
    · exact absurd (h 0 h0) (Nat.not_lt_zero _)
  | n + 1, m, f, h, inj => by
    rcases Nat.eq_zero_or_pos m with h0 | h0
    · omega
    · obtain ⟨m', rfl⟩ : ∃ m', m = m' + 1 := ⟨m - 1, by omega⟩
      have := pigeon n m' (fun i => if f i = n then f m' else f i) (fun i hi => by
          have h1 := h i (by omega); have h2 := h m' (by omega); have h3 := inj i m' hi (by omega)
          show (if f i = n then f m' else f i) < n
          split <;> omega) (fun i j hij hj => by
          have h1 := inj i j hij (by omega); have h2 := inj i m' (by omega) (by omega); have h3 := inj j m' hj (by omega)
          show (if f i = n then f m' else f i) ≠ (if f j = n then f m' else f j)
          split <;> split <;> omega)
      omega

def nStr : ByteArray := ⟨#[]⟩
/-- a rule's column is one of the columns, and no elder one of the rule's -/
def fitAt (l : List Col) (r : List ByteArray) (i : Nat) : Bool := decide (0 ≤ idx (fun x => x.name.toList == (r.getD i nStr).toList) l) && decide (idx (fun y => (r.getD i nStr).toList == y.toList) r = (i : Int))
theorem fitAt_at {l : List Col} {r : List ByteArray} {k : Nat} (h : k < r.length) : fitAt l r k = (decide (0 ≤ idx (fun x => x.name.toList == r[k].toList) l) && decide (idx (fun y => r[k].toList == y.toList) r = (k : Int))) := by unfold fitAt; rw [getD_at h]
theorem fit_few {l : List Col} {r : List ByteArray} (h : ∀ k, k < r.length → fitAt l r k = true) : r.length ≤ l.length := by
  have hh : ∀ k, (hk : k < r.length) → (0 ≤ idx (fun x => x.name.toList == r[k].toList) l ∧ idx (fun y => r[k].toList == y.toList) r = (k : Int)) := fun k hk => by
    have := h k hk; rw [fitAt_at hk, Bool.and_eq_true] at this
    exact ⟨of_decide_eq_true this.1, of_decide_eq_true this.2⟩
  refine pigeon l.length r.length (fun k => (idx (fun x => x.name.toList == (r.getD k nStr).toList) l).toNat) (fun k hk => ?_) (fun i j hij hj he => ?_)
  · have h1 := (hh k hk).1
    have h2 := idx_lo (fun x : Col => x.name.toList == r[k].toList) l
    show (idx (fun x => x.name.toList == (r.getD k nStr).toList) l).toNat < l.length
    rw [getD_at hk]; omega
  · have he' : (idx (fun x : Col => x.name.toList == (r.getD i nStr).toList) l).toNat = (idx (fun x => x.name.toList == (r.getD j nStr).toList) l).toNat := he
    have hi : i < r.length := by omega
    rw [getD_at hi, getD_at hj] at he'
    rcases idx_cases (fun x : Col => x.name.toList == r[i].toList) l with ⟨a, ha, e1, e2, _⟩ | ⟨e1, _⟩
    · rcases idx_cases (fun x : Col => x.name.toList == r[j].toList) l with ⟨b, hb, f1, f2, _⟩ | ⟨f1, _⟩
      · rw [e1, f1] at he'
        obtain rfl : a = b := by simpa using he'
        have t1 : l[a].name.toList = r[i].toList := by simpa using e2
        have t2 : l[a].name.toList = r[j].toList := by simpa using f2
        have t3 := (hh i hi).2
        have t4 := (hh j hj).2
        rw [← t1] at t3; rw [← t2] at t4
        omega
      · have := (hh j hj).1; omega
    · have := (hh i hi).1; omega
/-- no schema, table, key -/
def bareR (r : Rul) : Bool := r.schema.toList.isEmpty && (r.table.toList.isEmpty && r.key.toList.isEmpty)
/-- the kind of the column of a name -/
def kindAt (l : List Col) (n : ByteArray) : Int := (l.getD (idx (fun x => x.name.toList == n.toList) l).toNat zCol).kind
def fitsB (l : List Col) (r : Rul) : Bool :=
  nameB r.name && (decide (1 ≤ r.cols.length) && (allB r.cols.length (fitAt l r.cols) &&
    (if r.kind = 3 then bareR r && (decide (r.cols.length = 1) && (kindAt l (r.cols.getD 0 nStr) == 2 && decide (r.low ≤ r.high)))
     else if r.kind = 4 then nameB r.schema && (nameB r.table && (nameB r.key && (r.low == 0 && r.high == 0)))
     else if r.kind = 1 ∨ r.kind = 2 then bareR r && (r.low == 0 && r.high == 0)
     else false)))

def tailB (l : List Col) (r : Rul) : Bool :=
  if r.kind = 3 then bareR r && (decide (r.cols.length = 1) && (kindAt l (r.cols.getD 0 nStr) == 2 && decide (r.low ≤ r.high)))
  else if r.kind = 4 then nameB r.schema && (nameB r.table && (nameB r.key && (r.low == 0 && r.high == 0)))
  else if r.kind = 1 ∨ r.kind = 2 then bareR r && (r.low == 0 && r.high == 0)
  else false
theorem fits_none {l : List Col} {r : Rul} (h : allB r.cols.length (fitAt l r.cols) = false) : fitsB l r = false := by unfold fitsB; rw [h, Bool.false_and, Bool.and_false, Bool.and_false]
theorem fits_tail {l : List Col} {r : Rul} (h0 : nameB r.name = true) (h1 : 1 ≤ r.cols.length) (h : allB r.cols.length (fitAt l r.cols) = true) : fitsB l r = tailB l r := by unfold fitsB tailB; rw [h0, h, decide_eq_true h1, Bool.true_and, Bool.true_and, Bool.true_and]
/-- a rule's texts are no longer than a machine holds -/
def RulZ (r : Rul) : Prop := r.schema.size ≤ 140737488355328 ∧ r.table.size ≤ 140737488355328 ∧ r.key.size ≤ 140737488355328
/-- a rule in a box -/
def BoxR (W : World) (g : Nat) (r : Rul) (A2 : Option Addr) (c2 : Nat) : Prop := W.cell? ⟨g, 0, none⟩ = some (.string r.name) ∧ W.cell? ⟨g, 1, none⟩ = some (.int .i64 r.kind) ∧ W.cell? ⟨g, 2, none⟩ = some (.slice A2 r.cols.length c2) ∧ W.cell? ⟨g, 3, none⟩ = some (.int .i64 r.low) ∧ W.cell? ⟨g, 4, none⟩ = some (.int .i64 r.high) ∧ W.cell? ⟨g, 5, none⟩ = some (.string r.schema) ∧ W.cell? ⟨g, 6, none⟩ = some (.string r.table) ∧ W.cell? ⟨g, 7, none⟩ = some (.string r.key)
theorem BoxR.below {W W' : World} {g : Nat} {r : Rul} {A2 : Option Addr} {c2 : Nat} (h : BoxR W g r A2 c2) (hb : Below W.heap.size W W') : BoxR W' g r A2 c2 :=
  ⟨pw_cell_below hb h.1, pw_cell_below hb h.2.1, pw_cell_below hb h.2.2.1, pw_cell_below hb h.2.2.2.1, pw_cell_below hb h.2.2.2.2.1, pw_cell_below hb h.2.2.2.2.2.1, pw_cell_below hb h.2.2.2.2.2.2.1, pw_cell_below hb h.2.2.2.2.2.2.2⟩
def rulBox (r : Rul) (A2 : Option Addr) (c2 : Nat) : Obj := .cells #[.string r.name, .int .i64 r.kind, .slice A2 r.cols.length c2, .int .i64 r.low, .int .i64 r.high, .string r.schema, .string r.table, .string r.key] 57
theorem BoxR_new (w : World) (r : Rul) (A2 : Option Addr) (c2 : Nat) : BoxR (w.alloc (rulBox r A2 c2)) w.heap.size r A2 c2 := by
  have h := fun i => World.cell?_alloc_new (w := w) #[.string r.name, .int .i64 r.kind, .slice A2 r.cols.length c2, .int .i64 r.low, .int .i64 r.high, .string r.schema, .string r.table, .string r.key] 57 i
  exact ⟨h 0, h 1, h 2, h 3, h 4, h 5, h 6, h 7⟩

theorem bare_cat (a b c : ByteArray) : (a ++ b ++ c).toList.isEmpty = (a.toList.isEmpty && (b.toList.isEmpty && c.toList.isEmpty)) := by
  have h : ∀ s : ByteArray, s.toList.isEmpty = decide (s.size = 0) := fun s => by
    rcases Nat.eq_zero_or_pos s.size with h0 | h0
    · rw [str_nil s h0, decide_eq_true h0]; rfl
    · rw [str_ne s h0, decide_eq_false (by omega)]
  rw [h, h, h, h, ByteArray.size_append, ByteArray.size_append]
  by_cases h1 : a.size = 0 <;> by_cases h2 : b.size = 0 <;> by_cases h3 : c.size = 0 <;> simp [h1, h2, h3]
theorem idx_has {l : List Col} {r : List ByteArray} {k : Nat} (hk : k < r.length) (h : fitAt l r k = true) : ∃ n, ∃ hn : n < l.length, idx (fun x : Col => x.name.toList == r[k].toList) l = (n : Int) ∧ True ∧ True := by
  rw [fitAt_at hk, Bool.and_eq_true] at h
  have h1 := of_decide_eq_true h.1
  rcases idx_cases (fun x : Col => x.name.toList == r[k].toList) l with ⟨n, hn, e, _⟩ | ⟨e, _⟩
  · exact ⟨n, hn, e, trivial, trivial⟩
  · omega
set_option maxHeartbeats 2000000 in
theorem fits.calls {A0 A2 : Option Addr} {c0 c2 : Nat} (xs : List Col) (r : Rul) (w : World) (hr : kCol.C w A0 xs.length xs) (hl : xs.length ≤ 140737488355328) (hr2 : Kd.string.C w A2 r.cols.length r.cols) (hl2 : r.cols.length ≤ 140737488355328) (hz : RulZ r) :
    Calls Try.prog 91 #[.slice A0 xs.length c0, .agg #[.string r.name, .int .i64 r.kind, .slice A2 r.cols.length c2, .int .i64 r.low, .int .i64 r.high, .string r.schema, .string r.table, .string r.key]] w fun e w' => e = .returned (.bool (fitsB xs r)) ∧ Below w.heap.size w w' := by
  have HR := Aside0.mk hr
  have HR2 := Aside0.mk hr2
  have HX := Aside0.mk (BoxR_new w r A2 c2)
  have HW : Aside0 (Below w.heap.size w (w.alloc (rulBox r A2 c2))) := ⟨below_alloc (Below.refl _ _) _⟩
  generalize hi : fitsB xs r = q
  have HI := Aside0.mk hi
  clear hr hi hr2
  have HN := Aside0.mk (fun W => Name.calls r.name W)
  generalize hnm : nameB r.name = nm at HN
  have HNM := Aside0.mk hnm
  clear hnm
  cases nm with
  | false =>
    go_enter Try.func91, Try.ntmps91
    go_wp2_with fail
    refine (HN.out _).mono ?_
    rintro e w1 ⟨rfl, rfl⟩
    go_wp2
    go_ret
    exact ⟨ret_bool (by rw [← HI.out]; unfold fitsB; rw [HNM.out]; rfl), HW.out⟩
  | true =>
    by_cases h1 : 1 ≤ r.cols.length
    · have g1 : ¬ (r.cols.length : Int) < 1 := by omega
      by_cases h2 : r.cols.length ≤ xs.length
      · have g2 : ¬ (xs.length : Int) < (r.cols.length : Int) := by omega
        have d1 : decide ((r.cols.length : Int) < 1) = false := decide_eq_false g1
        have d2 : decide (xs.length < r.cols.length) = false := decide_eq_false (by omega)
        go_enter Try.func91, Try.ntmps91
        go_wp2_with fail
        refine (HN.out _).mono ?_
        rintro e w1 ⟨rfl, rfl⟩
        go_wp2
        go_loopw [29] (fun i w' => ∃ k : Nat, k ≤ r.cols.length ∧ i = .int .i64 k ∧ Aside0 ((∀ j, j < k → fitAt xs r.cols j = true) ∧ BoxR w' w.heap.size r A2 c2 ∧ Below w.heap.size w w')) (fun i _ => r.cols.length - (intOf i).toNat)
        case atStart => exact ⟨0, Nat.zero_le _, rfl, ⟨fun _ h => absurd h (Nat.not_lt_zero _), HX.out, HW.out⟩⟩
        case round =>
          obtain ⟨k, hk, rfl, HJ⟩ := hrel
          obtain ⟨b0, b1, b2, b3, b4, b5, b6, b7⟩ := HJ.out.2.1
          by_cases hlt : k < r.cols.length
          · obtain ⟨ad2, e, hs⟩ := cStr (Kd.C_below HR2.out HJ.out.2.2) k hlt
            cases e
            have HC := Aside0.mk (fun W (hW : Below w.heap.size w W) => byNameCol.calls A0 c0 xs r.cols[k] W (Kd.C_below HR.out hW) hl)
            have HS := Aside0.mk (fun W (hW : Below w.heap.size w W) => sIndex.calls (A0 := some ad2) (c0 := c2) r.cols[k] r.cols W (Kd.C_below HR2.out hW) hl2)
            have HE := Aside0.mk (fitAt_at (l := xs) hlt)
            generalize idx (fun x : Col => x.name.toList == r.cols[k].toList) xs = m at HC HE
            generalize idx (fun y : ByteArray => r.cols[k].toList == y.toList) r.cols = n at HS HE
            by_cases hm : m < 0
            · have hm' : ¬ 0 ≤ m := by omega
              go_wp2_with fail
              refine (HC.out _ HJ.out.2.2).mono ?_
              rintro e w1 ⟨rfl, hb1⟩
              have HB := Aside0.mk (HJ.out.2.2.trans (hb1.mono HJ.out.2.2.size))
              clear hb1
              go_wp2
              go_ret
              exact ⟨ret_bool ((fits_none (allB_false hlt (by rw [HE.out, decide_eq_false (show ¬ 0 ≤ m by omega), Bool.false_and]))).symm.trans HI.out), HB.out⟩
            · have hm' : 0 ≤ m := by omega
              go_wp2_with fail
              refine (HC.out _ HJ.out.2.2).mono ?_
              rintro e w1 ⟨rfl, hb1⟩
              have HB := Aside0.mk (HJ.out.2.2.trans (hb1.mono HJ.out.2.2.size))
              have HX1 := Aside0.mk (HJ.out.2.1.below hb1)
              have b2' := HX1.out.2.2.1
              clear hb1
              go_wp2_with fail
              refine (HS.out _ HB.out).mono ?_
              rintro e w2 ⟨rfl, hb2⟩
              have HB2 := Aside0.mk (HB.out.trans (hb2.mono HB.out.size))
              have HX2 := Aside0.mk (HX1.out.below hb2)
              clear hb2
              cases hn : (n != (k : Int)) with
              | true =>
                go_wp2
                go_ret
                exact ⟨ret_bool ((fits_none (allB_false hlt (by rw [HE.out, decide_eq_false (show ¬ n = (k : Int) by simpa using hn), Bool.and_false]))).symm.trans HI.out), HB2.out⟩
              | false =>
                go_wp2
                go_roundw
                case rel => exact ⟨k + 1, by omega, by go_num, ⟨snocB HJ.out.1 (by rw [HE.out, decide_eq_true hm', decide_eq_true (show n = (k : Int) by simpa using hn)]; rfl), HX2.out, HB2.out⟩⟩
                case measure => simp [intOf]; omega
          · have hd : decide (k < r.cols.length) = false := decide_eq_false hlt
            have HT := Aside0.mk ((fits_tail HNM.out h1 (allB_true fun j hj => HJ.out.1 j (by omega))).symm.trans HI.out)
            have z1 : r.schema.size + r.table.size ≤ 9223372036854775807 := by have := hz.1; have := hz.2.1; omega
            have z2 : r.schema.size + r.table.size + r.key.size ≤ 9223372036854775807 := by have := hz.1; have := hz.2.1; have := hz.2.2; omega
            have HA := Aside0.mk (show ∀ j, j < r.cols.length → fitAt xs r.cols j = true from fun j hj => HJ.out.1 j (by omega))
            by_cases k3 : r.kind = 3
            · skip
              cases e5 : r.schema.toList.isEmpty with
              | false =>
                have hb1 : (r.schema ++ r.table ++ r.key).toList.isEmpty = false := by rw [bare_cat]; simp [e5]
                go_wp2
                go_ret
                exact ⟨ret_bool (by rw [← HT.out, tailB]; simp [bareR, k3, e5]), HJ.out.2.2⟩
              | true =>
                cases e6 : r.table.toList.isEmpty with
                | false =>
                  have hb1 : (r.schema ++ r.table ++ r.key).toList.isEmpty = false := by rw [bare_cat]; simp [e5, e6]
                  go_wp2
                  go_ret
                  exact ⟨ret_bool (by rw [← HT.out, tailB]; simp [bareR, k3, e5, e6]), HJ.out.2.2⟩
                | true =>
                  cases e7 : r.key.toList.isEmpty with
                  | false =>
                    have hb1 : (r.schema ++ r.table ++ r.key).toList.isEmpty = false := by rw [bare_cat]; simp [e5, e6, e7]
                    go_wp2
                    go_ret
                    exact ⟨ret_bool (by rw [← HT.out, tailB]; simp [bareR, k3, e5, e6, e7]), HJ.out.2.2⟩
                  | true =>
                    have hb1 : (r.schema ++ r.table ++ r.key).toList.isEmpty = true := by rw [bare_cat]; simp [e5, e6, e7]
                    by_cases e1 : r.cols.length = 1
                    · obtain ⟨ad2, e, hs⟩ := cStr (Kd.C_below HR2.out HJ.out.2.2) 0 (by omega)
                      cases e
                      have HC := Aside0.mk (fun W (hW : Below w.heap.size w W) => byNameCol.calls A0 c0 xs r.cols[0] W (Kd.C_below HR.out hW) hl)
                      obtain ⟨n, hn, en, _, _⟩ := idx_has (show 0 < r.cols.length by omega) (HA.out 0 (by omega))
                      have EN := Aside0.mk en
                      rw [en] at HC
                      clear en
                      have hk0 : kindAt xs r.cols[0] = xs[n].kind := by unfold kindAt; rw [EN.out, Int.toNat_natCast, getD_at hn]
                      have HK0 := Aside0.mk hk0
                      clear hk0
                      have e1' : ((r.cols.length : Int) == 1) = true := by rw [e1]; rfl
                      have hs' : wr.cell? ad2 = some (.string r.cols[0]) := by simpa [Addr.add] using hs
                      go_wp2_with fail
                      refine (HC.out _ HJ.out.2.2).mono ?_
                      rintro e w1 ⟨rfl, hb1⟩
                      have HB1 := Aside0.mk (HJ.out.2.2.trans (hb1.mono HJ.out.2.2.size))
                      obtain ⟨c0_, c1_, c2_, c3_, c4_, c5_, c6_, c7_⟩ := HJ.out.2.1.below hb1
                      clear hb1
                      obtain ⟨ad, e, hc0, hc1, hc2⟩ := cCol (Kd.C_below HR.out HB1.out) n hn
                      cases e
                      cases q2 : (xs[n].kind == 2) with
                      | false =>
                        go_wp2
                        go_ret
                        exact ⟨ret_bool (by rw [← HT.out, tailB]; simp [bareR, k3, e5, e6, e7, q2, HK0.out, e1]), HB1.out⟩
                      | true =>
                        by_cases lh : r.low ≤ r.high
                        · skip
                          go_wp2
                          go_ret
                          exact ⟨ret_bool (by rw [← HT.out, tailB]; simp [bareR, k3, e5, e6, e7, q2, lh, HK0.out, e1]), HB1.out⟩
                        · have lh' : r.high < r.low := by omega
                          go_wp2
                          go_ret
                          exact ⟨ret_bool (by rw [← HT.out, tailB]; simp [bareR, k3, e5, e6, e7, q2, lh, HK0.out, e1]), HB1.out⟩
                    · have e1' : ((r.cols.length : Int) == 1) = false := beq_eq_false_iff_ne.2 (by omega)
                      go_wp2
                      go_ret
                      exact ⟨ret_bool (by rw [← HT.out, tailB]; simp [bareR, k3, e5, e6, e7, e1]), HJ.out.2.2⟩
            · by_cases k4 : r.kind = 4
              · skip
                have Hn5 := Aside0.mk (fun W => Name.calls r.schema W)
                have Hn6 := Aside0.mk (fun W => Name.calls r.table W)
                have Hn7 := Aside0.mk (fun W => Name.calls r.key W)
                cases n5 : nameB r.schema with
                | false =>
                  rw [n5] at Hn5
                  go_wp2_with fail
                  refine (Hn5.out _).mono ?_
                  rintro e _ ⟨rfl, rfl⟩
                  go_wp2
                  go_ret
                  exact ⟨ret_bool (by rw [← HT.out, tailB]; simp [bareR, k4, n5]), HJ.out.2.2⟩
                | true =>
                  rw [n5] at Hn5
                  cases n6 : nameB r.table with
                  | false =>
                    rw [n6] at Hn6
                    go_wp2_with fail
                    refine (Hn5.out _).mono ?_
                    rintro e _ ⟨rfl, rfl⟩
                    go_wp2_with fail
                    refine (Hn6.out _).mono ?_
                    rintro e _ ⟨rfl, rfl⟩
                    go_wp2
                    go_ret
                    exact ⟨ret_bool (by rw [← HT.out, tailB]; simp [bareR, k4, n5, n6]), HJ.out.2.2⟩
                  | true =>
                    rw [n6] at Hn6
                    cases n7 : nameB r.key with
                    | false =>
                      rw [n7] at Hn7
                      go_wp2_with fail
                      refine (Hn5.out _).mono ?_
                      rintro e _ ⟨rfl, rfl⟩
                      go_wp2_with fail
                      refine (Hn6.out _).mono ?_
                      rintro e _ ⟨rfl, rfl⟩
                      go_wp2_with fail
                      refine (Hn7.out _).mono ?_
                      rintro e _ ⟨rfl, rfl⟩
                      go_wp2
                      go_ret
                      exact ⟨ret_bool (by rw [← HT.out, tailB]; simp [bareR, k4, n5, n6, n7]), HJ.out.2.2⟩
                    | true =>
                      rw [n7] at Hn7
                      cases l0 : (r.low == 0) with
                      | false =>
                        go_wp2_with fail
                        refine (Hn5.out _).mono ?_
                        rintro e _ ⟨rfl, rfl⟩
                        go_wp2_with fail
                        refine (Hn6.out _).mono ?_
                        rintro e _ ⟨rfl, rfl⟩
                        go_wp2_with fail
                        refine (Hn7.out _).mono ?_
                        rintro e _ ⟨rfl, rfl⟩
                        go_wp2
                        go_ret
                        exact ⟨ret_bool (by rw [← HT.out, tailB]; simp [bareR, k4, n5, n6, n7, l0]), HJ.out.2.2⟩
                      | true =>
                        cases h0 : (r.high == 0) with
                        | false =>
                          go_wp2_with fail
                          refine (Hn5.out _).mono ?_
                          rintro e _ ⟨rfl, rfl⟩
                          go_wp2_with fail
                          refine (Hn6.out _).mono ?_
                          rintro e _ ⟨rfl, rfl⟩
                          go_wp2_with fail
                          refine (Hn7.out _).mono ?_
                          rintro e _ ⟨rfl, rfl⟩
                          go_wp2
                          go_ret
                          exact ⟨ret_bool (by rw [← HT.out, tailB]; simp [bareR, k4, n5, n6, n7, l0, h0]), HJ.out.2.2⟩
                        | true =>
                          go_wp2_with fail
                          refine (Hn5.out _).mono ?_
                          rintro e _ ⟨rfl, rfl⟩
                          go_wp2_with fail
                          refine (Hn6.out _).mono ?_
                          rintro e _ ⟨rfl, rfl⟩
                          go_wp2_with fail
                          refine (Hn7.out _).mono ?_
                          rintro e _ ⟨rfl, rfl⟩
                          go_wp2
                          go_ret
                          exact ⟨ret_bool (by rw [← HT.out, tailB]; simp [bareR, k4, n5, n6, n7, l0, h0]), HJ.out.2.2⟩
              · by_cases k1 : r.kind = 1
                · skip
                  cases e5 : r.schema.toList.isEmpty with
                  | false =>
                    have hb1 : (r.schema ++ r.table ++ r.key).toList.isEmpty = false := by rw [bare_cat]; simp [e5]
                    go_wp2
                    go_ret
                    exact ⟨ret_bool (by rw [← HT.out, tailB]; simp [bareR, k1, e5]), HJ.out.2.2⟩
                  | true =>
                    cases e6 : r.table.toList.isEmpty with
                    | false =>
                      have hb1 : (r.schema ++ r.table ++ r.key).toList.isEmpty = false := by rw [bare_cat]; simp [e5, e6]
                      go_wp2
                      go_ret
                      exact ⟨ret_bool (by rw [← HT.out, tailB]; simp [bareR, k1, e5, e6]), HJ.out.2.2⟩
                    | true =>
                      cases e7 : r.key.toList.isEmpty with
                      | false =>
                        have hb1 : (r.schema ++ r.table ++ r.key).toList.isEmpty = false := by rw [bare_cat]; simp [e5, e6, e7]
                        go_wp2
                        go_ret
                        exact ⟨ret_bool (by rw [← HT.out, tailB]; simp [bareR, k1, e5, e6, e7]), HJ.out.2.2⟩
                      | true =>
                        have hb1 : (r.schema ++ r.table ++ r.key).toList.isEmpty = true := by rw [bare_cat]; simp [e5, e6, e7]
                        cases l0 : (r.low == 0) with
                        | false =>
                          go_wp2
                          go_ret
                          exact ⟨ret_bool (by rw [← HT.out, tailB]; simp [bareR, k1, e5, e6, e7, l0]), HJ.out.2.2⟩
                        | true =>
                          cases h0 : (r.high == 0) with
                          | false =>
                            go_wp2
                            go_ret
                            exact ⟨ret_bool (by rw [← HT.out, tailB]; simp [bareR, k1, e5, e6, e7, l0, h0]), HJ.out.2.2⟩
                          | true =>
                            go_wp2
                            go_ret
                            exact ⟨ret_bool (by rw [← HT.out, tailB]; simp [bareR, k1, e5, e6, e7, l0, h0]), HJ.out.2.2⟩
                · by_cases k2 : r.kind = 2
                  · skip
                    cases e5 : r.schema.toList.isEmpty with
                    | false =>
                      have hb1 : (r.schema ++ r.table ++ r.key).toList.isEmpty = false := by rw [bare_cat]; simp [e5]
                      go_wp2
                      go_ret
                      exact ⟨ret_bool (by rw [← HT.out, tailB]; simp [bareR, k2, e5]), HJ.out.2.2⟩
                    | true =>
                      cases e6 : r.table.toList.isEmpty with
                      | false =>
                        have hb1 : (r.schema ++ r.table ++ r.key).toList.isEmpty = false := by rw [bare_cat]; simp [e5, e6]
                        go_wp2
                        go_ret
                        exact ⟨ret_bool (by rw [← HT.out, tailB]; simp [bareR, k2, e5, e6]), HJ.out.2.2⟩
                      | true =>
                        cases e7 : r.key.toList.isEmpty with
                        | false =>
                          have hb1 : (r.schema ++ r.table ++ r.key).toList.isEmpty = false := by rw [bare_cat]; simp [e5, e6, e7]
                          go_wp2
                          go_ret
                          exact ⟨ret_bool (by rw [← HT.out, tailB]; simp [bareR, k2, e5, e6, e7]), HJ.out.2.2⟩
                        | true =>
                          have hb1 : (r.schema ++ r.table ++ r.key).toList.isEmpty = true := by rw [bare_cat]; simp [e5, e6, e7]
                          cases l0 : (r.low == 0) with
                          | false =>
                            go_wp2
                            go_ret
                            exact ⟨ret_bool (by rw [← HT.out, tailB]; simp [bareR, k2, e5, e6, e7, l0]), HJ.out.2.2⟩
                          | true =>
                            cases h0 : (r.high == 0) with
                            | false =>
                              go_wp2
                              go_ret
                              exact ⟨ret_bool (by rw [← HT.out, tailB]; simp [bareR, k2, e5, e6, e7, l0, h0]), HJ.out.2.2⟩
                            | true =>
                              go_wp2
                              go_ret
                              exact ⟨ret_bool (by rw [← HT.out, tailB]; simp [bareR, k2, e5, e6, e7, l0, h0]), HJ.out.2.2⟩
                  · have q1 : (r.kind == 1) = false := beq_eq_false_iff_ne.2 k1
                    have q2 : (r.kind == 2) = false := beq_eq_false_iff_ne.2 k2
                    have q3 : (r.kind == 3) = false := beq_eq_false_iff_ne.2 k3
                    have q4 : (r.kind == 4) = false := beq_eq_false_iff_ne.2 k4
                    go_wp2
                    go_ret
                    exact ⟨ret_bool (by rw [← HT.out, tailB]; simp [bareR, k1, k2, k3, k4]), HJ.out.2.2⟩
      · have g2 : (xs.length : Int) < (r.cols.length : Int) := by omega
        go_enter Try.func91, Try.ntmps91
        go_wp2_with fail
        refine (HN.out _).mono ?_
        rintro e w1 ⟨rfl, rfl⟩
        go_wp2
        go_ret
        exact ⟨ret_bool (by
          rw [← HI.out]; unfold fitsB
          cases ha : allB r.cols.length (fitAt xs r.cols) with
          | false => simp
          | true => exact absurd (fit_few fun k hk => allB_at ha hk) h2), HW.out⟩
    · have g1 : (r.cols.length : Int) < 1 := by omega
      go_enter Try.func91, Try.ntmps91
      go_wp2_with fail
      refine (HN.out _).mono ?_
      rintro e w1 ⟨rfl, rfl⟩
      go_wp2
      go_ret
      exact ⟨ret_bool (by rw [← HI.out]; unfold fitsB; rw [decide_eq_false h1, Bool.false_and, Bool.and_false]), HW.out⟩
end Go.Proofs.Ytmmiehckgkadgaa.O
