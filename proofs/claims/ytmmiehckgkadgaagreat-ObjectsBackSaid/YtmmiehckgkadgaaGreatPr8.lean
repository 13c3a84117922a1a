/- Own lemmas and walks (OG, OJ, OP), without what the law does not need. Laid by a program of this session (prune.py). -/
import Derived.Test.YtmmiehckgkadgaaGreatPr6
import Derived.Test.YtmmiehckgkadgaaGreatPr7
namespace Go.Proofs.YtmmiehckgkadgaaGreat.O
set_option linter.unusedVariables false
set_option linter.unusedSimpArgs false
open Go.RowKit Go.Proofs.YtmmiehckgkadgaaGreatW.PrintWords
theorem pigeon : ∀ (n m : Nat) (f : Nat → Nat), (∀ i, i < m → f i < n) → (∀ i j, i < j → j < m → f i ≠ f j) → m ≤ n
  | 0, m, f, h, _ => by
    rcases Nat.eq_zero_or_pos m with h0 | h0
    · omega
    · exact absurd (h 0 h0) (Nat.not_lt_zero _)
  | n + 1, m, f, h, inj => by
    rcases Nat.eq_zero_or_pos m with h0 | h0
    · omega
    · obtain ⟨m', rfl⟩ : ∃ m', m = m' + 1 := ⟨m - 1, by omega⟩
      have := pigeon n m' (fun i => if f i = n then f m' else f i) (fun i hi => by
          have h1 := h i (by omega); have h2 := h m' (by omega); have h3 := inj i m' hi (by omega)
          show (if f i = n then f m' else f i) < n
          split <;> omega) (fun i j hij hj => by
          have h1 := inj i j hij (by omega); have h2 := inj i m' (by omega) (by omega); have h3 := inj j m' hj (by omega)
          show (if f i = n then f m' else f i) ≠ (if f j = n then f m' else f j)
          split <;> split <;> omega)
      omega
def nStr : ByteArray := ⟨#[]⟩
def fitAt (l : List Col) (r : List ByteArray) (i : Nat) : Bool := decide (0 ≤ idx (fun x => x.name.toList == (r.getD i nStr).toList) l) && decide (idx (fun y => (r.getD i nStr).toList == y.toList) r = (i : Int))
theorem fitAt_at {l : List Col} {r : List ByteArray} {k : Nat} (h : k < r.length) : fitAt l r k = (decide (0 ≤ idx (fun x => x.name.toList == r[k].toList) l) && decide (idx (fun y => r[k].toList == y.toList) r = (k : Int))) := by unfold fitAt; rw [getD_at h]
theorem fit_few {l : List Col} {r : List ByteArray} (h : ∀ k, k < r.length → fitAt l r k = true) : r.length ≤ l.length := by
  have hh : ∀ k, (hk : k < r.length) → (0 ≤ idx (fun x => x.name.toList == r[k].toList) l ∧ idx (fun y => r[k].toList == y.toList) r = (k : Int)) := fun k hk => by
    have := h k hk; rw [fitAt_at hk, Bool.and_eq_true] at this
    exact ⟨of_decide_eq_true this.1, of_decide_eq_true this.2⟩
  refine pigeon l.length r.length (fun k => (idx (fun x => x.name.toList == (r.getD k nStr).toList) l).toNat) (fun k hk => ?_) (fun i j hij hj he => ?_)
  · have h1 := (hh k hk).1
    have h2 := idx_lo (fun x : Col => x.name.toList == r[k].toList) l
    show (idx (fun x => x.name.toList == (r.getD k nStr).toList) l).toNat < l.length
    rw [getD_at hk]; omega
  · have he' : (idx (fun x : Col => x.name.toList == (r.getD i nStr).toList) l).toNat = (idx (fun x => x.name.toList == (r.getD j nStr).toList) l).toNat := he
    have hi : i < r.length := by omega
    rw [getD_at hi, getD_at hj] at he'
    rcases idx_cases (fun x : Col => x.name.toList == r[i].toList) l with ⟨a, ha, e1, e2, _⟩ | ⟨e1, _⟩
    · rcases idx_cases (fun x : Col => x.name.toList == r[j].toList) l with ⟨b, hb, f1, f2, _⟩ | ⟨f1, _⟩
      · rw [e1, f1] at he'
        obtain rfl : a = b := by simpa using he'
        have t1 : l[a].name.toList = r[i].toList := by simpa using e2
        have t2 : l[a].name.toList = r[j].toList := by simpa using f2
        have t3 := (hh i hi).2
        have t4 := (hh j hj).2
        rw [← t1] at t3; rw [← t2] at t4
        omega
      · have := (hh j hj).1; omega
    · have := (hh i hi).1; omega
def bareR (r : Rul) : Bool := r.schema.toList.isEmpty && (r.table.toList.isEmpty && r.key.toList.isEmpty)
def kindAt (l : List Col) (n : ByteArray) : Int := (l.getD (idx (fun x => x.name.toList == n.toList) l).toNat zCol).kind
def fitsB (l : List Col) (r : Rul) : Bool :=
  nameB r.name && (decide (1 ≤ r.cols.length) && (allB r.cols.length (fitAt l r.cols) &&
    (if r.kind = 3 then bareR r && (decide (r.cols.length = 1) && (kindAt l (r.cols.getD 0 nStr) == 2 && decide (r.low ≤ r.high)))
     else if r.kind = 4 then nameB r.schema && (nameB r.table && (nameB r.key && (r.low == 0 && r.high == 0)))
     else if r.kind = 1 ∨ r.kind = 2 then bareR r && (r.low == 0 && r.high == 0)
     else false)))
def tailB (l : List Col) (r : Rul) : Bool :=
  if r.kind = 3 then bareR r && (decide (r.cols.length = 1) && (kindAt l (r.cols.getD 0 nStr) == 2 && decide (r.low ≤ r.high)))
  else if r.kind = 4 then nameB r.schema && (nameB r.table && (nameB r.key && (r.low == 0 && r.high == 0)))
  else if r.kind = 1 ∨ r.kind = 2 then bareR r && (r.low == 0 && r.high == 0)
  else false
theorem fits_none {l : List Col} {r : Rul} (h : allB r.cols.length (fitAt l r.cols) = false) : fitsB l r = false := by unfold fitsB; rw [h, Bool.false_and, Bool.and_false, Bool.and_false]
theorem fits_tail {l : List Col} {r : Rul} (h0 : nameB r.name = true) (h1 : 1 ≤ r.cols.length) (h : allB r.cols.length (fitAt l r.cols) = true) : fitsB l r = tailB l r := by unfold fitsB tailB; rw [h0, h, decide_eq_true h1, Bool.true_and, Bool.true_and, Bool.true_and]
def RulZ (r : Rul) : Prop := r.schema.size ≤ 140737488355328 ∧ r.table.size ≤ 140737488355328 ∧ r.key.size ≤ 140737488355328
def BoxR (W : World) (g : Nat) (r : Rul) (A2 : Option Addr) (c2 : Nat) : Prop := W.cell? ⟨g, 0, none⟩ = some (.string r.name) ∧ W.cell? ⟨g, 1, none⟩ = some (.int .i64 r.kind) ∧ W.cell? ⟨g, 2, none⟩ = some (.slice A2 r.cols.length c2) ∧ W.cell? ⟨g, 3, none⟩ = some (.int .i64 r.low) ∧ W.cell? ⟨g, 4, none⟩ = some (.int .i64 r.high) ∧ W.cell? ⟨g, 5, none⟩ = some (.string r.schema) ∧ W.cell? ⟨g, 6, none⟩ = some (.string r.table) ∧ W.cell? ⟨g, 7, none⟩ = some (.string r.key)
theorem BoxR.below {W W' : World} {g : Nat} {r : Rul} {A2 : Option Addr} {c2 : Nat} (h : BoxR W g r A2 c2) (hb : Below W.heap.size W W') : BoxR W' g r A2 c2 :=
  ⟨pw_cell_below hb h.1, pw_cell_below hb h.2.1, pw_cell_below hb h.2.2.1, pw_cell_below hb h.2.2.2.1, pw_cell_below hb h.2.2.2.2.1, pw_cell_below hb h.2.2.2.2.2.1, pw_cell_below hb h.2.2.2.2.2.2.1, pw_cell_below hb h.2.2.2.2.2.2.2⟩
def rulBox (r : Rul) (A2 : Option Addr) (c2 : Nat) : Obj := .cells #[.string r.name, .int .i64 r.kind, .slice A2 r.cols.length c2, .int .i64 r.low, .int .i64 r.high, .string r.schema, .string r.table, .string r.key] 29
theorem BoxR_new (w : World) (r : Rul) (A2 : Option Addr) (c2 : Nat) : BoxR (w.alloc (rulBox r A2 c2)) w.heap.size r A2 c2 := by
  have h := fun i => World.cell?_alloc_new (w := w) #[.string r.name, .int .i64 r.kind, .slice A2 r.cols.length c2, .int .i64 r.low, .int .i64 r.high, .string r.schema, .string r.table, .string r.key] 29 i
  exact ⟨h 0, h 1, h 2, h 3, h 4, h 5, h 6, h 7⟩
theorem bare_cat (a b c : ByteArray) : (a ++ b ++ c).toList.isEmpty = (a.toList.isEmpty && (b.toList.isEmpty && c.toList.isEmpty)) := by
  have h : ∀ s : ByteArray, s.toList.isEmpty = decide (s.size = 0) := fun s => by
    rcases Nat.eq_zero_or_pos s.size with h0 | h0
    · rw [str_nil s h0, decide_eq_true h0]; rfl
    · rw [str_ne s h0, decide_eq_false (by omega)]
  rw [h, h, h, h, ByteArray.size_append, ByteArray.size_append]
  by_cases h1 : a.size = 0 <;> by_cases h2 : b.size = 0 <;> by_cases h3 : c.size = 0 <;> simp [h1, h2, h3]
theorem idx_has {l : List Col} {r : List ByteArray} {k : Nat} (hk : k < r.length) (h : fitAt l r k = true) : ∃ n, ∃ hn : n < l.length, idx (fun x : Col => x.name.toList == r[k].toList) l = (n : Int) ∧ True ∧ True := by
  rw [fitAt_at hk, Bool.and_eq_true] at h
  have h1 := of_decide_eq_true h.1
  rcases idx_cases (fun x : Col => x.name.toList == r[k].toList) l with ⟨n, hn, e, _⟩ | ⟨e, _⟩
  · exact ⟨n, hn, e, trivial, trivial⟩
  · omega
set_option maxHeartbeats 2000000 in
theorem fits.calls {A0 A2 : Option Addr} {c0 c2 : Nat} (xs : List Col) (r : Rul) (w : World) (hr : kCol.C w A0 xs.length xs) (hl : xs.length ≤ 140737488355328) (hr2 : Kd.string.C w A2 r.cols.length r.cols) (hl2 : r.cols.length ≤ 140737488355328) (hz : RulZ r) :
    Calls Tryz.prog 28 #[.slice A0 xs.length c0, .agg #[.string r.name, .int .i64 r.kind, .slice A2 r.cols.length c2, .int .i64 r.low, .int .i64 r.high, .string r.schema, .string r.table, .string r.key]] w fun e w' => e = .returned (.bool (fitsB xs r)) ∧ Below w.heap.size w w' := by
  have HR := Aside0.mk hr
  have HR2 := Aside0.mk hr2
  have HX := Aside0.mk (BoxR_new w r A2 c2)
  have HW : Aside0 (Below w.heap.size w (w.alloc (rulBox r A2 c2))) := ⟨below_alloc (Below.refl _ _) _⟩
  generalize hi : fitsB xs r = q
  have HI := Aside0.mk hi
  clear hr hi hr2
  have HN := Aside0.mk (fun W => Name.calls r.name W)
  generalize hnm : nameB r.name = nm at HN
  have HNM := Aside0.mk hnm
  clear hnm
  cases nm with
  | false =>
    go_enter Tryz.func28, Tryz.ntmps28
    go_wp2_with fail
    refine (HN.out _).mono ?_
    rintro e w1 ⟨rfl, rfl⟩
    go_wp2
    go_ret
    exact ⟨ret_bool (by rw [← HI.out]; unfold fitsB; rw [HNM.out]; rfl), HW.out⟩
  | true =>
    by_cases h1 : 1 ≤ r.cols.length
    · have g1 : ¬ (r.cols.length : Int) < 1 := by omega
      by_cases h2 : r.cols.length ≤ xs.length
      · have g2 : ¬ (xs.length : Int) < (r.cols.length : Int) := by omega
        have d1 : decide ((r.cols.length : Int) < 1) = false := decide_eq_false g1
        have d2 : decide (xs.length < r.cols.length) = false := decide_eq_false (by omega)
        go_enter Tryz.func28, Tryz.ntmps28
        go_wp2_with fail
        refine (HN.out _).mono ?_
        rintro e w1 ⟨rfl, rfl⟩
        go_wp2
        go_loopw [29] (fun i w' => ∃ k : Nat, k ≤ r.cols.length ∧ i = .int .i64 k ∧ Aside0 ((∀ j, j < k → fitAt xs r.cols j = true) ∧ BoxR w' w.heap.size r A2 c2 ∧ Below w.heap.size w w')) (fun i _ => r.cols.length - (intOf i).toNat)
        case atStart => exact ⟨0, Nat.zero_le _, rfl, ⟨fun _ h => absurd h (Nat.not_lt_zero _), HX.out, HW.out⟩⟩
        case round =>
          obtain ⟨k, hk, rfl, HJ⟩ := hrel
          obtain ⟨b0, b1, b2, b3, b4, b5, b6, b7⟩ := HJ.out.2.1
          by_cases hlt : k < r.cols.length
          · obtain ⟨ad2, e, hs⟩ := cStr (Kd.C_below HR2.out HJ.out.2.2) k hlt
            cases e
            have HC := Aside0.mk (fun W (hW : Below w.heap.size w W) => byNameCol.calls A0 c0 xs r.cols[k] W (Kd.C_below HR.out hW) hl)
            have HS := Aside0.mk (fun W (hW : Below w.heap.size w W) => sIndex.calls (A0 := some ad2) (c0 := c2) r.cols[k] r.cols W (Kd.C_below HR2.out hW) hl2)
            have HE := Aside0.mk (fitAt_at (l := xs) hlt)
            generalize idx (fun x : Col => x.name.toList == r.cols[k].toList) xs = m at HC HE
            generalize idx (fun y : ByteArray => r.cols[k].toList == y.toList) r.cols = n at HS HE
            by_cases hm : m < 0
            · have hm' : ¬ 0 ≤ m := by omega
              go_wp2_with fail
              refine (HC.out _ HJ.out.2.2).mono ?_
              rintro e w1 ⟨rfl, hb1⟩
              have HB := Aside0.mk (HJ.out.2.2.trans (hb1.mono HJ.out.2.2.size))
              clear hb1
              go_wp2
              go_ret
              exact ⟨ret_bool ((fits_none (allB_false hlt (by rw [HE.out, decide_eq_false (show ¬ 0 ≤ m by omega), Bool.false_and]))).symm.trans HI.out), HB.out⟩
            · have hm' : 0 ≤ m := by omega
              go_wp2_with fail
              refine (HC.out _ HJ.out.2.2).mono ?_
              rintro e w1 ⟨rfl, hb1⟩
              have HB := Aside0.mk (HJ.out.2.2.trans (hb1.mono HJ.out.2.2.size))
              have HX1 := Aside0.mk (HJ.out.2.1.below hb1)
              have b2' := HX1.out.2.2.1
              clear hb1
              go_wp2_with fail
              refine (HS.out _ HB.out).mono ?_
              rintro e w2 ⟨rfl, hb2⟩
              have HB2 := Aside0.mk (HB.out.trans (hb2.mono HB.out.size))
              have HX2 := Aside0.mk (HX1.out.below hb2)
              clear hb2
              cases hn : (n != (k : Int)) with
              | true =>
                go_wp2
                go_ret
                exact ⟨ret_bool ((fits_none (allB_false hlt (by rw [HE.out, decide_eq_false (show ¬ n = (k : Int) by simpa using hn), Bool.and_false]))).symm.trans HI.out), HB2.out⟩
              | false =>
                go_wp2
                go_roundw
                case rel => exact ⟨k + 1, by omega, by go_num, ⟨snocB HJ.out.1 (by rw [HE.out, decide_eq_true hm', decide_eq_true (show n = (k : Int) by simpa using hn)]; rfl), HX2.out, HB2.out⟩⟩
                case measure => simp [intOf]; omega
          · have hd : decide (k < r.cols.length) = false := decide_eq_false hlt
            have HT := Aside0.mk ((fits_tail HNM.out h1 (allB_true fun j hj => HJ.out.1 j (by omega))).symm.trans HI.out)
            have z1 : r.schema.size + r.table.size ≤ 9223372036854775807 := by have := hz.1; have := hz.2.1; omega
            have z2 : r.schema.size + r.table.size + r.key.size ≤ 9223372036854775807 := by have := hz.1; have := hz.2.1; have := hz.2.2; omega
            have HA := Aside0.mk (show ∀ j, j < r.cols.length → fitAt xs r.cols j = true from fun j hj => HJ.out.1 j (by omega))
            by_cases k3 : r.kind = 3
            · skip
              cases e5 : r.schema.toList.isEmpty with
              | false =>
                have hb1 : (r.schema ++ r.table ++ r.key).toList.isEmpty = false := by rw [bare_cat]; simp [e5]
                go_wp2
                go_ret
                exact ⟨ret_bool (by rw [← HT.out, tailB]; simp [bareR, k3, e5]), HJ.out.2.2⟩
              | true =>
                cases e6 : r.table.toList.isEmpty with
                | false =>
                  have hb1 : (r.schema ++ r.table ++ r.key).toList.isEmpty = false := by rw [bare_cat]; simp [e5, e6]
                  go_wp2
                  go_ret
                  exact ⟨ret_bool (by rw [← HT.out, tailB]; simp [bareR, k3, e5, e6]), HJ.out.2.2⟩
                | true =>
                  cases e7 : r.key.toList.isEmpty with
                  | false =>
                    have hb1 : (r.schema ++ r.table ++ r.key).toList.isEmpty = false := by rw [bare_cat]; simp [e5, e6, e7]
                    go_wp2
                    go_ret
                    exact ⟨ret_bool (by rw [← HT.out, tailB]; simp [bareR, k3, e5, e6, e7]), HJ.out.2.2⟩
                  | true =>
                    have hb1 : (r.schema ++ r.table ++ r.key).toList.isEmpty = true := by rw [bare_cat]; simp [e5, e6, e7]
                    by_cases e1 : r.cols.length = 1
                    · obtain ⟨ad2, e, hs⟩ := cStr (Kd.C_below HR2.out HJ.out.2.2) 0 (by omega)
                      cases e
                      have HC := Aside0.mk (fun W (hW : Below w.heap.size w W) => byNameCol.calls A0 c0 xs r.cols[0] W (Kd.C_below HR.out hW) hl)
                      obtain ⟨n, hn, en, _, _⟩ := idx_has (show 0 < r.cols.length by omega) (HA.out 0 (by omega))
                      have EN := Aside0.mk en
                      rw [en] at HC
                      clear en
                      have hk0 : kindAt xs r.cols[0] = xs[n].kind := by unfold kindAt; rw [EN.out, Int.toNat_natCast, getD_at hn]
                      have HK0 := Aside0.mk hk0
                      clear hk0
                      have e1' : ((r.cols.length : Int) == 1) = true := by rw [e1]; rfl
                      have hs' : wr.cell? ad2 = some (.string r.cols[0]) := by simpa [Addr.add] using hs
                      go_wp2_with fail
                      refine (HC.out _ HJ.out.2.2).mono ?_
                      rintro e w1 ⟨rfl, hb1⟩
                      have HB1 := Aside0.mk (HJ.out.2.2.trans (hb1.mono HJ.out.2.2.size))
                      obtain ⟨c0_, c1_, c2_, c3_, c4_, c5_, c6_, c7_⟩ := HJ.out.2.1.below hb1
                      clear hb1
                      obtain ⟨ad, e, hc0, hc1, hc2⟩ := cCol (Kd.C_below HR.out HB1.out) n hn
                      cases e
                      cases q2 : (xs[n].kind == 2) with
                      | false =>
                        go_wp2
                        go_ret
                        exact ⟨ret_bool (by rw [← HT.out, tailB]; simp [bareR, k3, e5, e6, e7, q2, HK0.out, e1]), HB1.out⟩
                      | true =>
                        by_cases lh : r.low ≤ r.high
                        · skip
                          go_wp2
                          go_ret
                          exact ⟨ret_bool (by rw [← HT.out, tailB]; simp [bareR, k3, e5, e6, e7, q2, lh, HK0.out, e1]), HB1.out⟩
                        · have lh' : r.high < r.low := by omega
                          go_wp2
                          go_ret
                          exact ⟨ret_bool (by rw [← HT.out, tailB]; simp [bareR, k3, e5, e6, e7, q2, lh, HK0.out, e1]), HB1.out⟩
                    · have e1' : ((r.cols.length : Int) == 1) = false := beq_eq_false_iff_ne.2 (by omega)
                      go_wp2
                      go_ret
                      exact ⟨ret_bool (by rw [← HT.out, tailB]; simp [bareR, k3, e5, e6, e7, e1]), HJ.out.2.2⟩
            · by_cases k4 : r.kind = 4
              · skip
                have Hn5 := Aside0.mk (fun W => Name.calls r.schema W)
                have Hn6 := Aside0.mk (fun W => Name.calls r.table W)
                have Hn7 := Aside0.mk (fun W => Name.calls r.key W)
                cases n5 : nameB r.schema with
                | false =>
                  rw [n5] at Hn5
                  go_wp2_with fail
                  refine (Hn5.out _).mono ?_
                  rintro e _ ⟨rfl, rfl⟩
                  go_wp2
                  go_ret
                  exact ⟨ret_bool (by rw [← HT.out, tailB]; simp [bareR, k4, n5]), HJ.out.2.2⟩
                | true =>
                  rw [n5] at Hn5
                  cases n6 : nameB r.table with
                  | false =>
                    rw [n6] at Hn6
                    go_wp2_with fail
                    refine (Hn5.out _).mono ?_
                    rintro e _ ⟨rfl, rfl⟩
                    go_wp2_with fail
                    refine (Hn6.out _).mono ?_
                    rintro e _ ⟨rfl, rfl⟩
                    go_wp2
                    go_ret
                    exact ⟨ret_bool (by rw [← HT.out, tailB]; simp [bareR, k4, n5, n6]), HJ.out.2.2⟩
                  | true =>
                    rw [n6] at Hn6
                    cases n7 : nameB r.key with
                    | false =>
                      rw [n7] at Hn7
                      go_wp2_with fail
                      refine (Hn5.out _).mono ?_
                      rintro e _ ⟨rfl, rfl⟩
                      go_wp2_with fail
                      refine (Hn6.out _).mono ?_
                      rintro e _ ⟨rfl, rfl⟩
                      go_wp2_with fail
                      refine (Hn7.out _).mono ?_
                      rintro e _ ⟨rfl, rfl⟩
                      go_wp2
                      go_ret
                      exact ⟨ret_bool (by rw [← HT.out, tailB]; simp [bareR, k4, n5, n6, n7]), HJ.out.2.2⟩
                    | true =>
                      rw [n7] at Hn7
                      cases l0 : (r.low == 0) with
                      | false =>
                        go_wp2_with fail
                        refine (Hn5.out _).mono ?_
                        rintro e _ ⟨rfl, rfl⟩
                        go_wp2_with fail
                        refine (Hn6.out _).mono ?_
                        rintro e _ ⟨rfl, rfl⟩
                        go_wp2_with fail
                        refine (Hn7.out _).mono ?_
                        rintro e _ ⟨rfl, rfl⟩
                        go_wp2
                        go_ret
                        exact ⟨ret_bool (by rw [← HT.out, tailB]; simp [bareR, k4, n5, n6, n7, l0]), HJ.out.2.2⟩
                      | true =>
                        cases h0 : (r.high == 0) with
                        | false =>
                          go_wp2_with fail
                          refine (Hn5.out _).mono ?_
                          rintro e _ ⟨rfl, rfl⟩
                          go_wp2_with fail
                          refine (Hn6.out _).mono ?_
                          rintro e _ ⟨rfl, rfl⟩
                          go_wp2_with fail
                          refine (Hn7.out _).mono ?_
                          rintro e _ ⟨rfl, rfl⟩
                          go_wp2
                          go_ret
                          exact ⟨ret_bool (by rw [← HT.out, tailB]; simp [bareR, k4, n5, n6, n7, l0, h0]), HJ.out.2.2⟩
                        | true =>
                          go_wp2_with fail
                          refine (Hn5.out _).mono ?_
                          rintro e _ ⟨rfl, rfl⟩
                          go_wp2_with fail
                          refine (Hn6.out _).mono ?_
                          rintro e _ ⟨rfl, rfl⟩
                          go_wp2_with fail
                          refine (Hn7.out _).mono ?_
                          rintro e _ ⟨rfl, rfl⟩
                          go_wp2
                          go_ret
                          exact ⟨ret_bool (by rw [← HT.out, tailB]; simp [bareR, k4, n5, n6, n7, l0, h0]), HJ.out.2.2⟩
              · by_cases k1 : r.kind = 1
                · skip
                  cases e5 : r.schema.toList.isEmpty with
                  | false =>
                    have hb1 : (r.schema ++ r.table ++ r.key).toList.isEmpty = false := by rw [bare_cat]; simp [e5]
                    go_wp2
                    go_ret
                    exact ⟨ret_bool (by rw [← HT.out, tailB]; simp [bareR, k1, e5]), HJ.out.2.2⟩
                  | true =>
                    cases e6 : r.table.toList.isEmpty with
                    | false =>
                      have hb1 : (r.schema ++ r.table ++ r.key).toList.isEmpty = false := by rw [bare_cat]; simp [e5, e6]
                      go_wp2
                      go_ret
                      exact ⟨ret_bool (by rw [← HT.out, tailB]; simp [bareR, k1, e5, e6]), HJ.out.2.2⟩
                    | true =>
                      cases e7 : r.key.toList.isEmpty with
                      | false =>
                        have hb1 : (r.schema ++ r.table ++ r.key).toList.isEmpty = false := by rw [bare_cat]; simp [e5, e6, e7]
                        go_wp2
                        go_ret
                        exact ⟨ret_bool (by rw [← HT.out, tailB]; simp [bareR, k1, e5, e6, e7]), HJ.out.2.2⟩
                      | true =>
                        have hb1 : (r.schema ++ r.table ++ r.key).toList.isEmpty = true := by rw [bare_cat]; simp [e5, e6, e7]
                        cases l0 : (r.low == 0) with
                        | false =>
                          go_wp2
                          go_ret
                          exact ⟨ret_bool (by rw [← HT.out, tailB]; simp [bareR, k1, e5, e6, e7, l0]), HJ.out.2.2⟩
                        | true =>
                          cases h0 : (r.high == 0) with
                          | false =>
                            go_wp2
                            go_ret
                            exact ⟨ret_bool (by rw [← HT.out, tailB]; simp [bareR, k1, e5, e6, e7, l0, h0]), HJ.out.2.2⟩
                          | true =>
                            go_wp2
                            go_ret
                            exact ⟨ret_bool (by rw [← HT.out, tailB]; simp [bareR, k1, e5, e6, e7, l0, h0]), HJ.out.2.2⟩
                · by_cases k2 : r.kind = 2
                  · skip
                    cases e5 : r.schema.toList.isEmpty with
                    | false =>
                      have hb1 : (r.schema ++ r.table ++ r.key).toList.isEmpty = false := by rw [bare_cat]; simp [e5]
                      go_wp2
                      go_ret
                      exact ⟨ret_bool (by rw [← HT.out, tailB]; simp [bareR, k2, e5]), HJ.out.2.2⟩
                    | true =>
                      cases e6 : r.table.toList.isEmpty with
                      | false =>
                        have hb1 : (r.schema ++ r.table ++ r.key).toList.isEmpty = false := by rw [bare_cat]; simp [e5, e6]
                        go_wp2
                        go_ret
                        exact ⟨ret_bool (by rw [← HT.out, tailB]; simp [bareR, k2, e5, e6]), HJ.out.2.2⟩
                      | true =>
                        cases e7 : r.key.toList.isEmpty with
                        | false =>
                          have hb1 : (r.schema ++ r.table ++ r.key).toList.isEmpty = false := by rw [bare_cat]; simp [e5, e6, e7]
                          go_wp2
                          go_ret
                          exact ⟨ret_bool (by rw [← HT.out, tailB]; simp [bareR, k2, e5, e6, e7]), HJ.out.2.2⟩
                        | true =>
                          have hb1 : (r.schema ++ r.table ++ r.key).toList.isEmpty = true := by rw [bare_cat]; simp [e5, e6, e7]
                          cases l0 : (r.low == 0) with
                          | false =>
                            go_wp2
                            go_ret
                            exact ⟨ret_bool (by rw [← HT.out, tailB]; simp [bareR, k2, e5, e6, e7, l0]), HJ.out.2.2⟩
                          | true =>
                            cases h0 : (r.high == 0) with
                            | false =>
                              go_wp2
                              go_ret
                              exact ⟨ret_bool (by rw [← HT.out, tailB]; simp [bareR, k2, e5, e6, e7, l0, h0]), HJ.out.2.2⟩
                            | true =>
                              go_wp2
                              go_ret
                              exact ⟨ret_bool (by rw [← HT.out, tailB]; simp [bareR, k2, e5, e6, e7, l0, h0]), HJ.out.2.2⟩
                  · have q1 : (r.kind == 1) = false := beq_eq_false_iff_ne.2 k1
                    have q2 : (r.kind == 2) = false := beq_eq_false_iff_ne.2 k2
                    have q3 : (r.kind == 3) = false := beq_eq_false_iff_ne.2 k3
                    have q4 : (r.kind == 4) = false := beq_eq_false_iff_ne.2 k4
                    go_wp2
                    go_ret
                    exact ⟨ret_bool (by rw [← HT.out, tailB]; simp [bareR, k1, k2, k3, k4]), HJ.out.2.2⟩
      · have g2 : (xs.length : Int) < (r.cols.length : Int) := by omega
        go_enter Tryz.func28, Tryz.ntmps28
        go_wp2_with fail
        refine (HN.out _).mono ?_
        rintro e w1 ⟨rfl, rfl⟩
        go_wp2
        go_ret
        exact ⟨ret_bool (by
          rw [← HI.out]; unfold fitsB
          cases ha : allB r.cols.length (fitAt xs r.cols) with
          | false => simp
          | true => exact absurd (fit_few fun k hk => allB_at ha hk) h2), HW.out⟩
    · have g1 : (r.cols.length : Int) < 1 := by omega
      go_enter Tryz.func28, Tryz.ntmps28
      go_wp2_with fail
      refine (HN.out _).mono ?_
      rintro e w1 ⟨rfl, rfl⟩
      go_wp2
      go_ret
      exact ⟨ret_bool (by rw [← HI.out]; unfold fitsB; rw [decide_eq_false h1, Bool.false_and, Bool.and_false]), HW.out⟩
end Go.Proofs.YtmmiehckgkadgaaGreat.O
namespace Go.Proofs.YtmmiehckgkadgaaGreat.O
set_option linter.unusedVariables false
set_option linter.unusedSimpArgs false
open Go.RowKit Go.Proofs.YtmmiehckgkadgaaGreatW.PrintWords
def pairOK (l c : List Col) (a b : ByteArray) : Bool := decide (kindOf l a = kindOf c b) && (kindOf l a).isSome
def goB (l c : List Col) (ns ms : List ByteArray) : Bool := decide (ms.length = ns.length) && allB ms.length (fun i => pairOK l c (ns.getD i nStr) (ms.getD i nStr))
def keyE (ts : List Tab) (l : List Col) (r : Rul) : Int :=
  if idx (isT r.schema r.table) ts < 0 then 61
  else if idx (fun x => x.name.toList == r.key.toList) (ts.getD (idx (isT r.schema r.table) ts).toNat zTab).rules < 0 then 61
  else if ((ts.getD (idx (isT r.schema r.table) ts).toNat zTab).rules.getD (idx (fun x => x.name.toList == r.key.toList) (ts.getD (idx (isT r.schema r.table) ts).toNat zTab).rules).toNat zRul).kind = 2 then
    (if goB l (ts.getD (idx (isT r.schema r.table) ts).toNat zTab).cols r.cols ((ts.getD (idx (isT r.schema r.table) ts).toNat zTab).rules.getD (idx (fun x => x.name.toList == r.key.toList) (ts.getD (idx (isT r.schema r.table) ts).toNat zTab).rules).toNat zRul).cols = true then 0 else 63)
  else 61
theorem keyE_none {ts : List Tab} {l : List Col} {r : Rul} (h : idx (isT r.schema r.table) ts = -1) : keyE ts l r = 61 := by unfold keyE; rw [h]; rfl
theorem keyE_some {ts : List Tab} {l : List Col} {r : Rul} {n : Nat} (hn : n < ts.length) (h : idx (isT r.schema r.table) ts = (n : Int)) :
    keyE ts l r = if idx (fun x => x.name.toList == r.key.toList) ts[n].rules < 0 then 61 else if (ts[n].rules.getD (idx (fun x => x.name.toList == r.key.toList) ts[n].rules).toNat zRul).kind = 2 then (if goB l ts[n].cols r.cols (ts[n].rules.getD (idx (fun x => x.name.toList == r.key.toList) ts[n].rules).toNat zRul).cols = true then 0 else 63) else 61 := by
  unfold keyE; rw [h, if_neg (by omega), Int.toNat_natCast, getD_at hn]
theorem keyE_bare {t : Tab} {l : List Col} {r : Rul} (h : idx (fun x : Rul => x.name.toList == r.key.toList) t.rules = -1) : (if idx (fun x : Rul => x.name.toList == r.key.toList) t.rules < 0 then (61 : Int) else if (t.rules.getD (idx (fun x => x.name.toList == r.key.toList) t.rules).toNat zRul).kind = 2 then (if goB l t.cols r.cols (t.rules.getD (idx (fun x => x.name.toList == r.key.toList) t.rules).toNat zRul).cols = true then 0 else 63) else 61) = 61 := by rw [h]; rfl
theorem keyE_rule {t : Tab} {l : List Col} {r : Rul} {m : Nat} (hm : m < t.rules.length) (h : idx (fun x : Rul => x.name.toList == r.key.toList) t.rules = (m : Int)) : (if idx (fun x : Rul => x.name.toList == r.key.toList) t.rules < 0 then (61 : Int) else if (t.rules.getD (idx (fun x => x.name.toList == r.key.toList) t.rules).toNat zRul).kind = 2 then (if goB l t.cols r.cols (t.rules.getD (idx (fun x => x.name.toList == r.key.toList) t.rules).toNat zRul).cols = true then 0 else 63) else 61) = if t.rules[m].kind = 2 then (if goB l t.cols r.cols t.rules[m].cols = true then 0 else 63) else 61 := by
  rw [h, if_neg (by omega), Int.toNat_natCast, getD_at hm]
theorem kindsL_cons (l : List Col) (a : ByteArray) (ns : List ByteArray) : kindsL l (a :: ns) = (match kindOf l a with | some x => x :: kindsL l ns | none => kindsL l ns) := by
  unfold kindsL; rw [List.filterMap_cons]; cases kindOf l a <;> rfl
theorem go_list (l c : List Col) : ∀ (ms ns : List ByteArray), ms.length = ns.length → ((∀ i, i < ms.length → pairOK l c (ns.getD i nStr) (ms.getD i nStr) = true) ↔ ((kindsL c ms).length = ms.length ∧ kindsL l ns = kindsL c ms))
  | [], [], _ => by simp [kindsL]
  | b :: ms, a :: ns, hl => by
    have hl' : ms.length = ns.length := by simpa using hl
    have ih := go_list l c ms ns hl'
    have split : (∀ i, i < (b :: ms).length → pairOK l c ((a :: ns).getD i nStr) ((b :: ms).getD i nStr) = true) ↔ (pairOK l c a b = true ∧ ∀ i, i < ms.length → pairOK l c (ns.getD i nStr) (ms.getD i nStr) = true) := by
      constructor
      · intro h
        exact ⟨h 0 (by simp), fun i hi => h (i + 1) (by simpa using hi)⟩
      · rintro ⟨h0, h⟩ i hi
        cases i with
        | zero => exact h0
        | succ i => exact h i (by simpa using hi)
    rw [split, ih, kindsL_cons, kindsL_cons]
    have l1 := kindsL_le c ms
    have l2 := kindsL_le l ns
    unfold pairOK
    cases e1 : kindOf l a with
    | none =>
      cases e2 : kindOf c b with
      | none =>
        simp only [Option.isSome_none, Bool.and_false, List.length_cons]
        constructor
        · exact fun h => by simp at h
        · rintro ⟨h1, h2⟩; omega
      | some y =>
        simp only [Option.isSome_none, Bool.and_false, List.length_cons]
        constructor
        · exact fun h => by simp at h
        · rintro ⟨h1, h2⟩
          have := congrArg List.length h2
          rw [List.length_cons] at this
          omega
    | some x =>
      cases e2 : kindOf c b with
      | none =>
        simp only [List.length_cons]
        constructor
        · exact fun h => by simp at h
        · rintro ⟨h1, h2⟩; omega
      | some y =>
        simp only [List.length_cons, Option.isSome_some, Bool.and_true, decide_eq_true_eq, Option.some.injEq, List.cons.injEq]
        constructor
        · rintro ⟨h1, h2, h3⟩; exact ⟨by omega, h1, h3⟩
        · rintro ⟨h1, h2, h3⟩; exact ⟨h2, by omega, h3⟩
theorem goB_yes {l c : List Col} {ns ms : List ByteArray} (h1 : ms.length = ns.length) (h2 : (kindsL c ms).length = ms.length) (h3 : kindsL l ns = kindsL c ms) : goB l c ns ms = true := by
  unfold goB; rw [decide_eq_true h1, Bool.true_and]; exact allB_true ((go_list l c ms ns h1).2 ⟨h2, h3⟩)
theorem goB_no {l c : List Col} {ns ms : List ByteArray} (h : ¬ (ms.length = ns.length ∧ (kindsL c ms).length = ms.length ∧ kindsL l ns = kindsL c ms)) : goB l c ns ms = false := by
  cases e : goB l c ns ms with
  | false => rfl
  | true =>
    exfalso; apply h
    unfold goB at e
    rw [Bool.and_eq_true] at e
    have h1 := of_decide_eq_true e.1
    exact ⟨h1, (go_list l c ms ns h1).1 (fun i hi => allB_at e.2 hi)⟩
def RulF (r : Rul) : Prop := r.cols.length ≤ 8796093022208 ∧ RulZ r
def TabF (t : Tab) : Prop := t.cols.length ≤ 8796093022208 ∧ t.rules.length ≤ 8796093022208 ∧ ∀ r ∈ t.rules, RulF r
def TabsF (ts : List Tab) : Prop := ts.length ≤ 8796093022208 ∧ ∀ t ∈ ts, TabF t
def BoxT (W : World) (g : Nat) (t : Tab) (A3 : Option Addr) (c3 : Nat) (A4 : Option Addr) (c4 : Nat) : Prop := W.cell? ⟨g, 0, none⟩ = some (.string t.schema) ∧ W.cell? ⟨g, 1, none⟩ = some (.string t.name) ∧ W.cell? ⟨g, 2, none⟩ = some (.string t.owner) ∧ W.cell? ⟨g, 3, none⟩ = some (.slice A3 t.cols.length c3) ∧ W.cell? ⟨g, 4, none⟩ = some (.slice A4 t.rules.length c4)
theorem BoxT.below {W W' : World} {g : Nat} {t : Tab} {A3 A4 : Option Addr} {c3 c4 : Nat} (h : BoxT W g t A3 c3 A4 c4) (hb : Below W.heap.size W W') : BoxT W' g t A3 c3 A4 c4 :=
  ⟨pw_cell_below hb h.1, pw_cell_below hb h.2.1, pw_cell_below hb h.2.2.1, pw_cell_below hb h.2.2.2.1, pw_cell_below hb h.2.2.2.2⟩
def tabBox (t : Tab) (A3 : Option Addr) (c3 : Nat) (A4 : Option Addr) (c4 : Nat) : Obj := .cells #[.string t.schema, .string t.name, .string t.owner, .slice A3 t.cols.length c3, .slice A4 t.rules.length c4] 50
theorem BoxT_new (w : World) (t : Tab) (A3 : Option Addr) (c3 : Nat) (A4 : Option Addr) (c4 : Nat) : BoxT (w.alloc (tabBox t A3 c3 A4 c4)) w.heap.size t A3 c3 A4 c4 := by
  have h := fun i => World.cell?_alloc_new (w := w) #[.string t.schema, .string t.name, .string t.owner, .slice A3 t.cols.length c3, .slice A4 t.rules.length c4] 50 i
  exact ⟨h 0, h 1, h 2, h 3, h 4⟩
def BoxO (W : World) (g : Nat) (As : Option Addr) (ns cs : Nat) (At : Option Addr) (nt ct : Nat) : Prop := W.cell? ⟨g, 0, none⟩ = some (.slice As ns cs) ∧ W.cell? ⟨g, 1, none⟩ = some (.slice At nt ct)
theorem BoxO.below {W W' : World} {g : Nat} {As At : Option Addr} {ns cs nt ct : Nat} (h : BoxO W g As ns cs At nt ct) (hb : Below W.heap.size W W') : BoxO W' g As ns cs At nt ct := ⟨pw_cell_below hb h.1, pw_cell_below hb h.2⟩
def objBox (As : Option Addr) (ns cs : Nat) (At : Option Addr) (nt ct : Nat) : Obj := .cells #[.slice As ns cs, .slice At nt ct] 25
theorem BoxO_new (w : World) (As : Option Addr) (ns cs : Nat) (At : Option Addr) (nt ct : Nat) : BoxO (w.alloc (objBox As ns cs At nt ct)) w.heap.size As ns cs At nt ct := by
  have h := fun i => World.cell?_alloc_new (w := w) #[.slice As ns cs, .slice At nt ct] 25 i
  exact ⟨h 0, h 1⟩
theorem keep2b {w0 w w' : World} {a b : Addr} {u v : Value} (h : w.cell? a = some u ∧ w.cell? b = some v ∧ Below w0.heap.size w0 w) (hb : Below w.heap.size w w') : w'.cell? a = some u ∧ w'.cell? b = some v ∧ Below w0.heap.size w0 w' :=
  ⟨pw_cell_below hb h.1, pw_cell_below hb h.2.1, h.2.2.trans (hb.mono h.2.2.size)⟩
set_option maxHeartbeats 2000000 in
theorem key.calls {As At A0 A2 : Option Addr} {ns cs ct c0 c2 : Nat} (ts : List Tab) (xs : List Col) (r : Rul) (w : World) (ht : kTab.C w At ts.length ts) (hF : TabsF ts) (hr : kCol.C w A0 xs.length xs) (hl : xs.length ≤ 140737488355328) (hr2 : Kd.string.C w A2 r.cols.length r.cols) (hl2 : r.cols.length ≤ 8796093022208) :
    Calls Tryz.prog 31 #[.agg #[.slice As ns cs, .slice At ts.length ct], .slice A0 xs.length c0, .agg #[.string r.name, .int .i64 r.kind, .slice A2 r.cols.length c2, .int .i64 r.low, .int .i64 r.high, .string r.schema, .string r.table, .string r.key]] w fun e w' => e = .returned (.int .i64 (keyE ts xs r)) ∧ Below w.heap.size w w' := by
  have HF := Aside0.mk hF
  have HT := Aside0.mk ht
  have HR := Aside0.mk hr
  have HR2 := Aside0.mk hr2
  have HX := Aside0.mk ((BoxO_new w As ns cs At ts.length ct).below (below_alloc (Below.refl _ _) (rulBox r A2 c2)))
  have HX2 := Aside0.mk (show BoxR ((w.alloc (objBox As ns cs At ts.length ct)).alloc (rulBox r A2 c2)) (w.heap.size + 1) r A2 c2 by have := BoxR_new (w.alloc (objBox As ns cs At ts.length ct)) r A2 c2; simpa using this)
  have HW : Aside0 (Below w.heap.size w ((w.alloc (objBox As ns cs At ts.length ct)).alloc (rulBox r A2 c2))) := ⟨below_alloc (below_alloc (Below.refl _ _) _) _⟩
  generalize hi : keyE ts xs r = q
  have HI := Aside0.mk hi
  have HC := Aside0.mk (fun W (hW : Below w.heap.size w W) => where.calls (As := As) (ns := ns) (cs := cs) (At := At) (ct := ct) ts r.schema r.table W (Kd.C_below HT.out hW) (by have := HF.out.1; omega))
  clear hr hi hr2 ht hF
  rcases idx_cases (isT r.schema r.table) ts with ⟨n, hn, e, hz1⟩ | ⟨e, hz1⟩
  · clear hz1
    have HI1 := Aside0.mk ((keyE_some (l := xs) hn e).symm.trans HI.out)
    have hTF := Aside0.mk (HF.out.2 _ (List.getElem_mem hn))
    rw [e] at HC
    clear e
    have hge : decide ((0 : Int) ≤ (n : Int)) = true := decide_eq_true (by omega)
    rw [hge] at HC
    go_enter Tryz.func31, Tryz.ntmps31
    go_wp2_with fail
    refine (HC.out _ HW.out).mono ?_
    rintro e w1 ⟨rfl, hb1⟩
    have HB := Aside0.mk (HW.out.trans (hb1.mono HW.out.size))
    have HX3 := Aside0.mk (HX.out.below hb1)
    have HX4 := Aside0.mk (HX2.out.below hb1)
    clear hb1
    obtain ⟨o0, o1⟩ := HX3.out
    obtain ⟨b0, b1, b2, b3, b4, b5, b6, b7⟩ := HX4.out
    obtain ⟨ad, A3, c3, A4, c4, e, hc0, hc1, hc2, hc3, hc4, hs1, hs2, hs3, hs4⟩ := cTab (Kd.C_below HT.out HB.out) n hn
    cases e
    have HS := Aside0.mk (And.intro hs1 (And.intro hs2 (And.intro hs3 hs4)))
    clear hs1 hs2 hs3 hs4
    have b7' : ∀ o, (w1.alloc o).cell? ⟨w.heap.size + 1, 7, none⟩ = some (.string r.key) := fun o => pw_cell_below (below_alloc (Below.refl _ _) o) b7
    have HBX := Aside0.mk (BoxT_new w1 ts[n] A3 c3 A4 c4)
    have HB1 := Aside0.mk (below_alloc HB.out (tabBox ts[n] A3 c3 A4 c4))
    have HX5 := Aside0.mk (HX4.out.below (below_alloc (Below.refl _ _) (tabBox ts[n] A3 c3 A4 c4)))
    have HCR := Aside0.mk (fun W (hW : Below w1.heap.size w1 W) => byNameRul.calls A4 c4 ts[n].rules r.key W (Kd.C_below HS.out.2.2.2 hW) (by have := hTF.out.2.1; omega))
    rcases idx_cases (fun x : Rul => x.name.toList == r.key.toList) ts[n].rules with ⟨m, hm, e, hz1⟩ | ⟨e, hz1⟩
    · clear hz1
      have HI2 := Aside0.mk ((keyE_rule (l := xs) hm e).symm.trans HI1.out)
      have hRF := Aside0.mk (hTF.out.2.2 _ (List.getElem_mem hm))
      rw [e] at HCR
      clear e
      go_wp2_with fail
      refine (HCR.out _ (below_alloc (Below.refl _ _) _)).mono ?_
      rintro e w2 ⟨rfl, hb2⟩
      have HB2 := Aside0.mk (HB1.out.trans (hb2.mono HB1.out.size))
      have HBX2 := Aside0.mk (HBX.out.below hb2)
      have HX6 := Aside0.mk (HX5.out.below hb2)
      have HW12 := Aside0.mk (show Below w1.heap.size w1 w2 from (below_alloc (Below.refl _ _) (tabBox ts[n] A3 c3 A4 c4)).trans (hb2.mono (by simp)))
      clear hb2 b0 b1 b2 b3 b4 b5 b6 b7 b7' o0 o1 hc0 hc1 hc2 hc3 hc4
      obtain ⟨t0, t1, t2, t3, t4⟩ := HBX2.out
      obtain ⟨ad4, A5, c5, e, hd0, hd1, hd2, hd3, hd4, hd5, hd6, hd7, hs5, hs6⟩ := cRul (Kd.C_below HS.out.2.2.2 HW12.out) m hm
      cases e
      have HS2 := Aside0.mk (And.intro hs5 hs6)
      clear hs5 hs6
      cases hk2 : (ts[n].rules[m].kind != 2) with
      | true =>
        go_wp2
        go_ret
        exact ⟨ret_int (by rw [← HI2.out, if_neg (show ¬ ts[n].rules[m].kind = 2 by simpa using hk2)]), HB2.out⟩
      | false =>
        have HI3 := Aside0.mk (show (if goB xs ts[n].cols r.cols ts[n].rules[m].cols = true then (0 : Int) else 63) = q by rw [← HI2.out, if_pos (show ts[n].rules[m].kind = 2 by simpa using hk2)])
        obtain ⟨b0, b1, b2, b3, b4, b5, b6, b7⟩ := HX6.out
        have HK1 := Aside0.mk (fun W (hW : Below w.heap.size w W) => kinds.calls (A0 := A0) (c0 := c0) (A2 := A2) (c2 := c2) xs r.cols W (Kd.C_below HR.out hW) hl (Kd.C_below HR2.out hW) hl2)
        have HK2 := Aside0.mk (fun W (hW : Below w2.heap.size w2 W) => kinds.calls (A0 := A3) (c0 := c3) (A2 := A5) (c2 := c5) ts[n].cols ts[n].rules[m].cols W (Kd.C_below (Kd.C_below HS.out.2.1 HW12.out) hW) (by have := hTF.out.1; omega) (Kd.C_below HS2.out.2 hW) hRF.out.1)
        go_wp2_with fail
        go_region_held3 (fun w' => w'.cell? ⟨w.heap.size + 1, 2, none⟩ = some (.slice A2 r.cols.length c2) ∧ w'.cell? ⟨w1.heap.size, 3, none⟩ = some (.slice A3 ts[n].cols.length c3) ∧ Below w2.heap.size w2 w')
          (first | assumption | exact keep2b (by assumption) (by assumption) | exact ⟨b2, t3, pw_below_drewN (Below.refl _ _) 1⟩)
          (first | (go_at_call_of 83 (Value.slice A0 xs.length c0); refine (HK1.out _ (HB2.out.trans ((And.right (And.right (by assumption : _ ∧ _ ∧ Below w2.heap.size w2 _))).mono HB2.out.size))).mono ?_; rintro e w3 ⟨K1, d1, rfl, lk1, C1, hb⟩) | (go_at_call 83; refine (HK2.out _ (And.right (And.right (by assumption)))).mono ?_; rintro e w4 ⟨K2, d2, rfl, lk2, C2, hb⟩))
        · rename_i hH
          have HBf := Aside0.mk (HB2.out.trans (hH.2.2.mono HB2.out.size))
          have q2 := hH.1
          have HE := Aside0.mk (equalK.calls (A0 := K1) (c0 := d1) (B0 := K2) (d0 := d2) (kindsL xs r.cols) (kindsL ts[n].cols ts[n].rules[m].cols) w4 (Kd.C_below C1 hb) (by have := kindsL_le xs r.cols; omega) C2)
          clear hH hb C1 C2
          by_cases e1 : ts[n].rules[m].cols.length = r.cols.length
          · have f1 : ((ts[n].rules[m].cols.length : Int) != (r.cols.length : Int)) = false := by rw [e1]; simp
            by_cases e2 : (kindsL ts[n].cols ts[n].rules[m].cols).length = ts[n].rules[m].cols.length
            · have f2 : (((kindsL ts[n].cols ts[n].rules[m].cols).length : Int) != (ts[n].rules[m].cols.length : Int)) = false := by rw [e2]; simp
              by_cases e3 : kindsL xs r.cols = kindsL ts[n].cols ts[n].rules[m].cols
              · have HI4 := Aside0.mk (show (0 : Int) = q by rw [← HI3.out, goB_yes e1 e2 e3]; rfl)
                rw [decide_eq_true e3] at HE
                clear e1 e2 e3
                go_wp2_with fail
                refine HE.out.mono ?_
                rintro e w5 ⟨rfl, hb5⟩
                have HB5 := Aside0.mk (HBf.out.trans (hb5.mono HBf.out.size))
                clear hb5
                go_wp2
                go_ret
                exact ⟨ret_int HI4.out, HB5.out⟩
              · have HI4 := Aside0.mk (show (63 : Int) = q by rw [← HI3.out, goB_no (fun h => e3 h.2.2)]; rfl)
                rw [decide_eq_false e3] at HE
                clear e1 e2 e3
                go_wp2_with fail
                refine HE.out.mono ?_
                rintro e w5 ⟨rfl, hb5⟩
                have HB5 := Aside0.mk (HBf.out.trans (hb5.mono HBf.out.size))
                clear hb5
                go_wp2
                go_ret
                exact ⟨ret_int HI4.out, HB5.out⟩
            · have f2 : (((kindsL ts[n].cols ts[n].rules[m].cols).length : Int) != (ts[n].rules[m].cols.length : Int)) = true := bne_iff_ne.2 (by omega)
              have HI4 := Aside0.mk (show (63 : Int) = q by rw [← HI3.out, goB_no (fun h => e2 h.2.1)]; rfl)
              clear e1 e2
              go_wp2
              go_ret
              exact ⟨ret_int HI4.out, HBf.out⟩
          · have f1 : ((ts[n].rules[m].cols.length : Int) != (r.cols.length : Int)) = true := bne_iff_ne.2 (by omega)
            have HI4 := Aside0.mk (show (63 : Int) = q by rw [← HI3.out, goB_no (fun h => e1 h.1)]; rfl)
            clear e1
            go_wp2
            go_ret
            exact ⟨ret_int HI4.out, HBf.out⟩
    · clear hz1
      have HI2 := Aside0.mk ((keyE_bare (l := xs) e).symm.trans HI1.out)
      rw [e] at HCR
      clear e
      go_wp2_with fail
      refine (HCR.out _ (below_alloc (Below.refl _ _) _)).mono ?_
      rintro e w2 ⟨rfl, hb2⟩
      have HB2 := Aside0.mk (HB1.out.trans (hb2.mono HB1.out.size))
      clear hb2
      go_wp2
      go_ret
      exact ⟨ret_int HI2.out, HB2.out⟩
  · clear hz1
    have HI1 := Aside0.mk ((keyE_none (l := xs) e).symm.trans HI.out)
    rw [e, show decide ((0 : Int) ≤ -1) = false from rfl] at HC
    clear e
    go_enter Tryz.func31, Tryz.ntmps31
    go_wp2_with fail
    refine (HC.out _ HW.out).mono ?_
    rintro e w1 ⟨rfl, hb1⟩
    have HB := Aside0.mk (HW.out.trans (hb1.mono HW.out.size))
    clear hb1
    go_wp2
    go_ret
    exact ⟨ret_int HI1.out, HB.out⟩
end Go.Proofs.YtmmiehckgkadgaaGreat.O
namespace Go.Proofs.YtmmiehckgkadgaaGreat.O
set_option linter.unusedVariables false
set_option linter.unusedSimpArgs false
open Go.RowKit Go.Proofs.YtmmiehckgkadgaaGreatW.PrintWords
def ruleOK (ts : List Tab) (l : List Col) (r : Rul) : Bool := fitsB l r && (r.kind != 4 || keyE ts l r == 0)
def rulesOK (ts : List Tab) (t : Tab) : Bool := allB t.rules.length (fun i => ruleOK ts t.cols (t.rules.getD i zRul))
def rightT (ss : List Sch) (ts : List Tab) (t : Tab) : Bool :=
  nameB t.name && (nameB t.owner && (mayCols t.cols && (decide (t.rules.length ≤ 8) && (decide (0 ≤ idx (fun x => x.name.toList == t.schema.toList) ss) && (rulesOK ts t && rises (fun x y => cmpS x.name y.name) t.rules)))))
theorem rightT_tail {ss : List Sch} {ts : List Tab} {t : Tab} (h1 : nameB t.name = true) (h2 : nameB t.owner = true) (h3 : mayCols t.cols = true) (h4 : t.rules.length ≤ 8) (h5 : 0 ≤ idx (fun x => x.name.toList == t.schema.toList) ss) : rightT ss ts t = (rulesOK ts t && rises (fun x y => cmpS x.name y.name) t.rules) := by
  unfold rightT; rw [h1, h2, h3, decide_eq_true h4, decide_eq_true h5, Bool.true_and, Bool.true_and, Bool.true_and, Bool.true_and, Bool.true_and]
set_option maxHeartbeats 2000000 in
theorem right.calls {As At A3 A4 : Option Addr} {cs ct c3 c4 : Nat} (ss : List Sch) (ts : List Tab) (t : Tab) (w : World) (hs : kSch.C w As ss.length ss) (hsl : ss.length ≤ 140737488355328) (ht : kTab.C w At ts.length ts) (hF : TabsF ts) (h3 : kCol.C w A3 t.cols.length t.cols) (h4 : kRul.C w A4 t.rules.length t.rules) (hTF : TabF t) :
    Calls Tryz.prog 71 #[.agg #[.slice As ss.length cs, .slice At ts.length ct], .agg #[.string t.schema, .string t.name, .string t.owner, .slice A3 t.cols.length c3, .slice A4 t.rules.length c4]] w fun e w' => e = .returned (.bool (rightT ss ts t)) ∧ Below w.heap.size w w' := by
  have HF := Aside0.mk hF
  have HTF := Aside0.mk hTF
  have HS := Aside0.mk hs
  have HT := Aside0.mk ht
  have H3 := Aside0.mk h3
  have H4 := Aside0.mk h4
  have HX := Aside0.mk ((BoxO_new w As ss.length cs At ts.length ct).below (below_alloc (Below.refl _ _) (tabBox t A3 c3 A4 c4)))
  have HX2 := Aside0.mk (show BoxT ((w.alloc (objBox As ss.length cs At ts.length ct)).alloc (tabBox t A3 c3 A4 c4)) (w.heap.size + 1) t A3 c3 A4 c4 by have := BoxT_new (w.alloc (objBox As ss.length cs At ts.length ct)) t A3 c3 A4 c4; simpa using this)
  have HW : Aside0 (Below w.heap.size w ((w.alloc (objBox As ss.length cs At ts.length ct)).alloc (tabBox t A3 c3 A4 c4))) := ⟨below_alloc (below_alloc (Below.refl _ _) _) _⟩
  generalize hi : rightT ss ts t = q
  have HI := Aside0.mk hi
  have HN1 := Aside0.mk (fun W => Name.calls t.name W)
  have HN2 := Aside0.mk (fun W => Name.calls t.owner W)
  have HM := Aside0.mk (fun W (hW : Below w.heap.size w W) => mayColumns.calls A3 c3 t.cols W (Kd.C_below H3.out hW) (by have := HTF.out.1; omega))
  have HB := Aside0.mk (fun W (hW : Below w.heap.size w W) => byNameSch.calls As cs ss t.schema W (Kd.C_below HS.out hW) hsl)
  have HRI := Aside0.mk (fun W (hW : Below w.heap.size w W) => risesRul.calls A4 c4 t.rules W (Kd.C_below H4.out hW) (by have := HTF.out.2.1; omega))
  clear hi hs ht hF h3 h4 hTF
  cases n1 : nameB t.name with
  | false =>
    have HI1 := Aside0.mk (show false = q by rw [← HI.out]; unfold rightT; rw [n1]; rfl)
    rw [n1] at HN1
    clear n1
    go_enter Tryz.func71, Tryz.ntmps71
    go_wp2_with fail
    refine (HN1.out _).mono ?_
    rintro e _ ⟨rfl, rfl⟩
    go_wp2
    go_ret
    exact ⟨ret_bool HI1.out, HW.out⟩
  | true =>
  have N1 := Aside0.mk n1
  rw [n1] at HN1
  clear n1
  cases n2 : nameB t.owner with
  | false =>
    have HI1 := Aside0.mk (show false = q by rw [← HI.out]; unfold rightT; rw [n2, Bool.false_and, Bool.and_false])
    rw [n2] at HN2
    clear n2
    go_enter Tryz.func71, Tryz.ntmps71
    go_wp2_with fail
    refine (HN1.out _).mono ?_
    rintro e _ ⟨rfl, rfl⟩
    go_wp2_with fail
    refine (HN2.out _).mono ?_
    rintro e _ ⟨rfl, rfl⟩
    go_wp2
    go_ret
    exact ⟨ret_bool HI1.out, HW.out⟩
  | true =>
  have N2 := Aside0.mk n2
  rw [n2] at HN2
  clear n2
  go_enter Tryz.func71, Tryz.ntmps71
  go_wp2_with fail
  refine (HN1.out _).mono ?_
  rintro e _ ⟨rfl, rfl⟩
  go_wp2_with fail
  refine (HN2.out _).mono ?_
  rintro e _ ⟨rfl, rfl⟩
  go_wp2_with fail
  refine (HM.out _ HW.out).mono ?_
  rintro e w1 ⟨rfl, hb1⟩
  have HW1 := Aside0.mk (HW.out.trans (hb1.mono HW.out.size))
  have HX3 := Aside0.mk (HX.out.below hb1)
  have HX4 := Aside0.mk (HX2.out.below hb1)
  clear hb1 HX HX2 HN1 HN2
  obtain ⟨o0, o1⟩ := HX3.out
  obtain ⟨t0, t1, t2, t3, t4⟩ := HX4.out
  cases n3 : mayCols t.cols with
  | false =>
    have HI1 := Aside0.mk (show false = q by rw [← HI.out]; unfold rightT; rw [n3, Bool.false_and, Bool.and_false, Bool.and_false])
    clear n3
    go_wp2
    go_ret
    exact ⟨ret_bool HI1.out, HW1.out⟩
  | true =>
  have N3 := Aside0.mk n3
  clear n3
  by_cases h8 : t.rules.length ≤ 8
  case neg =>
    have HI1 := Aside0.mk (show false = q by rw [← HI.out]; unfold rightT; rw [decide_eq_false h8, Bool.false_and, Bool.and_false, Bool.and_false, Bool.and_false])
    have g8 : decide ((8 : Int) < (t.rules.length : Int)) = true := decide_eq_true (by omega)
    clear h8
    go_wp2
    go_ret
    exact ⟨ret_bool HI1.out, HW1.out⟩
  have N8 := Aside0.mk h8
  have g8 : decide ((8 : Int) < (t.rules.length : Int)) = false := decide_eq_false (by omega)
  clear h8
  go_wp2_with fail
  refine (HB.out _ HW1.out).mono ?_
  rintro e w2 ⟨rfl, hb2⟩
  have HW2 := Aside0.mk (HW1.out.trans (hb2.mono HW1.out.size))
  have HX5 := Aside0.mk (HX3.out.below hb2)
  have HX6 := Aside0.mk (HX4.out.below hb2)
  clear hb2 HX3 HX4 o0 o1 t0 t1 t2 t3 t4
  obtain ⟨o0, o1⟩ := HX5.out
  obtain ⟨t0, t1, t2, t3, t4⟩ := HX6.out
  by_cases h5 : 0 ≤ idx (fun x : Sch => x.name.toList == t.schema.toList) ss
  case neg =>
    have HI1 := Aside0.mk (show false = q by rw [← HI.out]; unfold rightT; rw [decide_eq_false h5, Bool.false_and, Bool.and_false, Bool.and_false, Bool.and_false, Bool.and_false])
    have g5 : decide (idx (fun x : Sch => x.name.toList == t.schema.toList) ss < 0) = true := decide_eq_true (by omega)
    clear h5
    go_wp2
    go_ret
    exact ⟨ret_bool HI1.out, HW2.out⟩
  have HI1 := Aside0.mk ((rightT_tail N1.out N2.out N3.out N8.out h5).symm.trans HI.out)
  have g5 : decide (idx (fun x : Sch => x.name.toList == t.schema.toList) ss < 0) = false := decide_eq_false (by omega)
  clear h5
  go_wp2
  clear o0 o1 t0 t1 t2 t3 t4
  go_loopw [40] (fun i w' => ∃ k : Nat, k ≤ t.rules.length ∧ i = .int .i64 k ∧ Aside0 ((∀ j, j < k → ruleOK ts t.cols (t.rules.getD j zRul) = true) ∧ BoxO w' w.heap.size As ss.length cs At ts.length ct ∧ BoxT w' (w.heap.size + 1) t A3 c3 A4 c4 ∧ Below w.heap.size w w')) (fun i _ => t.rules.length - (intOf i).toNat)
  case atStart => exact ⟨0, Nat.zero_le _, rfl, ⟨fun _ h => absurd h (Nat.not_lt_zero _), HX5.out, HX6.out, HW2.out⟩⟩
  case round =>
    obtain ⟨k, hk, rfl, HJ⟩ := hrel
    obtain ⟨o0, o1⟩ := HJ.out.2.1
    obtain ⟨t0, t1, t2, t3, t4⟩ := HJ.out.2.2.1
    have HJB := Aside0.mk HJ.out.2.2.2
    have hn8 := N8.out
    by_cases hlt : k < t.rules.length
    · obtain ⟨ad4, A5, c5, e, hd0, hd1, hd2, hd3, hd4, hd5, hd6, hd7, hs5, hs6⟩ := cRul (Kd.C_below H4.out HJB.out) k hlt
      cases e
      have hRF := Aside0.mk (HTF.out.2.2 _ (List.getElem_mem hlt))
      have HS2 := Aside0.mk (And.intro hs5 hs6)
      clear hs5 hs6
      have t3' : ∀ o, (wr.alloc o).cell? ⟨w.heap.size + 1, 3, none⟩ = some (.slice A3 t.cols.length c3) := fun o => pw_cell_below (below_alloc (Below.refl _ _) o) t3
      have HBW := Aside0.mk (below_alloc HJB.out (rulBox t.rules[k] A5 c5))
      have HBX := Aside0.mk (BoxR_new wr t.rules[k] A5 c5)
      have HBO := Aside0.mk (HJ.out.2.1.below (below_alloc (Below.refl _ _) (rulBox t.rules[k] A5 c5)))
      have HBT := Aside0.mk (HJ.out.2.2.1.below (below_alloc (Below.refl _ _) (rulBox t.rules[k] A5 c5)))
      have HFI := Aside0.mk (fits.calls (A0 := A3) (c0 := c3) (A2 := A5) (c2 := c5) t.cols t.rules[k] (wr.alloc (rulBox t.rules[k] A5 c5)) (Kd.C_below H3.out HBW.out) (by have := HTF.out.1; omega) (Kd.C_below HS2.out.2 (below_alloc (Below.refl _ _) _)) (by have := hRF.out.1; omega) hRF.out.2)
      have HKE := Aside0.mk (fun W (hW : Below w.heap.size w W) (hW2 : Below wr.heap.size wr W) => key.calls (As := As) (ns := ss.length) (cs := cs) (At := At) (ct := ct) (A0 := A3) (c0 := c3) (A2 := A5) (c2 := c5) ts t.cols t.rules[k] W (Kd.C_below HT.out hW) HF.out (Kd.C_below H3.out hW) (by have := HTF.out.1; omega) (Kd.C_below HS2.out.2 hW2) hRF.out.1)
      have HE := Aside0.mk (show ruleOK ts t.cols (t.rules.getD k zRul) = (fitsB t.cols t.rules[k] && (t.rules[k].kind != 4 || keyE ts t.cols t.rules[k] == 0)) by rw [getD_at hlt]; rfl)
      have HNO := Aside0.mk (show ruleOK ts t.cols (t.rules.getD k zRul) = false → false = q from fun h => by rw [← HI1.out]; unfold rulesOK; rw [allB_false hlt h]; rfl)
      clear o0 o1 t0 t1 t2 t3 t4
      go_wp2_with fail
      refine HFI.out.mono ?_
      rintro e w3 ⟨rfl, hb3⟩
      have HW3 := Aside0.mk (HBW.out.trans (hb3.mono HBW.out.size))
      have HWR3 := Aside0.mk (show Below wr.heap.size wr w3 from (below_alloc (Below.refl _ _) (rulBox t.rules[k] A5 c5)).trans (hb3.mono (by simp)))
      have HX7 := Aside0.mk (HBO.out.below hb3)
      have HX8 := Aside0.mk (HBT.out.below hb3)
      have HX9 := Aside0.mk (HBX.out.below hb3)
      clear hb3 hd0 hd1 hd2 hd3 hd4 hd5 hd6 hd7
      obtain ⟨o0, o1⟩ := HX7.out
      obtain ⟨t0, t1, t2, t3, t4⟩ := HX8.out
      obtain ⟨b0, b1, b2, b3, b4, b5, b6, b7⟩ := HX9.out
      cases f1 : fitsB t.cols t.rules[k] with
      | false =>
        have HI2 := Aside0.mk (HNO.out (HE.out.trans (by rw [f1, Bool.false_and])))
        clear f1
        go_wp2
        go_ret
        exact ⟨ret_bool HI2.out, HW3.out⟩
      | true =>
      have F1 := Aside0.mk f1
      clear f1
      cases k4 : (t.rules[k].kind == 4) with
      | false =>
        have HQ := Aside0.mk (show ruleOK ts t.cols (t.rules.getD k zRul) = true from HE.out.trans (by rw [F1.out, show (t.rules[k].kind != 4) = true by simpa using k4]; rfl))
        go_wp2
        go_roundw
        case rel => exact ⟨k + 1, by omega, by go_num, ⟨snocB (f := fun i => ruleOK ts t.cols (t.rules.getD i zRul)) HJ.out.1 HQ.out, HX7.out, HX8.out, HW3.out⟩⟩
        case measure => simp [intOf]; omega
      | true =>
      have K4 := Aside0.mk (show (t.rules[k].kind != 4) = false by simpa using k4)
      go_wp2_with fail
      refine (HKE.out _ HW3.out HWR3.out).mono ?_
      rintro e w4 ⟨rfl, hb4⟩
      have HW4 := Aside0.mk (HW3.out.trans (hb4.mono HW3.out.size))
      have HX10 := Aside0.mk (HX7.out.below hb4)
      have HX11 := Aside0.mk (HX8.out.below hb4)
      clear hb4
      cases ke : (keyE ts t.cols t.rules[k] != 0) with
      | true =>
        have HI2 := Aside0.mk (HNO.out (HE.out.trans (by rw [F1.out, K4.out, show (keyE ts t.cols t.rules[k] == 0) = false by simpa using ke]; rfl)))
        go_wp2
        go_ret
        exact ⟨ret_bool HI2.out, HW4.out⟩
      | false =>
        have HQ := Aside0.mk (show ruleOK ts t.cols (t.rules.getD k zRul) = true from HE.out.trans (by rw [F1.out, K4.out, show (keyE ts t.cols t.rules[k] == 0) = true by simpa using ke]; rfl))
        go_wp2
        go_roundw
        case rel => exact ⟨k + 1, by omega, by go_num, ⟨snocB (f := fun i => ruleOK ts t.cols (t.rules.getD i zRul)) HJ.out.1 HQ.out, HX10.out, HX11.out, HW4.out⟩⟩
        case measure => simp [intOf]; omega
    · have hd : decide (k < t.rules.length) = false := decide_eq_false hlt
      have HI2 := Aside0.mk (show rises (fun x y : Rul => cmpS x.name y.name) t.rules = q by rw [← HI1.out, show rulesOK ts t = true from allB_true fun j hj => HJ.out.1 j (by omega)]; rfl)
      go_wp2_with fail
      refine (HRI.out _ HJB.out).mono ?_
      rintro e w4 ⟨rfl, hb4⟩
      have HW4 := Aside0.mk (HJB.out.trans (hb4.mono HJB.out.size))
      clear hb4
      go_wp2
      go_ret
      exact ⟨ret_bool HI2.out, HW4.out⟩
end Go.Proofs.YtmmiehckgkadgaaGreat.O
