/- Own lemmas and walks (OS), without what the law does not need. Laid by a program of this session (prune.py). -/
import Derived.Test.YtmmiehckgkadgaaPt9
namespace Go.Proofs.Ytmmiehckgkadgaa.O
set_option linter.unusedVariables false
set_option linter.unusedSimpArgs false
open Go.RowKit Go.Proofs.YtmmiehckgkadgaaW.PrintWords
theorem u8_eq {a b : UInt8} (h1 : ¬ a < b) (h2 : ¬ b < a) : a = b := by
  apply UInt8.toNat_inj.1
  rw [UInt8.lt_iff_toNat_lt] at h1 h2
  omega
theorem less_cmp : ∀ x y : List UInt8, Op.bytesLess x y = decide (Lib.compareBytes x y < 0)
  | [], [] => rfl
  | [], _ :: _ => rfl
  | _ :: _, [] => rfl
  | a :: x, b :: y => by
    have ih := less_cmp x y
    unfold Op.bytesLess Lib.compareBytes
    by_cases h1 : a < b
    · rw [if_pos h1, decide_eq_true h1]; rfl
    · rw [if_neg h1, decide_eq_false h1, Bool.false_or]
      by_cases h2 : b < a
      · rw [if_pos h2]
        have : (a == b) = false := beq_eq_false_iff_ne.2 fun he => by subst he; exact h1 h2
        rw [this, Bool.false_and]; rfl
      · rw [if_neg h2, u8_eq h1 h2, beq_self_eq_true, Bool.true_and, ih]
theorem eq_cmp : ∀ x y : List UInt8, (x == y) = decide (Lib.compareBytes x y = 0)
  | [], [] => rfl
  | [], _ :: _ => rfl
  | _ :: _, [] => rfl
  | a :: x, b :: y => by
    have ih := eq_cmp x y
    unfold Lib.compareBytes
    rw [List.cons_beq_cons]
    by_cases h1 : a < b
    · rw [if_pos h1]
      have : (a == b) = false := beq_eq_false_iff_ne.2 fun he => by subst he; exact absurd h1 (by rw [UInt8.lt_iff_toNat_lt]; omega)
      rw [this, Bool.false_and]; rfl
    · rw [if_neg h1]
      by_cases h2 : b < a
      · rw [if_pos h2]
        have : (a == b) = false := beq_eq_false_iff_ne.2 fun he => by subst he; exact h1 h2
        rw [this, Bool.false_and]; rfl
      · rw [if_neg h2, u8_eq h1 h2, beq_self_eq_true, Bool.true_and, ih]
theorem less_S (a b : ByteArray) : Op.bytesLess a.toList b.toList = decide (cmpS a b < 0) := by rw [Lib.toList_data, Lib.toList_data, less_cmp]; rfl
theorem eq_S (a b : ByteArray) : (a.toList == b.toList) = decide (cmpS a b = 0) := by rw [Lib.toList_data, Lib.toList_data, eq_cmp]; rfl
theorem rises_yes {α : Type} (f : α → α → Int) : ∀ l : List α, (∀ i (h : i + 1 < l.length), f l[i] l[i + 1] < 0) → rises f l = true
  | [], _ => rfl
  | [_], _ => rfl
  | a :: b :: r, h => by
    unfold rises
    rw [decide_eq_true (show f a b < 0 from h 0 (by simp)), Bool.true_and]
    exact rises_yes f (b :: r) fun i hi => h (i + 1) (by simpa using hi)
theorem rises_no {α : Type} (f : α → α → Int) : ∀ (l : List α) (i : Nat) (h : i + 1 < l.length), ¬ f l[i] l[i + 1] < 0 → rises f l = false
  | [], i, h, _ => absurd h (by simp)
  | [_], i, h, _ => absurd h (by simp)
  | a :: b :: r, 0, h, hn => by unfold rises; rw [decide_eq_false (show ¬ f a b < 0 from hn)]; rfl
  | a :: b :: r, i + 1, h, hn => by unfold rises; rw [rises_no f (b :: r) i (by simpa using h) hn, Bool.and_false]
theorem order_bad (a b : Tab) : ((!(Op.bytesLess a.schema.toList b.schema.toList || a.schema.toList == b.schema.toList)) || (a.schema.toList == b.schema.toList && !(Op.bytesLess a.name.toList b.name.toList))) = !decide (orderT a b < 0) := by
  unfold orderT orI
  rw [less_S, less_S, eq_S]
  by_cases h1 : cmpS a.schema b.schema < 0
  · have h2 : ¬ cmpS a.schema b.schema = 0 := by omega
    simp [h1, h2]
  · by_cases h2 : cmpS a.schema b.schema = 0
    · simp [h2]
    · simp [h1, h2]
def rowsB (ss : List Sch) (ts : List Tab) : Bool := schsOK ss ts && (rises (fun x y => cmpS x.name y.name) ss && (rises orderT ts && decide (ss.length ≤ 8)))
theorem keepC4 {w0 w w' : World} {v0 v1 v2 v3 : Value} {a0 a1 a2 a3 : Addr} (h : w.cell? a0 = some v0 ∧ w.cell? a1 = some v1 ∧ w.cell? a2 = some v2 ∧ w.cell? a3 = some v3 ∧ Below w0.heap.size w0 w) (hb : Below w.heap.size w w') : w'.cell? a0 = some v0 ∧ w'.cell? a1 = some v1 ∧ w'.cell? a2 = some v2 ∧ w'.cell? a3 = some v3 ∧ Below w0.heap.size w0 w' :=
  ⟨pw_cell_below hb h.1, pw_cell_below hb h.2.1, pw_cell_below hb h.2.2.1, pw_cell_below hb h.2.2.2.1, h.2.2.2.2.trans (hb.mono h.2.2.2.2.size)⟩
theorem keepC5 {w0 w w' : World} {v0 v1 v2 v3 v4 : Value} {a0 a1 a2 a3 a4 : Addr} (h : w.cell? a0 = some v0 ∧ w.cell? a1 = some v1 ∧ w.cell? a2 = some v2 ∧ w.cell? a3 = some v3 ∧ w.cell? a4 = some v4 ∧ Below w0.heap.size w0 w) (hb : Below w.heap.size w w') : w'.cell? a0 = some v0 ∧ w'.cell? a1 = some v1 ∧ w'.cell? a2 = some v2 ∧ w'.cell? a3 = some v3 ∧ w'.cell? a4 = some v4 ∧ Below w0.heap.size w0 w' :=
  ⟨pw_cell_below hb h.1, pw_cell_below hb h.2.1, pw_cell_below hb h.2.2.1, pw_cell_below hb h.2.2.2.1, pw_cell_below hb h.2.2.2.2.1, h.2.2.2.2.2.trans (hb.mono h.2.2.2.2.2.size)⟩
theorem rNameB.calls (s : ByteArray) (w : World) : Calls Try.prog 10 #[.string s] w fun e w' => e = .returned (.bool (nameB s)) ∧ Below w.heap.size w w' :=
  (rName.calls s w).mono fun e w' h => ⟨h.1, h.2 ▸ Below.refl _ _⟩
def schBox (s : Sch) : Obj := .cells #[.string s.name, .string s.owner] 63
set_option maxHeartbeats 4000000 in
theorem rRows.calls {As At : Option Addr} {cs ct : Nat} (ss : List Sch) (ts : List Tab) (w : World) (hs : kSch.C w As ss.length ss) (hsl : ss.length ≤ 8796093022208) (ht : kTab.C w At ts.length ts) (hF : TabsF ts) :
    Calls Try.prog 48 #[.agg #[.slice As ss.length cs, .slice At ts.length ct]] w fun e w' => e = .returned (.bool (rowsB ss ts)) ∧ Below w.heap.size w w' := by
  have HF := Aside0.mk hF
  have HS := Aside0.mk hs
  have HT := Aside0.mk ht
  have HX := Aside0.mk (BoxO_new w As ss.length cs At ts.length ct)
  have HW : Aside0 (Below w.heap.size w (w.alloc (objBox As ss.length cs At ts.length ct))) := ⟨below_alloc (Below.refl _ _) _⟩
  generalize hi : rowsB ss ts = q
  have HI := Aside0.mk hi
  have HWI := Aside0.mk (fun s W (hW : Below w.heap.size w W) => rTables.calls (As := As) (ns := ss.length) (cs := cs) (A0 := At) (c0 := ct) s ts W (Kd.C_below HT.out hW) (by have := HF.out.1; omega))
  have hct := Aside0.mk (fun s => cnt_le (ofS s) ts)
  have hn64 := hF.1
  clear hi hs ht hF
  go_enter Try.func48, Try.ntmps48
  go_wp2
  go_loopw [3] (fun i w' => ∃ k : Nat, k ≤ ss.length ∧ i = .int .i64 k ∧ Aside0 ((∀ j, j < k → schOK ts (ss.getD j zSch) = true) ∧ (∀ j (h : j + 1 < ss.length), j + 1 < k → cmpS ss[j].name ss[j + 1].name < 0) ∧ BoxO w' w.heap.size As ss.length cs At ts.length ct ∧ Below w.heap.size w w')) (fun i _ => ss.length - (intOf i).toNat)
  case atStart => exact ⟨0, Nat.zero_le _, rfl, ⟨fun _ h => absurd h (Nat.not_lt_zero _), fun _ _ h => absurd h (Nat.not_lt_zero _), HX.out, HW.out⟩⟩
  case round =>
    obtain ⟨k, hk, rfl, HJ⟩ := hrel
    obtain ⟨o0, o1⟩ := HJ.out.2.2.1
    have HJB := Aside0.mk HJ.out.2.2.2
    by_cases hlt : k < ss.length
    · obtain ⟨ad, e, hc0, hc1⟩ := cSch (Kd.C_below HS.out HJB.out) k hlt
      cases e
      have o0' : ∀ o, ((wr.alloc o).drew).cell? ⟨w.heap.size, 0, none⟩ = some (.slice (some ad) ss.length cs) := fun o => pw_cell_below (below_alloc (Below.refl _ _) o) o0
      have o1' : ∀ o, ((wr.alloc o).drew).cell? ⟨w.heap.size, 1, none⟩ = some (.slice At ts.length ct) := fun o => pw_cell_below (below_alloc (Below.refl _ _) o) o1
      have b0 : ((wr.alloc (schBox ss[k])).drew).cell? ⟨wr.heap.size, 0, none⟩ = some (.string ss[k].name) := World.cell?_alloc_new (w := wr) #[.string ss[k].name, .string ss[k].owner] 63 0
      have b1 : ((wr.alloc (schBox ss[k])).drew).cell? ⟨wr.heap.size, 1, none⟩ = some (.string ss[k].owner) := World.cell?_alloc_new (w := wr) #[.string ss[k].name, .string ss[k].owner] 63 1
      have HBW := Aside0.mk (fun o => below_alloc HJB.out o)
      have HE := Aside0.mk (show schOK ts (ss.getD k zSch) = (nameB ss[k].name && (nameB ss[k].owner && decide (cnt (ofS ss[k].name) ts ≤ 8))) by rw [getD_at hlt]; rfl)
      have HNO := Aside0.mk (show schOK ts (ss.getD k zSch) = false → false = q from fun h => by rw [← HI.out]; unfold rowsB; rw [show schsOK ss ts = false from allB_false hlt h]; rfl)
      have HN1 := Aside0.mk (fun W => rNameB.calls ss[k].name W)
      have HN2 := Aside0.mk (fun W => rNameB.calls ss[k].owner W)
      have HW3 := Aside0.mk (fun W hW => HWI.out ss[k].name W hW)
      have hcn := Aside0.mk (hct.out ss[k].name)
      cases n1 : nameB ss[k].name with
      | false =>
        have HQ := Aside0.mk (HNO.out (HE.out.trans (by rw [n1]; rfl)))
        rw [n1] at HN1
        go_wp2_with fail
        refine wp_region_held_drew (S := (fun w' => w'.cell? ⟨w.heap.size, 0, none⟩ = some (.slice (some ad) ss.length cs) ∧ w'.cell? ⟨w.heap.size, 1, none⟩ = some (.slice At ts.length ct) ∧ w'.cell? ⟨wr.heap.size, 0, none⟩ = some (.string ss[k].name) ∧ w'.cell? ⟨wr.heap.size, 1, none⟩ = some (.string ss[k].owner) ∧ Below w.heap.size w w')) (by kernel_rfl) ⟨o0' _, o1' _, b0, b1, pw_below_drewN (HBW.out _) 1⟩ (fun hHeld0 => ?_)
        refine wpAnyH_take (i := 0) (oi := { dst := some 20, op := _, type := _, pos := _, after := _, guard := _ }) (v := ?v0x1) rfl (by kernel_rfl) (by kernel_rfl) (by kernel_rfl) (fun _ _ _ h => h) (Or.inl ⟨by kernel_rfl, ?hy0x1⟩) hHeld0 ?rest0x1
        case hy0x1 => (intro w hSw; (try dsimp only at hSw); go_simp; (first | done | with_reducible rfl))
        try simp only [Act.put, List.setIfInBounds_toArray, List.set_cons_zero, List.set_cons_succ]
        refine wpAnyH_take (i := 1) (oi := { dst := some 21, op := _, type := _, pos := _, after := _, guard := _ }) (v := ?v1x1) rfl (by kernel_rfl) (by kernel_rfl) (by kernel_rfl) (fun _ _ _ h => h) (Or.inl ⟨by kernel_rfl, ?hy1x1⟩) hHeld0 ?rest1x1
        case hy1x1 => (intro w hSw; (try dsimp only at hSw); go_simp; (first | done | with_reducible rfl))
        try simp only [Act.put, List.setIfInBounds_toArray, List.set_cons_zero, List.set_cons_succ]
        refine wpAnyH_ready (rs := [2]) (by kernel_rfl) (by simp) ?_
        refine AllReadyH.cons (o := { dst := some 22, op := _, type := _, pos := _, after := _, guard := _ }) rfl (fun K hK => ?_) AllReadyH.nil
        go_simp
        (go_at_call 10; refine (HN1.out _).mono ?_; rintro e w' ⟨rfl, hb⟩)
        refine hK.out _ _ (keepC4 hHeld0 hb) (fun hHeld1 => ?_)
        clear hK K hHeld0
        try simp only [Act.put, List.setIfInBounds_toArray, List.set_cons_zero, List.set_cons_succ]
        refine wpAnyH_take (i := 3) (oi := { dst := some 23, op := _, type := _, pos := _, after := _, guard := _ }) (v := ?v3x1) rfl (by kernel_rfl) (by kernel_rfl) (by kernel_rfl) (fun _ _ _ h => h) (Or.inl ⟨by kernel_rfl, ?hy3x1⟩) hHeld1 ?rest3x1
        case hy3x1 => (intro w hSw; (try dsimp only at hSw); go_simp; (first | done | with_reducible rfl))
        try simp only [Act.put, List.setIfInBounds_toArray, List.set_cons_zero, List.set_cons_succ]
        refine wpAnyH_take (i := 4) (oi := { dst := some 24, op := _, type := _, pos := _, after := _, guard := _ }) (v := ?v4x1) rfl (by kernel_rfl) (by kernel_rfl) (by kernel_rfl) (fun _ _ _ h => h) (Or.inl ⟨by kernel_rfl, ?hy4x1⟩) hHeld1 ?rest4x1
        case hy4x1 => (intro w hSw; (try dsimp only at hSw); go_simp; (first | done | with_reducible rfl))
        try simp only [Act.put, List.setIfInBounds_toArray, List.set_cons_zero, List.set_cons_succ]
        refine wpAnyH_take (i := 5) (oi := { dst := some 25, op := _, type := _, pos := _, after := _, guard := _ }) (v := undef) rfl (by kernel_rfl) (by kernel_rfl) (by kernel_rfl) (fun _ _ _ h => h) (Or.inr ⟨by kernel_rfl, rfl⟩) hHeld1 ?_
        try simp only [Act.put, List.setIfInBounds_toArray, List.set_cons_zero, List.set_cons_succ]
        refine wpAnyH_take (i := 6) (oi := { dst := some 26, op := _, type := _, pos := _, after := _, guard := _ }) (v := undef) rfl (by kernel_rfl) (by kernel_rfl) (by kernel_rfl) (fun _ _ _ h => h) (Or.inr ⟨by kernel_rfl, rfl⟩) hHeld1 ?_
        try simp only [Act.put, List.setIfInBounds_toArray, List.set_cons_zero, List.set_cons_succ]
        refine wpAnyH_take (i := 7) (oi := { dst := some 27, op := _, type := _, pos := _, after := _, guard := _ }) (v := undef) rfl (by kernel_rfl) (by kernel_rfl) (by kernel_rfl) (fun _ _ _ h => h) (Or.inr ⟨by kernel_rfl, rfl⟩) hHeld1 ?_
        try simp only [Act.put, List.setIfInBounds_toArray, List.set_cons_zero, List.set_cons_succ]
        refine wpAnyH_take (i := 8) (oi := { dst := some 28, op := _, type := _, pos := _, after := _, guard := _ }) (v := undef) rfl (by kernel_rfl) (by kernel_rfl) (by kernel_rfl) (fun _ _ _ h => h) (Or.inr ⟨by kernel_rfl, rfl⟩) hHeld1 ?_
        try simp only [Act.put, List.setIfInBounds_toArray, List.set_cons_zero, List.set_cons_succ]
        refine wpAnyH_take (i := 9) (oi := { dst := some 29, op := _, type := _, pos := _, after := _, guard := _ }) (v := ?v9x1) rfl (by kernel_rfl) (by kernel_rfl) (by kernel_rfl) (fun _ _ _ h => h) (Or.inl ⟨by kernel_rfl, ?hy9x1⟩) hHeld1 ?rest9x1
        case hy9x1 => (intro w hSw; (try dsimp only at hSw); go_simp; (first | done | with_reducible rfl))
        try simp only [Act.put, List.setIfInBounds_toArray, List.set_cons_zero, List.set_cons_succ]
        refine wpAnyH_take (i := 10) (oi := { dst := some 30, op := _, type := _, pos := _, after := _, guard := _ }) (v := ?v10x1) rfl (by kernel_rfl) (by kernel_rfl) (by kernel_rfl) (fun _ _ _ h => h) (Or.inl ⟨by kernel_rfl, ?hy10x1⟩) hHeld1 ?rest10x1
        case hy10x1 => (intro w hSw; (try dsimp only at hSw); go_simp; (first | done | with_reducible rfl))
        try simp only [Act.put, List.setIfInBounds_toArray, List.set_cons_zero, List.set_cons_succ]
        refine wpAnyH_take (i := 11) (oi := { dst := some 31, op := _, type := _, pos := _, after := _, guard := _ }) (v := undef) rfl (by kernel_rfl) (by kernel_rfl) (by kernel_rfl) (fun _ _ _ h => h) (Or.inr ⟨by kernel_rfl, rfl⟩) hHeld1 ?_
        try simp only [Act.put, List.setIfInBounds_toArray, List.set_cons_zero, List.set_cons_succ]
        refine wpAnyH_take (i := 12) (oi := { dst := some 32, op := _, type := _, pos := _, after := _, guard := _ }) (v := undef) rfl (by kernel_rfl) (by kernel_rfl) (by kernel_rfl) (fun _ _ _ h => h) (Or.inr ⟨by kernel_rfl, rfl⟩) hHeld1 ?_
        try simp only [Act.put, List.setIfInBounds_toArray, List.set_cons_zero, List.set_cons_succ]
        refine wpAnyH_take (i := 13) (oi := { dst := some 33, op := _, type := _, pos := _, after := _, guard := _ }) (v := undef) rfl (by kernel_rfl) (by kernel_rfl) (by kernel_rfl) (fun _ _ _ h => h) (Or.inr ⟨by kernel_rfl, rfl⟩) hHeld1 ?_
        try simp only [Act.put, List.setIfInBounds_toArray, List.set_cons_zero, List.set_cons_succ]
        refine wpAnyH_take (i := 14) (oi := { dst := some 34, op := _, type := _, pos := _, after := _, guard := _ }) (v := undef) rfl (by kernel_rfl) (by kernel_rfl) (by kernel_rfl) (fun _ _ _ h => h) (Or.inr ⟨by kernel_rfl, rfl⟩) hHeld1 ?_
        try simp only [Act.put, List.setIfInBounds_toArray, List.set_cons_zero, List.set_cons_succ]
        refine wpAnyH_take (i := 15) (oi := { dst := some 35, op := _, type := _, pos := _, after := _, guard := _ }) (v := undef) rfl (by kernel_rfl) (by kernel_rfl) (by kernel_rfl) (fun _ _ _ h => h) (Or.inr ⟨by kernel_rfl, rfl⟩) hHeld1 ?_
        try simp only [Act.put, List.setIfInBounds_toArray, List.set_cons_zero, List.set_cons_succ]
        refine wpAnyH_take (i := 16) (oi := { dst := some 36, op := _, type := _, pos := _, after := _, guard := _ }) (v := undef) rfl (by kernel_rfl) (by kernel_rfl) (by kernel_rfl) (fun _ _ _ h => h) (Or.inr ⟨by kernel_rfl, rfl⟩) hHeld1 ?_
        try simp only [Act.put, List.setIfInBounds_toArray, List.set_cons_zero, List.set_cons_succ]
        refine wpAnyH_take (i := 17) (oi := { dst := some 37, op := _, type := _, pos := _, after := _, guard := _ }) (v := undef) rfl (by kernel_rfl) (by kernel_rfl) (by kernel_rfl) (fun _ _ _ h => h) (Or.inr ⟨by kernel_rfl, rfl⟩) hHeld1 ?_
        try simp only [Act.put, List.setIfInBounds_toArray, List.set_cons_zero, List.set_cons_succ]
        refine wpAnyH_take (i := 18) (oi := { dst := some 38, op := _, type := _, pos := _, after := _, guard := _ }) (v := undef) rfl (by kernel_rfl) (by kernel_rfl) (by kernel_rfl) (fun _ _ _ h => h) (Or.inr ⟨by kernel_rfl, rfl⟩) hHeld1 ?_
        try simp only [Act.put, List.setIfInBounds_toArray, List.set_cons_zero, List.set_cons_succ]
        refine wpAnyH_take (i := 19) (oi := { dst := some 39, op := _, type := _, pos := _, after := _, guard := _ }) (v := undef) rfl (by kernel_rfl) (by kernel_rfl) (by kernel_rfl) (fun _ _ _ h => h) (Or.inr ⟨by kernel_rfl, rfl⟩) hHeld1 ?_
        try simp only [Act.put, List.setIfInBounds_toArray, List.set_cons_zero, List.set_cons_succ]
        refine wpAnyH_take (i := 20) (oi := { dst := some 40, op := _, type := _, pos := _, after := _, guard := _ }) (v := undef) rfl (by kernel_rfl) (by kernel_rfl) (by kernel_rfl) (fun _ _ _ h => h) (Or.inr ⟨by kernel_rfl, rfl⟩) hHeld1 ?_
        try simp only [Act.put, List.setIfInBounds_toArray, List.set_cons_zero, List.set_cons_succ]
        refine wpAnyH_take (i := 21) (oi := { dst := some 41, op := _, type := _, pos := _, after := _, guard := _ }) (v := undef) rfl (by kernel_rfl) (by kernel_rfl) (by kernel_rfl) (fun _ _ _ h => h) (Or.inr ⟨by kernel_rfl, rfl⟩) hHeld1 ?_
        try simp only [Act.put, List.setIfInBounds_toArray, List.set_cons_zero, List.set_cons_succ]
        refine wpAnyH_take (i := 22) (oi := { dst := some 42, op := _, type := _, pos := _, after := _, guard := _ }) (v := undef) rfl (by kernel_rfl) (by kernel_rfl) (by kernel_rfl) (fun _ _ _ h => h) (Or.inr ⟨by kernel_rfl, rfl⟩) hHeld1 ?_
        try simp only [Act.put, List.setIfInBounds_toArray, List.set_cons_zero, List.set_cons_succ]
        refine wpAnyH_take (i := 23) (oi := { dst := some 43, op := _, type := _, pos := _, after := _, guard := _ }) (v := undef) rfl (by kernel_rfl) (by kernel_rfl) (by kernel_rfl) (fun _ _ _ h => h) (Or.inr ⟨by kernel_rfl, rfl⟩) hHeld1 ?_
        try simp only [Act.put, List.setIfInBounds_toArray, List.set_cons_zero, List.set_cons_succ]
        refine wpAnyH_take (i := 24) (oi := { dst := some 44, op := _, type := _, pos := _, after := _, guard := _ }) (v := undef) rfl (by kernel_rfl) (by kernel_rfl) (by kernel_rfl) (fun _ _ _ h => h) (Or.inr ⟨by kernel_rfl, rfl⟩) hHeld1 ?_
        try simp only [Act.put, List.setIfInBounds_toArray, List.set_cons_zero, List.set_cons_succ]
        refine wpAnyH_take (i := 25) (oi := { dst := some 45, op := _, type := _, pos := _, after := _, guard := _ }) (v := ?v25x1) rfl (by kernel_rfl) (by kernel_rfl) (by kernel_rfl) (fun _ _ _ h => h) (Or.inl ⟨by kernel_rfl, ?hy25x1⟩) hHeld1 ?rest25x1
        case hy25x1 => (intro w hSw; (try dsimp only at hSw); go_simp; (first | done | with_reducible rfl))
        try simp only [Act.put, List.setIfInBounds_toArray, List.set_cons_zero, List.set_cons_succ]
        refine wpAnyH_take (i := 26) (oi := { dst := some 46, op := _, type := _, pos := _, after := _, guard := _ }) (v := ?v26x1) rfl (by kernel_rfl) (by kernel_rfl) (by kernel_rfl) (fun _ _ _ h => h) (Or.inl ⟨by kernel_rfl, ?hy26x1⟩) hHeld1 ?rest26x1
        case hy26x1 => (intro w hSw; (try dsimp only at hSw); go_simp; (first | done | with_reducible rfl))
        try simp only [Act.put, List.setIfInBounds_toArray, List.set_cons_zero, List.set_cons_succ]
        refine wpAnyH_take (i := 27) (oi := { dst := some 47, op := _, type := _, pos := _, after := _, guard := _ }) (v := undef) rfl (by kernel_rfl) (by kernel_rfl) (by kernel_rfl) (fun _ _ _ h => h) (Or.inr ⟨by kernel_rfl, rfl⟩) hHeld1 ?_
        try simp only [Act.put, List.setIfInBounds_toArray, List.set_cons_zero, List.set_cons_succ]
        refine wpAnyH_take (i := 28) (oi := { dst := some 48, op := _, type := _, pos := _, after := _, guard := _ }) (v := undef) rfl (by kernel_rfl) (by kernel_rfl) (by kernel_rfl) (fun _ _ _ h => h) (Or.inr ⟨by kernel_rfl, rfl⟩) hHeld1 ?_
        try simp only [Act.put, List.setIfInBounds_toArray, List.set_cons_zero, List.set_cons_succ]
        refine wpAnyH_take (i := 29) (oi := { dst := some 49, op := _, type := _, pos := _, after := _, guard := _ }) (v := undef) rfl (by kernel_rfl) (by kernel_rfl) (by kernel_rfl) (fun _ _ _ h => h) (Or.inr ⟨by kernel_rfl, rfl⟩) hHeld1 ?_
        try simp only [Act.put, List.setIfInBounds_toArray, List.set_cons_zero, List.set_cons_succ]
        refine wpAnyH_take (i := 30) (oi := { dst := some 50, op := _, type := _, pos := _, after := _, guard := _ }) (v := undef) rfl (by kernel_rfl) (by kernel_rfl) (by kernel_rfl) (fun _ _ _ h => h) (Or.inr ⟨by kernel_rfl, rfl⟩) hHeld1 ?_
        try simp only [Act.put, List.setIfInBounds_toArray, List.set_cons_zero, List.set_cons_succ]
        refine wpAnyH_take (i := 31) (oi := { dst := some 51, op := _, type := _, pos := _, after := _, guard := _ }) (v := undef) rfl (by kernel_rfl) (by kernel_rfl) (by kernel_rfl) (fun _ _ _ h => h) (Or.inr ⟨by kernel_rfl, rfl⟩) hHeld1 ?_
        try simp only [Act.put, List.setIfInBounds_toArray, List.set_cons_zero, List.set_cons_succ]
        refine wpAnyH_take (i := 32) (oi := { dst := some 52, op := _, type := _, pos := _, after := _, guard := _ }) (v := ?v32x1) rfl (by kernel_rfl) (by kernel_rfl) (by kernel_rfl) (fun _ _ _ h => h) (Or.inl ⟨by kernel_rfl, ?hy32x1⟩) hHeld1 ?rest32x1
        case hy32x1 => (intro w hSw; (try dsimp only at hSw); go_simp; (first | done | with_reducible rfl))
        try simp only [Act.put, List.setIfInBounds_toArray, List.set_cons_zero, List.set_cons_succ]
        refine wpAnyH_done (by kernel_rfl) ?_ _
        have hH := hHeld1
        clear hHeld1
        have HB := Aside0.mk hH.2.2.2.2
        clear hH
        go_wp2
        go_ret
        exact ⟨ret_bool HQ.out, HB.out⟩
      | true =>
      rw [n1] at HN1
      cases n2 : nameB ss[k].owner with
      | false =>
        have HQ := Aside0.mk (HNO.out (HE.out.trans (by rw [n1, n2]; rfl)))
        rw [n2] at HN2
        clear n1 n2
        go_wp2_with fail
        refine wp_region_held_drew (S := (fun w' => w'.cell? ⟨w.heap.size, 0, none⟩ = some (.slice (some ad) ss.length cs) ∧ w'.cell? ⟨w.heap.size, 1, none⟩ = some (.slice At ts.length ct) ∧ w'.cell? ⟨wr.heap.size, 0, none⟩ = some (.string ss[k].name) ∧ w'.cell? ⟨wr.heap.size, 1, none⟩ = some (.string ss[k].owner) ∧ Below w.heap.size w w')) (by kernel_rfl) ⟨o0' _, o1' _, b0, b1, pw_below_drewN (HBW.out _) 1⟩ (fun hHeld0 => ?_)
        refine wpAnyH_take (i := 0) (oi := { dst := some 20, op := _, type := _, pos := _, after := _, guard := _ }) (v := ?v0x2) rfl (by kernel_rfl) (by kernel_rfl) (by kernel_rfl) (fun _ _ _ h => h) (Or.inl ⟨by kernel_rfl, ?hy0x2⟩) hHeld0 ?rest0x2
        case hy0x2 => (intro w hSw; (try dsimp only at hSw); go_simp; (first | done | with_reducible rfl))
        try simp only [Act.put, List.setIfInBounds_toArray, List.set_cons_zero, List.set_cons_succ]
        refine wpAnyH_take (i := 1) (oi := { dst := some 21, op := _, type := _, pos := _, after := _, guard := _ }) (v := ?v1x2) rfl (by kernel_rfl) (by kernel_rfl) (by kernel_rfl) (fun _ _ _ h => h) (Or.inl ⟨by kernel_rfl, ?hy1x2⟩) hHeld0 ?rest1x2
        case hy1x2 => (intro w hSw; (try dsimp only at hSw); go_simp; (first | done | with_reducible rfl))
        try simp only [Act.put, List.setIfInBounds_toArray, List.set_cons_zero, List.set_cons_succ]
        refine wpAnyH_ready (rs := [2]) (by kernel_rfl) (by simp) ?_
        refine AllReadyH.cons (o := { dst := some 22, op := _, type := _, pos := _, after := _, guard := _ }) rfl (fun K hK => ?_) AllReadyH.nil
        go_simp
        (go_at_call 10; refine (HN1.out _).mono ?_; rintro e w' ⟨rfl, hb⟩)
        refine hK.out _ _ (keepC4 hHeld0 hb) (fun hHeld1 => ?_)
        clear hK K hHeld0
        try simp only [Act.put, List.setIfInBounds_toArray, List.set_cons_zero, List.set_cons_succ]
        refine wpAnyH_take (i := 3) (oi := { dst := some 23, op := _, type := _, pos := _, after := _, guard := _ }) (v := ?v3x2) rfl (by kernel_rfl) (by kernel_rfl) (by kernel_rfl) (fun _ _ _ h => h) (Or.inl ⟨by kernel_rfl, ?hy3x2⟩) hHeld1 ?rest3x2
        case hy3x2 => (intro w hSw; (try dsimp only at hSw); go_simp; (first | done | with_reducible rfl))
        try simp only [Act.put, List.setIfInBounds_toArray, List.set_cons_zero, List.set_cons_succ]
        refine wpAnyH_take (i := 4) (oi := { dst := some 24, op := _, type := _, pos := _, after := _, guard := _ }) (v := ?v4x2) rfl (by kernel_rfl) (by kernel_rfl) (by kernel_rfl) (fun _ _ _ h => h) (Or.inl ⟨by kernel_rfl, ?hy4x2⟩) hHeld1 ?rest4x2
        case hy4x2 => (intro w hSw; (try dsimp only at hSw); go_simp; (first | done | with_reducible rfl))
        try simp only [Act.put, List.setIfInBounds_toArray, List.set_cons_zero, List.set_cons_succ]
        refine wpAnyH_take (i := 5) (oi := { dst := some 25, op := _, type := _, pos := _, after := _, guard := _ }) (v := ?v5x2) rfl (by kernel_rfl) (by kernel_rfl) (by kernel_rfl) (fun _ _ _ h => h) (Or.inl ⟨by kernel_rfl, ?hy5x2⟩) hHeld1 ?rest5x2
        case hy5x2 => (intro w hSw; (try dsimp only at hSw); go_simp; (first | done | with_reducible rfl))
        try simp only [Act.put, List.setIfInBounds_toArray, List.set_cons_zero, List.set_cons_succ]
        refine wpAnyH_take (i := 6) (oi := { dst := some 26, op := _, type := _, pos := _, after := _, guard := _ }) (v := ?v6x2) rfl (by kernel_rfl) (by kernel_rfl) (by kernel_rfl) (fun _ _ _ h => h) (Or.inl ⟨by kernel_rfl, ?hy6x2⟩) hHeld1 ?rest6x2
        case hy6x2 => (intro w hSw; (try dsimp only at hSw); go_simp; (first | done | with_reducible rfl))
        try simp only [Act.put, List.setIfInBounds_toArray, List.set_cons_zero, List.set_cons_succ]
        refine wpAnyH_ready (rs := [7]) (by kernel_rfl) (by simp) ?_
        refine AllReadyH.cons (o := { dst := some 27, op := _, type := _, pos := _, after := _, guard := _ }) rfl (fun K hK => ?_) AllReadyH.nil
        go_simp
        (go_at_call 10; refine (HN2.out _).mono ?_; rintro e w' ⟨rfl, hb⟩)
        refine hK.out _ _ (keepC4 hHeld1 hb) (fun hHeld2 => ?_)
        clear hK K hHeld1
        try simp only [Act.put, List.setIfInBounds_toArray, List.set_cons_zero, List.set_cons_succ]
        refine wpAnyH_take (i := 8) (oi := { dst := some 28, op := _, type := _, pos := _, after := _, guard := _ }) (v := ?v8x2) rfl (by kernel_rfl) (by kernel_rfl) (by kernel_rfl) (fun _ _ _ h => h) (Or.inl ⟨by kernel_rfl, ?hy8x2⟩) hHeld2 ?rest8x2
        case hy8x2 => (intro w hSw; (try dsimp only at hSw); go_simp; (first | done | with_reducible rfl))
        try simp only [Act.put, List.setIfInBounds_toArray, List.set_cons_zero, List.set_cons_succ]
        refine wpAnyH_take (i := 9) (oi := { dst := some 29, op := _, type := _, pos := _, after := _, guard := _ }) (v := ?v9x2) rfl (by kernel_rfl) (by kernel_rfl) (by kernel_rfl) (fun _ _ _ h => h) (Or.inl ⟨by kernel_rfl, ?hy9x2⟩) hHeld2 ?rest9x2
        case hy9x2 => (intro w hSw; (try dsimp only at hSw); go_simp; (first | done | with_reducible rfl))
        try simp only [Act.put, List.setIfInBounds_toArray, List.set_cons_zero, List.set_cons_succ]
        refine wpAnyH_take (i := 10) (oi := { dst := some 30, op := _, type := _, pos := _, after := _, guard := _ }) (v := ?v10x2) rfl (by kernel_rfl) (by kernel_rfl) (by kernel_rfl) (fun _ _ _ h => h) (Or.inl ⟨by kernel_rfl, ?hy10x2⟩) hHeld2 ?rest10x2
        case hy10x2 => (intro w hSw; (try dsimp only at hSw); go_simp; (first | done | with_reducible rfl))
        try simp only [Act.put, List.setIfInBounds_toArray, List.set_cons_zero, List.set_cons_succ]
        refine wpAnyH_take (i := 11) (oi := { dst := some 31, op := _, type := _, pos := _, after := _, guard := _ }) (v := undef) rfl (by kernel_rfl) (by kernel_rfl) (by kernel_rfl) (fun _ _ _ h => h) (Or.inr ⟨by kernel_rfl, rfl⟩) hHeld2 ?_
        try simp only [Act.put, List.setIfInBounds_toArray, List.set_cons_zero, List.set_cons_succ]
        refine wpAnyH_take (i := 12) (oi := { dst := some 32, op := _, type := _, pos := _, after := _, guard := _ }) (v := undef) rfl (by kernel_rfl) (by kernel_rfl) (by kernel_rfl) (fun _ _ _ h => h) (Or.inr ⟨by kernel_rfl, rfl⟩) hHeld2 ?_
        try simp only [Act.put, List.setIfInBounds_toArray, List.set_cons_zero, List.set_cons_succ]
        refine wpAnyH_take (i := 13) (oi := { dst := some 33, op := _, type := _, pos := _, after := _, guard := _ }) (v := undef) rfl (by kernel_rfl) (by kernel_rfl) (by kernel_rfl) (fun _ _ _ h => h) (Or.inr ⟨by kernel_rfl, rfl⟩) hHeld2 ?_
        try simp only [Act.put, List.setIfInBounds_toArray, List.set_cons_zero, List.set_cons_succ]
        refine wpAnyH_take (i := 14) (oi := { dst := some 34, op := _, type := _, pos := _, after := _, guard := _ }) (v := undef) rfl (by kernel_rfl) (by kernel_rfl) (by kernel_rfl) (fun _ _ _ h => h) (Or.inr ⟨by kernel_rfl, rfl⟩) hHeld2 ?_
        try simp only [Act.put, List.setIfInBounds_toArray, List.set_cons_zero, List.set_cons_succ]
        refine wpAnyH_take (i := 15) (oi := { dst := some 35, op := _, type := _, pos := _, after := _, guard := _ }) (v := undef) rfl (by kernel_rfl) (by kernel_rfl) (by kernel_rfl) (fun _ _ _ h => h) (Or.inr ⟨by kernel_rfl, rfl⟩) hHeld2 ?_
        try simp only [Act.put, List.setIfInBounds_toArray, List.set_cons_zero, List.set_cons_succ]
        refine wpAnyH_take (i := 16) (oi := { dst := some 36, op := _, type := _, pos := _, after := _, guard := _ }) (v := undef) rfl (by kernel_rfl) (by kernel_rfl) (by kernel_rfl) (fun _ _ _ h => h) (Or.inr ⟨by kernel_rfl, rfl⟩) hHeld2 ?_
        try simp only [Act.put, List.setIfInBounds_toArray, List.set_cons_zero, List.set_cons_succ]
        refine wpAnyH_take (i := 17) (oi := { dst := some 37, op := _, type := _, pos := _, after := _, guard := _ }) (v := undef) rfl (by kernel_rfl) (by kernel_rfl) (by kernel_rfl) (fun _ _ _ h => h) (Or.inr ⟨by kernel_rfl, rfl⟩) hHeld2 ?_
        try simp only [Act.put, List.setIfInBounds_toArray, List.set_cons_zero, List.set_cons_succ]
        refine wpAnyH_take (i := 18) (oi := { dst := some 38, op := _, type := _, pos := _, after := _, guard := _ }) (v := undef) rfl (by kernel_rfl) (by kernel_rfl) (by kernel_rfl) (fun _ _ _ h => h) (Or.inr ⟨by kernel_rfl, rfl⟩) hHeld2 ?_
        try simp only [Act.put, List.setIfInBounds_toArray, List.set_cons_zero, List.set_cons_succ]
        refine wpAnyH_take (i := 19) (oi := { dst := some 39, op := _, type := _, pos := _, after := _, guard := _ }) (v := undef) rfl (by kernel_rfl) (by kernel_rfl) (by kernel_rfl) (fun _ _ _ h => h) (Or.inr ⟨by kernel_rfl, rfl⟩) hHeld2 ?_
        try simp only [Act.put, List.setIfInBounds_toArray, List.set_cons_zero, List.set_cons_succ]
        refine wpAnyH_take (i := 20) (oi := { dst := some 40, op := _, type := _, pos := _, after := _, guard := _ }) (v := undef) rfl (by kernel_rfl) (by kernel_rfl) (by kernel_rfl) (fun _ _ _ h => h) (Or.inr ⟨by kernel_rfl, rfl⟩) hHeld2 ?_
        try simp only [Act.put, List.setIfInBounds_toArray, List.set_cons_zero, List.set_cons_succ]
        refine wpAnyH_take (i := 21) (oi := { dst := some 41, op := _, type := _, pos := _, after := _, guard := _ }) (v := undef) rfl (by kernel_rfl) (by kernel_rfl) (by kernel_rfl) (fun _ _ _ h => h) (Or.inr ⟨by kernel_rfl, rfl⟩) hHeld2 ?_
        try simp only [Act.put, List.setIfInBounds_toArray, List.set_cons_zero, List.set_cons_succ]
        refine wpAnyH_take (i := 22) (oi := { dst := some 42, op := _, type := _, pos := _, after := _, guard := _ }) (v := undef) rfl (by kernel_rfl) (by kernel_rfl) (by kernel_rfl) (fun _ _ _ h => h) (Or.inr ⟨by kernel_rfl, rfl⟩) hHeld2 ?_
        try simp only [Act.put, List.setIfInBounds_toArray, List.set_cons_zero, List.set_cons_succ]
        refine wpAnyH_take (i := 23) (oi := { dst := some 43, op := _, type := _, pos := _, after := _, guard := _ }) (v := undef) rfl (by kernel_rfl) (by kernel_rfl) (by kernel_rfl) (fun _ _ _ h => h) (Or.inr ⟨by kernel_rfl, rfl⟩) hHeld2 ?_
        try simp only [Act.put, List.setIfInBounds_toArray, List.set_cons_zero, List.set_cons_succ]
        refine wpAnyH_take (i := 24) (oi := { dst := some 44, op := _, type := _, pos := _, after := _, guard := _ }) (v := undef) rfl (by kernel_rfl) (by kernel_rfl) (by kernel_rfl) (fun _ _ _ h => h) (Or.inr ⟨by kernel_rfl, rfl⟩) hHeld2 ?_
        try simp only [Act.put, List.setIfInBounds_toArray, List.set_cons_zero, List.set_cons_succ]
        refine wpAnyH_take (i := 25) (oi := { dst := some 45, op := _, type := _, pos := _, after := _, guard := _ }) (v := ?v25x2) rfl (by kernel_rfl) (by kernel_rfl) (by kernel_rfl) (fun _ _ _ h => h) (Or.inl ⟨by kernel_rfl, ?hy25x2⟩) hHeld2 ?rest25x2
        case hy25x2 => (intro w hSw; (try dsimp only at hSw); go_simp; (first | done | with_reducible rfl))
        try simp only [Act.put, List.setIfInBounds_toArray, List.set_cons_zero, List.set_cons_succ]
        refine wpAnyH_take (i := 26) (oi := { dst := some 46, op := _, type := _, pos := _, after := _, guard := _ }) (v := ?v26x2) rfl (by kernel_rfl) (by kernel_rfl) (by kernel_rfl) (fun _ _ _ h => h) (Or.inl ⟨by kernel_rfl, ?hy26x2⟩) hHeld2 ?rest26x2
        case hy26x2 => (intro w hSw; (try dsimp only at hSw); go_simp; (first | done | with_reducible rfl))
        try simp only [Act.put, List.setIfInBounds_toArray, List.set_cons_zero, List.set_cons_succ]
        refine wpAnyH_take (i := 27) (oi := { dst := some 47, op := _, type := _, pos := _, after := _, guard := _ }) (v := undef) rfl (by kernel_rfl) (by kernel_rfl) (by kernel_rfl) (fun _ _ _ h => h) (Or.inr ⟨by kernel_rfl, rfl⟩) hHeld2 ?_
        try simp only [Act.put, List.setIfInBounds_toArray, List.set_cons_zero, List.set_cons_succ]
        refine wpAnyH_take (i := 28) (oi := { dst := some 48, op := _, type := _, pos := _, after := _, guard := _ }) (v := undef) rfl (by kernel_rfl) (by kernel_rfl) (by kernel_rfl) (fun _ _ _ h => h) (Or.inr ⟨by kernel_rfl, rfl⟩) hHeld2 ?_
        try simp only [Act.put, List.setIfInBounds_toArray, List.set_cons_zero, List.set_cons_succ]
        refine wpAnyH_take (i := 29) (oi := { dst := some 49, op := _, type := _, pos := _, after := _, guard := _ }) (v := undef) rfl (by kernel_rfl) (by kernel_rfl) (by kernel_rfl) (fun _ _ _ h => h) (Or.inr ⟨by kernel_rfl, rfl⟩) hHeld2 ?_
        try simp only [Act.put, List.setIfInBounds_toArray, List.set_cons_zero, List.set_cons_succ]
        refine wpAnyH_take (i := 30) (oi := { dst := some 50, op := _, type := _, pos := _, after := _, guard := _ }) (v := undef) rfl (by kernel_rfl) (by kernel_rfl) (by kernel_rfl) (fun _ _ _ h => h) (Or.inr ⟨by kernel_rfl, rfl⟩) hHeld2 ?_
        try simp only [Act.put, List.setIfInBounds_toArray, List.set_cons_zero, List.set_cons_succ]
        refine wpAnyH_take (i := 31) (oi := { dst := some 51, op := _, type := _, pos := _, after := _, guard := _ }) (v := undef) rfl (by kernel_rfl) (by kernel_rfl) (by kernel_rfl) (fun _ _ _ h => h) (Or.inr ⟨by kernel_rfl, rfl⟩) hHeld2 ?_
        try simp only [Act.put, List.setIfInBounds_toArray, List.set_cons_zero, List.set_cons_succ]
        refine wpAnyH_take (i := 32) (oi := { dst := some 52, op := _, type := _, pos := _, after := _, guard := _ }) (v := ?v32x2) rfl (by kernel_rfl) (by kernel_rfl) (by kernel_rfl) (fun _ _ _ h => h) (Or.inl ⟨by kernel_rfl, ?hy32x2⟩) hHeld2 ?rest32x2
        case hy32x2 => (intro w hSw; (try dsimp only at hSw); go_simp; (first | done | with_reducible rfl))
        try simp only [Act.put, List.setIfInBounds_toArray, List.set_cons_zero, List.set_cons_succ]
        refine wpAnyH_done (by kernel_rfl) ?_ _
        have hH := hHeld2
        clear hHeld2
        have HB := Aside0.mk hH.2.2.2.2
        clear hH
        go_wp2
        go_ret
        exact ⟨ret_bool HQ.out, HB.out⟩
      | true =>
      rw [n2] at HN2
      have HE2 := Aside0.mk (HE.out.trans (by rw [n1, n2, Bool.true_and, Bool.true_and]))
      clear n1 n2
      by_cases hk0 : k = 0
      · have hg : decide ((0 : Int) < (k : Int)) = false := decide_eq_false (by omega)
        have hg' : decide (0 < k) = false := decide_eq_false (by omega)
        have hg'' : ¬ 0 < k := by omega
        by_cases h9 : cnt (ofS ss[k].name) ts ≤ 8
        · have g9 : decide ((8 : Int) < ((cnt (ofS ss[k].name) ts : Nat) : Int)) = false := decide_eq_false (by omega)
          have HQ := Aside0.mk (HE2.out.trans (decide_eq_true h9))
          have HK0 := Aside0.mk hk0
          clear h9 hk0
          go_wp2_with fail
          · skip
            refine wp_region_held_drew (S := (fun w' => w'.cell? ⟨w.heap.size, 0, none⟩ = some (.slice (some ad) ss.length cs) ∧ w'.cell? ⟨w.heap.size, 1, none⟩ = some (.slice At ts.length ct) ∧ w'.cell? ⟨wr.heap.size, 0, none⟩ = some (.string ss[k].name) ∧ w'.cell? ⟨wr.heap.size, 1, none⟩ = some (.string ss[k].owner) ∧ Below w.heap.size w w')) (by kernel_rfl) ⟨o0' _, o1' _, b0, b1, pw_below_drewN (HBW.out _) 1⟩ (fun hHeld0 => ?_)
            refine wpAnyH_take (i := 0) (oi := { dst := some 20, op := _, type := _, pos := _, after := _, guard := _ }) (v := ?v0x3) rfl (by kernel_rfl) (by kernel_rfl) (by kernel_rfl) (fun _ _ _ h => h) (Or.inl ⟨by kernel_rfl, ?hy0x3⟩) hHeld0 ?rest0x3
            case hy0x3 => (intro w hSw; (try dsimp only at hSw); go_simp; (first | done | with_reducible rfl))
            try simp only [Act.put, List.setIfInBounds_toArray, List.set_cons_zero, List.set_cons_succ]
            refine wpAnyH_take (i := 1) (oi := { dst := some 21, op := _, type := _, pos := _, after := _, guard := _ }) (v := ?v1x3) rfl (by kernel_rfl) (by kernel_rfl) (by kernel_rfl) (fun _ _ _ h => h) (Or.inl ⟨by kernel_rfl, ?hy1x3⟩) hHeld0 ?rest1x3
            case hy1x3 => (intro w hSw; (try dsimp only at hSw); go_simp; (first | done | with_reducible rfl))
            try simp only [Act.put, List.setIfInBounds_toArray, List.set_cons_zero, List.set_cons_succ]
            refine wpAnyH_ready (rs := [2]) (by kernel_rfl) (by simp) ?_
            refine AllReadyH.cons (o := { dst := some 22, op := _, type := _, pos := _, after := _, guard := _ }) rfl (fun K hK => ?_) AllReadyH.nil
            go_simp
            (go_at_call 10; refine (HN1.out _).mono ?_; rintro e w' ⟨rfl, hb⟩)
            refine hK.out _ _ (keepC4 hHeld0 hb) (fun hHeld1 => ?_)
            clear hK K hHeld0
            try simp only [Act.put, List.setIfInBounds_toArray, List.set_cons_zero, List.set_cons_succ]
            refine wpAnyH_take (i := 3) (oi := { dst := some 23, op := _, type := _, pos := _, after := _, guard := _ }) (v := ?v3x3) rfl (by kernel_rfl) (by kernel_rfl) (by kernel_rfl) (fun _ _ _ h => h) (Or.inl ⟨by kernel_rfl, ?hy3x3⟩) hHeld1 ?rest3x3
            case hy3x3 => (intro w hSw; (try dsimp only at hSw); go_simp; (first | done | with_reducible rfl))
            try simp only [Act.put, List.setIfInBounds_toArray, List.set_cons_zero, List.set_cons_succ]
            refine wpAnyH_take (i := 4) (oi := { dst := some 24, op := _, type := _, pos := _, after := _, guard := _ }) (v := ?v4x3) rfl (by kernel_rfl) (by kernel_rfl) (by kernel_rfl) (fun _ _ _ h => h) (Or.inl ⟨by kernel_rfl, ?hy4x3⟩) hHeld1 ?rest4x3
            case hy4x3 => (intro w hSw; (try dsimp only at hSw); go_simp; (first | done | with_reducible rfl))
            try simp only [Act.put, List.setIfInBounds_toArray, List.set_cons_zero, List.set_cons_succ]
            refine wpAnyH_take (i := 5) (oi := { dst := some 25, op := _, type := _, pos := _, after := _, guard := _ }) (v := ?v5x3) rfl (by kernel_rfl) (by kernel_rfl) (by kernel_rfl) (fun _ _ _ h => h) (Or.inl ⟨by kernel_rfl, ?hy5x3⟩) hHeld1 ?rest5x3
            case hy5x3 => (intro w hSw; (try dsimp only at hSw); go_simp; (first | done | with_reducible rfl))
            try simp only [Act.put, List.setIfInBounds_toArray, List.set_cons_zero, List.set_cons_succ]
            refine wpAnyH_take (i := 6) (oi := { dst := some 26, op := _, type := _, pos := _, after := _, guard := _ }) (v := ?v6x3) rfl (by kernel_rfl) (by kernel_rfl) (by kernel_rfl) (fun _ _ _ h => h) (Or.inl ⟨by kernel_rfl, ?hy6x3⟩) hHeld1 ?rest6x3
            case hy6x3 => (intro w hSw; (try dsimp only at hSw); go_simp; (first | done | with_reducible rfl))
            try simp only [Act.put, List.setIfInBounds_toArray, List.set_cons_zero, List.set_cons_succ]
            refine wpAnyH_ready (rs := [7]) (by kernel_rfl) (by simp) ?_
            refine AllReadyH.cons (o := { dst := some 27, op := _, type := _, pos := _, after := _, guard := _ }) rfl (fun K hK => ?_) AllReadyH.nil
            go_simp
            (go_at_call 10; refine (HN2.out _).mono ?_; rintro e w' ⟨rfl, hb⟩)
            refine hK.out _ _ (keepC4 hHeld1 hb) (fun hHeld2 => ?_)
            clear hK K hHeld1
            try simp only [Act.put, List.setIfInBounds_toArray, List.set_cons_zero, List.set_cons_succ]
            refine wpAnyH_take (i := 8) (oi := { dst := some 28, op := _, type := _, pos := _, after := _, guard := _ }) (v := ?v8x3) rfl (by kernel_rfl) (by kernel_rfl) (by kernel_rfl) (fun _ _ _ h => h) (Or.inl ⟨by kernel_rfl, ?hy8x3⟩) hHeld2 ?rest8x3
            case hy8x3 => (intro w hSw; (try dsimp only at hSw); go_simp; (first | done | with_reducible rfl))
            try simp only [Act.put, List.setIfInBounds_toArray, List.set_cons_zero, List.set_cons_succ]
            refine wpAnyH_take (i := 9) (oi := { dst := some 29, op := _, type := _, pos := _, after := _, guard := _ }) (v := ?v9x3) rfl (by kernel_rfl) (by kernel_rfl) (by kernel_rfl) (fun _ _ _ h => h) (Or.inl ⟨by kernel_rfl, ?hy9x3⟩) hHeld2 ?rest9x3
            case hy9x3 => (intro w hSw; (try dsimp only at hSw); go_simp; (first | done | with_reducible rfl))
            try simp only [Act.put, List.setIfInBounds_toArray, List.set_cons_zero, List.set_cons_succ]
            refine wpAnyH_take (i := 10) (oi := { dst := some 30, op := _, type := _, pos := _, after := _, guard := _ }) (v := ?v10x3) rfl (by kernel_rfl) (by kernel_rfl) (by kernel_rfl) (fun _ _ _ h => h) (Or.inl ⟨by kernel_rfl, ?hy10x3⟩) hHeld2 ?rest10x3
            case hy10x3 => (intro w hSw; (try dsimp only at hSw); go_simp; (first | done | with_reducible rfl))
            try simp only [Act.put, List.setIfInBounds_toArray, List.set_cons_zero, List.set_cons_succ]
            refine wpAnyH_take (i := 11) (oi := { dst := some 31, op := _, type := _, pos := _, after := _, guard := _ }) (v := ?v11x3) rfl (by kernel_rfl) (by kernel_rfl) (by kernel_rfl) (fun _ _ _ h => h) (Or.inl ⟨by kernel_rfl, ?hy11x3⟩) hHeld2 ?rest11x3
            case hy11x3 => (intro w hSw; (try dsimp only at hSw); go_simp; (first | done | with_reducible rfl))
            try simp only [Act.put, List.setIfInBounds_toArray, List.set_cons_zero, List.set_cons_succ]
            refine wpAnyH_take (i := 12) (oi := { dst := some 32, op := _, type := _, pos := _, after := _, guard := _ }) (v := ?v12x3) rfl (by kernel_rfl) (by kernel_rfl) (by kernel_rfl) (fun _ _ _ h => h) (Or.inl ⟨by kernel_rfl, ?hy12x3⟩) hHeld2 ?rest12x3
            case hy12x3 => (intro w hSw; (try dsimp only at hSw); go_simp; (first | done | with_reducible rfl))
            try simp only [Act.put, List.setIfInBounds_toArray, List.set_cons_zero, List.set_cons_succ]
            refine wpAnyH_take (i := 13) (oi := { dst := some 33, op := _, type := _, pos := _, after := _, guard := _ }) (v := ?v13x3) rfl (by kernel_rfl) (by kernel_rfl) (by kernel_rfl) (fun _ _ _ h => h) (Or.inl ⟨by kernel_rfl, ?hy13x3⟩) hHeld2 ?rest13x3
            case hy13x3 => (intro w hSw; (try dsimp only at hSw); go_simp; (first | done | with_reducible rfl))
            try simp only [Act.put, List.setIfInBounds_toArray, List.set_cons_zero, List.set_cons_succ]
            refine wpAnyH_take (i := 14) (oi := { dst := some 34, op := _, type := _, pos := _, after := _, guard := _ }) (v := undef) rfl (by kernel_rfl) (by kernel_rfl) (by kernel_rfl) (fun _ _ _ h => h) (Or.inr ⟨by kernel_rfl, rfl⟩) hHeld2 ?_
            try simp only [Act.put, List.setIfInBounds_toArray, List.set_cons_zero, List.set_cons_succ]
            refine wpAnyH_take (i := 15) (oi := { dst := some 35, op := _, type := _, pos := _, after := _, guard := _ }) (v := undef) rfl (by kernel_rfl) (by kernel_rfl) (by kernel_rfl) (fun _ _ _ h => h) (Or.inr ⟨by kernel_rfl, rfl⟩) hHeld2 ?_
            try simp only [Act.put, List.setIfInBounds_toArray, List.set_cons_zero, List.set_cons_succ]
            refine wpAnyH_take (i := 16) (oi := { dst := some 36, op := _, type := _, pos := _, after := _, guard := _ }) (v := undef) rfl (by kernel_rfl) (by kernel_rfl) (by kernel_rfl) (fun _ _ _ h => h) (Or.inr ⟨by kernel_rfl, rfl⟩) hHeld2 ?_
            try simp only [Act.put, List.setIfInBounds_toArray, List.set_cons_zero, List.set_cons_succ]
            refine wpAnyH_take (i := 17) (oi := { dst := some 37, op := _, type := _, pos := _, after := _, guard := _ }) (v := undef) rfl (by kernel_rfl) (by kernel_rfl) (by kernel_rfl) (fun _ _ _ h => h) (Or.inr ⟨by kernel_rfl, rfl⟩) hHeld2 ?_
            try simp only [Act.put, List.setIfInBounds_toArray, List.set_cons_zero, List.set_cons_succ]
            refine wpAnyH_take (i := 18) (oi := { dst := some 38, op := _, type := _, pos := _, after := _, guard := _ }) (v := undef) rfl (by kernel_rfl) (by kernel_rfl) (by kernel_rfl) (fun _ _ _ h => h) (Or.inr ⟨by kernel_rfl, rfl⟩) hHeld2 ?_
            try simp only [Act.put, List.setIfInBounds_toArray, List.set_cons_zero, List.set_cons_succ]
            refine wpAnyH_take (i := 19) (oi := { dst := some 39, op := _, type := _, pos := _, after := _, guard := _ }) (v := undef) rfl (by kernel_rfl) (by kernel_rfl) (by kernel_rfl) (fun _ _ _ h => h) (Or.inr ⟨by kernel_rfl, rfl⟩) hHeld2 ?_
            try simp only [Act.put, List.setIfInBounds_toArray, List.set_cons_zero, List.set_cons_succ]
            refine wpAnyH_take (i := 20) (oi := { dst := some 40, op := _, type := _, pos := _, after := _, guard := _ }) (v := undef) rfl (by kernel_rfl) (by kernel_rfl) (by kernel_rfl) (fun _ _ _ h => h) (Or.inr ⟨by kernel_rfl, rfl⟩) hHeld2 ?_
            try simp only [Act.put, List.setIfInBounds_toArray, List.set_cons_zero, List.set_cons_succ]
            refine wpAnyH_take (i := 21) (oi := { dst := some 41, op := _, type := _, pos := _, after := _, guard := _ }) (v := undef) rfl (by kernel_rfl) (by kernel_rfl) (by kernel_rfl) (fun _ _ _ h => h) (Or.inr ⟨by kernel_rfl, rfl⟩) hHeld2 ?_
            try simp only [Act.put, List.setIfInBounds_toArray, List.set_cons_zero, List.set_cons_succ]
            refine wpAnyH_take (i := 22) (oi := { dst := some 42, op := _, type := _, pos := _, after := _, guard := _ }) (v := undef) rfl (by kernel_rfl) (by kernel_rfl) (by kernel_rfl) (fun _ _ _ h => h) (Or.inr ⟨by kernel_rfl, rfl⟩) hHeld2 ?_
            try simp only [Act.put, List.setIfInBounds_toArray, List.set_cons_zero, List.set_cons_succ]
            refine wpAnyH_take (i := 23) (oi := { dst := some 43, op := _, type := _, pos := _, after := _, guard := _ }) (v := undef) rfl (by kernel_rfl) (by kernel_rfl) (by kernel_rfl) (fun _ _ _ h => h) (Or.inr ⟨by kernel_rfl, rfl⟩) hHeld2 ?_
            try simp only [Act.put, List.setIfInBounds_toArray, List.set_cons_zero, List.set_cons_succ]
            refine wpAnyH_take (i := 24) (oi := { dst := some 44, op := _, type := _, pos := _, after := _, guard := _ }) (v := ?v24x3) rfl (by kernel_rfl) (by kernel_rfl) (by kernel_rfl) (fun _ _ _ h => h) (Or.inl ⟨by kernel_rfl, ?hy24x3⟩) hHeld2 ?rest24x3
            case hy24x3 => (intro w hSw; (try dsimp only at hSw); go_simp; (first | done | with_reducible rfl))
            try simp only [Act.put, List.setIfInBounds_toArray, List.set_cons_zero, List.set_cons_succ]
            refine wpAnyH_take (i := 25) (oi := { dst := some 45, op := _, type := _, pos := _, after := _, guard := _ }) (v := ?v25x3) rfl (by kernel_rfl) (by kernel_rfl) (by kernel_rfl) (fun _ _ _ h => h) (Or.inl ⟨by kernel_rfl, ?hy25x3⟩) hHeld2 ?rest25x3
            case hy25x3 => (intro w hSw; (try dsimp only at hSw); go_simp; (first | done | with_reducible rfl))
            try simp only [Act.put, List.setIfInBounds_toArray, List.set_cons_zero, List.set_cons_succ]
            refine wpAnyH_take (i := 26) (oi := { dst := some 46, op := _, type := _, pos := _, after := _, guard := _ }) (v := ?v26x3) rfl (by kernel_rfl) (by kernel_rfl) (by kernel_rfl) (fun _ _ _ h => h) (Or.inl ⟨by kernel_rfl, ?hy26x3⟩) hHeld2 ?rest26x3
            case hy26x3 => (intro w hSw; (try dsimp only at hSw); go_simp; (first | done | with_reducible rfl))
            try simp only [Act.put, List.setIfInBounds_toArray, List.set_cons_zero, List.set_cons_succ]
            refine wpAnyH_take (i := 27) (oi := { dst := some 47, op := _, type := _, pos := _, after := _, guard := _ }) (v := ?v27x3) rfl (by kernel_rfl) (by kernel_rfl) (by kernel_rfl) (fun _ _ _ h => h) (Or.inl ⟨by kernel_rfl, ?hy27x3⟩) hHeld2 ?rest27x3
            case hy27x3 => (intro w hSw; (try dsimp only at hSw); go_simp; (first | done | with_reducible rfl))
            try simp only [Act.put, List.setIfInBounds_toArray, List.set_cons_zero, List.set_cons_succ]
            refine wpAnyH_take (i := 28) (oi := { dst := some 48, op := _, type := _, pos := _, after := _, guard := _ }) (v := ?v28x3) rfl (by kernel_rfl) (by kernel_rfl) (by kernel_rfl) (fun _ _ _ h => h) (Or.inl ⟨by kernel_rfl, ?hy28x3⟩) hHeld2 ?rest28x3
            case hy28x3 => (intro w hSw; (try dsimp only at hSw); go_simp; (first | done | with_reducible rfl))
            try simp only [Act.put, List.setIfInBounds_toArray, List.set_cons_zero, List.set_cons_succ]
            refine wpAnyH_take (i := 29) (oi := { dst := some 49, op := _, type := _, pos := _, after := _, guard := _ }) (v := ?v29x3) rfl (by kernel_rfl) (by kernel_rfl) (by kernel_rfl) (fun _ _ _ h => h) (Or.inl ⟨by kernel_rfl, ?hy29x3⟩) hHeld2 ?rest29x3
            case hy29x3 => (intro w hSw; (try dsimp only at hSw); go_simp; (first | done | with_reducible rfl))
            try simp only [Act.put, List.setIfInBounds_toArray, List.set_cons_zero, List.set_cons_succ]
            refine wpAnyH_ready (rs := [30]) (by kernel_rfl) (by simp) ?_
            refine AllReadyH.cons (o := { dst := some 50, op := _, type := _, pos := _, after := _, guard := _ }) rfl (fun K hK => ?_) AllReadyH.nil
            go_simp
            (go_at_call 79; refine (HW3.out _ (hHeld2.2.2.2.2)).mono ?_; rintro e w' ⟨rfl, hb⟩)
            refine hK.out _ _ (keepC4 hHeld2 hb) (fun hHeld3 => ?_)
            clear hK K hHeld2
            try simp only [Act.put, List.setIfInBounds_toArray, List.set_cons_zero, List.set_cons_succ]
            refine wpAnyH_take (i := 31) (oi := { dst := some 51, op := _, type := _, pos := _, after := _, guard := _ }) (v := ?v31x3) rfl (by kernel_rfl) (by kernel_rfl) (by kernel_rfl) (fun _ _ _ h => h) (Or.inl ⟨by kernel_rfl, ?hy31x3⟩) hHeld3 ?rest31x3
            case hy31x3 => (intro w hSw; (try dsimp only at hSw); go_simp; (first | done | with_reducible rfl))
            try simp only [Act.put, List.setIfInBounds_toArray, List.set_cons_zero, List.set_cons_succ]
            refine wpAnyH_take (i := 32) (oi := { dst := some 52, op := _, type := _, pos := _, after := _, guard := _ }) (v := ?v32x3) rfl (by kernel_rfl) (by kernel_rfl) (by kernel_rfl) (fun _ _ _ h => h) (Or.inl ⟨by kernel_rfl, ?hy32x3⟩) hHeld3 ?rest32x3
            case hy32x3 => (intro w hSw; (try dsimp only at hSw); go_simp; (first | done | with_reducible rfl))
            try simp only [Act.put, List.setIfInBounds_toArray, List.set_cons_zero, List.set_cons_succ]
            refine wpAnyH_done (by kernel_rfl) ?_ _
            have hH := hHeld3
            clear hHeld3
            have HB := Aside0.mk hH.2.2.2.2
            have HX5 : Aside0 (BoxO _ w.heap.size (some ad) ss.length cs At ts.length ct) := Aside0.mk ⟨hH.1, hH.2.1⟩
            clear hH
            go_wp2
            go_roundw
            case rel => exact ⟨k + 1, by omega, by go_num, ⟨snocB (f := fun j => schOK ts (ss.getD j zSch)) HJ.out.1 HQ.out, fun j h h' => by have := HK0.out; omega, HX5.out, HB.out⟩⟩
            case measure => simp [intOf]; omega
        · have g9 : decide ((8 : Int) < ((cnt (ofS ss[k].name) ts : Nat) : Int)) = true := decide_eq_true (by omega)
          have HQ := Aside0.mk (HNO.out (HE2.out.trans (decide_eq_false h9)))
          clear h9 hk0
          go_wp2_with fail
          · skip
            refine wp_region_held_drew (S := (fun w' => w'.cell? ⟨w.heap.size, 0, none⟩ = some (.slice (some ad) ss.length cs) ∧ w'.cell? ⟨w.heap.size, 1, none⟩ = some (.slice At ts.length ct) ∧ w'.cell? ⟨wr.heap.size, 0, none⟩ = some (.string ss[k].name) ∧ w'.cell? ⟨wr.heap.size, 1, none⟩ = some (.string ss[k].owner) ∧ Below w.heap.size w w')) (by kernel_rfl) ⟨o0' _, o1' _, b0, b1, pw_below_drewN (HBW.out _) 1⟩ (fun hHeld0 => ?_)
            refine wpAnyH_take (i := 0) (oi := { dst := some 20, op := _, type := _, pos := _, after := _, guard := _ }) (v := ?v0x4) rfl (by kernel_rfl) (by kernel_rfl) (by kernel_rfl) (fun _ _ _ h => h) (Or.inl ⟨by kernel_rfl, ?hy0x4⟩) hHeld0 ?rest0x4
            case hy0x4 => (intro w hSw; (try dsimp only at hSw); go_simp; (first | done | with_reducible rfl))
            try simp only [Act.put, List.setIfInBounds_toArray, List.set_cons_zero, List.set_cons_succ]
            refine wpAnyH_take (i := 1) (oi := { dst := some 21, op := _, type := _, pos := _, after := _, guard := _ }) (v := ?v1x4) rfl (by kernel_rfl) (by kernel_rfl) (by kernel_rfl) (fun _ _ _ h => h) (Or.inl ⟨by kernel_rfl, ?hy1x4⟩) hHeld0 ?rest1x4
            case hy1x4 => (intro w hSw; (try dsimp only at hSw); go_simp; (first | done | with_reducible rfl))
            try simp only [Act.put, List.setIfInBounds_toArray, List.set_cons_zero, List.set_cons_succ]
            refine wpAnyH_ready (rs := [2]) (by kernel_rfl) (by simp) ?_
            refine AllReadyH.cons (o := { dst := some 22, op := _, type := _, pos := _, after := _, guard := _ }) rfl (fun K hK => ?_) AllReadyH.nil
            go_simp
            (go_at_call 10; refine (HN1.out _).mono ?_; rintro e w' ⟨rfl, hb⟩)
            refine hK.out _ _ (keepC4 hHeld0 hb) (fun hHeld1 => ?_)
            clear hK K hHeld0
            try simp only [Act.put, List.setIfInBounds_toArray, List.set_cons_zero, List.set_cons_succ]
            refine wpAnyH_take (i := 3) (oi := { dst := some 23, op := _, type := _, pos := _, after := _, guard := _ }) (v := ?v3x4) rfl (by kernel_rfl) (by kernel_rfl) (by kernel_rfl) (fun _ _ _ h => h) (Or.inl ⟨by kernel_rfl, ?hy3x4⟩) hHeld1 ?rest3x4
            case hy3x4 => (intro w hSw; (try dsimp only at hSw); go_simp; (first | done | with_reducible rfl))
            try simp only [Act.put, List.setIfInBounds_toArray, List.set_cons_zero, List.set_cons_succ]
            refine wpAnyH_take (i := 4) (oi := { dst := some 24, op := _, type := _, pos := _, after := _, guard := _ }) (v := ?v4x4) rfl (by kernel_rfl) (by kernel_rfl) (by kernel_rfl) (fun _ _ _ h => h) (Or.inl ⟨by kernel_rfl, ?hy4x4⟩) hHeld1 ?rest4x4
            case hy4x4 => (intro w hSw; (try dsimp only at hSw); go_simp; (first | done | with_reducible rfl))
            try simp only [Act.put, List.setIfInBounds_toArray, List.set_cons_zero, List.set_cons_succ]
            refine wpAnyH_take (i := 5) (oi := { dst := some 25, op := _, type := _, pos := _, after := _, guard := _ }) (v := ?v5x4) rfl (by kernel_rfl) (by kernel_rfl) (by kernel_rfl) (fun _ _ _ h => h) (Or.inl ⟨by kernel_rfl, ?hy5x4⟩) hHeld1 ?rest5x4
            case hy5x4 => (intro w hSw; (try dsimp only at hSw); go_simp; (first | done | with_reducible rfl))
            try simp only [Act.put, List.setIfInBounds_toArray, List.set_cons_zero, List.set_cons_succ]
            refine wpAnyH_take (i := 6) (oi := { dst := some 26, op := _, type := _, pos := _, after := _, guard := _ }) (v := ?v6x4) rfl (by kernel_rfl) (by kernel_rfl) (by kernel_rfl) (fun _ _ _ h => h) (Or.inl ⟨by kernel_rfl, ?hy6x4⟩) hHeld1 ?rest6x4
            case hy6x4 => (intro w hSw; (try dsimp only at hSw); go_simp; (first | done | with_reducible rfl))
            try simp only [Act.put, List.setIfInBounds_toArray, List.set_cons_zero, List.set_cons_succ]
            refine wpAnyH_ready (rs := [7]) (by kernel_rfl) (by simp) ?_
            refine AllReadyH.cons (o := { dst := some 27, op := _, type := _, pos := _, after := _, guard := _ }) rfl (fun K hK => ?_) AllReadyH.nil
            go_simp
            (go_at_call 10; refine (HN2.out _).mono ?_; rintro e w' ⟨rfl, hb⟩)
            refine hK.out _ _ (keepC4 hHeld1 hb) (fun hHeld2 => ?_)
            clear hK K hHeld1
            try simp only [Act.put, List.setIfInBounds_toArray, List.set_cons_zero, List.set_cons_succ]
            refine wpAnyH_take (i := 8) (oi := { dst := some 28, op := _, type := _, pos := _, after := _, guard := _ }) (v := ?v8x4) rfl (by kernel_rfl) (by kernel_rfl) (by kernel_rfl) (fun _ _ _ h => h) (Or.inl ⟨by kernel_rfl, ?hy8x4⟩) hHeld2 ?rest8x4
            case hy8x4 => (intro w hSw; (try dsimp only at hSw); go_simp; (first | done | with_reducible rfl))
            try simp only [Act.put, List.setIfInBounds_toArray, List.set_cons_zero, List.set_cons_succ]
            refine wpAnyH_take (i := 9) (oi := { dst := some 29, op := _, type := _, pos := _, after := _, guard := _ }) (v := ?v9x4) rfl (by kernel_rfl) (by kernel_rfl) (by kernel_rfl) (fun _ _ _ h => h) (Or.inl ⟨by kernel_rfl, ?hy9x4⟩) hHeld2 ?rest9x4
            case hy9x4 => (intro w hSw; (try dsimp only at hSw); go_simp; (first | done | with_reducible rfl))
            try simp only [Act.put, List.setIfInBounds_toArray, List.set_cons_zero, List.set_cons_succ]
            refine wpAnyH_take (i := 10) (oi := { dst := some 30, op := _, type := _, pos := _, after := _, guard := _ }) (v := ?v10x4) rfl (by kernel_rfl) (by kernel_rfl) (by kernel_rfl) (fun _ _ _ h => h) (Or.inl ⟨by kernel_rfl, ?hy10x4⟩) hHeld2 ?rest10x4
            case hy10x4 => (intro w hSw; (try dsimp only at hSw); go_simp; (first | done | with_reducible rfl))
            try simp only [Act.put, List.setIfInBounds_toArray, List.set_cons_zero, List.set_cons_succ]
            refine wpAnyH_take (i := 11) (oi := { dst := some 31, op := _, type := _, pos := _, after := _, guard := _ }) (v := ?v11x4) rfl (by kernel_rfl) (by kernel_rfl) (by kernel_rfl) (fun _ _ _ h => h) (Or.inl ⟨by kernel_rfl, ?hy11x4⟩) hHeld2 ?rest11x4
            case hy11x4 => (intro w hSw; (try dsimp only at hSw); go_simp; (first | done | with_reducible rfl))
            try simp only [Act.put, List.setIfInBounds_toArray, List.set_cons_zero, List.set_cons_succ]
            refine wpAnyH_take (i := 12) (oi := { dst := some 32, op := _, type := _, pos := _, after := _, guard := _ }) (v := ?v12x4) rfl (by kernel_rfl) (by kernel_rfl) (by kernel_rfl) (fun _ _ _ h => h) (Or.inl ⟨by kernel_rfl, ?hy12x4⟩) hHeld2 ?rest12x4
            case hy12x4 => (intro w hSw; (try dsimp only at hSw); go_simp; (first | done | with_reducible rfl))
            try simp only [Act.put, List.setIfInBounds_toArray, List.set_cons_zero, List.set_cons_succ]
            refine wpAnyH_take (i := 13) (oi := { dst := some 33, op := _, type := _, pos := _, after := _, guard := _ }) (v := ?v13x4) rfl (by kernel_rfl) (by kernel_rfl) (by kernel_rfl) (fun _ _ _ h => h) (Or.inl ⟨by kernel_rfl, ?hy13x4⟩) hHeld2 ?rest13x4
            case hy13x4 => (intro w hSw; (try dsimp only at hSw); go_simp; (first | done | with_reducible rfl))
            try simp only [Act.put, List.setIfInBounds_toArray, List.set_cons_zero, List.set_cons_succ]
            refine wpAnyH_take (i := 14) (oi := { dst := some 34, op := _, type := _, pos := _, after := _, guard := _ }) (v := undef) rfl (by kernel_rfl) (by kernel_rfl) (by kernel_rfl) (fun _ _ _ h => h) (Or.inr ⟨by kernel_rfl, rfl⟩) hHeld2 ?_
            try simp only [Act.put, List.setIfInBounds_toArray, List.set_cons_zero, List.set_cons_succ]
            refine wpAnyH_take (i := 15) (oi := { dst := some 35, op := _, type := _, pos := _, after := _, guard := _ }) (v := undef) rfl (by kernel_rfl) (by kernel_rfl) (by kernel_rfl) (fun _ _ _ h => h) (Or.inr ⟨by kernel_rfl, rfl⟩) hHeld2 ?_
            try simp only [Act.put, List.setIfInBounds_toArray, List.set_cons_zero, List.set_cons_succ]
            refine wpAnyH_take (i := 16) (oi := { dst := some 36, op := _, type := _, pos := _, after := _, guard := _ }) (v := undef) rfl (by kernel_rfl) (by kernel_rfl) (by kernel_rfl) (fun _ _ _ h => h) (Or.inr ⟨by kernel_rfl, rfl⟩) hHeld2 ?_
            try simp only [Act.put, List.setIfInBounds_toArray, List.set_cons_zero, List.set_cons_succ]
            refine wpAnyH_take (i := 17) (oi := { dst := some 37, op := _, type := _, pos := _, after := _, guard := _ }) (v := undef) rfl (by kernel_rfl) (by kernel_rfl) (by kernel_rfl) (fun _ _ _ h => h) (Or.inr ⟨by kernel_rfl, rfl⟩) hHeld2 ?_
            try simp only [Act.put, List.setIfInBounds_toArray, List.set_cons_zero, List.set_cons_succ]
            refine wpAnyH_take (i := 18) (oi := { dst := some 38, op := _, type := _, pos := _, after := _, guard := _ }) (v := undef) rfl (by kernel_rfl) (by kernel_rfl) (by kernel_rfl) (fun _ _ _ h => h) (Or.inr ⟨by kernel_rfl, rfl⟩) hHeld2 ?_
            try simp only [Act.put, List.setIfInBounds_toArray, List.set_cons_zero, List.set_cons_succ]
            refine wpAnyH_take (i := 19) (oi := { dst := some 39, op := _, type := _, pos := _, after := _, guard := _ }) (v := undef) rfl (by kernel_rfl) (by kernel_rfl) (by kernel_rfl) (fun _ _ _ h => h) (Or.inr ⟨by kernel_rfl, rfl⟩) hHeld2 ?_
            try simp only [Act.put, List.setIfInBounds_toArray, List.set_cons_zero, List.set_cons_succ]
            refine wpAnyH_take (i := 20) (oi := { dst := some 40, op := _, type := _, pos := _, after := _, guard := _ }) (v := undef) rfl (by kernel_rfl) (by kernel_rfl) (by kernel_rfl) (fun _ _ _ h => h) (Or.inr ⟨by kernel_rfl, rfl⟩) hHeld2 ?_
            try simp only [Act.put, List.setIfInBounds_toArray, List.set_cons_zero, List.set_cons_succ]
            refine wpAnyH_take (i := 21) (oi := { dst := some 41, op := _, type := _, pos := _, after := _, guard := _ }) (v := undef) rfl (by kernel_rfl) (by kernel_rfl) (by kernel_rfl) (fun _ _ _ h => h) (Or.inr ⟨by kernel_rfl, rfl⟩) hHeld2 ?_
            try simp only [Act.put, List.setIfInBounds_toArray, List.set_cons_zero, List.set_cons_succ]
            refine wpAnyH_take (i := 22) (oi := { dst := some 42, op := _, type := _, pos := _, after := _, guard := _ }) (v := undef) rfl (by kernel_rfl) (by kernel_rfl) (by kernel_rfl) (fun _ _ _ h => h) (Or.inr ⟨by kernel_rfl, rfl⟩) hHeld2 ?_
            try simp only [Act.put, List.setIfInBounds_toArray, List.set_cons_zero, List.set_cons_succ]
            refine wpAnyH_take (i := 23) (oi := { dst := some 43, op := _, type := _, pos := _, after := _, guard := _ }) (v := undef) rfl (by kernel_rfl) (by kernel_rfl) (by kernel_rfl) (fun _ _ _ h => h) (Or.inr ⟨by kernel_rfl, rfl⟩) hHeld2 ?_
            try simp only [Act.put, List.setIfInBounds_toArray, List.set_cons_zero, List.set_cons_succ]
            refine wpAnyH_take (i := 24) (oi := { dst := some 44, op := _, type := _, pos := _, after := _, guard := _ }) (v := ?v24x4) rfl (by kernel_rfl) (by kernel_rfl) (by kernel_rfl) (fun _ _ _ h => h) (Or.inl ⟨by kernel_rfl, ?hy24x4⟩) hHeld2 ?rest24x4
            case hy24x4 => (intro w hSw; (try dsimp only at hSw); go_simp; (first | done | with_reducible rfl))
            try simp only [Act.put, List.setIfInBounds_toArray, List.set_cons_zero, List.set_cons_succ]
            refine wpAnyH_take (i := 25) (oi := { dst := some 45, op := _, type := _, pos := _, after := _, guard := _ }) (v := ?v25x4) rfl (by kernel_rfl) (by kernel_rfl) (by kernel_rfl) (fun _ _ _ h => h) (Or.inl ⟨by kernel_rfl, ?hy25x4⟩) hHeld2 ?rest25x4
            case hy25x4 => (intro w hSw; (try dsimp only at hSw); go_simp; (first | done | with_reducible rfl))
            try simp only [Act.put, List.setIfInBounds_toArray, List.set_cons_zero, List.set_cons_succ]
            refine wpAnyH_take (i := 26) (oi := { dst := some 46, op := _, type := _, pos := _, after := _, guard := _ }) (v := ?v26x4) rfl (by kernel_rfl) (by kernel_rfl) (by kernel_rfl) (fun _ _ _ h => h) (Or.inl ⟨by kernel_rfl, ?hy26x4⟩) hHeld2 ?rest26x4
            case hy26x4 => (intro w hSw; (try dsimp only at hSw); go_simp; (first | done | with_reducible rfl))
            try simp only [Act.put, List.setIfInBounds_toArray, List.set_cons_zero, List.set_cons_succ]
            refine wpAnyH_take (i := 27) (oi := { dst := some 47, op := _, type := _, pos := _, after := _, guard := _ }) (v := ?v27x4) rfl (by kernel_rfl) (by kernel_rfl) (by kernel_rfl) (fun _ _ _ h => h) (Or.inl ⟨by kernel_rfl, ?hy27x4⟩) hHeld2 ?rest27x4
            case hy27x4 => (intro w hSw; (try dsimp only at hSw); go_simp; (first | done | with_reducible rfl))
            try simp only [Act.put, List.setIfInBounds_toArray, List.set_cons_zero, List.set_cons_succ]
            refine wpAnyH_take (i := 28) (oi := { dst := some 48, op := _, type := _, pos := _, after := _, guard := _ }) (v := ?v28x4) rfl (by kernel_rfl) (by kernel_rfl) (by kernel_rfl) (fun _ _ _ h => h) (Or.inl ⟨by kernel_rfl, ?hy28x4⟩) hHeld2 ?rest28x4
            case hy28x4 => (intro w hSw; (try dsimp only at hSw); go_simp; (first | done | with_reducible rfl))
            try simp only [Act.put, List.setIfInBounds_toArray, List.set_cons_zero, List.set_cons_succ]
            refine wpAnyH_take (i := 29) (oi := { dst := some 49, op := _, type := _, pos := _, after := _, guard := _ }) (v := ?v29x4) rfl (by kernel_rfl) (by kernel_rfl) (by kernel_rfl) (fun _ _ _ h => h) (Or.inl ⟨by kernel_rfl, ?hy29x4⟩) hHeld2 ?rest29x4
            case hy29x4 => (intro w hSw; (try dsimp only at hSw); go_simp; (first | done | with_reducible rfl))
            try simp only [Act.put, List.setIfInBounds_toArray, List.set_cons_zero, List.set_cons_succ]
            refine wpAnyH_ready (rs := [30]) (by kernel_rfl) (by simp) ?_
            refine AllReadyH.cons (o := { dst := some 50, op := _, type := _, pos := _, after := _, guard := _ }) rfl (fun K hK => ?_) AllReadyH.nil
            go_simp
            (go_at_call 79; refine (HW3.out _ (hHeld2.2.2.2.2)).mono ?_; rintro e w' ⟨rfl, hb⟩)
            refine hK.out _ _ (keepC4 hHeld2 hb) (fun hHeld3 => ?_)
            clear hK K hHeld2
            try simp only [Act.put, List.setIfInBounds_toArray, List.set_cons_zero, List.set_cons_succ]
            refine wpAnyH_take (i := 31) (oi := { dst := some 51, op := _, type := _, pos := _, after := _, guard := _ }) (v := ?v31x4) rfl (by kernel_rfl) (by kernel_rfl) (by kernel_rfl) (fun _ _ _ h => h) (Or.inl ⟨by kernel_rfl, ?hy31x4⟩) hHeld3 ?rest31x4
            case hy31x4 => (intro w hSw; (try dsimp only at hSw); go_simp; (first | done | with_reducible rfl))
            try simp only [Act.put, List.setIfInBounds_toArray, List.set_cons_zero, List.set_cons_succ]
            refine wpAnyH_take (i := 32) (oi := { dst := some 52, op := _, type := _, pos := _, after := _, guard := _ }) (v := ?v32x4) rfl (by kernel_rfl) (by kernel_rfl) (by kernel_rfl) (fun _ _ _ h => h) (Or.inl ⟨by kernel_rfl, ?hy32x4⟩) hHeld3 ?rest32x4
            case hy32x4 => (intro w hSw; (try dsimp only at hSw); go_simp; (first | done | with_reducible rfl))
            try simp only [Act.put, List.setIfInBounds_toArray, List.set_cons_zero, List.set_cons_succ]
            refine wpAnyH_done (by kernel_rfl) ?_ _
            have hH := hHeld3
            clear hHeld3
            have HB := Aside0.mk hH.2.2.2.2
            clear hH
            go_wp2
            go_ret
            exact ⟨ret_bool HQ.out, HB.out⟩
      · obtain ⟨j, rfl⟩ : ∃ j, k = j + 1 := ⟨k - 1, by omega⟩
        clear hk0
        obtain ⟨ad', e, p0', p1'⟩ := cSch (Kd.C_below HS.out HJB.out) j (by omega)
        cases e
        have p0 : ((wr.alloc (schBox ss[j + 1])).drew).cell? (ad.add (j * 2)) = some (.string ss[j].name) := pw_cell_below (below_alloc (Below.refl _ _) _) p0'
        have hg : decide ((0 : Int) < (j : Int) + 1) = true := decide_eq_true (by omega)
        have hs1 : IntKind.i64.wrap ((j : Int) + 1 - 1) = (j : Int) := by rw [Int.add_sub_cancel]; exact IntWalk.i64_in _ (by omega)
        have hs2 : IntKind.i64.wrap (j : Int) = (j : Int) := IntWalk.i64_in _ (by omega)
        have hz1 : (j : Int) < (ss.length : Int) := by omega
        cases hl : Op.bytesLess ss[j].name.toList ss[j + 1].name.toList with
        | false =>
          have HQ := Aside0.mk (show false = q by
            rw [← HI.out]; unfold rowsB
            rw [rises_no (fun x y : Sch => cmpS x.name y.name) ss j hlt (fun h => by have h2 := less_S ss[j].name ss[j + 1].name; rw [hl] at h2; exact absurd h (of_decide_eq_false h2.symm)), Bool.false_and, Bool.and_false])
          go_wp2_with fail
          · skip
            refine wp_region_held_drew (S := (fun w' => w'.cell? ⟨w.heap.size, 0, none⟩ = some (.slice (some ad) ss.length cs) ∧ w'.cell? ⟨w.heap.size, 1, none⟩ = some (.slice At ts.length ct) ∧ w'.cell? ⟨wr.heap.size, 0, none⟩ = some (.string ss[j + 1].name) ∧ w'.cell? ⟨wr.heap.size, 1, none⟩ = some (.string ss[j + 1].owner) ∧ w'.cell? (ad.add (j * 2)) = some (.string ss[j].name) ∧ Below w.heap.size w w')) (by kernel_rfl) ⟨o0' _, o1' _, b0, b1, p0, pw_below_drewN (HBW.out _) 1⟩ (fun hHeld0 => ?_)
            refine wpAnyH_take (i := 0) (oi := { dst := some 20, op := _, type := _, pos := _, after := _, guard := _ }) (v := ?v0x5) rfl (by kernel_rfl) (by kernel_rfl) (by kernel_rfl) (fun _ _ _ h => h) (Or.inl ⟨by kernel_rfl, ?hy0x5⟩) hHeld0 ?rest0x5
            case hy0x5 => (intro w hSw; (try dsimp only at hSw); go_simp; (first | done | with_reducible rfl))
            try simp only [Act.put, List.setIfInBounds_toArray, List.set_cons_zero, List.set_cons_succ]
            refine wpAnyH_take (i := 1) (oi := { dst := some 21, op := _, type := _, pos := _, after := _, guard := _ }) (v := ?v1x5) rfl (by kernel_rfl) (by kernel_rfl) (by kernel_rfl) (fun _ _ _ h => h) (Or.inl ⟨by kernel_rfl, ?hy1x5⟩) hHeld0 ?rest1x5
            case hy1x5 => (intro w hSw; (try dsimp only at hSw); go_simp; (first | done | with_reducible rfl))
            try simp only [Act.put, List.setIfInBounds_toArray, List.set_cons_zero, List.set_cons_succ]
            refine wpAnyH_ready (rs := [2]) (by kernel_rfl) (by simp) ?_
            refine AllReadyH.cons (o := { dst := some 22, op := _, type := _, pos := _, after := _, guard := _ }) rfl (fun K hK => ?_) AllReadyH.nil
            go_simp
            (go_at_call 10; refine (HN1.out _).mono ?_; rintro e w' ⟨rfl, hb⟩)
            refine hK.out _ _ (keepC5 hHeld0 hb) (fun hHeld1 => ?_)
            clear hK K hHeld0
            try simp only [Act.put, List.setIfInBounds_toArray, List.set_cons_zero, List.set_cons_succ]
            refine wpAnyH_take (i := 3) (oi := { dst := some 23, op := _, type := _, pos := _, after := _, guard := _ }) (v := ?v3x5) rfl (by kernel_rfl) (by kernel_rfl) (by kernel_rfl) (fun _ _ _ h => h) (Or.inl ⟨by kernel_rfl, ?hy3x5⟩) hHeld1 ?rest3x5
            case hy3x5 => (intro w hSw; (try dsimp only at hSw); go_simp; (first | done | with_reducible rfl))
            try simp only [Act.put, List.setIfInBounds_toArray, List.set_cons_zero, List.set_cons_succ]
            refine wpAnyH_take (i := 4) (oi := { dst := some 24, op := _, type := _, pos := _, after := _, guard := _ }) (v := ?v4x5) rfl (by kernel_rfl) (by kernel_rfl) (by kernel_rfl) (fun _ _ _ h => h) (Or.inl ⟨by kernel_rfl, ?hy4x5⟩) hHeld1 ?rest4x5
            case hy4x5 => (intro w hSw; (try dsimp only at hSw); go_simp; (first | done | with_reducible rfl))
            try simp only [Act.put, List.setIfInBounds_toArray, List.set_cons_zero, List.set_cons_succ]
            refine wpAnyH_take (i := 5) (oi := { dst := some 25, op := _, type := _, pos := _, after := _, guard := _ }) (v := ?v5x5) rfl (by kernel_rfl) (by kernel_rfl) (by kernel_rfl) (fun _ _ _ h => h) (Or.inl ⟨by kernel_rfl, ?hy5x5⟩) hHeld1 ?rest5x5
            case hy5x5 => (intro w hSw; (try dsimp only at hSw); go_simp; (first | done | with_reducible rfl))
            try simp only [Act.put, List.setIfInBounds_toArray, List.set_cons_zero, List.set_cons_succ]
            refine wpAnyH_take (i := 6) (oi := { dst := some 26, op := _, type := _, pos := _, after := _, guard := _ }) (v := ?v6x5) rfl (by kernel_rfl) (by kernel_rfl) (by kernel_rfl) (fun _ _ _ h => h) (Or.inl ⟨by kernel_rfl, ?hy6x5⟩) hHeld1 ?rest6x5
            case hy6x5 => (intro w hSw; (try dsimp only at hSw); go_simp; (first | done | with_reducible rfl))
            try simp only [Act.put, List.setIfInBounds_toArray, List.set_cons_zero, List.set_cons_succ]
            refine wpAnyH_ready (rs := [7]) (by kernel_rfl) (by simp) ?_
            refine AllReadyH.cons (o := { dst := some 27, op := _, type := _, pos := _, after := _, guard := _ }) rfl (fun K hK => ?_) AllReadyH.nil
            go_simp
            (go_at_call 10; refine (HN2.out _).mono ?_; rintro e w' ⟨rfl, hb⟩)
            refine hK.out _ _ (keepC5 hHeld1 hb) (fun hHeld2 => ?_)
            clear hK K hHeld1
            try simp only [Act.put, List.setIfInBounds_toArray, List.set_cons_zero, List.set_cons_succ]
            refine wpAnyH_take (i := 8) (oi := { dst := some 28, op := _, type := _, pos := _, after := _, guard := _ }) (v := ?v8x5) rfl (by kernel_rfl) (by kernel_rfl) (by kernel_rfl) (fun _ _ _ h => h) (Or.inl ⟨by kernel_rfl, ?hy8x5⟩) hHeld2 ?rest8x5
            case hy8x5 => (intro w hSw; (try dsimp only at hSw); go_simp; (first | done | with_reducible rfl))
            try simp only [Act.put, List.setIfInBounds_toArray, List.set_cons_zero, List.set_cons_succ]
            refine wpAnyH_take (i := 9) (oi := { dst := some 29, op := _, type := _, pos := _, after := _, guard := _ }) (v := ?v9x5) rfl (by kernel_rfl) (by kernel_rfl) (by kernel_rfl) (fun _ _ _ h => h) (Or.inl ⟨by kernel_rfl, ?hy9x5⟩) hHeld2 ?rest9x5
            case hy9x5 => (intro w hSw; (try dsimp only at hSw); go_simp; (first | done | with_reducible rfl))
            try simp only [Act.put, List.setIfInBounds_toArray, List.set_cons_zero, List.set_cons_succ]
            refine wpAnyH_take (i := 10) (oi := { dst := some 30, op := _, type := _, pos := _, after := _, guard := _ }) (v := ?v10x5) rfl (by kernel_rfl) (by kernel_rfl) (by kernel_rfl) (fun _ _ _ h => h) (Or.inl ⟨by kernel_rfl, ?hy10x5⟩) hHeld2 ?rest10x5
            case hy10x5 => (intro w hSw; (try dsimp only at hSw); go_simp; (first | done | with_reducible rfl))
            try simp only [Act.put, List.setIfInBounds_toArray, List.set_cons_zero, List.set_cons_succ]
            refine wpAnyH_take (i := 11) (oi := { dst := some 31, op := _, type := _, pos := _, after := _, guard := _ }) (v := ?v11x5) rfl (by kernel_rfl) (by kernel_rfl) (by kernel_rfl) (fun _ _ _ h => h) (Or.inl ⟨by kernel_rfl, ?hy11x5⟩) hHeld2 ?rest11x5
            case hy11x5 => (intro w hSw; (try dsimp only at hSw); go_simp; (first | done | with_reducible rfl))
            try simp only [Act.put, List.setIfInBounds_toArray, List.set_cons_zero, List.set_cons_succ]
            refine wpAnyH_take (i := 12) (oi := { dst := some 32, op := _, type := _, pos := _, after := _, guard := _ }) (v := ?v12x5) rfl (by kernel_rfl) (by kernel_rfl) (by kernel_rfl) (fun _ _ _ h => h) (Or.inl ⟨by kernel_rfl, ?hy12x5⟩) hHeld2 ?rest12x5
            case hy12x5 => (intro w hSw; (try dsimp only at hSw); go_simp; (first | done | with_reducible rfl))
            try simp only [Act.put, List.setIfInBounds_toArray, List.set_cons_zero, List.set_cons_succ]
            refine wpAnyH_take (i := 13) (oi := { dst := some 33, op := _, type := _, pos := _, after := _, guard := _ }) (v := ?v13x5) rfl (by kernel_rfl) (by kernel_rfl) (by kernel_rfl) (fun _ _ _ h => h) (Or.inl ⟨by kernel_rfl, ?hy13x5⟩) hHeld2 ?rest13x5
            case hy13x5 => (intro w hSw; (try dsimp only at hSw); go_simp; (first | done | with_reducible rfl))
            try simp only [Act.put, List.setIfInBounds_toArray, List.set_cons_zero, List.set_cons_succ]
            refine wpAnyH_take (i := 14) (oi := { dst := some 34, op := _, type := _, pos := _, after := _, guard := _ }) (v := ?v14x5) rfl (by kernel_rfl) (by kernel_rfl) (by kernel_rfl) (fun _ _ _ h => h) (Or.inl ⟨by kernel_rfl, ?hy14x5⟩) hHeld2 ?rest14x5
            case hy14x5 => (intro w hSw; (try dsimp only at hSw); go_simp; (first | done | with_reducible rfl))
            try simp only [Act.put, List.setIfInBounds_toArray, List.set_cons_zero, List.set_cons_succ]
            refine wpAnyH_take (i := 15) (oi := { dst := some 35, op := _, type := _, pos := _, after := _, guard := _ }) (v := ?v15x5) rfl (by kernel_rfl) (by kernel_rfl) (by kernel_rfl) (fun _ _ _ h => h) (Or.inl ⟨by kernel_rfl, ?hy15x5⟩) hHeld2 ?rest15x5
            case hy15x5 => (intro w hSw; (try dsimp only at hSw); go_simp; (first | done | with_reducible rfl))
            try simp only [Act.put, List.setIfInBounds_toArray, List.set_cons_zero, List.set_cons_succ]
            refine wpAnyH_take (i := 16) (oi := { dst := some 36, op := _, type := _, pos := _, after := _, guard := _ }) (v := ?v16x5) rfl (by kernel_rfl) (by kernel_rfl) (by kernel_rfl) (fun _ _ _ h => h) (Or.inl ⟨by kernel_rfl, ?hy16x5⟩) hHeld2 ?rest16x5
            case hy16x5 => (intro w hSw; (try dsimp only at hSw); go_simp; (first | done | with_reducible rfl))
            try simp only [Act.put, List.setIfInBounds_toArray, List.set_cons_zero, List.set_cons_succ]
            refine wpAnyH_take (i := 17) (oi := { dst := some 37, op := _, type := _, pos := _, after := _, guard := _ }) (v := ?v17x5) rfl (by kernel_rfl) (by kernel_rfl) (by kernel_rfl) (fun _ _ _ h => h) (Or.inl ⟨by kernel_rfl, ?hy17x5⟩) hHeld2 ?rest17x5
            case hy17x5 => (intro w hSw; (try dsimp only at hSw); go_simp; (first | done | with_reducible rfl))
            try simp only [Act.put, List.setIfInBounds_toArray, List.set_cons_zero, List.set_cons_succ]
            refine wpAnyH_take (i := 18) (oi := { dst := some 38, op := _, type := _, pos := _, after := _, guard := _ }) (v := ?v18x5) rfl (by kernel_rfl) (by kernel_rfl) (by kernel_rfl) (fun _ _ _ h => h) (Or.inl ⟨by kernel_rfl, ?hy18x5⟩) hHeld2 ?rest18x5
            case hy18x5 => (intro w hSw; (try dsimp only at hSw); go_simp; (first | done | with_reducible rfl))
            try simp only [Act.put, List.setIfInBounds_toArray, List.set_cons_zero, List.set_cons_succ]
            refine wpAnyH_take (i := 19) (oi := { dst := some 39, op := _, type := _, pos := _, after := _, guard := _ }) (v := ?v19x5) rfl (by kernel_rfl) (by kernel_rfl) (by kernel_rfl) (fun _ _ _ h => h) (Or.inl ⟨by kernel_rfl, ?hy19x5⟩) hHeld2 ?rest19x5
            case hy19x5 => (intro w hSw; (try dsimp only at hSw); go_simp; (first | done | with_reducible rfl))
            try simp only [Act.put, List.setIfInBounds_toArray, List.set_cons_zero, List.set_cons_succ]
            refine wpAnyH_take (i := 20) (oi := { dst := some 40, op := _, type := _, pos := _, after := _, guard := _ }) (v := ?v20x5) rfl (by kernel_rfl) (by kernel_rfl) (by kernel_rfl) (fun _ _ _ h => h) (Or.inl ⟨by kernel_rfl, ?hy20x5⟩) hHeld2 ?rest20x5
            case hy20x5 => (intro w hSw; (try dsimp only at hSw); go_simp; (first | done | with_reducible rfl))
            try simp only [Act.put, List.setIfInBounds_toArray, List.set_cons_zero, List.set_cons_succ]
            refine wpAnyH_take (i := 21) (oi := { dst := some 41, op := _, type := _, pos := _, after := _, guard := _ }) (v := ?v21x5) rfl (by kernel_rfl) (by kernel_rfl) (by kernel_rfl) (fun _ _ _ h => h) (Or.inl ⟨by kernel_rfl, ?hy21x5⟩) hHeld2 ?rest21x5
            case hy21x5 => (intro w hSw; (try dsimp only at hSw); go_simp; (first | done | with_reducible rfl))
            try simp only [Act.put, List.setIfInBounds_toArray, List.set_cons_zero, List.set_cons_succ]
            refine wpAnyH_take (i := 22) (oi := { dst := some 42, op := _, type := _, pos := _, after := _, guard := _ }) (v := ?v22x5) rfl (by kernel_rfl) (by kernel_rfl) (by kernel_rfl) (fun _ _ _ h => h) (Or.inl ⟨by kernel_rfl, ?hy22x5⟩) hHeld2 ?rest22x5
            case hy22x5 => (intro w hSw; (try dsimp only at hSw); go_simp; (first | done | with_reducible rfl))
            try simp only [Act.put, List.setIfInBounds_toArray, List.set_cons_zero, List.set_cons_succ]
            refine wpAnyH_take (i := 23) (oi := { dst := some 43, op := _, type := _, pos := _, after := _, guard := _ }) (v := ?v23x5) rfl (by kernel_rfl) (by kernel_rfl) (by kernel_rfl) (fun _ _ _ h => h) (Or.inl ⟨by kernel_rfl, ?hy23x5⟩) hHeld2 ?rest23x5
            case hy23x5 => (intro w hSw; (try dsimp only at hSw); go_simp; (first | done | with_reducible rfl))
            try simp only [Act.put, List.setIfInBounds_toArray, List.set_cons_zero, List.set_cons_succ]
            refine wpAnyH_take (i := 24) (oi := { dst := some 44, op := _, type := _, pos := _, after := _, guard := _ }) (v := ?v24x5) rfl (by kernel_rfl) (by kernel_rfl) (by kernel_rfl) (fun _ _ _ h => h) (Or.inl ⟨by kernel_rfl, ?hy24x5⟩) hHeld2 ?rest24x5
            case hy24x5 => (intro w hSw; (try dsimp only at hSw); go_simp; (first | done | with_reducible rfl))
            try simp only [Act.put, List.setIfInBounds_toArray, List.set_cons_zero, List.set_cons_succ]
            refine wpAnyH_take (i := 25) (oi := { dst := some 45, op := _, type := _, pos := _, after := _, guard := _ }) (v := ?v25x5) rfl (by kernel_rfl) (by kernel_rfl) (by kernel_rfl) (fun _ _ _ h => h) (Or.inl ⟨by kernel_rfl, ?hy25x5⟩) hHeld2 ?rest25x5
            case hy25x5 => (intro w hSw; (try dsimp only at hSw); go_simp; (first | done | with_reducible rfl))
            try simp only [Act.put, List.setIfInBounds_toArray, List.set_cons_zero, List.set_cons_succ]
            refine wpAnyH_take (i := 26) (oi := { dst := some 46, op := _, type := _, pos := _, after := _, guard := _ }) (v := ?v26x5) rfl (by kernel_rfl) (by kernel_rfl) (by kernel_rfl) (fun _ _ _ h => h) (Or.inl ⟨by kernel_rfl, ?hy26x5⟩) hHeld2 ?rest26x5
            case hy26x5 => (intro w hSw; (try dsimp only at hSw); go_simp; (first | done | with_reducible rfl))
            try simp only [Act.put, List.setIfInBounds_toArray, List.set_cons_zero, List.set_cons_succ]
            refine wpAnyH_take (i := 27) (oi := { dst := some 47, op := _, type := _, pos := _, after := _, guard := _ }) (v := undef) rfl (by kernel_rfl) (by kernel_rfl) (by kernel_rfl) (fun _ _ _ h => h) (Or.inr ⟨by kernel_rfl, rfl⟩) hHeld2 ?_
            try simp only [Act.put, List.setIfInBounds_toArray, List.set_cons_zero, List.set_cons_succ]
            refine wpAnyH_take (i := 28) (oi := { dst := some 48, op := _, type := _, pos := _, after := _, guard := _ }) (v := undef) rfl (by kernel_rfl) (by kernel_rfl) (by kernel_rfl) (fun _ _ _ h => h) (Or.inr ⟨by kernel_rfl, rfl⟩) hHeld2 ?_
            try simp only [Act.put, List.setIfInBounds_toArray, List.set_cons_zero, List.set_cons_succ]
            refine wpAnyH_take (i := 29) (oi := { dst := some 49, op := _, type := _, pos := _, after := _, guard := _ }) (v := undef) rfl (by kernel_rfl) (by kernel_rfl) (by kernel_rfl) (fun _ _ _ h => h) (Or.inr ⟨by kernel_rfl, rfl⟩) hHeld2 ?_
            try simp only [Act.put, List.setIfInBounds_toArray, List.set_cons_zero, List.set_cons_succ]
            refine wpAnyH_take (i := 30) (oi := { dst := some 50, op := _, type := _, pos := _, after := _, guard := _ }) (v := undef) rfl (by kernel_rfl) (by kernel_rfl) (by kernel_rfl) (fun _ _ _ h => h) (Or.inr ⟨by kernel_rfl, rfl⟩) hHeld2 ?_
            try simp only [Act.put, List.setIfInBounds_toArray, List.set_cons_zero, List.set_cons_succ]
            refine wpAnyH_take (i := 31) (oi := { dst := some 51, op := _, type := _, pos := _, after := _, guard := _ }) (v := undef) rfl (by kernel_rfl) (by kernel_rfl) (by kernel_rfl) (fun _ _ _ h => h) (Or.inr ⟨by kernel_rfl, rfl⟩) hHeld2 ?_
            try simp only [Act.put, List.setIfInBounds_toArray, List.set_cons_zero, List.set_cons_succ]
            refine wpAnyH_take (i := 32) (oi := { dst := some 52, op := _, type := _, pos := _, after := _, guard := _ }) (v := ?v32x5) rfl (by kernel_rfl) (by kernel_rfl) (by kernel_rfl) (fun _ _ _ h => h) (Or.inl ⟨by kernel_rfl, ?hy32x5⟩) hHeld2 ?rest32x5
            case hy32x5 => (intro w hSw; (try dsimp only at hSw); go_simp; (first | done | with_reducible rfl))
            try simp only [Act.put, List.setIfInBounds_toArray, List.set_cons_zero, List.set_cons_succ]
            refine wpAnyH_done (by kernel_rfl) ?_ _
            have hH := hHeld2
            clear hHeld2
            have HB := Aside0.mk hH.2.2.2.2.2
            clear hH
            go_wp2
            go_ret
            exact ⟨ret_bool HQ.out, HB.out⟩
        | true =>
          have HL := Aside0.mk (show cmpS ss[j].name ss[j + 1].name < 0 by have h2 := less_S ss[j].name ss[j + 1].name; rw [hl] at h2; exact of_decide_eq_true h2.symm)
          by_cases h9 : cnt (ofS ss[j + 1].name) ts ≤ 8
          · have g9 : decide ((8 : Int) < ((cnt (ofS ss[j + 1].name) ts : Nat) : Int)) = false := decide_eq_false (by omega)
            have HQ := Aside0.mk (HE2.out.trans (decide_eq_true h9))
            clear h9
            go_wp2_with fail
            refine wp_region_held_drew (S := (fun w' => w'.cell? ⟨w.heap.size, 0, none⟩ = some (.slice (some ad) ss.length cs) ∧ w'.cell? ⟨w.heap.size, 1, none⟩ = some (.slice At ts.length ct) ∧ w'.cell? ⟨wr.heap.size, 0, none⟩ = some (.string ss[j + 1].name) ∧ w'.cell? ⟨wr.heap.size, 1, none⟩ = some (.string ss[j + 1].owner) ∧ w'.cell? (ad.add (j * 2)) = some (.string ss[j].name) ∧ Below w.heap.size w w')) (by kernel_rfl) ⟨o0' _, o1' _, b0, b1, p0, pw_below_drewN (HBW.out _) 1⟩ (fun hHeld0 => ?_)
            refine wpAnyH_take (i := 0) (oi := { dst := some 20, op := _, type := _, pos := _, after := _, guard := _ }) (v := ?v0x6) rfl (by kernel_rfl) (by kernel_rfl) (by kernel_rfl) (fun _ _ _ h => h) (Or.inl ⟨by kernel_rfl, ?hy0x6⟩) hHeld0 ?rest0x6
            case hy0x6 => (intro w hSw; (try dsimp only at hSw); go_simp; (first | done | with_reducible rfl))
            try simp only [Act.put, List.setIfInBounds_toArray, List.set_cons_zero, List.set_cons_succ]
            refine wpAnyH_take (i := 1) (oi := { dst := some 21, op := _, type := _, pos := _, after := _, guard := _ }) (v := ?v1x6) rfl (by kernel_rfl) (by kernel_rfl) (by kernel_rfl) (fun _ _ _ h => h) (Or.inl ⟨by kernel_rfl, ?hy1x6⟩) hHeld0 ?rest1x6
            case hy1x6 => (intro w hSw; (try dsimp only at hSw); go_simp; (first | done | with_reducible rfl))
            try simp only [Act.put, List.setIfInBounds_toArray, List.set_cons_zero, List.set_cons_succ]
            refine wpAnyH_ready (rs := [2]) (by kernel_rfl) (by simp) ?_
            refine AllReadyH.cons (o := { dst := some 22, op := _, type := _, pos := _, after := _, guard := _ }) rfl (fun K hK => ?_) AllReadyH.nil
            go_simp
            (go_at_call 10; refine (HN1.out _).mono ?_; rintro e w' ⟨rfl, hb⟩)
            refine hK.out _ _ (keepC5 hHeld0 hb) (fun hHeld1 => ?_)
            clear hK K hHeld0
            try simp only [Act.put, List.setIfInBounds_toArray, List.set_cons_zero, List.set_cons_succ]
            refine wpAnyH_take (i := 3) (oi := { dst := some 23, op := _, type := _, pos := _, after := _, guard := _ }) (v := ?v3x6) rfl (by kernel_rfl) (by kernel_rfl) (by kernel_rfl) (fun _ _ _ h => h) (Or.inl ⟨by kernel_rfl, ?hy3x6⟩) hHeld1 ?rest3x6
            case hy3x6 => (intro w hSw; (try dsimp only at hSw); go_simp; (first | done | with_reducible rfl))
            try simp only [Act.put, List.setIfInBounds_toArray, List.set_cons_zero, List.set_cons_succ]
            refine wpAnyH_take (i := 4) (oi := { dst := some 24, op := _, type := _, pos := _, after := _, guard := _ }) (v := ?v4x6) rfl (by kernel_rfl) (by kernel_rfl) (by kernel_rfl) (fun _ _ _ h => h) (Or.inl ⟨by kernel_rfl, ?hy4x6⟩) hHeld1 ?rest4x6
            case hy4x6 => (intro w hSw; (try dsimp only at hSw); go_simp; (first | done | with_reducible rfl))
            try simp only [Act.put, List.setIfInBounds_toArray, List.set_cons_zero, List.set_cons_succ]
            refine wpAnyH_take (i := 5) (oi := { dst := some 25, op := _, type := _, pos := _, after := _, guard := _ }) (v := ?v5x6) rfl (by kernel_rfl) (by kernel_rfl) (by kernel_rfl) (fun _ _ _ h => h) (Or.inl ⟨by kernel_rfl, ?hy5x6⟩) hHeld1 ?rest5x6
            case hy5x6 => (intro w hSw; (try dsimp only at hSw); go_simp; (first | done | with_reducible rfl))
            try simp only [Act.put, List.setIfInBounds_toArray, List.set_cons_zero, List.set_cons_succ]
            refine wpAnyH_take (i := 6) (oi := { dst := some 26, op := _, type := _, pos := _, after := _, guard := _ }) (v := ?v6x6) rfl (by kernel_rfl) (by kernel_rfl) (by kernel_rfl) (fun _ _ _ h => h) (Or.inl ⟨by kernel_rfl, ?hy6x6⟩) hHeld1 ?rest6x6
            case hy6x6 => (intro w hSw; (try dsimp only at hSw); go_simp; (first | done | with_reducible rfl))
            try simp only [Act.put, List.setIfInBounds_toArray, List.set_cons_zero, List.set_cons_succ]
            refine wpAnyH_ready (rs := [7]) (by kernel_rfl) (by simp) ?_
            refine AllReadyH.cons (o := { dst := some 27, op := _, type := _, pos := _, after := _, guard := _ }) rfl (fun K hK => ?_) AllReadyH.nil
            go_simp
            (go_at_call 10; refine (HN2.out _).mono ?_; rintro e w' ⟨rfl, hb⟩)
            refine hK.out _ _ (keepC5 hHeld1 hb) (fun hHeld2 => ?_)
            clear hK K hHeld1
            try simp only [Act.put, List.setIfInBounds_toArray, List.set_cons_zero, List.set_cons_succ]
            refine wpAnyH_take (i := 8) (oi := { dst := some 28, op := _, type := _, pos := _, after := _, guard := _ }) (v := ?v8x6) rfl (by kernel_rfl) (by kernel_rfl) (by kernel_rfl) (fun _ _ _ h => h) (Or.inl ⟨by kernel_rfl, ?hy8x6⟩) hHeld2 ?rest8x6
            case hy8x6 => (intro w hSw; (try dsimp only at hSw); go_simp; (first | done | with_reducible rfl))
            try simp only [Act.put, List.setIfInBounds_toArray, List.set_cons_zero, List.set_cons_succ]
            refine wpAnyH_take (i := 9) (oi := { dst := some 29, op := _, type := _, pos := _, after := _, guard := _ }) (v := ?v9x6) rfl (by kernel_rfl) (by kernel_rfl) (by kernel_rfl) (fun _ _ _ h => h) (Or.inl ⟨by kernel_rfl, ?hy9x6⟩) hHeld2 ?rest9x6
            case hy9x6 => (intro w hSw; (try dsimp only at hSw); go_simp; (first | done | with_reducible rfl))
            try simp only [Act.put, List.setIfInBounds_toArray, List.set_cons_zero, List.set_cons_succ]
            refine wpAnyH_take (i := 10) (oi := { dst := some 30, op := _, type := _, pos := _, after := _, guard := _ }) (v := ?v10x6) rfl (by kernel_rfl) (by kernel_rfl) (by kernel_rfl) (fun _ _ _ h => h) (Or.inl ⟨by kernel_rfl, ?hy10x6⟩) hHeld2 ?rest10x6
            case hy10x6 => (intro w hSw; (try dsimp only at hSw); go_simp; (first | done | with_reducible rfl))
            try simp only [Act.put, List.setIfInBounds_toArray, List.set_cons_zero, List.set_cons_succ]
            refine wpAnyH_take (i := 11) (oi := { dst := some 31, op := _, type := _, pos := _, after := _, guard := _ }) (v := ?v11x6) rfl (by kernel_rfl) (by kernel_rfl) (by kernel_rfl) (fun _ _ _ h => h) (Or.inl ⟨by kernel_rfl, ?hy11x6⟩) hHeld2 ?rest11x6
            case hy11x6 => (intro w hSw; (try dsimp only at hSw); go_simp; (first | done | with_reducible rfl))
            try simp only [Act.put, List.setIfInBounds_toArray, List.set_cons_zero, List.set_cons_succ]
            refine wpAnyH_take (i := 12) (oi := { dst := some 32, op := _, type := _, pos := _, after := _, guard := _ }) (v := ?v12x6) rfl (by kernel_rfl) (by kernel_rfl) (by kernel_rfl) (fun _ _ _ h => h) (Or.inl ⟨by kernel_rfl, ?hy12x6⟩) hHeld2 ?rest12x6
            case hy12x6 => (intro w hSw; (try dsimp only at hSw); go_simp; (first | done | with_reducible rfl))
            try simp only [Act.put, List.setIfInBounds_toArray, List.set_cons_zero, List.set_cons_succ]
            refine wpAnyH_take (i := 13) (oi := { dst := some 33, op := _, type := _, pos := _, after := _, guard := _ }) (v := ?v13x6) rfl (by kernel_rfl) (by kernel_rfl) (by kernel_rfl) (fun _ _ _ h => h) (Or.inl ⟨by kernel_rfl, ?hy13x6⟩) hHeld2 ?rest13x6
            case hy13x6 => (intro w hSw; (try dsimp only at hSw); go_simp; (first | done | with_reducible rfl))
            try simp only [Act.put, List.setIfInBounds_toArray, List.set_cons_zero, List.set_cons_succ]
            refine wpAnyH_take (i := 14) (oi := { dst := some 34, op := _, type := _, pos := _, after := _, guard := _ }) (v := ?v14x6) rfl (by kernel_rfl) (by kernel_rfl) (by kernel_rfl) (fun _ _ _ h => h) (Or.inl ⟨by kernel_rfl, ?hy14x6⟩) hHeld2 ?rest14x6
            case hy14x6 => (intro w hSw; (try dsimp only at hSw); go_simp; (first | done | with_reducible rfl))
            try simp only [Act.put, List.setIfInBounds_toArray, List.set_cons_zero, List.set_cons_succ]
            refine wpAnyH_take (i := 15) (oi := { dst := some 35, op := _, type := _, pos := _, after := _, guard := _ }) (v := ?v15x6) rfl (by kernel_rfl) (by kernel_rfl) (by kernel_rfl) (fun _ _ _ h => h) (Or.inl ⟨by kernel_rfl, ?hy15x6⟩) hHeld2 ?rest15x6
            case hy15x6 => (intro w hSw; (try dsimp only at hSw); go_simp; (first | done | with_reducible rfl))
            try simp only [Act.put, List.setIfInBounds_toArray, List.set_cons_zero, List.set_cons_succ]
            refine wpAnyH_take (i := 16) (oi := { dst := some 36, op := _, type := _, pos := _, after := _, guard := _ }) (v := ?v16x6) rfl (by kernel_rfl) (by kernel_rfl) (by kernel_rfl) (fun _ _ _ h => h) (Or.inl ⟨by kernel_rfl, ?hy16x6⟩) hHeld2 ?rest16x6
            case hy16x6 => (intro w hSw; (try dsimp only at hSw); go_simp; (first | done | with_reducible rfl))
            try simp only [Act.put, List.setIfInBounds_toArray, List.set_cons_zero, List.set_cons_succ]
            refine wpAnyH_take (i := 17) (oi := { dst := some 37, op := _, type := _, pos := _, after := _, guard := _ }) (v := ?v17x6) rfl (by kernel_rfl) (by kernel_rfl) (by kernel_rfl) (fun _ _ _ h => h) (Or.inl ⟨by kernel_rfl, ?hy17x6⟩) hHeld2 ?rest17x6
            case hy17x6 => (intro w hSw; (try dsimp only at hSw); go_simp; (first | done | with_reducible rfl))
            try simp only [Act.put, List.setIfInBounds_toArray, List.set_cons_zero, List.set_cons_succ]
            refine wpAnyH_take (i := 18) (oi := { dst := some 38, op := _, type := _, pos := _, after := _, guard := _ }) (v := ?v18x6) rfl (by kernel_rfl) (by kernel_rfl) (by kernel_rfl) (fun _ _ _ h => h) (Or.inl ⟨by kernel_rfl, ?hy18x6⟩) hHeld2 ?rest18x6
            case hy18x6 => (intro w hSw; (try dsimp only at hSw); go_simp; (first | done | with_reducible rfl))
            try simp only [Act.put, List.setIfInBounds_toArray, List.set_cons_zero, List.set_cons_succ]
            refine wpAnyH_take (i := 19) (oi := { dst := some 39, op := _, type := _, pos := _, after := _, guard := _ }) (v := ?v19x6) rfl (by kernel_rfl) (by kernel_rfl) (by kernel_rfl) (fun _ _ _ h => h) (Or.inl ⟨by kernel_rfl, ?hy19x6⟩) hHeld2 ?rest19x6
            case hy19x6 => (intro w hSw; (try dsimp only at hSw); go_simp; (first | done | with_reducible rfl))
            try simp only [Act.put, List.setIfInBounds_toArray, List.set_cons_zero, List.set_cons_succ]
            refine wpAnyH_take (i := 20) (oi := { dst := some 40, op := _, type := _, pos := _, after := _, guard := _ }) (v := ?v20x6) rfl (by kernel_rfl) (by kernel_rfl) (by kernel_rfl) (fun _ _ _ h => h) (Or.inl ⟨by kernel_rfl, ?hy20x6⟩) hHeld2 ?rest20x6
            case hy20x6 => (intro w hSw; (try dsimp only at hSw); go_simp; (first | done | with_reducible rfl))
            try simp only [Act.put, List.setIfInBounds_toArray, List.set_cons_zero, List.set_cons_succ]
            refine wpAnyH_take (i := 21) (oi := { dst := some 41, op := _, type := _, pos := _, after := _, guard := _ }) (v := ?v21x6) rfl (by kernel_rfl) (by kernel_rfl) (by kernel_rfl) (fun _ _ _ h => h) (Or.inl ⟨by kernel_rfl, ?hy21x6⟩) hHeld2 ?rest21x6
            case hy21x6 => (intro w hSw; (try dsimp only at hSw); go_simp; (first | done | with_reducible rfl))
            try simp only [Act.put, List.setIfInBounds_toArray, List.set_cons_zero, List.set_cons_succ]
            refine wpAnyH_take (i := 22) (oi := { dst := some 42, op := _, type := _, pos := _, after := _, guard := _ }) (v := ?v22x6) rfl (by kernel_rfl) (by kernel_rfl) (by kernel_rfl) (fun _ _ _ h => h) (Or.inl ⟨by kernel_rfl, ?hy22x6⟩) hHeld2 ?rest22x6
            case hy22x6 => (intro w hSw; (try dsimp only at hSw); go_simp; (first | done | with_reducible rfl))
            try simp only [Act.put, List.setIfInBounds_toArray, List.set_cons_zero, List.set_cons_succ]
            refine wpAnyH_take (i := 23) (oi := { dst := some 43, op := _, type := _, pos := _, after := _, guard := _ }) (v := ?v23x6) rfl (by kernel_rfl) (by kernel_rfl) (by kernel_rfl) (fun _ _ _ h => h) (Or.inl ⟨by kernel_rfl, ?hy23x6⟩) hHeld2 ?rest23x6
            case hy23x6 => (intro w hSw; (try dsimp only at hSw); go_simp; (first | done | with_reducible rfl))
            try simp only [Act.put, List.setIfInBounds_toArray, List.set_cons_zero, List.set_cons_succ]
            refine wpAnyH_take (i := 24) (oi := { dst := some 44, op := _, type := _, pos := _, after := _, guard := _ }) (v := ?v24x6) rfl (by kernel_rfl) (by kernel_rfl) (by kernel_rfl) (fun _ _ _ h => h) (Or.inl ⟨by kernel_rfl, ?hy24x6⟩) hHeld2 ?rest24x6
            case hy24x6 => (intro w hSw; (try dsimp only at hSw); go_simp; (first | done | with_reducible rfl))
            try simp only [Act.put, List.setIfInBounds_toArray, List.set_cons_zero, List.set_cons_succ]
            refine wpAnyH_take (i := 25) (oi := { dst := some 45, op := _, type := _, pos := _, after := _, guard := _ }) (v := ?v25x6) rfl (by kernel_rfl) (by kernel_rfl) (by kernel_rfl) (fun _ _ _ h => h) (Or.inl ⟨by kernel_rfl, ?hy25x6⟩) hHeld2 ?rest25x6
            case hy25x6 => (intro w hSw; (try dsimp only at hSw); go_simp; (first | done | with_reducible rfl))
            try simp only [Act.put, List.setIfInBounds_toArray, List.set_cons_zero, List.set_cons_succ]
            refine wpAnyH_take (i := 26) (oi := { dst := some 46, op := _, type := _, pos := _, after := _, guard := _ }) (v := ?v26x6) rfl (by kernel_rfl) (by kernel_rfl) (by kernel_rfl) (fun _ _ _ h => h) (Or.inl ⟨by kernel_rfl, ?hy26x6⟩) hHeld2 ?rest26x6
            case hy26x6 => (intro w hSw; (try dsimp only at hSw); go_simp; (first | done | with_reducible rfl))
            try simp only [Act.put, List.setIfInBounds_toArray, List.set_cons_zero, List.set_cons_succ]
            refine wpAnyH_take (i := 27) (oi := { dst := some 47, op := _, type := _, pos := _, after := _, guard := _ }) (v := ?v27x6) rfl (by kernel_rfl) (by kernel_rfl) (by kernel_rfl) (fun _ _ _ h => h) (Or.inl ⟨by kernel_rfl, ?hy27x6⟩) hHeld2 ?rest27x6
            case hy27x6 => (intro w hSw; (try dsimp only at hSw); go_simp; (first | done | with_reducible rfl))
            try simp only [Act.put, List.setIfInBounds_toArray, List.set_cons_zero, List.set_cons_succ]
            refine wpAnyH_take (i := 28) (oi := { dst := some 48, op := _, type := _, pos := _, after := _, guard := _ }) (v := ?v28x6) rfl (by kernel_rfl) (by kernel_rfl) (by kernel_rfl) (fun _ _ _ h => h) (Or.inl ⟨by kernel_rfl, ?hy28x6⟩) hHeld2 ?rest28x6
            case hy28x6 => (intro w hSw; (try dsimp only at hSw); go_simp; (first | done | with_reducible rfl))
            try simp only [Act.put, List.setIfInBounds_toArray, List.set_cons_zero, List.set_cons_succ]
            refine wpAnyH_take (i := 29) (oi := { dst := some 49, op := _, type := _, pos := _, after := _, guard := _ }) (v := ?v29x6) rfl (by kernel_rfl) (by kernel_rfl) (by kernel_rfl) (fun _ _ _ h => h) (Or.inl ⟨by kernel_rfl, ?hy29x6⟩) hHeld2 ?rest29x6
            case hy29x6 => (intro w hSw; (try dsimp only at hSw); go_simp; (first | done | with_reducible rfl))
            try simp only [Act.put, List.setIfInBounds_toArray, List.set_cons_zero, List.set_cons_succ]
            refine wpAnyH_ready (rs := [30]) (by kernel_rfl) (by simp) ?_
            refine AllReadyH.cons (o := { dst := some 50, op := _, type := _, pos := _, after := _, guard := _ }) rfl (fun K hK => ?_) AllReadyH.nil
            go_simp
            (go_at_call 79; refine (HW3.out _ (hHeld2.2.2.2.2.2)).mono ?_; rintro e w' ⟨rfl, hb⟩)
            refine hK.out _ _ (keepC5 hHeld2 hb) (fun hHeld3 => ?_)
            clear hK K hHeld2
            try simp only [Act.put, List.setIfInBounds_toArray, List.set_cons_zero, List.set_cons_succ]
            refine wpAnyH_take (i := 31) (oi := { dst := some 51, op := _, type := _, pos := _, after := _, guard := _ }) (v := ?v31x6) rfl (by kernel_rfl) (by kernel_rfl) (by kernel_rfl) (fun _ _ _ h => h) (Or.inl ⟨by kernel_rfl, ?hy31x6⟩) hHeld3 ?rest31x6
            case hy31x6 => (intro w hSw; (try dsimp only at hSw); go_simp; (first | done | with_reducible rfl))
            try simp only [Act.put, List.setIfInBounds_toArray, List.set_cons_zero, List.set_cons_succ]
            refine wpAnyH_take (i := 32) (oi := { dst := some 52, op := _, type := _, pos := _, after := _, guard := _ }) (v := ?v32x6) rfl (by kernel_rfl) (by kernel_rfl) (by kernel_rfl) (fun _ _ _ h => h) (Or.inl ⟨by kernel_rfl, ?hy32x6⟩) hHeld3 ?rest32x6
            case hy32x6 => (intro w hSw; (try dsimp only at hSw); go_simp; (first | done | with_reducible rfl))
            try simp only [Act.put, List.setIfInBounds_toArray, List.set_cons_zero, List.set_cons_succ]
            refine wpAnyH_done (by kernel_rfl) ?_ _
            have hH := hHeld3
            clear hHeld3
            have HB := Aside0.mk hH.2.2.2.2.2
            have HX5 : Aside0 (BoxO _ w.heap.size (some ad) ss.length cs At ts.length ct) := Aside0.mk ⟨hH.1, hH.2.1⟩
            clear hH
            go_wp2
            go_roundw
            case rel => exact ⟨j + 1 + 1, by omega, by go_num, ⟨snocB (f := fun j => schOK ts (ss.getD j zSch)) HJ.out.1 HQ.out, fun i h h' => by
              rcases Nat.lt_or_ge i j with h3 | h3
              · exact HJ.out.2.1 i h (by omega)
              · obtain rfl : i = j := by omega
                exact HL.out, HX5.out, HB.out⟩⟩
            case measure => simp [intOf]; omega
          · have g9 : decide ((8 : Int) < ((cnt (ofS ss[j + 1].name) ts : Nat) : Int)) = true := decide_eq_true (by omega)
            have HQ := Aside0.mk (HNO.out (HE2.out.trans (decide_eq_false h9)))
            clear h9
            go_wp2_with fail
            refine wp_region_held_drew (S := (fun w' => w'.cell? ⟨w.heap.size, 0, none⟩ = some (.slice (some ad) ss.length cs) ∧ w'.cell? ⟨w.heap.size, 1, none⟩ = some (.slice At ts.length ct) ∧ w'.cell? ⟨wr.heap.size, 0, none⟩ = some (.string ss[j + 1].name) ∧ w'.cell? ⟨wr.heap.size, 1, none⟩ = some (.string ss[j + 1].owner) ∧ w'.cell? (ad.add (j * 2)) = some (.string ss[j].name) ∧ Below w.heap.size w w')) (by kernel_rfl) ⟨o0' _, o1' _, b0, b1, p0, pw_below_drewN (HBW.out _) 1⟩ (fun hHeld0 => ?_)
            refine wpAnyH_take (i := 0) (oi := { dst := some 20, op := _, type := _, pos := _, after := _, guard := _ }) (v := ?v0x7) rfl (by kernel_rfl) (by kernel_rfl) (by kernel_rfl) (fun _ _ _ h => h) (Or.inl ⟨by kernel_rfl, ?hy0x7⟩) hHeld0 ?rest0x7
            case hy0x7 => (intro w hSw; (try dsimp only at hSw); go_simp; (first | done | with_reducible rfl))
            try simp only [Act.put, List.setIfInBounds_toArray, List.set_cons_zero, List.set_cons_succ]
            refine wpAnyH_take (i := 1) (oi := { dst := some 21, op := _, type := _, pos := _, after := _, guard := _ }) (v := ?v1x7) rfl (by kernel_rfl) (by kernel_rfl) (by kernel_rfl) (fun _ _ _ h => h) (Or.inl ⟨by kernel_rfl, ?hy1x7⟩) hHeld0 ?rest1x7
            case hy1x7 => (intro w hSw; (try dsimp only at hSw); go_simp; (first | done | with_reducible rfl))
            try simp only [Act.put, List.setIfInBounds_toArray, List.set_cons_zero, List.set_cons_succ]
            refine wpAnyH_ready (rs := [2]) (by kernel_rfl) (by simp) ?_
            refine AllReadyH.cons (o := { dst := some 22, op := _, type := _, pos := _, after := _, guard := _ }) rfl (fun K hK => ?_) AllReadyH.nil
            go_simp
            (go_at_call 10; refine (HN1.out _).mono ?_; rintro e w' ⟨rfl, hb⟩)
            refine hK.out _ _ (keepC5 hHeld0 hb) (fun hHeld1 => ?_)
            clear hK K hHeld0
            try simp only [Act.put, List.setIfInBounds_toArray, List.set_cons_zero, List.set_cons_succ]
            refine wpAnyH_take (i := 3) (oi := { dst := some 23, op := _, type := _, pos := _, after := _, guard := _ }) (v := ?v3x7) rfl (by kernel_rfl) (by kernel_rfl) (by kernel_rfl) (fun _ _ _ h => h) (Or.inl ⟨by kernel_rfl, ?hy3x7⟩) hHeld1 ?rest3x7
            case hy3x7 => (intro w hSw; (try dsimp only at hSw); go_simp; (first | done | with_reducible rfl))
            try simp only [Act.put, List.setIfInBounds_toArray, List.set_cons_zero, List.set_cons_succ]
            refine wpAnyH_take (i := 4) (oi := { dst := some 24, op := _, type := _, pos := _, after := _, guard := _ }) (v := ?v4x7) rfl (by kernel_rfl) (by kernel_rfl) (by kernel_rfl) (fun _ _ _ h => h) (Or.inl ⟨by kernel_rfl, ?hy4x7⟩) hHeld1 ?rest4x7
            case hy4x7 => (intro w hSw; (try dsimp only at hSw); go_simp; (first | done | with_reducible rfl))
            try simp only [Act.put, List.setIfInBounds_toArray, List.set_cons_zero, List.set_cons_succ]
            refine wpAnyH_take (i := 5) (oi := { dst := some 25, op := _, type := _, pos := _, after := _, guard := _ }) (v := ?v5x7) rfl (by kernel_rfl) (by kernel_rfl) (by kernel_rfl) (fun _ _ _ h => h) (Or.inl ⟨by kernel_rfl, ?hy5x7⟩) hHeld1 ?rest5x7
            case hy5x7 => (intro w hSw; (try dsimp only at hSw); go_simp; (first | done | with_reducible rfl))
            try simp only [Act.put, List.setIfInBounds_toArray, List.set_cons_zero, List.set_cons_succ]
            refine wpAnyH_take (i := 6) (oi := { dst := some 26, op := _, type := _, pos := _, after := _, guard := _ }) (v := ?v6x7) rfl (by kernel_rfl) (by kernel_rfl) (by kernel_rfl) (fun _ _ _ h => h) (Or.inl ⟨by kernel_rfl, ?hy6x7⟩) hHeld1 ?rest6x7
            case hy6x7 => (intro w hSw; (try dsimp only at hSw); go_simp; (first | done | with_reducible rfl))
            try simp only [Act.put, List.setIfInBounds_toArray, List.set_cons_zero, List.set_cons_succ]
            refine wpAnyH_ready (rs := [7]) (by kernel_rfl) (by simp) ?_
            refine AllReadyH.cons (o := { dst := some 27, op := _, type := _, pos := _, after := _, guard := _ }) rfl (fun K hK => ?_) AllReadyH.nil
            go_simp
            (go_at_call 10; refine (HN2.out _).mono ?_; rintro e w' ⟨rfl, hb⟩)
            refine hK.out _ _ (keepC5 hHeld1 hb) (fun hHeld2 => ?_)
            clear hK K hHeld1
            try simp only [Act.put, List.setIfInBounds_toArray, List.set_cons_zero, List.set_cons_succ]
            refine wpAnyH_take (i := 8) (oi := { dst := some 28, op := _, type := _, pos := _, after := _, guard := _ }) (v := ?v8x7) rfl (by kernel_rfl) (by kernel_rfl) (by kernel_rfl) (fun _ _ _ h => h) (Or.inl ⟨by kernel_rfl, ?hy8x7⟩) hHeld2 ?rest8x7
            case hy8x7 => (intro w hSw; (try dsimp only at hSw); go_simp; (first | done | with_reducible rfl))
            try simp only [Act.put, List.setIfInBounds_toArray, List.set_cons_zero, List.set_cons_succ]
            refine wpAnyH_take (i := 9) (oi := { dst := some 29, op := _, type := _, pos := _, after := _, guard := _ }) (v := ?v9x7) rfl (by kernel_rfl) (by kernel_rfl) (by kernel_rfl) (fun _ _ _ h => h) (Or.inl ⟨by kernel_rfl, ?hy9x7⟩) hHeld2 ?rest9x7
            case hy9x7 => (intro w hSw; (try dsimp only at hSw); go_simp; (first | done | with_reducible rfl))
            try simp only [Act.put, List.setIfInBounds_toArray, List.set_cons_zero, List.set_cons_succ]
            refine wpAnyH_take (i := 10) (oi := { dst := some 30, op := _, type := _, pos := _, after := _, guard := _ }) (v := ?v10x7) rfl (by kernel_rfl) (by kernel_rfl) (by kernel_rfl) (fun _ _ _ h => h) (Or.inl ⟨by kernel_rfl, ?hy10x7⟩) hHeld2 ?rest10x7
            case hy10x7 => (intro w hSw; (try dsimp only at hSw); go_simp; (first | done | with_reducible rfl))
            try simp only [Act.put, List.setIfInBounds_toArray, List.set_cons_zero, List.set_cons_succ]
            refine wpAnyH_take (i := 11) (oi := { dst := some 31, op := _, type := _, pos := _, after := _, guard := _ }) (v := ?v11x7) rfl (by kernel_rfl) (by kernel_rfl) (by kernel_rfl) (fun _ _ _ h => h) (Or.inl ⟨by kernel_rfl, ?hy11x7⟩) hHeld2 ?rest11x7
            case hy11x7 => (intro w hSw; (try dsimp only at hSw); go_simp; (first | done | with_reducible rfl))
            try simp only [Act.put, List.setIfInBounds_toArray, List.set_cons_zero, List.set_cons_succ]
            refine wpAnyH_take (i := 12) (oi := { dst := some 32, op := _, type := _, pos := _, after := _, guard := _ }) (v := ?v12x7) rfl (by kernel_rfl) (by kernel_rfl) (by kernel_rfl) (fun _ _ _ h => h) (Or.inl ⟨by kernel_rfl, ?hy12x7⟩) hHeld2 ?rest12x7
            case hy12x7 => (intro w hSw; (try dsimp only at hSw); go_simp; (first | done | with_reducible rfl))
            try simp only [Act.put, List.setIfInBounds_toArray, List.set_cons_zero, List.set_cons_succ]
            refine wpAnyH_take (i := 13) (oi := { dst := some 33, op := _, type := _, pos := _, after := _, guard := _ }) (v := ?v13x7) rfl (by kernel_rfl) (by kernel_rfl) (by kernel_rfl) (fun _ _ _ h => h) (Or.inl ⟨by kernel_rfl, ?hy13x7⟩) hHeld2 ?rest13x7
            case hy13x7 => (intro w hSw; (try dsimp only at hSw); go_simp; (first | done | with_reducible rfl))
            try simp only [Act.put, List.setIfInBounds_toArray, List.set_cons_zero, List.set_cons_succ]
            refine wpAnyH_take (i := 14) (oi := { dst := some 34, op := _, type := _, pos := _, after := _, guard := _ }) (v := ?v14x7) rfl (by kernel_rfl) (by kernel_rfl) (by kernel_rfl) (fun _ _ _ h => h) (Or.inl ⟨by kernel_rfl, ?hy14x7⟩) hHeld2 ?rest14x7
            case hy14x7 => (intro w hSw; (try dsimp only at hSw); go_simp; (first | done | with_reducible rfl))
            try simp only [Act.put, List.setIfInBounds_toArray, List.set_cons_zero, List.set_cons_succ]
            refine wpAnyH_take (i := 15) (oi := { dst := some 35, op := _, type := _, pos := _, after := _, guard := _ }) (v := ?v15x7) rfl (by kernel_rfl) (by kernel_rfl) (by kernel_rfl) (fun _ _ _ h => h) (Or.inl ⟨by kernel_rfl, ?hy15x7⟩) hHeld2 ?rest15x7
            case hy15x7 => (intro w hSw; (try dsimp only at hSw); go_simp; (first | done | with_reducible rfl))
            try simp only [Act.put, List.setIfInBounds_toArray, List.set_cons_zero, List.set_cons_succ]
            refine wpAnyH_take (i := 16) (oi := { dst := some 36, op := _, type := _, pos := _, after := _, guard := _ }) (v := ?v16x7) rfl (by kernel_rfl) (by kernel_rfl) (by kernel_rfl) (fun _ _ _ h => h) (Or.inl ⟨by kernel_rfl, ?hy16x7⟩) hHeld2 ?rest16x7
            case hy16x7 => (intro w hSw; (try dsimp only at hSw); go_simp; (first | done | with_reducible rfl))
            try simp only [Act.put, List.setIfInBounds_toArray, List.set_cons_zero, List.set_cons_succ]
            refine wpAnyH_take (i := 17) (oi := { dst := some 37, op := _, type := _, pos := _, after := _, guard := _ }) (v := ?v17x7) rfl (by kernel_rfl) (by kernel_rfl) (by kernel_rfl) (fun _ _ _ h => h) (Or.inl ⟨by kernel_rfl, ?hy17x7⟩) hHeld2 ?rest17x7
            case hy17x7 => (intro w hSw; (try dsimp only at hSw); go_simp; (first | done | with_reducible rfl))
            try simp only [Act.put, List.setIfInBounds_toArray, List.set_cons_zero, List.set_cons_succ]
            refine wpAnyH_take (i := 18) (oi := { dst := some 38, op := _, type := _, pos := _, after := _, guard := _ }) (v := ?v18x7) rfl (by kernel_rfl) (by kernel_rfl) (by kernel_rfl) (fun _ _ _ h => h) (Or.inl ⟨by kernel_rfl, ?hy18x7⟩) hHeld2 ?rest18x7
            case hy18x7 => (intro w hSw; (try dsimp only at hSw); go_simp; (first | done | with_reducible rfl))
            try simp only [Act.put, List.setIfInBounds_toArray, List.set_cons_zero, List.set_cons_succ]
            refine wpAnyH_take (i := 19) (oi := { dst := some 39, op := _, type := _, pos := _, after := _, guard := _ }) (v := ?v19x7) rfl (by kernel_rfl) (by kernel_rfl) (by kernel_rfl) (fun _ _ _ h => h) (Or.inl ⟨by kernel_rfl, ?hy19x7⟩) hHeld2 ?rest19x7
            case hy19x7 => (intro w hSw; (try dsimp only at hSw); go_simp; (first | done | with_reducible rfl))
            try simp only [Act.put, List.setIfInBounds_toArray, List.set_cons_zero, List.set_cons_succ]
            refine wpAnyH_take (i := 20) (oi := { dst := some 40, op := _, type := _, pos := _, after := _, guard := _ }) (v := ?v20x7) rfl (by kernel_rfl) (by kernel_rfl) (by kernel_rfl) (fun _ _ _ h => h) (Or.inl ⟨by kernel_rfl, ?hy20x7⟩) hHeld2 ?rest20x7
            case hy20x7 => (intro w hSw; (try dsimp only at hSw); go_simp; (first | done | with_reducible rfl))
            try simp only [Act.put, List.setIfInBounds_toArray, List.set_cons_zero, List.set_cons_succ]
            refine wpAnyH_take (i := 21) (oi := { dst := some 41, op := _, type := _, pos := _, after := _, guard := _ }) (v := ?v21x7) rfl (by kernel_rfl) (by kernel_rfl) (by kernel_rfl) (fun _ _ _ h => h) (Or.inl ⟨by kernel_rfl, ?hy21x7⟩) hHeld2 ?rest21x7
            case hy21x7 => (intro w hSw; (try dsimp only at hSw); go_simp; (first | done | with_reducible rfl))
            try simp only [Act.put, List.setIfInBounds_toArray, List.set_cons_zero, List.set_cons_succ]
            refine wpAnyH_take (i := 22) (oi := { dst := some 42, op := _, type := _, pos := _, after := _, guard := _ }) (v := ?v22x7) rfl (by kernel_rfl) (by kernel_rfl) (by kernel_rfl) (fun _ _ _ h => h) (Or.inl ⟨by kernel_rfl, ?hy22x7⟩) hHeld2 ?rest22x7
            case hy22x7 => (intro w hSw; (try dsimp only at hSw); go_simp; (first | done | with_reducible rfl))
            try simp only [Act.put, List.setIfInBounds_toArray, List.set_cons_zero, List.set_cons_succ]
            refine wpAnyH_take (i := 23) (oi := { dst := some 43, op := _, type := _, pos := _, after := _, guard := _ }) (v := ?v23x7) rfl (by kernel_rfl) (by kernel_rfl) (by kernel_rfl) (fun _ _ _ h => h) (Or.inl ⟨by kernel_rfl, ?hy23x7⟩) hHeld2 ?rest23x7
            case hy23x7 => (intro w hSw; (try dsimp only at hSw); go_simp; (first | done | with_reducible rfl))
            try simp only [Act.put, List.setIfInBounds_toArray, List.set_cons_zero, List.set_cons_succ]
            refine wpAnyH_take (i := 24) (oi := { dst := some 44, op := _, type := _, pos := _, after := _, guard := _ }) (v := ?v24x7) rfl (by kernel_rfl) (by kernel_rfl) (by kernel_rfl) (fun _ _ _ h => h) (Or.inl ⟨by kernel_rfl, ?hy24x7⟩) hHeld2 ?rest24x7
            case hy24x7 => (intro w hSw; (try dsimp only at hSw); go_simp; (first | done | with_reducible rfl))
            try simp only [Act.put, List.setIfInBounds_toArray, List.set_cons_zero, List.set_cons_succ]
            refine wpAnyH_take (i := 25) (oi := { dst := some 45, op := _, type := _, pos := _, after := _, guard := _ }) (v := ?v25x7) rfl (by kernel_rfl) (by kernel_rfl) (by kernel_rfl) (fun _ _ _ h => h) (Or.inl ⟨by kernel_rfl, ?hy25x7⟩) hHeld2 ?rest25x7
            case hy25x7 => (intro w hSw; (try dsimp only at hSw); go_simp; (first | done | with_reducible rfl))
            try simp only [Act.put, List.setIfInBounds_toArray, List.set_cons_zero, List.set_cons_succ]
            refine wpAnyH_take (i := 26) (oi := { dst := some 46, op := _, type := _, pos := _, after := _, guard := _ }) (v := ?v26x7) rfl (by kernel_rfl) (by kernel_rfl) (by kernel_rfl) (fun _ _ _ h => h) (Or.inl ⟨by kernel_rfl, ?hy26x7⟩) hHeld2 ?rest26x7
            case hy26x7 => (intro w hSw; (try dsimp only at hSw); go_simp; (first | done | with_reducible rfl))
            try simp only [Act.put, List.setIfInBounds_toArray, List.set_cons_zero, List.set_cons_succ]
            refine wpAnyH_take (i := 27) (oi := { dst := some 47, op := _, type := _, pos := _, after := _, guard := _ }) (v := ?v27x7) rfl (by kernel_rfl) (by kernel_rfl) (by kernel_rfl) (fun _ _ _ h => h) (Or.inl ⟨by kernel_rfl, ?hy27x7⟩) hHeld2 ?rest27x7
            case hy27x7 => (intro w hSw; (try dsimp only at hSw); go_simp; (first | done | with_reducible rfl))
            try simp only [Act.put, List.setIfInBounds_toArray, List.set_cons_zero, List.set_cons_succ]
            refine wpAnyH_take (i := 28) (oi := { dst := some 48, op := _, type := _, pos := _, after := _, guard := _ }) (v := ?v28x7) rfl (by kernel_rfl) (by kernel_rfl) (by kernel_rfl) (fun _ _ _ h => h) (Or.inl ⟨by kernel_rfl, ?hy28x7⟩) hHeld2 ?rest28x7
            case hy28x7 => (intro w hSw; (try dsimp only at hSw); go_simp; (first | done | with_reducible rfl))
            try simp only [Act.put, List.setIfInBounds_toArray, List.set_cons_zero, List.set_cons_succ]
            refine wpAnyH_take (i := 29) (oi := { dst := some 49, op := _, type := _, pos := _, after := _, guard := _ }) (v := ?v29x7) rfl (by kernel_rfl) (by kernel_rfl) (by kernel_rfl) (fun _ _ _ h => h) (Or.inl ⟨by kernel_rfl, ?hy29x7⟩) hHeld2 ?rest29x7
            case hy29x7 => (intro w hSw; (try dsimp only at hSw); go_simp; (first | done | with_reducible rfl))
            try simp only [Act.put, List.setIfInBounds_toArray, List.set_cons_zero, List.set_cons_succ]
            refine wpAnyH_ready (rs := [30]) (by kernel_rfl) (by simp) ?_
            refine AllReadyH.cons (o := { dst := some 50, op := _, type := _, pos := _, after := _, guard := _ }) rfl (fun K hK => ?_) AllReadyH.nil
            go_simp
            (go_at_call 79; refine (HW3.out _ (hHeld2.2.2.2.2.2)).mono ?_; rintro e w' ⟨rfl, hb⟩)
            refine hK.out _ _ (keepC5 hHeld2 hb) (fun hHeld3 => ?_)
            clear hK K hHeld2
            try simp only [Act.put, List.setIfInBounds_toArray, List.set_cons_zero, List.set_cons_succ]
            refine wpAnyH_take (i := 31) (oi := { dst := some 51, op := _, type := _, pos := _, after := _, guard := _ }) (v := ?v31x7) rfl (by kernel_rfl) (by kernel_rfl) (by kernel_rfl) (fun _ _ _ h => h) (Or.inl ⟨by kernel_rfl, ?hy31x7⟩) hHeld3 ?rest31x7
            case hy31x7 => (intro w hSw; (try dsimp only at hSw); go_simp; (first | done | with_reducible rfl))
            try simp only [Act.put, List.setIfInBounds_toArray, List.set_cons_zero, List.set_cons_succ]
            refine wpAnyH_take (i := 32) (oi := { dst := some 52, op := _, type := _, pos := _, after := _, guard := _ }) (v := ?v32x7) rfl (by kernel_rfl) (by kernel_rfl) (by kernel_rfl) (fun _ _ _ h => h) (Or.inl ⟨by kernel_rfl, ?hy32x7⟩) hHeld3 ?rest32x7
            case hy32x7 => (intro w hSw; (try dsimp only at hSw); go_simp; (first | done | with_reducible rfl))
            try simp only [Act.put, List.setIfInBounds_toArray, List.set_cons_zero, List.set_cons_succ]
            refine wpAnyH_done (by kernel_rfl) ?_ _
            have hH := hHeld3
            clear hHeld3
            have HB := Aside0.mk hH.2.2.2.2.2
            clear hH
            go_wp2
            go_ret
            exact ⟨ret_bool HQ.out, HB.out⟩
    · have hd : decide (k < ss.length) = false := decide_eq_false hlt
      have HSO := Aside0.mk (show schsOK ss ts = true from allB_true fun j hj => HJ.out.1 j (by omega))
      have HRO := Aside0.mk (show rises (fun x y : Sch => cmpS x.name y.name) ss = true from rises_yes _ ss fun j hj => HJ.out.2.1 j hj (by omega))
      have HQ2 := Aside0.mk (show (rises orderT ts && decide (ss.length ≤ 8)) = q by rw [← HI.out]; unfold rowsB; rw [HSO.out, HRO.out]; rfl)
      have HXJ := Aside0.mk HJ.out.2.2.1
      go_wp2
      clear o0 o1 hd hlt hk HJ
      go_loopw [5] (fun i w' => ∃ k : Nat, i = .int .i64 ((k : Int) + 1) ∧ k ≤ ts.length ∧ Aside0 ((∀ j (h : j + 1 < ts.length), j < k → orderT ts[j] ts[j + 1] < 0) ∧ BoxO w' w.heap.size As ss.length cs At ts.length ct ∧ Below w.heap.size w w')) (fun i _ => ts.length + 1 - (intOf i).toNat)
      case atStart => exact ⟨0, rfl, Nat.zero_le _, ⟨fun _ _ h => absurd h (Nat.not_lt_zero _), HXJ.out, HJB.out⟩⟩
      case round =>
        obtain ⟨k, rfl, hk, HJ⟩ := hrel
        obtain ⟨o0, o1⟩ := HJ.out.2.1
        have HJB2 := Aside0.mk HJ.out.2.2
        have hs1 : IntKind.i64.wrap ((k : Int) + 1 - 1) = (k : Int) := by rw [Int.add_sub_cancel]; exact IntWalk.i64_in _ (by omega)
        have hs2 : IntKind.i64.wrap (k : Int) = (k : Int) := IntWalk.i64_in _ (by omega)
        have hs3 : IntKind.i64.wrap ((k : Int) + 1 + 1) = (k : Int) + 1 + 1 := IntWalk.i64_in _ (by omega)
        have hs4 : ((k : Int) + 1).toNat = k + 1 := by omega
        have hs5 : (0 : Int) ≤ (k : Int) + 1 := by omega
        by_cases hlt : k + 1 < ts.length
        · have hz1 : (k : Int) + 1 < (ts.length : Int) := by omega
          have hz2 : (k : Int) < (ts.length : Int) := by omega
          obtain ⟨ad, A3, c3, A4, c4, e, hc0, hc1, hc2, hc3, hc4, hs1', hs2', hs3', hs4'⟩ := cTab (Kd.C_below HT.out HJB2.out) k (by omega)
          cases e
          clear hs1' hs2' hs3' hs4'
          obtain ⟨ad', B3, d3, B4, d4, e, hd0, hd1, hd2, hd3, hd4, hs1', hs2', hs3', hs4'⟩ := cTab (Kd.C_below HT.out HJB2.out) (k + 1) hlt
          cases e
          clear hs1' hs2' hs3' hs4'
          have o1' : ∀ o, (wr.alloc o).cell? ⟨w.heap.size, 1, none⟩ = some (.slice (some ad) ts.length ct) := fun o => pw_cell_below (below_alloc (Below.refl _ _) o) o1
          have hd0' : ∀ o, (wr.alloc o).cell? (ad.add ((k + 1) * 5)) = some (.string ts[k + 1].schema) := fun o => pw_cell_below (below_alloc (Below.refl _ _) o) hd0
          have hd1' : ∀ o, (wr.alloc o).cell? ⟨(ad.add ((k + 1) * 5)).block, (ad.add ((k + 1) * 5)).off + 1, none⟩ = some (.string ts[k + 1].name) := fun o => pw_cell_below (below_alloc (Below.refl _ _) o) hd1
          have hd2' : ∀ o, (wr.alloc o).cell? ⟨(ad.add ((k + 1) * 5)).block, (ad.add ((k + 1) * 5)).off + 2, none⟩ = some (.string ts[k + 1].owner) := fun o => pw_cell_below (below_alloc (Below.refl _ _) o) hd2
          have hd3' : ∀ o, (wr.alloc o).cell? ⟨(ad.add ((k + 1) * 5)).block, (ad.add ((k + 1) * 5)).off + 3, none⟩ = some (.slice B3 ts[k + 1].cols.length d3) := fun o => pw_cell_below (below_alloc (Below.refl _ _) o) hd3
          have hd4' : ∀ o, (wr.alloc o).cell? ⟨(ad.add ((k + 1) * 5)).block, (ad.add ((k + 1) * 5)).off + 4, none⟩ = some (.slice B4 ts[k + 1].rules.length d4) := fun o => pw_cell_below (below_alloc (Below.refl _ _) o) hd4
          have HBB := Aside0.mk (fun o o' => below_alloc (below_alloc HJB2.out o) o')
          have HXX := Aside0.mk (fun o o' => HJ.out.2.1.below (below_alloc (below_alloc (Below.refl _ _) o) o'))
          have HOB := Aside0.mk (order_bad ts[k] ts[k + 1])
          cases l1 : Op.bytesLess ts[k].schema.toList ts[k + 1].schema.toList <;> cases e1 : (ts[k].schema.toList == ts[k + 1].schema.toList) <;> cases l2 : Op.bytesLess ts[k].name.toList ts[k + 1].name.toList
          all_goals rw [l1, e1, l2] at HOB
          all_goals first
            | (have HQ := Aside0.mk (show false = q by rw [← HQ2.out, rises_no orderT ts k hlt (of_decide_eq_false (by have := HOB.out; simpa using this.symm))]; rfl)
               go_wp2
               go_ret
               exact ⟨ret_bool HQ.out, HBB.out _ _⟩)
            | (have HQ := Aside0.mk (show orderT ts[k] ts[k + 1] < 0 from of_decide_eq_true (by have := HOB.out; simpa using this.symm))
               go_wp2
               go_roundw
               case rel => exact ⟨k + 1, by go_num, by omega, ⟨fun i h h' => by
                 rcases Nat.lt_or_ge i k with h3 | h3
                 · exact HJ.out.1 i h h3
                 · obtain rfl : i = k := by omega
                   exact HQ.out, HXX.out _ _, HBB.out _ _⟩⟩
               case measure => simp [intOf]; omega)
        · have hd : decide ((k : Int) + 1 < (ts.length : Int)) = false := decide_eq_false (by omega)
          have HRT := Aside0.mk (show decide (ss.length ≤ 8) = q by rw [← HQ2.out, rises_yes orderT ts (fun j hj => HJ.out.1 j hj (by omega))]; rfl)
          go_wp2
          go_ret
          exact ⟨ret_bool (by rw [← HRT.out]; first | rfl | exact decide_eq_decide.2 (by omega)), HJB2.out⟩
end Go.Proofs.Ytmmiehckgkadgaa.O
