/- The comparators that rows are held against, and objects.rises at schemas, rules and tables. Printed by a program of this session (gen_obj.py). -/
import Derived.Test.YtmmiehckgkadgaaOB
namespace Go.Proofs.Ytmmiehckgkadgaa.O
set_option linter.unusedVariables false
set_option linter.unusedSimpArgs false
open Go.RowKit Go.Proofs.YtmmiehckgkadgaaW.PrintWords


set_option maxHeartbeats 400000 in
theorem check1.calls (x y : Sch) (w : World) : Calls Try.prog 44 #[.agg #[.string x.name, .string x.owner], .agg #[.string y.name, .string y.owner]] w fun e w' => e = .returned (.int .i64 (cmpS x.name y.name)) ∧ Below w.heap.size w w' := by
  have HC := Aside0.mk (fun W => compare.calls x.name y.name W)
  generalize cmpS x.name y.name = m at HC ⊢
  go_enter Try.func44, Try.ntmps44
  go_wp2_with fail
  refine (HC.out _).mono ?_
  rintro e w' ⟨rfl, rfl⟩
  go_wp2
  go_ret
  exact ⟨rfl, ((Below.refl _ _).alloc (Nat.le_refl _) _).alloc (by simp) _⟩

set_option maxHeartbeats 400000 in
theorem right1.calls (x y : Rul) {A2 : Option Addr} {c2 : Nat} {B2 : Option Addr} {d2 : Nat} (w : World) : Calls Try.prog 94 #[.agg #[.string x.name, .int .i64 x.kind, .slice A2 x.cols.length c2, .int .i64 x.low, .int .i64 x.high, .string x.schema, .string x.table, .string x.key], .agg #[.string y.name, .int .i64 y.kind, .slice B2 y.cols.length d2, .int .i64 y.low, .int .i64 y.high, .string y.schema, .string y.table, .string y.key]] w fun e w' => e = .returned (.int .i64 (cmpS x.name y.name)) ∧ Below w.heap.size w w' := by
  have HC := Aside0.mk (fun W => compare.calls x.name y.name W)
  generalize cmpS x.name y.name = m at HC ⊢
  go_enter Try.func94, Try.ntmps94
  go_wp2_with fail
  refine (HC.out _).mono ?_
  rintro e w' ⟨rfl, rfl⟩
  go_wp2
  go_ret
  exact ⟨rfl, ((Below.refl _ _).alloc (Nat.le_refl _) _).alloc (by simp) _⟩

def rises {α : Type} (f : α → α → Int) : List α → Bool
  | a :: b :: r => decide (f a b < 0) && rises f (b :: r)
  | _ => true
theorem rises_drop {α : Type} (f : α → α → Int) (l : List α) (i : Nat) (h : i + 1 < l.length) : rises f (l.drop i) = (decide (f l[i] l[i + 1] < 0) && rises f (l.drop (i + 1))) := by
  rw [List.drop_eq_getElem_cons (show i < l.length by omega), List.drop_eq_getElem_cons h]; rfl
theorem rises_short {α : Type} (f : α → α → Int) (l : List α) (h : l.length ≤ 1) : rises f l = true := by
  match l, h with
  | [], _ => rfl
  | [_], _ => rfl

theorem keepB16 {w0 w w' : World} {v0 v1 v2 v3 v4 v5 v6 v7 v8 v9 v10 v11 v12 v13 v14 v15 : Value} {a0 a1 a2 a3 a4 a5 a6 a7 a8 a9 a10 a11 a12 a13 a14 a15 : Addr} (h : w.cell? a0 = some v0 ∧ w.cell? a1 = some v1 ∧ w.cell? a2 = some v2 ∧ w.cell? a3 = some v3 ∧ w.cell? a4 = some v4 ∧ w.cell? a5 = some v5 ∧ w.cell? a6 = some v6 ∧ w.cell? a7 = some v7 ∧ w.cell? a8 = some v8 ∧ w.cell? a9 = some v9 ∧ w.cell? a10 = some v10 ∧ w.cell? a11 = some v11 ∧ w.cell? a12 = some v12 ∧ w.cell? a13 = some v13 ∧ w.cell? a14 = some v14 ∧ w.cell? a15 = some v15 ∧ Below w0.heap.size w0 w) (hb : Below w.heap.size w w') : w'.cell? a0 = some v0 ∧ w'.cell? a1 = some v1 ∧ w'.cell? a2 = some v2 ∧ w'.cell? a3 = some v3 ∧ w'.cell? a4 = some v4 ∧ w'.cell? a5 = some v5 ∧ w'.cell? a6 = some v6 ∧ w'.cell? a7 = some v7 ∧ w'.cell? a8 = some v8 ∧ w'.cell? a9 = some v9 ∧ w'.cell? a10 = some v10 ∧ w'.cell? a11 = some v11 ∧ w'.cell? a12 = some v12 ∧ w'.cell? a13 = some v13 ∧ w'.cell? a14 = some v14 ∧ w'.cell? a15 = some v15 ∧ Below w0.heap.size w0 w' :=
  ⟨pw_cell_below hb h.1, pw_cell_below hb h.2.1, pw_cell_below hb h.2.2.1, pw_cell_below hb h.2.2.2.1, pw_cell_below hb h.2.2.2.2.1, pw_cell_below hb h.2.2.2.2.2.1, pw_cell_below hb h.2.2.2.2.2.2.1, pw_cell_below hb h.2.2.2.2.2.2.2.1, pw_cell_below hb h.2.2.2.2.2.2.2.2.1, pw_cell_below hb h.2.2.2.2.2.2.2.2.2.1, pw_cell_below hb h.2.2.2.2.2.2.2.2.2.2.1, pw_cell_below hb h.2.2.2.2.2.2.2.2.2.2.2.1, pw_cell_below hb h.2.2.2.2.2.2.2.2.2.2.2.2.1, pw_cell_below hb h.2.2.2.2.2.2.2.2.2.2.2.2.2.1, pw_cell_below hb h.2.2.2.2.2.2.2.2.2.2.2.2.2.2.1, pw_cell_below hb h.2.2.2.2.2.2.2.2.2.2.2.2.2.2.2.1, h.2.2.2.2.2.2.2.2.2.2.2.2.2.2.2.2.trans (hb.mono h.2.2.2.2.2.2.2.2.2.2.2.2.2.2.2.2.size)⟩
theorem keepB10 {w0 w w' : World} {v0 v1 v2 v3 v4 v5 v6 v7 v8 v9 : Value} {a0 a1 a2 a3 a4 a5 a6 a7 a8 a9 : Addr} (h : w.cell? a0 = some v0 ∧ w.cell? a1 = some v1 ∧ w.cell? a2 = some v2 ∧ w.cell? a3 = some v3 ∧ w.cell? a4 = some v4 ∧ w.cell? a5 = some v5 ∧ w.cell? a6 = some v6 ∧ w.cell? a7 = some v7 ∧ w.cell? a8 = some v8 ∧ w.cell? a9 = some v9 ∧ Below w0.heap.size w0 w) (hb : Below w.heap.size w w') : w'.cell? a0 = some v0 ∧ w'.cell? a1 = some v1 ∧ w'.cell? a2 = some v2 ∧ w'.cell? a3 = some v3 ∧ w'.cell? a4 = some v4 ∧ w'.cell? a5 = some v5 ∧ w'.cell? a6 = some v6 ∧ w'.cell? a7 = some v7 ∧ w'.cell? a8 = some v8 ∧ w'.cell? a9 = some v9 ∧ Below w0.heap.size w0 w' :=
  ⟨pw_cell_below hb h.1, pw_cell_below hb h.2.1, pw_cell_below hb h.2.2.1, pw_cell_below hb h.2.2.2.1, pw_cell_below hb h.2.2.2.2.1, pw_cell_below hb h.2.2.2.2.2.1, pw_cell_below hb h.2.2.2.2.2.2.1, pw_cell_below hb h.2.2.2.2.2.2.2.1, pw_cell_below hb h.2.2.2.2.2.2.2.2.1, pw_cell_below hb h.2.2.2.2.2.2.2.2.2.1, h.2.2.2.2.2.2.2.2.2.2.trans (hb.mono h.2.2.2.2.2.2.2.2.2.2.size)⟩
theorem keepB4 {w0 w w' : World} {v0 v1 v2 v3 : Value} {a0 a1 a2 a3 : Addr} (h : w.cell? a0 = some v0 ∧ w.cell? a1 = some v1 ∧ w.cell? a2 = some v2 ∧ w.cell? a3 = some v3 ∧ Below w0.heap.size w0 w) (hb : Below w.heap.size w w') : w'.cell? a0 = some v0 ∧ w'.cell? a1 = some v1 ∧ w'.cell? a2 = some v2 ∧ w'.cell? a3 = some v3 ∧ Below w0.heap.size w0 w' :=
  ⟨pw_cell_below hb h.1, pw_cell_below hb h.2.1, pw_cell_below hb h.2.2.1, pw_cell_below hb h.2.2.2.1, h.2.2.2.2.trans (hb.mono h.2.2.2.2.size)⟩
set_option maxHeartbeats 2000000 in
theorem risesSch.calls (A0 : Option Addr) (c0 : Nat) (xs : List Sch) (w : World) (hr : kSch.C w A0 xs.length xs) (hl : xs.length ≤ 140737488355328) :
    Calls Try.prog 43 #[.slice A0 xs.length c0, .func (.func 44) #[] #[]] w fun e w' => e = .returned (.bool (rises (fun x y : Sch => cmpS x.name y.name) xs)) ∧ Below w.heap.size w w' := by
  have HR := Aside0.mk hr
  generalize hres : rises (fun x y : Sch => cmpS x.name y.name) xs = r
  have HX := Aside0.mk hres
  clear hr hres
  by_cases h1 : xs.length ≤ 1
  · have hm : (if 0 < (xs.length : Int) - 1 then (xs.length : Int) - 1 else 0) = 0 := by split <;> omega
    have HE := Aside0.mk (rises_short (fun x y : Sch => cmpS x.name y.name) xs h1)
    go_enter Try.func43, Try.ntmps43
    go_wp2
    refine wp_loop_rounds 1 ?_
    rw [rounds_succ]
    go_wp2
    go_ret
    exact ⟨ret_bool (HE.out.symm.trans HX.out), Below.refl _ _⟩
  · have hm : (if 0 < (xs.length : Int) - 1 then (xs.length : Int) - 1 else 0) = (xs.length : Int) - 1 := by split <;> omega
    go_enter Try.func43, Try.ntmps43
    go_wp2
    go_loopw [10] (fun i w' => ∃ k : Nat, k + 1 ≤ xs.length ∧ i = .int .i64 k ∧ Aside0 (rises (fun x y : Sch => cmpS x.name y.name) (xs.drop k) = r ∧ Below w.heap.size w w')) (fun i _ => xs.length - (intOf i).toNat)
    case atStart => exact ⟨0, by omega, rfl, ⟨by rw [List.drop_zero]; exact HX.out, Below.refl _ _⟩⟩
    case round =>
      obtain ⟨k, hk, rfl, HJ⟩ := hrel
      by_cases hlt : k + 1 < xs.length
      · have hlt' : (k : Int) < (xs.length : Int) - 1 := by omega
        obtain ⟨ad, e, hx0, hx1⟩ := cSch (Kd.C_below HR.out HJ.out.2) k (by omega)
        obtain ⟨ad', e, hy0, hy1⟩ := cSch (Kd.C_below HR.out HJ.out.2) (k + 1) hlt
        cases e
        cases e
        have HC := Aside0.mk (fun W => check1.calls xs[k] xs[k + 1] W)
        have HD := Aside0.mk (rises_drop (fun x y : Sch => cmpS x.name y.name) xs k hlt)
        generalize hq : cmpS xs[k].name xs[k + 1].name = q at HC HD
        clear hq
        have hs1 : IntKind.i64.wrap ((k : Int) + 1) = (k : Int) + 1 := IntWalk.i64_in _ (by omega)
        have hs2 : (0 : Int) ≤ (k : Int) + 1 := by omega
        have hs3 : ((k : Int) + 1).toNat = k + 1 := by omega
        have hs4 : (k : Int) + 1 < (xs.length : Int) := by omega
        have hs5 : k < xs.length := by omega
        have hs6 : (k : Int) < (xs.length : Int) := by omega
        go_wp2_with fail
        go_region_held3 (fun w' => w'.cell? (ad.add (k * 2)) = some (.string xs[k].name) ∧ w'.cell? ⟨(ad.add (k * 2)).block, (ad.add (k * 2)).off + 1, none⟩ = some (.string xs[k].owner) ∧ w'.cell? (ad.add ((k + 1) * 2)) = some (.string xs[k + 1].name) ∧ w'.cell? ⟨(ad.add ((k + 1) * 2)).block, (ad.add ((k + 1) * 2)).off + 1, none⟩ = some (.string xs[k + 1].owner) ∧ Below w.heap.size w w')
          (first | assumption | exact keepB4 (by assumption) (by assumption) | exact ⟨hx0, hx1, hy0, hy1, pw_below_drewN HJ.out.2 1⟩)
          (first | (go_at_call 44; refine (HC.out _).mono ?_; rintro e w' ⟨rfl, hb⟩))
        rename_i hH
        have HB := Aside0.mk hH.2.2.2.2
        clear hH hx0 hx1 hy0 hy1
        by_cases hq : q < 0
        · have hq' : ¬ 0 ≤ q := by omega
          go_wp2
          go_roundw
          case rel => exact ⟨k + 1, by omega, by go_num, ⟨by have h1 := HJ.out.1; rw [HD.out, decide_eq_true hq, Bool.true_and] at h1; exact h1, HB.out⟩⟩
          case measure => simp [intOf]; omega
        · have hq' : 0 ≤ q := by omega
          go_wp2
          go_ret
          exact ⟨ret_bool (by have h1 := HJ.out.1; rw [HD.out, decide_eq_false (show ¬ q < 0 by omega), Bool.false_and] at h1; exact h1), HB.out⟩
      · have hlt' : ¬ (k : Int) < (xs.length : Int) - 1 := by omega
        have HE := Aside0.mk (rises_short (fun x y : Sch => cmpS x.name y.name) (xs.drop k) (by rw [List.length_drop]; omega))
        go_wp2
        go_ret
        exact ⟨ret_bool (HE.out.symm.trans HJ.out.1), HJ.out.2⟩

set_option maxHeartbeats 2000000 in
theorem risesRul.calls (A0 : Option Addr) (c0 : Nat) (xs : List Rul) (w : World) (hr : kRul.C w A0 xs.length xs) (hl : xs.length ≤ 140737488355328) :
    Calls Try.prog 93 #[.slice A0 xs.length c0, .func (.func 94) #[] #[]] w fun e w' => e = .returned (.bool (rises (fun x y : Rul => cmpS x.name y.name) xs)) ∧ Below w.heap.size w w' := by
  have HR := Aside0.mk hr
  generalize hres : rises (fun x y : Rul => cmpS x.name y.name) xs = r
  have HX := Aside0.mk hres
  clear hr hres
  by_cases h1 : xs.length ≤ 1
  · have hm : (if 0 < (xs.length : Int) - 1 then (xs.length : Int) - 1 else 0) = 0 := by split <;> omega
    have HE := Aside0.mk (rises_short (fun x y : Rul => cmpS x.name y.name) xs h1)
    go_enter Try.func93, Try.ntmps93
    go_wp2
    refine wp_loop_rounds 1 ?_
    rw [rounds_succ]
    go_wp2
    go_ret
    exact ⟨ret_bool (HE.out.symm.trans HX.out), Below.refl _ _⟩
  · have hm : (if 0 < (xs.length : Int) - 1 then (xs.length : Int) - 1 else 0) = (xs.length : Int) - 1 := by split <;> omega
    go_enter Try.func93, Try.ntmps93
    go_wp2
    go_loopw [10] (fun i w' => ∃ k : Nat, k + 1 ≤ xs.length ∧ i = .int .i64 k ∧ Aside0 (rises (fun x y : Rul => cmpS x.name y.name) (xs.drop k) = r ∧ Below w.heap.size w w')) (fun i _ => xs.length - (intOf i).toNat)
    case atStart => exact ⟨0, by omega, rfl, ⟨by rw [List.drop_zero]; exact HX.out, Below.refl _ _⟩⟩
    case round =>
      obtain ⟨k, hk, rfl, HJ⟩ := hrel
      by_cases hlt : k + 1 < xs.length
      · have hlt' : (k : Int) < (xs.length : Int) - 1 := by omega
        obtain ⟨ad, A2, c2, e, hx0, hx1, hx2, hx3, hx4, hx5, hx6, hx7, _, _⟩ := cRul (Kd.C_below HR.out HJ.out.2) k (by omega)
        obtain ⟨ad', B2, d2, e, hy0, hy1, hy2, hy3, hy4, hy5, hy6, hy7, _, _⟩ := cRul (Kd.C_below HR.out HJ.out.2) (k + 1) hlt
        cases e
        cases e
        have HC := Aside0.mk (fun W => right1.calls xs[k] xs[k + 1] (A2 := A2) (c2 := c2) (B2 := B2) (d2 := d2) W)
        have HD := Aside0.mk (rises_drop (fun x y : Rul => cmpS x.name y.name) xs k hlt)
        generalize hq : cmpS xs[k].name xs[k + 1].name = q at HC HD
        clear hq
        have hs1 : IntKind.i64.wrap ((k : Int) + 1) = (k : Int) + 1 := IntWalk.i64_in _ (by omega)
        have hs2 : (0 : Int) ≤ (k : Int) + 1 := by omega
        have hs3 : ((k : Int) + 1).toNat = k + 1 := by omega
        have hs4 : (k : Int) + 1 < (xs.length : Int) := by omega
        have hs5 : k < xs.length := by omega
        have hs6 : (k : Int) < (xs.length : Int) := by omega
        go_wp2_with fail
        go_region_held3 (fun w' => w'.cell? (ad.add (k * 8)) = some (.string xs[k].name) ∧ w'.cell? ⟨(ad.add (k * 8)).block, (ad.add (k * 8)).off + 1, none⟩ = some (.int .i64 xs[k].kind) ∧ w'.cell? ⟨(ad.add (k * 8)).block, (ad.add (k * 8)).off + 2, none⟩ = some (.slice A2 xs[k].cols.length c2) ∧ w'.cell? ⟨(ad.add (k * 8)).block, (ad.add (k * 8)).off + 3, none⟩ = some (.int .i64 xs[k].low) ∧ w'.cell? ⟨(ad.add (k * 8)).block, (ad.add (k * 8)).off + 4, none⟩ = some (.int .i64 xs[k].high) ∧ w'.cell? ⟨(ad.add (k * 8)).block, (ad.add (k * 8)).off + 5, none⟩ = some (.string xs[k].schema) ∧ w'.cell? ⟨(ad.add (k * 8)).block, (ad.add (k * 8)).off + 6, none⟩ = some (.string xs[k].table) ∧ w'.cell? ⟨(ad.add (k * 8)).block, (ad.add (k * 8)).off + 7, none⟩ = some (.string xs[k].key) ∧ w'.cell? (ad.add ((k + 1) * 8)) = some (.string xs[k + 1].name) ∧ w'.cell? ⟨(ad.add ((k + 1) * 8)).block, (ad.add ((k + 1) * 8)).off + 1, none⟩ = some (.int .i64 xs[k + 1].kind) ∧ w'.cell? ⟨(ad.add ((k + 1) * 8)).block, (ad.add ((k + 1) * 8)).off + 2, none⟩ = some (.slice B2 xs[k + 1].cols.length d2) ∧ w'.cell? ⟨(ad.add ((k + 1) * 8)).block, (ad.add ((k + 1) * 8)).off + 3, none⟩ = some (.int .i64 xs[k + 1].low) ∧ w'.cell? ⟨(ad.add ((k + 1) * 8)).block, (ad.add ((k + 1) * 8)).off + 4, none⟩ = some (.int .i64 xs[k + 1].high) ∧ w'.cell? ⟨(ad.add ((k + 1) * 8)).block, (ad.add ((k + 1) * 8)).off + 5, none⟩ = some (.string xs[k + 1].schema) ∧ w'.cell? ⟨(ad.add ((k + 1) * 8)).block, (ad.add ((k + 1) * 8)).off + 6, none⟩ = some (.string xs[k + 1].table) ∧ w'.cell? ⟨(ad.add ((k + 1) * 8)).block, (ad.add ((k + 1) * 8)).off + 7, none⟩ = some (.string xs[k + 1].key) ∧ Below w.heap.size w w')
          (first | assumption | exact keepB16 (by assumption) (by assumption) | exact ⟨hx0, hx1, hx2, hx3, hx4, hx5, hx6, hx7, hy0, hy1, hy2, hy3, hy4, hy5, hy6, hy7, pw_below_drewN HJ.out.2 1⟩)
          (first | (go_at_call 94; refine (HC.out _).mono ?_; rintro e w' ⟨rfl, hb⟩))
        rename_i hH
        have HB := Aside0.mk hH.2.2.2.2.2.2.2.2.2.2.2.2.2.2.2.2
        clear hH hx0 hx1 hx2 hx3 hx4 hx5 hx6 hx7 hy0 hy1 hy2 hy3 hy4 hy5 hy6 hy7
        by_cases hq : q < 0
        · have hq' : ¬ 0 ≤ q := by omega
          go_wp2
          go_roundw
          case rel => exact ⟨k + 1, by omega, by go_num, ⟨by have h1 := HJ.out.1; rw [HD.out, decide_eq_true hq, Bool.true_and] at h1; exact h1, HB.out⟩⟩
          case measure => simp [intOf]; omega
        · have hq' : 0 ≤ q := by omega
          go_wp2
          go_ret
          exact ⟨ret_bool (by have h1 := HJ.out.1; rw [HD.out, decide_eq_false (show ¬ q < 0 by omega), Bool.false_and] at h1; exact h1), HB.out⟩
      · have hlt' : ¬ (k : Int) < (xs.length : Int) - 1 := by omega
        have HE := Aside0.mk (rises_short (fun x y : Rul => cmpS x.name y.name) (xs.drop k) (by rw [List.length_drop]; omega))
        go_wp2
        go_ret
        exact ⟨ret_bool (HE.out.symm.trans HJ.out.1), HJ.out.2⟩

set_option maxHeartbeats 2000000 in
theorem risesTab.calls (A0 : Option Addr) (c0 : Nat) (xs : List Tab) (w : World) (hr : kTab.C w A0 xs.length xs) (hl : xs.length ≤ 140737488355328) :
    Calls Try.prog 41 #[.slice A0 xs.length c0, .func (.func 42) #[] #[]] w fun e w' => e = .returned (.bool (rises orderT xs)) ∧ Below w.heap.size w w' := by
  have HR := Aside0.mk hr
  generalize hres : rises orderT xs = r
  have HX := Aside0.mk hres
  clear hr hres
  by_cases h1 : xs.length ≤ 1
  · have hm : (if 0 < (xs.length : Int) - 1 then (xs.length : Int) - 1 else 0) = 0 := by split <;> omega
    have HE := Aside0.mk (rises_short orderT xs h1)
    go_enter Try.func41, Try.ntmps41
    go_wp2
    refine wp_loop_rounds 1 ?_
    rw [rounds_succ]
    go_wp2
    go_ret
    exact ⟨ret_bool (HE.out.symm.trans HX.out), Below.refl _ _⟩
  · have hm : (if 0 < (xs.length : Int) - 1 then (xs.length : Int) - 1 else 0) = (xs.length : Int) - 1 := by split <;> omega
    go_enter Try.func41, Try.ntmps41
    go_wp2
    go_loopw [10] (fun i w' => ∃ k : Nat, k + 1 ≤ xs.length ∧ i = .int .i64 k ∧ Aside0 (rises orderT (xs.drop k) = r ∧ Below w.heap.size w w')) (fun i _ => xs.length - (intOf i).toNat)
    case atStart => exact ⟨0, by omega, rfl, ⟨by rw [List.drop_zero]; exact HX.out, Below.refl _ _⟩⟩
    case round =>
      obtain ⟨k, hk, rfl, HJ⟩ := hrel
      by_cases hlt : k + 1 < xs.length
      · have hlt' : (k : Int) < (xs.length : Int) - 1 := by omega
        obtain ⟨ad, A3, c3, A4, c4, e, hx0, hx1, hx2, hx3, hx4, _, _, _, _⟩ := cTab (Kd.C_below HR.out HJ.out.2) k (by omega)
        obtain ⟨ad', B3, d3, B4, d4, e, hy0, hy1, hy2, hy3, hy4, _, _, _, _⟩ := cTab (Kd.C_below HR.out HJ.out.2) (k + 1) hlt
        cases e
        cases e
        have HC := Aside0.mk (fun W => order.calls xs[k] xs[k + 1] (A3 := A3) (c3 := c3) (B3 := B3) (d3 := d3) (A4 := A4) (c4 := c4) (B4 := B4) (d4 := d4) W)
        have HD := Aside0.mk (rises_drop orderT xs k hlt)
        generalize hq : orderT xs[k] xs[k + 1] = q at HC HD
        clear hq
        have hs1 : IntKind.i64.wrap ((k : Int) + 1) = (k : Int) + 1 := IntWalk.i64_in _ (by omega)
        have hs2 : (0 : Int) ≤ (k : Int) + 1 := by omega
        have hs3 : ((k : Int) + 1).toNat = k + 1 := by omega
        have hs4 : (k : Int) + 1 < (xs.length : Int) := by omega
        have hs5 : k < xs.length := by omega
        have hs6 : (k : Int) < (xs.length : Int) := by omega
        go_wp2_with fail
        go_region_held3 (fun w' => w'.cell? (ad.add (k * 5)) = some (.string xs[k].schema) ∧ w'.cell? ⟨(ad.add (k * 5)).block, (ad.add (k * 5)).off + 1, none⟩ = some (.string xs[k].name) ∧ w'.cell? ⟨(ad.add (k * 5)).block, (ad.add (k * 5)).off + 2, none⟩ = some (.string xs[k].owner) ∧ w'.cell? ⟨(ad.add (k * 5)).block, (ad.add (k * 5)).off + 3, none⟩ = some (.slice A3 xs[k].cols.length c3) ∧ w'.cell? ⟨(ad.add (k * 5)).block, (ad.add (k * 5)).off + 4, none⟩ = some (.slice A4 xs[k].rules.length c4) ∧ w'.cell? (ad.add ((k + 1) * 5)) = some (.string xs[k + 1].schema) ∧ w'.cell? ⟨(ad.add ((k + 1) * 5)).block, (ad.add ((k + 1) * 5)).off + 1, none⟩ = some (.string xs[k + 1].name) ∧ w'.cell? ⟨(ad.add ((k + 1) * 5)).block, (ad.add ((k + 1) * 5)).off + 2, none⟩ = some (.string xs[k + 1].owner) ∧ w'.cell? ⟨(ad.add ((k + 1) * 5)).block, (ad.add ((k + 1) * 5)).off + 3, none⟩ = some (.slice B3 xs[k + 1].cols.length d3) ∧ w'.cell? ⟨(ad.add ((k + 1) * 5)).block, (ad.add ((k + 1) * 5)).off + 4, none⟩ = some (.slice B4 xs[k + 1].rules.length d4) ∧ Below w.heap.size w w')
          (first | assumption | exact keepB10 (by assumption) (by assumption) | exact ⟨hx0, hx1, hx2, hx3, hx4, hy0, hy1, hy2, hy3, hy4, pw_below_drewN HJ.out.2 1⟩)
          (first | (go_at_call 42; refine (HC.out _).mono ?_; rintro e w' ⟨rfl, hb⟩))
        rename_i hH
        have HB := Aside0.mk hH.2.2.2.2.2.2.2.2.2.2
        clear hH hx0 hx1 hx2 hx3 hx4 hy0 hy1 hy2 hy3 hy4
        by_cases hq : q < 0
        · have hq' : ¬ 0 ≤ q := by omega
          go_wp2
          go_roundw
          case rel => exact ⟨k + 1, by omega, by go_num, ⟨by have h1 := HJ.out.1; rw [HD.out, decide_eq_true hq, Bool.true_and] at h1; exact h1, HB.out⟩⟩
          case measure => simp [intOf]; omega
        · have hq' : 0 ≤ q := by omega
          go_wp2
          go_ret
          exact ⟨ret_bool (by have h1 := HJ.out.1; rw [HD.out, decide_eq_false (show ¬ q < 0 by omega), Bool.false_and] at h1; exact h1), HB.out⟩
      · have hlt' : ¬ (k : Int) < (xs.length : Int) - 1 := by omega
        have HE := Aside0.mk (rises_short orderT (xs.drop k) (by rw [List.length_drop]; omega))
        go_wp2
        go_ret
        exact ⟨ret_bool (HE.out.symm.trans HJ.out.1), HJ.out.2⟩

end Go.Proofs.Ytmmiehckgkadgaa.O
