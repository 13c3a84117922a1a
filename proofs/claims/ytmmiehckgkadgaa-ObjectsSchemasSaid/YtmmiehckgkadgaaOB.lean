/- Comparing names: strings.Compare, cmp.Or, the orders of schemas, rules and tables. -/
import Derived.Test.YtmmiehckgkadgaaOA
namespace Go.Proofs.Ytmmiehckgkadgaa.O
set_option linter.unusedVariables false
set_option linter.unusedSimpArgs false
open Go.RowKit Go.Proofs.YtmmiehckgkadgaaW.PrintWords

def cmpS (a b : ByteArray) : Int := Lib.compareBytes a.data.toList b.data.toList
theorem compare.calls (a b : ByteArray) (w : World) : Calls Try.prog 45 #[.string a, .string b] w fun e w' => e = .returned (.int .i64 (cmpS a b)) ∧ w = w' :=
  (Any.strings_Compare Try.lays106 a b w).mono fun e w' ⟨he, hw⟩ => ⟨he, hw.symm⟩

def orI (a b : Int) : Int := if a = 0 then b else a
set_option maxHeartbeats 400000 in
theorem cmpOr.calls (g : Nat) (a b : Int) (w : World) (h0 : w.cell? ⟨g, 0, none⟩ = some (.int .i64 a)) (h1 : w.cell? ⟨g, 1, none⟩ = some (.int .i64 b)) :
    Calls Try.prog 89 #[.slice (some ⟨g, 0, none⟩) 2 2] w fun e w' => e = .returned (.int .i64 (orI a b)) ∧ w = w' := by
  unfold orI
  by_cases ha : a = 0
  · rw [if_pos ha]
    subst ha
    by_cases hb : b = 0
    · subst hb
      go_enter Try.func89, Try.ntmps89
      go_wp2
      refine wp_loop_rounds 3 ?_
      rw [rounds_succ]
      go_wp2
      rw [rounds_succ]
      go_wp2
      rw [rounds_succ]
      go_wp2
      go_ret
      exact ⟨rfl, rfl⟩
    · have hb' : (b != 0) = true := bne_iff_ne.2 hb
      go_enter Try.func89, Try.ntmps89
      go_wp2
      refine wp_loop_rounds 2 ?_
      rw [rounds_succ]
      go_wp2
      rw [rounds_succ]
      go_wp2
      go_ret
      exact ⟨rfl, rfl⟩
  · rw [if_neg ha]
    have ha' : (a != 0) = true := bne_iff_ne.2 ha
    go_enter Try.func89, Try.ntmps89
    go_wp2
    refine wp_loop_rounds 1 ?_
    rw [rounds_succ]
    go_wp2
    go_ret
    exact ⟨rfl, rfl⟩

theorem cell_new3 (w : World) (o1 o2 : Obj) (c : Array Value) (t : TypeId) (i : Nat) : (((w.alloc o1).alloc o2).alloc (.cells c t)).drew.cell? ⟨w.heap.size + 1 + 1, i, none⟩ = c[i]? := by
  have h := World.cell?_alloc_new (w := (w.alloc o1).alloc o2) c t i
  simpa using h
def orderT (x y : Tab) : Int := orI (cmpS x.schema y.schema) (cmpS x.name y.name)
theorem keep4 {w0 w w' : World} {v0 v1 v2 v3 : Value} {a0 a1 a2 a3 : Addr} (h : w.cell? a0 = some v0 ∧ w.cell? a1 = some v1 ∧ w.cell? a2 = some v2 ∧ w.cell? a3 = some v3 ∧ Below w0.heap.size w0 w) (hb : Below w.heap.size w w') : w'.cell? a0 = some v0 ∧ w'.cell? a1 = some v1 ∧ w'.cell? a2 = some v2 ∧ w'.cell? a3 = some v3 ∧ Below w0.heap.size w0 w' :=
  ⟨pw_cell_below hb h.1, pw_cell_below hb h.2.1, pw_cell_below hb h.2.2.1, pw_cell_below hb h.2.2.2.1, h.2.2.2.2.trans (hb.mono h.2.2.2.2.size)⟩
set_option maxHeartbeats 1000000 in
theorem order.calls (x y : Tab) {A3 A4 B3 B4 : Option Addr} {c3 c4 d3 d4 : Nat} (w : World) :
    Calls Try.prog 42 #[.agg #[.string x.schema, .string x.name, .string x.owner, .slice A3 x.cols.length c3, .slice A4 x.rules.length c4], .agg #[.string y.schema, .string y.name, .string y.owner, .slice B3 y.cols.length d3, .slice B4 y.rules.length d4]] w
      fun e w' => e = .returned (.int .i64 (orderT x y)) ∧ Below w.heap.size w w' := by
  have HO := Aside0.mk (show orderT x y = orI (cmpS x.schema y.schema) (cmpS x.name y.name) from rfl)
  rw [HO.out]
  clear HO
  generalize hm : cmpS x.schema y.schema = m
  generalize hn : cmpS x.name y.name = n
  have HM := fun W => compare.calls x.schema y.schema W
  have HN := fun W => compare.calls x.name y.name W
  rw [hm] at HM
  rw [hn] at HN
  have HC := Aside0.mk (And.intro HM HN)
  clear HM HN hm hn
  go_enter Try.func42, Try.ntmps42
  go_wp2_with fail
  go_region_held3 (fun w' => w'.cell? ⟨w.heap.size, 0, none⟩ = some (.string x.schema) ∧ w'.cell? ⟨w.heap.size, 1, none⟩ = some (.string x.name) ∧ w'.cell? ⟨w.heap.size + 1, 0, none⟩ = some (.string y.schema) ∧ w'.cell? ⟨w.heap.size + 1, 1, none⟩ = some (.string y.name) ∧ Below w.heap.size w w')
    (first | assumption | exact keep4 (by assumption) (by assumption) | exact keep4 (by assumption) (below_alloc (Below.refl _ _) _) | (exact ⟨(by simp), (by simp), (by simp), (by simp), (((Below.refl _ _).alloc (Nat.le_refl _) _).alloc (by simp) _).drew⟩))
    (first | (go_at_call_of 45 (Value.string x.schema); refine (HC.out.1 _).mono ?_; rintro e w' ⟨rfl, rfl⟩) | (go_at_call_of 45 (Value.string x.name); refine (HC.out.2 _).mono ?_; rintro e w' ⟨rfl, rfl⟩) | (go_at_call 89; refine (cmpOr.calls _ m n _ (cell_new3 _ _ _ _ _ 0) (cell_new3 _ _ _ _ _ 1)).mono ?_; rintro e w' ⟨rfl, rfl⟩))
  rename_i hH
  have HB := Aside0.mk hH.2.2.2.2
  clear hH
  go_wp2
  go_ret
  exact ⟨rfl, HB.out⟩
end Go.Proofs.Ytmmiehckgkadgaa.O
