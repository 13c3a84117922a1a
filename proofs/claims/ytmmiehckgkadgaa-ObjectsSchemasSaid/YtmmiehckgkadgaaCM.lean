/- told: both answers are one, and what was handed in stays; what came out is written over. -/
import Derived.Test.YtmmiehckgkadgaaG2
namespace Go.Proofs.Ytmmiehckgkadgaa.O
set_option linter.unusedVariables false
set_option linter.unusedSimpArgs false
open Go.RowKit Go.Proofs.YtmmiehckgkadgaaW.PrintWords

/-- all but the blocks of S stands -/
def Spr (S : Nat → Prop) (w w' : World) : Prop := w'.os = w.os ∧ w'.tape = w.tape ∧ w'.output = w.output ∧ w.heap.size ≤ w'.heap.size ∧ ∀ k, k < w.heap.size → ¬ S k → w'.heap[k]? = w.heap[k]?
/-- in the blocks of S texts alone have been written over -/
def Ovr (S : Nat → Prop) (w w' : World) : Prop := w'.os = w.os ∧ w'.tape = w.tape ∧ w'.output = w.output ∧ w'.heap.size = w.heap.size ∧ (∀ k, ¬ S k → w'.heap[k]? = w.heap[k]?) ∧
  ∀ (k : Nat) (cs : Array Value) (t : TypeId), w.heap[k]? = some (.cells cs t (0, 0)) → ∃ cs' : Array Value, w'.heap[k]? = some (.cells cs' t (0, 0)) ∧ ∀ j : Nat, cs'[j]? = cs[j]? ∨ ∃ s s' : ByteArray, cs[j]? = some (.string s) ∧ cs'[j]? = some (.string s')
theorem Ovr.refl (S : Nat → Prop) (w : World) : Ovr S w w := ⟨rfl, rfl, rfl, rfl, fun _ _ => rfl, fun k cs t h => ⟨cs, h, fun j => .inl rfl⟩⟩
theorem Ovr.spr {S : Nat → Prop} {w w' : World} (h : Ovr S w w') : Spr S w w' := ⟨h.1, h.2.1, h.2.2.1, Nat.le_of_eq h.2.2.2.1.symm, fun k _ hk => h.2.2.2.2.1 k hk⟩
theorem Spr.of_below {S : Nat → Prop} {w w' : World} (h : Below w.heap.size w w') : Spr S w w' := ⟨h.os, h.tape, h.output, h.size, fun k hk _ => h.block k hk⟩
theorem Spr.trans {S : Nat → Prop} {a b c : World} (h : Spr S a b) (k : Spr S b c) : Spr S a c := ⟨k.1.trans h.1, k.2.1.trans h.2.1, k.2.2.1.trans h.2.2.1, Nat.le_trans h.2.2.2.1 k.2.2.2.1, fun i hi hn => (k.2.2.2.2 i (Nat.lt_of_lt_of_le hi h.2.2.2.1) hn).trans (h.2.2.2.2 i hi hn)⟩
theorem Spr.below {S : Nat → Prop} {B : Nat} {w w' : World} (h : Spr S w w') (hS : ∀ k, S k → B ≤ k) (hB : B ≤ w.heap.size) : Below B w w' := ⟨h.1, h.2.1, h.2.2.1, h.2.2.2.1, fun k hk => h.2.2.2.2 k (Nat.lt_of_lt_of_le hk hB) (fun hs => by have := hS k hs; omega)⟩
/-- a row's block, plain -/
def Pl (w : World) (g : Nat) : Prop := ∃ cs t, w.heap[g]? = some (.cells cs t (0, 0))
theorem Ovr.slice {S : Nat → Prop} {w w' : World} {g j : Nat} {A : Option Addr} {n c : Nat} (h : Ovr S w w') (hp : Pl w g) (hc : w.cell? ⟨g, j, none⟩ = some (.slice A n c)) : w'.cell? ⟨g, j, none⟩ = some (.slice A n c) := by
  obtain ⟨cs, t, hg⟩ := hp
  rw [blk_cell hg] at hc
  obtain ⟨cs', hg', hj⟩ := h.2.2.2.2.2 g cs t hg
  rw [blk_cell hg']
  rcases hj j with e | ⟨s, s', e, _⟩
  · rw [e]; exact hc
  · rw [e] at hc; cases hc
theorem Ovr.text {S : Nat → Prop} {w w' : World} {g j : Nat} {s : ByteArray} (h : Ovr S w w') (hp : Pl w g) (hc : w.cell? ⟨g, j, none⟩ = some (.string s)) : (∃ s', w'.cell? ⟨g, j, none⟩ = some (.string s')) ∧ w'.frozen? ⟨g, j, none⟩ = false := by
  obtain ⟨cs, t, hg⟩ := hp
  rw [blk_cell hg] at hc
  obtain ⟨cs', hg', hj⟩ := h.2.2.2.2.2 g cs t hg
  refine ⟨?_, blk_frozen hg' j⟩
  rw [blk_cell hg']
  rcases hj j with e | ⟨s1, s', _, e⟩
  · exact ⟨s, by rw [e]; exact hc⟩
  · exact ⟨s', e⟩
theorem Ovr.store {S : Nat → Prop} {w w' : World} {g j : Nat} {s : ByteArray} (h : Ovr S w w') (hS : S g) (hp : Pl w g) (hc : w.cell? ⟨g, j, none⟩ = some (.string s)) (u : ByteArray) : Ovr S w (w'.setCell ⟨g, j, none⟩ (.string u)) := by
  obtain ⟨cs0, t0, hg0⟩ := hp
  rw [blk_cell hg0] at hc
  refine ⟨h.1, h.2.1, h.2.2.1, by simp [h.2.2.2.1], fun k hk => ?_, fun k cs t hg => ?_⟩
  · rw [Below.heap_setCell _ _ _ k (fun e => hk (by rw [e]; exact hS))]; exact h.2.2.2.2.1 k hk
  · obtain ⟨cs', hg', hj⟩ := h.2.2.2.2.2 k cs t hg
    by_cases hkg : k = g
    · subst hkg
      refine ⟨cs'.setIfInBounds j (.string u), blk_set hg' j _, fun i => ?_⟩
      rw [hg0] at hg; injection hg with hg; injection hg with hg1 hg2
      by_cases hij : i = j
      · subst hij
        right
        refine ⟨s, u, by rw [← hg1]; exact hc, ?_⟩
        have hlt : i < cs'.size := by
          rcases hj i with e | ⟨_, _, _, e⟩
          · rw [← hg1, hc] at e; exact (Array.getElem?_eq_some_iff.1 e).1
          · exact (Array.getElem?_eq_some_iff.1 e).1
        rw [Array.getElem?_setIfInBounds_self_of_lt hlt]
      · rw [Array.getElem?_setIfInBounds_ne (fun e => hij e.symm)]; exact hj i
    · exact ⟨cs', blk_far (p := ⟨g, j, none⟩) hg' hkg _, hj⟩
/-! what a row of one's own holds, cell by cell -/
theorem pl_of {w : World} {g e : Nat} (h : ∃ cells, w.heap[g]? = some (.cells cells e (0, 0))) : Pl w g := by obtain ⟨c, hc⟩ := h; exact ⟨c, e, hc⟩
theorem ownTab {w : World} {b : Nat} {ok : Nat → Prop} {A : Option Addr} {c : Nat} {xs : List Tab} (h : kTab.R 35 w b ok (.slice A xs.length c) xs) (i : Nat) (hi : i < xs.length) : ∃ g A3 c3 A4 c4, A = some ⟨g, 0, none⟩ ∧ ok g ∧ Pl w g ∧ w.cell? ⟨g, i * 5 + 1, none⟩ = some (.string xs[i].name) ∧ w.cell? ⟨g, i * 5 + 3, none⟩ = some (.slice A3 xs[i].cols.length c3) ∧ w.cell? ⟨g, i * 5 + 4, none⟩ = some (.slice A4 xs[i].rules.length c4) ∧
    kCol.R 41 w b ok (.slice A3 xs[i].cols.length c3) xs[i].cols ∧ kRul.R 57 w b ok (.slice A4 xs[i].rules.length c4) xs[i].rules := by
  obtain ⟨g, cap, hv, _, _, hp⟩ := Kd.R_form h (by omega)
  injection hv with hA _ _; subst hA
  obtain ⟨cs, hl, hM, hc, _⟩ := Kd.R_elem h zTab (i : Int) (by omega) (by omega)
  rw [Int.toNat_natCast, List.getD_eq_getElem?_getD, List.getElem?_eq_getElem hi] at hM
  rw [Int.toNat_natCast] at hc
  obtain ⟨v3, v4, rfl, h3, h4⟩ := kTab_openM hM
  obtain ⟨A3, c3, rfl⟩ := Kd.R_slice h3
  obtain ⟨A4, c4, rfl⟩ := Kd.R_slice h4
  exact ⟨g, A3, c3, A4, c4, rfl, h.1 g rfl, pl_of hp, hc 1 _ rfl, hc 3 _ rfl, hc 4 _ rfl, Kd.R_mono h3 (fun q hq => hq.1), Kd.R_mono h4 (fun q hq => hq.1)⟩
theorem ownCol {w : World} {b : Nat} {ok : Nat → Prop} {A : Option Addr} {c : Nat} {xs : List Col} (h : kCol.R 41 w b ok (.slice A xs.length c) xs) (i : Nat) (hi : i < xs.length) : ∃ g, A = some ⟨g, 0, none⟩ ∧ ok g ∧ Pl w g ∧ w.cell? ⟨g, i * 3, none⟩ = some (.string xs[i].name) := by
  obtain ⟨g, cap, hv, _, _, hp⟩ := Kd.R_form h (by omega)
  injection hv with hA _ _; subst hA
  obtain ⟨cs, hl, hM, hc, _⟩ := Kd.R_elem h zCol (i : Int) (by omega) (by omega)
  rw [Int.toNat_natCast, List.getD_eq_getElem?_getD, List.getElem?_eq_getElem hi] at hM
  rw [Int.toNat_natCast] at hc
  have e := kCol_openM hM
  subst e
  exact ⟨g, rfl, h.1 g rfl, pl_of hp, hc 0 _ rfl⟩
theorem ownSch {w : World} {b : Nat} {ok : Nat → Prop} {A : Option Addr} {c : Nat} {xs : List Sch} (h : kSch.R 63 w b ok (.slice A xs.length c) xs) (i : Nat) (hi : i < xs.length) : ∃ g, A = some ⟨g, 0, none⟩ ∧ ok g ∧ Pl w g ∧ w.cell? ⟨g, i * 2, none⟩ = some (.string xs[i].name) := by
  obtain ⟨g, cap, hv, _, _, hp⟩ := Kd.R_form h (by omega)
  injection hv with hA _ _; subst hA
  obtain ⟨cs, hl, hM, hc, _⟩ := Kd.R_elem h zSch (i : Int) (by omega) (by omega)
  rw [Int.toNat_natCast, List.getD_eq_getElem?_getD, List.getElem?_eq_getElem hi] at hM
  rw [Int.toNat_natCast] at hc
  have e := kSch_openM hM
  subst e
  exact ⟨g, rfl, h.1 g rfl, pl_of hp, hc 0 _ rfl⟩
theorem ownRul {w : World} {b : Nat} {ok : Nat → Prop} {A : Option Addr} {c : Nat} {xs : List Rul} (h : kRul.R 57 w b ok (.slice A xs.length c) xs) (i : Nat) (hi : i < xs.length) : ∃ g A2 c2, A = some ⟨g, 0, none⟩ ∧ ok g ∧ Pl w g ∧ w.cell? ⟨g, i * 8, none⟩ = some (.string xs[i].name) ∧ w.cell? ⟨g, i * 8 + 2, none⟩ = some (.slice A2 xs[i].cols.length c2) ∧ Kd.string.R 9 w b ok (.slice A2 xs[i].cols.length c2) xs[i].cols := by
  obtain ⟨g, cap, hv, _, _, hp⟩ := Kd.R_form h (by omega)
  injection hv with hA _ _; subst hA
  obtain ⟨cs, hl, hM, hc, _⟩ := Kd.R_elem h zRul (i : Int) (by omega) (by omega)
  rw [Int.toNat_natCast, List.getD_eq_getElem?_getD, List.getElem?_eq_getElem hi] at hM
  rw [Int.toNat_natCast] at hc
  obtain ⟨v2, rfl, h2⟩ := kRul_openM hM
  obtain ⟨A2, c2, rfl⟩ := Kd.R_slice h2
  exact ⟨g, A2, c2, rfl, h.1 g rfl, pl_of hp, hc 0 _ rfl, hc 2 _ rfl, Kd.R_mono h2 (fun q hq => hq.1)⟩
theorem ownStr {w : World} {b : Nat} {ok : Nat → Prop} {A : Option Addr} {c : Nat} {xs : List ByteArray} (h : Kd.string.R 9 w b ok (.slice A xs.length c) xs) (i : Nat) (hi : i < xs.length) : ∃ g, A = some ⟨g, 0, none⟩ ∧ ok g ∧ Pl w g ∧ w.cell? ⟨g, i, none⟩ = some (.string xs[i]) := by
  obtain ⟨g, cap, hv, _, _, hp⟩ := Kd.R_form h (by omega)
  injection hv with hA _ _; subst hA
  obtain ⟨cs, hl, hM, hc, _⟩ := Kd.R_elem h ByteArray.empty (i : Int) (by omega) (by omega)
  rw [Int.toNat_natCast, List.getD_eq_getElem?_getD, List.getElem?_eq_getElem hi] at hM
  rw [Int.toNat_natCast] at hc
  obtain rfl : cs = [.string xs[i]] := hM
  have := hc 0 _ rfl
  rw [show i * Kd.string.sz + 0 = i from Nat.mul_one i] at this
  exact ⟨g, rfl, h.1 g rfl, pl_of hp, this⟩
end Go.Proofs.Ytmmiehckgkadgaa.O
