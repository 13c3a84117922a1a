/- Lemmas on memory of one's own: rows of raw cells, copies. -/
import Derived.Test.YtmmiehckgkadgaaOK
import Derived.Test.YtmmiehckgkadgaaWMore
import Derived.WalkSpells
import Derived.WalkLawsBesides
import Derived.Deep.RegionHeld3
import Derived.Laws.EntriesVeiled
namespace Go.Proofs.Ytmmiehckgkadgaa.O
set_option linter.unusedVariables false
set_option linter.unusedSimpArgs false
open Go.RowKit Go.Proofs.YtmmiehckgkadgaaW.PrintWords

/-- v is a row of one's own, made since w, whose elements' cells are just those that stood for xs in w0 -/
def CloneRes {α : Type} (d : Kd α) (e : Nat) (w0 w w' : World) (v : Value) (xs : List α) : Prop := ∃ rows : List (List Value), rows.length = xs.length ∧ (Kd.raw d.sz).R e w' w.heap.size (fun _ => True) v rows ∧ ∀ (j : Nat) (x : α) (c : List Value), xs[j]? = some x → rows[j]? = some c → d.K w0 x c
theorem R_made0 {α : Type} (d : Kd α) (e : Nat) (w : World) : d.R e (w.alloc (.cells #[] e)) w.heap.size (fun _ => True) (.slice (some ⟨w.heap.size, 0, none⟩) 0 0) [] :=
  ⟨fun _ _ => trivial, [], ⟨by simp, .inr ⟨w.heap.size, 0, #[], rfl, Nat.le_refl _, heap_alloc_new w _, Nat.le_refl _, Nat.zero_le _, by simp, by simp⟩⟩, Reps.none _ _⟩
theorem raw_R {α : Type} {d : Kd α} {e base : Nat} {w : World} {ok : Nat → Prop} {v : Value} {rows : List (List Value)} {xs : List α} (h : (Kd.raw d.sz).R e w base ok v rows) (hl : rows.length = xs.length)
    (hM : ∀ (j : Nat) (x : α) (c : List Value), xs[j]? = some x → rows[j]? = some c → d.M w base (fun k => ok k ∧ some k ≠ v.ownBlock) x c) : d.R e w base ok v xs := by
  obtain ⟨h0, inner, ho, hr⟩ := h
  refine ⟨h0, inner, by rw [← hl]; exact ho, by rw [← hl]; exact hr.1, fun j p hj => ?_⟩
  have hjl : j < rows.length := by rw [hl]; exact (List.getElem?_eq_some_iff.1 hj).1
  have hc := List.getElem?_eq_getElem hjl
  have hs := (hr.2 j _ hc).1
  have hm := hM j p _ hj hc
  rw [← hs] at hm
  exact hm
theorem nil_of_none {α : Type} {d : Kd α} {w : World} {n : Nat} {xs : List α} (h : d.C w none n xs) : xs = [] := by
  cases xs with
  | nil => rfl
  | cons a l =>
    obtain ⟨ad, e, _⟩ := h.2.2 (by have := h.1; simp at this; omega)
    cases e
theorem CloneRes_nil {α : Type} (d : Kd α) (e : Nat) (w0 w : World) : CloneRes d e w0 w w (.slice none 0 0) [] := ⟨[], rfl, Kd.R_nil _ _ _ _ _, fun j x c h => by simp at h⟩
theorem CloneRes_flat {α : Type} {d : Kd α} {e : Nat} {w0 w w' : World} {v : Value} {xs : List α} (h : CloneRes d e w0 w w' v xs) (hM : ∀ ok x c, d.K w0 x c → d.M w' w.heap.size ok x c) : d.R e w' w.heap.size (fun _ => True) v xs := by
  obtain ⟨rows, hl, hr, hk⟩ := h
  exact raw_R hr hl (fun j x c hx hc => hM _ _ _ (hk j x c hx hc))
theorem flatStr (w w' : World) (b : Nat) : ∀ ok x c, Kd.string.K w x c → Kd.string.M w' b ok x c := fun _ _ _ h => h
theorem flatCol (w w' : World) (b : Nat) : ∀ ok x c, kCol.K w x c → kCol.M w' b ok x c := fun ok x c h => by rw [kCol_open h]; exact kCol_mkM _ _ _ _
theorem flatSch (w w' : World) (b : Nat) : ∀ ok x c, kSch.K w x c → kSch.M w' b ok x c := fun ok x c h => by rw [kSch_open h]; exact kSch_mkM _ _ _ _
theorem CloneRes_slice {α : Type} {d : Kd α} {e : Nat} {w0 w w' : World} {v : Value} {xs : List α} (h : CloneRes d e w0 w w' v xs) : ∃ A c, v = .slice A xs.length c := by
  obtain ⟨rows, hl, hr, _⟩ := h
  obtain ⟨A, c, e⟩ := Kd.R_slice hr
  exact ⟨A, c, by rw [e, hl]⟩
theorem R_only {α : Type} {d : Kd α} {e base g t : Nat} {W W' : World} {ok : Nat → Prop} {v : Value} {xs : List α} {cs : Array Value} (h : d.R e W base ok v xs) (hz : W.heap[g]? = some (.cells cs t (0, 0))) (ht : ∀ q, q ∈ e :: d.E → q ≠ t) (hk : ∀ k, k ≠ g → W'.heap[k]? = W.heap[k]?) : d.R e W' base ok v xs :=
  Kd.R_mono (Kd.R_step (Kd.R_types h hz ht) (fun k ho _ => hk k ho.2)) (fun _ hq => hq.1)
theorem S_only {α : Type} {d : Kd α} {e base g t : Nat} {W W' : World} {ok : Nat → Prop} {v : Value} {xs : List α} {cs : Array Value} (h : Kd.S d e W base ok v xs) (hz : W.heap[g]? = some (.cells cs t (0, 0))) (ht : ∀ q, q ∈ e :: d.E → q ≠ t) (hk : ∀ k, k ≠ g → W'.heap[k]? = W.heap[k]?) : Kd.S d e W' base ok v xs :=
  Kd.S_mono (Kd.S_step (Kd.S_types h hz ht) (fun k ho _ => hk k ho.2)) (fun _ hq => hq.1)
theorem set2_far (W : World) (g : Nat) (a b : Value) : ∀ k, k ≠ g → ((W.setCell ⟨g, 0, none⟩ a).setCell ⟨g, 1, none⟩ b).heap[k]? = W.heap[k]? := fun k hk => by
  rw [Below.heap_setCell _ _ _ k hk, Below.heap_setCell _ _ _ k hk]
theorem set5_far (W : World) (g : Nat) (a b c d e : Value) : ∀ k, k ≠ g → (((((W.setCell ⟨g, 0, none⟩ a).setCell ⟨g, 1, none⟩ b).setCell ⟨g, 2, none⟩ c).setCell ⟨g, 3, none⟩ d).setCell ⟨g, 4, none⟩ e).heap[k]? = W.heap[k]? := fun k hk => by
  rw [Below.heap_setCell _ _ _ k hk, Below.heap_setCell _ _ _ k hk, Below.heap_setCell _ _ _ k hk, Below.heap_setCell _ _ _ k hk, Below.heap_setCell _ _ _ k hk]
theorem set2_below {w W : World} {g : Nat} (h : Below w.heap.size w W) (hg : w.heap.size ≤ g) (a b : Value) : Below w.heap.size w ((W.setCell ⟨g, 0, none⟩ a).setCell ⟨g, 1, none⟩ b) := below_set (below_set h hg) hg
theorem set5_below {w W : World} {g : Nat} (h : Below w.heap.size w W) (hg : w.heap.size ≤ g) (a b c d e : Value) : Below w.heap.size w (((((W.setCell ⟨g, 0, none⟩ a).setCell ⟨g, 1, none⟩ b).setCell ⟨g, 2, none⟩ c).setCell ⟨g, 3, none⟩ d).setCell ⟨g, 4, none⟩ e) :=
  below_set (below_set (below_set (below_set (below_set h hg) hg) hg) hg) hg
theorem boxes1 (w : World) (o1 : Obj) : Below w.heap.size w (w.alloc o1) ∧ (w.alloc o1).heap[w.heap.size]? = some o1 := ⟨below_alloc (Below.refl _ _) _, blk_new w _⟩
theorem boxes2 (w : World) (o1 o2 : Obj) : Below w.heap.size w ((w.alloc o1).alloc o2) ∧ ((w.alloc o1).alloc o2).heap[w.heap.size]? = some o1 ∧ ((w.alloc o1).alloc o2).heap[w.heap.size + 1]? = some o2 :=
  ⟨below_alloc (below_alloc (Below.refl _ _) _) _, blk_alloc (blk_new w _) _, by have := blk_new (w.alloc o1) o2; rwa [show (w.alloc o1).heap.size = w.heap.size + 1 from by simp] at this⟩
theorem ne_succ (n : Nat) : n ≠ n + 1 := by omega
theorem succ_ne (n : Nat) : n + 1 ≠ n := by omega
end Go.Proofs.Ytmmiehckgkadgaa.O
