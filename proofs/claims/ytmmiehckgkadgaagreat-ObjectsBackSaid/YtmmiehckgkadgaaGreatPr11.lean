/- Own lemmas and walks (G1), without what the law does not need. Laid by a program of this session (prune.py). -/
import Derived.WalkSpells
import Derived.WalkLawsBesides
import Derived.Deep.RegionHeld3
import Derived.Laws.EntriesVeiled
import Derived.Deep.RegionLaw
import Derived.BigQuiet
import Derived.Deep.QuietTactic
import Derived.Test.YtmmiehckgkadgaaGreatPr0
import Derived.Test.YtmmiehckgkadgaaGreatPr1
import Derived.Test.YtmmiehckgkadgaaGreatPr2
import Derived.Test.YtmmiehckgkadgaaGreatPr7
namespace Go.Proofs.YtmmiehckgkadgaaGreat.O
set_option linter.unusedVariables false
set_option linter.unusedSimpArgs false
open Go.RowKit Go.Proofs.YtmmiehckgkadgaaGreatW.PrintWords
def CloneRes {α : Type} (d : Kd α) (e : Nat) (w0 w w' : World) (v : Value) (xs : List α) : Prop := ∃ rows : List (List Value), rows.length = xs.length ∧ (Kd.raw d.sz).R e w' w.heap.size (fun _ => True) v rows ∧ ∀ (j : Nat) (x : α) (c : List Value), xs[j]? = some x → rows[j]? = some c → d.K w0 x c
theorem R_made0 {α : Type} (d : Kd α) (e : Nat) (w : World) : d.R e (w.alloc (.cells #[] e)) w.heap.size (fun _ => True) (.slice (some ⟨w.heap.size, 0, none⟩) 0 0) [] :=
  ⟨fun _ _ => trivial, [], ⟨by simp, .inr ⟨w.heap.size, 0, #[], rfl, Nat.le_refl _, heap_alloc_new w _, Nat.le_refl _, Nat.zero_le _, by simp, by simp⟩⟩, Reps.none _ _⟩
theorem raw_R {α : Type} {d : Kd α} {e base : Nat} {w : World} {ok : Nat → Prop} {v : Value} {rows : List (List Value)} {xs : List α} (h : (Kd.raw d.sz).R e w base ok v rows) (hl : rows.length = xs.length)
    (hM : ∀ (j : Nat) (x : α) (c : List Value), xs[j]? = some x → rows[j]? = some c → d.M w base (fun k => ok k ∧ some k ≠ v.ownBlock) x c) : d.R e w base ok v xs := by
  obtain ⟨h0, inner, ho, hr⟩ := h
  refine ⟨h0, inner, by rw [← hl]; exact ho, by rw [← hl]; exact hr.1, fun j p hj => ?_⟩
  have hjl : j < rows.length := by rw [hl]; exact (List.getElem?_eq_some_iff.1 hj).1
  have hc := List.getElem?_eq_getElem hjl
  have hs := (hr.2 j _ hc).1
  have hm := hM j p _ hj hc
  rw [← hs] at hm
  exact hm
theorem nil_of_none {α : Type} {d : Kd α} {w : World} {n : Nat} {xs : List α} (h : d.C w none n xs) : xs = [] := by
  cases xs with
  | nil => rfl
  | cons a l =>
    obtain ⟨ad, e, _⟩ := h.2.2 (by have := h.1; simp at this; omega)
    cases e
theorem CloneRes_nil {α : Type} (d : Kd α) (e : Nat) (w0 w : World) : CloneRes d e w0 w w (.slice none 0 0) [] := ⟨[], rfl, Kd.R_nil _ _ _ _ _, fun j x c h => by simp at h⟩
theorem CloneRes_flat {α : Type} {d : Kd α} {e : Nat} {w0 w w' : World} {v : Value} {xs : List α} (h : CloneRes d e w0 w w' v xs) (hM : ∀ ok x c, d.K w0 x c → d.M w' w.heap.size ok x c) : d.R e w' w.heap.size (fun _ => True) v xs := by
  obtain ⟨rows, hl, hr, hk⟩ := h
  exact raw_R hr hl (fun j x c hx hc => hM _ _ _ (hk j x c hx hc))
theorem flatStr (w w' : World) (b : Nat) : ∀ ok x c, Kd.string.K w x c → Kd.string.M w' b ok x c := fun _ _ _ h => h
theorem flatCol (w w' : World) (b : Nat) : ∀ ok x c, kCol.K w x c → kCol.M w' b ok x c := fun ok x c h => by rw [kCol_open h]; exact kCol_mkM _ _ _ _
theorem flatSch (w w' : World) (b : Nat) : ∀ ok x c, kSch.K w x c → kSch.M w' b ok x c := fun ok x c h => by rw [kSch_open h]; exact kSch_mkM _ _ _ _
theorem CloneRes_slice {α : Type} {d : Kd α} {e : Nat} {w0 w w' : World} {v : Value} {xs : List α} (h : CloneRes d e w0 w w' v xs) : ∃ A c, v = .slice A xs.length c := by
  obtain ⟨rows, hl, hr, _⟩ := h
  obtain ⟨A, c, e⟩ := Kd.R_slice hr
  exact ⟨A, c, by rw [e, hl]⟩
theorem R_only {α : Type} {d : Kd α} {e base g t : Nat} {W W' : World} {ok : Nat → Prop} {v : Value} {xs : List α} {cs : Array Value} (h : d.R e W base ok v xs) (hz : W.heap[g]? = some (.cells cs t (0, 0))) (ht : ∀ q, q ∈ e :: d.E → q ≠ t) (hk : ∀ k, k ≠ g → W'.heap[k]? = W.heap[k]?) : d.R e W' base ok v xs :=
  Kd.R_mono (Kd.R_step (Kd.R_types h hz ht) (fun k ho _ => hk k ho.2)) (fun _ hq => hq.1)
theorem S_only {α : Type} {d : Kd α} {e base g t : Nat} {W W' : World} {ok : Nat → Prop} {v : Value} {xs : List α} {cs : Array Value} (h : Kd.S d e W base ok v xs) (hz : W.heap[g]? = some (.cells cs t (0, 0))) (ht : ∀ q, q ∈ e :: d.E → q ≠ t) (hk : ∀ k, k ≠ g → W'.heap[k]? = W.heap[k]?) : Kd.S d e W' base ok v xs :=
  Kd.S_mono (Kd.S_step (Kd.S_types h hz ht) (fun k ho _ => hk k ho.2)) (fun _ hq => hq.1)
theorem set2_far (W : World) (g : Nat) (a b : Value) : ∀ k, k ≠ g → ((W.setCell ⟨g, 0, none⟩ a).setCell ⟨g, 1, none⟩ b).heap[k]? = W.heap[k]? := fun k hk => by
  rw [Below.heap_setCell _ _ _ k hk, Below.heap_setCell _ _ _ k hk]
theorem set5_far (W : World) (g : Nat) (a b c d e : Value) : ∀ k, k ≠ g → (((((W.setCell ⟨g, 0, none⟩ a).setCell ⟨g, 1, none⟩ b).setCell ⟨g, 2, none⟩ c).setCell ⟨g, 3, none⟩ d).setCell ⟨g, 4, none⟩ e).heap[k]? = W.heap[k]? := fun k hk => by
  rw [Below.heap_setCell _ _ _ k hk, Below.heap_setCell _ _ _ k hk, Below.heap_setCell _ _ _ k hk, Below.heap_setCell _ _ _ k hk, Below.heap_setCell _ _ _ k hk]
theorem set2_below {w W : World} {g : Nat} (h : Below w.heap.size w W) (hg : w.heap.size ≤ g) (a b : Value) : Below w.heap.size w ((W.setCell ⟨g, 0, none⟩ a).setCell ⟨g, 1, none⟩ b) := below_set (below_set h hg) hg
theorem set5_below {w W : World} {g : Nat} (h : Below w.heap.size w W) (hg : w.heap.size ≤ g) (a b c d e : Value) : Below w.heap.size w (((((W.setCell ⟨g, 0, none⟩ a).setCell ⟨g, 1, none⟩ b).setCell ⟨g, 2, none⟩ c).setCell ⟨g, 3, none⟩ d).setCell ⟨g, 4, none⟩ e) :=
  below_set (below_set (below_set (below_set (below_set h hg) hg) hg) hg) hg
theorem boxes1 (w : World) (o1 : Obj) : Below w.heap.size w (w.alloc o1) ∧ (w.alloc o1).heap[w.heap.size]? = some o1 := ⟨below_alloc (Below.refl _ _) _, blk_new w _⟩
theorem boxes2 (w : World) (o1 o2 : Obj) : Below w.heap.size w ((w.alloc o1).alloc o2) ∧ ((w.alloc o1).alloc o2).heap[w.heap.size]? = some o1 ∧ ((w.alloc o1).alloc o2).heap[w.heap.size + 1]? = some o2 :=
  ⟨below_alloc (below_alloc (Below.refl _ _) _) _, blk_alloc (blk_new w _) _, by have := blk_new (w.alloc o1) o2; rwa [show (w.alloc o1).heap.size = w.heap.size + 1 from by simp] at this⟩
theorem ne_succ (n : Nat) : n ≠ n + 1 := by omega
theorem succ_ne (n : Nat) : n + 1 ≠ n := by omega
end Go.Proofs.YtmmiehckgkadgaaGreat.O
namespace Go.Proofs.YtmmiehckgkadgaaGreat.O
set_option linter.unusedVariables false
set_option linter.unusedSimpArgs false
open Go.RowKit Go.Proofs.YtmmiehckgkadgaaGreatW.PrintWords
set_option maxRecDepth 20000 in
set_option maxHeartbeats 1000000 in
theorem cloneStr.raw {A0 : Option Addr} {c0 : Nat} (xs : List ByteArray) (w0 w : World) (hb0 : Below w0.heap.size w0 w) (hr : Kd.string.C w0 A0 xs.length xs) (hl : xs.length ≤ 8796093022207) :
    Calls Tryz.prog 32 #[.slice A0 xs.length c0] w fun e w' => ∃ v, e = .returned v ∧ CloneRes Kd.string 9 w0 w w' v xs ∧ Below w.heap.size w w' := by
  have HR := Aside0.mk hr
  have HL := Aside0.mk hl
  have HB0 := Aside0.mk hb0
  clear hr hl hb0
  cases A0 with
  | none =>
    have hx := nil_of_none HR.out
    subst hx
    have hn := Lib.run_eql_slice_nil (P := Tryz.prog) w 27 9 none 0 c0 0 0 Tryz.underlying27
    go_enter Tryz.func32, Tryz.ntmps32
    go_wp2
    go_ret
    exact ⟨_, rfl, CloneRes_nil _ _ _ _, Below.refl _ _⟩
  | some ad =>
    have hn := Lib.run_eql_slice_nil (P := Tryz.prog) w 27 9 (some ad) xs.length c0 0 0 Tryz.underlying27
    have HB := Aside0.mk (below_alloc (Below.refl w.heap.size w) (.cells #[] 9))
    obtain ⟨news, hnl, hnr0, hnf⟩ := Kd.reads_raw HR.out (fun x c hk => ⟨Kd.string.K_len hk, Kd.string.K_one hk⟩)
    have hnr := ReadsRow.imp_ hnr0 (below_step HB0.out HB.out) (fun _ _ h => h)
    clear hnr0
    have HN := Aside0.mk (And.intro hnl (And.intro hnr hnf))
    clear hnl hnr hnf
    go_enter Tryz.func32, Tryz.ntmps32
    go_wp2_with ((at_builtin; refine Kd.R_append_rows (Kd.raw Kd.string.sz) (w0 := w) w.heap.size rfl (.tmp 5) (.tmp 6) 27 9 (.string ⟨#[]⟩) 16 rfl Tryz.underlying27 infoStr rfl (by decide) (by decide) (.slice (some ⟨w.heap.size, 0, none⟩) 0 0) [] news (some ad) xs.length c0 (fun _ => True) (fun _ => False) rfl rfl (R_made0 _ _ _) HN.out.2.1 (fun _ _ hk => hk) (fun _ hk => hk.elim) (fun _ _ => trivial) HB.out (by simp) (by have := HL.out; simp; omega) ?_; intro v1 w1 hR1 hB1 _ _))
    go_ret
    exact ⟨_, rfl, ⟨news, HN.out.1, hR1, HN.out.2.2⟩, hB1⟩
set_option maxRecDepth 20000 in
set_option maxHeartbeats 1000000 in
theorem cloneCol.raw {A0 : Option Addr} {c0 : Nat} (xs : List Col) (w0 w : World) (hb0 : Below w0.heap.size w0 w) (hr : kCol.C w0 A0 xs.length xs) (hl : xs.length ≤ 4398046511103) :
    Calls Tryz.prog 107 #[.slice A0 xs.length c0] w fun e w' => ∃ v, e = .returned v ∧ CloneRes kCol 41 w0 w w' v xs ∧ Below w.heap.size w w' := by
  have HR := Aside0.mk hr
  have HL := Aside0.mk hl
  have HB0 := Aside0.mk hb0
  clear hr hl hb0
  cases A0 with
  | none =>
    have hx := nil_of_none HR.out
    subst hx
    have hn := Lib.run_eql_slice_nil (P := Tryz.prog) w 47 41 none 0 c0 0 0 Tryz.underlying47
    go_enter Tryz.func107, Tryz.ntmps107
    go_wp2
    go_ret
    exact ⟨_, rfl, CloneRes_nil _ _ _ _, Below.refl _ _⟩
  | some ad =>
    have hn := Lib.run_eql_slice_nil (P := Tryz.prog) w 47 41 (some ad) xs.length c0 0 0 Tryz.underlying47
    have HB := Aside0.mk (below_alloc (Below.refl w.heap.size w) (.cells #[] 41))
    obtain ⟨news, hnl, hnr0, hnf⟩ := Kd.reads_raw HR.out (fun x c hk => ⟨kCol.K_len hk, kCol.K_one hk⟩)
    have hnr := ReadsRow.imp_ hnr0 (below_step HB0.out HB.out) (fun _ _ h => h)
    clear hnr0
    have HN := Aside0.mk (And.intro hnl (And.intro hnr hnf))
    clear hnl hnr hnf
    go_enter Tryz.func107, Tryz.ntmps107
    go_wp2_with ((at_builtin; refine Kd.R_append_rows (Kd.raw kCol.sz) (w0 := w) w.heap.size rfl (.tmp 5) (.tmp 6) 47 41 (.agg #[(.string ⟨#[]⟩), (.int .i64 0), (.bool false)]) 32 rfl Tryz.underlying47 infoCol rfl (by decide) (by decide) (.slice (some ⟨w.heap.size, 0, none⟩) 0 0) [] news (some ad) xs.length c0 (fun _ => True) (fun _ => False) rfl rfl (R_made0 _ _ _) HN.out.2.1 (fun _ _ hk => hk) (fun _ hk => hk.elim) (fun _ _ => trivial) HB.out (by simp) (by have := HL.out; simp; omega) ?_; intro v1 w1 hR1 hB1 _ _))
    go_ret
    exact ⟨_, rfl, ⟨news, HN.out.1, hR1, HN.out.2.2⟩, hB1⟩
set_option maxRecDepth 20000 in
set_option maxHeartbeats 1000000 in
theorem cloneRul.raw {A0 : Option Addr} {c0 : Nat} (xs : List Rul) (w0 w : World) (hb0 : Below w0.heap.size w0 w) (hr : kRul.C w0 A0 xs.length xs) (hl : xs.length ≤ 1256584717457) :
    Calls Tryz.prog 108 #[.slice A0 xs.length c0] w fun e w' => ∃ v, e = .returned v ∧ CloneRes kRul 29 w0 w w' v xs ∧ Below w.heap.size w w' := by
  have HR := Aside0.mk hr
  have HL := Aside0.mk hl
  have HB0 := Aside0.mk hb0
  clear hr hl hb0
  cases A0 with
  | none =>
    have hx := nil_of_none HR.out
    subst hx
    have hn := Lib.run_eql_slice_nil (P := Tryz.prog) w 48 29 none 0 c0 0 0 Tryz.underlying48
    go_enter Tryz.func108, Tryz.ntmps108
    go_wp2
    go_ret
    exact ⟨_, rfl, CloneRes_nil _ _ _ _, Below.refl _ _⟩
  | some ad =>
    have hn := Lib.run_eql_slice_nil (P := Tryz.prog) w 48 29 (some ad) xs.length c0 0 0 Tryz.underlying48
    have HB := Aside0.mk (below_alloc (Below.refl w.heap.size w) (.cells #[] 29))
    obtain ⟨news, hnl, hnr0, hnf⟩ := Kd.reads_raw HR.out (fun x c hk => ⟨kRul.K_len hk, kRul.K_one hk⟩)
    have hnr := ReadsRow.imp_ hnr0 (below_step HB0.out HB.out) (fun _ _ h => h)
    clear hnr0
    have HN := Aside0.mk (And.intro hnl (And.intro hnr hnf))
    clear hnl hnr hnf
    go_enter Tryz.func108, Tryz.ntmps108
    go_wp2_with ((at_builtin; refine Kd.R_append_rows (Kd.raw kRul.sz) (w0 := w) w.heap.size rfl (.tmp 5) (.tmp 6) 48 29 (.agg #[(.string ⟨#[]⟩), (.int .i64 0), (.slice none 0 0), (.int .i64 0), (.int .i64 0), (.string ⟨#[]⟩), (.string ⟨#[]⟩), (.string ⟨#[]⟩)]) 112 rfl Tryz.underlying48 infoRul rfl (by decide) (by decide) (.slice (some ⟨w.heap.size, 0, none⟩) 0 0) [] news (some ad) xs.length c0 (fun _ => True) (fun _ => False) rfl rfl (R_made0 _ _ _) HN.out.2.1 (fun _ _ hk => hk) (fun _ hk => hk.elim) (fun _ _ => trivial) HB.out (by simp) (by have := HL.out; simp; omega) ?_; intro v1 w1 hR1 hB1 _ _))
    go_ret
    exact ⟨_, rfl, ⟨news, HN.out.1, hR1, HN.out.2.2⟩, hB1⟩
set_option maxRecDepth 20000 in
set_option maxHeartbeats 1000000 in
theorem cloneSch.raw {A0 : Option Addr} {c0 : Nat} (xs : List Sch) (w0 w : World) (hb0 : Below w0.heap.size w0 w) (hr : kSch.C w0 A0 xs.length xs) (hl : xs.length ≤ 4398046511103) :
    Calls Tryz.prog 124 #[.slice A0 xs.length c0] w fun e w' => ∃ v, e = .returned v ∧ CloneRes kSch 76 w0 w w' v xs ∧ Below w.heap.size w w' := by
  have HR := Aside0.mk hr
  have HL := Aside0.mk hl
  have HB0 := Aside0.mk hb0
  clear hr hl hb0
  cases A0 with
  | none =>
    have hx := nil_of_none HR.out
    subst hx
    have hn := Lib.run_eql_slice_nil (P := Tryz.prog) w 22 76 none 0 c0 0 0 Tryz.underlying22
    go_enter Tryz.func124, Tryz.ntmps124
    go_wp2
    go_ret
    exact ⟨_, rfl, CloneRes_nil _ _ _ _, Below.refl _ _⟩
  | some ad =>
    have hn := Lib.run_eql_slice_nil (P := Tryz.prog) w 22 76 (some ad) xs.length c0 0 0 Tryz.underlying22
    have HB := Aside0.mk (below_alloc (Below.refl w.heap.size w) (.cells #[] 76))
    obtain ⟨news, hnl, hnr0, hnf⟩ := Kd.reads_raw HR.out (fun x c hk => ⟨kSch.K_len hk, kSch.K_one hk⟩)
    have hnr := ReadsRow.imp_ hnr0 (below_step HB0.out HB.out) (fun _ _ h => h)
    clear hnr0
    have HN := Aside0.mk (And.intro hnl (And.intro hnr hnf))
    clear hnl hnr hnf
    go_enter Tryz.func124, Tryz.ntmps124
    go_wp2_with ((at_builtin; refine Kd.R_append_rows (Kd.raw kSch.sz) (w0 := w) w.heap.size rfl (.tmp 5) (.tmp 6) 22 76 (.agg #[(.string ⟨#[]⟩), (.string ⟨#[]⟩)]) 32 rfl Tryz.underlying22 infoSch rfl (by decide) (by decide) (.slice (some ⟨w.heap.size, 0, none⟩) 0 0) [] news (some ad) xs.length c0 (fun _ => True) (fun _ => False) rfl rfl (R_made0 _ _ _) HN.out.2.1 (fun _ _ hk => hk) (fun _ hk => hk.elim) (fun _ _ => trivial) HB.out (by simp) (by have := HL.out; simp; omega) ?_; intro v1 w1 hR1 hB1 _ _))
    go_ret
    exact ⟨_, rfl, ⟨news, HN.out.1, hR1, HN.out.2.2⟩, hB1⟩
end Go.Proofs.YtmmiehckgkadgaaGreat.O
namespace Go.Proofs.YtmmiehckgkadgaaGreat.O
set_option linter.unusedVariables false
set_option linter.unusedSimpArgs false
open Go.RowKit Go.Proofs.YtmmiehckgkadgaaGreatW.PrintWords
def RulB (r : Rul) : Prop := r.cols.length ≤ 3000
def TabB (t : Tab) : Prop := t.cols.length ≤ 3000 ∧ t.rules.length ≤ 3000 ∧ ∀ r ∈ t.rules, RulB r
def tabC (t : Tab) (v3 v4 : Value) : Array Value := #[.string t.schema, .string t.name, .string t.owner, v3, v4]
def RowsTo (w W : World) (b : Nat) (v : Value) (xs : List Rul) (k : Nat) : Prop := ∃ rows : List (List Value), rows.length = xs.length ∧ (Kd.raw 8).R 29 W b (fun _ => True) v rows ∧
  ∀ (j : Nat) (x : Rul) (c : List Value), xs[j]? = some x → rows[j]? = some c → (j < k → kRul.M W b (fun q => some q ≠ v.ownBlock) x c) ∧ (k ≤ j → kRul.K w x c)
theorem RowsTo.start {w0 w W : World} {v : Value} {xs : List Rul} (h : CloneRes kRul 29 w0 w W v xs) (b : Nat) (hb : b ≤ w.heap.size) : RowsTo w0 W b v xs 0 := by
  obtain ⟨rows, hl, hR, hE⟩ := h
  exact ⟨rows, hl, Kd.R_lower hR hb, fun j x c hx hc => ⟨fun hj => absurd hj (Nat.not_lt_zero _), fun _ => hE j x c hx hc⟩⟩
theorem RowsTo.below {w W W1 : World} {b : Nat} {v : Value} {xs : List Rul} {k : Nat} (h : RowsTo w W b v xs k) (hb : Below W.heap.size W W1) : RowsTo w W1 b v xs k := by
  obtain ⟨rows, hl, hR, hE⟩ := h
  exact ⟨rows, hl, Kd.R_below hR hb, fun j x c hx hc => ⟨fun hj => Kd.M_below ((hE j x c hx hc).1 hj) hb, (hE j x c hx hc).2⟩⟩
theorem RowsTo.set {w W : World} {b : Nat} {v : Value} {xs : List Rul} {k : Nat} (h : RowsTo w W b v xs k) {g t : Nat} {cells : Array Value} (hg : W.heap[g]? = some (.cells cells t (0, 0))) (ht : ∀ q, q ∈ [29, 9] → q ≠ t) (j : Nat) (u : Value) : RowsTo w (W.setCell ⟨g, j, none⟩ u) b v xs k := by
  obtain ⟨rows, hl, hR, hE⟩ := h
  exact ⟨rows, hl, Kd.R_set hR hg (fun q hq => ht q (by simp [Kd.raw] at hq; simp [hq])) j u, fun i x c hx hc => ⟨fun hj => kRul.M_mono (fun q hq => hq.1) (Kd.M_far (p := ⟨g, j, none⟩) (Kd.M_types ((hE i x c hx hc).1 hj) hg (fun q hq => ht q (List.mem_cons_of_mem _ hq))) (fun _ hk => hk.2) u), (hE i x c hx hc).2⟩⟩
theorem RowsTo.done {w W : World} {b : Nat} {v : Value} {xs : List Rul} (h : RowsTo w W b v xs xs.length) : kRul.R 29 W b (fun _ => True) v xs := by
  obtain ⟨rows, hl, hR, hE⟩ := h
  exact raw_R (d := kRul) hR hl (fun j x c hx hc => kRul.M_mono (fun q hq => ⟨trivial, hq⟩) ((hE j x c hx hc).1 (List.getElem?_eq_some_iff.1 hx).1))
theorem RowsTo.at_ {w W : World} {b : Nat} {v : Value} {xs : List Rul} {k : Nat} (h : RowsTo w W b v xs k) (hk : k < xs.length) : ∃ (g cap : Nat) (A2 : Option Addr) (c2 : Nat), v = .slice (some ⟨g, 0, none⟩) xs.length cap ∧ b ≤ g ∧ (∃ cells, W.heap[g]? = some (.cells cells 29 (0, 0))) ∧
    W.cell? ⟨g, k * 8 + 2, none⟩ = some (.slice A2 xs[k].cols.length c2) ∧ W.frozen? ⟨g, k * 8 + 2, none⟩ = false ∧ Kd.string.C w A2 xs[k].cols.length xs[k].cols := by
  obtain ⟨rows, hl, hR, hE⟩ := h
  obtain ⟨g, cap, rfl, hb, _, hcs⟩ := Kd.R_form hR (by omega)
  obtain ⟨c, hcl, hM, hc, hf⟩ := Kd.R_elem hR ([] : List Value) (k : Int) (by omega) (by omega)
  have hkr : k < rows.length := by omega
  have hrk := List.getElem?_eq_getElem hkr
  have hck : c = rows[k] := by
    have h1 : c = rows.getD (k : Int).toNat [] := hM.1
    rw [h1, Int.toNat_natCast, List.getD_eq_getElem?_getD, hrk]; rfl
  obtain ⟨A2, c2, ho, hl2, hC⟩ := kRul_open ((hE k xs[k] rows[k] (List.getElem?_eq_getElem hk) hrk).2 (Nat.le_refl _))
  refine ⟨g, cap, A2, c2, by rw [hl], hb, hcs, ?_, ?_, hC⟩
  · have := hc 2 (.slice A2 xs[k].cols.length c2) (by rw [hck, ho]; rfl)
    exact this
  · exact hf 2
theorem RowsTo.next {w W W1 : World} {b g cap k : Nat} {xs : List Rul} {u : Value} (h : RowsTo w W b (.slice (some ⟨g, 0, none⟩) xs.length cap) xs k) (hk : k < xs.length) (hb : Below W.heap.size W W1) (hbW : b ≤ W.heap.size)
    (hu : Kd.string.R 9 W1 W.heap.size (fun _ => True) u xs[k].cols) : RowsTo w (W1.setCell ⟨g, k * 8 + 2, none⟩ u) b (.slice (some ⟨g, 0, none⟩) xs.length cap) xs (k + 1) := by
  obtain ⟨rows, hl, hR, hE⟩ := h
  have hR1 := Kd.R_below hR hb
  obtain ⟨c, hcl, hM, hc, hf⟩ := Kd.R_elem hR1 ([] : List Value) (k : Int) (by omega) (by omega)
  obtain ⟨cells, hg⟩ := Kd.R_typed hR1 g rfl
  have hkr : k < rows.length := by omega
  have hrk := List.getElem?_eq_getElem hkr
  have hck : c = rows[k] := by
    have h1 : c = rows.getD (k : Int).toNat [] := hM.1
    rw [h1, Int.toNat_natCast, List.getD_eq_getElem?_getD, hrk]; rfl
  obtain ⟨A2, c2, ho, hl2, hC⟩ := kRul_open ((hE k xs[k] rows[k] (List.getElem?_eq_getElem hk) hrk).2 (Nat.le_refl _))
  have hco := hck.trans ho
  obtain ⟨B, d, rfl⟩ := Kd.R_slice hu
  have hs := Kd.R_seg hR1 (k : Int) (by omega) (by omega) hcl hc (j := 2) (seg := [.slice B xs[k].cols.length d]) (x' := [.string xs[k].name, .int .i64 xs[k].kind, .slice B xs[k].cols.length d, .int .i64 xs[k].low, .int .i64 xs[k].high, .string xs[k].schema, .string xs[k].table, .string xs[k].key]) (okp := fun _ => False) (Nat.le_of_ble_eq_true rfl)
    (by rw [hco]; exact ⟨rfl, rfl, by simp [Value.oneCell']⟩) (fun _ hk => hk.elim)
  rw [Int.toNat_natCast] at hs
  have hR2 : (Kd.raw 8).R 29 (W1.setCell ⟨g, k * 8 + 2, none⟩ (.slice B xs[k].cols.length d)) b (fun _ => True) (.slice (some ⟨g, 0, none⟩) xs.length cap) (rows.set k _) := hs.1
  refine ⟨_, by rw [List.length_set]; exact hl, hR2, fun j x c hx hc => ?_⟩
  have hjl := (List.getElem?_eq_some_iff.1 hx).1
  by_cases hjk : j = k
  · subst hjk
    rw [List.getElem?_set_self hkr] at hc
    injection hc with hc
    subst hc
    have hxk : xs[j] = x := by rw [List.getElem?_eq_getElem hjl] at hx; injection hx
    subst hxk
    refine ⟨fun _ => kRul_mkM _ _ _ _ ?_, fun hj => by omega⟩
    exact Kd.R_mono (Kd.R_far (p := ⟨g, j * 8 + 2, none⟩) (Kd.R_types (Kd.R_lower hu hbW) hg (by decide)) (fun _ hq => hq.2) _) (fun q hq => fun he => hq.2 (by injection he))
  · rw [List.getElem?_set_ne (Ne.symm hjk)] at hc
    obtain ⟨h1, h2⟩ := hE j x c hx hc
    exact ⟨fun hj => kRul.M_mono (fun q hq => hq.1) (Kd.M_far (p := ⟨g, k * 8 + 2, none⟩) (Kd.M_types (Kd.M_below (h1 (by omega)) hb) hg (by decide)) (fun _ hk => hk.2) _), fun hj => h2 (by omega)⟩
def CopI (t : Tab) (w : World) (B3 : Option Addr) (d3 : Nat) (B4 : Option Addr) (d4 : Nat) (W : World) (k : Nat) : Prop :=
  Below w.heap.size w W ∧ W.heap[w.heap.size]? = some (.cells (tabC t (.slice B3 t.cols.length d3) (.slice B4 t.rules.length d4)) 50 (0, 0)) ∧ W.heap[w.heap.size + 1]? = some (.cells (tabC zTab (.slice none 0 0) (.slice none 0 0)) 50 (0, 0)) ∧
      kCol.R 41 W w.heap.size (fun _ => True) (.slice B3 t.cols.length d3) t.cols ∧ RowsTo w W w.heap.size (.slice B4 t.rules.length d4) t.rules k
theorem CopI.next {t : Tab} {w W w1 : World} {B3 B : Option Addr} {d3 d4 d k g : Nat} (h : CopI t w B3 d3 (some ⟨g, 0, none⟩) d4 W k) (hlt : k < t.rules.length) (hg : w.heap.size ≤ g) (hcs : ∃ cells, W.heap[g]? = some (.cells cells 29 (0, 0)))
    (hv : CloneRes Kd.string 9 w W.drew w1 (.slice B t.rules[k].cols.length d) t.rules[k].cols) (hb' : Below W.drew.heap.size W.drew w1) : CopI t w B3 d3 (some ⟨g, 0, none⟩) d4 (w1.setCell ⟨g, k * 8 + 2, none⟩ (.slice B t.rules[k].cols.length d)) (k + 1) := by
  obtain ⟨hB, hK, hZ, hR, hW⟩ := h
  obtain ⟨cells, hc⟩ := hcs
  have hb : Below W.heap.size W w1 := below_step (below_drew (Below.refl _ _)) hb'
  have hc1 := blk_below hc hb
  have hn1 := blk_ne (blk_below hK hb) hc1 (by decide)
  have hn2 := blk_ne (blk_below hZ hb) hc1 (by decide)
  exact ⟨below_set (below_step hB hb) hg, blk_far (p := ⟨g, k * 8 + 2, none⟩) (blk_below hK hb) hn1 _, blk_far (p := ⟨g, k * 8 + 2, none⟩) (blk_below hZ hb) hn2 _, Kd.R_set (Kd.R_below hR hb) hc1 (by decide) _ _,
    RowsTo.next hW hlt hb hB.size (CloneRes_flat hv (flatStr _ _ _))⟩
set_option maxRecDepth 20000 in
set_option maxHeartbeats 2000000 in
theorem copied.calls (t : Tab) {A3 A4 : Option Addr} {c3 c4 : Nat} (w : World) (h3 : kCol.C w A3 t.cols.length t.cols) (h4 : kRul.C w A4 t.rules.length t.rules) (hF : TabB t) :
    Calls Tryz.prog 77 #[.agg #[.string t.schema, .string t.name, .string t.owner, .slice A3 t.cols.length c3, .slice A4 t.rules.length c4]] w fun e w' => ∃ v3 v4, e = .returned (.agg #[.string t.schema, .string t.name, .string t.owner, v3, v4]) ∧ kCol.R 41 w' w.heap.size (fun _ => True) v3 t.cols ∧ kRul.R 29 w' w.heap.size (fun _ => True) v4 t.rules ∧ Below w.heap.size w w' := by
  obtain ⟨hF1, hF2, hF3⟩ := hF
  have HF := Aside0.mk (And.intro hF1 (And.intro hF2 hF3))
  have HC := Aside0.mk (fun W hW => cloneCol.raw (A0 := A3) (c0 := c3) t.cols w W hW h3 (by omega))
  have HU := Aside0.mk (fun W hW => cloneRul.raw (A0 := A4) (c0 := c4) t.rules w W hW h4 (by omega))
  have hln : t.rules.length ≤ 3000 := hF2
  clear h3 h4 hF1 hF2 hF3
  go_enter Tryz.func77, Tryz.ntmps77
  go_wp2_with fail
  generalize hW0 : (w.alloc _).alloc _ = W0
  obtain ⟨hB0, hK0, hZ0⟩ : Below w.heap.size w W0 ∧ W0.heap[w.heap.size]? = some (.cells (tabC t (.slice A3 t.cols.length c3) (.slice A4 t.rules.length c4)) 50 (0, 0)) ∧ W0.heap[w.heap.size + 1]? = some (.cells (tabC zTab (.slice none 0 0) (.slice none 0 0)) 50 (0, 0)) := by
    rw [← hW0]; exact boxes2 w _ _
  clear hW0
  refine (HC.out W0 hB0).mono ?_
  rintro e w1 ⟨v3, rfl, hv3, hb1⟩
  obtain ⟨B3, d3, rfl⟩ := CloneRes_slice hv3
  have hK1 := blk_below hK0 hb1
  have hZ1 := blk_below hZ0 hb1
  have hc : w1.cell? ⟨w.heap.size, 3, none⟩ = some (.slice A3 t.cols.length c3) := (blk_cell hK1 3).trans rfl
  have hc4 : w1.cell? ⟨w.heap.size, 4, none⟩ = some (.slice A4 t.rules.length c4) := (blk_cell hK1 4).trans rfl
  have hf := blk_frozen hK1 3
  have hR3 := Kd.R_set (Kd.R_lower (CloneRes_flat hv3 (flatCol _ _ _)) hB0.size) hK1 (by decide) 3 (.slice B3 t.cols.length d3)
  have HS := Aside0.mk (And.intro (below_set (j := 3) (v := .slice B3 t.cols.length d3) (below_step hB0 hb1) (Nat.le_refl _)) (And.intro (blk_set hK1 3 (.slice B3 t.cols.length d3)) (And.intro (blk_far (p := ⟨w.heap.size, 3, none⟩) hZ1 (succ_ne _) (.slice B3 t.cols.length d3)) hR3)))
  clear hK0 hZ0 hB0 hb1 hv3 hK1 hZ1 hR3
  go_wp2_with fail
  generalize w1.setCell ⟨w.heap.size, 3, none⟩ (.slice B3 t.cols.length d3) = W1 at *
  obtain ⟨hB1, hK1, hZ1, hR3⟩ := HS.out
  clear hc hc4 hf HS
  refine (HU.out W1 hB1).mono ?_
  rintro e w2 ⟨v4, rfl, hv4, hb2⟩
  obtain ⟨B4, d4, rfl⟩ := CloneRes_slice hv4
  have hK2 := blk_below hK1 hb2
  have hZ2 := blk_below hZ1 hb2
  have hc : w2.cell? ⟨w.heap.size, 4, none⟩ = some (.slice A4 t.rules.length c4) := (blk_cell hK2 4).trans rfl
  have hf := blk_frozen hK2 4
  have hR3' := Kd.R_set (Kd.R_below hR3 hb2) hK2 (by decide) 4 (.slice B4 t.rules.length d4)
  have HS := Aside0.mk (And.intro (below_set (j := 4) (v := .slice B4 t.rules.length d4) (below_step hB1 hb2) (Nat.le_refl _)) (And.intro (blk_set hK2 4 (.slice B4 t.rules.length d4)) (And.intro (blk_far (p := ⟨w.heap.size, 4, none⟩) hZ2 (succ_ne _) (.slice B4 t.rules.length d4)) (And.intro hR3' (RowsTo.set (RowsTo.start hv4 w.heap.size hB1.size) hK2 (by decide) 4 (.slice B4 t.rules.length d4))))))
  clear hK1 hZ1 hB1 hb2 hv4 hK2 hZ2 hR3 hR3'
  go_wp2
  generalize w2.setCell ⟨w.heap.size, 4, none⟩ (.slice B4 t.rules.length d4) = W2 at *
  clear hc hf
  have HS2 : Aside0 (CopI t w B3 d3 B4 d4 W2 0) := ⟨HS.out⟩
  clear HS
  go_loopw [15] (fun i w' => ∃ k : Nat, k ≤ t.rules.length ∧ i = .int .i64 k ∧ Aside0 (CopI t w B3 d3 B4 d4 w' k)) (fun i _ => t.rules.length - (intOf i).toNat)
  case atStart => exact ⟨0, Nat.zero_le _, rfl, HS2⟩
  case round =>
    clear HS2
    obtain ⟨k, hk, rfl, HJ⟩ := hrel
    by_cases hlt : k < t.rules.length
    · obtain ⟨g, cap, A2, c2, hv, hbg, hcs, hcell, hfr, hC⟩ := RowsTo.at_ HJ.out.2.2.2.2 hlt
      injection hv with hA hl0 hcap
      clear hl0
      subst hA hcap
      have hb4 : wr.cell? ⟨w.heap.size, 4, none⟩ = some (.slice (some ⟨g, 0, none⟩) t.rules.length d4) := (blk_cell HJ.out.2.1 4).trans rfl
      have HK := Aside0.mk (fun W hW => cloneStr.raw (A0 := A2) (c0 := c2) t.rules[k].cols w W hW hC (Nat.le_trans (HF.out.2.2 _ (List.getElem_mem hlt)) (by decide)))
      have HX := Aside0.mk (And.intro hbg hcs)
      clear hbg hcs hC HF HC HU
      have h0 : (0 : Int) ≤ (k : Int) := by omega
      have h1 : (k : Int) < (t.rules.length : Int) := by omega
      go_wp2_with fail
      go_region_with (first | (go_at_call 32; refine (HK.out _ ?_).mono ?_; exact (below_drew HJ.out.1); rintro e w1 ⟨v, rfl, hv, hb⟩; obtain ⟨B, d, rfl⟩ := CloneRes_slice hv; have hc1 := pw_cell_below hb hcell; have hc2 := pw_cell_below hb hb4; have hf1 := (hb.frozen (p := ⟨g, k * 8 + 2, none⟩) (World.block_lt_of_cell? wr _ hcell)).trans hfr; have HV := Aside0.mk (And.intro hv hb); clear hv hb))
      all_goals
        have HN := Aside0.mk (CopI.next HJ.out hlt HX.out.1 HX.out.2 HV.out.1 HV.out.2)
        clear HV HK HX HJ hb4 hcell hfr hc1 hc2 hf1
        go_wp2
        go_roundw
        case rel => exact ⟨k + 1, by omega, by go_num, HN⟩
        case measure => simp [intOf]; omega
    · have hd : decide (k < t.rules.length) = false := decide_eq_false hlt
      obtain rfl : k = t.rules.length := by omega
      obtain ⟨hB, hK, hZ, hR, hW⟩ := HJ.out
      have c0 : wr.cell? ⟨w.heap.size, 0, none⟩ = some (.string t.schema) := (blk_cell hK 0).trans rfl
      have c1 : wr.cell? ⟨w.heap.size, 1, none⟩ = some (.string t.name) := (blk_cell hK 1).trans rfl
      have c2 : wr.cell? ⟨w.heap.size, 2, none⟩ = some (.string t.owner) := (blk_cell hK 2).trans rfl
      have c3 : wr.cell? ⟨w.heap.size, 3, none⟩ = some (.slice B3 t.cols.length d3) := (blk_cell hK 3).trans rfl
      have c4 : wr.cell? ⟨w.heap.size, 4, none⟩ = some (.slice B4 t.rules.length d4) := (blk_cell hK 4).trans rfl
      have z0 : wr.cell? ⟨w.heap.size + 1, 0, none⟩ = some (.string ⟨#[]⟩) := (blk_cell hZ 0).trans rfl
      have z1 : wr.cell? ⟨w.heap.size + 1, 1, none⟩ = some (.string ⟨#[]⟩) := (blk_cell hZ 1).trans rfl
      have z2 : wr.cell? ⟨w.heap.size + 1, 2, none⟩ = some (.string ⟨#[]⟩) := (blk_cell hZ 2).trans rfl
      have z3 : wr.cell? ⟨w.heap.size + 1, 3, none⟩ = some (.slice none 0 0) := (blk_cell hZ 3).trans rfl
      have z4 : wr.cell? ⟨w.heap.size + 1, 4, none⟩ = some (.slice none 0 0) := (blk_cell hZ 4).trans rfl
      have f0 := blk_frozen hZ 0
      have f1 := blk_frozen hZ 1
      have f2 := blk_frozen hZ 2
      have f3 := blk_frozen hZ 3
      have f4 := blk_frozen hZ 4
      have HX := Aside0.mk (And.intro (R_only hR hZ (by decide) (set5_far wr (w.heap.size + 1) (.string t.schema) (.string t.name) (.string t.owner) (.slice B3 t.cols.length d3) (.slice B4 t.rules.length d4)))
        (And.intro (R_only hW.done hZ (by decide) (set5_far wr (w.heap.size + 1) (.string t.schema) (.string t.name) (.string t.owner) (.slice B3 t.cols.length d3) (.slice B4 t.rules.length d4)))
        (set5_below hB (Nat.le_succ _) (.string t.schema) (.string t.name) (.string t.owner) (.slice B3 t.cols.length d3) (.slice B4 t.rules.length d4))))
      clear hB hK hZ hR hW HJ
      go_wp2
      refine bodyPost_ret (v := .agg #[.string t.schema, .string t.name, .string t.owner, .slice B3 t.cols.length d3, .slice B4 t.rules.length d4]) (by simp [results, Tryz.results77, go_sem, *]) rfl ?_
      exact ⟨_, _, rfl, HX.out⟩
end Go.Proofs.YtmmiehckgkadgaaGreat.O
namespace Go.Proofs.YtmmiehckgkadgaaGreat.O
set_option linter.unusedVariables false
set_option linter.unusedSimpArgs false
open Go.RowKit Go.Proofs.YtmmiehckgkadgaaGreatW.PrintWords
def TabsB (ts : List Tab) : Prop := ts.length ≤ 3000 ∧ ∀ t ∈ ts, TabB t
theorem tabAt {w : World} {A : Option Addr} {n : Nat} {xs : List Tab} (h : kTab.C w A n xs) (j : Nat) (hj : j < xs.length) : ∃ ad A3 c3 A4 c4, A = some ad ∧ w.cell? (ad.add (j * 5)) = some (.string xs[j].schema) ∧ w.cell? ⟨(ad.add (j * 5)).block, (ad.add (j * 5)).off + 1, none⟩ = some (.string xs[j].name) ∧ w.cell? ⟨(ad.add (j * 5)).block, (ad.add (j * 5)).off + 2, none⟩ = some (.string xs[j].owner) ∧ w.cell? ⟨(ad.add (j * 5)).block, (ad.add (j * 5)).off + 3, none⟩ = some (.slice A3 xs[j].cols.length c3) ∧ w.cell? ⟨(ad.add (j * 5)).block, (ad.add (j * 5)).off + 4, none⟩ = some (.slice A4 xs[j].rules.length c4) ∧ xs[j].cols.length ≤ c3 ∧ kCol.C w A3 xs[j].cols.length xs[j].cols ∧ xs[j].rules.length ≤ c4 ∧ kRul.C w A4 xs[j].rules.length xs[j].rules := by
  have h1 := atTab h (j : Int) (by omega) (by have := h.1; omega)
  rw [show rdTab xs (j : Int) = xs[j] by simp [rdTab, List.getD_eq_getElem?_getD, List.getElem?_eq_getElem hj], Int.toNat_natCast] at h1
  exact h1
section
variable {ops : Array Oper} {o : Oper} {a : Act} {Q : Exit → Act → World → Prop} {Kc : Act → World → Prop}
theorem append_tab {w0 W0 W : World} (base : Nat) (hw : Region.wanted o (yielded ops a.tmps) = true) (s x : Operand) (ho : o.op = .call { callee := .builtin .append, args := #[s, x], argTypes := #[23, 23] })
    (v : Value) (xs : List Tab) (t : Tab) (B3 B4 : Option Addr) (d3 d4 : Nat) (hs : a.eval s = v) (hx : a.eval x = .slice (some ⟨W.heap.size, 0, none⟩) 1 1)
    (HS : Kd.S kTab 50 W0 base (fun _ => True) v xs) (hb : Below W0.heap.size W0 W) (h3 : kCol.R 41 W W0.heap.size (fun _ => True) (.slice B3 t.cols.length d3) t.cols) (h4 : kRul.R 29 W W0.heap.size (fun _ => True) (.slice B4 t.rules.length d4) t.rules)
    (HB : Below base w0 W) (hbase : base ≤ W0.heap.size) (hl : xs.length ≤ 100000)
    (h : ∀ v1 w1, Kd.S kTab 50 w1 base (fun _ => True) v1 (xs ++ [t]) → Below base w0 w1 → W.grownBy w1 v.ownBlock → Kc (a.put o.dst v1) w1) :
    if Region.wanted o (yielded ops a.tmps) = true then Oper.wp Tryz.prog o a (W.alloc (.cells #[.string t.schema, .string t.name, .string t.owner, .slice B3 t.cols.length d3, .slice B4 t.rules.length d4] 50)) Kc Q else Kc (a.put o.dst undef) (W.alloc (.cells #[.string t.schema, .string t.name, .string t.owner, .slice B3 t.cols.length d3, .slice B4 t.rules.length d4] 50)) := by
  refine Kd.S_append_step kTab base hw s x 23 50 (.agg #[(.string ⟨#[]⟩), (.string ⟨#[]⟩), (.string ⟨#[]⟩), (.slice none 0 0), (.slice none 0 0)]) 96 ho Tryz.underlying23 infoTab rfl (by decide) (by decide) v xs t [.string t.schema, .string t.name, .string t.owner, .slice B3 t.cols.length d3, .slice B4 t.rules.length d4]
    (fun _ => True) (fun q => W0.heap.size ≤ q) hs hx ?_ ?_ (fun _ _ => trivial) ?_ HB (Nat.le_trans hbase hb.size) (by omega) (fun v1 w1 hS hB hg _ => h v1 w1 hS hB hg)
  · exact kTab_mkM _ _ _ t (Kd.R_lower (Kd.R_mono (Kd.R_bound h3) (fun q hq => hq.2.1)) hbase) (Kd.R_lower (Kd.R_mono (Kd.R_bound h4) (fun q hq => hq.2.1)) hbase)
  · exact fun q hq => ⟨trivial, fun he => by have := Kd.S_lt HS q he.symm; omega⟩
  · exact Kd.S_mono (Kd.S_old HS hb) (fun q hq => ⟨trivial, Nat.not_le_of_lt hq.2⟩)
end
theorem copied.at_ (t : Tab) {A3 A4 : Option Addr} {c3 c4 : Nat} (w : World) (h3 : kCol.C w A3 t.cols.length t.cols) (h4 : kRul.C w A4 t.rules.length t.rules) (hF : TabB t) (W : World) (hW : Below w.heap.size w W) :
    Calls Tryz.prog 77 #[.agg #[.string t.schema, .string t.name, .string t.owner, .slice A3 t.cols.length c3, .slice A4 t.rules.length c4]] W fun e w' => ∃ B3 d3 B4 d4, e = .returned (.agg #[.string t.schema, .string t.name, .string t.owner, .slice B3 t.cols.length d3, .slice B4 t.rules.length d4]) ∧ kCol.R 41 w' W.heap.size (fun _ => True) (.slice B3 t.cols.length d3) t.cols ∧ kRul.R 29 w' W.heap.size (fun _ => True) (.slice B4 t.rules.length d4) t.rules ∧ Below W.heap.size W w' := by
  refine (copied.calls t W (Kd.C_below h3 hW) (Kd.C_below h4 hW) hF).mono ?_
  rintro e w' ⟨v3, v4, rfl, h3, h4, hb⟩
  obtain ⟨B3, d3, rfl⟩ := Kd.R_slice h3
  obtain ⟨B4, d4, rfl⟩ := Kd.R_slice h4
  exact ⟨B3, d3, B4, d4, rfl, h3, h4, hb⟩
def OwnI (As At : Option Addr) (cs ct : Nat) (ss : List Sch) (ts : List Tab) (w : World) (g : Nat) (Bs : Option Addr) (ds : Nat) (W : World) (k : Nat) : Prop :=
  ∃ (Bt : Option Addr) (dt : Nat), Below w.heap.size w W ∧ W.heap[w.heap.size + 1]? = some (.cells #[.slice none 0 0, .slice none 0 0] 25 (0, 0)) ∧ W.heap[g]? = some (.cells #[.slice Bs ss.length ds, .slice Bt k dt] 25 (0, 0)) ∧
    kSch.R 76 W w.heap.size (fun _ => True) (.slice Bs ss.length ds) ss ∧ Kd.S kTab 50 W w.heap.size (fun _ => True) (.slice Bt k dt) (ts.take k)
theorem OwnI.next {As At : Option Addr} {cs ct : Nat} {ss : List Sch} {ts : List Tab} {w wr w2 w3 : World} {g : Nat} {Bs Bt B1 : Option Addr} {ds dt d1 k : Nat} (hlt : k < ts.length) (hgw : w.heap.size + 1 ≠ g) (hge : w.heap.size ≤ g)
    (hZ : wr.heap[w.heap.size + 1]? = some (.cells #[.slice none 0 0, .slice none 0 0] 25 (0, 0))) (hR : kSch.R 76 wr w.heap.size (fun _ => True) (.slice Bs ss.length ds) ss) (hS : Kd.S kTab 50 wr w.heap.size (fun _ => True) (.slice Bt k dt) (ts.take k))
    (hb : Below wr.heap.size wr w2) (hG : w3.heap[g]? = some (.cells #[.slice Bs ss.length ds, .slice Bt k dt] 25 (0, 0))) (hS3 : Kd.S kTab 50 w3 w.heap.size (fun _ => True) (.slice B1 (k + 1) d1) (ts.take k ++ [ts[k]])) (hB3 : Below w.heap.size w w3) (hg3 : w2.grownBy w3 (Value.slice Bt k dt).ownBlock) :
    OwnI As At cs ct ss ts w g Bs ds (w3.setCell ⟨g, 1, none⟩ (.slice B1 (k + 1) d1)) (k + 1) := by
  have hS2 := Kd.S_below hS hb
  have hZ2 := blk_below hZ hb
  have hZ3 := blk_grown hZ2 hg3 (Kd.S_ne hS2 hZ2 (by decide))
  refine ⟨B1, d1, below_set hB3 hge, blk_far (p := ⟨g, 1, none⟩) hZ3 hgw _, blk_set hG 1 _, Kd.R_set (Kd.R_over' (Kd.R_below hR hb) (Kd.S_typed hS2) (by decide) hg3) hG (by decide) 1 _, ?_⟩
  rw [List.take_succ_eq_append_getElem hlt]
  exact Kd.S_set hS3 hG (by decide) 1 _
set_option maxRecDepth 20000 in
set_option maxHeartbeats 2000000 in
theorem own.calls {As At : Option Addr} {cs ct : Nat} (ss : List Sch) (ts : List Tab) (w : World) (hs : kSch.C w As ss.length ss) (hsl : ss.length ≤ 3000) (ht : kTab.C w At ts.length ts) (hF : TabsB ts) :
    Calls Tryz.prog 96 #[.agg #[.slice As ss.length cs, .slice At ts.length ct]] w fun e w' => ∃ Bs ds Bt dt, e = .returned (.agg #[.slice Bs ss.length ds, .slice Bt ts.length dt]) ∧ kSch.R 76 w' w.heap.size (fun _ => True) (.slice Bs ss.length ds) ss ∧ Kd.S kTab 50 w' w.heap.size (fun _ => True) (.slice Bt ts.length dt) ts ∧ Below w.heap.size w w' := by
  have hln : ts.length ≤ 3000 := hF.1
  have HF := Aside0.mk hF.2
  have HT := Aside0.mk ht
  have HC := Aside0.mk (fun W hW => cloneSch.raw (A0 := As) (c0 := cs) ss w W hW hs (by omega))
  clear hs ht hF
  go_enter Tryz.func96, Tryz.ntmps96
  go_wp2_with fail
  generalize hW0 : (w.alloc _).alloc _ = W0
  obtain ⟨hB0, hK0, hZ0⟩ : Below w.heap.size w W0 ∧ W0.heap[w.heap.size]? = some (.cells #[.slice As ss.length cs, .slice At ts.length ct] 25 (0, 0)) ∧ W0.heap[w.heap.size + 1]? = some (.cells #[.slice none 0 0, .slice none 0 0] 25 (0, 0)) := by
    rw [← hW0]; exact boxes2 w _ _
  clear hW0
  refine (HC.out W0 hB0).mono ?_
  rintro e w1 ⟨v3, rfl, hv3, hb1⟩
  obtain ⟨Bs, ds, rfl⟩ := CloneRes_slice hv3
  have hK1 := blk_below hK0 hb1
  have hZ1 := blk_below hZ0 hb1
  have hc1 : ∀ o, (w1.alloc o).cell? ⟨w.heap.size, 1, none⟩ = some (.slice At ts.length ct) := fun o => (blk_cell (blk_alloc hK1 o) 1).trans rfl
  have hR := Kd.R_lower (CloneRes_flat hv3 (flatSch _ _ _)) hB0.size
  go_wp2
  generalize hW1 : w1.alloc _ = W1
  have HS : Aside0 (OwnI As At cs ct ss ts w w1.heap.size Bs ds W1 0) := by
    refine ⟨none, 0, ?_, ?_, ?_, ?_, ?_⟩
    · rw [← hW1]; exact below_alloc (below_step hB0 hb1) _
    · rw [← hW1]; exact blk_alloc hZ1 _
    · rw [← hW1]; exact blk_new w1 _
    · rw [← hW1]; exact Kd.R_alloc hR _
    · exact Kd.S_nil _ _ _ _ _
  have hgw : w.heap.size + 1 ≠ w1.heap.size := by have := blk_lt hZ1; omega
  have hge : w.heap.size ≤ w1.heap.size := by have := blk_lt hZ1; omega
  clear hW1 hc1 hR hZ1 hK1 hv3 hb1 hK0 hZ0 hB0
  generalize w1.heap.size = g at *
  have HG := Aside0.mk (And.intro hgw hge)
  clear hgw hge HC
  go_loopw [13] (fun i w' => ∃ k : Nat, k ≤ ts.length ∧ i = .int .i64 k ∧ Aside0 (OwnI As At cs ct ss ts w g Bs ds w' k)) (fun i _ => ts.length - (intOf i).toNat)
  case atStart => exact ⟨0, Nat.zero_le _, rfl, HS⟩
  case round =>
    clear HS
    obtain ⟨k, hk, rfl, HJ⟩ := hrel
    by_cases hlt : k < ts.length
    · obtain ⟨Bt, dt, hB, hZ, hG, hR, hS⟩ := HJ.out
      obtain ⟨ad, A3, c3, A4, c4, e, hc0, hc1, hc2, hc3, hc4, hl3, h3, hl4, h4⟩ := tabAt (Kd.C_below HT.out hB) k hlt
      cases e
      have HK := Aside0.mk (copied.at_ ts[k] (c3 := c3) (c4 := c4) wr h3 h4 (HF.out _ (List.getElem_mem hlt)))
      have hg1 : ∀ o, (wr.alloc o).cell? ⟨g, 1, none⟩ = some (.slice Bt k dt) := fun o => (blk_cell (blk_alloc hG o) 1).trans rfl
      have HX := Aside0.mk (And.intro hB (And.intro hZ (And.intro hG (And.intro hR hS))))
      have h0 : (0 : Int) ≤ (k : Int) := by omega
      have h1 : (k : Int) < (ts.length : Int) := by omega
      clear hB hZ hG hR hS h3 h4 hl3 hl4 HJ HF
      go_wp2_with fail
      go_region_law (first
        | (refine append_tab (w0 := w) w.heap.size (by rfl) (.tmp 18) (.tmp 21) rfl (.slice Bt k dt) (ts.take k) ts[k] B3 B4 d3 d4 rfl rfl (Kd.S_drew (Kd.S_alloc HX.out.2.2.2.2 _)) HV.out.2.2.1 HV.out.1 HV.out.2.1 (below_step (below_drew (below_alloc HX.out.1 _)) HV.out.2.2.1) (below_drew (below_alloc HX.out.1 _)).size (by have := List.length_take_le k ts; omega) ?_; intro v1 w3 hS3 hB3 hg3; obtain ⟨B1, d1, e1⟩ := Kd.S_slice hS3; rw [show (ts.take k ++ [ts[k]]).length = k + 1 from by simp; omega] at e1; subst e1; have hG3 := blk_grown HV.out.2.2.2 hg3 (Kd.S_ne (Kd.S_below (Kd.S_drew (Kd.S_alloc HX.out.2.2.2.2 _)) HV.out.2.2.1) HV.out.2.2.2 (by decide)); have hg31 : w3.cell? ⟨g, 1, none⟩ = some (.slice Bt k dt) := (blk_cell hG3 1).trans rfl; have hf31 := blk_frozen hG3 1; have HY := Aside0.mk (And.intro hS3 (And.intro hB3 (And.intro hg3 hG3))); clear hS3 hB3 hg3 hG3)
        | (go_simp; go_wp2_with (go_at_call 77; refine (HK.out _ ?_).mono ?_; exact below_drew (below_alloc (Below.refl _ _) _); rintro e w2 ⟨B3, d3, B4, d4, rfl, h3, h4, hb⟩; have hG2 := blk_below (blk_drew (blk_alloc HX.out.2.2.1 _)) hb; have hg2 : w2.cell? ⟨g, 1, none⟩ = some (.slice Bt k dt) := (blk_cell hG2 1).trans rfl; have hg2a : ∀ o, (w2.alloc o).cell? ⟨g, 1, none⟩ = some (.slice Bt k dt) := fun o => (blk_cell (blk_alloc hG2 o) 1).trans rfl; have HV := Aside0.mk (And.intro h3 (And.intro h4 (And.intro hb hG2))); clear h3 h4 hb hG2)))
      all_goals
        have HN := Aside0.mk (OwnI.next (As := As) (At := some ad) (cs := cs) (ct := ct) hlt HG.out.1 HG.out.2 HX.out.2.1 HX.out.2.2.2.1 HX.out.2.2.2.2 (below_step (below_drew (below_alloc (Below.refl _ _) _)) HV.out.2.2.1) HY.out.2.2.2 HY.out.1 HY.out.2.1 HY.out.2.2.1)
        clear HV HK HX HY hg1 hg2 hg2a hg31 hf31 hc0 hc1 hc2 hc3 hc4
        go_wp2
        go_roundw
        case rel => exact ⟨k + 1, by omega, by go_num, HN⟩
        case measure => simp [intOf]; omega
    · have hd : decide (k < ts.length) = false := decide_eq_false hlt
      obtain rfl : k = ts.length := by omega
      obtain ⟨Bt, dt, hB, hZ, hG, hR, hS⟩ := HJ.out
      rw [List.take_length] at hS
      have c0 : wr.cell? ⟨g, 0, none⟩ = some (.slice Bs ss.length ds) := (blk_cell hG 0).trans rfl
      have c1 : wr.cell? ⟨g, 1, none⟩ = some (.slice Bt ts.length dt) := (blk_cell hG 1).trans rfl
      have z0 : wr.cell? ⟨w.heap.size + 1, 0, none⟩ = some (.slice none 0 0) := (blk_cell hZ 0).trans rfl
      have z1 : wr.cell? ⟨w.heap.size + 1, 1, none⟩ = some (.slice none 0 0) := (blk_cell hZ 1).trans rfl
      have f0 := blk_frozen hZ 0
      have f1 := blk_frozen hZ 1
      have HX := Aside0.mk (And.intro (R_only hR hZ (by decide) (set2_far wr (w.heap.size + 1) (.slice Bs ss.length ds) (.slice Bt ts.length dt)))
        (And.intro (S_only hS hZ (by decide) (set2_far wr (w.heap.size + 1) (.slice Bs ss.length ds) (.slice Bt ts.length dt)))
        (set2_below hB (Nat.le_succ _) (.slice Bs ss.length ds) (.slice Bt ts.length dt))))
      clear hB hZ hG hR hS HJ HT HF
      go_wp2
      refine bodyPost_ret (v := .agg #[.slice Bs ss.length ds, .slice Bt ts.length dt]) (by simp [results, Tryz.results96, go_sem, *]) rfl ?_
      exact ⟨_, _, _, _, rfl, HX.out⟩
end Go.Proofs.YtmmiehckgkadgaaGreat.O
namespace Go.Proofs.YtmmiehckgkadgaaGreat.O
set_option linter.unusedVariables false
set_option linter.unusedSimpArgs false
open Go.RowKit Go.Proofs.YtmmiehckgkadgaaGreatW.PrintWords
theorem rulAt {w : World} {A : Option Addr} {n : Nat} {xs : List Rul} (h : kRul.C w A n xs) (j : Nat) (hj : j < xs.length) : ∃ ad A2 c2, A = some ad ∧ w.cell? (ad.add (j * 8)) = some (.string xs[j].name) ∧ w.cell? ⟨(ad.add (j * 8)).block, (ad.add (j * 8)).off + 1, none⟩ = some (.int .i64 xs[j].kind) ∧ w.cell? ⟨(ad.add (j * 8)).block, (ad.add (j * 8)).off + 2, none⟩ = some (.slice A2 xs[j].cols.length c2) ∧ w.cell? ⟨(ad.add (j * 8)).block, (ad.add (j * 8)).off + 3, none⟩ = some (.int .i64 xs[j].low) ∧ w.cell? ⟨(ad.add (j * 8)).block, (ad.add (j * 8)).off + 4, none⟩ = some (.int .i64 xs[j].high) ∧ w.cell? ⟨(ad.add (j * 8)).block, (ad.add (j * 8)).off + 5, none⟩ = some (.string xs[j].schema) ∧ w.cell? ⟨(ad.add (j * 8)).block, (ad.add (j * 8)).off + 6, none⟩ = some (.string xs[j].table) ∧ w.cell? ⟨(ad.add (j * 8)).block, (ad.add (j * 8)).off + 7, none⟩ = some (.string xs[j].key) ∧ xs[j].cols.length ≤ c2 ∧ Kd.string.C w A2 xs[j].cols.length xs[j].cols := by
  have h1 := atRul h (j : Int) (by omega) (by have := h.1; omega)
  rw [show rdRul xs (j : Int) = xs[j] by simp [rdRul, List.getD_eq_getElem?_getD, List.getElem?_eq_getElem hj], Int.toNat_natCast] at h1
  exact h1
theorem sz_set (w : World) (p : Addr) (u : Value) : (w.setCell p u).heap.size = w.heap.size := by simp
theorem R_only2 {α : Type} {d : Kd α} {e base g g' t : Nat} {W W' : World} {ok : Nat → Prop} {v : Value} {xs : List α} {cs cs' : Array Value} (h : d.R e W base ok v xs) (hz : W.heap[g]? = some (.cells cs t (0, 0))) (hz' : W.heap[g']? = some (.cells cs' t (0, 0))) (ht : ∀ q, q ∈ e :: d.E → q ≠ t) (hk : ∀ k, k ≠ g → k ≠ g' → W'.heap[k]? = W.heap[k]?) : d.R e W' base ok v xs :=
  Kd.R_mono (Kd.R_step (Kd.R_types (Kd.R_types h hz ht) hz' ht) (fun k ho _ => hk k ho.1.2 ho.2)) (fun _ hq => hq.1.1)
theorem set7_far (W : World) (b g : Nat) (x y a c d e f : Value) : ∀ k, k ≠ b → k ≠ g → (((((((W.setCell ⟨b, 3, none⟩ x).setCell ⟨b, 4, none⟩ y).setCell ⟨g, 0, none⟩ a).setCell ⟨g, 1, none⟩ c).setCell ⟨g, 2, none⟩ d).setCell ⟨g, 3, none⟩ e).setCell ⟨g, 4, none⟩ f).heap[k]? = W.heap[k]? := fun k hb hg => by
  rw [set5_far _ g _ _ _ _ _ k hg, Below.heap_setCell _ _ _ k hb, Below.heap_setCell _ _ _ k hb]
def rulC (r : Rul) (v : Value) : Array Value := #[.string r.name, .int .i64 r.kind, v, .int .i64 r.low, .int .i64 r.high, .string r.schema, .string r.table, .string r.key]
def CpyI (t : Tab) (A3 A4 : Option Addr) (c3 c4 : Nat) (w : World) (B3 : Option Addr) (d3 : Nat) (v : Value) (W : World) (k : Nat) : Prop :=
  Below w.heap.size w W ∧ W.heap[w.heap.size]? = some (.cells (tabC t (.slice A3 t.cols.length c3) (.slice A4 t.rules.length c4)) 50 (0, 0)) ∧ W.heap[w.heap.size + 1]? = some (.cells (tabC zTab (.slice none 0 0) (.slice none 0 0)) 50 (0, 0)) ∧
      kCol.R 41 W w.heap.size (fun _ => True) (.slice B3 t.cols.length d3) t.cols ∧ kRul.R 29 W w.heap.size (fun _ => True) v (t.rules.take k)
theorem CpyI.next {t : Tab} {A3 A4 : Option Addr} {c3 c4 : Nat} {w W W1 : World} {B3 : Option Addr} {d3 k : Nat} {v v1 : Value} (h : CpyI t A3 A4 c3 c4 w B3 d3 v W k) (hlt : k < t.rules.length) (hg : W.grownBy W1 v.ownBlock) (hB : Below w.heap.size w W1)
    (hR : kRul.R 29 W1 w.heap.size (fun _ => True) v1 (t.rules.take k ++ [t.rules[k]])) : CpyI t A3 A4 c3 c4 w B3 d3 v1 W1 (k + 1) := by
  obtain ⟨hb, hK, hZ, hR3, hR4⟩ := h
  exact ⟨hB, blk_grown hK hg (Kd.R_ne hR4 hK (by decide)), blk_grown hZ hg (Kd.R_ne hR4 hZ (by decide)), Kd.R_over' hR3 (Kd.R_typed hR4) (by decide) hg, by rw [List.take_succ_eq_append_getElem hlt]; exact hR⟩
theorem CpyI.move {t : Tab} {A3 A4 : Option Addr} {c3 c4 : Nat} {w W W1 : World} {B3 : Option Addr} {d3 k : Nat} {v : Value} (h : CpyI t A3 A4 c3 c4 w B3 d3 v W k) (hb : Below W.heap.size W W1) : CpyI t A3 A4 c3 c4 w B3 d3 v W1 k := by
  obtain ⟨hB, hK, hZ, hR3, hR4⟩ := h
  exact ⟨below_step hB hb, blk_below hK hb, blk_below hZ hb, Kd.R_below hR3 hb, Kd.R_below hR4 hb⟩
set_option maxRecDepth 20000 in
set_option maxHeartbeats 2000000 in
theorem rCopy.calls (t : Tab) {A3 A4 : Option Addr} {c3 c4 : Nat} (w : World) (h3 : kCol.C w A3 t.cols.length t.cols) (h4 : kRul.C w A4 t.rules.length t.rules) (hF : TabB t) :
    Calls Tryz.prog 25 #[.agg #[.string t.schema, .string t.name, .string t.owner, .slice A3 t.cols.length c3, .slice A4 t.rules.length c4]] w fun e w' => ∃ v3 v4, e = .returned (.agg #[.string t.schema, .string t.name, .string t.owner, v3, v4]) ∧ kCol.R 41 w' w.heap.size (fun _ => True) v3 t.cols ∧ kRul.R 29 w' w.heap.size (fun _ => True) v4 t.rules ∧ Below w.heap.size w w' := by
  obtain ⟨hF1, hF2, hF3⟩ := hF
  have HF := Aside0.mk hF3
  have hln : t.rules.length ≤ 3000 := hF2
  have hlc : t.cols.length ≤ 3000 := hF1
  have HC := Aside0.mk h3
  have HU := Aside0.mk h4
  have HB2 := Aside0.mk (boxes2 w (.cells (tabC t (.slice A3 t.cols.length c3) (.slice A4 t.rules.length c4)) 50) (.cells (tabC zTab (.slice none 0 0) (.slice none 0 0)) 50))
  clear h3 h4 hF1 hF2 hF3
  go_enter Tryz.func25, Tryz.ntmps25
  go_wp2_with ((at_builtin; refine Kd.R_append_rows kCol (Rr := kCol.K w) (w0 := w) w.heap.size rfl (.tmp 8) (.tmp 10) 47 41 (.agg #[(.string ⟨#[]⟩), (.int .i64 0), (.bool false)]) 32 rfl Tryz.underlying47 infoCol rfl (by decide) (by decide) (.slice none 0 0) [] t.cols A3 t.cols.length c3 (fun _ => True) (fun _ => False) rfl rfl (Kd.R_nil _ _ _ _ _) (ReadsRow.imp_ HC.out HB2.out.1 (fun _ _ h => h)) (fun x cs hk => flatCol w _ _ _ x cs hk) (fun _ hk => hk.elim) (fun _ _ => trivial) HB2.out.1 HB2.out.1.size (by simp; omega) ?_; intro v1 w1 hR1 hB1 hg1 _))
  obtain ⟨B3, d3, rfl⟩ := Kd.R_slice hR1
  rw [List.nil_append] at hR1 ⊢
  have HS : Aside0 (CpyI t A3 A4 c3 c4 w B3 d3 (.slice none 0 0) w1 0) := ⟨hB1, blk_grown HB2.out.2.1 hg1 (by simp [Value.ownBlock]), blk_grown HB2.out.2.2 hg1 (by simp [Value.ownBlock]), hR1, Kd.R_nil _ _ _ _ _⟩
  clear hR1 hB1 hg1 HB2 HC
  go_loopw [4, 5] (fun v i w' => ∃ k : Nat, k ≤ t.rules.length ∧ i = .int .i64 k ∧ Aside0 (CpyI t A3 A4 c3 c4 w B3 d3 v w' k)) (fun _ i _ => t.rules.length - (intOf i).toNat)
  case atStart => exact ⟨0, Nat.zero_le _, rfl, HS⟩
  case round =>
    clear HS
    obtain ⟨k, hk, rfl, HJ⟩ := hrel
    have hb4 : wr.cell? ⟨w.heap.size, 4, none⟩ = some (.slice A4 t.rules.length c4) := (blk_cell HJ.out.2.1 4).trans rfl
    by_cases hlt : k < t.rules.length
    · obtain ⟨ad, A2, c2, e, hc0, hc1, hc2, hc3, hc4, hc5, hc6, hc7, hl2, hC⟩ := rulAt (Kd.C_below HU.out HJ.out.1) k hlt
      cases e
      have HK := Aside0.mk hC
      have hlr : t.rules[k].cols.length ≤ 3000 := HF.out _ (List.getElem_mem hlt)
      have h0 : (0 : Int) ≤ (k : Int) := by omega
      have h1 : (k : Int) < (t.rules.length : Int) := by omega
      have HW := Aside0.mk (boxes1 wr (.cells (rulC t.rules[k] (.slice A2 t.rules[k].cols.length c2)) 29))
      clear hC hl2
      go_wp2_with (first
        | (at_builtin; refine Kd.R_append_rows Kd.string (Rr := Kd.string.K wr) (w0 := w) w.heap.size rfl (.tmp 24) (.tmp 26) 27 9 (.string ⟨#[]⟩) 16 rfl Tryz.underlying27 infoStr rfl (by decide) (by decide) (.slice none 0 0) [] t.rules[k].cols A2 t.rules[k].cols.length c2 (fun _ => True) (fun _ => False) rfl rfl (Kd.R_nil _ _ _ _ _) (ReadsRow.imp_ HK.out HW.out.1 (fun _ _ h => h)) (fun x cs hk => flatStr wr _ _ _ x cs hk) (fun _ hk => hk.elim) (fun _ _ => trivial) (below_step HJ.out.1 HW.out.1) (below_step HJ.out.1 HW.out.1).size (by simp; omega) ?_; intro v2 w2 hR2 hB2 hg2 _; rw [List.nil_append] at hR2; obtain ⟨B2, d2, rfl⟩ := Kd.R_slice hR2; have hK2 := blk_grown HW.out.2 hg2 (by simp [Value.ownBlock]); have e0 : w2.cell? ⟨wr.heap.size, 0, none⟩ = some (.string t.rules[k].name) := (blk_cell hK2 0).trans rfl; have e1 : w2.cell? ⟨wr.heap.size, 1, none⟩ = some (.int .i64 t.rules[k].kind) := (blk_cell hK2 1).trans rfl; have e2 : w2.cell? ⟨wr.heap.size, 2, none⟩ = some (.slice A2 t.rules[k].cols.length c2) := (blk_cell hK2 2).trans rfl; have e3 : w2.cell? ⟨wr.heap.size, 3, none⟩ = some (.int .i64 t.rules[k].low) := (blk_cell hK2 3).trans rfl; have e4 : w2.cell? ⟨wr.heap.size, 4, none⟩ = some (.int .i64 t.rules[k].high) := (blk_cell hK2 4).trans rfl; have e5 : w2.cell? ⟨wr.heap.size, 5, none⟩ = some (.string t.rules[k].schema) := (blk_cell hK2 5).trans rfl; have e6 : w2.cell? ⟨wr.heap.size, 6, none⟩ = some (.string t.rules[k].table) := (blk_cell hK2 6).trans rfl; have e7 : w2.cell? ⟨wr.heap.size, 7, none⟩ = some (.string t.rules[k].key) := (blk_cell hK2 7).trans rfl; have f2 := blk_frozen hK2 2;
            have hBW : Below wr.heap.size wr (w2.setCell ⟨wr.heap.size, 2, none⟩ (.slice B2 t.rules[k].cols.length d2)) := below_set (HW.out.1.grown hg2 HW.out.1.size (by simp [Value.ownBlock])) (Nat.le_refl _);
            have hJ2 := CpyI.move HJ.out hBW;
            have HV := Aside0.mk (And.intro hJ2 (Kd.R_mono (Kd.R_apart' (Kd.R_set hR2 hK2 (by decide) 2 (.slice B2 t.rules[k].cols.length d2)) (Kd.R_typed hJ2.2.2.2.2) (by decide)) (fun q hq => hq.2))); clear hR2 hB2 hg2 hK2 hBW hJ2)
        | (at_builtin; refine Kd.R_append kRul (w0 := w) w.heap.size (by rfl) (.tmp 30) (.tmp 32) 48 29 (.agg #[(.string ⟨#[]⟩), (.int .i64 0), (.slice none 0 0), (.int .i64 0), (.int .i64 0), (.string ⟨#[]⟩), (.string ⟨#[]⟩), (.string ⟨#[]⟩)]) 112 (by rfl) Tryz.underlying48 infoRul rfl (by decide) (by decide) u4 (t.rules.take k) t.rules[k] [.string t.rules[k].name, .int .i64 t.rules[k].kind, .slice B2 t.rules[k].cols.length d2, .int .i64 t.rules[k].low, .int .i64 t.rules[k].high, .string t.rules[k].schema, .string t.rules[k].table, .string t.rules[k].key] (fun _ => True) (fun q => some q ≠ u4.ownBlock) (by rfl) (by rw [sz_set]; rfl) (kRul_mkM _ _ _ _ HV.out.2) (fun _ hq => ⟨trivial, hq⟩) (fun _ _ => trivial) HV.out.1.2.2.2.2 HV.out.1.1 HV.out.1.1.size (by have := List.length_take_le k t.rules; omega) ?_; intro v3 w3 hR3 hB3 hg3 _))
      have HN := Aside0.mk (CpyI.next HV.out.1 hlt hg3 hB3 hR3)
      clear hR3 hB3 hg3 HV HW HJ HK hb4 hc0 hc1 hc2 hc3 hc4 hc5 hc6 hc7 e0 e1 e2 e3 e4 e5 e6 e7 f2
      go_roundw
      case rel => exact ⟨k + 1, by omega, by go_num, HN⟩
      case measure => simp [intOf]; omega
    · have hd : decide (k < t.rules.length) = false := decide_eq_false hlt
      obtain rfl : k = t.rules.length := by omega
      obtain ⟨hB, hK, hZ, hR, hW⟩ := HJ.out
      rw [List.take_length] at hW
      obtain ⟨B4, d4, rfl⟩ := Kd.R_slice hW
      have c0 : wr.cell? ⟨w.heap.size, 0, none⟩ = some (.string t.schema) := (blk_cell hK 0).trans rfl
      have c1 : wr.cell? ⟨w.heap.size, 1, none⟩ = some (.string t.name) := (blk_cell hK 1).trans rfl
      have c2 : wr.cell? ⟨w.heap.size, 2, none⟩ = some (.string t.owner) := (blk_cell hK 2).trans rfl
      have c3 : wr.cell? ⟨w.heap.size, 3, none⟩ = some (.slice A3 t.cols.length c3) := (blk_cell hK 3).trans rfl
      have z0 : wr.cell? ⟨w.heap.size + 1, 0, none⟩ = some (.string ⟨#[]⟩) := (blk_cell hZ 0).trans rfl
      have z1 : wr.cell? ⟨w.heap.size + 1, 1, none⟩ = some (.string ⟨#[]⟩) := (blk_cell hZ 1).trans rfl
      have z2 : wr.cell? ⟨w.heap.size + 1, 2, none⟩ = some (.string ⟨#[]⟩) := (blk_cell hZ 2).trans rfl
      have z3 : wr.cell? ⟨w.heap.size + 1, 3, none⟩ = some (.slice none 0 0) := (blk_cell hZ 3).trans rfl
      have z4 : wr.cell? ⟨w.heap.size + 1, 4, none⟩ = some (.slice none 0 0) := (blk_cell hZ 4).trans rfl
      have g3 := blk_frozen hK 3
      have g4 := blk_frozen hK 4
      have f0 := blk_frozen hZ 0
      have f1 := blk_frozen hZ 1
      have f2 := blk_frozen hZ 2
      have f3 := blk_frozen hZ 3
      have f4 := blk_frozen hZ 4
      have HX := Aside0.mk (And.intro (R_only2 hR hK hZ (by decide) (set7_far wr w.heap.size (w.heap.size + 1) (.slice B3 t.cols.length d3) (.slice B4 t.rules.length d4) (.string t.schema) (.string t.name) (.string t.owner) (.slice B3 t.cols.length d3) (.slice B4 t.rules.length d4)))
        (And.intro (R_only2 hW hK hZ (by decide) (set7_far wr w.heap.size (w.heap.size + 1) (.slice B3 t.cols.length d3) (.slice B4 t.rules.length d4) (.string t.schema) (.string t.name) (.string t.owner) (.slice B3 t.cols.length d3) (.slice B4 t.rules.length d4)))
        (set5_below (g := w.heap.size + 1) (below_set (j := 4) (v := .slice B4 t.rules.length d4) (below_set (j := 3) (v := .slice B3 t.cols.length d3) hB (Nat.le_refl _)) (Nat.le_refl _)) (Nat.le_succ _) (.string t.schema) (.string t.name) (.string t.owner) (.slice B3 t.cols.length d3) (.slice B4 t.rules.length d4))))
      clear hB hK hZ hR hW HJ HF HU
      go_wp2
      refine bodyPost_ret (v := .agg #[.string t.schema, .string t.name, .string t.owner, .slice B3 t.cols.length d3, .slice B4 t.rules.length d4]) (by simp [results, Tryz.results25, go_sem, *]) rfl ?_
      exact ⟨_, _, rfl, HX.out⟩
end Go.Proofs.YtmmiehckgkadgaaGreat.O
namespace Go.Proofs.YtmmiehckgkadgaaGreat.O
set_option linter.unusedVariables false
set_option linter.unusedSimpArgs false
open Go.RowKit Go.Proofs.YtmmiehckgkadgaaGreatW.PrintWords
theorem ne_succ2 (n : Nat) : n ≠ n + 1 + 1 := by omega
theorem boxes3 (w : World) (o1 o2 o3 : Obj) : Below w.heap.size w (((w.alloc o1).alloc o2).alloc o3) ∧ (((w.alloc o1).alloc o2).alloc o3).heap[w.heap.size]? = some o1 ∧ (((w.alloc o1).alloc o2).alloc o3).heap[w.heap.size + 1]? = some o2 ∧ (((w.alloc o1).alloc o2).alloc o3).heap[w.heap.size + 1 + 1]? = some o3 :=
  ⟨below_alloc (boxes2 w o1 o2).1 _, blk_alloc (boxes2 w o1 o2).2.1 _, blk_alloc (boxes2 w o1 o2).2.2 _, by have := blk_new ((w.alloc o1).alloc o2) o3; rwa [show ((w.alloc o1).alloc o2).heap.size = w.heap.size + 1 + 1 from by simp] at this⟩
theorem rCopy.at_ (t : Tab) {A3 A4 : Option Addr} {c3 c4 : Nat} (w : World) (h3 : kCol.C w A3 t.cols.length t.cols) (h4 : kRul.C w A4 t.rules.length t.rules) (hF : TabB t) (W : World) (hW : Below w.heap.size w W) :
    Calls Tryz.prog 25 #[.agg #[.string t.schema, .string t.name, .string t.owner, .slice A3 t.cols.length c3, .slice A4 t.rules.length c4]] W fun e w' => ∃ B3 d3 B4 d4, e = .returned (.agg #[.string t.schema, .string t.name, .string t.owner, .slice B3 t.cols.length d3, .slice B4 t.rules.length d4]) ∧ kCol.R 41 w' W.heap.size (fun _ => True) (.slice B3 t.cols.length d3) t.cols ∧ kRul.R 29 w' W.heap.size (fun _ => True) (.slice B4 t.rules.length d4) t.rules ∧ Below W.heap.size W w' := by
  refine (rCopy.calls t W (Kd.C_below h3 hW) (Kd.C_below h4 hW) hF).mono ?_
  rintro e w' ⟨v3, v4, rfl, h3, h4, hb⟩
  obtain ⟨B3, d3, rfl⟩ := Kd.R_slice h3
  obtain ⟨B4, d4, rfl⟩ := Kd.R_slice h4
  exact ⟨B3, d3, B4, d4, rfl, h3, h4, hb⟩
set_option maxRecDepth 20000 in
set_option maxHeartbeats 2000000 in
theorem rOwn.calls {As At : Option Addr} {cs ct : Nat} (ss : List Sch) (ts : List Tab) (w : World) (hs : kSch.C w As ss.length ss) (hsl : ss.length ≤ 3000) (ht : kTab.C w At ts.length ts) (hF : TabsB ts) :
    Calls Tryz.prog 7 #[.agg #[.slice As ss.length cs, .slice At ts.length ct]] w fun e w' => ∃ Bs ds Bt dt, e = .returned (.agg #[.slice Bs ss.length ds, .slice Bt ts.length dt]) ∧ kSch.R 76 w' w.heap.size (fun _ => True) (.slice Bs ss.length ds) ss ∧ Kd.S kTab 50 w' w.heap.size (fun _ => True) (.slice Bt ts.length dt) ts ∧ Below w.heap.size w w' := by
  have hln : ts.length ≤ 3000 := hF.1
  have HF := Aside0.mk hF.2
  have HT := Aside0.mk ht
  have HC := Aside0.mk hs
  have HB3 := Aside0.mk (boxes3 w (.cells #[.slice As ss.length cs, .slice At ts.length ct] 25) (.cells #[.slice none 0 0, .slice none 0 0] 25) (.cells #[.slice none 0 0, .slice none 0 0] 25))
  clear hs ht hF
  go_enter Tryz.func7, Tryz.ntmps7
  go_wp2_with ((at_builtin; refine Kd.R_append_rows kSch (Rr := kSch.K w) (w0 := w) w.heap.size (by rfl) (.tmp 7) (.tmp 9) 22 76 (.agg #[(.string ⟨#[]⟩), (.string ⟨#[]⟩)]) 32 (by rfl) Tryz.underlying22 infoSch rfl (by decide) (by decide) (.slice none 0 0) [] ss As ss.length cs (fun _ => True) (fun _ => False) (by rfl) (by rfl) (Kd.R_nil _ _ _ _ _) (ReadsRow.imp_ HC.out HB3.out.1 (fun _ _ h => h)) (fun x c hk => flatSch w _ _ _ x c hk) (fun _ hk => hk.elim) (fun _ _ => trivial) HB3.out.1 HB3.out.1.size (by simp; omega) ?_; intro v1 w1 hR1 hB1 hg1 _; rw [List.nil_append] at hR1; obtain ⟨Bs, ds, rfl⟩ := Kd.R_slice hR1; have hK1 := blk_grown HB3.out.2.1 hg1 (by simp [Value.ownBlock]); have hZ1 := blk_grown HB3.out.2.2.1 hg1 (by simp [Value.ownBlock]); have hG1 := blk_grown HB3.out.2.2.2 hg1 (by simp [Value.ownBlock]); have e0 : w1.cell? ⟨w.heap.size + 1 + 1, 0, none⟩ = some (.slice none 0 0) := (blk_cell hG1 0).trans rfl; have f0 := blk_frozen hG1 0; have HS := Aside0.mk (And.intro (below_set (g := w.heap.size + 1 + 1) (j := 0) (v := .slice Bs ss.length ds) hB1 (by omega)) (And.intro (blk_far (p := ⟨w.heap.size + 1 + 1, 0, none⟩) hZ1 (ne_succ _) (.slice Bs ss.length ds)) (And.intro (blk_set hG1 0 (.slice Bs ss.length ds)) (And.intro (Kd.R_set hR1 hG1 (by decide) 0 (.slice Bs ss.length ds)) (blk_far (p := ⟨w.heap.size + 1 + 1, 0, none⟩) hK1 (ne_succ2 _) (.slice Bs ss.length ds)))))); clear hR1 hB1 hg1 hK1 hZ1 hG1))
  generalize w1.setCell ⟨w.heap.size + 1 + 1, 0, none⟩ (.slice Bs ss.length ds) = W1 at *
  clear e0 f0 HC HB3
  have HS2 : Aside0 (OwnI As At cs ct ss ts w (w.heap.size + 1 + 1) Bs ds W1 0 ∧ W1.heap[w.heap.size]? = some (.cells #[.slice As ss.length cs, .slice At ts.length ct] 25 (0, 0))) := ⟨⟨none, 0, HS.out.1, HS.out.2.1, HS.out.2.2.1, HS.out.2.2.2.1, Kd.S_nil _ _ _ _ _⟩, HS.out.2.2.2.2⟩
  clear HS
  go_loopw [4] (fun i w' => ∃ k : Nat, k ≤ ts.length ∧ i = .int .i64 k ∧ Aside0 (OwnI As At cs ct ss ts w (w.heap.size + 1 + 1) Bs ds w' k ∧ w'.heap[w.heap.size]? = some (.cells #[.slice As ss.length cs, .slice At ts.length ct] 25 (0, 0)))) (fun i _ => ts.length - (intOf i).toNat)
  case atStart => exact ⟨0, Nat.zero_le _, rfl, HS2⟩
  case round =>
    clear HS2
    obtain ⟨k, hk, rfl, HJ⟩ := hrel
    have hb1 : wr.cell? ⟨w.heap.size, 1, none⟩ = some (.slice At ts.length ct) := (blk_cell HJ.out.2 1).trans rfl
    by_cases hlt : k < ts.length
    · obtain ⟨⟨Bt, dt, hB, hZ, hG, hR, hS⟩, hK⟩ := HJ.out
      obtain ⟨ad, A3, c3, A4, c4, e, hc0, hc1, hc2, hc3, hc4, hl3, h3, hl4, h4⟩ := tabAt (Kd.C_below HT.out hB) k hlt
      cases e
      have HK := Aside0.mk (rCopy.at_ ts[k] (c3 := c3) (c4 := c4) wr h3 h4 (HF.out _ (List.getElem_mem hlt)))
      have hg1 : wr.cell? ⟨w.heap.size + 1 + 1, 1, none⟩ = some (.slice Bt k dt) := (blk_cell hG 1).trans rfl
      have HX := Aside0.mk (And.intro hB (And.intro hZ (And.intro hG (And.intro hR (And.intro hS hK)))))
      have h0 : (0 : Int) ≤ (k : Int) := by omega
      have h1 : (k : Int) < (ts.length : Int) := by omega
      clear hB hZ hG hR hS hK h3 h4 hl3 hl4 HJ HF
      go_wp2_with fail
      go_region_law (first
        | (refine append_tab (w0 := w) w.heap.size (by rfl) (.tmp 20) (.tmp 27) rfl (.slice Bt k dt) (ts.take k) ts[k] B3 B4 d3 d4 rfl rfl (Kd.S_drew HX.out.2.2.2.2.1) HV.out.2.2.1 HV.out.1 HV.out.2.1 (below_step (below_drew HX.out.1) HV.out.2.2.1) (below_drew HX.out.1).size (by have := List.length_take_le k ts; omega) ?_; intro v1 w3 hS3 hB3 hg3; obtain ⟨B1, d1, e1⟩ := Kd.S_slice hS3; rw [show (ts.take k ++ [ts[k]]).length = k + 1 from by simp; omega] at e1; subst e1; have hG3 := blk_grown HV.out.2.2.2 hg3 (Kd.S_ne (Kd.S_below (Kd.S_drew HX.out.2.2.2.2.1) HV.out.2.2.1) HV.out.2.2.2 (by decide)); have hg31 : w3.cell? ⟨w.heap.size + 1 + 1, 1, none⟩ = some (.slice Bt k dt) := (blk_cell hG3 1).trans rfl; have hf31 := blk_frozen hG3 1; have HY := Aside0.mk (And.intro hS3 (And.intro hB3 (And.intro hg3 hG3))); clear hS3 hB3 hg3 hG3)
        | (go_simp; go_wp2_with (go_at_call 25; refine (HK.out _ ?_).mono ?_; exact below_drew (Below.refl _ _); rintro e w2 ⟨B3, d3, B4, d4, rfl, h3, h4, hb⟩; have hG2 := blk_below (blk_drew HX.out.2.2.1) hb; have hg2 : w2.cell? ⟨w.heap.size + 1 + 1, 1, none⟩ = some (.slice Bt k dt) := (blk_cell hG2 1).trans rfl; have hg2a : ∀ o, (w2.alloc o).cell? ⟨w.heap.size + 1 + 1, 1, none⟩ = some (.slice Bt k dt) := fun o => (blk_cell (blk_alloc hG2 o) 1).trans rfl; have HV := Aside0.mk (And.intro h3 (And.intro h4 (And.intro hb hG2))); clear h3 h4 hb hG2)))
      all_goals
        have hbW := Aside0.mk (below_step (below_drew (Below.refl wr.heap.size wr)) HV.out.2.2.1)
        have HN := Aside0.mk (And.intro (OwnI.next (As := As) (At := some ad) (cs := cs) (ct := ct) hlt (ne_succ _) (by omega) HX.out.2.1 HX.out.2.2.2.1 HX.out.2.2.2.2.1 hbW.out HY.out.2.2.2 HY.out.1 HY.out.2.1 HY.out.2.2.1)
          (blk_far (p := ⟨w.heap.size + 1 + 1, 1, none⟩) (blk_grown (blk_below HX.out.2.2.2.2.2 hbW.out) HY.out.2.2.1 (Kd.S_ne (Kd.S_below HX.out.2.2.2.2.1 hbW.out) (blk_below HX.out.2.2.2.2.2 hbW.out) (by decide))) (ne_succ2 _) (.slice B1 (k + 1) d1)))
        clear HV HK HX HY hbW hg1 hg2 hg2a hg31 hf31 hb1 hc0 hc1 hc2 hc3 hc4
        go_wp2
        go_roundw
        case rel => exact ⟨k + 1, by omega, by go_num, HN⟩
        case measure => simp [intOf]; omega
    · have hd : decide (k < ts.length) = false := decide_eq_false hlt
      obtain rfl : k = ts.length := by omega
      obtain ⟨⟨Bt, dt, hB, hZ, hG, hR, hS⟩, _⟩ := HJ.out
      rw [List.take_length] at hS
      have c0 : wr.cell? ⟨w.heap.size + 1 + 1, 0, none⟩ = some (.slice Bs ss.length ds) := (blk_cell hG 0).trans rfl
      have c1 : wr.cell? ⟨w.heap.size + 1 + 1, 1, none⟩ = some (.slice Bt ts.length dt) := (blk_cell hG 1).trans rfl
      have z0 : wr.cell? ⟨w.heap.size + 1, 0, none⟩ = some (.slice none 0 0) := (blk_cell hZ 0).trans rfl
      have z1 : wr.cell? ⟨w.heap.size + 1, 1, none⟩ = some (.slice none 0 0) := (blk_cell hZ 1).trans rfl
      have f0 := blk_frozen hZ 0
      have f1 := blk_frozen hZ 1
      have HX := Aside0.mk (And.intro (R_only hR hZ (by decide) (set2_far wr (w.heap.size + 1) (.slice Bs ss.length ds) (.slice Bt ts.length dt)))
        (And.intro (S_only hS hZ (by decide) (set2_far wr (w.heap.size + 1) (.slice Bs ss.length ds) (.slice Bt ts.length dt)))
        (set2_below hB (Nat.le_succ _) (.slice Bs ss.length ds) (.slice Bt ts.length dt))))
      clear hB hZ hG hR hS HJ HT HF
      go_wp2
      refine bodyPost_ret (v := .agg #[.slice Bs ss.length ds, .slice Bt ts.length dt]) (by simp [results, Tryz.results7, go_sem, *]) rfl ?_
      exact ⟨_, _, _, _, rfl, HX.out⟩
end Go.Proofs.YtmmiehckgkadgaaGreat.O
namespace Go.Proofs.YtmmiehckgkadgaaGreat.O
set_option linter.unusedVariables false
set_option linter.unusedSimpArgs false
open Go.RowKit Go.Proofs.YtmmiehckgkadgaaGreatW.PrintWords
theorem schAt_ {w : World} {A : Option Addr} {n : Nat} {xs : List Sch} (h : kSch.C w A n xs) (j : Nat) (hj : j < xs.length) : ∃ ad, A = some ad ∧ w.cell? (ad.add (j * 2)) = some (.string xs[j].name) ∧ w.cell? ⟨(ad.add (j * 2)).block, (ad.add (j * 2)).off + 1, none⟩ = some (.string xs[j].owner) := by
  have h1 := atSch h (j : Int) (by omega) (by have := h.1; omega)
  rw [show rdSch xs (j : Int) = xs[j] by simp [rdSch, List.getD_eq_getElem?_getD, List.getElem?_eq_getElem hj], Int.toNat_natCast] at h1
  exact h1
end Go.Proofs.YtmmiehckgkadgaaGreat.O
namespace Go.Proofs.YtmmiehckgkadgaaGreat.O
set_option linter.unusedVariables false
set_option linter.unusedSimpArgs false
open Go.RowKit Go.Proofs.YtmmiehckgkadgaaGreatW.PrintWords
end Go.Proofs.YtmmiehckgkadgaaGreat.O
