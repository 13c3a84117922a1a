/- The data that are handed in, read: an api.Objects (Table, Rule, Column) as the kinds' facts, with the bounds that the row's weights give. -/
import Derived.Test.YtmmiehckgkadgaaOK
import Derived.ChangeArms
import Derived.Deep.Slices
import Derived.SizedLaws
import Derived.Lib.SmallJoins
import Derived.Test.YtmmiehckgkadgaaOX
namespace Go.Proofs.Ytmmiehckgkadgaa.O
set_option linter.unusedVariables false
set_option linter.unusedSimpArgs false
open Go.RowKit Go.Proofs.YtmmiehckgkadgaaW.PrintWords

/-- every datum of type t that is read is a value of kind d, for which Z holds under the weights -/
def Opn {α : Type} (t : TypeId) (d : Kd α) (Z : α → Prop) : Prop := ∀ (H : Type) (enc : TypeId × Value → H) (W : World) (base : Nat) (spare : Nat → Bool) (held : Bool) (fuel : Nat) (cs : List Value) (x : DataW H × List MemPlace),
  DataW.trod enc Try.prog W base spare held fuel t cs = some x → (∀ n ∈ DataW.weights Try.prog t x.1, n ≤ 140737488351232) → ∃ p, d.K W p cs ∧ Z p
theorem opn_string {t : TypeId} (ht : Try.prog.underlying t = some .string) : Opn t Kd.string (fun s => s.size ≤ 140737488351232) := fun H enc W base spare held fuel cs x h hw => by
  obtain ⟨s, rfl, rfl, _⟩ := DataW.trod_string ht h
  refine ⟨s, rfl, ?_⟩
  have := hw s.data.toList.length (by simp [DataW.weights])
  rw [data_length] at this
  exact this
theorem opn_int {t : TypeId} (ht : Try.prog.underlying t = some (.int .i64)) : Opn t (Kd.int .i64) (fun _ => True) := fun H enc W base spare held fuel cs x h hw => by
  obtain ⟨n, rfl, rfl, _⟩ := DataW.trod_int ht h
  exact ⟨n, rfl, trivial⟩
theorem opn_bool {t : TypeId} (ht : Try.prog.underlying t = some .bool) : Opn t Kd.bool (fun _ => True) := fun H enc W base spare held fuel cs x h hw => by
  obtain ⟨b, rfl, rfl⟩ := DataW.trod_bool ht h
  exact ⟨b, rfl, trivial⟩
theorem list_of {α : Type} {Q : Nat → α → Prop} : ∀ (n : Nat), (∀ i, i < n → ∃ p, Q i p) → ∃ xs : List α, xs.length = n ∧ ∀ i p, xs[i]? = some p → Q i p
  | 0, _ => ⟨[], rfl, fun i p h => by simp at h⟩
  | n + 1, h => by
    obtain ⟨xs, hl, hq⟩ := list_of n fun i hi => h i (by omega)
    obtain ⟨p, hp⟩ := h n (by omega)
    refine ⟨xs ++ [p], by simp [hl], fun i q hi => ?_⟩
    rcases Nat.lt_or_ge i xs.length with h1 | h1
    · rw [List.getElem?_append_left h1] at hi; exact hq i q hi
    · rw [List.getElem?_append_right h1] at hi
      cases e : i - xs.length with
      | zero => rw [e] at hi; obtain rfl : p = q := by simpa using hi
                obtain rfl : i = n := by omega
                exact hp
      | succ k => rw [e] at hi; simp at hi
theorem cells_at {W : World} {base : Nat} {a : Addr} {n : Nat} {cs : List Value} (h : W.cells? base a n = some cs) : cs.length = n ∧ ∀ i u, cs[i]? = some u → W.cell? (a.add i) = some u := by
  unfold World.cells? at h
  split at h
  · have h2 : ∀ (l : List Nat) (f : Nat → Option Value) (cs : List Value), l.mapM f = some cs → cs.length = l.length ∧ ∀ (i : Nat) (u : Value) (k : Nat), l[i]? = some k → cs[i]? = some u → f k = some u := by
      intro l f
      induction l with
      | nil => intro cs h; simp at h; subst h; exact ⟨rfl, fun i u k h => by simp at h⟩
      | cons a l ih =>
        intro cs h
        rw [List.mapM_cons] at h
        cases ha : f a with
        | none => rw [ha] at h; simp at h
        | some v =>
          rw [ha] at h
          cases hl : l.mapM f with
          | none => rw [hl] at h; simp at h
          | some r =>
            rw [hl] at h
            obtain rfl : v :: r = cs := by simpa using h
            obtain ⟨h3, h4⟩ := ih r hl
            refine ⟨by simp [h3], fun i u k hk hu => ?_⟩
            cases i with
            | zero => simp at hk hu; rw [← hk, ← hu]; exact ha
            | succ i => exact h4 i u k (by simpa using hk) (by simpa using hu)
    obtain ⟨h3, h4⟩ := h2 _ _ _ h
    refine ⟨by simpa using h3, fun i u hu => h4 i u i ?_ hu⟩
    have hi : i < cs.length := (List.getElem?_eq_some_iff.1 hu).1
    rw [h3, List.length_range] at hi
    simp [hi]
  · cases h
theorem weights_all {H : Type} {P : Program} {e : TypeId} : ∀ {l : List (DataW H)} {d : DataW H}, d ∈ l → ∀ n ∈ DataW.weights P e d, n ∈ DataW.weightsAll P e l
  | a :: l, d, h, n, hn => by
    rw [DataW.weightsAll, List.mem_append]
    rcases List.mem_cons.1 h with rfl | h
    · exact Or.inl hn
    · exact Or.inr (weights_all h n hn)
theorem opn_slice {α : Type} {t e : TypeId} {d : Kd α} {Z : α → Prop} {B : Nat} (ht : Try.prog.underlying t = some (.slice e)) (hc : Try.prog.cellsOf e = d.sz) (hB : Try.prog.bytesOf e = B) (h : Opn e d Z) : Opn t (Kd.slice e d) (fun xs => xs.length * B ≤ 140737488351232 ∧ ∀ p ∈ xs, Z p) := fun H enc W base spare held fuel cs x hx hw => by
  rcases Go.Deep.open_slice ht hx with ⟨rfl, rfl⟩ | ⟨a, len, cap, m, n, D, Pl, rfl, hb, hl, hm, hmm, rfl, hi⟩
  · exact ⟨[], ⟨none, 0, rfl, Nat.le_refl _, Kd.C_nil d W⟩, by simp, fun p hp => by simp at hp⟩
  · have hlm : len ≤ m := by rw [hmm]; split <;> omega
    obtain ⟨xs, hxl, hq⟩ := list_of (Q := fun i p => (∃ cs', cs'.length = d.sz ∧ d.K W p cs' ∧ ∀ k u, cs'[k]? = some u → W.cell? ((a.add (i * d.sz)).add k) = some u) ∧ Z p) len (fun i hil => by
      obtain ⟨cs', h1, h2⟩ := hi i (by omega)
      have hmem : D i ∈ (List.range len).map D := List.mem_map.2 ⟨i, List.mem_range.2 hil, rfl⟩
      obtain ⟨p, hp, hz⟩ := h H enc W base spare held n cs' _ h2 (fun k hk => hw k (by
        rw [DataW.weights, ht]
        exact List.mem_cons_of_mem _ (List.mem_append.2 (Or.inl (weights_all hmem k hk)))))
      rw [hc] at h1
      obtain ⟨h3, h4⟩ := cells_at h1
      exact ⟨p, ⟨cs', h3, hp, h4⟩, hz⟩)
    have hbound : xs.length * B ≤ 140737488351232 := by
      have := hw _ (by rw [DataW.weights, ht]; exact List.mem_cons_self)
      rw [hB] at this
      refine Nat.le_trans (Nat.mul_le_mul_right _ ?_) this
      rw [hxl]; simp
    have hmx : maxLen ≤ 9223372036854775807 := by decide
    refine ⟨xs, ⟨some a, cap, by rw [hxl], by rw [hxl]; exact hl, rfl, by rw [hxl]; omega, fun _ => ⟨a, rfl, fun j p hp => ?_⟩⟩, hbound, fun p hp => by obtain ⟨j, hj, rfl⟩ := List.getElem_of_mem hp; exact (hq j _ (List.getElem?_eq_getElem hj)).2⟩
    obtain ⟨⟨cs', h1, h2, h3⟩, _⟩ := hq j p hp
    exact ⟨cs', h1, h2, fun i u hu => by rw [← Addr.add_add]; exact h3 i u hu⟩
/-- the fields from 'off' on -/
def OpnF {α : Type} (fs : List Field) (off : Nat) (d : Kd α) (Z : α → Prop) : Prop := ∀ (H : Type) (enc : TypeId × Value → H) (W : World) (base : Nat) (spare : Nat → Bool) (held : Bool) (n : Nat) (cs : List Value) (xs : List (DataW H × List MemPlace)),
  (∀ (i : Nat) (f : Field), fs[i]? = some f → DataW.trod enc Try.prog W base spare held n f.type ((cs.drop f.offset).take (Try.prog.cellsOf f.type)) = xs[i]?) → xs.length = fs.length → (∀ k ∈ DataW.weightsEach Try.prog (fs.map (·.type)) (xs.map (·.1)), k ≤ 140737488351232) →
  ∃ p, d.K W p ((cs.drop off).take d.sz) ∧ Z p
theorem opnF_one {α : Type} {f : Field} {off : Nat} {d : Kd α} {Z : α → Prop} (h : Opn f.type d Z) (ho : f.offset = off) (hc : Try.prog.cellsOf f.type = d.sz) : OpnF [f] off d Z := fun H enc W base spare held n cs xs hx hl hw => by
  match xs, hl with
  | [x], _ =>
    have h0 := hx 0 f rfl
    rw [ho, hc] at h0
    exact h H enc W base spare held n _ x h0 (fun k hk => hw k (by simpa [DataW.weightsEach] using hk))
theorem opnF_cons {α β : Type} {f : Field} {fs : List Field} {off : Nat} {d : Kd α} {e : Kd β} {Z : α → Prop} {Y : β → Prop} (h : Opn f.type d Z) (ho : f.offset = off) (hc : Try.prog.cellsOf f.type = d.sz) (hr : OpnF fs (off + d.sz) e Y) : OpnF (f :: fs) off (Kd.pair d e) (fun p => Z p.1 ∧ Y p.2) := fun H enc W base spare held n cs xs hx hl hw => by
  match xs, hl with
  | x :: r, hl =>
    have h0 := hx 0 f rfl
    rw [ho, hc] at h0
    obtain ⟨p, hp, hz⟩ := h H enc W base spare held n _ x h0 (fun k hk => hw k (by simp only [List.map_cons, DataW.weightsEach, List.mem_append]; exact Or.inl hk))
    obtain ⟨q, hq, hy⟩ := hr H enc W base spare held n cs r (fun i g hg => hx (i + 1) g hg) (by simpa using hl) (fun k hk => hw k (by simp only [List.map_cons, DataW.weightsEach, List.mem_append]; exact Or.inr hk))
    refine ⟨(p, q), ⟨_, _, ?_, hp, hq⟩, hz, hy⟩
    show (cs.drop off).take (d.sz + e.sz) = _
    rw [List.take_add, List.drop_drop]
theorem opn_struct {α β : Type} {t : TypeId} {fs : List Field} {d : Kd α} {Z : α → Prop} {g : β → α} {g' : α → β} (ht : Try.prog.underlying t = some (.struct fs.toArray)) (hc : Try.prog.cellsOf t = d.sz) (hg : ∀ p, g (g' p) = p) (h : OpnF fs 0 d Z) : Opn t (Kd.iso d g) (fun x => Z (g x)) := fun H enc W base spare held fuel cs x hx hw => by
  obtain ⟨xs, n, _, rfl, hl, hlen, hf⟩ := DataW.trod_struct ht hx
  obtain ⟨p, hp, hz⟩ := h H enc W base spare held n cs xs (fun i f hfi => hf i f (by simpa using hfi)) (by simpa using hlen) (fun k hk => hw k (by rw [DataW.weights, ht]; simpa using hk))
  rw [hc] at hl
  rw [List.drop_zero, List.take_of_length_le (by omega)] at hp
  exact ⟨g' p, by show d.K W (g (g' p)) cs; rw [hg]; exact hp, by show Z (g (g' p)); rw [hg]; exact hz⟩

theorem opn_Str : Opn 9 Kd.string (fun s => s.size ≤ 140737488351232) := opn_string Try.underlying9
theorem opn_Col : Opn 41 kCol (fun x => x.name.size ≤ 140737488351232 ∧ True ∧ True) :=
  opn_struct (g' := fun p => ⟨p.1, p.2.1, p.2.2⟩) Try.underlying41 (by kernel_rfl) (fun _ => rfl) (opnF_cons opn_Str rfl (by kernel_rfl) (opnF_cons (opn_int Try.underlying39) rfl (by kernel_rfl) (opnF_one (opn_bool Try.underlying4) rfl (by kernel_rfl))))
theorem opn_Sch : Opn 63 kSch (fun x => x.name.size ≤ 140737488351232 ∧ x.owner.size ≤ 140737488351232) :=
  opn_struct (g' := fun p => ⟨p.1, p.2⟩) Try.underlying63 (by kernel_rfl) (fun _ => rfl) (opnF_cons opn_Str rfl (by kernel_rfl) (opnF_one opn_Str rfl (by kernel_rfl)))
theorem opn_Strs : Opn 55 (Kd.slice 9 Kd.string) (fun xs => xs.length * 16 ≤ 140737488351232 ∧ ∀ p ∈ xs, p.size ≤ 140737488351232) := opn_slice Try.underlying55 (by kernel_rfl) (by kernel_rfl) opn_Str
theorem opn_Rul : Opn 57 kRul (fun x => x.name.size ≤ 140737488351232 ∧ True ∧ (x.cols.length * 16 ≤ 140737488351232 ∧ ∀ p ∈ x.cols, p.size ≤ 140737488351232) ∧ True ∧ True ∧ x.schema.size ≤ 140737488351232 ∧ x.table.size ≤ 140737488351232 ∧ x.key.size ≤ 140737488351232) :=
  opn_struct (g' := fun p => ⟨p.1, p.2.1, p.2.2.1, p.2.2.2.1, p.2.2.2.2.1, p.2.2.2.2.2.1, p.2.2.2.2.2.2.1, p.2.2.2.2.2.2.2⟩) Try.underlying57 (by kernel_rfl) (fun _ => rfl)
    (opnF_cons opn_Str rfl (by kernel_rfl) (opnF_cons (opn_int Try.underlying54) rfl (by kernel_rfl) (opnF_cons opn_Strs rfl (by kernel_rfl) (opnF_cons (opn_int Try.underlying3) rfl (by kernel_rfl) (opnF_cons (opn_int Try.underlying3) rfl (by kernel_rfl) (opnF_cons opn_Str rfl (by kernel_rfl) (opnF_cons opn_Str rfl (by kernel_rfl) (opnF_one opn_Str rfl (by kernel_rfl)))))))))
theorem opn_Cols : Opn 32 (Kd.slice 41 kCol) (fun xs => xs.length * 32 ≤ 140737488351232 ∧ ∀ p ∈ xs, p.name.size ≤ 140737488351232 ∧ True ∧ True) := opn_slice Try.underlying32 (by kernel_rfl) (by kernel_rfl) opn_Col
def RulW (x : Rul) : Prop := x.name.size ≤ 140737488351232 ∧ True ∧ (x.cols.length * 16 ≤ 140737488351232 ∧ ∀ p ∈ x.cols, p.size ≤ 140737488351232) ∧ True ∧ True ∧ x.schema.size ≤ 140737488351232 ∧ x.table.size ≤ 140737488351232 ∧ x.key.size ≤ 140737488351232
def TabW (x : Tab) : Prop := x.schema.size ≤ 140737488351232 ∧ x.name.size ≤ 140737488351232 ∧ x.owner.size ≤ 140737488351232 ∧ (x.cols.length * 32 ≤ 140737488351232 ∧ ∀ p ∈ x.cols, p.name.size ≤ 140737488351232 ∧ True ∧ True) ∧ (x.rules.length * 112 ≤ 140737488351232 ∧ ∀ p ∈ x.rules, RulW p)
theorem opn_Ruls : Opn 33 (Kd.slice 57 kRul) (fun xs => xs.length * 112 ≤ 140737488351232 ∧ ∀ p ∈ xs, RulW p) := opn_slice (t := 33) (e := 57) (B := 112) Try.underlying33 (by kernel_rfl) (by kernel_rfl) opn_Rul
theorem opn_Tab : Opn 35 kTab TabW := opn_struct (t := 35) (β := Tab) (g := fun x : Tab => (x.schema, x.name, x.owner, x.cols, x.rules)) (g' := fun p => ⟨p.1, p.2.1, p.2.2.1, p.2.2.2.1, p.2.2.2.2⟩) Try.underlying35 (by kernel_rfl) (fun _ => rfl)
    (opnF_cons opn_Str rfl (by kernel_rfl) (opnF_cons opn_Str rfl (by kernel_rfl) (opnF_cons opn_Str rfl (by kernel_rfl) (opnF_cons opn_Cols rfl (by kernel_rfl) (opnF_one opn_Ruls rfl (by kernel_rfl))))))
theorem opn_Tabs : Opn 24 (Kd.slice 35 kTab) (fun xs => xs.length * 96 ≤ 140737488351232 ∧ ∀ p ∈ xs, TabW p) := opn_slice (t := 24) (e := 35) (B := 96) (d := kTab) Try.underlying24 (by kernel_rfl) (by kernel_rfl) opn_Tab
theorem opn_Schs : Opn 23 (Kd.slice 63 kSch) (fun xs => xs.length * 32 ≤ 140737488351232 ∧ ∀ p ∈ xs, p.name.size ≤ 140737488351232 ∧ p.owner.size ≤ 140737488351232) := opn_slice (t := 23) (e := 63) (B := 32) Try.underlying23 (by kernel_rfl) (by kernel_rfl) opn_Sch

/-- an api.Objects as a value: its two slices -/
def objV (x : List Sch × List Tab) (c : Option Addr × Nat × Option Addr × Nat) : Value := .agg #[.slice c.1 x.1.length c.2.1, .slice c.2.2.1 x.2.length c.2.2.2]
def ObjIn (W : World) (x : List Sch × List Tab) (c : Option Addr × Nat × Option Addr × Nat) : Prop := kSch.C W c.1 x.1.length x.1 ∧ x.1.length ≤ 4398046511104 ∧ kTab.C W c.2.2.1 x.2.length x.2 ∧ TabsF x.2 ∧ x.1.length ≤ c.2.1 ∧ x.2.length ≤ c.2.2.2 ∧ x.2.length ≤ 1466015503659
set_option maxRecDepth 100000 in
theorem open_Objs {H : Type} {enc : TypeId × Value → H} {W : World} {base : Nat} {spare : Nat → Bool} {held : Bool} {r : Reach} {b0 : Nat} {v : Value} {d : DataW H} {p : List MemPlace} (hv : Value.okWide Try.prog W r b0 26 v) (h : DataW.Trod enc Try.prog W base spare held 26 v d p) (hw : ∀ n ∈ DataW.weights Try.prog 26 d, n ≤ 140737488351232) :
    ∃ x c, v = objV x c ∧ ObjIn W x c := by
  obtain ⟨v0, v1, y0, y1, n, rfl, rfl, rfl, h0, h1⟩ := Go.Joins.open_agg2 Try.underlying26 (by kernel_rfl) (by kernel_rfl) hv h
  have hw' : ∀ k ∈ DataW.weightsEach Try.prog [23, 24] [y0.1, y1.1], k ≤ 140737488351232 := fun k hk => hw k (by rw [DataW.weights, Try.underlying26]; exact hk)
  obtain ⟨ss, hs, zs⟩ := opn_Schs H enc W base spare held n _ y0 h0 (fun k hk => hw' k (by simp only [DataW.weightsEach, List.mem_append]; exact Or.inl hk))
  obtain ⟨ts, ht, zt⟩ := opn_Tabs H enc W base spare held n _ y1 h1 (fun k hk => hw' k (by simp only [DataW.weightsEach, List.mem_append]; exact Or.inr (Or.inl hk)))
  obtain ⟨As, cs, e0, l0, c0⟩ := hs
  obtain ⟨At, ct, e1, l1, c1⟩ := ht
  obtain rfl : v0 = .slice As ss.length cs := by simpa using e0
  obtain rfl : v1 = .slice At ts.length ct := by simpa using e1
  refine ⟨(ss, ts), (As, cs, At, ct), rfl, c0, by have := zs.1; show ss.length ≤ _; omega, c1, ⟨by have := zt.1; show ts.length ≤ _; omega, fun t htm => ?_⟩, l0, l1, by have := zt.1; show ts.length ≤ _; omega⟩
  have z := zt.2 t htm
  refine ⟨by have := z.2.2.2.1.1; show t.cols.length ≤ _; have h2 : t.cols.length * 32 ≤ 140737488351232 := this; omega, by have h2 : t.rules.length * 112 ≤ 140737488351232 := z.2.2.2.2.1; omega, fun r hr => ?_⟩
  have y := z.2.2.2.2.2 r hr
  have h2 : r.cols.length * 16 ≤ 140737488351232 := y.2.2.1.1
  have h3 : r.schema.size ≤ 140737488351232 := y.2.2.2.2.2.1
  have h4 : r.table.size ≤ 140737488351232 := y.2.2.2.2.2.2.1
  have h5 : r.key.size ≤ 140737488351232 := y.2.2.2.2.2.2.2
  exact ⟨by omega, by omega, by omega, by omega⟩
theorem law_ObjectsChecks.deep (x : List Sch × List Tab) (c : Option Addr × Nat × Option Addr × Nat) (w : World) (h : ObjIn w x c) : Calls Try.prog 4 #[objV x c] w fun e w' => e = .returned (.bool true) ∧ Below w.heap.size w w' :=
  law_ObjectsChecks.calls x.1 x.2 w h.1 (by have := h.2.1; omega) h.2.2.1 h.2.2.2.1
end Go.Proofs.Ytmmiehckgkadgaa.O
