/- Own lemmas and walks (OR, CO, PL, TG, TL), without what the law does not need. Laid by a program of this session (prune.py). -/
import Derived.ChangeArms
import Derived.Deep.Slices
import Derived.SizedLaws
import Derived.Lib.SmallJoins
import Derived.Test.YtmmiehckgkadgaaGreatPr2
import Derived.Test.YtmmiehckgkadgaaGreatPr12
import Derived.Test.YtmmiehckgkadgaaGreatPr13
import Derived.Test.YtmmiehckgkadgaaGreatPr19
import Derived.Test.YtmmiehckgkadgaaGreatPr20
import Derived.Test.YtmmiehckgkadgaaGreatPr23
namespace Go.Proofs.YtmmiehckgkadgaaGreat.O
set_option linter.unusedVariables false
set_option linter.unusedSimpArgs false
open Go.RowKit Go.Proofs.YtmmiehckgkadgaaGreatW.PrintWords
def Opn {α : Type} (t : TypeId) (d : Kd α) (Z : α → Prop) : Prop := ∀ (H : Type) (enc : TypeId × Value → H) (W : World) (base : Nat) (spare : Nat → Bool) (held : Bool) (fuel : Nat) (cs : List Value) (x : DataW H × List MemPlace),
  DataW.trod enc Tryz.prog W base spare held fuel t cs = some x → (∀ n ∈ DataW.weights Tryz.prog t x.1, n ≤ 140737488351232) → ∃ p, d.K W p cs ∧ Z p
theorem opn_string {t : TypeId} (ht : Tryz.prog.underlying t = some .string) : Opn t Kd.string (fun s => s.size ≤ 140737488351232) := fun H enc W base spare held fuel cs x h hw => by
  obtain ⟨s, rfl, rfl, _⟩ := DataW.trod_string ht h
  refine ⟨s, rfl, ?_⟩
  have := hw s.data.toList.length (by simp [DataW.weights])
  rw [data_length] at this
  exact this
theorem opn_int {t : TypeId} (ht : Tryz.prog.underlying t = some (.int .i64)) : Opn t (Kd.int .i64) (fun _ => True) := fun H enc W base spare held fuel cs x h hw => by
  obtain ⟨n, rfl, rfl, _⟩ := DataW.trod_int ht h
  exact ⟨n, rfl, trivial⟩
theorem opn_bool {t : TypeId} (ht : Tryz.prog.underlying t = some .bool) : Opn t Kd.bool (fun _ => True) := fun H enc W base spare held fuel cs x h hw => by
  obtain ⟨b, rfl, rfl⟩ := DataW.trod_bool ht h
  exact ⟨b, rfl, trivial⟩
theorem list_of {α : Type} {Q : Nat → α → Prop} : ∀ (n : Nat), (∀ i, i < n → ∃ p, Q i p) → ∃ xs : List α, xs.length = n ∧ ∀ i p, xs[i]? = some p → Q i p
  | 0, _ => ⟨[], rfl, fun i p h => by simp at h⟩
  | n + 1, h => by
    obtain ⟨xs, hl, hq⟩ := list_of n fun i hi => h i (by omega)
    obtain ⟨p, hp⟩ := h n (by omega)
    refine ⟨xs ++ [p], by simp [hl], fun i q hi => ?_⟩
    rcases Nat.lt_or_ge i xs.length with h1 | h1
    · rw [List.getElem?_append_left h1] at hi; exact hq i q hi
    · rw [List.getElem?_append_right h1] at hi
      cases e : i - xs.length with
      | zero => rw [e] at hi; obtain rfl : p = q := by simpa using hi
                obtain rfl : i = n := by omega
                exact hp
      | succ k => rw [e] at hi; simp at hi
theorem cells_at {W : World} {base : Nat} {a : Addr} {n : Nat} {cs : List Value} (h : W.cells? base a n = some cs) : cs.length = n ∧ ∀ i u, cs[i]? = some u → W.cell? (a.add i) = some u := by
  unfold World.cells? at h
  split at h
  · have h2 : ∀ (l : List Nat) (f : Nat → Option Value) (cs : List Value), l.mapM f = some cs → cs.length = l.length ∧ ∀ (i : Nat) (u : Value) (k : Nat), l[i]? = some k → cs[i]? = some u → f k = some u := by
      intro l f
      induction l with
      | nil => intro cs h; simp at h; subst h; exact ⟨rfl, fun i u k h => by simp at h⟩
      | cons a l ih =>
        intro cs h
        rw [List.mapM_cons] at h
        cases ha : f a with
        | none => rw [ha] at h; simp at h
        | some v =>
          rw [ha] at h
          cases hl : l.mapM f with
          | none => rw [hl] at h; simp at h
          | some r =>
            rw [hl] at h
            obtain rfl : v :: r = cs := by simpa using h
            obtain ⟨h3, h4⟩ := ih r hl
            refine ⟨by simp [h3], fun i u k hk hu => ?_⟩
            cases i with
            | zero => simp at hk hu; rw [← hk, ← hu]; exact ha
            | succ i => exact h4 i u k (by simpa using hk) (by simpa using hu)
    obtain ⟨h3, h4⟩ := h2 _ _ _ h
    refine ⟨by simpa using h3, fun i u hu => h4 i u i ?_ hu⟩
    have hi : i < cs.length := (List.getElem?_eq_some_iff.1 hu).1
    rw [h3, List.length_range] at hi
    simp [hi]
  · cases h
theorem weights_all {H : Type} {P : Program} {e : TypeId} : ∀ {l : List (DataW H)} {d : DataW H}, d ∈ l → ∀ n ∈ DataW.weights P e d, n ∈ DataW.weightsAll P e l
  | a :: l, d, h, n, hn => by
    rw [DataW.weightsAll, List.mem_append]
    rcases List.mem_cons.1 h with rfl | h
    · exact Or.inl hn
    · exact Or.inr (weights_all h n hn)
theorem opn_slice {α : Type} {t e : TypeId} {d : Kd α} {Z : α → Prop} {B : Nat} (ht : Tryz.prog.underlying t = some (.slice e)) (hc : Tryz.prog.cellsOf e = d.sz) (hB : Tryz.prog.bytesOf e = B) (h : Opn e d Z) : Opn t (Kd.slice e d) (fun xs => xs.length * B ≤ 140737488351232 ∧ ∀ p ∈ xs, Z p) := fun H enc W base spare held fuel cs x hx hw => by
  rcases Go.Deep.open_slice ht hx with ⟨rfl, rfl⟩ | ⟨a, len, cap, m, n, D, Pl, rfl, hb, hl, hm, hmm, rfl, hi⟩
  · exact ⟨[], ⟨none, 0, rfl, Nat.le_refl _, Kd.C_nil d W⟩, by simp, fun p hp => by simp at hp⟩
  · have hlm : len ≤ m := by rw [hmm]; split <;> omega
    obtain ⟨xs, hxl, hq⟩ := list_of (Q := fun i p => (∃ cs', cs'.length = d.sz ∧ d.K W p cs' ∧ ∀ k u, cs'[k]? = some u → W.cell? ((a.add (i * d.sz)).add k) = some u) ∧ Z p) len (fun i hil => by
      obtain ⟨cs', h1, h2⟩ := hi i (by omega)
      have hmem : D i ∈ (List.range len).map D := List.mem_map.2 ⟨i, List.mem_range.2 hil, rfl⟩
      obtain ⟨p, hp, hz⟩ := h H enc W base spare held n cs' _ h2 (fun k hk => hw k (by
        rw [DataW.weights, ht]
        exact List.mem_cons_of_mem _ (List.mem_append.2 (Or.inl (weights_all hmem k hk)))))
      rw [hc] at h1
      obtain ⟨h3, h4⟩ := cells_at h1
      exact ⟨p, ⟨cs', h3, hp, h4⟩, hz⟩)
    have hbound : xs.length * B ≤ 140737488351232 := by
      have := hw _ (by rw [DataW.weights, ht]; exact List.mem_cons_self)
      rw [hB] at this
      refine Nat.le_trans (Nat.mul_le_mul_right _ ?_) this
      rw [hxl]; simp
    have hmx : maxLen ≤ 9223372036854775807 := by decide
    refine ⟨xs, ⟨some a, cap, by rw [hxl], by rw [hxl]; exact hl, rfl, by rw [hxl]; omega, fun _ => ⟨a, rfl, fun j p hp => ?_⟩⟩, hbound, fun p hp => by obtain ⟨j, hj, rfl⟩ := List.getElem_of_mem hp; exact (hq j _ (List.getElem?_eq_getElem hj)).2⟩
    obtain ⟨⟨cs', h1, h2, h3⟩, _⟩ := hq j p hp
    exact ⟨cs', h1, h2, fun i u hu => by rw [← Addr.add_add]; exact h3 i u hu⟩
def OpnF {α : Type} (fs : List Field) (off : Nat) (d : Kd α) (Z : α → Prop) : Prop := ∀ (H : Type) (enc : TypeId × Value → H) (W : World) (base : Nat) (spare : Nat → Bool) (held : Bool) (n : Nat) (cs : List Value) (xs : List (DataW H × List MemPlace)),
  (∀ (i : Nat) (f : Field), fs[i]? = some f → DataW.trod enc Tryz.prog W base spare held n f.type ((cs.drop f.offset).take (Tryz.prog.cellsOf f.type)) = xs[i]?) → xs.length = fs.length → (∀ k ∈ DataW.weightsEach Tryz.prog (fs.map (·.type)) (xs.map (·.1)), k ≤ 140737488351232) →
  ∃ p, d.K W p ((cs.drop off).take d.sz) ∧ Z p
theorem opnF_one {α : Type} {f : Field} {off : Nat} {d : Kd α} {Z : α → Prop} (h : Opn f.type d Z) (ho : f.offset = off) (hc : Tryz.prog.cellsOf f.type = d.sz) : OpnF [f] off d Z := fun H enc W base spare held n cs xs hx hl hw => by
  match xs, hl with
  | [x], _ =>
    have h0 := hx 0 f rfl
    rw [ho, hc] at h0
    exact h H enc W base spare held n _ x h0 (fun k hk => hw k (by simpa [DataW.weightsEach] using hk))
theorem opnF_cons {α β : Type} {f : Field} {fs : List Field} {off : Nat} {d : Kd α} {e : Kd β} {Z : α → Prop} {Y : β → Prop} (h : Opn f.type d Z) (ho : f.offset = off) (hc : Tryz.prog.cellsOf f.type = d.sz) (hr : OpnF fs (off + d.sz) e Y) : OpnF (f :: fs) off (Kd.pair d e) (fun p => Z p.1 ∧ Y p.2) := fun H enc W base spare held n cs xs hx hl hw => by
  match xs, hl with
  | x :: r, hl =>
    have h0 := hx 0 f rfl
    rw [ho, hc] at h0
    obtain ⟨p, hp, hz⟩ := h H enc W base spare held n _ x h0 (fun k hk => hw k (by simp only [List.map_cons, DataW.weightsEach, List.mem_append]; exact Or.inl hk))
    obtain ⟨q, hq, hy⟩ := hr H enc W base spare held n cs r (fun i g hg => hx (i + 1) g hg) (by simpa using hl) (fun k hk => hw k (by simp only [List.map_cons, DataW.weightsEach, List.mem_append]; exact Or.inr hk))
    refine ⟨(p, q), ⟨_, _, ?_, hp, hq⟩, hz, hy⟩
    show (cs.drop off).take (d.sz + e.sz) = _
    rw [List.take_add, List.drop_drop]
theorem opn_struct {α β : Type} {t : TypeId} {fs : List Field} {d : Kd α} {Z : α → Prop} {g : β → α} {g' : α → β} (ht : Tryz.prog.underlying t = some (.struct fs.toArray)) (hc : Tryz.prog.cellsOf t = d.sz) (hg : ∀ p, g (g' p) = p) (h : OpnF fs 0 d Z) : Opn t (Kd.iso d g) (fun x => Z (g x)) := fun H enc W base spare held fuel cs x hx hw => by
  obtain ⟨xs, n, _, rfl, hl, hlen, hf⟩ := DataW.trod_struct ht hx
  obtain ⟨p, hp, hz⟩ := h H enc W base spare held n cs xs (fun i f hfi => hf i f (by simpa using hfi)) (by simpa using hlen) (fun k hk => hw k (by rw [DataW.weights, ht]; simpa using hk))
  rw [hc] at hl
  rw [List.drop_zero, List.take_of_length_le (by omega)] at hp
  exact ⟨g' p, by show d.K W (g (g' p)) cs; rw [hg]; exact hp, by show Z (g (g' p)); rw [hg]; exact hz⟩
theorem opn_Str : Opn 9 Kd.string (fun s => s.size ≤ 140737488351232) := opn_string Tryz.underlying9
theorem opn_Col : Opn 41 kCol (fun x => x.name.size ≤ 140737488351232 ∧ True ∧ True) :=
  opn_struct (g' := fun p => ⟨p.1, p.2.1, p.2.2⟩) Tryz.underlying41 (by kernel_rfl) (fun _ => rfl) (opnF_cons opn_Str rfl (by kernel_rfl) (opnF_cons (opn_int Tryz.underlying39) rfl (by kernel_rfl) (opnF_one (opn_bool Tryz.underlying4) rfl (by kernel_rfl))))
theorem opn_Sch : Opn 76 kSch (fun x => x.name.size ≤ 140737488351232 ∧ x.owner.size ≤ 140737488351232) :=
  opn_struct (g' := fun p => ⟨p.1, p.2⟩) Tryz.underlying76 (by kernel_rfl) (fun _ => rfl) (opnF_cons opn_Str rfl (by kernel_rfl) (opnF_one opn_Str rfl (by kernel_rfl)))
theorem opn_Strs : Opn 27 (Kd.slice 9 Kd.string) (fun xs => xs.length * 16 ≤ 140737488351232 ∧ ∀ p ∈ xs, p.size ≤ 140737488351232) := opn_slice Tryz.underlying27 (by kernel_rfl) (by kernel_rfl) opn_Str
theorem opn_Rul : Opn 29 kRul (fun x => x.name.size ≤ 140737488351232 ∧ True ∧ (x.cols.length * 16 ≤ 140737488351232 ∧ ∀ p ∈ x.cols, p.size ≤ 140737488351232) ∧ True ∧ True ∧ x.schema.size ≤ 140737488351232 ∧ x.table.size ≤ 140737488351232 ∧ x.key.size ≤ 140737488351232) :=
  opn_struct (g' := fun p => ⟨p.1, p.2.1, p.2.2.1, p.2.2.2.1, p.2.2.2.2.1, p.2.2.2.2.2.1, p.2.2.2.2.2.2.1, p.2.2.2.2.2.2.2⟩) Tryz.underlying29 (by kernel_rfl) (fun _ => rfl)
    (opnF_cons opn_Str rfl (by kernel_rfl) (opnF_cons (opn_int Tryz.underlying26) rfl (by kernel_rfl) (opnF_cons opn_Strs rfl (by kernel_rfl) (opnF_cons (opn_int Tryz.underlying3) rfl (by kernel_rfl) (opnF_cons (opn_int Tryz.underlying3) rfl (by kernel_rfl) (opnF_cons opn_Str rfl (by kernel_rfl) (opnF_cons opn_Str rfl (by kernel_rfl) (opnF_one opn_Str rfl (by kernel_rfl)))))))))
theorem opn_Cols : Opn 47 (Kd.slice 41 kCol) (fun xs => xs.length * 32 ≤ 140737488351232 ∧ ∀ p ∈ xs, p.name.size ≤ 140737488351232 ∧ True ∧ True) := opn_slice Tryz.underlying47 (by kernel_rfl) (by kernel_rfl) opn_Col
def RulW (x : Rul) : Prop := x.name.size ≤ 140737488351232 ∧ True ∧ (x.cols.length * 16 ≤ 140737488351232 ∧ ∀ p ∈ x.cols, p.size ≤ 140737488351232) ∧ True ∧ True ∧ x.schema.size ≤ 140737488351232 ∧ x.table.size ≤ 140737488351232 ∧ x.key.size ≤ 140737488351232
def TabW (x : Tab) : Prop := x.schema.size ≤ 140737488351232 ∧ x.name.size ≤ 140737488351232 ∧ x.owner.size ≤ 140737488351232 ∧ (x.cols.length * 32 ≤ 140737488351232 ∧ ∀ p ∈ x.cols, p.name.size ≤ 140737488351232 ∧ True ∧ True) ∧ (x.rules.length * 112 ≤ 140737488351232 ∧ ∀ p ∈ x.rules, RulW p)
theorem opn_Ruls : Opn 48 (Kd.slice 29 kRul) (fun xs => xs.length * 112 ≤ 140737488351232 ∧ ∀ p ∈ xs, RulW p) := opn_slice (t := 48) (e := 29) (B := 112) Tryz.underlying48 (by kernel_rfl) (by kernel_rfl) opn_Rul
theorem opn_Tab : Opn 50 kTab TabW := opn_struct (t := 50) (β := Tab) (g := fun x : Tab => (x.schema, x.name, x.owner, x.cols, x.rules)) (g' := fun p => ⟨p.1, p.2.1, p.2.2.1, p.2.2.2.1, p.2.2.2.2⟩) Tryz.underlying50 (by kernel_rfl) (fun _ => rfl)
    (opnF_cons opn_Str rfl (by kernel_rfl) (opnF_cons opn_Str rfl (by kernel_rfl) (opnF_cons opn_Str rfl (by kernel_rfl) (opnF_cons opn_Cols rfl (by kernel_rfl) (opnF_one opn_Ruls rfl (by kernel_rfl))))))
theorem opn_Tabs : Opn 23 (Kd.slice 50 kTab) (fun xs => xs.length * 96 ≤ 140737488351232 ∧ ∀ p ∈ xs, TabW p) := opn_slice (t := 23) (e := 50) (B := 96) (d := kTab) Tryz.underlying23 (by kernel_rfl) (by kernel_rfl) opn_Tab
theorem opn_Schs : Opn 22 (Kd.slice 76 kSch) (fun xs => xs.length * 32 ≤ 140737488351232 ∧ ∀ p ∈ xs, p.name.size ≤ 140737488351232 ∧ p.owner.size ≤ 140737488351232) := opn_slice (t := 22) (e := 76) (B := 32) Tryz.underlying22 (by kernel_rfl) (by kernel_rfl) opn_Sch
def objV (x : List Sch × List Tab) (c : Option Addr × Nat × Option Addr × Nat) : Value := .agg #[.slice c.1 x.1.length c.2.1, .slice c.2.2.1 x.2.length c.2.2.2]
def ObjIn (W : World) (x : List Sch × List Tab) (c : Option Addr × Nat × Option Addr × Nat) : Prop := kSch.C W c.1 x.1.length x.1 ∧ x.1.length ≤ 4398046511104 ∧ kTab.C W c.2.2.1 x.2.length x.2 ∧ TabsF x.2 ∧ x.1.length ≤ c.2.1 ∧ x.2.length ≤ c.2.2.2 ∧ x.2.length ≤ 1466015503659
set_option maxRecDepth 100000 in
theorem open_Objs {H : Type} {enc : TypeId × Value → H} {W : World} {base : Nat} {spare : Nat → Bool} {held : Bool} {r : Reach} {b0 : Nat} {v : Value} {d : DataW H} {p : List MemPlace} (hv : Value.okWide Tryz.prog W r b0 25 v) (h : DataW.Trod enc Tryz.prog W base spare held 25 v d p) (hw : ∀ n ∈ DataW.weights Tryz.prog 25 d, n ≤ 140737488351232) :
    ∃ x c, v = objV x c ∧ ObjIn W x c := by
  obtain ⟨v0, v1, y0, y1, n, rfl, rfl, rfl, h0, h1⟩ := Go.Joins.open_agg2 Tryz.underlying25 (by kernel_rfl) (by kernel_rfl) hv h
  have hw' : ∀ k ∈ DataW.weightsEach Tryz.prog [22, 23] [y0.1, y1.1], k ≤ 140737488351232 := fun k hk => hw k (by rw [DataW.weights, Tryz.underlying25]; exact hk)
  obtain ⟨ss, hs, zs⟩ := opn_Schs H enc W base spare held n _ y0 h0 (fun k hk => hw' k (by simp only [DataW.weightsEach, List.mem_append]; exact Or.inl hk))
  obtain ⟨ts, ht, zt⟩ := opn_Tabs H enc W base spare held n _ y1 h1 (fun k hk => hw' k (by simp only [DataW.weightsEach, List.mem_append]; exact Or.inr (Or.inl hk)))
  obtain ⟨As, cs, e0, l0, c0⟩ := hs
  obtain ⟨At, ct, e1, l1, c1⟩ := ht
  obtain rfl : v0 = .slice As ss.length cs := by simpa using e0
  obtain rfl : v1 = .slice At ts.length ct := by simpa using e1
  refine ⟨(ss, ts), (As, cs, At, ct), rfl, c0, by have := zs.1; show ss.length ≤ _; omega, c1, ⟨by have := zt.1; show ts.length ≤ _; omega, fun t htm => ?_⟩, l0, l1, by have := zt.1; show ts.length ≤ _; omega⟩
  have z := zt.2 t htm
  refine ⟨by have := z.2.2.2.1.1; show t.cols.length ≤ _; have h2 : t.cols.length * 32 ≤ 140737488351232 := this; omega, by have h2 : t.rules.length * 112 ≤ 140737488351232 := z.2.2.2.2.1; omega, fun r hr => ?_⟩
  have y := z.2.2.2.2.2 r hr
  have h2 : r.cols.length * 16 ≤ 140737488351232 := y.2.2.1.1
  have h3 : r.schema.size ≤ 140737488351232 := y.2.2.2.2.2.1
  have h4 : r.table.size ≤ 140737488351232 := y.2.2.2.2.2.2.1
  have h5 : r.key.size ≤ 140737488351232 := y.2.2.2.2.2.2.2
  exact ⟨by omega, by omega, by omega, by omega⟩
end Go.Proofs.YtmmiehckgkadgaaGreat.O
namespace Go.Proofs.YtmmiehckgkadgaaGreat.O
set_option linter.unusedVariables false
set_option linter.unusedSimpArgs false
open Go.RowKit Go.Proofs.YtmmiehckgkadgaaGreatW.PrintWords
theorem tabB_of {t : Tab} (h : TabS t) : TabB t := ⟨h.1, h.2.1, fun r hr => h.2.2 r hr⟩
theorem tabsB_of {ss : List Sch} {ts : List Tab} (h : ObjS ss ts) : TabsB ts := ⟨h.2.1, fun t ht => tabB_of (h.2.2 t ht)⟩
def OF (W : World) (ok : Nat → Prop) (As At : Option Addr) (ss : List Sch) (ts : List Tab) : Prop := Kd.F kSch W ok As ss.length ss ∧ Kd.F kTab W ok At ts.length ts
def OM (W : World) (b e : Nat) (vs vt : Value) (ss : List Sch) (ts : List Tab) : Prop := kSch.R 76 W b (fun k => b ≤ k ∧ k < e) vs ss ∧ kTab.R 50 W b (fun k => b ≤ k ∧ k < e) vt ts
theorem OF.step {W W' : World} {ok S : Nat → Prop} {As At : Option Addr} {ss : List Sch} {ts : List Tab} (h : OF W ok As At ss ts) (hs : Spr S W W') (hd : ∀ k, ok k → ¬ S k) : OF W' ok As At ss ts :=
  ⟨Kd.F_step h.1 (fun k hk hlt => hs.2.2.2.2 k hlt (hd k hk)), Kd.F_step h.2 (fun k hk hlt => hs.2.2.2.2 k hlt (hd k hk))⟩
theorem OF.below {W W' : World} {ok : Nat → Prop} {As At : Option Addr} {ss : List Sch} {ts : List Tab} (h : OF W ok As At ss ts) (hb : Below W.heap.size W W') : OF W' ok As At ss ts := ⟨Kd.F_below h.1 hb, Kd.F_below h.2 hb⟩
theorem OF.mono {W : World} {ok ok' : Nat → Prop} {As At : Option Addr} {ss : List Sch} {ts : List Tab} (h : OF W ok As At ss ts) (hk : ∀ k, ok k → ok' k) : OF W ok' As At ss ts := ⟨Kd.F_mono h.1 hk, Kd.F_mono h.2 hk⟩
theorem OM.step {W W' : World} {b e : Nat} {S : Nat → Prop} {vs vt : Value} {ss : List Sch} {ts : List Tab} (h : OM W b e vs vt ss ts) (hs : Spr S W W') (hd : ∀ k, b ≤ k → k < e → ¬ S k) : OM W' b e vs vt ss ts :=
  ⟨Kd.R_step h.1 (fun k hk hlt => hs.2.2.2.2 k hlt (hd k hk.1 hk.2)), Kd.R_step h.2 (fun k hk hlt => hs.2.2.2.2 k hlt (hd k hk.1 hk.2))⟩
theorem OM.below {W W' : World} {b e : Nat} {vs vt : Value} {ss : List Sch} {ts : List Tab} (h : OM W b e vs vt ss ts) (hb : Below W.heap.size W W') : OM W' b e vs vt ss ts := ⟨Kd.R_below h.1 hb, Kd.R_below h.2 hb⟩
theorem OM.OF {W : World} {b e : Nat} {Es Et : Option Addr} {es et : Nat} {ss : List Sch} {ts : List Tab} (h : OM W b e (.slice Es ss.length es) (.slice Et ts.length et) ss ts) : OF W (fun k => b ≤ k ∧ k < e) Es Et ss ts := ⟨Kd.R_F h.1, Kd.R_F h.2⟩
theorem OF.of_C {w : World} {As At : Option Addr} {ss : List Sch} {ts : List Tab} (hs : kSch.C w As ss.length ss) (ht : kTab.C w At ts.length ts) : OF w (fun k => k < w.heap.size) As At ss ts :=
  ⟨Kd.C_F (Kd.heap_iso _ (Kd.heap_pair Kd.heap_string Kd.heap_string)) hs, Kd.C_F (Kd.heap_iso _ (Kd.heap_pair Kd.heap_string (Kd.heap_pair Kd.heap_string (Kd.heap_pair Kd.heap_string (Kd.heap_pair (Kd.heap_slice _ (Kd.heap_iso _ (Kd.heap_pair Kd.heap_string (Kd.heap_pair (Kd.heap_int _) Kd.heap_bool)))) (Kd.heap_slice _ (Kd.heap_iso _ (Kd.heap_pair Kd.heap_string (Kd.heap_pair (Kd.heap_int _) (Kd.heap_pair (Kd.heap_slice _ Kd.heap_string) (Kd.heap_pair (Kd.heap_int _) (Kd.heap_pair (Kd.heap_int _) (Kd.heap_pair Kd.heap_string (Kd.heap_pair Kd.heap_string Kd.heap_string)))))))))))))) ht⟩
theorem Out.made {W w' : World} {r : Res} {e : Ending} (h : Out W r e w') : ∃ Es es Et et, e = .returned (.tuple #[.agg #[.slice Es r.2.1.length es, .slice Et r.2.2.length et], .int .i64 r.1]) ∧ OM w' W.heap.size w'.heap.size (.slice Es r.2.1.length es) (.slice Et r.2.2.length et) r.2.1 r.2.2 ∧ Below W.heap.size W w' := by
  obtain ⟨vs, vt, he, h1, h2, hb⟩ := h
  obtain ⟨Es, es, rfl⟩ := Kd.R_slice h1
  obtain ⟨Et, et, rfl⟩ := Kd.R_slice h2
  exact ⟨Es, es, Et, et, he, ⟨Kd.R_mono (Kd.R_bound h1) (fun k hk => ⟨hk.2.1, hk.2.2.1⟩), Kd.R_mono (Kd.R_bound h2) (fun k hk => ⟨hk.2.1, hk.2.2.1⟩)⟩, hb⟩
theorem calls_made {f : Nat} {args : Array Value} {W : World} {r : Res} (h : Calls Tryz.prog f args W (Out W r)) : Calls Tryz.prog f args W fun e w' => ∃ Es es Et et, e = .returned (.tuple #[.agg #[.slice Es r.2.1.length es, .slice Et r.2.2.length et], .int .i64 r.1]) ∧ OM w' W.heap.size w'.heap.size (.slice Es r.2.1.length es) (.slice Et r.2.2.length et) r.2.1 r.2.2 ∧ Below W.heap.size W w' := h.mono fun _ _ h => h.made
theorem rOwn.made {As At : Option Addr} {cs ct : Nat} (ss : List Sch) (ts : List Tab) (w : World) (hs : kSch.C w As ss.length ss) (hsl : ss.length ≤ 3000) (ht : kTab.C w At ts.length ts) (hF : TabsB ts) :
    Calls Tryz.prog 7 #[.agg #[.slice As ss.length cs, .slice At ts.length ct]] w fun e w' => ∃ Bs ds Bt dt, e = .returned (.agg #[.slice Bs ss.length ds, .slice Bt ts.length dt]) ∧ OM w' w.heap.size w'.heap.size (.slice Bs ss.length ds) (.slice Bt ts.length dt) ss ts ∧ Below w.heap.size w w' :=
  (rOwn.calls ss ts w hs hsl ht hF).mono fun _ _ ⟨Bs, ds, Bt, dt, he, h1, h2, hb⟩ => ⟨Bs, ds, Bt, dt, he, ⟨Kd.R_mono (Kd.R_bound h1) (fun k hk => ⟨hk.2.1, hk.2.2.1⟩), Kd.R_mono (Kd.R_bound (Kd.S_R h2)) (fun k hk => ⟨hk.2.1, hk.2.2.1⟩)⟩, hb⟩
end Go.Proofs.YtmmiehckgkadgaaGreat.O
namespace Go.Proofs.YtmmiehckgkadgaaGreat.O
set_option linter.unusedVariables false
set_option linter.unusedSimpArgs false
open Go.RowKit Go.Proofs.YtmmiehckgkadgaaGreatW.PrintWords
theorem tabsB_nil : TabsB [] := ⟨by decide, fun t h => by simp at h⟩
theorem chg_B {ss : List Sch} {ts : List Tab} {r : Res} (h : r.2.1.length ≤ 3000 ∧ TabsB r.2.2) : (chg ss ts r).2.1.length ≤ 3000 ∧ TabsB (chg ss ts r).2.2 := by
  unfold chg
  split
  · split
    · exact h
    · exact ⟨Nat.zero_le _, tabsB_nil⟩
  · exact ⟨Nat.zero_le _, tabsB_nil⟩
theorem tch_B {ss : List Sch} {ts : List Tab} {schema table : ByteArray} {md : Tab → Int × Tab} (hs : ss.length ≤ 3000) (ht : TabsB ts) (hm : ∀ t, TabB t → TabB (md t).2) : (tch ss ts schema table md).2.1.length ≤ 3000 ∧ TabsB (tch ss ts schema table md).2.2 := by
  unfold tch
  split
  · rename_i hi
    have hlt : (idx (isT schema table) ts).toNat < ts.length := by have := idx_lo (isT schema table) ts; omega
    refine ⟨hs, by rw [List.length_set]; exact ht.1, fun t h => ?_⟩
    rcases List.mem_or_eq_of_mem_set h with h | h
    · exact ht.2 t h
    · subst h
      rw [List.getD_eq_getElem?_getD, List.getElem?_eq_getElem hlt]
      exact hm _ (ht.2 _ (List.getElem_mem hlt))
  · exact ⟨Nat.zero_le _, tabsB_nil⟩
theorem tabsB_one : TabsB [tab1] := ⟨by decide, fun t ht => by
  obtain rfl : t = tab1 := by simpa using ht
  exact ⟨by decide, by decide, fun r hr => by obtain rfl : r = rul1 := by simpa [tab1] using hr
                                              show _ ≤ _
                                              decide⟩⟩
theorem checkB_one : checkB [sch1] [tab1] = true := by decide +kernel
end Go.Proofs.YtmmiehckgkadgaaGreat.O
namespace Go.Proofs.YtmmiehckgkadgaaGreat.O
set_option linter.unusedVariables false
set_option linter.unusedSimpArgs false
open Go.RowKit Go.Proofs.YtmmiehckgkadgaaGreatW.PrintWords Go.Sort
theorem addTable_B {ss : List Sch} {ts : List Tab} {t : Tab} (hs : ss.length ≤ 3000) (ht : TabsB ts) : (addTable ss ts t).2.1.length ≤ 3000 ∧ TabsB (addTable ss ts t).2.2 := by
  unfold addTable
  cases hc : checkB ss ts with
  | false => rw [chg_bad _ hc]; exact ⟨Nat.zero_le _, tabsB_nil⟩
  | true =>
    have hl2 : ts.length ≤ 64 := by
      unfold checkB at hc
      simp only [Bool.and_eq_true, decide_eq_true_eq] at hc
      exact hc.2.1
    refine chg_B ?_
    unfold addTabR
    split
    · split
      · split
        · exact ⟨Nat.zero_le _, tabsB_nil⟩
        · split
          · exact ⟨Nat.zero_le _, tabsB_nil⟩
          · split
            · rename_i hm
              refine ⟨hs, ?_, fun x hx => ?_⟩
              · show (ins _ _ ts).length ≤ 3000
                rw [(ins_perm _ ts).length_eq, List.length_append]; simp; omega
              · rcases List.mem_append.1 ((ins_perm t ts).mem_iff.1 hx) with hx | hx
                · exact ht.2 x hx
                · obtain rfl : x = t := by simpa using hx
                  rw [Bool.and_eq_true, decide_eq_true_eq] at hm
                  have h5 := hm.1
                  unfold mayCols at h5
                  simp only [Bool.and_eq_true, decide_eq_true_eq] at h5
                  refine ⟨by have := h5.2.1; omega, by omega, fun r hr => ?_⟩
                  rw [List.length_eq_zero_iff.1 hm.2] at hr
                  cases hr
            · exact ⟨Nat.zero_le _, tabsB_nil⟩
      · exact ⟨Nat.zero_le _, tabsB_nil⟩
    · exact ⟨Nat.zero_le _, tabsB_nil⟩
theorem dropTable_B {ss : List Sch} {ts : List Tab} {schema table : ByteArray} (hs : ss.length ≤ 3000) (ht : TabsB ts) : (dropTable ss ts schema table).2.1.length ≤ 3000 ∧ TabsB (dropTable ss ts schema table).2.2 :=
  chg_B (by
    unfold dropTabR
    split
    · split
      · exact ⟨Nat.zero_le _, tabsB_nil⟩
      · exact ⟨hs, Nat.le_trans (List.length_eraseIdx_le _ _) ht.1, fun x hx => ht.2 x (List.mem_of_mem_eraseIdx hx)⟩
    · exact ⟨Nat.zero_le _, tabsB_nil⟩)
end Go.Proofs.YtmmiehckgkadgaaGreat.O
namespace Go.Proofs.YtmmiehckgkadgaaGreat.O
set_option linter.unusedVariables false
set_option linter.unusedSimpArgs false
open Go.RowKit Go.Proofs.YtmmiehckgkadgaaGreatW.PrintWords
theorem dropTable_P (ss : List Sch) (ts : List Tab) (schema table : ByteArray) : chg ss ts (dropTabP ss ts schema table) = dropTable ss ts schema table := by
  unfold dropTable
  cases hc : checkB ss ts with
  | false => rw [chg_bad _ hc, chg_bad _ hc]
  | true => rw [dropTab_eq hc]
set_option maxRecDepth 20000 in
set_option maxHeartbeats 2000000 in
theorem DropTable.calls {As At : Option Addr} {cs ct : Nat} (ss : List Sch) (ts : List Tab) (schema table : ByteArray) (w : World) (hs : kSch.C w As ss.length ss) (hsl : ss.length ≤ 3000) (ht : kTab.C w At ts.length ts) (hF : TabsF ts) (hB : TabsB ts) :
    Calls Tryz.prog 22 #[.agg #[.slice As ss.length cs, .slice At ts.length ct], .string schema, .string table] w (Out w (dropTable ss ts schema table)) := by
  have H3 := Aside0.mk (boxes4 w (.cells #[.slice As ss.length cs, .slice At ts.length ct] 25) (.cells #[.string schema] 9) (.cells #[.string table] 9) (.cells #[.slice none 0 0, .slice none 0 0] 25))
  have HT := Aside0.mk (fun (W : World) (hW : Below w.heap.size w W) (p q : Nat) (hp : W.heap[p]? = some (.cells #[.string schema] 9 (0, 0))) (hq : W.heap[q]? = some (.cells #[.string table] 9 (0, 0))) => changed.calls (As := As) (At := At) (cs := cs) (ct := ct) 72 #[.pointer (some ⟨p, 0, none⟩), .pointer (some ⟨q, 0, none⟩)] ss ts _ W (Kd.C_below hs hW) hsl (Kd.C_below ht hW) hF hB (enters Tryz.func72 (by decide) rfl) (fun hck => DropTable1.calls ss ts schema table W p q hp hq hsl hB hck))
  clear hs ht hF hB
  rw [← dropTable_P]
  generalize chg ss ts (dropTabP ss ts schema table) = q at *
  go_enter Tryz.func22, Tryz.ntmps22
  go_wp2_with fail
  refine (HT.out _ H3.out.1 (w.heap.size + 1) (w.heap.size + 1 + 1) H3.out.2.2.1 H3.out.2.2.2.1).mono ?_
  rintro e w2 ⟨vs, vt, rfl, h1, h2, hb⟩
  obtain ⟨Es, es, rfl⟩ := Kd.R_slice h1
  obtain ⟨Et, et, rfl⟩ := Kd.R_slice h2
  have hZ := H3.out.2.2.2.2
  have hZ2 := blk_below hZ hb
  have z0 : w2.cell? ⟨w.heap.size + 1 + 1 + 1, 0, none⟩ = some (.slice none 0 0) := (blk_cell hZ2 0).trans rfl
  have z1 : w2.cell? ⟨w.heap.size + 1 + 1 + 1, 1, none⟩ = some (.slice none 0 0) := (blk_cell hZ2 1).trans rfl
  have f0 := blk_frozen hZ2 0
  have f1 := blk_frozen hZ2 1
  have HX := Aside0.mk (Out.wrap (g := w.heap.size + 1 + 1 + 1) H3.out.1 (by omega) hZ h1 h2 hb)
  clear h1 h2 hb hZ2 hZ H3 HT
  go_wp2
  refine bodyPost_ret (v := .tuple #[.agg #[.slice Es q.2.1.length es, .slice Et q.2.2.length et], .int .i64 q.1]) (by simp [results, Tryz.results22, go_sem, *]) rfl ?_
  exact ⟨_, _, rfl, HX.out⟩
end Go.Proofs.YtmmiehckgkadgaaGreat.O
