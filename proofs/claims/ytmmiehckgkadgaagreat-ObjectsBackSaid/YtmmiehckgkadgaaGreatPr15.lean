/- Own lemmas and walks (TA, RA, UA), without what the law does not need. Laid by a program of this session (prune.py). -/
import Derived.Test.YtmmiehckgkadgaaGreatPr13
import Derived.Test.YtmmiehckgkadgaaGreatPr14
namespace Go.Proofs.YtmmiehckgkadgaaGreat.O
set_option linter.unusedVariables false
set_option linter.unusedSimpArgs false
open Go.RowKit Go.Proofs.YtmmiehckgkadgaaGreatW.PrintWords Go.Sort Go.Shelf
def GR (w w' : World) : Prop := ∃ q os, w' = grow (w.drewN q) os
theorem GR.alloc {w w' : World} (h : GR w w') (o : Obj) : GR w (w'.alloc o) := by
  obtain ⟨q, os, rfl⟩ := h
  exact ⟨q, os ++ #[o], by rw [alloc_eq_grow, grow_grow]⟩
theorem GR.drew {w w' : World} (h : GR w w') : GR w w'.drew := by
  obtain ⟨q, os, rfl⟩ := h
  exact ⟨q + 1, os, by simp [grow, World.drewN, World.drew, Nat.add_assoc]⟩
theorem GR.refl (w : World) : GR w w := ⟨0, #[], by rw [grow_empty]; rfl⟩
theorem keep4g {w0 w : World} {v0 v1 v2 v3 : Value} {a0 a1 a2 a3 : Addr} (o : Obj) (h : w.cell? a0 = some v0 ∧ w.cell? a1 = some v1 ∧ w.cell? a2 = some v2 ∧ w.cell? a3 = some v3 ∧ GR w0 w) : (w.alloc o).cell? a0 = some v0 ∧ (w.alloc o).cell? a1 = some v1 ∧ (w.alloc o).cell? a2 = some v2 ∧ (w.alloc o).cell? a3 = some v3 ∧ GR w0 (w.alloc o) :=
  have hb := below_alloc (Below.refl w.heap.size w) o
  ⟨pw_cell_below hb h.1, pw_cell_below hb h.2.1, pw_cell_below hb h.2.2.1, pw_cell_below hb h.2.2.2.1, h.2.2.2.2.alloc o⟩
set_option maxHeartbeats 1000000 in
theorem order.grows (x y : Tab) {A3 A4 B3 B4 : Option Addr} {c3 c4 d3 d4 : Nat} (w : World) :
    Calls Tryz.prog 68 #[.agg #[.string x.schema, .string x.name, .string x.owner, .slice A3 x.cols.length c3, .slice A4 x.rules.length c4], .agg #[.string y.schema, .string y.name, .string y.owner, .slice B3 y.cols.length d3, .slice B4 y.rules.length d4]] w
      fun e w' => e = .returned (.int .i64 (orderT x y)) ∧ GR w w' := by
  have HO := Aside0.mk (show orderT x y = orI (cmpS x.schema y.schema) (cmpS x.name y.name) from rfl)
  rw [HO.out]
  clear HO
  generalize hm : cmpS x.schema y.schema = m
  generalize hn : cmpS x.name y.name = n
  have HM := fun W => compare.calls x.schema y.schema W
  have HN := fun W => compare.calls x.name y.name W
  rw [hm] at HM
  rw [hn] at HN
  have HC := Aside0.mk (And.intro HM HN)
  clear HM HN hm hn
  go_enter Tryz.func68, Tryz.ntmps68
  go_wp2_with fail
  go_region_held3 (fun w' => w'.cell? ⟨w.heap.size, 0, none⟩ = some (.string x.schema) ∧ w'.cell? ⟨w.heap.size, 1, none⟩ = some (.string x.name) ∧ w'.cell? ⟨w.heap.size + 1, 0, none⟩ = some (.string y.schema) ∧ w'.cell? ⟨w.heap.size + 1, 1, none⟩ = some (.string y.name) ∧ GR w w')
    (first | assumption | exact keep4g _ (by assumption) | (exact ⟨(by simp), (by simp), (by simp), (by simp), (((GR.refl _).alloc _).alloc _).drew⟩))
    (first | (go_at_call_of 35 (Value.string x.schema); refine (HC.out.1 _).mono ?_; rintro e w' ⟨rfl, rfl⟩) | (go_at_call_of 35 (Value.string x.name); refine (HC.out.2 _).mono ?_; rintro e w' ⟨rfl, rfl⟩) | (go_at_call 102; refine (cmpOr.calls _ m n _ (cell_new3 _ _ _ _ _ 0) (cell_new3 _ _ _ _ _ 1)).mono ?_; rintro e w' ⟨rfl, rfl⟩))
  rename_i hH
  have HB := Aside0.mk hH.2.2.2.2
  clear hH
  go_wp2
  go_ret
  exact ⟨rfl, HB.out⟩
structure TabP where
  t : Tab
  A3 : Option Addr
  c3 : Nat
  A4 : Option Addr
  c4 : Nat
instance : Inhabited Tab := ⟨zTab⟩
instance : Inhabited TabP := ⟨⟨zTab, none, 0, none, 0⟩⟩
def encT (p : TabP) : List Value := [.string p.t.schema, .string p.t.name, .string p.t.owner, .slice p.A3 p.t.cols.length p.c3, .slice p.A4 p.t.rules.length p.c4]
def cfT (p q : TabP) : Int := orderT p.t q.t
theorem orI_lt (a b : Int) : orI a b < 0 ↔ a < 0 ∨ (a = 0 ∧ b < 0) := by
  unfold orI
  split
  · omega
  · omega
theorem orderT_lt (x y : Tab) : orderT x y < 0 ↔ x.schema.data.toList < y.schema.data.toList ∨ (x.schema = y.schema ∧ x.name.data.toList < y.name.data.toList) := by
  unfold orderT
  rw [orI_lt, cmpS_lt, cmpS_zero, cmpS_lt]
theorem swoOrder : SWO (ltOf orderT) where
  irrefl x := by
    simp only [ltOf, decide_eq_false_iff_not, orderT_lt]
    rintro (h | ⟨_, h⟩)
    · exact List.lt_irrefl _ h
    · exact List.lt_irrefl _ h
  trans x y z h1 h2 := by
    simp only [ltOf, decide_eq_true_eq, orderT_lt] at *
    rcases h1 with h1 | ⟨e1, h1⟩
    · rcases h2 with h2 | ⟨e2, h2⟩
      · exact .inl (List.lt_trans h1 h2)
      · exact .inl (by rw [← e2]; exact h1)
    · rcases h2 with h2 | ⟨e2, h2⟩
      · exact .inl (by rw [e1]; exact h2)
      · exact .inr ⟨e1.trans e2, List.lt_trans h1 h2⟩
  ntrans x y z h1 h2 := by
    simp only [ltOf, decide_eq_false_iff_not, orderT_lt, not_or, not_and, List.not_lt] at *
    refine ⟨List.le_trans h2.1 h1.1, fun e => ?_⟩
    have hxy : x.schema = y.schema := by
      apply ByteArray.ext
      apply Array.toList_inj.1
      exact List.le_antisymm (by rw [e]; exact h2.1) h1.1
    exact List.le_trans (h2.2 (hxy.symm.trans e)) (h1.2 hxy)
theorem swoT : SWO (ltOf cfT) where
  irrefl x := swoOrder.irrefl x.t
  trans x y z h1 h2 := swoOrder.trans x.t y.t z.t h1 h2
  ntrans x y z h1 h2 := swoOrder.ntrans x.t y.t z.t h1 h2
theorem tabs_lie {B g c : Nat} {w : World} {ok : Nat → Prop} {xs : List Tab} (hR : kTab.R 50 w B ok (.slice (some ⟨g, 0, none⟩) xs.length c) xs) : ∃ ps : Array TabP, ps.toList.map (·.t) = xs ∧ HoldsK encT 5 w g 0 ps ∧ ∀ p, p ∈ ps.toList → kTab.M w B (fun k => ok k ∧ some k ≠ some g) p.t (encT p) := by
  obtain ⟨cur, hg, hcs⟩ := R_block hR
  obtain ⟨hok, inner, ho, hr⟩ := hR
  rcases ho.2 with ⟨h, _⟩ | ⟨g', c', cur', hv, hb, hg', hnc, hm, hs, ht⟩
  · cases h
  injection hv with hA _ hc
  injection hA with hA
  injection hA with hA _ _
  subst hA hc
  obtain rfl : cur = cur' := by rw [hg] at hg'; injection hg' with h; injection h
  have key : ∀ j (hj : j < xs.length), ∃ p : TabP, p.t = xs[j] ∧ (inner.drop (j * 5)).take 5 = encT p ∧ kTab.M w B (fun k => ok k ∧ some k ≠ some g) p.t (encT p) := fun j hj => by
    have hM := hr.2 j xs[j] (List.getElem?_eq_getElem hj)
    obtain ⟨v3, v4, e, h3, h4⟩ := kTab_openM hM
    obtain ⟨A3, c3, rfl⟩ := Kd.R_slice h3
    obtain ⟨A4, c4, rfl⟩ := Kd.R_slice h4
    refine ⟨⟨xs[j], A3, c3, A4, c4⟩, rfl, e, ?_⟩
    rw [← show (inner.drop (j * kTab.sz)).take kTab.sz = encT ⟨xs[j], A3, c3, A4, c4⟩ from e]
    exact hM
  have hps : ∃ ps : List TabP, ps.length = xs.length ∧ ∀ j (hj : j < xs.length) (hj' : j < ps.length), ps[j].t = xs[j] ∧ (inner.drop (j * 5)).take 5 = encT ps[j] ∧ kTab.M w B (fun k => ok k ∧ some k ≠ some g) ps[j].t (encT ps[j]) := by
    refine ⟨List.ofFn (fun j : Fin xs.length => (key j.1 j.2).choose), by simp, fun j hj hj' => ?_⟩
    rw [List.getElem_ofFn]
    exact (key j hj).choose_spec
  obtain ⟨ps, hl, hp⟩ := hps
  refine ⟨ps.toArray, ?_, ?_, ?_⟩
  · refine List.ext_getElem (by simpa using hl) fun j h1 h2 => ?_
    simp only [List.getElem_map]
    exact (hp j h2 (by omega)).1
  · refine holdsK_of (by decide) (fun _ => rfl) (fun j hj i hi => ?_) (fun o => blk_frozen hg o)
    have hj' : j < ps.length := by simpa using hj
    obtain ⟨_, he, _⟩ := hp j (by omega) hj'
    have e2 : (encT ps[j])[i]? = cur[j * 5 + i]? := by
      rw [← he, List.getElem?_take, if_pos hi, List.getElem?_drop, ← ht, List.getElem?_take, if_pos, Array.getElem?_toList]
      show j * 5 + i < xs.length * 5
      omega
    rw [blk_cell hg]
    simpa using e2.symm
  · intro p hpm
    obtain ⟨j, hj, rfl⟩ := List.getElem_of_mem hpm
    have hj' : j < ps.length := by simpa using hj
    have := (hp j (by omega) hj').2.2
    simpa using this
set_option maxHeartbeats 1000000 in
theorem sortTab.calls (xs : List Tab) (w : World) {base g c : Nat} {ok : Nat → Prop} (hl : xs.length ≤ 3001) (hR : kTab.R 50 w base ok (.slice (some ⟨g, 0, none⟩) xs.length c) xs) :
    Calls Tryz.prog 78 #[.slice (some ⟨g, 0, none⟩) xs.length c, .func (.func 68) #[] #[]] w fun e w' => e = .returned (.tuple #[]) ∧ ∃ d' : Array Tab, PermIn 0 xs.toArray.size xs.toArray d' ∧ SortedIn (ltOf orderT) 0 xs.toArray.size d' ∧ kTab.R 50 w' base ok (.slice (some ⟨g, 0, none⟩) xs.length c) d'.toList ∧ w.grownBy w' (some g) := by
  have eg : ∀ args w, (callFunc 68 args).run Tryz.prog w = .ok (.enter 68 args) w := enters_of Tryz.func68 (by kernel_rfl) rfl
  obtain ⟨cur, hg, _⟩ := R_block hR
  obtain ⟨ps, hps, hH, hM⟩ := tabs_lie hR
  have hsz : ps.size = xs.length := by rw [← hps]; simp
  have hcon := AnyQ.slices_SortFunc Tryz.sortTab 5 Tryz.isAgg50 Tryz.sizeOf50 encT (fun _ => rfl) (fun x v hv => by simp [encT] at hv; rcases hv with rfl | rfl | rfl | rfl | rfl <;> rfl) cfT swoT 68 #[] g 0 c ps w eg (fun _ _ _ _ x y => order.grows x.t y.t _) hH (blk_lt hg) (by omega)
  rw [hsz] at hcon
  refine hcon.mono ?_
  rintro e w' ⟨rfl, d', m, os, hp, hs, rfl⟩
  have hds : d'.size = xs.length := by rw [hp.1, hsz]
  have hmem : ∀ p, p ∈ d'.toList → p ∈ ps.toList := fun p hpm => by
    have h2 := hp.2.2
    rw [show d'.extract 0 xs.length = d' by rw [← hds]; exact Array.extract_size, show ps.extract 0 xs.length = ps by rw [← hsz]; exact Array.extract_size] at h2
    exact h2.mem_iff.1 hpm
  obtain ⟨h1, h2⟩ := R_sorted hR encT (·.t) d' (by decide) (fun _ => rfl) hds (fun y hy => hM y (hmem y hy)) m os
  refine ⟨rfl, (d'.toList.map (·.t)).toArray, ⟨by simp [hds], ?_, ?_⟩, ?_, by show kTab.R 50 (sortWorldK encT kTab.sz w g 0 m d' os) base ok _ _; simpa using h1, h2⟩
  · intro i hi
    rcases hi with hi | hi
    · omega
    · have hi' : xs.length ≤ i := by simpa using hi
      rw [getElem!_neg _ i (by simp; omega), getElem!_neg _ i (by simp; omega)]
  · have h3 := hp.2.2
    rw [show d'.extract 0 xs.length = d' by rw [← hds]; exact Array.extract_size, show ps.extract 0 xs.length = ps by rw [← hsz]; exact Array.extract_size] at h3
    have e1 : (d'.toList.map (·.t)).toArray.extract 0 xs.toArray.size = (d'.toList.map (·.t)).toArray := by
      rw [show xs.toArray.size = (d'.toList.map (·.t)).toArray.size by simp [hds]]; exact Array.extract_size
    rw [e1, Array.extract_size]
    show (d'.toList.map (·.t)).Perm xs
    rw [← hps]
    exact h3.map _
  · intro i j h0 hij hj
    have hj' : j < xs.length := by simpa using hj
    have := hs i j h0 hij hj'
    rw [getElem!_pos d' j (by omega), getElem!_pos d' i (by omega)] at this
    rw [getElem!_pos _ j (by simp; omega), getElem!_pos _ i (by simp; omega)]
    have this2 : ltOf orderT d'[j].t d'[i].t = false := this
    simpa using this2
end Go.Proofs.YtmmiehckgkadgaaGreat.O
namespace Go.Proofs.YtmmiehckgkadgaaGreat.O
set_option linter.unusedVariables false
set_option linter.unusedSimpArgs false
open Go.Sort
theorem toList_inj {a b : ByteArray} (h : a.toList = b.toList) : a = b := by
  rw [Lib.toList_data, Lib.toList_data] at h
  exact ByteArray.ext (Array.toList_inj.1 h)
theorem beqS_iff {a b : ByteArray} : (a.toList == b.toList) = true ↔ a = b := ⟨fun h => toList_inj (eq_of_beq h), fun h => by subst h; simp⟩
theorem toList_iff {a b : ByteArray} : a.toList = b.toList ↔ a = b := ⟨toList_inj, fun h => by rw [h]⟩
theorem idx_pos {α : Type} {p : α → Bool} {l : List α} : 0 ≤ idx p l ↔ ∃ x ∈ l, p x = true := by
  rcases idx_cases p l with ⟨k, hk, e, y, _⟩ | ⟨e, y⟩
  · rw [e]; exact ⟨fun _ => ⟨_, List.getElem_mem hk, y⟩, fun _ => by omega⟩
  · rw [e]
    refine ⟨fun h => by omega, ?_⟩
    rintro ⟨x, hx, hp⟩
    obtain ⟨j, hj, rfl⟩ := List.getElem_of_mem hx
    rw [y j hj] at hp; cases hp
theorem idx_at {α : Type} {p : α → Bool} {l : List α} {k : Nat} (hk : k < l.length) (hp : p l[k] = true) (hu : ∀ j (hj : j < l.length), j ≠ k → p l[j] = false) : idx p l = (k : Int) := idx_hit hk hp (fun j hj hl => hu j hj (by omega))
theorem rises_of_pairwise {α : Type} {f : α → α → Int} : ∀ {l : List α}, l.Pairwise (fun a b => f a b < 0) → rises f l = true
  | [], _ => rfl
  | [_], _ => rfl
  | a :: b :: r, h => by
    have h' := List.pairwise_cons.1 h
    unfold rises
    rw [rises_of_pairwise h'.2, decide_eq_true (h'.1 b (by simp))]; rfl
theorem allB_iff {α : Type} {l : List α} {f : α → Bool} (z : α) : allB l.length (fun i => f (l.getD i z)) = true ↔ ∀ x ∈ l, f x = true := by
  constructor
  · intro h x hx
    obtain ⟨j, hj, rfl⟩ := List.getElem_of_mem hx
    have := allB_at h hj
    rw [getD_at hj] at this; exact this
  · intro h
    refine allB_true fun k hk => ?_
    show f (l.getD k z) = true
    rw [getD_at hk]; exact h _ (List.getElem_mem hk)
def LtT (a b : Tab) : Prop := orderT a b < 0
def LtS (a b : Sch) : Prop := cmpS a.name b.name < 0
def LtR (a b : Rul) : Prop := cmpS a.name b.name < 0
theorem pwT {l : List Tab} : rises orderT l = true ↔ l.Pairwise LtT := ⟨fun h => (rises_pairwise swoOrder.trans h).imp fun h => of_decide_eq_true h, rises_of_pairwise⟩
theorem pwS {l : List Sch} : rises (fun x y : Sch => cmpS x.name y.name) l = true ↔ l.Pairwise LtS := ⟨fun h => (rises_pairwise (swo_key (fun x : Sch => x.name)).trans h).imp fun h => of_decide_eq_true h, rises_of_pairwise⟩
theorem pwR {l : List Rul} : rises (fun x y : Rul => cmpS x.name y.name) l = true ↔ l.Pairwise LtR := ⟨fun h => (rises_pairwise (swo_key (fun x : Rul => x.name)).trans h).imp fun h => of_decide_eq_true h, rises_of_pairwise⟩
theorem cmpS_ne {a b : ByteArray} (h : cmpS a b < 0) : a ≠ b := fun e => by
  subst e
  rw [cmpS_lt] at h
  exact List.lt_irrefl _ h
theorem LtT.ne {a b : Tab} (h : LtT a b) : ¬ (a.schema = b.schema ∧ a.name = b.name) := fun ⟨e1, e2⟩ => by
  unfold LtT at h
  rw [orderT_lt, e1, e2] at h
  rcases h with h | ⟨_, h⟩ <;> exact List.lt_irrefl _ h
theorem pw_alone {α : Type} {R : α → α → Prop} {E : α → α → Prop} (hE : ∀ a b, E a b → E b a) (hR : ∀ a b, R a b → ¬ E a b) {l : List α} (h : l.Pairwise R) {i j : Nat} (hi : i < l.length) (hj : j < l.length) (hij : i ≠ j) : ¬ E l[i] l[j] := fun e => by
  rcases Nat.lt_or_gt_of_ne hij with hl | hl
  · exact hR _ _ (List.pairwise_iff_getElem.1 h i j hi hj hl) e
  · exact hR _ _ (List.pairwise_iff_getElem.1 h j i hj hi hl) (hE _ _ e)
def EqT (a b : Tab) : Prop := a.schema = b.schema ∧ a.name = b.name
theorem tabs_one {l : List Tab} (h : l.Pairwise LtT) {i j : Nat} (hi : i < l.length) (hj : j < l.length) (e1 : l[i].schema = l[j].schema) (e2 : l[i].name = l[j].name) : i = j :=
  Classical.byContradiction fun hne => pw_alone (E := EqT) (fun _ _ h => ⟨h.1.symm, h.2.symm⟩) (fun _ _ h => h.ne) h hi hj hne ⟨e1, e2⟩
theorem ruls_one {l : List Rul} (h : l.Pairwise LtR) {i j : Nat} (hi : i < l.length) (hj : j < l.length) (e : l[i].name = l[j].name) : i = j :=
  Classical.byContradiction fun hne => pw_alone (E := fun a b : Rul => a.name = b.name) (fun _ _ h => h.symm) (fun _ _ h => cmpS_ne h) h hi hj hne e
def KeyP (ts : List Tab) (l : List Col) (r : Rul) : Prop := ∃ t ∈ ts, t.schema = r.schema ∧ t.name = r.table ∧ ∃ q ∈ t.rules, q.name = r.key ∧ q.kind = 2 ∧ goB l t.cols r.cols q.cols = true
theorem isT_eq {schema name : ByteArray} {t : Tab} : isT schema name t = true ↔ t.schema = schema ∧ t.name = name := by
  unfold isT
  rw [Bool.and_eq_true, beqS_iff, beqS_iff]
theorem keyP_of {ts : List Tab} {l : List Col} {r : Rul} (h : keyE ts l r = 0) : KeyP ts l r := by
  rcases idx_cases (isT r.schema r.table) ts with ⟨n, hn, e, y, _⟩ | ⟨e, _⟩
  · rw [keyE_some hn e] at h
    rcases idx_cases (fun x : Rul => x.name.toList == r.key.toList) ts[n].rules with ⟨m, hm, f, z, _⟩ | ⟨f, _⟩
    · rw [keyE_rule hm f] at h
      split at h
      · rename_i hk
        split at h
        · rename_i hg
          have y' := isT_eq.1 y
          exact ⟨_, List.getElem_mem hn, y'.1, y'.2, _, List.getElem_mem hm, beqS_iff.1 z, hk, hg⟩
        · cases h
      · cases h
    · rw [keyE_bare f] at h; cases h
  · rw [keyE_none e] at h; cases h
theorem keyP_to {ts : List Tab} {l : List Col} {r : Rul} (ht : ts.Pairwise LtT) (hr : ∀ t ∈ ts, t.rules.Pairwise LtR) (h : KeyP ts l r) : keyE ts l r = 0 := by
  obtain ⟨t, hm, e1, e2, q, hq, f1, f2, f3⟩ := h
  obtain ⟨n, hn, rfl⟩ := List.getElem_of_mem hm
  have hrn := hr _ hm
  obtain ⟨m, hm', rfl⟩ := List.getElem_of_mem hq
  have i1 : idx (isT r.schema r.table) ts = (n : Int) := idx_at hn (isT_eq.2 ⟨e1, e2⟩) fun j hj hne => by
    cases hc : isT r.schema r.table ts[j] with
    | false => rfl
    | true =>
      have := isT_eq.1 hc
      exact absurd (tabs_one ht hj hn (this.1.trans e1.symm) (this.2.trans e2.symm)) hne
  have i2 : idx (fun x : Rul => x.name.toList == r.key.toList) ts[n].rules = (m : Int) := idx_at hm' (beqS_iff.2 f1) fun j hj hne => by
    cases hc : (ts[n].rules[j].name.toList == r.key.toList) with
    | false => rfl
    | true => exact absurd (ruls_one hrn hj hm' ((beqS_iff.1 hc).trans f1.symm)) hne
  rw [keyE_some hn i1, keyE_rule hm' i2, if_pos f2, if_pos f3]
structure RtT (ss : List Sch) (ts : List Tab) (t : Tab) : Prop where
  n : nameB t.name = true
  o : nameB t.owner = true
  c : mayCols t.cols = true
  l : t.rules.length ≤ 8
  s : ∃ s ∈ ss, s.name = t.schema
  f : ∀ r ∈ t.rules, fitsB t.cols r = true
  k : ∀ r ∈ t.rules, r.kind = 4 → KeyP ts t.cols r
  r : t.rules.Pairwise LtR
structure Rt (ss : List Sch) (ts : List Tab) : Prop where
  l : ss.length ≤ 8
  t : ts.Pairwise LtT
  s : ss.Pairwise LtS
  n : ∀ s ∈ ss, nameB s.name = true ∧ nameB s.owner = true ∧ cnt (ofS s.name) ts ≤ 8
  r : ∀ t ∈ ts, RtT ss ts t
theorem rightT_iff {ss : List Sch} {ts : List Tab} {t : Tab} : rightT ss ts t = true ↔ nameB t.name = true ∧ nameB t.owner = true ∧ mayCols t.cols = true ∧ t.rules.length ≤ 8 ∧ (∃ s ∈ ss, s.name = t.schema) ∧ (∀ r ∈ t.rules, fitsB t.cols r = true ∧ (r.kind = 4 → keyE ts t.cols r = 0)) ∧ t.rules.Pairwise LtR := by
  unfold rightT rulesOK
  rw [Bool.and_eq_true, Bool.and_eq_true, Bool.and_eq_true, Bool.and_eq_true, Bool.and_eq_true, Bool.and_eq_true, decide_eq_true_eq, decide_eq_true_eq, idx_pos, pwR, allB_iff (f := ruleOK ts t.cols) zRul]
  simp only [beqS_iff, ruleOK, Bool.and_eq_true, Bool.or_eq_true, bne_iff_ne, beq_iff_eq, ne_eq, Decidable.imp_iff_not_or, toList_iff]
theorem of_check {ss : List Sch} {ts : List Tab} (h : checkB ss ts = true) : Rt ss ts := by
  unfold checkB schsOK tabsOK at h
  rw [Bool.and_eq_true, Bool.and_eq_true, Bool.and_eq_true, Bool.and_eq_true, Bool.and_eq_true, decide_eq_true_eq, decide_eq_true_eq, pwT, pwS, allB_iff (f := schOK ts) zSch, allB_iff (f := rightT ss ts) zTab] at h
  obtain ⟨h1, h2, h3, h4, h5, h6⟩ := h
  refine ⟨h1, h3, h4, fun s hs => ?_, fun t ht => ?_⟩
  · have := h5 s hs
    unfold schOK at this
    rwa [Bool.and_eq_true, Bool.and_eq_true, decide_eq_true_eq] at this
  · obtain ⟨a, b, c, d, e, f, g⟩ := rightT_iff.1 (h6 t ht)
    exact ⟨a, b, c, d, e, fun r hr => (f r hr).1, fun r hr hk => keyP_of ((f r hr).2 hk), g⟩
theorem sum_le {l : List Nat} {b : Nat} (h : ∀ x ∈ l, x ≤ b) : l.sum ≤ l.length * b := by
  induction l with
  | nil => simp
  | cons a l ih =>
    have h1 := h a (by simp)
    have h2 := ih fun x hx => h x (by simp [hx])
    rw [List.sum_cons, List.length_cons, Nat.succ_mul]; omega
theorem sum_more {α : Type} (f g : α → Nat) : ∀ (l : List α), (∀ x ∈ l, f x ≤ g x) → (∃ x ∈ l, f x < g x) → (l.map f).sum + 1 ≤ (l.map g).sum
  | [], _, h => by obtain ⟨x, hx, _⟩ := h; simp at hx
  | a :: l, hle, h => by
    have h1 := hle a (by simp)
    have hmono : ∀ (l : List α), (∀ x ∈ l, f x ≤ g x) → (l.map f).sum ≤ (l.map g).sum := fun l => by
      induction l with
      | nil => simp
      | cons b l ih =>
        intro hl
        have := hl b (by simp)
        have := ih fun x hx => hl x (by simp [hx])
        simp only [List.map_cons, List.sum_cons]; omega
    simp only [List.map_cons, List.sum_cons]
    obtain ⟨x, hx, hlt⟩ := h
    rcases List.mem_cons.1 hx with e | hx
    · subst e
      have := hmono l fun x hx => hle x (by simp [hx])
      omega
    · have := sum_more f g l (fun x hx => hle x (by simp [hx])) ⟨x, hx, hlt⟩
      omega
theorem cnt_cons {α : Type} (p : α → Bool) (a : α) (l : List α) : cnt p (a :: l) = cnt p l + if p a = true then 1 else 0 := by
  unfold cnt
  rw [List.filter_cons]
  split <;> simp
theorem tabs_sum (ss : List Sch) : ∀ (ts : List Tab), (∀ t ∈ ts, ∃ s ∈ ss, s.name = t.schema) → ts.length ≤ (ss.map fun s => cnt (ofS s.name) ts).sum
  | [], _ => Nat.zero_le _
  | t :: ts, h => by
    have ih := tabs_sum ss ts fun x hx => h x (by simp [hx])
    obtain ⟨s, hs, e⟩ := h t (by simp)
    have := sum_more (fun s : Sch => cnt (ofS s.name) ts) (fun s : Sch => cnt (ofS s.name) (t :: ts)) ss (fun x _ => by show _ ≤ _; rw [cnt_cons]; omega) ⟨s, hs, by show _ < _; rw [cnt_cons, if_pos (show ofS s.name t = true from beqS_iff.2 e.symm)]; omega⟩
    rw [List.length_cons]; omega
theorem Rt.len {ss : List Sch} {ts : List Tab} (h : Rt ss ts) : ts.length ≤ 64 := by
  have h1 := tabs_sum ss ts fun t ht => (h.r t ht).s
  have h2 := sum_le (l := ss.map fun s => cnt (ofS s.name) ts) (b := 8) (fun x hx => by
    obtain ⟨s, hs, rfl⟩ := List.mem_map.1 hx
    exact (h.n s hs).2.2)
  rw [List.length_map] at h2
  have h3 := h.l
  omega
theorem Rt.check {ss : List Sch} {ts : List Tab} (h : Rt ss ts) : checkB ss ts = true := by
  unfold checkB schsOK tabsOK
  rw [Bool.and_eq_true, Bool.and_eq_true, Bool.and_eq_true, Bool.and_eq_true, Bool.and_eq_true, decide_eq_true_eq, decide_eq_true_eq, pwT, pwS, allB_iff (f := schOK ts) zSch, allB_iff (f := rightT ss ts) zTab]
  refine ⟨h.l, h.len, h.t, h.s, fun s hs => ?_, fun t ht => ?_⟩
  · unfold schOK
    rw [Bool.and_eq_true, Bool.and_eq_true, decide_eq_true_eq]; exact h.n s hs
  · have g := h.r t ht
    exact rightT_iff.2 ⟨g.n, g.o, g.c, g.l, g.s, fun r hr => ⟨g.f r hr, fun hk => keyP_to h.t (fun t ht => (h.r t ht).r) (g.k r hr hk)⟩, g.r⟩
theorem KeyP.mono {ts ts' : List Tab} {l : List Col} {r : Rul} (h : KeyP ts l r) (hs : ∀ t ∈ ts, t.schema = r.schema → t.name = r.table → t ∈ ts') : KeyP ts' l r := by
  obtain ⟨t, hm, e1, e2, hq⟩ := h
  exact ⟨t, hs t hm e1 e2, e1, e2, hq⟩
theorem RtT.mono {ss ss' : List Sch} {ts ts' : List Tab} {t : Tab} (h : RtT ss ts t) (hs : ∀ s ∈ ss, s ∈ ss') (hk : ∀ r ∈ t.rules, r.kind = 4 → KeyP ts t.cols r → KeyP ts' t.cols r) : RtT ss' ts' t :=
  ⟨h.n, h.o, h.c, h.l, by obtain ⟨s, h1, h2⟩ := h.s; exact ⟨s, hs s h1, h2⟩, h.f, fun r hr e => hk r hr e (h.k r hr e), h.r⟩
theorem mem_ins {α : Type} {lt : α → α → Bool} {x a : α} {l : List α} : a ∈ ins lt x l ↔ a ∈ l ∨ a = x := by
  rw [(ins_perm x l).mem_iff, List.mem_append]; simp
theorem len_ins {α : Type} {lt : α → α → Bool} {x : α} {l : List α} : (ins lt x l).length = l.length + 1 := by
  rw [(ins_perm x l).length_eq]; simp
theorem cnt_ins {α : Type} (p : α → Bool) {lt : α → α → Bool} {x : α} {l : List α} : cnt p (ins lt x l) = cnt p l + if p x = true then 1 else 0 := by
  unfold cnt
  rw [((ins_perm x l).filter p).length_eq, List.filter_append, List.length_append, List.filter_cons]
  split <;> simp
theorem cnt_zero {α : Type} {p : α → Bool} {l : List α} (h : ∀ x ∈ l, p x = false) : cnt p l = 0 := by
  unfold cnt
  rw [List.filter_eq_nil_iff.2 (fun x hx => by rw [h x hx]; decide)]; rfl
theorem cmpS_tri {a b : ByteArray} (h : a ≠ b) : cmpS a b < 0 ∨ cmpS b a < 0 := by
  rw [cmpS_lt, cmpS_lt]
  by_cases h1 : a.data.toList < b.data.toList
  · exact .inl h1
  · by_cases h2 : b.data.toList < a.data.toList
    · exact .inr h2
    · exact absurd (ByteArray.ext (Array.toList_inj.1 (List.le_antisymm (List.not_lt.1 h2) (List.not_lt.1 h1)))) h
theorem orderT_tri {a b : Tab} (h : ¬ (a.schema = b.schema ∧ a.name = b.name)) : orderT a b < 0 ∨ orderT b a < 0 := by
  rw [orderT_lt, orderT_lt, ← cmpS_lt, ← cmpS_lt, ← cmpS_lt, ← cmpS_lt]
  by_cases e : a.schema = b.schema
  · rcases cmpS_tri (fun e2 => h ⟨e, e2⟩ : a.name ≠ b.name) with g | g
    · exact .inl (.inr ⟨e, g⟩)
    · exact .inr (.inr ⟨e.symm, g⟩)
  · rcases cmpS_tri e with g | g
    · exact .inl (.inl g)
    · exact .inr (.inl g)
theorem Rt.addSch {ss : List Sch} {ts : List Tab} (h : Rt ss ts) {x : Sch} (hn : nameB x.name = true) (ho : nameB x.owner = true) (hx : ∀ s ∈ ss, s.name ≠ x.name) (hl : ss.length < 8) : Rt (ins (ltOf cfS) x ss) ts := by
  refine ⟨by rw [len_ins]; omega, h.t, ?_, fun s hs => ?_, fun t ht => (h.r t ht).mono (fun s hs => mem_ins.2 (.inl hs)) fun _ _ _ h => h⟩
  · have := ins_sorted (lt := ltOf cfS) (x := x) (swo_key (fun x : Sch => x.name)).trans (l := ss) (h.s.imp fun h => decide_eq_true (show cfS _ _ < 0 from h)) (fun a ha => by
      rcases cmpS_tri (hx a ha) with g | g
      · exact .inr (decide_eq_true g)
      · exact .inl (decide_eq_true g))
    exact this.imp fun h => of_decide_eq_true h
  · rcases mem_ins.1 hs with hs | rfl
    · exact h.n s hs
    · refine ⟨hn, ho, ?_⟩
      rw [cnt_zero fun t ht => ?_]
      · exact Nat.zero_le _
      · cases hc : ofS s.name t with
        | false => rfl
        | true =>
          obtain ⟨s', h1, h2⟩ := (h.r t ht).s
          exact absurd (h2.trans (beqS_iff.1 hc)) (hx s' h1)
theorem Rt.addTab {ss : List Sch} {ts : List Tab} (h : Rt ss ts) {t : Tab} (hn : nameB t.name = true) (ho : nameB t.owner = true) (hs : ∃ s ∈ ss, s.name = t.schema) (hx : ∀ x ∈ ts, ¬ (x.schema = t.schema ∧ x.name = t.name)) (hl : cnt (ofS t.schema) ts < 8) (hm : mayCols t.cols = true) (hr : t.rules = []) : Rt ss (ins (ltOf orderT) t ts) := by
  refine ⟨h.l, ?_, h.s, fun s hs => ?_, fun x hx => ?_⟩
  · have := ins_sorted (lt := ltOf orderT) (x := t) swoOrder.trans (l := ts) (h.t.imp fun h => decide_eq_true (show orderT _ _ < 0 from h)) (fun a ha => by
      rcases orderT_tri (hx a ha) with g | g
      · exact .inr (decide_eq_true g)
      · exact .inl (decide_eq_true g))
    exact this.imp fun h => of_decide_eq_true h
  · refine ⟨(h.n s hs).1, (h.n s hs).2.1, ?_⟩
    rw [cnt_ins]
    split
    · rename_i hc
      rw [← beqS_iff.1 hc]; omega
    · exact (h.n s hs).2.2
  · rcases mem_ins.1 hx with hx | rfl
    · exact (h.r x hx).mono (fun _ h => h) fun r hr _ hk => hk.mono fun t ht _ _ => mem_ins.2 (.inl ht)
    · refine ⟨hn, ho, hm, by rw [hr]; decide, hs, fun r h => ?_, fun r h => ?_, by rw [hr]; exact List.Pairwise.nil⟩
      · rw [hr] at h; cases h
      · rw [hr] at h; cases h
theorem cnt_sub {α : Type} {p : α → Bool} {l l' : List α} (h : l'.Sublist l) : cnt p l' ≤ cnt p l := (h.filter p).length_le
theorem Rt.dropTab {ss : List Sch} {ts : List Tab} (h : Rt ss ts) {k : Nat} (hk : k < ts.length) (hf : ∀ j (hj : j < ts.length), j ≠ k → ∀ r ∈ ts[j].rules, r.kind = 4 → ¬ (r.schema = ts[k].schema ∧ r.table = ts[k].name)) : Rt ss (ts.eraseIdx k) := by
  have hsub := List.eraseIdx_sublist ts k
  refine ⟨h.l, h.t.sublist hsub, h.s, fun s hs => ⟨(h.n s hs).1, (h.n s hs).2.1, Nat.le_trans (cnt_sub hsub) (h.n s hs).2.2⟩, fun x hx => ?_⟩
  obtain ⟨j, hj, hne, rfl⟩ := List.mem_eraseIdx_iff_getElem.1 hx
  refine (h.r _ (List.getElem_mem hj)).mono (fun _ h => h) fun r hr e hk' => hk'.mono fun t ht e1 e2 => ?_
  obtain ⟨i, hi, rfl⟩ := List.getElem_of_mem ht
  refine List.mem_eraseIdx_iff_getElem.2 ⟨i, hi, fun e' => ?_, rfl⟩
  subst e'
  exact hf j hj hne r hr e ⟨e1.symm, e2.symm⟩
theorem set_map {α β : Type} {l : List α} {k : Nat} {x : α} (f : α → β) (hk : k < l.length) (e : f x = f l[k]) : (l.set k x).map f = l.map f := by
  rw [List.map_set, e]
  conv => lhs; rw [← List.getElem_map f (l := l) (i := k) (h := by rw [List.length_map]; exact hk)]
  exact List.set_getElem_self _
theorem cnt_map {ts ts' : List Tab} (n : ByteArray) (h : ts'.map (fun t : Tab => (t.schema, t.name)) = ts.map (fun t : Tab => (t.schema, t.name))) : cnt (ofS n) ts' = cnt (ofS n) ts := by
  have e : ∀ l : List Tab, cnt (ofS n) l = ((l.map (fun t : Tab => (t.schema, t.name))).filter (fun p => p.1.toList == n.toList)).length := fun l => by
    rw [List.filter_map, List.length_map]; rfl
  rw [e, e, h]
def LtK (a b : ByteArray × ByteArray) : Prop := orI (cmpS a.1 b.1) (cmpS a.2 b.2) < 0
theorem pw_map {ts ts' : List Tab} (h : ts'.map (fun t : Tab => (t.schema, t.name)) = ts.map (fun t : Tab => (t.schema, t.name))) (hp : ts.Pairwise LtT) : ts'.Pairwise LtT := by
  have h1 : (ts.map (fun t : Tab => (t.schema, t.name))).Pairwise LtK := List.pairwise_map.2 hp
  rw [← h] at h1
  exact (List.pairwise_map (f := fun t : Tab => (t.schema, t.name))).1 h1
theorem KeyP.set {ts : List Tab} {l : List Col} {r : Rul} (h : KeyP ts l r) {k : Nat} (hk : k < ts.length) {t' : Tab} (hs : t'.schema = ts[k].schema) (hn : t'.name = ts[k].name)
    (hq : r.schema = ts[k].schema → r.table = ts[k].name → ∀ q ∈ ts[k].rules, q.name = r.key → q.kind = 2 → goB l ts[k].cols r.cols q.cols = true → ∃ q' ∈ t'.rules, q'.name = r.key ∧ q'.kind = 2 ∧ goB l t'.cols r.cols q'.cols = true) : KeyP (ts.set k t') l r := by
  obtain ⟨t, hm, e1, e2, q, hm2, f1, f2, f3⟩ := h
  obtain ⟨i, hi, rfl⟩ := List.getElem_of_mem hm
  by_cases e : i = k
  · subst e
    exact ⟨t', List.mem_set hi t', hs.trans e1, hn.trans e2, hq e1.symm e2.symm q hm2 f1 f2 f3⟩
  · exact ⟨ts[i], List.mem_iff_getElem.2 ⟨i, by rw [List.length_set]; exact hi, List.getElem_set_ne (Ne.symm e) _⟩, e1, e2, q, hm2, f1, f2, f3⟩
theorem Rt.set {ss : List Sch} {ts : List Tab} (h : Rt ss ts) {k : Nat} (hk : k < ts.length) {t' : Tab} (hs : t'.schema = ts[k].schema) (hn : t'.name = ts[k].name) (hT : RtT ss (ts.set k t') t')
    (hq : ∀ j (hj : j < ts.length), j ≠ k → ∀ r ∈ ts[j].rules, r.kind = 4 → r.schema = ts[k].schema → r.table = ts[k].name → ∀ q ∈ ts[k].rules, q.name = r.key → q.kind = 2 → goB ts[j].cols ts[k].cols r.cols q.cols = true → ∃ q' ∈ t'.rules, q'.name = r.key ∧ q'.kind = 2 ∧ goB ts[j].cols t'.cols r.cols q'.cols = true) : Rt ss (ts.set k t') := by
  have hmap : (ts.set k t').map (fun t : Tab => (t.schema, t.name)) = ts.map (fun t : Tab => (t.schema, t.name)) := set_map _ hk (by rw [hs, hn])
  refine ⟨h.l, pw_map hmap h.t, h.s, fun s hs => by rw [cnt_map s.name hmap]; exact h.n s hs, fun x hx => ?_⟩
  obtain ⟨j, hj, rfl⟩ := List.getElem_of_mem hx
  rw [List.length_set] at hj
  rw [List.getElem_set]
  split
  · exact hT
  · rename_i hne
    exact (h.r _ (List.getElem_mem hj)).mono (fun _ h => h) fun r hr e hk' => hk'.set hk hs hn (hq j hj (Ne.symm hne) r hr e)
theorem kindOf_find (l : List Col) (n : ByteArray) : kindOf l n = (l.find? (fun x => x.name.toList == n.toList)).map (·.kind) := by
  unfold kindOf
  rcases idx_cases (fun x : Col => x.name.toList == n.toList) l with ⟨k, hk, e, y, y2⟩ | ⟨e, y⟩
  · rw [e, if_pos (by omega), Int.toNat_natCast, getD_at hk]
    rw [show l.find? (fun x => x.name.toList == n.toList) = some l[k] from List.find?_eq_some_iff_getElem.2 ⟨y, k, hk, rfl, fun j hj => by rw [y2 j (by omega) hj]; rfl⟩]; rfl
  · rw [e, if_neg (by omega), List.find?_eq_none.2 fun x hx => ?_]; rfl
    obtain ⟨j, hj, rfl⟩ := List.getElem_of_mem hx
    rw [y j hj]; decide
theorem kindOf_is {l : List Col} {n : ByteArray} : (kindOf l n).isSome = true ↔ ∃ x ∈ l, x.name = n := by
  rw [kindOf_find, Option.isSome_map, List.find?_isSome]
  simp only [beqS_iff]
theorem kindOf_at {l : List Col} {n : ByteArray} (h : (kindOf l n).isSome = true) : kindOf l n = some (kindAt l n) := by
  unfold kindOf at h ⊢
  unfold kindAt
  split
  · rfl
  · rename_i hc; rw [if_neg hc] at h; cases h
theorem kindAt_same {l l' : List Col} {n : ByteArray} (h : (kindOf l n).isSome = true) (e : kindOf l' n = kindOf l n) : kindAt l' n = kindAt l n := by
  have h1 := kindOf_at h
  have h2 := kindOf_at (l := l') (n := n) (by rw [e]; exact h)
  rw [e, h1] at h2
  exact (Option.some.inj h2).symm
theorem fits_iff {l : List Col} {r : Rul} : fitsB l r = true ↔ nameB r.name = true ∧ 1 ≤ r.cols.length ∧ (∀ i (hi : i < r.cols.length), (kindOf l r.cols[i]).isSome = true ∧ idx (fun y => r.cols[i].toList == y.toList) r.cols = (i : Int)) ∧ tailB l r = true := by
  unfold fitsB tailB
  rw [Bool.and_eq_true, Bool.and_eq_true, Bool.and_eq_true, decide_eq_true_eq]
  have e : allB r.cols.length (fitAt l r.cols) = true ↔ ∀ i (hi : i < r.cols.length), (kindOf l r.cols[i]).isSome = true ∧ idx (fun y => r.cols[i].toList == y.toList) r.cols = (i : Int) := by
    unfold allB
    rw [decide_eq_true_eq]
    refine forall_congr' fun i => forall_congr' fun hi => ?_
    rw [fitAt_at hi, Bool.and_eq_true, decide_eq_true_eq, decide_eq_true_eq, idx_pos, kindOf_is]
    simp only [beqS_iff]
  rw [e]
theorem fits_same {l l' : List Col} {r : Rul} (h : fitsB l r = true) (e : ∀ n ∈ r.cols, kindOf l' n = kindOf l n) : fitsB l' r = true := by
  obtain ⟨h1, h2, h3, h4⟩ := fits_iff.1 h
  refine fits_iff.2 ⟨h1, h2, fun i hi => ⟨by rw [e _ (List.getElem_mem hi)]; exact (h3 i hi).1, (h3 i hi).2⟩, ?_⟩
  have hk : kindAt l' (r.cols.getD 0 nStr) = kindAt l (r.cols.getD 0 nStr) := by
    rw [getD_at (show 0 < r.cols.length by omega)]
    exact kindAt_same (h3 0 (by omega)).1 (e _ (List.getElem_mem (by omega)))
  unfold tailB at h4 ⊢
  rw [hk]; exact h4
theorem go_iff {l c : List Col} {ns ms : List ByteArray} : goB l c ns ms = true ↔ ms.length = ns.length ∧ ∀ i (hi : i < ms.length) (hj : i < ns.length), kindOf l ns[i] = kindOf c ms[i] ∧ (kindOf l ns[i]).isSome = true := by
  unfold goB allB
  rw [Bool.and_eq_true, decide_eq_true_eq, decide_eq_true_eq]
  refine and_congr_right fun hl => forall_congr' fun i => forall_congr' fun hi => ?_
  have hj : i < ns.length := by omega
  unfold pairOK
  show (decide (kindOf l (ns.getD i nStr) = kindOf c (ms.getD i nStr)) && (kindOf l (ns.getD i nStr)).isSome) = true ↔ _
  rw [getD_at hi, getD_at hj, Bool.and_eq_true, decide_eq_true_eq]
  exact ⟨fun h _ => h, fun h => h hj⟩
theorem go_same {l l' c c' : List Col} {ns ms : List ByteArray} (h : goB l c ns ms = true) (e1 : ∀ n ∈ ns, kindOf l' n = kindOf l n) (e2 : ∀ n ∈ ms, kindOf c' n = kindOf c n) : goB l' c' ns ms = true := by
  obtain ⟨hl, hp⟩ := go_iff.1 h
  refine go_iff.2 ⟨hl, fun i hi hj => ?_⟩
  rw [e1 _ (List.getElem_mem hj), e2 _ (List.getElem_mem hi)]
  exact hp i hi hj
theorem mayCols_iff {l : List Col} : mayCols l = true ↔ 1 ≤ l.length ∧ l.length ≤ 8 ∧ (∀ c ∈ l, mayCol c = true) ∧ l.Pairwise (fun a b => a.name ≠ b.name) := by
  unfold mayCols allB
  rw [Bool.and_eq_true, Bool.and_eq_true, decide_eq_true_eq, decide_eq_true_eq, decide_eq_true_eq]
  refine and_congr_right fun _ => and_congr_right fun _ => ⟨fun h => ⟨fun c hc => ?_, ?_⟩, fun h k hk => ?_⟩
  · obtain ⟨i, hi, rfl⟩ := List.getElem_of_mem hc
    have := h i hi
    rw [colAt_at hi, Bool.and_eq_true] at this
    exact this.1
  · rw [List.pairwise_iff_getElem]
    intro i j hi hj hij e
    have := h j hj
    rw [colAt_at hj, Bool.and_eq_true, decide_eq_true_eq] at this
    rcases idx_cases (fun x : Col => x.name.toList == l[j].name.toList) l with ⟨k, hk, f, _, y2⟩ | ⟨f, _⟩
    · rw [f] at this
      obtain rfl : k = j := by omega
      have := y2 i hi hij
      rw [e] at this
      simp at this
    · rw [f] at this; omega
  · rw [colAt_at hk, Bool.and_eq_true, decide_eq_true_eq]
    refine ⟨h.1 _ (List.getElem_mem hk), idx_at hk (by simp) fun j hj hne => ?_⟩
    cases hc : (l[j].name.toList == l[k].name.toList) with
    | false => rfl
    | true =>
      have e := beqS_iff.1 hc
      rcases Nat.lt_or_gt_of_ne hne with hl | hl
      · exact absurd e (List.pairwise_iff_getElem.1 h.2 j k hj hk hl)
      · exact absurd e.symm (List.pairwise_iff_getElem.1 h.2 k j hk hj hl)
theorem kindOf_erase {l : List Col} {m : Nat} (hm : m < l.length) {n : ByteArray} (h : l[m].name ≠ n) : kindOf (l.eraseIdx m) n = kindOf l n := by
  rw [kindOf_find, kindOf_find, List.eraseIdx_eq_take_drop_succ]
  conv => rhs; rw [← List.take_append_drop m l, List.drop_eq_getElem_cons hm]
  rw [List.find?_append, List.find?_append, List.find?_cons, show (l[m].name.toList == n.toList) = false from by
    cases hc : (l[m].name.toList == n.toList) with
    | false => rfl
    | true => exact absurd (beqS_iff.1 hc) h]
theorem KeyP.cols {ts : List Tab} {l l' : List Col} {r : Rul} (h : KeyP ts l r) (e : ∀ n ∈ r.cols, kindOf l' n = kindOf l n) : KeyP ts l' r := by
  obtain ⟨t, hm, e1, e2, q, hq, f1, f2, f3⟩ := h
  exact ⟨t, hm, e1, e2, q, hq, f1, f2, go_same f3 e fun _ _ => rfl⟩
theorem Rt.cols {ss : List Sch} {ts : List Tab} (h : Rt ss ts) {k : Nat} (hk : k < ts.length) {cols : List Col} (hm : mayCols cols = true) (he : ∀ r ∈ ts[k].rules, ∀ n ∈ r.cols, kindOf cols n = kindOf ts[k].cols n) : Rt ss (ts.set k { ts[k] with cols := cols }) := by
  have g := h.r _ (List.getElem_mem hk)
  have hq : ∀ (l l' : List Col) (r : Rul), (∀ n ∈ r.cols, kindOf l' n = kindOf l n) → ∀ q ∈ ts[k].rules, q.name = r.key → q.kind = 2 → goB l ts[k].cols r.cols q.cols = true → ∃ q' ∈ ts[k].rules, q'.name = r.key ∧ q'.kind = 2 ∧ goB l' cols r.cols q'.cols = true := fun l l' r e q hq f1 f2 f3 => ⟨q, hq, f1, f2, go_same f3 e (he q hq)⟩
  refine h.set hk (t' := { ts[k] with cols := cols }) rfl rfl ⟨g.n, g.o, hm, g.l, g.s, fun r hr => fits_same (g.f r hr) (he r hr), fun r hr e => ?_, g.r⟩ fun j hj _ r _ _ _ _ q hq' f1 f2 f3 => hq _ _ r (fun _ _ => rfl) q hq' f1 f2 f3
  exact ((g.k r hr e).set hk (t' := { ts[k] with cols := cols }) rfl rfl fun _ _ q hq' f1 f2 f3 => hq _ _ r (fun _ _ => rfl) q hq' f1 f2 f3).cols (he r hr)
theorem Rt.dropCol {ss : List Sch} {ts : List Tab} (h : Rt ss ts) {k : Nat} (hk : k < ts.length) {m : Nat} (hm : m < ts[k].cols.length) (h1 : ts[k].cols.length ≠ 1) (hu : ∀ r ∈ ts[k].rules, ts[k].cols[m].name ∉ r.cols) : Rt ss (ts.set k { ts[k] with cols := ts[k].cols.eraseIdx m }) := by
  have g := mayCols_iff.1 (h.r _ (List.getElem_mem hk)).c
  have hsub := List.eraseIdx_sublist ts[k].cols m
  have hlen := List.length_eraseIdx_of_lt hm
  exact h.cols hk (mayCols_iff.2 ⟨by omega, by omega, fun c hc => g.2.2.1 c (hsub.mem hc), g.2.2.2.sublist hsub⟩) fun r hr n hn => kindOf_erase hm fun e => hu r hr (by rw [e]; exact hn)
def cfR (x y : Rul) : Int := cmpS x.name y.name
theorem Rt.addRul {ss : List Sch} {ts : List Tab} (h : Rt ss ts) {k : Nat} (hk : k < ts.length) {r : Rul} (hf : fitsB ts[k].cols r = true) (hx : ∀ x ∈ ts[k].rules, x.name ≠ r.name) (hl : ts[k].rules.length < 8) (hkey : r.kind = 4 → KeyP ts ts[k].cols r) : Rt ss (ts.set k { ts[k] with rules := ins (ltOf cfR) r ts[k].rules }) := by
  have g := h.r _ (List.getElem_mem hk)
  have hq : ∀ (l : List Col) (x : Rul), ∀ q ∈ ts[k].rules, q.name = x.key → q.kind = 2 → goB l ts[k].cols x.cols q.cols = true → ∃ q' ∈ ins (ltOf cfR) r ts[k].rules, q'.name = x.key ∧ q'.kind = 2 ∧ goB l ts[k].cols x.cols q'.cols = true := fun l x q hq f1 f2 f3 => ⟨q, mem_ins.2 (.inl hq), f1, f2, f3⟩
  refine h.set hk (t' := { ts[k] with rules := ins (ltOf cfR) r ts[k].rules }) rfl rfl ⟨g.n, g.o, g.c, by rw [len_ins]; omega, g.s, fun x hx' => ?_, fun x hx' e => ?_, ?_⟩ fun j hj _ x _ _ _ _ q hq' f1 f2 f3 => hq _ x q hq' f1 f2 f3
  · rcases mem_ins.1 hx' with hx' | rfl
    · exact g.f x hx'
    · exact hf
  · have : KeyP ts ts[k].cols x := by
      rcases mem_ins.1 hx' with hx' | rfl
      · exact g.k x hx' e
      · exact hkey e
    exact this.set hk rfl rfl fun _ _ q hq' f1 f2 f3 => hq _ x q hq' f1 f2 f3
  · have := ins_sorted (lt := ltOf cfR) (x := r) (swo_key (fun x : Rul => x.name)).trans (l := ts[k].rules) (g.r.imp fun h => decide_eq_true (show cfR _ _ < 0 from h)) (fun a ha => by
      rcases cmpS_tri (hx a ha) with g | g
      · exact .inr (decide_eq_true g)
      · exact .inl (decide_eq_true g))
    exact this.imp fun h => of_decide_eq_true h
theorem Rt.dropRul {ss : List Sch} {ts : List Tab} (h : Rt ss ts) {k : Nat} (hk : k < ts.length) {m : Nat} (hm : m < ts[k].rules.length) (hu : ts[k].rules[m].kind = 2 → ∀ t ∈ ts, ∀ r ∈ t.rules, r.kind = 4 → r.schema = ts[k].schema → r.table = ts[k].name → r.key ≠ ts[k].rules[m].name) : Rt ss (ts.set k { ts[k] with rules := ts[k].rules.eraseIdx m }) := by
  have g := h.r _ (List.getElem_mem hk)
  have hsub := List.eraseIdx_sublist ts[k].rules m
  have hlen := List.length_eraseIdx_of_lt hm
  have hq : ∀ (l : List Col) (t : Tab) (_ : t ∈ ts) (x : Rul) (_ : x ∈ t.rules) (_ : x.kind = 4), x.schema = ts[k].schema → x.table = ts[k].name → ∀ q ∈ ts[k].rules, q.name = x.key → q.kind = 2 → goB l ts[k].cols x.cols q.cols = true → ∃ q' ∈ ts[k].rules.eraseIdx m, q'.name = x.key ∧ q'.kind = 2 ∧ goB l ts[k].cols x.cols q'.cols = true := fun l t ht x hx e4 e1 e2 q hq f1 f2 f3 => by
    obtain ⟨i, hi, rfl⟩ := List.getElem_of_mem hq
    refine ⟨_, List.mem_eraseIdx_iff_getElem.2 ⟨i, hi, fun e => ?_, rfl⟩, f1, f2, f3⟩
    subst e
    exact hu f2 t ht x hx e4 e1 e2 f1.symm
  refine h.set hk (t' := { ts[k] with rules := ts[k].rules.eraseIdx m }) rfl rfl ⟨g.n, g.o, g.c, by show (ts[k].rules.eraseIdx m).length ≤ 8; have := g.l; omega, g.s, fun x hx => g.f x (hsub.mem hx), fun x hx e => ?_, g.r.sublist hsub⟩ fun j hj _ x hx e4 e1 e2 q hq' f1 f2 f3 => hq _ _ (List.getElem_mem hj) x hx e4 e1 e2 q hq' f1 f2 f3
  exact (g.k x (hsub.mem hx) e).set hk rfl rfl fun e1 e2 q hq' f1 f2 f3 => hq _ _ (List.getElem_mem hk) x (hsub.mem hx) e e1 e2 q hq' f1 f2 f3
end Go.Proofs.YtmmiehckgkadgaaGreat.O
namespace Go.Proofs.YtmmiehckgkadgaaGreat.O
set_option linter.unusedVariables false
set_option linter.unusedSimpArgs false
open Go.RowKit Go.Proofs.YtmmiehckgkadgaaGreatW.PrintWords Go.Sort Go.Shelf
instance : Inhabited RulP := ⟨⟨zRul, none, 0⟩⟩
instance : Inhabited Rul := ⟨zRul⟩
def cfRP (p q : RulP) : Int := cfR p.r q.r
theorem swoRP : SWO (ltOf cfRP) := swo_key (fun p : RulP => p.r.name)
set_option maxHeartbeats 1000000 in
theorem byNameL.calls (x y : RulP) (W : World) : Calls Tryz.prog 34 #[.agg (encR x).toArray, .agg (encR y).toArray] W fun e w' => e = .returned (.int .i64 (cfRP x y)) ∧ ∃ q os', w' = grow (W.drewN q) os' := by
  have hcon := fun W' => compare.calls x.r.name y.r.name W'
  unfold cfRP cfR encR
  generalize cmpS x.r.name y.r.name = r at hcon ⊢
  go_enter Tryz.func34, Tryz.ntmps34
  go_wp2_with (go_at_call 35; refine (hcon _).mono ?_; rintro e w' ⟨rfl, rfl⟩)
  go_ret
  exact ⟨rfl, 0, _, by rw [alloc_eq_grow, alloc_eq_grow, grow_grow]; rfl⟩
theorem ruls_lie {B g c : Nat} {w : World} {ok : Nat → Prop} {xs : List Rul} (hR : kRul.R 29 w B ok (.slice (some ⟨g, 0, none⟩) xs.length c) xs) : ∃ ps : Array RulP, ps.toList.map (·.r) = xs ∧ HoldsK encR 8 w g 0 ps ∧ ∀ p, p ∈ ps.toList → kRul.M w B (fun k => ok k ∧ some k ≠ some g) p.r (encR p) := by
  obtain ⟨cur, hg, hcs⟩ := R_block hR
  obtain ⟨hok, inner, ho, hr⟩ := hR
  rcases ho.2 with ⟨h, _⟩ | ⟨g', c', cur', hv, hb, hg', hnc, hm, hs, ht⟩
  · cases h
  injection hv with hA _ hc
  injection hA with hA
  injection hA with hA _ _
  subst hA hc
  obtain rfl : cur = cur' := by rw [hg] at hg'; injection hg' with h; injection h
  have key : ∀ j (hj : j < xs.length), ∃ p : RulP, p.r = xs[j] ∧ (inner.drop (j * 8)).take 8 = encR p ∧ kRul.M w B (fun k => ok k ∧ some k ≠ some g) p.r (encR p) := fun j hj => by
    have hM := hr.2 j xs[j] (List.getElem?_eq_getElem hj)
    obtain ⟨v2, e, h2⟩ := kRul_openM hM
    obtain ⟨A2, c2, rfl⟩ := Kd.R_slice h2
    refine ⟨⟨xs[j], A2, c2⟩, rfl, e, ?_⟩
    rw [← show (inner.drop (j * kRul.sz)).take kRul.sz = encR ⟨xs[j], A2, c2⟩ from e]
    exact hM
  have hps : ∃ ps : List RulP, ps.length = xs.length ∧ ∀ j (hj : j < xs.length) (hj' : j < ps.length), ps[j].r = xs[j] ∧ (inner.drop (j * 8)).take 8 = encR ps[j] ∧ kRul.M w B (fun k => ok k ∧ some k ≠ some g) ps[j].r (encR ps[j]) := by
    refine ⟨List.ofFn (fun j : Fin xs.length => (key j.1 j.2).choose), by simp, fun j hj hj' => ?_⟩
    rw [List.getElem_ofFn]
    exact (key j hj).choose_spec
  obtain ⟨ps, hl, hp⟩ := hps
  refine ⟨ps.toArray, ?_, ?_, ?_⟩
  · refine List.ext_getElem (by simpa using hl) fun j h1 h2 => ?_
    simp only [List.getElem_map]
    exact (hp j h2 (by omega)).1
  · refine holdsK_of (by decide) (fun _ => rfl) (fun j hj i hi => ?_) (fun o => blk_frozen hg o)
    have hj' : j < ps.length := by simpa using hj
    obtain ⟨_, he, _⟩ := hp j (by omega) hj'
    have e2 : (encR ps[j])[i]? = cur[j * 8 + i]? := by
      rw [← he, List.getElem?_take, if_pos hi, List.getElem?_drop, ← ht, List.getElem?_take, if_pos, Array.getElem?_toList]
      show j * 8 + i < xs.length * 8
      omega
    rw [blk_cell hg]
    simpa using e2.symm
  · intro p hpm
    obtain ⟨j, hj, rfl⟩ := List.getElem_of_mem hpm
    have hj' : j < ps.length := by simpa using hj
    have := (hp j (by omega) hj').2.2
    simpa using this
set_option maxHeartbeats 1000000 in
theorem sortRul.calls (xs : List Rul) (w : World) {base g c : Nat} {ok : Nat → Prop} (hl : xs.length ≤ 3001) (hR : kRul.R 29 w base ok (.slice (some ⟨g, 0, none⟩) xs.length c) xs) :
    Calls Tryz.prog 33 #[.slice (some ⟨g, 0, none⟩) xs.length c, .func (.func 34) #[] #[]] w fun e w' => e = .returned (.tuple #[]) ∧ ∃ d' : Array Rul, PermIn 0 xs.toArray.size xs.toArray d' ∧ SortedIn (ltOf cfR) 0 xs.toArray.size d' ∧ kRul.R 29 w' base ok (.slice (some ⟨g, 0, none⟩) xs.length c) d'.toList ∧ w.grownBy w' (some g) := by
  have eg : ∀ args w, (callFunc 34 args).run Tryz.prog w = .ok (.enter 34 args) w := enters_of Tryz.func34 (by kernel_rfl) rfl
  obtain ⟨cur, hg, _⟩ := R_block hR
  obtain ⟨ps, hps, hH, hM⟩ := ruls_lie hR
  have hsz : ps.size = xs.length := by rw [← hps]; simp
  have hcon := AnyQ.slices_SortFunc Tryz.sortRul 8 Tryz.isAgg29 Tryz.sizeOf29 encR (fun _ => rfl) (fun x v hv => by simp [encR] at hv; rcases hv with rfl | rfl | rfl | rfl | rfl | rfl | rfl | rfl <;> rfl) cfRP swoRP 34 #[] g 0 c ps w eg (fun _ _ _ _ x y => byNameL.calls x y _) hH (blk_lt hg) (by omega)
  rw [hsz] at hcon
  refine hcon.mono ?_
  rintro e w' ⟨rfl, d', m, os, hp, hs, rfl⟩
  have hds : d'.size = xs.length := by rw [hp.1, hsz]
  have hmem : ∀ p, p ∈ d'.toList → p ∈ ps.toList := fun p hpm => by
    have h2 := hp.2.2
    rw [show d'.extract 0 xs.length = d' by rw [← hds]; exact Array.extract_size, show ps.extract 0 xs.length = ps by rw [← hsz]; exact Array.extract_size] at h2
    exact h2.mem_iff.1 hpm
  obtain ⟨h1, h2⟩ := R_sorted hR encR (·.r) d' (by decide) (fun _ => rfl) hds (fun y hy => hM y (hmem y hy)) m os
  refine ⟨rfl, (d'.toList.map (·.r)).toArray, ⟨by simp [hds], ?_, ?_⟩, ?_, by show kRul.R 29 (sortWorldK encR kRul.sz w g 0 m d' os) base ok _ _; simpa using h1, h2⟩
  · intro i hi
    rcases hi with hi | hi
    · omega
    · have hi' : xs.length ≤ i := by simpa using hi
      rw [getElem!_neg _ i (by simp; omega), getElem!_neg _ i (by simp; omega)]
  · have h3 := hp.2.2
    rw [show d'.extract 0 xs.length = d' by rw [← hds]; exact Array.extract_size, show ps.extract 0 xs.length = ps by rw [← hsz]; exact Array.extract_size] at h3
    have e1 : (d'.toList.map (·.r)).toArray.extract 0 xs.toArray.size = (d'.toList.map (·.r)).toArray := by
      rw [show xs.toArray.size = (d'.toList.map (·.r)).toArray.size by simp [hds]]; exact Array.extract_size
    rw [e1, Array.extract_size]
    show (d'.toList.map (·.r)).Perm xs
    rw [← hps]
    exact h3.map _
  · intro i j h0 hij hj
    have hj' : j < xs.length := by simpa using hj
    have := hs i j h0 hij hj'
    rw [getElem!_pos d' j (by omega), getElem!_pos d' i (by omega)] at this
    rw [getElem!_pos _ j (by simp; omega), getElem!_pos _ i (by simp; omega)]
    have this2 : ltOf cfR d'[j].r d'[i].r = false := this
    simpa using this2
end Go.Proofs.YtmmiehckgkadgaaGreat.O
