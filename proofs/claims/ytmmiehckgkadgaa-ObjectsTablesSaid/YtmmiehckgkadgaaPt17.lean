/- Own lemmas and walks (G3, SB, TA), without what the law does not need. Laid by a program of this session (prune.py). -/
import Derived.Lib.SliceRun
import Derived.Test.YtmmiehckgkadgaaPt3
import Derived.Test.YtmmiehckgkadgaaPt11
import Derived.Test.YtmmiehckgkadgaaPt16
namespace Go.Proofs.Ytmmiehckgkadgaa.O
set_option linter.unusedVariables false
set_option linter.unusedSimpArgs false
open Go.RowKit Go.Proofs.YtmmiehckgkadgaaW.PrintWords
section
variable {P : Program}
theorem R_cap {α : Type} {d : Kd α} {e b g n c : Nat} {w : World} {ok : Nat → Prop} {xs : List α} (h : d.R e w b ok (.slice (some ⟨g, 0, none⟩) n c) xs) : c ≤ 9223372036854775807 := by
  obtain ⟨_, inner, ho, _⟩ := h
  rcases ho.2 with ⟨h, _⟩ | ⟨g', cap, cur, hv, _, _, _, hm, _⟩
  · cases h
  · injection hv with _ _ hc; subst hc; exact hm
theorem R_bs {α : Type} {d : Kd α} {e b g n c : Nat} {w : World} {ok : Nat → Prop} {xs : List α} (h : d.R e w b ok (.slice (some ⟨g, 0, none⟩) n c) xs) : b ≤ w.heap.size := by
  have h1 := Kd.R_base h g rfl
  have h2 := Kd.R_lt h g rfl
  omega
theorem R_block {α : Type} {d : Kd α} {e b g n c : Nat} {w : World} {ok : Nat → Prop} {xs : List α} (h : d.R e w b ok (.slice (some ⟨g, 0, none⟩) n c) xs) : ∃ cur, w.heap[g]? = some (.cells cur e (0, 0)) ∧ cur.size = c * d.sz := by
  obtain ⟨_, inner, ho, _⟩ := h
  rcases ho.2 with ⟨h, _⟩ | ⟨g', cap, cur, hv, _, hg, _, _, hs, _⟩
  · cases h
  · injection hv with hA _ hc; injection hA with hA; injection hA with hA _ _; subst hA hc; exact ⟨cur, hg, hs⟩
theorem R_behind {α : Type} {d : Kd α} {e b g n c : Nat} {w : World} {ok : Nat → Prop} {xs : List α} (h : d.R e w b ok (.slice (some ⟨g, 0, none⟩) n c) xs) (o : Nat) (vs : List Value) (ho' : n * d.sz ≤ o) (hf : o + vs.length ≤ c * d.sz) : d.R e (w.setCells g o vs) b ok (.slice (some ⟨g, 0, none⟩) n c) xs ∧ w.grownBy (w.setCells g o vs) (some g) := by
  have hn := (Kd.R_reads' h).1
  obtain ⟨hok, inner, ho, hr⟩ := h
  obtain ⟨s1, s2, s3, s4⟩ := setCells_same g vs o w
  have hfar : ∀ k, k ≠ g → (w.setCells g o vs).heap[k]? = w.heap[k]? := fun k hk => setCells_far vs o k hk
  refine ⟨⟨hok, inner, ⟨ho.1, ?_⟩, hr.imp_ (fun _ _ hp => Kd.M_step hp (fun k hk _ => hfar k (fun e => hk.2 (by rw [e]; rfl))))⟩, ⟨s1, s2, s3, by rw [s4]; exact Nat.le_refl _, fun k _ hk => hfar k (fun e => hk (by rw [e]))⟩⟩
  rcases ho.2 with ⟨h, _⟩ | ⟨g', cap, cur, hv, hb, hg, hnc, hm, hs, ht⟩
  · cases h
  · injection hv with hA _ hc; injection hA with hA; injection hA with hA _ _
    subst hA hc
    obtain ⟨cur', h1, h2, h3⟩ := setCells_row vs o w cur hg (by rw [hs]; exact hf)
    refine .inr ⟨g, c, cur', by rw [← hn], hb, h1, hnc, hm, by rw [h2]; exact hs, ?_⟩
    rw [← ht, h3, List.append_assoc, List.take_append_of_le_length, List.take_take, Nat.min_eq_left]
    · rw [← hn]; exact ho'
    · rw [List.length_take, Array.length_toList]
      have h5 : xs.length * d.sz = n * d.sz := by rw [hn]
      show xs.length * d.sz ≤ min o cur.size
      rw [hs]; omega
theorem info_size {i : Option TypeInfo} {z : Option Value} {s b : Nat} (h : i.map (fun i => (i.zero, i.size, i.bytes)) = some (z, s, b)) : i.map (·.size) = some s := by
  obtain ⟨i0, hi, hz⟩ := Option.map_eq_some_iff.1 h
  simp only [Prod.mk.injEq] at hz
  rw [hi]; simp [hz.2.1]
theorem cut_all (t e : TypeId) {i : TypeInfo} (ht : P.underlying t = some (.slice e)) (hi : P.info? e = some i) (g n c k : Nat) (hk : k < n) (hc : n ≤ c) : ∃ v, ∀ W : World, (Instr.slice t (.slice (some ⟨g, 0, none⟩) n c) (some (.int .i64 (k : Int))) (some (.int .i64 ((k : Int) + 1))) (some (.int .i64 (n : Int)))).run P W = .ok v W := by
  have hel : P.elem t = e := by simp [Program.elem, ht]
  have hu : P.underlying t = some (.slice (P.elem t)) := by rw [hel]; exact ht
  refine ⟨sliced (some ⟨g, 0, none⟩) (k : Int).toNat ((k : Int) + 1).toNat (n : Int).toNat i.size, fun W => ?_⟩
  rw [run_slice_lhm W t (some ⟨g, 0, none⟩) n c hu .i64 .i64 .i64 (k : Int) ((k : Int) + 1) (n : Int) (by omega) (by omega) (by omega) (by omega), hel]
  simp [sizeOf, typeInfo, hi, Result.andThen]
theorem cut_last (t e : TypeId) {i : TypeInfo} (ht : P.underlying t = some (.slice e)) (hi : P.info? e = some i) (sz : Nat) (hsz : i.size = sz) (g n c : Nat) (hn : 0 < n) (hc : n ≤ c) : ∀ W : World, (Instr.slice t (.slice (some ⟨g, 0, none⟩) (n - 1) c) (some (.int .i64 ((n - 1 : Nat) : Int))) (some (.int .i64 (n : Int))) none).run P W = .ok (.slice (some ⟨g, (n - 1) * sz, none⟩) 1 (c - (n - 1))) W := by
  intro W
  have hel : P.elem t = e := by simp [Program.elem, ht]
  have hu : P.underlying t = some (.slice (P.elem t)) := by rw [hel]; exact ht
  rw [run_slice_lh W t (some ⟨g, 0, none⟩) (n - 1) c hu .i64 .i64 ((n - 1 : Nat) : Int) (n : Int) (by omega) (by omega) (by omega), hel]
  have h1 : n - (n - 1) = 1 := by omega
  have h2 : ¬ c = n - 1 := by omega
  simp [sizeOf, typeInfo, hi, hsz, sliced, Result.andThen, h1, h2, Addr.add]
  omega
theorem run_clear_one (w : World) (t e : TypeId) (z : Value) (zs : List Value) (ht : P.underlying t = some (.slice e)) (hv : ∀ w, (zeroValue e).run P w = .ok z w) (hz : (Builtin.zeroCells z.cells 1).toList = zs) (h1 : ∀ v ∈ zs, v.oneCell' = true) (b o c sz : Nat) (hsz : zs.length = sz) (cap : Nat)
    (hg : ∃ cur : Array Value, w.heap[b]? = some (.cells cur e (0, 0)) ∧ cur.size = cap * sz) (hf : o + sz ≤ cap * sz) (ty : TypeId) :
    (Builtin.clear_ #[t] ty #[.slice (some ⟨b, o, none⟩) 1 c]).run P w = .ok (.tuple #[]) (w.setCells b o zs) := by
  obtain ⟨cur, hg, hs⟩ := hg
  have hst := run_storeCells_cells (P := P) b o zs 0 w (fun j hj => by rw [blk_cell hg, Array.getElem?_eq_getElem (by omega)]; rfl) (fun j hj => blk_frozen hg _) h1
  simp only [Nat.add_zero] at hst
  simp [Builtin.clear_, run_underlying ht, hv, hz, hst]
end
end Go.Proofs.Ytmmiehckgkadgaa.O
namespace Go.Proofs.Ytmmiehckgkadgaa.O
set_option linter.unusedVariables false
set_option linter.unusedSimpArgs false
open Go.RowKit Go.Proofs.YtmmiehckgkadgaaW.PrintWords
end Go.Proofs.Ytmmiehckgkadgaa.O
namespace Go.Proofs.Ytmmiehckgkadgaa.O
set_option linter.unusedVariables false
set_option linter.unusedSimpArgs false
open Go.RowKit Go.Proofs.YtmmiehckgkadgaaW.PrintWords
theorem InDid.err {B : Nat} {W w' : World} {ss : List Sch} {ts : List Tab} {k : Nat} {Bs : Option Addr} {ds g dt : Nat} {r : Int × Tab} (n : Int) (hn : r.1 = n) (h0 : n ≠ 0) (hb : Below W.heap.size W w') (hBW : B ≤ W.heap.size) : InDid B W ss ts k Bs ds g dt r (.returned (.int .i64 n)) w' :=
  ⟨by rw [hn], hb.mono hBW, fun q cs h => blk_below h hb, fun h => absurd (hn.symm.trans h) h0⟩
theorem InDid.cols {B : Nat} {W W0 w1 : World} {ss : List Sch} {ts : List Tab} {k : Nat} {Bs A3 : Option Addr} {ds g dt c3 : Nat} {t : Tab} {v1 : Value} {oki : Nat → Prop} {xs : List Col} (hb : Below W.heap.size W W0) (hBW : B ≤ W.heap.size) (hgB : B ≤ g) (hR : kSch.R 63 W B (fun _ => True) (.slice Bs ss.length ds) ss) (h3 : kCol.R 41 W0 B oki (.slice A3 xs.length c3) xs) (hg : W0.grownBy w1 (Value.slice A3 xs.length c3).ownBlock)
    (hgc : ∃ cells, w1.heap[g]? = some (.cells cells 35 (0, 0))) (j : Nat) (hS : Kd.S kTab 35 (w1.setCell ⟨g, j, none⟩ v1) B (fun _ => True) (.slice (some ⟨g, 0, none⟩) ts.length dt) (ts.set k t)) : InDid B W ss ts k Bs ds g dt (0, t) (.returned (.int .i64 0)) (w1.setCell ⟨g, j, none⟩ v1) := by
  obtain ⟨cells, hgc⟩ := hgc
  have hb1 : Below B W w1 := (hb.mono hBW).grown hg (Nat.le_trans hBW hb.size) (fun q hq => Kd.R_base h3 q hq)
  have key : ∀ (q : Nat) (cs : Array Value), W.heap[q]? = some (.cells cs 26 (0, 0)) → w1.heap[q]? = some (.cells cs 26 (0, 0)) := fun q cs hq => blk_grown (blk_below hq hb) hg (Kd.R_ne h3 (blk_below hq hb) (by decide))
  exact ⟨rfl, hb1.setCell hgB _, fun q cs hq => blk_far (p := ⟨g, j, none⟩) (key q cs hq) (blk_ne (key q cs hq) hgc (by decide)) _, fun _ => ⟨Kd.R_set (Kd.R_over' (Kd.R_below hR hb) (Kd.R_typed h3) (by decide) hg) hgc (by decide) _ _, hS⟩⟩
theorem boxes3c (w : World) (o1 o2 o3 : Obj) : Below w.heap.size w (((w.alloc o1).alloc o2).alloc o3) := (boxes3 w o1 o2 o3).1
end Go.Proofs.Ytmmiehckgkadgaa.O
namespace Go.Proofs.Ytmmiehckgkadgaa.O
set_option linter.unusedVariables false
set_option linter.unusedSimpArgs false
open Go.RowKit Go.Proofs.YtmmiehckgkadgaaW.PrintWords
end Go.Proofs.Ytmmiehckgkadgaa.O
namespace Go.Proofs.Ytmmiehckgkadgaa.O
set_option linter.unusedVariables false
set_option linter.unusedSimpArgs false
open Go.RowKit Go.Proofs.YtmmiehckgkadgaaW.PrintWords
end Go.Proofs.Ytmmiehckgkadgaa.O
namespace Go.Proofs.Ytmmiehckgkadgaa.O
set_option linter.unusedVariables false
set_option linter.unusedSimpArgs false
open Go.RowKit Go.Proofs.YtmmiehckgkadgaaW.PrintWords Go.Sort Go.Shelf
theorem R_sorted {α β : Type} [Inhabited β] {d : Kd α} {e base g c : Nat} {w : World} {ok : Nat → Prop} {xs : List α} (h : d.R e w base ok (.slice (some ⟨g, 0, none⟩) xs.length c) xs) (enc : β → List Value) (f : β → α) (ys : Array β) (hs0 : 0 < d.sz) (hk : ∀ y, (enc y).length = d.sz) (hsz : ys.size = xs.length)
    (hM : ∀ y, y ∈ ys.toList → d.M w base (fun k => ok k ∧ some k ≠ some g) (f y) (enc y)) (m : Nat) (os : Array Obj) :
    d.R e (sortWorldK enc d.sz w g 0 m ys os) base ok (.slice (some ⟨g, 0, none⟩) xs.length c) (ys.toList.map f) ∧ w.grownBy (sortWorldK enc d.sz w g 0 m ys os) (some g) := by
  obtain ⟨hok, inner, ho, hr⟩ := h
  rcases ho.2 with ⟨h, _⟩ | ⟨g', c', cur, hv, hb, hg, hnc, hm, hs, ht⟩
  · cases h
  injection hv with hA _ hc
  injection hA with hA
  injection hA with hA _ _
  subst hA hc
  have hlt : g < w.heap.size := blk_lt hg
  have hnz : xs.length * d.sz ≤ c * d.sz := Nat.mul_le_mul_right _ hnc
  have hpt : ∀ k, k < w.heap.size → (sortWorldK enc d.sz w g 0 m ys os).heap[k]? = (w.heap.modify g (onCells (putCells id 0 (flatK enc d.sz ys))))[k]? := fun k hk => by
    show ((w.heap.modify g (onCells (putCells id 0 (flatK enc d.sz ys)))) ++ os)[k]? = _
    rw [Array.getElem?_append_left (by simpa using hk)]
  have hfar : ∀ k, k < w.heap.size → k ≠ g → (sortWorldK enc d.sz w g 0 m ys os).heap[k]? = w.heap[k]? := fun k hk hne => by
    rw [hpt k hk, Array.getElem?_modify, if_neg (fun e => hne e.symm)]
  have hg' : (sortWorldK enc d.sz w g 0 m ys os).heap[g]? = some (.cells (putCells id 0 (flatK enc d.sz ys) cur) e (0, 0)) := by
    rw [hpt g hlt, Array.getElem?_modify, if_pos rfl, hg]; rfl
  have hcs : (putCells id 0 (flatK enc d.sz ys) cur).size = c * d.sz := by unfold putCells; rw [Array.size_mapIdx]; exact hs
  have hcl : (putCells id 0 (flatK enc d.sz ys) cur).toList.length = c * d.sz := by simpa using hcs
  have hml : (ys.toList.map f).length = xs.length := by simpa using hsz
  refine ⟨⟨hok, (putCells id 0 (flatK enc d.sz ys) cur).toList.take (xs.length * d.sz), ⟨?_, .inr ⟨g, c, _, ?_, hb, hg', ?_, hm, hcs, ?_⟩⟩, ?_, ?_⟩, ⟨rfl, rfl, rfl, ?_, fun k hk hne => hfar k hk (fun e => hne (by rw [e]))⟩⟩
  · rw [List.length_take, hcl, hml]; omega
  · rw [hml]
  · rw [hml]; exact hnc
  · rw [hml]
  · rw [List.length_take, hcl, hml]; omega
  · intro j p hp
    rw [List.getElem?_map, Option.map_eq_some_iff] at hp
    obtain ⟨y, hy, rfl⟩ := hp
    obtain ⟨hj, hyj⟩ := List.getElem?_eq_some_iff.1 hy
    have hj' : j < ys.size := by simpa using hj
    have hy2 : ys[j]! = y := by rw [getElem!_pos ys j hj']; simpa using hyj
    have hjn : (j + 1) * d.sz ≤ xs.length * d.sz := Nat.mul_le_mul_right _ (by omega)
    have hjn2 : (j + 1) * d.sz = j * d.sz + d.sz := by rw [Nat.add_mul, Nat.one_mul]
    have hrow : (((putCells id 0 (flatK enc d.sz ys) cur).toList.take (xs.length * d.sz)).drop (j * d.sz)).take d.sz = enc y := by
      refine List.ext_getElem? fun i => ?_
      by_cases hi : i < d.sz
      · have hlt2 : j * d.sz + i < ys.size * d.sz := by rw [hsz]; omega
        rw [List.getElem?_take, if_pos hi, List.getElem?_drop, List.getElem?_take, if_pos (by omega), Array.getElem?_toList]
        unfold putCells
        rw [Array.getElem?_mapIdx, Array.getElem?_eq_getElem (by rw [hs]; omega)]
        simp only [Option.map_some, id]
        rw [if_pos ⟨Nat.zero_le _, by rw [size_flatK]; omega⟩, Nat.sub_zero, get_flatK enc d.sz ys _ hlt2]
        have q1 : (j * d.sz + i) / d.sz = j := by rw [Nat.mul_comm, Nat.mul_add_div hs0, Nat.div_eq_of_lt hi]; rfl
        have q2 : (j * d.sz + i) % d.sz = i := by rw [Nat.mul_comm, Nat.mul_add_mod, Nat.mod_eq_of_lt hi]
        rw [q1, q2, hy2, getElem!_pos (enc y) i (by rw [hk]; exact hi), List.getElem?_eq_getElem (by rw [hk]; exact hi)]
      · rw [List.getElem?_take, if_neg hi, List.getElem?_eq_none (by rw [hk]; omega)]
    rw [hrow]
    exact Kd.M_step (hM y (List.mem_of_getElem? hy)) (fun k hk hlk => hfar k hlk (fun e => hk.2 (by rw [e]; rfl)))
  · show w.heap.size ≤ ((w.heap.modify g (onCells (putCells id 0 (flatK enc d.sz ys)))) ++ os).size
    simp
theorem holdsK_of {β : Type} [Inhabited β] {enc : β → List Value} {k g : Nat} {w : World} {ys : Array β} (h0 : 0 < k) (hk : ∀ y, (enc y).length = k) (hc : ∀ j (hj : j < ys.size) i, i < k → w.cell? ⟨g, j * k + i, none⟩ = (enc ys[j])[i]?) (hf : ∀ o, w.frozen? ⟨g, o, none⟩ = false) : HoldsK enc k w g 0 ys := by
  intro t ht
  rw [size_flatK] at ht
  refine ⟨?_, hf _⟩
  have hj : t / k < ys.size := Nat.div_lt_of_lt_mul (by rw [Nat.mul_comm]; exact ht)
  have hi : t % k < k := Nat.mod_lt _ h0
  have e : t / k * k + t % k = t := by rw [Nat.mul_comm]; exact Nat.div_add_mod t k
  have h := hc (t / k) hj (t % k) hi
  rw [e] at h
  rw [Nat.zero_add, h, get_flatK enc k ys t ht, getElem!_pos ys _ hj, getElem!_pos (enc ys[t / k]) _ (by rw [hk]; exact hi), List.getElem?_eq_getElem (by rw [hk]; exact hi)]
  rfl
instance : Inhabited Sch := ⟨zSch⟩
end Go.Proofs.Ytmmiehckgkadgaa.O
namespace Go.Proofs.Ytmmiehckgkadgaa.O
set_option linter.unusedVariables false
set_option linter.unusedSimpArgs false
open Go.RowKit Go.Proofs.YtmmiehckgkadgaaW.PrintWords Go.Sort Go.Shelf
def GR (w w' : World) : Prop := ∃ q os, w' = grow (w.drewN q) os
theorem GR.alloc {w w' : World} (h : GR w w') (o : Obj) : GR w (w'.alloc o) := by
  obtain ⟨q, os, rfl⟩ := h
  exact ⟨q, os ++ #[o], by rw [alloc_eq_grow, grow_grow]⟩
theorem GR.drew {w w' : World} (h : GR w w') : GR w w'.drew := by
  obtain ⟨q, os, rfl⟩ := h
  exact ⟨q + 1, os, by simp [grow, World.drewN, World.drew, Nat.add_assoc]⟩
theorem GR.refl (w : World) : GR w w := ⟨0, #[], by rw [grow_empty]; rfl⟩
theorem keep4g {w0 w : World} {v0 v1 v2 v3 : Value} {a0 a1 a2 a3 : Addr} (o : Obj) (h : w.cell? a0 = some v0 ∧ w.cell? a1 = some v1 ∧ w.cell? a2 = some v2 ∧ w.cell? a3 = some v3 ∧ GR w0 w) : (w.alloc o).cell? a0 = some v0 ∧ (w.alloc o).cell? a1 = some v1 ∧ (w.alloc o).cell? a2 = some v2 ∧ (w.alloc o).cell? a3 = some v3 ∧ GR w0 (w.alloc o) :=
  have hb := below_alloc (Below.refl w.heap.size w) o
  ⟨pw_cell_below hb h.1, pw_cell_below hb h.2.1, pw_cell_below hb h.2.2.1, pw_cell_below hb h.2.2.2.1, h.2.2.2.2.alloc o⟩
set_option maxHeartbeats 1000000 in
theorem order.grows (x y : Tab) {A3 A4 B3 B4 : Option Addr} {c3 c4 d3 d4 : Nat} (w : World) :
    Calls Try.prog 42 #[.agg #[.string x.schema, .string x.name, .string x.owner, .slice A3 x.cols.length c3, .slice A4 x.rules.length c4], .agg #[.string y.schema, .string y.name, .string y.owner, .slice B3 y.cols.length d3, .slice B4 y.rules.length d4]] w
      fun e w' => e = .returned (.int .i64 (orderT x y)) ∧ GR w w' := by
  have HO := Aside0.mk (show orderT x y = orI (cmpS x.schema y.schema) (cmpS x.name y.name) from rfl)
  rw [HO.out]
  clear HO
  generalize hm : cmpS x.schema y.schema = m
  generalize hn : cmpS x.name y.name = n
  have HM := fun W => compare.calls x.schema y.schema W
  have HN := fun W => compare.calls x.name y.name W
  rw [hm] at HM
  rw [hn] at HN
  have HC := Aside0.mk (And.intro HM HN)
  clear HM HN hm hn
  go_enter Try.func42, Try.ntmps42
  go_wp2_with fail
  go_region_held3 (fun w' => w'.cell? ⟨w.heap.size, 0, none⟩ = some (.string x.schema) ∧ w'.cell? ⟨w.heap.size, 1, none⟩ = some (.string x.name) ∧ w'.cell? ⟨w.heap.size + 1, 0, none⟩ = some (.string y.schema) ∧ w'.cell? ⟨w.heap.size + 1, 1, none⟩ = some (.string y.name) ∧ GR w w')
    (first | assumption | exact keep4g _ (by assumption) | (exact ⟨(by simp), (by simp), (by simp), (by simp), (((GR.refl _).alloc _).alloc _).drew⟩))
    (first | (go_at_call_of 45 (Value.string x.schema); refine (HC.out.1 _).mono ?_; rintro e w' ⟨rfl, rfl⟩) | (go_at_call_of 45 (Value.string x.name); refine (HC.out.2 _).mono ?_; rintro e w' ⟨rfl, rfl⟩) | (go_at_call 89; refine (cmpOr.calls _ m n _ (cell_new3 _ _ _ _ _ 0) (cell_new3 _ _ _ _ _ 1)).mono ?_; rintro e w' ⟨rfl, rfl⟩))
  rename_i hH
  have HB := Aside0.mk hH.2.2.2.2
  clear hH
  go_wp2
  go_ret
  exact ⟨rfl, HB.out⟩
structure TabP where
  t : Tab
  A3 : Option Addr
  c3 : Nat
  A4 : Option Addr
  c4 : Nat
instance : Inhabited Tab := ⟨zTab⟩
instance : Inhabited TabP := ⟨⟨zTab, none, 0, none, 0⟩⟩
def encT (p : TabP) : List Value := [.string p.t.schema, .string p.t.name, .string p.t.owner, .slice p.A3 p.t.cols.length p.c3, .slice p.A4 p.t.rules.length p.c4]
def cfT (p q : TabP) : Int := orderT p.t q.t
theorem orI_lt (a b : Int) : orI a b < 0 ↔ a < 0 ∨ (a = 0 ∧ b < 0) := by
  unfold orI
  split
  · omega
  · omega
theorem orderT_lt (x y : Tab) : orderT x y < 0 ↔ x.schema.data.toList < y.schema.data.toList ∨ (x.schema = y.schema ∧ x.name.data.toList < y.name.data.toList) := by
  unfold orderT
  rw [orI_lt, cmpS_lt, cmpS_zero, cmpS_lt]
theorem swoOrder : SWO (ltOf orderT) where
  irrefl x := by
    simp only [ltOf, decide_eq_false_iff_not, orderT_lt]
    rintro (h | ⟨_, h⟩)
    · exact List.lt_irrefl _ h
    · exact List.lt_irrefl _ h
  trans x y z h1 h2 := by
    simp only [ltOf, decide_eq_true_eq, orderT_lt] at *
    rcases h1 with h1 | ⟨e1, h1⟩
    · rcases h2 with h2 | ⟨e2, h2⟩
      · exact .inl (List.lt_trans h1 h2)
      · exact .inl (by rw [← e2]; exact h1)
    · rcases h2 with h2 | ⟨e2, h2⟩
      · exact .inl (by rw [e1]; exact h2)
      · exact .inr ⟨e1.trans e2, List.lt_trans h1 h2⟩
  ntrans x y z h1 h2 := by
    simp only [ltOf, decide_eq_false_iff_not, orderT_lt, not_or, not_and, List.not_lt] at *
    refine ⟨List.le_trans h2.1 h1.1, fun e => ?_⟩
    have hxy : x.schema = y.schema := by
      apply ByteArray.ext
      apply Array.toList_inj.1
      exact List.le_antisymm (by rw [e]; exact h2.1) h1.1
    exact List.le_trans (h2.2 (hxy.symm.trans e)) (h1.2 hxy)
theorem swoT : SWO (ltOf cfT) where
  irrefl x := swoOrder.irrefl x.t
  trans x y z h1 h2 := swoOrder.trans x.t y.t z.t h1 h2
  ntrans x y z h1 h2 := swoOrder.ntrans x.t y.t z.t h1 h2
theorem tabs_lie {B g c : Nat} {w : World} {ok : Nat → Prop} {xs : List Tab} (hR : kTab.R 35 w B ok (.slice (some ⟨g, 0, none⟩) xs.length c) xs) : ∃ ps : Array TabP, ps.toList.map (·.t) = xs ∧ HoldsK encT 5 w g 0 ps ∧ ∀ p, p ∈ ps.toList → kTab.M w B (fun k => ok k ∧ some k ≠ some g) p.t (encT p) := by
  obtain ⟨cur, hg, hcs⟩ := R_block hR
  obtain ⟨hok, inner, ho, hr⟩ := hR
  rcases ho.2 with ⟨h, _⟩ | ⟨g', c', cur', hv, hb, hg', hnc, hm, hs, ht⟩
  · cases h
  injection hv with hA _ hc
  injection hA with hA
  injection hA with hA _ _
  subst hA hc
  obtain rfl : cur = cur' := by rw [hg] at hg'; injection hg' with h; injection h
  have key : ∀ j (hj : j < xs.length), ∃ p : TabP, p.t = xs[j] ∧ (inner.drop (j * 5)).take 5 = encT p ∧ kTab.M w B (fun k => ok k ∧ some k ≠ some g) p.t (encT p) := fun j hj => by
    have hM := hr.2 j xs[j] (List.getElem?_eq_getElem hj)
    obtain ⟨v3, v4, e, h3, h4⟩ := kTab_openM hM
    obtain ⟨A3, c3, rfl⟩ := Kd.R_slice h3
    obtain ⟨A4, c4, rfl⟩ := Kd.R_slice h4
    refine ⟨⟨xs[j], A3, c3, A4, c4⟩, rfl, e, ?_⟩
    rw [← show (inner.drop (j * kTab.sz)).take kTab.sz = encT ⟨xs[j], A3, c3, A4, c4⟩ from e]
    exact hM
  have hps : ∃ ps : List TabP, ps.length = xs.length ∧ ∀ j (hj : j < xs.length) (hj' : j < ps.length), ps[j].t = xs[j] ∧ (inner.drop (j * 5)).take 5 = encT ps[j] ∧ kTab.M w B (fun k => ok k ∧ some k ≠ some g) ps[j].t (encT ps[j]) := by
    refine ⟨List.ofFn (fun j : Fin xs.length => (key j.1 j.2).choose), by simp, fun j hj hj' => ?_⟩
    rw [List.getElem_ofFn]
    exact (key j hj).choose_spec
  obtain ⟨ps, hl, hp⟩ := hps
  refine ⟨ps.toArray, ?_, ?_, ?_⟩
  · refine List.ext_getElem (by simpa using hl) fun j h1 h2 => ?_
    simp only [List.getElem_map]
    exact (hp j h2 (by omega)).1
  · refine holdsK_of (by decide) (fun _ => rfl) (fun j hj i hi => ?_) (fun o => blk_frozen hg o)
    have hj' : j < ps.length := by simpa using hj
    obtain ⟨_, he, _⟩ := hp j (by omega) hj'
    have e2 : (encT ps[j])[i]? = cur[j * 5 + i]? := by
      rw [← he, List.getElem?_take, if_pos hi, List.getElem?_drop, ← ht, List.getElem?_take, if_pos, Array.getElem?_toList]
      show j * 5 + i < xs.length * 5
      omega
    rw [blk_cell hg]
    simpa using e2.symm
  · intro p hpm
    obtain ⟨j, hj, rfl⟩ := List.getElem_of_mem hpm
    have hj' : j < ps.length := by simpa using hj
    have := (hp j (by omega) hj').2.2
    simpa using this
set_option maxHeartbeats 1000000 in
theorem sortTab.calls (xs : List Tab) (w : World) {base g c : Nat} {ok : Nat → Prop} (hl : xs.length ≤ 3001) (hR : kTab.R 35 w base ok (.slice (some ⟨g, 0, none⟩) xs.length c) xs) :
    Calls Try.prog 82 #[.slice (some ⟨g, 0, none⟩) xs.length c, .func (.func 42) #[] #[]] w fun e w' => e = .returned (.tuple #[]) ∧ ∃ d' : Array Tab, PermIn 0 xs.toArray.size xs.toArray d' ∧ SortedIn (ltOf orderT) 0 xs.toArray.size d' ∧ kTab.R 35 w' base ok (.slice (some ⟨g, 0, none⟩) xs.length c) d'.toList ∧ w.grownBy w' (some g) := by
  have eg : ∀ args w, (callFunc 42 args).run Try.prog w = .ok (.enter 42 args) w := enters_of Try.func42 (by kernel_rfl) rfl
  obtain ⟨cur, hg, _⟩ := R_block hR
  obtain ⟨ps, hps, hH, hM⟩ := tabs_lie hR
  have hsz : ps.size = xs.length := by rw [← hps]; simp
  have hcon := AnyQ.slices_SortFunc Try.sortTab 5 Try.isAgg35 Try.sizeOf35 encT (fun _ => rfl) (fun x v hv => by simp [encT] at hv; rcases hv with rfl | rfl | rfl | rfl | rfl <;> rfl) cfT swoT 42 #[] g 0 c ps w eg (fun _ _ _ _ x y => order.grows x.t y.t _) hH (blk_lt hg) (by omega)
  rw [hsz] at hcon
  refine hcon.mono ?_
  rintro e w' ⟨rfl, d', m, os, hp, hs, rfl⟩
  have hds : d'.size = xs.length := by rw [hp.1, hsz]
  have hmem : ∀ p, p ∈ d'.toList → p ∈ ps.toList := fun p hpm => by
    have h2 := hp.2.2
    rw [show d'.extract 0 xs.length = d' by rw [← hds]; exact Array.extract_size, show ps.extract 0 xs.length = ps by rw [← hsz]; exact Array.extract_size] at h2
    exact h2.mem_iff.1 hpm
  obtain ⟨h1, h2⟩ := R_sorted hR encT (·.t) d' (by decide) (fun _ => rfl) hds (fun y hy => hM y (hmem y hy)) m os
  refine ⟨rfl, (d'.toList.map (·.t)).toArray, ⟨by simp [hds], ?_, ?_⟩, ?_, by show kTab.R 35 (sortWorldK encT kTab.sz w g 0 m d' os) base ok _ _; simpa using h1, h2⟩
  · intro i hi
    rcases hi with hi | hi
    · omega
    · have hi' : xs.length ≤ i := by simpa using hi
      rw [getElem!_neg _ i (by simp; omega), getElem!_neg _ i (by simp; omega)]
  · have h3 := hp.2.2
    rw [show d'.extract 0 xs.length = d' by rw [← hds]; exact Array.extract_size, show ps.extract 0 xs.length = ps by rw [← hsz]; exact Array.extract_size] at h3
    have e1 : (d'.toList.map (·.t)).toArray.extract 0 xs.toArray.size = (d'.toList.map (·.t)).toArray := by
      rw [show xs.toArray.size = (d'.toList.map (·.t)).toArray.size by simp [hds]]; exact Array.extract_size
    rw [e1, Array.extract_size]
    show (d'.toList.map (·.t)).Perm xs
    rw [← hps]
    exact h3.map _
  · intro i j h0 hij hj
    have hj' : j < xs.length := by simpa using hj
    have := hs i j h0 hij hj'
    rw [getElem!_pos d' j (by omega), getElem!_pos d' i (by omega)] at this
    rw [getElem!_pos _ j (by simp; omega), getElem!_pos _ i (by simp; omega)]
    have this2 : ltOf orderT d'[j].t d'[i].t = false := this
    simpa using this2
end Go.Proofs.Ytmmiehckgkadgaa.O
