/- slices.SortFunc, at a row of one's own. -/
import Derived.Test.YtmmiehckgkadgaaSA
import Derived.Test.YtmmiehckgkadgaaG3
import Derived.Test.YtmmiehckgkadgaaShelf
namespace Go.Proofs.Ytmmiehckgkadgaa.O
set_option linter.unusedVariables false
set_option linter.unusedSimpArgs false
open Go.RowKit Go.Proofs.YtmmiehckgkadgaaW.PrintWords Go.Sort Go.Shelf

theorem R_sorted {α β : Type} [Inhabited β] {d : Kd α} {e base g c : Nat} {w : World} {ok : Nat → Prop} {xs : List α} (h : d.R e w base ok (.slice (some ⟨g, 0, none⟩) xs.length c) xs) (enc : β → List Value) (f : β → α) (ys : Array β) (hs0 : 0 < d.sz) (hk : ∀ y, (enc y).length = d.sz) (hsz : ys.size = xs.length)
    (hM : ∀ y, y ∈ ys.toList → d.M w base (fun k => ok k ∧ some k ≠ some g) (f y) (enc y)) (m : Nat) (os : Array Obj) :
    d.R e (sortWorldK enc d.sz w g 0 m ys os) base ok (.slice (some ⟨g, 0, none⟩) xs.length c) (ys.toList.map f) ∧ w.grownBy (sortWorldK enc d.sz w g 0 m ys os) (some g) := by
  obtain ⟨hok, inner, ho, hr⟩ := h
  rcases ho.2 with ⟨h, _⟩ | ⟨g', c', cur, hv, hb, hg, hnc, hm, hs, ht⟩
  · cases h
  injection hv with hA _ hc
  injection hA with hA
  injection hA with hA _ _
  subst hA hc
  have hlt : g < w.heap.size := blk_lt hg
  have hnz : xs.length * d.sz ≤ c * d.sz := Nat.mul_le_mul_right _ hnc
  have hpt : ∀ k, k < w.heap.size → (sortWorldK enc d.sz w g 0 m ys os).heap[k]? = (w.heap.modify g (onCells (putCells id 0 (flatK enc d.sz ys))))[k]? := fun k hk => by
    show ((w.heap.modify g (onCells (putCells id 0 (flatK enc d.sz ys)))) ++ os)[k]? = _
    rw [Array.getElem?_append_left (by simpa using hk)]
  have hfar : ∀ k, k < w.heap.size → k ≠ g → (sortWorldK enc d.sz w g 0 m ys os).heap[k]? = w.heap[k]? := fun k hk hne => by
    rw [hpt k hk, Array.getElem?_modify, if_neg (fun e => hne e.symm)]
  have hg' : (sortWorldK enc d.sz w g 0 m ys os).heap[g]? = some (.cells (putCells id 0 (flatK enc d.sz ys) cur) e (0, 0)) := by
    rw [hpt g hlt, Array.getElem?_modify, if_pos rfl, hg]; rfl
  have hcs : (putCells id 0 (flatK enc d.sz ys) cur).size = c * d.sz := by unfold putCells; rw [Array.size_mapIdx]; exact hs
  have hcl : (putCells id 0 (flatK enc d.sz ys) cur).toList.length = c * d.sz := by simpa using hcs
  have hml : (ys.toList.map f).length = xs.length := by simpa using hsz
  refine ⟨⟨hok, (putCells id 0 (flatK enc d.sz ys) cur).toList.take (xs.length * d.sz), ⟨?_, .inr ⟨g, c, _, ?_, hb, hg', ?_, hm, hcs, ?_⟩⟩, ?_, ?_⟩, ⟨rfl, rfl, rfl, ?_, fun k hk hne => hfar k hk (fun e => hne (by rw [e]))⟩⟩
  · rw [List.length_take, hcl, hml]; omega
  · rw [hml]
  · rw [hml]; exact hnc
  · rw [hml]
  · rw [List.length_take, hcl, hml]; omega
  · intro j p hp
    rw [List.getElem?_map, Option.map_eq_some_iff] at hp
    obtain ⟨y, hy, rfl⟩ := hp
    obtain ⟨hj, hyj⟩ := List.getElem?_eq_some_iff.1 hy
    have hj' : j < ys.size := by simpa using hj
    have hy2 : ys[j]! = y := by rw [getElem!_pos ys j hj']; simpa using hyj
    have hjn : (j + 1) * d.sz ≤ xs.length * d.sz := Nat.mul_le_mul_right _ (by omega)
    have hjn2 : (j + 1) * d.sz = j * d.sz + d.sz := by rw [Nat.add_mul, Nat.one_mul]
    have hrow : (((putCells id 0 (flatK enc d.sz ys) cur).toList.take (xs.length * d.sz)).drop (j * d.sz)).take d.sz = enc y := by
      refine List.ext_getElem? fun i => ?_
      by_cases hi : i < d.sz
      · have hlt2 : j * d.sz + i < ys.size * d.sz := by rw [hsz]; omega
        rw [List.getElem?_take, if_pos hi, List.getElem?_drop, List.getElem?_take, if_pos (by omega), Array.getElem?_toList]
        unfold putCells
        rw [Array.getElem?_mapIdx, Array.getElem?_eq_getElem (by rw [hs]; omega)]
        simp only [Option.map_some, id]
        rw [if_pos ⟨Nat.zero_le _, by rw [size_flatK]; omega⟩, Nat.sub_zero, get_flatK enc d.sz ys _ hlt2]
        have q1 : (j * d.sz + i) / d.sz = j := by rw [Nat.mul_comm, Nat.mul_add_div hs0, Nat.div_eq_of_lt hi]; rfl
        have q2 : (j * d.sz + i) % d.sz = i := by rw [Nat.mul_comm, Nat.mul_add_mod, Nat.mod_eq_of_lt hi]
        rw [q1, q2, hy2, getElem!_pos (enc y) i (by rw [hk]; exact hi), List.getElem?_eq_getElem (by rw [hk]; exact hi)]
      · rw [List.getElem?_take, if_neg hi, List.getElem?_eq_none (by rw [hk]; omega)]
    rw [hrow]
    exact Kd.M_step (hM y (List.mem_of_getElem? hy)) (fun k hk hlk => hfar k hlk (fun e => hk.2 (by rw [e]; rfl)))
  · show w.heap.size ≤ ((w.heap.modify g (onCells (putCells id 0 (flatK enc d.sz ys)))) ++ os).size
    simp
theorem holdsK_of {β : Type} [Inhabited β] {enc : β → List Value} {k g : Nat} {w : World} {ys : Array β} (h0 : 0 < k) (hk : ∀ y, (enc y).length = k) (hc : ∀ j (hj : j < ys.size) i, i < k → w.cell? ⟨g, j * k + i, none⟩ = (enc ys[j])[i]?) (hf : ∀ o, w.frozen? ⟨g, o, none⟩ = false) : HoldsK enc k w g 0 ys := by
  intro t ht
  rw [size_flatK] at ht
  refine ⟨?_, hf _⟩
  have hj : t / k < ys.size := Nat.div_lt_of_lt_mul (by rw [Nat.mul_comm]; exact ht)
  have hi : t % k < k := Nat.mod_lt _ h0
  have e : t / k * k + t % k = t := by rw [Nat.mul_comm]; exact Nat.div_add_mod t k
  have h := hc (t / k) hj (t % k) hi
  rw [e] at h
  rw [Nat.zero_add, h, get_flatK enc k ys t ht, getElem!_pos ys _ hj, getElem!_pos (enc ys[t / k]) _ (by rw [hk]; exact hi), List.getElem?_eq_getElem (by rw [hk]; exact hi)]
  rfl

theorem addr_add (g n : Nat) : (⟨g, 0, none⟩ : Addr).add n = ⟨g, n, none⟩ := by
  unfold Addr.add
  split
  · rename_i h; rw [h]
  · simp
instance : Inhabited Sch := ⟨zSch⟩
def encS (x : Sch) : List Value := [.string x.name, .string x.owner]
def cfS (x y : Sch) : Int := cmpS x.name y.name
set_option maxHeartbeats 1000000 in
theorem byNameS.calls (x y : Sch) (W : World) : Calls Try.prog 75 #[.agg #[.string x.name, .string x.owner], .agg #[.string y.name, .string y.owner]] W fun e w' => e = .returned (.int .i64 (cfS x y)) ∧ ∃ q os', w' = grow (W.drewN q) os' := by
  have hcon := fun W' => compare.calls x.name y.name W'
  unfold cfS
  generalize cmpS x.name y.name = r at hcon ⊢
  go_enter Try.func75, Try.ntmps75
  go_wp2_with (go_at_call 45; refine (hcon _).mono ?_; rintro e w' ⟨rfl, rfl⟩)
  go_ret
  exact ⟨rfl, 0, _, by rw [alloc_eq_grow, alloc_eq_grow, grow_grow]; rfl⟩
set_option maxHeartbeats 1000000 in
theorem sortSch.calls (xs : List Sch) (w : World) {base g c : Nat} {ok : Nat → Prop} (hl : xs.length ≤ 3000) (h0 : 0 < xs.length) (hR : kSch.R 63 w base ok (.slice (some ⟨g, 0, none⟩) xs.length c) xs) :
    Calls Try.prog 74 #[.slice (some ⟨g, 0, none⟩) xs.length c, .func (.func 75) #[] #[]] w fun e w' => e = .returned (.tuple #[]) ∧ ∃ d' : Array Sch, PermIn 0 xs.toArray.size xs.toArray d' ∧ SortedIn (ltOf cfS) 0 xs.toArray.size d' ∧ kSch.R 63 w' base ok (.slice (some ⟨g, 0, none⟩) xs.length c) d'.toList ∧ w.grownBy w' (some g) := by
  have eg : ∀ args w, (callFunc 75 args).run Try.prog w = .ok (.enter 75 args) w := enters_of Try.func75 (by kernel_rfl) rfl
  have hC := (Kd.R_reads' hR).2.2
  obtain ⟨cur, hg, _⟩ := R_block hR
  have hH : HoldsK encS 2 w g 0 xs.toArray := holdsK_of (by decide) (fun _ => rfl) (fun j hj i hi => by
    have hj' : j < xs.length := by simpa using hj
    obtain ⟨ad, e, c0, c1⟩ := schAt_ hC j hj'
    injection e with e
    subst e
    rw [addr_add] at c0 c1
    match i, hi with
    | 0, _ => simpa [encS] using c0
    | 1, _ => simpa [encS] using c1) (fun o => blk_frozen hg o)
  have hcon := AnyQ.slices_SortFunc Try.sortSch 2 Try.isAgg63 Try.sizeOf63 encS (fun _ => rfl) (fun x v hv => by simp [encS] at hv; rcases hv with rfl | rfl <;> rfl) cfS (swo_key (fun x : Sch => x.name)) 75 #[] g 0 c xs.toArray w eg (fun _ _ _ _ x y => byNameS.calls x y _) hH (blk_lt hg) (by simp; omega)
  rw [show xs.toArray.size = xs.length from by simp] at hcon
  refine hcon.mono ?_
  rintro e w' ⟨rfl, d', m, os, hp, hs, rfl⟩
  have hsz : d'.size = xs.length := by rw [hp.1]; simp
  obtain ⟨h1, h2⟩ := R_sorted hR encS id d' (by decide) (fun _ => rfl) hsz (fun y _ => kSch_mkM _ _ _ y) m os
  rw [List.map_id] at h1
  exact ⟨rfl, d', by simpa using hp, by simpa using hs, h1, h2⟩
end Go.Proofs.Ytmmiehckgkadgaa.O
