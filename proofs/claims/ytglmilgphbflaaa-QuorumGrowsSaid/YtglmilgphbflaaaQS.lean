/- quorum.Sure, the reference's, and the statements QuorumSure and QuorumGrows, walked; the library's sort by its contract (SortSaid). -/
import Derived.Test.YtglmilgphbflaaaQR
import Derived.WalkSpells
import Derived.Laws.EntriesVeiled
import Derived.Sort.OwnSortedInts

namespace Go.Proofs.Ytglmilgphbflaaa.Q
set_option linter.unusedVariables false
set_option linter.unusedSimpArgs false
open Go.RowKit Go.Proofs.YtglmilgphbflaaaW.PrintWords Go.Proofs.YtglmilgphbflaaaW.PrintLast Go.Proofs.YtglmilgphbflaaaW.PrintMore

theorem own_empty (w : World) (e : TypeId) (size : Nat) : (w.alloc (.cells #[] e)).ownsRow w.heap.size e size (.slice (some ⟨w.heap.size, 0, none⟩) 0 0) 0 [] :=
  ⟨by simp, .inr ⟨w.heap.size, 0, #[], rfl, Nat.le_refl _, alloc_at _ _, Nat.le_refl _, Nat.zero_le _, by simp, by simp⟩⟩
set_option maxHeartbeats 400000 in
theorem slices_Clone.calls (A0 : Option Addr) (c0 : Nat) (l0 : List Int) (w : World) (hr0 : Kd.C (Kd.int .i64) w A0 l0.length l0) (hl0 : l0.length ≤ 1000) (h0 : 0 < l0.length) :
    Calls Try.prog 27 #[.slice A0 l0.length c0] w fun e w' => ∃ v, e = .returned v ∧ w'.ownsRow w.heap.size 3 1 v l0.length (nums .i64 l0) ∧ Below w.heap.size w w' := by
  obtain ⟨i0, hi, hz0, hz1, hz2⟩ := info_parts qinfo3
  obtain ⟨ad, rfl, hcell⟩ := at_nums hr0 h0
  have HCE := Aside0.mk hcell
  have HL := Aside0.mk (nums_length .i64 l0)
  have H1 := Aside0.mk (show ∀ v ∈ nums .i64 l0, v.oneCell' = true by intro v hv; obtain ⟨x, _, rfl⟩ := List.mem_map.1 hv; rfl)
  generalize nums .i64 l0 = cs at HCE HL H1 ⊢
  have hnil := Lib.run_eql_slice_nil (P := Try.prog) w 25 3 (some ad) l0.length c0 0 0 Try.underlying25
  clear hr0 hcell
  go_enter Try.func27, Try.ntmps27
  go_wp2_with (first | (at_builtin; go_loud (refine wpList_append_own _ rfl (.tmp 5) (.tmp 6) 25 rfl w.heap.size 3 i0 (.int .i64 0) 1 8 Try.underlying25 hi hz0 hz1 hz2 rfl (by decide) (.slice (some ⟨w.heap.size, 0, none⟩) 0 0) 0 [] rfl (own_empty w 3 1) ad l0.length c0 cs rfl (by rw [HL.out]; simp) (fun j u hj => pw_cell_below ((Below.refl _ _).alloc (Nat.le_refl _) _) (HCE.out j u hj)) H1.out (by unfold maxLen; omega) (by omega) (by simp) ?_); intro v' w1 hown hg _; have HO := Aside0.mk hown; have HG := Aside0.mk hg; clear hown hg))
  go_ret
  refine ⟨v', rfl, by have h := HO.out; rwa [Nat.zero_add, List.nil_append] at h, ?_⟩
  exact ((Below.refl _ _).alloc (Nat.le_refl _) _).grown HG.out (by simp) (fun k hk => by simp [Value.ownBlock] at hk; omega)

def cmpF (x y : Int) : Int := if y < x then -1 else if x < y then 1 else 0
set_option maxHeartbeats 400000 in
theorem falls1.calls (x y : Int) (W : World) : Calls Try.prog 33 #[.int .i64 x, .int .i64 y] W fun e w' => e = .returned (.int .i64 (cmpF x y)) ∧ ∃ q, w' = W.drewN q := by
  unfold cmpF
  by_cases h1 : y < x
  · rw [if_pos h1]
    go_enter Try.func33, Try.ntmps33
    go_wp2
    go_ret
    exact ⟨rfl, 0, rfl⟩
  · rw [if_neg h1]
    by_cases h2 : x < y
    · rw [if_pos h2]
      go_enter Try.func33, Try.ntmps33
      go_wp2
      go_ret
      exact ⟨rfl, 0, rfl⟩
    · rw [if_neg h2]
      go_enter Try.func33, Try.ntmps33
      go_wp2
      go_ret
      exact ⟨rfl, 0, rfl⟩
set_option maxHeartbeats 400000 in
theorem falls.calls (W : World) : Calls Try.prog 29 #[] W fun e w' => e = .returned (.agg #[.func (.func 33) #[] #[]]) ∧ Below W.heap.size W w' := by
  go_enter Try.func29, Try.ntmps29
  go_wp2
  exact bodyPost_ret (v := .agg #[.func (.func 33) #[] #[]]) (by simp [results, Try.results29, go_sem]) rfl ⟨rfl, ((Below.refl _ _).alloc (Nat.le_refl _) _)⟩
/-- how many are at least x -/
def cntGe (l : List Int) (x : Int) : Nat := (l.filter fun y => decide (x ≤ y)).length
/-- x is what a majority has: the greatest number of the row that more than half are not below -/
def IsSure (l : List Int) (x : Int) : Prop := x ∈ l ∧ l.length < 2 * cntGe l x ∧ ∀ y ∈ l, l.length < 2 * cntGe l y → y ≤ x
theorem IsSure.unique {l : List Int} {x y : Int} (h : IsSure l x) (k : IsSure l y) : x = y := by
  have h1 := h.2.2 y k.1 k.2.1
  have h2 := k.2.2 x h.1 h.2.1
  omega
theorem cntGe_perm {l m : List Int} (h : l.Perm m) (x : Int) : cntGe l x = cntGe m x := (h.filter _).length_eq
theorem IsSure.perm {l m : List Int} {x : Int} (h : l.Perm m) (k : IsSure l x) : IsSure m x :=
  ⟨h.mem_iff.1 k.1, by rw [← h.length_eq, ← cntGe_perm h]; exact k.2.1, fun y hy hc => k.2.2 y (h.mem_iff.2 hy) (by rw [h.length_eq, cntGe_perm h]; exact hc)⟩
theorem cntGe_le (l : List Int) (x : Int) : cntGe l x ≤ l.length := List.length_filter_le _ _
theorem cntGe_mono {l : List Int} {x y : Int} (h : x ≤ y) : cntGe l y ≤ cntGe l x := by
  induction l with
  | nil => exact Nat.le_refl _
  | cons a l ih =>
    unfold cntGe at ih ⊢
    rw [List.filter_cons, List.filter_cons]
    by_cases h1 : y ≤ a
    · rw [if_pos (decide_eq_true h1), if_pos (decide_eq_true (by omega)), List.length_cons, List.length_cons]; omega
    · rw [if_neg (by simpa using h1)]
      split
      · rw [List.length_cons]; omega
      · exact ih
/-- in a falling row the place in the middle is what a majority has -/
theorem sure_mid (ts : List Int) (hs : ts.Pairwise (fun a b => b ≤ a)) (h0 : ts.length / 2 < ts.length) : IsSure ts (ts[ts.length / 2]) := by
  have key : ∀ k (hk : k < ts.length), k + 1 ≤ cntGe ts ts[k] := by
    intro k hk
    have h1 : ts = ts.take (k + 1) ++ ts.drop (k + 1) := (List.take_append_drop _ _).symm
    have h2 : ∀ y ∈ ts.take (k + 1), ts[k] ≤ y := by
      intro y hy
      obtain ⟨j, hj, rfl⟩ := List.getElem_of_mem hy
      rw [List.getElem_take]
      have hj' : j < k + 1 := by rw [List.length_take] at hj; omega
      rcases Nat.lt_or_ge j k with h | h
      · exact List.pairwise_iff_getElem.1 hs j k (by omega) hk h
      · obtain rfl : j = k := by omega
        exact Int.le_refl _
    have h3 : cntGe ts ts[k] = cntGe (ts.take (k + 1)) ts[k] + cntGe (ts.drop (k + 1)) ts[k] := by
      unfold cntGe
      rw [← List.length_append, ← List.filter_append, List.take_append_drop]
    have h4 : cntGe (ts.take (k + 1)) ts[k] = k + 1 := by
      unfold cntGe
      rw [List.filter_eq_self.2 (fun y hy => decide_eq_true (h2 y hy)), List.length_take]
      omega
    omega
  refine ⟨List.getElem_mem _, by have := key _ h0; omega, fun y hy hc => ?_⟩
  by_cases hle : y ≤ ts[ts.length / 2]
  · exact hle
  · exfalso
    -- every number at or behind the middle is below y
    have h2 : ∀ z ∈ ts.drop (ts.length / 2), ¬ y ≤ z := by
      intro z hz
      obtain ⟨j, hj, rfl⟩ := List.getElem_of_mem hz
      rw [List.getElem_drop]
      rw [List.length_drop] at hj
      rcases Nat.eq_zero_or_pos j with h | h
      · subst h; simpa using hle
      · have := List.pairwise_iff_getElem.1 hs (ts.length / 2) (ts.length / 2 + j) h0 (by omega) (by omega)
        omega
    have h3 : cntGe ts y = cntGe (ts.take (ts.length / 2)) y + cntGe (ts.drop (ts.length / 2)) y := by
      unfold cntGe
      rw [← List.length_append, ← List.filter_append, List.take_append_drop]
    have h4 : cntGe (ts.drop (ts.length / 2)) y = 0 := by
      unfold cntGe
      rw [List.length_eq_zero_iff, List.filter_eq_nil_iff]
      intro z hz
      simpa using h2 z hz
    have h5 := cntGe_le (ts.take (ts.length / 2)) y
    rw [List.length_take] at h5
    omega
/-- what is sure does not fall when one number grows -/
theorem IsSure.grows {l : List Int} {i : Nat} (hi : i < l.length) {more x y : Int} (hm : l[i] ≤ more) (h : IsSure l x) (k : IsSure (l.set i more) y) : x ≤ y := by
  have hc : ∀ z, cntGe l z ≤ cntGe (l.set i more) z := by
    intro z
    have e1 : l = l.take i ++ (l[i] :: l.drop (i + 1)) := by rw [← List.drop_eq_getElem_cons hi, List.take_append_drop]
    have e2 : l.set i more = l.take i ++ (more :: l.drop (i + 1)) := by rw [List.set_eq_take_append_cons_drop, if_pos hi]
    unfold cntGe
    rw [e2]
    conv => lhs; rw [e1]
    rw [List.filter_append, List.filter_append, List.length_append, List.length_append, List.filter_cons, List.filter_cons]
    by_cases h1 : z ≤ l[i]
    · rw [if_pos (decide_eq_true h1), if_pos (decide_eq_true (by omega))]; simp
    · rw [if_neg (by simpa using h1)]
      split <;> simp
  have hx := hc x
  have hxs := h.2.1
  have hlen : (l.set i more).length = l.length := List.length_set
  -- the least number of the grown row that is not below x
  have hne : 0 < cntGe (l.set i more) x := by omega
  have hmin : ∀ (m : List Int), 0 < cntGe m x → ∃ z ∈ m, x ≤ z ∧ ∀ u ∈ m, x ≤ u → z ≤ u := by
    intro m
    induction m with
    | nil => intro h; exact absurd h (by simp [cntGe])
    | cons a m ih =>
      intro hp
      by_cases ha : x ≤ a
      · by_cases hm0 : 0 < cntGe m x
        · obtain ⟨z, hz, h1, h2⟩ := ih hm0
          by_cases hza : z ≤ a
          · exact ⟨z, List.mem_cons_of_mem _ hz, h1, fun u hu hxu => by rcases List.mem_cons.1 hu with rfl | hu; exact hza; exact h2 u hu hxu⟩
          · exact ⟨a, List.mem_cons_self, ha, fun u hu hxu => by rcases List.mem_cons.1 hu with rfl | hu; exact Int.le_refl _; have := h2 u hu hxu; omega⟩
        · refine ⟨a, List.mem_cons_self, ha, fun u hu hxu => ?_⟩
          rcases List.mem_cons.1 hu with rfl | hu
          · exact Int.le_refl _
          · exfalso
            apply hm0
            unfold cntGe
            exact List.length_pos_of_mem (List.mem_filter.2 ⟨hu, decide_eq_true hxu⟩)
      · have hm0 : 0 < cntGe m x := by
          unfold cntGe at hp ⊢
          rw [List.filter_cons, if_neg (by simpa using ha)] at hp
          exact hp
        obtain ⟨z, hz, h1, h2⟩ := ih hm0
        exact ⟨z, List.mem_cons_of_mem _ hz, h1, fun u hu hxu => by rcases List.mem_cons.1 hu with rfl | hu; exact absurd hxu ha; exact h2 u hu hxu⟩
  obtain ⟨z, hz, h1, h2⟩ := hmin _ hne
  have hsame : cntGe (l.set i more) z = cntGe (l.set i more) x := by
    unfold cntGe
    rw [List.filter_congr (p := fun y => decide (z ≤ y)) (q := fun y => decide (x ≤ y)) (fun u hu => decide_eq_decide.2 ⟨fun hh => by omega, fun hh => h2 u hu hh⟩)]
  have := k.2.2 z hz (by omega)
  omega

def SortSaid : Prop := ∀ (base : Nat) (v : Value) (l : List Int) (w : World), 0 < l.length → l.length ≤ 1000 → w.ownsRow base 3 1 v l.length (nums .i64 l) →
  Calls Try.prog 28 #[v, .func (.func 33) #[] #[]] w fun e w' => e = .returned (.tuple #[]) ∧ ∃ ts : List Int, ts.Perm l ∧ ts.Pairwise (fun a b => b ≤ a) ∧ w'.ownsRow base 3 1 v l.length (nums .i64 ts) ∧ w.grownBy w' v.ownBlock
theorem own_shape {w : World} {base n : Nat} {v : Value} {xs : List Value} (h : w.ownsRow base 3 1 v n xs) (hn : 0 < n) : ∃ g c, v = .slice (some ⟨g, 0, none⟩) n c ∧ base ≤ g ∧ g < w.heap.size := by
  rcases h.2 with ⟨_, h0⟩ | ⟨g, cap, cur, rfl, hb, hh, _⟩
  · omega
  · exact ⟨g, cap, rfl, hb, blk_lt hh⟩
theorem wrap_id {n : Int} (h : -9223372036854775808 ≤ n ∧ n ≤ 9223372036854775807) : wrap64 n = n := by unfold wrap64; omega
set_option maxHeartbeats 1000000 in
theorem quorum_Sure.calls (HS : SortSaid) (A0 : Option Addr) (c0 : Nat) (l0 : List Int) (w : World) (hr0 : Kd.C (Kd.int .i64) w A0 l0.length l0) (hl0 : l0.length ≤ 1000) (h0 : 0 < l0.length) :
    Calls Try.prog 20 #[.slice A0 l0.length c0] w fun e w' => ∃ v : Int, e = .returned (.tuple #[.int .i64 v, .int .i64 0]) ∧ IsSure l0 v ∧ Below w.heap.size w w' := by
  have HC := Aside0.mk (slices_Clone.calls A0 c0 l0 w hr0 hl0 h0)
  have HM := Aside0.mk (show ∀ w1, _ from fun w1 => quorum_Majority.calls (l0.length : Int) ((l0.length / 2 + 1 : Nat) : Int) w1 (maj_eq l0.length h0 (by omega)))
  have h0' : ((l0.length : Int) == 0) = false := beq_eq_false_iff_ne.2 (by omega)
  have hf : ∀ w, (Instr.field 47 (.agg #[.func (.func 33) #[] #[]]) 0).run Try.prog w = .ok (.func (.func 33) #[] #[]) w := fun _ => by kernel_rfl
  clear hr0
  go_enter Try.func20, Try.ntmps20
  go_wp2_with fail
  refine HC.out.mono ?_
  rintro e w1 ⟨v, rfl, ho, hb1⟩
  obtain ⟨g, c, rfl, hg1, hg2⟩ := own_shape ho h0
  have HO := Aside0.mk ho
  have HB1 := Aside0.mk hb1
  clear ho hb1
  go_wp2_with fail
  refine (falls.calls w1).mono ?_
  rintro e w2 ⟨rfl, hb2⟩
  have HO2 := Aside0.mk (pw_own_below HO.out hb2)
  have HB2 := Aside0.mk (HB1.out.trans (hb2.mono HB1.out.size))
  clear hb2 hg2 HO
  go_wp2_with fail
  refine (HS w.heap.size _ l0 w2 h0 hl0 HO2.out).mono ?_
  rintro e w3 ⟨rfl, ts, hp, hs, ho, hgr⟩
  have hlt : l0.length / 2 < ts.length := by rw [hp.length_eq]; omega
  have HV := Aside0.mk (show IsSure l0 (ts[l0.length / 2]) by
    have h := sure_mid ts hs (by rw [hp.length_eq]; omega)
    have e : ts.length / 2 = l0.length / 2 := by rw [hp.length_eq]
    have e2 : ts[ts.length / 2]'(by rw [hp.length_eq]; omega) = ts[l0.length / 2] := by congr 1
    rw [e2] at h
    exact h.perm hp)
  have HB3 := Aside0.mk (HB2.out.grown hgr HB2.out.size (fun k hk => by simp [Value.ownBlock] at hk; omega))
  have hcell : ∀ m, (w3.drewN m).cell? ⟨g, l0.length / 2, none⟩ = some (.int .i64 (ts[l0.length / 2])) := by
    intro m
    have h := ho.cells (g := g) rfl (l0.length / 2) (.int .i64 (ts[l0.length / 2])) (by simp [nums, List.getElem?_eq_getElem hlt])
    rw [add_plain] at h
    exact h
  clear hp hs ho hgr HO2
  generalize ts[l0.length / 2] = v at HV hcell
  go_wp2_with fail
  refine (HM.out w3).mono ?_
  rintro e w4 ⟨rfl, ⟨m, rfl⟩⟩
  have hc := hcell m
  clear hcell
  go_wp2
  go_ret2
  exact ⟨v, rfl, HV.out, pw_below_drewN HB3.out _⟩
set_option maxHeartbeats 400000 in
theorem quorum_Sure.none (A0 : Option Addr) (c0 : Nat) (w : World) :
    Calls Try.prog 20 #[.slice A0 0 c0] w fun e w' => e = .returned (.tuple #[.int .i64 0, .int .i64 1]) ∧ Below w.heap.size w w' := by
  go_enter Try.func20, Try.ntmps20
  go_wp2
  go_ret2
  exact ⟨rfl, Below.refl _ _⟩

theorem cntGe_drop (l : List Int) (x : Int) (i : Nat) (h : i < l.length) : cntGe (l.drop i) x = (if x ≤ l[i] then 1 else 0) + cntGe (l.drop (i + 1)) x := by
  unfold cntGe
  rw [List.drop_eq_getElem_cons h, List.filter_cons]
  by_cases e : x ≤ l[i]
  · rw [if_pos (decide_eq_true e), if_pos e, List.length_cons]; omega
  · rw [if_neg (by simpa using e), if_neg e]; omega
theorem rsure_in (l : List Int) (hl : l.length ≤ 1000) (b : Int) (fd : Bool) (i : Nat) (hi : i < l.length) {r : Int × Int}
    (hnext : Ev (fun k => if l.length < 2 * cntGe l l[i] then (if fd = true then (if l[i] > b then folkmootref05_Sure.l0 k l l[i] true ((i + 1 : Nat) : Int) else folkmootref05_Sure.l0 k l b fd ((i + 1 : Nat) : Int)) else folkmootref05_Sure.l0 k l l[i] true ((i + 1 : Nat) : Int)) else folkmootref05_Sure.l0 k l b fd ((i + 1 : Nat) : Int)) r) :
    ∀ (d m c : Nat), m + d = l.length → c ≤ m → c + cntGe (l.drop m) l[i] = cntGe l l[i] → Ev (fun k => folkmootref05_Sure.l1 k l b fd (i : Int) (c : Int) (m : Int)) r
  | 0, m, c, h, hc, he => by
    rw [List.drop_of_length_le (by omega), show cntGe [] l[i] = 0 from rfl, Nat.add_zero] at he
    subst he
    refine Ev.step (fun k => ?_) hnext
    simp only [folkmootref05_Sure.l1]
    unfold folkmootref05_Enough.f
    rw [if_neg (by omega), rd_nat l i hi, wsucc i (by omega), show wrap64 ((l.length : Int) - (cntGe l l[i] : Int)) = (l.length : Int) - (cntGe l l[i] : Int) by unfold wrap64; omega]
    simp only [Option.bind_some]
    by_cases hq : l.length < 2 * cntGe l l[i]
    · rw [if_pos hq, if_pos (decide_eq_true (by omega))]
      cases fd with
      | true => rw [if_pos rfl, if_pos rfl, if_pos (by omega), if_pos (by omega)]
      | false => simp only [Bool.false_eq_true, if_false]; rw [if_pos (by omega), if_pos (by omega)]
    · rw [if_neg hq, if_neg (by simp; omega)]
  | d + 1, m, c, h, hc, he => by
    have hm : m < l.length := by omega
    rw [cntGe_drop l l[i] m hm] at he
    by_cases hx : l[i] ≤ l[m]
    · rw [if_pos hx] at he
      refine Ev.step (fun k => ?_) (rsure_in l hl b fd i hi hnext d (m + 1) (c + 1) (by omega) (by omega) (by omega))
      simp only [folkmootref05_Sure.l1]
      rw [if_pos (by omega), if_pos (by omega), if_pos (by omega), if_pos (by omega), rd_nat l m hm, rd_nat l i hi, if_pos (by omega), wsucc m (by omega), wsucc c (by omega)]
    · rw [if_neg hx] at he
      refine Ev.step (fun k => ?_) (rsure_in l hl b fd i hi hnext d (m + 1) c (by omega) (by omega) (by omega))
      simp only [folkmootref05_Sure.l1]
      rw [if_pos (by omega), if_pos (by omega), if_pos (by omega), if_pos (by omega), rd_nat l m hm, rd_nat l i hi, if_neg (by omega), wsucc m (by omega)]
theorem rsure_out (l : List Int) (hl : l.length ≤ 1000) (v : Int) (hv : IsSure l v) : ∀ (d i : Nat) (b : Int) (fd : Bool), i + d = l.length →
    (fd = false → ∀ j (hj : j < l.length), j < i → ¬ l.length < 2 * cntGe l l[j]) → (fd = true → b ∈ l ∧ l.length < 2 * cntGe l b ∧ ∀ j (hj : j < l.length), j < i → l.length < 2 * cntGe l l[j] → l[j] ≤ b) →
    Ev (fun k => folkmootref05_Sure.l0 k l b fd (i : Int)) (v, 0)
  | 0, i, b, fd, h, h1, h2 => by
    have hb : b = v := by
      cases fd with
      | false =>
        obtain ⟨j, hj, e⟩ := List.getElem_of_mem hv.1
        exact absurd (by rw [e]; exact hv.2.1) (h1 rfl j hj (by omega))
      | true =>
        obtain ⟨hm, hq, hall⟩ := h2 rfl
        refine IsSure.unique ⟨hm, hq, fun y hy hc => ?_⟩ hv
        obtain ⟨j, hj, rfl⟩ := List.getElem_of_mem hy
        exact hall j hj (by omega) hc
    subst hb
    refine Ev.step (f := fun _ => some (b, 0)) (fun k => ?_) (Ev.now _)
    simp only [folkmootref05_Sure.l0]
    rw [if_neg (by omega)]
  | d + 1, i, b, fd, h, h1, h2 => by
    have hi : i < l.length := by omega
    refine Ev.step (f := fun k => folkmootref05_Sure.l1 k l b fd (i : Int) ((0 : Nat) : Int) ((0 : Nat) : Int)) (fun k => ?_) (rsure_in l hl b fd i hi ?_ l.length 0 0 (by omega) (by omega) (by rw [List.drop_zero]; omega))
    · simp only [folkmootref05_Sure.l0]
      rw [if_pos (by omega)]
      rfl
    · by_cases hq : l.length < 2 * cntGe l l[i]
      · refine Ev.congr (fun k => by rw [if_pos hq]) ?_
        cases fd with
        | true =>
          obtain ⟨hm, hqb, hall⟩ := h2 rfl
          refine Ev.congr (fun k => by rw [if_pos rfl]) ?_
          by_cases hg : l[i] > b
          · refine Ev.congr (fun k => by rw [if_pos hg]) (rsure_out l hl v hv d (i + 1) l[i] true (by omega) (fun e => by cases e) (fun _ => ⟨List.getElem_mem _, hq, fun j hj hlt hc => ?_⟩))
            rcases Nat.lt_or_ge j i with h' | h'
            · have := hall j hj h' hc; omega
            · obtain rfl : j = i := by omega
              exact Int.le_refl _
          · refine Ev.congr (fun k => by rw [if_neg hg]) (rsure_out l hl v hv d (i + 1) b true (by omega) (fun e => by cases e) (fun _ => ⟨hm, hqb, fun j hj hlt hc => ?_⟩))
            rcases Nat.lt_or_ge j i with h' | h'
            · exact hall j hj h' hc
            · obtain rfl : j = i := by omega
              omega
        | false =>
          refine Ev.congr (fun k => by rw [if_neg (by decide)]) (rsure_out l hl v hv d (i + 1) l[i] true (by omega) (fun e => by cases e) (fun _ => ⟨List.getElem_mem _, hq, fun j hj hlt hc => ?_⟩))
          rcases Nat.lt_or_ge j i with h' | h'
          · exact absurd hc (h1 rfl j hj h')
          · obtain rfl : j = i := by omega
            exact Int.le_refl _
      · refine Ev.congr (fun k => by rw [if_neg hq]) (rsure_out l hl v hv d (i + 1) b fd (by omega) (fun e j hj hlt => ?_) (fun e => ?_))
        · rcases Nat.lt_or_ge j i with h' | h'
          · exact h1 e j hj h'
          · obtain rfl : j = i := by omega
            exact hq
        · obtain ⟨hm, hqb, hall⟩ := h2 e
          refine ⟨hm, hqb, fun j hj hlt hc => ?_⟩
          rcases Nat.lt_or_ge j i with h' | h'
          · exact hall j hj h' hc
          · obtain rfl : j = i := by omega
            exact absurd hc hq
theorem rsure_ev (l : List Int) (hl : l.length ≤ 1000) (v : Int) (hv : IsSure l v) : Ev (fun k => folkmootref05_Sure.f k l) (v, 0) := by
  have h0 : 0 < l.length := List.length_pos_of_mem hv.1
  unfold folkmootref05_Sure.f
  refine Ev.congr (f := fun k => folkmootref05_Sure.l0 k l 0 false 0) (fun k => by rw [if_neg (by omega)]) (rsure_out l hl v hv l.length 0 0 false (by omega) (fun _ j hj h => absurd h (by omega)) (fun e => by cases e))

theorem sure_513 : IsSure [5, 1, 3] 3 := by
  refine ⟨by simp, by decide, fun y hy hc => ?_⟩
  simp only [List.mem_cons, List.not_mem_nil, or_false] at hy
  rcases hy with rfl | rfl | rfl
  · exact absurd hc (by decide)
  · omega
  · omega
set_option maxHeartbeats 400000 in
theorem law_sure.calls (HS : SortSaid) (w : World) : Calls Try.prog 22 #[] w fun e w' => e = .returned (.bool true) ∧ Below w.heap.size w w' := by
  have HA := Aside0.mk (show ∀ (W : World), _ from fun W =>
    quorum_Sure.calls HS (some ⟨W.heap.size, 0, none⟩) 3 [5, 1, 3] (W.alloc (.cells (nums .i64 [5, 1, 3]).toArray 3)) (C_lit (alloc_at _ _) (by decide)) (by decide) (by decide))
  go_enter Try.func22, Try.ntmps22
  go_wp2_with fail
  refine (HA.out w).mono ?_
  rintro e w1 ⟨v, rfl, hv, hb1⟩
  obtain rfl : 3 = v := sure_513.unique hv
  have HB1 := Aside0.mk (((Below.refl w.heap.size w).alloc (Nat.le_refl _) _).trans (hb1.mono (by simp)))
  clear hb1 hv
  go_wp2
  go_ret
  exact ⟨rfl, HB1.out⟩

set_option maxHeartbeats 1000000 in
theorem law_QuorumSure.calls (HS : SortSaid) (A0 : Option Addr) (c0 : Nat) (l0 : List Int) (w : World) (hr0 : Kd.C (Kd.int .i64) w A0 l0.length l0) (hc0 : l0.length ≤ c0) (_y0 : l0.length * 8 ≤ 140737488351232) (_w0 : ∀ x ∈ l0, (Lit.int .i64 x).wf = true) :
    Calls Try.prog 7 #[.slice A0 l0.length c0] w fun e w' => e = .returned (.bool true) ∧ Below w.heap.size w w' := by
  clear _y0 _w0
  by_cases h0 : l0.length ≤ 300
  · have HR0 := Aside0.mk hr0
    have h0' : ¬ (300 : Int) < (l0.length : Int) := by omega
    clear hr0
    -- what both answer
    have hboth : ∃ (v e : Int) (k : Nat), folkmootref05_Sure.f k l0 = some (v, e) ∧ ∀ (w1 : World) (g : Nat), w1.heap[g]? = some (.cells (nums .i64 (l0 ++ [-77])).toArray 3 (0, 0)) →
        Calls Try.prog 20 #[.slice (some ⟨g, 0, none⟩) l0.length (l0.length + 1)] w1 fun en w' => en = .returned (.tuple #[.int .i64 v, .int .i64 e]) ∧ Below w1.heap.size w1 w' := by
      by_cases hz : 0 < l0.length
      · obtain ⟨ts, hts⟩ : ∃ ts, ts = l0.mergeSort (fun x y => decide (y ≤ x)) := ⟨_, rfl⟩
        have hp : ts.Perm l0 := by rw [hts]; exact List.mergeSort_perm _ _
        have hs : ts.Pairwise (fun a b => b ≤ a) := by
          have h := List.pairwise_mergeSort (le := fun x y : Int => decide (y ≤ x)) (fun a b c h1 h2 => by simp at *; omega) (fun a b => by simp; omega) l0
          rw [hts]
          exact h.imp fun h => by simpa using h
        have hv := (sure_mid ts hs (by rw [hp.length_eq]; omega)).perm hp
        obtain ⟨k, hk⟩ := (rsure_ev l0 (by omega) _ hv).rounds
        refine ⟨_, 0, k, hk, fun w1 g hg => ?_⟩
        refine (quorum_Sure.calls HS _ (l0.length + 1) l0 w1 (C_of_blk (by rw [hg, nums_append]) rfl (by omega)) (by omega) hz).mono ?_
        rintro en w' ⟨v', rfl, hv', hb⟩
        exact ⟨by rw [hv'.unique hv], hb⟩
      · have e0 : l0 = [] := List.eq_nil_of_length_eq_zero (by omega)
        subst e0
        refine ⟨0, 1, 0, by unfold folkmootref05_Sure.f; rw [if_pos (by simp)], fun w1 g hg => ?_⟩
        exact quorum_Sure.none _ _ _
    obtain ⟨v, er, k, hk, hS⟩ := hboth
    have HK := Aside0.mk hk
    have HSS := Aside0.mk hS
    clear hk hS
    go_enter Try.func7, Try.ntmps7
    go_wp2_with fail
    refine (keep_LendInts.calls A0 c0 l0 w HR0.out (by omega)).mono ?_
    rintro e w1 ⟨g, rfl, hg, hgc, hb1⟩
    have HG := Aside0.mk (And.intro hg hgc)
    have HB1 := Aside0.mk hb1
    clear hg hgc hb1
    go_wp2_with fail
    refine (HSS.out w1 g HG.out.2).mono ?_
    rintro e w2 ⟨rfl, hb2⟩
    have HX2 := Aside0.mk ((hb2.block g (blk_lt HG.out.2)).trans HG.out.2)
    have HB2 := Aside0.mk (HB1.out.trans (hb2.mono HB1.out.size))
    clear hb2
    go_wp2_with fail
    refine (folkmootref05_Sure.calls k A0 c0 l0 v er w2 (Kd.C_below HR0.out HB2.out) hc0 HK.out).mono ?_
    rintro e w3 ⟨rfl, ⟨m, rfl⟩⟩
    have HB3 := Aside0.mk (pw_below_drewN HB2.out m)
    have HX3 := Aside0.mk (show (w2.drewN m).heap[g]? = _ from HX2.out)
    go_wp2_with fail
    refine (keep_BackInts.calls g A0 c0 l0 (w2.drewN m) HX3.out (Kd.C_below HR0.out HB3.out) hc0 (by omega)).mono ?_
    rintro e w4 ⟨rfl, hgr⟩
    have HB4 := Aside0.mk (HB3.out.grown hgr HB3.out.size (by intro k e; injection e with e; have := HG.out.1; omega))
    clear hgr
    go_wp2_with fail
    refine (law_sure.calls HS w4).mono ?_
    rintro e w5 ⟨rfl, hb5⟩
    have HB5 := Aside0.mk (HB4.out.trans (hb5.mono HB4.out.size))
    clear hb5
    go_wp2
    go_ret
    exact ⟨rfl, HB5.out⟩
  · have h0' : (300 : Int) < (l0.length : Int) := by omega
    go_enter Try.func7, Try.ntmps7
    go_wp2
    go_ret
    exact ⟨rfl, Below.refl _ _⟩

def Two (B : Nat) (W : World) (v u : Value) (xs ys : List Int) : Prop := W.ownsRow B 3 1 v xs.length (nums .i64 xs) ∧ W.ownsRow B 3 1 u ys.length (nums .i64 ys) ∧ NeRow v u
theorem two_left {B : Nat} {W w1 : World} {v u v1 : Value} {xs ys : List Int} {x : Int} (h : Two B W v u xs ys) (ho : w1.ownsRow B 3 1 v1 (xs.length + 1) (nums .i64 xs ++ [.int .i64 x])) (hg : W.grownBy w1 v.ownBlock) (hat : v1.ownBlock = v.ownBlock ∨ ∃ b, v1.ownBlock = some b ∧ W.heap.size ≤ b) : Two B w1 v1 u (xs ++ [x]) ys := by
  obtain ⟨h1, h2, h3⟩ := h
  refine ⟨by simpa [nums] using ho, h2.kept hg ?_, ?_⟩
  · cases hu : u.ownBlock with
    | none => exact .inl rfl
    | some k => exact .inr fun e => h3 k e.symm hu
  · intro k hk he
    rcases hat with hat | ⟨b, hb, hle⟩
    · exact h3 k (hat ▸ hk) he
    · have := own_lt h2 k he
      rw [hb] at hk
      injection hk with hk
      omega
theorem two_right {B : Nat} {W w1 : World} {v u u1 : Value} {xs ys : List Int} {x : Int} (h : Two B W v u xs ys) (ho : w1.ownsRow B 3 1 u1 (ys.length + 1) (nums .i64 ys ++ [.int .i64 x])) (hg : W.grownBy w1 u.ownBlock) (hat : u1.ownBlock = u.ownBlock ∨ ∃ b, u1.ownBlock = some b ∧ W.heap.size ≤ b) : Two B w1 v u1 xs (ys ++ [x]) := by
  obtain ⟨h1, h2, h3⟩ := h
  refine ⟨h1.kept hg ?_, by simpa [nums] using ho, ?_⟩
  · cases hv : v.ownBlock with
    | none => exact .inl rfl
    | some k => exact .inr fun e => h3 k hv e.symm
  · intro k hk he
    rcases hat with hat | ⟨b, hb, hle⟩
    · exact h3 k hk (hat ▸ he)
    · have := own_lt h1 k hk
      rw [hb] at he
      injection he with he
      omega
set_option maxHeartbeats 1000000 in
theorem law_QuorumGrows.calls (HS : SortSaid) (A0 : Option Addr) (c0 : Nat) (l0 : List Int) (a1 a2 : Int) (w : World) (hr0 : Kd.C (Kd.int .i64) w A0 l0.length l0) (hc0 : l0.length ≤ c0) (_y0 : l0.length * 8 ≤ 140737488351232) (_w0 : ∀ x ∈ l0, (Lit.int .i64 x).wf = true) (_w1 : (Lit.int .i64 a1).wf = true) (_w2 : (Lit.int .i64 a2).wf = true) :
    Calls Try.prog 8 #[.slice A0 l0.length c0, .int .i64 a1, .int .i64 a2] w fun e w' => e = .returned (.bool true) ∧ Below w.heap.size w w' := by
  clear _y0 _w0 _w1 _w2
  by_cases h0 : l0.length ≤ 300
  · by_cases h1 : 0 ≤ a1
    · obtain ⟨i, rfl⟩ := Int.eq_ofNat_of_zero_le h1
      by_cases h2 : i < l0.length
      · by_cases h3 : l0[i] ≤ a2
        · have HR0 := Aside0.mk hr0
          have h0' : ¬ (300 : Int) < (l0.length : Int) := by omega
          have h2' : decide (l0.length ≤ i) = false := decide_eq_false (by omega)
          obtain ⟨ad, e, hc⟩ := Kd.at_int hr0 i (by omega) (by omega)
          rw [rd_nat l0 i h2] at hc
          cases e
          rw [Int.toNat_natCast] at hc
          have h3' : ¬ a2 < l0[i] := by omega
          have h1' : decide ((i : Int) < 0) = false := decide_eq_false (by omega)
          have H3 := Aside0.mk h3
          obtain ⟨i0, hi, hz0, hz1, hz2⟩ := info_parts qinfo3
          clear hr0 h3
          go_enter Try.func8, Try.ntmps8
          go_wp2_with fail
          refine (quorum_Sure.calls HS _ c0 l0 w HR0.out (by omega) (by omega)).mono ?_
          rintro e w1 ⟨v, rfl, hv, hb1⟩
          have HV := Aside0.mk hv
          have HB1 := Aside0.mk hb1
          clear hb1 hv
          go_wp2_with fail
          go_loopw [9, 10, 11] (fun v9 v10 v11 w' => ∃ k : Nat, k ≤ l0.length ∧ v11 = .int .i64 k ∧ Aside0 (Two w.heap.size w' v9 v10 (l0.reverse.take k) (l0.take k) ∧ Below w.heap.size w w')) (fun _ _ v11 _ => l0.length - (intOf v11).toNat)
          case atStart => exact ⟨0, Nat.zero_le _, rfl, ⟨⟨by simpa [nums] using own_nil _ _ _ _, by simpa [nums] using own_nil _ _ _ _, ne_nil _⟩, HB1.out⟩⟩
          case round =>
            clear HB1
            obtain ⟨k, hk, rfl, HJ⟩ := hrel
            by_cases hlt : k < l0.length
            · have HC1 := Aside0.mk (show ∀ W, Below w.heap.size w W → W.cell? (ad.add k) = some (.int .i64 l0[k]) from fun W hb => by
                obtain ⟨ad1, e, hc1⟩ := Kd.at_int (Kd.C_below HR0.out hb) k (by omega) (by omega)
                rw [rd_nat l0 k hlt, Int.toNat_natCast] at hc1
                cases e
                exact hc1)
              obtain ⟨ad2, e, hc2⟩ := Kd.at_int (Kd.C_below HR0.out HJ.out.2) ((l0.length - 1 - k : Nat) : Int) (by omega) (by omega)
              rw [rd_nat l0 (l0.length - 1 - k) (by omega), Int.toNat_natCast] at hc2
              cases e
              have hx1 : l0.length - 1 - k < l0.length := by omega
              have hl1 : (l0.reverse.take k).length = k := by rw [List.length_take, List.length_reverse]; omega
              have hl2 : (l0.take k).length = k := by rw [List.length_take]; omega
              have HE := Aside0.mk (show l0.reverse.take (k + 1) = l0.reverse.take k ++ [l0[l0.length - 1 - k]] ∧ l0.take (k + 1) = l0.take k ++ [l0[k]] by
                refine ⟨?_, List.take_succ_eq_append_getElem hlt⟩
                rw [List.take_succ_eq_append_getElem (by rw [List.length_reverse]; exact hlt), List.getElem_reverse])
              have HL := Aside0.mk (And.intro hl1 hl2)
              have e1 : ((l0.length : Int) - 1 - (k : Int)).toNat = l0.length - 1 - k := by omega
              generalize l0[l0.length - 1 - k] = x1 at hc2 HE
              generalize l0[k] = x2 at HC1 HE
              generalize l0.reverse.take k = L1 at HE HL HJ
              generalize l0.take k = L2 at HE HL HJ
              have hz := HJ.out.2.size
              clear hl1 hl2
              go_wp2_with (first
                | (at_builtin; have _g := HA1; refine print_append_cells w.heap.size rfl (.tmp 60) (.tmp 65) 25 3 (.int .i64 0) 1 8 rfl Try.underlying25 qinfo3 rfl (by decide) (by decide) u10 L2.length (nums .i64 L2) [.int .i64 x2] rfl rfl rfl (by simp [Value.oneCell']) HA1.out.2.1 HB2.out HB2.out.size (by rw [HL.out.2]; omega) ?_; intro v2 w3 ho hb hg hat; have HA2 := Aside0.mk (two_right HA1.out ho hg hat); have HB3 := Aside0.mk hb; clear ho hb hg hat HA1 HB2)
                | (at_builtin; have _g := HJ; refine print_append_cells w.heap.size rfl (.tmp 49) (.tmp 58) 25 3 (.int .i64 0) 1 8 rfl Try.underlying25 qinfo3 rfl (by decide) (by decide) u9 L1.length (nums .i64 L1) [.int .i64 x1] rfl rfl rfl (by simp [Value.oneCell']) HJ.out.1.1 HJ.out.2 HJ.out.2.size (by rw [HL.out.1]; omega) ?_; intro v1 w2 ho hb hg hat; have HA1 := Aside0.mk (two_left HJ.out.1 ho hg hat); have HB2 := Aside0.mk hb; have hc1 := HC1.out _ hb; clear ho hb hg hat HJ))
              go_roundw
              case rel => exact ⟨k + 1, by omega, by go_num, ⟨by rw [HE.out.1, HE.out.2]; exact HA2.out, HB3.out⟩⟩
              case measure => simp [intOf]; omega
            · have hd : decide (k < l0.length) = false := decide_eq_false hlt
              have HT := Aside0.mk (show Two w.heap.size wr u9 u10 l0.reverse l0 by
                have h := HJ.out.1
                rwa [List.take_of_length_le (by rw [List.length_reverse]; omega), List.take_of_length_le (by omega)] at h)
              have HB := Aside0.mk HJ.out.2
              obtain ⟨g, c, hu, hg1, hg2⟩ := own_shape HT.out.2.1 (by omega)
              obtain rfl := hu
              have hcell : ∃ z, wr.cell? ⟨g, i, none⟩ = some z := ⟨_, by rw [HT.out.2.1.cellAt i (by omega)]; simp [nums, List.getElem?_eq_getElem h2]; rfl⟩
              obtain ⟨z, hz⟩ := hcell
              have hfz := HT.out.2.1.frozenAt i
              have hne : u9.ownBlock = none ∨ u9.ownBlock ≠ some g := by
                cases hv : u9.ownBlock with
                | none => exact .inl rfl
                | some q => exact .inr fun e => HT.out.2.2 q hv (by rw [Value.ownBlock, ← e])
              obtain ⟨hs1, hs2⟩ := HT.out.2.1.stored i (.int .i64 a2)
              have HN := Aside0.mk (show (wr.setCell ⟨g, i, none⟩ (.int .i64 a2)).ownsRow w.heap.size 3 1 (.slice (some ⟨g, 0, none⟩) l0.length c) (l0.set i a2).length (nums .i64 (l0.set i a2)) by
                rw [List.length_set]
                have e : nums .i64 (l0.set i a2) = (nums .i64 l0).set i (.int .i64 a2) := by simp [nums, List.map_set]
                rw [e]
                exact hs1)
              have HU := Aside0.mk (HT.out.1.kept hs2 hne)
              have HBB := Aside0.mk (HB.out.setCell (p := ⟨g, i, none⟩) hg1 (.int .i64 a2))
              obtain ⟨A9, c9, e9, hle9, hC9⟩ := Kd.R_reads (Kd.R_of_own (h1 := fun _ => rfl) (ok := fun _ => True) HU.out (fun _ _ => True.intro))
              obtain ⟨A10, c10, e10, hle10, hC10⟩ := Kd.R_reads (Kd.R_of_own (h1 := fun _ => rfl) (ok := fun _ => True) HN.out (fun _ _ => True.intro))
              have HC9 := Aside0.mk hC9
              have HC10 := Aside0.mk hC10
              have E10 := Aside0.mk e10
              subst e9
              clear HJ hlt hne hs1 hs2 hC9 hC10 e10 hle9 hle10 HN HU HT
              have hq9 := quorum_Sure.calls HS A9 c9 l0.reverse (wr.setCell ⟨g, i, none⟩ (.int .i64 a2)) HC9.out (by rw [List.length_reverse]; omega) (by rw [List.length_reverse]; omega)
              rw [List.length_reverse] at hq9
              have HQ9 := Aside0.mk hq9
              have HQ10 := Aside0.mk (show ∀ W, _ → _ from fun W hc => quorum_Sure.calls HS A10 c10 (l0.set i a2) W hc (by rw [List.length_set]; omega) (by rw [List.length_set]; omega))
              have E11 := Aside0.mk (show Value.slice (some ⟨g, 0, none⟩) l0.length c = .slice A10 (l0.set i a2).length c10 by rw [← E10.out])
              clear hq9
              go_wp2_with fail
              refine HQ9.out.mono ?_
              rintro e w4 ⟨v4, rfl, hv4, hb4⟩
              obtain rfl := HV.out.unique (hv4.perm l0.reverse_perm)
              have HB4 := Aside0.mk (HBB.out.trans (hb4.mono HBB.out.size))
              have HC11 := Aside0.mk (Kd.C_below HC10.out hb4)
              clear hb4 hv4
              go_wp2_with fail
              rw [E11.out]
              refine (HQ10.out w4 HC11.out).mono ?_
              rintro e w5 ⟨v5, rfl, hv5, hb5⟩
              have hge : v ≤ v5 := HV.out.grows h2 H3.out hv5
              have HB5 := Aside0.mk (HB4.out.trans (hb5.mono HB4.out.size))
              clear hb5 hv5
              go_wp2_with fail
              refine (law_sure.calls HS w5).mono ?_
              rintro e w6 ⟨rfl, hb6⟩
              have HB6 := Aside0.mk (HB5.out.trans (hb6.mono HB5.out.size))
              clear hb6
              go_wp2
              go_ret
              exact ⟨rfl, HB6.out⟩
        · have h0' : ¬ (300 : Int) < (l0.length : Int) := by omega
          have h2' : decide (l0.length ≤ i) = false := decide_eq_false (by omega)
          obtain ⟨ad, e, hc⟩ := Kd.at_int hr0 i (by omega) (by omega)
          rw [rd_nat l0 i h2] at hc
          cases e
          rw [Int.toNat_natCast] at hc
          have h3' : a2 < l0[i] := by omega
          have h1' : decide ((i : Int) < 0) = false := decide_eq_false (by omega)
          clear hr0 h3
          go_enter Try.func8, Try.ntmps8
          go_wp2_with fail
          refine (law_sure.calls HS w).mono ?_
          rintro e w6 ⟨rfl, hb6⟩
          have HB6 := Aside0.mk hb6
          clear hb6
          go_wp2
          go_ret
          exact ⟨rfl, HB6.out⟩
      · have h0' : ¬ (300 : Int) < (l0.length : Int) := by omega
        have h2' : decide (l0.length ≤ i) = true := decide_eq_true (by omega)
        have h1' : decide ((i : Int) < 0) = false := decide_eq_false (by omega)
        go_enter Try.func8, Try.ntmps8
        go_wp2_with fail
        refine (law_sure.calls HS w).mono ?_
        rintro e w6 ⟨rfl, hb6⟩
        have HB6 := Aside0.mk hb6
        clear hb6
        go_wp2
        go_ret
        exact ⟨rfl, HB6.out⟩
    · have h0' : ¬ (300 : Int) < (l0.length : Int) := by omega
      have h1' : a1 < 0 := by omega
      go_enter Try.func8, Try.ntmps8
      go_wp2_with fail
      refine (law_sure.calls HS w).mono ?_
      rintro e w6 ⟨rfl, hb6⟩
      have HB6 := Aside0.mk hb6
      clear hb6
      go_wp2
      go_ret
      exact ⟨rfl, HB6.out⟩
  · have h0' : (300 : Int) < (l0.length : Int) := by omega
    go_enter Try.func8, Try.ntmps8
    go_wp2_with fail
    refine (law_sure.calls HS w).mono ?_
    rintro e w6 ⟨rfl, hb6⟩
    have HB6 := Aside0.mk hb6
    clear hb6
    go_wp2
    go_ret
    exact ⟨rfl, HB6.out⟩
end Go.Proofs.Ytglmilgphbflaaa.Q
