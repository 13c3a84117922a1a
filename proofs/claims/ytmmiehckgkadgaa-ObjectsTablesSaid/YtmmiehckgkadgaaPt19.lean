/- Own lemmas and walks (CM, CN, TC), without what the law does not need. Laid by a program of this session (prune.py). -/
import Derived.Test.YtmmiehckgkadgaaPt16
import Derived.Test.YtmmiehckgkadgaaPt18
namespace Go.Proofs.Ytmmiehckgkadgaa.O
set_option linter.unusedVariables false
set_option linter.unusedSimpArgs false
open Go.RowKit Go.Proofs.YtmmiehckgkadgaaW.PrintWords
def Spr (S : Nat → Prop) (w w' : World) : Prop := w'.os = w.os ∧ w'.tape = w.tape ∧ w'.output = w.output ∧ w.heap.size ≤ w'.heap.size ∧ ∀ k, k < w.heap.size → ¬ S k → w'.heap[k]? = w.heap[k]?
def Ovr (S : Nat → Prop) (w w' : World) : Prop := w'.os = w.os ∧ w'.tape = w.tape ∧ w'.output = w.output ∧ w'.heap.size = w.heap.size ∧ (∀ k, ¬ S k → w'.heap[k]? = w.heap[k]?) ∧
  ∀ (k : Nat) (cs : Array Value) (t : TypeId), w.heap[k]? = some (.cells cs t (0, 0)) → ∃ cs' : Array Value, w'.heap[k]? = some (.cells cs' t (0, 0)) ∧ ∀ j : Nat, cs'[j]? = cs[j]? ∨ ∃ s s' : ByteArray, cs[j]? = some (.string s) ∧ cs'[j]? = some (.string s')
theorem Ovr.refl (S : Nat → Prop) (w : World) : Ovr S w w := ⟨rfl, rfl, rfl, rfl, fun _ _ => rfl, fun k cs t h => ⟨cs, h, fun j => .inl rfl⟩⟩
theorem Ovr.spr {S : Nat → Prop} {w w' : World} (h : Ovr S w w') : Spr S w w' := ⟨h.1, h.2.1, h.2.2.1, Nat.le_of_eq h.2.2.2.1.symm, fun k _ hk => h.2.2.2.2.1 k hk⟩
theorem Spr.of_below {S : Nat → Prop} {w w' : World} (h : Below w.heap.size w w') : Spr S w w' := ⟨h.os, h.tape, h.output, h.size, fun k hk _ => h.block k hk⟩
theorem Spr.trans {S : Nat → Prop} {a b c : World} (h : Spr S a b) (k : Spr S b c) : Spr S a c := ⟨k.1.trans h.1, k.2.1.trans h.2.1, k.2.2.1.trans h.2.2.1, Nat.le_trans h.2.2.2.1 k.2.2.2.1, fun i hi hn => (k.2.2.2.2 i (Nat.lt_of_lt_of_le hi h.2.2.2.1) hn).trans (h.2.2.2.2 i hi hn)⟩
theorem Spr.below {S : Nat → Prop} {B : Nat} {w w' : World} (h : Spr S w w') (hS : ∀ k, S k → B ≤ k) (hB : B ≤ w.heap.size) : Below B w w' := ⟨h.1, h.2.1, h.2.2.1, h.2.2.2.1, fun k hk => h.2.2.2.2 k (Nat.lt_of_lt_of_le hk hB) (fun hs => by have := hS k hs; omega)⟩
def Pl (w : World) (g : Nat) : Prop := ∃ cs t, w.heap[g]? = some (.cells cs t (0, 0))
theorem Ovr.slice {S : Nat → Prop} {w w' : World} {g j : Nat} {A : Option Addr} {n c : Nat} (h : Ovr S w w') (hp : Pl w g) (hc : w.cell? ⟨g, j, none⟩ = some (.slice A n c)) : w'.cell? ⟨g, j, none⟩ = some (.slice A n c) := by
  obtain ⟨cs, t, hg⟩ := hp
  rw [blk_cell hg] at hc
  obtain ⟨cs', hg', hj⟩ := h.2.2.2.2.2 g cs t hg
  rw [blk_cell hg']
  rcases hj j with e | ⟨s, s', e, _⟩
  · rw [e]; exact hc
  · rw [e] at hc; cases hc
theorem Ovr.text {S : Nat → Prop} {w w' : World} {g j : Nat} {s : ByteArray} (h : Ovr S w w') (hp : Pl w g) (hc : w.cell? ⟨g, j, none⟩ = some (.string s)) : (∃ s', w'.cell? ⟨g, j, none⟩ = some (.string s')) ∧ w'.frozen? ⟨g, j, none⟩ = false := by
  obtain ⟨cs, t, hg⟩ := hp
  rw [blk_cell hg] at hc
  obtain ⟨cs', hg', hj⟩ := h.2.2.2.2.2 g cs t hg
  refine ⟨?_, blk_frozen hg' j⟩
  rw [blk_cell hg']
  rcases hj j with e | ⟨s1, s', _, e⟩
  · exact ⟨s, by rw [e]; exact hc⟩
  · exact ⟨s', e⟩
theorem Ovr.store {S : Nat → Prop} {w w' : World} {g j : Nat} {s : ByteArray} (h : Ovr S w w') (hS : S g) (hp : Pl w g) (hc : w.cell? ⟨g, j, none⟩ = some (.string s)) (u : ByteArray) : Ovr S w (w'.setCell ⟨g, j, none⟩ (.string u)) := by
  obtain ⟨cs0, t0, hg0⟩ := hp
  rw [blk_cell hg0] at hc
  refine ⟨h.1, h.2.1, h.2.2.1, by simp [h.2.2.2.1], fun k hk => ?_, fun k cs t hg => ?_⟩
  · rw [Below.heap_setCell _ _ _ k (fun e => hk (by rw [e]; exact hS))]; exact h.2.2.2.2.1 k hk
  · obtain ⟨cs', hg', hj⟩ := h.2.2.2.2.2 k cs t hg
    by_cases hkg : k = g
    · subst hkg
      refine ⟨cs'.setIfInBounds j (.string u), blk_set hg' j _, fun i => ?_⟩
      rw [hg0] at hg; injection hg with hg; injection hg with hg1 hg2
      by_cases hij : i = j
      · subst hij
        right
        refine ⟨s, u, by rw [← hg1]; exact hc, ?_⟩
        have hlt : i < cs'.size := by
          rcases hj i with e | ⟨_, _, _, e⟩
          · rw [← hg1, hc] at e; exact (Array.getElem?_eq_some_iff.1 e).1
          · exact (Array.getElem?_eq_some_iff.1 e).1
        rw [Array.getElem?_setIfInBounds_self_of_lt hlt]
      · rw [Array.getElem?_setIfInBounds_ne (fun e => hij e.symm)]; exact hj i
    · exact ⟨cs', blk_far (p := ⟨g, j, none⟩) hg' hkg _, hj⟩
theorem pl_of {w : World} {g e : Nat} (h : ∃ cells, w.heap[g]? = some (.cells cells e (0, 0))) : Pl w g := by obtain ⟨c, hc⟩ := h; exact ⟨c, e, hc⟩
theorem ownTab {w : World} {b : Nat} {ok : Nat → Prop} {A : Option Addr} {c : Nat} {xs : List Tab} (h : kTab.R 35 w b ok (.slice A xs.length c) xs) (i : Nat) (hi : i < xs.length) : ∃ g A3 c3 A4 c4, A = some ⟨g, 0, none⟩ ∧ ok g ∧ Pl w g ∧ w.cell? ⟨g, i * 5 + 1, none⟩ = some (.string xs[i].name) ∧ w.cell? ⟨g, i * 5 + 3, none⟩ = some (.slice A3 xs[i].cols.length c3) ∧ w.cell? ⟨g, i * 5 + 4, none⟩ = some (.slice A4 xs[i].rules.length c4) ∧
    kCol.R 41 w b ok (.slice A3 xs[i].cols.length c3) xs[i].cols ∧ kRul.R 57 w b ok (.slice A4 xs[i].rules.length c4) xs[i].rules := by
  obtain ⟨g, cap, hv, _, _, hp⟩ := Kd.R_form h (by omega)
  injection hv with hA _ _; subst hA
  obtain ⟨cs, hl, hM, hc, _⟩ := Kd.R_elem h zTab (i : Int) (by omega) (by omega)
  rw [Int.toNat_natCast, List.getD_eq_getElem?_getD, List.getElem?_eq_getElem hi] at hM
  rw [Int.toNat_natCast] at hc
  obtain ⟨v3, v4, rfl, h3, h4⟩ := kTab_openM hM
  obtain ⟨A3, c3, rfl⟩ := Kd.R_slice h3
  obtain ⟨A4, c4, rfl⟩ := Kd.R_slice h4
  exact ⟨g, A3, c3, A4, c4, rfl, h.1 g rfl, pl_of hp, hc 1 _ rfl, hc 3 _ rfl, hc 4 _ rfl, Kd.R_mono h3 (fun q hq => hq.1), Kd.R_mono h4 (fun q hq => hq.1)⟩
theorem ownCol {w : World} {b : Nat} {ok : Nat → Prop} {A : Option Addr} {c : Nat} {xs : List Col} (h : kCol.R 41 w b ok (.slice A xs.length c) xs) (i : Nat) (hi : i < xs.length) : ∃ g, A = some ⟨g, 0, none⟩ ∧ ok g ∧ Pl w g ∧ w.cell? ⟨g, i * 3, none⟩ = some (.string xs[i].name) := by
  obtain ⟨g, cap, hv, _, _, hp⟩ := Kd.R_form h (by omega)
  injection hv with hA _ _; subst hA
  obtain ⟨cs, hl, hM, hc, _⟩ := Kd.R_elem h zCol (i : Int) (by omega) (by omega)
  rw [Int.toNat_natCast, List.getD_eq_getElem?_getD, List.getElem?_eq_getElem hi] at hM
  rw [Int.toNat_natCast] at hc
  have e := kCol_openM hM
  subst e
  exact ⟨g, rfl, h.1 g rfl, pl_of hp, hc 0 _ rfl⟩
theorem ownSch {w : World} {b : Nat} {ok : Nat → Prop} {A : Option Addr} {c : Nat} {xs : List Sch} (h : kSch.R 63 w b ok (.slice A xs.length c) xs) (i : Nat) (hi : i < xs.length) : ∃ g, A = some ⟨g, 0, none⟩ ∧ ok g ∧ Pl w g ∧ w.cell? ⟨g, i * 2, none⟩ = some (.string xs[i].name) := by
  obtain ⟨g, cap, hv, _, _, hp⟩ := Kd.R_form h (by omega)
  injection hv with hA _ _; subst hA
  obtain ⟨cs, hl, hM, hc, _⟩ := Kd.R_elem h zSch (i : Int) (by omega) (by omega)
  rw [Int.toNat_natCast, List.getD_eq_getElem?_getD, List.getElem?_eq_getElem hi] at hM
  rw [Int.toNat_natCast] at hc
  have e := kSch_openM hM
  subst e
  exact ⟨g, rfl, h.1 g rfl, pl_of hp, hc 0 _ rfl⟩
theorem ownRul {w : World} {b : Nat} {ok : Nat → Prop} {A : Option Addr} {c : Nat} {xs : List Rul} (h : kRul.R 57 w b ok (.slice A xs.length c) xs) (i : Nat) (hi : i < xs.length) : ∃ g A2 c2, A = some ⟨g, 0, none⟩ ∧ ok g ∧ Pl w g ∧ w.cell? ⟨g, i * 8, none⟩ = some (.string xs[i].name) ∧ w.cell? ⟨g, i * 8 + 2, none⟩ = some (.slice A2 xs[i].cols.length c2) ∧ Kd.string.R 9 w b ok (.slice A2 xs[i].cols.length c2) xs[i].cols := by
  obtain ⟨g, cap, hv, _, _, hp⟩ := Kd.R_form h (by omega)
  injection hv with hA _ _; subst hA
  obtain ⟨cs, hl, hM, hc, _⟩ := Kd.R_elem h zRul (i : Int) (by omega) (by omega)
  rw [Int.toNat_natCast, List.getD_eq_getElem?_getD, List.getElem?_eq_getElem hi] at hM
  rw [Int.toNat_natCast] at hc
  obtain ⟨v2, rfl, h2⟩ := kRul_openM hM
  obtain ⟨A2, c2, rfl⟩ := Kd.R_slice h2
  exact ⟨g, A2, c2, rfl, h.1 g rfl, pl_of hp, hc 0 _ rfl, hc 2 _ rfl, Kd.R_mono h2 (fun q hq => hq.1)⟩
theorem ownStr {w : World} {b : Nat} {ok : Nat → Prop} {A : Option Addr} {c : Nat} {xs : List ByteArray} (h : Kd.string.R 9 w b ok (.slice A xs.length c) xs) (i : Nat) (hi : i < xs.length) : ∃ g, A = some ⟨g, 0, none⟩ ∧ ok g ∧ Pl w g ∧ w.cell? ⟨g, i, none⟩ = some (.string xs[i]) := by
  obtain ⟨g, cap, hv, _, _, hp⟩ := Kd.R_form h (by omega)
  injection hv with hA _ _; subst hA
  obtain ⟨cs, hl, hM, hc, _⟩ := Kd.R_elem h ByteArray.empty (i : Int) (by omega) (by omega)
  rw [Int.toNat_natCast, List.getD_eq_getElem?_getD, List.getElem?_eq_getElem hi] at hM
  rw [Int.toNat_natCast] at hc
  obtain rfl : cs = [.string xs[i]] := hM
  have := hc 0 _ rfl
  rw [show i * Kd.string.sz + 0 = i from Nat.mul_one i] at this
  exact ⟨g, rfl, h.1 g rfl, pl_of hp, this⟩
end Go.Proofs.Ytmmiehckgkadgaa.O
namespace Go.Proofs.Ytmmiehckgkadgaa.O
set_option linter.unusedVariables false
set_option linter.unusedSimpArgs false
open Go.RowKit Go.Proofs.YtmmiehckgkadgaaW.PrintWords
theorem boxes4 (w : World) (o1 o2 o3 o4 : Obj) : Below w.heap.size w ((((w.alloc o1).alloc o2).alloc o3).alloc o4) ∧ ((((w.alloc o1).alloc o2).alloc o3).alloc o4).heap[w.heap.size]? = some o1 ∧ ((((w.alloc o1).alloc o2).alloc o3).alloc o4).heap[w.heap.size + 1]? = some o2 ∧ ((((w.alloc o1).alloc o2).alloc o3).alloc o4).heap[w.heap.size + 1 + 1]? = some o3 ∧ ((((w.alloc o1).alloc o2).alloc o3).alloc o4).heap[w.heap.size + 1 + 1 + 1]? = some o4 := by
  obtain ⟨h0, h1, h2, h3⟩ := boxes3 w o1 o2 o3
  have e : (((w.alloc o1).alloc o2).alloc o3).heap.size = w.heap.size + 1 + 1 + 1 := by simp
  obtain ⟨k0, k1⟩ := boxes1 (((w.alloc o1).alloc o2).alloc o3) o4
  rw [e] at k1
  exact ⟨below_step h0 k0, blk_below h1 k0, blk_below h2 k0, blk_below h3 k0, k1⟩
set_option maxRecDepth 100000 in
set_option maxHeartbeats 8000000 in
theorem told.calls (n : Int) {Gs Gt Hs Ht As At Cs Ct : Option Addr} {g1 g2 h1 h2 a1 a2 c1 c2 : Nat} (gs : List Sch) (gt : List Tab) (ss : List Sch) (ts : List Tab) (w : World) (b e : Nat)
    (hg1 : kSch.R 63 w b (fun k => b ≤ k ∧ k < e) (.slice Gs gs.length g1) gs) (hg2 : kTab.R 35 w b (fun k => b ≤ k ∧ k < e) (.slice Gt gt.length g2) gt) (hw1 : kSch.C w Hs gs.length gs) (hw2 : kTab.C w Ht gt.length gt)
    (ho1 : Kd.F kSch w (fun k => ¬ (b ≤ k ∧ k < e)) As ss.length ss) (ho2 : Kd.F kTab w (fun k => ¬ (b ≤ k ∧ k < e)) At ts.length ts) (hc1 : Kd.F kSch w (fun k => ¬ (b ≤ k ∧ k < e)) Cs ss.length ss) (hc2 : Kd.F kTab w (fun k => ¬ (b ≤ k ∧ k < e)) Ct ts.length ts)
    (he : e ≤ w.heap.size) (hgl : gs.length ≤ 3000) (hgB : TabsB gt) (hsl : ss.length ≤ 3000) (htB : TabsB ts) :
    Calls Try.prog 22 #[.agg #[.slice Gs gs.length g1, .slice Gt gt.length g2], .int .i64 n, .agg #[.slice Hs gs.length h1, .slice Ht gt.length h2], .int .i64 n, .agg #[.slice As ss.length a1, .slice At ts.length a2], .agg #[.slice Cs ss.length c1, .slice Ct ts.length c2]] w fun e' w' => e' = .returned (.bool true) ∧ Spr (fun k => b ≤ k ∧ k < e) w w' := by
  have H4 := Aside0.mk (boxes4 w (.cells #[.slice Gs gs.length g1, .slice Gt gt.length g2] 26) (.cells #[.slice Hs gs.length h1, .slice Ht gt.length h2] 26) (.cells #[.slice As ss.length a1, .slice At ts.length a2] 26) (.cells #[.slice Cs ss.length c1, .slice Ct ts.length c2] 26))
  have HS1 := Aside0.mk (fun W (hW : Below w.heap.size w W) => rSame.calls (As := Gs) (Bs := Hs) (At := Gt) (Bt := Ht) (cs := g1) (ds := h1) (ct := g2) (dt := h2) gs gt W (Kd.C_below (Kd.R_reads' hg1).2.2 hW) (Kd.C_below (Kd.R_reads' hg2).2.2 hW) (Kd.C_below hw1 hW) (Kd.C_below hw2 hW) hgl hgB)
  have HS2 := Aside0.mk (fun W (hW : Spr (fun k => b ≤ k ∧ k < e) w W) => rSame.calls (As := As) (Bs := Cs) (At := At) (Bt := Ct) (cs := a1) (ds := c1) (ct := a2) (dt := c2) ss ts W (ho1 W (fun k hk hlt => hW.2.2.2.2 k hlt hk)) (ho2 W (fun k hk hlt => hW.2.2.2.2 k hlt hk)) (hc1 W (fun k hk hlt => hW.2.2.2.2 k hlt hk)) (hc2 W (fun k hk hlt => hW.2.2.2.2 k hlt hk)) hsl htB)
  have HG := Aside0.mk (And.intro hg1 hg2)
  have hlg : gt.length ≤ 3000 := hgB.1
  have HGB := Aside0.mk hgB.2
  have HE := Aside0.mk he
  clear hg1 hg2 hw1 hw2 ho1 ho2 hc1 hc2 he hgB htB
  go_enter Try.func22, Try.ntmps22
  go_wp2_with fail
  refine (HS1.out _ H4.out.1).mono ?_
  rintro e_ w1 ⟨rfl, hb1⟩
  have HB1 := Aside0.mk (below_step H4.out.1 hb1)
  have HK := Aside0.mk (fun (wr : World) (h : Ovr (fun k => b ≤ k ∧ k < e) w1 wr) => (h.2.2.2.2.1 w.heap.size (fun hs => by have := HE.out; omega)).trans (blk_below H4.out.2.1 hb1))
  have HK3 := Aside0.mk (fun (wr : World) (h : Ovr (fun k => b ≤ k ∧ k < e) w1 wr) => (h.2.2.2.2.1 (w.heap.size + 1 + 1) (fun hs => by have := HE.out; omega)).trans (blk_below H4.out.2.2.2.1 hb1))
  have HK4 := Aside0.mk (fun (wr : World) (h : Ovr (fun k => b ≤ k ∧ k < e) w1 wr) => (h.2.2.2.2.1 (w.heap.size + 1 + 1 + 1) (fun hs => by have := HE.out; omega)).trans (blk_below H4.out.2.2.2.2 hb1))
  have HG1 := Aside0.mk (And.intro (Kd.R_below HG.out.1 (below_step H4.out.1 hb1)) (Kd.R_below HG.out.2 (below_step H4.out.1 hb1)))
  clear hb1 H4 HS1 HG
  go_wp2
  go_loopw [14] (fun i w' => ∃ k : Nat, k ≤ gt.length ∧ i = .int .i64 k ∧ Aside0 (Ovr (fun k => b ≤ k ∧ k < e) w1 w')) (fun i _ => gt.length - (intOf i).toNat)
  case atStart => exact ⟨0, Nat.zero_le _, rfl, ⟨Ovr.refl _ _⟩⟩
  case round =>
    obtain ⟨k, hk, rfl, HJ⟩ := hrel
    have x1 : wr.cell? ⟨w.heap.size, 1, none⟩ = some (.slice Gt gt.length g2) := (blk_cell (HK.out _ HJ.out) 1).trans rfl
    by_cases hlt : k < gt.length
    · obtain ⟨g, A3, c3, A4, c4, ea, ok1, pl1, y1, y3, y4, R3, R4⟩ := ownTab HG1.out.2 k hlt
      cases ea
      have HT := Aside0.mk (And.intro ok1 (And.intro pl1 (And.intro y1 (And.intro y3 (And.intro y4 (And.intro R3 R4))))))
      have hl3 : gt[k].cols.length ≤ 3000 := (HGB.out _ (List.getElem_mem hlt)).1
      have hl4 : gt[k].rules.length ≤ 3000 := (HGB.out _ (List.getElem_mem hlt)).2.1
      have HL5 := Aside0.mk (HGB.out _ (List.getElem_mem hlt)).2.2
      have k0 : (0 : Int) ≤ (k : Int) := by omega
      have k1 : (k : Int) < (gt.length : Int) := by omega
      clear ok1 pl1 y1 y3 y4 R3 R4
      go_wp2
      clear x1
      obtain ⟨wo, rfl⟩ : ∃ wo : World, wo = wr := ⟨_, rfl⟩
      go_loopw [15] (fun i w' => ∃ j : Nat, j ≤ gt[k].cols.length ∧ i = .int .i64 j ∧ Aside0 (Ovr (fun k => b ≤ k ∧ k < e) w1 w')) (fun i _ => gt[k].cols.length - (intOf i).toNat)
      case atStart => exact ⟨0, Nat.zero_le _, rfl, HJ⟩
      case round =>
        clear HJ
        obtain ⟨j, hj, rfl, HJ⟩ := hrel
        have x1 : wr.cell? ⟨w.heap.size, 1, none⟩ = some (.slice (some ⟨g, 0, none⟩) gt.length g2) := (blk_cell (HK.out _ HJ.out) 1).trans rfl
        have x3 := HJ.out.slice HT.out.2.1 HT.out.2.2.2.1
        by_cases hlt2 : j < gt[k].cols.length
        · obtain ⟨gc, ea, ok2, pl2, z0⟩ := ownCol HT.out.2.2.2.2.2.1 j hlt2
          cases ea
          obtain ⟨⟨s0, z1⟩, z2⟩ := HJ.out.text pl2 z0
          have HN := Aside0.mk (HJ.out.store ok2 pl2 z0 ⟨#[111, 118, 101, 114]⟩)
          have j0 : (0 : Int) ≤ (j : Int) := by omega
          have j1 : (j : Int) < (gt[k].cols.length : Int) := by omega
          clear ok2 pl2 z0
          go_wp2
          go_roundw
          case rel => exact ⟨j + 1, by omega, by go_num, HN⟩
          case measure => simp [intOf]; omega
        · have hd : decide (j < gt[k].cols.length) = false := decide_eq_false hlt2
          go_wp2
          clear x1 x3 hd hlt2 hj
          obtain ⟨wp, rfl⟩ : ∃ wp : World, wp = wr := ⟨_, rfl⟩
          go_loopw [16] (fun i w' => ∃ j : Nat, j ≤ gt[k].rules.length ∧ i = .int .i64 j ∧ Aside0 (Ovr (fun k => b ≤ k ∧ k < e) w1 w')) (fun i _ => gt[k].rules.length - (intOf i).toNat)
          case atStart => exact ⟨0, Nat.zero_le _, rfl, HJ⟩
          case round =>
            clear HJ
            obtain ⟨j, hj, rfl, HJ⟩ := hrel
            have x1 : wr.cell? ⟨w.heap.size, 1, none⟩ = some (.slice (some ⟨g, 0, none⟩) gt.length g2) := (blk_cell (HK.out _ HJ.out) 1).trans rfl
            have x4 := HJ.out.slice HT.out.2.1 HT.out.2.2.2.2.1
            by_cases hlt2 : j < gt[k].rules.length
            · obtain ⟨gr, A2, c2, ea, ok2, pl2, z0, z2, R2⟩ := ownRul HT.out.2.2.2.2.2.2 j hlt2
              cases ea
              have HR := Aside0.mk (And.intro ok2 (And.intro pl2 (And.intro z0 (And.intro z2 R2))))
              have hl5 : gt[k].rules[j].cols.length ≤ 3000 := HL5.out _ (List.getElem_mem hlt2)
              have j0 : (0 : Int) ≤ (j : Int) := by omega
              have j1 : (j : Int) < (gt[k].rules.length : Int) := by omega
              clear ok2 pl2 z0 z2 R2
              go_wp2
              clear x1 x4
              obtain ⟨wq, rfl⟩ : ∃ wq : World, wq = wr := ⟨_, rfl⟩
              go_loopw [17] (fun i w' => ∃ m : Nat, m ≤ gt[k].rules[j].cols.length ∧ i = .int .i64 m ∧ Aside0 (Ovr (fun k => b ≤ k ∧ k < e) w1 w')) (fun i _ => gt[k].rules[j].cols.length - (intOf i).toNat)
              case atStart => exact ⟨0, Nat.zero_le _, rfl, HJ⟩
              case round =>
                clear HJ
                obtain ⟨m, hm, rfl, HJ⟩ := hrel
                have x1 : wr.cell? ⟨w.heap.size, 1, none⟩ = some (.slice (some ⟨g, 0, none⟩) gt.length g2) := (blk_cell (HK.out _ HJ.out) 1).trans rfl
                have x4 := HJ.out.slice HT.out.2.1 HT.out.2.2.2.2.1
                have x2 := HJ.out.slice HR.out.2.1 HR.out.2.2.2.1
                by_cases hlt3 : m < gt[k].rules[j].cols.length
                · obtain ⟨gs_, ea, ok3, pl3, z0⟩ := ownStr HR.out.2.2.2.2 m hlt3
                  cases ea
                  obtain ⟨⟨s0, z1⟩, z2⟩ := HJ.out.text pl3 z0
                  have HN := Aside0.mk (HJ.out.store ok3 pl3 z0 ⟨#[111, 118, 101, 114]⟩)
                  have m0 : (0 : Int) ≤ (m : Int) := by omega
                  have m1 : (m : Int) < (gt[k].rules[j].cols.length : Int) := by omega
                  clear ok3 pl3 z0
                  go_wp2
                  go_roundw
                  case rel => exact ⟨m + 1, by omega, by go_num, HN⟩
                  case measure => simp [intOf]; omega
                · have hd : decide (m < gt[k].rules[j].cols.length) = false := decide_eq_false hlt3
                  obtain ⟨⟨s0, z1⟩, z2⟩ := HJ.out.text HR.out.2.1 HR.out.2.2.1
                  have HN := Aside0.mk (HJ.out.store HR.out.1 HR.out.2.1 HR.out.2.2.1 ⟨#[111, 118, 101, 114]⟩)
                  go_wp2
                  go_roundw
                  case rel => exact ⟨j + 1, by omega, by go_num, HN⟩
                  case measure => simp [intOf]; omega
            · have hd : decide (j < gt[k].rules.length) = false := decide_eq_false hlt2
              obtain ⟨⟨s0, z1⟩, z2⟩ := HJ.out.text HT.out.2.1 HT.out.2.2.1
              have HN := Aside0.mk (HJ.out.store HT.out.1 HT.out.2.1 HT.out.2.2.1 ⟨#[111, 118, 101, 114]⟩)
              go_wp2
              go_roundw
              case rel => exact ⟨k + 1, by omega, by go_num, HN⟩
              case measure => simp [intOf]; omega
    · have hd : decide (k < gt.length) = false := decide_eq_false hlt
      go_wp2
      clear x1 hd hlt hk
      obtain ⟨wo, rfl⟩ : ∃ wo : World, wo = wr := ⟨_, rfl⟩
      go_loopw [18] (fun i w' => ∃ j : Nat, j ≤ gs.length ∧ i = .int .i64 j ∧ Aside0 (Ovr (fun k => b ≤ k ∧ k < e) w1 w')) (fun i _ => gs.length - (intOf i).toNat)
      case atStart => exact ⟨0, Nat.zero_le _, rfl, HJ⟩
      case round =>
        clear HJ
        obtain ⟨j, hj, rfl, HJ⟩ := hrel
        have x1 : wr.cell? ⟨w.heap.size, 0, none⟩ = some (.slice Gs gs.length g1) := (blk_cell (HK.out _ HJ.out) 0).trans rfl
        by_cases hlt2 : j < gs.length
        · obtain ⟨gc, ea, ok2, pl2, z0⟩ := ownSch HG1.out.1 j hlt2
          cases ea
          obtain ⟨⟨s0, z1⟩, z2⟩ := HJ.out.text pl2 z0
          have HN := Aside0.mk (HJ.out.store ok2 pl2 z0 ⟨#[111, 118, 101, 114]⟩)
          have j0 : (0 : Int) ≤ (j : Int) := by omega
          have j1 : (j : Int) < (gs.length : Int) := by omega
          clear ok2 pl2 z0
          go_wp2
          go_roundw
          case rel => exact ⟨j + 1, by omega, by go_num, HN⟩
          case measure => simp [intOf]; omega
        · have hd : decide (j < gs.length) = false := decide_eq_false hlt2
          have hK3 := HK3.out _ HJ.out
          have hK4 := HK4.out _ HJ.out
          have o0 : wr.cell? ⟨w.heap.size + 1 + 1, 0, none⟩ = some (.slice As ss.length a1) := (blk_cell hK3 0).trans rfl
          have o1 : wr.cell? ⟨w.heap.size + 1 + 1, 1, none⟩ = some (.slice At ts.length a2) := (blk_cell hK3 1).trans rfl
          have o2 : wr.cell? ⟨w.heap.size + 1 + 1 + 1, 0, none⟩ = some (.slice Cs ss.length c1) := (blk_cell hK4 0).trans rfl
          have o3 : wr.cell? ⟨w.heap.size + 1 + 1 + 1, 1, none⟩ = some (.slice Ct ts.length c2) := (blk_cell hK4 1).trans rfl
          have HW := Aside0.mk ((Spr.of_below HB1.out).trans HJ.out.spr)
          clear hK3 hK4 HK HK3 HK4 HG1
          go_wp2_with fail
          refine (HS2.out _ HW.out).mono ?_
          rintro e_ w2 ⟨rfl, hb2⟩
          have HX := Aside0.mk (HW.out.trans (Spr.of_below hb2))
          clear hb2 x1 o0 o1 o2 o3
          go_wp2
          go_ret
          exact ⟨rfl, HX.out⟩
end Go.Proofs.Ytmmiehckgkadgaa.O
namespace Go.Proofs.Ytmmiehckgkadgaa.O
set_option linter.unusedVariables false
set_option linter.unusedSimpArgs false
open Go.RowKit Go.Proofs.YtmmiehckgkadgaaW.PrintWords Go.Sort
def addTable (ss : List Sch) (ts : List Tab) (t : Tab) : Res := chg ss ts (addTabR ss ts t)
set_option maxRecDepth 20000 in
set_option maxHeartbeats 2000000 in
theorem AddTable.calls {As At A3 A4 : Option Addr} {cs ct c3 c4 : Nat} (ss : List Sch) (ts : List Tab) (t : Tab) (w : World) (hs : kSch.C w As ss.length ss) (hsl : ss.length ≤ 3000) (ht : kTab.C w At ts.length ts) (hF : TabsF ts) (hB : TabsB ts) (h3 : kCol.C w A3 t.cols.length t.cols) (h4 : kRul.C w A4 t.rules.length t.rules) (hlc : t.cols.length ≤ 140737488355328) :
    Calls Try.prog 33 #[.agg #[.slice As ss.length cs, .slice At ts.length ct], .agg #[.string t.schema, .string t.name, .string t.owner, .slice A3 t.cols.length c3, .slice A4 t.rules.length c4]] w (Out w (addTable ss ts t)) := by
  have H3 := Aside0.mk (boxes3 w (.cells #[.slice As ss.length cs, .slice At ts.length ct] 26) (.cells #[.string t.schema, .string t.name, .string t.owner, .slice A3 t.cols.length c3, .slice A4 t.rules.length c4] 35) (.cells #[.slice none 0 0, .slice none 0 0] 26))
  have HT := Aside0.mk (fun (W : World) (hW : Below w.heap.size w W) (p : Nat) (hp : W.heap[p]? = some (.cells #[.string t.schema, .string t.name, .string t.owner, .slice A3 t.cols.length c3, .slice A4 t.rules.length c4] 35 (0, 0))) => changed.calls (As := As) (At := At) (cs := cs) (ct := ct) 80 #[.pointer (some ⟨p, 0, none⟩)] ss ts _ W (Kd.C_below hs hW) hsl (Kd.C_below ht hW) hF hB (enters Try.func80 (by decide) rfl) (fun hck => AddTable1.calls ss ts t W p hp (Kd.C_below h3 hW) (Kd.C_below h4 hW) hlc hsl hB.1 hck))
  clear hs ht hF hB h3 h4
  unfold addTable
  generalize chg ss ts (addTabR ss ts t) = q at *
  go_enter Try.func33, Try.ntmps33
  go_wp2_with fail
  refine (HT.out _ H3.out.1 (w.heap.size + 1) H3.out.2.2.1).mono ?_
  rintro e w2 ⟨vs, vt, rfl, h1, h2, hb⟩
  obtain ⟨Es, es, rfl⟩ := Kd.R_slice h1
  obtain ⟨Et, et, rfl⟩ := Kd.R_slice h2
  have hZ := H3.out.2.2.2
  have hZ2 := blk_below hZ hb
  have z0 : w2.cell? ⟨w.heap.size + 1 + 1, 0, none⟩ = some (.slice none 0 0) := (blk_cell hZ2 0).trans rfl
  have z1 : w2.cell? ⟨w.heap.size + 1 + 1, 1, none⟩ = some (.slice none 0 0) := (blk_cell hZ2 1).trans rfl
  have f0 := blk_frozen hZ2 0
  have f1 := blk_frozen hZ2 1
  have HX := Aside0.mk (Out.wrap (g := w.heap.size + 1 + 1) H3.out.1 (by omega) hZ h1 h2 hb)
  clear h1 h2 hb hZ2 hZ H3 HT
  go_wp2
  refine bodyPost_ret (v := .tuple #[.agg #[.slice Es q.2.1.length es, .slice Et q.2.2.length et], .int .i64 q.1]) (by simp [results, Try.results33, go_sem, *]) rfl ?_
  exact ⟨_, _, rfl, HX.out⟩
def InsG {α : Type} (lt : α → α → Bool) (x : α) (ss : List α) (j : Nat) (b : Bool) (l : List α) : Prop := (b = false → l = ss.take j ∧ ∀ a ∈ ss.take j, lt x a = false) ∧ (b = true → l = ins lt x (ss.take j) ∧ ∃ a, a ∈ ss.take j ∧ lt x a = true)
section
variable {α : Type} {lt : α → α → Bool} {x : α} {ss : List α}
theorem InsG.start (lt : α → α → Bool) (x : α) (ss : List α) : InsG lt x ss 0 false [] := ⟨fun _ => ⟨by simp, by simp⟩, fun h => by cases h⟩
theorem InsG.len {j : Nat} {b : Bool} {l : List α} (h : InsG lt x ss j b l) (hj : j ≤ ss.length) : l.length ≤ ss.length + 1 := by
  have ht := List.length_take_le j ss
  cases b with
  | false => rw [(h.1 rfl).1]; omega
  | true =>
    rw [(h.2 rfl).1, (ins_perm x (ss.take j)).length_eq, List.length_append]; simp only [List.length_take, List.length_cons, List.length_nil]; omega
theorem InsG.more {j : Nat} {l : List α} (h : InsG lt x ss j true l) (hlt : j < ss.length) : InsG lt x ss (j + 1) true (l ++ [ss[j]]) := by
  obtain ⟨e, a, ha, hx⟩ := h.2 rfl
  refine ⟨fun h => (by cases h), fun _ => ?_⟩
  rw [List.take_succ_eq_append_getElem hlt, ins_more ⟨a, ha, hx⟩, e]
  exact ⟨rfl, a, List.mem_append_left _ ha, hx⟩
theorem InsG.none {j : Nat} {l : List α} (h : InsG lt x ss j false l) (hlt : j < ss.length) (hp : lt x ss[j] = false) : InsG lt x ss (j + 1) false (l ++ [ss[j]]) := by
  obtain ⟨e, hx⟩ := h.1 rfl
  refine ⟨fun _ => ?_, fun h => (by cases h)⟩
  rw [List.take_succ_eq_append_getElem hlt, e]
  refine ⟨rfl, fun a ha => ?_⟩
  rcases List.mem_append.1 ha with ha | ha
  · exact hx a ha
  · obtain rfl : a = ss[j] := by simpa using ha
    exact hp
theorem InsG.hit {j : Nat} {l : List α} (h : InsG lt x ss j false l) (hlt : j < ss.length) (hp : lt x ss[j] = true) : InsG lt x ss (j + 1) true (l ++ [x] ++ [ss[j]]) := by
  obtain ⟨e, hx⟩ := h.1 rfl
  refine ⟨fun h => (by cases h), fun _ => ?_⟩
  rw [List.take_succ_eq_append_getElem hlt, ins_hit hx hp, e]
  exact ⟨rfl, ss[j], List.mem_append_right _ (List.mem_singleton.2 rfl), hp⟩
theorem InsG.done_true {l : List α} (h : InsG lt x ss ss.length true l) : l = ins lt x ss := by have := (h.2 rfl).1; rwa [List.take_length] at this
theorem InsG.done_false {l : List α} (h : InsG lt x ss ss.length false l) : l ++ [x] = ins lt x ss := by
  obtain ⟨e, hx⟩ := h.1 rfl
  rw [List.take_length] at e hx
  rw [ins_end hx, e]
end
theorem chgT_at {ss : List Sch} {ts : List Tab} {r : Res} {n : Int} (h : checkB ss ts = true) (hr : r = (n, [], [])) : chg ss ts r = (n, [], []) := by
  subst hr; unfold chg; rw [h]; simp only [if_true]
  split
  · rfl
  · rfl
theorem chgT_ok {ss ss' : List Sch} {ts ts' : List Tab} {r : Res} (h : checkB ss ts = true) (hr : r = (0, ss', ts')) : chg ss ts r = (0, ss', ts') := by subst hr; unfold chg; rw [h]; rfl
theorem own_at {B g c : Nat} {U : World} {ts : List Tab} (hS : Kd.S kTab 35 U B (fun _ => True) (.slice (some ⟨g, 0, none⟩) ts.length c) ts) (j : Nat) (hj : j < ts.length) : ∃ (A3 A4 : Option Addr) (c3 c4 : Nat), (∀ W, Below U.heap.size U W → W.cell? ⟨g, j * 5, none⟩ = some (.string ts[j].schema) ∧ W.cell? ⟨g, j * 5 + 1, none⟩ = some (.string ts[j].name) ∧ W.cell? ⟨g, j * 5 + 2, none⟩ = some (.string ts[j].owner) ∧ W.cell? ⟨g, j * 5 + 3, none⟩ = some (.slice A3 ts[j].cols.length c3) ∧ W.cell? ⟨g, j * 5 + 4, none⟩ = some (.slice A4 ts[j].rules.length c4)) ∧
    ∀ W, Below U.heap.size U W → kTab.M W B (fun q => q < U.heap.size) ts[j] [.string ts[j].schema, .string ts[j].name, .string ts[j].owner, .slice A3 ts[j].cols.length c3, .slice A4 ts[j].rules.length c4] := by
  obtain ⟨oki, v3, v4, c0, c1, c2, c3, c4, hf, h3, h4, ho, hH⟩ := S_table2 hS j hj
  obtain ⟨A3, d3, rfl⟩ := Kd.R_slice h3
  obtain ⟨A4, d4, rfl⟩ := Kd.R_slice h4
  refine ⟨A3, A4, d3, d4, fun W hW => ⟨pw_cell_below hW c0, pw_cell_below hW c1, pw_cell_below hW c2, pw_cell_below hW c3, pw_cell_below hW c4⟩, fun W hW => kTab_mkM _ _ _ _ (Kd.R_mono (Kd.R_below h3 hW) (fun q hq => (ho q hq).2.1)) (Kd.R_mono (Kd.R_below h4 hW) (fun q hq => (ho q hq).2.1))⟩
def GrowT (B : Nat) (U w' : World) (v : Value) (l : List Tab) : Prop := kTab.R 35 w' B (fun _ => True) v l ∧ (∀ q, v.ownBlock = some q → U.heap.size ≤ q) ∧ Below U.heap.size U w'
theorem GrowT.next {B : Nat} {U W w1 : World} {v v1 : Value} {l l1 : List Tab} (h : GrowT B U W v l) (hR : kTab.R 35 w1 B (fun _ => True) v1 l1) (hg : W.grownBy w1 v.ownBlock) (ha : v1.ownBlock = v.ownBlock ∨ ∃ b, v1.ownBlock = some b ∧ W.heap.size ≤ b) : GrowT B U w1 v1 l1 := by
  refine ⟨hR, fun q hq => ?_, h.2.2.grown hg h.2.2.size h.2.1⟩
  rcases ha with e | ⟨b, e, hb⟩
  · exact h.2.1 q (e ▸ hq)
  · rw [e] at hq; injection hq with hq; subst hq; exact Nat.le_trans h.2.2.size hb
theorem GrowT.move {B : Nat} {U W w1 : World} {v : Value} {l : List Tab} (h : GrowT B U W v l) (hb : Below W.heap.size W w1) : GrowT B U w1 v l := ⟨Kd.R_below h.1 hb, h.2.1, below_step h.2.2 hb⟩
theorem Out.tabs {B b z : Nat} {w U wr : World} {ss : List Sch} {ts' : List Tab} {vs v : Value} {cs cz : Array Value} (hU : Below w.heap.size w U) (hb : U.heap[b]? = some (.cells cs 26 (0, 0))) (hz : U.heap[z]? = some (.cells cz 26 (0, 0)))
    (hR : kSch.R 63 U B (fun _ => True) vs ss) (hT : GrowT B U wr v ts') (hB : w.heap.size ≤ B) (hwb : w.heap.size ≤ b) (hwz : w.heap.size ≤ z) :
    Out w (0, ss, ts') (.returned (.tuple #[.agg #[vs, v], .int .i64 0])) (((wr.setCell ⟨b, 1, none⟩ v).setCell ⟨z, 0, none⟩ vs).setCell ⟨z, 1, none⟩ v) := by
  have hwr := hT.2.2
  have kb := blk_below hb hwr
  have kz := blk_below hz hwr
  have hR1 := Kd.R_set (Kd.R_lower (Kd.R_below hR hwr) hB) kb (by decide) 1 v
  have hT1 := Kd.R_set (Kd.R_lower hT.1 hB) kb (by decide) 1 v
  have kz1 : ∃ c', (wr.setCell ⟨b, 1, none⟩ v).heap[z]? = some (.cells c' 26 (0, 0)) := by
    by_cases e : z = b
    · subst e; exact ⟨_, blk_set kb 1 v⟩
    · exact ⟨_, blk_far (p := ⟨b, 1, none⟩) kz e v⟩
  obtain ⟨c', kz1⟩ := kz1
  exact ⟨_, _, rfl, R_only hR1 kz1 (by decide) (set2_far _ _ _ _), R_only hT1 kz1 (by decide) (set2_far _ _ _ _), set2_below ((below_step hU hwr).setCell (p := ⟨b, 1, none⟩) hwb _) hwz _ _⟩
end Go.Proofs.Ytmmiehckgkadgaa.O
