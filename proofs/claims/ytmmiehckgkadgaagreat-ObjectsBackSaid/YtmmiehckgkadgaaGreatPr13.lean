/- Own lemmas and walks (G3, SB), without what the law does not need. Laid by a program of this session (prune.py). -/
import Derived.Lib.SliceRun
import Derived.Test.YtmmiehckgkadgaaGreatPr3
import Derived.Test.YtmmiehckgkadgaaGreatPr10
import Derived.Test.YtmmiehckgkadgaaGreatPr12
namespace Go.Proofs.YtmmiehckgkadgaaGreat.O
set_option linter.unusedVariables false
set_option linter.unusedSimpArgs false
open Go.RowKit Go.Proofs.YtmmiehckgkadgaaGreatW.PrintWords
section
variable {P : Program}
theorem R_cap {α : Type} {d : Kd α} {e b g n c : Nat} {w : World} {ok : Nat → Prop} {xs : List α} (h : d.R e w b ok (.slice (some ⟨g, 0, none⟩) n c) xs) : c ≤ 9223372036854775807 := by
  obtain ⟨_, inner, ho, _⟩ := h
  rcases ho.2 with ⟨h, _⟩ | ⟨g', cap, cur, hv, _, _, _, hm, _⟩
  · cases h
  · injection hv with _ _ hc; subst hc; exact hm
theorem R_bs {α : Type} {d : Kd α} {e b g n c : Nat} {w : World} {ok : Nat → Prop} {xs : List α} (h : d.R e w b ok (.slice (some ⟨g, 0, none⟩) n c) xs) : b ≤ w.heap.size := by
  have h1 := Kd.R_base h g rfl
  have h2 := Kd.R_lt h g rfl
  omega
theorem R_block {α : Type} {d : Kd α} {e b g n c : Nat} {w : World} {ok : Nat → Prop} {xs : List α} (h : d.R e w b ok (.slice (some ⟨g, 0, none⟩) n c) xs) : ∃ cur, w.heap[g]? = some (.cells cur e (0, 0)) ∧ cur.size = c * d.sz := by
  obtain ⟨_, inner, ho, _⟩ := h
  rcases ho.2 with ⟨h, _⟩ | ⟨g', cap, cur, hv, _, hg, _, _, hs, _⟩
  · cases h
  · injection hv with hA _ hc; injection hA with hA; injection hA with hA _ _; subst hA hc; exact ⟨cur, hg, hs⟩
theorem R_behind {α : Type} {d : Kd α} {e b g n c : Nat} {w : World} {ok : Nat → Prop} {xs : List α} (h : d.R e w b ok (.slice (some ⟨g, 0, none⟩) n c) xs) (o : Nat) (vs : List Value) (ho' : n * d.sz ≤ o) (hf : o + vs.length ≤ c * d.sz) : d.R e (w.setCells g o vs) b ok (.slice (some ⟨g, 0, none⟩) n c) xs ∧ w.grownBy (w.setCells g o vs) (some g) := by
  have hn := (Kd.R_reads' h).1
  obtain ⟨hok, inner, ho, hr⟩ := h
  obtain ⟨s1, s2, s3, s4⟩ := setCells_same g vs o w
  have hfar : ∀ k, k ≠ g → (w.setCells g o vs).heap[k]? = w.heap[k]? := fun k hk => setCells_far vs o k hk
  refine ⟨⟨hok, inner, ⟨ho.1, ?_⟩, hr.imp_ (fun _ _ hp => Kd.M_step hp (fun k hk _ => hfar k (fun e => hk.2 (by rw [e]; rfl))))⟩, ⟨s1, s2, s3, by rw [s4]; exact Nat.le_refl _, fun k _ hk => hfar k (fun e => hk (by rw [e]))⟩⟩
  rcases ho.2 with ⟨h, _⟩ | ⟨g', cap, cur, hv, hb, hg, hnc, hm, hs, ht⟩
  · cases h
  · injection hv with hA _ hc; injection hA with hA; injection hA with hA _ _
    subst hA hc
    obtain ⟨cur', h1, h2, h3⟩ := setCells_row vs o w cur hg (by rw [hs]; exact hf)
    refine .inr ⟨g, c, cur', by rw [← hn], hb, h1, hnc, hm, by rw [h2]; exact hs, ?_⟩
    rw [← ht, h3, List.append_assoc, List.take_append_of_le_length, List.take_take, Nat.min_eq_left]
    · rw [← hn]; exact ho'
    · rw [List.length_take, Array.length_toList]
      have h5 : xs.length * d.sz = n * d.sz := by rw [hn]
      show xs.length * d.sz ≤ min o cur.size
      rw [hs]; omega
theorem info_size {i : Option TypeInfo} {z : Option Value} {s b : Nat} (h : i.map (fun i => (i.zero, i.size, i.bytes)) = some (z, s, b)) : i.map (·.size) = some s := by
  obtain ⟨i0, hi, hz⟩ := Option.map_eq_some_iff.1 h
  simp only [Prod.mk.injEq] at hz
  rw [hi]; simp [hz.2.1]
theorem cut_all (t e : TypeId) {i : TypeInfo} (ht : P.underlying t = some (.slice e)) (hi : P.info? e = some i) (g n c k : Nat) (hk : k < n) (hc : n ≤ c) : ∃ v, ∀ W : World, (Instr.slice t (.slice (some ⟨g, 0, none⟩) n c) (some (.int .i64 (k : Int))) (some (.int .i64 ((k : Int) + 1))) (some (.int .i64 (n : Int)))).run P W = .ok v W := by
  have hel : P.elem t = e := by simp [Program.elem, ht]
  have hu : P.underlying t = some (.slice (P.elem t)) := by rw [hel]; exact ht
  refine ⟨sliced (some ⟨g, 0, none⟩) (k : Int).toNat ((k : Int) + 1).toNat (n : Int).toNat i.size, fun W => ?_⟩
  rw [run_slice_lhm W t (some ⟨g, 0, none⟩) n c hu .i64 .i64 .i64 (k : Int) ((k : Int) + 1) (n : Int) (by omega) (by omega) (by omega) (by omega), hel]
  simp [sizeOf, typeInfo, hi, Result.andThen]
theorem cut_last (t e : TypeId) {i : TypeInfo} (ht : P.underlying t = some (.slice e)) (hi : P.info? e = some i) (sz : Nat) (hsz : i.size = sz) (g n c : Nat) (hn : 0 < n) (hc : n ≤ c) : ∀ W : World, (Instr.slice t (.slice (some ⟨g, 0, none⟩) (n - 1) c) (some (.int .i64 ((n - 1 : Nat) : Int))) (some (.int .i64 (n : Int))) none).run P W = .ok (.slice (some ⟨g, (n - 1) * sz, none⟩) 1 (c - (n - 1))) W := by
  intro W
  have hel : P.elem t = e := by simp [Program.elem, ht]
  have hu : P.underlying t = some (.slice (P.elem t)) := by rw [hel]; exact ht
  rw [run_slice_lh W t (some ⟨g, 0, none⟩) (n - 1) c hu .i64 .i64 ((n - 1 : Nat) : Int) (n : Int) (by omega) (by omega) (by omega), hel]
  have h1 : n - (n - 1) = 1 := by omega
  have h2 : ¬ c = n - 1 := by omega
  simp [sizeOf, typeInfo, hi, hsz, sliced, Result.andThen, h1, h2, Addr.add]
  omega
theorem run_clear_one (w : World) (t e : TypeId) (z : Value) (zs : List Value) (ht : P.underlying t = some (.slice e)) (hv : ∀ w, (zeroValue e).run P w = .ok z w) (hz : (Builtin.zeroCells z.cells 1).toList = zs) (h1 : ∀ v ∈ zs, v.oneCell' = true) (b o c sz : Nat) (hsz : zs.length = sz) (cap : Nat)
    (hg : ∃ cur : Array Value, w.heap[b]? = some (.cells cur e (0, 0)) ∧ cur.size = cap * sz) (hf : o + sz ≤ cap * sz) (ty : TypeId) :
    (Builtin.clear_ #[t] ty #[.slice (some ⟨b, o, none⟩) 1 c]).run P w = .ok (.tuple #[]) (w.setCells b o zs) := by
  obtain ⟨cur, hg, hs⟩ := hg
  have hst := run_storeCells_cells (P := P) b o zs 0 w (fun j hj => by rw [blk_cell hg, Array.getElem?_eq_getElem (by omega)]; rfl) (fun j hj => blk_frozen hg _) h1
  simp only [Nat.add_zero] at hst
  simp [Builtin.clear_, run_underlying ht, hv, hz, hst]
end
end Go.Proofs.YtmmiehckgkadgaaGreat.O
namespace Go.Proofs.YtmmiehckgkadgaaGreat.O
set_option linter.unusedVariables false
set_option linter.unusedSimpArgs false
open Go.RowKit Go.Proofs.YtmmiehckgkadgaaGreatW.PrintWords
set_option maxRecDepth 20000 in
set_option maxHeartbeats 4000000 in
theorem deleteCol.calls (xs : List Col) (w : World) (b g c k : Nat) (ok : Nat → Prop) (hk : k < xs.length) (hl : xs.length ≤ 3000) (hR : kCol.R 41 w b ok (.slice (some ⟨g, 0, none⟩) xs.length c) xs) :
    Calls Tryz.prog 62 #[.slice (some ⟨g, 0, none⟩) xs.length c, .int .i64 (k : Int), .int .i64 ((k : Int) + 1)] w fun e w' => e = .returned (.slice (some ⟨g, 0, none⟩) (xs.length - 1) c) ∧ w.grownBy w' (some g) ∧ kCol.R 41 w' b ok (.slice (some ⟨g, 0, none⟩) (xs.length - 1) c) (xs.eraseIdx k) := by
  obtain ⟨i0, hi, hzz⟩ := Option.map_eq_some_iff.1 infoCol
  simp only [Prod.mk.injEq] at hzz
  have hisz : i0.size = 3 := hzz.2.1
  have hnc : xs.length ≤ c := (Kd.R_reads' hR).2.1
  have hcm := R_cap hR
  have h0 : (0 : Int) ≤ (k : Int) := by omega
  have h1 : (k : Int) + 1 ≤ (xs.length : Int) := by omega
  obtain ⟨sv, s1⟩ := cut_all (P := Tryz.prog) 47 41 Tryz.underlying47 hi g xs.length c k hk hnc
  have s2 := cut_to (P := Tryz.prog) 47 41 .i64 Tryz.underlying47 hi (some ⟨g, 0, none⟩) xs.length c (k : Int) h0 (by omega) hnc
  have s3 := cut_from (P := Tryz.prog) 47 41 .i64 Tryz.underlying47 hi 3 hisz (some ⟨g, 0, none⟩) xs.length c ((k : Int) + 1) (by omega) h1
  rw [Int.toNat_natCast] at s2
  rw [show ((k : Int) + 1).toNat = k + 1 from by omega] at s3
  have s4 := cut_last (P := Tryz.prog) 47 41 Tryz.underlying47 hi 3 hisz g xs.length c (by omega) hnc
  have HR := Aside0.mk (Kd.R_drew hR)
  have HN := Aside0.mk hnc
  have HCM := Aside0.mk hcm
  have hkk : ((k : Int) == (k : Int) + 1) = false := beq_eq_false_iff_ne.2 (by omega)
  obtain ⟨A, hA⟩ : ∃ A, A = if c = k + 1 then some (⟨g, 0, none⟩ : Addr) else (some (⟨g, 0, none⟩ : Addr)).map (·.add ((k + 1) * 3)) := ⟨_, rfl⟩
  rw [← hA] at s3
  have HA := Aside0.mk hA
  clear hA hR hi hzz hisz hnc hcm
  go_enter Tryz.func62, Tryz.ntmps62
  go_wp2
  go_region_law ((refine Kd.R_delete_step kCol (w0 := w.drew) b (by rfl) (.tmp 22) (.tmp 25) 47 41 rfl Tryz.underlying47 (info_size infoCol) (g := g) (n := xs.length) (c := c) (k := k) (m := xs.length - (k + 1)) (c2 := c - (k + 1)) (A := A) (xs := xs) (ok := ok) (by rfl) (by rfl) HA.out rfl HR.out hk (Below.refl _ _) (R_bs HR.out) ?_; intro w1 hR1 _ hg1))
  all_goals
    have HD := Aside0.mk (And.intro hR1 hg1)
    have hrun := fun W (hg2 : ∃ cur, W.heap[g]? = some (.cells cur 41 (0, 0)) ∧ cur.size = c * 3) => run_clear_one (P := Tryz.prog) W 47 41 (.agg #[(.string ⟨#[]⟩), (.int .i64 0), (.bool false)]) [(.string ⟨#[]⟩), (.int .i64 0), (.bool false)] Tryz.underlying47 Tryz.zeroValue41 (by kernel_rfl) (by decide) g ((xs.length - 1) * 3) (c - (xs.length - 1)) 3 rfl c hg2 (by have := HN.out; have h2 : (xs.length - 1 + 1) * 3 ≤ c * 3 := Nat.mul_le_mul_right _ (by omega); omega)
    obtain ⟨HD1, HD2⟩ := R_behind HD.out.1 ((xs.length - 1) * 3) [(.string ⟨#[]⟩), (.int .i64 0), (.bool false)] (Nat.le_refl _) (by have h2 : (xs.length - 1 + 1) * 3 ≤ c * 3 := Nat.mul_le_mul_right _ (by have := HN.out; omega); show (xs.length - 1) * 3 + 3 ≤ c * 3; omega)
    have HC := Aside0.mk (hrun _ (R_block HD.out.1))
    have HX := Aside0.mk (And.intro (World.grownBy.trans HD.out.2 HD2) HD1)
    clear hrun HD1 HD2 hR1 hg1
    have hcl := HC.out 0
    go_wp2
    go_ret
    exact ⟨rfl, ⟨HX.out.1.os, HX.out.1.tape, HX.out.1.output, HX.out.1.size, HX.out.1.block⟩, HX.out.2⟩
end Go.Proofs.YtmmiehckgkadgaaGreat.O
namespace Go.Proofs.YtmmiehckgkadgaaGreat.O
set_option linter.unusedVariables false
set_option linter.unusedSimpArgs false
open Go.RowKit Go.Proofs.YtmmiehckgkadgaaGreatW.PrintWords
theorem InDid.err {B : Nat} {W w' : World} {ss : List Sch} {ts : List Tab} {k : Nat} {Bs : Option Addr} {ds g dt : Nat} {r : Int × Tab} (n : Int) (hn : r.1 = n) (h0 : n ≠ 0) (hb : Below W.heap.size W w') (hBW : B ≤ W.heap.size) : InDid B W ss ts k Bs ds g dt r (.returned (.int .i64 n)) w' :=
  ⟨by rw [hn], hb.mono hBW, fun q cs h => blk_below h hb, fun h => absurd (hn.symm.trans h) h0⟩
theorem InDid.cols {B : Nat} {W W0 w1 : World} {ss : List Sch} {ts : List Tab} {k : Nat} {Bs A3 : Option Addr} {ds g dt c3 : Nat} {t : Tab} {v1 : Value} {oki : Nat → Prop} {xs : List Col} (hb : Below W.heap.size W W0) (hBW : B ≤ W.heap.size) (hgB : B ≤ g) (hR : kSch.R 76 W B (fun _ => True) (.slice Bs ss.length ds) ss) (h3 : kCol.R 41 W0 B oki (.slice A3 xs.length c3) xs) (hg : W0.grownBy w1 (Value.slice A3 xs.length c3).ownBlock)
    (hgc : ∃ cells, w1.heap[g]? = some (.cells cells 50 (0, 0))) (j : Nat) (hS : Kd.S kTab 50 (w1.setCell ⟨g, j, none⟩ v1) B (fun _ => True) (.slice (some ⟨g, 0, none⟩) ts.length dt) (ts.set k t)) : InDid B W ss ts k Bs ds g dt (0, t) (.returned (.int .i64 0)) (w1.setCell ⟨g, j, none⟩ v1) := by
  obtain ⟨cells, hgc⟩ := hgc
  have hb1 : Below B W w1 := (hb.mono hBW).grown hg (Nat.le_trans hBW hb.size) (fun q hq => Kd.R_base h3 q hq)
  have key : ∀ (q : Nat) (cs : Array Value), W.heap[q]? = some (.cells cs 25 (0, 0)) → w1.heap[q]? = some (.cells cs 25 (0, 0)) := fun q cs hq => blk_grown (blk_below hq hb) hg (Kd.R_ne h3 (blk_below hq hb) (by decide))
  exact ⟨rfl, hb1.setCell hgB _, fun q cs hq => blk_far (p := ⟨g, j, none⟩) (key q cs hq) (blk_ne (key q cs hq) hgc (by decide)) _, fun _ => ⟨Kd.R_set (Kd.R_over' (Kd.R_below hR hb) (Kd.R_typed h3) (by decide) hg) hgc (by decide) _ _, hS⟩⟩
theorem keep3b {w0 w w' : World} {v0 v1 : Value} {a0 a1 : Addr} (h : w.cell? a0 = some v0 ∧ w.cell? a1 = some v1 ∧ Below w0.heap.size w0 w) (hb : Below w.heap.size w w') : w'.cell? a0 = some v0 ∧ w'.cell? a1 = some v1 ∧ Below w0.heap.size w0 w' := ⟨pw_cell_below hb h.1, pw_cell_below hb h.2.1, below_step h.2.2 hb⟩
theorem boxes3c (w : World) (o1 o2 o3 : Obj) : Below w.heap.size w (((w.alloc o1).alloc o2).alloc o3) := (boxes3 w o1 o2 o3).1
end Go.Proofs.YtmmiehckgkadgaaGreat.O
namespace Go.Proofs.YtmmiehckgkadgaaGreat.O
set_option linter.unusedVariables false
set_option linter.unusedSimpArgs false
open Go.RowKit Go.Proofs.YtmmiehckgkadgaaGreatW.PrintWords
set_option maxHeartbeats 1000000 in
theorem idxFuncRulG.calls (f : Nat) (caps : Array Value) (hent : ∀ (as_ : Array Value) (W : World), (callFunc f as_).run Tryz.prog W = .ok (.enter f as_) W) (pr : Rul → Bool) (A0 : Option Addr) (c0 : Nat) (xs : List Rul) (w : World) (hr : kRul.C w A0 xs.length xs) (hl : xs.length ≤ 140737488355328) (hf : ∀ (x : Rul), x ∈ xs → ∀ (A2 : Option Addr) (c2 : Nat) (W : World), Below w.heap.size w W → x.cols.length ≤ c2 → Kd.string.C W A2 x.cols.length x.cols → Calls Tryz.prog f (#[.agg #[.string x.name, .int .i64 x.kind, .slice A2 x.cols.length c2, .int .i64 x.low, .int .i64 x.high, .string x.schema, .string x.table, .string x.key]] ++ caps) W fun e w' => e = .returned (.bool (pr x)) ∧ Below W.heap.size W w') :
    Calls Tryz.prog 81 #[.slice A0 xs.length c0, .func (.func f) #[] caps] w fun e w' => e = .returned (.int .i64 (idx pr xs)) ∧ Below w.heap.size w w' := by
  have HR := Aside0.mk hr
  have HF := Aside0.mk hf
  have HX := Aside0.mk (show ∀ k, idx pr xs = k → idx pr xs = k from fun _ h => h)
  generalize hi : idx pr xs = r at HX
  clear HX
  have HI := Aside0.mk hi
  clear hr hf hi
  go_enter Tryz.func81, Tryz.ntmps81
  go_wp2
  go_loopw [8] (fun i w' => ∃ k : Nat, k ≤ xs.length ∧ i = .int .i64 k ∧ Aside0 ((∀ j (hj : j < xs.length), j < k → pr xs[j] = false) ∧ Below w.heap.size w w')) (fun i _ => xs.length - (intOf i).toNat)
  case atStart => exact ⟨0, Nat.zero_le _, rfl, ⟨fun _ _ h => absurd h (Nat.not_lt_zero _), Below.refl _ _⟩⟩
  case round =>
    obtain ⟨k, hk, rfl, HJ⟩ := hrel
    by_cases hlt : k < xs.length
    · obtain ⟨ad, A2, c2, e, hc0, hc1, hc2, hc3, hc4, hc5, hc6, hc7, hsl2, hsc2⟩ := cRul (Kd.C_below HR.out HJ.out.2) k hlt
      cases e
      have HC := Aside0.mk (HF.out xs[k] (List.getElem_mem hlt) A2 c2 wr HJ.out.2 hsl2 hsc2)
      generalize hp : pr xs[k] = p at HC
      have HP := Aside0.mk hp
      clear hp hsl2 hsc2
      go_wp2_with fail
      refine HC.out.mono ?_
      rintro e w1 ⟨rfl, hb1⟩
      have HB := Aside0.mk (HJ.out.2.trans (hb1.mono HJ.out.2.size))
      clear hb1
      cases p with
      | true =>
        have hr := idx_hit (p := pr) hlt HP.out HJ.out.1
        have HR2 := Aside0.mk (hr.symm.trans HI.out)
        clear hr
        go_wp2
        go_ret
        exact ⟨ret_int HR2.out, HB.out⟩
      | false =>
        go_wp2
        go_roundw
        case rel => exact ⟨k + 1, by omega, by go_num, ⟨snoc_false (p := pr) HJ.out.1 hlt HP.out, HB.out⟩⟩
        case measure => simp [intOf]; omega
    · have hd : decide (k < xs.length) = false := decide_eq_false hlt
      go_wp2
      go_ret
      exact ⟨ret_int ((idx_none (p := pr) fun j hj => HJ.out.1 j hj (by omega)).symm.trans HI.out), HJ.out.2⟩
set_option maxHeartbeats 400000 in
theorem contains.calls {A0 : Option Addr} {c0 : Nat} (s : ByteArray) (xs : List ByteArray) (w : World) (hr : Kd.string.C w A0 xs.length xs) (hl : xs.length ≤ 140737488355328) :
    Calls Tryz.prog 61 #[.slice A0 xs.length c0, .string s] w fun e w' => e = .returned (.bool (decide (0 ≤ idx (fun y => s.toList == y.toList) xs))) ∧ Below w.heap.size w w' := by
  have HC := Aside0.mk (sIndex.calls (A0 := A0) (c0 := c0) s xs w hr hl)
  clear hr
  generalize idx (fun y => s.toList == y.toList) xs = r at HC ⊢
  go_enter Tryz.func61, Tryz.ntmps61
  go_wp2_with fail
  refine HC.out.mono ?_
  rintro e w1 ⟨rfl, hb1⟩
  have HB := Aside0.mk hb1
  clear hb1
  go_wp2
  go_ret
  exact ⟨rfl, HB.out⟩
def usesB (name : ByteArray) (r : Rul) : Bool := decide (0 ≤ idx (fun y => name.toList == y.toList) r.cols)
set_option maxHeartbeats 1000000 in
theorem dropColumn11.calls (x : Rul) (name : ByteArray) {A2 : Option Addr} {c2 : Nat} (p : Nat) (w : World) (hp : w.cell? ⟨p, 0, none⟩ = some (.string name)) (hr : Kd.string.C w A2 x.cols.length x.cols) (hl : x.cols.length ≤ 3000) :
    Calls Tryz.prog 60 #[.agg #[.string x.name, .int .i64 x.kind, .slice A2 x.cols.length c2, .int .i64 x.low, .int .i64 x.high, .string x.schema, .string x.table, .string x.key], .pointer (some ⟨p, 0, none⟩)] w fun e w' => e = .returned (.bool (usesB name x)) ∧ Below w.heap.size w w' := by
  have hp1 : ∀ o, (w.alloc o).cell? ⟨p, 0, none⟩ = some (.string name) := fun o => pw_cell_below (below_alloc (Below.refl _ _) o) hp
  have HB := Aside0.mk (fun o => below_alloc (Below.refl w.heap.size w) o)
  have HC := Aside0.mk (fun W (hW : Below w.heap.size w W) => contains.calls (A0 := A2) (c0 := c2) name x.cols W (Kd.C_below hr hW) (by omega))
  clear hp hr
  unfold usesB
  generalize decide (0 ≤ idx (fun y => name.toList == y.toList) x.cols) = r at HC ⊢
  go_enter Tryz.func60, Tryz.ntmps60
  go_wp2_with fail
  refine (HC.out _ (HB.out _)).mono ?_
  rintro e w1 ⟨rfl, hb1⟩
  have HB1 := Aside0.mk (below_step (HB.out _) hb1)
  clear hb1
  go_wp2
  go_ret
  exact ⟨rfl, HB1.out⟩
set_option maxHeartbeats 1000000 in
theorem containsFunc.calls (name : ByteArray) (p : Nat) {A0 : Option Addr} {c0 : Nat} (xs : List Rul) (w : World) (hp : w.cell? ⟨p, 0, none⟩ = some (.string name)) (hr : kRul.C w A0 xs.length xs) (hl : xs.length ≤ 3000) (hB : ∀ r ∈ xs, RulB r) :
    Calls Tryz.prog 59 #[.slice A0 xs.length c0, .func (.func 60) #[] #[.pointer (some ⟨p, 0, none⟩)]] w fun e w' => e = .returned (.bool (decide (0 ≤ idx (usesB name) xs))) ∧ Below w.heap.size w w' := by
  have HC := Aside0.mk (idxFuncRulG.calls 60 #[.pointer (some ⟨p, 0, none⟩)] (enters Tryz.func60 (by decide) rfl) (usesB name) A0 c0 xs w hr (by omega) (fun x hx A2 c2 W hW _ hC => dropColumn11.calls x name p W (pw_cell_below hW hp) hC (hB x hx)))
  clear hr hp hB
  generalize idx (usesB name) xs = r at HC ⊢
  go_enter Tryz.func59, Tryz.ntmps59
  go_wp2_with fail
  refine HC.out.mono ?_
  rintro e w1 ⟨rfl, hb1⟩
  have HB := Aside0.mk hb1
  clear hb1
  go_wp2
  go_ret
  exact ⟨rfl, HB.out⟩
end Go.Proofs.YtmmiehckgkadgaaGreat.O
namespace Go.Proofs.YtmmiehckgkadgaaGreat.O
set_option linter.unusedVariables false
set_option linter.unusedSimpArgs false
open Go.RowKit Go.Proofs.YtmmiehckgkadgaaGreatW.PrintWords
def isC (name : ByteArray) (x : Col) : Bool := x.name.toList == name.toList
def dropColM (name : ByteArray) (t : Tab) : Int × Tab := if 0 ≤ idx (isC name) t.cols then (if (t.cols.length == 1 || decide (0 ≤ idx (usesB name) t.rules)) = true then (62, t) else (0, { t with cols := t.cols.eraseIdx (idx (isC name) t.cols).toNat })) else (61, t)
theorem S_cols4 {B g dt : Nat} {W : World} {ts : List Tab} (h : Kd.S kTab 50 W B (fun _ => True) (.slice (some ⟨g, 0, none⟩) ts.length dt) ts) (k : Nat) (hk : k < ts.length) : ∃ A4 c4, W.cell? ⟨g, k * 5 + 4, none⟩ = some (.slice A4 ts[k].rules.length c4) ∧ kRul.C W A4 ts[k].rules.length ts[k].rules := by
  obtain ⟨oki, A4, c4, e, _, hR, _⟩ := S_rules h k hk
  exact ⟨A4, c4, e, (Kd.R_reads' hR).2.2⟩
set_option maxRecDepth 20000 in
set_option maxHeartbeats 4000000 in
theorem DropColumn1.calls (ss : List Sch) (ts : List Tab) (name : ByteArray) (w : World) (p : Nat) (hp : w.cell? ⟨p, 0, none⟩ = some (.string name)) (hB : TabsB ts) :
    Inner 58 #[.pointer (some ⟨p, 0, none⟩)] w ss ts (dropColM name) := by
  intro k hk B W Bs ds g dt hA
  show Calls Tryz.prog 58 #[.agg #[.slice Bs ss.length ds, .slice (some ⟨g, 0, none⟩) ts.length dt], .pointer (some ⟨g, k * 5, none⟩), .pointer (some ⟨p, 0, none⟩)] W _
  obtain ⟨hW, hwB, hBW, hR, hS⟩ := hA
  have hlc : ts[k].cols.length ≤ 3000 := (hB.2 _ (List.getElem_mem hk)).1
  have hlr : ts[k].rules.length ≤ 3000 := (hB.2 _ (List.getElem_mem hk)).2.1
  obtain ⟨oki0, A3, c3, e3, _, h3, _, _⟩ := S_cols hS k hk
  obtain ⟨A4, c4, e4, hC4⟩ := S_cols4 hS k hk
  have HNM := Aside0.mk (fun W' (hW' : Below W.heap.size W W') => byNameCol.calls A3 c3 ts[k].cols name W' (Kd.C_below (Kd.R_reads' h3).2.2 hW') (by omega))
  have HCF := Aside0.mk (fun W' (hW' : Below W.heap.size W W') (hp' : W'.cell? ⟨p, 0, none⟩ = some (.string name)) => containsFunc.calls name p (c0 := c4) ts[k].rules W' hp' (Kd.C_below hC4 hW') hlr (hB.2 _ (List.getElem_mem hk)).2.2)
  have HP := Aside0.mk (pw_cell_below hW hp)
  have HE3 := Aside0.mk e3
  have HE4 := Aside0.mk e4
  have HBW := Aside0.mk hBW
  have HRS := Aside0.mk (And.intro hR hS)
  clear hp hW hwB hBW hR hS hB e3 h3 e4 hC4
  rcases idx_cases (fun x : Col => x.name.toList == name.toList) ts[k].cols with ⟨m, hm, hi, y1, y2⟩ | ⟨hi, y1⟩
  · have HAM := Aside0.mk (show dropColM name ts[k] = (if (ts[k].cols.length == 1 || decide (0 ≤ idx (usesB name) ts[k].rules)) = true then (62, ts[k]) else (0, { ts[k] with cols := ts[k].cols.eraseIdx m })) by
      unfold dropColM; rw [show idx (isC name) ts[k].cols = (m : Int) from hi, if_pos (by omega), Int.toNat_natCast])
    rw [hi] at HNM
    have hd : decide ((m : Int) < 0) = false := decide_eq_false (by omega)
    clear hi y1 y2
    by_cases h1 : ts[k].cols.length = 1
    · have HQ := Aside0.mk (show (dropColM name ts[k]).1 = 62 by rw [HAM.out, h1]; rfl)
      have hd1 : ((ts[k].cols.length : Int) == 1) = true := beq_iff_eq.2 (by omega)
      clear h1 HAM
      go_enter Tryz.func58, Tryz.ntmps58
      go_wp2_with fail
      generalize hW1 : W.alloc _ = W1
      have HB1 := Aside0.mk (show Below W.heap.size W W1 by rw [← hW1]; exact below_alloc (Below.refl _ _) _)
      have r0 := pw_cell_below HB1.out HP.out
      have r3 := pw_cell_below HB1.out HE3.out
      clear hW1
      go_region_held3 (fun w' => w'.cell? ⟨g, k * 5 + 3, none⟩ = some (.slice A3 ts[k].cols.length c3) ∧ w'.cell? ⟨p, 0, none⟩ = some (.string name) ∧ Below W1.heap.size W1 w')
        (first | exact keep3b (by assumption) (by assumption) | exact ⟨r3, r0, below_drew (Below.refl _ _)⟩)
        (first | (go_at_call 49; refine (HNM.out _ ?_).mono ?_; exact below_drew HB1.out; rintro e w' ⟨rfl, hbx⟩))
      rename_i hH
      have hb2 := hH.2.2
      have HB3 := Aside0.mk (below_step HB1.out hb2)
      have x0 := pw_cell_below HB3.out HP.out
      have x3 := pw_cell_below HB3.out HE3.out
      have x4 := pw_cell_below HB3.out HE4.out
      clear hH hb2 hbx r0 r3 HNM
      have HX := Aside0.mk (InDid.err (ss := ss) (ts := ts) (k := k) (Bs := Bs) (ds := ds) (g := g) (dt := dt) 62 HQ.out (by decide) HB3.out HBW.out)
      go_wp2
      go_ret
      exact HX.out
    · have hd1 : ((ts[k].cols.length : Int) == 1) = false := beq_eq_false_iff_ne.2 (by omega)
      have hb1 : (ts[k].cols.length == 1) = false := beq_eq_false_iff_ne.2 h1
      rw [hb1, Bool.false_or] at HAM
      clear hb1
      cases hu : decide (0 ≤ idx (usesB name) ts[k].rules) with
      | true =>
        rw [hu] at HAM HCF
        have HQ := Aside0.mk (show (dropColM name ts[k]).1 = 62 by rw [HAM.out]; rfl)
        clear h1 HAM hu
        go_enter Tryz.func58, Tryz.ntmps58
        go_wp2_with fail
        generalize hW1 : W.alloc _ = W1
        have HB1 := Aside0.mk (show Below W.heap.size W W1 by rw [← hW1]; exact below_alloc (Below.refl _ _) _)
        have r0 := pw_cell_below HB1.out HP.out
        have r3 := pw_cell_below HB1.out HE3.out
        clear hW1
        go_region_held3 (fun w' => w'.cell? ⟨g, k * 5 + 3, none⟩ = some (.slice A3 ts[k].cols.length c3) ∧ w'.cell? ⟨p, 0, none⟩ = some (.string name) ∧ Below W1.heap.size W1 w')
          (first | exact keep3b (by assumption) (by assumption) | exact ⟨r3, r0, below_drew (Below.refl _ _)⟩)
          (first | (go_at_call 49; refine (HNM.out _ ?_).mono ?_; exact below_drew HB1.out; rintro e w' ⟨rfl, hbx⟩))
        rename_i hH
        have hb2 := hH.2.2
        have HB3 := Aside0.mk (below_step HB1.out hb2)
        have x0 := pw_cell_below HB3.out HP.out
        have x3 := pw_cell_below HB3.out HE3.out
        have x4 := pw_cell_below HB3.out HE4.out
        clear hH hb2 hbx r0 r3 HNM
        go_wp2_with fail
        refine (HCF.out _ HB3.out x0).mono ?_
        rintro e w4 ⟨rfl, hb4⟩
        have HX := Aside0.mk (InDid.err (ss := ss) (ts := ts) (k := k) (Bs := Bs) (ds := ds) (g := g) (dt := dt) 62 HQ.out (by decide) (below_step HB3.out hb4) HBW.out)
        clear hb4
        go_wp2
        go_ret
        exact HX.out
      | false =>
        rw [hu] at HAM HCF
        have HQ := Aside0.mk (show dropColM name ts[k] = (0, { ts[k] with cols := ts[k].cols.eraseIdx m }) by rw [HAM.out]; rfl)
        clear h1 HAM hu
        go_enter Tryz.func58, Tryz.ntmps58
        go_wp2_with fail
        generalize hW1 : W.alloc _ = W1
        have HB1 := Aside0.mk (show Below W.heap.size W W1 by rw [← hW1]; exact below_alloc (Below.refl _ _) _)
        have r0 := pw_cell_below HB1.out HP.out
        have r3 := pw_cell_below HB1.out HE3.out
        clear hW1
        go_region_held3 (fun w' => w'.cell? ⟨g, k * 5 + 3, none⟩ = some (.slice A3 ts[k].cols.length c3) ∧ w'.cell? ⟨p, 0, none⟩ = some (.string name) ∧ Below W1.heap.size W1 w')
          (first | exact keep3b (by assumption) (by assumption) | exact ⟨r3, r0, below_drew (Below.refl _ _)⟩)
          (first | (go_at_call 49; refine (HNM.out _ ?_).mono ?_; exact below_drew HB1.out; rintro e w' ⟨rfl, hbx⟩))
        rename_i hH
        have hb2 := hH.2.2
        have HB3 := Aside0.mk (below_step HB1.out hb2)
        have x0 := pw_cell_below HB3.out HP.out
        have x3 := pw_cell_below HB3.out HE3.out
        have x4 := pw_cell_below HB3.out HE4.out
        clear hH hb2 hbx r0 r3 HNM
        go_wp2_with fail
        refine (HCF.out _ HB3.out x0).mono ?_
        rintro e w4 ⟨rfl, hb4⟩
        have HB4 := Aside0.mk (below_step HB3.out hb4)
        have z3 := pw_cell_below HB4.out HE3.out
        clear hb4 x0 x3 x4 HCF
        obtain ⟨oki, A3', c3', e3, f3, h3, ho, hset⟩ := S_cols (Kd.S_below HRS.out.2 HB4.out) k hk
        have ee := e3.symm.trans z3
        injection ee with ee
        injection ee with e1 e2 e4
        subst e1 e4
        obtain ⟨gc, hgc⟩ : ∃ gc, A3' = some ⟨gc, 0, none⟩ := by
          obtain ⟨gc, cap, hv, _⟩ := Kd.R_form h3 (by omega)
          injection hv with hA _ _
          exact ⟨gc, hA⟩
        subst hgc
        have HDL := Aside0.mk (deleteCol.calls ts[k].cols w4 B gc c3' m oki hm hlc h3)
        have HC := Aside0.mk (And.intro h3 hset)
        have HG := Aside0.mk (show B ≤ g from Kd.S_base HRS.out.2 g rfl)
        clear e2 e3 h3 ho hset
        go_wp2_with fail
        refine HDL.out.mono ?_
        rintro e w5 ⟨rfl, hg5, hR5⟩
        have hlen : (ts[k].cols.eraseIdx m).length = ts[k].cols.length - 1 := List.length_eraseIdx_of_lt hm
        obtain ⟨y1, y2, y3, y4⟩ := HC.out.2 w5 _ _ hg5 (Kd.R_mono hR5 (fun q hq => .inl hq))
        have HF := Aside0.mk (InDid.cols HB4.out HBW.out HG.out HRS.out.1 HC.out.1 hg5 y3 (k * 5 + 3) y4)
        clear hg5 hR5 y3 y4 HC HDL HRS hlen
        go_wp2
        go_ret
        rw [HQ.out]
        exact HF.out
  · have HQ := Aside0.mk (show (dropColM name ts[k]).1 = 61 by unfold dropColM; rw [show idx (isC name) ts[k].cols = -1 from hi, if_neg (by omega)])
    rw [hi] at HNM
    have hd : decide ((-1 : Int) < 0) = true := rfl
    clear hi y1
    go_enter Tryz.func58, Tryz.ntmps58
    go_wp2_with fail
    generalize hW1 : W.alloc _ = W1
    have HB1 := Aside0.mk (show Below W.heap.size W W1 by rw [← hW1]; exact below_alloc (Below.refl _ _) _)
    have r0 := pw_cell_below HB1.out HP.out
    have r3 := pw_cell_below HB1.out HE3.out
    clear hW1
    go_region_held3 (fun w' => w'.cell? ⟨g, k * 5 + 3, none⟩ = some (.slice A3 ts[k].cols.length c3) ∧ w'.cell? ⟨p, 0, none⟩ = some (.string name) ∧ Below W1.heap.size W1 w')
      (first | exact keep3b (by assumption) (by assumption) | exact ⟨r3, r0, below_drew (Below.refl _ _)⟩)
      (first | (go_at_call 49; refine (HNM.out _ ?_).mono ?_; exact below_drew HB1.out; rintro e w' ⟨rfl, hbx⟩))
    rename_i hH
    have hb2 := hH.2.2
    have HB3 := Aside0.mk (below_step HB1.out hb2)
    have x0 := pw_cell_below HB3.out HP.out
    have x3 := pw_cell_below HB3.out HE3.out
    have x4 := pw_cell_below HB3.out HE4.out
    clear hH hb2 hbx r0 r3 HNM
    have HX := Aside0.mk (InDid.err (ss := ss) (ts := ts) (k := k) (Bs := Bs) (ds := ds) (g := g) (dt := dt) 61 HQ.out (by decide) HB3.out HBW.out)
    go_wp2
    go_ret
    exact HX.out
def dropColumn (ss : List Sch) (ts : List Tab) (schema table : ByteArray) (name : ByteArray) : Res := chg ss ts (tch ss ts schema table (dropColM name))
set_option maxRecDepth 20000 in
set_option maxHeartbeats 2000000 in
theorem DropColumn.calls {As At : Option Addr} {cs ct : Nat} (ss : List Sch) (ts : List Tab) (schema table : ByteArray) (name : ByteArray) (w : World) (hs : kSch.C w As ss.length ss) (hsl : ss.length ≤ 3000) (ht : kTab.C w At ts.length ts) (hF : TabsF ts) (hB : TabsB ts) :
    Calls Tryz.prog 16 #[.agg #[.slice As ss.length cs, .slice At ts.length ct], .string schema, .string table, .string name] w (Out w (dropColumn ss ts schema table name)) := by
  have H3 := Aside0.mk (boxes3 w (.cells #[.slice As ss.length cs, .slice At ts.length ct] 25) (.cells #[.string name] 9) (.cells #[.slice none 0 0, .slice none 0 0] 25))
  have HT := Aside0.mk (fun (W : World) (hW : Below w.heap.size w W) (p : Nat) (h0 : W.cell? ⟨p, 0, none⟩ = some (.string name)) => tableChanged.calls (As := As) (At := At) (cs := cs) (ct := ct) 58 #[.pointer (some ⟨p, 0, none⟩)] (enters Tryz.func58 (by decide) rfl) ss ts schema table _ W (Kd.C_below hs hW) hsl (Kd.C_below ht hW) hF hB (fun _ => DropColumn1.calls ss ts name W p h0 hB))
  clear hs ht hF hB
  unfold dropColumn
  generalize chg ss ts (tch ss ts schema table (dropColM name)) = q at *
  go_enter Tryz.func16, Tryz.ntmps16
  go_wp2_with fail
  refine (HT.out _ H3.out.1 (w.heap.size + 1) ((blk_cell H3.out.2.2.1 0).trans rfl)).mono ?_
  rintro e w2 ⟨vs, vt, rfl, h1, h2, hb⟩
  obtain ⟨Es, es, rfl⟩ := Kd.R_slice h1
  obtain ⟨Et, et, rfl⟩ := Kd.R_slice h2
  have hZ2 := blk_below H3.out.2.2.2 hb
  have z0 : w2.cell? ⟨w.heap.size + 1 + 1, 0, none⟩ = some (.slice none 0 0) := (blk_cell hZ2 0).trans rfl
  have z1 : w2.cell? ⟨w.heap.size + 1 + 1, 1, none⟩ = some (.slice none 0 0) := (blk_cell hZ2 1).trans rfl
  have f0 := blk_frozen hZ2 0
  have f1 := blk_frozen hZ2 1
  have HX := Aside0.mk (Out.wrap (g := w.heap.size + 1 + 1) H3.out.1 (by omega) H3.out.2.2.2 h1 h2 hb)
  clear h1 h2 hb hZ2 H3 HT
  go_wp2
  refine bodyPost_ret (v := .tuple #[.agg #[.slice Es q.2.1.length es, .slice Et q.2.2.length et], .int .i64 q.1]) (by simp [results, Tryz.results16, go_sem, *]) rfl ?_
  exact ⟨_, _, rfl, HX.out⟩
end Go.Proofs.YtmmiehckgkadgaaGreat.O
namespace Go.Proofs.YtmmiehckgkadgaaGreat.O
set_option linter.unusedVariables false
set_option linter.unusedSimpArgs false
open Go.RowKit Go.Proofs.YtmmiehckgkadgaaGreatW.PrintWords Go.Sort Go.Shelf
theorem R_sorted {α β : Type} [Inhabited β] {d : Kd α} {e base g c : Nat} {w : World} {ok : Nat → Prop} {xs : List α} (h : d.R e w base ok (.slice (some ⟨g, 0, none⟩) xs.length c) xs) (enc : β → List Value) (f : β → α) (ys : Array β) (hs0 : 0 < d.sz) (hk : ∀ y, (enc y).length = d.sz) (hsz : ys.size = xs.length)
    (hM : ∀ y, y ∈ ys.toList → d.M w base (fun k => ok k ∧ some k ≠ some g) (f y) (enc y)) (m : Nat) (os : Array Obj) :
    d.R e (sortWorldK enc d.sz w g 0 m ys os) base ok (.slice (some ⟨g, 0, none⟩) xs.length c) (ys.toList.map f) ∧ w.grownBy (sortWorldK enc d.sz w g 0 m ys os) (some g) := by
  obtain ⟨hok, inner, ho, hr⟩ := h
  rcases ho.2 with ⟨h, _⟩ | ⟨g', c', cur, hv, hb, hg, hnc, hm, hs, ht⟩
  · cases h
  injection hv with hA _ hc
  injection hA with hA
  injection hA with hA _ _
  subst hA hc
  have hlt : g < w.heap.size := blk_lt hg
  have hnz : xs.length * d.sz ≤ c * d.sz := Nat.mul_le_mul_right _ hnc
  have hpt : ∀ k, k < w.heap.size → (sortWorldK enc d.sz w g 0 m ys os).heap[k]? = (w.heap.modify g (onCells (putCells id 0 (flatK enc d.sz ys))))[k]? := fun k hk => by
    show ((w.heap.modify g (onCells (putCells id 0 (flatK enc d.sz ys)))) ++ os)[k]? = _
    rw [Array.getElem?_append_left (by simpa using hk)]
  have hfar : ∀ k, k < w.heap.size → k ≠ g → (sortWorldK enc d.sz w g 0 m ys os).heap[k]? = w.heap[k]? := fun k hk hne => by
    rw [hpt k hk, Array.getElem?_modify, if_neg (fun e => hne e.symm)]
  have hg' : (sortWorldK enc d.sz w g 0 m ys os).heap[g]? = some (.cells (putCells id 0 (flatK enc d.sz ys) cur) e (0, 0)) := by
    rw [hpt g hlt, Array.getElem?_modify, if_pos rfl, hg]; rfl
  have hcs : (putCells id 0 (flatK enc d.sz ys) cur).size = c * d.sz := by unfold putCells; rw [Array.size_mapIdx]; exact hs
  have hcl : (putCells id 0 (flatK enc d.sz ys) cur).toList.length = c * d.sz := by simpa using hcs
  have hml : (ys.toList.map f).length = xs.length := by simpa using hsz
  refine ⟨⟨hok, (putCells id 0 (flatK enc d.sz ys) cur).toList.take (xs.length * d.sz), ⟨?_, .inr ⟨g, c, _, ?_, hb, hg', ?_, hm, hcs, ?_⟩⟩, ?_, ?_⟩, ⟨rfl, rfl, rfl, ?_, fun k hk hne => hfar k hk (fun e => hne (by rw [e]))⟩⟩
  · rw [List.length_take, hcl, hml]; omega
  · rw [hml]
  · rw [hml]; exact hnc
  · rw [hml]
  · rw [List.length_take, hcl, hml]; omega
  · intro j p hp
    rw [List.getElem?_map, Option.map_eq_some_iff] at hp
    obtain ⟨y, hy, rfl⟩ := hp
    obtain ⟨hj, hyj⟩ := List.getElem?_eq_some_iff.1 hy
    have hj' : j < ys.size := by simpa using hj
    have hy2 : ys[j]! = y := by rw [getElem!_pos ys j hj']; simpa using hyj
    have hjn : (j + 1) * d.sz ≤ xs.length * d.sz := Nat.mul_le_mul_right _ (by omega)
    have hjn2 : (j + 1) * d.sz = j * d.sz + d.sz := by rw [Nat.add_mul, Nat.one_mul]
    have hrow : (((putCells id 0 (flatK enc d.sz ys) cur).toList.take (xs.length * d.sz)).drop (j * d.sz)).take d.sz = enc y := by
      refine List.ext_getElem? fun i => ?_
      by_cases hi : i < d.sz
      · have hlt2 : j * d.sz + i < ys.size * d.sz := by rw [hsz]; omega
        rw [List.getElem?_take, if_pos hi, List.getElem?_drop, List.getElem?_take, if_pos (by omega), Array.getElem?_toList]
        unfold putCells
        rw [Array.getElem?_mapIdx, Array.getElem?_eq_getElem (by rw [hs]; omega)]
        simp only [Option.map_some, id]
        rw [if_pos ⟨Nat.zero_le _, by rw [size_flatK]; omega⟩, Nat.sub_zero, get_flatK enc d.sz ys _ hlt2]
        have q1 : (j * d.sz + i) / d.sz = j := by rw [Nat.mul_comm, Nat.mul_add_div hs0, Nat.div_eq_of_lt hi]; rfl
        have q2 : (j * d.sz + i) % d.sz = i := by rw [Nat.mul_comm, Nat.mul_add_mod, Nat.mod_eq_of_lt hi]
        rw [q1, q2, hy2, getElem!_pos (enc y) i (by rw [hk]; exact hi), List.getElem?_eq_getElem (by rw [hk]; exact hi)]
      · rw [List.getElem?_take, if_neg hi, List.getElem?_eq_none (by rw [hk]; omega)]
    rw [hrow]
    exact Kd.M_step (hM y (List.mem_of_getElem? hy)) (fun k hk hlk => hfar k hlk (fun e => hk.2 (by rw [e]; rfl)))
  · show w.heap.size ≤ ((w.heap.modify g (onCells (putCells id 0 (flatK enc d.sz ys)))) ++ os).size
    simp
theorem holdsK_of {β : Type} [Inhabited β] {enc : β → List Value} {k g : Nat} {w : World} {ys : Array β} (h0 : 0 < k) (hk : ∀ y, (enc y).length = k) (hc : ∀ j (hj : j < ys.size) i, i < k → w.cell? ⟨g, j * k + i, none⟩ = (enc ys[j])[i]?) (hf : ∀ o, w.frozen? ⟨g, o, none⟩ = false) : HoldsK enc k w g 0 ys := by
  intro t ht
  rw [size_flatK] at ht
  refine ⟨?_, hf _⟩
  have hj : t / k < ys.size := Nat.div_lt_of_lt_mul (by rw [Nat.mul_comm]; exact ht)
  have hi : t % k < k := Nat.mod_lt _ h0
  have e : t / k * k + t % k = t := by rw [Nat.mul_comm]; exact Nat.div_add_mod t k
  have h := hc (t / k) hj (t % k) hi
  rw [e] at h
  rw [Nat.zero_add, h, get_flatK enc k ys t ht, getElem!_pos ys _ hj, getElem!_pos (enc ys[t / k]) _ (by rw [hk]; exact hi), List.getElem?_eq_getElem (by rw [hk]; exact hi)]
  rfl
theorem addr_add (g n : Nat) : (⟨g, 0, none⟩ : Addr).add n = ⟨g, n, none⟩ := by
  unfold Addr.add
  split
  · rename_i h; rw [h]
  · simp
instance : Inhabited Sch := ⟨zSch⟩
def encS (x : Sch) : List Value := [.string x.name, .string x.owner]
def cfS (x y : Sch) : Int := cmpS x.name y.name
set_option maxHeartbeats 1000000 in
theorem byNameS.calls (x y : Sch) (W : World) : Calls Tryz.prog 57 #[.agg #[.string x.name, .string x.owner], .agg #[.string y.name, .string y.owner]] W fun e w' => e = .returned (.int .i64 (cfS x y)) ∧ ∃ q os', w' = grow (W.drewN q) os' := by
  have hcon := fun W' => compare.calls x.name y.name W'
  unfold cfS
  generalize cmpS x.name y.name = r at hcon ⊢
  go_enter Tryz.func57, Tryz.ntmps57
  go_wp2_with (go_at_call 35; refine (hcon _).mono ?_; rintro e w' ⟨rfl, rfl⟩)
  go_ret
  exact ⟨rfl, 0, _, by rw [alloc_eq_grow, alloc_eq_grow, grow_grow]; rfl⟩
set_option maxHeartbeats 1000000 in
theorem sortSch.calls (xs : List Sch) (w : World) {base g c : Nat} {ok : Nat → Prop} (hl : xs.length ≤ 3000) (h0 : 0 < xs.length) (hR : kSch.R 76 w base ok (.slice (some ⟨g, 0, none⟩) xs.length c) xs) :
    Calls Tryz.prog 56 #[.slice (some ⟨g, 0, none⟩) xs.length c, .func (.func 57) #[] #[]] w fun e w' => e = .returned (.tuple #[]) ∧ ∃ d' : Array Sch, PermIn 0 xs.toArray.size xs.toArray d' ∧ SortedIn (ltOf cfS) 0 xs.toArray.size d' ∧ kSch.R 76 w' base ok (.slice (some ⟨g, 0, none⟩) xs.length c) d'.toList ∧ w.grownBy w' (some g) := by
  have eg : ∀ args w, (callFunc 57 args).run Tryz.prog w = .ok (.enter 57 args) w := enters_of Tryz.func57 (by kernel_rfl) rfl
  have hC := (Kd.R_reads' hR).2.2
  obtain ⟨cur, hg, _⟩ := R_block hR
  have hH : HoldsK encS 2 w g 0 xs.toArray := holdsK_of (by decide) (fun _ => rfl) (fun j hj i hi => by
    have hj' : j < xs.length := by simpa using hj
    obtain ⟨ad, e, c0, c1⟩ := schAt_ hC j hj'
    injection e with e
    subst e
    rw [addr_add] at c0 c1
    match i, hi with
    | 0, _ => simpa [encS] using c0
    | 1, _ => simpa [encS] using c1) (fun o => blk_frozen hg o)
  have hcon := AnyQ.slices_SortFunc Tryz.sortSch 2 Tryz.isAgg76 Tryz.sizeOf76 encS (fun _ => rfl) (fun x v hv => by simp [encS] at hv; rcases hv with rfl | rfl <;> rfl) cfS (swo_key (fun x : Sch => x.name)) 57 #[] g 0 c xs.toArray w eg (fun _ _ _ _ x y => byNameS.calls x y _) hH (blk_lt hg) (by simp; omega)
  rw [show xs.toArray.size = xs.length from by simp] at hcon
  refine hcon.mono ?_
  rintro e w' ⟨rfl, d', m, os, hp, hs, rfl⟩
  have hsz : d'.size = xs.length := by rw [hp.1]; simp
  obtain ⟨h1, h2⟩ := R_sorted hR encS id d' (by decide) (fun _ => rfl) hsz (fun y _ => kSch_mkM _ _ _ y) m os
  rw [List.map_id] at h1
  exact ⟨rfl, d', by simpa using hp, by simpa using hs, h1, h2⟩
end Go.Proofs.YtmmiehckgkadgaaGreat.O
