/- Own lemmas and walks (TK), without what the law does not need. Laid by a program of this session (prune.py). -/
import Derived.RangeFuncNested
import Derived.Test.YtmmiehckgkadgaaGreatPr21
import Derived.Test.YtmmiehckgkadgaaGreatPr22
namespace Go.Proofs.YtmmiehckgkadgaaGreat.O
set_option linter.unusedVariables false
set_option linter.unusedSimpArgs false
open Go.RowKit Go.Shelf Go.Proofs.YtmmiehckgkadgaaGreatW.PrintWords Go.Sort
attribute [local go_sem] Oper.semAt_some
theorem KC.refl (A : World) : KC A A := fun _ _ _ _ h => h
theorem KC.putObj {A : World} {D : Nat} {o : Obj} (o' : Obj) (h : A.heap[D]? = some o) (hc : o.isCells = false) : KC A (A.putObj D o') := fun k c t f hk => (World.putObj_heap_other (fun e => by
  subst e; rw [hk] at h; cases h; cases hc)).trans hk
theorem R_other {α : Type} {d : Kd α} {e base D : Nat} {w : World} {ok : Nat → Prop} {v : Value} {xs : List α} {o : Obj} (h : d.R e w base ok v xs) (hD : w.heap[D]? = some o) (hc : o.isCells = false) (o' : Obj) : d.R e (w.putObj D o') base ok v xs :=
  Kd.R_mono (Kd.R_step (Kd.R_bound h) (fun k hk _ => World.putObj_heap_other (fun e => by
    obtain ⟨_, _, _, q, _, cs, hq⟩ := hk
    subst e; rw [hq] at hD; cases hD; cases hc))) (fun _ h => h.1)
theorem blk_kept {W W' : World} {g : Nat} {row : Option Nat} {c : Array Value} {t : TypeId} (h : W.heap[g]? = some (.cells c t (0, 0))) (hg : W.grownBy W' row) (hr : ∀ r, row = some r → ∃ o : Obj, W.heap[r]? = some o ∧ o.isCells = false) : W'.heap[g]? = some (.cells c t (0, 0)) := by
  refine (hg.block g (blk_lt h) (fun e => ?_)).trans h
  obtain ⟨o, ho, hc⟩ := hr g e.symm
  rw [h] at ho; cases ho; cases hc
theorem own_blk {β : Type} (g : Nat) (c : β → Array Value) (t : TypeId) : Own (fun (s : β) (W : World) => W.heap[g]? = some (.cells (c s) t (0, 0))) := fun s X Y row hs hg hr => blk_kept hs hg hr
theorem Did.drop {B g gt gr D : Nat} {w W W4 : World} {ss : List Sch} {ts ts' : List Tab} {Bs : Option Addr} {ds dt n : Nat} {v1 : Value} {cr : Array Value} (o' : Obj) (hb1 : Below w.heap.size w W) (hBw : B ≤ w.heap.size) (hBg : B ≤ g) (hgr : w.heap.size ≤ gr) (hDl : w.heap.size ≤ D)
    (hG1 : W.heap[g]? = some (.cells #[.slice Bs ss.length ds, .slice (some ⟨gt, 0, none⟩) n dt] 25 (0, 0))) (hcr : 0 < cr.size) (hr1 : W.heap[gr]? = some (.cells cr 32 (0, 0)))
    (hR1 : kSch.R 76 W B (fun _ => True) (.slice Bs ss.length ds) ss) (hT1 : kTab.R 50 W B (fun _ => True) (.slice (some ⟨gt, 0, none⟩) n dt) ts)
    (hg4 : W.grownBy W4 (some gt)) (hR4 : kTab.R 50 W4 B (fun _ => True) v1 ts') (hDW : W.heap[D]? = some (.deferred (some []))) : ((W4.setCell ⟨g, 1, none⟩ v1).setCell ⟨gr, 0, none⟩ (.int .i64 0)).heap[D]? = some (.deferred (some [])) ∧ (((W4.setCell ⟨g, 1, none⟩ v1).setCell ⟨gr, 0, none⟩ (.int .i64 0)).putObj D o').cell? ⟨gr, 0, none⟩ = some (.int .i64 0) ∧ Did B w g (0, ss, ts') (.returned (.int .i64 0)) (((W4.setCell ⟨g, 1, none⟩ v1).setCell ⟨gr, 0, none⟩ (.int .i64 0)).putObj D o') := by
  have hG4 := blk_grown hG1 hg4 (Kd.R_ne hT1 hG1 (by decide))
  have hr4 := blk_grown hr1 hg4 (Kd.R_ne hT1 hr1 (by decide))
  have hS4 := Kd.R_over' hR1 (Kd.R_typed hT1) (by decide) hg4
  have hb4 : Below B w W4 := (hb1.mono hBw).grown hg4 (Nat.le_trans hBw hb1.size) (fun q hq => Kd.R_base hT1 q hq)
  have hne : g ≠ gr := fun e => by subst e; rw [hG4] at hr4; injection hr4 with h; injection h with _ h; revert h; decide
  have hD : W4.heap[D]? = some (.deferred (some [])) := (hg4.block D (Array.getElem?_eq_some_iff.1 hDW).1 (fun e => by
    injection e with e
    subst e
    obtain ⟨cs, hcs⟩ := Kd.R_typed hT1 D rfl
    rw [hDW] at hcs; cases hcs)).trans hDW
  have hDg : D ≠ g := fun e => by subst e; rw [hG4] at hD; cases hD
  have hDr : D ≠ gr := fun e => by subst e; rw [hr4] at hD; cases hD
  have hG5 := blk_set hG4 1 v1
  have hr5 : (W4.setCell ⟨g, 1, none⟩ v1).heap[gr]? = _ := (Below.heap_setCell _ _ _ _ hne.symm).trans hr4
  have hD6 : ((W4.setCell ⟨g, 1, none⟩ v1).setCell ⟨gr, 0, none⟩ (.int .i64 0)).heap[D]? = some (.deferred (some [])) := (Below.heap_setCell _ _ _ _ hDr).trans ((Below.heap_setCell _ _ _ _ hDg).trans hD)
  have hG6 := (World.putObj_heap_other (w := (W4.setCell ⟨g, 1, none⟩ v1).setCell ⟨gr, 0, none⟩ (.int .i64 0)) (o := o') hDg.symm).trans ((Below.heap_setCell _ _ _ _ hne).trans hG5)
  have hb5 := (hb4.setCell (p := ⟨g, 1, none⟩) hBg v1).setCell (p := ⟨gr, 0, none⟩) (Nat.le_trans hBw hgr) (.int .i64 0)
  have hr6 := (World.putObj_heap_other (w := (W4.setCell ⟨g, 1, none⟩ v1).setCell ⟨gr, 0, none⟩ (.int .i64 0)) (o := o') hDr.symm).trans (blk_set hr5 0 (.int .i64 0))
  refine ⟨hD6, (blk_cell hr6 0).trans (by simp [hcr]), rfl, hb5.trans (belowK_b (w := w) hBw _ D _ o' hDl hD6 rfl rfl), fun _ => ⟨_, _, hG6, R_other (Kd.R_set (Kd.R_set hS4 hG4 (by decide) 1 v1) hr5 (by decide) 0 _) hD6 rfl o', R_other (Kd.R_set (Kd.R_set hR4 hG4 (by decide) 1 v1) hr5 (by decide) 0 _) hD6 rfl o'⟩⟩
theorem Did.bad {B g : Nat} {w w' : World} {r : Res} (n : Int) (hr : r = (n, [], [])) (hn : n ≠ 0) (hb : Below w.heap.size w w') (hB : B ≤ w.heap.size) : Did B w g r (.returned (.int .i64 n)) w' := by
  subst hr
  exact ⟨rfl, hb.mono hB, fun h => absurd h hn⟩
theorem mem_comes {schema table : ByteArray} {ts : List Tab} {t : Tab} {r : Rul} : (t, r) ∈ comes schema table ts ↔ t ∈ ts ∧ r ∈ t.rules ∧ foreignTo schema table r = true := by
  unfold comes ofTab
  rw [List.mem_flatMap]
  constructor
  · rintro ⟨t', ht, h⟩
    obtain ⟨r', hr, e⟩ := List.mem_map.1 h
    injection e with e1 e2
    subst e1 e2
    exact ⟨ht, (List.mem_filter.1 hr).1, (List.mem_filter.1 hr).2⟩
  · rintro ⟨ht, hr, hf⟩
    exact ⟨t, ht, List.mem_map.2 ⟨r, List.mem_filter.2 ⟨hr, hf⟩, rfl⟩⟩
theorem drop_no {schema table : ByteArray} {ts : List Tab} {ys : List Pair} (hS : ys.map bare = comes schema table ts) (hall : ∀ x ∈ ys, isT schema table x.1.t = true) : (ts.any fun t => !isT schema table t && t.rules.any (foreignTo schema table)) = false := by
  cases h : (ts.any fun t => !isT schema table t && t.rules.any (foreignTo schema table)) with
  | false => rfl
  | true =>
    obtain ⟨t, ht, hp⟩ := List.any_eq_true.1 h
    rw [Bool.and_eq_true, Bool.not_eq_true'] at hp
    obtain ⟨r, hr, hf⟩ := List.any_eq_true.1 hp.2
    have hm := mem_comes.2 ⟨ht, hr, hf⟩
    rw [← hS] at hm
    obtain ⟨x, hx, e⟩ := List.mem_map.1 hm
    injection e with e1 e2
    have := hall x hx
    rw [e1, hp.1] at this
    cases this
theorem drop_yes {schema table : ByteArray} {ts : List Tab} {pre : List Pair} (hS : ∃ rest, comes schema table ts = pre.map bare ++ rest) (hex : ∃ x ∈ pre, isT schema table x.1.t = false) : (ts.any fun t => !isT schema table t && t.rules.any (foreignTo schema table)) = true := by
  obtain ⟨rest, hS⟩ := hS
  obtain ⟨x, hx, hp⟩ := hex
  have hm : (x.1.t, x.2.r) ∈ comes schema table ts := by rw [hS]; exact List.mem_append_left _ (List.mem_map.2 ⟨x, hx, rfl⟩)
  obtain ⟨ht, hr, hf⟩ := mem_comes.1 hm
  exact List.any_eq_true.2 ⟨_, ht, by rw [hp]; exact List.any_eq_true.2 ⟨_, hr, hf⟩⟩
set_option maxRecDepth 20000 in
set_option maxHeartbeats 4000000 in
theorem DropTable1.calls (ss : List Sch) (ts : List Tab) (schema table : ByteArray) (w0 : World) (p q : Nat) (hp : w0.heap[p]? = some (.cells #[.string schema] 9 (0, 0))) (hq : w0.heap[q]? = some (.cells #[.string table] 9 (0, 0))) (hsl : ss.length ≤ 3000) (hB : TabsB ts) (hck : checkB ss ts = true) :
    ∀ B g Bs ds Bt dt w, Below w0.heap.size w0 w → w0.heap.size ≤ B → Mine B g Bs Bt ds dt ss ts w → Calls Tryz.prog 72 (#[.pointer (some ⟨g, 0, none⟩)] ++ #[.pointer (some ⟨p, 0, none⟩), .pointer (some ⟨q, 0, none⟩)]) w (Did B w g (dropTabP ss ts schema table)) := by
  intro B g Bs ds Bt dt w hW hwB hM
  show Calls Tryz.prog 72 #[.pointer (some ⟨g, 0, none⟩), .pointer (some ⟨p, 0, none⟩), .pointer (some ⟨q, 0, none⟩)] w _
  obtain ⟨hBg, hBw, hG, hR, hS⟩ := hM
  have htl : ts.length ≤ 3000 := hB.1
  have HX := Aside0.mk (boxes1 w (.cells #[.int .i64 0] 32))
  have HP := Aside0.mk (blk_alloc (blk_below hp hW) (.cells #[.int .i64 0] 32))
  have HQ := Aside0.mk (blk_alloc (blk_below hq hW) (.cells #[.int .i64 0] 32))
  have HG := Aside0.mk (blk_alloc hG (.cells #[.int .i64 0] 32))
  have HS := Aside0.mk hS
  have HR := Aside0.mk hR
  have HBB := Aside0.mk hB
  have HBW := Aside0.mk (And.intro hBw hBg)
  have HWH := Aside0.mk (fun W' (hW' : Below w.heap.size w W') => where.calls (As := Bs) (ns := ss.length) (cs := ds) (ct := dt) ts schema table W' (Kd.C_below (Kd.R_reads' (Kd.S_R hS)).2.2 hW') (by omega))
  clear hp hq hW hwB hG hR hS hBw hBg hck hB
  rcases idx_cases (isT schema table) ts with ⟨k, hk, hi, y1, y2⟩ | ⟨hi, y1⟩
  rotate_left
  · rw [hi] at HWH
    have HE := Aside0.mk (show dropTabP ss ts schema table = (61, [], []) by unfold dropTabP; rw [hi]; rfl)
    have hd : decide ((0 : Int) ≤ -1) = false := rfl
    clear hi y1
    go_enter Tryz.func72, Tryz.ntmps72
    have c_g0 : (w.alloc (.cells #[.int .i64 0] 32)).cell? ⟨g, 0, none⟩ = some (Value.slice Bs ss.length ds) := (blk_cell HG.out 0).trans rfl
    have c_g1 : (w.alloc (.cells #[.int .i64 0] 32)).cell? ⟨g, 1, none⟩ = some (Value.slice Bt ts.length dt) := (blk_cell HG.out 1).trans rfl
    have c_p0 : (w.alloc (.cells #[.int .i64 0] 32)).cell? ⟨p, 0, none⟩ = some (Value.string schema) := (blk_cell HP.out 0).trans rfl
    have c_q0 : (w.alloc (.cells #[.int .i64 0] 32)).cell? ⟨q, 0, none⟩ = some (Value.string table) := (blk_cell HQ.out 0).trans rfl
    go_wp2
    go_region_held3 (fun w' => w'.cell? ⟨g, 0, none⟩ = some (Value.slice Bs ss.length ds) ∧ w'.cell? ⟨g, 1, none⟩ = some (Value.slice Bt ts.length dt) ∧ w'.cell? ⟨p, 0, none⟩ = some (Value.string schema) ∧ w'.cell? ⟨q, 0, none⟩ = some (Value.string table) ∧ Below (w.alloc (.cells #[.int .i64 0] 32)).heap.size (w.alloc (.cells #[.int .i64 0] 32)) w')
      (first | exact kp4 (by assumption) (by assumption) | exact ⟨c_g0, c_g1, c_p0, c_q0, below_drew (Below.refl _ _)⟩)
      (first | (go_at_call 73; refine (HWH.out _ ?_).mono ?_; exact below_drew HX.out.1; rintro e k1 ⟨rfl, hbx⟩))
    rename_i hH
    have HB2 := Aside0.mk hH.2.2.2.2
    have hR1 := blk_below HX.out.2 HB2.out
    have cr : k1.cell? ⟨w.heap.size, 0, none⟩ = some (.int .i64 0) := (blk_cell hR1 0).trans rfl
    have fr := blk_frozen hR1 0
    have HF := Aside0.mk (Did.bad (g := g) 61 HE.out (by decide) (below_set (below_step HX.out.1 HB2.out) (Nat.le_refl _) (j := 0) (v := .int .i64 61)) HBW.out.1)
    have hc6 := (blk_cell (blk_set hR1 0 (.int .i64 61)) 0)
    clear c_g0 c_g1 c_p0 c_q0 hbx hH hR1
    go_wp2
    refine bodyPost_ret (v := .int .i64 61) (by simp [results, Tryz.results72, go_sem, hc6]) rfl ?_
    exact HF.out
  rw [hi] at HWH
  have hd : decide ((0 : Int) ≤ (k : Int)) = true := decide_eq_true (by omega)
  have HI := Aside0.mk hi
  clear hi y1 y2
  refine (callsIn_wide (n := 3)).1 ?_
  refine callsIn_of_wp_marks Tryz.func72 rfl trivial ?_ rfl
  simp only [Tryz.ntmps72, List.size_toArray, List.length_cons, List.length_nil, Nat.reduceAdd, Nat.reduceSub, Array.replicate_succ, Array.replicate_zero, List.push_toArray, List.append_toArray, List.nil_append, List.cons_append]
  refine wpIn_wide.2 ?_
  have c_g0 : (w.alloc (.cells #[.int .i64 0] 32)).cell? ⟨g, 0, none⟩ = some (Value.slice Bs ss.length ds) := (blk_cell HG.out 0).trans rfl
  have c_g1 : (w.alloc (.cells #[.int .i64 0] 32)).cell? ⟨g, 1, none⟩ = some (Value.slice Bt ts.length dt) := (blk_cell HG.out 1).trans rfl
  have c_p0 : (w.alloc (.cells #[.int .i64 0] 32)).cell? ⟨p, 0, none⟩ = some (Value.string schema) := (blk_cell HP.out 0).trans rfl
  have c_q0 : (w.alloc (.cells #[.int .i64 0] 32)).cell? ⟨q, 0, none⟩ = some (Value.string table) := (blk_cell HQ.out 0).trans rfl
  go_wp2
  go_region_held3 (fun w' => w'.cell? ⟨g, 0, none⟩ = some (Value.slice Bs ss.length ds) ∧ w'.cell? ⟨g, 1, none⟩ = some (Value.slice Bt ts.length dt) ∧ w'.cell? ⟨p, 0, none⟩ = some (Value.string schema) ∧ w'.cell? ⟨q, 0, none⟩ = some (Value.string table) ∧ Below (w.alloc (.cells #[.int .i64 0] 32)).heap.size (w.alloc (.cells #[.int .i64 0] 32)) w')
    (first | exact kp4 (by assumption) (by assumption) | exact ⟨c_g0, c_g1, c_p0, c_q0, below_drew (Below.refl _ _)⟩)
    (first | (go_at_call 73; refine (HWH.out _ ?_).mono ?_; exact below_drew HX.out.1; rintro e k1 ⟨rfl, hbx⟩))
  rename_i hH
  have hb2 := hH.2.2.2.2
  have HB2 := Aside0.mk hb2
  clear c_g0 c_g1 c_p0 c_q0 hbx
  obtain ⟨c_g0, c_g1, c_p0, c_q0, _⟩ := hH
  clear hb2
  go_wp2
  go_region_held3 (fun w' => w'.cell? ⟨g, 0, none⟩ = some (Value.slice Bs ss.length ds) ∧ w'.cell? ⟨g, 1, none⟩ = some (Value.slice Bt ts.length dt) ∧ w'.cell? ⟨p, 0, none⟩ = some (Value.string schema) ∧ w'.cell? ⟨q, 0, none⟩ = some (Value.string table) ∧ (w' = k1.drew ∨ w' = (((k1.drew.alloc (.cells #[.slice Bs ss.length ds, .slice Bt ts.length dt] 25)).alloc (.cells #[.string schema] 9)).alloc (.cells #[.string table] 9))))
    (first | exact ⟨pw_cell_below (boxes3c k1.drew _ _ _) c_g0, pw_cell_below (boxes3c k1.drew _ _ _) c_g1, pw_cell_below (boxes3c k1.drew _ _ _) c_p0, pw_cell_below (boxes3c k1.drew _ _ _) c_q0, .inr rfl⟩ | exact ⟨c_g0, c_g1, c_p0, c_q0, .inl rfl⟩ | assumption)
    (first | (go_at_call 43; refine (foreign.calls (ct := dt) schema table _).mono ?_; rintro e k2 ⟨rfl, rfl⟩))
  go_wp2
  rename_i hHeld
  clear hHeld
  have hB3 := boxes3 k1 (.cells #[.slice Bs ss.length ds, .slice Bt ts.length dt] 25) (.cells #[.string schema] 9) (.cells #[.string table] 9)
  generalize hW0 : (((k1.alloc (.cells #[.slice Bs ss.length ds, .slice Bt ts.length dt] 25)).alloc (.cells #[.string schema] 9)).alloc (.cells #[.string table] 9)).drew = W0
  have hb3 : Below k1.heap.size k1 W0 := by rw [← hW0]; exact below_drew hB3.1
  have ho : W0.heap[k1.heap.size]? = some (.cells #[.slice Bs ss.length ds, .slice Bt ts.length dt] 25 (0, 0)) := by rw [← hW0]; exact hB3.2.1
  have hs : W0.heap[k1.heap.size + 1]? = some (.cells #[.string schema] 9 (0, 0)) := by rw [← hW0]; exact hB3.2.2.1
  have ht : W0.heap[k1.heap.size + 1 + 1]? = some (.cells #[.string table] 9 (0, 0)) := by rw [← hW0]; exact hB3.2.2.2
  clear hB3 hW0
  have hb1 : Below w.heap.size w k1 := below_step HX.out.1 HB2.out
  have hbW := below_step hb1 hb3
  have hr0 := blk_below (blk_below HX.out.2 HB2.out) hb3
  have hG0 := blk_below (blk_below HG.out HB2.out) hb3
  have hP0 := blk_below (blk_below HP.out HB2.out) hb3
  have hQ0 := blk_below (blk_below HQ.out HB2.out) hb3
  have hT0 := Kd.C_below (Kd.R_reads' (Kd.S_R HS.out)).2.2 hbW
  have hseq := foreign1_stops (At := Bt) (ct := dt) Fence.wide 2 trivial rfl (by omega) ts schema table W0 k1.heap.size (k1.heap.size + 1) (k1.heap.size + 1 + 1) ((blk_cell ho 1).trans rfl) ((blk_cell hs 0).trans rfl) ((blk_cell ht 0).trans rfl) hT0 HBB.out
  have HO := Aside0.mk (And.intro hr0 (And.intro hG0 (And.intro hP0 (And.intro hQ0 hbW))))
  clear hr0 hG0 hP0 hQ0 hT0 hb1 hb3 ho hs ht HX HB2 HWH c_g0 c_g1 c_p0 c_q0 HP HQ HG
  refine wpIn_wide.1 (wpIn_rangeFunc_ownH (n := 3) rfl (by omega) (gf := 93) (lb := #[.pointer (some ⟨k1.heap.size, 0, none⟩), .pointer (some ⟨k1.heap.size + 1, 0, none⟩), .pointer (some ⟨k1.heap.size + 1 + 1, 0, none⟩)]) rfl trivial (enters_of Tryz.func93 (by kernel_rfl) rfl)
    hseq (fun h k => ⟨h.1.trans k.1, h.2.trans k.2⟩) (fun W l o o' hl h hc hw => ⟨belowK_b (Nat.le_refl _) W l o o' hl h hc hw, KC.putObj o' h hc⟩) (Below.refl _ _) (fun _ => rfl)
    (fun pre W => (∀ x ∈ pre, isT schema table x.1.t = true) ∧ Below W0.heap.size W0 W)
    (fun c pre W => (c = .ret ∧ ∃ x ∈ pre, isT schema table x.1.t = false) ∧ (W.heap[w.heap.size]? = some (.cells #[.int .i64 62] 32 (0, 0)) ∧ Below w.heap.size w W))
    (OwnFrom.and (ownFrom_pure _ _) (ownFrom_below (Nat.le_refl _) (Nat.le_refl _)))
    (fun c => OwnFrom.and (ownFrom_pure _ _) (OwnFrom.and (Own.from (own_blk _ (fun _ => #[.int .i64 62]) _) _) (ownFrom_below (Nat.le_refl _) HO.out.2.2.2.2.size)))
    ⟨by simp, Below.refl _ _⟩
    (fun x a' W => ∃ Bx, W0.heap.size ≤ Bx ∧ W.heap[Bx]? = some (.cells (encT x.1).toArray 50 (0, 0)) ∧ a' = { tmps := #[.pointer (some ⟨g, 0, none⟩), .pointer (some ⟨p, 0, none⟩), .pointer (some ⟨q, 0, none⟩), undef, .pointer (some ⟨w.heap.size, 0, none⟩), .int .i64 (k : Int), .bool true, .pointer (some ⟨Bx, 0, none⟩), .tuple #[.int .i64 (k : Int), .bool true],
      .pointer (some ⟨g, 0, none⟩), .pointer (some ⟨g, 0, none⟩), .agg #[.slice Bs ss.length ds, .slice Bt ts.length dt], .string schema, .string table, .tuple #[.int .i64 (k : Int), .bool true], .int .i64 (k : Int), .bool true, .bool true, .bool false, .pointer (some ⟨g, 0, none⟩), .pointer (some ⟨g, 0, none⟩), .agg #[.slice Bs ss.length ds, .slice Bt ts.length dt], .string schema, .string table,
      .func (.func 93) #[] #[.pointer (some ⟨k1.heap.size, 0, none⟩), .pointer (some ⟨k1.heap.size + 1, 0, none⟩), .pointer (some ⟨k1.heap.size + 1 + 1, 0, none⟩)], .agg (encT x.1).toArray, .agg (encR x.2).toArray, undef, undef, undef, undef, undef, undef, undef, undef, undef, undef, undef, undef, undef, undef, undef, undef, undef, undef, undef, undef, undef], defers := [] })
    (fun x a' _ X Y row hs hg hr => by obtain ⟨Bx, e1, e2, e3⟩ := hs; exact ⟨Bx, e1, blk_kept e2 hg (fun r e => (hr r e).2), e3⟩)
    ?assign ?body ?done ?stop)
  case assign =>
    rintro l pre x W K ⟨hall, hB1⟩ hK
    obtain ⟨⟨t, A3, c3, A4, c4⟩, ⟨r, A2, c2⟩⟩ := x
    dsimp only [encs, encT, encR] at hK ⊢
    gi_wp2
    exact hK _ _ ((KeepsOthers.alloc _ _).from _) ⟨(Below.refl _ W).alloc hB1.size _, KC.alloc _ _⟩ ⟨hall, hB1.alloc hB1.size _⟩ ⟨W.heap.size, hB1.size, blk_new _ _, rfl⟩
  case body =>
    rintro l pre x a' W hl hr ⟨hall, hB1⟩ ⟨Bx, hBx, hbX, rfl⟩ hlt
    obtain ⟨⟨t, A3, c3, A4, c4⟩, ⟨r, A2, c2⟩⟩ := x
    dsimp only [encs, encT, encR] at hbX ⊢
    have b0 : W.cell? ⟨Bx, 0, none⟩ = some (.string t.schema) := (blk_cell hbX 0).trans rfl
    have b1 : W.cell? ⟨Bx, 1, none⟩ = some (.string t.name) := (blk_cell hbX 1).trans rfl
    have hP1 := blk_below HO.out.2.2.1 hB1
    have hQ1 := blk_below HO.out.2.2.2.1 hB1
    have hR1 := blk_below HO.out.1 hB1
    have cp : W.cell? ⟨p, 0, none⟩ = some (.string schema) := (blk_cell hP1 0).trans rfl
    have cq : W.cell? ⟨q, 0, none⟩ = some (.string table) := (blk_cell hQ1 0).trans rfl
    have cr : W.cell? ⟨w.heap.size, 0, none⟩ = some (.int .i64 0) := (blk_cell hR1 0).trans rfl
    have fr := blk_frozen hR1 0
    have hbw := below_step HO.out.2.2.2.2 hB1
    have HIX := Aside0.mk (And.intro (blk_set hR1 0 (.int .i64 62)) (below_set hbw (Nat.le_refl _) (j := 0) (v := .int .i64 62)))
    have HI2 := Aside0.mk (And.intro hall hB1)
    clear hP1 hQ1 hR1 hbw hall hB1 hl hr hbX
    cases p1 : (t.schema.toList == schema.toList) with
    | false =>
      gi_wp2
      exact ⟨(KeepsOthers.setCell _ _ _).from _, ⟨rfl, (⟨⟨t, A3, c3, A4, c4⟩, ⟨r, A2, c2⟩⟩ : Pair), List.mem_append_right _ List.mem_cons_self, by show isT schema table t = false; unfold isT; rw [p1]; rfl⟩, HIX.out⟩
    | true =>
      cases p2 : (t.name.toList == table.toList) with
      | false =>
        gi_wp2
        exact ⟨(KeepsOthers.setCell _ _ _).from _, ⟨rfl, (⟨⟨t, A3, c3, A4, c4⟩, ⟨r, A2, c2⟩⟩ : Pair), List.mem_append_right _ List.mem_cons_self, by show isT schema table t = false; unfold isT; rw [p1, p2]; rfl⟩, HIX.out⟩
      | true =>
        gi_wp2
        refine ⟨KeepsFrom.refl _ _, ⟨Below.refl _ _, KC.refl _⟩, fun x hx => ?_, HI2.out.2⟩
        rcases List.mem_append.1 hx with hx | hx
        · exact HI2.out.1 x hx
        · obtain rfl := List.mem_singleton.1 hx
          unfold isT; rw [p1, p2]; rfl
  case done =>
    rintro D ys W hD hS ⟨hall, hB1⟩ hK
    obtain ⟨gt, rfl⟩ := S_addr HS.out (by omega)
    have hG1 := blk_below HO.out.2.1 hB1
    have hR1 := blk_below HO.out.1 hB1
    have hbw := below_step HO.out.2.2.2.2 hB1
    have hT1 := Kd.R_below (Kd.S_R HS.out) hbw
    have hS1 := Kd.R_below HR.out hbw
    have HE := Aside0.mk (show dropTabP ss ts schema table = (0, ss, ts.eraseIdx k) by unfold dropTabP; rw [HI.out, if_pos (by omega), drop_no hS hall, if_neg (by decide), Int.toNat_natCast])
    have HDL := Aside0.mk (deleteTab.calls ts W B gt dt k (fun _ => True) hk htl hT1)
    have HDD := Aside0.mk (And.intro hK (Nat.le_trans HO.out.2.2.2.2.size hD))
    have g0 : W.cell? ⟨g, 0, none⟩ = some (.slice Bs ss.length ds) := (blk_cell hG1 0).trans rfl
    have g1 : W.cell? ⟨g, 1, none⟩ = some (.slice (some ⟨gt, 0, none⟩) ts.length dt) := (blk_cell hG1 1).trans rfl
    have HC := Aside0.mk (And.intro hG1 (And.intro hR1 (And.intro hbw (And.intro hT1 hS1))))
    clear hG1 hR1 hbw hT1 hS1 hK hB1 hD hS hall hseq hbW HO HS HR
    go_wp2_with (first | (go_at_call 74; refine HDL.out.mono ?_; rintro e w4 ⟨rfl, hg4, hR4⟩; have HX4 := Aside0.mk (And.intro hg4 hR4); have y1 : w4.cell? ⟨g, 1, none⟩ = some (.slice (some ⟨gt, 0, none⟩) ts.length dt) := (blk_cell (blk_grown HC.out.1 hg4 (Kd.R_ne HC.out.2.2.2.1 HC.out.1 (by decide))) 1).trans rfl; have y2 := blk_frozen (blk_grown HC.out.1 hg4 (Kd.R_ne HC.out.2.2.2.1 HC.out.1 (by decide))) 1; have z1 : w4.cell? ⟨w.heap.size, 0, none⟩ = some (.int .i64 0) := (blk_cell (blk_grown HC.out.2.1 hg4 (Kd.R_ne HC.out.2.2.2.1 HC.out.2.1 (by decide))) 0).trans rfl; have z2 := blk_frozen (blk_grown HC.out.2.1 hg4 (Kd.R_ne HC.out.2.2.2.1 HC.out.2.1 (by decide))) 0; clear hg4 hR4))
    have HF := Did.drop (o' := .deferred none) HC.out.2.2.1 HBW.out.1 HBW.out.2 (Nat.le_refl _) HDD.out.2 HC.out.1 (by decide) HC.out.2.1 HC.out.2.2.2.2 HC.out.2.2.2.1 HX4.out.1 HX4.out.2 HDD.out.1
    refine ⟨by simp, .inl ⟨_, _, rfl, run_takeDeferred HF.1, ?_⟩⟩
    refine ⟨.int .i64 0, ?_, by rw [HE.out]; exact HF.2.2⟩
    have hc6 := HF.2.1
    simp [results, Tryz.f72, go_sem, hc6]
  case stop =>
    rintro D c pre W hD hS ⟨⟨rfl, hex⟩, hR1, hbw⟩ hK
    have HE := Aside0.mk (show dropTabP ss ts schema table = (62, [], []) by unfold dropTabP; rw [HI.out, if_pos (by omega), drop_yes hS hex, if_pos rfl])
    have cr : W.cell? ⟨w.heap.size, 0, none⟩ = some (.int .i64 62) := (blk_cell hR1 0).trans rfl
    have HF := Aside0.mk (Did.bad (g := g) 62 HE.out (by decide) (hbw.trans (belowK_b (w := w) (Nat.le_refl _) W D _ (.deferred none) (Nat.le_trans HO.out.2.2.2.2.size hD) hK rfl rfl)) HBW.out.1)
    clear hS hex hbw hR1 hseq HO HS HR hbW
    gi_wp2
    refine ⟨by simp, .inl ⟨_, _, rfl, run_takeDeferred hK, ?_⟩⟩
    have hc6 : (W.putObj D (.deferred none)).cell? ⟨w.heap.size, 0, none⟩ = some (.int .i64 62) := cell_kept cr (grownBy_putObj' _ D (.deferred none)) (fun r e => by cases e; exact ⟨_, hK, rfl⟩)
    refine ⟨.int .i64 62, ?_, HF.out⟩
    simp [results, Tryz.f72, go_sem, hc6]
end Go.Proofs.YtmmiehckgkadgaaGreat.O
