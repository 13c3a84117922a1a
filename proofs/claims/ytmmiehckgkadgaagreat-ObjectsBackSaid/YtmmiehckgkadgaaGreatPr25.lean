/- Own lemmas and walks (UE), without what the law does not need. Laid by a program of this session (prune.py). -/
import Derived.Shelf.RegionOpen
import Derived.OrdersHeld
import Derived.Test.YtmmiehckgkadgaaGreatPr16
import Derived.Test.YtmmiehckgkadgaaGreatPr23
import Derived.Test.YtmmiehckgkadgaaGreatPr24
namespace Go.Proofs.YtmmiehckgkadgaaGreat.O
set_option linter.unusedVariables false
set_option linter.unusedSimpArgs false
open Go.RowKit Go.Shelf Go.Proofs.YtmmiehckgkadgaaGreatW.PrintWords Go.Sort
attribute [local go_sem] Oper.semAt_some
def sameN (name : ByteArray) (x : Rul) : Bool := x.name.toList == name.toList
def needsR (schema table name : ByteArray) (r : Rul) : Bool := foreignTo schema table r && (r.key.toList == name.toList)
def dropRulM (ts : List Tab) (schema table name : ByteArray) (t : Tab) : Int × Tab := if 0 ≤ idx (sameN name) t.rules then (if ((t.rules.getD (idx (sameN name) t.rules).toNat zRul).kind == 2 && ts.any (fun u => u.rules.any (needsR schema table name))) = true then (62, t) else (0, { t with rules := t.rules.eraseIdx (idx (sameN name) t.rules).toNat })) else (61, t)
theorem need_no {schema table name : ByteArray} {ts : List Tab} {ys : List Pair} (hS : ys.map bare = comes schema table ts) (hall : ∀ x ∈ ys, (x.2.r.key.toList == name.toList) = false) : ts.any (fun u => u.rules.any (needsR schema table name)) = false := by
  cases h : ts.any (fun u => u.rules.any (needsR schema table name)) with
  | false => rfl
  | true =>
    obtain ⟨t, ht, hp⟩ := List.any_eq_true.1 h
    obtain ⟨r, hr, hf⟩ := List.any_eq_true.1 hp
    unfold needsR at hf
    rw [Bool.and_eq_true] at hf
    have hm := mem_comes.2 ⟨ht, hr, hf.1⟩
    rw [← hS] at hm
    obtain ⟨x, hx, e⟩ := List.mem_map.1 hm
    injection e with e1 e2
    have := hall x hx
    rw [e2, hf.2] at this
    cases this
theorem need_yes {schema table name : ByteArray} {ts : List Tab} {pre : List Pair} (hS : ∃ rest, comes schema table ts = pre.map bare ++ rest) (hex : ∃ x ∈ pre, (x.2.r.key.toList == name.toList) = true) : ts.any (fun u => u.rules.any (needsR schema table name)) = true := by
  obtain ⟨rest, hS⟩ := hS
  obtain ⟨x, hx, hp⟩ := hex
  have hm : (x.1.t, x.2.r) ∈ comes schema table ts := by rw [hS]; exact List.mem_append_left _ (List.mem_map.2 ⟨x, hx, rfl⟩)
  obtain ⟨ht, hr, hf⟩ := mem_comes.1 hm
  exact List.any_eq_true.2 ⟨_, ht, List.any_eq_true.2 ⟨_, hr, by unfold needsR; rw [hf, hp]; rfl⟩⟩
theorem S_other {α : Type} {d : Kd α} {e base D : Nat} {w : World} {ok : Nat → Prop} {v : Value} {xs : List α} {o : Obj} (h : Kd.S d e w base ok v xs) (hD : w.heap[D]? = some o) (hc : o.isCells = false) (o' : Obj) : Kd.S d e (w.putObj D o') base ok v xs :=
  Kd.S_mono (Kd.S_step (Kd.S_bound h) (fun k hk _ => World.putObj_heap_other (fun e => by
    obtain ⟨_, _, _, q, _, cs, hq⟩ := hk
    subst e; rw [hq] at hD; cases hD; cases hc))) (fun _ h => h.1)
theorem rowsIn_of {n : Nat} {P : Program} {row : String} {args : Array Value} {w : World} {R : Value → World → Prop} (h : Rows P row args w R) : RowsIn Fence.wide n P row args w R := fun c cs _ => let ⟨v, w', r, s⟩ := h c cs; ⟨v, w', r, stepsIn_wide.2 s⟩
theorem opIn_round {P : Program} {l n : Nat} {o : Oper} {a : Act} {w : World} {K : Act → World → Prop} {Q : Exit → Act → World → Prop} (hd : ∀ c, o.op ≠ .defer c) (h : o.wp P a w K Q) : o.wpIn (Fence.wide.inRound l) n P a w K Q := by
  refine ⟨fun _ _ => trivial, ?_⟩
  rw [show (Fence.wide.inRound l).round = some l from rfl, Oper.semAt_some l a.eval o hd]
  unfold Oper.wp at h
  generalize (execOp a.eval o).run P w = r at h ⊢
  cases r with
  | ok x w' =>
    cases x with
    | value v => exact h
    | skip => exact h
    | defer d => exact h
    | enter f args => exact ⟨(fun hx => by cases hx), CallsIn.inRound l (callsIn_wide.2 h)⟩
    | row row args => exact ⟨(fun hx => by cases hx), (rowsIn_of (n := n - 1) h : RowsIn (Fence.wide) _ _ _ _ _ _)⟩
    | _ => exact h.elim
  | halt x w' => cases x <;> exact h
theorem anyIn_round {P : Program} {l n : Nat} {ops : Array Oper} {Q : Exit → Act → World → Prop} {S : World → Prop} (hd : ∀ (i : Nat) (o : Oper), ops[i]? = some o → ∀ c, o.op ≠ .defer c) (hL : ¬ LetsOut Q) : ∀ (fuel : Nat) (listed : Array Bool) (a : Act) (w : World), wpAnyH P .any ops Q S fuel listed a w → wpAnyIn (Fence.wide.inRound l) n P .any ops Q fuel listed a w
  | 0, _, _, _, h => h
  | fuel + 1, _, _, _, h => ⟨h.1, fun i hi => by
      have hh := h.2 i hi
      unfold wpOp at hh
      unfold wpOpIn
      cases ho : ops[i]? with
      | none => rw [ho] at hh; exact anyIn_round hd hL fuel _ _ _ hh.2
      | some o =>
        rw [ho] at hh
        dsimp only at hh ⊢
        split
        · rename_i hw
          rw [if_pos hw] at hh
          rcases hh with hh | hh
          · exact Oper.wpIn_mono (fun a w h => anyIn_round hd hL fuel _ _ _ h.2) (opIn_round (hd i o ho) hh)
          · exact absurd hh.2 hL
        · rename_i hw
          rw [if_neg hw] at hh
          exact ⟨fun _ _ => trivial, anyIn_round hd hL fuel _ _ _ hh.2⟩⟩
def noDefer (o : Oper) : Bool := match o.op with | .defer _ => false | _ => true
theorem wpIn_region_held_round {P : Program} {l n id : Nat} {ops : Array Oper} {Q : Exit → Act → World → Prop} (S : World → Prop) {a : Act} {w : World} (hm : P.follows .mixedOrders = true) (hd : ops.all noDefer = true) (hS : S w.drew)
    (h : S w.drew → wpAnyH P .any ops (fun e a' w' => e = .normal ∧ Q .normal a' w') S ops.size (Array.replicate ops.size false) a w.drew) : (Code.region id ops true).wpIn (Fence.wide.inRound l) n P Q a w := by
  refine wpIn_mono (wpIn_region_any hm (anyIn_round (fun i o ho c e => ?_) (fun hL => ?_) _ _ _ _ (h hS))) (fun e a' w' hq => by obtain ⟨rfl, hq⟩ := hq; exact hq)
  · have := Array.all_eq_true.1 hd i (Array.getElem?_eq_some_iff.1 ho).1
    rw [(Array.getElem?_eq_some_iff.1 ho).2] at this
    unfold noDefer at this
    rw [e] at this
    cases this
  · obtain ⟨a', w', h', _⟩ := hL
    cases h'
theorem wp_region_held_calm {P : Program} {id : Nat} {ops : Array Oper} {Q : Exit → Act → World → Prop} (S : World → Prop) {a : Act} {w : World} (hm : P.follows .mixedOrders = true) (hS : S w.drew)
    (h : S w.drew → wpAnyH P .any ops (fun e a' w' => e = .normal ∧ Q .normal a' w') S ops.size (Array.replicate ops.size false) a w.drew) : (Code.region id ops true).wp P Q a w :=
  wp_mono (wp_region_held_drew hm hS h) (fun e a' w' hq => by obtain ⟨rfl, hq⟩ := hq; exact hq)
theorem kqs3 {w0 w : World} {v0 v1 v2 v : Value} {a0 a1 a2 : Addr} {b : Nat} (h : w.cell? a0 = some v0 ∧ w.cell? a1 = some v1 ∧ w.cell? a2 = some v2 ∧ Below w0.heap.size w0 w) (l0 : a0.block < w0.heap.size) (l1 : a1.block < w0.heap.size) (l2 : a2.block < w0.heap.size) (hb : w0.heap.size ≤ b) : (w.setCell ⟨b, 0, none⟩ v).cell? a0 = some v0 ∧ (w.setCell ⟨b, 0, none⟩ v).cell? a1 = some v1 ∧ (w.setCell ⟨b, 0, none⟩ v).cell? a2 = some v2 ∧ Below w0.heap.size w0 (w.setCell ⟨b, 0, none⟩ v) :=
  ⟨(World.cell?_setCell_far _ _ _ _ (fun e => by have e' : b = a0.block := e; omega)).trans h.1, (World.cell?_setCell_far _ _ _ _ (fun e => by have e' : b = a1.block := e; omega)).trans h.2.1, (World.cell?_setCell_far _ _ _ _ (fun e => by have e' : b = a2.block := e; omega)).trans h.2.2.1, below_set h.2.2.2 hb⟩
theorem InDid.drop {B g gr D k dt ds c4 n : Nat} {W W1 W4 : World} {ss : List Sch} {ts : List Tab} {t : Tab} {Bs A4 : Option Addr} {v1 : Value} {oki : Nat → Prop} {xs : List Rul} {cr : Array Value} (o' : Obj) (hb1 : Below W.heap.size W W1) (hBW : B ≤ W.heap.size) (hgB : B ≤ g) (hgr : W.heap.size ≤ gr) (hDl : W.heap.size ≤ D)
    (hR : kSch.R 76 W B (fun _ => True) (.slice Bs ss.length ds) ss) (h4 : kRul.R 29 W1 B oki (.slice A4 n c4) xs) (hg : W1.grownBy W4 (Value.slice A4 n c4).ownBlock) (hgc : ∃ cells, W4.heap[g]? = some (.cells cells 50 (0, 0)))
    (hS : Kd.S kTab 50 (W4.setCell ⟨g, k * 5 + 4, none⟩ v1) B (fun _ => True) (.slice (some ⟨g, 0, none⟩) ts.length dt) (ts.set k t)) (hcr : 0 < cr.size) (hr1 : W1.heap[gr]? = some (.cells cr 32 (0, 0))) (hDW : W1.heap[D]? = some (.deferred (some []))) :
    ((W4.setCell ⟨g, k * 5 + 4, none⟩ v1).setCell ⟨gr, 0, none⟩ (.int .i64 0)).heap[D]? = some (.deferred (some [])) ∧ (((W4.setCell ⟨g, k * 5 + 4, none⟩ v1).setCell ⟨gr, 0, none⟩ (.int .i64 0)).putObj D o').cell? ⟨gr, 0, none⟩ = some (.int .i64 0) ∧
    InDid B W ss ts k Bs ds g dt (0, t) (.returned (.int .i64 0)) (((W4.setCell ⟨g, k * 5 + 4, none⟩ v1).setCell ⟨gr, 0, none⟩ (.int .i64 0)).putObj D o') := by
  obtain ⟨cells, hgc⟩ := hgc
  have hr4 := blk_grown hr1 hg (Kd.R_ne h4 hr1 (by decide))
  have hD4 : W4.heap[D]? = some (.deferred (some [])) := (hg.block D (Array.getElem?_eq_some_iff.1 hDW).1 (fun e => by
    obtain ⟨cs, hcs⟩ := Kd.R_typed h4 D e.symm
    rw [hDW] at hcs; cases hcs)).trans hDW
  have hDg : D ≠ g := fun e => by subst e; rw [hgc] at hD4; cases hD4
  have hDr : D ≠ gr := fun e => by subst e; rw [hr4] at hD4; cases hD4
  have hgne : gr ≠ g := blk_ne hr4 hgc (by decide)
  have hb4 : Below B W W4 := (hb1.mono hBW).grown hg (Nat.le_trans hBW hb1.size) (fun q hq => Kd.R_base h4 q hq)
  have hr5 : (W4.setCell ⟨g, k * 5 + 4, none⟩ v1).heap[gr]? = _ := (Below.heap_setCell _ _ _ _ hgne).trans hr4
  have hr6 := blk_set hr5 0 (.int .i64 0)
  have hD6 : ((W4.setCell ⟨g, k * 5 + 4, none⟩ v1).setCell ⟨gr, 0, none⟩ (.int .i64 0)).heap[D]? = some (.deferred (some [])) := (Below.heap_setCell _ _ _ _ hDr).trans ((Below.heap_setCell _ _ _ _ hDg).trans hD4)
  have hr7 := (World.putObj_heap_other (w := (W4.setCell ⟨g, k * 5 + 4, none⟩ v1).setCell ⟨gr, 0, none⟩ (.int .i64 0)) (o := o') hDr.symm).trans hr6
  have hb5 := (hb4.setCell (p := ⟨g, k * 5 + 4, none⟩) hgB v1).setCell (p := ⟨gr, 0, none⟩) (Nat.le_trans hBW hgr) (.int .i64 0)
  have hR4 := Kd.R_over' (Kd.R_below hR hb1) (Kd.R_typed h4) (by decide) hg
  refine ⟨hD6, (blk_cell hr7 0).trans (by simp [hcr]), rfl, hb5.trans (belowK_b (w := W) hBW _ D _ o' hDl hD6 rfl rfl), fun q cs hq => ?_, fun _ => ⟨R_other (Kd.R_set (Kd.R_set hR4 hgc (by decide) _ v1) hr5 (by decide) 0 _) hD6 rfl o', S_other (Kd.S_set hS hr5 (by decide) 0 _) hD6 rfl o'⟩⟩
  have q1 := blk_below hq hb1
  have q4 := blk_grown q1 hg (Kd.R_ne h4 q1 (by decide))
  have q5 : (W4.setCell ⟨g, k * 5 + 4, none⟩ v1).heap[q]? = _ := blk_far (p := ⟨g, k * 5 + 4, none⟩) q4 (blk_ne q4 hgc (by decide)) _
  have q6 : ((W4.setCell ⟨g, k * 5 + 4, none⟩ v1).setCell ⟨gr, 0, none⟩ (.int .i64 0)).heap[q]? = _ := blk_far (p := ⟨gr, 0, none⟩) q5 (blk_ne q5 hr5 (by decide)) _
  exact (World.putObj_heap_other (fun e => by subst e; rw [q4] at hD4; cases hD4)).trans q6
set_option maxRecDepth 20000 in
set_option maxHeartbeats 8000000 in
theorem DropRule1.calls (ss : List Sch) (ts : List Tab) (schema table name : ByteArray) (w : World) (p q u : Nat) (hp : w.heap[p]? = some (.cells #[.string name] 9 (0, 0))) (hq : w.heap[q]? = some (.cells #[.string schema] 9 (0, 0))) (hu : w.heap[u]? = some (.cells #[.string table] 9 (0, 0))) (hB : TabsB ts) :
    Inner 42 #[.pointer (some ⟨p, 0, none⟩), .pointer (some ⟨q, 0, none⟩), .pointer (some ⟨u, 0, none⟩)] w ss ts (dropRulM ts schema table name) := by
  intro k hk B W Bs ds g dt hA
  show Calls Tryz.prog 42 #[.agg #[.slice Bs ss.length ds, .slice (some ⟨g, 0, none⟩) ts.length dt], .pointer (some ⟨g, k * 5, none⟩), .pointer (some ⟨p, 0, none⟩), .pointer (some ⟨q, 0, none⟩), .pointer (some ⟨u, 0, none⟩)] W _
  obtain ⟨hW, hwB, hBW, hR, hS⟩ := hA
  have htl : ts.length ≤ 3000 := hB.1
  have hlr : ts[k].rules.length ≤ 3000 := (hB.2 _ (List.getElem_mem hk)).2.1
  have H3 := Aside0.mk (boxes3 W (.cells #[.slice Bs ss.length ds, .slice (some ⟨g, 0, none⟩) ts.length dt] 25) (.cells #[.pointer (some ⟨g, k * 5, none⟩)] 56) (.cells #[.int .i64 0] 32))
  have HPQ := Aside0.mk (And.intro (blk_below (blk_below hp hW) H3.out.1) (And.intro (blk_below (blk_below hq hW) H3.out.1) (blk_below (blk_below hu hW) H3.out.1)))
  have HBW := Aside0.mk (And.intro hBW (show B ≤ g from Kd.S_base hS g rfl))
  have HR := Aside0.mk hR
  have HS := Aside0.mk hS
  have HBB := Aside0.mk hB
  obtain ⟨oki0, A4, c4, e4, _, h4, _, _⟩ := S_rules hS k hk
  have HC := Aside0.mk e4
  have HC4 := Aside0.mk (Kd.R_reads' h4).2.2
  have HNM := Aside0.mk (fun W' (hW' : Below W.heap.size W W') => byNameRul.calls A4 c4 ts[k].rules name W' (Kd.C_below (Kd.R_reads' h4).2.2 hW') (by omega))
  clear hp hq hu hW hwB hBW hR hS h4 e4 hB
  rcases idx_cases (sameN name) ts[k].rules with ⟨m, hm, hi, y1, y2⟩ | ⟨hi, y1⟩
  rotate_left
  · rw [show idx (fun x : Rul => x.name.toList == name.toList) ts[k].rules = -1 from hi] at HNM
    have HE := Aside0.mk (show (dropRulM ts schema table name ts[k]).1 = 61 by unfold dropRulM; rw [hi]; rfl)
    have hd : decide ((-1 : Int) < 0) = true := rfl
    clear hi y1
    go_enter Tryz.func42, Tryz.ntmps42
    have c_t : (((W.alloc (.cells #[.slice Bs ss.length ds, .slice (some ⟨g, 0, none⟩) ts.length dt] 25)).alloc (.cells #[.pointer (some ⟨g, k * 5, none⟩)] 56)).alloc (.cells #[.int .i64 0] 32)).cell? ⟨W.heap.size + 1, 0, none⟩ = some (Value.pointer (some ⟨g, k * 5, none⟩)) := (blk_cell H3.out.2.2.1 0).trans rfl
    have c_4 : (((W.alloc (.cells #[.slice Bs ss.length ds, .slice (some ⟨g, 0, none⟩) ts.length dt] 25)).alloc (.cells #[.pointer (some ⟨g, k * 5, none⟩)] 56)).alloc (.cells #[.int .i64 0] 32)).cell? ⟨g, k * 5 + 4, none⟩ = some (Value.slice A4 ts[k].rules.length c4) := pw_cell_below H3.out.1 HC.out
    have c_n : (((W.alloc (.cells #[.slice Bs ss.length ds, .slice (some ⟨g, 0, none⟩) ts.length dt] 25)).alloc (.cells #[.pointer (some ⟨g, k * 5, none⟩)] 56)).alloc (.cells #[.int .i64 0] 32)).cell? ⟨p, 0, none⟩ = some (Value.string name) := (blk_cell HPQ.out.1 0).trans rfl
    have W3a : ∀ {n : Nat}, (((W.alloc (.cells #[.slice Bs ss.length ds, .slice (some ⟨g, 0, none⟩) ts.length dt] 25)).alloc (.cells #[.pointer (some ⟨g, k * 5, none⟩)] 56)).alloc (.cells #[.int .i64 0] 32)).drew.heap.size = n → ((((W.alloc (.cells #[.slice Bs ss.length ds, .slice (some ⟨g, 0, none⟩) ts.length dt] 25)).alloc (.cells #[.pointer (some ⟨g, k * 5, none⟩)] 56)).alloc (.cells #[.int .i64 0] 32)).drew.alloc (.cells #[.int .i64 0] 3)).heap[n]? = some (.cells #[.int .i64 0] 3 (0, 0)) := fun e => by subst e; exact blk_new _ _
    have hW3s : (((W.alloc (.cells #[.slice Bs ss.length ds, .slice (some ⟨g, 0, none⟩) ts.length dt] 25)).alloc (.cells #[.pointer (some ⟨g, k * 5, none⟩)] 56)).alloc (.cells #[.int .i64 0] 32)).drew.heap.size = W.heap.size + 1 + 1 + 1 := by show (((W.alloc (.cells #[.slice Bs ss.length ds, .slice (some ⟨g, 0, none⟩) ts.length dt] 25)).alloc (.cells #[.pointer (some ⟨g, k * 5, none⟩)] 56)).alloc (.cells #[.int .i64 0] 32)).heap.size = _; simp
    have HLT := Aside0.mk (And.intro (World.block_lt_of_cell? _ _ c_t) (And.intro (World.block_lt_of_cell? _ _ c_4) (World.block_lt_of_cell? _ _ c_n)))
    go_wp2
    go_region_held3 (fun w' => w'.cell? ⟨W.heap.size + 1, 0, none⟩ = some (Value.pointer (some ⟨g, k * 5, none⟩)) ∧ w'.cell? ⟨g, k * 5 + 4, none⟩ = some (Value.slice A4 ts[k].rules.length c4) ∧ w'.cell? ⟨p, 0, none⟩ = some (Value.string name) ∧ Below (((W.alloc (.cells #[.slice Bs ss.length ds, .slice (some ⟨g, 0, none⟩) ts.length dt] 25)).alloc (.cells #[.pointer (some ⟨g, k * 5, none⟩)] 56)).alloc (.cells #[.int .i64 0] 32)).heap.size (((W.alloc (.cells #[.slice Bs ss.length ds, .slice (some ⟨g, 0, none⟩) ts.length dt] 25)).alloc (.cells #[.pointer (some ⟨g, k * 5, none⟩)] 56)).alloc (.cells #[.int .i64 0] 32)) w')
      (first | exact kq3 (by assumption) (by assumption) | exact kq3 (by assumption) (below_alloc (Below.refl _ _) _) | exact kqs3 (by assumption) HLT.out.1 HLT.out.2.1 HLT.out.2.2 (by first | (simp; done) | (have h := (show _ ∧ _ ∧ _ ∧ Below _ _ _ from by assumption).2.2.2.size; simp at h ⊢; omega)) | exact kq3 (w := (((W.alloc (.cells #[.slice Bs ss.length ds, .slice (some ⟨g, 0, none⟩) ts.length dt] 25)).alloc (.cells #[.pointer (some ⟨g, k * 5, none⟩)] 56)).alloc (.cells #[.int .i64 0] 32)).drew) ⟨c_t, c_4, c_n, below_drew (Below.refl _ _)⟩ (below_alloc (by assumption) _) | exact ⟨c_t, c_4, c_n, below_drew (Below.refl _ _)⟩)
      (first | (go_at_call 29; refine (HNM.out _ ?_).mono ?_; exact below_step H3.out.1 (show Below (((W.alloc (.cells #[.slice Bs ss.length ds, .slice (some ⟨g, 0, none⟩) ts.length dt] 25)).alloc (.cells #[.pointer (some ⟨g, k * 5, none⟩)] 56)).alloc (.cells #[.int .i64 0] 32)).heap.size (((W.alloc (.cells #[.slice Bs ss.length ds, .slice (some ⟨g, 0, none⟩) ts.length dt] 25)).alloc (.cells #[.pointer (some ⟨g, k * 5, none⟩)] 56)).alloc (.cells #[.int .i64 0] 32)) _ from by first | assumption | exact below_drew (Below.refl _ _) | exact below_alloc (below_drew (Below.refl _ _)) _ | exact (show _ ∧ _ ∧ _ ∧ Below _ _ _ from by assumption).2.2.2); rintro e k1 ⟨rfl, hbx⟩; first | (have zb : k1.cell? ⟨W.heap.size + 1 + 1 + 1, 0, none⟩ = some (.int .i64 0) := (blk_cell (blk_below (W3a hW3s) hbx) 0).trans rfl; have zf : k1.frozen? ⟨W.heap.size + 1 + 1 + 1, 0, none⟩ = false := blk_frozen (blk_below (W3a hW3s) hbx) 0) | skip))
    all_goals
      rename_i hHeld
      have hbk := hHeld.2.2.2
      have hr1 := blk_below H3.out.2.2.2 hbk
      have c_r := (blk_cell hr1 0).trans (show (#[Value.int .i64 0])[0]? = some (.int .i64 0) from rfl)
      have f_r := blk_frozen hr1 0
      have c_bb : True := trivial
      have HF := Aside0.mk (InDid.err (ss := ss) (ts := ts) (k := k) (Bs := Bs) (ds := ds) (g := g) (dt := dt) 61 HE.out (by decide) (below_set (below_step H3.out.1 hbk) (g := W.heap.size + 1 + 1) (by omega) (j := 0) (v := .int .i64 61)) HBW.out.1)
      have hc6 := (blk_cell (blk_set hr1 0 (.int .i64 61)) 0)
      clear hHeld hbk c_t c_4 c_n
      try clear hbx
      go_wp2
      refine bodyPost_ret (v := .int .i64 61) (by simp [results, Tryz.results42, go_sem, hc6]) rfl ?_
      exact HF.out
  rw [show idx (fun x : Rul => x.name.toList == name.toList) ts[k].rules = (m : Int) from hi] at HNM
  have HI := Aside0.mk hi
  have hd : decide ((m : Int) < 0) = false := decide_eq_false (by omega)
  clear hi y1 y2
  refine (callsIn_wide (n := 3)).1 ?_
  refine callsIn_of_wp_marks Tryz.func42 rfl trivial ?_ rfl
  simp only [Tryz.ntmps42, List.size_toArray, List.length_cons, List.length_nil, Nat.reduceAdd, Nat.reduceSub, Array.replicate_succ, Array.replicate_zero, List.push_toArray, List.append_toArray, List.nil_append, List.cons_append]
  refine wpIn_wide.2 ?_
  have c_t : (((W.alloc (.cells #[.slice Bs ss.length ds, .slice (some ⟨g, 0, none⟩) ts.length dt] 25)).alloc (.cells #[.pointer (some ⟨g, k * 5, none⟩)] 56)).alloc (.cells #[.int .i64 0] 32)).cell? ⟨W.heap.size + 1, 0, none⟩ = some (Value.pointer (some ⟨g, k * 5, none⟩)) := (blk_cell H3.out.2.2.1 0).trans rfl
  have c_4 : (((W.alloc (.cells #[.slice Bs ss.length ds, .slice (some ⟨g, 0, none⟩) ts.length dt] 25)).alloc (.cells #[.pointer (some ⟨g, k * 5, none⟩)] 56)).alloc (.cells #[.int .i64 0] 32)).cell? ⟨g, k * 5 + 4, none⟩ = some (Value.slice A4 ts[k].rules.length c4) := pw_cell_below H3.out.1 HC.out
  have c_n : (((W.alloc (.cells #[.slice Bs ss.length ds, .slice (some ⟨g, 0, none⟩) ts.length dt] 25)).alloc (.cells #[.pointer (some ⟨g, k * 5, none⟩)] 56)).alloc (.cells #[.int .i64 0] 32)).cell? ⟨p, 0, none⟩ = some (Value.string name) := (blk_cell HPQ.out.1 0).trans rfl
  have W3a : ∀ {n : Nat}, (((W.alloc (.cells #[.slice Bs ss.length ds, .slice (some ⟨g, 0, none⟩) ts.length dt] 25)).alloc (.cells #[.pointer (some ⟨g, k * 5, none⟩)] 56)).alloc (.cells #[.int .i64 0] 32)).drew.heap.size = n → ((((W.alloc (.cells #[.slice Bs ss.length ds, .slice (some ⟨g, 0, none⟩) ts.length dt] 25)).alloc (.cells #[.pointer (some ⟨g, k * 5, none⟩)] 56)).alloc (.cells #[.int .i64 0] 32)).drew.alloc (.cells #[.int .i64 0] 3)).heap[n]? = some (.cells #[.int .i64 0] 3 (0, 0)) := fun e => by subst e; exact blk_new _ _
  have hW3s : (((W.alloc (.cells #[.slice Bs ss.length ds, .slice (some ⟨g, 0, none⟩) ts.length dt] 25)).alloc (.cells #[.pointer (some ⟨g, k * 5, none⟩)] 56)).alloc (.cells #[.int .i64 0] 32)).drew.heap.size = W.heap.size + 1 + 1 + 1 := by show (((W.alloc (.cells #[.slice Bs ss.length ds, .slice (some ⟨g, 0, none⟩) ts.length dt] 25)).alloc (.cells #[.pointer (some ⟨g, k * 5, none⟩)] 56)).alloc (.cells #[.int .i64 0] 32)).heap.size = _; simp
  have HLT := Aside0.mk (And.intro (World.block_lt_of_cell? _ _ c_t) (And.intro (World.block_lt_of_cell? _ _ c_4) (World.block_lt_of_cell? _ _ c_n)))
  go_wp2
  go_region_held3 (fun w' => w'.cell? ⟨W.heap.size + 1, 0, none⟩ = some (Value.pointer (some ⟨g, k * 5, none⟩)) ∧ w'.cell? ⟨g, k * 5 + 4, none⟩ = some (Value.slice A4 ts[k].rules.length c4) ∧ w'.cell? ⟨p, 0, none⟩ = some (Value.string name) ∧ Below (((W.alloc (.cells #[.slice Bs ss.length ds, .slice (some ⟨g, 0, none⟩) ts.length dt] 25)).alloc (.cells #[.pointer (some ⟨g, k * 5, none⟩)] 56)).alloc (.cells #[.int .i64 0] 32)).heap.size (((W.alloc (.cells #[.slice Bs ss.length ds, .slice (some ⟨g, 0, none⟩) ts.length dt] 25)).alloc (.cells #[.pointer (some ⟨g, k * 5, none⟩)] 56)).alloc (.cells #[.int .i64 0] 32)) w')
    (first | exact kq3 (by assumption) (by assumption) | exact kq3 (by assumption) (below_alloc (Below.refl _ _) _) | exact kqs3 (by assumption) HLT.out.1 HLT.out.2.1 HLT.out.2.2 (by first | (simp; done) | (have h := (show _ ∧ _ ∧ _ ∧ Below _ _ _ from by assumption).2.2.2.size; simp at h ⊢; omega)) | exact kq3 (w := (((W.alloc (.cells #[.slice Bs ss.length ds, .slice (some ⟨g, 0, none⟩) ts.length dt] 25)).alloc (.cells #[.pointer (some ⟨g, k * 5, none⟩)] 56)).alloc (.cells #[.int .i64 0] 32)).drew) ⟨c_t, c_4, c_n, below_drew (Below.refl _ _)⟩ (below_alloc (by assumption) _) | exact ⟨c_t, c_4, c_n, below_drew (Below.refl _ _)⟩)
    (first | (go_at_call 29; refine (HNM.out _ ?_).mono ?_; exact below_step H3.out.1 (show Below (((W.alloc (.cells #[.slice Bs ss.length ds, .slice (some ⟨g, 0, none⟩) ts.length dt] 25)).alloc (.cells #[.pointer (some ⟨g, k * 5, none⟩)] 56)).alloc (.cells #[.int .i64 0] 32)).heap.size (((W.alloc (.cells #[.slice Bs ss.length ds, .slice (some ⟨g, 0, none⟩) ts.length dt] 25)).alloc (.cells #[.pointer (some ⟨g, k * 5, none⟩)] 56)).alloc (.cells #[.int .i64 0] 32)) _ from by first | assumption | exact below_drew (Below.refl _ _) | exact below_alloc (below_drew (Below.refl _ _)) _ | exact (show _ ∧ _ ∧ _ ∧ Below _ _ _ from by assumption).2.2.2); rintro e k1 ⟨rfl, hbx⟩; first | (have zb : k1.cell? ⟨W.heap.size + 1 + 1 + 1, 0, none⟩ = some (.int .i64 0) := (blk_cell (blk_below (W3a hW3s) hbx) 0).trans rfl; have zf : k1.frozen? ⟨W.heap.size + 1 + 1 + 1, 0, none⟩ = false := blk_frozen (blk_below (W3a hW3s) hbx) 0) | skip))
  all_goals
    first
      | (have h5b : (k1.alloc (.cells #[.int .i64 (m : Int)] 3)).heap[k1.heap.size]? = some (.cells #[.int .i64 (m : Int)] 3 (0, 0)) := blk_new _ _
         have h5l : (((W.alloc (.cells #[.slice Bs ss.length ds, .slice (some ⟨g, 0, none⟩) ts.length dt] 25)).alloc (.cells #[.pointer (some ⟨g, k * 5, none⟩)] 56)).alloc (.cells #[.int .i64 0] 32)).heap.size ≤ k1.heap.size := by have := hbx.size; simp at this ⊢; omega
         have h5w := (show _ ∧ _ ∧ _ ∧ Below _ _ (k1.alloc (.cells #[.int .i64 (m : Int)] 3)) from by assumption).2.2.2
         generalize k1.alloc (.cells #[.int .i64 (m : Int)] 3) = W5 at h5b h5w ⊢
         generalize k1.heap.size = b at h5b h5l ⊢)
      | (have h5b := blk_set (blk_below (W3a hW3s) hbx) 0 (.int .i64 (m : Int))
         have h5l : (((W.alloc (.cells #[.slice Bs ss.length ds, .slice (some ⟨g, 0, none⟩) ts.length dt] 25)).alloc (.cells #[.pointer (some ⟨g, k * 5, none⟩)] 56)).alloc (.cells #[.int .i64 0] 32)).heap.size ≤ W.heap.size + 1 + 1 + 1 := by simp
         have h5w := (show _ ∧ _ ∧ _ ∧ Below _ _ (k1.setCell ⟨W.heap.size + 1 + 1 + 1, 0, none⟩ (.int .i64 (m : Int))) from by assumption).2.2.2
         generalize k1.setCell ⟨W.heap.size + 1 + 1 + 1, 0, none⟩ (.int .i64 (m : Int)) = W5 at h5b h5w ⊢
         generalize W.heap.size + 1 + 1 + 1 = b at h5b h5l ⊢)
    have H5 := Aside0.mk (And.intro (show W5.heap[b]? = some (.cells #[.int .i64 (m : Int)] 3 (0, 0)) from h5b) (And.intro h5l h5w))
    clear hbx h5b h5l h5w c_t c_4 c_n
    try clear zb zf
    have c_b : W5.cell? ⟨b, 0, none⟩ = some (.int .i64 (m : Int)) := (blk_cell H5.out.1 0).trans rfl
    have c_g0 : W5.cell? ⟨W.heap.size, 0, none⟩ = some (Value.slice Bs ss.length ds) := (blk_cell (blk_below H3.out.2.1 H5.out.2.2) 0).trans rfl
    have c_g1 : W5.cell? ⟨W.heap.size, 1, none⟩ = some (Value.slice (some ⟨g, 0, none⟩) ts.length dt) := (blk_cell (blk_below H3.out.2.1 H5.out.2.2) 1).trans rfl
    have c_p0 : W5.cell? ⟨q, 0, none⟩ = some (Value.string schema) := (blk_cell (blk_below HPQ.out.2.1 H5.out.2.2) 0).trans rfl
    have c_q0 : W5.cell? ⟨u, 0, none⟩ = some (Value.string table) := (blk_cell (blk_below HPQ.out.2.2 H5.out.2.2) 0).trans rfl
    go_wp2_with (go_at_call 43; refine (foreign.calls (ct := dt) schema table _).mono ?_; rintro e k2 ⟨rfl, rfl⟩)
    clear c_b c_g0 c_g1 c_p0 c_q0
    have hB3 := boxes3 W5 (.cells #[.slice Bs ss.length ds, .slice (some ⟨g, 0, none⟩) ts.length dt] 25) (.cells #[.string schema] 9) (.cells #[.string table] 9)
    generalize hW0 : (((W5.alloc (.cells #[.slice Bs ss.length ds, .slice (some ⟨g, 0, none⟩) ts.length dt] 25)).alloc (.cells #[.string schema] 9)).alloc (.cells #[.string table] 9)) = W0 at hB3 ⊢
    have hb1 : Below W.heap.size W W5 := below_step H3.out.1 H5.out.2.2
    have hbW := below_step hb1 hB3.1
    have hr0 := blk_below (blk_below H3.out.2.2.2 H5.out.2.2) hB3.1
    have ht0 := blk_below (blk_below H3.out.2.2.1 H5.out.2.2) hB3.1
    have hn0 := blk_below (blk_below HPQ.out.1 H5.out.2.2) hB3.1
    have hx0 := blk_below H5.out.1 hB3.1
    have hseq := foreign1_stops (At := some ⟨g, 0, none⟩) (ct := dt) Fence.wide 2 trivial rfl (by omega) ts schema table W0 W5.heap.size (W5.heap.size + 1) (W5.heap.size + 1 + 1) ((blk_cell hB3.2.1 1).trans rfl) ((blk_cell hB3.2.2.1 0).trans rfl) ((blk_cell hB3.2.2.2 0).trans rfl) (Kd.C_below (Kd.R_reads' (Kd.S_R HS.out)).2.2 hbW) HBB.out
    have HO := Aside0.mk (And.intro hr0 (And.intro ht0 (And.intro hn0 (And.intro hx0 hbW))))
    generalize hgr : W.heap.size + 1 + 1 = gr at *
    have HGR := Aside0.mk (show W.heap.size ≤ gr by omega)
    clear hr0 ht0 hn0 hx0 hb1 hB3 hW0 H5 HNM hgr
    refine wpIn_wide.1 (wpIn_rangeFunc_ownH (n := 3) rfl (by omega) (gf := 93) (lb := #[.pointer (some ⟨W5.heap.size, 0, none⟩), .pointer (some ⟨W5.heap.size + 1, 0, none⟩), .pointer (some ⟨W5.heap.size + 1 + 1, 0, none⟩)]) rfl trivial (enters_of Tryz.func93 (by kernel_rfl) rfl)
      hseq (fun h k => ⟨h.1.trans k.1, h.2.trans k.2⟩) (fun W l o o' hl h hc hw => ⟨belowK_b (Nat.le_refl _) W l o o' hl h hc hw, KC.putObj o' h hc⟩) (Below.refl _ _) (fun _ => rfl)
      (fun pre W' => (∀ x ∈ pre, (x.2.r.key.toList == name.toList) = true → (ts[k].rules[m].kind == 2) = false) ∧ Below W0.heap.size W0 W')
      (fun c pre W' => (c = .ret ∧ (ts[k].rules[m].kind == 2) = true ∧ ∃ x ∈ pre, (x.2.r.key.toList == name.toList) = true) ∧ (W'.heap[gr]? = some (.cells #[.int .i64 62] 32 (0, 0)) ∧ Below W.heap.size W W'))
      (OwnFrom.and (ownFrom_pure _ _) (ownFrom_below (Nat.le_refl _) (Nat.le_refl _)))
      (fun c => OwnFrom.and (ownFrom_pure _ _) (OwnFrom.and (Own.from (own_blk _ (fun _ => #[.int .i64 62]) _) _) (ownFrom_below (Nat.le_refl _) HO.out.2.2.2.2.size)))
      ⟨by simp, Below.refl _ _⟩
      (fun x a' W' => ∃ Bx, W0.heap.size ≤ Bx ∧ W'.heap[Bx]? = some (.cells (encR x.2).toArray 29 (0, 0)) ∧ a' = { tmps := #[.agg #[.slice Bs ss.length ds, .slice (some ⟨g, 0, none⟩) ts.length dt], .pointer (some ⟨g, k * 5, none⟩), .pointer (some ⟨p, 0, none⟩), .pointer (some ⟨q, 0, none⟩), .pointer (some ⟨u, 0, none⟩), .pointer (some ⟨W.heap.size, 0, none⟩), .pointer (some ⟨W.heap.size + 1, 0, none⟩), .pointer (some ⟨gr, 0, none⟩), .pointer (some ⟨b, 0, none⟩), undef, .pointer (some ⟨Bx, 0, none⟩),
        .pointer (some ⟨g, k * 5, none⟩), .pointer (some ⟨g, k * 5, none⟩), .pointer (some ⟨g, k * 5 + 4, none⟩), .slice A4 ts[k].rules.length c4, .string name, .int .i64 (m : Int), .int .i64 (m : Int), .bool false, .agg #[.slice Bs ss.length ds, .slice (some ⟨g, 0, none⟩) ts.length dt], .string schema, .string table,
        .func (.func 93) #[] #[.pointer (some ⟨W5.heap.size, 0, none⟩), .pointer (some ⟨W5.heap.size + 1, 0, none⟩), .pointer (some ⟨W5.heap.size + 1 + 1, 0, none⟩)], .agg (encT x.1).toArray, .agg (encR x.2).toArray, undef, undef, undef, undef, undef, undef, undef, undef, undef, undef, undef, undef, undef, undef, undef, undef, undef, undef, undef, undef, undef, undef, undef, undef, undef, undef], defers := [] })
      (fun x a' _ X Y row hs hg hr => by obtain ⟨Bx, e1, e2, e3⟩ := hs; exact ⟨Bx, e1, blk_kept e2 hg (fun r e => (hr r e).2), e3⟩)
      ?_ ?_ ?_ ?_)
    · rintro l pre x W' K ⟨hall, hB1⟩ hK
      obtain ⟨⟨t, A3, c3, A4', c4'⟩, ⟨r, A2, c2⟩⟩ := x
      dsimp only [encs, encT, encR] at hK ⊢
      gi_wp2
      exact hK _ _ ((KeepsOthers.alloc _ _).from _) ⟨(Below.refl _ W').alloc hB1.size _, KC.alloc _ _⟩ ⟨hall, hB1.alloc hB1.size _⟩ ⟨W'.heap.size, hB1.size, blk_new _ _, rfl⟩
    · rintro l pre x a' W' hl hr ⟨hall, hB1⟩ ⟨Bx, hBx, hbX, rfl⟩ hlt
      obtain ⟨⟨t, A3, c3, A4', c4'⟩, ⟨r, A2, c2⟩⟩ := x
      dsimp only [encs, encT, encR] at hbX ⊢
      have hbw := below_step HO.out.2.2.2.2 hB1
      have b7 : W'.cell? ⟨Bx, 7, none⟩ = some (.string r.key) := (blk_cell hbX 7).trans rfl
      have cn : W'.cell? ⟨p, 0, none⟩ = some (.string name) := (blk_cell (blk_below HO.out.2.2.1 hB1) 0).trans rfl
      have ct : W'.cell? ⟨W.heap.size + 1, 0, none⟩ = some (.pointer (some ⟨g, k * 5, none⟩)) := (blk_cell (blk_below HO.out.2.1 hB1) 0).trans rfl
      have cb : W'.cell? ⟨b, 0, none⟩ = some (.int .i64 (m : Int)) := (blk_cell (blk_below HO.out.2.2.2.1 hB1) 0).trans rfl
      have c4_ : W'.cell? ⟨g, k * 5 + 4, none⟩ = some (.slice A4 ts[k].rules.length c4) := pw_cell_below hbw HC.out
      have hR1 := blk_below HO.out.1 hB1
      have cr : W'.cell? ⟨gr, 0, none⟩ = some (.int .i64 0) := (blk_cell hR1 0).trans rfl
      have fr := blk_frozen hR1 0
      obtain ⟨ad, A2', c2', e, _, ck, _⟩ := rulAt (Kd.C_below HC4.out hbw) m hm
      cases e
      have i0 : (0 : Int) ≤ (m : Int) := by omega
      have i1 : (m : Int) < (ts[k].rules.length : Int) := by omega
      have HIX := Aside0.mk (And.intro (blk_set (show W'.drew.heap[gr]? = _ from hR1) 0 (.int .i64 62)) (below_set (below_drew hbw) HGR.out (j := 0) (v := .int .i64 62)))
      have HI2 := Aside0.mk (And.intro hall hB1)
      clear hR1 hbw hall hB1 hl hr hbX
      cases p1 : (r.key.toList == name.toList) with
      | false =>
        gi_wp2
        refine wpIn_region_held_round (fun w' => w'.cell? ⟨Bx, 7, none⟩ = some (Value.string r.key) ∧ w'.cell? ⟨p, 0, none⟩ = some (Value.string name) ∧ w'.cell? ⟨W.heap.size + 1, 0, none⟩ = some (Value.pointer (some ⟨g, k * 5, none⟩)) ∧ w'.cell? ⟨g, k * 5 + 4, none⟩ = some (Value.slice (some ad) ts[k].rules.length c4) ∧ w'.cell? ⟨b, 0, none⟩ = some (Value.int .i64 (m : Int)) ∧ w'.cell? ⟨(ad.add (m * 8)).block, (ad.add (m * 8)).off + 1, none⟩ = some (Value.int .i64 ts[k].rules[m].kind)) (by kernel_rfl) (by kernel_rfl) ⟨b7, cn, ct, c4_, cb, ck⟩ (fun hHeld0 => ?_)
        refine wpAnyH_take (i := 0) (oi := { dst := some 25, op := _, type := _, pos := _, after := _, guard := _ }) (v := ?_) rfl (by kernel_rfl) (by kernel_rfl) (by kernel_rfl) (fun _ _ _ h => nomatch h.1) (Or.inl ⟨by kernel_rfl, ?_⟩) hHeld0 ?_
        rotate_left
        · (intro w hSw; (try dsimp only at hSw); go_simp; (first | done | with_reducible rfl))
        try simp only [Act.put, List.setIfInBounds_toArray, List.set_cons_zero, List.set_cons_succ]
        refine wpAnyH_take (i := 1) (oi := { dst := some 26, op := _, type := _, pos := _, after := _, guard := _ }) (v := ?_) rfl (by kernel_rfl) (by kernel_rfl) (by kernel_rfl) (fun _ _ _ h => nomatch h.1) (Or.inl ⟨by kernel_rfl, ?_⟩) hHeld0 ?_
        rotate_left
        · (intro w hSw; (try dsimp only at hSw); go_simp; (first | done | with_reducible rfl))
        try simp only [Act.put, List.setIfInBounds_toArray, List.set_cons_zero, List.set_cons_succ]
        refine wpAnyH_take (i := 2) (oi := { dst := some 27, op := _, type := _, pos := _, after := _, guard := _ }) (v := ?_) rfl (by kernel_rfl) (by kernel_rfl) (by kernel_rfl) (fun _ _ _ h => nomatch h.1) (Or.inl ⟨by kernel_rfl, ?_⟩) hHeld0 ?_
        rotate_left
        · (intro w hSw; (try dsimp only at hSw); go_simp; (first | done | with_reducible rfl))
        try simp only [Act.put, List.setIfInBounds_toArray, List.set_cons_zero, List.set_cons_succ]
        refine wpAnyH_take (i := 3) (oi := { dst := some 28, op := _, type := _, pos := _, after := _, guard := _ }) (v := ?_) rfl (by kernel_rfl) (by kernel_rfl) (by kernel_rfl) (fun _ _ _ h => nomatch h.1) (Or.inl ⟨by kernel_rfl, ?_⟩) hHeld0 ?_
        rotate_left
        · (intro w hSw; (try dsimp only at hSw); go_simp; (first | done | with_reducible rfl))
        try simp only [Act.put, List.setIfInBounds_toArray, List.set_cons_zero, List.set_cons_succ]
        refine wpAnyH_take (i := 4) (oi := { dst := some 29, op := _, type := _, pos := _, after := _, guard := _ }) (v := ?_) rfl (by kernel_rfl) (by kernel_rfl) (by kernel_rfl) (fun _ _ _ h => nomatch h.1) (Or.inl ⟨by kernel_rfl, ?_⟩) hHeld0 ?_
        rotate_left
        · (intro w hSw; (try dsimp only at hSw); go_simp; (first | done | with_reducible rfl))
        try simp only [Act.put, List.setIfInBounds_toArray, List.set_cons_zero, List.set_cons_succ]
        refine wpAnyH_take (i := 5) (oi := { dst := some 30, op := _, type := _, pos := _, after := _, guard := _ }) (v := undef) rfl (by kernel_rfl) (by kernel_rfl) (by kernel_rfl) (fun _ _ _ h => nomatch h.1) (Or.inr ⟨by kernel_rfl, rfl⟩) hHeld0 ?_
        try simp only [Act.put, List.setIfInBounds_toArray, List.set_cons_zero, List.set_cons_succ]
        refine wpAnyH_take (i := 6) (oi := { dst := some 31, op := _, type := _, pos := _, after := _, guard := _ }) (v := undef) rfl (by kernel_rfl) (by kernel_rfl) (by kernel_rfl) (fun _ _ _ h => nomatch h.1) (Or.inr ⟨by kernel_rfl, rfl⟩) hHeld0 ?_
        try simp only [Act.put, List.setIfInBounds_toArray, List.set_cons_zero, List.set_cons_succ]
        refine wpAnyH_take (i := 7) (oi := { dst := some 32, op := _, type := _, pos := _, after := _, guard := _ }) (v := undef) rfl (by kernel_rfl) (by kernel_rfl) (by kernel_rfl) (fun _ _ _ h => nomatch h.1) (Or.inr ⟨by kernel_rfl, rfl⟩) hHeld0 ?_
        try simp only [Act.put, List.setIfInBounds_toArray, List.set_cons_zero, List.set_cons_succ]
        refine wpAnyH_take (i := 8) (oi := { dst := some 33, op := _, type := _, pos := _, after := _, guard := _ }) (v := undef) rfl (by kernel_rfl) (by kernel_rfl) (by kernel_rfl) (fun _ _ _ h => nomatch h.1) (Or.inr ⟨by kernel_rfl, rfl⟩) hHeld0 ?_
        try simp only [Act.put, List.setIfInBounds_toArray, List.set_cons_zero, List.set_cons_succ]
        refine wpAnyH_take (i := 9) (oi := { dst := some 34, op := _, type := _, pos := _, after := _, guard := _ }) (v := undef) rfl (by kernel_rfl) (by kernel_rfl) (by kernel_rfl) (fun _ _ _ h => nomatch h.1) (Or.inr ⟨by kernel_rfl, rfl⟩) hHeld0 ?_
        try simp only [Act.put, List.setIfInBounds_toArray, List.set_cons_zero, List.set_cons_succ]
        refine wpAnyH_take (i := 10) (oi := { dst := some 35, op := _, type := _, pos := _, after := _, guard := _ }) (v := undef) rfl (by kernel_rfl) (by kernel_rfl) (by kernel_rfl) (fun _ _ _ h => nomatch h.1) (Or.inr ⟨by kernel_rfl, rfl⟩) hHeld0 ?_
        try simp only [Act.put, List.setIfInBounds_toArray, List.set_cons_zero, List.set_cons_succ]
        refine wpAnyH_take (i := 11) (oi := { dst := some 36, op := _, type := _, pos := _, after := _, guard := _ }) (v := undef) rfl (by kernel_rfl) (by kernel_rfl) (by kernel_rfl) (fun _ _ _ h => nomatch h.1) (Or.inr ⟨by kernel_rfl, rfl⟩) hHeld0 ?_
        try simp only [Act.put, List.setIfInBounds_toArray, List.set_cons_zero, List.set_cons_succ]
        refine wpAnyH_take (i := 12) (oi := { dst := some 37, op := _, type := _, pos := _, after := _, guard := _ }) (v := undef) rfl (by kernel_rfl) (by kernel_rfl) (by kernel_rfl) (fun _ _ _ h => nomatch h.1) (Or.inr ⟨by kernel_rfl, rfl⟩) hHeld0 ?_
        try simp only [Act.put, List.setIfInBounds_toArray, List.set_cons_zero, List.set_cons_succ]
        refine wpAnyH_take (i := 13) (oi := { dst := some 38, op := _, type := _, pos := _, after := _, guard := _ }) (v := undef) rfl (by kernel_rfl) (by kernel_rfl) (by kernel_rfl) (fun _ _ _ h => nomatch h.1) (Or.inr ⟨by kernel_rfl, rfl⟩) hHeld0 ?_
        try simp only [Act.put, List.setIfInBounds_toArray, List.set_cons_zero, List.set_cons_succ]
        refine wpAnyH_take (i := 14) (oi := { dst := some 39, op := _, type := _, pos := _, after := _, guard := _ }) (v := ?_) rfl (by kernel_rfl) (by kernel_rfl) (by kernel_rfl) (fun _ _ _ h => nomatch h.1) (Or.inl ⟨by kernel_rfl, ?_⟩) hHeld0 ?_
        rotate_left
        · (intro w hSw; (try dsimp only at hSw); go_simp; (first | done | with_reducible rfl))
        try simp only [Act.put, List.setIfInBounds_toArray, List.set_cons_zero, List.set_cons_succ]
        refine wpAnyH_done (by kernel_rfl) ?_ _
        have hH := hHeld0
        clear hHeld0
        refine ⟨rfl, ?_⟩
        gi_wp2
        refine ⟨(KeepsOthers.drew _).from _, ⟨below_drew (Below.refl _ _), fun _ _ _ _ h => h⟩, fun x hx hn => ?_, below_drew HI2.out.2⟩
        rcases List.mem_append.1 hx with hx | hx
        · exact HI2.out.1 x hx hn
        · obtain rfl := List.mem_singleton.1 hx
          have hn' : (r.key.toList == name.toList) = true := hn
          rw [p1] at hn'; cases hn'
      | true =>
        cases p2 : (ts[k].rules[m].kind == 2) with
        | false =>
          gi_wp2
          refine wpIn_region_held_round (fun w' => w'.cell? ⟨Bx, 7, none⟩ = some (Value.string r.key) ∧ w'.cell? ⟨p, 0, none⟩ = some (Value.string name) ∧ w'.cell? ⟨W.heap.size + 1, 0, none⟩ = some (Value.pointer (some ⟨g, k * 5, none⟩)) ∧ w'.cell? ⟨g, k * 5 + 4, none⟩ = some (Value.slice (some ad) ts[k].rules.length c4) ∧ w'.cell? ⟨b, 0, none⟩ = some (Value.int .i64 (m : Int)) ∧ w'.cell? ⟨(ad.add (m * 8)).block, (ad.add (m * 8)).off + 1, none⟩ = some (Value.int .i64 ts[k].rules[m].kind)) (by kernel_rfl) (by kernel_rfl) ⟨b7, cn, ct, c4_, cb, ck⟩ (fun hHeld0 => ?_)
          refine wpAnyH_take (i := 0) (oi := { dst := some 25, op := _, type := _, pos := _, after := _, guard := _ }) (v := ?_) rfl (by kernel_rfl) (by kernel_rfl) (by kernel_rfl) (fun _ _ _ h => nomatch h.1) (Or.inl ⟨by kernel_rfl, ?_⟩) hHeld0 ?_
          rotate_left
          · (intro w hSw; (try dsimp only at hSw); go_simp; (first | done | with_reducible rfl))
          try simp only [Act.put, List.setIfInBounds_toArray, List.set_cons_zero, List.set_cons_succ]
          refine wpAnyH_take (i := 1) (oi := { dst := some 26, op := _, type := _, pos := _, after := _, guard := _ }) (v := ?_) rfl (by kernel_rfl) (by kernel_rfl) (by kernel_rfl) (fun _ _ _ h => nomatch h.1) (Or.inl ⟨by kernel_rfl, ?_⟩) hHeld0 ?_
          rotate_left
          · (intro w hSw; (try dsimp only at hSw); go_simp; (first | done | with_reducible rfl))
          try simp only [Act.put, List.setIfInBounds_toArray, List.set_cons_zero, List.set_cons_succ]
          refine wpAnyH_take (i := 2) (oi := { dst := some 27, op := _, type := _, pos := _, after := _, guard := _ }) (v := ?_) rfl (by kernel_rfl) (by kernel_rfl) (by kernel_rfl) (fun _ _ _ h => nomatch h.1) (Or.inl ⟨by kernel_rfl, ?_⟩) hHeld0 ?_
          rotate_left
          · (intro w hSw; (try dsimp only at hSw); go_simp; (first | done | with_reducible rfl))
          try simp only [Act.put, List.setIfInBounds_toArray, List.set_cons_zero, List.set_cons_succ]
          refine wpAnyH_take (i := 3) (oi := { dst := some 28, op := _, type := _, pos := _, after := _, guard := _ }) (v := ?_) rfl (by kernel_rfl) (by kernel_rfl) (by kernel_rfl) (fun _ _ _ h => nomatch h.1) (Or.inl ⟨by kernel_rfl, ?_⟩) hHeld0 ?_
          rotate_left
          · (intro w hSw; (try dsimp only at hSw); go_simp; (first | done | with_reducible rfl))
          try simp only [Act.put, List.setIfInBounds_toArray, List.set_cons_zero, List.set_cons_succ]
          refine wpAnyH_take (i := 4) (oi := { dst := some 29, op := _, type := _, pos := _, after := _, guard := _ }) (v := ?_) rfl (by kernel_rfl) (by kernel_rfl) (by kernel_rfl) (fun _ _ _ h => nomatch h.1) (Or.inl ⟨by kernel_rfl, ?_⟩) hHeld0 ?_
          rotate_left
          · (intro w hSw; (try dsimp only at hSw); go_simp; (first | done | with_reducible rfl))
          try simp only [Act.put, List.setIfInBounds_toArray, List.set_cons_zero, List.set_cons_succ]
          refine wpAnyH_take (i := 5) (oi := { dst := some 30, op := _, type := _, pos := _, after := _, guard := _ }) (v := ?_) rfl (by kernel_rfl) (by kernel_rfl) (by kernel_rfl) (fun _ _ _ h => nomatch h.1) (Or.inl ⟨by kernel_rfl, ?_⟩) hHeld0 ?_
          rotate_left
          · (intro w hSw; (try dsimp only at hSw); go_simp; (first | done | with_reducible rfl))
          try simp only [Act.put, List.setIfInBounds_toArray, List.set_cons_zero, List.set_cons_succ]
          refine wpAnyH_take (i := 6) (oi := { dst := some 31, op := _, type := _, pos := _, after := _, guard := _ }) (v := ?_) rfl (by kernel_rfl) (by kernel_rfl) (by kernel_rfl) (fun _ _ _ h => nomatch h.1) (Or.inl ⟨by kernel_rfl, ?_⟩) hHeld0 ?_
          rotate_left
          · (intro w hSw; (try dsimp only at hSw); go_simp; (first | done | with_reducible rfl))
          try simp only [Act.put, List.setIfInBounds_toArray, List.set_cons_zero, List.set_cons_succ]
          refine wpAnyH_take (i := 7) (oi := { dst := some 32, op := _, type := _, pos := _, after := _, guard := _ }) (v := ?_) rfl (by kernel_rfl) (by kernel_rfl) (by kernel_rfl) (fun _ _ _ h => nomatch h.1) (Or.inl ⟨by kernel_rfl, ?_⟩) hHeld0 ?_
          rotate_left
          · (intro w hSw; (try dsimp only at hSw); go_simp; (first | done | with_reducible rfl))
          try simp only [Act.put, List.setIfInBounds_toArray, List.set_cons_zero, List.set_cons_succ]
          refine wpAnyH_take (i := 8) (oi := { dst := some 33, op := _, type := _, pos := _, after := _, guard := _ }) (v := ?_) rfl (by kernel_rfl) (by kernel_rfl) (by kernel_rfl) (fun _ _ _ h => nomatch h.1) (Or.inl ⟨by kernel_rfl, ?_⟩) hHeld0 ?_
          rotate_left
          · (intro w hSw; (try dsimp only at hSw); go_simp; (first | done | with_reducible rfl))
          try simp only [Act.put, List.setIfInBounds_toArray, List.set_cons_zero, List.set_cons_succ]
          refine wpAnyH_take (i := 9) (oi := { dst := some 34, op := _, type := _, pos := _, after := _, guard := _ }) (v := ?_) rfl (by kernel_rfl) (by kernel_rfl) (by kernel_rfl) (fun _ _ _ h => nomatch h.1) (Or.inl ⟨by kernel_rfl, ?_⟩) hHeld0 ?_
          rotate_left
          · (intro w hSw; (try dsimp only at hSw); go_simp; (first | done | with_reducible rfl))
          try simp only [Act.put, List.setIfInBounds_toArray, List.set_cons_zero, List.set_cons_succ]
          refine wpAnyH_take (i := 10) (oi := { dst := some 35, op := _, type := _, pos := _, after := _, guard := _ }) (v := ?_) rfl (by kernel_rfl) (by kernel_rfl) (by kernel_rfl) (fun _ _ _ h => nomatch h.1) (Or.inl ⟨by kernel_rfl, ?_⟩) hHeld0 ?_
          rotate_left
          · (intro w hSw; (try dsimp only at hSw); go_simp; (first | done | with_reducible rfl))
          try simp only [Act.put, List.setIfInBounds_toArray, List.set_cons_zero, List.set_cons_succ]
          refine wpAnyH_take (i := 11) (oi := { dst := some 36, op := _, type := _, pos := _, after := _, guard := _ }) (v := ?_) rfl (by kernel_rfl) (by kernel_rfl) (by kernel_rfl) (fun _ _ _ h => nomatch h.1) (Or.inl ⟨by kernel_rfl, ?_⟩) hHeld0 ?_
          rotate_left
          · (intro w hSw; (try dsimp only at hSw); go_simp; (first | done | with_reducible rfl))
          try simp only [Act.put, List.setIfInBounds_toArray, List.set_cons_zero, List.set_cons_succ]
          refine wpAnyH_take (i := 12) (oi := { dst := some 37, op := _, type := _, pos := _, after := _, guard := _ }) (v := ?_) rfl (by kernel_rfl) (by kernel_rfl) (by kernel_rfl) (fun _ _ _ h => nomatch h.1) (Or.inl ⟨by kernel_rfl, ?_⟩) hHeld0 ?_
          rotate_left
          · (intro w hSw; (try dsimp only at hSw); go_simp; (first | done | with_reducible rfl))
          try simp only [Act.put, List.setIfInBounds_toArray, List.set_cons_zero, List.set_cons_succ]
          refine wpAnyH_take (i := 13) (oi := { dst := some 38, op := _, type := _, pos := _, after := _, guard := _ }) (v := ?_) rfl (by kernel_rfl) (by kernel_rfl) (by kernel_rfl) (fun _ _ _ h => nomatch h.1) (Or.inl ⟨by kernel_rfl, ?_⟩) hHeld0 ?_
          rotate_left
          · (intro w hSw; (try dsimp only at hSw); go_simp; (first | done | with_reducible rfl))
          try simp only [Act.put, List.setIfInBounds_toArray, List.set_cons_zero, List.set_cons_succ]
          refine wpAnyH_take (i := 14) (oi := { dst := some 39, op := _, type := _, pos := _, after := _, guard := _ }) (v := ?_) rfl (by kernel_rfl) (by kernel_rfl) (by kernel_rfl) (fun _ _ _ h => nomatch h.1) (Or.inl ⟨by kernel_rfl, ?_⟩) hHeld0 ?_
          rotate_left
          · (intro w hSw; (try dsimp only at hSw); go_simp; (first | done | with_reducible rfl))
          try simp only [Act.put, List.setIfInBounds_toArray, List.set_cons_zero, List.set_cons_succ]
          refine wpAnyH_done (by kernel_rfl) ?_ _
          have hH := hHeld0
          clear hHeld0
          refine ⟨rfl, ?_⟩
          gi_wp2
          exact ⟨(KeepsOthers.drew _).from _, ⟨below_drew (Below.refl _ _), fun _ _ _ _ h => h⟩, below_drew HI2.out.2⟩
        | true =>
          gi_wp2
          refine wpIn_region_held_round (fun w' => w'.cell? ⟨Bx, 7, none⟩ = some (Value.string r.key) ∧ w'.cell? ⟨p, 0, none⟩ = some (Value.string name) ∧ w'.cell? ⟨W.heap.size + 1, 0, none⟩ = some (Value.pointer (some ⟨g, k * 5, none⟩)) ∧ w'.cell? ⟨g, k * 5 + 4, none⟩ = some (Value.slice (some ad) ts[k].rules.length c4) ∧ w'.cell? ⟨b, 0, none⟩ = some (Value.int .i64 (m : Int)) ∧ w'.cell? ⟨(ad.add (m * 8)).block, (ad.add (m * 8)).off + 1, none⟩ = some (Value.int .i64 ts[k].rules[m].kind)) (by kernel_rfl) (by kernel_rfl) ⟨b7, cn, ct, c4_, cb, ck⟩ (fun hHeld0 => ?_)
          refine wpAnyH_take (i := 0) (oi := { dst := some 25, op := _, type := _, pos := _, after := _, guard := _ }) (v := ?_) rfl (by kernel_rfl) (by kernel_rfl) (by kernel_rfl) (fun _ _ _ h => nomatch h.1) (Or.inl ⟨by kernel_rfl, ?_⟩) hHeld0 ?_
          rotate_left
          · (intro w hSw; (try dsimp only at hSw); go_simp; (first | done | with_reducible rfl))
          try simp only [Act.put, List.setIfInBounds_toArray, List.set_cons_zero, List.set_cons_succ]
          refine wpAnyH_take (i := 1) (oi := { dst := some 26, op := _, type := _, pos := _, after := _, guard := _ }) (v := ?_) rfl (by kernel_rfl) (by kernel_rfl) (by kernel_rfl) (fun _ _ _ h => nomatch h.1) (Or.inl ⟨by kernel_rfl, ?_⟩) hHeld0 ?_
          rotate_left
          · (intro w hSw; (try dsimp only at hSw); go_simp; (first | done | with_reducible rfl))
          try simp only [Act.put, List.setIfInBounds_toArray, List.set_cons_zero, List.set_cons_succ]
          refine wpAnyH_take (i := 2) (oi := { dst := some 27, op := _, type := _, pos := _, after := _, guard := _ }) (v := ?_) rfl (by kernel_rfl) (by kernel_rfl) (by kernel_rfl) (fun _ _ _ h => nomatch h.1) (Or.inl ⟨by kernel_rfl, ?_⟩) hHeld0 ?_
          rotate_left
          · (intro w hSw; (try dsimp only at hSw); go_simp; (first | done | with_reducible rfl))
          try simp only [Act.put, List.setIfInBounds_toArray, List.set_cons_zero, List.set_cons_succ]
          refine wpAnyH_take (i := 3) (oi := { dst := some 28, op := _, type := _, pos := _, after := _, guard := _ }) (v := ?_) rfl (by kernel_rfl) (by kernel_rfl) (by kernel_rfl) (fun _ _ _ h => nomatch h.1) (Or.inl ⟨by kernel_rfl, ?_⟩) hHeld0 ?_
          rotate_left
          · (intro w hSw; (try dsimp only at hSw); go_simp; (first | done | with_reducible rfl))
          try simp only [Act.put, List.setIfInBounds_toArray, List.set_cons_zero, List.set_cons_succ]
          refine wpAnyH_take (i := 4) (oi := { dst := some 29, op := _, type := _, pos := _, after := _, guard := _ }) (v := ?_) rfl (by kernel_rfl) (by kernel_rfl) (by kernel_rfl) (fun _ _ _ h => nomatch h.1) (Or.inl ⟨by kernel_rfl, ?_⟩) hHeld0 ?_
          rotate_left
          · (intro w hSw; (try dsimp only at hSw); go_simp; (first | done | with_reducible rfl))
          try simp only [Act.put, List.setIfInBounds_toArray, List.set_cons_zero, List.set_cons_succ]
          refine wpAnyH_take (i := 5) (oi := { dst := some 30, op := _, type := _, pos := _, after := _, guard := _ }) (v := ?_) rfl (by kernel_rfl) (by kernel_rfl) (by kernel_rfl) (fun _ _ _ h => nomatch h.1) (Or.inl ⟨by kernel_rfl, ?_⟩) hHeld0 ?_
          rotate_left
          · (intro w hSw; (try dsimp only at hSw); go_simp; (first | done | with_reducible rfl))
          try simp only [Act.put, List.setIfInBounds_toArray, List.set_cons_zero, List.set_cons_succ]
          refine wpAnyH_take (i := 6) (oi := { dst := some 31, op := _, type := _, pos := _, after := _, guard := _ }) (v := ?_) rfl (by kernel_rfl) (by kernel_rfl) (by kernel_rfl) (fun _ _ _ h => nomatch h.1) (Or.inl ⟨by kernel_rfl, ?_⟩) hHeld0 ?_
          rotate_left
          · (intro w hSw; (try dsimp only at hSw); go_simp; (first | done | with_reducible rfl))
          try simp only [Act.put, List.setIfInBounds_toArray, List.set_cons_zero, List.set_cons_succ]
          refine wpAnyH_take (i := 7) (oi := { dst := some 32, op := _, type := _, pos := _, after := _, guard := _ }) (v := ?_) rfl (by kernel_rfl) (by kernel_rfl) (by kernel_rfl) (fun _ _ _ h => nomatch h.1) (Or.inl ⟨by kernel_rfl, ?_⟩) hHeld0 ?_
          rotate_left
          · (intro w hSw; (try dsimp only at hSw); go_simp; (first | done | with_reducible rfl))
          try simp only [Act.put, List.setIfInBounds_toArray, List.set_cons_zero, List.set_cons_succ]
          refine wpAnyH_take (i := 8) (oi := { dst := some 33, op := _, type := _, pos := _, after := _, guard := _ }) (v := ?_) rfl (by kernel_rfl) (by kernel_rfl) (by kernel_rfl) (fun _ _ _ h => nomatch h.1) (Or.inl ⟨by kernel_rfl, ?_⟩) hHeld0 ?_
          rotate_left
          · (intro w hSw; (try dsimp only at hSw); go_simp; (first | done | with_reducible rfl))
          try simp only [Act.put, List.setIfInBounds_toArray, List.set_cons_zero, List.set_cons_succ]
          refine wpAnyH_take (i := 9) (oi := { dst := some 34, op := _, type := _, pos := _, after := _, guard := _ }) (v := ?_) rfl (by kernel_rfl) (by kernel_rfl) (by kernel_rfl) (fun _ _ _ h => nomatch h.1) (Or.inl ⟨by kernel_rfl, ?_⟩) hHeld0 ?_
          rotate_left
          · (intro w hSw; (try dsimp only at hSw); go_simp; (first | done | with_reducible rfl))
          try simp only [Act.put, List.setIfInBounds_toArray, List.set_cons_zero, List.set_cons_succ]
          refine wpAnyH_take (i := 10) (oi := { dst := some 35, op := _, type := _, pos := _, after := _, guard := _ }) (v := ?_) rfl (by kernel_rfl) (by kernel_rfl) (by kernel_rfl) (fun _ _ _ h => nomatch h.1) (Or.inl ⟨by kernel_rfl, ?_⟩) hHeld0 ?_
          rotate_left
          · (intro w hSw; (try dsimp only at hSw); go_simp; (first | done | with_reducible rfl))
          try simp only [Act.put, List.setIfInBounds_toArray, List.set_cons_zero, List.set_cons_succ]
          refine wpAnyH_take (i := 11) (oi := { dst := some 36, op := _, type := _, pos := _, after := _, guard := _ }) (v := ?_) rfl (by kernel_rfl) (by kernel_rfl) (by kernel_rfl) (fun _ _ _ h => nomatch h.1) (Or.inl ⟨by kernel_rfl, ?_⟩) hHeld0 ?_
          rotate_left
          · (intro w hSw; (try dsimp only at hSw); go_simp; (first | done | with_reducible rfl))
          try simp only [Act.put, List.setIfInBounds_toArray, List.set_cons_zero, List.set_cons_succ]
          refine wpAnyH_take (i := 12) (oi := { dst := some 37, op := _, type := _, pos := _, after := _, guard := _ }) (v := ?_) rfl (by kernel_rfl) (by kernel_rfl) (by kernel_rfl) (fun _ _ _ h => nomatch h.1) (Or.inl ⟨by kernel_rfl, ?_⟩) hHeld0 ?_
          rotate_left
          · (intro w hSw; (try dsimp only at hSw); go_simp; (first | done | with_reducible rfl))
          try simp only [Act.put, List.setIfInBounds_toArray, List.set_cons_zero, List.set_cons_succ]
          refine wpAnyH_take (i := 13) (oi := { dst := some 38, op := _, type := _, pos := _, after := _, guard := _ }) (v := ?_) rfl (by kernel_rfl) (by kernel_rfl) (by kernel_rfl) (fun _ _ _ h => nomatch h.1) (Or.inl ⟨by kernel_rfl, ?_⟩) hHeld0 ?_
          rotate_left
          · (intro w hSw; (try dsimp only at hSw); go_simp; (first | done | with_reducible rfl))
          try simp only [Act.put, List.setIfInBounds_toArray, List.set_cons_zero, List.set_cons_succ]
          refine wpAnyH_take (i := 14) (oi := { dst := some 39, op := _, type := _, pos := _, after := _, guard := _ }) (v := ?_) rfl (by kernel_rfl) (by kernel_rfl) (by kernel_rfl) (fun _ _ _ h => nomatch h.1) (Or.inl ⟨by kernel_rfl, ?_⟩) hHeld0 ?_
          rotate_left
          · (intro w hSw; (try dsimp only at hSw); go_simp; (first | done | with_reducible rfl))
          try simp only [Act.put, List.setIfInBounds_toArray, List.set_cons_zero, List.set_cons_succ]
          refine wpAnyH_done (by kernel_rfl) ?_ _
          have hH := hHeld0
          clear hHeld0
          refine ⟨rfl, ?_⟩
          gi_wp2
          exact ⟨((KeepsOthers.drew _).trans (KeepsOthers.setCell _ _ _)).from _, ⟨rfl, (⟨t, A3, c3, A4', c4'⟩ : TabP), (⟨r, A2, c2⟩ : RulP), by first | exact ⟨List.mem_append_right _ List.mem_cons_self, p1⟩ | exact ⟨.inr rfl, p1⟩ | simp [eq_of_beq p1]⟩, HIX.out⟩
    · rintro D ys W' hD hSS ⟨hall, hB1⟩ hK
      have hbw := below_step HO.out.2.2.2.2 hB1
      have HE := Aside0.mk (show dropRulM ts schema table name ts[k] = (0, { ts[k] with rules := ts[k].rules.eraseIdx m }) by
        unfold dropRulM
        rw [HI.out, if_pos (by omega), Int.toNat_natCast, getD_at hm]
        cases p2 : (ts[k].rules[m].kind == 2) with
        | false => rfl
        | true =>
          rw [need_no hSS (fun x hx => by
            cases p3 : (x.2.r.key.toList == name.toList) with
            | false => rfl
            | true => have := hall x hx p3; rw [p2] at this; cases this)]
          rfl)
      obtain ⟨oki, A4', c4', e4, f4, h4, ho, hset⟩ := S_rules (Kd.S_drew (Kd.S_below HS.out hbw)) k hk
      have c4_ : W'.cell? ⟨g, k * 5 + 4, none⟩ = some (.slice A4 ts[k].rules.length c4) := pw_cell_below hbw HC.out
      have ee := e4.symm.trans c4_
      injection ee with ee
      injection ee with e1 e2 e5
      subst e1 e5
      obtain ⟨g4, rfl⟩ : ∃ g4, A4' = some ⟨g4, 0, none⟩ := by
        obtain ⟨g4, cc, e⟩ := RT_addr h4 (by omega)
        injection e with e _ _
        exact ⟨g4, e⟩
      have HDL := Aside0.mk (deleteRul.calls ts[k].rules W'.drew B g4 c4' m oki hm hlr h4)
      have HC5 := Aside0.mk (And.intro h4 hset)
      have ht1 := blk_below HO.out.2.1 hB1
      have hx1 := blk_below HO.out.2.2.2.1 hB1
      have hr1 := blk_below HO.out.1 hB1
      have HT1 := Aside0.mk (And.intro (show W'.drew.heap[W.heap.size + 1]? = _ from ht1) (And.intro (show W'.drew.heap[b]? = _ from hx1) (And.intro (show W'.drew.heap[gr]? = _ from hr1) (And.intro (below_drew hbw) (show W'.drew.heap[D]? = _ from hK)))))
      have HDD := Aside0.mk (Nat.le_trans HO.out.2.2.2.2.size hD)
      have ct : W'.cell? ⟨W.heap.size + 1, 0, none⟩ = some (.pointer (some ⟨g, k * 5, none⟩)) := (blk_cell ht1 0).trans rfl
      have cb : W'.cell? ⟨b, 0, none⟩ = some (.int .i64 (m : Int)) := (blk_cell hx1 0).trans rfl
      have hlen : (ts[k].rules.eraseIdx m).length = ts[k].rules.length - 1 := List.length_eraseIdx_of_lt hm
      clear e4 f4 h4 ho hset ht1 hx1 hr1 hbw hK hall hSS hD hB1 hseq e2
      go_wp2
      have hneT : W.heap.size + 1 ≠ g := fun e => by
        obtain ⟨cs, hcs⟩ := Kd.S_typed HS.out g rfl
        rw [← e] at hcs
        have := (Array.getElem?_eq_some_iff.1 hcs).1
        omega
      have HNB := Aside0.mk (show b ≠ g from fun e => by
        obtain ⟨cs, hcs⟩ := Kd.S_typed (Kd.S_below HS.out HT1.out.2.2.2.1) g rfl
        have h := HT1.out.2.1
        rw [e, hcs] at h
        injection h with h
        injection h with _ h
        revert h; decide)
      have HNT := Aside0.mk hneT
      have hwr : IntKind.i64.wrap ((m : Int) + 1) = (m : Int) + 1 := IntWalk.i64_in _ ⟨by omega, by omega⟩
      refine wp_region_held_calm (fun w' => w'.cell? ⟨W.heap.size + 1, 0, none⟩ = some (Value.pointer (some ⟨g, k * 5, none⟩)) ∧ w'.cell? ⟨b, 0, none⟩ = some (Value.int .i64 (m : Int))) (by kernel_rfl) ⟨ct, cb⟩ (fun hHeld0 => ?_)
      refine wpAnyH_take (i := 0) (oi := { dst := some 40, op := _, type := _, pos := _, after := _, guard := _ }) (v := ?_) rfl (by kernel_rfl) (by kernel_rfl) (by kernel_rfl) (fun _ _ _ h => nomatch h.1) (Or.inl ⟨by kernel_rfl, ?_⟩) hHeld0 ?_
      rotate_left
      · (intro w hSw; (try dsimp only at hSw); go_simp; (first | done | with_reducible rfl))
      try simp only [Act.put, List.setIfInBounds_toArray, List.set_cons_zero, List.set_cons_succ]
      refine wpAnyH_take (i := 1) (oi := { dst := some 41, op := _, type := _, pos := _, after := _, guard := _ }) (v := ?_) rfl (by kernel_rfl) (by kernel_rfl) (by kernel_rfl) (fun _ _ _ h => nomatch h.1) (Or.inl ⟨by kernel_rfl, ?_⟩) hHeld0 ?_
      rotate_left
      · (intro w hSw; (try dsimp only at hSw); go_simp; (first | done | with_reducible rfl))
      try simp only [Act.put, List.setIfInBounds_toArray, List.set_cons_zero, List.set_cons_succ]
      refine wpAnyH_take (i := 2) (oi := { dst := some 42, op := _, type := _, pos := _, after := _, guard := _ }) (v := ?_) rfl (by kernel_rfl) (by kernel_rfl) (by kernel_rfl) (fun _ _ _ h => nomatch h.1) (Or.inl ⟨by kernel_rfl, ?_⟩) hHeld0 ?_
      rotate_left
      · (intro w hSw; (try dsimp only at hSw); go_simp; (first | done | with_reducible rfl))
      try simp only [Act.put, List.setIfInBounds_toArray, List.set_cons_zero, List.set_cons_succ]
      refine wpAnyH_take (i := 3) (oi := { dst := some 43, op := _, type := _, pos := _, after := _, guard := _ }) (v := ?_) rfl (by kernel_rfl) (by kernel_rfl) (by kernel_rfl) (fun _ _ _ h => nomatch h.1) (Or.inl ⟨by kernel_rfl, ?_⟩) hHeld0 ?_
      rotate_left
      · (intro w hSw; (try dsimp only at hSw); go_simp; (first | done | with_reducible rfl))
      try simp only [Act.put, List.setIfInBounds_toArray, List.set_cons_zero, List.set_cons_succ]
      refine wpAnyH_take (i := 5) (oi := { dst := some 45, op := _, type := _, pos := _, after := _, guard := _ }) (v := ?_) rfl (by kernel_rfl) (by kernel_rfl) (by kernel_rfl) (fun _ _ _ h => nomatch h.1) (Or.inl ⟨by kernel_rfl, ?_⟩) hHeld0 ?_
      rotate_left
      · (intro w hSw; (try dsimp only at hSw); go_simp; (first | done | with_reducible rfl))
      try simp only [Act.put, List.setIfInBounds_toArray, List.set_cons_zero, List.set_cons_succ]
      refine wpAnyH_take (i := 6) (oi := { dst := some 46, op := _, type := _, pos := _, after := _, guard := _ }) (v := ?_) rfl (by kernel_rfl) (by kernel_rfl) (by kernel_rfl) (fun _ _ _ h => nomatch h.1) (Or.inl ⟨by kernel_rfl, ?_⟩) hHeld0 ?_
      rotate_left
      · (intro w hSw; (try dsimp only at hSw); go_simp; (first | done | with_reducible rfl))
      try simp only [Act.put, List.setIfInBounds_toArray, List.set_cons_zero, List.set_cons_succ]
      refine wpAnyH_take (i := 7) (oi := { dst := some 47, op := _, type := _, pos := _, after := _, guard := _ }) (v := ?_) rfl (by kernel_rfl) (by kernel_rfl) (by kernel_rfl) (fun _ _ _ h => nomatch h.1) (Or.inl ⟨by kernel_rfl, ?_⟩) hHeld0 ?_
      rotate_left
      · (intro w hSw; (try dsimp only at hSw); go_simp; (first | done | with_reducible rfl))
      try simp only [Act.put, List.setIfInBounds_toArray, List.set_cons_zero, List.set_cons_succ]
      refine wpAnyH_ready (rs := [4]) (by kernel_rfl) (by simp) ?_
      refine AllReadyH.cons (o := { dst := some 44, op := _, type := _, pos := _, after := _, guard := _ }) rfl (fun K hK => ?_) AllReadyH.nil
      go_simp
      skip
      refine hK.out _ _ (hHeld0) (fun hHeld1 => ?_)
      clear hK K hHeld0
      try simp only [Act.put, List.setIfInBounds_toArray, List.set_cons_zero, List.set_cons_succ]
      refine wpAnyH_ready (rs := [8]) (by kernel_rfl) (by simp) ?_
      refine AllReadyH.cons (o := { dst := some 48, op := _, type := _, pos := _, after := _, guard := _ }) rfl (fun K hK => ?_) AllReadyH.nil
      go_simp
      (go_at_call 44; (try rw [hwr]); refine HDL.out.mono ?_; rintro e w5 ⟨rfl, hg5, hR5⟩; have HZ := Aside0.mk (And.intro hg5 (HC5.out.2 w5 _ _ hg5 (Kd.R_mono hR5 (fun q hq => .inl hq)))); have ct5 : w5.cell? ⟨W.heap.size + 1, 0, none⟩ = some (.pointer (some ⟨g, k * 5, none⟩)) := (blk_cell (blk_grown HT1.out.1 hg5 (Kd.R_ne HC5.out.1 HT1.out.1 (by decide))) 0).trans rfl; have cb5 : w5.cell? ⟨b, 0, none⟩ = some (.int .i64 (m : Int)) := (blk_cell (blk_grown HT1.out.2.1 hg5 (Kd.R_ne HC5.out.1 HT1.out.2.1 (by decide))) 0).trans rfl; have cr5 : w5.cell? ⟨gr, 0, none⟩ = some (.int .i64 0) := (blk_cell (blk_grown HT1.out.2.2.1 hg5 (Kd.R_ne HC5.out.1 HT1.out.2.2.1 (by decide))) 0).trans rfl; have fr5 := blk_frozen (blk_grown HT1.out.2.2.1 hg5 (Kd.R_ne HC5.out.1 HT1.out.2.2.1 (by decide))) 0; have y1 := HZ.out.2.1; have y2 := HZ.out.2.2.1; clear hg5 hR5)
      refine hK.out _ _ ((fun _ => ⟨ct5, cb5⟩) hHeld1) (fun hHeld2 => ?_)
      clear hK K hHeld1
      try simp only [Act.put, List.setIfInBounds_toArray, List.set_cons_zero, List.set_cons_succ]
      refine wpAnyH_take (i := 9) (oi := { dst := some 49, op := _, type := _, pos := _, after := _, guard := _ }) (v := ?_) rfl (by kernel_rfl) (by kernel_rfl) (by kernel_rfl) (fun _ _ _ h => nomatch h.1) (Or.inl ⟨by kernel_rfl, ?_⟩) hHeld2 ?_
      rotate_left
      · (intro w hSw; (try dsimp only at hSw); go_simp; (first | done | with_reducible rfl))
      try simp only [Act.put, List.setIfInBounds_toArray, List.set_cons_zero, List.set_cons_succ]
      refine wpAnyH_take (i := 10) (oi := { dst := some 50, op := _, type := _, pos := _, after := _, guard := _ }) (v := ?_) rfl (by kernel_rfl) (by kernel_rfl) (by kernel_rfl) (fun _ _ _ h => nomatch h.1) (Or.inl ⟨by kernel_rfl, ?_⟩) hHeld2 ?_
      rotate_left
      · (intro w hSw; (try dsimp only at hSw); go_simp; (first | done | with_reducible rfl))
      try simp only [Act.put, List.setIfInBounds_toArray, List.set_cons_zero, List.set_cons_succ]
      refine wpAnyH_ready (rs := [11]) (by kernel_rfl) (by simp) ?_
      refine AllReadyH.cons (o := { dst := none, op := _, type := _, pos := _, after := _, guard := _ }) rfl (fun K hK => ?_) AllReadyH.nil
      go_simp
      skip
      refine hK.out _ _ ((fun _ => ⟨(World.cell?_setCell_far _ _ _ _ (fun e => HNT.out e.symm)).trans ct5, (World.cell?_setCell_far _ _ _ _ (fun e => HNB.out e.symm)).trans cb5⟩) hHeld2) (fun hHeld3 => ?_)
      clear hK K hHeld2
      try simp only [Act.put, List.setIfInBounds_toArray, List.set_cons_zero, List.set_cons_succ]
      refine wpAnyH_done (by kernel_rfl) ?_ _
      have hH := hHeld3
      clear hHeld3
      refine ⟨rfl, ?_⟩
      clear ct cb
      go_wp2
      have HF := InDid.drop (o' := .deferred none) HT1.out.2.2.2.1 HBW.out.1 HBW.out.2 HGR.out HDD.out HR.out HC5.out.1 HZ.out.1 HZ.out.2.2.2.1 HZ.out.2.2.2.2 (by decide) HT1.out.2.2.1 HT1.out.2.2.2.2
      refine ⟨by simp, .inl ⟨_, _, rfl, run_takeDeferred HF.1, ?_⟩⟩
      refine ⟨.int .i64 0, ?_, by rw [HE.out]; exact HF.2.2⟩
      have hc6 := HF.2.1
      simp [results, Tryz.f42, go_sem, hc6]
    · rintro D c pre W' hD hSS ⟨⟨rfl, hkd, hex⟩, hR1, hbw⟩ hK
      have HE := Aside0.mk (show (dropRulM ts schema table name ts[k]).1 = 62 by
        unfold dropRulM
        rw [HI.out, if_pos (by omega), Int.toNat_natCast, getD_at hm, hkd, need_yes hSS hex]
        rfl)
      have cr : W'.cell? ⟨gr, 0, none⟩ = some (.int .i64 62) := (blk_cell hR1 0).trans rfl
      have HF := Aside0.mk (InDid.err (ss := ss) (ts := ts) (k := k) (Bs := Bs) (ds := ds) (g := g) (dt := dt) 62 HE.out (by decide) (hbw.trans (belowK_b (w := W) (Nat.le_refl _) W' D _ (.deferred none) (Nat.le_trans HO.out.2.2.2.2.size hD) hK rfl rfl)) HBW.out.1)
      clear hSS hex hbw hR1 hseq HO HS HR hbW
      gi_wp2
      refine ⟨by simp, .inl ⟨_, _, rfl, run_takeDeferred hK, ?_⟩⟩
      have hc6 : (W'.putObj D (.deferred none)).cell? ⟨gr, 0, none⟩ = some (.int .i64 62) := cell_kept cr (grownBy_putObj' _ D (.deferred none)) (fun r e => by cases e; exact ⟨_, hK, rfl⟩)
      refine ⟨.int .i64 62, ?_, HF.out⟩
      simp [results, Tryz.f42, go_sem, hc6]
end Go.Proofs.YtmmiehckgkadgaaGreat.O
