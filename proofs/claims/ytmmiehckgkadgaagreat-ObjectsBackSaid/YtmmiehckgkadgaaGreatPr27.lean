/- Own lemmas and walks (SD, SE), without what the law does not need. Laid by a program of this session (prune.py). -/
import Derived.Test.YtmmiehckgkadgaaGreatPr13
import Derived.Test.YtmmiehckgkadgaaGreatPr19
import Derived.Test.YtmmiehckgkadgaaGreatPr22
namespace Go.Proofs.YtmmiehckgkadgaaGreat.O
set_option linter.unusedVariables false
set_option linter.unusedSimpArgs false
open Go.RowKit Go.Proofs.YtmmiehckgkadgaaGreatW.PrintWords Go.Sort
section
variable {ops : Array Oper} {o : Oper} {a : Act} {Q : Exit → Act → World → Prop} {Kc : Act → World → Prop}
theorem append_sch {W : World} (B : Nat) (hw : Region.wanted o (yielded ops a.tmps) = true) (s x : Operand) (ho : o.op = .call { callee := .builtin .append, args := #[s, x], argTypes := #[22, 22] })
    (v : Value) (xs : List Sch) (c : Sch) (oki : Nat → Prop) (hs : a.eval s = v) (hx : a.eval x = .slice (some ⟨W.heap.size, 0, none⟩) 1 1) (HO : kSch.R 76 W B oki v xs) (hB : B ≤ W.heap.size) (hl : xs.length ≤ 100000)
    (h : ∀ v1 w1, kSch.R 76 w1 B (fun q => oki q ∨ W.heap.size ≤ q) v1 (xs ++ [c]) → Below B W w1 → W.grownBy w1 v.ownBlock → Kc (a.put o.dst v1) w1) :
    if Region.wanted o (yielded ops a.tmps) = true then Oper.wp Tryz.prog o a (W.alloc (.cells #[.string c.name, .string c.owner] 76)) Kc Q else Kc (a.put o.dst undef) (W.alloc (.cells #[.string c.name, .string c.owner] 76)) :=
  Kd.R_append_step kSch B hw s x 22 76 (.agg #[(.string ⟨#[]⟩), (.string ⟨#[]⟩)]) 32 ho Tryz.underlying22 infoSch rfl (by decide) (by decide) v xs c [.string c.name, .string c.owner] (fun q => oki q ∨ W.heap.size ≤ q) (fun _ => False) hs hx (kSch_mkM _ _ _ c) (fun _ h => h.elim) (fun q hq => .inr hq) (Kd.R_mono HO (fun q hq => .inl hq)) (Below.refl _ _) hB (by omega) (fun v1 w1 h1 h2 h3 _ => h v1 w1 h1 h2 h3)
end
theorem R_addr {α : Type} {d : Kd α} {e b : Nat} {w : World} {ok : Nat → Prop} {v : Value} {xs : List α} (h : d.R e w b ok v xs) (hl : 0 < xs.length) : ∃ g c, v = .slice (some ⟨g, 0, none⟩) xs.length c := by
  obtain ⟨_, inner, ho, _⟩ := h
  rcases ho.2 with ⟨_, h⟩ | ⟨g', cap, cur, hv, _⟩
  · omega
  · exact ⟨g', cap, hv⟩
theorem name_ne {a b : ByteArray} (h : (a.toList == b.toList) = false) : cmpS b a < 0 ∨ cmpS a b < 0 := by
  rw [cmpS_lt, cmpS_lt]
  by_cases h1 : b.data.toList < a.data.toList
  · exact .inl h1
  · by_cases h2 : a.data.toList < b.data.toList
    · exact .inr h2
    · exfalso
      have e : a.data.toList = b.data.toList := List.le_antisymm (List.not_lt.1 h1) (List.not_lt.1 h2)
      rw [Lib.toList_data, Lib.toList_data, e] at h
      simp at h
theorem schs_rise {ss : List Sch} {ts : List Tab} (h : checkB ss ts = true) : ss.Pairwise (fun a b => ltOf cfS a b = true) := by
  unfold checkB at h
  simp only [Bool.and_eq_true] at h
  exact rises_pairwise (swo_key (fun x : Sch => x.name)).trans h.2.2.2.1
def sameS (name : ByteArray) (x : Sch) : Bool := x.name.toList == name.toList
def addSchR (ss : List Sch) (ts : List Tab) (name owner : ByteArray) : Res := if (nameB name && nameB owner) = true then (if 0 ≤ idx (sameS name) ss then (60, [], []) else if 8 ≤ ss.length then (2, [], []) else (0, ins (ltOf cfS) ⟨name, owner⟩ ss, ts)) else (1, [], [])
theorem Did.err {B g : Nat} {w w' : World} {r : Res} (n : Int) (hr : r = (n, [], [])) (hn : n ≠ 0) (hb : Below w.heap.size w w') (hB : B ≤ w.heap.size) : Did B w g r (.returned (.int .i64 n)) w' := by
  subst hr
  exact ⟨rfl, hb.mono hB, fun h => absurd h hn⟩
theorem Did.schs {B g : Nat} {w w1 w4 w5 : World} {ss ss' : List Sch} {ts : List Tab} {Bs Bt : Option Addr} {ds dt g5 c5 n : Nat} (hb1 : Below w.heap.size w w1) (hBw : B ≤ w.heap.size) (hBg : B ≤ g) (hR1 : kSch.R 76 w1 B (fun _ => True) (.slice Bs ss.length ds) ss)
    (hT1 : kTab.R 50 w1 B (fun _ => True) (.slice Bt ts.length dt) ts) (hG1 : w1.heap[g]? = some (.cells #[.slice Bs ss.length ds, .slice Bt ts.length dt] 25 (0, 0))) (hg4 : w1.grownBy w4 (Value.slice Bs ss.length ds).ownBlock) {xs : List Sch} (hR4 : kSch.R 76 w4 B (fun _ => True) (.slice (some ⟨g5, 0, none⟩) n c5) xs)
    (hg6 : (w4.setCell ⟨g, 0, none⟩ (.slice (some ⟨g5, 0, none⟩) n c5)).grownBy w5 (some g5)) (hR6 : kSch.R 76 w5 B (fun _ => True) (.slice (some ⟨g5, 0, none⟩) n c5) ss') : Did B w g (0, ss', ts) (.returned (.int .i64 0)) w5 := by
  have hG4 := blk_grown hG1 hg4 (Kd.R_ne hR1 hG1 (by decide))
  have hT4 := Kd.R_over' hT1 (Kd.R_typed hR1) (by decide) hg4
  have hb4 : Below B w w4 := (hb1.mono hBw).grown hg4 (Nat.le_trans hBw hb1.size) (fun q hq => Kd.R_base hR1 q hq)
  have hb5 : Below B w (w4.setCell ⟨g, 0, none⟩ (.slice (some ⟨g5, 0, none⟩) n c5)) := hb4.setCell (p := ⟨g, 0, none⟩) hBg _
  have hG5 := blk_set hG4 0 (.slice (some ⟨g5, 0, none⟩) n c5)
  have hT5 := Kd.R_set hT4 hG4 (by decide) 0 (.slice (some ⟨g5, 0, none⟩) n c5)
  have hR5 := Kd.R_set hR4 hG4 (by decide) 0 (.slice (some ⟨g5, 0, none⟩) n c5)
  have hG6 := blk_grown hG5 hg6 (Kd.R_ne hR5 hG5 (by decide))
  refine ⟨rfl, hb5.grown hg6 ?_ (fun q hq => Kd.R_base hR5 q hq), fun _ => ⟨_, _, hG6, hR6, Kd.R_over' hT5 (Kd.R_typed hR5) (by decide) hg6⟩⟩
  exact Nat.le_trans hBw hb5.size
set_option maxRecDepth 20000 in
set_option maxHeartbeats 4000000 in
theorem AddSchema1.calls (ss : List Sch) (ts : List Tab) (name owner : ByteArray) (w0 : World) (p q : Nat) (hp : w0.heap[p]? = some (.cells #[.string name] 9 (0, 0))) (hq : w0.heap[q]? = some (.cells #[.string owner] 9 (0, 0))) (hsl : ss.length ≤ 3000) (hck : checkB ss ts = true) :
    ∀ B g Bs ds Bt dt w, Below w0.heap.size w0 w → w0.heap.size ≤ B → Mine B g Bs Bt ds dt ss ts w → Calls Tryz.prog 52 (#[.pointer (some ⟨g, 0, none⟩)] ++ #[.pointer (some ⟨p, 0, none⟩), .pointer (some ⟨q, 0, none⟩)]) w (Did B w g (addSchR ss ts name owner)) := by
  intro B g Bs ds Bt dt w hW hwB hM
  show Calls Tryz.prog 52 #[.pointer (some ⟨g, 0, none⟩), .pointer (some ⟨p, 0, none⟩), .pointer (some ⟨q, 0, none⟩)] w _
  obtain ⟨hBg, hBw, hG, hR, hS⟩ := hM
  have HP := Aside0.mk (blk_below hp hW)
  have HQ := Aside0.mk (blk_below hq hW)
  have HG := Aside0.mk hG
  have HR := Aside0.mk hR
  have HS := Aside0.mk (Kd.S_R hS)
  have HBW := Aside0.mk (And.intro hBw hBg)
  have HX0 := Aside0.mk (Below.refl w.heap.size w)
  have HN1 := Aside0.mk (fun W => Name.calls name W)
  have HN2 := Aside0.mk (fun W => Name.calls owner W)
  have HNM := Aside0.mk (fun W' (hW' : Below w.heap.size w W') => byNameSch.calls Bs ds ss name W' (Kd.C_below (Kd.R_reads' hR).2.2 hW') (by omega))
  have HPW := Aside0.mk (schs_rise hck)
  clear hp hq hW hwB hG hR hS hBw hBg hck
  cases h1 : nameB name with
  | false =>
    have HE := Aside0.mk (show addSchR ss ts name owner = (1, [], []) by unfold addSchR; rw [h1]; rfl)
    rw [h1] at HN1
    clear h1 HN2 HNM HR HS HPW
    go_enter Tryz.func52, Tryz.ntmps52
    have c_g0 : w.cell? ⟨g, 0, none⟩ = some (Value.slice Bs ss.length ds) := (blk_cell HG.out 0).trans rfl
    have f_g0 := blk_frozen HG.out 0
    have c_g1 : w.cell? ⟨g, 1, none⟩ = some (Value.slice Bt ts.length dt) := (blk_cell HG.out 1).trans rfl
    have f_g1 := blk_frozen HG.out 1
    have c_p0 : w.cell? ⟨p, 0, none⟩ = some (Value.string name) := (blk_cell HP.out 0).trans rfl
    have f_p0 := blk_frozen HP.out 0
    have c_q0 : w.cell? ⟨q, 0, none⟩ = some (Value.string owner) := (blk_cell HQ.out 0).trans rfl
    have f_q0 := blk_frozen HQ.out 0
    go_wp2_with fail
    clear c_g0 f_g0 c_g1 f_g1 c_p0 f_p0 c_q0 f_q0
    refine (HN1.out _).mono ?_
    rintro e w_ ⟨rfl, rfl⟩
    have c_g0 : w.cell? ⟨g, 0, none⟩ = some (Value.slice Bs ss.length ds) := (blk_cell HG.out 0).trans rfl
    have f_g0 := blk_frozen HG.out 0
    have c_g1 : w.cell? ⟨g, 1, none⟩ = some (Value.slice Bt ts.length dt) := (blk_cell HG.out 1).trans rfl
    have f_g1 := blk_frozen HG.out 1
    have c_p0 : w.cell? ⟨p, 0, none⟩ = some (Value.string name) := (blk_cell HP.out 0).trans rfl
    have f_p0 := blk_frozen HP.out 0
    have c_q0 : w.cell? ⟨q, 0, none⟩ = some (Value.string owner) := (blk_cell HQ.out 0).trans rfl
    have f_q0 := blk_frozen HQ.out 0
    have HX := Aside0.mk (Did.err (g := g) 1 HE.out (by decide) (HX0.out) HBW.out.1)
    go_wp2
    go_ret
    exact HX.out
  | true =>
  rw [h1] at HN1
  cases h2 : nameB owner with
  | false =>
    have HE := Aside0.mk (show addSchR ss ts name owner = (1, [], []) by unfold addSchR; rw [h1, h2]; rfl)
    rw [h2] at HN2
    clear h1 h2 HNM HR HS HPW
    go_enter Tryz.func52, Tryz.ntmps52
    have c_g0 : w.cell? ⟨g, 0, none⟩ = some (Value.slice Bs ss.length ds) := (blk_cell HG.out 0).trans rfl
    have f_g0 := blk_frozen HG.out 0
    have c_g1 : w.cell? ⟨g, 1, none⟩ = some (Value.slice Bt ts.length dt) := (blk_cell HG.out 1).trans rfl
    have f_g1 := blk_frozen HG.out 1
    have c_p0 : w.cell? ⟨p, 0, none⟩ = some (Value.string name) := (blk_cell HP.out 0).trans rfl
    have f_p0 := blk_frozen HP.out 0
    have c_q0 : w.cell? ⟨q, 0, none⟩ = some (Value.string owner) := (blk_cell HQ.out 0).trans rfl
    have f_q0 := blk_frozen HQ.out 0
    go_wp2_with fail
    clear c_g0 f_g0 c_g1 f_g1 c_p0 f_p0 c_q0 f_q0
    refine (HN1.out _).mono ?_
    rintro e w_ ⟨rfl, rfl⟩
    have c_g0 : w.cell? ⟨g, 0, none⟩ = some (Value.slice Bs ss.length ds) := (blk_cell HG.out 0).trans rfl
    have f_g0 := blk_frozen HG.out 0
    have c_g1 : w.cell? ⟨g, 1, none⟩ = some (Value.slice Bt ts.length dt) := (blk_cell HG.out 1).trans rfl
    have f_g1 := blk_frozen HG.out 1
    have c_p0 : w.cell? ⟨p, 0, none⟩ = some (Value.string name) := (blk_cell HP.out 0).trans rfl
    have f_p0 := blk_frozen HP.out 0
    have c_q0 : w.cell? ⟨q, 0, none⟩ = some (Value.string owner) := (blk_cell HQ.out 0).trans rfl
    have f_q0 := blk_frozen HQ.out 0
    go_wp2_with fail
    clear c_g0 f_g0 c_g1 f_g1 c_p0 f_p0 c_q0 f_q0
    refine (HN2.out _).mono ?_
    rintro e w_ ⟨rfl, rfl⟩
    have c_g0 : w.cell? ⟨g, 0, none⟩ = some (Value.slice Bs ss.length ds) := (blk_cell HG.out 0).trans rfl
    have f_g0 := blk_frozen HG.out 0
    have c_g1 : w.cell? ⟨g, 1, none⟩ = some (Value.slice Bt ts.length dt) := (blk_cell HG.out 1).trans rfl
    have f_g1 := blk_frozen HG.out 1
    have c_p0 : w.cell? ⟨p, 0, none⟩ = some (Value.string name) := (blk_cell HP.out 0).trans rfl
    have f_p0 := blk_frozen HP.out 0
    have c_q0 : w.cell? ⟨q, 0, none⟩ = some (Value.string owner) := (blk_cell HQ.out 0).trans rfl
    have f_q0 := blk_frozen HQ.out 0
    have HX := Aside0.mk (Did.err (g := g) 1 HE.out (by decide) (HX0.out) HBW.out.1)
    go_wp2
    go_ret
    exact HX.out
  | true =>
  have HE0 := Aside0.mk (show addSchR ss ts name owner = (if 0 ≤ idx (sameS name) ss then (60, [], []) else if 8 ≤ ss.length then (2, [], []) else (0, ins (ltOf cfS) ⟨name, owner⟩ ss, ts)) by unfold addSchR; rw [h1, h2]; rfl)
  rw [h2] at HN2
  clear h1 h2
  rcases idx_cases (sameS name) ss with ⟨m, hm, hi, y1, y2⟩ | ⟨hi, y1⟩
  · have HE := Aside0.mk (show addSchR ss ts name owner = (60, [], []) by rw [HE0.out, hi, if_pos (by omega)])
    rw [show idx (fun x : Sch => x.name.toList == name.toList) ss = (m : Int) from hi] at HNM
    have hd : decide ((0 : Int) ≤ (m : Int)) = true := decide_eq_true (by omega)
    clear hm hi y1 y2 HE0 HR HS HPW
    go_enter Tryz.func52, Tryz.ntmps52
    have c_g0 : w.cell? ⟨g, 0, none⟩ = some (Value.slice Bs ss.length ds) := (blk_cell HG.out 0).trans rfl
    have f_g0 := blk_frozen HG.out 0
    have c_g1 : w.cell? ⟨g, 1, none⟩ = some (Value.slice Bt ts.length dt) := (blk_cell HG.out 1).trans rfl
    have f_g1 := blk_frozen HG.out 1
    have c_p0 : w.cell? ⟨p, 0, none⟩ = some (Value.string name) := (blk_cell HP.out 0).trans rfl
    have f_p0 := blk_frozen HP.out 0
    have c_q0 : w.cell? ⟨q, 0, none⟩ = some (Value.string owner) := (blk_cell HQ.out 0).trans rfl
    have f_q0 := blk_frozen HQ.out 0
    go_wp2_with fail
    clear c_g0 f_g0 c_g1 f_g1 c_p0 f_p0 c_q0 f_q0
    refine (HN1.out _).mono ?_
    rintro e w_ ⟨rfl, rfl⟩
    have c_g0 : w.cell? ⟨g, 0, none⟩ = some (Value.slice Bs ss.length ds) := (blk_cell HG.out 0).trans rfl
    have f_g0 := blk_frozen HG.out 0
    have c_g1 : w.cell? ⟨g, 1, none⟩ = some (Value.slice Bt ts.length dt) := (blk_cell HG.out 1).trans rfl
    have f_g1 := blk_frozen HG.out 1
    have c_p0 : w.cell? ⟨p, 0, none⟩ = some (Value.string name) := (blk_cell HP.out 0).trans rfl
    have f_p0 := blk_frozen HP.out 0
    have c_q0 : w.cell? ⟨q, 0, none⟩ = some (Value.string owner) := (blk_cell HQ.out 0).trans rfl
    have f_q0 := blk_frozen HQ.out 0
    go_wp2_with fail
    clear c_g0 f_g0 c_g1 f_g1 c_p0 f_p0 c_q0 f_q0
    refine (HN2.out _).mono ?_
    rintro e w_ ⟨rfl, rfl⟩
    have c_g0 : w.cell? ⟨g, 0, none⟩ = some (Value.slice Bs ss.length ds) := (blk_cell HG.out 0).trans rfl
    have f_g0 := blk_frozen HG.out 0
    have c_g1 : w.cell? ⟨g, 1, none⟩ = some (Value.slice Bt ts.length dt) := (blk_cell HG.out 1).trans rfl
    have f_g1 := blk_frozen HG.out 1
    have c_p0 : w.cell? ⟨p, 0, none⟩ = some (Value.string name) := (blk_cell HP.out 0).trans rfl
    have f_p0 := blk_frozen HP.out 0
    have c_q0 : w.cell? ⟨q, 0, none⟩ = some (Value.string owner) := (blk_cell HQ.out 0).trans rfl
    have f_q0 := blk_frozen HQ.out 0
    go_wp2
    go_region_held3 (fun w' => w'.cell? ⟨g, 0, none⟩ = some (.slice Bs ss.length ds) ∧ w'.cell? ⟨p, 0, none⟩ = some (.string name) ∧ Below w.heap.size w w')
      (first | exact keep3b (by assumption) (by assumption) | exact ⟨c_g0, c_p0, below_drew (Below.refl _ _)⟩)
      (first | (go_at_call 54; refine (HNM.out _ ?_).mono ?_; exact below_drew (Below.refl _ _); rintro e w' ⟨rfl, hbx⟩))
    rename_i hH
    have hb2 := hH.2.2
    clear c_g0 f_g0 c_g1 f_g1 c_p0 f_p0 c_q0 f_q0
    have HB2 := Aside0.mk (below_step (HX0.out) hb2)
    have HK1 := Aside0.mk (blk_below (HG.out) hb2)
    have HK2 := Aside0.mk (blk_below (HP.out) hb2)
    have HK3 := Aside0.mk (blk_below (HQ.out) hb2)
    clear hH hbx HNM
    have c_g0 : w'.cell? ⟨g, 0, none⟩ = some (Value.slice Bs ss.length ds) := (blk_cell HK1.out 0).trans rfl
    have f_g0 := blk_frozen HK1.out 0
    have c_g1 : w'.cell? ⟨g, 1, none⟩ = some (Value.slice Bt ts.length dt) := (blk_cell HK1.out 1).trans rfl
    have f_g1 := blk_frozen HK1.out 1
    have c_p0 : w'.cell? ⟨p, 0, none⟩ = some (Value.string name) := (blk_cell HK2.out 0).trans rfl
    have f_p0 := blk_frozen HK2.out 0
    have c_q0 : w'.cell? ⟨q, 0, none⟩ = some (Value.string owner) := (blk_cell HK3.out 0).trans rfl
    have f_q0 := blk_frozen HK3.out 0
    have HX := Aside0.mk (Did.err (g := g) 60 HE.out (by decide) (HB2.out) HBW.out.1)
    go_wp2
    go_ret
    exact HX.out
  · rw [show idx (fun x : Sch => x.name.toList == name.toList) ss = -1 from hi] at HNM
    have hd : decide ((0 : Int) ≤ -1) = false := rfl
    by_cases h8 : 8 ≤ ss.length
    · have HE := Aside0.mk (show addSchR ss ts name owner = (2, [], []) by rw [HE0.out, hi, if_neg (by omega), if_pos h8])
      have hd8 : decide ((8 : Int) ≤ (ss.length : Int)) = true := decide_eq_true (by omega)
      clear hi y1 HE0 HR HS HPW
      go_enter Tryz.func52, Tryz.ntmps52
      have c_g0 : w.cell? ⟨g, 0, none⟩ = some (Value.slice Bs ss.length ds) := (blk_cell HG.out 0).trans rfl
      have f_g0 := blk_frozen HG.out 0
      have c_g1 : w.cell? ⟨g, 1, none⟩ = some (Value.slice Bt ts.length dt) := (blk_cell HG.out 1).trans rfl
      have f_g1 := blk_frozen HG.out 1
      have c_p0 : w.cell? ⟨p, 0, none⟩ = some (Value.string name) := (blk_cell HP.out 0).trans rfl
      have f_p0 := blk_frozen HP.out 0
      have c_q0 : w.cell? ⟨q, 0, none⟩ = some (Value.string owner) := (blk_cell HQ.out 0).trans rfl
      have f_q0 := blk_frozen HQ.out 0
      go_wp2_with fail
      clear c_g0 f_g0 c_g1 f_g1 c_p0 f_p0 c_q0 f_q0
      refine (HN1.out _).mono ?_
      rintro e w_ ⟨rfl, rfl⟩
      have c_g0 : w.cell? ⟨g, 0, none⟩ = some (Value.slice Bs ss.length ds) := (blk_cell HG.out 0).trans rfl
      have f_g0 := blk_frozen HG.out 0
      have c_g1 : w.cell? ⟨g, 1, none⟩ = some (Value.slice Bt ts.length dt) := (blk_cell HG.out 1).trans rfl
      have f_g1 := blk_frozen HG.out 1
      have c_p0 : w.cell? ⟨p, 0, none⟩ = some (Value.string name) := (blk_cell HP.out 0).trans rfl
      have f_p0 := blk_frozen HP.out 0
      have c_q0 : w.cell? ⟨q, 0, none⟩ = some (Value.string owner) := (blk_cell HQ.out 0).trans rfl
      have f_q0 := blk_frozen HQ.out 0
      go_wp2_with fail
      clear c_g0 f_g0 c_g1 f_g1 c_p0 f_p0 c_q0 f_q0
      refine (HN2.out _).mono ?_
      rintro e w_ ⟨rfl, rfl⟩
      have c_g0 : w.cell? ⟨g, 0, none⟩ = some (Value.slice Bs ss.length ds) := (blk_cell HG.out 0).trans rfl
      have f_g0 := blk_frozen HG.out 0
      have c_g1 : w.cell? ⟨g, 1, none⟩ = some (Value.slice Bt ts.length dt) := (blk_cell HG.out 1).trans rfl
      have f_g1 := blk_frozen HG.out 1
      have c_p0 : w.cell? ⟨p, 0, none⟩ = some (Value.string name) := (blk_cell HP.out 0).trans rfl
      have f_p0 := blk_frozen HP.out 0
      have c_q0 : w.cell? ⟨q, 0, none⟩ = some (Value.string owner) := (blk_cell HQ.out 0).trans rfl
      have f_q0 := blk_frozen HQ.out 0
      go_wp2
      go_region_held3 (fun w' => w'.cell? ⟨g, 0, none⟩ = some (.slice Bs ss.length ds) ∧ w'.cell? ⟨p, 0, none⟩ = some (.string name) ∧ Below w.heap.size w w')
        (first | exact keep3b (by assumption) (by assumption) | exact ⟨c_g0, c_p0, below_drew (Below.refl _ _)⟩)
        (first | (go_at_call 54; refine (HNM.out _ ?_).mono ?_; exact below_drew (Below.refl _ _); rintro e w' ⟨rfl, hbx⟩))
      rename_i hH
      have hb2 := hH.2.2
      clear c_g0 f_g0 c_g1 f_g1 c_p0 f_p0 c_q0 f_q0
      have HB2 := Aside0.mk (below_step (HX0.out) hb2)
      have HK1 := Aside0.mk (blk_below (HG.out) hb2)
      have HK2 := Aside0.mk (blk_below (HP.out) hb2)
      have HK3 := Aside0.mk (blk_below (HQ.out) hb2)
      clear hH hbx HNM
      have c_g0 : w'.cell? ⟨g, 0, none⟩ = some (Value.slice Bs ss.length ds) := (blk_cell HK1.out 0).trans rfl
      have f_g0 := blk_frozen HK1.out 0
      have c_g1 : w'.cell? ⟨g, 1, none⟩ = some (Value.slice Bt ts.length dt) := (blk_cell HK1.out 1).trans rfl
      have f_g1 := blk_frozen HK1.out 1
      have c_p0 : w'.cell? ⟨p, 0, none⟩ = some (Value.string name) := (blk_cell HK2.out 0).trans rfl
      have f_p0 := blk_frozen HK2.out 0
      have c_q0 : w'.cell? ⟨q, 0, none⟩ = some (Value.string owner) := (blk_cell HK3.out 0).trans rfl
      have f_q0 := blk_frozen HK3.out 0
      have HX := Aside0.mk (Did.err (g := g) 2 HE.out (by decide) (HB2.out) HBW.out.1)
      go_wp2
      go_ret
      exact HX.out
    · have HE := Aside0.mk (show addSchR ss ts name owner = (0, ins (ltOf cfS) ⟨name, owner⟩ ss, ts) by rw [HE0.out, hi, if_neg (by omega), if_neg h8])
      have hd8 : decide ((8 : Int) ≤ (ss.length : Int)) = false := decide_eq_false (by omega)
      have HNE := Aside0.mk (show ∀ a ∈ ss, ltOf cfS ⟨name, owner⟩ a = true ∨ ltOf cfS a ⟨name, owner⟩ = true from fun a ha => by
        obtain ⟨j, hj, rfl⟩ := List.getElem_of_mem ha
        rcases name_ne (y1 j hj) with h | h
        · exact .inl (decide_eq_true h)
        · exact .inr (decide_eq_true h))
      have hl1 : (ss ++ [(⟨name, owner⟩ : Sch)]).length = ss.length + 1 := by simp
      clear hi y1 HE0
      go_enter Tryz.func52, Tryz.ntmps52
      have c_g0 : w.cell? ⟨g, 0, none⟩ = some (Value.slice Bs ss.length ds) := (blk_cell HG.out 0).trans rfl
      have f_g0 := blk_frozen HG.out 0
      have c_g1 : w.cell? ⟨g, 1, none⟩ = some (Value.slice Bt ts.length dt) := (blk_cell HG.out 1).trans rfl
      have f_g1 := blk_frozen HG.out 1
      have c_p0 : w.cell? ⟨p, 0, none⟩ = some (Value.string name) := (blk_cell HP.out 0).trans rfl
      have f_p0 := blk_frozen HP.out 0
      have c_q0 : w.cell? ⟨q, 0, none⟩ = some (Value.string owner) := (blk_cell HQ.out 0).trans rfl
      have f_q0 := blk_frozen HQ.out 0
      go_wp2_with fail
      clear c_g0 f_g0 c_g1 f_g1 c_p0 f_p0 c_q0 f_q0
      refine (HN1.out _).mono ?_
      rintro e w_ ⟨rfl, rfl⟩
      have c_g0 : w.cell? ⟨g, 0, none⟩ = some (Value.slice Bs ss.length ds) := (blk_cell HG.out 0).trans rfl
      have f_g0 := blk_frozen HG.out 0
      have c_g1 : w.cell? ⟨g, 1, none⟩ = some (Value.slice Bt ts.length dt) := (blk_cell HG.out 1).trans rfl
      have f_g1 := blk_frozen HG.out 1
      have c_p0 : w.cell? ⟨p, 0, none⟩ = some (Value.string name) := (blk_cell HP.out 0).trans rfl
      have f_p0 := blk_frozen HP.out 0
      have c_q0 : w.cell? ⟨q, 0, none⟩ = some (Value.string owner) := (blk_cell HQ.out 0).trans rfl
      have f_q0 := blk_frozen HQ.out 0
      go_wp2_with fail
      clear c_g0 f_g0 c_g1 f_g1 c_p0 f_p0 c_q0 f_q0
      refine (HN2.out _).mono ?_
      rintro e w_ ⟨rfl, rfl⟩
      have c_g0 : w.cell? ⟨g, 0, none⟩ = some (Value.slice Bs ss.length ds) := (blk_cell HG.out 0).trans rfl
      have f_g0 := blk_frozen HG.out 0
      have c_g1 : w.cell? ⟨g, 1, none⟩ = some (Value.slice Bt ts.length dt) := (blk_cell HG.out 1).trans rfl
      have f_g1 := blk_frozen HG.out 1
      have c_p0 : w.cell? ⟨p, 0, none⟩ = some (Value.string name) := (blk_cell HP.out 0).trans rfl
      have f_p0 := blk_frozen HP.out 0
      have c_q0 : w.cell? ⟨q, 0, none⟩ = some (Value.string owner) := (blk_cell HQ.out 0).trans rfl
      have f_q0 := blk_frozen HQ.out 0
      go_wp2
      go_region_held3 (fun w' => w'.cell? ⟨g, 0, none⟩ = some (.slice Bs ss.length ds) ∧ w'.cell? ⟨p, 0, none⟩ = some (.string name) ∧ Below w.heap.size w w')
        (first | exact keep3b (by assumption) (by assumption) | exact ⟨c_g0, c_p0, below_drew (Below.refl _ _)⟩)
        (first | (go_at_call 54; refine (HNM.out _ ?_).mono ?_; exact below_drew (Below.refl _ _); rintro e w' ⟨rfl, hbx⟩))
      rename_i hH
      have hb2 := hH.2.2
      clear c_g0 f_g0 c_g1 f_g1 c_p0 f_p0 c_q0 f_q0
      have HB2 := Aside0.mk (below_step (HX0.out) hb2)
      have HK1 := Aside0.mk (blk_below (HG.out) hb2)
      have HK2 := Aside0.mk (blk_below (HP.out) hb2)
      have HK3 := Aside0.mk (blk_below (HQ.out) hb2)
      clear hH hbx HNM
      have HR2 := Aside0.mk (Kd.R_drew (Kd.R_below HR.out hb2))
      have HT2 := Aside0.mk (Kd.R_drew (Kd.R_below HS.out hb2))
      have HG2 := Aside0.mk (show w'.drew.heap[g]? = some (.cells #[.slice Bs ss.length ds, .slice Bt ts.length dt] 25 (0, 0)) from HK1.out)
      have HLE := Aside0.mk (show B ≤ w'.drew.heap.size from Nat.le_trans HBW.out.1 hb2.size)
      clear hb2
      have c_g0 : w'.cell? ⟨g, 0, none⟩ = some (Value.slice Bs ss.length ds) := (blk_cell HK1.out 0).trans rfl
      have f_g0 := blk_frozen HK1.out 0
      have c_g1 : w'.cell? ⟨g, 1, none⟩ = some (Value.slice Bt ts.length dt) := (blk_cell HK1.out 1).trans rfl
      have f_g1 := blk_frozen HK1.out 1
      have c_p0 : w'.cell? ⟨p, 0, none⟩ = some (Value.string name) := (blk_cell HK2.out 0).trans rfl
      have f_p0 := blk_frozen HK2.out 0
      have c_q0 : w'.cell? ⟨q, 0, none⟩ = some (Value.string owner) := (blk_cell HK3.out 0).trans rfl
      have f_q0 := blk_frozen HK3.out 0
      have a_g0 : ∀ o, (w'.alloc o).cell? ⟨g, 0, none⟩ = some (Value.slice Bs ss.length ds) := fun o => (blk_cell (blk_alloc (o' := o) (HK1.out)) 0).trans rfl
      have a_p0 : ∀ o, (w'.alloc o).cell? ⟨p, 0, none⟩ = some (Value.string name) := fun o => (blk_cell (blk_alloc (o' := o) (HK2.out)) 0).trans rfl
      have a_q0 : ∀ o, (w'.alloc o).cell? ⟨q, 0, none⟩ = some (Value.string owner) := fun o => (blk_cell (blk_alloc (o' := o) (HK3.out)) 0).trans rfl
      go_wp2
      go_region_law ((refine append_sch (W := w'.drew) B (by rfl) (.tmp 33) (.tmp 37) rfl (.slice Bs ss.length ds) ss ⟨name, owner⟩ (fun _ => True) (by rfl) (by rfl) HR2.out HLE.out (by omega) ?_; intro v1 w4 hR4 hb4 hg4; obtain ⟨g5, c5, rfl⟩ := R_addr hR4 (by simp); have hG4 := blk_grown HG2.out hg4 (Kd.R_ne HR2.out HG2.out (by decide)); have HX := Aside0.mk (And.intro hg4 (Kd.R_mono hR4 (fun _ _ => trivial))); have HG4 := Aside0.mk hG4; have y0 : w4.cell? ⟨g, 0, none⟩ = some (Value.slice Bs ss.length ds) := (blk_cell hG4 0).trans rfl; have y1 := blk_frozen hG4 0; clear hR4 hb4 hg4 hG4))
      all_goals
        rw [hl1] at HX
        have HX2 := Aside0.mk (sortSch.calls (ss ++ [⟨name, owner⟩]) (w4.setCell ⟨g, 0, none⟩ (.slice (some ⟨g5, 0, none⟩) (ss.length + 1) c5)) (base := B) (ok := fun _ => True) (g := g5) (c := c5) (by rw [hl1]; omega) (by rw [hl1]; omega) (by rw [hl1]; exact Kd.R_set HX.out.2 HG4.out (by decide) 0 _))
        rw [hl1] at HX2
        clear c_g0 f_g0 c_g1 f_g1 c_p0 f_p0 c_q0 f_q0
        clear a_g0 a_p0 a_q0
        go_wp2_with (first | (go_at_call 56; refine HX2.out.mono ?_; rintro e w5 ⟨rfl, d', hp', hs', hR6, hg6⟩))
        have HF := Aside0.mk (Did.schs (below_drew HB2.out) HBW.out.1 HBW.out.2 HR2.out HT2.out HG2.out HX.out.1 HX.out.2 hg6 hR6)
        rw [sorted_ins (swo_key (fun x : Sch => x.name)) HPW.out HNE.out (by simp) hp' hs'] at HF
        clear hp' hs' hR6 hg6 HX HX2
        go_ret
        rw [HE.out]
        exact HF.out
end Go.Proofs.YtmmiehckgkadgaaGreat.O
namespace Go.Proofs.YtmmiehckgkadgaaGreat.O
set_option linter.unusedVariables false
set_option linter.unusedSimpArgs false
open Go.RowKit Go.Proofs.YtmmiehckgkadgaaGreatW.PrintWords Go.Sort
def dropSchR (ss : List Sch) (ts : List Tab) (name : ByteArray) : Res := if 0 ≤ idx (sameS name) ss then (if 0 < cnt (ofS name) ts then (62, [], []) else (0, ss.eraseIdx (idx (sameS name) ss).toNat, ts)) else (61, [], [])
theorem Did.set {B g : Nat} {w w1 w4 : World} {ss ss' : List Sch} {ts : List Tab} {Bs Bt : Option Addr} {ds dt : Nat} {v1 : Value} (hb1 : Below w.heap.size w w1) (hBw : B ≤ w.heap.size) (hBg : B ≤ g) (hR1 : kSch.R 76 w1 B (fun _ => True) (.slice Bs ss.length ds) ss)
    (hT1 : kTab.R 50 w1 B (fun _ => True) (.slice Bt ts.length dt) ts) (hG1 : w1.heap[g]? = some (.cells #[.slice Bs ss.length ds, .slice Bt ts.length dt] 25 (0, 0))) (hg4 : w1.grownBy w4 (Value.slice Bs ss.length ds).ownBlock) (hR4 : kSch.R 76 w4 B (fun _ => True) v1 ss') : Did B w g (0, ss', ts) (.returned (.int .i64 0)) (w4.setCell ⟨g, 0, none⟩ v1) := by
  have hG4 := blk_grown hG1 hg4 (Kd.R_ne hR1 hG1 (by decide))
  have hT4 := Kd.R_over' hT1 (Kd.R_typed hR1) (by decide) hg4
  have hb4 : Below B w w4 := (hb1.mono hBw).grown hg4 (Nat.le_trans hBw hb1.size) (fun q hq => Kd.R_base hR1 q hq)
  exact ⟨rfl, hb4.setCell (p := ⟨g, 0, none⟩) hBg _, fun _ => ⟨_, _, blk_set hG4 0 v1, Kd.R_set hR4 hG4 (by decide) 0 _, Kd.R_set hT4 hG4 (by decide) 0 _⟩⟩
theorem keep4b {w0 w w' : World} {v0 v1 v2 : Value} {a0 a1 a2 : Addr} (h : w.cell? a0 = some v0 ∧ w.cell? a1 = some v1 ∧ w.cell? a2 = some v2 ∧ Below w0.heap.size w0 w) (hb : Below w.heap.size w w') : w'.cell? a0 = some v0 ∧ w'.cell? a1 = some v1 ∧ w'.cell? a2 = some v2 ∧ Below w0.heap.size w0 w' := ⟨pw_cell_below hb h.1, pw_cell_below hb h.2.1, pw_cell_below hb h.2.2.1, below_step h.2.2.2 hb⟩
set_option maxRecDepth 20000 in
set_option maxHeartbeats 4000000 in
theorem DropSchema1.calls (ss : List Sch) (ts : List Tab) (name : ByteArray) (w0 : World) (p : Nat) (hp : w0.heap[p]? = some (.cells #[.string name] 9 (0, 0))) (hsl : ss.length ≤ 3000) (htl : ts.length ≤ 3000) :
    ∀ B g Bs ds Bt dt w, Below w0.heap.size w0 w → w0.heap.size ≤ B → Mine B g Bs Bt ds dt ss ts w → Calls Tryz.prog 64 (#[.pointer (some ⟨g, 0, none⟩)] ++ #[.pointer (some ⟨p, 0, none⟩)]) w (Did B w g (dropSchR ss ts name)) := by
  intro B g Bs ds Bt dt w hW hwB hM
  show Calls Tryz.prog 64 #[.pointer (some ⟨g, 0, none⟩), .pointer (some ⟨p, 0, none⟩)] w _
  obtain ⟨hBg, hBw, hG, hR, hS⟩ := hM
  have HP := Aside0.mk (blk_below hp hW)
  have HG := Aside0.mk hG
  have HR := Aside0.mk hR
  have HS := Aside0.mk (Kd.S_R hS)
  have HBW := Aside0.mk (And.intro hBw hBg)
  have HX0 := Aside0.mk (Below.refl w.heap.size w)
  have HNM := Aside0.mk (fun W' (hW' : Below w.heap.size w W') => byNameSch.calls Bs ds ss name W' (Kd.C_below (Kd.R_reads' hR).2.2 hW') (by omega))
  have HWI := Aside0.mk (fun W' (hW' : Below w.heap.size w W') => within.calls (As := Bs) (ns := ss.length) (cs := ds) (ct := dt) ts name W' (Kd.C_below (Kd.R_reads' (Kd.S_R hS)).2.2 hW') (by omega))
  clear hp hW hwB hG hS hBw hBg
  rcases idx_cases (sameS name) ss with ⟨m, hm, hi, y1, y2⟩ | ⟨hi, y1⟩
  rotate_left
  · have HE := Aside0.mk (show dropSchR ss ts name = (61, [], []) by unfold dropSchR; rw [hi]; rfl)
    rw [show idx (fun x : Sch => x.name.toList == name.toList) ss = -1 from hi] at HNM
    have hd : decide ((-1 : Int) < 0) = true := rfl
    clear hi y1 HR HS hR HWI
    go_enter Tryz.func64, Tryz.ntmps64
    have c_g0 : w.cell? ⟨g, 0, none⟩ = some (Value.slice Bs ss.length ds) := (blk_cell HG.out 0).trans rfl
    have f_g0 := blk_frozen HG.out 0
    have c_g1 : w.cell? ⟨g, 1, none⟩ = some (Value.slice Bt ts.length dt) := (blk_cell HG.out 1).trans rfl
    have f_g1 := blk_frozen HG.out 1
    have c_p0 : w.cell? ⟨p, 0, none⟩ = some (Value.string name) := (blk_cell HP.out 0).trans rfl
    have f_p0 := blk_frozen HP.out 0
    go_wp2
    go_region_held3 (fun w' => w'.cell? ⟨g, 0, none⟩ = some (.slice Bs ss.length ds) ∧ w'.cell? ⟨p, 0, none⟩ = some (.string name) ∧ Below w.heap.size w w')
      (first | exact keep3b (by assumption) (by assumption) | exact ⟨c_g0, c_p0, below_drew (Below.refl _ _)⟩)
      (first | (go_at_call 54; refine (HNM.out _ ?_).mono ?_; exact below_drew (Below.refl _ _); rintro e w1 ⟨rfl, hbx⟩))
    rename_i hH
    have hb2 := hH.2.2
    clear c_g0 f_g0 c_g1 f_g1 c_p0 f_p0
    have HB2 := Aside0.mk (below_step (HX0.out) hb2)
    have HK1 := Aside0.mk (blk_below (HG.out) hb2)
    have HK2 := Aside0.mk (blk_below (HP.out) hb2)
    have HS2 := Aside0.mk hb2
    clear hH hbx hb2 HNM
    have c_g0 : w1.cell? ⟨g, 0, none⟩ = some (Value.slice Bs ss.length ds) := (blk_cell HK1.out 0).trans rfl
    have f_g0 := blk_frozen HK1.out 0
    have c_g1 : w1.cell? ⟨g, 1, none⟩ = some (Value.slice Bt ts.length dt) := (blk_cell HK1.out 1).trans rfl
    have f_g1 := blk_frozen HK1.out 1
    have c_p0 : w1.cell? ⟨p, 0, none⟩ = some (Value.string name) := (blk_cell HK2.out 0).trans rfl
    have f_p0 := blk_frozen HK2.out 0
    have HX := Aside0.mk (Did.err (g := g) 61 HE.out (by decide) (HB2.out) HBW.out.1)
    go_wp2
    go_ret
    exact HX.out
  have HE0 := Aside0.mk (show dropSchR ss ts name = (if 0 < cnt (ofS name) ts then (62, [], []) else (0, ss.eraseIdx m, ts)) by unfold dropSchR; rw [hi, if_pos (show (0 : Int) ≤ (m : Int) by omega), Int.toNat_natCast])
  rw [show idx (fun x : Sch => x.name.toList == name.toList) ss = (m : Int) from hi] at HNM
  have hd : decide ((m : Int) < 0) = false := decide_eq_false (by omega)
  clear hi y1 y2
  by_cases hc : 0 < cnt (ofS name) ts
  · have HE := Aside0.mk (show dropSchR ss ts name = (62, [], []) by rw [HE0.out, if_pos hc])
    have hd2 : decide ((0 : Int) < (cnt (ofS name) ts : Int)) = true := decide_eq_true (by omega)
    clear HE0 HR HS hR
    go_enter Tryz.func64, Tryz.ntmps64
    have c_g0 : w.cell? ⟨g, 0, none⟩ = some (Value.slice Bs ss.length ds) := (blk_cell HG.out 0).trans rfl
    have f_g0 := blk_frozen HG.out 0
    have c_g1 : w.cell? ⟨g, 1, none⟩ = some (Value.slice Bt ts.length dt) := (blk_cell HG.out 1).trans rfl
    have f_g1 := blk_frozen HG.out 1
    have c_p0 : w.cell? ⟨p, 0, none⟩ = some (Value.string name) := (blk_cell HP.out 0).trans rfl
    have f_p0 := blk_frozen HP.out 0
    go_wp2
    go_region_held3 (fun w' => w'.cell? ⟨g, 0, none⟩ = some (.slice Bs ss.length ds) ∧ w'.cell? ⟨p, 0, none⟩ = some (.string name) ∧ Below w.heap.size w w')
      (first | exact keep3b (by assumption) (by assumption) | exact ⟨c_g0, c_p0, below_drew (Below.refl _ _)⟩)
      (first | (go_at_call 54; refine (HNM.out _ ?_).mono ?_; exact below_drew (Below.refl _ _); rintro e w1 ⟨rfl, hbx⟩))
    rename_i hH
    have hb2 := hH.2.2
    clear c_g0 f_g0 c_g1 f_g1 c_p0 f_p0
    have HB2 := Aside0.mk (below_step (HX0.out) hb2)
    have HK1 := Aside0.mk (blk_below (HG.out) hb2)
    have HK2 := Aside0.mk (blk_below (HP.out) hb2)
    have HS2 := Aside0.mk hb2
    clear hH hbx hb2 HNM
    have c_g0 : w1.cell? ⟨g, 0, none⟩ = some (Value.slice Bs ss.length ds) := (blk_cell HK1.out 0).trans rfl
    have f_g0 := blk_frozen HK1.out 0
    have c_g1 : w1.cell? ⟨g, 1, none⟩ = some (Value.slice Bt ts.length dt) := (blk_cell HK1.out 1).trans rfl
    have f_g1 := blk_frozen HK1.out 1
    have c_p0 : w1.cell? ⟨p, 0, none⟩ = some (Value.string name) := (blk_cell HK2.out 0).trans rfl
    have f_p0 := blk_frozen HK2.out 0
    go_wp2
    go_region_held3 (fun w' => w'.cell? ⟨g, 0, none⟩ = some (.slice Bs ss.length ds) ∧ w'.cell? ⟨g, 1, none⟩ = some (.slice Bt ts.length dt) ∧ w'.cell? ⟨p, 0, none⟩ = some (.string name) ∧ Below w1.heap.size w1 w')
      (first | exact keep4b (by assumption) (by assumption) | exact ⟨c_g0, c_g1, c_p0, below_drew (Below.refl _ _)⟩)
      (first | (go_at_call 65; refine (HWI.out _ ?_).mono ?_; exact below_drew HB2.out; rintro e w2 ⟨rfl, hbx⟩))
    rename_i hH
    have hb3 := hH.2.2.2
    clear c_g0 f_g0 c_g1 f_g1 c_p0 f_p0
    have HB3 := Aside0.mk (below_step (HB2.out) hb3)
    have HK3 := Aside0.mk (blk_below (HK1.out) hb3)
    have HK4 := Aside0.mk (blk_below (HK2.out) hb3)
    clear hH hbx hb3 HWI
    have c_g0 : w2.cell? ⟨g, 0, none⟩ = some (Value.slice Bs ss.length ds) := (blk_cell HK3.out 0).trans rfl
    have f_g0 := blk_frozen HK3.out 0
    have c_g1 : w2.cell? ⟨g, 1, none⟩ = some (Value.slice Bt ts.length dt) := (blk_cell HK3.out 1).trans rfl
    have f_g1 := blk_frozen HK3.out 1
    have c_p0 : w2.cell? ⟨p, 0, none⟩ = some (Value.string name) := (blk_cell HK4.out 0).trans rfl
    have f_p0 := blk_frozen HK4.out 0
    have HX := Aside0.mk (Did.err (g := g) 62 HE.out (by decide) (HB3.out) HBW.out.1)
    go_wp2
    go_ret
    exact HX.out
  · have HE := Aside0.mk (show dropSchR ss ts name = (0, ss.eraseIdx m, ts) by rw [HE0.out, if_neg hc])
    have hd2 : decide ((0 : Int) < (cnt (ofS name) ts : Int)) = false := decide_eq_false (by omega)
    obtain ⟨gs, c5, e5⟩ := R_addr hR (by omega)
    have e6 : Bs = some ⟨gs, 0, none⟩ := by injection e5
    clear e5
    subst e6
    clear HE0 hR
    go_enter Tryz.func64, Tryz.ntmps64
    have c_g0 : w.cell? ⟨g, 0, none⟩ = some (Value.slice (some ⟨gs, 0, none⟩) ss.length ds) := (blk_cell HG.out 0).trans rfl
    have f_g0 := blk_frozen HG.out 0
    have c_g1 : w.cell? ⟨g, 1, none⟩ = some (Value.slice Bt ts.length dt) := (blk_cell HG.out 1).trans rfl
    have f_g1 := blk_frozen HG.out 1
    have c_p0 : w.cell? ⟨p, 0, none⟩ = some (Value.string name) := (blk_cell HP.out 0).trans rfl
    have f_p0 := blk_frozen HP.out 0
    go_wp2
    go_region_held3 (fun w' => w'.cell? ⟨g, 0, none⟩ = some (.slice (some ⟨gs, 0, none⟩) ss.length ds) ∧ w'.cell? ⟨p, 0, none⟩ = some (.string name) ∧ Below w.heap.size w w')
      (first | exact keep3b (by assumption) (by assumption) | exact ⟨c_g0, c_p0, below_drew (Below.refl _ _)⟩)
      (first | (go_at_call 54; refine (HNM.out _ ?_).mono ?_; exact below_drew (Below.refl _ _); rintro e w1 ⟨rfl, hbx⟩))
    rename_i hH
    have hb2 := hH.2.2
    clear c_g0 f_g0 c_g1 f_g1 c_p0 f_p0
    have HB2 := Aside0.mk (below_step (HX0.out) hb2)
    have HK1 := Aside0.mk (blk_below (HG.out) hb2)
    have HK2 := Aside0.mk (blk_below (HP.out) hb2)
    have HS2 := Aside0.mk hb2
    clear hH hbx hb2 HNM
    have c_g0 : w1.cell? ⟨g, 0, none⟩ = some (Value.slice (some ⟨gs, 0, none⟩) ss.length ds) := (blk_cell HK1.out 0).trans rfl
    have f_g0 := blk_frozen HK1.out 0
    have c_g1 : w1.cell? ⟨g, 1, none⟩ = some (Value.slice Bt ts.length dt) := (blk_cell HK1.out 1).trans rfl
    have f_g1 := blk_frozen HK1.out 1
    have c_p0 : w1.cell? ⟨p, 0, none⟩ = some (Value.string name) := (blk_cell HK2.out 0).trans rfl
    have f_p0 := blk_frozen HK2.out 0
    go_wp2
    go_region_held3 (fun w' => w'.cell? ⟨g, 0, none⟩ = some (.slice (some ⟨gs, 0, none⟩) ss.length ds) ∧ w'.cell? ⟨g, 1, none⟩ = some (.slice Bt ts.length dt) ∧ w'.cell? ⟨p, 0, none⟩ = some (.string name) ∧ Below w1.heap.size w1 w')
      (first | exact keep4b (by assumption) (by assumption) | exact ⟨c_g0, c_g1, c_p0, below_drew (Below.refl _ _)⟩)
      (first | (go_at_call 65; refine (HWI.out _ ?_).mono ?_; exact below_drew HB2.out; rintro e w2 ⟨rfl, hbx⟩))
    rename_i hH
    have hb3 := hH.2.2.2
    clear c_g0 f_g0 c_g1 f_g1 c_p0 f_p0
    have HB3 := Aside0.mk (below_step (HB2.out) hb3)
    have HK3 := Aside0.mk (blk_below (HK1.out) hb3)
    have HK4 := Aside0.mk (blk_below (HK2.out) hb3)
    clear hH hbx hb3 HWI
    have HR3 := Aside0.mk (Kd.R_below HR.out HB3.out)
    have HT3 := Aside0.mk (Kd.R_below HS.out HB3.out)
    have HDL := Aside0.mk (deleteSch.calls ss w2 B gs ds m (fun _ => True) hm hsl HR3.out)
    have c_g0 : w2.cell? ⟨g, 0, none⟩ = some (Value.slice (some ⟨gs, 0, none⟩) ss.length ds) := (blk_cell HK3.out 0).trans rfl
    have f_g0 := blk_frozen HK3.out 0
    have c_g1 : w2.cell? ⟨g, 1, none⟩ = some (Value.slice Bt ts.length dt) := (blk_cell HK3.out 1).trans rfl
    have f_g1 := blk_frozen HK3.out 1
    have c_p0 : w2.cell? ⟨p, 0, none⟩ = some (Value.string name) := (blk_cell HK4.out 0).trans rfl
    have f_p0 := blk_frozen HK4.out 0
    go_wp2_with (first | (go_at_call 66; refine HDL.out.mono ?_; rintro e w4 ⟨rfl, hg4, hR4⟩; have HF := Aside0.mk (Did.set HB3.out HBW.out.1 HBW.out.2 HR3.out HT3.out HK3.out hg4 hR4); have hG4 := blk_grown (HK3.out) hg4 (Kd.R_ne HR3.out (HK3.out) (by decide)); have y0 : w4.cell? ⟨g, 0, none⟩ = some (.slice (some ⟨gs, 0, none⟩) ss.length ds) := (blk_cell hG4 0).trans rfl; have y1 := blk_frozen hG4 0; clear hg4 hR4 hG4))
    go_ret
    rw [HE.out]
    exact HF.out
def addSchema (ss : List Sch) (ts : List Tab) (name owner : ByteArray) : Res := chg ss ts (addSchR ss ts name owner)
set_option maxRecDepth 20000 in
set_option maxHeartbeats 2000000 in
theorem AddSchema.calls {As At : Option Addr} {cs ct : Nat} (ss : List Sch) (ts : List Tab) (name owner : ByteArray) (w : World) (hs : kSch.C w As ss.length ss) (hsl : ss.length ≤ 3000) (ht : kTab.C w At ts.length ts) (hF : TabsF ts) (hB : TabsB ts) :
    Calls Tryz.prog 15 #[.agg #[.slice As ss.length cs, .slice At ts.length ct], .string name, .string owner] w (Out w (addSchema ss ts name owner)) := by
  have H3 := Aside0.mk (boxes4 w (.cells #[.slice As ss.length cs, .slice At ts.length ct] 25) (.cells #[.string name] 9) (.cells #[.string owner] 9) (.cells #[.slice none 0 0, .slice none 0 0] 25))
  have HT := Aside0.mk (fun (W : World) (hW : Below w.heap.size w W) (p q : Nat) (hp : W.heap[p]? = some (.cells #[.string name] 9 (0, 0))) (hq : W.heap[q]? = some (.cells #[.string owner] 9 (0, 0))) => changed.calls (As := As) (At := At) (cs := cs) (ct := ct) 52 #[.pointer (some ⟨p, 0, none⟩), .pointer (some ⟨q, 0, none⟩)] ss ts _ W (Kd.C_below hs hW) hsl (Kd.C_below ht hW) hF hB (enters Tryz.func52 (by decide) rfl) (fun hck => AddSchema1.calls ss ts name owner W p q hp hq hsl hck))
  clear hs ht hF hB
  unfold addSchema
  generalize chg ss ts (addSchR ss ts name owner) = q at *
  go_enter Tryz.func15, Tryz.ntmps15
  go_wp2_with fail
  refine (HT.out _ H3.out.1 (w.heap.size + 1) (w.heap.size + 1 + 1) H3.out.2.2.1 H3.out.2.2.2.1).mono ?_
  rintro e w2 ⟨vs, vt, rfl, h1, h2, hb⟩
  obtain ⟨Es, es, rfl⟩ := Kd.R_slice h1
  obtain ⟨Et, et, rfl⟩ := Kd.R_slice h2
  have hZ := H3.out.2.2.2.2
  have hZ2 := blk_below hZ hb
  have z0 : w2.cell? ⟨w.heap.size + 1 + 1 + 1, 0, none⟩ = some (.slice none 0 0) := (blk_cell hZ2 0).trans rfl
  have z1 : w2.cell? ⟨w.heap.size + 1 + 1 + 1, 1, none⟩ = some (.slice none 0 0) := (blk_cell hZ2 1).trans rfl
  have f0 := blk_frozen hZ2 0
  have f1 := blk_frozen hZ2 1
  have HX := Aside0.mk (Out.wrap (g := w.heap.size + 1 + 1 + 1) H3.out.1 (by omega) hZ h1 h2 hb)
  clear h1 h2 hb hZ2 hZ H3 HT
  go_wp2
  refine bodyPost_ret (v := .tuple #[.agg #[.slice Es q.2.1.length es, .slice Et q.2.2.length et], .int .i64 q.1]) (by simp [results, Tryz.results15, go_sem, *]) rfl ?_
  exact ⟨_, _, rfl, HX.out⟩
def dropSchema (ss : List Sch) (ts : List Tab) (name : ByteArray) : Res := chg ss ts (dropSchR ss ts name)
set_option maxRecDepth 20000 in
set_option maxHeartbeats 2000000 in
theorem DropSchema.calls {As At : Option Addr} {cs ct : Nat} (ss : List Sch) (ts : List Tab) (name : ByteArray) (w : World) (hs : kSch.C w As ss.length ss) (hsl : ss.length ≤ 3000) (ht : kTab.C w At ts.length ts) (hF : TabsF ts) (hB : TabsB ts) :
    Calls Tryz.prog 18 #[.agg #[.slice As ss.length cs, .slice At ts.length ct], .string name] w (Out w (dropSchema ss ts name)) := by
  have H3 := Aside0.mk (boxes3 w (.cells #[.slice As ss.length cs, .slice At ts.length ct] 25) (.cells #[.string name] 9) (.cells #[.slice none 0 0, .slice none 0 0] 25))
  have HT := Aside0.mk (fun (W : World) (hW : Below w.heap.size w W) (p : Nat) (hp : W.heap[p]? = some (.cells #[.string name] 9 (0, 0))) => changed.calls (As := As) (At := At) (cs := cs) (ct := ct) 64 #[.pointer (some ⟨p, 0, none⟩)] ss ts _ W (Kd.C_below hs hW) hsl (Kd.C_below ht hW) hF hB (enters Tryz.func64 (by decide) rfl) (fun hck => DropSchema1.calls ss ts name W p hp hsl hB.1))
  clear hs ht hF hB
  unfold dropSchema
  generalize chg ss ts (dropSchR ss ts name) = q at *
  go_enter Tryz.func18, Tryz.ntmps18
  go_wp2_with fail
  refine (HT.out _ H3.out.1 (w.heap.size + 1) H3.out.2.2.1).mono ?_
  rintro e w2 ⟨vs, vt, rfl, h1, h2, hb⟩
  obtain ⟨Es, es, rfl⟩ := Kd.R_slice h1
  obtain ⟨Et, et, rfl⟩ := Kd.R_slice h2
  have hZ := H3.out.2.2.2
  have hZ2 := blk_below hZ hb
  have z0 : w2.cell? ⟨w.heap.size + 1 + 1, 0, none⟩ = some (.slice none 0 0) := (blk_cell hZ2 0).trans rfl
  have z1 : w2.cell? ⟨w.heap.size + 1 + 1, 1, none⟩ = some (.slice none 0 0) := (blk_cell hZ2 1).trans rfl
  have f0 := blk_frozen hZ2 0
  have f1 := blk_frozen hZ2 1
  have HX := Aside0.mk (Out.wrap (g := w.heap.size + 1 + 1) H3.out.1 (by omega) hZ h1 h2 hb)
  clear h1 h2 hb hZ2 hZ H3 HT
  go_wp2
  refine bodyPost_ret (v := .tuple #[.agg #[.slice Es q.2.1.length es, .slice Et q.2.2.length et], .int .i64 q.1]) (by simp [results, Tryz.results18, go_sem, *]) rfl ?_
  exact ⟨_, _, rfl, HX.out⟩
end Go.Proofs.YtmmiehckgkadgaaGreat.O
