/- Own lemmas and walks (CM, UC, UB), without what the law does not need. Laid by a program of this session (prune.py). -/
import Derived.Test.YtmmiehckgkadgaaGreatPr12
import Derived.Test.YtmmiehckgkadgaaGreatPr15
namespace Go.Proofs.YtmmiehckgkadgaaGreat.O
set_option linter.unusedVariables false
set_option linter.unusedSimpArgs false
open Go.RowKit Go.Proofs.YtmmiehckgkadgaaGreatW.PrintWords
def Spr (S : Nat → Prop) (w w' : World) : Prop := w'.os = w.os ∧ w'.tape = w.tape ∧ w'.output = w.output ∧ w.heap.size ≤ w'.heap.size ∧ ∀ k, k < w.heap.size → ¬ S k → w'.heap[k]? = w.heap[k]?
def Ovr (S : Nat → Prop) (w w' : World) : Prop := w'.os = w.os ∧ w'.tape = w.tape ∧ w'.output = w.output ∧ w'.heap.size = w.heap.size ∧ (∀ k, ¬ S k → w'.heap[k]? = w.heap[k]?) ∧
  ∀ (k : Nat) (cs : Array Value) (t : TypeId), w.heap[k]? = some (.cells cs t (0, 0)) → ∃ cs' : Array Value, w'.heap[k]? = some (.cells cs' t (0, 0)) ∧ ∀ j : Nat, cs'[j]? = cs[j]? ∨ ∃ s s' : ByteArray, cs[j]? = some (.string s) ∧ cs'[j]? = some (.string s')
theorem Ovr.refl (S : Nat → Prop) (w : World) : Ovr S w w := ⟨rfl, rfl, rfl, rfl, fun _ _ => rfl, fun k cs t h => ⟨cs, h, fun j => .inl rfl⟩⟩
theorem Spr.of_below {S : Nat → Prop} {w w' : World} (h : Below w.heap.size w w') : Spr S w w' := ⟨h.os, h.tape, h.output, h.size, fun k hk _ => h.block k hk⟩
theorem Spr.trans {S : Nat → Prop} {a b c : World} (h : Spr S a b) (k : Spr S b c) : Spr S a c := ⟨k.1.trans h.1, k.2.1.trans h.2.1, k.2.2.1.trans h.2.2.1, Nat.le_trans h.2.2.2.1 k.2.2.2.1, fun i hi hn => (k.2.2.2.2 i (Nat.lt_of_lt_of_le hi h.2.2.2.1) hn).trans (h.2.2.2.2 i hi hn)⟩
theorem Spr.below {S : Nat → Prop} {B : Nat} {w w' : World} (h : Spr S w w') (hS : ∀ k, S k → B ≤ k) (hB : B ≤ w.heap.size) : Below B w w' := ⟨h.1, h.2.1, h.2.2.1, h.2.2.2.1, fun k hk => h.2.2.2.2 k (Nat.lt_of_lt_of_le hk hB) (fun hs => by have := hS k hs; omega)⟩
def Pl (w : World) (g : Nat) : Prop := ∃ cs t, w.heap[g]? = some (.cells cs t (0, 0))
theorem Ovr.slice {S : Nat → Prop} {w w' : World} {g j : Nat} {A : Option Addr} {n c : Nat} (h : Ovr S w w') (hp : Pl w g) (hc : w.cell? ⟨g, j, none⟩ = some (.slice A n c)) : w'.cell? ⟨g, j, none⟩ = some (.slice A n c) := by
  obtain ⟨cs, t, hg⟩ := hp
  rw [blk_cell hg] at hc
  obtain ⟨cs', hg', hj⟩ := h.2.2.2.2.2 g cs t hg
  rw [blk_cell hg']
  rcases hj j with e | ⟨s, s', e, _⟩
  · rw [e]; exact hc
  · rw [e] at hc; cases hc
end Go.Proofs.YtmmiehckgkadgaaGreat.O
namespace Go.Proofs.YtmmiehckgkadgaaGreat.O
set_option linter.unusedVariables false
set_option linter.unusedSimpArgs false
open Go.RowKit Go.Proofs.YtmmiehckgkadgaaGreatW.PrintWords
def SprX (X : Nat → Prop) (B : Nat) (w w' : World) : Prop := Spr (fun k => B ≤ k ∨ X k) w w'
theorem SprX.of {X : Nat → Prop} {B : Nat} {w w' : World} (h : Below B w w') : SprX X B w w' := ⟨h.os, h.tape, h.output, h.size, fun k _ hn => h.block k (Nat.lt_of_not_le fun e => hn (.inl e))⟩
theorem SprX.size {X : Nat → Prop} {B : Nat} {w w' : World} (h : SprX X B w w') : w.heap.size ≤ w'.heap.size := h.2.2.2.1
theorem SprX.trans {X : Nat → Prop} {B : Nat} {a b c : World} (h : SprX X B a b) (k : SprX X B b c) : SprX X B a c := Spr.trans h k
theorem SprX.mono {X : Nat → Prop} {B B' : Nat} {w w' : World} (h : SprX X B' w w') (hB : B ≤ B') : SprX X B w w' := ⟨h.1, h.2.1, h.2.2.1, h.2.2.2.1, fun k hk hn => h.2.2.2.2 k hk (fun e => hn (e.elim (fun e => .inl (Nat.le_trans hB e)) .inr))⟩
theorem SprX.set {X : Nat → Prop} {B : Nat} {w w' : World} (h : SprX X B w w') {g : Nat} (hg : B ≤ g ∨ X g) (j : Nat) (v : Value) : SprX X B w (w'.setCell ⟨g, j, none⟩ v) :=
  have hb := (Below.refl 0 w').setCell (p := ⟨g, j, none⟩) (Nat.zero_le _) v
  ⟨hb.os.trans h.1, hb.tape.trans h.2.1, hb.output.trans h.2.2.1, Nat.le_trans h.2.2.2.1 hb.size, fun k hk hn => (Below.heap_setCell _ _ _ k (fun e => hn (by rw [show k = g from e]; exact hg))).trans (h.2.2.2.2 k hk hn)⟩
theorem SprX.blk {X : Nat → Prop} {B : Nat} {w w' : World} (h : SprX X B w w') {g : Nat} {o : Obj} (hz : w.heap[g]? = some o) (hl : g < B) (hx : ¬ X g) : w'.heap[g]? = some o := (h.2.2.2.2 g (Array.getElem?_eq_some_iff.1 hz).1 (fun e => e.elim (fun e => absurd hl (Nat.not_lt.2 e)) hx)).trans hz
theorem SprX.below {X : Nat → Prop} {B B' : Nat} {w w' : World} (h : SprX X B w w') (hB : B' ≤ B) (hX : ∀ k, X k → B' ≤ k) (hs : B' ≤ w.heap.size) : Below B' w w' := Spr.below h (fun k hk => hk.elim (Nat.le_trans hB) (hX k)) hs
def OutX (X : Nat → Prop) (w : World) (r : Res) (e : Ending) (w' : World) : Prop := ∃ vs vt, e = .returned (.tuple #[.agg #[vs, vt], .int .i64 r.1]) ∧ kSch.R 76 w' w.heap.size (fun _ => True) vs r.2.1 ∧ kTab.R 50 w' w.heap.size (fun _ => True) vt r.2.2 ∧ SprX X w.heap.size w w'
def DidX (X : Nat → Prop) (B : Nat) (W : World) (g : Nat) (r : Res) (e : Ending) (w' : World) : Prop := e = .returned (.int .i64 r.1) ∧ SprX X B W w' ∧ (r.1 = 0 → ∃ vs vt, w'.heap[g]? = some (.cells #[vs, vt] 25 (0, 0)) ∧ kSch.R 76 w' B (fun _ => True) vs r.2.1 ∧ kTab.R 50 w' B (fun _ => True) vt r.2.2)
def InDidX (X : Nat → Prop) (B : Nat) (W : World) (ss : List Sch) (ts : List Tab) (k : Nat) (Bs : Option Addr) (ds g dt : Nat) (r : Int × Tab) (e : Ending) (w' : World) : Prop := e = .returned (.int .i64 r.1) ∧ SprX X B W w' ∧ (∀ (q : Nat) (cs : Array Value), W.heap[q]? = some (.cells cs 25 (0, 0)) → w'.heap[q]? = some (.cells cs 25 (0, 0))) ∧
  (r.1 = 0 → kSch.R 76 w' B (fun _ => True) (.slice Bs ss.length ds) ss ∧ Kd.S kTab 50 w' B (fun _ => True) (.slice (some ⟨g, 0, none⟩) ts.length dt) (ts.set k r.2))
def InnerX (X : Nat → Prop) (f : Nat) (caps : Array Value) (w : World) (ss : List Sch) (ts : List Tab) (md : Tab → Int × Tab) : Prop := ∀ (k : Nat) (hk : k < ts.length) B W Bs ds g dt, InAsk w B W ss ts Bs ds g dt → Calls Tryz.prog f (#[.agg #[.slice Bs ss.length ds, .slice (some ⟨g, 0, none⟩) ts.length dt], .pointer (some ⟨g, k * 5, none⟩)] ++ caps) W (InDidX X B W ss ts k Bs ds g dt (md ts[k]))
theorem OutX.wrap {X : Nat → Prop} {w W w1 : World} {g : Nat} {vs vt : Value} {ss : List Sch} {ts : List Tab} (hW : Below w.heap.size w W) (hg : w.heap.size ≤ g) (hX : ¬ X g) (hZ : W.heap[g]? = some (.cells #[.slice none 0 0, .slice none 0 0] 25 (0, 0))) (hs : kSch.R 76 w1 W.heap.size (fun _ => True) vs ss) (ht : kTab.R 50 w1 W.heap.size (fun _ => True) vt ts) (hb : SprX X W.heap.size W w1) :
    kSch.R 76 ((w1.setCell ⟨g, 0, none⟩ vs).setCell ⟨g, 1, none⟩ vt) w.heap.size (fun _ => True) vs ss ∧ kTab.R 50 ((w1.setCell ⟨g, 0, none⟩ vs).setCell ⟨g, 1, none⟩ vt) w.heap.size (fun _ => True) vt ts ∧ SprX X w.heap.size w ((w1.setCell ⟨g, 0, none⟩ vs).setCell ⟨g, 1, none⟩ vt) :=
  have hz := hb.blk hZ (blk_lt hZ) hX
  ⟨R_only (Kd.R_lower hs hW.size) hz (by decide) (set2_far w1 g vs vt), R_only (Kd.R_lower ht hW.size) hz (by decide) (set2_far w1 g vs vt), (((SprX.of hW).trans (hb.mono hW.size)).set (.inl hg) 0 vs).set (.inl hg) 1 vt⟩
set_option maxRecDepth 20000 in
set_option maxHeartbeats 2000000 in
theorem changedX.calls (X : Nat → Prop) {As At : Option Addr} {cs ct : Nat} (f : Nat) (caps : Array Value) (ss : List Sch) (ts : List Tab) (r : Res) (w : World) (hX : ∀ k, X k → k < w.heap.size) (hs : kSch.C w As ss.length ss) (hsl : ss.length ≤ 3000) (ht : kTab.C w At ts.length ts) (hF : TabsF ts) (hB : TabsB ts)
    (hent : ∀ (xs : Array Value) (W : World), (callFunc f xs).run Tryz.prog W = .ok (.enter f xs) W) (hdo : checkB ss ts = true → ∀ B g Bs ds Bt dt W, Below w.heap.size w W → w.heap.size ≤ B → Mine B g Bs Bt ds dt ss ts W → Calls Tryz.prog f (#[.pointer (some ⟨g, 0, none⟩)] ++ caps) W (DidX X B W g r)) :
    Calls Tryz.prog 51 #[.agg #[.slice As ss.length cs, .slice At ts.length ct], .func (.func f) #[] caps] w (OutX X w (chg ss ts r)) := by
  have HCK := Aside0.mk (fun W (hW : Below w.heap.size w W) => Check.calls (As := As) (cs := cs) (At := At) (ct := ct) ss ts W (Kd.C_below hs hW) (by omega) (Kd.C_below ht hW) hF)
  have HOW := Aside0.mk (fun W (hW : Below w.heap.size w W) => own.calls (As := As) (cs := cs) (At := At) (ct := ct) ss ts W (Kd.C_below hs hW) hsl (Kd.C_below ht hW) hB)
  have HB2 := Aside0.mk (boxes2 w (.cells #[.slice As ss.length cs, .slice At ts.length ct] 25) (.cells #[.slice none 0 0, .slice none 0 0] 25))
  have HDO := Aside0.mk hdo
  have HXX := Aside0.mk hX
  generalize hq : chg ss ts r = q
  have HQ := Aside0.mk hq
  clear hs ht hF hB hq hdo hX
  cases hck : checkB ss ts with
  | false =>
    have HE : Aside0 (checkE ss ts = 63) := ⟨by unfold checkE; rw [hck]; rfl⟩
    have HQ2 : Aside0 (q = (63, [], [])) := ⟨by rw [← HQ.out]; unfold chg; rw [hck]; rfl⟩
    clear hck HQ HDO HOW
    go_enter Tryz.func51, Tryz.ntmps51
    go_wp2_with fail
    refine (HCK.out _ HB2.out.1).mono ?_
    rintro e w1 ⟨rfl, hb1⟩
    rw [HE.out]
    have hK1 := blk_below HB2.out.2.1 hb1
    have hZ1 := blk_below HB2.out.2.2 hb1
    have z0 : w1.cell? ⟨w.heap.size + 1, 0, none⟩ = some (.slice none 0 0) := (blk_cell hZ1 0).trans rfl
    have z1 : w1.cell? ⟨w.heap.size + 1, 1, none⟩ = some (.slice none 0 0) := (blk_cell hZ1 1).trans rfl
    have f0 := blk_frozen hZ1 0
    have f1 := blk_frozen hZ1 1
    have HB1 := Aside0.mk (set2_below (g := w.heap.size + 1) (below_step HB2.out.1 hb1) (Nat.le_succ _) (.slice none 0 0) (.slice none 0 0))
    clear hb1 hK1 hZ1 HB2 HCK
    go_wp2
    refine bodyPost_ret (v := .tuple #[.agg #[.slice none 0 0, .slice none 0 0], .int .i64 63]) (by simp [results, Tryz.results51, go_sem, *]) rfl ?_
    rw [HQ2.out]
    exact ⟨_, _, rfl, Kd.R_nil _ _ _ _ _, Kd.R_nil _ _ _ _ _, SprX.of HB1.out⟩
  | true =>
    have HE : Aside0 (checkE ss ts = 0) := ⟨by unfold checkE; rw [hck]; rfl⟩
    have HD := Aside0.mk (HDO.out hck)
    clear hck HDO
    go_enter Tryz.func51, Tryz.ntmps51
    go_wp2_with fail
    refine (HCK.out _ HB2.out.1).mono ?_
    rintro e w1 ⟨rfl, hb1⟩
    rw [HE.out]
    have hK1 := blk_below HB2.out.2.1 hb1
    have hZ1 := blk_below HB2.out.2.2 hb1
    have c0 : w1.cell? ⟨w.heap.size, 0, none⟩ = some (.slice As ss.length cs) := (blk_cell hK1 0).trans rfl
    have c1 : w1.cell? ⟨w.heap.size, 1, none⟩ = some (.slice At ts.length ct) := (blk_cell hK1 1).trans rfl
    have HB1 := Aside0.mk (below_step HB2.out.1 hb1)
    clear hb1 hK1
    go_wp2_with fail
    refine (HOW.out _ HB1.out).mono ?_
    rintro e w2 ⟨Bs, ds, Bt, dt, rfl, hR, hS, hb2⟩
    have hZ2 := blk_below hZ1 hb2
    have HZ := Aside0.mk hZ2
    have HM := Aside0.mk (show Mine w1.heap.size w2.heap.size Bs Bt ds dt ss ts (w2.alloc (.cells #[.slice Bs ss.length ds, .slice Bt ts.length dt] 25)) from ⟨hb2.size, (below_alloc hb2 _).size, blk_new w2 _, Kd.R_alloc hR _, Kd.S_alloc hS _⟩)
    have HW := Aside0.mk (below_alloc (below_step HB1.out hb2) (.cells #[.slice Bs ss.length ds, .slice Bt ts.length dt] 25))
    have HZ := Aside0.mk (And.intro (blk_alloc hZ2 (.cells #[.slice Bs ss.length ds, .slice Bt ts.length dt] 25)) (blk_lt hZ1))
    clear c0 c1 hZ1 hR hS hb2 hZ2
    go_wp2_with fail
    refine (HD.out _ _ _ _ _ _ _ HW.out HB1.out.size HM.out).mono ?_
    rintro e w3 ⟨rfl, hb3, hres⟩
    have hZ3 := hb3.blk HZ.out.1 HZ.out.2 (fun e => by have := HXX.out _ e; omega)
    have z0 : w3.cell? ⟨w.heap.size + 1, 0, none⟩ = some (.slice none 0 0) := (blk_cell hZ3 0).trans rfl
    have z1 : w3.cell? ⟨w.heap.size + 1, 1, none⟩ = some (.slice none 0 0) := (blk_cell hZ3 1).trans rfl
    have f0 := blk_frozen hZ3 0
    have f1 := blk_frozen hZ3 1
    have HB3 := Aside0.mk ((SprX.of HW.out).trans (hb3.mono HB1.out.size))
    have HB1s := Aside0.mk HB1.out.size
    have HR := Aside0.mk hres
    have HZ3 := Aside0.mk hZ3
    clear hres hb3 HW HM HD HZ hZ3 HB2 HCK HOW HB1
    by_cases h0 : r.1 = 0
    · obtain ⟨vs, vt, hg, hRs, hRt⟩ := HR.out h0
      obtain ⟨Es, es, rfl⟩ := Kd.R_slice hRs
      obtain ⟨Et, et, rfl⟩ := Kd.R_slice hRt
      have c0 : w3.cell? ⟨w2.heap.size, 0, none⟩ = some (.slice Es r.2.1.length es) := (blk_cell hg 0).trans rfl
      have c1 : w3.cell? ⟨w2.heap.size, 1, none⟩ = some (.slice Et r.2.2.length et) := (blk_cell hg 1).trans rfl
      have HX := Aside0.mk (And.intro (R_only (Kd.R_lower hRs HB1s.out) HZ3.out (by decide) (set2_far w3 (w.heap.size + 1) (.slice Es r.2.1.length es) (.slice Et r.2.2.length et)))
        (And.intro (R_only (Kd.R_lower hRt HB1s.out) HZ3.out (by decide) (set2_far w3 (w.heap.size + 1) (.slice Es r.2.1.length es) (.slice Et r.2.2.length et)))
        ((HB3.out.set (.inl (Nat.le_succ _)) 0 (.slice Es r.2.1.length es)).set (.inl (Nat.le_succ _)) 1 (.slice Et r.2.2.length et))))
      have HQ2 := Aside0.mk (show q = r by rw [← HQ.out]; unfold chg; rw [if_pos (by have := HE.out; unfold checkE at this; split at this; assumption; cases this), if_pos h0])
      have HE0 := Aside0.mk h0
      rw [h0]
      clear h0 hg hRs hRt HR HQ HB3 HZ3
      go_wp2
      refine bodyPost_ret (v := .tuple #[.agg #[.slice Es r.2.1.length es, .slice Et r.2.2.length et], .int .i64 0]) (by simp [results, Tryz.results51, go_sem, *]) rfl ?_
      rw [HQ2.out]
      exact ⟨_, _, by rw [HE0.out], HX.out⟩
    · have hne : (r.1 == 0) = false := beq_eq_false_iff_ne.2 h0
      have hn2 : (r.1 != 0) = true := bne_iff_ne.2 h0
      have HX := Aside0.mk ((HB3.out.set (g := w.heap.size + 1) (.inl (Nat.le_succ _)) 0 (.slice none 0 0)).set (.inl (Nat.le_succ _)) 1 (.slice none 0 0))
      have HQ2 := Aside0.mk (show q = (r.1, [], []) by rw [← HQ.out]; unfold chg; rw [if_pos (by have := HE.out; unfold checkE at this; split at this; assumption; cases this), if_neg h0])
      generalize r.1 = n at *
      clear HR HQ HB3 HZ3
      go_wp2
      refine bodyPost_ret (v := .tuple #[.agg #[.slice none 0 0, .slice none 0 0], .int .i64 n]) (by simp [results, Tryz.results51, go_sem, *]) rfl ?_
      rw [HQ2.out]
      exact ⟨_, _, rfl, Kd.R_nil _ _ _ _ _, Kd.R_nil _ _ _ _ _, HX.out⟩
theorem blk_spr {X : Nat → Prop} {B : Nat} {w w' : World} {v : Value} {p : Nat} (h : SprX X B w w') (hc : w.cell? ⟨p, 0, none⟩ = some v) (hl : p < B) (hx : ¬ X p) : w'.cell? ⟨p, 0, none⟩ = some v := by
  have hlt := World.block_lt_of_cell? w _ hc
  have e := h.2.2.2.2 p hlt (fun e => e.elim (fun e => absurd hl (Nat.not_lt.2 e)) hx)
  unfold World.cell? at hc ⊢
  show (match w'.heap[p]? with | _ => _) = _
  rw [e]; exact hc
set_option maxRecDepth 20000 in
set_option maxHeartbeats 2000000 in
theorem tableChanged1X.calls (X : Nat → Prop) (f : Nat) (caps : Array Value) (hent : ∀ (xs : Array Value) (W : World), (callFunc f xs).run Tryz.prog W = .ok (.enter f xs) W) (ss : List Sch) (ts : List Tab) (schema table : ByteArray) (md : Tab → Int × Tab) (w : World) (p1 p2 p3 : Nat)
    (h1 : w.cell? ⟨p1, 0, none⟩ = some (.string schema)) (h2 : w.cell? ⟨p2, 0, none⟩ = some (.string table)) (h3 : w.cell? ⟨p3, 0, none⟩ = some (.func (.func f) #[] caps)) (hln : ts.length ≤ 3000) (hX : ¬ X p3) (hin : InnerX X f caps w ss ts md)
    (B g : Nat) (Bs : Option Addr) (ds : Nat) (Bt : Option Addr) (dt : Nat) (W : World) (hW : Below w.heap.size w W) (hwB : w.heap.size ≤ B) (hM : Mine B g Bs Bt ds dt ss ts W) :
    Calls Tryz.prog 79 (#[.pointer (some ⟨g, 0, none⟩)] ++ #[.pointer (some ⟨p1, 0, none⟩), .pointer (some ⟨p2, 0, none⟩), .pointer (some ⟨p3, 0, none⟩)]) W (DidX X B W g (tch ss ts schema table md)) := by
  show Calls Tryz.prog 79 #[.pointer (some ⟨g, 0, none⟩), .pointer (some ⟨p1, 0, none⟩), .pointer (some ⟨p2, 0, none⟩), .pointer (some ⟨p3, 0, none⟩)] W _
  obtain ⟨hBg, hBW, hG, hR, hS⟩ := hM
  have e1 := pw_cell_below hW h1
  have e2 := pw_cell_below hW h2
  have e3 := pw_cell_below hW h3
  have l1 := Nat.lt_of_lt_of_le (World.block_lt_of_cell? w _ h1) hwB
  have g0 : W.cell? ⟨g, 0, none⟩ = some (.slice Bs ss.length ds) := (blk_cell hG 0).trans rfl
  have g1 : W.cell? ⟨g, 1, none⟩ = some (.slice Bt ts.length dt) := (blk_cell hG 1).trans rfl
  have HWH := Aside0.mk (fun W' (hW' : Below W.heap.size W W') => where.calls (As := Bs) (ns := ss.length) (cs := ds) (At := Bt) (ct := dt) ts schema table W' (Kd.C_below (Kd.S_reads' hS).2.2 hW') (by omega))
  have HI := Aside0.mk hin
  have HXX := Aside0.mk hX
  have HG := Aside0.mk hG
  have HRS := Aside0.mk (And.intro hR hS)
  have HW := Aside0.mk (And.intro hW (And.intro hwB (And.intro hBW hBg)))
  have L3 := Aside0.mk (Nat.lt_of_lt_of_le (World.block_lt_of_cell? w _ h3) hwB)
  clear h1 h2 h3 hX hin hG hR hS hW hwB hBW hBg l1
  rcases idx_cases (isT schema table) ts with ⟨k, hk, hi, hx1, hx2⟩ | ⟨hi, hx1⟩
  · have HT := Aside0.mk (show tch ss ts schema table md = ((md ts[k]).1, ss, ts.set k (md ts[k]).2) by
      unfold tch; rw [hi, if_pos (by omega), Int.toNat_natCast, List.getD_eq_getElem?_getD, List.getElem?_eq_getElem hk]; rfl)
    rw [hi] at HWH
    clear hi hx1 hx2
    obtain ⟨gt, rfl⟩ : ∃ gt, Bt = some ⟨gt, 0, none⟩ := by
      obtain ⟨gt, cap, hv, _⟩ := Kd.S_form HRS.out.2 (by omega)
      injection hv with hA _ _
      exact ⟨gt, hA⟩
    have hb : decide ((0 : Int) ≤ (k : Int)) = true := decide_eq_true (by omega)
    go_enter Tryz.func79, Tryz.ntmps79
    go_wp2
    go_region_held3 (fun w' => w'.cell? ⟨p1, 0, none⟩ = some (.string schema) ∧ w'.cell? ⟨p2, 0, none⟩ = some (.string table) ∧ w'.cell? ⟨p3, 0, none⟩ = some (.func (.func f) #[] caps) ∧ w'.cell? ⟨g, 0, none⟩ = some (.slice Bs ss.length ds) ∧ w'.cell? ⟨g, 1, none⟩ = some (.slice (some ⟨gt, 0, none⟩) ts.length dt) ∧ Below W.heap.size W w')
      (first | exact keep5 (by assumption) (by assumption) | exact ⟨e1, e2, e3, g0, g1, below_drew (Below.refl _ _)⟩)
      (first | (go_at_call 73; refine (HWH.out _ ?_).mono ?_; exact below_drew (Below.refl _ _); rintro e w' ⟨rfl, hbx⟩))
    rename_i hH
    obtain ⟨d1, d2, d3, d0, d4, hb1⟩ := hH
    have h0 : (0 : Int) ≤ (k : Int) := by omega
    have h1 : (k : Int) < (ts.length : Int) := by omega
    have HB1 := Aside0.mk hb1
    have HR1 := Aside0.mk (Kd.R_below HRS.out.1 hb1)
    have HS1 := Aside0.mk (Kd.S_below HRS.out.2 hb1)
    have HG1 := Aside0.mk (blk_below HG.out hb1)
    clear e1 e2 e3 g0 g1 hb1 hbx HRS HG HWH
    have HA := Aside0.mk (HI.out k hk B w'.drew Bs ds gt dt ⟨below_drew (below_step HW.out.1 HB1.out), HW.out.2.1, Nat.le_trans HW.out.2.2.1 HB1.out.size, Kd.R_drew HR1.out, Kd.S_drew HS1.out⟩)
    clear HI HR1 HS1 d1 d2
    go_wp2
    go_region_held3 (fun w'' => w''.cell? ⟨p3, 0, none⟩ = some (.func (.func f) #[] caps) ∧ w''.cell? ⟨g, 0, none⟩ = some (.slice Bs ss.length ds) ∧ w''.cell? ⟨g, 1, none⟩ = some (.slice (some ⟨gt, 0, none⟩) ts.length dt))
      (first | exact ⟨(blk_spr hb2 d3 L3.out HXX.out), (blk_cell (hq _ _ HG1.out) 0).trans rfl, (blk_cell (hq _ _ HG1.out) 1).trans rfl⟩ | exact ⟨d3, d0, d4⟩)
      (first | (refine HA.out.mono ?_; rintro e w2 ⟨rfl, hb2, hq, hres⟩))
    have HX := Aside0.mk (And.intro ((SprX.of (below_drew (HB1.out.mono HW.out.2.2.1))).trans hb2) (And.intro (hq _ _ HG1.out) hres))
    clear hb2 hq hres d3 d0 d4
    go_wp2
    go_ret
    rw [HT.out]
    refine ⟨rfl, HX.out.1, fun h => ⟨_, _, HX.out.2.1, (HX.out.2.2 h).1, Kd.S_R ?_⟩⟩
    exact (HX.out.2.2 h).2
  · have HT := Aside0.mk (show tch ss ts schema table md = (61, [], []) by unfold tch; rw [hi, if_neg (by omega)])
    rw [hi] at HWH
    clear hi hx1
    have hb : decide ((0 : Int) ≤ -1) = false := rfl
    go_enter Tryz.func79, Tryz.ntmps79
    go_wp2
    go_region_held3 (fun w' => w'.cell? ⟨p1, 0, none⟩ = some (.string schema) ∧ w'.cell? ⟨p2, 0, none⟩ = some (.string table) ∧ w'.cell? ⟨p3, 0, none⟩ = some (.func (.func f) #[] caps) ∧ w'.cell? ⟨g, 0, none⟩ = some (.slice Bs ss.length ds) ∧ w'.cell? ⟨g, 1, none⟩ = some (.slice Bt ts.length dt) ∧ Below W.heap.size W w')
      (first | exact keep5 (by assumption) (by assumption) | exact ⟨e1, e2, e3, g0, g1, below_drew (Below.refl _ _)⟩)
      (first | (go_at_call 73; refine (HWH.out _ ?_).mono ?_; exact below_drew (Below.refl _ _); rintro e w' ⟨rfl, hbx⟩))
    rename_i hH
    have HB1 := Aside0.mk (show Below B W w' from hH.2.2.2.2.2.mono HW.out.2.2.1)
    clear hH e1 e2 e3 g0 g1 hbx HRS HG HWH
    go_wp2
    go_ret
    rw [HT.out]
    exact ⟨rfl, SprX.of HB1.out, fun h => by cases h⟩
set_option maxRecDepth 20000 in
set_option maxHeartbeats 2000000 in
theorem tableChangedX.calls (X : Nat → Prop) {As At : Option Addr} {cs ct : Nat} (f : Nat) (caps : Array Value) (hent : ∀ (xs : Array Value) (W : World), (callFunc f xs).run Tryz.prog W = .ok (.enter f xs) W) (ss : List Sch) (ts : List Tab) (schema table : ByteArray) (md : Tab → Int × Tab) (w : World) (hX : ∀ k, X k → k < w.heap.size) (hs : kSch.C w As ss.length ss) (hsl : ss.length ≤ 3000) (ht : kTab.C w At ts.length ts) (hF : TabsF ts) (hB : TabsB ts)
    (hin : checkB ss ts = true → InnerX X f caps w ss ts md) :
    Calls Tryz.prog 26 #[.agg #[.slice As ss.length cs, .slice At ts.length ct], .string schema, .string table, .func (.func f) #[] caps] w (OutX X w (chg ss ts (tch ss ts schema table md))) := by
  have H5 := Aside0.mk (boxes5 w (.cells #[.slice As ss.length cs, .slice At ts.length ct] 25) (.cells #[.string schema] 9) (.cells #[.string table] 9) (.cells #[.func (.func f) #[] caps] 65) (.cells #[.slice none 0 0, .slice none 0 0] 25))
  have HCH := Aside0.mk (fun (W : World) (hW : Below w.heap.size w W) (p1 p2 p3 : Nat) (h1 : W.cell? ⟨p1, 0, none⟩ = some (.string schema)) (h2 : W.cell? ⟨p2, 0, none⟩ = some (.string table)) (h3 : W.cell? ⟨p3, 0, none⟩ = some (.func (.func f) #[] caps)) (hp3 : w.heap.size ≤ p3) =>
    changedX.calls X (As := As) (At := At) (cs := cs) (ct := ct) 79 #[.pointer (some ⟨p1, 0, none⟩), .pointer (some ⟨p2, 0, none⟩), .pointer (some ⟨p3, 0, none⟩)] ss ts (tch ss ts schema table md) W (fun k hk => Nat.lt_of_lt_of_le (hX k hk) hW.size) (Kd.C_below hs hW) hsl (Kd.C_below ht hW) hF hB (enters Tryz.func79 (by decide) rfl)
      (fun hck B g Bs ds Bt dt W2 hW2 hle hM => tableChanged1X.calls X f caps hent ss ts schema table md W p1 p2 p3 h1 h2 h3 hB.1 (fun e => by have := hX _ e; omega) (fun k hk B W' Bs' ds' g' dt' hA => hin hck k hk B W' Bs' ds' g' dt' ⟨below_step hW hA.1, Nat.le_trans hW.size hA.2.1, hA.2.2⟩) B g Bs ds Bt dt W2 hW2 hle hM))
  have HXX := Aside0.mk hX
  clear hs ht hF hB hin hX
  generalize hq : chg ss ts (tch ss ts schema table md) = q at *
  clear hq
  go_enter Tryz.func26, Tryz.ntmps26
  go_wp2_with fail
  refine (HCH.out _ H5.out.1 (w.heap.size + 1) (w.heap.size + 1 + 1) (w.heap.size + 1 + 1 + 1) ((blk_cell H5.out.2.2.1 0).trans rfl) ((blk_cell H5.out.2.2.2.1 0).trans rfl) ((blk_cell H5.out.2.2.2.2.1 0).trans rfl) (by omega)).mono ?_
  rintro e w1 ⟨vs, vt, rfl, h1, h2, hb⟩
  obtain ⟨Es, es, rfl⟩ := Kd.R_slice h1
  obtain ⟨Et, et, rfl⟩ := Kd.R_slice h2
  have hZ1 := hb.blk H5.out.2.2.2.2.2 (blk_lt H5.out.2.2.2.2.2) (fun e => by have := HXX.out _ e; omega)
  have z0 : w1.cell? ⟨w.heap.size + 1 + 1 + 1 + 1, 0, none⟩ = some (.slice none 0 0) := (blk_cell hZ1 0).trans rfl
  have z1 : w1.cell? ⟨w.heap.size + 1 + 1 + 1 + 1, 1, none⟩ = some (.slice none 0 0) := (blk_cell hZ1 1).trans rfl
  have f0 := blk_frozen hZ1 0
  have f1 := blk_frozen hZ1 1
  have HX := Aside0.mk (OutX.wrap (g := w.heap.size + 1 + 1 + 1 + 1) H5.out.1 (by omega) (fun e => by have := HXX.out _ e; omega) H5.out.2.2.2.2.2 h1 h2 hb)
  clear h1 h2 hb hZ1 H5 HCH
  go_wp2
  refine bodyPost_ret (v := .tuple #[.agg #[.slice Es q.2.1.length es, .slice Et q.2.2.length et], .int .i64 q.1]) (by simp [results, Tryz.results26, go_sem, *]) rfl ?_
  exact ⟨_, _, rfl, HX.out⟩
end Go.Proofs.YtmmiehckgkadgaaGreat.O
namespace Go.Proofs.YtmmiehckgkadgaaGreat.O
set_option linter.unusedVariables false
set_option linter.unusedSimpArgs false
open Go.RowKit Go.Proofs.YtmmiehckgkadgaaGreatW.PrintWords Go.Sort
theorem kq2 {w0 w w' : World} {v0 v1 : Value} {a0 a1 : Addr} (h : w.cell? a0 = some v0 ∧ w.cell? a1 = some v1 ∧ Below w0.heap.size w0 w) (hb : Below w.heap.size w w') : w'.cell? a0 = some v0 ∧ w'.cell? a1 = some v1 ∧ Below w0.heap.size w0 w' := ⟨pw_cell_below hb h.1, pw_cell_below hb h.2.1, below_step h.2.2 hb⟩
theorem kq3 {w0 w w' : World} {v0 v1 v2 : Value} {a0 a1 a2 : Addr} (h : w.cell? a0 = some v0 ∧ w.cell? a1 = some v1 ∧ w.cell? a2 = some v2 ∧ Below w0.heap.size w0 w) (hb : Below w.heap.size w w') : w'.cell? a0 = some v0 ∧ w'.cell? a1 = some v1 ∧ w'.cell? a2 = some v2 ∧ Below w0.heap.size w0 w' := ⟨pw_cell_below hb h.1, kq2 h.2 hb⟩
theorem kq4 {w0 w w' : World} {v0 v1 v2 v3 : Value} {a0 a1 a2 a3 : Addr} (h : w.cell? a0 = some v0 ∧ w.cell? a1 = some v1 ∧ w.cell? a2 = some v2 ∧ w.cell? a3 = some v3 ∧ Below w0.heap.size w0 w) (hb : Below w.heap.size w w') : w'.cell? a0 = some v0 ∧ w'.cell? a1 = some v1 ∧ w'.cell? a2 = some v2 ∧ w'.cell? a3 = some v3 ∧ Below w0.heap.size w0 w' := ⟨pw_cell_below hb h.1, kq3 h.2 hb⟩
theorem kq5 {w0 w w' : World} {v0 v1 v2 v3 v4 : Value} {a0 a1 a2 a3 a4 : Addr} (h : w.cell? a0 = some v0 ∧ w.cell? a1 = some v1 ∧ w.cell? a2 = some v2 ∧ w.cell? a3 = some v3 ∧ w.cell? a4 = some v4 ∧ Below w0.heap.size w0 w) (hb : Below w.heap.size w w') : w'.cell? a0 = some v0 ∧ w'.cell? a1 = some v1 ∧ w'.cell? a2 = some v2 ∧ w'.cell? a3 = some v3 ∧ w'.cell? a4 = some v4 ∧ Below w0.heap.size w0 w' := ⟨pw_cell_below hb h.1, kq4 h.2 hb⟩
theorem kq6 {w0 w w' : World} {v0 v1 v2 v3 v4 v5 : Value} {a0 a1 a2 a3 a4 a5 : Addr} (h : w.cell? a0 = some v0 ∧ w.cell? a1 = some v1 ∧ w.cell? a2 = some v2 ∧ w.cell? a3 = some v3 ∧ w.cell? a4 = some v4 ∧ w.cell? a5 = some v5 ∧ Below w0.heap.size w0 w) (hb : Below w.heap.size w w') : w'.cell? a0 = some v0 ∧ w'.cell? a1 = some v1 ∧ w'.cell? a2 = some v2 ∧ w'.cell? a3 = some v3 ∧ w'.cell? a4 = some v4 ∧ w'.cell? a5 = some v5 ∧ Below w0.heap.size w0 w' := ⟨pw_cell_below hb h.1, kq5 h.2 hb⟩
theorem kq7 {w0 w w' : World} {v0 v1 v2 v3 v4 v5 v6 : Value} {a0 a1 a2 a3 a4 a5 a6 : Addr} (h : w.cell? a0 = some v0 ∧ w.cell? a1 = some v1 ∧ w.cell? a2 = some v2 ∧ w.cell? a3 = some v3 ∧ w.cell? a4 = some v4 ∧ w.cell? a5 = some v5 ∧ w.cell? a6 = some v6 ∧ Below w0.heap.size w0 w) (hb : Below w.heap.size w w') : w'.cell? a0 = some v0 ∧ w'.cell? a1 = some v1 ∧ w'.cell? a2 = some v2 ∧ w'.cell? a3 = some v3 ∧ w'.cell? a4 = some v4 ∧ w'.cell? a5 = some v5 ∧ w'.cell? a6 = some v6 ∧ Below w0.heap.size w0 w' := ⟨pw_cell_below hb h.1, kq6 h.2 hb⟩
theorem kq8 {w0 w w' : World} {v0 v1 v2 v3 v4 v5 v6 v7 : Value} {a0 a1 a2 a3 a4 a5 a6 a7 : Addr} (h : w.cell? a0 = some v0 ∧ w.cell? a1 = some v1 ∧ w.cell? a2 = some v2 ∧ w.cell? a3 = some v3 ∧ w.cell? a4 = some v4 ∧ w.cell? a5 = some v5 ∧ w.cell? a6 = some v6 ∧ w.cell? a7 = some v7 ∧ Below w0.heap.size w0 w) (hb : Below w.heap.size w w') : w'.cell? a0 = some v0 ∧ w'.cell? a1 = some v1 ∧ w'.cell? a2 = some v2 ∧ w'.cell? a3 = some v3 ∧ w'.cell? a4 = some v4 ∧ w'.cell? a5 = some v5 ∧ w'.cell? a6 = some v6 ∧ w'.cell? a7 = some v7 ∧ Below w0.heap.size w0 w' := ⟨pw_cell_below hb h.1, kq7 h.2 hb⟩
theorem kq9 {w0 w w' : World} {v0 v1 v2 v3 v4 v5 v6 v7 v8 : Value} {a0 a1 a2 a3 a4 a5 a6 a7 a8 : Addr} (h : w.cell? a0 = some v0 ∧ w.cell? a1 = some v1 ∧ w.cell? a2 = some v2 ∧ w.cell? a3 = some v3 ∧ w.cell? a4 = some v4 ∧ w.cell? a5 = some v5 ∧ w.cell? a6 = some v6 ∧ w.cell? a7 = some v7 ∧ w.cell? a8 = some v8 ∧ Below w0.heap.size w0 w) (hb : Below w.heap.size w w') : w'.cell? a0 = some v0 ∧ w'.cell? a1 = some v1 ∧ w'.cell? a2 = some v2 ∧ w'.cell? a3 = some v3 ∧ w'.cell? a4 = some v4 ∧ w'.cell? a5 = some v5 ∧ w'.cell? a6 = some v6 ∧ w'.cell? a7 = some v7 ∧ w'.cell? a8 = some v8 ∧ Below w0.heap.size w0 w' := ⟨pw_cell_below hb h.1, kq8 h.2 hb⟩
theorem kq10 {w0 w w' : World} {v0 v1 v2 v3 v4 v5 v6 v7 v8 v9 : Value} {a0 a1 a2 a3 a4 a5 a6 a7 a8 a9 : Addr} (h : w.cell? a0 = some v0 ∧ w.cell? a1 = some v1 ∧ w.cell? a2 = some v2 ∧ w.cell? a3 = some v3 ∧ w.cell? a4 = some v4 ∧ w.cell? a5 = some v5 ∧ w.cell? a6 = some v6 ∧ w.cell? a7 = some v7 ∧ w.cell? a8 = some v8 ∧ w.cell? a9 = some v9 ∧ Below w0.heap.size w0 w) (hb : Below w.heap.size w w') : w'.cell? a0 = some v0 ∧ w'.cell? a1 = some v1 ∧ w'.cell? a2 = some v2 ∧ w'.cell? a3 = some v3 ∧ w'.cell? a4 = some v4 ∧ w'.cell? a5 = some v5 ∧ w'.cell? a6 = some v6 ∧ w'.cell? a7 = some v7 ∧ w'.cell? a8 = some v8 ∧ w'.cell? a9 = some v9 ∧ Below w0.heap.size w0 w' := ⟨pw_cell_below hb h.1, kq9 h.2 hb⟩
theorem kq11 {w0 w w' : World} {v0 v1 v2 v3 v4 v5 v6 v7 v8 v9 v10 : Value} {a0 a1 a2 a3 a4 a5 a6 a7 a8 a9 a10 : Addr} (h : w.cell? a0 = some v0 ∧ w.cell? a1 = some v1 ∧ w.cell? a2 = some v2 ∧ w.cell? a3 = some v3 ∧ w.cell? a4 = some v4 ∧ w.cell? a5 = some v5 ∧ w.cell? a6 = some v6 ∧ w.cell? a7 = some v7 ∧ w.cell? a8 = some v8 ∧ w.cell? a9 = some v9 ∧ w.cell? a10 = some v10 ∧ Below w0.heap.size w0 w) (hb : Below w.heap.size w w') : w'.cell? a0 = some v0 ∧ w'.cell? a1 = some v1 ∧ w'.cell? a2 = some v2 ∧ w'.cell? a3 = some v3 ∧ w'.cell? a4 = some v4 ∧ w'.cell? a5 = some v5 ∧ w'.cell? a6 = some v6 ∧ w'.cell? a7 = some v7 ∧ w'.cell? a8 = some v8 ∧ w'.cell? a9 = some v9 ∧ w'.cell? a10 = some v10 ∧ Below w0.heap.size w0 w' := ⟨pw_cell_below hb h.1, kq10 h.2 hb⟩
theorem setCell_same {w : World} {g j : Nat} {v : Value} (h : w.cell? ⟨g, j, none⟩ = some v) : w.setCell ⟨g, j, none⟩ v = w := by
  cases w with
  | mk heap tape drawn os output =>
    unfold World.setCell
    congr 1
    refine Array.ext_getElem? fun i => ?_
    rw [Array.getElem?_modify]
    split
    · rename_i e
      subst e
      unfold World.cell? at h
      dsimp only at h ⊢
      cases ho : heap[g]? with
      | none => rfl
      | some o =>
        rw [ho] at h
        cases o with
        | cells c el fz =>
          simp only [Option.isSome_none, Bool.false_eq_true, if_false] at h
          simp only [Option.map_some, Option.isSome_none, Bool.false_eq_true, if_false]
          congr 2
          obtain ⟨hlt, e⟩ := Array.getElem?_eq_some_iff.1 h
          rw [← e]
          refine Array.ext_getElem? fun n => ?_
          rw [Array.getElem?_setIfInBounds]
          split
          · rename_i e2
            subst e2
            exact (Array.getElem?_eq_getElem hlt).symm
          · rfl
        | _ => rfl
    · rfl
theorem S_table3 {B g dt N : Nat} {W : World} {ts : List Tab} (h : Kd.S kTab 50 W B (fun q => q < N) (.slice (some ⟨g, 0, none⟩) ts.length dt) ts) (k : Nat) (hk : k < ts.length) : ∃ (oki : Nat → Prop) (v3 v4 : Value),
    W.cell? ⟨g, k * 5 + 4, none⟩ = some v4 ∧ W.frozen? ⟨g, k * 5 + 4, none⟩ = false ∧
    kCol.R 41 W B oki v3 ts[k].cols ∧ kRul.R 29 W B oki v4 ts[k].rules ∧ (∀ q, oki q → q ≠ g ∧ q < N ∧ B ≤ q) ∧ Kd.H kTab 50 W B (fun q => True ∧ ¬ (N ≤ q)) (.slice (some ⟨g, 0, none⟩) ts.length dt) ts (k : Int) oki [.string ts[k].schema, .string ts[k].name, .string ts[k].owner, v3, v4] := by
  obtain ⟨oki, c, hcl, hM, hc, hf, ho, hH⟩ := Kd.S_elem (Kd.S_bound h) zTab (k : Int) (by omega) (by omega)
  rw [Int.toNat_natCast, List.getD_eq_getElem?_getD, List.getElem?_eq_getElem hk] at hM
  rw [Int.toNat_natCast] at hc hf
  obtain ⟨v3, v4, rfl, h3, h4⟩ := kTab_openM hM
  exact ⟨oki, v3, v4, hc 4 _ rfl, hf 4, h3, h4, fun q hq => ⟨(ho q hq).2, (ho q hq).1.1, (ho q hq).1.2.1⟩, Kd.H_mono hH (fun q hq => ⟨trivial, Nat.not_le_of_lt hq.1⟩)⟩
theorem S_rulesN {B g dt N : Nat} {W : World} {ts : List Tab} (h : Kd.S kTab 50 W B (fun q => q < N) (.slice (some ⟨g, 0, none⟩) ts.length dt) ts) (k : Nat) (hk : k < ts.length) : ∃ (oki : Nat → Prop) (A4 : Option Addr) (c4 : Nat),
    W.cell? ⟨g, k * 5 + 4, none⟩ = some (.slice A4 ts[k].rules.length c4) ∧ W.frozen? ⟨g, k * 5 + 4, none⟩ = false ∧ kRul.R 29 W B oki (.slice A4 ts[k].rules.length c4) ts[k].rules ∧ (∀ q, oki q → q ≠ g ∧ q < N ∧ B ≤ q) ∧
    ∀ (w1 : World) (v1 : Value) (rules : List Rul), W.grownBy w1 (Value.slice A4 ts[k].rules.length c4).ownBlock → kRul.R 29 w1 B (fun q => oki q ∨ N ≤ q) v1 rules →
      w1.cell? ⟨g, k * 5 + 4, none⟩ = some (.slice A4 ts[k].rules.length c4) ∧ w1.frozen? ⟨g, k * 5 + 4, none⟩ = false ∧ (∃ cells, w1.heap[g]? = some (.cells cells 50 (0, 0))) ∧ Kd.S kTab 50 (w1.setCell ⟨g, k * 5 + 4, none⟩ v1) B (fun _ => True) (.slice (some ⟨g, 0, none⟩) ts.length dt) (ts.set k { ts[k] with rules := rules }) := by
  have hgN : g < N := (Kd.S_R h).1 g rfl
  obtain ⟨oki, v3, v4, c4, hf, h3, h4, ho, hH⟩ := S_table3 h k hk
  obtain ⟨A4, d4, rfl⟩ := Kd.R_slice h4
  refine ⟨oki, A4, d4, c4, hf, h4, ho, fun w1 v1 rules hg hR => ?_⟩
  obtain ⟨cells, hgc⟩ := Kd.S_typed h g rfl
  have hne : some g ≠ (Value.slice A4 ts[k].rules.length d4).ownBlock := fun e => (ho g (h4.1 g e.symm)).1 rfl
  have hg1 := blk_grown hgc hg hne
  obtain ⟨A1, n1, rfl⟩ := Kd.R_slice hR
  have hH1 := Kd.H_grown hH hg (fun q hq => h4.1 q hq)
  have h31 := Kd.R_over' h3 (Kd.R_typed h4) (by decide) hg
  have hseg := Kd.S_seg (ok := fun _ => True) (okg := fun q => N ≤ q) (okp := fun q => oki q ∨ N ≤ q) hH1 (by omega) (by omega) (j := 4) (seg := [.slice A1 rules.length n1]) (Nat.le_of_ble_eq_true rfl) (x' := { ts[k] with rules := rules }) (kTab_mkM _ _ _ { ts[k] with rules := rules } (Kd.R_mono h31 (fun q hq => .inl hq)) hR) (fun q hq => hq) (fun q hq => ⟨trivial, by omega⟩)
  rw [Int.toNat_natCast, show w1.setCells g (k * kTab.sz + 4) [.slice A1 rules.length n1] = w1.setCell ⟨g, k * 5 + 4, none⟩ (.slice A1 rules.length n1) from rfl] at hseg
  refine ⟨?_, blk_frozen hg1 _, ⟨cells, hg1⟩, hseg.1⟩
  rw [blk_cell hg1, ← blk_cell hgc]; exact c4
theorem S_rulesS {B g dt k : Nat} {W : World} {ts : List Tab} {t : Tab} (hk : k < ts.length) (h : Kd.S kTab 50 W B (fun _ => True) (.slice (some ⟨g, 0, none⟩) ts.length dt) (ts.set k t)) : ∃ (oki : Nat → Prop) (A4 : Option Addr) (c4 : Nat),
    W.cell? ⟨g, k * 5 + 4, none⟩ = some (.slice A4 t.rules.length c4) ∧ W.frozen? ⟨g, k * 5 + 4, none⟩ = false ∧ kRul.R 29 W B oki (.slice A4 t.rules.length c4) t.rules ∧
    ∀ (w1 : World) (rules : List Rul), rules.length = t.rules.length → W.grownBy w1 (Value.slice A4 t.rules.length c4).ownBlock → kRul.R 29 w1 B oki (.slice A4 t.rules.length c4) rules →
      Kd.S kTab 50 w1 B (fun _ => True) (.slice (some ⟨g, 0, none⟩) ts.length dt) (ts.set k { t with rules := rules }) := by
  have hk' : k < (ts.set k t).length := by rw [List.length_set]; exact hk
  have he : (ts.set k t)[k] = t := List.getElem_set_self _
  have h' : Kd.S kTab 50 W B (fun _ => True) (.slice (some ⟨g, 0, none⟩) (ts.set k t).length dt) (ts.set k t) := by rw [List.length_set]; exact h
  obtain ⟨oki, A4, c4, e4, f4, h4, _, hset⟩ := S_rules h' k hk'
  rw [he] at e4 h4 hset
  refine ⟨oki, A4, c4, e4, f4, h4, fun w1 rules hl hg hR => ?_⟩
  obtain ⟨y1, _, _, y4⟩ := hset w1 _ rules hg (Kd.R_mono hR (fun q hq => .inl hq))
  rw [setCell_same y1, List.length_set] at y4
  simpa using y4
theorem rul_in {B g dt k g5 c5 : Nat} {w : World} {ts : List Tab} {t : Tab} {v0 : Value} (hk : k < ts.length) (hc : w.cell? ⟨g, k * 5 + 4, none⟩ = some v0) (h : Kd.S kTab 50 (w.setCell ⟨g, k * 5 + 4, none⟩ (.slice (some ⟨g5, 0, none⟩) t.rules.length c5)) B (fun _ => True) (.slice (some ⟨g, 0, none⟩) ts.length dt) (ts.set k t)) :
    ∃ (oki : Nat → Prop), kRul.R 29 (w.setCell ⟨g, k * 5 + 4, none⟩ (.slice (some ⟨g5, 0, none⟩) t.rules.length c5)) B oki (.slice (some ⟨g5, 0, none⟩) t.rules.length c5) t.rules ∧ ∀ (w1 : World) (rules : List Rul), rules.length = t.rules.length → (w.setCell ⟨g, k * 5 + 4, none⟩ (.slice (some ⟨g5, 0, none⟩) t.rules.length c5)).grownBy w1 (some g5) → kRul.R 29 w1 B oki (.slice (some ⟨g5, 0, none⟩) t.rules.length c5) rules →
      Kd.S kTab 50 w1 B (fun _ => True) (.slice (some ⟨g, 0, none⟩) ts.length dt) (ts.set k { t with rules := rules }) := by
  obtain ⟨oki, A4, c4, e4, f4, h4, hset⟩ := S_rulesS hk h
  have e := e4.symm.trans (World.cell?_setCell_same' _ _ _ (by rw [hc]; rfl))
  injection e with e
  injection e with e1 _ e2
  subst e1 e2
  exact ⟨oki, h4, fun w1 rules hl hg hR => hset w1 rules hl hg hR⟩
section
variable {ops : Array Oper} {o : Oper} {a : Act} {Q : Exit → Act → World → Prop} {Kc : Act → World → Prop}
theorem append_rul {W : World} (B N : Nat) (hw : Region.wanted o (yielded ops a.tmps) = true) (s x : Operand) (ho : o.op = .call { callee := .builtin .append, args := #[s, x], argTypes := #[48, 48] })
    (v : Value) (xs : List Rul) (r : Rul) (B2 : Option Addr) (d2 : Nat) (oki : Nat → Prop) (hs : a.eval s = v) (hx : a.eval x = .slice (some ⟨W.heap.size, 0, none⟩) 1 1) (HO : kRul.R 29 W B oki v xs) (hoN : ∀ q, oki q → q < N) (hBN : B ≤ N) (hN : N ≤ W.heap.size) (hl : xs.length ≤ 100000)
    (h2 : Kd.string.R 9 W N (fun _ => True) (.slice B2 r.cols.length d2) r.cols)
    (h : ∀ v1 w1, kRul.R 29 w1 B (fun q => oki q ∨ N ≤ q) v1 (xs ++ [r]) → Below B W w1 → W.grownBy w1 v.ownBlock → Kc (a.put o.dst v1) w1) :
    if Region.wanted o (yielded ops a.tmps) = true then Oper.wp Tryz.prog o a (W.alloc (.cells #[.string r.name, .int .i64 r.kind, .slice B2 r.cols.length d2, .int .i64 r.low, .int .i64 r.high, .string r.schema, .string r.table, .string r.key] 29)) Kc Q else Kc (a.put o.dst undef) (W.alloc (.cells #[.string r.name, .int .i64 r.kind, .slice B2 r.cols.length d2, .int .i64 r.low, .int .i64 r.high, .string r.schema, .string r.table, .string r.key] 29)) :=
  Kd.R_append_step kRul B hw s x 48 29 (.agg #[(.string ⟨#[]⟩), (.int .i64 0), (.slice none 0 0), (.int .i64 0), (.int .i64 0), (.string ⟨#[]⟩), (.string ⟨#[]⟩), (.string ⟨#[]⟩)]) 112 ho Tryz.underlying48 infoRul rfl (by decide) (by decide) v xs r [.string r.name, .int .i64 r.kind, .slice B2 r.cols.length d2, .int .i64 r.low, .int .i64 r.high, .string r.schema, .string r.table, .string r.key] (fun q => oki q ∨ N ≤ q) (fun q => N ≤ q) hs hx
    (kRul_mkM _ _ _ r (Kd.R_lower (Kd.R_mono (Kd.R_bound h2) (fun q hq => hq.2.1)) hBN)) (fun q hq => ⟨.inr hq, fun e => by have := hoN q (HO.1 q e.symm); omega⟩) (fun q hq => .inr (Nat.le_trans hN hq)) (Kd.R_mono HO (fun q hq => .inl hq)) (Below.refl _ _) (Nat.le_trans hBN hN) (by omega) (fun v1 w1 h1 h2 h3 _ => h v1 w1 h1 h2 h3)
end
theorem InDidX.err {X : Nat → Prop} {B : Nat} {W w' : World} {ss : List Sch} {ts : List Tab} {k : Nat} {Bs : Option Addr} {ds g dt : Nat} {r : Int × Tab} (n : Int) (hn : r.1 = n) (h0 : n ≠ 0) (hb : Below W.heap.size W w') (hBW : B ≤ W.heap.size) : InDidX X B W ss ts k Bs ds g dt r (.returned (.int .i64 n)) w' :=
  ⟨by rw [hn], SprX.of (hb.mono hBW), fun q cs h => blk_below h hb, fun h => absurd (hn.symm.trans h) h0⟩
end Go.Proofs.YtmmiehckgkadgaaGreat.O
