/- Objects in a law: o, own, and what comes out; the law's example. -/
import Derived.Test.YtmmiehckgkadgaaCN
import Derived.Test.YtmmiehckgkadgaaOR
namespace Go.Proofs.Ytmmiehckgkadgaa.O
set_option linter.unusedVariables false
set_option linter.unusedSimpArgs false
open Go.RowKit Go.Proofs.YtmmiehckgkadgaaW.PrintWords

theorem tabB_of {t : Tab} (h : TabS t) : TabB t := ⟨h.1, h.2.1, fun r hr => h.2.2 r hr⟩
theorem tabsB_of {ss : List Sch} {ts : List Tab} (h : ObjS ss ts) : TabsB ts := ⟨h.2.1, fun t ht => tabB_of (h.2.2 t ht)⟩
/-- objects that are read; what they lead to lies in ok -/
def OF (W : World) (ok : Nat → Prop) (As At : Option Addr) (ss : List Sch) (ts : List Tab) : Prop := Kd.F kSch W ok As ss.length ss ∧ Kd.F kTab W ok At ts.length ts
/-- objects that were made: what they lead to lies from block b on and ahead of e -/
def OM (W : World) (b e : Nat) (vs vt : Value) (ss : List Sch) (ts : List Tab) : Prop := kSch.R 63 W b (fun k => b ≤ k ∧ k < e) vs ss ∧ kTab.R 35 W b (fun k => b ≤ k ∧ k < e) vt ts
theorem OF.step {W W' : World} {ok S : Nat → Prop} {As At : Option Addr} {ss : List Sch} {ts : List Tab} (h : OF W ok As At ss ts) (hs : Spr S W W') (hd : ∀ k, ok k → ¬ S k) : OF W' ok As At ss ts :=
  ⟨Kd.F_step h.1 (fun k hk hlt => hs.2.2.2.2 k hlt (hd k hk)), Kd.F_step h.2 (fun k hk hlt => hs.2.2.2.2 k hlt (hd k hk))⟩
theorem OF.below {W W' : World} {ok : Nat → Prop} {As At : Option Addr} {ss : List Sch} {ts : List Tab} (h : OF W ok As At ss ts) (hb : Below W.heap.size W W') : OF W' ok As At ss ts := ⟨Kd.F_below h.1 hb, Kd.F_below h.2 hb⟩
theorem OF.mono {W : World} {ok ok' : Nat → Prop} {As At : Option Addr} {ss : List Sch} {ts : List Tab} (h : OF W ok As At ss ts) (hk : ∀ k, ok k → ok' k) : OF W ok' As At ss ts := ⟨Kd.F_mono h.1 hk, Kd.F_mono h.2 hk⟩
theorem OM.step {W W' : World} {b e : Nat} {S : Nat → Prop} {vs vt : Value} {ss : List Sch} {ts : List Tab} (h : OM W b e vs vt ss ts) (hs : Spr S W W') (hd : ∀ k, b ≤ k → k < e → ¬ S k) : OM W' b e vs vt ss ts :=
  ⟨Kd.R_step h.1 (fun k hk hlt => hs.2.2.2.2 k hlt (hd k hk.1 hk.2)), Kd.R_step h.2 (fun k hk hlt => hs.2.2.2.2 k hlt (hd k hk.1 hk.2))⟩
theorem OM.below {W W' : World} {b e : Nat} {vs vt : Value} {ss : List Sch} {ts : List Tab} (h : OM W b e vs vt ss ts) (hb : Below W.heap.size W W') : OM W' b e vs vt ss ts := ⟨Kd.R_below h.1 hb, Kd.R_below h.2 hb⟩
theorem OM.OF {W : World} {b e : Nat} {Es Et : Option Addr} {es et : Nat} {ss : List Sch} {ts : List Tab} (h : OM W b e (.slice Es ss.length es) (.slice Et ts.length et) ss ts) : OF W (fun k => b ≤ k ∧ k < e) Es Et ss ts := ⟨Kd.R_F h.1, Kd.R_F h.2⟩
theorem OF.of_C {w : World} {As At : Option Addr} {ss : List Sch} {ts : List Tab} (hs : kSch.C w As ss.length ss) (ht : kTab.C w At ts.length ts) : OF w (fun k => k < w.heap.size) As At ss ts :=
  ⟨Kd.C_F (Kd.heap_iso _ (Kd.heap_pair Kd.heap_string Kd.heap_string)) hs, Kd.C_F (Kd.heap_iso _ (Kd.heap_pair Kd.heap_string (Kd.heap_pair Kd.heap_string (Kd.heap_pair Kd.heap_string (Kd.heap_pair (Kd.heap_slice _ (Kd.heap_iso _ (Kd.heap_pair Kd.heap_string (Kd.heap_pair (Kd.heap_int _) Kd.heap_bool)))) (Kd.heap_slice _ (Kd.heap_iso _ (Kd.heap_pair Kd.heap_string (Kd.heap_pair (Kd.heap_int _) (Kd.heap_pair (Kd.heap_slice _ Kd.heap_string) (Kd.heap_pair (Kd.heap_int _) (Kd.heap_pair (Kd.heap_int _) (Kd.heap_pair Kd.heap_string (Kd.heap_pair Kd.heap_string Kd.heap_string)))))))))))))) ht⟩
/-- what a call gave, as made objects -/
theorem Out.made {W w' : World} {r : Res} {e : Ending} (h : Out W r e w') : ∃ Es es Et et, e = .returned (.tuple #[.agg #[.slice Es r.2.1.length es, .slice Et r.2.2.length et], .int .i64 r.1]) ∧ OM w' W.heap.size w'.heap.size (.slice Es r.2.1.length es) (.slice Et r.2.2.length et) r.2.1 r.2.2 ∧ Below W.heap.size W w' := by
  obtain ⟨vs, vt, he, h1, h2, hb⟩ := h
  obtain ⟨Es, es, rfl⟩ := Kd.R_slice h1
  obtain ⟨Et, et, rfl⟩ := Kd.R_slice h2
  exact ⟨Es, es, Et, et, he, ⟨Kd.R_mono (Kd.R_bound h1) (fun k hk => ⟨hk.2.1, hk.2.2.1⟩), Kd.R_mono (Kd.R_bound h2) (fun k hk => ⟨hk.2.1, hk.2.2.1⟩)⟩, hb⟩
theorem calls_made {f : Nat} {args : Array Value} {W : World} {r : Res} (h : Calls Try.prog f args W (Out W r)) : Calls Try.prog f args W fun e w' => ∃ Es es Et et, e = .returned (.tuple #[.agg #[.slice Es r.2.1.length es, .slice Et r.2.2.length et], .int .i64 r.1]) ∧ OM w' W.heap.size w'.heap.size (.slice Es r.2.1.length es) (.slice Et r.2.2.length et) r.2.1 r.2.2 ∧ Below W.heap.size W w' := h.mono fun _ _ h => h.made
theorem rOwn.made {As At : Option Addr} {cs ct : Nat} (ss : List Sch) (ts : List Tab) (w : World) (hs : kSch.C w As ss.length ss) (hsl : ss.length ≤ 3000) (ht : kTab.C w At ts.length ts) (hF : TabsB ts) :
    Calls Try.prog 15 #[.agg #[.slice As ss.length cs, .slice At ts.length ct]] w fun e w' => ∃ Bs ds Bt dt, e = .returned (.agg #[.slice Bs ss.length ds, .slice Bt ts.length dt]) ∧ OM w' w.heap.size w'.heap.size (.slice Bs ss.length ds) (.slice Bt ts.length dt) ss ts ∧ Below w.heap.size w w' :=
  (rOwn.calls ss ts w hs hsl ht hF).mono fun _ _ ⟨Bs, ds, Bt, dt, he, h1, h2, hb⟩ => ⟨Bs, ds, Bt, dt, he, ⟨Kd.R_mono (Kd.R_bound h1) (fun k hk => ⟨hk.2.1, hk.2.2.1⟩), Kd.R_mono (Kd.R_bound (Kd.S_R h2)) (fun k hk => ⟨hk.2.1, hk.2.2.1⟩)⟩, hb⟩
/-- told, at objects of a law -/
theorem told.law (n : Int) {Gs Gt Hs Ht As At Cs Ct : Option Addr} {g1 g2 h1 h2 a1 a2 c1 c2 : Nat} (gs : List Sch) (gt : List Tab) (ss : List Sch) (ts : List Tab) (w : World) (b e : Nat) {okw oko okc : Nat → Prop}
    (hg : OM w b e (.slice Gs gs.length g1) (.slice Gt gt.length g2) gs gt) (hw : OF w okw Hs Ht gs gt) (ho : OF w oko As At ss ts) (hoS : ∀ k, oko k → ¬ (b ≤ k ∧ k < e)) (hc : OF w okc Cs Ct ss ts) (hcS : ∀ k, okc k → ¬ (b ≤ k ∧ k < e))
    (he : e ≤ w.heap.size) (hgl : gs.length ≤ 3000) (hgB : TabsB gt) (hsl : ss.length ≤ 3000) (htB : TabsB ts) :
    Calls Try.prog 22 #[.agg #[.slice Gs gs.length g1, .slice Gt gt.length g2], .int .i64 n, .agg #[.slice Hs gs.length h1, .slice Ht gt.length h2], .int .i64 n, .agg #[.slice As ss.length a1, .slice At ts.length a2], .agg #[.slice Cs ss.length c1, .slice Ct ts.length c2]] w fun e' w' => e' = .returned (.bool true) ∧ Spr (fun k => b ≤ k ∧ k < e) w w' :=
  told.calls n gs gt ss ts w b e hg.1 hg.2 (Kd.F_now hw.1) (Kd.F_now hw.2) (Kd.F_mono ho.1 hoS) (Kd.F_mono ho.2 hoS) (Kd.F_mono hc.1 hcS) (Kd.F_mono hc.2 hcS) he hgl hgB hsl htB
end Go.Proofs.Ytmmiehckgkadgaa.O
