/- The key that a foreign rule names: the model and the program's walk. -/
import Derived.Test.YtmmiehckgkadgaaOI
import Derived.Test.YtmmiehckgkadgaaOG
namespace Go.Proofs.Ytmmiehckgkadgaa.O
set_option linter.unusedVariables false
set_option linter.unusedSimpArgs false
open Go.RowKit Go.Proofs.YtmmiehckgkadgaaW.PrintWords

/-- two columns go together -/
def pairOK (l c : List Col) (a b : ByteArray) : Bool := decide (kindOf l a = kindOf c b) && (kindOf l a).isSome
/-- a rule's columns go with a key's -/
def goB (l c : List Col) (ns ms : List ByteArray) : Bool := decide (ms.length = ns.length) && allB ms.length (fun i => pairOK l c (ns.getD i nStr) (ms.getD i nStr))
def keyE (ts : List Tab) (l : List Col) (r : Rul) : Int :=
  if idx (isT r.schema r.table) ts < 0 then 61
  else if idx (fun x => x.name.toList == r.key.toList) (ts.getD (idx (isT r.schema r.table) ts).toNat zTab).rules < 0 then 61
  else if ((ts.getD (idx (isT r.schema r.table) ts).toNat zTab).rules.getD (idx (fun x => x.name.toList == r.key.toList) (ts.getD (idx (isT r.schema r.table) ts).toNat zTab).rules).toNat zRul).kind = 2 then
    (if goB l (ts.getD (idx (isT r.schema r.table) ts).toNat zTab).cols r.cols ((ts.getD (idx (isT r.schema r.table) ts).toNat zTab).rules.getD (idx (fun x => x.name.toList == r.key.toList) (ts.getD (idx (isT r.schema r.table) ts).toNat zTab).rules).toNat zRul).cols = true then 0 else 63)
  else 61
theorem keyE_none {ts : List Tab} {l : List Col} {r : Rul} (h : idx (isT r.schema r.table) ts = -1) : keyE ts l r = 61 := by unfold keyE; rw [h]; rfl
theorem keyE_some {ts : List Tab} {l : List Col} {r : Rul} {n : Nat} (hn : n < ts.length) (h : idx (isT r.schema r.table) ts = (n : Int)) :
    keyE ts l r = if idx (fun x => x.name.toList == r.key.toList) ts[n].rules < 0 then 61 else if (ts[n].rules.getD (idx (fun x => x.name.toList == r.key.toList) ts[n].rules).toNat zRul).kind = 2 then (if goB l ts[n].cols r.cols (ts[n].rules.getD (idx (fun x => x.name.toList == r.key.toList) ts[n].rules).toNat zRul).cols = true then 0 else 63) else 61 := by
  unfold keyE; rw [h, if_neg (by omega), Int.toNat_natCast, getD_at hn]
theorem keyE_bare {t : Tab} {l : List Col} {r : Rul} (h : idx (fun x : Rul => x.name.toList == r.key.toList) t.rules = -1) : (if idx (fun x : Rul => x.name.toList == r.key.toList) t.rules < 0 then (61 : Int) else if (t.rules.getD (idx (fun x => x.name.toList == r.key.toList) t.rules).toNat zRul).kind = 2 then (if goB l t.cols r.cols (t.rules.getD (idx (fun x => x.name.toList == r.key.toList) t.rules).toNat zRul).cols = true then 0 else 63) else 61) = 61 := by rw [h]; rfl
theorem keyE_rule {t : Tab} {l : List Col} {r : Rul} {m : Nat} (hm : m < t.rules.length) (h : idx (fun x : Rul => x.name.toList == r.key.toList) t.rules = (m : Int)) : (if idx (fun x : Rul => x.name.toList == r.key.toList) t.rules < 0 then (61 : Int) else if (t.rules.getD (idx (fun x => x.name.toList == r.key.toList) t.rules).toNat zRul).kind = 2 then (if goB l t.cols r.cols (t.rules.getD (idx (fun x => x.name.toList == r.key.toList) t.rules).toNat zRul).cols = true then 0 else 63) else 61) = if t.rules[m].kind = 2 then (if goB l t.cols r.cols t.rules[m].cols = true then 0 else 63) else 61 := by
  rw [h, if_neg (by omega), Int.toNat_natCast, getD_at hm]
theorem kindsL_cons (l : List Col) (a : ByteArray) (ns : List ByteArray) : kindsL l (a :: ns) = (match kindOf l a with | some x => x :: kindsL l ns | none => kindsL l ns) := by
  unfold kindsL; rw [List.filterMap_cons]; cases kindOf l a <;> rfl
theorem go_list (l c : List Col) : ∀ (ms ns : List ByteArray), ms.length = ns.length → ((∀ i, i < ms.length → pairOK l c (ns.getD i nStr) (ms.getD i nStr) = true) ↔ ((kindsL c ms).length = ms.length ∧ kindsL l ns = kindsL c ms))
  | [], [], _ => by simp [kindsL]
  | b :: ms, a :: ns, hl => by
    have hl' : ms.length = ns.length := by simpa using hl
    have ih := go_list l c ms ns hl'
    have split : (∀ i, i < (b :: ms).length → pairOK l c ((a :: ns).getD i nStr) ((b :: ms).getD i nStr) = true) ↔ (pairOK l c a b = true ∧ ∀ i, i < ms.length → pairOK l c (ns.getD i nStr) (ms.getD i nStr) = true) := by
      constructor
      · intro h
        exact ⟨h 0 (by simp), fun i hi => h (i + 1) (by simpa using hi)⟩
      · rintro ⟨h0, h⟩ i hi
        cases i with
        | zero => exact h0
        | succ i => exact h i (by simpa using hi)
    rw [split, ih, kindsL_cons, kindsL_cons]
    have l1 := kindsL_le c ms
    have l2 := kindsL_le l ns
    unfold pairOK
    cases e1 : kindOf l a with
    | none =>
      cases e2 : kindOf c b with
      | none =>
        simp only [Option.isSome_none, Bool.and_false, List.length_cons]
        constructor
        · exact fun h => by simp at h
        · rintro ⟨h1, h2⟩; omega
      | some y =>
        simp only [Option.isSome_none, Bool.and_false, List.length_cons]
        constructor
        · exact fun h => by simp at h
        · rintro ⟨h1, h2⟩
          have := congrArg List.length h2
          rw [List.length_cons] at this
          omega
    | some x =>
      cases e2 : kindOf c b with
      | none =>
        simp only [List.length_cons]
        constructor
        · exact fun h => by simp at h
        · rintro ⟨h1, h2⟩; omega
      | some y =>
        simp only [List.length_cons, Option.isSome_some, Bool.and_true, decide_eq_true_eq, Option.some.injEq, List.cons.injEq]
        constructor
        · rintro ⟨h1, h2, h3⟩; exact ⟨by omega, h1, h3⟩
        · rintro ⟨h1, h2, h3⟩; exact ⟨h2, by omega, h3⟩
theorem goB_yes {l c : List Col} {ns ms : List ByteArray} (h1 : ms.length = ns.length) (h2 : (kindsL c ms).length = ms.length) (h3 : kindsL l ns = kindsL c ms) : goB l c ns ms = true := by
  unfold goB; rw [decide_eq_true h1, Bool.true_and]; exact allB_true ((go_list l c ms ns h1).2 ⟨h2, h3⟩)
theorem goB_no {l c : List Col} {ns ms : List ByteArray} (h : ¬ (ms.length = ns.length ∧ (kindsL c ms).length = ms.length ∧ kindsL l ns = kindsL c ms)) : goB l c ns ms = false := by
  cases e : goB l c ns ms with
  | false => rfl
  | true =>
    exfalso; apply h
    unfold goB at e
    rw [Bool.and_eq_true] at e
    have h1 := of_decide_eq_true e.1
    exact ⟨h1, (go_list l c ms ns h1).1 (fun i hi => allB_at e.2 hi)⟩

/-- rows are no longer than a machine holds -/
def RulF (r : Rul) : Prop := r.cols.length ≤ 8796093022208 ∧ RulZ r
def TabF (t : Tab) : Prop := t.cols.length ≤ 8796093022208 ∧ t.rules.length ≤ 8796093022208 ∧ ∀ r ∈ t.rules, RulF r
def TabsF (ts : List Tab) : Prop := ts.length ≤ 8796093022208 ∧ ∀ t ∈ ts, TabF t
/-- a table in a box -/
def BoxT (W : World) (g : Nat) (t : Tab) (A3 : Option Addr) (c3 : Nat) (A4 : Option Addr) (c4 : Nat) : Prop := W.cell? ⟨g, 0, none⟩ = some (.string t.schema) ∧ W.cell? ⟨g, 1, none⟩ = some (.string t.name) ∧ W.cell? ⟨g, 2, none⟩ = some (.string t.owner) ∧ W.cell? ⟨g, 3, none⟩ = some (.slice A3 t.cols.length c3) ∧ W.cell? ⟨g, 4, none⟩ = some (.slice A4 t.rules.length c4)
theorem BoxT.below {W W' : World} {g : Nat} {t : Tab} {A3 A4 : Option Addr} {c3 c4 : Nat} (h : BoxT W g t A3 c3 A4 c4) (hb : Below W.heap.size W W') : BoxT W' g t A3 c3 A4 c4 :=
  ⟨pw_cell_below hb h.1, pw_cell_below hb h.2.1, pw_cell_below hb h.2.2.1, pw_cell_below hb h.2.2.2.1, pw_cell_below hb h.2.2.2.2⟩
def tabBox (t : Tab) (A3 : Option Addr) (c3 : Nat) (A4 : Option Addr) (c4 : Nat) : Obj := .cells #[.string t.schema, .string t.name, .string t.owner, .slice A3 t.cols.length c3, .slice A4 t.rules.length c4] 35
theorem BoxT_new (w : World) (t : Tab) (A3 : Option Addr) (c3 : Nat) (A4 : Option Addr) (c4 : Nat) : BoxT (w.alloc (tabBox t A3 c3 A4 c4)) w.heap.size t A3 c3 A4 c4 := by
  have h := fun i => World.cell?_alloc_new (w := w) #[.string t.schema, .string t.name, .string t.owner, .slice A3 t.cols.length c3, .slice A4 t.rules.length c4] 35 i
  exact ⟨h 0, h 1, h 2, h 3, h 4⟩
/-- objects in a box -/
def BoxO (W : World) (g : Nat) (As : Option Addr) (ns cs : Nat) (At : Option Addr) (nt ct : Nat) : Prop := W.cell? ⟨g, 0, none⟩ = some (.slice As ns cs) ∧ W.cell? ⟨g, 1, none⟩ = some (.slice At nt ct)
theorem BoxO.below {W W' : World} {g : Nat} {As At : Option Addr} {ns cs nt ct : Nat} (h : BoxO W g As ns cs At nt ct) (hb : Below W.heap.size W W') : BoxO W' g As ns cs At nt ct := ⟨pw_cell_below hb h.1, pw_cell_below hb h.2⟩
def objBox (As : Option Addr) (ns cs : Nat) (At : Option Addr) (nt ct : Nat) : Obj := .cells #[.slice As ns cs, .slice At nt ct] 26
theorem BoxO_new (w : World) (As : Option Addr) (ns cs : Nat) (At : Option Addr) (nt ct : Nat) : BoxO (w.alloc (objBox As ns cs At nt ct)) w.heap.size As ns cs At nt ct := by
  have h := fun i => World.cell?_alloc_new (w := w) #[.slice As ns cs, .slice At nt ct] 26 i
  exact ⟨h 0, h 1⟩

theorem keep2b {w0 w w' : World} {a b : Addr} {u v : Value} (h : w.cell? a = some u ∧ w.cell? b = some v ∧ Below w0.heap.size w0 w) (hb : Below w.heap.size w w') : w'.cell? a = some u ∧ w'.cell? b = some v ∧ Below w0.heap.size w0 w' :=
  ⟨pw_cell_below hb h.1, pw_cell_below hb h.2.1, h.2.2.trans (hb.mono h.2.2.size)⟩
set_option maxHeartbeats 2000000 in
theorem key.calls {As At A0 A2 : Option Addr} {ns cs ct c0 c2 : Nat} (ts : List Tab) (xs : List Col) (r : Rul) (w : World) (ht : kTab.C w At ts.length ts) (hF : TabsF ts) (hr : kCol.C w A0 xs.length xs) (hl : xs.length ≤ 140737488355328) (hr2 : Kd.string.C w A2 r.cols.length r.cols) (hl2 : r.cols.length ≤ 8796093022208) :
    Calls Try.prog 92 #[.agg #[.slice As ns cs, .slice At ts.length ct], .slice A0 xs.length c0, .agg #[.string r.name, .int .i64 r.kind, .slice A2 r.cols.length c2, .int .i64 r.low, .int .i64 r.high, .string r.schema, .string r.table, .string r.key]] w fun e w' => e = .returned (.int .i64 (keyE ts xs r)) ∧ Below w.heap.size w w' := by
  have HF := Aside0.mk hF
  have HT := Aside0.mk ht
  have HR := Aside0.mk hr
  have HR2 := Aside0.mk hr2
  have HX := Aside0.mk ((BoxO_new w As ns cs At ts.length ct).below (below_alloc (Below.refl _ _) (rulBox r A2 c2)))
  have HX2 := Aside0.mk (show BoxR ((w.alloc (objBox As ns cs At ts.length ct)).alloc (rulBox r A2 c2)) (w.heap.size + 1) r A2 c2 by have := BoxR_new (w.alloc (objBox As ns cs At ts.length ct)) r A2 c2; simpa using this)
  have HW : Aside0 (Below w.heap.size w ((w.alloc (objBox As ns cs At ts.length ct)).alloc (rulBox r A2 c2))) := ⟨below_alloc (below_alloc (Below.refl _ _) _) _⟩
  generalize hi : keyE ts xs r = q
  have HI := Aside0.mk hi
  have HC := Aside0.mk (fun W (hW : Below w.heap.size w W) => where.calls (As := As) (ns := ns) (cs := cs) (At := At) (ct := ct) ts r.schema r.table W (Kd.C_below HT.out hW) (by have := HF.out.1; omega))
  clear hr hi hr2 ht hF
  rcases idx_cases (isT r.schema r.table) ts with ⟨n, hn, e, hz1⟩ | ⟨e, hz1⟩
  · clear hz1
    have HI1 := Aside0.mk ((keyE_some (l := xs) hn e).symm.trans HI.out)
    have hTF := Aside0.mk (HF.out.2 _ (List.getElem_mem hn))
    rw [e] at HC
    clear e
    have hge : decide ((0 : Int) ≤ (n : Int)) = true := decide_eq_true (by omega)
    rw [hge] at HC
    go_enter Try.func92, Try.ntmps92
    go_wp2_with fail
    refine (HC.out _ HW.out).mono ?_
    rintro e w1 ⟨rfl, hb1⟩
    have HB := Aside0.mk (HW.out.trans (hb1.mono HW.out.size))
    have HX3 := Aside0.mk (HX.out.below hb1)
    have HX4 := Aside0.mk (HX2.out.below hb1)
    clear hb1
    obtain ⟨o0, o1⟩ := HX3.out
    obtain ⟨b0, b1, b2, b3, b4, b5, b6, b7⟩ := HX4.out
    obtain ⟨ad, A3, c3, A4, c4, e, hc0, hc1, hc2, hc3, hc4, hs1, hs2, hs3, hs4⟩ := cTab (Kd.C_below HT.out HB.out) n hn
    cases e
    have HS := Aside0.mk (And.intro hs1 (And.intro hs2 (And.intro hs3 hs4)))
    clear hs1 hs2 hs3 hs4
    have b7' : ∀ o, (w1.alloc o).cell? ⟨w.heap.size + 1, 7, none⟩ = some (.string r.key) := fun o => pw_cell_below (below_alloc (Below.refl _ _) o) b7
    have HBX := Aside0.mk (BoxT_new w1 ts[n] A3 c3 A4 c4)
    have HB1 := Aside0.mk (below_alloc HB.out (tabBox ts[n] A3 c3 A4 c4))
    have HX5 := Aside0.mk (HX4.out.below (below_alloc (Below.refl _ _) (tabBox ts[n] A3 c3 A4 c4)))
    have HCR := Aside0.mk (fun W (hW : Below w1.heap.size w1 W) => byNameRul.calls A4 c4 ts[n].rules r.key W (Kd.C_below HS.out.2.2.2 hW) (by have := hTF.out.2.1; omega))
    rcases idx_cases (fun x : Rul => x.name.toList == r.key.toList) ts[n].rules with ⟨m, hm, e, hz1⟩ | ⟨e, hz1⟩
    · clear hz1
      have HI2 := Aside0.mk ((keyE_rule (l := xs) hm e).symm.trans HI1.out)
      have hRF := Aside0.mk (hTF.out.2.2 _ (List.getElem_mem hm))
      rw [e] at HCR
      clear e
      go_wp2_with fail
      refine (HCR.out _ (below_alloc (Below.refl _ _) _)).mono ?_
      rintro e w2 ⟨rfl, hb2⟩
      have HB2 := Aside0.mk (HB1.out.trans (hb2.mono HB1.out.size))
      have HBX2 := Aside0.mk (HBX.out.below hb2)
      have HX6 := Aside0.mk (HX5.out.below hb2)
      have HW12 := Aside0.mk (show Below w1.heap.size w1 w2 from (below_alloc (Below.refl _ _) (tabBox ts[n] A3 c3 A4 c4)).trans (hb2.mono (by simp)))
      clear hb2 b0 b1 b2 b3 b4 b5 b6 b7 b7' o0 o1 hc0 hc1 hc2 hc3 hc4
      obtain ⟨t0, t1, t2, t3, t4⟩ := HBX2.out
      obtain ⟨ad4, A5, c5, e, hd0, hd1, hd2, hd3, hd4, hd5, hd6, hd7, hs5, hs6⟩ := cRul (Kd.C_below HS.out.2.2.2 HW12.out) m hm
      cases e
      have HS2 := Aside0.mk (And.intro hs5 hs6)
      clear hs5 hs6
      cases hk2 : (ts[n].rules[m].kind != 2) with
      | true =>
        go_wp2
        go_ret
        exact ⟨ret_int (by rw [← HI2.out, if_neg (show ¬ ts[n].rules[m].kind = 2 by simpa using hk2)]), HB2.out⟩
      | false =>
        have HI3 := Aside0.mk (show (if goB xs ts[n].cols r.cols ts[n].rules[m].cols = true then (0 : Int) else 63) = q by rw [← HI2.out, if_pos (show ts[n].rules[m].kind = 2 by simpa using hk2)])
        obtain ⟨b0, b1, b2, b3, b4, b5, b6, b7⟩ := HX6.out
        have HK1 := Aside0.mk (fun W (hW : Below w.heap.size w W) => kinds.calls (A0 := A0) (c0 := c0) (A2 := A2) (c2 := c2) xs r.cols W (Kd.C_below HR.out hW) hl (Kd.C_below HR2.out hW) hl2)
        have HK2 := Aside0.mk (fun W (hW : Below w2.heap.size w2 W) => kinds.calls (A0 := A3) (c0 := c3) (A2 := A5) (c2 := c5) ts[n].cols ts[n].rules[m].cols W (Kd.C_below (Kd.C_below HS.out.2.1 HW12.out) hW) (by have := hTF.out.1; omega) (Kd.C_below HS2.out.2 hW) hRF.out.1)
        go_wp2_with fail
        go_region_held3 (fun w' => w'.cell? ⟨w.heap.size + 1, 2, none⟩ = some (.slice A2 r.cols.length c2) ∧ w'.cell? ⟨w1.heap.size, 3, none⟩ = some (.slice A3 ts[n].cols.length c3) ∧ Below w2.heap.size w2 w')
          (first | assumption | exact keep2b (by assumption) (by assumption) | exact ⟨b2, t3, pw_below_drewN (Below.refl _ _) 1⟩)
          (first | (go_at_call_of 118 (Value.slice A0 xs.length c0); refine (HK1.out _ (HB2.out.trans ((And.right (And.right (by assumption : _ ∧ _ ∧ Below w2.heap.size w2 _))).mono HB2.out.size))).mono ?_; rintro e w3 ⟨K1, d1, rfl, lk1, C1, hb⟩) | (go_at_call 118; refine (HK2.out _ (And.right (And.right (by assumption)))).mono ?_; rintro e w4 ⟨K2, d2, rfl, lk2, C2, hb⟩))
        · rename_i hH
          have HBf := Aside0.mk (HB2.out.trans (hH.2.2.mono HB2.out.size))
          have q2 := hH.1
          have HE := Aside0.mk (equalK.calls (A0 := K1) (c0 := d1) (B0 := K2) (d0 := d2) (kindsL xs r.cols) (kindsL ts[n].cols ts[n].rules[m].cols) w4 (Kd.C_below C1 hb) (by have := kindsL_le xs r.cols; omega) C2)
          clear hH hb C1 C2
          by_cases e1 : ts[n].rules[m].cols.length = r.cols.length
          · have f1 : ((ts[n].rules[m].cols.length : Int) != (r.cols.length : Int)) = false := by rw [e1]; simp
            by_cases e2 : (kindsL ts[n].cols ts[n].rules[m].cols).length = ts[n].rules[m].cols.length
            · have f2 : (((kindsL ts[n].cols ts[n].rules[m].cols).length : Int) != (ts[n].rules[m].cols.length : Int)) = false := by rw [e2]; simp
              by_cases e3 : kindsL xs r.cols = kindsL ts[n].cols ts[n].rules[m].cols
              · have HI4 := Aside0.mk (show (0 : Int) = q by rw [← HI3.out, goB_yes e1 e2 e3]; rfl)
                rw [decide_eq_true e3] at HE
                clear e1 e2 e3
                go_wp2_with fail
                refine HE.out.mono ?_
                rintro e w5 ⟨rfl, hb5⟩
                have HB5 := Aside0.mk (HBf.out.trans (hb5.mono HBf.out.size))
                clear hb5
                go_wp2
                go_ret
                exact ⟨ret_int HI4.out, HB5.out⟩
              · have HI4 := Aside0.mk (show (63 : Int) = q by rw [← HI3.out, goB_no (fun h => e3 h.2.2)]; rfl)
                rw [decide_eq_false e3] at HE
                clear e1 e2 e3
                go_wp2_with fail
                refine HE.out.mono ?_
                rintro e w5 ⟨rfl, hb5⟩
                have HB5 := Aside0.mk (HBf.out.trans (hb5.mono HBf.out.size))
                clear hb5
                go_wp2
                go_ret
                exact ⟨ret_int HI4.out, HB5.out⟩
            · have f2 : (((kindsL ts[n].cols ts[n].rules[m].cols).length : Int) != (ts[n].rules[m].cols.length : Int)) = true := bne_iff_ne.2 (by omega)
              have HI4 := Aside0.mk (show (63 : Int) = q by rw [← HI3.out, goB_no (fun h => e2 h.2.1)]; rfl)
              clear e1 e2
              go_wp2
              go_ret
              exact ⟨ret_int HI4.out, HBf.out⟩
          · have f1 : ((ts[n].rules[m].cols.length : Int) != (r.cols.length : Int)) = true := bne_iff_ne.2 (by omega)
            have HI4 := Aside0.mk (show (63 : Int) = q by rw [← HI3.out, goB_no (fun h => e1 h.1)]; rfl)
            clear e1
            go_wp2
            go_ret
            exact ⟨ret_int HI4.out, HBf.out⟩
    · clear hz1
      have HI2 := Aside0.mk ((keyE_bare (l := xs) e).symm.trans HI1.out)
      rw [e] at HCR
      clear e
      go_wp2_with fail
      refine (HCR.out _ (below_alloc (Below.refl _ _) _)).mono ?_
      rintro e w2 ⟨rfl, hb2⟩
      have HB2 := Aside0.mk (HB1.out.trans (hb2.mono HB1.out.size))
      clear hb2
      go_wp2
      go_ret
      exact ⟨ret_int HI2.out, HB2.out⟩
  · clear hz1
    have HI1 := Aside0.mk ((keyE_none (l := xs) e).symm.trans HI.out)
    rw [e, show decide ((0 : Int) ≤ -1) = false from rfl] at HC
    clear e
    go_enter Try.func92, Try.ntmps92
    go_wp2_with fail
    refine (HC.out _ HW.out).mono ?_
    rintro e w1 ⟨rfl, hb1⟩
    have HB := Aside0.mk (HW.out.trans (hb1.mono HW.out.size))
    clear hb1
    go_wp2
    go_ret
    exact ⟨ret_int HI1.out, HB.out⟩
end Go.Proofs.Ytmmiehckgkadgaa.O
