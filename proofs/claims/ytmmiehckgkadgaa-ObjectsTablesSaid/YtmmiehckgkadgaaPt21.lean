/- Own lemmas and walks (TE, TF, TH), without what the law does not need. Laid by a program of this session (prune.py). -/
import Derived.Test.YtmmiehckgkadgaaPt16
import Derived.Test.YtmmiehckgkadgaaPt20
namespace Go.Proofs.Ytmmiehckgkadgaa.O
set_option linter.unusedVariables false
set_option linter.unusedSimpArgs false
open Go.RowKit Go.Proofs.YtmmiehckgkadgaaW.PrintWords
def foreignTo (schema table : ByteArray) (r : Rul) : Bool := (r.kind == 4) && ((r.schema.toList == schema.toList) && (r.table.toList == table.toList))
def namesR (schema table key : ByteArray) (r : Rul) : Bool := foreignTo schema table r && (key.toList.isEmpty || (r.key.toList == key.toList))
set_option maxRecDepth 20000 in
set_option maxHeartbeats 4000000 in
theorem names.calls (t : Tab) (schema table key : ByteArray) {A3 A4 : Option Addr} {c3 c4 : Nat} (w : World) (h4 : kRul.C w A4 t.rules.length t.rules) (hlr : t.rules.length ≤ 3000) :
    Calls Try.prog 87 #[.agg #[.string t.schema, .string t.name, .string t.owner, .slice A3 t.cols.length c3, .slice A4 t.rules.length c4], .string schema, .string table, .string key] w fun e w' => e = .returned (.bool (t.rules.any (namesR schema table key))) ∧ Below w.heap.size w w' := by
  have HX := Aside0.mk (boxes1 w (.cells #[.string t.schema, .string t.name, .string t.owner, .slice A3 t.cols.length c3, .slice A4 t.rules.length c4] 35))
  have HR := Aside0.mk h4
  generalize hi : t.rules.any (namesR schema table key) = res
  have HI := Aside0.mk hi
  clear h4 hi
  go_enter Try.func87, Try.ntmps87
  go_wp2
  go_loopw [9] (fun i w' => ∃ k : Nat, k ≤ t.rules.length ∧ i = .int .i64 k ∧ Aside0 ((∀ j (hj : j < t.rules.length), j < k → namesR schema table key t.rules[j] = false) ∧ w'.heap[w.heap.size]? = some (.cells #[.string t.schema, .string t.name, .string t.owner, .slice A3 t.cols.length c3, .slice A4 t.rules.length c4] 35 (0, 0)) ∧ Below w.heap.size w w')) (fun i _ => t.rules.length - (intOf i).toNat)
  case atStart => exact ⟨0, Nat.zero_le _, rfl, ⟨fun _ _ h => absurd h (Nat.not_lt_zero _), HX.out.2, HX.out.1⟩⟩
  case round =>
    clear HX
    obtain ⟨k, hk, rfl, HJ⟩ := hrel
    have b4 : wr.cell? ⟨w.heap.size, 4, none⟩ = some (.slice A4 t.rules.length c4) := (blk_cell HJ.out.2.1 4).trans rfl
    by_cases hlt : k < t.rules.length
    · obtain ⟨ad, A2, c2, e, r0, r1, r2, r3, r4, r5, r6, r7, hl2, hC⟩ := rulAt (Kd.C_below HR.out HJ.out.2.2) k hlt
      cases e
      have i0 : (0 : Int) ≤ (k : Int) := by omega
      have i1 : (k : Int) < (t.rules.length : Int) := by omega
      have HN := Aside0.mk (fun (o : Obj) => And.intro (blk_alloc HJ.out.2.1 o) (below_alloc HJ.out.2.2 o))
      clear hl2 hC
      cases p1 : (t.rules[k].kind == 4) with
      | false =>
        have HP := Aside0.mk (show namesR schema table key t.rules[k] = false by unfold namesR foreignTo; rw [p1]; rfl)
        go_wp2
        go_roundw
        case rel => exact ⟨k + 1, by omega, by go_num, ⟨snoc_false (p := namesR schema table key) HJ.out.1 hlt HP.out, HN.out _⟩⟩
        case measure => simp [intOf]; omega
      | true =>
      cases p2 : (t.rules[k].schema.toList == schema.toList) with
      | false =>
        have HP := Aside0.mk (show namesR schema table key t.rules[k] = false by unfold namesR foreignTo; rw [p1, p2]; rfl)
        go_wp2
        go_roundw
        case rel => exact ⟨k + 1, by omega, by go_num, ⟨snoc_false (p := namesR schema table key) HJ.out.1 hlt HP.out, HN.out _⟩⟩
        case measure => simp [intOf]; omega
      | true =>
      cases p3 : (t.rules[k].table.toList == table.toList) with
      | false =>
        have HP := Aside0.mk (show namesR schema table key t.rules[k] = false by unfold namesR foreignTo; rw [p1, p2, p3]; rfl)
        go_wp2
        go_roundw
        case rel => exact ⟨k + 1, by omega, by go_num, ⟨snoc_false (p := namesR schema table key) HJ.out.1 hlt HP.out, HN.out _⟩⟩
        case measure => simp [intOf]; omega
      | true =>
      cases p4 : key.toList.isEmpty with
      | true =>
        have HP := Aside0.mk (show namesR schema table key t.rules[k] = true by unfold namesR foreignTo; rw [p1, p2, p3, p4]; rfl)
        have HR2 := Aside0.mk ((any_hit (p := namesR schema table key) hlt HP.out).symm.trans HI.out)
        go_wp2
        go_ret
        exact ⟨ret_bool HR2.out, (HN.out _).2⟩
      | false =>
      cases p5 : (t.rules[k].key.toList == key.toList) with
      | false =>
        have HP := Aside0.mk (show namesR schema table key t.rules[k] = false by unfold namesR foreignTo; rw [p1, p2, p3, p4, p5]; rfl)
        go_wp2
        go_roundw
        case rel => exact ⟨k + 1, by omega, by go_num, ⟨snoc_false (p := namesR schema table key) HJ.out.1 hlt HP.out, HN.out _⟩⟩
        case measure => simp [intOf]; omega
      | true =>
        have HP := Aside0.mk (show namesR schema table key t.rules[k] = true by unfold namesR foreignTo; rw [p1, p2, p3, p4, p5]; rfl)
        have HR2 := Aside0.mk ((any_hit (p := namesR schema table key) hlt HP.out).symm.trans HI.out)
        go_wp2
        go_ret
        exact ⟨ret_bool HR2.out, (HN.out _).2⟩
    · have hd : decide (k < t.rules.length) = false := decide_eq_false hlt
      have HR2 := Aside0.mk ((any_none (p := namesR schema table key) fun j hj => HJ.out.1 j hj (by omega)).symm.trans HI.out)
      go_wp2
      go_ret
      exact ⟨ret_bool HR2.out, HJ.out.2.2⟩
end Go.Proofs.Ytmmiehckgkadgaa.O
namespace Go.Proofs.Ytmmiehckgkadgaa.O
set_option linter.unusedVariables false
set_option linter.unusedSimpArgs false
open Go.RowKit Go.Proofs.YtmmiehckgkadgaaW.PrintWords
def foreignAny (schema table : ByteArray) (t : Tab) : Bool := t.rules.any (namesR schema table ⟨#[]⟩)
def dropTabR (ss : List Sch) (ts : List Tab) (schema table : ByteArray) : Res := if 0 ≤ idx (isT schema table) ts then (if (ts.eraseIdx (idx (isT schema table) ts).toNat).any (foreignAny schema table) = true then (62, [], []) else (0, ss, ts.eraseIdx (idx (isT schema table) ts).toNat)) else (61, [], [])
def dropTable (ss : List Sch) (ts : List Tab) (schema table : ByteArray) : Res := chg ss ts (dropTabR ss ts schema table)
def kept (ts : List Tab) (k j : Nat) : List Tab := (ts.take j).eraseIdx k
theorem kept_zero (ts : List Tab) (k : Nat) : kept ts k 0 = [] := by simp [kept]
theorem kept_at (ts : List Tab) (k : Nat) (h : k < ts.length) : kept ts k (k + 1) = kept ts k k := by
  unfold kept
  have hlen : (ts.take k).length = k := by rw [List.length_take]; omega
  rw [List.take_succ_eq_append_getElem h, List.eraseIdx_append_of_length_le (by omega), hlen, Nat.sub_self, List.eraseIdx_of_length_le (l := ts.take k) (by omega)]
  show ts.take k ++ [] = _
  rw [List.append_nil]
theorem kept_next {ts : List Tab} {k j : Nat} (h : j < ts.length) (hne : j ≠ k) : kept ts k (j + 1) = kept ts k j ++ [ts[j]] := by
  unfold kept
  rw [List.take_succ_eq_append_getElem h]
  by_cases hl : k < (ts.take j).length
  · rw [List.eraseIdx_append_of_lt_length hl]
  · rw [List.eraseIdx_of_length_le (l := ts.take j) (by omega), List.eraseIdx_of_length_le]
    have hlen : (ts.take j).length = j := by rw [List.length_take]; omega
    rw [List.length_append, hlen]; simp; omega
theorem kept_all (ts : List Tab) (k : Nat) : kept ts k ts.length = ts.eraseIdx k := by unfold kept; rw [List.take_length]
theorem kept_len (ts : List Tab) (k j : Nat) : (kept ts k j).length ≤ ts.length := Nat.le_trans (List.length_eraseIdx_le _ _) (by rw [List.length_take]; omega)
def DrpI (As At : Option Addr) (cs ct : Nat) (ss : List Sch) (ts : List Tab) (w : World) (g : Nat) (Bs : Option Addr) (ds : Nat) (W : World) (l : List Tab) : Prop :=
  ∃ Bt dt, Below w.heap.size w W ∧ W.heap[w.heap.size]? = some (.cells #[.slice As ss.length cs, .slice At ts.length ct] 26 (0, 0)) ∧ W.heap[w.heap.size + 1]? = some (.cells #[.slice none 0 0, .slice none 0 0] 26 (0, 0)) ∧ W.heap[g]? = some (.cells #[.slice Bs ss.length ds, .slice Bt l.length dt] 26 (0, 0)) ∧
    kSch.R 63 W w.heap.size (fun _ => True) (.slice Bs ss.length ds) ss ∧ Kd.S kTab 35 W w.heap.size (fun _ => True) (.slice Bt l.length dt) l
theorem DrpI.move {As At : Option Addr} {cs ct : Nat} {ss : List Sch} {ts : List Tab} {w W W' : World} {g : Nat} {Bs : Option Addr} {ds : Nat} {l : List Tab} (h : DrpI As At cs ct ss ts w g Bs ds W l) (hb : Below W.heap.size W W') : DrpI As At cs ct ss ts w g Bs ds W' l := by
  obtain ⟨Bt, dt, h1, h2, h3, h4, h5, h6⟩ := h
  exact ⟨Bt, dt, below_step h1 hb, blk_below h2 hb, blk_below h3 hb, blk_below h4 hb, Kd.R_below h5 hb, Kd.S_below h6 hb⟩
set_option maxRecDepth 100000 in
set_option maxHeartbeats 8000000 in
theorem rDropTable.calls {As At : Option Addr} {cs ct : Nat} (ss : List Sch) (ts : List Tab) (schema table : ByteArray) (w : World) (hs : kSch.C w As ss.length ss) (hsl : ss.length ≤ 3000) (ht : kTab.C w At ts.length ts) (hF : TabsF ts) (hB : TabsB ts) :
    Calls Try.prog 36 #[.agg #[Value.slice As ss.length cs, Value.slice At ts.length ct], .string schema, .string table] w (Out w (dropTable ss ts schema table)) := by
  have HX0 := Aside0.mk (boxes2 w (.cells #[Value.slice As ss.length cs, Value.slice At ts.length ct] 26) (.cells #[Value.slice none 0 0, Value.slice none 0 0] 26))
  have HCK := Aside0.mk (fun W (hW : Below w.heap.size w W) => rRightAll.calls (As := As) (cs := cs) (At := At) (ct := ct) ss ts W (Kd.C_below hs hW) (by omega) (Kd.C_below ht hW) hF)
  have HTB := Aside0.mk (fun W (hW : Below w.heap.size w W) => rTable.calls (As := As) (ns := ss.length) (cs := cs) (A0 := At) (c0 := ct) schema table ts W (Kd.C_below ht hW) (by have := hB.1; omega))
  have HT := Aside0.mk ht
  have HC := Aside0.mk hs
  have HF2 := Aside0.mk hB.2
  have HNO := Aside0.mk (fun n W => rNo.calls n W)
  have htl : ts.length ≤ 3000 := hB.1
  clear hs ht hF hB
  unfold dropTable
  cases hck : checkB ss ts with
  | false =>
    rw [chg_bad _ hck]
    rw [hck] at HCK
    clear hck HTB HT HC HF2
    go_enter Try.func36, Try.ntmps36
    have c_o0 : ((w.alloc (.cells #[Value.slice As ss.length cs, Value.slice At ts.length ct] 26)).alloc (.cells #[Value.slice none 0 0, Value.slice none 0 0] 26)).cell? ⟨w.heap.size, 0, none⟩ = some (Value.slice As ss.length cs) := (blk_cell HX0.out.2.1 0).trans rfl
    have f_o0 := blk_frozen HX0.out.2.1 0
    have c_o1 : ((w.alloc (.cells #[Value.slice As ss.length cs, Value.slice At ts.length ct] 26)).alloc (.cells #[Value.slice none 0 0, Value.slice none 0 0] 26)).cell? ⟨w.heap.size, 1, none⟩ = some (Value.slice At ts.length ct) := (blk_cell HX0.out.2.1 1).trans rfl
    have f_o1 := blk_frozen HX0.out.2.1 1
    have c_z0 : ((w.alloc (.cells #[Value.slice As ss.length cs, Value.slice At ts.length ct] 26)).alloc (.cells #[Value.slice none 0 0, Value.slice none 0 0] 26)).cell? ⟨w.heap.size + 1, 0, none⟩ = some (Value.slice none 0 0) := (blk_cell HX0.out.2.2 0).trans rfl
    have f_z0 := blk_frozen HX0.out.2.2 0
    have c_z1 : ((w.alloc (.cells #[Value.slice As ss.length cs, Value.slice At ts.length ct] 26)).alloc (.cells #[Value.slice none 0 0, Value.slice none 0 0] 26)).cell? ⟨w.heap.size + 1, 1, none⟩ = some (Value.slice none 0 0) := (blk_cell HX0.out.2.2 1).trans rfl
    have f_z1 := blk_frozen HX0.out.2.2 1
    go_wp2_with fail
    clear c_o0 f_o0 c_o1 f_o1 c_z0 f_z0 c_z1 f_z1
    refine (HCK.out _ HX0.out.1).mono ?_
    rintro e w1 ⟨rfl, hb1⟩
    have HB1 := Aside0.mk (below_step (HX0.out.1) hb1)
    have HK1 := Aside0.mk (blk_below (HX0.out.2.1) hb1)
    have HK2 := Aside0.mk (blk_below (HX0.out.2.2) hb1)
    have HS1 := Aside0.mk hb1
    clear hb1
    have c_o0 : w1.cell? ⟨w.heap.size, 0, none⟩ = some (Value.slice As ss.length cs) := (blk_cell HK1.out 0).trans rfl
    have f_o0 := blk_frozen HK1.out 0
    have c_o1 : w1.cell? ⟨w.heap.size, 1, none⟩ = some (Value.slice At ts.length ct) := (blk_cell HK1.out 1).trans rfl
    have f_o1 := blk_frozen HK1.out 1
    have c_z0 : w1.cell? ⟨w.heap.size + 1, 0, none⟩ = some (Value.slice none 0 0) := (blk_cell HK2.out 0).trans rfl
    have f_z0 := blk_frozen HK2.out 0
    have c_z1 : w1.cell? ⟨w.heap.size + 1, 1, none⟩ = some (Value.slice none 0 0) := (blk_cell HK2.out 1).trans rfl
    have f_z1 := blk_frozen HK2.out 1
    go_wp2_with fail
    clear c_o0 f_o0 c_o1 f_o1 c_z0 f_z0 c_z1 f_z1
    refine (HNO.out _ _).mono ?_
    rintro e w2 ⟨rfl, hb2⟩
    have HB2 := Aside0.mk (below_step (HB1.out) hb2)
    have HK3 := Aside0.mk (blk_below (HK1.out) hb2)
    have HK4 := Aside0.mk (blk_below (HK2.out) hb2)
    have HS2 := Aside0.mk hb2
    clear hb2
    have c_o0 : w2.cell? ⟨w.heap.size, 0, none⟩ = some (Value.slice As ss.length cs) := (blk_cell HK3.out 0).trans rfl
    have f_o0 := blk_frozen HK3.out 0
    have c_o1 : w2.cell? ⟨w.heap.size, 1, none⟩ = some (Value.slice At ts.length ct) := (blk_cell HK3.out 1).trans rfl
    have f_o1 := blk_frozen HK3.out 1
    have c_z0 : w2.cell? ⟨w.heap.size + 1, 0, none⟩ = some (Value.slice none 0 0) := (blk_cell HK4.out 0).trans rfl
    have f_z0 := blk_frozen HK4.out 0
    have c_z1 : w2.cell? ⟨w.heap.size + 1, 1, none⟩ = some (Value.slice none 0 0) := (blk_cell HK4.out 1).trans rfl
    have f_z1 := blk_frozen HK4.out 1
    go_wp2
    refine bodyPost_ret (v := .tuple #[.agg #[.slice none 0 0, .slice none 0 0], .int .i64 63]) (by simp [results, Try.results36, go_sem, *]) rfl ?_
    exact zeroOut (g := w.heap.size + 1) (n := 63) HB2.out (by omega)
  | true =>
  have HK := Aside0.mk hck
  rw [hck] at HCK
  clear hck
  rcases idx_cases (isT schema table) ts with ⟨k, hk, hi, y1, y2⟩ | ⟨hi, y1⟩
  rotate_left
  · rw [chgT_at (n := 61) HK.out (by unfold dropTabR; rw [hi]; rfl)]
    rw [hi] at HTB
    have hd : decide ((-1 : Int) < 0) = true := rfl
    clear hi y1 HT HC HF2 HK
    go_enter Try.func36, Try.ntmps36
    have c_o0 : ((w.alloc (.cells #[Value.slice As ss.length cs, Value.slice At ts.length ct] 26)).alloc (.cells #[Value.slice none 0 0, Value.slice none 0 0] 26)).cell? ⟨w.heap.size, 0, none⟩ = some (Value.slice As ss.length cs) := (blk_cell HX0.out.2.1 0).trans rfl
    have f_o0 := blk_frozen HX0.out.2.1 0
    have c_o1 : ((w.alloc (.cells #[Value.slice As ss.length cs, Value.slice At ts.length ct] 26)).alloc (.cells #[Value.slice none 0 0, Value.slice none 0 0] 26)).cell? ⟨w.heap.size, 1, none⟩ = some (Value.slice At ts.length ct) := (blk_cell HX0.out.2.1 1).trans rfl
    have f_o1 := blk_frozen HX0.out.2.1 1
    have c_z0 : ((w.alloc (.cells #[Value.slice As ss.length cs, Value.slice At ts.length ct] 26)).alloc (.cells #[Value.slice none 0 0, Value.slice none 0 0] 26)).cell? ⟨w.heap.size + 1, 0, none⟩ = some (Value.slice none 0 0) := (blk_cell HX0.out.2.2 0).trans rfl
    have f_z0 := blk_frozen HX0.out.2.2 0
    have c_z1 : ((w.alloc (.cells #[Value.slice As ss.length cs, Value.slice At ts.length ct] 26)).alloc (.cells #[Value.slice none 0 0, Value.slice none 0 0] 26)).cell? ⟨w.heap.size + 1, 1, none⟩ = some (Value.slice none 0 0) := (blk_cell HX0.out.2.2 1).trans rfl
    have f_z1 := blk_frozen HX0.out.2.2 1
    go_wp2_with fail
    clear c_o0 f_o0 c_o1 f_o1 c_z0 f_z0 c_z1 f_z1
    refine (HCK.out _ HX0.out.1).mono ?_
    rintro e w1 ⟨rfl, hb1⟩
    have HB1 := Aside0.mk (below_step (HX0.out.1) hb1)
    have HK1 := Aside0.mk (blk_below (HX0.out.2.1) hb1)
    have HK2 := Aside0.mk (blk_below (HX0.out.2.2) hb1)
    have HS1 := Aside0.mk hb1
    clear hb1
    have c_o0 : w1.cell? ⟨w.heap.size, 0, none⟩ = some (Value.slice As ss.length cs) := (blk_cell HK1.out 0).trans rfl
    have f_o0 := blk_frozen HK1.out 0
    have c_o1 : w1.cell? ⟨w.heap.size, 1, none⟩ = some (Value.slice At ts.length ct) := (blk_cell HK1.out 1).trans rfl
    have f_o1 := blk_frozen HK1.out 1
    have c_z0 : w1.cell? ⟨w.heap.size + 1, 0, none⟩ = some (Value.slice none 0 0) := (blk_cell HK2.out 0).trans rfl
    have f_z0 := blk_frozen HK2.out 0
    have c_z1 : w1.cell? ⟨w.heap.size + 1, 1, none⟩ = some (Value.slice none 0 0) := (blk_cell HK2.out 1).trans rfl
    have f_z1 := blk_frozen HK2.out 1
    go_wp2_with fail
    clear c_o0 f_o0 c_o1 f_o1 c_z0 f_z0 c_z1 f_z1
    refine (HTB.out _ HB1.out).mono ?_
    rintro e w2 ⟨rfl, hb2⟩
    have HB2 := Aside0.mk (below_step (HB1.out) hb2)
    have HK3 := Aside0.mk (blk_below (HK1.out) hb2)
    have HK4 := Aside0.mk (blk_below (HK2.out) hb2)
    have HS2 := Aside0.mk hb2
    clear hb2
    have c_o0 : w2.cell? ⟨w.heap.size, 0, none⟩ = some (Value.slice As ss.length cs) := (blk_cell HK3.out 0).trans rfl
    have f_o0 := blk_frozen HK3.out 0
    have c_o1 : w2.cell? ⟨w.heap.size, 1, none⟩ = some (Value.slice At ts.length ct) := (blk_cell HK3.out 1).trans rfl
    have f_o1 := blk_frozen HK3.out 1
    have c_z0 : w2.cell? ⟨w.heap.size + 1, 0, none⟩ = some (Value.slice none 0 0) := (blk_cell HK4.out 0).trans rfl
    have f_z0 := blk_frozen HK4.out 0
    have c_z1 : w2.cell? ⟨w.heap.size + 1, 1, none⟩ = some (Value.slice none 0 0) := (blk_cell HK4.out 1).trans rfl
    have f_z1 := blk_frozen HK4.out 1
    go_wp2_with fail
    clear c_o0 f_o0 c_o1 f_o1 c_z0 f_z0 c_z1 f_z1
    refine (HNO.out _ _).mono ?_
    rintro e w3 ⟨rfl, hb3⟩
    have HB3 := Aside0.mk (below_step (HB2.out) hb3)
    have HK5 := Aside0.mk (blk_below (HK3.out) hb3)
    have HK6 := Aside0.mk (blk_below (HK4.out) hb3)
    have HS3 := Aside0.mk hb3
    clear hb3
    have c_o0 : w3.cell? ⟨w.heap.size, 0, none⟩ = some (Value.slice As ss.length cs) := (blk_cell HK5.out 0).trans rfl
    have f_o0 := blk_frozen HK5.out 0
    have c_o1 : w3.cell? ⟨w.heap.size, 1, none⟩ = some (Value.slice At ts.length ct) := (blk_cell HK5.out 1).trans rfl
    have f_o1 := blk_frozen HK5.out 1
    have c_z0 : w3.cell? ⟨w.heap.size + 1, 0, none⟩ = some (Value.slice none 0 0) := (blk_cell HK6.out 0).trans rfl
    have f_z0 := blk_frozen HK6.out 0
    have c_z1 : w3.cell? ⟨w.heap.size + 1, 1, none⟩ = some (Value.slice none 0 0) := (blk_cell HK6.out 1).trans rfl
    have f_z1 := blk_frozen HK6.out 1
    go_wp2
    refine bodyPost_ret (v := .tuple #[.agg #[.slice none 0 0, .slice none 0 0], .int .i64 61]) (by simp [results, Try.results36, go_sem, *]) rfl ?_
    exact zeroOut (g := w.heap.size + 1) (n := 61) HB3.out (by omega)
  have HE := Aside0.mk (show dropTabR ss ts schema table = (if (ts.eraseIdx k).any (foreignAny schema table) = true then (62, [], []) else (0, ss, ts.eraseIdx k)) by unfold dropTabR; rw [hi, if_pos (show (0 : Int) ≤ (k : Int) by omega), Int.toNat_natCast])
  rw [hi] at HTB
  have hd : decide ((k : Int) < 0) = false := decide_eq_false (by omega)
  clear hi y1 y2
  go_enter Try.func36, Try.ntmps36
  have c_o0 : ((w.alloc (.cells #[Value.slice As ss.length cs, Value.slice At ts.length ct] 26)).alloc (.cells #[Value.slice none 0 0, Value.slice none 0 0] 26)).cell? ⟨w.heap.size, 0, none⟩ = some (Value.slice As ss.length cs) := (blk_cell HX0.out.2.1 0).trans rfl
  have f_o0 := blk_frozen HX0.out.2.1 0
  have c_o1 : ((w.alloc (.cells #[Value.slice As ss.length cs, Value.slice At ts.length ct] 26)).alloc (.cells #[Value.slice none 0 0, Value.slice none 0 0] 26)).cell? ⟨w.heap.size, 1, none⟩ = some (Value.slice At ts.length ct) := (blk_cell HX0.out.2.1 1).trans rfl
  have f_o1 := blk_frozen HX0.out.2.1 1
  have c_z0 : ((w.alloc (.cells #[Value.slice As ss.length cs, Value.slice At ts.length ct] 26)).alloc (.cells #[Value.slice none 0 0, Value.slice none 0 0] 26)).cell? ⟨w.heap.size + 1, 0, none⟩ = some (Value.slice none 0 0) := (blk_cell HX0.out.2.2 0).trans rfl
  have f_z0 := blk_frozen HX0.out.2.2 0
  have c_z1 : ((w.alloc (.cells #[Value.slice As ss.length cs, Value.slice At ts.length ct] 26)).alloc (.cells #[Value.slice none 0 0, Value.slice none 0 0] 26)).cell? ⟨w.heap.size + 1, 1, none⟩ = some (Value.slice none 0 0) := (blk_cell HX0.out.2.2 1).trans rfl
  have f_z1 := blk_frozen HX0.out.2.2 1
  go_wp2_with fail
  clear c_o0 f_o0 c_o1 f_o1 c_z0 f_z0 c_z1 f_z1
  refine (HCK.out _ HX0.out.1).mono ?_
  rintro e w1 ⟨rfl, hb1⟩
  have HB1 := Aside0.mk (below_step (HX0.out.1) hb1)
  have HK1 := Aside0.mk (blk_below (HX0.out.2.1) hb1)
  have HK2 := Aside0.mk (blk_below (HX0.out.2.2) hb1)
  have HS1 := Aside0.mk hb1
  clear hb1
  have c_o0 : w1.cell? ⟨w.heap.size, 0, none⟩ = some (Value.slice As ss.length cs) := (blk_cell HK1.out 0).trans rfl
  have f_o0 := blk_frozen HK1.out 0
  have c_o1 : w1.cell? ⟨w.heap.size, 1, none⟩ = some (Value.slice At ts.length ct) := (blk_cell HK1.out 1).trans rfl
  have f_o1 := blk_frozen HK1.out 1
  have c_z0 : w1.cell? ⟨w.heap.size + 1, 0, none⟩ = some (Value.slice none 0 0) := (blk_cell HK2.out 0).trans rfl
  have f_z0 := blk_frozen HK2.out 0
  have c_z1 : w1.cell? ⟨w.heap.size + 1, 1, none⟩ = some (Value.slice none 0 0) := (blk_cell HK2.out 1).trans rfl
  have f_z1 := blk_frozen HK2.out 1
  go_wp2_with fail
  clear c_o0 f_o0 c_o1 f_o1 c_z0 f_z0 c_z1 f_z1
  refine (HTB.out _ HB1.out).mono ?_
  rintro e w2 ⟨rfl, hb2⟩
  have HB2 := Aside0.mk (below_step (HB1.out) hb2)
  have HK3 := Aside0.mk (blk_below (HK1.out) hb2)
  have HK4 := Aside0.mk (blk_below (HK2.out) hb2)
  have HS2 := Aside0.mk hb2
  clear hb2
  have c_o0 : w2.cell? ⟨w.heap.size, 0, none⟩ = some (Value.slice As ss.length cs) := (blk_cell HK3.out 0).trans rfl
  have f_o0 := blk_frozen HK3.out 0
  have c_o1 : w2.cell? ⟨w.heap.size, 1, none⟩ = some (Value.slice At ts.length ct) := (blk_cell HK3.out 1).trans rfl
  have f_o1 := blk_frozen HK3.out 1
  have HA := Aside0.mk (below_alloc HB2.out (.cells #[.slice none 0 0, .slice none 0 0] 26))
  have HAO := Aside0.mk (blk_alloc HK3.out (.cells #[.slice none 0 0, .slice none 0 0] 26))
  have HAZ := Aside0.mk (blk_alloc HK4.out (.cells #[.slice none 0 0, .slice none 0 0] 26))
  have HAG := Aside0.mk (blk_new w2 (.cells #[.slice none 0 0, .slice none 0 0] 26))
  have a_o0 : ∀ o, (w2.alloc o).cell? ⟨w.heap.size, 0, none⟩ = some (Value.slice As ss.length cs) := fun o => (blk_cell (blk_alloc (o' := o) HK3.out) 0).trans rfl
  have hgw : ¬ w.heap.size = w2.heap.size := by have := blk_lt HK3.out; omega
  have hgz : ¬ w.heap.size + 1 = w2.heap.size := by have := blk_lt HK4.out; omega
  have HGW := Aside0.mk (show w.heap.size ≤ w2.heap.size from HB2.out.size)
  clear HCK HTB
  go_wp2_with ((at_builtin; refine Kd.R_append_rows kSch (Rr := kSch.K w) (w0 := w) w.heap.size (by rfl) (.tmp 28) (.tmp 30) 23 63 (.agg #[(.string ⟨#[]⟩), (.string ⟨#[]⟩)]) 32 (by rfl) Try.underlying23 infoSch rfl (by decide) (by decide) (.slice none 0 0) [] ss As ss.length cs (fun _ => True) (fun _ => False) (by rfl) (by rfl) (Kd.R_nil _ _ _ _ _) (ReadsRow.imp_ HC.out HA.out (fun _ _ h => h)) (fun x c hk => flatSch w _ _ _ x c hk) (fun _ hk => hk.elim) (fun _ _ => trivial) HA.out HA.out.size (by simp; omega) ?_; intro v1 x1 hR1 hB1 hg1 _; rw [List.nil_append] at hR1; obtain ⟨Bs, ds, rfl⟩ := Kd.R_slice hR1; have hO1 := blk_grown HAO.out hg1 (by simp [Value.ownBlock]); have hZ1 := blk_grown HAZ.out hg1 (by simp [Value.ownBlock]); have hG1 := blk_grown HAG.out hg1 (by simp [Value.ownBlock]); have e0 : x1.cell? ⟨w2.heap.size, 0, none⟩ = some (.slice none 0 0) := (blk_cell hG1 0).trans rfl; have f0 := blk_frozen hG1 0; have HS : Aside0 (DrpI As At cs ct ss ts w w2.heap.size Bs ds (x1.setCell ⟨w2.heap.size, 0, none⟩ (.slice Bs ss.length ds)) []) := ⟨none, 0, hB1.setCell (p := ⟨w2.heap.size, 0, none⟩) HGW.out _, blk_far (p := ⟨w2.heap.size, 0, none⟩) hO1 hgw _, blk_far (p := ⟨w2.heap.size, 0, none⟩) hZ1 hgz _, blk_set hG1 0 _, Kd.R_set hR1 hG1 (by decide) 0 _, Kd.S_nil _ _ _ _ _⟩; clear hR1 hB1 hg1 hO1 hZ1 hG1))
  clear c_o0 f_o0 c_o1 f_o1
  clear a_o0 e0 f0 HA HAO HAZ HAG
  generalize x1.setCell ⟨w2.heap.size, 0, none⟩ (.slice Bs ss.length ds) = W1 at *
  generalize w2.heap.size = g at *
  have HG := Aside0.mk (And.intro HGW.out (And.intro hgw hgz))
  clear HGW hgw hgz HC
  go_loopw [10] (fun i w' => ∃ j : Nat, j ≤ ts.length ∧ i = .int .i64 j ∧ Aside0 (DrpI As At cs ct ss ts w g Bs ds w' (kept ts k j) ∧ ∀ q (hq : q < ts.length), q < j → q ≠ k → foreignAny schema table ts[q] = false)) (fun i _ => ts.length - (intOf i).toNat)
  case atStart => exact ⟨0, Nat.zero_le _, rfl, ⟨by rw [kept_zero]; exact HS.out, fun _ _ h => absurd h (Nat.not_lt_zero _)⟩⟩
  case round =>
    clear HS
    obtain ⟨j, hj, rfl, HJ⟩ := hrel
    have hkl := kept_len ts k j
    obtain ⟨Bt, dt, hB, hO, hZ, hG, hR, hS⟩ := HJ.out.1
    have HX := Aside0.mk (And.intro hB (And.intro hO (And.intro hZ (And.intro hG (And.intro hR hS)))))
    have b1 : wr.cell? ⟨w.heap.size, 1, none⟩ = some (.slice At ts.length ct) := (blk_cell hO 1).trans rfl
    clear hB hO hZ hG hR hS
    by_cases hlt : j < ts.length
    · by_cases hjk : j = k
      · subst hjk
        go_wp2
        go_roundw
        case rel => exact ⟨j + 1, by omega, by go_num, ⟨by rw [kept_at ts j hlt]; exact HJ.out.1, fun q hq h1 h2 => HJ.out.2 q hq (by omega) h2⟩⟩
        case measure => simp [intOf]; omega
      have hne : ((j : Int) == (k : Int)) = false := beq_eq_false_iff_ne.2 (by omega)
      obtain ⟨ad, A3, c3, A4, c4, e, r0, r1, r2, r3, r4, hl3, h3, hl4, h4⟩ := tabAt (Kd.C_below HT.out HX.out.1) j hlt
      cases e
      have HTJ := HF2.out _ (List.getElem_mem hlt)
      have HNM := Aside0.mk (names.calls ts[j] schema table ⟨#[]⟩ (A3 := A3) (c3 := c3) (c4 := c4) wr h4 HTJ.2.1)
      have HCP := Aside0.mk (rCopy.at_ ts[j] (c3 := c3) (c4 := c4) wr h3 h4 HTJ)
      have HRD := Aside0.mk (And.intro r0 (And.intro r1 (And.intro r2 (And.intro r3 r4))))
      have i0 : (0 : Int) ≤ (j : Int) := by omega
      have i1 : (j : Int) < (ts.length : Int) := by omega
      clear h3 h4 hl3 hl4 HTJ
      cases hp : foreignAny schema table ts[j] with
      | true =>
        have HQ := Aside0.mk (chgT_at (r := dropTabR ss ts schema table) (n := 62) HK.out (by rw [HE.out, if_pos (List.any_eq_true.2 ⟨ts[j], List.mem_eraseIdx_iff_getElem.2 ⟨j, hlt, hjk, rfl⟩, hp⟩)]))
        rw [show ts[j].rules.any (namesR schema table ⟨#[]⟩) = true from hp] at HNM
        go_wp2_with fail
        refine HNM.out.mono ?_
        rintro e x2 ⟨rfl, hb2⟩
        have HB2 := Aside0.mk (below_step HX.out.1 hb2)
        have HZ2 := Aside0.mk (blk_below HX.out.2.2.1 hb2)
        clear hb2 r0 r1 r2 r3 r4 b1
        go_wp2_with fail
        refine (HNO.out _ _).mono ?_
        rintro e x3 ⟨rfl, hb3⟩
        have HB3 := Aside0.mk (below_step HB2.out hb3)
        have z0 : x3.cell? ⟨w.heap.size + 1, 0, none⟩ = some (Value.slice none 0 0) := (blk_cell (blk_below HZ2.out hb3) 0).trans rfl
        have z1 : x3.cell? ⟨w.heap.size + 1, 1, none⟩ = some (Value.slice none 0 0) := (blk_cell (blk_below HZ2.out hb3) 1).trans rfl
        have f0 := blk_frozen (blk_below HZ2.out hb3) 0
        have f1 := blk_frozen (blk_below HZ2.out hb3) 1
        clear hb3
        go_wp2
        refine bodyPost_ret (v := .tuple #[.agg #[.slice none 0 0, .slice none 0 0], .int .i64 62]) (by simp [results, Try.results36, go_sem, *]) rfl ?_
        rw [HQ.out]
        exact zeroOut (g := w.heap.size + 1) (n := 62) HB3.out (by omega)
      | false =>
      rw [show ts[j].rules.any (namesR schema table ⟨#[]⟩) = false from hp] at HNM
      have HPF := Aside0.mk hp
      clear hp
      go_wp2_with fail
      refine HNM.out.mono ?_
      rintro e x2 ⟨rfl, hb2⟩
      have HS2 := Aside0.mk (Kd.S_drew (Kd.S_below HX.out.2.2.2.2.2 hb2))
      have HR2 := Aside0.mk (Kd.R_drew (Kd.R_below HX.out.2.2.2.2.1 hb2))
      have HB2 := Aside0.mk (below_drew (below_step HX.out.1 hb2))
      have HO2 := Aside0.mk (blk_drew (blk_below HX.out.2.1 hb2))
      have HZ2 := Aside0.mk (blk_drew (blk_below HX.out.2.2.1 hb2))
      have HG2 := Aside0.mk (blk_drew (blk_below HX.out.2.2.2.1 hb2))
      have HW2 := Aside0.mk (below_drew hb2)
      have s0 := pw_cell_below hb2 r0
      have s1 := pw_cell_below hb2 r1
      have s2 := pw_cell_below hb2 r2
      have s3 := pw_cell_below hb2 r3
      have s4 := pw_cell_below hb2 r4
      have s5 := pw_cell_below hb2 b1
      have hg1 : x2.cell? ⟨g, 1, none⟩ = some (.slice Bt (kept ts k j).length dt) := (blk_cell (blk_below HX.out.2.2.2.1 hb2) 1).trans rfl
      clear r0 r1 r2 r3 r4 b1 hb2 HRD HNM HX
      obtain ⟨l, hl⟩ : ∃ l, l = kept ts k j := ⟨_, rfl⟩
      rw [← hl] at HS2 HG2 hg1 hkl
      have HL := Aside0.mk hl
      clear hl
      have hl1 : (l ++ [ts[j]]).length = l.length + 1 := by simp
      go_wp2
      go_region_law (first
        | (refine append_tab (w0 := w) w.heap.size (by rfl) (.tmp 55) (.tmp 62) rfl (.slice Bt l.length dt) l ts[j] B3 B4 d3 d4 rfl rfl HS2.out HV.out.2.2.1 HV.out.1 HV.out.2.1 (below_step HB2.out HV.out.2.2.1) HB2.out.size (by omega) ?_; intro v1 w3 hS3 hB3 hg3; obtain ⟨B1, d1, e1⟩ := Kd.S_slice hS3; rw [hl1] at e1; subst e1; have hG3 := blk_grown HV.out.2.2.2 hg3 (Kd.S_ne (Kd.S_below HS2.out HV.out.2.2.1) HV.out.2.2.2 (by decide)); have hg31 : w3.cell? ⟨g, 1, none⟩ = some (.slice Bt l.length dt) := (blk_cell hG3 1).trans rfl; have hf31 := blk_frozen hG3 1; have HY := Aside0.mk (And.intro hS3 (And.intro hB3 (And.intro hg3 hG3))); clear hS3 hB3 hg3 hG3)
        | (go_simp; go_wp2_with (go_at_call 50; refine (HCP.out _ HW2.out).mono ?_; rintro e w2 ⟨B3, d3, B4, d4, rfl, h3, h4, hb⟩; have hG2 := blk_below HG2.out hb; have hg2 : w2.cell? ⟨g, 1, none⟩ = some (.slice Bt l.length dt) := (blk_cell hG2 1).trans rfl; have hg2a : ∀ o, (w2.alloc o).cell? ⟨g, 1, none⟩ = some (.slice Bt l.length dt) := fun o => (blk_cell (blk_alloc hG2 o) 1).trans rfl; have HV := Aside0.mk (And.intro h3 (And.intro h4 (And.intro hb hG2))); clear h3 h4 hb hG2)))
      all_goals
        have hV := HV.out.2.2.1
        have hY := HY.out
        have hSb := Kd.S_below HS2.out hV
        have HN : Aside0 (DrpI As (some ad) cs ct ss ts w g Bs ds (w3.setCell ⟨g, 1, none⟩ (.slice B1 (l.length + 1) d1)) (l ++ [ts[j]])) := ⟨B1, d1, hY.2.1.setCell (p := ⟨g, 1, none⟩) HG.out.1 _, blk_far (p := ⟨g, 1, none⟩) (blk_grown (blk_below HO2.out hV) hY.2.2.1 (Kd.S_ne hSb (blk_below HO2.out hV) (by decide))) HG.out.2.1 _, blk_far (p := ⟨g, 1, none⟩) (blk_grown (blk_below HZ2.out hV) hY.2.2.1 (Kd.S_ne hSb (blk_below HZ2.out hV) (by decide))) HG.out.2.2 _, by rw [hl1]; exact blk_set hY.2.2.2 1 _, Kd.R_set (Kd.R_over' (Kd.R_below HR2.out hV) (Kd.R_typed (Kd.S_R hSb)) (by decide) hY.2.2.1) hY.2.2.2 (by decide) 1 _, by rw [hl1]; exact Kd.S_set hY.1 hY.2.2.2 (by decide) 1 _⟩
        clear hV hY hSb HV HY HS2 HR2 HG2 HO2 HZ2 s0 s1 s2 s3 s4 s5 hg1 hg2 hg2a hg31 hf31
        go_wp2
        go_roundw
        case rel => exact ⟨j + 1, by omega, by go_num, ⟨by rw [kept_next hlt hjk, ← HL.out]; exact HN.out, fun q hq h1 h2 => by
          by_cases e : q = j
          · subst e; exact HPF.out
          · exact HJ.out.2 q hq (by omega) h2⟩⟩
        case measure => simp [intOf]; omega
    · obtain rfl : j = ts.length := by omega
      have hdj : decide (ts.length < ts.length) = false := decide_eq_false hlt
      have HQ := Aside0.mk (chgT_ok (r := dropTabR ss ts schema table) (ss' := ss) (ts' := ts.eraseIdx k) HK.out (by rw [HE.out, if_neg]; intro h; obtain ⟨x, hx, hp⟩ := List.any_eq_true.1 h; obtain ⟨q, hq, hqk, rfl⟩ := List.mem_eraseIdx_iff_getElem.1 hx; rw [HJ.out.2 q hq hq hqk] at hp; cases hp))
      rw [kept_all] at HX
      have c0 : wr.cell? ⟨g, 0, none⟩ = some (.slice Bs ss.length ds) := (blk_cell HX.out.2.2.2.1 0).trans rfl
      have c1 : wr.cell? ⟨g, 1, none⟩ = some (.slice Bt (ts.eraseIdx k).length dt) := (blk_cell HX.out.2.2.2.1 1).trans rfl
      have z0 : wr.cell? ⟨w.heap.size + 1, 0, none⟩ = some (.slice none 0 0) := (blk_cell HX.out.2.2.1 0).trans rfl
      have z1 : wr.cell? ⟨w.heap.size + 1, 1, none⟩ = some (.slice none 0 0) := (blk_cell HX.out.2.2.1 1).trans rfl
      have f0 := blk_frozen HX.out.2.2.1 0
      have f1 := blk_frozen HX.out.2.2.1 1
      have HF := Aside0.mk (show Out w (0, ss, ts.eraseIdx k) (.returned (.tuple #[.agg #[.slice Bs ss.length ds, .slice Bt (ts.eraseIdx k).length dt], .int .i64 0])) ((wr.setCell ⟨w.heap.size + 1, 0, none⟩ (.slice Bs ss.length ds)).setCell ⟨w.heap.size + 1, 1, none⟩ (.slice Bt (ts.eraseIdx k).length dt)) from ⟨_, _, rfl, R_only HX.out.2.2.2.2.1 HX.out.2.2.1 (by decide) (set2_far _ _ _ _), R_only (Kd.S_R HX.out.2.2.2.2.2) HX.out.2.2.1 (by decide) (set2_far _ _ _ _), set2_below HX.out.1 (Nat.le_succ _) _ _⟩)
      clear HX HJ
      go_wp2
      refine bodyPost_ret (v := .tuple #[.agg #[.slice Bs ss.length ds, .slice Bt (ts.eraseIdx k).length dt], .int .i64 0]) (by simp [results, Try.results36, go_sem, *]) rfl ?_
      rw [HQ.out]
      exact HF.out
end Go.Proofs.Ytmmiehckgkadgaa.O
namespace Go.Proofs.Ytmmiehckgkadgaa.O
set_option linter.unusedVariables false
set_option linter.unusedSimpArgs false
open Go.RowKit Go.Proofs.YtmmiehckgkadgaaW.PrintWords Go.Sort
set_option maxHeartbeats 400000 in
theorem foreign.calls {As At : Option Addr} {n m cs ct : Nat} (schema table : ByteArray) (w : World) :
    Calls Try.prog 85 #[.agg #[.slice As n cs, .slice At m ct], .string schema, .string table] w fun e w' => e = .returned (.func (.func 113) #[] #[.pointer (some ⟨w.heap.size, 0, none⟩), .pointer (some ⟨w.heap.size + 1, 0, none⟩), .pointer (some ⟨w.heap.size + 1 + 1, 0, none⟩)]) ∧ w' = (((w.alloc (.cells #[.slice As n cs, .slice At m ct] 26)).alloc (.cells #[.string schema] 9)).alloc (.cells #[.string table] 9)) := by
  go_enter Try.func85, Try.ntmps85
  go_wp2
  go_ret
  exact ⟨rfl, rfl⟩
theorem foreignTo_names (schema table : ByteArray) (r : Rul) : namesR schema table ⟨#[]⟩ r = foreignTo schema table r := by
  unfold namesR
  rw [show (⟨#[]⟩ : ByteArray).toList.isEmpty = true by rw [Lib.toList_data]; rfl, Bool.true_or, Bool.and_true]
theorem foreignAny_any (schema table : ByteArray) (t : Tab) : foreignAny schema table t = t.rules.any (foreignTo schema table) := by
  unfold foreignAny
  congr 1
  funext r
  exact foreignTo_names schema table r
def dropTabP (ss : List Sch) (ts : List Tab) (schema table : ByteArray) : Res := if 0 ≤ idx (isT schema table) ts then (if ts.any (fun t => !isT schema table t && t.rules.any (foreignTo schema table)) = true then (62, [], []) else (0, ss, ts.eraseIdx (idx (isT schema table) ts).toNat)) else (61, [], [])
theorem tabs_alone {ss : List Sch} {ts : List Tab} {schema table : ByteArray} {k : Nat} (h : checkB ss ts = true) (hk : k < ts.length) (hp : isT schema table ts[k] = true) (j : Nat) (hj : j < ts.length) (hne : j ≠ k) : isT schema table ts[j] = false := by
  cases hq : isT schema table ts[j] with
  | false => rfl
  | true =>
    exfalso
    have hw := List.pairwise_iff_getElem.1 (tabs_rise h)
    have e1 := (isT_iff schema table ts[k]).1 hp
    have e2 := (isT_iff schema table ts[j]).1 hq
    have key : ∀ x y : Tab, x.schema = y.schema → x.name = y.name → ltOf orderT x y = true → False := fun x y a b c => by
      have c2 := of_decide_eq_true c
      rw [orderT_lt, a, b] at c2
      rcases c2 with c2 | ⟨_, c2⟩
      · exact List.lt_irrefl _ c2
      · exact List.lt_irrefl _ c2
    rcases Nat.lt_or_gt_of_ne hne with hl | hl
    · exact key _ _ (e2.1.trans e1.1.symm) (e2.2.trans e1.2.symm) (hw j k hj hk hl)
    · exact key _ _ (e1.1.trans e2.1.symm) (e1.2.trans e2.2.symm) (hw k j hk hj hl)
theorem dropTab_eq {ss : List Sch} {ts : List Tab} {schema table : ByteArray} (h : checkB ss ts = true) : dropTabP ss ts schema table = dropTabR ss ts schema table := by
  unfold dropTabP dropTabR
  rcases idx_cases (isT schema table) ts with ⟨k, hk, e, y1, _⟩ | ⟨e, _⟩
  · rw [e, Int.toNat_natCast]
    have ha : ts.any (fun t => !isT schema table t && t.rules.any (foreignTo schema table)) = (ts.eraseIdx k).any (foreignAny schema table) := by
      rw [Bool.eq_iff_iff, List.any_eq_true, List.any_eq_true]
      constructor
      · rintro ⟨x, hx, hp⟩
        rw [Bool.and_eq_true, Bool.not_eq_true'] at hp
        obtain ⟨j, hj, rfl⟩ := List.getElem_of_mem hx
        refine ⟨ts[j], List.mem_eraseIdx_iff_getElem.2 ⟨j, hj, fun e => ?_, rfl⟩, by rw [foreignAny_any]; exact hp.2⟩
        subst e
        rw [y1] at hp
        cases hp.1
      · rintro ⟨x, hx, hp⟩
        obtain ⟨j, hj, hne, rfl⟩ := List.mem_eraseIdx_iff_getElem.1 hx
        exact ⟨ts[j], List.getElem_mem hj, by rw [tabs_alone h hk y1 j hj hne]; rw [foreignAny_any] at hp; rw [hp]; rfl⟩
    rw [ha]
  · rw [e]; rfl
end Go.Proofs.Ytmmiehckgkadgaa.O
