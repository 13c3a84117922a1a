/- The document's SetOwner. -/
import Derived.Test.YtmmiehckgkadgaaCJ
namespace Go.Proofs.Ytmmiehckgkadgaa.O
set_option linter.unusedVariables false
set_option linter.unusedSimpArgs false
open Go.RowKit Go.Proofs.YtmmiehckgkadgaaW.PrintWords

set_option maxHeartbeats 400000 in
theorem rNo.calls (n : Int) (w : World) : Calls Try.prog 56 #[.int .i64 n] w fun e w' => e = .returned (.tuple #[.agg #[.slice none 0 0, .slice none 0 0], .int .i64 n]) ∧ Below w.heap.size w w' := by
  have HX := Aside0.mk (below_alloc (Below.refl w.heap.size w) (.cells #[.slice none 0 0, .slice none 0 0] 26))
  go_enter Try.func56, Try.ntmps56
  go_wp2
  refine bodyPost_ret (v := .tuple #[.agg #[.slice none 0 0, .slice none 0 0], .int .i64 n]) (by simp [results, Try.results56, go_sem, *]) rfl ?_
  exact ⟨rfl, HX.out⟩
theorem S_owner {B g dt : Nat} {W : World} {ts : List Tab} (h : Kd.S kTab 35 W B (fun _ => True) (.slice (some ⟨g, 0, none⟩) ts.length dt) ts) (k : Nat) (hk : k < ts.length) (owner : ByteArray) :
    W.cell? ⟨g, k * 5 + 2, none⟩ = some (.string ts[k].owner) ∧ W.frozen? ⟨g, k * 5 + 2, none⟩ = false ∧ Kd.S kTab 35 (W.setCell ⟨g, k * 5 + 2, none⟩ (.string owner)) B (fun _ => True) (.slice (some ⟨g, 0, none⟩) ts.length dt) (ts.set k { ts[k] with owner := owner }) ∧ (∃ cells, W.heap[g]? = some (.cells cells 35 (0, 0))) ∧ B ≤ g := by
  obtain ⟨oki, v3, v4, c0, c1, c2, c3, c4, hf, h3, h4, ho, hH⟩ := S_table h k hk
  have hseg := Kd.S_seg (okg := fun _ => False) (okp := oki) (Kd.H_mono hH (fun q hq => ⟨trivial, id⟩)) (by omega) (by omega) (j := 2) (seg := [.string owner]) (Nat.le_of_ble_eq_true rfl) (x' := { ts[k] with owner := owner }) (kTab_mkM _ _ _ { ts[k] with owner := owner } h3 h4) (fun q hq => .inl hq) (fun q hq => hq.elim)
  rw [Int.toNat_natCast, show W.setCells g (k * kTab.sz + 2) [.string owner] = W.setCell ⟨g, k * 5 + 2, none⟩ (.string owner) from rfl] at hseg
  exact ⟨c2, hf 2, hseg.1, Kd.S_typed h g rfl, Kd.S_base h g rfl⟩
theorem S_addr {B : Nat} {Bt : Option Addr} {dt n : Nat} {W : World} {ts : List Tab} (h : Kd.S kTab 35 W B (fun _ => True) (.slice Bt n dt) ts) (hk : 0 < ts.length) : ∃ g, Bt = some ⟨g, 0, none⟩ := by
  obtain ⟨gt, cap, hv, _⟩ := Kd.S_form h hk
  injection hv with hA _ _
  exact ⟨gt, hA⟩

set_option maxRecDepth 20000 in
set_option maxHeartbeats 4000000 in
theorem rSetOwner.calls {As At : Option Addr} {cs ct : Nat} (ss : List Sch) (ts : List Tab) (schema table owner : ByteArray) (w : World) (hs : kSch.C w As ss.length ss) (hsl : ss.length ≤ 3000) (ht : kTab.C w At ts.length ts) (hF : TabsF ts) (hB : TabsB ts) :
    Calls Try.prog 20 #[.agg #[Value.slice As ss.length cs, Value.slice At ts.length ct], .string schema, .string table, .string owner] w (Out w (setOwner ss ts schema table owner)) := by
  have HX0 := Aside0.mk (boxes2 w (.cells #[Value.slice As ss.length cs, Value.slice At ts.length ct] 26) (.cells #[.slice none 0 0, .slice none 0 0] 26))
  have HCK := Aside0.mk (fun W (hW : Below w.heap.size w W) => rRightAll.calls (As := As) (cs := cs) (At := At) (ct := ct) ss ts W (Kd.C_below hs hW) (by omega) (Kd.C_below ht hW) hF)
  have HOW := Aside0.mk (fun W (hW : Below w.heap.size w W) => rOwn.calls (As := As) (cs := cs) (At := At) (ct := ct) ss ts W (Kd.C_below hs hW) hsl (Kd.C_below ht hW) hB)
  have HTB := Aside0.mk (fun W (hW : Below w.heap.size w W) => rTable.calls (As := As) (ns := ss.length) (cs := cs) (A0 := At) (c0 := ct) schema table ts W (Kd.C_below ht hW) (by have := hB.1; omega))
  have HN := Aside0.mk (fun W => rName.calls owner W)
  have HNO := Aside0.mk (fun n W => rNo.calls n W)
  have hln : ts.length ≤ 3000 := hB.1
  clear hs ht hF hB
  cases hck : checkB ss ts with
  | false =>
    have HQ : Aside0 (setOwner ss ts schema table owner = (63, [], [])) := ⟨by unfold setOwner; rw [hck]; rfl⟩
    rw [hck] at HCK
    rw [HQ.out]
    clear hck HQ HN HOW HTB
    go_enter Try.func20, Try.ntmps20
    have c_o0 : ((w.alloc (.cells #[Value.slice As ss.length cs, Value.slice At ts.length ct] 26)).alloc (.cells #[Value.slice none 0 0, Value.slice none 0 0] 26)).cell? ⟨w.heap.size, 0, none⟩ = some (Value.slice As ss.length cs) := (blk_cell HX0.out.2.1 0).trans rfl
    have f_o0 := blk_frozen HX0.out.2.1 0
    have c_o1 : ((w.alloc (.cells #[Value.slice As ss.length cs, Value.slice At ts.length ct] 26)).alloc (.cells #[Value.slice none 0 0, Value.slice none 0 0] 26)).cell? ⟨w.heap.size, 1, none⟩ = some (Value.slice At ts.length ct) := (blk_cell HX0.out.2.1 1).trans rfl
    have f_o1 := blk_frozen HX0.out.2.1 1
    have c_z0 : ((w.alloc (.cells #[Value.slice As ss.length cs, Value.slice At ts.length ct] 26)).alloc (.cells #[Value.slice none 0 0, Value.slice none 0 0] 26)).cell? ⟨w.heap.size + 1, 0, none⟩ = some (Value.slice none 0 0) := (blk_cell HX0.out.2.2 0).trans rfl
    have f_z0 := blk_frozen HX0.out.2.2 0
    have c_z1 : ((w.alloc (.cells #[Value.slice As ss.length cs, Value.slice At ts.length ct] 26)).alloc (.cells #[Value.slice none 0 0, Value.slice none 0 0] 26)).cell? ⟨w.heap.size + 1, 1, none⟩ = some (Value.slice none 0 0) := (blk_cell HX0.out.2.2 1).trans rfl
    have f_z1 := blk_frozen HX0.out.2.2 1
    go_wp2_with fail
    clear c_o0 f_o0 c_o1 f_o1 c_z0 f_z0 c_z1 f_z1
    refine (HCK.out _ HX0.out.1).mono ?_
    rintro e w1 ⟨rfl, hb1⟩
    have HB1 := Aside0.mk (below_step (HX0.out.1) hb1)
    have HK1 := Aside0.mk (blk_below (HX0.out.2.1) hb1)
    have HK2 := Aside0.mk (blk_below (HX0.out.2.2) hb1)
    have HS1 := Aside0.mk hb1
    clear hb1
    have c_o0 : w1.cell? ⟨w.heap.size, 0, none⟩ = some (Value.slice As ss.length cs) := (blk_cell HK1.out 0).trans rfl
    have f_o0 := blk_frozen HK1.out 0
    have c_o1 : w1.cell? ⟨w.heap.size, 1, none⟩ = some (Value.slice At ts.length ct) := (blk_cell HK1.out 1).trans rfl
    have f_o1 := blk_frozen HK1.out 1
    have c_z0 : w1.cell? ⟨w.heap.size + 1, 0, none⟩ = some (Value.slice none 0 0) := (blk_cell HK2.out 0).trans rfl
    have f_z0 := blk_frozen HK2.out 0
    have c_z1 : w1.cell? ⟨w.heap.size + 1, 1, none⟩ = some (Value.slice none 0 0) := (blk_cell HK2.out 1).trans rfl
    have f_z1 := blk_frozen HK2.out 1
    go_wp2_with fail
    clear c_o0 f_o0 c_o1 f_o1 c_z0 f_z0 c_z1 f_z1
    refine (HNO.out _ _).mono ?_
    rintro e w2 ⟨rfl, hb2⟩
    have HB2 := Aside0.mk (below_step (HB1.out) hb2)
    have HK3 := Aside0.mk (blk_below (HK1.out) hb2)
    have HK4 := Aside0.mk (blk_below (HK2.out) hb2)
    have HS2 := Aside0.mk hb2
    clear hb2
    have c_o0 : w2.cell? ⟨w.heap.size, 0, none⟩ = some (Value.slice As ss.length cs) := (blk_cell HK3.out 0).trans rfl
    have f_o0 := blk_frozen HK3.out 0
    have c_o1 : w2.cell? ⟨w.heap.size, 1, none⟩ = some (Value.slice At ts.length ct) := (blk_cell HK3.out 1).trans rfl
    have f_o1 := blk_frozen HK3.out 1
    have c_z0 : w2.cell? ⟨w.heap.size + 1, 0, none⟩ = some (Value.slice none 0 0) := (blk_cell HK4.out 0).trans rfl
    have f_z0 := blk_frozen HK4.out 0
    have c_z1 : w2.cell? ⟨w.heap.size + 1, 1, none⟩ = some (Value.slice none 0 0) := (blk_cell HK4.out 1).trans rfl
    have f_z1 := blk_frozen HK4.out 1
    go_wp2
    refine bodyPost_ret (v := .tuple #[.agg #[.slice none 0 0, .slice none 0 0], .int .i64 63]) (by simp [results, Try.results20, go_sem, *]) rfl ?_
    exact zeroOut (g := w.heap.size + 1) (n := 63) HB2.out (by omega)
  | true =>
    rw [hck] at HCK
    cases hnm : nameB owner with
    | false =>
      have HQ : Aside0 (setOwner ss ts schema table owner = (1, [], [])) := ⟨by unfold setOwner; rw [hck, hnm]; rfl⟩
      rw [hnm] at HN
      rw [HQ.out]
      clear hck hnm HQ HOW HTB
      go_enter Try.func20, Try.ntmps20
      have c_o0 : ((w.alloc (.cells #[Value.slice As ss.length cs, Value.slice At ts.length ct] 26)).alloc (.cells #[Value.slice none 0 0, Value.slice none 0 0] 26)).cell? ⟨w.heap.size, 0, none⟩ = some (Value.slice As ss.length cs) := (blk_cell HX0.out.2.1 0).trans rfl
      have f_o0 := blk_frozen HX0.out.2.1 0
      have c_o1 : ((w.alloc (.cells #[Value.slice As ss.length cs, Value.slice At ts.length ct] 26)).alloc (.cells #[Value.slice none 0 0, Value.slice none 0 0] 26)).cell? ⟨w.heap.size, 1, none⟩ = some (Value.slice At ts.length ct) := (blk_cell HX0.out.2.1 1).trans rfl
      have f_o1 := blk_frozen HX0.out.2.1 1
      have c_z0 : ((w.alloc (.cells #[Value.slice As ss.length cs, Value.slice At ts.length ct] 26)).alloc (.cells #[Value.slice none 0 0, Value.slice none 0 0] 26)).cell? ⟨w.heap.size + 1, 0, none⟩ = some (Value.slice none 0 0) := (blk_cell HX0.out.2.2 0).trans rfl
      have f_z0 := blk_frozen HX0.out.2.2 0
      have c_z1 : ((w.alloc (.cells #[Value.slice As ss.length cs, Value.slice At ts.length ct] 26)).alloc (.cells #[Value.slice none 0 0, Value.slice none 0 0] 26)).cell? ⟨w.heap.size + 1, 1, none⟩ = some (Value.slice none 0 0) := (blk_cell HX0.out.2.2 1).trans rfl
      have f_z1 := blk_frozen HX0.out.2.2 1
      go_wp2_with fail
      clear c_o0 f_o0 c_o1 f_o1 c_z0 f_z0 c_z1 f_z1
      refine (HCK.out _ HX0.out.1).mono ?_
      rintro e w1 ⟨rfl, hb1⟩
      have HB1 := Aside0.mk (below_step (HX0.out.1) hb1)
      have HK1 := Aside0.mk (blk_below (HX0.out.2.1) hb1)
      have HK2 := Aside0.mk (blk_below (HX0.out.2.2) hb1)
      have HS1 := Aside0.mk hb1
      clear hb1
      have c_o0 : w1.cell? ⟨w.heap.size, 0, none⟩ = some (Value.slice As ss.length cs) := (blk_cell HK1.out 0).trans rfl
      have f_o0 := blk_frozen HK1.out 0
      have c_o1 : w1.cell? ⟨w.heap.size, 1, none⟩ = some (Value.slice At ts.length ct) := (blk_cell HK1.out 1).trans rfl
      have f_o1 := blk_frozen HK1.out 1
      have c_z0 : w1.cell? ⟨w.heap.size + 1, 0, none⟩ = some (Value.slice none 0 0) := (blk_cell HK2.out 0).trans rfl
      have f_z0 := blk_frozen HK2.out 0
      have c_z1 : w1.cell? ⟨w.heap.size + 1, 1, none⟩ = some (Value.slice none 0 0) := (blk_cell HK2.out 1).trans rfl
      have f_z1 := blk_frozen HK2.out 1
      go_wp2_with fail
      clear c_o0 f_o0 c_o1 f_o1 c_z0 f_z0 c_z1 f_z1
      refine (HN.out _).mono ?_
      rintro e w_ ⟨rfl, rfl⟩
      have c_o0 : w1.cell? ⟨w.heap.size, 0, none⟩ = some (Value.slice As ss.length cs) := (blk_cell HK1.out 0).trans rfl
      have f_o0 := blk_frozen HK1.out 0
      have c_o1 : w1.cell? ⟨w.heap.size, 1, none⟩ = some (Value.slice At ts.length ct) := (blk_cell HK1.out 1).trans rfl
      have f_o1 := blk_frozen HK1.out 1
      have c_z0 : w1.cell? ⟨w.heap.size + 1, 0, none⟩ = some (Value.slice none 0 0) := (blk_cell HK2.out 0).trans rfl
      have f_z0 := blk_frozen HK2.out 0
      have c_z1 : w1.cell? ⟨w.heap.size + 1, 1, none⟩ = some (Value.slice none 0 0) := (blk_cell HK2.out 1).trans rfl
      have f_z1 := blk_frozen HK2.out 1
      go_wp2_with fail
      clear c_o0 f_o0 c_o1 f_o1 c_z0 f_z0 c_z1 f_z1
      refine (HNO.out _ _).mono ?_
      rintro e w2 ⟨rfl, hb2⟩
      have HB2 := Aside0.mk (below_step (HB1.out) hb2)
      have HK3 := Aside0.mk (blk_below (HK1.out) hb2)
      have HK4 := Aside0.mk (blk_below (HK2.out) hb2)
      have HS2 := Aside0.mk hb2
      clear hb2
      have c_o0 : w2.cell? ⟨w.heap.size, 0, none⟩ = some (Value.slice As ss.length cs) := (blk_cell HK3.out 0).trans rfl
      have f_o0 := blk_frozen HK3.out 0
      have c_o1 : w2.cell? ⟨w.heap.size, 1, none⟩ = some (Value.slice At ts.length ct) := (blk_cell HK3.out 1).trans rfl
      have f_o1 := blk_frozen HK3.out 1
      have c_z0 : w2.cell? ⟨w.heap.size + 1, 0, none⟩ = some (Value.slice none 0 0) := (blk_cell HK4.out 0).trans rfl
      have f_z0 := blk_frozen HK4.out 0
      have c_z1 : w2.cell? ⟨w.heap.size + 1, 1, none⟩ = some (Value.slice none 0 0) := (blk_cell HK4.out 1).trans rfl
      have f_z1 := blk_frozen HK4.out 1
      go_wp2
      refine bodyPost_ret (v := .tuple #[.agg #[.slice none 0 0, .slice none 0 0], .int .i64 1]) (by simp [results, Try.results20, go_sem, *]) rfl ?_
      exact zeroOut (g := w.heap.size + 1) (n := 1) HB2.out (by omega)
    | true =>
      have HQ : Aside0 (setOwner ss ts schema table owner = tch ss ts schema table (fun t => (0, { t with owner := owner }))) := ⟨by unfold setOwner; rw [hck, hnm]; rfl⟩
      rw [hnm] at HN
      clear hck hnm
      rcases idx_cases (isT schema table) ts with ⟨k, hk, hi, hx1, hx2⟩ | ⟨hi, hx1⟩
      · have HT := Aside0.mk (show tch ss ts schema table (fun t => (0, { t with owner := owner })) = (0, ss, ts.set k { ts[k] with owner := owner }) by
          unfold tch; rw [hi, if_pos (by omega), Int.toNat_natCast, List.getD_eq_getElem?_getD, List.getElem?_eq_getElem hk]; rfl)
        rw [HQ.out, HT.out]
        rw [hi] at HTB
        clear hi hx1 hx2 HT HQ HNO
        have h0 : (0 : Int) ≤ (k : Int) := by omega
        have h1 : (k : Int) < (ts.length : Int) := by omega
        have h2 : decide ((k : Int) < 0) = false := decide_eq_false (by omega)
        go_enter Try.func20, Try.ntmps20
        have c_o0 : ((w.alloc (.cells #[Value.slice As ss.length cs, Value.slice At ts.length ct] 26)).alloc (.cells #[Value.slice none 0 0, Value.slice none 0 0] 26)).cell? ⟨w.heap.size, 0, none⟩ = some (Value.slice As ss.length cs) := (blk_cell HX0.out.2.1 0).trans rfl
        have f_o0 := blk_frozen HX0.out.2.1 0
        have c_o1 : ((w.alloc (.cells #[Value.slice As ss.length cs, Value.slice At ts.length ct] 26)).alloc (.cells #[Value.slice none 0 0, Value.slice none 0 0] 26)).cell? ⟨w.heap.size, 1, none⟩ = some (Value.slice At ts.length ct) := (blk_cell HX0.out.2.1 1).trans rfl
        have f_o1 := blk_frozen HX0.out.2.1 1
        have c_z0 : ((w.alloc (.cells #[Value.slice As ss.length cs, Value.slice At ts.length ct] 26)).alloc (.cells #[Value.slice none 0 0, Value.slice none 0 0] 26)).cell? ⟨w.heap.size + 1, 0, none⟩ = some (Value.slice none 0 0) := (blk_cell HX0.out.2.2 0).trans rfl
        have f_z0 := blk_frozen HX0.out.2.2 0
        have c_z1 : ((w.alloc (.cells #[Value.slice As ss.length cs, Value.slice At ts.length ct] 26)).alloc (.cells #[Value.slice none 0 0, Value.slice none 0 0] 26)).cell? ⟨w.heap.size + 1, 1, none⟩ = some (Value.slice none 0 0) := (blk_cell HX0.out.2.2 1).trans rfl
        have f_z1 := blk_frozen HX0.out.2.2 1
        go_wp2_with fail
        clear c_o0 f_o0 c_o1 f_o1 c_z0 f_z0 c_z1 f_z1
        refine (HCK.out _ HX0.out.1).mono ?_
        rintro e w1 ⟨rfl, hb1⟩
        have HB1 := Aside0.mk (below_step (HX0.out.1) hb1)
        have HK1 := Aside0.mk (blk_below (HX0.out.2.1) hb1)
        have HK2 := Aside0.mk (blk_below (HX0.out.2.2) hb1)
        have HS1 := Aside0.mk hb1
        clear hb1
        have c_o0 : w1.cell? ⟨w.heap.size, 0, none⟩ = some (Value.slice As ss.length cs) := (blk_cell HK1.out 0).trans rfl
        have f_o0 := blk_frozen HK1.out 0
        have c_o1 : w1.cell? ⟨w.heap.size, 1, none⟩ = some (Value.slice At ts.length ct) := (blk_cell HK1.out 1).trans rfl
        have f_o1 := blk_frozen HK1.out 1
        have c_z0 : w1.cell? ⟨w.heap.size + 1, 0, none⟩ = some (Value.slice none 0 0) := (blk_cell HK2.out 0).trans rfl
        have f_z0 := blk_frozen HK2.out 0
        have c_z1 : w1.cell? ⟨w.heap.size + 1, 1, none⟩ = some (Value.slice none 0 0) := (blk_cell HK2.out 1).trans rfl
        have f_z1 := blk_frozen HK2.out 1
        go_wp2_with fail
        clear c_o0 f_o0 c_o1 f_o1 c_z0 f_z0 c_z1 f_z1
        refine (HN.out _).mono ?_
        rintro e w_ ⟨rfl, rfl⟩
        have c_o0 : w1.cell? ⟨w.heap.size, 0, none⟩ = some (Value.slice As ss.length cs) := (blk_cell HK1.out 0).trans rfl
        have f_o0 := blk_frozen HK1.out 0
        have c_o1 : w1.cell? ⟨w.heap.size, 1, none⟩ = some (Value.slice At ts.length ct) := (blk_cell HK1.out 1).trans rfl
        have f_o1 := blk_frozen HK1.out 1
        have c_z0 : w1.cell? ⟨w.heap.size + 1, 0, none⟩ = some (Value.slice none 0 0) := (blk_cell HK2.out 0).trans rfl
        have f_z0 := blk_frozen HK2.out 0
        have c_z1 : w1.cell? ⟨w.heap.size + 1, 1, none⟩ = some (Value.slice none 0 0) := (blk_cell HK2.out 1).trans rfl
        have f_z1 := blk_frozen HK2.out 1
        go_wp2_with fail
        clear c_o0 f_o0 c_o1 f_o1 c_z0 f_z0 c_z1 f_z1
        refine (HTB.out _ HB1.out).mono ?_
        rintro e w2 ⟨rfl, hb2⟩
        have HB2 := Aside0.mk (below_step (HB1.out) hb2)
        have HK3 := Aside0.mk (blk_below (HK1.out) hb2)
        have HK4 := Aside0.mk (blk_below (HK2.out) hb2)
        have HS2 := Aside0.mk hb2
        clear hb2
        have c_o0 : w2.cell? ⟨w.heap.size, 0, none⟩ = some (Value.slice As ss.length cs) := (blk_cell HK3.out 0).trans rfl
        have f_o0 := blk_frozen HK3.out 0
        have c_o1 : w2.cell? ⟨w.heap.size, 1, none⟩ = some (Value.slice At ts.length ct) := (blk_cell HK3.out 1).trans rfl
        have f_o1 := blk_frozen HK3.out 1
        have c_z0 : w2.cell? ⟨w.heap.size + 1, 0, none⟩ = some (Value.slice none 0 0) := (blk_cell HK4.out 0).trans rfl
        have f_z0 := blk_frozen HK4.out 0
        have c_z1 : w2.cell? ⟨w.heap.size + 1, 1, none⟩ = some (Value.slice none 0 0) := (blk_cell HK4.out 1).trans rfl
        have f_z1 := blk_frozen HK4.out 1
        go_wp2_with fail
        clear c_o0 f_o0 c_o1 f_o1 c_z0 f_z0 c_z1 f_z1
        refine (HOW.out _ HB2.out).mono ?_
        rintro e w3 ⟨Bs, ds, Bt, dt, rfl, hR, hS, hb3⟩
        have HB3 := Aside0.mk (below_step (HB2.out) hb3)
        have HK5 := Aside0.mk (blk_below (HK3.out) hb3)
        have HK6 := Aside0.mk (blk_below (HK4.out) hb3)
        have HS3 := Aside0.mk hb3
        clear hb3
        obtain ⟨g, rfl⟩ := S_addr hS (by omega)
        obtain ⟨q0, q1, q2, ⟨cells, q3⟩, q4⟩ := S_owner (Kd.S_alloc hS (.cells #[.slice Bs ss.length ds, .slice (some ⟨g, 0, none⟩) ts.length dt] 26)) k hk owner
        have hX := blk_new w3 (.cells #[.slice Bs ss.length ds, .slice (some ⟨g, 0, none⟩) ts.length dt] 26)
        have hZ := fun o => blk_alloc (o' := o) HK6.out
        have n1 : ¬ g = w3.heap.size := fun e => by subst e; exact blk_ne hX q3 (by decide) rfl
        have n2 : ¬ w3.heap.size = g := fun e => n1 e.symm
        have n3 : ¬ g = w.heap.size + 1 := fun e => by subst e; exact blk_ne (hZ _) q3 (by decide) rfl
        have n4 : ¬ w.heap.size + 1 = g := fun e => n3 e.symm
        have z0 : ∀ o, (w3.alloc o).cell? ⟨w.heap.size + 1, 0, none⟩ = some (.slice none 0 0) := fun o => (blk_cell (hZ o) 0).trans rfl
        have z1 : ∀ o, (w3.alloc o).cell? ⟨w.heap.size + 1, 1, none⟩ = some (.slice none 0 0) := fun o => (blk_cell (hZ o) 1).trans rfl
        have f0 : ∀ o, (w3.alloc o).frozen? ⟨w.heap.size + 1, 0, none⟩ = false := fun o => blk_frozen (hZ o) 0
        have f1 : ∀ o, (w3.alloc o).frozen? ⟨w.heap.size + 1, 1, none⟩ = false := fun o => blk_frozen (hZ o) 1
        have hR2 := Kd.R_set (Kd.R_alloc hR (.cells #[.slice Bs ss.length ds, .slice (some ⟨g, 0, none⟩) ts.length dt] 26)) q3 (by decide) (k * 5 + 2) (.string owner)
        have hZ2 := blk_far (p := ⟨g, k * 5 + 2, none⟩) (hZ (.cells #[.slice Bs ss.length ds, .slice (some ⟨g, 0, none⟩) ts.length dt] 26)) n4 (.string owner)
        have HF := Aside0.mk (And.intro (R_only (Kd.R_lower hR2 HB2.out.size) hZ2 (by decide) (set2_far _ (w.heap.size + 1) (.slice Bs ss.length ds) (.slice (some ⟨g, 0, none⟩) ts.length dt))) (And.intro (R_only (Kd.R_lower (Kd.S_R q2) HB2.out.size) hZ2 (by decide) (set2_far _ (w.heap.size + 1) (.slice Bs ss.length ds) (.slice (some ⟨g, 0, none⟩) ts.length dt)))
          (set2_below (below_set (g := g) (j := k * 5 + 2) (v := .string owner) (below_alloc HB3.out (.cells #[.slice Bs ss.length ds, .slice (some ⟨g, 0, none⟩) ts.length dt] 26)) (Nat.le_trans HB2.out.size q4)) (Nat.le_succ _) (.slice Bs ss.length ds) (.slice (some ⟨g, 0, none⟩) ts.length dt) : Below w.heap.size w _)))
        clear hX hZ hR hS hR2 hZ2 q2 q3 q4
        go_wp2
        refine bodyPost_ret (v := .tuple #[.agg #[.slice Bs ss.length ds, .slice (some ⟨g, 0, none⟩) ts.length dt], .int .i64 0]) (by simp [results, Try.results20, go_sem, *]) rfl ?_
        refine ⟨_, _, rfl, HF.out.1, HF.out.2.1, HF.out.2.2⟩
      · have HT := Aside0.mk (show tch ss ts schema table (fun t => (0, { t with owner := owner })) = (61, [], []) by unfold tch; rw [hi, if_neg (by omega)])
        rw [HQ.out, HT.out]
        rw [hi] at HTB
        clear hi hx1 HT HQ HOW
        have h2 : decide ((-1 : Int) < 0) = true := rfl
        go_enter Try.func20, Try.ntmps20
        have c_o0 : ((w.alloc (.cells #[Value.slice As ss.length cs, Value.slice At ts.length ct] 26)).alloc (.cells #[Value.slice none 0 0, Value.slice none 0 0] 26)).cell? ⟨w.heap.size, 0, none⟩ = some (Value.slice As ss.length cs) := (blk_cell HX0.out.2.1 0).trans rfl
        have f_o0 := blk_frozen HX0.out.2.1 0
        have c_o1 : ((w.alloc (.cells #[Value.slice As ss.length cs, Value.slice At ts.length ct] 26)).alloc (.cells #[Value.slice none 0 0, Value.slice none 0 0] 26)).cell? ⟨w.heap.size, 1, none⟩ = some (Value.slice At ts.length ct) := (blk_cell HX0.out.2.1 1).trans rfl
        have f_o1 := blk_frozen HX0.out.2.1 1
        have c_z0 : ((w.alloc (.cells #[Value.slice As ss.length cs, Value.slice At ts.length ct] 26)).alloc (.cells #[Value.slice none 0 0, Value.slice none 0 0] 26)).cell? ⟨w.heap.size + 1, 0, none⟩ = some (Value.slice none 0 0) := (blk_cell HX0.out.2.2 0).trans rfl
        have f_z0 := blk_frozen HX0.out.2.2 0
        have c_z1 : ((w.alloc (.cells #[Value.slice As ss.length cs, Value.slice At ts.length ct] 26)).alloc (.cells #[Value.slice none 0 0, Value.slice none 0 0] 26)).cell? ⟨w.heap.size + 1, 1, none⟩ = some (Value.slice none 0 0) := (blk_cell HX0.out.2.2 1).trans rfl
        have f_z1 := blk_frozen HX0.out.2.2 1
        go_wp2_with fail
        clear c_o0 f_o0 c_o1 f_o1 c_z0 f_z0 c_z1 f_z1
        refine (HCK.out _ HX0.out.1).mono ?_
        rintro e w1 ⟨rfl, hb1⟩
        have HB1 := Aside0.mk (below_step (HX0.out.1) hb1)
        have HK1 := Aside0.mk (blk_below (HX0.out.2.1) hb1)
        have HK2 := Aside0.mk (blk_below (HX0.out.2.2) hb1)
        have HS1 := Aside0.mk hb1
        clear hb1
        have c_o0 : w1.cell? ⟨w.heap.size, 0, none⟩ = some (Value.slice As ss.length cs) := (blk_cell HK1.out 0).trans rfl
        have f_o0 := blk_frozen HK1.out 0
        have c_o1 : w1.cell? ⟨w.heap.size, 1, none⟩ = some (Value.slice At ts.length ct) := (blk_cell HK1.out 1).trans rfl
        have f_o1 := blk_frozen HK1.out 1
        have c_z0 : w1.cell? ⟨w.heap.size + 1, 0, none⟩ = some (Value.slice none 0 0) := (blk_cell HK2.out 0).trans rfl
        have f_z0 := blk_frozen HK2.out 0
        have c_z1 : w1.cell? ⟨w.heap.size + 1, 1, none⟩ = some (Value.slice none 0 0) := (blk_cell HK2.out 1).trans rfl
        have f_z1 := blk_frozen HK2.out 1
        go_wp2_with fail
        clear c_o0 f_o0 c_o1 f_o1 c_z0 f_z0 c_z1 f_z1
        refine (HN.out _).mono ?_
        rintro e w_ ⟨rfl, rfl⟩
        have c_o0 : w1.cell? ⟨w.heap.size, 0, none⟩ = some (Value.slice As ss.length cs) := (blk_cell HK1.out 0).trans rfl
        have f_o0 := blk_frozen HK1.out 0
        have c_o1 : w1.cell? ⟨w.heap.size, 1, none⟩ = some (Value.slice At ts.length ct) := (blk_cell HK1.out 1).trans rfl
        have f_o1 := blk_frozen HK1.out 1
        have c_z0 : w1.cell? ⟨w.heap.size + 1, 0, none⟩ = some (Value.slice none 0 0) := (blk_cell HK2.out 0).trans rfl
        have f_z0 := blk_frozen HK2.out 0
        have c_z1 : w1.cell? ⟨w.heap.size + 1, 1, none⟩ = some (Value.slice none 0 0) := (blk_cell HK2.out 1).trans rfl
        have f_z1 := blk_frozen HK2.out 1
        go_wp2_with fail
        clear c_o0 f_o0 c_o1 f_o1 c_z0 f_z0 c_z1 f_z1
        refine (HTB.out _ HB1.out).mono ?_
        rintro e w2 ⟨rfl, hb2⟩
        have HB2 := Aside0.mk (below_step (HB1.out) hb2)
        have HK3 := Aside0.mk (blk_below (HK1.out) hb2)
        have HK4 := Aside0.mk (blk_below (HK2.out) hb2)
        have HS2 := Aside0.mk hb2
        clear hb2
        have c_o0 : w2.cell? ⟨w.heap.size, 0, none⟩ = some (Value.slice As ss.length cs) := (blk_cell HK3.out 0).trans rfl
        have f_o0 := blk_frozen HK3.out 0
        have c_o1 : w2.cell? ⟨w.heap.size, 1, none⟩ = some (Value.slice At ts.length ct) := (blk_cell HK3.out 1).trans rfl
        have f_o1 := blk_frozen HK3.out 1
        have c_z0 : w2.cell? ⟨w.heap.size + 1, 0, none⟩ = some (Value.slice none 0 0) := (blk_cell HK4.out 0).trans rfl
        have f_z0 := blk_frozen HK4.out 0
        have c_z1 : w2.cell? ⟨w.heap.size + 1, 1, none⟩ = some (Value.slice none 0 0) := (blk_cell HK4.out 1).trans rfl
        have f_z1 := blk_frozen HK4.out 1
        go_wp2_with fail
        clear c_o0 f_o0 c_o1 f_o1 c_z0 f_z0 c_z1 f_z1
        refine (HNO.out _ _).mono ?_
        rintro e w3 ⟨rfl, hb3⟩
        have HB3 := Aside0.mk (below_step (HB2.out) hb3)
        have HK5 := Aside0.mk (blk_below (HK3.out) hb3)
        have HK6 := Aside0.mk (blk_below (HK4.out) hb3)
        have HS3 := Aside0.mk hb3
        clear hb3
        have c_o0 : w3.cell? ⟨w.heap.size, 0, none⟩ = some (Value.slice As ss.length cs) := (blk_cell HK5.out 0).trans rfl
        have f_o0 := blk_frozen HK5.out 0
        have c_o1 : w3.cell? ⟨w.heap.size, 1, none⟩ = some (Value.slice At ts.length ct) := (blk_cell HK5.out 1).trans rfl
        have f_o1 := blk_frozen HK5.out 1
        have c_z0 : w3.cell? ⟨w.heap.size + 1, 0, none⟩ = some (Value.slice none 0 0) := (blk_cell HK6.out 0).trans rfl
        have f_z0 := blk_frozen HK6.out 0
        have c_z1 : w3.cell? ⟨w.heap.size + 1, 1, none⟩ = some (Value.slice none 0 0) := (blk_cell HK6.out 1).trans rfl
        have f_z1 := blk_frozen HK6.out 1
        go_wp2
        refine bodyPost_ret (v := .tuple #[.agg #[.slice none 0 0, .slice none 0 0], .int .i64 61]) (by simp [results, Try.results20, go_sem, *]) rfl ?_
        exact zeroOut (g := w.heap.size + 1) (n := 61) HB3.out (by omega)
end Go.Proofs.Ytmmiehckgkadgaa.O
