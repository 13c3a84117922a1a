/- The document's O (one), and what the statement asks of it first (checks). -/
import Derived.Test.YtmmiehckgkadgaaOV
namespace Go.Proofs.Ytmmiehckgkadgaa.O
set_option linter.unusedVariables false
set_option linter.unusedSimpArgs false
open Go.RowKit Go.Proofs.YtmmiehckgkadgaaW.PrintWords

theorem C_one {α : Type} {d : Kd α} {w : World} {g : Nat} {x : α} {c : List Value} (hl : c.length = d.sz) (hk : d.K w x c) (hc : ∀ i u, c[i]? = some u → w.cell? ⟨g, i, none⟩ = some u) : d.C w (some ⟨g, 0, none⟩) 1 [x] :=
  ⟨rfl, by decide, fun _ => ⟨_, rfl, fun j p hp => by
    cases j with
    | zero => obtain rfl : x = p := by simpa using hp
              exact ⟨c, hl, hk, fun i u hu => by rw [Nat.zero_mul, Nat.zero_add, add_plain]; exact hc i u hu⟩
    | succ j => simp at hp⟩⟩
theorem C_two {α : Type} {d : Kd α} {w : World} {g : Nat} {x y : α} {c e : List Value} (hl : c.length = d.sz) (hk : d.K w x c) (hc : ∀ i u, c[i]? = some u → w.cell? ⟨g, i, none⟩ = some u) (hl2 : e.length = d.sz) (hk2 : d.K w y e) (hc2 : ∀ i u, e[i]? = some u → w.cell? ⟨g, d.sz + i, none⟩ = some u) : d.C w (some ⟨g, 0, none⟩) 2 [x, y] :=
  ⟨rfl, by decide, fun _ => ⟨_, rfl, fun j p hp => by
    match j, hp with
    | 0, hp => obtain rfl : x = p := by simpa using hp
               exact ⟨c, hl, hk, fun i u hu => by rw [Nat.zero_mul, Nat.zero_add, add_plain]; exact hc i u hu⟩
    | 1, hp => obtain rfl : y = p := by simpa using hp
               exact ⟨e, hl2, hk2, fun i u hu => by rw [Nat.one_mul, add_plain]; exact hc2 i u hu⟩
    | j + 2, hp => simp at hp⟩⟩
def sx : ByteArray := ⟨#[120]⟩
def sy : ByteArray := ⟨#[121]⟩
def sk : ByteArray := ⟨#[107]⟩
def s_s : ByteArray := ⟨#[115]⟩
def st_ : ByteArray := ⟨#[116]⟩
def so_ : ByteArray := ⟨#[111]⟩
def rul1 : Rul := ⟨sk, 2, [sx], 0, 0, nStr, nStr, nStr⟩
def tab1 : Tab := ⟨s_s, st_, so_, [⟨sx, 2, false⟩, ⟨sy, 3, true⟩], [rul1]⟩
def sch1 : Sch := ⟨s_s, so_⟩
theorem check_one : checkE [sch1] [tab1] = 0 := by decide +kernel
theorem check_bare : checkE [] [tab1] = 63 := by decide +kernel
theorem tabsF_one : TabsF [tab1] := by
  refine ⟨by decide, fun t ht => ?_⟩
  obtain rfl : t = tab1 := by simpa using ht
  refine ⟨by decide, by decide, fun r hr => ?_⟩
  obtain rfl : r = rul1 := by simpa [tab1] using hr
  exact ⟨by decide, by decide, by decide, by decide⟩

theorem cell_in {X WF : World} {c : List Value} {t : TypeId} {g : Nat} (hg : g = X.heap.size) (hb : Below (X.alloc (.cells c.toArray t)).heap.size (X.alloc (.cells c.toArray t)) WF) : ∀ i u, c[i]? = some u → WF.cell? ⟨g, i, none⟩ = some u := fun i u h => by
  subst hg
  exact pw_cell_below hb (by rw [World.cell?_alloc_new]; simpa using h)
def oT (g : Nat) : List Value := [.string s_s, .string st_, .string so_, .slice (some ⟨g + 1 + 1 + 1, 0, none⟩) 2 2, .slice (some ⟨g + 1 + 1 + 1 + 1, 0, none⟩) 1 1]
def oR (g : Nat) : List Value := [.string sk, .int .i64 2, .slice (some ⟨g + 1, 0, none⟩) 1 1, .int .i64 0, .int .i64 0, .string nStr, .string nStr, .string nStr]
def oC : List Value := [.string sx, .int .i64 2, .bool false, .string sy, .int .i64 3, .bool true]
def oS : List Value := [.string s_s, .string so_]
def oO (g : Nat) : List Value := [.slice (some ⟨g + 1 + 1 + 1 + 1 + 1 + 1, 0, none⟩) 1 1, .slice (some ⟨g + 1 + 1 + 1 + 1 + 1 + 1 + 1, 0, none⟩) 1 1]
def w1_ (w : World) : World := (w.alloc (.cells (oO w.heap.size).toArray 26))
def w2_ (w : World) : World := (w1_ w).alloc (.cells ([.string sx] : List Value).toArray 9)
def w3_ (w : World) : World := (w2_ w).alloc (.cells (oR w.heap.size).toArray 57)
def w4_ (w : World) : World := (w3_ w).alloc (.cells oC.toArray 41)
def w5_ (w : World) : World := (w4_ w).alloc (.cells (oR w.heap.size).toArray 57)
def w6_ (w : World) : World := (w5_ w).alloc (.cells (oT w.heap.size).toArray 35)
def w7_ (w : World) : World := (w6_ w).alloc (.cells oS.toArray 63)
def w8_ (w : World) : World := (w7_ w).alloc (.cells (oT w.heap.size).toArray 35)
theorem sz_ (w : World) (o : Obj) : (w.alloc o).heap.size = w.heap.size + 1 := by simp
theorem one_reads (w : World) : kSch.C (w8_ w) (some ⟨w.heap.size + 1 + 1 + 1 + 1 + 1 + 1, 0, none⟩) 1 [sch1] ∧ kTab.C (w8_ w) (some ⟨w.heap.size + 1 + 1 + 1 + 1 + 1 + 1 + 1, 0, none⟩) 1 [tab1] := by
  have B0 : ∀ X : World, Below X.heap.size X X := fun X => Below.refl _ _
  have B : ∀ (X Y : World) (o : Obj), Below X.heap.size X Y → Below X.heap.size X (Y.alloc o) := fun X Y o h => below_alloc h o
  have s1 : (w1_ w).heap.size = w.heap.size + 1 := sz_ _ _
  have s2 : (w2_ w).heap.size = w.heap.size + 1 + 1 := by rw [w2_, sz_, s1]
  have s3 : (w3_ w).heap.size = w.heap.size + 1 + 1 + 1 := by rw [w3_, sz_, s2]
  have s4 : (w4_ w).heap.size = w.heap.size + 1 + 1 + 1 + 1 := by rw [w4_, sz_, s3]
  have s5 : (w5_ w).heap.size = w.heap.size + 1 + 1 + 1 + 1 + 1 := by rw [w5_, sz_, s4]
  have s6 : (w6_ w).heap.size = w.heap.size + 1 + 1 + 1 + 1 + 1 + 1 := by rw [w6_, sz_, s5]
  have s7 : (w7_ w).heap.size = w.heap.size + 1 + 1 + 1 + 1 + 1 + 1 + 1 := by rw [w7_, sz_, s6]
  have c1 := cell_in (X := w1_ w) (WF := w8_ w) s1.symm (B _ _ _ (B _ _ _ (B _ _ _ (B _ _ _ (B _ _ _ (B _ _ _ (B0 (w2_ w))))))))
  have c3 := cell_in (X := w3_ w) (WF := w8_ w) s3.symm (B _ _ _ (B _ _ _ (B _ _ _ (B _ _ _ (B0 (w4_ w))))))
  have c4 := cell_in (X := w4_ w) (WF := w8_ w) s4.symm (B _ _ _ (B _ _ _ (B _ _ _ (B0 (w5_ w)))))
  have c6 := cell_in (X := w6_ w) (WF := w8_ w) s6.symm (B _ _ _ (B0 (w7_ w)))
  have c7 := cell_in (X := w7_ w) (WF := w8_ w) s7.symm (B0 (w8_ w))
  refine ⟨C_one rfl (kSch_mk _ sch1) c6, C_one rfl ?_ c7⟩
  refine kTab_mk _ tab1 (c3 := 2) (c4 := 1) (by decide) ?_ (by decide) ?_
  · exact C_two (d := kCol) rfl (kCol_mk _ ⟨sx, 2, false⟩) (fun i u h => c3 i u (by match i, h with | 0, h => exact h | 1, h => exact h | 2, h => exact h | i + 3, h => simp at h)) rfl (kCol_mk _ ⟨sy, 3, true⟩)
      (fun i u h => by rw [show kCol.sz + i = i + 3 from Nat.add_comm 3 i]; exact c3 (i + 3) u h)
  · refine C_one rfl ?_ c4
    exact kRul_mk _ rul1 (c2 := 1) (by decide) (C_one (d := Kd.string) rfl rfl c1)
theorem one_below (w : World) : Below w.heap.size w (w8_ w) := below_alloc (below_alloc (below_alloc (below_alloc (below_alloc (below_alloc (below_alloc (below_alloc (Below.refl _ _) _) _) _) _) _) _) _) _
theorem one_cells (w : World) : (w8_ w).cell? ⟨w.heap.size, 0, none⟩ = some (.slice (some ⟨w.heap.size + 1 + 1 + 1 + 1 + 1 + 1, 0, none⟩) 1 1) ∧ (w8_ w).cell? ⟨w.heap.size, 1, none⟩ = some (.slice (some ⟨w.heap.size + 1 + 1 + 1 + 1 + 1 + 1 + 1, 0, none⟩) 1 1) := by
  have c0 := cell_in (X := w) (WF := w8_ w) (c := oO w.heap.size) (t := 26) rfl (below_alloc (below_alloc (below_alloc (below_alloc (below_alloc (below_alloc (below_alloc (Below.refl _ (w1_ w)) _) _) _) _) _) _) _)
  exact ⟨c0 0 _ rfl, c0 1 _ rfl⟩

set_option maxHeartbeats 2000000 in
theorem one.calls (w : World) : Calls Try.prog 40 #[] w fun e w' => ∃ As cs At ct, e = .returned (.agg #[.slice As 1 cs, .slice At 1 ct]) ∧ 1 ≤ cs ∧ 1 ≤ ct ∧ kSch.C w' As 1 [sch1] ∧ kTab.C w' At 1 [tab1] ∧ Below w.heap.size w w' := by
  have HR := Aside0.mk (one_reads w)
  have HB := Aside0.mk (one_below w)
  have HC := Aside0.mk (one_cells w)
  go_enter Try.func40, Try.ntmps40
  go_wp2
  refine bodyPost_ret (v := .agg #[.slice (some ⟨w.heap.size + 1 + 1 + 1 + 1 + 1 + 1, 0, none⟩) 1 1, .slice (some ⟨w.heap.size + 1 + 1 + 1 + 1 + 1 + 1 + 1, 0, none⟩) 1 1]) (by simp [results, Try.results40, go_sem]) rfl ?_
  exact ⟨_, _, _, _, rfl, Nat.le_refl _, Nat.le_refl _, HR.out.1, HR.out.2, HB.out⟩
end Go.Proofs.Ytmmiehckgkadgaa.O
