/- Own lemmas and walks (TI, TJ), without what the law does not need. Laid by a program of this session (prune.py). -/
import Derived.RangeFuncBox
import Derived.RangeFuncLeaves
import Derived.Shelf.Abstract
import Derived.OwnWalkIn
import Derived.TacticsInMore
import Derived.LoopNIn
import Derived.LoopIn
import Derived.Test.YtmmiehckgkadgaaGreatPr14
import Derived.Test.YtmmiehckgkadgaaGreatPr20
namespace Go.Proofs.YtmmiehckgkadgaaGreat.O
set_option linter.unusedVariables false
set_option linter.unusedSimpArgs false
open Go.RowKit Go.Shelf Go.Proofs.YtmmiehckgkadgaaGreatW.PrintWords
attribute [local go_sem] Oper.semAt_some
abbrev Pair := TabP × RulP
def encs (x : Pair) : Array Value := #[.agg (encT x.1).toArray, .agg (encR x.2).toArray]
def bare (x : Pair) : Tab × Rul := (x.1.t, x.2.r)
def ofTab (schema table : ByteArray) (t : Tab) : List (Tab × Rul) := (t.rules.filter (foreignTo schema table)).map (fun r => (t, r))
def comes (schema table : ByteArray) (ts : List Tab) : List (Tab × Rul) := ts.flatMap (ofTab schema table)
theorem comes_next {schema table : ByteArray} {ts : List Tab} {j : Nat} (h : j < ts.length) : comes schema table (ts.take (j + 1)) = comes schema table (ts.take j) ++ ofTab schema table ts[j] := by
  unfold comes; rw [List.take_succ_eq_append_getElem h, List.flatMap_append]; simp
def part (schema table : ByteArray) (ts : List Tab) (j k : Nat) (h : j < ts.length) : List (Tab × Rul) := comes schema table (ts.take j) ++ ((ts[j].rules.take k).filter (foreignTo schema table)).map (fun r => (ts[j], r))
theorem part_skip {schema table : ByteArray} {ts : List Tab} {j k : Nat} (h : j < ts.length) (hk : k < ts[j].rules.length) (hp : foreignTo schema table ts[j].rules[k] = false) : part schema table ts j (k + 1) h = part schema table ts j k h := by
  unfold part; rw [List.take_succ_eq_append_getElem hk, List.filter_append]; simp [hp]
theorem part_take {schema table : ByteArray} {ts : List Tab} {j k : Nat} (h : j < ts.length) (hk : k < ts[j].rules.length) (hp : foreignTo schema table ts[j].rules[k] = true) : part schema table ts j (k + 1) h = part schema table ts j k h ++ [(ts[j], ts[j].rules[k])] := by
  unfold part; rw [List.take_succ_eq_append_getElem hk, List.filter_append]; simp [hp]
theorem part_zero {schema table : ByteArray} {ts : List Tab} {j : Nat} (h : j < ts.length) : part schema table ts j 0 h = comes schema table (ts.take j) := by unfold part; simp
theorem part_all {schema table : ByteArray} {ts : List Tab} {j : Nat} (h : j < ts.length) : part schema table ts j ts[j].rules.length h = comes schema table (ts.take (j + 1)) := by unfold part; rw [List.take_length, comes_next h]; rfl
theorem part_front {schema table : ByteArray} {ts : List Tab} {j k : Nat} (h : j < ts.length) : ∃ rest, comes schema table ts = part schema table ts j k h ++ rest := by
  have h1 : comes schema table ts = comes schema table (ts.take (j + 1)) ++ comes schema table (ts.drop (j + 1)) := by
    unfold comes; rw [← List.flatMap_append, List.take_append_drop]
  have h2 : ts[j].rules.filter (foreignTo schema table) = (ts[j].rules.take k).filter (foreignTo schema table) ++ (ts[j].rules.drop k).filter (foreignTo schema table) := by rw [← List.filter_append, List.take_append_drop]
  refine ⟨((ts[j].rules.drop k).filter (foreignTo schema table)).map (fun r => (ts[j], r)) ++ comes schema table (ts.drop (j + 1)), ?_⟩
  rw [h1, comes_next h]
  unfold part ofTab
  rw [h2, List.map_append]
  simp [List.append_assoc]
end Go.Proofs.YtmmiehckgkadgaaGreat.O
namespace Go.Proofs.YtmmiehckgkadgaaGreat.O
set_option linter.unusedVariables false
set_option linter.unusedSimpArgs false
open Go.RowKit Go.Shelf Go.Proofs.YtmmiehckgkadgaaGreatW.PrintWords
attribute [local go_sem] Oper.semAt_some
theorem abides_alloc {β : Type} {B : Nat} {J : β → World → Prop} (h : AbidesFrom B J) {s : β} {W : World} (hJ : J s W) (o : Obj) : J s (W.alloc o) :=
  h s W _ none hJ (World.grownBy_alloc W o none) (fun r e => by cases e)
def KC (A B : World) : Prop := ∀ (k : Nat) (c : Array Value) (t : TypeId) (f : Nat × Nat), A.heap[k]? = some (.cells c t f) → B.heap[k]? = some (.cells c t f)
theorem KC.trans {A B C : World} (h : KC A B) (h' : KC B C) : KC A C := fun k c t f hk => h' k c t f (h k c t f hk)
theorem KC.alloc (A : World) (o : Obj) : KC A (A.alloc o) := fun k c t f hk => blk_alloc hk o
set_option maxRecDepth 100000 in
set_option maxHeartbeats 4000000 in
theorem foreign1_stops {At : Option Addr} {ct : Nat} (F : Fence) (n : Nat) (hf : F.fn 93) (hro : F.round = none) (hn : 1 ≤ n) (ts : List Tab) (schema table : ByteArray) (w1 : World) (Bo Bs Bt : Nat) (ho : w1.cell? ⟨Bo, 1, none⟩ = some (.slice At ts.length ct)) (hs : w1.cell? ⟨Bs, 0, none⟩ = some (.string schema)) (ht : w1.cell? ⟨Bt, 0, none⟩ = some (.string table)) (hT : kTab.C w1 At ts.length ts) (hB : TabsB ts) :
    SeqStopsK F n Tryz.prog 93 #[.pointer (some ⟨Bo, 0, none⟩), .pointer (some ⟨Bs, 0, none⟩), .pointer (some ⟨Bt, 0, none⟩)] encs (fun A B => Below w1.heap.size A B ∧ KC A B) (fun ys => ys.map bare = comes schema table ts) (fun pre => ∃ rest, comes schema table ts = pre.map bare ++ rest) (comes schema table ts).length w1 := fun l J Jx W hW hJ hJx hY h0 => by
  have htl : ts.length ≤ 3000 := hB.1
  have HB := Aside0.mk hB.2
  have HT := Aside0.mk hT
  have HW := Aside0.mk hW
  have HS := Aside0.mk (And.intro ho (And.intro hs ht))
  have c0 := pw_cell_below hW ho
  refine callsIn_of_wp Tryz.func93 rfl hf ?_ hro
  simp only [Tryz.ntmps93, List.size_toArray, List.length_cons, List.length_nil, Nat.reduceAdd, Nat.reduceSub, Array.replicate_succ, Array.replicate_zero, List.push_toArray, List.append_toArray, List.nil_append, List.cons_append]
  clear hT hB ho hs ht
  gi_wp2
  gi_loopw [12] (fun i wr => ∃ (j : Nat) (pre : List Pair), j ≤ ts.length ∧ i = .int .i64 j ∧ Aside0 (pre.map bare = comes schema table (ts.take j) ∧ J pre wr ∧ Below w1.heap.size w1 wr)) (fun i _ => ts.length - (intOf i).toNat)
  case atStart => exact ⟨0, [], Nat.zero_le _, rfl, ⟨rfl, h0, hW⟩⟩
  case round =>
    obtain ⟨j, pre, hj, rfl, HJ⟩ := hrel
    by_cases hlt : j < ts.length
    · obtain ⟨ad, A3, c3, A4, c4, e, u0, u1, u2, u3, u4, l3, h3, l4, h4⟩ := tabAt HT.out j hlt
      cases e
      have r0 := pw_cell_below HJ.out.2.2 u0
      have r1 := pw_cell_below HJ.out.2.2 u1
      have r2 := pw_cell_below HJ.out.2.2 u2
      have r3 := pw_cell_below HJ.out.2.2 u3
      have r4 := pw_cell_below HJ.out.2.2 u4
      have i0 : (0 : Int) ≤ (j : Int) := by omega
      have i1 : (j : Int) < (ts.length : Int) := by omega
      have hlr : ts[j].rules.length ≤ 3000 := (HB.out _ (List.getElem_mem hlt)).2.1
      have H4 := Aside0.mk h4
      have HBX := Aside0.mk (blk_new wr (.cells #[.string ts[j].schema, .string ts[j].name, .string ts[j].owner, .slice A3 ts[j].cols.length c3, .slice A4 ts[j].rules.length c4] 50))
      have HJ1 := Aside0.mk (And.intro (abides_alloc hJ HJ.out.2.1 (.cells #[.string ts[j].schema, .string ts[j].name, .string ts[j].owner, .slice A3 ts[j].cols.length c3, .slice A4 ts[j].rules.length c4] 50)) (below_alloc HJ.out.2.2 (.cells #[.string ts[j].schema, .string ts[j].name, .string ts[j].owner, .slice A3 ts[j].cols.length c3, .slice A4 ts[j].rules.length c4] 50)))
      clear h3 h4 l3 l4 u0 u1 u2 u3 u4
      gi_wp2
      generalize wr.heap.size = gb at *
      gi_loopw [19] (fun i vr => ∃ (k : Nat) (pre2 : List Pair), k ≤ ts[j].rules.length ∧ i = .int .i64 k ∧ Aside0 (pre2.map bare = part schema table ts j k hlt ∧ J pre2 vr ∧ Below w1.heap.size w1 vr ∧ vr.heap[gb]? = some (.cells #[.string ts[j].schema, .string ts[j].name, .string ts[j].owner, .slice A3 ts[j].cols.length c3, .slice A4 ts[j].rules.length c4] 50 (0, 0)))) (fun i _ => ts[j].rules.length - (intOf i).toNat)
      case atStart => exact ⟨0, pre, Nat.zero_le _, rfl, ⟨by rw [part_zero]; exact HJ.out.1, HJ1.out.1, HJ1.out.2, HBX.out⟩⟩
      case round =>
        clear r0 r1 r2 r3 r4 HBX HJ1
        obtain ⟨k, pre2, hk, rfl, HI⟩ := hrel
        by_cases hlk : k < ts[j].rules.length
        · obtain ⟨ad2, A2, c2, e, q0, q1, q2, q3, q4, q5, q6, q7, hl2, hC⟩ := rulAt (Kd.C_below H4.out HI.out.2.2.1) k hlk
          cases e
          have k0 : (0 : Int) ≤ (k : Int) := by omega
          have k1 : (k : Int) < (ts[j].rules.length : Int) := by omega
          have s1 : ∀ o, (wr.alloc o).cell? ⟨Bs, 0, none⟩ = some (.string schema) := fun o => pw_cell_below (below_alloc HI.out.2.2.1 o) HS.out.2.1
          have s2 : ∀ o, (wr.alloc o).cell? ⟨Bt, 0, none⟩ = some (.string table) := fun o => pw_cell_below (below_alloc HI.out.2.2.1 o) HS.out.2.2
          have b0 : ∀ o, (wr.alloc o).cell? ⟨gb, 0, none⟩ = some (.string ts[j].schema) := fun o => (blk_cell (blk_alloc HI.out.2.2.2 o) 0).trans rfl
          have b1 : ∀ o, (wr.alloc o).cell? ⟨gb, 1, none⟩ = some (.string ts[j].name) := fun o => (blk_cell (blk_alloc HI.out.2.2.2 o) 1).trans rfl
          have b2 : ∀ o, (wr.alloc o).cell? ⟨gb, 2, none⟩ = some (.string ts[j].owner) := fun o => (blk_cell (blk_alloc HI.out.2.2.2 o) 2).trans rfl
          have b3 : ∀ o, (wr.alloc o).cell? ⟨gb, 3, none⟩ = some (.slice A3 ts[j].cols.length c3) := fun o => (blk_cell (blk_alloc HI.out.2.2.2 o) 3).trans rfl
          have b4 : ∀ o, (wr.alloc o).cell? ⟨gb, 4, none⟩ = some (.slice (some ad2) ts[j].rules.length c4) := fun o => (blk_cell (blk_alloc HI.out.2.2.2 o) 4).trans rfl
          have HN := Aside0.mk (And.intro (abides_alloc hJ HI.out.2.1 (.cells #[.string ts[j].rules[k].name, .int .i64 ts[j].rules[k].kind, .slice A2 ts[j].rules[k].cols.length c2, .int .i64 ts[j].rules[k].low, .int .i64 ts[j].rules[k].high, .string ts[j].rules[k].schema, .string ts[j].rules[k].table, .string ts[j].rules[k].key] 29)) (And.intro (below_alloc HI.out.2.2.1 (.cells #[.string ts[j].rules[k].name, .int .i64 ts[j].rules[k].kind, .slice A2 ts[j].rules[k].cols.length c2, .int .i64 ts[j].rules[k].low, .int .i64 ts[j].rules[k].high, .string ts[j].rules[k].schema, .string ts[j].rules[k].table, .string ts[j].rules[k].key] 29)) (blk_alloc HI.out.2.2.2 (.cells #[.string ts[j].rules[k].name, .int .i64 ts[j].rules[k].kind, .slice A2 ts[j].rules[k].cols.length c2, .int .i64 ts[j].rules[k].low, .int .i64 ts[j].rules[k].high, .string ts[j].rules[k].schema, .string ts[j].rules[k].table, .string ts[j].rules[k].key] 29))))
          clear hl2 hC
          cases p1 : (ts[j].rules[k].kind == 4) with
          | false =>
            have HP := Aside0.mk (show foreignTo schema table ts[j].rules[k] = false by unfold foreignTo; rw [p1]; rfl)
            gi_wp2
            refine ⟨fun _ h => (by cases h), ?_⟩
            gi_wp2
            go_roundw
            case rel => exact ⟨k + 1, pre2, by omega, by go_num, ⟨by rw [part_skip hlt hlk HP.out]; exact HI.out.1, HN.out⟩⟩
            case measure => simp [intOf]; omega
          | true =>
          cases p2 : (ts[j].rules[k].schema.toList == schema.toList) with
          | false =>
            have HP := Aside0.mk (show foreignTo schema table ts[j].rules[k] = false by unfold foreignTo; rw [p1, p2]; rfl)
            gi_wp2
            refine ⟨fun _ h => (by cases h), ?_⟩
            gi_wp2
            go_roundw
            case rel => exact ⟨k + 1, pre2, by omega, by go_num, ⟨by rw [part_skip hlt hlk HP.out]; exact HI.out.1, HN.out⟩⟩
            case measure => simp [intOf]; omega
          | true =>
          cases p3 : (ts[j].rules[k].table.toList == table.toList) with
          | false =>
            have HP := Aside0.mk (show foreignTo schema table ts[j].rules[k] = false by unfold foreignTo; rw [p1, p2, p3]; rfl)
            gi_wp2
            refine ⟨fun _ h => (by cases h), ?_⟩
            gi_wp2
            go_roundw
            case rel => exact ⟨k + 1, pre2, by omega, by go_num, ⟨by rw [part_skip hlt hlk HP.out]; exact HI.out.1, HN.out⟩⟩
            case measure => simp [intOf]; omega
          | true =>
            have HP := Aside0.mk (show foreignTo schema table ts[j].rules[k] = true by unfold foreignTo; rw [p1, p2, p3]; rfl)
            have hpt := part_take hlt hlk HP.out
            obtain ⟨rest, hrest⟩ := part_front (schema := schema) (table := table) (k := k + 1) hlt
            have hlen : pre2.length < (comes schema table ts).length := by
              have e1 := congrArg List.length HI.out.1
              rw [hrest, hpt]
              rw [List.length_map] at e1
              simp only [List.length_append, List.length_cons, List.length_nil]
              omega
            have HPT := Aside0.mk (And.intro hpt hrest)
            obtain ⟨fn, tmps, assign, body, hy, hR⟩ := hY pre2 (⟨ts[j], A3, c3, some ad2, c4⟩, ⟨ts[j].rules[k], A2, c2⟩) _ HN.out.1 hlen
            dsimp only [encs, encT, encR] at hy
            clear hpt hrest hlen
            gi_wp2
            refine hR.mono ?_
            rintro e W3 (⟨rfl, hJ3, hk3⟩ | ⟨rfl, hJx3⟩)
            · have HM := Aside0.mk (And.intro hJ3 hk3)
              clear hJ3 hk3 hR hy
              gi_wp2
              go_roundw
              case rel => exact ⟨k + 1, _, by omega, by go_num, ⟨by rw [HPT.out.1, List.map_append, HI.out.1]; rfl, HM.out.1, HN.out.2.1.trans HM.out.2.1, HM.out.2.2 _ _ _ _ HN.out.2.2⟩⟩
              case measure => simp [intOf]; omega
            · have HM := Aside0.mk hJx3
              clear hJx3 hR hy
              gi_wp2
              refine bodyPost_ret (results_none rfl _ _ _) rfl ?_
              exact ⟨⟨_, rfl⟩, .inr ⟨_, ⟨rest, by rw [HPT.out.2, HPT.out.1, List.map_append, HI.out.1]; rfl⟩, HM.out⟩⟩
        · obtain rfl : k = ts[j].rules.length := by omega
          gi_wp2
          go_roundw
          case rel => exact ⟨j + 1, pre2, by omega, by go_num, ⟨by rw [← part_all hlt]; exact HI.out.1, HI.out.2.1, HI.out.2.2.1⟩⟩
          case measure => simp [intOf]; omega
    · obtain rfl : j = ts.length := by omega
      gi_wp2
      go_end0
      exact ⟨⟨_, rfl⟩, .inl ⟨pre, by have := HJ.out.1; rwa [List.take_length] at this, HJ.out.2.1⟩⟩
end Go.Proofs.YtmmiehckgkadgaaGreat.O
