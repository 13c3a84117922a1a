/- Own lemmas and walks (WN, WNEv, OI), without what the law does not need. Laid by a program of this session (prune.py). -/
import Derived.Test.YtmmiehckgkadgaaGreatPr0
import Derived.Test.YtmmiehckgkadgaaGreatPr1
import Derived.Test.YtmmiehckgkadgaaGreatPr6
namespace Go.Proofs.YtmmiehckgkadgaaGreatW.PrintWords
open Go.RowKit
namespace Kd
def chunks (sz : Nat) (n : Nat) (inner : List Value) : List (List Value) := (List.range n).map fun j => (inner.drop (j * sz)).take sz
theorem chunks_length (sz n : Nat) (inner : List Value) : (chunks sz n inner).length = n := by simp [chunks]
theorem chunks_at {sz n : Nat} {inner : List Value} {j : Nat} (hj : j < n) : (chunks sz n inner)[j]? = some ((inner.drop (j * sz)).take sz) := by simp [chunks, hj]
theorem chunks_get {sz n : Nat} {inner : List Value} {j : Nat} {c : List Value} (h : (chunks sz n inner)[j]? = some c) : c = (inner.drop (j * sz)).take sz := by
  have hj : j < n := by have := (List.getElem?_eq_some_iff.1 h).1; rwa [chunks_length] at this
  rw [chunks_at hj] at h
  injection h with h
  exact h.symm
section
variable {α : Type} {d : Kd α} {e base n cc g : Nat} {ok ok' okp S : Nat → Prop} {w w1 W W1 : World} {A : Option Addr} {u v v1 : Value} {xs : List α} {x : α} {c : List Value}
def N {α : Type} (d : Kd α) (e : Nat) (w : World) (base : Nat) (ok : Nat → Prop) (v : Value) (xs : List α) : Prop :=
  (∀ k, v.ownBlock = some k → ok k) ∧ ∃ rows : List (List Value), rows.length = xs.length ∧ (raw d.sz).R e w base (fun k => some k = v.ownBlock) v rows ∧ ∀ (j : Nat) (x : α) (c : List Value), xs[j]? = some x → rows[j]? = some c → FK d w (fun k => ok k ∧ some k ≠ v.ownBlock) x c
end
end Kd
end Go.Proofs.YtmmiehckgkadgaaGreatW.PrintWords
namespace Go.Proofs.YtmmiehckgkadgaaGreatW.PrintWords
open Go.RowKit
namespace Kd
section
variable {α : Type} {d : Kd α} {e base n cap g : Nat} {ok ok' okp : Nat → Prop} {w w1 W : World} {v v1 : Value} {xs ys : List α}
theorem reads_raw {Rr : α → List Value → Prop} {sz m : Nat} {A : Option Addr} (h : ReadsRow Rr sz W A m ys) (hR : ∀ x c, Rr x c → c.length = sz ∧ ∀ u ∈ c, u.oneCell' = true) :
    ∃ news : List (List Value), news.length = ys.length ∧ ReadsRow (fun x cs => cs = x ∧ cs.length = sz ∧ ∀ u ∈ cs, u.oneCell' = true) sz W A m news ∧ ∀ (j : Nat) (x : α) (c : List Value), ys[j]? = some x → news[j]? = some c → Rr x c := by
  rcases Nat.eq_zero_or_pos m with h0 | hp
  · have hy : ys = [] := List.eq_nil_of_length_eq_zero (h.1.trans h0)
    subst hy
    exact ⟨[], rfl, ⟨h0 ▸ rfl, h.2.1, fun hp => by omega⟩, fun j x c hx => by simp at hx⟩
  · obtain ⟨ad, rfl, _⟩ := h.2.2 hp
    obtain ⟨inner, hr, hc⟩ := ReadsRow.inner_ h
    refine ⟨chunks sz ys.length inner, chunks_length _ _ _, ⟨by rw [chunks_length]; exact h.1, h.2.1, fun _ => ⟨ad, rfl, fun j p hj => ?_⟩⟩, fun j x c hx hcc => ?_⟩
    · have hjl : j < ys.length := by have := (List.getElem?_eq_some_iff.1 hj).1; rwa [chunks_length] at this
      have hpe := chunks_get hj
      have hq := hR _ _ (hr.2 j _ (List.getElem?_eq_getElem hjl))
      rw [← hpe] at hq
      refine ⟨p, hq.1, ⟨rfl, hq⟩, fun i u hu => ?_⟩
      have hu2 : inner[j * sz + i]? = some u := by
        rw [hpe, List.getElem?_take] at hu
        split at hu
        · rw [List.getElem?_drop] at hu
          exact hu
        · cases hu
      exact hc _ u hu2
    · rw [chunks_get hcc]
      exact hr.2 j x hx
end
end Kd
end Go.Proofs.YtmmiehckgkadgaaGreatW.PrintWords
namespace Go.Proofs.YtmmiehckgkadgaaGreat.O
set_option linter.unusedVariables false
set_option linter.unusedSimpArgs false
open Go.RowKit Go.Proofs.YtmmiehckgkadgaaGreatW.PrintWords
theorem infoKind : (Tryz.prog.info? 39).map (fun i => (i.zero, i.size, i.bytes)) = some (some (.int .i64 0), 1, 8) := by kernel_rfl
def kindOf (l : List Col) (n : ByteArray) : Option Int := if 0 ≤ idx (fun x => x.name.toList == n.toList) l then some (l.getD (idx (fun x => x.name.toList == n.toList) l).toNat zCol).kind else none
def kindsL (l : List Col) (ns : List ByteArray) : List Int := ns.filterMap (kindOf l)
theorem kindsL_le (l : List Col) (ns : List ByteArray) : (kindsL l ns).length ≤ ns.length := List.length_filterMap_le _ _
theorem kindsL_snoc (l : List Col) (ns : List ByteArray) (k : Nat) (h : k < ns.length) : kindsL l (ns.take (k + 1)) = kindsL l (ns.take k) ++ (kindOf l ns[k]).toList := by
  unfold kindsL
  rw [List.take_succ_eq_append_getElem h, List.filterMap_append]
  cases e : kindOf l ns[k] <;> simp [e]
set_option maxHeartbeats 1000000 in
theorem kinds.calls {A0 A2 : Option Addr} {c0 c2 : Nat} (xs : List Col) (ns : List ByteArray) (w : World) (hr : kCol.C w A0 xs.length xs) (hl : xs.length ≤ 140737488355328) (hr2 : Kd.string.C w A2 ns.length ns) (hl2 : ns.length ≤ 8796093022208) :
    Calls Tryz.prog 83 #[.slice A0 xs.length c0, .slice A2 ns.length c2] w fun e w' => ∃ A c, e = .returned (.slice A (kindsL xs ns).length c) ∧ (kindsL xs ns).length ≤ c ∧ (Kd.int .i64).C w' A (kindsL xs ns).length (kindsL xs ns) ∧ Below w.heap.size w w' := by
  have HR := Aside0.mk hr
  have HR2 := Aside0.mk hr2
  generalize hi : kindsL xs ns = q
  have HI := Aside0.mk hi
  clear hr hi hr2
  go_enter Tryz.func83, Tryz.ntmps83
  go_wp2
  go_loopw [5, 11] (fun v i w' => ∃ k : Nat, ∃ ks : List Int, k ≤ ns.length ∧ i = .int .i64 k ∧ Aside0 (kindsL xs (ns.take k) = ks ∧ (Kd.int .i64).R 39 w' w.heap.size (fun _ => True) v ks ∧ Below w.heap.size w w')) (fun _ i _ => ns.length - (intOf i).toNat)
  case atStart => exact ⟨0, [], Nat.zero_le _, rfl, ⟨rfl, Kd.R_nil _ _ _ _ (fun _ => True), Below.refl _ _⟩⟩
  case round =>
    obtain ⟨k, ks, hk, rfl, HJ⟩ := hrel
    by_cases hlt : k < ns.length
    · obtain ⟨ad2, e, hs⟩ := cStr (Kd.C_below HR2.out HJ.out.2.2) k hlt
      cases e
      have HC := Aside0.mk (fun W (hW : Below w.heap.size w W) => byNameCol.calls A0 c0 xs ns[k] W (Kd.C_below HR.out hW) hl)
      have HK := Aside0.mk (kindsL_snoc xs ns k hlt)
      have hks := Aside0.mk (show ks.length ≤ 8796093022208 by rw [← HJ.out.1]; have := kindsL_le xs (ns.take k); have := List.length_take_le k ns; omega)
      rcases idx_cases (fun x : Col => x.name.toList == ns[k].toList) xs with ⟨n, hn, e, hz1⟩ | ⟨e, hz1⟩
      · clear hz1
        have HK2 := Aside0.mk (show kindOf xs ns[k] = some xs[n].kind by unfold kindOf; rw [e, if_pos (by omega), Int.toNat_natCast, getD_at hn])
        rw [e] at HC
        clear e
        go_wp2_with fail
        refine (HC.out _ HJ.out.2.2).mono ?_
        rintro e w1 ⟨rfl, hb1⟩
        have HB := Aside0.mk (HJ.out.2.2.trans (hb1.mono HJ.out.2.2.size))
        have HO := Aside0.mk (Kd.R_below HJ.out.2.1 hb1)
        clear hb1
        obtain ⟨ad, e, hc0, hc1, hc2⟩ := cCol (Kd.C_below HR.out HB.out) n hn
        cases e
        go_wp2_with (first | (at_builtin; refine Kd.R_append (Kd.int .i64) (w0 := w) w.heap.size rfl (.tmp 20) (.tmp 26) 106 39 (.int .i64 0) 8 rfl Tryz.underlying106 infoKind rfl (by decide) (by decide) u5 ks xs[n].kind [.int .i64 xs[n].kind] (fun _ => True) (fun _ => False) rfl rfl ?aP (fun _ hk => hk.elim) ?aF ?aO ?aB ?aS ?aL ?_; (case aP => exact rfl); (case aB => exact HB.out); (case aF => exact (fun _ _ => trivial)); (case aO => exact HO.out); (case aS => exact HB.out.size); (case aL => have := hks.out; omega); intro v2 w3 ho hb hg hat; have HA := Aside0.mk ho; have HB2 := Aside0.mk hb; clear ho hb hg hat))
        go_roundw
        case rel => exact ⟨k + 1, ks ++ [xs[n].kind], by omega, by go_num, ⟨by rw [HK.out, HJ.out.1, HK2.out]; rfl, HA.out, HB2.out⟩⟩
        case measure => simp [intOf]; omega
      · clear hz1
        have HK2 := Aside0.mk (show kindOf xs ns[k] = none by unfold kindOf; rw [e, if_neg (by omega)])
        rw [e] at HC
        clear e
        go_wp2_with fail
        refine (HC.out _ HJ.out.2.2).mono ?_
        rintro e w1 ⟨rfl, hb1⟩
        have HB := Aside0.mk (HJ.out.2.2.trans (hb1.mono HJ.out.2.2.size))
        have HO := Aside0.mk (Kd.R_below HJ.out.2.1 hb1)
        clear hb1
        go_wp2
        go_roundw
        case rel => exact ⟨k + 1, ks, by omega, by go_num, ⟨by rw [HK.out, HJ.out.1, HK2.out]; exact List.append_nil _, HO.out, HB.out⟩⟩
        case measure => simp [intOf]; omega
    · have hd : decide (k < ns.length) = false := decide_eq_false hlt
      have hf := Aside0.mk (show ks = q by rw [← HJ.out.1, List.take_of_length_le (by omega)]; exact HI.out)
      obtain ⟨A, c, rfl, hc, hC⟩ := Kd.R_reads HJ.out.2.1
      have HZ := Aside0.mk (And.intro hc hC)
      clear hc hC
      go_wp2
      go_ret
      have hq := hf.out
      subst hq
      exact ⟨A, c, rfl, HZ.out.1, HZ.out.2, HJ.out.2.2⟩
theorem cInt {w : World} {A : Option Addr} {n : Nat} {xs : List Int} (h : (Kd.int .i64).C w A n xs) (j : Nat) (hj : j < xs.length) : ∃ ad, A = some ad ∧ w.cell? (ad.add j) = some (.int .i64 xs[j]) := by
  obtain ⟨ad, c, e, _, hK, hc0⟩ := Kd.C_get h (0 : Int) (j : Int) (by omega) (by have := h.1; omega)
  obtain rfl : c = [.int .i64 (xs.getD (j : Int).toNat 0)] := hK
  refine ⟨ad, e, ?_⟩
  have := hc0 0 _ rfl
  rw [show (j : Int).toNat * (Kd.int .i64).sz + 0 = j from (Nat.mul_one _).trans (Int.toNat_natCast j)] at this
  rw [Int.toNat_natCast, List.getD_eq_getElem?_getD, List.getElem?_eq_getElem hj] at this
  exact this
set_option maxHeartbeats 1000000 in
theorem equalK.calls {A0 B0 : Option Addr} {c0 d0 : Nat} (xs ys : List Int) (w : World) (hr : (Kd.int .i64).C w A0 xs.length xs) (hl : xs.length ≤ 140737488355328) (hr2 : (Kd.int .i64).C w B0 ys.length ys) :
    Calls Tryz.prog 84 #[.slice A0 xs.length c0, .slice B0 ys.length d0] w fun e w' => e = .returned (.bool (decide (xs = ys))) ∧ Below w.heap.size w w' := by
  have HR := Aside0.mk hr
  have HR2 := Aside0.mk hr2
  generalize hi : decide (xs = ys) = q
  have HI := Aside0.mk hi
  clear hr hi hr2
  by_cases hn : xs.length = ys.length
  · have hn' : ((xs.length : Int) != (ys.length : Int)) = false := by rw [hn]; simp
    have HN := Aside0.mk hn
    go_enter Tryz.func84, Tryz.ntmps84
    go_wp2
    go_loopw [13] (fun i w' => ∃ k : Nat, k ≤ xs.length ∧ i = .int .i64 k ∧ Aside0 (xs.take k = ys.take k ∧ Below w.heap.size w w')) (fun i _ => xs.length - (intOf i).toNat)
    case atStart => exact ⟨0, Nat.zero_le _, rfl, ⟨by simp, Below.refl _ _⟩⟩
    case round =>
      obtain ⟨k, hk, rfl, HJ⟩ := hrel
      by_cases hlt : k < xs.length
      · have hlt2 : k < ys.length := by omega
        have hz1 : (k : Int) < (ys.length : Int) := by omega
        have hz2 : (k : Int) < (xs.length : Int) := by omega
        obtain ⟨ad, e, hx⟩ := cInt (Kd.C_below HR.out HJ.out.2) k hlt
        obtain ⟨ad2, e2, hy⟩ := cInt (Kd.C_below HR2.out HJ.out.2) k hlt2
        cases e
        cases e2
        cases hm : (xs[k] != ys[k]) with
        | true =>
          go_wp2_with fail
          go_region_held3 (fun w' => w'.cell? (ad.add k) = some (.int .i64 xs[k]) ∧ w'.cell? (ad2.add k) = some (.int .i64 ys[k]) ∧ Below w.heap.size w w')
            (first | assumption | exact ⟨hx, hy, pw_below_drewN HJ.out.2 1⟩)
            (first | fail)
          rename_i hH
          have HB := Aside0.mk hH.2.2
          clear hH
          go_wp2
          go_ret
          exact ⟨ret_bool (by rw [← HI.out]; exact (decide_eq_false (fun he => by subst he; simp at hm)).symm), HB.out⟩
        | false =>
          go_wp2_with fail
          go_region_held3 (fun w' => w'.cell? (ad.add k) = some (.int .i64 xs[k]) ∧ w'.cell? (ad2.add k) = some (.int .i64 ys[k]) ∧ Below w.heap.size w w')
            (first | assumption | exact ⟨hx, hy, pw_below_drewN HJ.out.2 1⟩)
            (first | fail)
          rename_i hH
          have HB := Aside0.mk hH.2.2
          clear hH
          go_wp2
          go_roundw
          case rel => exact ⟨k + 1, by omega, by go_num, ⟨by rw [List.take_succ_eq_append_getElem hlt, List.take_succ_eq_append_getElem hlt2, HJ.out.1, show xs[k] = ys[k] by simpa using hm], HB.out⟩⟩
          case measure => simp [intOf]; omega
      · have hd : decide (k < xs.length) = false := decide_eq_false hlt
        go_wp2
        go_ret
        exact ⟨ret_bool (by
          rw [← HI.out]
          have h1 := HJ.out.1
          rw [List.take_of_length_le (by omega), List.take_of_length_le (by omega)] at h1
          exact (decide_eq_true h1).symm), HJ.out.2⟩
  · have hn' : ((xs.length : Int) != (ys.length : Int)) = true := bne_iff_ne.2 (by omega)
    go_enter Tryz.func84, Tryz.ntmps84
    go_wp2
    go_ret
    exact ⟨ret_bool (by rw [← HI.out]; exact (decide_eq_false (fun he => hn (by rw [he]))).symm), Below.refl _ _⟩
end Go.Proofs.YtmmiehckgkadgaaGreat.O
