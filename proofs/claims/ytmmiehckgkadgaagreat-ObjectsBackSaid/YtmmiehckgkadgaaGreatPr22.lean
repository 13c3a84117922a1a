/- Own lemmas and walks (SC), without what the law does not need. Laid by a program of this session (prune.py). -/
import Derived.Test.YtmmiehckgkadgaaGreatPr13
namespace Go.Proofs.YtmmiehckgkadgaaGreat.O
set_option linter.unusedVariables false
set_option linter.unusedSimpArgs false
open Go.RowKit Go.Proofs.YtmmiehckgkadgaaGreatW.PrintWords
set_option maxRecDepth 20000 in
set_option maxHeartbeats 4000000 in
theorem deleteSch.calls (xs : List Sch) (w : World) (b g c k : Nat) (ok : Nat → Prop) (hk : k < xs.length) (hl : xs.length ≤ 3000) (hR : kSch.R 76 w b ok (.slice (some ⟨g, 0, none⟩) xs.length c) xs) :
    Calls Tryz.prog 66 #[.slice (some ⟨g, 0, none⟩) xs.length c, .int .i64 (k : Int), .int .i64 ((k : Int) + 1)] w fun e w' => e = .returned (.slice (some ⟨g, 0, none⟩) (xs.length - 1) c) ∧ w.grownBy w' (some g) ∧ kSch.R 76 w' b ok (.slice (some ⟨g, 0, none⟩) (xs.length - 1) c) (xs.eraseIdx k) := by
  obtain ⟨i0, hi, hzz⟩ := Option.map_eq_some_iff.1 infoSch
  simp only [Prod.mk.injEq] at hzz
  have hisz : i0.size = 2 := hzz.2.1
  have hnc : xs.length ≤ c := (Kd.R_reads' hR).2.1
  have hcm := R_cap hR
  have h0 : (0 : Int) ≤ (k : Int) := by omega
  have h1 : (k : Int) + 1 ≤ (xs.length : Int) := by omega
  obtain ⟨sv, s1⟩ := cut_all (P := Tryz.prog) 22 76 Tryz.underlying22 hi g xs.length c k hk hnc
  have s2 := cut_to (P := Tryz.prog) 22 76 .i64 Tryz.underlying22 hi (some ⟨g, 0, none⟩) xs.length c (k : Int) h0 (by omega) hnc
  have s3 := cut_from (P := Tryz.prog) 22 76 .i64 Tryz.underlying22 hi 2 hisz (some ⟨g, 0, none⟩) xs.length c ((k : Int) + 1) (by omega) h1
  rw [Int.toNat_natCast] at s2
  rw [show ((k : Int) + 1).toNat = k + 1 from by omega] at s3
  have s4 := cut_last (P := Tryz.prog) 22 76 Tryz.underlying22 hi 2 hisz g xs.length c (by omega) hnc
  have HR := Aside0.mk (Kd.R_drew hR)
  have HN := Aside0.mk hnc
  have HCM := Aside0.mk hcm
  have hkk : ((k : Int) == (k : Int) + 1) = false := beq_eq_false_iff_ne.2 (by omega)
  obtain ⟨A, hA⟩ : ∃ A, A = if c = k + 1 then some (⟨g, 0, none⟩ : Addr) else (some (⟨g, 0, none⟩ : Addr)).map (·.add ((k + 1) * 2)) := ⟨_, rfl⟩
  rw [← hA] at s3
  have HA := Aside0.mk hA
  clear hA hR hi hzz hisz hnc hcm
  go_enter Tryz.func66, Tryz.ntmps66
  go_wp2
  go_region_law ((refine Kd.R_delete_step kSch (w0 := w.drew) b (by rfl) (.tmp 22) (.tmp 25) 22 76 rfl Tryz.underlying22 (info_size infoSch) (g := g) (n := xs.length) (c := c) (k := k) (m := xs.length - (k + 1)) (c2 := c - (k + 1)) (A := A) (xs := xs) (ok := ok) (by rfl) (by rfl) HA.out rfl HR.out hk (Below.refl _ _) (R_bs HR.out) ?_; intro w1 hR1 _ hg1))
  all_goals
    have HD := Aside0.mk (And.intro hR1 hg1)
    have hrun := fun W (hg2 : ∃ cur, W.heap[g]? = some (.cells cur 76 (0, 0)) ∧ cur.size = c * 2) => run_clear_one (P := Tryz.prog) W 22 76 (.agg #[(.string ⟨#[]⟩), (.string ⟨#[]⟩)]) [(.string ⟨#[]⟩), (.string ⟨#[]⟩)] Tryz.underlying22 Tryz.zeroValue76 (by kernel_rfl) (by decide) g ((xs.length - 1) * 2) (c - (xs.length - 1)) 2 rfl c hg2 (by have := HN.out; have h2 : (xs.length - 1 + 1) * 2 ≤ c * 2 := Nat.mul_le_mul_right _ (by omega); omega)
    obtain ⟨HD1, HD2⟩ := R_behind HD.out.1 ((xs.length - 1) * 2) [(.string ⟨#[]⟩), (.string ⟨#[]⟩)] (Nat.le_refl _) (by have h2 : (xs.length - 1 + 1) * 2 ≤ c * 2 := Nat.mul_le_mul_right _ (by have := HN.out; omega); show (xs.length - 1) * 2 + 2 ≤ c * 2; omega)
    have HC := Aside0.mk (hrun _ (R_block HD.out.1))
    have HX := Aside0.mk (And.intro (World.grownBy.trans HD.out.2 HD2) HD1)
    clear hrun HD1 HD2 hR1 hg1
    have hcl := HC.out 0
    go_wp2
    go_ret
    exact ⟨rfl, ⟨HX.out.1.os, HX.out.1.tape, HX.out.1.output, HX.out.1.size, HX.out.1.block⟩, HX.out.2⟩
set_option maxRecDepth 20000 in
set_option maxHeartbeats 4000000 in
theorem deleteTab.calls (xs : List Tab) (w : World) (b g c k : Nat) (ok : Nat → Prop) (hk : k < xs.length) (hl : xs.length ≤ 3000) (hR : kTab.R 50 w b ok (.slice (some ⟨g, 0, none⟩) xs.length c) xs) :
    Calls Tryz.prog 74 #[.slice (some ⟨g, 0, none⟩) xs.length c, .int .i64 (k : Int), .int .i64 ((k : Int) + 1)] w fun e w' => e = .returned (.slice (some ⟨g, 0, none⟩) (xs.length - 1) c) ∧ w.grownBy w' (some g) ∧ kTab.R 50 w' b ok (.slice (some ⟨g, 0, none⟩) (xs.length - 1) c) (xs.eraseIdx k) := by
  obtain ⟨i0, hi, hzz⟩ := Option.map_eq_some_iff.1 infoTab
  simp only [Prod.mk.injEq] at hzz
  have hisz : i0.size = 5 := hzz.2.1
  have hnc : xs.length ≤ c := (Kd.R_reads' hR).2.1
  have hcm := R_cap hR
  have h0 : (0 : Int) ≤ (k : Int) := by omega
  have h1 : (k : Int) + 1 ≤ (xs.length : Int) := by omega
  obtain ⟨sv, s1⟩ := cut_all (P := Tryz.prog) 23 50 Tryz.underlying23 hi g xs.length c k hk hnc
  have s2 := cut_to (P := Tryz.prog) 23 50 .i64 Tryz.underlying23 hi (some ⟨g, 0, none⟩) xs.length c (k : Int) h0 (by omega) hnc
  have s3 := cut_from (P := Tryz.prog) 23 50 .i64 Tryz.underlying23 hi 5 hisz (some ⟨g, 0, none⟩) xs.length c ((k : Int) + 1) (by omega) h1
  rw [Int.toNat_natCast] at s2
  rw [show ((k : Int) + 1).toNat = k + 1 from by omega] at s3
  have s4 := cut_last (P := Tryz.prog) 23 50 Tryz.underlying23 hi 5 hisz g xs.length c (by omega) hnc
  have HR := Aside0.mk (Kd.R_drew hR)
  have HN := Aside0.mk hnc
  have HCM := Aside0.mk hcm
  have hkk : ((k : Int) == (k : Int) + 1) = false := beq_eq_false_iff_ne.2 (by omega)
  obtain ⟨A, hA⟩ : ∃ A, A = if c = k + 1 then some (⟨g, 0, none⟩ : Addr) else (some (⟨g, 0, none⟩ : Addr)).map (·.add ((k + 1) * 5)) := ⟨_, rfl⟩
  rw [← hA] at s3
  have HA := Aside0.mk hA
  clear hA hR hi hzz hisz hnc hcm
  go_enter Tryz.func74, Tryz.ntmps74
  go_wp2
  go_region_law ((refine Kd.R_delete_step kTab (w0 := w.drew) b (by rfl) (.tmp 22) (.tmp 25) 23 50 rfl Tryz.underlying23 (info_size infoTab) (g := g) (n := xs.length) (c := c) (k := k) (m := xs.length - (k + 1)) (c2 := c - (k + 1)) (A := A) (xs := xs) (ok := ok) (by rfl) (by rfl) HA.out rfl HR.out hk (Below.refl _ _) (R_bs HR.out) ?_; intro w1 hR1 _ hg1))
  all_goals
    have HD := Aside0.mk (And.intro hR1 hg1)
    have hrun := fun W (hg2 : ∃ cur, W.heap[g]? = some (.cells cur 50 (0, 0)) ∧ cur.size = c * 5) => run_clear_one (P := Tryz.prog) W 23 50 (.agg #[(.string ⟨#[]⟩), (.string ⟨#[]⟩), (.string ⟨#[]⟩), (.slice none 0 0), (.slice none 0 0)]) [(.string ⟨#[]⟩), (.string ⟨#[]⟩), (.string ⟨#[]⟩), (.slice none 0 0), (.slice none 0 0)] Tryz.underlying23 Tryz.zeroValue50 (by kernel_rfl) (by decide) g ((xs.length - 1) * 5) (c - (xs.length - 1)) 5 rfl c hg2 (by have := HN.out; have h2 : (xs.length - 1 + 1) * 5 ≤ c * 5 := Nat.mul_le_mul_right _ (by omega); omega)
    obtain ⟨HD1, HD2⟩ := R_behind HD.out.1 ((xs.length - 1) * 5) [(.string ⟨#[]⟩), (.string ⟨#[]⟩), (.string ⟨#[]⟩), (.slice none 0 0), (.slice none 0 0)] (Nat.le_refl _) (by have h2 : (xs.length - 1 + 1) * 5 ≤ c * 5 := Nat.mul_le_mul_right _ (by have := HN.out; omega); show (xs.length - 1) * 5 + 5 ≤ c * 5; omega)
    have HC := Aside0.mk (hrun _ (R_block HD.out.1))
    have HX := Aside0.mk (And.intro (World.grownBy.trans HD.out.2 HD2) HD1)
    clear hrun HD1 HD2 hR1 hg1
    have hcl := HC.out 0
    go_wp2
    go_ret
    exact ⟨rfl, ⟨HX.out.1.os, HX.out.1.tape, HX.out.1.output, HX.out.1.size, HX.out.1.block⟩, HX.out.2⟩
end Go.Proofs.YtmmiehckgkadgaaGreat.O
