/- Own lemmas and walks (UX), without what the law does not need. Laid by a program of this session (prune.py). -/
import Derived.Test.YtmmiehckgkadgaaGreatPr13
namespace Go.Proofs.YtmmiehckgkadgaaGreat.O
set_option linter.unusedVariables false
set_option linter.unusedSimpArgs false
open Go.RowKit Go.Proofs.YtmmiehckgkadgaaGreatW.PrintWords
set_option maxRecDepth 20000 in
set_option maxHeartbeats 4000000 in
theorem deleteRul.calls (xs : List Rul) (w : World) (b g c k : Nat) (ok : Nat → Prop) (hk : k < xs.length) (hl : xs.length ≤ 3000) (hR : kRul.R 29 w b ok (.slice (some ⟨g, 0, none⟩) xs.length c) xs) :
    Calls Tryz.prog 44 #[.slice (some ⟨g, 0, none⟩) xs.length c, .int .i64 (k : Int), .int .i64 ((k : Int) + 1)] w fun e w' => e = .returned (.slice (some ⟨g, 0, none⟩) (xs.length - 1) c) ∧ w.grownBy w' (some g) ∧ kRul.R 29 w' b ok (.slice (some ⟨g, 0, none⟩) (xs.length - 1) c) (xs.eraseIdx k) := by
  obtain ⟨i0, hi, hzz⟩ := Option.map_eq_some_iff.1 infoRul
  simp only [Prod.mk.injEq] at hzz
  have hisz : i0.size = 8 := hzz.2.1
  have hnc : xs.length ≤ c := (Kd.R_reads' hR).2.1
  have hcm := R_cap hR
  have h0 : (0 : Int) ≤ (k : Int) := by omega
  have h1 : (k : Int) + 1 ≤ (xs.length : Int) := by omega
  obtain ⟨sv, s1⟩ := cut_all (P := Tryz.prog) 48 29 Tryz.underlying48 hi g xs.length c k hk hnc
  have s2 := cut_to (P := Tryz.prog) 48 29 .i64 Tryz.underlying48 hi (some ⟨g, 0, none⟩) xs.length c (k : Int) h0 (by omega) hnc
  have s3 := cut_from (P := Tryz.prog) 48 29 .i64 Tryz.underlying48 hi 8 hisz (some ⟨g, 0, none⟩) xs.length c ((k : Int) + 1) (by omega) h1
  rw [Int.toNat_natCast] at s2
  rw [show ((k : Int) + 1).toNat = k + 1 from by omega] at s3
  have s4 := cut_last (P := Tryz.prog) 48 29 Tryz.underlying48 hi 8 hisz g xs.length c (by omega) hnc
  have HR := Aside0.mk (Kd.R_drew hR)
  have HN := Aside0.mk hnc
  have HCM := Aside0.mk hcm
  have hkk : ((k : Int) == (k : Int) + 1) = false := beq_eq_false_iff_ne.2 (by omega)
  obtain ⟨A, hA⟩ : ∃ A, A = if c = k + 1 then some (⟨g, 0, none⟩ : Addr) else (some (⟨g, 0, none⟩ : Addr)).map (·.add ((k + 1) * 8)) := ⟨_, rfl⟩
  rw [← hA] at s3
  have HA := Aside0.mk hA
  clear hA hR hi hzz hisz hnc hcm
  go_enter Tryz.func44, Tryz.ntmps44
  go_wp2
  go_region_law ((refine Kd.R_delete_step kRul (w0 := w.drew) b (by rfl) (.tmp 22) (.tmp 25) 48 29 rfl Tryz.underlying48 (info_size infoRul) (g := g) (n := xs.length) (c := c) (k := k) (m := xs.length - (k + 1)) (c2 := c - (k + 1)) (A := A) (xs := xs) (ok := ok) (by rfl) (by rfl) HA.out rfl HR.out hk (Below.refl _ _) (R_bs HR.out) ?_; intro w1 hR1 _ hg1))
  all_goals
    have HD := Aside0.mk (And.intro hR1 hg1)
    have hrun := fun W (hg2 : ∃ cur, W.heap[g]? = some (.cells cur 29 (0, 0)) ∧ cur.size = c * 8) => run_clear_one (P := Tryz.prog) W 48 29 (.agg #[(.string ⟨#[]⟩), (.int .i64 0), (.slice none 0 0), (.int .i64 0), (.int .i64 0), (.string ⟨#[]⟩), (.string ⟨#[]⟩), (.string ⟨#[]⟩)]) [(.string ⟨#[]⟩), (.int .i64 0), (.slice none 0 0), (.int .i64 0), (.int .i64 0), (.string ⟨#[]⟩), (.string ⟨#[]⟩), (.string ⟨#[]⟩)] Tryz.underlying48 Tryz.zeroValue29 (by kernel_rfl) (by decide) g ((xs.length - 1) * 8) (c - (xs.length - 1)) 8 rfl c hg2 (by have := HN.out; have h2 : (xs.length - 1 + 1) * 8 ≤ c * 8 := Nat.mul_le_mul_right _ (by omega); omega)
    obtain ⟨HD1, HD2⟩ := R_behind HD.out.1 ((xs.length - 1) * 8) [(.string ⟨#[]⟩), (.int .i64 0), (.slice none 0 0), (.int .i64 0), (.int .i64 0), (.string ⟨#[]⟩), (.string ⟨#[]⟩), (.string ⟨#[]⟩)] (Nat.le_refl _) (by have h2 : (xs.length - 1 + 1) * 8 ≤ c * 8 := Nat.mul_le_mul_right _ (by have := HN.out; omega); show (xs.length - 1) * 8 + 8 ≤ c * 8; omega)
    have HC := Aside0.mk (hrun _ (R_block HD.out.1))
    have HX := Aside0.mk (And.intro (World.grownBy.trans HD.out.2 HD2) HD1)
    clear hrun HD1 HD2 hR1 hg1
    have hcl := HC.out 0
    go_wp2
    go_ret
    exact ⟨rfl, ⟨HX.out.1.os, HX.out.1.tape, HX.out.1.output, HX.out.1.size, HX.out.1.block⟩, HX.out.2⟩
end Go.Proofs.YtmmiehckgkadgaaGreat.O
