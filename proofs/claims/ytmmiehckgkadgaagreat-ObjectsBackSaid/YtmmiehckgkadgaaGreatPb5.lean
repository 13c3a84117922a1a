/- Own lemmas and walks (BA), without what the law does not need. Laid by a program of this session (prune.py). -/
import Derived.Deep.RegionHeld3
import Derived.Laws.EntriesVeiled
import Derived.Deep.LoopGhost
import Derived.WalkLawsBesides
import Derived.Test.YtmmiehckgkadgaaGreatProg
import Derived.OpenShut
import Derived.OrdersHeld
import Derived.Laws.BitsLemmas
import Derived.RowKit
import Derived.Shelf.SlSortCmp.WholeK
import Derived.Shelf.SlSortCmp.NoneTotal
import Derived.Shelf.SlGeneric
import Derived.Shelf.Small.Strs
import Derived.Shelf.Strings.Search1
import Derived.Ground.SlsfProg
import Derived.Ground.NamesProg
import Derived.BigQuiet
import Derived.Shelf.RegionOpen
import Derived.RangeFuncNested
import Derived.RangeFuncBox
import Derived.RangeFuncLeaves
import Derived.Shelf.Abstract
import Derived.OwnWalkIn
import Derived.TacticsInMore
import Derived.LoopNIn
import Derived.LoopIn
import Derived.ChangeArms
import Derived.Deep.Slices
import Derived.SizedLaws
import Derived.Lib.SmallJoins
import Derived.Test.YtmmiehckgkadgaaGreatPr0
import Derived.Test.YtmmiehckgkadgaaGreatPr1
import Derived.Test.YtmmiehckgkadgaaGreatPr2
import Derived.Test.YtmmiehckgkadgaaGreatPr3
import Derived.Test.YtmmiehckgkadgaaGreatPr4
import Derived.Test.YtmmiehckgkadgaaGreatPr5
import Derived.Test.YtmmiehckgkadgaaGreatPr6
import Derived.Test.YtmmiehckgkadgaaGreatPr7
import Derived.Test.YtmmiehckgkadgaaGreatPr8
import Derived.Test.YtmmiehckgkadgaaGreatPr9
import Derived.Test.YtmmiehckgkadgaaGreatPr10
import Derived.Test.YtmmiehckgkadgaaGreatPr11
import Derived.Test.YtmmiehckgkadgaaGreatPr12
import Derived.Test.YtmmiehckgkadgaaGreatPr13
import Derived.Test.YtmmiehckgkadgaaGreatPr14
import Derived.Test.YtmmiehckgkadgaaGreatPr15
import Derived.Test.YtmmiehckgkadgaaGreatPr16
import Derived.Test.YtmmiehckgkadgaaGreatPr17
import Derived.Test.YtmmiehckgkadgaaGreatPr18
import Derived.Test.YtmmiehckgkadgaaGreatPr19
import Derived.Test.YtmmiehckgkadgaaGreatPr20
import Derived.Test.YtmmiehckgkadgaaGreatPr21
import Derived.Test.YtmmiehckgkadgaaGreatPr22
import Derived.Test.YtmmiehckgkadgaaGreatPr23
import Derived.Test.YtmmiehckgkadgaaGreatPr24
import Derived.Test.YtmmiehckgkadgaaGreatPr25
import Derived.Test.YtmmiehckgkadgaaGreatPr26
import Derived.Test.YtmmiehckgkadgaaGreatPr27
import Derived.Test.YtmmiehckgkadgaaGreatPr28
import Derived.Test.YtmmiehckgkadgaaGreatPr29
import Derived.Test.YtmmiehckgkadgaaGreatPr30
import Derived.Test.YtmmiehckgkadgaaGreatPr31
import Derived.Test.YtmmiehckgkadgaaGreatPb0
import Derived.Test.YtmmiehckgkadgaaGreatPb1
import Derived.Test.YtmmiehckgkadgaaGreatPb2
import Derived.Test.YtmmiehckgkadgaaGreatPb3
import Derived.Test.YtmmiehckgkadgaaGreatPb4
namespace Go.Proofs.YtmmiehckgkadgaaGreat.O
set_option linter.unusedVariables false
set_option linter.unusedSimpArgs false
open Go.RowKit Go.Proofs.YtmmiehckgkadgaaGreatW.PrintWords
theorem ins_split {α : Type} {lt : α → α → Bool} {x : α} : ∀ (l : List α), ∃ m, m ≤ l.length ∧ ins lt x l = l.take m ++ x :: l.drop m
  | [] => ⟨0, by simp, rfl⟩
  | a :: l => by
    unfold ins
    split
    · exact ⟨0, by simp, rfl⟩
    · obtain ⟨m, hm, e⟩ := ins_split (lt := lt) (x := x) l
      exact ⟨m + 1, by simpa using hm, by rw [e]; rfl⟩
theorem idx_mid {α : Type} {p : α → Bool} {l : List α} {x : α} {m : Nat} (hm : m ≤ l.length) (hp : p x = true) (hn : ∀ a ∈ l, p a = false) : idx p (l.take m ++ x :: l.drop m) = (m : Int) := by
  have hl : (l.take m).length = m := by simp; omega
  refine idx_hit (by simp; omega) ?_ fun j hj hlt => ?_
  · rw [List.getElem_append_right (by omega)]; simpa [hl, Nat.min_eq_left hm] using hp
  · rw [List.getElem_append_left (by omega)]
    exact hn _ (List.mem_of_mem_take (List.getElem_mem _))
theorem erase_mid {α : Type} {l : List α} {x : α} {m : Nat} (hm : m ≤ l.length) : (l.take m ++ x :: l.drop m).eraseIdx m = l := by
  have hl : (l.take m).length = m := by simp; omega
  rw [List.eraseIdx_append_of_length_le (by omega), hl, Nat.sub_self]
  exact List.take_append_drop m l
theorem mid_at {α : Type} {l : List α} {x z : α} {m : Nat} (hm : m ≤ l.length) : (l.take m ++ x :: l.drop m).getD m z = x := by
  have hl : (l.take m).length = m := by simp; omega
  rw [List.getD_eq_getElem?_getD, List.getElem?_append_right (by omega), hl, Nat.sub_self]; rfl
theorem chg_res {ss : List Sch} {ts : List Tab} {r : Res} (h0 : (chg ss ts r).1 = 0) : checkB ss ts = true ∧ r.1 = 0 ∧ chg ss ts r = r := by
  unfold chg at h0 ⊢
  split at h0
  · rename_i h1
    rw [if_pos h1]
    split at h0
    · rename_i h2
      rw [if_pos h2]
      exact ⟨h1, h2, rfl⟩
    · rename_i h2
      exact absurd h0 h2
  · cases h0
theorem chg_go {ss : List Sch} {ts : List Tab} {r : Res} (h1 : checkB ss ts = true) (h2 : r.1 = 0) : chg ss ts r = r := by
  unfold chg; rw [if_pos h1, if_pos h2]
theorem tch_back {ss : List Sch} {ts : List Tab} {schema table : ByteArray} {md : Tab → Int × Tab} {md' : List Tab → Tab → Int × Tab} (h0 : (chg ss ts (tch ss ts schema table md)).1 = 0)
    (hr : checkB (chg ss ts (tch ss ts schema table md)).2.1 (chg ss ts (tch ss ts schema table md)).2.2 = true)
    (hm : Rt ss ts → ∀ k (hk : k < ts.length), ts[k].schema = schema → ts[k].name = table → (md ts[k]).1 = 0 → (md ts[k]).2.schema = schema ∧ (md ts[k]).2.name = table ∧ md' (ts.set k (md ts[k]).2) (md ts[k]).2 = (0, ts[k])) :
    chg (chg ss ts (tch ss ts schema table md)).2.1 (chg ss ts (tch ss ts schema table md)).2.2 (tch (chg ss ts (tch ss ts schema table md)).2.1 (chg ss ts (tch ss ts schema table md)).2.2 schema table (md' (chg ss ts (tch ss ts schema table md)).2.2)) = (0, ss, ts) := by
  obtain ⟨hc, h1, e0⟩ := chg_res h0
  rw [e0] at hr ⊢
  have key : (tch (tch ss ts schema table md).2.1 (tch ss ts schema table md).2.2 schema table (md' (tch ss ts schema table md).2.2)) = (0, ss, ts) := by
    unfold tch at h1
    rcases idx_cases (isT schema table) ts with ⟨k, hk, e, y, hlow⟩ | ⟨e, _⟩
    · rw [e, if_pos (by omega), Int.toNat_natCast, getD_at hk] at h1
      have y' := isT_eq.1 y
      obtain ⟨f1, f2, f3⟩ := hm (of_check hc) k hk y'.1 y'.2 h1
      have eA : tch ss ts schema table md = ((md ts[k]).1, ss, ts.set k (md ts[k]).2) := by
        unfold tch; rw [e, if_pos (by omega), Int.toNat_natCast, getD_at hk]
      rw [eA]
      have hk' : k < (ts.set k (md ts[k]).2).length := by simpa using hk
      have e2 : idx (isT schema table) (ts.set k (md ts[k]).2) = (k : Int) := by
        refine idx_hit hk' (by rw [List.getElem_set_self]; exact isT_eq.2 ⟨f1, f2⟩) fun j hj hlt => ?_
        rw [List.getElem_set_ne (by omega)]
        exact hlow j (by simpa using hj) hlt
      show tch ss (ts.set k (md ts[k]).2) schema table (md' (ts.set k (md ts[k]).2)) = _
      unfold tch
      rw [e2, if_pos (by omega), Int.toNat_natCast, getD_at hk', List.getElem_set_self, f3]
      show (0, ss, (ts.set k (md ts[k]).2).set k ts[k]) = _
      rw [List.set_set, List.set_getElem_self]
    · rw [e] at h1; cases h1
  rw [key, chg_go hr rfl]
theorem column_back {ss : List Sch} {ts : List Tab} {schema table : ByteArray} {c : Col} (h0 : (addColumn ss ts schema table c).1 = 0) (hr : checkB (addColumn ss ts schema table c).2.1 (addColumn ss ts schema table c).2.2 = true) :
    dropColumn (addColumn ss ts schema table c).2.1 (addColumn ss ts schema table c).2.2 schema table c.name = (0, ss, ts) := by
  refine tch_back (md' := fun _ => dropColM c.name) h0 hr fun hR k hk y1 y2 hm => ?_
  unfold addColM at hm ⊢
  split at hm
  · rename_i h1
    rw [if_pos h1]
    split at hm
    · cases hm
    · rename_i h2
      rw [if_neg h2]
      split at hm
      · cases hm
      · rename_i h3
        rw [if_neg h3]
        refine ⟨y1, y2, ?_⟩
        have hn : ∀ x ∈ ts[k].cols, isC c.name x = false := fun x hx => no_idx h2 x hx
        have e1 : idx (isC c.name) (ts[k].cols ++ [c]) = (ts[k].cols.length : Int) := by
          have := idx_mid (p := isC c.name) (l := ts[k].cols) (x := c) (Nat.le_refl _) (by unfold isC; simp) hn
          rwa [List.take_length, List.drop_length] at this
        have g := hR.r _ (List.getElem_mem hk)
        have e3 : ¬ ((ts[k].cols ++ [c]).length == 1 || decide (0 ≤ idx (usesB c.name) ts[k].rules)) = true := by
          rw [Bool.or_eq_true, not_or]
          refine ⟨by have := (mayCols_iff.1 g.c).1; rw [beq_iff_eq, List.length_append]; simp only [List.length_cons, List.length_nil]; omega, ?_⟩
          rw [decide_eq_true_eq, idx_pos]
          rintro ⟨r, hr, hu⟩
          unfold usesB at hu
          rw [decide_eq_true_eq, idx_pos] at hu
          obtain ⟨n, hn', en⟩ := hu
          obtain ⟨x, hx, ex⟩ := kindOf_is.1 (fits_cols (g.f r hr) n hn')
          have := hn x hx
          unfold isC at this
          rw [ex, ← beqS_iff.1 en] at this
          simp at this
        show dropColM c.name { ts[k] with cols := ts[k].cols ++ [c] } = _
        unfold dropColM
        show (if 0 ≤ idx (isC c.name) (ts[k].cols ++ [c]) then (if ((ts[k].cols ++ [c]).length == 1 || decide (0 ≤ idx (usesB c.name) ts[k].rules)) = true then _ else ((0, { ts[k] with cols := (ts[k].cols ++ [c]).eraseIdx (idx (isC c.name) (ts[k].cols ++ [c])).toNat }) : Int × Tab)) else _) = _
        rw [if_neg e3, e1, if_pos (by omega), Int.toNat_natCast, List.eraseIdx_append_of_length_le (Nat.le_refl _)]
        simp
  · cases hm
theorem rule_back {ss : List Sch} {ts : List Tab} {schema table : ByteArray} {r : Rul} (h0 : (addRule ss ts schema table r).1 = 0) (hr : checkB (addRule ss ts schema table r).2.1 (addRule ss ts schema table r).2.2 = true) :
    dropRule (addRule ss ts schema table r).2.1 (addRule ss ts schema table r).2.2 schema table r.name = (0, ss, ts) := by
  refine tch_back (md' := fun T => dropRulM T schema table r.name) h0 hr fun hR k hk y1 y2 hm => ?_
  unfold addRulM at hm ⊢
  split at hm
  · rename_i h1
    rw [if_pos h1]
    split at hm
    · cases hm
    · rename_i h2
      rw [if_neg h2]
      split at hm
      · cases hm
      · rename_i h3
        rw [if_neg h3]
        split at hm
        · rename_i h4
          rw [Bool.and_eq_true, bne_iff_ne] at h4
          exact absurd hm h4.2
        · rename_i h4
          rw [if_neg h4]
          refine ⟨y1, y2, ?_⟩
          have hn : ∀ x ∈ ts[k].rules, sameN r.name x = false := fun x hx => no_idx h2 x hx
          obtain ⟨m, hmm, em⟩ := ins_split (lt := ltOf cfR) (x := r) ts[k].rules
          have e1 : idx (sameN r.name) (ins (ltOf cfR) r ts[k].rules) = (m : Int) := by rw [em]; exact idx_mid hmm (by unfold sameN; simp) hn
          have noref : ∀ t ∈ ts, ∀ q ∈ t.rules, needsR schema table r.name q = false := fun t ht q hq => by
            cases hz : needsR schema table r.name q with
            | false => rfl
            | true =>
              exfalso
              unfold needsR foreignTo at hz
              simp only [Bool.and_eq_true, beq_iff_eq] at hz
              obtain ⟨⟨z1, z2, z3⟩, z4⟩ := hz
              obtain ⟨u, hu, u1, u2, q', hq', u3, _⟩ := (hR.r t ht).k q hq z1
              obtain ⟨n, hnn, rfl⟩ := List.getElem_of_mem hu
              have en : n = k := tabs_one hR.t hnn hk (by rw [u1, y1, toList_inj z2]) (by rw [u2, y2, toList_inj z3])
              subst en
              have := hn q' hq'
              unfold sameN at this
              rw [u3, toList_inj z4] at this
              simp at this
          have e3 : ¬ (((ins (ltOf cfR) r ts[k].rules).getD m zRul).kind == 2 && (ts.set k { ts[k] with rules := ins (ltOf cfR) r ts[k].rules }).any (fun u => u.rules.any (needsR schema table r.name))) = true := by
            rw [em, mid_at hmm, ← em, Bool.and_eq_true, beq_iff_eq]
            rintro ⟨k2, ha⟩
            obtain ⟨u, hu, hq⟩ := List.any_eq_true.1 ha
            obtain ⟨q, hq, hz⟩ := List.any_eq_true.1 hq
            rcases List.mem_or_eq_of_mem_set hu with hu | rfl
            · rw [noref u hu q hq] at hz; cases hz
            · rcases mem_ins.1 hq with hq | rfl
              · rw [noref _ (List.getElem_mem hk) q hq] at hz; cases hz
              · unfold needsR foreignTo at hz
                rw [k2] at hz
                simp at hz
          show dropRulM (ts.set k { ts[k] with rules := ins (ltOf cfR) r ts[k].rules }) schema table r.name { ts[k] with rules := ins (ltOf cfR) r ts[k].rules } = _
          unfold dropRulM
          show (if 0 ≤ idx (sameN r.name) (ins (ltOf cfR) r ts[k].rules) then (if (((ins (ltOf cfR) r ts[k].rules).getD (idx (sameN r.name) (ins (ltOf cfR) r ts[k].rules)).toNat zRul).kind == 2 && (ts.set k { ts[k] with rules := ins (ltOf cfR) r ts[k].rules }).any (fun u => u.rules.any (needsR schema table r.name))) = true then _ else ((0, { ts[k] with rules := (ins (ltOf cfR) r ts[k].rules).eraseIdx (idx (sameN r.name) (ins (ltOf cfR) r ts[k].rules)).toNat }) : Int × Tab)) else _) = _
          rw [e1, if_pos (by omega), Int.toNat_natCast, if_neg e3, em, erase_mid hmm]
  · cases hm
theorem schema_back {ss : List Sch} {ts : List Tab} {name owner : ByteArray} (h0 : (addSchema ss ts name owner).1 = 0) (hr : checkB (addSchema ss ts name owner).2.1 (addSchema ss ts name owner).2.2 = true) :
    dropSchema (addSchema ss ts name owner).2.1 (addSchema ss ts name owner).2.2 name = (0, ss, ts) := by
  unfold addSchema at h0 hr ⊢
  obtain ⟨hc, h1, e0⟩ := chg_res h0
  rw [e0] at hr ⊢
  have hR := of_check hc
  unfold addSchR at h1
  split at h1
  · rename_i a1
    split at h1
    · cases h1
    · rename_i a2
      split at h1
      · cases h1
      · rename_i a3
        have eA : addSchR ss ts name owner = (0, ins (ltOf cfS) ⟨name, owner⟩ ss, ts) := by unfold addSchR; rw [if_pos a1, if_neg a2, if_neg a3]
        rw [eA] at hr ⊢
        have hn : ∀ x ∈ ss, sameS name x = false := fun x hx => no_idx a2 x hx
        obtain ⟨m, hmm, em⟩ := ins_split (lt := ltOf cfS) (x := (⟨name, owner⟩ : Sch)) ss
        have e1 : idx (sameS name) (ins (ltOf cfS) ⟨name, owner⟩ ss) = (m : Int) := by rw [em]; exact idx_mid hmm (by unfold sameS; simp) hn
        have e2 : cnt (ofS name) ts = 0 := cnt_zero fun t ht => by
          obtain ⟨s, hs, es⟩ := (hR.r t ht).s
          have := hn s hs
          unfold sameS at this
          unfold ofS
          rw [← es]; exact this
        have key : dropSchR (ins (ltOf cfS) ⟨name, owner⟩ ss) ts name = (0, ss, ts) := by
          unfold dropSchR
          rw [e1, if_pos (by omega), e2, if_neg (by decide), Int.toNat_natCast, em, erase_mid hmm]
        show chg (ins (ltOf cfS) ⟨name, owner⟩ ss) ts (dropSchR (ins (ltOf cfS) ⟨name, owner⟩ ss) ts name) = _
        rw [key, chg_go hr rfl]
  · cases h1
end Go.Proofs.YtmmiehckgkadgaaGreat.O
