/- Own lemmas and walks (TE, TF, TH), without what the law does not need. Laid by a program of this session (prune.py). -/
import Derived.Test.YtmmiehckgkadgaaGreatPr12
import Derived.Test.YtmmiehckgkadgaaGreatPr19
namespace Go.Proofs.YtmmiehckgkadgaaGreat.O
set_option linter.unusedVariables false
set_option linter.unusedSimpArgs false
open Go.RowKit Go.Proofs.YtmmiehckgkadgaaGreatW.PrintWords
def foreignTo (schema table : ByteArray) (r : Rul) : Bool := (r.kind == 4) && ((r.schema.toList == schema.toList) && (r.table.toList == table.toList))
def namesR (schema table key : ByteArray) (r : Rul) : Bool := foreignTo schema table r && (key.toList.isEmpty || (r.key.toList == key.toList))
end Go.Proofs.YtmmiehckgkadgaaGreat.O
namespace Go.Proofs.YtmmiehckgkadgaaGreat.O
set_option linter.unusedVariables false
set_option linter.unusedSimpArgs false
open Go.RowKit Go.Proofs.YtmmiehckgkadgaaGreatW.PrintWords
def foreignAny (schema table : ByteArray) (t : Tab) : Bool := t.rules.any (namesR schema table ⟨#[]⟩)
def dropTabR (ss : List Sch) (ts : List Tab) (schema table : ByteArray) : Res := if 0 ≤ idx (isT schema table) ts then (if (ts.eraseIdx (idx (isT schema table) ts).toNat).any (foreignAny schema table) = true then (62, [], []) else (0, ss, ts.eraseIdx (idx (isT schema table) ts).toNat)) else (61, [], [])
def dropTable (ss : List Sch) (ts : List Tab) (schema table : ByteArray) : Res := chg ss ts (dropTabR ss ts schema table)
def kept (ts : List Tab) (k j : Nat) : List Tab := (ts.take j).eraseIdx k
end Go.Proofs.YtmmiehckgkadgaaGreat.O
namespace Go.Proofs.YtmmiehckgkadgaaGreat.O
set_option linter.unusedVariables false
set_option linter.unusedSimpArgs false
open Go.RowKit Go.Proofs.YtmmiehckgkadgaaGreatW.PrintWords Go.Sort
set_option maxHeartbeats 400000 in
theorem foreign.calls {As At : Option Addr} {n m cs ct : Nat} (schema table : ByteArray) (w : World) :
    Calls Tryz.prog 43 #[.agg #[.slice As n cs, .slice At m ct], .string schema, .string table] w fun e w' => e = .returned (.func (.func 93) #[] #[.pointer (some ⟨w.heap.size, 0, none⟩), .pointer (some ⟨w.heap.size + 1, 0, none⟩), .pointer (some ⟨w.heap.size + 1 + 1, 0, none⟩)]) ∧ w' = (((w.alloc (.cells #[.slice As n cs, .slice At m ct] 25)).alloc (.cells #[.string schema] 9)).alloc (.cells #[.string table] 9)) := by
  go_enter Tryz.func43, Tryz.ntmps43
  go_wp2
  go_ret
  exact ⟨rfl, rfl⟩
theorem foreignTo_names (schema table : ByteArray) (r : Rul) : namesR schema table ⟨#[]⟩ r = foreignTo schema table r := by
  unfold namesR
  rw [show (⟨#[]⟩ : ByteArray).toList.isEmpty = true by rw [Lib.toList_data]; rfl, Bool.true_or, Bool.and_true]
theorem foreignAny_any (schema table : ByteArray) (t : Tab) : foreignAny schema table t = t.rules.any (foreignTo schema table) := by
  unfold foreignAny
  congr 1
  funext r
  exact foreignTo_names schema table r
def dropTabP (ss : List Sch) (ts : List Tab) (schema table : ByteArray) : Res := if 0 ≤ idx (isT schema table) ts then (if ts.any (fun t => !isT schema table t && t.rules.any (foreignTo schema table)) = true then (62, [], []) else (0, ss, ts.eraseIdx (idx (isT schema table) ts).toNat)) else (61, [], [])
theorem tabs_alone {ss : List Sch} {ts : List Tab} {schema table : ByteArray} {k : Nat} (h : checkB ss ts = true) (hk : k < ts.length) (hp : isT schema table ts[k] = true) (j : Nat) (hj : j < ts.length) (hne : j ≠ k) : isT schema table ts[j] = false := by
  cases hq : isT schema table ts[j] with
  | false => rfl
  | true =>
    exfalso
    have hw := List.pairwise_iff_getElem.1 (tabs_rise h)
    have e1 := (isT_iff schema table ts[k]).1 hp
    have e2 := (isT_iff schema table ts[j]).1 hq
    have key : ∀ x y : Tab, x.schema = y.schema → x.name = y.name → ltOf orderT x y = true → False := fun x y a b c => by
      have c2 := of_decide_eq_true c
      rw [orderT_lt, a, b] at c2
      rcases c2 with c2 | ⟨_, c2⟩
      · exact List.lt_irrefl _ c2
      · exact List.lt_irrefl _ c2
    rcases Nat.lt_or_gt_of_ne hne with hl | hl
    · exact key _ _ (e2.1.trans e1.1.symm) (e2.2.trans e1.2.symm) (hw j k hj hk hl)
    · exact key _ _ (e1.1.trans e2.1.symm) (e1.2.trans e2.2.symm) (hw k j hk hj hl)
theorem dropTab_eq {ss : List Sch} {ts : List Tab} {schema table : ByteArray} (h : checkB ss ts = true) : dropTabP ss ts schema table = dropTabR ss ts schema table := by
  unfold dropTabP dropTabR
  rcases idx_cases (isT schema table) ts with ⟨k, hk, e, y1, _⟩ | ⟨e, _⟩
  · rw [e, Int.toNat_natCast]
    have ha : ts.any (fun t => !isT schema table t && t.rules.any (foreignTo schema table)) = (ts.eraseIdx k).any (foreignAny schema table) := by
      rw [Bool.eq_iff_iff, List.any_eq_true, List.any_eq_true]
      constructor
      · rintro ⟨x, hx, hp⟩
        rw [Bool.and_eq_true, Bool.not_eq_true'] at hp
        obtain ⟨j, hj, rfl⟩ := List.getElem_of_mem hx
        refine ⟨ts[j], List.mem_eraseIdx_iff_getElem.2 ⟨j, hj, fun e => ?_, rfl⟩, by rw [foreignAny_any]; exact hp.2⟩
        subst e
        rw [y1] at hp
        cases hp.1
      · rintro ⟨x, hx, hp⟩
        obtain ⟨j, hj, hne, rfl⟩ := List.mem_eraseIdx_iff_getElem.1 hx
        exact ⟨ts[j], List.getElem_mem hj, by rw [tabs_alone h hk y1 j hj hne]; rw [foreignAny_any] at hp; rw [hp]; rfl⟩
    rw [ha]
  · rw [e]; rfl
end Go.Proofs.YtmmiehckgkadgaaGreat.O
