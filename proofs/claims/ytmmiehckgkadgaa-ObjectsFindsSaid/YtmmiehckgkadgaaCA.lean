/- slices.Clone at texts, columns, rules, schemas. Printed by a program of this session (gen_clone.py). -/
import Derived.Test.YtmmiehckgkadgaaCZ
namespace Go.Proofs.Ytmmiehckgkadgaa.O
set_option linter.unusedVariables false
set_option linter.unusedSimpArgs false
open Go.RowKit Go.Proofs.YtmmiehckgkadgaaW.PrintWords

set_option maxRecDepth 20000 in
set_option maxHeartbeats 1000000 in
theorem cloneStr.raw {A0 : Option Addr} {c0 : Nat} (xs : List ByteArray) (w0 w : World) (hb0 : Below w0.heap.size w0 w) (hr : Kd.string.C w0 A0 xs.length xs) (hl : xs.length ≤ 8796093022207) :
    Calls Try.prog 101 #[.slice A0 xs.length c0] w fun e w' => ∃ v, e = .returned v ∧ CloneRes Kd.string 9 w0 w w' v xs ∧ Below w.heap.size w w' := by
  have HR := Aside0.mk hr
  have HL := Aside0.mk hl
  have HB0 := Aside0.mk hb0
  clear hr hl hb0
  cases A0 with
  | none =>
    have hx := nil_of_none HR.out
    subst hx
    have hn := Lib.run_eql_slice_nil (P := Try.prog) w 55 9 none 0 c0 0 0 Try.underlying55
    go_enter Try.func101, Try.ntmps101
    go_wp2
    go_ret
    exact ⟨_, rfl, CloneRes_nil _ _ _ _, Below.refl _ _⟩
  | some ad =>
    have hn := Lib.run_eql_slice_nil (P := Try.prog) w 55 9 (some ad) xs.length c0 0 0 Try.underlying55
    have HB := Aside0.mk (below_alloc (Below.refl w.heap.size w) (.cells #[] 9))
    obtain ⟨news, hnl, hnr0, hnf⟩ := Kd.reads_raw HR.out (fun x c hk => ⟨Kd.string.K_len hk, Kd.string.K_one hk⟩)
    have hnr := ReadsRow.imp_ hnr0 (below_step HB0.out HB.out) (fun _ _ h => h)
    clear hnr0
    have HN := Aside0.mk (And.intro hnl (And.intro hnr hnf))
    clear hnl hnr hnf
    go_enter Try.func101, Try.ntmps101
    go_wp2_with ((at_builtin; refine Kd.R_append_rows (Kd.raw Kd.string.sz) (w0 := w) w.heap.size rfl (.tmp 5) (.tmp 6) 55 9 (.string ⟨#[]⟩) 16 rfl Try.underlying55 infoStr rfl (by decide) (by decide) (.slice (some ⟨w.heap.size, 0, none⟩) 0 0) [] news (some ad) xs.length c0 (fun _ => True) (fun _ => False) rfl rfl (R_made0 _ _ _) HN.out.2.1 (fun _ _ hk => hk) (fun _ hk => hk.elim) (fun _ _ => trivial) HB.out (by simp) (by have := HL.out; simp; omega) ?_; intro v1 w1 hR1 hB1 _ _))
    go_ret
    exact ⟨_, rfl, ⟨news, HN.out.1, hR1, HN.out.2.2⟩, hB1⟩

set_option maxRecDepth 20000 in
set_option maxHeartbeats 1000000 in
theorem cloneCol.raw {A0 : Option Addr} {c0 : Nat} (xs : List Col) (w0 w : World) (hb0 : Below w0.heap.size w0 w) (hr : kCol.C w0 A0 xs.length xs) (hl : xs.length ≤ 4398046511103) :
    Calls Try.prog 99 #[.slice A0 xs.length c0] w fun e w' => ∃ v, e = .returned v ∧ CloneRes kCol 41 w0 w w' v xs ∧ Below w.heap.size w w' := by
  have HR := Aside0.mk hr
  have HL := Aside0.mk hl
  have HB0 := Aside0.mk hb0
  clear hr hl hb0
  cases A0 with
  | none =>
    have hx := nil_of_none HR.out
    subst hx
    have hn := Lib.run_eql_slice_nil (P := Try.prog) w 32 41 none 0 c0 0 0 Try.underlying32
    go_enter Try.func99, Try.ntmps99
    go_wp2
    go_ret
    exact ⟨_, rfl, CloneRes_nil _ _ _ _, Below.refl _ _⟩
  | some ad =>
    have hn := Lib.run_eql_slice_nil (P := Try.prog) w 32 41 (some ad) xs.length c0 0 0 Try.underlying32
    have HB := Aside0.mk (below_alloc (Below.refl w.heap.size w) (.cells #[] 41))
    obtain ⟨news, hnl, hnr0, hnf⟩ := Kd.reads_raw HR.out (fun x c hk => ⟨kCol.K_len hk, kCol.K_one hk⟩)
    have hnr := ReadsRow.imp_ hnr0 (below_step HB0.out HB.out) (fun _ _ h => h)
    clear hnr0
    have HN := Aside0.mk (And.intro hnl (And.intro hnr hnf))
    clear hnl hnr hnf
    go_enter Try.func99, Try.ntmps99
    go_wp2_with ((at_builtin; refine Kd.R_append_rows (Kd.raw kCol.sz) (w0 := w) w.heap.size rfl (.tmp 5) (.tmp 6) 32 41 (.agg #[(.string ⟨#[]⟩), (.int .i64 0), (.bool false)]) 32 rfl Try.underlying32 infoCol rfl (by decide) (by decide) (.slice (some ⟨w.heap.size, 0, none⟩) 0 0) [] news (some ad) xs.length c0 (fun _ => True) (fun _ => False) rfl rfl (R_made0 _ _ _) HN.out.2.1 (fun _ _ hk => hk) (fun _ hk => hk.elim) (fun _ _ => trivial) HB.out (by simp) (by have := HL.out; simp; omega) ?_; intro v1 w1 hR1 hB1 _ _))
    go_ret
    exact ⟨_, rfl, ⟨news, HN.out.1, hR1, HN.out.2.2⟩, hB1⟩

set_option maxRecDepth 20000 in
set_option maxHeartbeats 1000000 in
theorem cloneRul.raw {A0 : Option Addr} {c0 : Nat} (xs : List Rul) (w0 w : World) (hb0 : Below w0.heap.size w0 w) (hr : kRul.C w0 A0 xs.length xs) (hl : xs.length ≤ 1256584717457) :
    Calls Try.prog 100 #[.slice A0 xs.length c0] w fun e w' => ∃ v, e = .returned v ∧ CloneRes kRul 57 w0 w w' v xs ∧ Below w.heap.size w w' := by
  have HR := Aside0.mk hr
  have HL := Aside0.mk hl
  have HB0 := Aside0.mk hb0
  clear hr hl hb0
  cases A0 with
  | none =>
    have hx := nil_of_none HR.out
    subst hx
    have hn := Lib.run_eql_slice_nil (P := Try.prog) w 33 57 none 0 c0 0 0 Try.underlying33
    go_enter Try.func100, Try.ntmps100
    go_wp2
    go_ret
    exact ⟨_, rfl, CloneRes_nil _ _ _ _, Below.refl _ _⟩
  | some ad =>
    have hn := Lib.run_eql_slice_nil (P := Try.prog) w 33 57 (some ad) xs.length c0 0 0 Try.underlying33
    have HB := Aside0.mk (below_alloc (Below.refl w.heap.size w) (.cells #[] 57))
    obtain ⟨news, hnl, hnr0, hnf⟩ := Kd.reads_raw HR.out (fun x c hk => ⟨kRul.K_len hk, kRul.K_one hk⟩)
    have hnr := ReadsRow.imp_ hnr0 (below_step HB0.out HB.out) (fun _ _ h => h)
    clear hnr0
    have HN := Aside0.mk (And.intro hnl (And.intro hnr hnf))
    clear hnl hnr hnf
    go_enter Try.func100, Try.ntmps100
    go_wp2_with ((at_builtin; refine Kd.R_append_rows (Kd.raw kRul.sz) (w0 := w) w.heap.size rfl (.tmp 5) (.tmp 6) 33 57 (.agg #[(.string ⟨#[]⟩), (.int .i64 0), (.slice none 0 0), (.int .i64 0), (.int .i64 0), (.string ⟨#[]⟩), (.string ⟨#[]⟩), (.string ⟨#[]⟩)]) 112 rfl Try.underlying33 infoRul rfl (by decide) (by decide) (.slice (some ⟨w.heap.size, 0, none⟩) 0 0) [] news (some ad) xs.length c0 (fun _ => True) (fun _ => False) rfl rfl (R_made0 _ _ _) HN.out.2.1 (fun _ _ hk => hk) (fun _ hk => hk.elim) (fun _ _ => trivial) HB.out (by simp) (by have := HL.out; simp; omega) ?_; intro v1 w1 hR1 hB1 _ _))
    go_ret
    exact ⟨_, rfl, ⟨news, HN.out.1, hR1, HN.out.2.2⟩, hB1⟩

set_option maxRecDepth 20000 in
set_option maxHeartbeats 1000000 in
theorem cloneSch.raw {A0 : Option Addr} {c0 : Nat} (xs : List Sch) (w0 w : World) (hb0 : Below w0.heap.size w0 w) (hr : kSch.C w0 A0 xs.length xs) (hl : xs.length ≤ 4398046511103) :
    Calls Try.prog 121 #[.slice A0 xs.length c0] w fun e w' => ∃ v, e = .returned v ∧ CloneRes kSch 63 w0 w w' v xs ∧ Below w.heap.size w w' := by
  have HR := Aside0.mk hr
  have HL := Aside0.mk hl
  have HB0 := Aside0.mk hb0
  clear hr hl hb0
  cases A0 with
  | none =>
    have hx := nil_of_none HR.out
    subst hx
    have hn := Lib.run_eql_slice_nil (P := Try.prog) w 23 63 none 0 c0 0 0 Try.underlying23
    go_enter Try.func121, Try.ntmps121
    go_wp2
    go_ret
    exact ⟨_, rfl, CloneRes_nil _ _ _ _, Below.refl _ _⟩
  | some ad =>
    have hn := Lib.run_eql_slice_nil (P := Try.prog) w 23 63 (some ad) xs.length c0 0 0 Try.underlying23
    have HB := Aside0.mk (below_alloc (Below.refl w.heap.size w) (.cells #[] 63))
    obtain ⟨news, hnl, hnr0, hnf⟩ := Kd.reads_raw HR.out (fun x c hk => ⟨kSch.K_len hk, kSch.K_one hk⟩)
    have hnr := ReadsRow.imp_ hnr0 (below_step HB0.out HB.out) (fun _ _ h => h)
    clear hnr0
    have HN := Aside0.mk (And.intro hnl (And.intro hnr hnf))
    clear hnl hnr hnf
    go_enter Try.func121, Try.ntmps121
    go_wp2_with ((at_builtin; refine Kd.R_append_rows (Kd.raw kSch.sz) (w0 := w) w.heap.size rfl (.tmp 5) (.tmp 6) 23 63 (.agg #[(.string ⟨#[]⟩), (.string ⟨#[]⟩)]) 32 rfl Try.underlying23 infoSch rfl (by decide) (by decide) (.slice (some ⟨w.heap.size, 0, none⟩) 0 0) [] news (some ad) xs.length c0 (fun _ => True) (fun _ => False) rfl rfl (R_made0 _ _ _) HN.out.2.1 (fun _ _ hk => hk) (fun _ hk => hk.elim) (fun _ _ => trivial) HB.out (by simp) (by have := HL.out; simp; omega) ?_; intro v1 w1 hR1 hB1 _ _))
    go_ret
    exact ⟨_, rfl, ⟨news, HN.out.1, hR1, HN.out.2.2⟩, hB1⟩

end Go.Proofs.Ytmmiehckgkadgaa.O
