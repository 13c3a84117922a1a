/- Own lemmas and walks (OK), without what the law does not need. Laid by a program of this session (prune.py). -/
import Derived.Test.YtmmiehckgkadgaaGreatProg
import Derived.OpenShut
import Derived.Test.YtmmiehckgkadgaaGreatPr1
namespace Go.Proofs.YtmmiehckgkadgaaGreat.O
set_option linter.unusedVariables false
set_option linter.unusedSimpArgs false
open Go.RowKit Go.Proofs.YtmmiehckgkadgaaGreatW.PrintWords
theorem infoCol : (Tryz.prog.info? 41).map (fun i => (i.zero, i.size, i.bytes)) = some (some (.agg #[(.string ⟨#[]⟩), (.int .i64 0), (.bool false)]), 3, 32) := by kernel_rfl
theorem infoRul : (Tryz.prog.info? 29).map (fun i => (i.zero, i.size, i.bytes)) = some (some (.agg #[(.string ⟨#[]⟩), (.int .i64 0), (.slice none 0 0), (.int .i64 0), (.int .i64 0), (.string ⟨#[]⟩), (.string ⟨#[]⟩), (.string ⟨#[]⟩)]), 8, 112) := by kernel_rfl
theorem infoTab : (Tryz.prog.info? 50).map (fun i => (i.zero, i.size, i.bytes)) = some (some (.agg #[(.string ⟨#[]⟩), (.string ⟨#[]⟩), (.string ⟨#[]⟩), (.slice none 0 0), (.slice none 0 0)]), 5, 96) := by kernel_rfl
theorem infoSch : (Tryz.prog.info? 76).map (fun i => (i.zero, i.size, i.bytes)) = some (some (.agg #[(.string ⟨#[]⟩), (.string ⟨#[]⟩)]), 2, 32) := by kernel_rfl
theorem infoStr : (Tryz.prog.info? 9).map (fun i => (i.zero, i.size, i.bytes)) = some (some (.string ⟨#[]⟩), 1, 16) := by kernel_rfl
structure Col where
  name : ByteArray
  kind : Int
  null : Bool
def zCol : Col := ⟨(⟨#[]⟩ : ByteArray), (0 : Int), false⟩
def kCol : Kd Col := Kd.iso (Kd.pair Kd.string (Kd.pair (Kd.int .i64) Kd.bool)) (fun x : Col => (x.name, x.kind, x.null))
theorem kCol_open {w : World} {x : Col} {cs : List Value} (h : kCol.K w x cs) : cs = [.string x.name, .int .i64 x.kind, .bool x.null] := by
  obtain ⟨_, _, rfl, rfl, ⟨_, _, rfl, rfl, rfl⟩⟩ := h
  exact rfl
theorem kCol_mk (w : World) (x : Col)  : kCol.K w x [.string x.name, .int .i64 x.kind, .bool x.null] := ⟨[.string x.name], [.int .i64 x.kind, .bool x.null], rfl, rfl, ⟨[.int .i64 x.kind], [.bool x.null], rfl, rfl, rfl⟩⟩
theorem kCol_mkM (w : World) (base : Nat) (ok : Nat → Prop) (x : Col)  : kCol.M w base ok x [.string x.name, .int .i64 x.kind, .bool x.null] := ⟨[.string x.name], [.int .i64 x.kind, .bool x.null], rfl, rfl, ⟨[.int .i64 x.kind], [.bool x.null], rfl, rfl, rfl⟩⟩
def rdCol (xs : List Col) (i : Int) : Col := xs.getD i.toNat zCol
theorem atCol {w : World} {A : Option Addr} {n : Nat} {xs : List Col} (h : Kd.C kCol w A n xs) (i : Int) (h0 : 0 ≤ i) (h1 : i < n) : ∃ ad , A = some ad ∧ w.cell? (ad.add (i.toNat * 3)) = some (.string (rdCol xs i).name) ∧ w.cell? ⟨(ad.add (i.toNat * 3)).block, (ad.add (i.toNat * 3)).off + 1, none⟩ = some (.int .i64 (rdCol xs i).kind) ∧ w.cell? ⟨(ad.add (i.toNat * 3)).block, (ad.add (i.toNat * 3)).off + 2, none⟩ = some (.bool (rdCol xs i).null) := by
  obtain ⟨ad, c, e, _, hK, hc0⟩ := Kd.C_get h zCol i h0 h1
  have hc : ∀ j u, c[j]? = some u → w.cell? (ad.add (i.toNat * 3 + j)) = some u := hc0
  obtain rfl := kCol_open hK
  exact ⟨ad, e, hc 0 _ rfl, by rw [← add_field _ _ 1 (by omega)]; exact hc 1 _ rfl, by rw [← add_field _ _ 2 (by omega)]; exact hc 2 _ rfl⟩
structure Rul where
  name : ByteArray
  kind : Int
  cols : (List ByteArray)
  low : Int
  high : Int
  schema : ByteArray
  table : ByteArray
  key : ByteArray
def zRul : Rul := ⟨(⟨#[]⟩ : ByteArray), (0 : Int), ([] : List ByteArray), (0 : Int), (0 : Int), (⟨#[]⟩ : ByteArray), (⟨#[]⟩ : ByteArray), (⟨#[]⟩ : ByteArray)⟩
def kRul : Kd Rul := Kd.iso (Kd.pair Kd.string (Kd.pair (Kd.int .i64) (Kd.pair (Kd.slice 9 Kd.string) (Kd.pair (Kd.int .i64) (Kd.pair (Kd.int .i64) (Kd.pair Kd.string (Kd.pair Kd.string Kd.string))))))) (fun x : Rul => (x.name, x.kind, x.cols, x.low, x.high, x.schema, x.table, x.key))
theorem kRul_open {w : World} {x : Rul} {cs : List Value} (h : kRul.K w x cs) : ∃ A2 c2, cs = [.string x.name, .int .i64 x.kind, .slice A2 x.cols.length c2, .int .i64 x.low, .int .i64 x.high, .string x.schema, .string x.table, .string x.key] ∧ x.cols.length ≤ c2 ∧ Kd.string.C w A2 x.cols.length x.cols := by
  obtain ⟨_, _, rfl, rfl, ⟨_, _, rfl, rfl, ⟨_, _, rfl, ⟨A2, c2, rfl, l2, g2⟩, ⟨_, _, rfl, rfl, ⟨_, _, rfl, rfl, ⟨_, _, rfl, rfl, ⟨_, _, rfl, rfl, rfl⟩⟩⟩⟩⟩⟩⟩ := h
  exact ⟨A2, c2, rfl, l2, g2⟩
theorem kRul_openM {w : World} {base : Nat} {ok : Nat → Prop} {x : Rul} {cs : List Value} (h : kRul.M w base ok x cs) : ∃ v2, cs = [.string x.name, .int .i64 x.kind, v2, .int .i64 x.low, .int .i64 x.high, .string x.schema, .string x.table, .string x.key] ∧ Kd.string.R 9 w base ok v2 x.cols := by
  obtain ⟨_, _, rfl, rfl, ⟨_, _, rfl, rfl, ⟨_, _, rfl, ⟨v2, rfl, g2⟩, ⟨_, _, rfl, rfl, ⟨_, _, rfl, rfl, ⟨_, _, rfl, rfl, ⟨_, _, rfl, rfl, rfl⟩⟩⟩⟩⟩⟩⟩ := h
  exact ⟨v2, rfl, g2⟩
theorem kRul_mk (w : World) (x : Rul) {A2 : Option Addr} {c2 : Nat} (l2 : x.cols.length ≤ c2) (g2 : Kd.string.C w A2 x.cols.length x.cols) : kRul.K w x [.string x.name, .int .i64 x.kind, .slice A2 x.cols.length c2, .int .i64 x.low, .int .i64 x.high, .string x.schema, .string x.table, .string x.key] := ⟨[.string x.name], [.int .i64 x.kind, .slice A2 x.cols.length c2, .int .i64 x.low, .int .i64 x.high, .string x.schema, .string x.table, .string x.key], rfl, rfl, ⟨[.int .i64 x.kind], [.slice A2 x.cols.length c2, .int .i64 x.low, .int .i64 x.high, .string x.schema, .string x.table, .string x.key], rfl, rfl, ⟨[.slice A2 x.cols.length c2], [.int .i64 x.low, .int .i64 x.high, .string x.schema, .string x.table, .string x.key], rfl, ⟨A2, c2, rfl, l2, g2⟩, ⟨[.int .i64 x.low], [.int .i64 x.high, .string x.schema, .string x.table, .string x.key], rfl, rfl, ⟨[.int .i64 x.high], [.string x.schema, .string x.table, .string x.key], rfl, rfl, ⟨[.string x.schema], [.string x.table, .string x.key], rfl, rfl, ⟨[.string x.table], [.string x.key], rfl, rfl, rfl⟩⟩⟩⟩⟩⟩⟩
theorem kRul_mkM (w : World) (base : Nat) (ok : Nat → Prop) (x : Rul) {v2 : Value} (g2 : Kd.string.R 9 w base ok v2 x.cols) : kRul.M w base ok x [.string x.name, .int .i64 x.kind, v2, .int .i64 x.low, .int .i64 x.high, .string x.schema, .string x.table, .string x.key] := ⟨[.string x.name], [.int .i64 x.kind, v2, .int .i64 x.low, .int .i64 x.high, .string x.schema, .string x.table, .string x.key], rfl, rfl, ⟨[.int .i64 x.kind], [v2, .int .i64 x.low, .int .i64 x.high, .string x.schema, .string x.table, .string x.key], rfl, rfl, ⟨[v2], [.int .i64 x.low, .int .i64 x.high, .string x.schema, .string x.table, .string x.key], rfl, ⟨v2, rfl, g2⟩, ⟨[.int .i64 x.low], [.int .i64 x.high, .string x.schema, .string x.table, .string x.key], rfl, rfl, ⟨[.int .i64 x.high], [.string x.schema, .string x.table, .string x.key], rfl, rfl, ⟨[.string x.schema], [.string x.table, .string x.key], rfl, rfl, ⟨[.string x.table], [.string x.key], rfl, rfl, rfl⟩⟩⟩⟩⟩⟩⟩
def rdRul (xs : List Rul) (i : Int) : Rul := xs.getD i.toNat zRul
theorem atRul {w : World} {A : Option Addr} {n : Nat} {xs : List Rul} (h : Kd.C kRul w A n xs) (i : Int) (h0 : 0 ≤ i) (h1 : i < n) : ∃ ad A2 c2, A = some ad ∧ w.cell? (ad.add (i.toNat * 8)) = some (.string (rdRul xs i).name) ∧ w.cell? ⟨(ad.add (i.toNat * 8)).block, (ad.add (i.toNat * 8)).off + 1, none⟩ = some (.int .i64 (rdRul xs i).kind) ∧ w.cell? ⟨(ad.add (i.toNat * 8)).block, (ad.add (i.toNat * 8)).off + 2, none⟩ = some (.slice A2 (rdRul xs i).cols.length c2) ∧ w.cell? ⟨(ad.add (i.toNat * 8)).block, (ad.add (i.toNat * 8)).off + 3, none⟩ = some (.int .i64 (rdRul xs i).low) ∧ w.cell? ⟨(ad.add (i.toNat * 8)).block, (ad.add (i.toNat * 8)).off + 4, none⟩ = some (.int .i64 (rdRul xs i).high) ∧ w.cell? ⟨(ad.add (i.toNat * 8)).block, (ad.add (i.toNat * 8)).off + 5, none⟩ = some (.string (rdRul xs i).schema) ∧ w.cell? ⟨(ad.add (i.toNat * 8)).block, (ad.add (i.toNat * 8)).off + 6, none⟩ = some (.string (rdRul xs i).table) ∧ w.cell? ⟨(ad.add (i.toNat * 8)).block, (ad.add (i.toNat * 8)).off + 7, none⟩ = some (.string (rdRul xs i).key) ∧ (rdRul xs i).cols.length ≤ c2 ∧ Kd.string.C w A2 (rdRul xs i).cols.length (rdRul xs i).cols := by
  obtain ⟨ad, c, e, _, hK, hc0⟩ := Kd.C_get h zRul i h0 h1
  have hc : ∀ j u, c[j]? = some u → w.cell? (ad.add (i.toNat * 8 + j)) = some u := hc0
  obtain ⟨A2, c2, rfl, l2, g2⟩ := kRul_open hK
  exact ⟨ad, A2, c2, e, hc 0 _ rfl, by rw [← add_field _ _ 1 (by omega)]; exact hc 1 _ rfl, by rw [← add_field _ _ 2 (by omega)]; exact hc 2 _ rfl, by rw [← add_field _ _ 3 (by omega)]; exact hc 3 _ rfl, by rw [← add_field _ _ 4 (by omega)]; exact hc 4 _ rfl, by rw [← add_field _ _ 5 (by omega)]; exact hc 5 _ rfl, by rw [← add_field _ _ 6 (by omega)]; exact hc 6 _ rfl, by rw [← add_field _ _ 7 (by omega)]; exact hc 7 _ rfl, l2, g2⟩
structure Tab where
  schema : ByteArray
  name : ByteArray
  owner : ByteArray
  cols : (List Col)
  rules : (List Rul)
def zTab : Tab := ⟨(⟨#[]⟩ : ByteArray), (⟨#[]⟩ : ByteArray), (⟨#[]⟩ : ByteArray), ([] : List Col), ([] : List Rul)⟩
def kTab : Kd Tab := Kd.iso (Kd.pair Kd.string (Kd.pair Kd.string (Kd.pair Kd.string (Kd.pair (Kd.slice 41 kCol) (Kd.slice 29 kRul))))) (fun x : Tab => (x.schema, x.name, x.owner, x.cols, x.rules))
theorem kTab_open {w : World} {x : Tab} {cs : List Value} (h : kTab.K w x cs) : ∃ A3 c3 A4 c4, cs = [.string x.schema, .string x.name, .string x.owner, .slice A3 x.cols.length c3, .slice A4 x.rules.length c4] ∧ x.cols.length ≤ c3 ∧ kCol.C w A3 x.cols.length x.cols ∧ x.rules.length ≤ c4 ∧ kRul.C w A4 x.rules.length x.rules := by
  obtain ⟨_, _, rfl, rfl, ⟨_, _, rfl, rfl, ⟨_, _, rfl, rfl, ⟨_, _, rfl, ⟨A3, c3, rfl, l3, g3⟩, ⟨A4, c4, rfl, l4, g4⟩⟩⟩⟩⟩ := h
  exact ⟨A3, c3, A4, c4, rfl, l3, g3, l4, g4⟩
theorem kTab_openM {w : World} {base : Nat} {ok : Nat → Prop} {x : Tab} {cs : List Value} (h : kTab.M w base ok x cs) : ∃ v3 v4, cs = [.string x.schema, .string x.name, .string x.owner, v3, v4] ∧ kCol.R 41 w base ok v3 x.cols ∧ kRul.R 29 w base ok v4 x.rules := by
  obtain ⟨_, _, rfl, rfl, ⟨_, _, rfl, rfl, ⟨_, _, rfl, rfl, ⟨_, _, rfl, ⟨v3, rfl, g3⟩, ⟨v4, rfl, g4⟩⟩⟩⟩⟩ := h
  exact ⟨v3, v4, rfl, g3, g4⟩
theorem kTab_mk (w : World) (x : Tab) {A3 : Option Addr} {c3 : Nat} (l3 : x.cols.length ≤ c3) (g3 : kCol.C w A3 x.cols.length x.cols) {A4 : Option Addr} {c4 : Nat} (l4 : x.rules.length ≤ c4) (g4 : kRul.C w A4 x.rules.length x.rules) : kTab.K w x [.string x.schema, .string x.name, .string x.owner, .slice A3 x.cols.length c3, .slice A4 x.rules.length c4] := ⟨[.string x.schema], [.string x.name, .string x.owner, .slice A3 x.cols.length c3, .slice A4 x.rules.length c4], rfl, rfl, ⟨[.string x.name], [.string x.owner, .slice A3 x.cols.length c3, .slice A4 x.rules.length c4], rfl, rfl, ⟨[.string x.owner], [.slice A3 x.cols.length c3, .slice A4 x.rules.length c4], rfl, rfl, ⟨[.slice A3 x.cols.length c3], [.slice A4 x.rules.length c4], rfl, ⟨A3, c3, rfl, l3, g3⟩, ⟨A4, c4, rfl, l4, g4⟩⟩⟩⟩⟩
theorem kTab_mkM (w : World) (base : Nat) (ok : Nat → Prop) (x : Tab) {v3 : Value} (g3 : kCol.R 41 w base ok v3 x.cols) {v4 : Value} (g4 : kRul.R 29 w base ok v4 x.rules) : kTab.M w base ok x [.string x.schema, .string x.name, .string x.owner, v3, v4] := ⟨[.string x.schema], [.string x.name, .string x.owner, v3, v4], rfl, rfl, ⟨[.string x.name], [.string x.owner, v3, v4], rfl, rfl, ⟨[.string x.owner], [v3, v4], rfl, rfl, ⟨[v3], [v4], rfl, ⟨v3, rfl, g3⟩, ⟨v4, rfl, g4⟩⟩⟩⟩⟩
def rdTab (xs : List Tab) (i : Int) : Tab := xs.getD i.toNat zTab
theorem atTab {w : World} {A : Option Addr} {n : Nat} {xs : List Tab} (h : Kd.C kTab w A n xs) (i : Int) (h0 : 0 ≤ i) (h1 : i < n) : ∃ ad A3 c3 A4 c4, A = some ad ∧ w.cell? (ad.add (i.toNat * 5)) = some (.string (rdTab xs i).schema) ∧ w.cell? ⟨(ad.add (i.toNat * 5)).block, (ad.add (i.toNat * 5)).off + 1, none⟩ = some (.string (rdTab xs i).name) ∧ w.cell? ⟨(ad.add (i.toNat * 5)).block, (ad.add (i.toNat * 5)).off + 2, none⟩ = some (.string (rdTab xs i).owner) ∧ w.cell? ⟨(ad.add (i.toNat * 5)).block, (ad.add (i.toNat * 5)).off + 3, none⟩ = some (.slice A3 (rdTab xs i).cols.length c3) ∧ w.cell? ⟨(ad.add (i.toNat * 5)).block, (ad.add (i.toNat * 5)).off + 4, none⟩ = some (.slice A4 (rdTab xs i).rules.length c4) ∧ (rdTab xs i).cols.length ≤ c3 ∧ kCol.C w A3 (rdTab xs i).cols.length (rdTab xs i).cols ∧ (rdTab xs i).rules.length ≤ c4 ∧ kRul.C w A4 (rdTab xs i).rules.length (rdTab xs i).rules := by
  obtain ⟨ad, c, e, _, hK, hc0⟩ := Kd.C_get h zTab i h0 h1
  have hc : ∀ j u, c[j]? = some u → w.cell? (ad.add (i.toNat * 5 + j)) = some u := hc0
  obtain ⟨A3, c3, A4, c4, rfl, l3, g3, l4, g4⟩ := kTab_open hK
  exact ⟨ad, A3, c3, A4, c4, e, hc 0 _ rfl, by rw [← add_field _ _ 1 (by omega)]; exact hc 1 _ rfl, by rw [← add_field _ _ 2 (by omega)]; exact hc 2 _ rfl, by rw [← add_field _ _ 3 (by omega)]; exact hc 3 _ rfl, by rw [← add_field _ _ 4 (by omega)]; exact hc 4 _ rfl, l3, g3, l4, g4⟩
structure Sch where
  name : ByteArray
  owner : ByteArray
def zSch : Sch := ⟨(⟨#[]⟩ : ByteArray), (⟨#[]⟩ : ByteArray)⟩
def kSch : Kd Sch := Kd.iso (Kd.pair Kd.string Kd.string) (fun x : Sch => (x.name, x.owner))
theorem kSch_open {w : World} {x : Sch} {cs : List Value} (h : kSch.K w x cs) : cs = [.string x.name, .string x.owner] := by
  obtain ⟨_, _, rfl, rfl, rfl⟩ := h
  exact rfl
theorem kSch_mk (w : World) (x : Sch)  : kSch.K w x [.string x.name, .string x.owner] := ⟨[.string x.name], [.string x.owner], rfl, rfl, rfl⟩
theorem kSch_mkM (w : World) (base : Nat) (ok : Nat → Prop) (x : Sch)  : kSch.M w base ok x [.string x.name, .string x.owner] := ⟨[.string x.name], [.string x.owner], rfl, rfl, rfl⟩
def rdSch (xs : List Sch) (i : Int) : Sch := xs.getD i.toNat zSch
theorem atSch {w : World} {A : Option Addr} {n : Nat} {xs : List Sch} (h : Kd.C kSch w A n xs) (i : Int) (h0 : 0 ≤ i) (h1 : i < n) : ∃ ad , A = some ad ∧ w.cell? (ad.add (i.toNat * 2)) = some (.string (rdSch xs i).name) ∧ w.cell? ⟨(ad.add (i.toNat * 2)).block, (ad.add (i.toNat * 2)).off + 1, none⟩ = some (.string (rdSch xs i).owner) := by
  obtain ⟨ad, c, e, _, hK, hc0⟩ := Kd.C_get h zSch i h0 h1
  have hc : ∀ j u, c[j]? = some u → w.cell? (ad.add (i.toNat * 2 + j)) = some u := hc0
  obtain rfl := kSch_open hK
  exact ⟨ad, e, hc 0 _ rfl, by rw [← add_field _ _ 1 (by omega)]; exact hc 1 _ rfl⟩
structure Objs where
  schemas : List Sch
  tables : List Tab
end Go.Proofs.YtmmiehckgkadgaaGreat.O
