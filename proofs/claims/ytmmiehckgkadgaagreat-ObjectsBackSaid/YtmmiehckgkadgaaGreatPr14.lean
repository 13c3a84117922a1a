/- Own lemmas and walks (UR), without what the law does not need. Laid by a program of this session (prune.py). -/
import Derived.Test.YtmmiehckgkadgaaGreatPr2
namespace Go.Proofs.YtmmiehckgkadgaaGreat.O
structure RulP where
  r : Rul
  A2 : Option Addr
  c2 : Nat
def encR (p : RulP) : List Value := [.string p.r.name, .int .i64 p.r.kind, .slice p.A2 p.r.cols.length p.c2, .int .i64 p.r.low, .int .i64 p.r.high, .string p.r.schema, .string p.r.table, .string p.r.key]
end Go.Proofs.YtmmiehckgkadgaaGreat.O
