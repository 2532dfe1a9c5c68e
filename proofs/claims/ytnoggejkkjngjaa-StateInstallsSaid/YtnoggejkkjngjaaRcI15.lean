/- Layer 15: records that came in. No condition. -/
import Derived.Test.YtnoggejkkjngjaaAwakeG
set_option maxHeartbeats 8000000
set_option linter.unusedVariables false
set_option linter.unusedSimpArgs false
set_option maxRecDepth 100000
namespace Go.Proofs.Ytnoggejkkjngjaa
open Go Go.Sl
attribute [local irreducible] Go.Sl.Wl Go.Sl.Wc Go.Sl.thenQ Go.Sl.blkQ Go.Sl.loopQ Go.Sl.Fspec

/-- A record that came in, and where its rows are. -/
structure RI where
  r : RcG
  pa : Option Addr
  pc : Nat
  sa : Option Addr
  sc : Nat
def RI.c (x : RI) : List Value := x.r.c x.pa x.pc x.sa x.sc
structure RI.ok (B : Base) (x : RI) : Prop where
  h1 : RdS Try.prog B [] 5 x.pa x.r.sn.ps.length x.pc (prC x.r.sn.ps)
  h2 : RdS Try.prog B [] 4 x.sa x.r.sn.ss.length x.sc (ssC x.r.sn.ss)
  xo : x.r.x.ok
  xi : rg x.r.x.i
  se : rg x.r.sn.e
  pl : x.r.sn.ps.length ≤ 9223372036854775807
  sl : x.r.sn.ss.length ≤ 9223372036854775807
  pr : ∀ y ∈ x.r.sn.ps, rg y.v.a
  sr : ∀ y ∈ x.r.sn.ss, rg y.e
theorem RI.ok.light {B : Base} {x : RI} (h : x.ok B) (hl : lightV x.r = true) : x.r.ok := by
  obtain ⟨l1, l2, _⟩ := light_out hl
  exact ⟨h.xo, h.xi, h.se, by omega, l2, h.pr, h.sr⟩
def recsC (l : List RI) : List Value := l.flatMap RI.c
theorem recsC_row {l : List RI} {k : Nat} {x : RI} (h : l[k]? = some x) : ((recsC l).drop (k * 16)).take 16 = x.c := flatMap_row (fun _ _ => rfl) h
/-- The states that records lead to. -/
def goL (S : G15) : List RI → Nat → G15
  | _, 0 => S
  | [], _ + 1 => S
  | x :: l, k + 1 => goL (gapplyV S x.r) l k
end Go.Proofs.Ytnoggejkkjngjaa
