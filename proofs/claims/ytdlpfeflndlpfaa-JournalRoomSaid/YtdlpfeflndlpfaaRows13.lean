/- The rows of a slice of slices of bytes that came in. No condition. -/
import Derived.Test.YtdlpfeflndlpfaaLaps13
import Derived.Test.YtdlpfeflndlpfaaOp
set_option linter.unusedVariables false
set_option maxRecDepth 100000
namespace Go.Proofs.Ytdlpfeflndlpfaa
open Go Go.Sl Go.ChangeShapes Go.WideShapes Go.ChangeAt Go.RowKit

theorem lbs_of {P : Program} {W : World} : ∀ (rows : List (List Value)), (∀ r ∈ rows, BytesR P W r ∧ r.length = 1) → ∃ l : List LB, l.length = rows.length ∧ rows.flatten = (l.map lbS).map slV ∧ ∀ x ∈ l, RdS P (baseOf W) [] 1 x.1 x.2.1 x.2.2.1 (x.2.2.2.map byteV) ∧ x.2.1 ≤ 140737488351232
  | [], _ => ⟨[], rfl, rfl, by simp⟩
  | r :: rows, h => by
    obtain ⟨l, h1, h2, h3⟩ := lbs_of rows (fun x hx => h x (List.mem_cons_of_mem _ hx))
    obtain ⟨⟨a, m, c, bs, rfl, hm, hr⟩, _⟩ := h r (List.mem_cons_self ..)
    refine ⟨(a, m, c, bs) :: l, by simp [h1], by simp [h2, lbS, slV], fun q hq => ?_⟩
    rcases List.mem_cons.1 hq with rfl | hq
    · exact ⟨hr, by have := hm.2; simp only; omega⟩
    · exact h3 q hq
theorem lbs_arg {P : Program} {W : World} {bt : Nat} {v : Value} (g : SlR P W 1 bt (BytesR P W) [v]) :
    ∃ a m c, ∃ l : List LB, v = .slice a m c ∧ m ≤ 9223372036854775807 ∧ l.length = m ∧ RdS P (baseOf W) [] 1 a m c ((l.map lbS).map slV) ∧ ∀ x ∈ l, RdS P (baseOf W) [] 1 x.1 x.2.1 x.2.2.1 (x.2.2.2.map byteV) ∧ x.2.1 ≤ 140737488351232 := by
  obtain ⟨a, m, c, h1, hm, rows, hlen, hrows, hrd⟩ := g
  obtain ⟨l, hl, hfl, hs⟩ := lbs_of rows hrows
  rw [hfl] at hrd
  exact ⟨a, m, c, l, by simpa using h1, hm.1, hl.trans hlen, hrd, hs⟩
end Go.Proofs.Ytdlpfeflndlpfaa
