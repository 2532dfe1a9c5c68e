/- The rows of a slice of texts that came in. No condition. -/
import Derived.Test.YtnoggejkkjngjaaOp
set_option linter.unusedVariables false
set_option maxRecDepth 100000
namespace Go.Proofs.Ytnoggejkkjngjaa
open Go Go.Sl Go.ChangeShapes Go.WideShapes Go.ChangeAt Go.RowKit

theorem strs_of : ∀ (rows : List (List Value)), (∀ r ∈ rows, (∃ s : ByteArray, r = [.string s] ∧ s.size ≤ 140737488351232) ∧ r.length = 1) → ∃ l : List ByteArray, l.length = rows.length ∧ rows.flatten = l.map Value.string ∧ ∀ s ∈ l, s.size ≤ 140737488351232
  | [], _ => ⟨[], rfl, rfl, by simp⟩
  | r :: rows, h => by
    obtain ⟨l, h1, h2, h3⟩ := strs_of rows (fun x hx => h x (List.mem_cons_of_mem _ hx))
    obtain ⟨⟨s, rfl, hs⟩, _⟩ := h r (List.mem_cons_self ..)
    refine ⟨s :: l, by simp [h1], by simp [h2], fun q hq => ?_⟩
    rcases List.mem_cons.1 hq with rfl | hq
    · exact hs
    · exact h3 q hq
theorem strs_arg {P : Program} {W : World} {bt : Nat} {v : Value} (g : SlR P W 1 bt (fun cs => ∃ s : ByteArray, cs = [.string s] ∧ s.size ≤ 140737488351232) [v]) :
    ∃ a m c, ∃ l : List ByteArray, v = .slice a m c ∧ m ≤ 9223372036854775807 ∧ m * bt ≤ 140737488351232 ∧ l.length = m ∧ RdS P (baseOf W) [] 1 a m c (l.map Value.string) ∧ ∀ s ∈ l, s.size ≤ 140737488351232 := by
  obtain ⟨a, m, c, h1, hm, rows, hlen, hrows, hrd⟩ := g
  obtain ⟨l, hl, hfl, hs⟩ := strs_of rows hrows
  rw [hfl] at hrd
  exact ⟨a, m, c, l, by simpa using h1, hm.1, hm.2, hl.trans hlen, hrd, hs⟩
end Go.Proofs.Ytnoggejkkjngjaa
