/- Rows of structs in one list of cells. No condition. -/
import Derived.Test.YtepeljbgekgjcaaPlainA
set_option maxHeartbeats 8000000
set_option linter.unusedVariables false
set_option linter.unusedSimpArgs false
set_option maxRecDepth 100000
namespace Go.Proofs.Ytepeljbgekgjcaa
open Go Go.Sl
attribute [local irreducible] Go.Sl.Wl Go.Sl.Wc Go.Sl.thenQ Go.Sl.blkQ Go.Sl.loopQ Go.Sl.Fspec

theorem flatMap_row {α : Type} {f : α → List Value} {sz : Nat} : ∀ {l : List α} {j : Nat} {q : α}, (∀ x ∈ l, (f x).length = sz) → l[j]? = some q → ((l.flatMap f).drop (j * sz)).take sz = f q
  | x :: l, 0, q, h, hj => by
    simp at hj; subst hj
    rw [List.flatMap_cons, Nat.zero_mul, List.drop_zero, List.take_append_of_le_length (by rw [h x (List.mem_cons_self ..)]; omega), List.take_of_length_le (by rw [h x (List.mem_cons_self ..)]; omega)]
  | x :: l, j + 1, q, h, hj => by
    have hx := h x (List.mem_cons_self ..)
    have := flatMap_row (l := l) (j := j) (q := q) (fun y hy => h y (List.mem_cons_of_mem _ hy)) (by simpa using hj)
    rw [List.flatMap_cons, show (j + 1) * sz = (f x).length + j * sz by rw [hx, Nat.add_mul, Nat.one_mul]; omega, ← List.drop_drop, List.drop_left]
    exact this
theorem flatMap_cell {α : Type} {f : α → List Value} {sz : Nat} {l : List α} {j r : Nat} {q : α} {v : Value} (h : ∀ x ∈ l, (f x).length = sz) (hj : l[j]? = some q) (hr : r < sz) (hv : (f q)[r]? = some v) : (l.flatMap f)[j * sz + r]? = some v := by
  have h1 := flatMap_row h hj
  rw [← List.getElem?_drop, ← hv, ← h1, List.getElem?_take, if_pos hr]
end Go.Proofs.Ytepeljbgekgjcaa
