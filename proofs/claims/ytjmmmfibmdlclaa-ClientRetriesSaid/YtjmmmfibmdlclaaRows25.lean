/- The rows of a slice of events that came in; a Start that came in. No condition. -/
import Derived.Test.YtjmmmfibmdlclaaPlays25
import Derived.Test.YtjmmmfibmdlclaaOp
set_option linter.unusedVariables false
set_option maxRecDepth 100000
namespace Go.Proofs.Ytjmmmfibmdlclaa
open Go Go.Sl Go.ChangeShapes Go.WideShapes Go.ChangeAt Go.RowKit

abbrev pI : List Value → Prop := fun cs => ∃ n, cs = [.int .i64 n] ∧ (Lit.int .i64 n).wf = true
abbrev pB : List Value → Prop := fun cs => ∃ b, cs = [.bool b]
abbrev pS : List Value → Prop := fun cs => ∃ s : ByteArray, cs = [.string s] ∧ s.size ≤ 140737488351232
abbrev pPos : List Value → Prop := Parts [pI, pI]
abbrev pVal : List Value → Prop := Parts [pPos, pB, pS]
abbrev pAns : List Value → Prop := Parts [pI, pVal, pI, pI, pB]
theorem pos_of {cs : List Value} (h : pPos cs) : ∃ p : PX, cs = p.c := by
  obtain ⟨_, _, rfl, ⟨a, rfl, _⟩, _, _, rfl, ⟨b, rfl, _⟩, rfl⟩ := h
  exact ⟨⟨a, b⟩, rfl⟩
theorem val_of {cs : List Value} (h : pVal cs) : ∃ p : VX, cs = p.c := by
  obtain ⟨_, _, rfl, h1, _, _, rfl, ⟨b, rfl⟩, _, _, rfl, ⟨s, rfl, _⟩, rfl⟩ := h
  obtain ⟨p, rfl⟩ := pos_of h1
  exact ⟨⟨p.e, p.i, b, s⟩, rfl⟩
theorem ans_of {cs : List Value} (h : pAns cs) : ∃ p : AX, cs = p.c := by
  obtain ⟨_, _, rfl, ⟨k, rfl, _⟩, _, _, rfl, h1, _, _, rfl, ⟨a, rfl, _⟩, _, _, rfl, ⟨b, rfl, _⟩, _, _, rfl, ⟨g, rfl⟩, rfl⟩ := h
  obtain ⟨v, rfl⟩ := val_of h1
  exact ⟨⟨k, v, a, b, g⟩, rfl⟩
theorem ev_of {cs : List Value} (h : Parts [pI, pAns, pB, pB, pVal, pPos, pI] cs) : ∃ p : EX, cs = p.c := by
  obtain ⟨_, _, rfl, ⟨k, rfl, _⟩, _, _, rfl, h1, _, _, rfl, ⟨a, rfl⟩, _, _, rfl, ⟨b, rfl⟩, _, _, rfl, h2, _, _, rfl, h3, _, _, rfl, ⟨g, rfl, _⟩, rfl⟩ := h
  obtain ⟨v, rfl⟩ := ans_of h1
  obtain ⟨u, rfl⟩ := val_of h2
  obtain ⟨w, rfl⟩ := pos_of h3
  exact ⟨⟨k, v, a, b, u, w, g⟩, rfl⟩
theorem start_of {cs : List Value} (h : Parts [pI, pI, pI, pS, pS, pPos] cs) : ∃ p : SX, cs = p.c := by
  obtain ⟨_, _, rfl, ⟨k, rfl, _⟩, _, _, rfl, ⟨s, rfl, _⟩, _, _, rfl, ⟨r, rfl, _⟩, _, _, rfl, ⟨y, rfl, _⟩, _, _, rfl, ⟨t, rfl, _⟩, _, _, rfl, h1, rfl⟩ := h
  obtain ⟨w, rfl⟩ := pos_of h1
  exact ⟨⟨k, s, r, y, t, w⟩, rfl⟩
theorem evs_of : ∀ (rows : List (List Value)), (∀ r ∈ rows, Parts [pI, pAns, pB, pB, pVal, pPos, pI] r ∧ r.length = 18) → ∃ l : List EX, l.length = rows.length ∧ rows.flatten = l.flatMap EX.c
  | [], _ => ⟨[], rfl, rfl⟩
  | r :: rows, h => by
    obtain ⟨l, h1, h2⟩ := evs_of rows (fun x hx => h x (List.mem_cons_of_mem _ hx))
    obtain ⟨e, he⟩ := ev_of (h r (List.mem_cons_self ..)).1
    exact ⟨e :: l, by simp [h1], by simp [h2, he]⟩
end Go.Proofs.Ytjmmmfibmdlclaa
