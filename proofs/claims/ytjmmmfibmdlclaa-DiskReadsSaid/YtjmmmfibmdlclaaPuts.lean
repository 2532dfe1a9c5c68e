/- The rows of a slice of Puts that came in. No condition. -/
import Derived.Test.YtjmmmfibmdlclaaLawB
import Derived.Test.YtjmmmfibmdlclaaOp
set_option linter.unusedVariables false
set_option maxRecDepth 100000
namespace Go.Proofs.Ytjmmmfibmdlclaa
open Go Go.Sl Go.ChangeShapes Go.WideShapes Go.ChangeAt Go.RowKit

theorem puts_of (P : Program) (W : World) : ∀ (rows : List (List Value)), (∀ r ∈ rows, Parts [(fun cs => ∃ n, cs = [.int .i64 n] ∧ (Lit.int .i64 n).wf = true), (fun cs => ∃ n, cs = [.int .u8 n] ∧ (Lit.int .u8 n).wf = true), (fun cs => ∃ b, cs = [.bool b])] r ∧ r.length = 3) →
    ∃ l : List PutX, l.length = rows.length ∧ rows.flatten = l.flatMap putC
  | [], _ => ⟨[], rfl, rfl⟩
  | r :: rows, h => by
    obtain ⟨l, h1, h2⟩ := puts_of P W rows (fun x hx => h x (List.mem_cons_of_mem _ hx))
    obtain ⟨⟨_, r1, rfl, ⟨n, rfl, _⟩, _, r2, rfl, ⟨f, rfl, hf⟩, _, r3, rfl, ⟨s, rfl⟩, rfl⟩, _⟩ := h r (List.mem_cons_self ..)
    obtain ⟨b, hb⟩ := byteV_of hf
    exact ⟨⟨n, b, s⟩ :: l, by simp [h1], by simp [h2, putC, hb]⟩
end Go.Proofs.Ytjmmmfibmdlclaa
