/- DiskKeeps returns true at every input and turns nothing that was there; no condition. -/
import Derived.Test.YtjmmmfibmdlclaaRows
import Derived.Test.YtjmmmfibmdlclaaKeeps
import Derived.Test.YtjmmmfibmdlclaaOp
set_option linter.unusedVariables false
set_option maxRecDepth 100000
namespace Go.Proofs.Ytjmmmfibmdlclaa
open Go Go.Sl Go.ChangeShapes Go.WideShapes Go.ChangeAt Go.RowKit

theorem own : ownKnob Try.prog.godebug = none := by kernel_rfl
theorem laidOut : laidOutB Try.prog = true := by kernel_rfl
theorem DiskKeeps_walk (W : World) (H : Type) (enc : TypeId × Value → H) (v0 : Value) (d0 : DataW H) (p0 : List MemPlace) (u0 : Value.okWide Try.prog W .any 0 24 v0) (h0 : DataW.Trod enc Try.prog W 0 (fun _ => true) true 24 v0 d0 p0) :
    Calls Try.prog 3 #[v0] W fun e W' => e = .returned (.bool true) ∧ Below W.heap.size W W' := by
  obtain ⟨c0, rfl, g0⟩ := arg_agg Try.underlying24 u0 h0 (opens_struct (tot := 4) Try.underlying24 (by kernel_rfl) (.cons (n := 1) rfl (by kernel_rfl) (opens_bytes Try.underlying22 (by kernel_rfl) Try.underlying5) (.cons (n := 1) rfl (by kernel_rfl) (opens_bytes Try.underlying22 (by kernel_rfl) Try.underlying5) (.cons (n := 1) rfl (by kernel_rfl) (opens_bytes Try.underlying22 (by kernel_rfl) Try.underlying5) (.cons (n := 1) rfl (by kernel_rfl) (opens_int Try.underlying3) .nil)))))
  clear u0 h0
  obtain ⟨x0, r0, rfl, ⟨oa, ma, ca, la, rfl, hma, ha⟩, x1, r1, rfl, ⟨ob, mb, cb', lb, rfl, hmb, hb⟩, x2, r2, rfl, ⟨oh, mh, ch, lh, rfl, hmh, hh⟩, x3, r3, rfl, ⟨i, rfl, hi⟩, rfl⟩ := g0
  exact (keeps_spec (baseOf W) oa ob oh ma ca mb cb' mh ch i la lb lh ha hma hb hmb hh hmh).below (fun _ _ h => h.1)
set_option maxRecDepth 100000 in
theorem DiskKeeps_lifted (os : Os) (started : os.Started) (H : Type) (enc : TypeId × Value → H) :
    ReturnsInHanded {} Try.checked os 3 .any (Rows.diskKeepsSpec.pre6 enc Try.prog Try.f3 Rows.diskKeepsRow.domain false) (Rows.diskKeepsSpec.post enc Try.prog Try.f3 false true false false) := by
  refine returnsInHanded_of_change (C := Try.checked) own started (by kernel_rfl) Try.func3
    (ChangeSpec.witness6 (enc := enc) (C := Try.checked) false ⟨#[], #[.agg #[.slice none 0 0, .slice none 0 0, .slice none 0 0, .int .i64 0]], []⟩ 8 (by kernel_rfl) (by kernel_rfl) (by kernel_rfl) (by kernel_rfl)) ?_
  intro W base args ds gs before hval0 hW hcnd _
  have hval : ∀ (j : Nat) t v, Try.f3.params[j]? = some t → args[j]? = some v → Value.okWide Try.prog W .any base t v := hval0
  have hW' := hW
  obtain ⟨p, q, hA0, hV, rfl, hfz, hnd⟩ := hW
  have hA : DataW.TrodAll enc Try.prog W 0 (fun _ => true) true Try.f3.params.toList args.toList ds p := hA0
  rw [Try.params3] at hA hval
  obtain ⟨v0, vs0, d0, ds0, p0, q0, hargs, rfl, rfl, h0, r0⟩ := trodAll_cons hA
  obtain ⟨rfl, rfl, rfl⟩ := trodAll_nil r0
  obtain rfl : args = #[v0] := by cases args; simp_all
  obtain ⟨rfl, rfl⟩ := trodVars_none hV
  have lt0 : ∀ x ∈ p0, x.block < W.heap.size := by obtain ⟨m, hm⟩ := h0; exact DataW.trod_lt m _ _ _ hm
  refine (DiskKeeps_walk W H enc v0 d0 p0 (okW (hval 0 24 v0 rfl rfl)) h0).mono fun e W' ⟨he, bel⟩ => ?_
  subst he
  exact ⟨_, rfl, _, _, _, [], _, [], hW', trodAll_mk1 (shut_bool Try.underlying4 _), (trodAll_cons_mk (Below.trod laidOut (by kernel_rfl) (of_decide_eq_true (by kernel_rfl)) h0 bel lt0) trodAll_mk0), rfl, bel.frame _, fun h => by cases h⟩
theorem DiskKeeps_over : Rows.diskKeepsRow.holds Try.pinned (OpenSpec.ofChange Rows.diskKeepsSpec) :=
  OpenClaim.holds_of_wide 3 Try.f3 rfl rfl rfl rfl rfl rfl rfl ⟨rfl, rfl, rfl, rfl, rfl⟩ rfl rfl rfl rfl rfl (by kernel_rfl) Try.func3 (by kernel_rfl)
    (of_decide_eq_true (by kernel_rfl)) (by unfold Func.isWrapper; first | (rw [if_pos (by decide +kernel)]; kernel_rfl) | (rw [if_neg (by decide +kernel)]; exact ⟨rfl, rfl⟩))
    (fun os started H enc _ => DiskKeeps_lifted os started H enc)
theorem DiskKeeps_proved : Rows.DiskKeepsSaid := DiskKeeps_over
#print axioms DiskKeeps_proved
end Go.Proofs.Ytjmmmfibmdlclaa
