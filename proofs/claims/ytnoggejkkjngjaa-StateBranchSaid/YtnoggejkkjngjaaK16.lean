/- StateBranch returns true at every input and turns nothing that was there; no condition. -/
import Derived.Test.YtnoggejkkjngjaaK15
import Derived.Test.YtnoggejkkjngjaaRows
set_option linter.unusedVariables false
set_option maxRecDepth 100000
namespace Go.Proofs.Ytnoggejkkjngjaa
open Go Go.Sl Go.ChangeShapes Go.WideShapes Go.ChangeAt Go.RowKit

theorem own : ownKnob Try.prog.godebug = none := by kernel_rfl
theorem laidOut : laidOutB Try.prog = true := by kernel_rfl
theorem StateBranch_walk (W : World) (H : Type) (enc : TypeId × Value → H) (v0 : Value) (d0 : DataW H) (p0 : List MemPlace) (u0 : Value.okWide Try.prog W .any 0 49 v0) (h0 : DataW.Trod enc Try.prog W 0 (fun _ => true) true 49 v0 d0 p0) (w0 : ∀ n ∈ d0.weights Try.prog 49, n ≤ reachBytes) :
    Calls Try.prog 7 #[v0] W fun e W' => e = .returned (.bool true) ∧ Below W.heap.size W W' := by
  have g0 := arg_slice Try.underlying49 u0 h0 w0 (opens_slice (sz := 16) (bt := 176) Try.underlying49 (by kernel_rfl) (by kernel_rfl) (opens_struct (tot := 16) Try.underlying52 (by kernel_rfl) (.cons (n := 1) rfl (by kernel_rfl) (opens_int Try.underlying3) (.cons (n := 7) rfl (by kernel_rfl) (opens_struct (tot := 7) Try.underlying35 (by kernel_rfl) (.cons (n := 2) rfl (by kernel_rfl) (opens_struct (tot := 2) Try.underlying33 (by kernel_rfl) (.cons (n := 1) rfl (by kernel_rfl) (opens_int Try.underlying3) (.cons (n := 1) rfl (by kernel_rfl) (opens_int Try.underlying3) .nil))) (.cons (n := 1) rfl (by kernel_rfl) (opens_int Try.underlying3) (.cons (n := 1) rfl (by kernel_rfl) (opens_int Try.underlying3) (.cons (n := 1) rfl (by kernel_rfl) (opens_string Try.underlying9) (.cons (n := 1) rfl (by kernel_rfl) (opens_bool Try.underlying4) (.cons (n := 1) rfl (by kernel_rfl) (opens_string Try.underlying9) .nil))))))) (.cons (n := 3) rfl (by kernel_rfl) (opens_struct (tot := 3) Try.underlying29 (by kernel_rfl) (.cons (n := 1) rfl (by kernel_rfl) (opens_int Try.underlying3) (.cons (n := 1) rfl (by kernel_rfl) (opens_int Try.underlying3) (.cons (n := 1) rfl (by kernel_rfl) (opens_bool Try.underlying4) .nil)))) (.cons (n := 1) rfl (by kernel_rfl) (opens_int Try.underlying3) (.cons (n := 4) rfl (by kernel_rfl) (opens_struct (tot := 4) Try.underlying40 (by kernel_rfl) (.cons (n := 2) rfl (by kernel_rfl) (opens_struct (tot := 2) Try.underlying33 (by kernel_rfl) (.cons (n := 1) rfl (by kernel_rfl) (opens_int Try.underlying3) (.cons (n := 1) rfl (by kernel_rfl) (opens_int Try.underlying3) .nil))) (.cons (n := 1) rfl (by kernel_rfl) (opens_slice (sz := 5) (bt := 56) Try.underlying37 (by kernel_rfl) (by kernel_rfl) (opens_struct (tot := 5) Try.underlying67 (by kernel_rfl) (.cons (n := 1) rfl (by kernel_rfl) (opens_string Try.underlying9) (.cons (n := 4) rfl (by kernel_rfl) (opens_struct (tot := 4) Try.underlying46 (by kernel_rfl) (.cons (n := 2) rfl (by kernel_rfl) (opens_struct (tot := 2) Try.underlying33 (by kernel_rfl) (.cons (n := 1) rfl (by kernel_rfl) (opens_int Try.underlying3) (.cons (n := 1) rfl (by kernel_rfl) (opens_int Try.underlying3) .nil))) (.cons (n := 1) rfl (by kernel_rfl) (opens_bool Try.underlying4) (.cons (n := 1) rfl (by kernel_rfl) (opens_string Try.underlying9) .nil)))) .nil)))) (.cons (n := 1) rfl (by kernel_rfl) (opens_slice (sz := 4) (bt := 32) Try.underlying38 (by kernel_rfl) (by kernel_rfl) (opens_struct (tot := 4) Try.underlying69 (by kernel_rfl) (.cons (n := 1) rfl (by kernel_rfl) (opens_int Try.underlying3) (.cons (n := 1) rfl (by kernel_rfl) (opens_int Try.underlying3) (.cons (n := 2) rfl (by kernel_rfl) (opens_struct (tot := 2) Try.underlying33 (by kernel_rfl) (.cons (n := 1) rfl (by kernel_rfl) (opens_int Try.underlying3) (.cons (n := 1) rfl (by kernel_rfl) (opens_int Try.underlying3) .nil))) .nil))))) .nil)))) .nil)))))))
  clear u0 h0 w0
  obtain ⟨a, c, l, rfl, hm, hl, hrd⟩ := recs_arg g0
  exact (bra15_spec (B := baseOf W) l a c hm hl hrd).below (fun _ _ h => h.1)
set_option maxRecDepth 100000 in
theorem StateBranch_lifted (os : Os) (started : os.Started) (H : Type) (enc : TypeId × Value → H) :
    ReturnsInHanded {} Try.checked os 7 .any (Rows.stateBranchSpec.pre6 enc Try.prog Try.f7 Rows.stateBranchRow.domain false) (Rows.stateBranchSpec.post enc Try.prog Try.f7 false true false false) := by
  refine returnsInHanded_of_change_sized (C := Try.checked) own started (by kernel_rfl) Try.func7
    (ChangeSpec.witness6 (enc := enc) (C := Try.checked) false ⟨#[], #[.slice none 0 0], []⟩ 8 (by kernel_rfl) (by kernel_rfl) (by kernel_rfl) (by kernel_rfl)) ?_
  intro W base args ds gs before hval0 hW hcnd hsz _
  have hval : ∀ (j : Nat) t v, Try.f7.params[j]? = some t → args[j]? = some v → Value.okWide Try.prog W .any base t v := hval0
  have hW' := hW
  obtain ⟨p, q, hA0, hV, rfl, hfz, hnd⟩ := hW
  have hA : DataW.TrodAll enc Try.prog W 0 (fun _ => true) true Try.f7.params.toList args.toList ds p := hA0
  rw [Try.params7] at hA hval
  obtain ⟨v0, vs0, d0, ds0, p0, q0, hargs, rfl, rfl, h0, r0⟩ := trodAll_cons hA
  obtain ⟨rfl, rfl, rfl⟩ := trodAll_nil r0
  obtain rfl : args = #[v0] := by cases args; simp_all
  obtain ⟨rfl, rfl⟩ := trodVars_none hV
  have lt0 : ∀ x ∈ p0, x.block < W.heap.size := by obtain ⟨m, hm⟩ := h0; exact DataW.trod_lt m _ _ _ hm
  refine (StateBranch_walk W H enc v0 d0 p0 (okW (hval 0 49 v0 rfl rfl)) h0 (fun n hn => by simpa using List.all_eq_true.1 hsz n (DataW.weights_mem_each (j := 0) (t := 49) rfl rfl n hn))).mono fun e W' ⟨he, bel⟩ => ?_
  subst he
  exact ⟨_, rfl, _, _, _, [], _, [], hW', trodAll_mk1 (shut_bool Try.underlying4 _), (trodAll_cons_mk (Below.trod laidOut (by kernel_rfl) (of_decide_eq_true (by kernel_rfl)) h0 bel lt0) trodAll_mk0), rfl, bel.frame _, fun h => by cases h⟩
theorem StateBranch_over : Rows.stateBranchRow.holds Try.pinned (OpenSpec.ofChange Rows.stateBranchSpec) :=
  OpenClaim.holds_of_wide 7 Try.f7 rfl rfl rfl rfl rfl rfl rfl ⟨rfl, rfl, rfl, rfl, rfl⟩ rfl rfl rfl rfl rfl (by kernel_rfl) Try.func7 (by kernel_rfl)
    (of_decide_eq_true (by kernel_rfl)) (by unfold Func.isWrapper; first | (rw [if_pos (by decide +kernel)]; kernel_rfl) | (rw [if_neg (by decide +kernel)]; exact ⟨rfl, rfl⟩))
    (fun os started H enc _ => StateBranch_lifted os started H enc)
theorem StateBranch_proved : Rows.StateBranchSaid := StateBranch_over
#print axioms StateBranch_proved
end Go.Proofs.Ytnoggejkkjngjaa
