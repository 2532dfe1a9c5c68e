/- ClientRetries returns true at every input and turns nothing that was there; no condition. -/
import Derived.Test.YtjmmmfibmdlclaaRows
import Derived.Test.YtjmmmfibmdlclaaTry25
import Derived.Test.YtjmmmfibmdlclaaRows25
set_option linter.unusedVariables false
set_option maxRecDepth 100000
namespace Go.Proofs.Ytjmmmfibmdlclaa
open Go Go.Sl Go.ChangeShapes Go.WideShapes Go.ChangeAt Go.RowKit

theorem own : ownKnob Try.prog.godebug = none := by kernel_rfl
theorem laidOut : laidOutB Try.prog = true := by kernel_rfl
theorem ClientRetries_walk (W : World) (H : Type) (enc : TypeId × Value → H) (v0 : Value) (d0 : DataW H) (p0 : List MemPlace) (u0 : Value.okWide Try.prog W .any 0 86 v0) (h0 : DataW.Trod enc Try.prog W 0 (fun _ => true) true 86 v0 d0 p0) (w0 : ∀ n ∈ d0.weights Try.prog 86, n ≤ reachBytes) :
    Calls Try.prog 8 #[v0] W fun e W' => e = .returned (.bool true) ∧ Below W.heap.size W W' := by
  obtain ⟨c0, rfl, g0⟩ := arg_agg Try.underlying86 u0 h0 w0 (opens_struct (tot := 5) Try.underlying86 (by kernel_rfl) (.cons (n := 1) rfl (by kernel_rfl) (opens_int Try.underlying5) (.cons (n := 1) rfl (by kernel_rfl) (opens_int Try.underlying5) (.cons (n := 1) rfl (by kernel_rfl) (opens_bool Try.underlying4) (.cons (n := 2) rfl (by kernel_rfl) (opens_struct (tot := 2) Try.underlying62 (by kernel_rfl) (.cons (n := 1) rfl (by kernel_rfl) (opens_int Try.underlying3) (.cons (n := 1) rfl (by kernel_rfl) (opens_int Try.underlying3) .nil))) .nil)))))
  clear u0 h0 w0
  obtain ⟨_, _, rfl, ⟨k, rfl, hk⟩, _, _, rfl, ⟨r, rfl, hr⟩, _, _, rfl, ⟨b, rfl⟩, _, _, rfl, h1, rfl⟩ := g0
  obtain ⟨f, rfl⟩ := pos_of h1
  obtain ⟨kb, hkb⟩ := byteV_of hk
  obtain ⟨rb, hrb⟩ := byteV_of hr
  rw [hkb, hrb]
  exact (tries25_spec (baseOf W) ⟨kb, rb, b, f⟩).below (fun _ _ h => h.1)
set_option maxRecDepth 100000 in
theorem ClientRetries_lifted (os : Os) (started : os.Started) (H : Type) (enc : TypeId × Value → H) :
    ReturnsInHanded {} Try.checked os 8 .any (Rows.clientRetriesSpec.pre6 enc Try.prog Try.f8 Rows.clientRetriesRow.domain false) (Rows.clientRetriesSpec.post enc Try.prog Try.f8 false true false false) := by
  refine returnsInHanded_of_change_sized (C := Try.checked) own started (by kernel_rfl) Try.func8
    (ChangeSpec.witness6 (enc := enc) (C := Try.checked) false ⟨#[], #[.agg #[.int .u8 0, .int .u8 0, .bool false, .int .i64 0, .int .i64 0]], []⟩ 8 (by kernel_rfl) (by kernel_rfl) (by kernel_rfl) (by kernel_rfl)) ?_
  intro W base args ds gs before hval0 hW hcnd hsz _
  have hval : ∀ (j : Nat) t v, Try.f8.params[j]? = some t → args[j]? = some v → Value.okWide Try.prog W .any base t v := hval0
  have hW' := hW
  obtain ⟨p, q, hA0, hV, rfl, hfz, hnd⟩ := hW
  have hA : DataW.TrodAll enc Try.prog W 0 (fun _ => true) true Try.f8.params.toList args.toList ds p := hA0
  rw [Try.params8] at hA hval
  obtain ⟨v0, vs0, d0, ds0, p0, q0, hargs, rfl, rfl, h0, r0⟩ := trodAll_cons hA
  obtain ⟨rfl, rfl, rfl⟩ := trodAll_nil r0
  obtain rfl : args = #[v0] := by cases args; simp_all
  obtain ⟨rfl, rfl⟩ := trodVars_none hV
  have lt0 : ∀ x ∈ p0, x.block < W.heap.size := by obtain ⟨m, hm⟩ := h0; exact DataW.trod_lt m _ _ _ hm
  refine (ClientRetries_walk W H enc v0 d0 p0 (okW (hval 0 86 v0 rfl rfl)) h0 (fun n hn => by simpa using List.all_eq_true.1 hsz n (DataW.weights_mem_each (j := 0) (t := 86) rfl rfl n hn))).mono fun e W' ⟨he, bel⟩ => ?_
  subst he
  exact ⟨_, rfl, _, _, _, [], _, [], hW', trodAll_mk1 (shut_bool Try.underlying4 _), (trodAll_cons_mk (Below.trod laidOut (by kernel_rfl) (of_decide_eq_true (by kernel_rfl)) h0 bel lt0) trodAll_mk0), rfl, bel.frame _, fun h => by cases h⟩
theorem ClientRetries_over : Rows.clientRetriesRow.holds Try.pinned (OpenSpec.ofChange Rows.clientRetriesSpec) :=
  OpenClaim.holds_of_wide 8 Try.f8 rfl rfl rfl rfl rfl rfl rfl ⟨rfl, rfl, rfl, rfl, rfl⟩ rfl rfl rfl rfl rfl (by kernel_rfl) Try.func8 (by kernel_rfl)
    (of_decide_eq_true (by kernel_rfl)) (by unfold Func.isWrapper; first | (rw [if_pos (by decide +kernel)]; kernel_rfl) | (rw [if_neg (by decide +kernel)]; exact ⟨rfl, rfl⟩))
    (fun os started H enc _ => ClientRetries_lifted os started H enc)
theorem ClientRetries_proved : Rows.ClientRetriesSaid := ClientRetries_over
#print axioms ClientRetries_proved
end Go.Proofs.Ytjmmmfibmdlclaa
