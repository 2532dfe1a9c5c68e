/- JournalLaps returns true at every input and turns nothing that was there; no condition. -/
import Derived.Test.YtdlpfeflndlpfaaRows
import Derived.Test.YtdlpfeflndlpfaaRows13
set_option linter.unusedVariables false
set_option maxRecDepth 100000
namespace Go.Proofs.Ytdlpfeflndlpfaa
open Go Go.Sl Go.ChangeShapes Go.WideShapes Go.ChangeAt Go.RowKit

theorem own : ownKnob Try.prog.godebug = none := by kernel_rfl
theorem laidOut : laidOutB Try.prog = true := by kernel_rfl
theorem JournalLaps_walk (W : World) (H : Type) (enc : TypeId × Value → H) (v0 : Value) (d0 : DataW H) (p0 : List MemPlace) (u0 : Value.okWide Try.prog W .any 0 58 v0) (h0 : DataW.Trod enc Try.prog W 0 (fun _ => true) true 58 v0 d0 p0) (w0 : ∀ n ∈ d0.weights Try.prog 58, n ≤ reachBytes) :
    Calls Try.prog 11 #[v0] W fun e W' => e = .returned (.bool true) ∧ Below W.heap.size W W' := by
  have g0 := arg_slice Try.underlying58 u0 h0 w0 (opens_slice (sz := 1) (bt := 24) Try.underlying58 (by kernel_rfl) (by kernel_rfl) (opens_bytes Try.underlying28 (by kernel_rfl) (by kernel_rfl) Try.underlying5))
  clear u0 h0 w0
  obtain ⟨a, m, c, l, rfl, hm, hl, h1, hb⟩ := lbs_arg g0
  exact (laps_spec (baseOf W) a m c l h1 hm hb).below (fun _ _ h => h.1)
set_option maxRecDepth 100000 in
theorem JournalLaps_lifted (os : Os) (started : os.Started) (H : Type) (enc : TypeId × Value → H) :
    ReturnsInHanded {} Try.checked os 11 .any (Rows.journalLapsSpec.pre6 enc Try.prog Try.f11 Rows.journalLapsRow.domain false) (Rows.journalLapsSpec.post enc Try.prog Try.f11 false true false false) := by
  refine returnsInHanded_of_change_sized (C := Try.checked) own started (by kernel_rfl) Try.func11
    (ChangeSpec.witness6 (enc := enc) (C := Try.checked) false ⟨#[], #[.slice none 0 0], []⟩ 8 (by kernel_rfl) (by kernel_rfl) (by kernel_rfl) (by kernel_rfl)) ?_
  intro W base args ds gs before hval0 hW hcnd hsz _
  have hval : ∀ (j : Nat) t v, Try.f11.params[j]? = some t → args[j]? = some v → Value.okWide Try.prog W .any base t v := hval0
  have hW' := hW
  obtain ⟨p, q, hA0, hV, rfl, hfz, hnd⟩ := hW
  have hA : DataW.TrodAll enc Try.prog W 0 (fun _ => true) true Try.f11.params.toList args.toList ds p := hA0
  rw [Try.params11] at hA hval
  obtain ⟨v0, vs0, d0, ds0, p0, q0, hargs, rfl, rfl, h0, r0⟩ := trodAll_cons hA
  obtain ⟨rfl, rfl, rfl⟩ := trodAll_nil r0
  obtain rfl : args = #[v0] := by cases args; simp_all
  obtain ⟨rfl, rfl⟩ := trodVars_none hV
  have lt0 : ∀ x ∈ p0, x.block < W.heap.size := by obtain ⟨m, hm⟩ := h0; exact DataW.trod_lt m _ _ _ hm
  refine (JournalLaps_walk W H enc v0 d0 p0 (okW (hval 0 58 v0 rfl rfl)) h0 (fun n hn => by simpa using List.all_eq_true.1 hsz n (DataW.weights_mem_each (j := 0) (t := 58) rfl rfl n hn))).mono fun e W' ⟨he, bel⟩ => ?_
  subst he
  exact ⟨_, rfl, _, _, _, [], _, [], hW', trodAll_mk1 (shut_bool Try.underlying4 _), (trodAll_cons_mk (Below.trod laidOut (by kernel_rfl) (of_decide_eq_true (by kernel_rfl)) h0 bel lt0) trodAll_mk0), rfl, bel.frame _, fun h => by cases h⟩
theorem JournalLaps_over : Rows.journalLapsRow.holds Try.pinned (OpenSpec.ofChange Rows.journalLapsSpec) :=
  OpenClaim.holds_of_wide 11 Try.f11 rfl rfl rfl rfl rfl rfl rfl ⟨rfl, rfl, rfl, rfl, rfl⟩ rfl rfl rfl rfl rfl (by kernel_rfl) Try.func11 (by kernel_rfl)
    (of_decide_eq_true (by kernel_rfl)) (by unfold Func.isWrapper; first | (rw [if_pos (by decide +kernel)]; kernel_rfl) | (rw [if_neg (by decide +kernel)]; exact ⟨rfl, rfl⟩))
    (fun os started H enc _ => JournalLaps_lifted os started H enc)
theorem JournalLaps_proved : Rows.JournalLapsSaid := JournalLaps_over
#print axioms JournalLaps_proved
end Go.Proofs.Ytdlpfeflndlpfaa
