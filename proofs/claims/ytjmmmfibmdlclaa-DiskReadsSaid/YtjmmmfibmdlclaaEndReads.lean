/- DiskReads returns true at every input and turns nothing that was there; no condition. -/
import Derived.Test.YtjmmmfibmdlclaaRows
import Derived.Test.YtjmmmfibmdlclaaReads
import Derived.Test.YtjmmmfibmdlclaaPuts
set_option linter.unusedVariables false
set_option maxRecDepth 100000
namespace Go.Proofs.Ytjmmmfibmdlclaa
open Go Go.Sl Go.ChangeShapes Go.WideShapes Go.ChangeAt Go.RowKit

theorem own : ownKnob Try.prog.godebug = none := by kernel_rfl
theorem laidOut : laidOutB Try.prog = true := by kernel_rfl
theorem DiskReads_walk (W : World) (H : Type) (enc : TypeId × Value → H) (v0 : Value) (d0 : DataW H) (p0 : List MemPlace) (u0 : Value.okWide Try.prog W .any 0 5 v0) (h0 : DataW.Trod enc Try.prog W 0 (fun _ => true) true 5 v0 d0 p0) (v1 : Value) (d1 : DataW H) (p1 : List MemPlace) (u1 : Value.okWide Try.prog W .any 0 38 v1) (h1 : DataW.Trod enc Try.prog W 0 (fun _ => true) true 38 v1 d1 p1) :
    Calls Try.prog 4 #[v0, v1] W fun e W' => e = .returned (.bool true) ∧ Below W.heap.size W W' := by
  obtain ⟨a0, rfl, g0⟩ := arg_int Try.underlying5 u0 h0
  have g1 := arg_slice Try.underlying38 u1 h1 (opens_slice (sz := 3) Try.underlying38 (by kernel_rfl) (opens_struct (tot := 3) Try.underlying41 (by kernel_rfl) (.cons (n := 1) rfl (by kernel_rfl) (opens_int Try.underlying3) (.cons (n := 1) rfl (by kernel_rfl) (opens_int Try.underlying5) (.cons (n := 1) rfl (by kernel_rfl) (opens_bool Try.underlying4) .nil)))))
  clear u0 h0 u1 h1
  obtain ⟨fz, hfz⟩ := byteV_of g0
  obtain ⟨a, m, c, h1, hm, rows, hlen, hrows, hrd⟩ := g1
  obtain rfl : v1 = .slice a m c := by simpa using h1
  obtain ⟨l, hl, hfl⟩ := puts_of Try.prog W rows hrows
  rw [hfl] at hrd
  rw [hfz]
  exact (reads_spec (baseOf W) fz a m c l (hl.trans hlen) hrd hm).below (fun _ _ h => h.1)
set_option maxRecDepth 100000 in
theorem DiskReads_lifted (os : Os) (started : os.Started) (H : Type) (enc : TypeId × Value → H) :
    ReturnsInHanded {} Try.checked os 4 .any (Rows.diskReadsSpec.pre6 enc Try.prog Try.f4 Rows.diskReadsRow.domain false) (Rows.diskReadsSpec.post enc Try.prog Try.f4 false true false false) := by
  refine returnsInHanded_of_change (C := Try.checked) own started (by kernel_rfl) Try.func4
    (ChangeSpec.witness6 (enc := enc) (C := Try.checked) false ⟨#[], #[.int .u8 0, .slice none 0 0], []⟩ 8 (by kernel_rfl) (by kernel_rfl) (by kernel_rfl) (by kernel_rfl)) ?_
  intro W base args ds gs before hval0 hW hcnd _
  have hval : ∀ (j : Nat) t v, Try.f4.params[j]? = some t → args[j]? = some v → Value.okWide Try.prog W .any base t v := hval0
  have hW' := hW
  obtain ⟨p, q, hA0, hV, rfl, hfz, hnd⟩ := hW
  have hA : DataW.TrodAll enc Try.prog W 0 (fun _ => true) true Try.f4.params.toList args.toList ds p := hA0
  rw [Try.params4] at hA hval
  obtain ⟨v0, vs0, d0, ds0, p0, q0, hargs, rfl, rfl, h0, r0⟩ := trodAll_cons hA
  obtain ⟨v1, vs1, d1, ds1, p1, q1, rfl, rfl, rfl, h1, r1⟩ := trodAll_cons r0
  obtain ⟨rfl, rfl, rfl⟩ := trodAll_nil r1
  obtain rfl : args = #[v0, v1] := by cases args; simp_all
  obtain ⟨rfl, rfl⟩ := trodVars_none hV
  have lt0 : ∀ x ∈ p0, x.block < W.heap.size := by obtain ⟨m, hm⟩ := h0; exact DataW.trod_lt m _ _ _ hm
  have lt1 : ∀ x ∈ p1, x.block < W.heap.size := by obtain ⟨m, hm⟩ := h1; exact DataW.trod_lt m _ _ _ hm
  refine (DiskReads_walk W H enc v0 d0 p0 (okW (hval 0 5 v0 rfl rfl)) h0 v1 d1 p1 (okW (hval 1 38 v1 rfl rfl)) h1).mono fun e W' ⟨he, bel⟩ => ?_
  subst he
  exact ⟨_, rfl, _, _, _, [], _, [], hW', trodAll_mk1 (shut_bool Try.underlying4 _), (trodAll_cons_mk (Below.trod laidOut (by kernel_rfl) (of_decide_eq_true (by kernel_rfl)) h0 bel lt0) (trodAll_cons_mk (Below.trod laidOut (by kernel_rfl) (of_decide_eq_true (by kernel_rfl)) h1 bel lt1) trodAll_mk0)), rfl, bel.frame _, fun h => by cases h⟩
theorem DiskReads_over : Rows.diskReadsRow.holds Try.pinned (OpenSpec.ofChange Rows.diskReadsSpec) :=
  OpenClaim.holds_of_wide 4 Try.f4 rfl rfl rfl rfl rfl rfl rfl ⟨rfl, rfl, rfl, rfl, rfl⟩ rfl rfl rfl rfl rfl (by kernel_rfl) Try.func4 (by kernel_rfl)
    (of_decide_eq_true (by kernel_rfl)) (by unfold Func.isWrapper; first | (rw [if_pos (by decide +kernel)]; kernel_rfl) | (rw [if_neg (by decide +kernel)]; exact ⟨rfl, rfl⟩))
    (fun os started H enc _ => DiskReads_lifted os started H enc)
theorem DiskReads_proved : Rows.DiskReadsSaid := DiskReads_over
#print axioms DiskReads_proved
end Go.Proofs.Ytjmmmfibmdlclaa
