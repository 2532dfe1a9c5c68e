/- DiskPlays returns true at every input and turns nothing that was there; no condition. -/
import Derived.Test.YtjmmmfibmdlclaaRows
import Derived.Test.YtjmmmfibmdlclaaPlays12
import Derived.Test.YtjmmmfibmdlclaaOp
set_option linter.unusedVariables false
set_option maxRecDepth 100000
namespace Go.Proofs.Ytjmmmfibmdlclaa
open Go Go.Sl Go.ChangeShapes Go.WideShapes Go.ChangeAt Go.RowKit

theorem ops_of (P : Program) (W : World) : ∀ (rows : List (List Value)), (∀ r ∈ rows, Parts [(fun cs => ∃ n, cs = [.int .i64 n] ∧ (Lit.int .i64 n).wf = true), (fun cs => ∃ n, cs = [.int .i64 n] ∧ (Lit.int .i64 n).wf = true), BytesR P W] r ∧ r.length = 3) →
    ∃ l : List OpX, l.length = rows.length ∧ rows.flatten = l.flatMap opC ∧ ∀ q ∈ l, q.ok P (baseOf W)
  | [], _ => ⟨[], rfl, rfl, by simp⟩
  | r :: rows, h => by
    obtain ⟨l, h1, h2, h3⟩ := ops_of P W rows (fun x hx => h x (List.mem_cons_of_mem _ hx))
    obtain ⟨⟨_, r1, rfl, ⟨n, rfl, _⟩, _, r2, rfl, ⟨i, rfl, hi⟩, _, r3, rfl, ⟨a, m, c, bs, rfl, hm, hr⟩, rfl⟩, _⟩ := h r (List.mem_cons_self ..)
    refine ⟨⟨n, i, a, m, c, bs⟩ :: l, by simp [h1], by simp [h2, opC], fun q hq => ?_⟩
    rcases List.mem_cons.1 hq with rfl | hq
    · exact ⟨wf_i64 hi, by have := hm.2; simp only; omega, hr⟩
    · exact h3 q hq

theorem own : ownKnob Try.prog.godebug = none := by kernel_rfl
theorem laidOut : laidOutB Try.prog = true := by kernel_rfl
theorem DiskPlays_walk (W : World) (H : Type) (enc : TypeId × Value → H) (v0 : Value) (d0 : DataW H) (p0 : List MemPlace) (u0 : Value.okWide Try.prog W .any 0 3 v0) (h0 : DataW.Trod enc Try.prog W 0 (fun _ => true) true 3 v0 d0 p0) (w0 : ∀ n ∈ d0.weights Try.prog 3, n ≤ reachBytes) (v1 : Value) (d1 : DataW H) (p1 : List MemPlace) (u1 : Value.okWide Try.prog W .any 0 48 v1) (h1 : DataW.Trod enc Try.prog W 0 (fun _ => true) true 48 v1 d1 p1) (w1 : ∀ n ∈ d1.weights Try.prog 48, n ≤ reachBytes) :
    Calls Try.prog 6 #[v0, v1] W fun e W' => e = .returned (.bool true) ∧ Below W.heap.size W W' := by
  obtain ⟨a0, rfl, g0⟩ := arg_int Try.underlying3 u0 h0
  have g1 := arg_slice Try.underlying48 u1 h1 w1 (opens_slice (sz := 3) (bt := 40) Try.underlying48 (by kernel_rfl) (by kernel_rfl) (opens_struct (tot := 3) Try.underlying52 (by kernel_rfl) (.cons (n := 1) rfl (by kernel_rfl) (opens_int Try.underlying3) (.cons (n := 1) rfl (by kernel_rfl) (opens_int Try.underlying3) (.cons (n := 1) rfl (by kernel_rfl) (opens_bytes Try.underlying22 (by kernel_rfl) (by kernel_rfl) Try.underlying5) .nil)))))
  clear u0 h0 w0 u1 h1 w1
  obtain ⟨a, m, c, h1, hm, rows, hlen, hrows, hrd⟩ := g1
  obtain rfl : v1 = .slice a m c := by simpa using h1
  obtain ⟨l, hl, hfl, hops⟩ := ops_of Try.prog W rows hrows
  rw [hfl] at hrd
  exact (plays12_spec (baseOf W) a0 a m c l (hl.trans hlen) hrd hm.1 hops).below (fun _ _ h => h.1)
set_option maxRecDepth 100000 in
theorem DiskPlays_lifted (os : Os) (started : os.Started) (H : Type) (enc : TypeId × Value → H) :
    ReturnsInHanded {} Try.checked os 6 .any (Rows.diskPlaysSpec.pre6 enc Try.prog Try.f6 Rows.diskPlaysRow.domain false) (Rows.diskPlaysSpec.post enc Try.prog Try.f6 false true false false) := by
  refine returnsInHanded_of_change_sized (C := Try.checked) own started (by kernel_rfl) Try.func6
    (ChangeSpec.witness6 (enc := enc) (C := Try.checked) false ⟨#[], #[.int .i64 0, .slice none 0 0], []⟩ 8 (by kernel_rfl) (by kernel_rfl) (by kernel_rfl) (by kernel_rfl)) ?_
  intro W base args ds gs before hval0 hW hcnd hsz _
  have hval : ∀ (j : Nat) t v, Try.f6.params[j]? = some t → args[j]? = some v → Value.okWide Try.prog W .any base t v := hval0
  have hW' := hW
  obtain ⟨p, q, hA0, hV, rfl, hfz, hnd⟩ := hW
  have hA : DataW.TrodAll enc Try.prog W 0 (fun _ => true) true Try.f6.params.toList args.toList ds p := hA0
  rw [Try.params6] at hA hval
  obtain ⟨v0, vs0, d0, ds0, p0, q0, hargs, rfl, rfl, h0, r0⟩ := trodAll_cons hA
  obtain ⟨v1, vs1, d1, ds1, p1, q1, rfl, rfl, rfl, h1, r1⟩ := trodAll_cons r0
  obtain ⟨rfl, rfl, rfl⟩ := trodAll_nil r1
  obtain rfl : args = #[v0, v1] := by cases args; simp_all
  obtain ⟨rfl, rfl⟩ := trodVars_none hV
  have lt0 : ∀ x ∈ p0, x.block < W.heap.size := by obtain ⟨m, hm⟩ := h0; exact DataW.trod_lt m _ _ _ hm
  have lt1 : ∀ x ∈ p1, x.block < W.heap.size := by obtain ⟨m, hm⟩ := h1; exact DataW.trod_lt m _ _ _ hm
  refine (DiskPlays_walk W H enc v0 d0 p0 (okW (hval 0 3 v0 rfl rfl)) h0 (fun n hn => by simpa using List.all_eq_true.1 hsz n (DataW.weights_mem_each (j := 0) (t := 3) rfl rfl n hn)) v1 d1 p1 (okW (hval 1 48 v1 rfl rfl)) h1 (fun n hn => by simpa using List.all_eq_true.1 hsz n (DataW.weights_mem_each (j := 1) (t := 48) rfl rfl n hn))).mono fun e W' ⟨he, bel⟩ => ?_
  subst he
  exact ⟨_, rfl, _, _, _, [], _, [], hW', trodAll_mk1 (shut_bool Try.underlying4 _), (trodAll_cons_mk (Below.trod laidOut (by kernel_rfl) (of_decide_eq_true (by kernel_rfl)) h0 bel lt0) (trodAll_cons_mk (Below.trod laidOut (by kernel_rfl) (of_decide_eq_true (by kernel_rfl)) h1 bel lt1) trodAll_mk0)), rfl, bel.frame _, fun h => by cases h⟩
theorem DiskPlays_over : Rows.diskPlaysRow.holds Try.pinned (OpenSpec.ofChange Rows.diskPlaysSpec) :=
  OpenClaim.holds_of_wide 6 Try.f6 rfl rfl rfl rfl rfl rfl rfl ⟨rfl, rfl, rfl, rfl, rfl⟩ rfl rfl rfl rfl rfl (by kernel_rfl) Try.func6 (by kernel_rfl)
    (of_decide_eq_true (by kernel_rfl)) (by unfold Func.isWrapper; first | (rw [if_pos (by decide +kernel)]; kernel_rfl) | (rw [if_neg (by decide +kernel)]; exact ⟨rfl, rfl⟩))
    (fun os started H enc _ => DiskPlays_lifted os started H enc)
theorem DiskPlays_proved : Rows.DiskPlaysSaid := DiskPlays_over
#print axioms DiskPlays_proved
end Go.Proofs.Ytjmmmfibmdlclaa
