/- SortedPlays returns true at every input and turns nothing that was there; no condition. -/
import Derived.Test.YtdlpfeflndlpfaaRows
import Derived.Test.YtdlpfeflndlpfaaPlays05
import Derived.Test.YtdlpfeflndlpfaaOp
set_option linter.unusedVariables false
set_option maxRecDepth 100000
namespace Go.Proofs.Ytdlpfeflndlpfaa
open Go Go.Sl Go.ChangeShapes Go.WideShapes Go.ChangeAt Go.RowKit

theorem ops_of (P : Program) (W : World) : ∀ (rows : List (List Value)), (∀ r ∈ rows, Parts [(fun cs => ∃ n, cs = [.int .i64 n] ∧ (Lit.int .i64 n).wf = true), (fun cs => ∃ s : ByteArray, cs = [.string s] ∧ s.size ≤ 140737488351232), (fun cs => ∃ n, cs = [.int .i64 n] ∧ (Lit.int .i64 n).wf = true)] r ∧ r.length = 3) →
    ∃ l : List OpP, l.length = rows.length ∧ rows.flatten = l.flatMap opP
  | [], _ => ⟨[], rfl, rfl⟩
  | r :: rows, h => by
    obtain ⟨l, h1, h2⟩ := ops_of P W rows (fun x hx => h x (List.mem_cons_of_mem _ hx))
    obtain ⟨⟨_, r1, rfl, ⟨n, rfl, _⟩, _, r2, rfl, ⟨i, rfl, hi⟩, _, r3, rfl, ⟨b, rfl, _⟩, rfl⟩, _⟩ := h r (List.mem_cons_self ..)
    exact ⟨(n, i, b) :: l, by simp [h1], by simp [h2, opP]⟩

theorem own : ownKnob Try.prog.godebug = none := by kernel_rfl
theorem laidOut : laidOutB Try.prog = true := by kernel_rfl
theorem SortedPlays_walk (W : World) (H : Type) (enc : TypeId × Value → H) (v0 : Value) (d0 : DataW H) (p0 : List MemPlace) (u0 : Value.okWide Try.prog W .any 0 36 v0) (h0 : DataW.Trod enc Try.prog W 0 (fun _ => true) true 36 v0 d0 p0) (w0 : ∀ n ∈ d0.weights Try.prog 36, n ≤ reachBytes) :
    Calls Try.prog 5 #[v0] W fun e W' => e = .returned (.bool true) ∧ Below W.heap.size W W' := by
  have g0 := arg_slice Try.underlying36 u0 h0 w0 (opens_slice (sz := 3) (bt := 32) Try.underlying36 (by kernel_rfl) (by kernel_rfl) (opens_struct (tot := 3) Try.underlying42 (by kernel_rfl) (.cons (n := 1) rfl (by kernel_rfl) (opens_int Try.underlying3) (.cons (n := 1) rfl (by kernel_rfl) (opens_string Try.underlying9) (.cons (n := 1) rfl (by kernel_rfl) (opens_int Try.underlying3) .nil)))))
  clear u0 h0 w0
  obtain ⟨a, m, c, h1, hm, rows, hlen, hrows, hrd⟩ := g0
  obtain rfl : v0 = .slice a m c := by simpa using h1
  obtain ⟨l, hl, hfl⟩ := ops_of Try.prog W rows hrows
  rw [hfl] at hrd
  exact (plays_spec (baseOf W) a m c l hrd (hl.trans hlen) hm.1).below (fun _ _ h => h.1)
set_option maxRecDepth 100000 in
theorem SortedPlays_lifted (os : Os) (started : os.Started) (H : Type) (enc : TypeId × Value → H) :
    ReturnsInHanded {} Try.checked os 5 .any (Rows.sortedPlaysSpec.pre6 enc Try.prog Try.f5 Rows.sortedPlaysRow.domain false) (Rows.sortedPlaysSpec.post enc Try.prog Try.f5 false true false false) := by
  refine returnsInHanded_of_change_sized (C := Try.checked) own started (by kernel_rfl) Try.func5
    (ChangeSpec.witness6 (enc := enc) (C := Try.checked) false ⟨#[], #[.slice none 0 0], []⟩ 8 (by kernel_rfl) (by kernel_rfl) (by kernel_rfl) (by kernel_rfl)) ?_
  intro W base args ds gs before hval0 hW hcnd hsz _
  have hval : ∀ (j : Nat) t v, Try.f5.params[j]? = some t → args[j]? = some v → Value.okWide Try.prog W .any base t v := hval0
  have hW' := hW
  obtain ⟨p, q, hA0, hV, rfl, hfz, hnd⟩ := hW
  have hA : DataW.TrodAll enc Try.prog W 0 (fun _ => true) true Try.f5.params.toList args.toList ds p := hA0
  rw [Try.params5] at hA hval
  obtain ⟨v0, vs0, d0, ds0, p0, q0, hargs, rfl, rfl, h0, r0⟩ := trodAll_cons hA
  obtain ⟨rfl, rfl, rfl⟩ := trodAll_nil r0
  obtain rfl : args = #[v0] := by cases args; simp_all
  obtain ⟨rfl, rfl⟩ := trodVars_none hV
  have lt0 : ∀ x ∈ p0, x.block < W.heap.size := by obtain ⟨m, hm⟩ := h0; exact DataW.trod_lt m _ _ _ hm
  refine (SortedPlays_walk W H enc v0 d0 p0 (okW (hval 0 36 v0 rfl rfl)) h0 (fun n hn => by simpa using List.all_eq_true.1 hsz n (DataW.weights_mem_each (j := 0) (t := 36) rfl rfl n hn))).mono fun e W' ⟨he, bel⟩ => ?_
  subst he
  exact ⟨_, rfl, _, _, _, [], _, [], hW', trodAll_mk1 (shut_bool Try.underlying4 _), (trodAll_cons_mk (Below.trod laidOut (by kernel_rfl) (of_decide_eq_true (by kernel_rfl)) h0 bel lt0) trodAll_mk0), rfl, bel.frame _, fun h => by cases h⟩
theorem SortedPlays_over : Rows.sortedPlaysRow.holds Try.pinned (OpenSpec.ofChange Rows.sortedPlaysSpec) :=
  OpenClaim.holds_of_wide 5 Try.f5 rfl rfl rfl rfl rfl rfl rfl ⟨rfl, rfl, rfl, rfl, rfl⟩ rfl rfl rfl rfl rfl (by kernel_rfl) Try.func5 (by kernel_rfl)
    (of_decide_eq_true (by kernel_rfl)) (by unfold Func.isWrapper; first | (rw [if_pos (by decide +kernel)]; kernel_rfl) | (rw [if_neg (by decide +kernel)]; exact ⟨rfl, rfl⟩))
    (fun os started H enc _ => SortedPlays_lifted os started H enc)
theorem SortedPlays_proved : Rows.SortedPlaysSaid := SortedPlays_over
#print axioms SortedPlays_proved
end Go.Proofs.Ytdlpfeflndlpfaa
