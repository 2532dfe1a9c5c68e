/- StateRecords returns true at every input and turns nothing that was there; no condition. -/
import Derived.Test.YtnoggejkkjngjaaGreatK16
import Derived.Test.YtnoggejkkjngjaaGreatRows
set_option linter.unusedVariables false
set_option maxRecDepth 100000
namespace Go.Proofs.YtnoggejkkjngjaaGreat
open Go Go.Sl Go.ChangeShapes Go.WideShapes Go.ChangeAt Go.RowKit

theorem own : ownKnob Tryz.prog.godebug = none := by kernel_rfl
theorem laidOut : laidOutB Tryz.prog = true := by kernel_rfl
theorem StateRecords_walk (W : World) (H : Type) (enc : TypeId × Value → H) (v0 : Value) (d0 : DataW H) (p0 : List MemPlace) (u0 : Value.okWide Tryz.prog W .any 0 47 v0) (h0 : DataW.Trod enc Tryz.prog W 0 (fun _ => true) true 47 v0 d0 p0) (w0 : ∀ n ∈ d0.weights Tryz.prog 47, n ≤ reachBytes) (v1 : Value) (d1 : DataW H) (p1 : List MemPlace) (u1 : Value.okWide Tryz.prog W .any 0 62 v1) (h1 : DataW.Trod enc Tryz.prog W 0 (fun _ => true) true 62 v1 d1 p1) (w1 : ∀ n ∈ d1.weights Tryz.prog 62, n ≤ reachBytes) :
    Calls Tryz.prog 4 #[v0, v1] W fun e W' => e = .returned (.bool true) ∧ Below W.heap.size W W' := by
  obtain ⟨c0, rfl, g0⟩ := arg_agg Tryz.underlying47 u0 h0 w0 (opens_struct (tot := 16) Tryz.underlying47 (by kernel_rfl) (.cons (n := 1) rfl (by kernel_rfl) (opens_int Tryz.underlying3) (.cons (n := 7) rfl (by kernel_rfl) (opens_struct (tot := 7) Tryz.underlying43 (by kernel_rfl) (.cons (n := 2) rfl (by kernel_rfl) (opens_struct (tot := 2) Tryz.underlying33 (by kernel_rfl) (.cons (n := 1) rfl (by kernel_rfl) (opens_int Tryz.underlying3) (.cons (n := 1) rfl (by kernel_rfl) (opens_int Tryz.underlying3) .nil))) (.cons (n := 1) rfl (by kernel_rfl) (opens_int Tryz.underlying3) (.cons (n := 1) rfl (by kernel_rfl) (opens_int Tryz.underlying3) (.cons (n := 1) rfl (by kernel_rfl) (opens_string Tryz.underlying9) (.cons (n := 1) rfl (by kernel_rfl) (opens_bool Tryz.underlying4) (.cons (n := 1) rfl (by kernel_rfl) (opens_string Tryz.underlying9) .nil))))))) (.cons (n := 3) rfl (by kernel_rfl) (opens_struct (tot := 3) Tryz.underlying45 (by kernel_rfl) (.cons (n := 1) rfl (by kernel_rfl) (opens_int Tryz.underlying3) (.cons (n := 1) rfl (by kernel_rfl) (opens_int Tryz.underlying3) (.cons (n := 1) rfl (by kernel_rfl) (opens_bool Tryz.underlying4) .nil)))) (.cons (n := 1) rfl (by kernel_rfl) (opens_int Tryz.underlying3) (.cons (n := 4) rfl (by kernel_rfl) (opens_struct (tot := 4) Tryz.underlying37 (by kernel_rfl) (.cons (n := 2) rfl (by kernel_rfl) (opens_struct (tot := 2) Tryz.underlying33 (by kernel_rfl) (.cons (n := 1) rfl (by kernel_rfl) (opens_int Tryz.underlying3) (.cons (n := 1) rfl (by kernel_rfl) (opens_int Tryz.underlying3) .nil))) (.cons (n := 1) rfl (by kernel_rfl) (opens_slice (sz := 5) (bt := 56) Tryz.underlying34 (by kernel_rfl) (by kernel_rfl) (opens_struct (tot := 5) Tryz.underlying57 (by kernel_rfl) (.cons (n := 1) rfl (by kernel_rfl) (opens_string Tryz.underlying9) (.cons (n := 4) rfl (by kernel_rfl) (opens_struct (tot := 4) Tryz.underlying55 (by kernel_rfl) (.cons (n := 2) rfl (by kernel_rfl) (opens_struct (tot := 2) Tryz.underlying33 (by kernel_rfl) (.cons (n := 1) rfl (by kernel_rfl) (opens_int Tryz.underlying3) (.cons (n := 1) rfl (by kernel_rfl) (opens_int Tryz.underlying3) .nil))) (.cons (n := 1) rfl (by kernel_rfl) (opens_bool Tryz.underlying4) (.cons (n := 1) rfl (by kernel_rfl) (opens_string Tryz.underlying9) .nil)))) .nil)))) (.cons (n := 1) rfl (by kernel_rfl) (opens_slice (sz := 4) (bt := 32) Tryz.underlying35 (by kernel_rfl) (by kernel_rfl) (opens_struct (tot := 4) Tryz.underlying111 (by kernel_rfl) (.cons (n := 1) rfl (by kernel_rfl) (opens_int Tryz.underlying3) (.cons (n := 1) rfl (by kernel_rfl) (opens_int Tryz.underlying3) (.cons (n := 2) rfl (by kernel_rfl) (opens_struct (tot := 2) Tryz.underlying33 (by kernel_rfl) (.cons (n := 1) rfl (by kernel_rfl) (opens_int Tryz.underlying3) (.cons (n := 1) rfl (by kernel_rfl) (opens_int Tryz.underlying3) .nil))) .nil))))) .nil)))) .nil))))))
  have g1 := arg_slice Tryz.underlying62 u1 h1 w1 (opens_bytes Tryz.underlying62 (by kernel_rfl) (by kernel_rfl) Tryz.underlying5)
  clear u0 h0 w0 u1 h1 w1
  obtain ⟨y, rfl, hy⟩ := rec_of g0
  obtain ⟨ba, bm, bc, bs, hv, hm, hrd⟩ := g1
  obtain rfl : v1 = .slice ba bm bc := by simpa using hv
  obtain rfl : bs.length = bm := by have := hrd.len; simpa using this
  exact (records15_spec (B := baseOf W) y hy ba bc bs (by omega) hrd).below (fun _ _ h => h.1)
set_option maxRecDepth 100000 in
theorem StateRecords_lifted (os : Os) (started : os.Started) (H : Type) (enc : TypeId × Value → H) :
    ReturnsInHanded {} Tryz.checked os 4 .any (Rows.stateRecordsSpec.pre6 enc Tryz.prog Tryz.f4 Rows.stateRecordsRow.domain false) (Rows.stateRecordsSpec.post enc Tryz.prog Tryz.f4 false true false false) := by
  refine returnsInHanded_of_change_sized (C := Tryz.checked) own started (by kernel_rfl) Tryz.func4
    (ChangeSpec.witness6 (enc := enc) (C := Tryz.checked) false ⟨#[], #[.agg #[.int .i64 0, .int .i64 0, .int .i64 0, .int .i64 0, .int .i64 0, .string ByteArray.empty, .bool false, .string ByteArray.empty, .int .i64 0, .int .i64 0, .bool false, .int .i64 0, .int .i64 0, .int .i64 0, .slice none 0 0, .slice none 0 0], .slice none 0 0], []⟩ 8 (by kernel_rfl) (by kernel_rfl) (by kernel_rfl) (by kernel_rfl)) ?_
  intro W base args ds gs before hval0 hW hcnd hsz _
  have hval : ∀ (j : Nat) t v, Tryz.f4.params[j]? = some t → args[j]? = some v → Value.okWide Tryz.prog W .any base t v := hval0
  have hW' := hW
  obtain ⟨p, q, hA0, hV, rfl, hfz, hnd⟩ := hW
  have hA : DataW.TrodAll enc Tryz.prog W 0 (fun _ => true) true Tryz.f4.params.toList args.toList ds p := hA0
  rw [Tryz.params4] at hA hval
  obtain ⟨v0, vs0, d0, ds0, p0, q0, hargs, rfl, rfl, h0, r0⟩ := trodAll_cons hA
  obtain ⟨v1, vs1, d1, ds1, p1, q1, rfl, rfl, rfl, h1, r1⟩ := trodAll_cons r0
  obtain ⟨rfl, rfl, rfl⟩ := trodAll_nil r1
  obtain rfl : args = #[v0, v1] := by cases args; simp_all
  obtain ⟨rfl, rfl⟩ := trodVars_none hV
  have lt0 : ∀ x ∈ p0, x.block < W.heap.size := by obtain ⟨m, hm⟩ := h0; exact DataW.trod_lt m _ _ _ hm
  have lt1 : ∀ x ∈ p1, x.block < W.heap.size := by obtain ⟨m, hm⟩ := h1; exact DataW.trod_lt m _ _ _ hm
  refine (StateRecords_walk W H enc v0 d0 p0 (okW (hval 0 47 v0 rfl rfl)) h0 (fun n hn => by simpa using List.all_eq_true.1 hsz n (DataW.weights_mem_each (j := 0) (t := 47) rfl rfl n hn)) v1 d1 p1 (okW (hval 1 62 v1 rfl rfl)) h1 (fun n hn => by simpa using List.all_eq_true.1 hsz n (DataW.weights_mem_each (j := 1) (t := 62) rfl rfl n hn))).mono fun e W' ⟨he, bel⟩ => ?_
  subst he
  exact ⟨_, rfl, _, _, _, [], _, [], hW', trodAll_mk1 (shut_bool Tryz.underlying4 _), (trodAll_cons_mk (Below.trod laidOut (by kernel_rfl) (of_decide_eq_true (by kernel_rfl)) h0 bel lt0) (trodAll_cons_mk (Below.trod laidOut (by kernel_rfl) (of_decide_eq_true (by kernel_rfl)) h1 bel lt1) trodAll_mk0)), rfl, bel.frame _, fun h => by cases h⟩
theorem StateRecords_over : Rows.stateRecordsRow.holds Tryz.pinned (OpenSpec.ofChange Rows.stateRecordsSpec) :=
  OpenClaim.holds_of_wide 4 Tryz.f4 rfl rfl rfl rfl rfl rfl rfl ⟨rfl, rfl, rfl, rfl, rfl⟩ rfl rfl rfl rfl rfl (by kernel_rfl) Tryz.func4 (by kernel_rfl)
    (of_decide_eq_true (by kernel_rfl)) (by unfold Func.isWrapper; first | (rw [if_pos (by decide +kernel)]; kernel_rfl) | (rw [if_neg (by decide +kernel)]; exact ⟨rfl, rfl⟩))
    (fun os started H enc _ => StateRecords_lifted os started H enc)
theorem StateRecords_proved : Rows.StateRecordsSaid := StateRecords_over
#print axioms StateRecords_proved
end Go.Proofs.YtnoggejkkjngjaaGreat
