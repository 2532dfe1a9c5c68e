/- JournalRoom returns true at every input and turns nothing that was there; no condition. -/
import Derived.Test.YtdlpfeflndlpfaaRows
import Derived.Test.YtdlpfeflndlpfaaRoom13
import Derived.Test.YtdlpfeflndlpfaaRows13
set_option linter.unusedVariables false
set_option maxRecDepth 100000
namespace Go.Proofs.Ytdlpfeflndlpfaa
open Go Go.Sl Go.ChangeShapes Go.WideShapes Go.ChangeAt Go.RowKit

theorem wf_u8 {n : Int} (h : (Lit.int .u8 n).wf = true) : 0 ≤ n ∧ n ≤ 255 := by
  simpa [Lit.wf, IntKind.min, IntKind.max, IntKind.signed, IntKind.bits] using h

theorem own : ownKnob Try.prog.godebug = none := by kernel_rfl
theorem laidOut : laidOutB Try.prog = true := by kernel_rfl
theorem JournalRoom_walk (W : World) (H : Type) (enc : TypeId × Value → H) (v0 : Value) (d0 : DataW H) (p0 : List MemPlace) (u0 : Value.okWide Try.prog W .any 0 5 v0) (h0 : DataW.Trod enc Try.prog W 0 (fun _ => true) true 5 v0 d0 p0) (w0 : ∀ n ∈ d0.weights Try.prog 5, n ≤ reachBytes) (v1 : Value) (d1 : DataW H) (p1 : List MemPlace) (u1 : Value.okWide Try.prog W .any 0 28 v1) (h1 : DataW.Trod enc Try.prog W 0 (fun _ => true) true 28 v1 d1 p1) (w1 : ∀ n ∈ d1.weights Try.prog 28, n ≤ reachBytes) (v2 : Value) (d2 : DataW H) (p2 : List MemPlace) (u2 : Value.okWide Try.prog W .any 0 58 v2) (h2 : DataW.Trod enc Try.prog W 0 (fun _ => true) true 58 v2 d2 p2) (w2 : ∀ n ∈ d2.weights Try.prog 58, n ≤ reachBytes) :
    Calls Try.prog 10 #[v0, v1, v2] W fun e W' => e = .returned (.bool true) ∧ Below W.heap.size W W' := by
  obtain ⟨a0, rfl, g0⟩ := arg_int Try.underlying5 u0 h0
  have g1 := arg_slice Try.underlying28 u1 h1 w1 (opens_bytes Try.underlying28 (by kernel_rfl) (by kernel_rfl) Try.underlying5)
  have g2 := arg_slice Try.underlying58 u2 h2 w2 (opens_slice (sz := 1) (bt := 24) Try.underlying58 (by kernel_rfl) (by kernel_rfl) (opens_bytes Try.underlying28 (by kernel_rfl) (by kernel_rfl) Try.underlying5))
  clear u0 h0 w0 u1 h1 w1 u2 h2 w2
  have hs := wf_u8 g0
  obtain ⟨s, rfl⟩ : ∃ s : Nat, a0 = s := ⟨a0.toNat, by omega⟩
  obtain ⟨fa, fm, fc, fb, e1, hfm, hfr⟩ := g1
  obtain rfl : v1 = .slice fa fm fc := by simpa using e1
  obtain ⟨a, m, c, l, rfl, hm, hl, h1, hb⟩ := lbs_arg g2
  exact (jroom_spec (baseOf W) s (by omega) (fa, fm, fc, fb) hfr a m c l h1 hm hb (by have := hfm.2; simp only; omega)).below (fun _ _ h => h.1)
set_option maxRecDepth 100000 in
theorem JournalRoom_lifted (os : Os) (started : os.Started) (H : Type) (enc : TypeId × Value → H) :
    ReturnsInHanded {} Try.checked os 10 .any (Rows.journalRoomSpec.pre6 enc Try.prog Try.f10 Rows.journalRoomRow.domain false) (Rows.journalRoomSpec.post enc Try.prog Try.f10 false true false false) := by
  refine returnsInHanded_of_change_sized (C := Try.checked) own started (by kernel_rfl) Try.func10
    (ChangeSpec.witness6 (enc := enc) (C := Try.checked) false ⟨#[], #[.int .u8 0, .slice none 0 0, .slice none 0 0], []⟩ 8 (by kernel_rfl) (by kernel_rfl) (by kernel_rfl) (by kernel_rfl)) ?_
  intro W base args ds gs before hval0 hW hcnd hsz _
  have hval : ∀ (j : Nat) t v, Try.f10.params[j]? = some t → args[j]? = some v → Value.okWide Try.prog W .any base t v := hval0
  have hW' := hW
  obtain ⟨p, q, hA0, hV, rfl, hfz, hnd⟩ := hW
  have hA : DataW.TrodAll enc Try.prog W 0 (fun _ => true) true Try.f10.params.toList args.toList ds p := hA0
  rw [Try.params10] at hA hval
  obtain ⟨v0, vs0, d0, ds0, p0, q0, hargs, rfl, rfl, h0, r0⟩ := trodAll_cons hA
  obtain ⟨v1, vs1, d1, ds1, p1, q1, rfl, rfl, rfl, h1, r1⟩ := trodAll_cons r0
  obtain ⟨v2, vs2, d2, ds2, p2, q2, rfl, rfl, rfl, h2, r2⟩ := trodAll_cons r1
  obtain ⟨rfl, rfl, rfl⟩ := trodAll_nil r2
  obtain rfl : args = #[v0, v1, v2] := by cases args; simp_all
  obtain ⟨rfl, rfl⟩ := trodVars_none hV
  have lt0 : ∀ x ∈ p0, x.block < W.heap.size := by obtain ⟨m, hm⟩ := h0; exact DataW.trod_lt m _ _ _ hm
  have lt1 : ∀ x ∈ p1, x.block < W.heap.size := by obtain ⟨m, hm⟩ := h1; exact DataW.trod_lt m _ _ _ hm
  have lt2 : ∀ x ∈ p2, x.block < W.heap.size := by obtain ⟨m, hm⟩ := h2; exact DataW.trod_lt m _ _ _ hm
  refine (JournalRoom_walk W H enc v0 d0 p0 (okW (hval 0 5 v0 rfl rfl)) h0 (fun n hn => by simpa using List.all_eq_true.1 hsz n (DataW.weights_mem_each (j := 0) (t := 5) rfl rfl n hn)) v1 d1 p1 (okW (hval 1 28 v1 rfl rfl)) h1 (fun n hn => by simpa using List.all_eq_true.1 hsz n (DataW.weights_mem_each (j := 1) (t := 28) rfl rfl n hn)) v2 d2 p2 (okW (hval 2 58 v2 rfl rfl)) h2 (fun n hn => by simpa using List.all_eq_true.1 hsz n (DataW.weights_mem_each (j := 2) (t := 58) rfl rfl n hn))).mono fun e W' ⟨he, bel⟩ => ?_
  subst he
  exact ⟨_, rfl, _, _, _, [], _, [], hW', trodAll_mk1 (shut_bool Try.underlying4 _), (trodAll_cons_mk (Below.trod laidOut (by kernel_rfl) (of_decide_eq_true (by kernel_rfl)) h0 bel lt0) (trodAll_cons_mk (Below.trod laidOut (by kernel_rfl) (of_decide_eq_true (by kernel_rfl)) h1 bel lt1) (trodAll_cons_mk (Below.trod laidOut (by kernel_rfl) (of_decide_eq_true (by kernel_rfl)) h2 bel lt2) trodAll_mk0))), rfl, bel.frame _, fun h => by cases h⟩
theorem JournalRoom_over : Rows.journalRoomRow.holds Try.pinned (OpenSpec.ofChange Rows.journalRoomSpec) :=
  OpenClaim.holds_of_wide 10 Try.f10 rfl rfl rfl rfl rfl rfl rfl ⟨rfl, rfl, rfl, rfl, rfl⟩ rfl rfl rfl rfl rfl (by kernel_rfl) Try.func10 (by kernel_rfl)
    (of_decide_eq_true (by kernel_rfl)) (by unfold Func.isWrapper; first | (rw [if_pos (by decide +kernel)]; kernel_rfl) | (rw [if_neg (by decide +kernel)]; exact ⟨rfl, rfl⟩))
    (fun os started H enc _ => JournalRoom_lifted os started H enc)
theorem JournalRoom_proved : Rows.JournalRoomSaid := JournalRoom_over
#print axioms JournalRoom_proved
end Go.Proofs.Ytdlpfeflndlpfaa
