/- ControlLasts returns true at every input and turns nothing that was there; no condition. -/
import Derived.Test.YtepeljbgekgjcaaK11
import Derived.Test.YtepeljbgekgjcaaRows
set_option linter.unusedVariables false
set_option maxRecDepth 100000
namespace Go.Proofs.Ytepeljbgekgjcaa
open Go Go.Sl Go.ChangeShapes Go.WideShapes Go.ChangeAt Go.RowKit

/-- Rows that are cells and nothing else. -/
def AllC (φ : List Value → Prop) : Prop := ∀ cs, φ cs → cs.all isCell = true
abbrev AI : List Value → Prop := fun cs => ∃ n, cs = [.int .i64 n] ∧ (Lit.int .i64 n).wf = true
abbrev AB : List Value → Prop := fun cs => ∃ b, cs = [.bool b]
abbrev AS : List Value → Prop := fun cs => ∃ s : ByteArray, cs = [.string s] ∧ s.size ≤ 140737488351232
theorem AllC.int : AllC AI := fun cs ⟨n, h, _⟩ => by subst h; rfl
theorem AllC.bool : AllC AB := fun cs ⟨n, h⟩ => by subst h; rfl
theorem AllC.str : AllC AS := fun cs ⟨n, h, _⟩ => by subst h; rfl
theorem AllC.nil : AllC (Parts []) := fun cs h => by cases h; rfl
theorem AllC.cons {φ : List Value → Prop} {φs : List (List Value → Prop)} (h1 : AllC φ) (h2 : AllC (Parts φs)) : AllC (Parts (φ :: φs)) := fun cs ⟨c, r, h, h3, h4⟩ => by
  subst h; simp [List.all_append, h1 _ h3, h2 _ h4]
theorem slr_rows {P : Program} {W : World} {sz bt : Nat} {φ : List Value → Prop} (h : AllC φ) {cs : List Value} (g : SlR P W sz bt φ cs) : ∃ a m c, cs = [.slice a m c] ∧ ∃ vs, RdS P (baseOf W) [] sz a m c vs ∧ vs.all isCell = true := by
  obtain ⟨a, m, c, h1, _, rows, _, h3, h4⟩ := g
  refine ⟨a, m, c, h1, _, h4, ?_⟩
  rw [List.all_flatten]
  exact List.all_eq_true.2 fun r hr => h r (h3 r hr).1
theorem last_of {W : World} {b1 b2 b3 b4 : Nat} {φe φp φs φt : List Value → Prop} (he : AllC φe) (hp : AllC φp) (hs : AllC φs) (ht : AllC φt) (r : List Value)
    (h : Parts [AI, AI, AI, AI, Parts [AI, AI, AI, SlR Try.prog W 7 b1 φe, Parts [AI, AI], AI, AI, SlR Try.prog W 5 b2 φp, SlR Try.prog W 4 b3 φs, SlR Try.prog W 3 b4 φt, Parts [AI, AI], AB, AI, AI, AS, AB, AS, Parts [AI, AI], AI, Parts [Parts [AI, AI], AB, AS]], BytesR Try.prog W] r) :
    ∃ x : LX, r = x.c ∧ x.ok (baseOf W) := by
  obtain ⟨_, r1, rfl, ⟨k, rfl, _⟩, _, r2, rfl, ⟨kind, rfl, _⟩, _, r3, rfl, ⟨target, rfl, _⟩, _, r4, rfl, ⟨fuse, rfl, hfu⟩, _, r5, rfl, hm, _, r6, rfl, ⟨ca, cn, cc, ch, rfl, hcn, hch⟩, rfl⟩ := h
  obtain ⟨_, q1, rfl, ⟨mk, rfl, _⟩, _, q2, rfl, ⟨mf, rfl, _⟩, _, q3, rfl, ⟨mcf, rfl, _⟩, _, q4, rfl, hqe, _, q5, rfl, ⟨_, _, rfl, ⟨a1, rfl, _⟩, _, _, rfl, ⟨a2, rfl, _⟩, rfl⟩, _, q6, rfl, ⟨pt, rfl, _⟩, _, q7, rfl, ⟨ps, rfl, _⟩, _, q8, rfl, hqp, _, q9, rfl, hqs, _, q10, rfl, hqt, hm⟩ := hm
  obtain ⟨_, q11, rfl, ⟨_, _, rfl, ⟨le, rfl, _⟩, _, _, rfl, ⟨li, rfl, _⟩, rfl⟩, _, q12, rfl, ⟨cl, rfl⟩, _, q13, rfl, ⟨se, rfl, _⟩, _, q14, rfl, ⟨rq, rfl, _⟩, _, q15, rfl, ⟨key, rfl, _⟩, _, q16, rfl, ⟨del, rfl⟩, _, q17, rfl, ⟨tx, rfl, _⟩, hm⟩ := hm
  obtain ⟨_, q18, rfl, ⟨_, _, rfl, ⟨f1, rfl, _⟩, _, _, rfl, ⟨f2, rfl, _⟩, rfl⟩, _, q19, rfl, ⟨er, rfl, _⟩, _, q20, rfl, ⟨_, _, rfl, ⟨_, _, rfl, ⟨v1, rfl, _⟩, _, _, rfl, ⟨v2, rfl, _⟩, rfl⟩, _, _, rfl, ⟨v3, rfl⟩, _, _, rfl, ⟨v4, rfl, _⟩, rfl⟩, rfl⟩ := hm
  obtain ⟨ea, en, ec, rfl, hre⟩ := slr_rows he hqe
  obtain ⟨pa, pn, pc, rfl, hrp⟩ := slr_rows hp hqp
  obtain ⟨sa, sn, sc, rfl, hrs⟩ := slr_rows hs hqs
  obtain ⟨ta, tn, tc, rfl, hrt⟩ := slr_rows ht hqt
  exact ⟨⟨k, kind, target, fuse, ⟨mk, mf, mcf, ea, en, ec, a1, a2, pt, ps, pa, pn, pc, sa, sn, sc, ta, tn, tc, le, li, cl, se, rq, key, del, tx, f1, f2, er, v1, v2, v3, v4⟩, ca, cn, cc, ch⟩, rfl, ⟨⟨hre, hrp, hrs, hrt⟩, (wf_i64 hfu).2, hch, hcn.1⟩⟩
theorem lasts_of {W : World} {b1 b2 b3 b4 : Nat} {φe φp φs φt : List Value → Prop} (he : AllC φe) (hp : AllC φp) (hs : AllC φs) (ht : AllC φt) : ∀ (rows : List (List Value)),
    (∀ r ∈ rows, Parts [AI, AI, AI, AI, Parts [AI, AI, AI, SlR Try.prog W 7 b1 φe, Parts [AI, AI], AI, AI, SlR Try.prog W 5 b2 φp, SlR Try.prog W 4 b3 φs, SlR Try.prog W 3 b4 φt, Parts [AI, AI], AB, AI, AI, AS, AB, AS, Parts [AI, AI], AI, Parts [Parts [AI, AI], AB, AS]], BytesR Try.prog W] r ∧ r.length = 31) →
    ∃ l : List LX, l.length = rows.length ∧ rows.flatten = l.flatMap LX.c ∧ ∀ x ∈ l, x.ok (baseOf W)
  | [], _ => ⟨[], rfl, rfl, by simp⟩
  | r :: rows, h => by
    obtain ⟨l, h1, h2, h3⟩ := lasts_of he hp hs ht rows (fun x hx => h x (List.mem_cons_of_mem _ hx))
    obtain ⟨x, hx, hxo⟩ := last_of he hp hs ht r (h r (List.mem_cons_self ..)).1
    refine ⟨x :: l, by simp [h1], by simp [h2, hx], fun q hq => ?_⟩
    rcases List.mem_cons.1 hq with rfl | hq
    · exact hxo
    · exact h3 q hq
theorem wf_u8 {n : Int} (h : (Lit.int .u8 n).wf = true) : 0 ≤ n ∧ n ≤ 255 := by
  simpa [Lit.wf, IntKind.min, IntKind.max, IntKind.signed, IntKind.bits] using h
theorem own : ownKnob Try.prog.godebug = none := by kernel_rfl
theorem laidOut : laidOutB Try.prog = true := by kernel_rfl
theorem ControlLasts_walk (W : World) (H : Type) (enc : TypeId × Value → H) (v0 : Value) (d0 : DataW H) (p0 : List MemPlace) (u0 : Value.okWide Try.prog W .any 0 5 v0) (h0 : DataW.Trod enc Try.prog W 0 (fun _ => true) true 5 v0 d0 p0) (w0 : ∀ n ∈ d0.weights Try.prog 5, n ≤ reachBytes) (v1 : Value) (d1 : DataW H) (p1 : List MemPlace) (u1 : Value.okWide Try.prog W .any 0 55 v1) (h1 : DataW.Trod enc Try.prog W 0 (fun _ => true) true 55 v1 d1 p1) (w1 : ∀ n ∈ d1.weights Try.prog 55, n ≤ reachBytes) :
    Calls Try.prog 4 #[v0, v1] W fun e W' => e = .returned (.bool true) ∧ Below W.heap.size W W' := by
  obtain ⟨a0, rfl, g0⟩ := arg_int Try.underlying5 u0 h0
  have g1 := arg_slice Try.underlying55 u1 h1 w1 (opens_slice (sz := 31) (bt := 352) Try.underlying55 (by kernel_rfl) (by kernel_rfl) (opens_struct (tot := 31) Try.underlying59 (by kernel_rfl) (.cons (n := 1) rfl (by kernel_rfl) (opens_int Try.underlying3) (.cons (n := 1) rfl (by kernel_rfl) (opens_int Try.underlying3) (.cons (n := 1) rfl (by kernel_rfl) (opens_int Try.underlying3) (.cons (n := 1) rfl (by kernel_rfl) (opens_int Try.underlying3) (.cons (n := 26) rfl (by kernel_rfl) (opens_struct (tot := 26) Try.underlying56 (by kernel_rfl) (.cons (n := 1) rfl (by kernel_rfl) (opens_int Try.underlying3) (.cons (n := 1) rfl (by kernel_rfl) (opens_int Try.underlying3) (.cons (n := 1) rfl (by kernel_rfl) (opens_int Try.underlying3) (.cons (n := 1) rfl (by kernel_rfl) (opens_slice (sz := 7) (bt := 72) Try.underlying44 (by kernel_rfl) (by kernel_rfl) (opens_struct (tot := 7) Try.underlying165 (by kernel_rfl) (.cons (n := 2) rfl (by kernel_rfl) (opens_struct (tot := 2) Try.underlying46 (by kernel_rfl) (.cons (n := 1) rfl (by kernel_rfl) (opens_int Try.underlying3) (.cons (n := 1) rfl (by kernel_rfl) (opens_int Try.underlying3) .nil))) (.cons (n := 1) rfl (by kernel_rfl) (opens_int Try.underlying3) (.cons (n := 1) rfl (by kernel_rfl) (opens_int Try.underlying3) (.cons (n := 1) rfl (by kernel_rfl) (opens_string Try.underlying9) (.cons (n := 1) rfl (by kernel_rfl) (opens_bool Try.underlying4) (.cons (n := 1) rfl (by kernel_rfl) (opens_string Try.underlying9) .nil)))))))) (.cons (n := 2) rfl (by kernel_rfl) (opens_struct (tot := 2) Try.underlying46 (by kernel_rfl) (.cons (n := 1) rfl (by kernel_rfl) (opens_int Try.underlying3) (.cons (n := 1) rfl (by kernel_rfl) (opens_int Try.underlying3) .nil))) (.cons (n := 1) rfl (by kernel_rfl) (opens_int Try.underlying3) (.cons (n := 1) rfl (by kernel_rfl) (opens_int Try.underlying3) (.cons (n := 1) rfl (by kernel_rfl) (opens_slice (sz := 5) (bt := 56) Try.underlying47 (by kernel_rfl) (by kernel_rfl) (opens_struct (tot := 5) Try.underlying167 (by kernel_rfl) (.cons (n := 1) rfl (by kernel_rfl) (opens_string Try.underlying9) (.cons (n := 4) rfl (by kernel_rfl) (opens_struct (tot := 4) Try.underlying50 (by kernel_rfl) (.cons (n := 2) rfl (by kernel_rfl) (opens_struct (tot := 2) Try.underlying46 (by kernel_rfl) (.cons (n := 1) rfl (by kernel_rfl) (opens_int Try.underlying3) (.cons (n := 1) rfl (by kernel_rfl) (opens_int Try.underlying3) .nil))) (.cons (n := 1) rfl (by kernel_rfl) (opens_bool Try.underlying4) (.cons (n := 1) rfl (by kernel_rfl) (opens_string Try.underlying9) .nil)))) .nil)))) (.cons (n := 1) rfl (by kernel_rfl) (opens_slice (sz := 4) (bt := 32) Try.underlying48 (by kernel_rfl) (by kernel_rfl) (opens_struct (tot := 4) Try.underlying169 (by kernel_rfl) (.cons (n := 1) rfl (by kernel_rfl) (opens_int Try.underlying3) (.cons (n := 1) rfl (by kernel_rfl) (opens_int Try.underlying3) (.cons (n := 2) rfl (by kernel_rfl) (opens_struct (tot := 2) Try.underlying46 (by kernel_rfl) (.cons (n := 1) rfl (by kernel_rfl) (opens_int Try.underlying3) (.cons (n := 1) rfl (by kernel_rfl) (opens_int Try.underlying3) .nil))) .nil))))) (.cons (n := 1) rfl (by kernel_rfl) (opens_slice (sz := 3) (bt := 24) Try.underlying37 (by kernel_rfl) (by kernel_rfl) (opens_struct (tot := 3) Try.underlying40 (by kernel_rfl) (.cons (n := 1) rfl (by kernel_rfl) (opens_int Try.underlying3) (.cons (n := 1) rfl (by kernel_rfl) (opens_int Try.underlying3) (.cons (n := 1) rfl (by kernel_rfl) (opens_bool Try.underlying4) .nil))))) (.cons (n := 2) rfl (by kernel_rfl) (opens_struct (tot := 2) Try.underlying46 (by kernel_rfl) (.cons (n := 1) rfl (by kernel_rfl) (opens_int Try.underlying3) (.cons (n := 1) rfl (by kernel_rfl) (opens_int Try.underlying3) .nil))) (.cons (n := 1) rfl (by kernel_rfl) (opens_bool Try.underlying4) (.cons (n := 1) rfl (by kernel_rfl) (opens_int Try.underlying3) (.cons (n := 1) rfl (by kernel_rfl) (opens_int Try.underlying3) (.cons (n := 1) rfl (by kernel_rfl) (opens_string Try.underlying9) (.cons (n := 1) rfl (by kernel_rfl) (opens_bool Try.underlying4) (.cons (n := 1) rfl (by kernel_rfl) (opens_string Try.underlying9) (.cons (n := 2) rfl (by kernel_rfl) (opens_struct (tot := 2) Try.underlying46 (by kernel_rfl) (.cons (n := 1) rfl (by kernel_rfl) (opens_int Try.underlying3) (.cons (n := 1) rfl (by kernel_rfl) (opens_int Try.underlying3) .nil))) (.cons (n := 1) rfl (by kernel_rfl) (opens_int Try.underlying25) (.cons (n := 4) rfl (by kernel_rfl) (opens_struct (tot := 4) Try.underlying50 (by kernel_rfl) (.cons (n := 2) rfl (by kernel_rfl) (opens_struct (tot := 2) Try.underlying46 (by kernel_rfl) (.cons (n := 1) rfl (by kernel_rfl) (opens_int Try.underlying3) (.cons (n := 1) rfl (by kernel_rfl) (opens_int Try.underlying3) .nil))) (.cons (n := 1) rfl (by kernel_rfl) (opens_bool Try.underlying4) (.cons (n := 1) rfl (by kernel_rfl) (opens_string Try.underlying9) .nil)))) .nil))))))))))))))))))))) (.cons (n := 1) rfl (by kernel_rfl) (opens_bytes Try.underlying57 (by kernel_rfl) (by kernel_rfl) Try.underlying5) .nil))))))))
  clear u0 h0 w0 u1 h1 w1
  obtain ⟨a, m, c, h1, hm, rows, hlen, hrows, hrd⟩ := g1
  obtain rfl : v1 = .slice a m c := by simpa using h1
  obtain ⟨l, hl, hfl, hok⟩ := lasts_of (by repeat (first | exact AllC.int | exact AllC.bool | exact AllC.str | exact AllC.nil | apply AllC.cons)) (by repeat (first | exact AllC.int | exact AllC.bool | exact AllC.str | exact AllC.nil | apply AllC.cons)) (by repeat (first | exact AllC.int | exact AllC.bool | exact AllC.str | exact AllC.nil | apply AllC.cons)) (by repeat (first | exact AllC.int | exact AllC.bool | exact AllC.str | exact AllC.nil | apply AllC.cons)) rows hrows
  rw [hfl] at hrd
  have hu := wf_u8 g0
  obtain ⟨rg, rfl⟩ := Int.eq_ofNat_of_zero_le hu.1
  exact (lasts_spec (B := baseOf W) rg (by omega) a m c l (hl.trans hlen) hm.1 hrd hok).below (fun _ _ h => h.1)
set_option maxRecDepth 100000 in
theorem ControlLasts_lifted (os : Os) (started : os.Started) (H : Type) (enc : TypeId × Value → H) :
    ReturnsInHanded {} Try.checked os 4 .any (Rows.controlLastsSpec.pre6 enc Try.prog Try.f4 Rows.controlLastsRow.domain false) (Rows.controlLastsSpec.post enc Try.prog Try.f4 false true false false) := by
  refine returnsInHanded_of_change_sized (C := Try.checked) own started (by kernel_rfl) Try.func4
    (ChangeSpec.witness6 (enc := enc) (C := Try.checked) false ⟨#[], #[.int .u8 0, .slice none 0 0], []⟩ 8 (by kernel_rfl) (by kernel_rfl) (by kernel_rfl) (by kernel_rfl)) ?_
  intro W base args ds gs before hval0 hW hcnd hsz _
  have hval : ∀ (j : Nat) t v, Try.f4.params[j]? = some t → args[j]? = some v → Value.okWide Try.prog W .any base t v := hval0
  have hW' := hW
  obtain ⟨p, q, hA0, hV, rfl, hfz, hnd⟩ := hW
  have hA : DataW.TrodAll enc Try.prog W 0 (fun _ => true) true Try.f4.params.toList args.toList ds p := hA0
  rw [Try.params4] at hA hval
  obtain ⟨v0, vs0, d0, ds0, p0, q0, hargs, rfl, rfl, h0, r0⟩ := trodAll_cons hA
  obtain ⟨v1, vs1, d1, ds1, p1, q1, rfl, rfl, rfl, h1, r1⟩ := trodAll_cons r0
  obtain ⟨rfl, rfl, rfl⟩ := trodAll_nil r1
  obtain rfl : args = #[v0, v1] := by cases args; simp_all
  obtain ⟨rfl, rfl⟩ := trodVars_none hV
  have lt0 : ∀ x ∈ p0, x.block < W.heap.size := by obtain ⟨m, hm⟩ := h0; exact DataW.trod_lt m _ _ _ hm
  have lt1 : ∀ x ∈ p1, x.block < W.heap.size := by obtain ⟨m, hm⟩ := h1; exact DataW.trod_lt m _ _ _ hm
  refine (ControlLasts_walk W H enc v0 d0 p0 (okW (hval 0 5 v0 rfl rfl)) h0 (fun n hn => by simpa using List.all_eq_true.1 hsz n (DataW.weights_mem_each (j := 0) (t := 5) rfl rfl n hn)) v1 d1 p1 (okW (hval 1 55 v1 rfl rfl)) h1 (fun n hn => by simpa using List.all_eq_true.1 hsz n (DataW.weights_mem_each (j := 1) (t := 55) rfl rfl n hn))).mono fun e W' ⟨he, bel⟩ => ?_
  subst he
  exact ⟨_, rfl, _, _, _, [], _, [], hW', trodAll_mk1 (shut_bool Try.underlying4 _), (trodAll_cons_mk (Below.trod laidOut (by kernel_rfl) (of_decide_eq_true (by kernel_rfl)) h0 bel lt0) (trodAll_cons_mk (Below.trod laidOut (by kernel_rfl) (of_decide_eq_true (by kernel_rfl)) h1 bel lt1) trodAll_mk0)), rfl, bel.frame _, fun h => by cases h⟩
theorem ControlLasts_over : Rows.controlLastsRow.holds Try.pinned (OpenSpec.ofChange Rows.controlLastsSpec) :=
  OpenClaim.holds_of_wide 4 Try.f4 rfl rfl rfl rfl rfl rfl rfl ⟨rfl, rfl, rfl, rfl, rfl⟩ rfl rfl rfl rfl rfl (by kernel_rfl) Try.func4 (by kernel_rfl)
    (of_decide_eq_true (by kernel_rfl)) (by unfold Func.isWrapper; first | (rw [if_pos (by decide +kernel)]; kernel_rfl) | (rw [if_neg (by decide +kernel)]; exact ⟨rfl, rfl⟩))
    (fun os started H enc _ => ControlLasts_lifted os started H enc)
theorem ControlLasts_proved : Rows.ControlLastsSaid := ControlLasts_over
#print axioms ControlLasts_proved
end Go.Proofs.Ytepeljbgekgjcaa
