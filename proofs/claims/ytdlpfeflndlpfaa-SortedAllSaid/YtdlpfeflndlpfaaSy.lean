/- A region that draws its order, walked in each of its orders. No condition. -/
import Derived.Test.YtdlpfeflndlpfaaSd
set_option linter.unusedVariables false
namespace Go.Sl
open Go
section code
variable {P : Program} {B : Base} {N : Nat} {F : Fr} {A : List Asn} {Q : Exit → Fr → List Asn → Prop} {K : Fr → List Asn → Prop} {ops : List Oper}
def Wany (P : Program) (B : Base) (N : Nat) (ops : List Oper) (fuel : Nat) (listed : Array Bool) (F : Fr) (A : List Asn) (K : Fr → List Asn → Prop) : Prop :=
  ∀ (ro : Option Nat) R a w, Rep N a F → Sat B w (R :: A) → wpAnyIn (fen ro) 0 P .any ops.toArray (onlyN (Lift B N R a.defers K)) fuel listed a w
def Wjs (P : Program) (B : Base) (N : Nat) (ops : List Oper) (fuel : Nat) (listed : Array Bool) (F : Fr) (A : List Asn) (K : Fr → List Asn → Prop) : List Nat → Prop
  | [] => True
  | j :: js => (∃ o, ops[j]? = some o ∧ Wl P B N none ops [o] F A (fun F' A' => Wany P B N ops fuel (listed.setIfInBounds j true) F' A' K)) ∧ Wjs P B N ops fuel listed F A K js
theorem Wjs_nil {fuel : Nat} {listed : Array Bool} : Wjs P B N ops fuel listed F A K [] := trivial
theorem Wjs_cons {fuel : Nat} {listed : Array Bool} {j : Nat} {js : List Nat} {o : Oper} (ho : ops[j]? = some o) (h : Wl P B N none ops [o] F A (fun F' A' => Wany P B N ops fuel (listed.setIfInBounds j true) F' A' K))
    (r : Wjs P B N ops fuel listed F A K js) : Wjs P B N ops fuel listed F A K (j :: js) := ⟨⟨o, ho, h⟩, r⟩
theorem Wjs.get {fuel : Nat} {listed : Array Bool} : ∀ {js : List Nat}, Wjs P B N ops fuel listed F A K js → ∀ j ∈ js, ∃ o, ops[j]? = some o ∧ Wl P B N none ops [o] F A (fun F' A' => Wany P B N ops fuel (listed.setIfInBounds j true) F' A' K)
  | [], _, j, h => by cases h
  | k :: js, ⟨h1, h2⟩, j, h => by
    rcases List.mem_cons.1 h with rfl | h
    · exact h1
    · exact Wjs.get h2 j h
theorem Wany_done {fuel : Nat} {listed : Array Bool} (hr : Region.ready .any ops.toArray listed = []) (h : K F A) : Wany P B N ops fuel listed F A K := fun ro R a w hrep hs => by
  have hL : Lift B N R a.defers K a w := ⟨rfl, F, A, hrep, hs, h⟩
  cases fuel with
  | zero => exact ⟨hr, hL⟩
  | succ n => exact ⟨fun _ => hL, fun j hj => by rw [hr] at hj; cases hj⟩
theorem Wany_step {fuel : Nat} {listed : Array Bool} {js : List Nat} (hr : Region.ready .any ops.toArray listed = js) (hne : js.isEmpty = false) (h : Wjs P B N ops fuel listed F A K js) : Wany P B N ops (fuel + 1) listed F A K := fun ro R a w hrep hs => by
  subst hr
  refine ⟨fun e => (by rw [e] at hne; cases hne), fun j hj => ?_⟩
  obtain ⟨o, ho, hw⟩ := h.get j hj
  have ho' : ops.toArray[j]? = some o := by simpa using ho
  have hst := hw R Ent.nil a w hrep hs
  refine wpOpIn_mono (fun a' w' hx => ?_) (wpOp_of_step (ro := ro) hs.hd ho' hst)
  obtain ⟨_, hd, F', A', h1, h2, h3⟩ := hx
  have := h3 ro R a' w' h1 h2
  rw [hd] at this
  exact this
theorem Wc_drawAll {id : Nat} (hm : P.follows .mixedOrders = true := by kernel_rfl) (h : ∀ K : Fr → List Asn → Prop, (∀ F A, Q .normal F A → K F A) → Wany P B N ops ops.length (Array.replicate ops.length false) F A K) :
    Wc P B N (.region id ops.toArray true) F A Q := fun ro R a w hk hr hs => by
  refine wpIn_region_any hm ?_
  have hs' : Sat B { w with drawn := w.drawn + 1 } (R :: A) := ⟨hs.size, hs.io, hs.base, hs.own⟩
  have h1 := h (fun F A => Q .normal F A) (fun _ _ h => h) ro R a _ hr hs'
  refine wpAny_monoQ (fun e a' w' h => ?_) _ _ _ _ (by simpa using h1)
  cases e with
  | normal =>
    obtain ⟨hd, F', A', q1, q2, q3⟩ := h
    exact ⟨[], F', A', hd, q1, q2, q3⟩
  | _ => exact h.elim
end code
end Go.Sl
