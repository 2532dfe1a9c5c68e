/- The logic: a scope through which the run goes without a jump. No condition. -/
import Derived.Test.YtnoggejkkjngjaaSt
set_option linter.unusedVariables false
namespace Go.Sl
open Go
theorem stepR_scope {P : Program} {b : Frame} {a : Act} {k : List Item} {cs : List Frame} {w : World} {c : Code} : step P (lone (b.atR a (.code (.scope c) :: k)) cs w) = .next (lone (b.atR a (.code c :: .inScope c :: k)) cs w) :=
  step_lone_go (by simp [stepG, stepG.exec, Frame.atR])
theorem stepR_inScope {P : Program} {b : Frame} {a : Act} {k : List Item} {cs : List Frame} {w : World} {c : Code} : step P (lone (b.atR a (.inScope c :: k)) cs w) = .next (lone (b.atR a k) cs w) :=
  step_lone_go (by simp [stepG, stepG.exec, Frame.atR])
theorem wpIn_scope {F : Fence} {n : Nat} {P : Program} {Q : Exit → Act → World → Prop} {a : Act} {w : World} {c : Code} (h : c.wpIn F n P (fun e a w => (∀ l, e ≠ .goto l) ∧ Q e a w) a w) : (Code.scope c).wpIn F n P Q a w := by
  intro b k cs hro hb hr
  have h0 : (lone (b.atR a (.code (.scope c) :: k)) cs w).fenced P F := fenced_calm hb hr rfl
  obtain ⟨e, a₁, w₁, ⟨hn, hq⟩, harr⟩ := h b (.inScope c :: k) cs hro hb hr
  cases e with
  | normal => exact ⟨.normal, a₁, w₁, hq, .head h0 stepR_scope (StepsIn.trans harr (.one (fenced_calm hb hr rfl) stepR_inScope))⟩
  | exit id =>
    have hx : exitTo id (.inScope c :: k) = exitTo id k := by simp [exitTo]
    exact ⟨.exit id, a₁, w₁, hq, fun k' hk => .head h0 stepR_scope (harr.1 k' (by rw [hx]; exact hk)),
      fun hr' hk => let ⟨k₁, h1, h2⟩ := harr.2 hr' (by rw [hx]; exact hk); ⟨k₁, h1, .head h0 stepR_scope h2⟩⟩
  | goto l => exact absurd rfl (hn l)
  | ret => exact ⟨_, a₁, w₁, hq, .of_steps (.one h0 stepR_scope) harr⟩
  | panic ch => exact ⟨_, a₁, w₁, hq, .of_steps (.one h0 stepR_scope) harr⟩
  | outgrown => exact ⟨_, a₁, w₁, hq, .of_steps (.one h0 stepR_scope) harr⟩
section code
variable {P : Program} {B : Base} {N : Nat} {F : Fr} {A : List Asn} {Q : Exit → Fr → List Asn → Prop}
def scopeQ (Q : Exit → Fr → List Asn → Prop) (e : Exit) (F : Fr) (A : List Asn) : Prop := (∀ l, e ≠ .goto l) ∧ Q e F A
theorem Wc_scope {c : Code} (h : Wc P B N c F A (scopeQ Q)) : Wc P B N (.scope c) F A Q := fun ro R a w hk hr hs =>
  wpIn_scope (wpIn_mono (h ro R a w hk hr hs) (fun e a' w' ⟨Ds, F', A', hd, hr', hs', hq⟩ => ⟨hq.1, Ds, F', A', hd, hr', hs', hq.2⟩))
theorem scopeQ_normal (h : Q .normal F A) : scopeQ Q .normal F A := ⟨fun _ e => (nomatch e), h⟩
theorem scopeQ_ret (h : Q .ret F A) : scopeQ Q .ret F A := ⟨fun _ e => (nomatch e), h⟩
theorem scopeQ_exit {id : Nat} (h : Q (.exit id) F A) : scopeQ Q (.exit id) F A := ⟨fun _ e => (nomatch e), h⟩
end code
end Go.Sl
