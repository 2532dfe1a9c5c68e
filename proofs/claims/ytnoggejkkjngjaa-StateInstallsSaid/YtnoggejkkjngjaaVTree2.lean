/- Package sorted: setting and deleting. Conditions: levels and counts are bounded. -/
import Derived.Test.YtnoggejkkjngjaaVTree
set_option maxHeartbeats 8000000
set_option linter.unusedVariables false
set_option linter.unusedSimpArgs false
set_option maxRecDepth 100000
namespace Go.Proofs.Ytnoggejkkjngjaa
open Go Go.Sl
attribute [local irreducible] Go.Sl.Wl Go.Sl.Wc Go.Sl.thenQ Go.Sl.blkQ Go.Sl.loopQ Go.Sl.Fspec

theorem Tree.LB.mono {N M : Int} (h : N ≤ M) : ∀ {t : Tree}, t.LB N → t.LB M
  | .nil, _ => trivial
  | .node _ _ _ _ _, ⟨h1, h2, h3⟩ => ⟨by omega, h2.mono h, h3.mono h⟩
theorem Tree.LB.lev {N : Int} {t : Tree} (hN : 0 ≤ N) (h : t.LB N) : 0 ≤ t.lev ∧ t.lev ≤ N := by
  cases t with
  | nil => exact ⟨Int.le_refl _, hN⟩
  | node => exact h.1
theorem Tree.LB.skew {N : Int} {t : Tree} (h : t.LB N) : t.skew.LB N := by
  unfold Tree.skew
  split
  · split
    · exact ⟨h.2.1.1, h.2.1.2.1, h.1, h.2.1.2.2, h.2.2⟩
    · exact h
  · exact h
theorem Tree.LB.split {N : Int} {t : Tree} (h : t.LB N) : t.split.LB (N + 1) := by
  have h' : t.LB (N + 1) := h.mono (by omega)
  unfold Tree.split
  split
  · split
    · have h1 := h.2.2.1
      exact ⟨by omega, ⟨h'.1, h'.2.1, h'.2.2.2.1⟩, h'.2.2.2.2⟩
    · exact h'
  · exact h'
theorem Tree.LB.cut {N M : Int} {t : Tree} (h : t.LB N) (hM : 0 ≤ M) : (t.cut M).LB N := by
  cases t with
  | nil => trivial
  | node l k v lv r =>
    have := h.1
    simp only [Tree.cut]
    split
    · exact ⟨by omega, h.2⟩
    · exact h
theorem Tree.LB.low1 {N : Int} {t : Tree} (h : t.LB N) : t.low1.LB N := by
  cases t with
  | nil => trivial
  | node l k v lv r =>
    have h1 := h.1
    have hl := h.2.1.lev (by omega); have hr := h.2.2.lev (by omega)
    simp only [Tree.low1]
    split
    · exact ⟨by omega, h.2.1, h.2.2.cut (by omega)⟩
    · exact h
theorem Tree.LB.onGreat {N : Int} {t : Tree} {f : Tree → Tree} (h : t.LB N) (hf : ∀ r : Tree, r.LB N → (f r).LB N) : (t.onGreat f).LB N := by
  cases t with
  | nil => trivial
  | node l k v lv r => exact ⟨h.1, h.2.1, hf r h.2.2⟩
theorem Tree.LB.lower {N : Int} {t : Tree} (h : t.LB N) : t.lower.LB (N + 2) := by
  unfold Tree.lower
  have h3 : ((t.low1.skew.onGreat fun r => r.skew.onGreat Tree.skew).split).LB (N + 1) := (h.low1.skew.onGreat fun r hr => hr.skew.onGreat fun q hq => hq.skew).split
  have h4 : ((t.low1.skew.onGreat fun r => r.skew.onGreat Tree.skew).split).LB (N + 2) := h3.mono (by omega)
  revert h3 h4
  generalize (t.low1.skew.onGreat fun r => r.skew.onGreat Tree.skew).split = u
  intro h3 h4
  cases u with
  | nil => trivial
  | node l k v lv r => exact ⟨h4.1, h4.2.1, by have := h3.2.2.split; rwa [show N + 1 + 1 = N + 2 by omega] at this⟩
def Tree.isNode : Tree → Prop
  | .nil => False
  | .node _ _ _ _ _ => True
theorem isNode_skew {t : Tree} (h : t.isNode) : t.skew.isNode := by
  unfold Tree.skew
  split
  · split <;> trivial
  · exact h
theorem isNode_split {t : Tree} (h : t.isNode) : t.split.isNode := by
  unfold Tree.split
  split
  · split <;> trivial
  · exact h
theorem isNode_low1 {t : Tree} (h : t.isNode) : t.low1.isNode := by
  cases t with
  | nil => exact h
  | node l k v lv r => simp only [Tree.low1]; split <;> trivial
theorem isNode_onGreat {t : Tree} {f : Tree → Tree} (h : t.isNode) : (t.onGreat f).isNode := by
  cases t with
  | nil => exact h
  | node => trivial
theorem isNode_out {t : Tree} (h : t.isNode) : ∃ l k v lv r, t = .node l k v lv r := by
  cases t with
  | nil => exact h.elim
  | node l k v lv r => exact ⟨l, k, v, lv, r, rfl⟩
theorem Wc_trSome {P : Program} {B : Base} {N : Nat} {F : Fr} {A : List Asn} {Q : Exit → Fr → List Asn → Prop} {c : Code} {t : Tree} {a : Option Addr} (ht : t.isNode) (h : ∀ b : Nat, a = some ⟨b, 0, none⟩ → Wc P B N c F (TrA t a :: A) Q) :
    Wc P B N c F (TrA t a :: A) Q := by
  obtain ⟨tl, k, v, lv, tr, rfl⟩ := isNode_out ht
  exact Wc_trNode (fun b la ra e => by subst e; exact Wc_ent tr_fold (h b rfl))
theorem Wl_trSome {P : Program} {B : Base} {N : Nat} {F : Fr} {A : List Asn} {fm : Fm} {ops l : List Oper} {K : Fr → List Asn → Prop} {t : Tree} {a : Option Addr} (ht : t.isNode) (h : ∀ b : Nat, a = some ⟨b, 0, none⟩ → Wl P B N fm ops l F (TrA t a :: A) K) :
    Wl P B N fm ops l F (TrA t a :: A) K := by
  obtain ⟨tl, k, v, lv, tr, rfl⟩ := isNode_out ht
  exact Wl_trNode (fun b la ra e => by subst e; exact Wl_ent tr_fold (h b rfl))
section specs
variable (B : Base)
end specs
end Go.Proofs.Ytnoggejkkjngjaa
