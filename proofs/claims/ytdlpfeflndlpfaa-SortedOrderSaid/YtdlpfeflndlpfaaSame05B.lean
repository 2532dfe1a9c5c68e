/- SortedOrder's plain law: what is left is what was filled. No condition. -/
import Derived.Test.YtdlpfeflndlpfaaSame05
set_option linter.unusedVariables false
set_option maxRecDepth 100000
namespace Go.Proofs.Ytdlpfeflndlpfaa
open Go Go.Sl Go.ChangeShapes Go.WideShapes Go.ChangeAt Go.RowKit

theorem Ris.fill : ∀ (ks : List ByteArray) {l : KL}, Ris l → Ris (fillL l ks)
  | [], _, h => h
  | _ :: ks, _, h => Ris.fill ks h.set
theorem km_fill {k : ByteArray} : ∀ (ks : List ByteArray) {l : KL}, KM k (fillL l ks) ↔ k ∈ ks ∨ KM k l
  | [], l => by simp [fillL]
  | q :: ks, l => by
    have ih := km_fill (k := k) ks (l := lset l q q.size)
    show KM k (fillL (lset l q q.size) ks) ↔ _
    rw [ih, km_set, List.mem_cons]
    constructor
    · rintro (h | h | h)
      · exact .inl (.inr h)
      · exact .inl (.inl h.symm)
      · exact .inr h
    · rintro ((h | h) | h)
      · exact .inr (.inl h.symm)
      · exact .inl h
      · exact .inr (.inr h)
/-- What the list L does not have goes. -/
def cutL (L : KL) (l : KL) (gs : List ByteArray) : KL := gs.foldl (fun l g => if lget L g = none then ldel l g else l) l
theorem cutL_snoc (L l : KL) (gs : List ByteArray) (g : ByteArray) : cutL L l (gs ++ [g]) = if lget L g = none then ldel (cutL L l gs) g else cutL L l gs := by simp [cutL]
theorem Ris.cut (L : KL) : ∀ (gs : List ByteArray) {l : KL}, Ris l → Ris (cutL L l gs)
  | [], _, h => h
  | g :: gs, l, h => by
    show Ris (cutL L (if lget L g = none then ldel l g else l) gs)
    refine Ris.cut L gs ?_
    split
    · exact h.del
    · exact h
theorem AllSz.cut (L : KL) : ∀ (gs : List ByteArray) {l : KL}, AllSz l → AllSz (cutL L l gs)
  | [], _, h => h
  | g :: gs, l, h => by
    show AllSz (cutL L (if lget L g = none then ldel l g else l) gs)
    refine AllSz.cut L gs ?_
    split
    · exact fun x hx => h x (ldel_sub.subset hx)
    · exact h
theorem cutL_len (L : KL) : ∀ (gs : List ByteArray) (l : KL), (cutL L l gs).length ≤ l.length
  | [], _ => Nat.le_refl _
  | g :: gs, l => by
    show (cutL L (if lget L g = none then ldel l g else l) gs).length ≤ l.length
    refine Nat.le_trans (cutL_len L gs _) ?_
    split
    · exact ldel_len
    · exact Nat.le_refl _
theorem km_cut {k : ByteArray} (L : KL) : ∀ (gs : List ByteArray) {l : KL}, Ris l → (KM k (cutL L l gs) ↔ KM k l ∧ ¬ (k ∈ gs ∧ lget L k = none))
  | [], l, _ => by simp [cutL]
  | g :: gs, l, h => by
    show KM k (cutL L (if lget L g = none then ldel l g else l) gs) ↔ _
    by_cases hg : lget L g = none
    · rw [if_pos hg, km_cut L gs h.del, km_del h, List.mem_cons]
      constructor
      · rintro ⟨⟨h1, h2⟩, h3⟩
        refine ⟨h2, ?_⟩
        rintro ⟨e | e, h4⟩
        · exact h1 e.symm
        · exact h3 ⟨e, h4⟩
      · rintro ⟨h1, h2⟩
        refine ⟨⟨fun e => h2 ⟨.inl e.symm, by rw [← e]; exact hg⟩, h1⟩, fun h3 => h2 ⟨.inr h3.1, h3.2⟩⟩
    · rw [if_neg hg, km_cut L gs h, List.mem_cons]
      constructor
      · rintro ⟨h1, h2⟩
        refine ⟨h1, ?_⟩
        rintro ⟨e | e, h4⟩
        · subst e; exact hg h4
        · exact h2 ⟨e, h4⟩
      · rintro ⟨h1, h2⟩
        exact ⟨h1, fun h3 => h2 ⟨.inr h3.1, h3.2⟩⟩
theorem AllSz.nil : AllSz [] := fun x hx => by cases hx
theorem Ris.nil : Ris [] := List.Pairwise.nil
theorem order_eq (keys gone : List ByteArray) : cutL (fillL [] keys) (fillL (fillL [] gone) keys.reverse) gone = fillL [] keys := by
  have r1 : Ris (fillL [] keys) := Ris.fill _ Ris.nil
  have r2 : Ris (fillL (fillL [] gone) keys.reverse) := Ris.fill _ (Ris.fill _ Ris.nil)
  refine ris_ext (r2.cut _ _) r1 (AllSz.cut _ _ (AllSz.fill _ (AllSz.fill _ AllSz.nil))) (AllSz.fill _ AllSz.nil) (fun k => ?_)
  rw [km_cut _ _ r2, km_fill, km_fill, km_fill, lget_none r1, km_fill]
  simp only [List.mem_reverse, km_nil, or_false]
  constructor
  · rintro ⟨h1 | h1, h2⟩
    · exact h1
    · exact Classical.byContradiction fun h3 => h2 ⟨h1, h3⟩
  · exact fun h => ⟨.inl h, fun h2 => h2.2 h⟩
end Go.Proofs.Ytdlpfeflndlpfaa
