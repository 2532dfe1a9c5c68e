/- Layer 13, the plain law: records that stand on a disk are those that are found. No condition. -/
import Derived.Test.YtepeljbgekgjcaaJour8
import Derived.Test.YtepeljbgekgjcaaSeen
set_option maxHeartbeats 8000000
set_option linter.unusedVariables false
set_option linter.unusedSimpArgs false
set_option maxRecDepth 100000
namespace Go.Proofs.Ytepeljbgekgjcaa
open Go Go.Sl
attribute [local irreducible] Go.Sl.Wl Go.Sl.Wc Go.Sl.thenQ Go.Sl.blkQ Go.Sl.loopQ Go.Sl.Fspec

theorem secL_num (lap k p P : Nat) (b : List UInt8) (h : lap < 4294967296) : num4 (secL lap k p P b) = lap := num4_be4 lap h _
theorem secL_drop60 (lap k p P : Nat) (b : List UInt8) (hb : b.length ≤ 47) : (secL lap k p P b).drop 60 = be4 lap := by
  have e : secL lap k p P b = (be4 lap ++ (be4 k ++ (be2 p ++ (be2 P ++ (be b.length 0 :: (b ++ List.replicate (47 - b.length) 0)))))) ++ be4 lap := by simp [secL]
  have hl : (be4 lap ++ (be4 k ++ (be2 p ++ (be2 P ++ (be b.length 0 :: (b ++ List.replicate (47 - b.length) 0)))))).length = 60 := by simp [be4, be2]; omega
  rw [e, ← hl, List.drop_left]
theorem be4_num (n : Nat) (h : n < 4294967296) : num4 (be4 n) = n := by
  have := num4_be4 n h []
  simpa using this
theorem secL_by12 (lap k p P : Nat) (b : List UInt8) (hb : b.length ≤ 47) : by12 (secL lap k p P b) = b.length := by
  show (be b.length 0).toNat = _
  rw [be_toNat]; omega
theorem secL_of10 (lap k p P : Nat) (b : List UInt8) (h : P < 65536) : of10 (secL lap k p P b) = P := by
  show 256 * (be P 1).toNat + (be P 0).toNat = _
  rw [be_toNat, be_toNat]; omega
theorem secL_part (lap k p P : Nat) (b : List UInt8) (hb : b.length ≤ 47) : part12 (secL lap k p P b) = b := by
  unfold part12
  rw [secL_by12 _ _ _ _ _ hb]
  have e : (secL lap k p P b).drop 13 = b ++ (List.replicate (47 - b.length) 0 ++ be4 lap) := rfl
  rw [e, List.take_left]
theorem chunk_take (r : List UInt8) (j : Nat) : r.take (j * 47) ++ chunk r j = r.take ((j + 1) * 47) := by
  unfold chunk
  rw [show (j + 1) * 47 = j * 47 + 47 by omega, List.take_add]
/-- The parts of a record stand one behind the other. -/
def Stands (S : Nat → List UInt8) (base at_ lap k : Nat) (r : List UInt8) : Prop := ∀ i, i < partsN r.length → S (base + at_ + i) = secF lap k r i
theorem recF_stands {S : Nat → List UInt8} {size base lap k at_ : Nat} {r : List UInt8} (hs : Stands S base at_ lap k r) (hlap : lap < 4294967296) (hP : partsN r.length < 65536) (hat : at_ + partsN r.length ≤ size) :
    recF S size base lap k (size - at_ + 1) at_ 1 1 [] = some (r, at_ + partsN r.length, true) := by
  have hpn : partsN r.length = (r.length - 1) / 47 + 1 := rfl
  suffices H : ∀ j, j ≤ partsN r.length → ∀ f, size - (at_ + (partsN r.length - j)) + 1 ≤ f → recF S size base lap k f (at_ + (partsN r.length - j)) (partsN r.length - j + 1) (if partsN r.length - j = 0 then 1 else partsN r.length) (r.take ((partsN r.length - j) * 47)) = some (r, at_ + partsN r.length, true) by
    have := H (partsN r.length) (Nat.le_refl _) (size - at_ + 1) (by omega)
    simpa using this
  intro j
  induction j with
  | zero =>
    intro _ f hf
    cases f with
    | zero => omega
    | succ f =>
      simp only [recF]
      rw [Nat.sub_zero, if_neg (by omega : ¬ partsN r.length = 0), if_neg (by omega), List.take_of_length_le (by omega)]
      simp; omega
  | succ j ih =>
    intro hj f hf
    cases f with
    | zero => omega
    | succ f =>
      obtain ⟨i, hi⟩ : ∃ i, partsN r.length - (j + 1) = i := ⟨_, rfl⟩
      have hi2 : partsN r.length - j = i + 1 := by omega
      have ih := ih (by omega) f (by omega)
      rw [hi2] at ih
      rw [hi]
      have hS := hs i (by omega)
      have hcl := chunk_length r i
      have hb : (chunk r i).length ≤ 47 := by omega
      simp only [recF]
      rw [← Nat.add_assoc, hS]
      unfold secF
      rw [secL_num _ _ _ _ _ hlap, secL_drop60 _ _ _ _ _ hb, be4_num _ hlap, secL_by12 _ _ _ _ _ hb, secL_of10 _ _ _ _ _ hP, secL_part _ _ _ _ _ hb]
      have hof : (if i + 1 = 1 then partsN r.length else if i = 0 then 1 else partsN r.length) = partsN r.length := by
        by_cases h0 : i = 0
        · rw [if_pos (by omega)]
        · rw [if_neg (by omega), if_neg h0]
      rw [hof, if_pos (by split <;> omega), if_neg (by omega), if_neg (by simp; omega)]
      rw [if_neg (by
        unfold Bad
        rw [secL_part _ _ _ _ _ hb]
        rintro (h | h | h)
        · exact h rfl
        · omega
        · omega)]
      rw [chunk_take]
      rw [if_neg (by omega : ¬ i + 1 = 0)] at ih
      exact ih
/-- A chain of records, from 'at_' and number 'k' on; its end. -/
def Chain (S : Nat → List UInt8) (base lap : Nat) : Nat → Nat → List (List UInt8) → Nat → Prop
  | at_, _, [], e => at_ = e
  | at_, k, r :: l, e => Stands S base at_ lap k r ∧ Chain S base lap (at_ + partsN r.length) (k + 1) l e
theorem partsN_pos (n : Nat) : 1 ≤ partsN n := by unfold partsN; omega
theorem Chain.le {S : Nat → List UInt8} {base lap : Nat} : ∀ {l : List (List UInt8)} {at_ k e : Nat}, Chain S base lap at_ k l e → at_ + l.length ≤ e
  | [], _, _, _, h => by simp [Chain] at h; subst h; simp
  | r :: l, at_, k, e, ⟨_, h⟩ => by
    have := h.le
    have := partsN_pos r.length
    simp only [List.length_cons]; omega
theorem recsF_chain {S : Nat → List UInt8} {size base lap e : Nat} (hlap : lap < 4294967296) (hsz : size < 65536) (he : e ≤ size) (hend : e = size ∨ num4 ((S (base + e)).drop 60) ≠ lap) :
    ∀ (l : List (List UInt8)) (at_ : Nat) (pre : List (List UInt8)) (f : Nat), Chain S base lap at_ pre.length l e → size - at_ ≤ f → recsF S size base lap f at_ pre = (pre ++ l, e)
  | [], at_, pre, f, h, hf => by
    simp only [Chain] at h; subst h
    cases f with
    | zero => simp [recsF]
    | succ f =>
      have hn : recF S size base lap pre.length (size - at_ + 1) at_ 1 1 [] = none := by
        rcases hend with h | h
        · rw [show size - at_ + 1 = 0 + 1 by omega]; exact recF_end (by omega)
        · simp only [recF]
          rw [if_pos (Nat.le_refl 1)]
          split
          · rfl
          · rw [if_pos (.inr (.inl h))]
      simp only [recsF, hn, List.append_nil]
  | r :: l, at_, pre, f, ⟨hs, hc⟩, hf => by
    have hle := hc.le
    have hp := partsN_pos r.length
    cases f with
    | zero => omega
    | succ f =>
      have h1 := recF_stands (size := size) hs hlap (by omega) (by omega)
      simp only [recsF, h1]
      have := recsF_chain hlap hsz he hend l (at_ + partsN r.length) (pre ++ [r]) f (by simpa using hc) (by omega)
      rw [this]; simp
theorem halfF_chain {S : Nat → List UInt8} {size base lap e : Nat} {r : List UInt8} {l : List (List UInt8)} (hl0 : 0 < lap) (hlap : lap < 4294967296) (hsz : size < 65536) (he : e ≤ size) (hend : e = size ∨ num4 ((S (base + e)).drop 60) ≠ lap) (hc : Chain S base lap 0 0 (r :: l) e) :
    num4 (S base) = lap ∧ halfF S size base = (r :: l, e) := by
  have h0 : S base = secF lap 0 r 0 := by have := hc.1 0 (partsN_pos _); simpa using this
  have h1 : num4 (S base) = lap := by rw [h0]; exact secL_num _ _ _ _ _ hlap
  refine ⟨h1, ?_⟩
  unfold halfF
  rw [h1, if_pos hl0]
  have := recsF_chain hlap hsz he hend (r :: l) 0 [] size hc (by omega)
  simpa using this
/-- A half that ends in another lap has nothing of a lap above. -/
theorem halfF_low {S : Nat → List UInt8} {size base lap : Nat} (h : size = 0 ∨ num4 ((S base).drop 60) < lap) (hn : 0 < (halfF S size base).1.length) : num4 (S base) < lap := by
  unfold halfF at hn
  split at hn
  · rcases Nat.lt_or_ge (num4 (S base)) lap with h' | h'
    · exact h'
    · exfalso
      cases size with
      | zero => simp [recsF] at hn
      | succ f =>
        have hno : recF S (f + 1) base (num4 (S base)) ([] : List (List UInt8)).length (f + 1 - 0 + 1) 0 1 1 [] = none := by
          simp only [recF]
          rw [if_pos (Nat.le_refl 1), if_neg (by omega), Nat.add_zero, if_pos (.inr (.inl (by omega)))]
        simp only [recsF, hno] at hn
        simp at hn
  · simp at hn
end Go.Proofs.Ytepeljbgekgjcaa
