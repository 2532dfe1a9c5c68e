/- The document's journal, the plain law: what is read as a record is what stands as one. No condition. -/
import Derived.Test.YtdlpfeflndlpfaaLaw13
set_option maxHeartbeats 8000000
set_option linter.unusedVariables false
set_option linter.unusedSimpArgs false
set_option maxRecDepth 100000
namespace Go.Proofs.Ytdlpfeflndlpfaa
open Go Go.Sl
attribute [local irreducible] Go.Sl.Wl Go.Sl.Wc Go.Sl.thenQ Go.Sl.blkQ Go.Sl.loopQ Go.Sl.Fspec

theorem flat_chunk : ∀ (cs : List (List UInt8)), (∀ j c, cs[j]? = some c → c.length ≤ 47 ∧ (j + 1 < cs.length → c.length = 47)) → ∀ j c, cs[j]? = some c → chunk cs.flatten j = c
  | [], _, j, c, h => by simp at h
  | d :: l, hg, 0, c, h => by
    have h : d = c := by simpa using h
    subst h
    have h0 := hg 0 d rfl
    unfold chunk
    rw [List.flatten_cons, Nat.zero_mul, List.drop_zero]
    cases l with
    | nil => simp; exact List.take_of_length_le h0.1
    | cons e l => rw [List.take_append_of_le_length (by have := h0.2 (by simp); omega), List.take_of_length_le h0.1]
  | d :: l, hg, j + 1, c, h => by
    have hl : j < l.length := by
      rcases Nat.lt_or_ge j l.length with h' | h'
      · exact h'
      · simp [List.getElem?_eq_none h'] at h
    have h0 := (hg 0 d rfl).2 (by simp; omega)
    have ih := flat_chunk l (fun i e he => by
      have := hg (i + 1) e (by simpa using he)
      exact ⟨this.1, fun h' => this.2 (by simp; omega)⟩) j c (by simpa using h)
    unfold chunk at ih ⊢
    rw [List.flatten_cons, show (j + 1) * 47 = d.length + j * 47 by omega, ← List.drop_drop, List.drop_left]
    exact ih
theorem flat_len : ∀ (cs : List (List UInt8)), cs ≠ [] → (∀ j c, cs[j]? = some c → c.length ≤ 47 ∧ (j + 1 < cs.length → c.length = 47)) → ∃ c, cs[cs.length - 1]? = some c ∧ cs.flatten.length = 47 * (cs.length - 1) + c.length
  | [], h, _ => absurd rfl h
  | [d], _, _ => ⟨d, rfl, by simp⟩
  | d :: e :: l, _, hg => by
    have h0 := (hg 0 d rfl).2 (by simp)
    obtain ⟨c, h1, h2⟩ := flat_len (e :: l) (by simp) (fun i f he => by
      have := hg (i + 1) f (by simpa using he)
      exact ⟨this.1, fun h' => this.2 (by simp at h' ⊢; omega)⟩)
    refine ⟨c, by simpa using h1, ?_⟩
    rw [List.flatten_cons, List.length_append, h2]
    simp at h2 ⊢; omega
/-- What a record's parts are, from one on. -/
theorem recF_tail {S : Nat → List UInt8} {size base lap k : Nat} {r : List UInt8} {at' : Nat} : ∀ (fuel at_ part of : Nat) (out : List UInt8), 2 ≤ part → part ≤ of + 1 → at_ ≤ size → recF S size base lap k fuel at_ part of out = some (r, at', true) →
    ∃ cs : List (List UInt8), cs.length = of + 1 - part ∧ r = out ++ cs.flatten ∧ at' = at_ + cs.length ∧ at' ≤ size ∧ 0 < of ∧
      ∀ j c, cs[j]? = some c → S (base + at_ + j) = secL lap k (part + j) of c ∧ c.length ≤ 47 ∧ (part + j < of → c.length = 47) ∧ (part + j = of → 1 < of → 0 < c.length)
  | 0, _, _, _, _, _, _, _, h => by simp [recF] at h
  | fuel + 1, at_, part, of, out, h2, hp, ha, h => by
    simp only [recF] at h
    rw [if_neg (show ¬ part = 1 by omega)] at h
    by_cases p1 : part ≤ of
    · rw [if_pos p1] at h
      by_cases p2 : size ≤ at_
      · rw [if_pos p2] at h; cases h
      · rw [if_neg p2] at h
        by_cases p3 : num4 (S (base + at_)) ≠ lap ∨ num4 ((S (base + at_)).drop 60) ≠ lap ∨ 47 < by12 (S (base + at_))
        · rw [if_pos p3] at h; cases h
        · rw [if_neg p3] at h
          by_cases p4 : Bad lap k part of (S (base + at_))
          · rw [if_pos p4] at h; cases h
          · rw [if_neg p4] at h
            obtain ⟨cs, h1, h3, h4, h5, h6, h7⟩ := recF_tail fuel _ _ _ _ (by omega) (by omega) (by omega) h
            have hpl : (part12 (S (base + at_))).length ≤ 47 := by unfold part12; rw [List.length_take]; omega
            unfold Bad at p4
            have q1 : S (base + at_) = secL lap k part of (part12 (S (base + at_))) := Classical.not_not.1 fun hh => p4 (.inl hh)
            refine ⟨part12 (S (base + at_)) :: cs, by simp; omega, by rw [h3]; simp, by simp; omega, h5, h6, fun j c hj => ?_⟩
            cases j with
            | zero =>
              have hj : part12 (S (base + at_)) = c := by simpa using hj
              rw [← hj]
              exact ⟨q1, hpl, fun h' => Nat.le_antisymm hpl (Nat.le_of_not_lt fun h'' => p4 (.inr (.inl ⟨h', h''⟩))), fun h' h'' => Nat.pos_of_ne_zero fun h0 => p4 (.inr (.inr ⟨h', h'', h0⟩))⟩
            | succ j =>
              have := h7 j c (by simpa using hj)
              rw [show base + at_ + (j + 1) = base + (at_ + 1) + j by omega, show part + (j + 1) = part + 1 + j by omega]
              exact this
    · rw [if_neg p1] at h
      simp only [Option.some.injEq, Prod.mk.injEq, decide_eq_true_eq] at h
      obtain ⟨rfl, rfl, h0⟩ := h
      exact ⟨[], by simp; omega, by simp, by simp, ha, h0, fun j c hj => by simp at hj⟩
/-- What is found to be a record stands as one. -/
theorem recF_sound {S : Nat → List UInt8} {size base lap k at_ at' fuel : Nat} {r : List UInt8} (ha : at_ ≤ size) (h : recF S size base lap k fuel at_ 1 1 [] = some (r, at', true)) :
    Stands S base at_ lap k r ∧ at' = at_ + partsN r.length ∧ at' ≤ size ∧ partsN r.length < 65536 := by
  cases fuel with
  | zero => simp [recF] at h
  | succ fuel =>
    simp only [recF] at h
    rw [if_pos (Nat.le_refl 1), if_pos True.intro] at h
    by_cases p2 : size ≤ at_
    · rw [if_pos p2] at h; cases h
    · rw [if_neg p2] at h
      by_cases p3 : num4 (S (base + at_)) ≠ lap ∨ num4 ((S (base + at_)).drop 60) ≠ lap ∨ 47 < by12 (S (base + at_))
      · rw [if_pos p3] at h; cases h
      · rw [if_neg p3] at h
        obtain ⟨n, hn⟩ : ∃ n, of10 (S (base + at_)) = n := ⟨_, rfl⟩
        have hn6 : n < 65536 := by
          have := u8_lt ((S (base + at_)).getD 10 0); have := u8_lt ((S (base + at_)).getD 11 0)
          rw [← hn]; unfold of10; omega
        rw [hn] at h
        by_cases p4 : Bad lap k 1 n (S (base + at_))
        · rw [if_pos p4] at h; cases h
        · rw [if_neg p4] at h
          by_cases hn0 : n = 0
          · exfalso
            subst hn0
            cases fuel with
            | zero => simp [recF] at h
            | succ f => simp [recF] at h
          obtain ⟨cs, h1, h3, h4, h5, h6, h7⟩ := recF_tail fuel _ _ _ _ (by omega) (by omega) (by omega) h
          have hpl : (part12 (S (base + at_))).length ≤ 47 := by unfold part12; rw [List.length_take]; omega
          unfold Bad at p4
          have q1 : S (base + at_) = secL lap k 1 n (part12 (S (base + at_))) := Classical.not_not.1 fun hh => p4 (.inl hh)
          obtain ⟨ds, hds⟩ : ∃ ds, ds = part12 (S (base + at_)) :: cs := ⟨_, rfl⟩
          have hdl : ds.length = n := by rw [hds]; simp; omega
          have hr : r = ds.flatten := by rw [h3, hds]; simp
          have hall : ∀ j c, ds[j]? = some c → S (base + at_ + j) = secL lap k (1 + j) n c ∧ c.length ≤ 47 ∧ (1 + j < n → c.length = 47) ∧ (1 + j = n → 1 < n → 0 < c.length) := fun j c hj => by
            rw [hds] at hj
            cases j with
            | zero =>
              have hj : part12 (S (base + at_)) = c := by simpa using hj
              rw [← hj]
              exact ⟨q1, hpl, fun h' => Nat.le_antisymm hpl (Nat.le_of_not_lt fun h'' => p4 (.inr (.inl ⟨h', h''⟩))), fun h' h'' => Nat.pos_of_ne_zero fun h0 => p4 (.inr (.inr ⟨h', h'', h0⟩))⟩
            | succ j =>
              have := h7 j c (by simpa using hj)
              rw [show base + at_ + (j + 1) = base + (at_ + 1) + j by omega, show 1 + (j + 1) = 1 + 1 + j by omega]
              exact this
          have hg : ∀ j c, ds[j]? = some c → c.length ≤ 47 ∧ (j + 1 < ds.length → c.length = 47) := fun j c hj => ⟨(hall j c hj).2.1, fun h' => (hall j c hj).2.2.1 (by omega)⟩
          obtain ⟨last, hl1, hl2⟩ := flat_len ds (by rw [hds]; simp) hg
          have hl3 := hall _ _ hl1
          have hP : partsN r.length = n := by
            rw [hr, hl2, hdl]
            unfold partsN
            have g1 := hl3.2.1
            rw [hdl] at hl3
            by_cases hn1 : n = 1
            · subst hn1; omega
            · have g2 := hl3.2.2.2 (by omega) (by omega)
              omega
          refine ⟨fun i hi => ?_, by rw [hP, h4]; omega, h5, by omega⟩
          obtain ⟨c, hc⟩ : ∃ c, ds[i]? = some c := ⟨_, List.getElem?_eq_getElem (by omega)⟩
          unfold secF
          rw [hP, hr, flat_chunk ds hg i c hc, Nat.add_comm i 1]
          exact (hall i c hc).1
/-- The parts' texts, one behind the other. -/
def catP (S : Nat → List UInt8) (base at_ : Nat) : Nat → List UInt8
  | 0 => []
  | i + 1 => catP S base at_ i ++ ((S (base + at_ + i)).drop 13).take (min 47 (by12 (S (base + at_ + i))))
theorem catP_stands {S : Nat → List UInt8} {base at_ lap k : Nat} {r : List UInt8} (h : Stands S base at_ lap k r) : ∀ i, i ≤ partsN r.length → catP S base at_ i = r.take (i * 47)
  | 0, _ => by simp [catP]
  | i + 1, hi => by
    have hc := chunk_length r i
    have e := secL_part lap k (i + 1) (partsN r.length) (chunk r i) (by omega)
    have e2 := secL_by12 lap k (i + 1) (partsN r.length) (chunk r i) (by omega)
    simp only [catP]
    rw [catP_stands h i (by omega), h i (by omega), ← chunk_take]
    unfold part12 at e
    unfold secF
    rw [e2] at e ⊢
    rw [Nat.min_eq_right (by omega), e]
def RecOk (S : Nat → List UInt8) (size base lap k at_ n : Nat) : Prop := 1 ≤ n ∧ n ≤ size - at_ ∧ partsN (catP S base at_ n).length = n ∧ ∀ i, i < n → secF lap k (catP S base at_ n) i = S (base + at_ + i)
theorem recF_yes {S : Nat → List UInt8} {size base lap k at_ : Nat} (hlap : lap < 4294967296) (ha : at_ ≤ size) (h : RecOk S size base lap k at_ (of10 (S (base + at_)))) :
    recF S size base lap k (size - at_ + 1) at_ 1 1 [] = some (catP S base at_ (of10 (S (base + at_))), at_ + of10 (S (base + at_)), true) := by
  have h1 := u8_lt ((S (base + at_)).getD 10 0); have h2 := u8_lt ((S (base + at_)).getD 11 0)
  have hn6 : of10 (S (base + at_)) < 65536 := by unfold of10; omega
  generalize of10 (S (base + at_)) = n at *
  obtain ⟨g1, g2, g3, g4⟩ := h
  have := recF_stands (size := size) (S := S) (base := base) (at_ := at_) (lap := lap) (k := k) (r := catP S base at_ n) (fun i hi => (g4 i (by omega)).symm) hlap (by omega) (by omega)
  rw [g3] at this
  exact this
theorem recF_no {S : Nat → List UInt8} {size base lap k at_ : Nat} (ha : at_ ≤ size) (h : ¬ RecOk S size base lap k at_ (of10 (S (base + at_)))) (fuel : Nat) (r : List UInt8) (at' : Nat) :
    recF S size base lap k fuel at_ 1 1 [] ≠ some (r, at', true) := fun hr => h (by
  obtain ⟨g1, g2, g3, g4⟩ := recF_sound ha hr
  have hp := partsN_pos r.length
  have hn : of10 (S (base + at_)) = partsN r.length := by
    have := g1 0 hp
    rw [Nat.add_zero] at this
    rw [this]; exact secL_of10 _ _ _ _ _ g4
  have hpn : partsN r.length = (r.length - 1) / 47 + 1 := rfl
  have hc : catP S base at_ (partsN r.length) = r := (catP_stands g1 _ (Nat.le_refl _)).trans (List.take_of_length_le (by omega))
  rw [hn]
  exact ⟨hp, by omega, by rw [hc], fun i hi => by rw [hc]; exact (g1 i hi).symm⟩)
end Go.Proofs.Ytdlpfeflndlpfaa
