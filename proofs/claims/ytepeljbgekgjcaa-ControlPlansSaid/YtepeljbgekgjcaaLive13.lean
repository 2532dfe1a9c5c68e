/- Layer 13, the plain law: what Start and Append make of a disk with power. Conditions: sizes far from the kind's edges. -/
import Derived.Test.YtepeljbgekgjcaaLaw13
set_option maxHeartbeats 8000000
set_option linter.unusedVariables false
set_option linter.unusedSimpArgs false
set_option maxRecDepth 100000
namespace Go.Proofs.Ytepeljbgekgjcaa
open Go Go.Sl
attribute [local irreducible] Go.Sl.Wl Go.Sl.Wc Go.Sl.thenQ Go.Sl.blkQ Go.Sl.loopQ Go.Sl.Fspec

structure Calm (n : Nat) (st : Int) (D : Dk) : Prop where
  ok : D.ok n
  down : D.down = false
  fuse : D.fuse = -1
  pend : D.pend = []
  steps : D.steps ≤ st
theorem Calm.new (n : Nat) (h : 1 ≤ n ∧ n ≤ 4096) : Calm n 0 (Dk.new n) := ⟨Dk.new_ok n h, rfl, rfl, rfl, by simp [Dk.new]⟩
theorem Calm.mono {n : Nat} {st st' : Int} {D : Dk} (h : Calm n st D) (k : st ≤ st') : Calm n st' D := ⟨h.ok, h.down, h.fuse, h.pend, by have := h.steps; omega⟩
theorem wrN_calm {f : Nat → List UInt8} {base : Nat} {D : Dk} (hd : D.down = false) (hf : D.fuse = -1) : ∀ k, (wrN f base D k).2 = true ∧ (wrN f base D k).1.down = false ∧ (wrN f base D k).1.fuse = -1 ∧
    ∀ i, (wrN f base D k).1.seen i = if base ≤ i ∧ i < base + k then f (i - base) else D.seen i
  | 0 => ⟨rfl, hd, hf, fun i => by rw [if_neg (by omega)]; rfl⟩
  | k + 1 => by
    obtain ⟨h1, h2, h3, h4⟩ := wrN_calm (f := f) (base := base) hd hf k
    have hno : ¬ ((wrN f base D k).1.down = true ∨ (wrN f base D k).1.fuse = 0) := by rw [h2, h3]; simp
    have e : wrN f base D (k + 1) = ((wrN f base D k).1.put (base + k) (f k), true) := by
      simp only [wrN]
      rw [if_pos h1, if_neg hno]
    rw [e]
    refine ⟨rfl, h2, by simp [Dk.put, Dk.tick, h3], fun i => ?_⟩
    show ((wrN f base D k).1.put (base + k) (f k)).seen i = _
    rw [seen_put, h4]
    by_cases hi : base + k = i
    · rw [if_pos hi, if_pos (by omega)]; congr 1; omega
    · rw [if_neg hi]
      by_cases hj : base ≤ i ∧ i < base + k
      · rw [if_pos hj, if_pos (by omega)]
      · rw [if_neg hj, if_neg (by omega)]
theorem putD_calm {f : Nat → List UInt8} {base n k : Nat} {st : Int} {D : Dk} (h : Calm n st D) (hf : ∀ i, (f i).length = 64) (hk : base + k ≤ n) (hs : st ≤ 4000000000000000000) :
    (putD f base D k).2 = true ∧ Calm n (st + k + 1) (putD f base D k).1 ∧ ∀ i, (putD f base D k).1.seen i = if base ≤ i ∧ i < base + k then f (i - base) else D.seen i := by
  have hn := h.ok.n; have hst := h.steps
  have hpl : D.pend.length = 0 := by rw [h.pend]; rfl
  obtain ⟨e1, e2, e3, e4⟩ := wrN_calm (f := f) (base := base) h.down h.fuse k
  obtain ⟨g1, g2, g3⟩ := wrN_ok h.ok hf k hk (by omega) (by omega)
  have hno : ¬ ((wrN f base D k).1.down = true ∨ (wrN f base D k).1.fuse = 0) := by rw [e2, e3]; simp
  have e : putD f base D k = ((wrN f base D k).1.sync, true) := by
    unfold putD
    rw [if_pos e1, if_neg hno]
  rw [e]
  refine ⟨rfl, ⟨Dk.sync_ok g1 (by omega), e2, by simp [Dk.sync, Dk.tick, e3], rfl, by simp only [Dk.sync, Dk.tick]; omega⟩, fun i => ?_⟩
  show (wrN f base D k).1.sync.seen i = _
  rw [seen_sync g1, e4]
/-- A half with a lap's records, above all other laps. -/
structure Live (S : Nat → List UInt8) (size h lap at_ : Nat) (recs : List (List UInt8)) : Prop where
  half : h ≤ 1
  lap0 : 0 < lap
  lap1 : lap < 4294967296
  room : at_ ≤ size
  small : size < 65536
  some : recs ≠ []
  chain : Chain S (h * size) lap 0 0 recs at_
  low : ∀ i, i < 2 * size → ¬ (h * size ≤ i ∧ i < h * size + at_) → num4 ((S i).drop 60) < lap
theorem Live.pos {S : Nat → List UInt8} {size h lap at_ : Nat} {recs : List (List UInt8)} (L : Live S size h lap at_ recs) : 1 ≤ at_ := by
  have h1 := L.chain.le
  have := L.some
  cases recs with
  | nil => exact absurd rfl this
  | cons r l => simp at h1; omega
theorem half_le {h size : Nat} (hh : h ≤ 1) : h * size + size ≤ 2 * size := by
  have : h = 0 ∨ h = 1 := by omega
  rcases this with rfl | rfl <;> omega
theorem Live.open {S : Nat → List UInt8} {size h lap at_ : Nat} {recs : List (List UInt8)} (L : Live S size h lap at_ recs) : openN S size 2 = (recs, lap, (h : Int)) := by
  have hle := half_le (size := size) L.half
  have hpos := L.pos; have hat := L.room
  obtain ⟨r, l, rfl⟩ : ∃ r l, recs = r :: l := by
    cases recs with
    | nil => exact absurd rfl L.some
    | cons r l => exact ⟨r, l, rfl⟩
  obtain ⟨h1, h2⟩ := halfF_chain L.lap0 L.lap1 L.small L.room (by
    by_cases he : at_ = size
    · exact .inl he
    · right
      have := L.low (h * size + at_) (by omega) (by omega)
      omega) L.chain
  have hh := L.half
  have hcase : h = 0 ∨ h = 1 := by omega
  rcases hcase with rfl | rfl
  · have hlow : 0 < (halfF S size (1 * size)).1.length → num4 (S (1 * size)) < lap := halfF_low (.inr (L.low (1 * size) (by omega) (by omega)))
    have e1 : openN S size 1 = (r :: l, lap, ((0 : Nat) : Int)) := by
      show (if 0 < (halfF S size (0 * size)).1.length ∧ (openN S size 0).2.1 < num4 (S (0 * size)) then _ else _) = _
      rw [h2, h1, if_pos ⟨by simp, by show 0 < lap; exact L.lap0⟩]
    show (if 0 < (halfF S size (1 * size)).1.length ∧ (openN S size 1).2.1 < num4 (S (1 * size)) then _ else _) = _
    rw [e1, if_neg (fun hc => by have := hlow hc.1; have := hc.2; simp only at this; omega)]
  · have hlow : 0 < (halfF S size (0 * size)).1.length → num4 (S (0 * size)) < lap := halfF_low (.inr (L.low (0 * size) (by omega) (by omega)))
    have e1 : (openN S size 1).2.1 < lap := by
      show (if 0 < (halfF S size (0 * size)).1.length ∧ (openN S size 0).2.1 < num4 (S (0 * size)) then ((halfF S size (0 * size)).1, num4 (S (0 * size)), ((0 : Nat) : Int)) else openN S size 0).2.1 < lap
      split
      · rename_i hc; exact hlow hc.1
      · exact L.lap0
    show (if 0 < (halfF S size (1 * size)).1.length ∧ (openN S size 1).2.1 < num4 (S (1 * size)) then ((halfF S size (1 * size)).1, num4 (S (1 * size)), ((1 : Nat) : Int)) else openN S size 1) = _
    rw [h2, h1, if_pos ⟨by simp, e1⟩]
theorem topN_ge (S : Nat → List UInt8) : ∀ k i, i < k → num4 ((S i).drop 60) ≤ topN S k
  | 0, _, h => by omega
  | k + 1, i, h => by
    simp only [topN]
    by_cases hi : i = k
    · subst hi; omega
    · have := topN_ge S k i (by omega); omega
theorem topN_le (S : Nat → List UInt8) (x : Nat) : ∀ k, (∀ i, i < k → num4 ((S i).drop 60) ≤ x) → topN S k ≤ x
  | 0, _ => by simp [topN]
  | k + 1, h => by
    have := topN_le S x k (fun i hi => h i (by omega))
    have := h k (by omega)
    simp only [topN]; omega
theorem Stands.last {S : Nat → List UInt8} {base at_ lap k i : Nat} {r : List UInt8} (h : Stands S base at_ lap k r) (hl : lap < 4294967296) (hi : i < partsN r.length) : num4 ((S (base + at_ + i)).drop 60) = lap := by
  have hc := chunk_length r i
  rw [h i hi]
  unfold secF
  rw [secL_drop60 _ _ _ _ _ (by omega), be4_num _ hl]
theorem Chain.last {S : Nat → List UInt8} {base lap : Nat} (hl : lap < 4294967296) : ∀ {l : List (List UInt8)} {at_ k e i : Nat}, Chain S base lap at_ k l e → at_ ≤ i → i < e → num4 ((S (base + i)).drop 60) = lap
  | [], at_, k, e, i, h, h1, h2 => by simp only [Chain] at h; omega
  | r :: l, at_, k, e, i, ⟨hs, hc⟩, h1, h2 => by
    by_cases hi : i < at_ + partsN r.length
    · have := hs.last hl (i := i - at_) (by omega)
      rwa [show base + at_ + (i - at_) = base + i by omega] at this
    · exact hc.last hl (by omega) h2
theorem Live.top {S : Nat → List UInt8} {size h lap at_ : Nat} {recs : List (List UInt8)} (L : Live S size h lap at_ recs) : topN S (2 * size) = lap := by
  have hle := half_le (size := size) L.half
  have hpos := L.pos; have hat := L.room
  have h1 : topN S (2 * size) ≤ lap := topN_le S lap _ fun i hi => by
    by_cases hin : h * size ≤ i ∧ i < h * size + at_
    · have := L.chain.last L.lap1 (i := i - h * size) (by omega) (by omega)
      rw [show h * size + (i - h * size) = i by omega] at this
      omega
    · have := L.low i hi hin; omega
  have h2 := topN_ge S (2 * size) (h * size) (by omega)
  have h3 := L.chain.last L.lap1 (i := 0) (by omega) (by omega)
  rw [Nat.add_zero] at h3
  omega
/-- Start. -/
theorem Live.start {S S' : Nat → List UInt8} {size h : Nat} {r : List UInt8} (hh : h ≤ 1) (hsz : size < 65536) (hP : partsN r.length ≤ size) (hlap : topN S (2 * size) + 1 < 4294967296)
    (hS : ∀ i, S' i = if h * size + 0 ≤ i ∧ i < h * size + 0 + partsN r.length then secF (topN S (2 * size) + 1) 0 r (i - (h * size + 0)) else S i) : Live S' size h (topN S (2 * size) + 1) (partsN r.length) [r] := by
  refine ⟨hh, by omega, hlap, hP, hsz, by simp, ⟨fun i hi => ?_, by simp [Chain]⟩, fun i hi hn => ?_⟩
  · rw [hS, if_pos (by omega)]; congr 1; omega
  · rw [hS, if_neg (by omega)]
    have := topN_ge S (2 * size) i hi
    omega
theorem Stands.congr {S S' : Nat → List UInt8} {base at_ lap k : Nat} {r : List UInt8} (h : Stands S base at_ lap k r) (hS : ∀ i, at_ ≤ i → i < at_ + partsN r.length → S' (base + i) = S (base + i)) : Stands S' base at_ lap k r := fun i hi => by
  rw [← h i hi]
  have := hS (at_ + i) (by omega) (by omega)
  rwa [← Nat.add_assoc] at this
theorem Chain.snoc {S S' : Nat → List UInt8} {base lap : Nat} {r : List UInt8} : ∀ {l : List (List UInt8)} {at_ k e : Nat}, Chain S base lap at_ k l e → (∀ i, i < e → S' (base + i) = S (base + i)) → Stands S' base e lap (k + l.length) r → Chain S' base lap at_ k (l ++ [r]) (e + partsN r.length)
  | [], at_, k, e, h, _, hs => by
    simp only [Chain] at h; subst h
    exact ⟨by simpa using hs, rfl⟩
  | q :: l, at_, k, e, ⟨h1, h2⟩, hS, hs => by
    have hle := h2.le
    refine ⟨h1.congr fun i _ hi => hS i (by omega), h2.snoc hS ?_⟩
    rw [List.length_cons] at hs
    rwa [show k + 1 + l.length = k + (l.length + 1) by omega]
/-- Append. -/
theorem Live.append {S S' : Nat → List UInt8} {size h lap at_ : Nat} {recs : List (List UInt8)} {r : List UInt8} (L : Live S size h lap at_ recs) (hP : at_ + partsN r.length ≤ size)
    (hS : ∀ i, S' i = if h * size + at_ ≤ i ∧ i < h * size + at_ + partsN r.length then secF lap recs.length r (i - (h * size + at_)) else S i) : Live S' size h lap (at_ + partsN r.length) (recs ++ [r]) := by
  refine ⟨L.half, L.lap0, L.lap1, hP, L.small, by simp, L.chain.snoc (fun i hi => by rw [hS, if_neg (by omega)]) (fun i hi => ?_), fun i hi hn => ?_⟩
  · rw [hS, if_pos (by omega), Nat.zero_add]; congr 1; omega
  · rw [hS, if_neg (by omega)]
    exact L.low i hi (by omega)
theorem openN_zero {S : Nat → List UInt8} {size : Nat} (h : ∀ i, i < 2 * size → S i = List.replicate 64 0) (hs : 1 ≤ size) : openN S size 2 = ([], 0, -1) := by
  have hz : num4 (List.replicate 64 (0 : UInt8)) = 0 := by decide
  have e : ∀ b, b < 2 * size → halfF S size b = ([], 0) := fun b hb => by
    unfold halfF
    rw [h b hb, hz, if_neg (by omega)]
  simp only [openN, e (0 * size) (by omega), e (1 * size) (by omega), List.length_nil, Nat.lt_irrefl, false_and, if_false]
theorem topN_zero {S : Nat → List UInt8} {size : Nat} (h : ∀ i, i < 2 * size → S i = List.replicate 64 0) : topN S (2 * size) = 0 := by
  have hz : num4 ((List.replicate 64 (0 : UInt8)).drop 60) = 0 := by decide
  have := topN_le S 0 (2 * size) (fun i hi => by rw [h i hi, hz]; omega)
  omega
end Go.Proofs.Ytepeljbgekgjcaa
