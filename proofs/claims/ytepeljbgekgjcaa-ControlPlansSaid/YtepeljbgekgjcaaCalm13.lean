/- A disk with power: what Start, Append, Write and Sync make of its sectors. Conditions: sizes far from the kind's edges. -/
import Derived.Test.YtepeljbgekgjcaaLive13
set_option maxHeartbeats 8000000
set_option linter.unusedVariables false
set_option linter.unusedSimpArgs false
set_option maxRecDepth 100000
namespace Go.Proofs.Ytepeljbgekgjcaa
open Go Go.Sl
attribute [local irreducible] Go.Sl.Wl Go.Sl.Wc Go.Sl.thenQ Go.Sl.blkQ Go.Sl.loopQ Go.Sl.Fspec

/-- So many sectors put over what was there. -/
def updS (S : Nat → List UInt8) (base k : Nat) (f : Nat → List UInt8) (i : Nat) : List UInt8 := if base ≤ i ∧ i < base + k then f (i - base) else S i
theorem updS_zero (S : Nat → List UInt8) (base : Nat) (f : Nat → List UInt8) : updS S base 0 f = S := by
  funext i
  unfold updS
  rw [if_neg (by omega)]
theorem Calm.len {n : Nat} {st : Int} {D : Dk} (h : Calm n st D) (i : Nat) (hi : i < n) : (D.seen i).length = 64 :=
  seen_length i D.pend _ (by rw [List.length_take, List.length_drop, h.ok.len]; omega) (fun q hq => (h.ok.pend q hq).2)
theorem Calm.put {n : Nat} {st : Int} {D : Dk} (h : Calm n st D) (i : Nat) (bs : List UInt8) (hi : i < n) (hb : bs.length = 64) (hs : st ≤ 4000000000000000000) :
    (D.put i bs).ok n ∧ (D.put i bs).down = false ∧ (D.put i bs).fuse = -1 ∧ Calm n (st + 2) (D.put i bs).sync ∧ (D.put i bs).sync.seen = updS D.seen i 1 (fun _ => bs) := by
  have hst := h.steps
  have hpl : D.pend.length = 0 := by rw [h.pend]; rfl
  have h1 : (D.put i bs).ok n := Dk.put_ok h.ok hi hb (by omega) (by omega)
  have h2 : (D.put i bs).fuse = -1 := by simp [Dk.put, Dk.tick, h.fuse]
  have h3 : (D.put i bs).steps = D.steps + 1 := by simp [Dk.put, Dk.tick]
  refine ⟨h1, h.down, h2, ⟨Dk.sync_ok h1 (by omega), h.down, by simp [Dk.sync, Dk.tick, h2], rfl, by simp only [Dk.sync, Dk.tick, h3]; omega⟩, ?_⟩
  funext k
  rw [seen_sync h1, seen_put]
  unfold updS
  by_cases hk : i = k
  · rw [if_pos hk, if_pos (by omega)]
  · rw [if_neg hk, if_neg (by omega)]
theorem append_calm {n : Nat} {st : Int} {J : Jn} {D : Dk} {h : Nat} (hc : Calm n st D) (hsz : J.size = n / 2) (h1 : h ≤ 1) (rc : List UInt8) (hP : J.at_ + partsN rc.length ≤ J.size) (hst : st ≤ 4000000000000000000) :
    ∃ D', appendV J h D rc = (0, { J with at_ := J.at_ + partsN rc.length, number := J.number + 1 }, D') ∧ Calm n (st + n + 1) D' ∧ D'.seen = updS D.seen (h * J.size + J.at_) (partsN rc.length) (secF J.lap J.number rc) := by
  have hle := half_le (size := J.size) h1
  obtain ⟨e1, e2, e3⟩ := putD_calm (f := secF J.lap J.number rc) (base := h * J.size + J.at_) (k := partsN rc.length) hc (secF_length _ _ _) (by omega) hst
  refine ⟨_, ?_, e2.mono (by omega), funext e3⟩
  unfold appendV
  rw [if_neg (by omega), if_pos e1]
theorem append_calm5 {J : Jn} {D : Dk} {h : Nat} (rc : List UInt8) (hP : J.size < J.at_ + partsN rc.length) (hat : J.at_ ≤ J.size) : appendV J h D rc = (5, J, D) := by
  unfold appendV
  rw [if_pos (by omega)]
theorem start_calm {n : Nat} {st : Int} {J : Jn} {D : Dk} {h : Nat} (hc : Calm n st D) (hsz : J.size = n / 2) (hh : (if J.half = 0 then 1 else 0) = h) (rc : List UInt8) (hP : partsN rc.length ≤ J.size) (hl : topN D.seen (2 * J.size) + 1 ≤ 2147483647) (hst : st ≤ 4000000000000000000) :
    ∃ D', startV J D rc = (0, { J with half := (h : Int), at_ := partsN rc.length, lap := topN D.seen (2 * J.size) + 1, number := 1, started := true }, D') ∧ Calm n (st + n + 1) D' ∧ D'.seen = updS D.seen (h * J.size) (partsN rc.length) (secF (topN D.seen (2 * J.size) + 1) 0 rc) := by
  have h1 : h ≤ 1 := by rw [← hh]; split <;> omega
  have hhi : (if J.half = 0 then 1 else 0 : Int) = (h : Int) := by rw [← hh]; split <;> rfl
  have hle := half_le (size := J.size) h1
  obtain ⟨e1, e2, e3⟩ := putD_calm (f := secF (topN D.seen (2 * J.size) + 1) 0 rc) (base := h * J.size + 0) (k := partsN rc.length) hc (secF_length _ _ _) (by omega) hst
  refine ⟨_, ?_, e2.mono (by omega), funext e3⟩
  unfold startV
  rw [if_neg (by omega), hh, hhi, if_pos e1]
theorem start_calm5 {J : Jn} {D : Dk} (rc : List UInt8) (hP : J.size < partsN rc.length ∨ 2147483647 < topN D.seen (2 * J.size) + 1) : startV J D rc = (5, J, D) := by
  unfold startV
  rw [if_pos hP]
end Go.Proofs.Ytepeljbgekgjcaa
