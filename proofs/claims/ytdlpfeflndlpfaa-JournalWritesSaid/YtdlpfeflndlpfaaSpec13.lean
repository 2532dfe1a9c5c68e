/- Layer 13: Start, Append, Open over a disk with power, told by what is found. Conditions: sizes far from the kind's edges. -/
import Derived.Test.YtdlpfeflndlpfaaLive13
set_option maxHeartbeats 8000000
set_option linter.unusedVariables false
set_option linter.unusedSimpArgs false
set_option maxRecDepth 100000
namespace Go.Proofs.Ytdlpfeflndlpfaa
open Go Go.Sl
attribute [local irreducible] Go.Sl.Wl Go.Sl.Wc Go.Sl.thenQ Go.Sl.blkQ Go.Sl.loopQ Go.Sl.Fspec

structure JLive (n : Nat) (st : Int) (J : Jn) (D : Dk) (h : Nat) (recs : List (List UInt8)) : Prop where
  calm : Calm n st D
  sz : J.size = n / 2
  ov : J.over = false
  st : J.started = true
  hf : J.half = (h : Int)
  live : Live D.seen J.size h J.lap J.at_ recs
  num : J.number = recs.length
theorem startV_live {n : Nat} {st : Int} {J : Jn} {D : Dk} (hc : Calm n st D) (hsz : J.size = n / 2) (hov : J.over = false) (rec : List UInt8) (hP : partsN rec.length ≤ J.size) (hlap : topN D.seen (2 * J.size) + 1 ≤ 2147483647) (hst : st ≤ 4000000000000000000) :
    (startV J D rec).1 = 0 ∧ (∃ h, JLive n (st + n + 1) (startV J D rec).2.1 (startV J D rec).2.2 h [rec]) ∧ (startV J D rec).2.1.lap = topN D.seen (2 * J.size) + 1 ∧ (startV J D rec).2.1.at_ = partsN rec.length ∧ (startV J D rec).2.1.size = J.size := by
  have hn := hc.ok.n
  obtain ⟨h, hh⟩ : ∃ h : Nat, (if J.half = 0 then 1 else 0) = h := ⟨_, rfl⟩
  have h1 : h ≤ 1 := by rw [← hh]; split <;> omega
  have hhi : (if J.half = 0 then 1 else 0 : Int) = (h : Int) := by rw [← hh]; split <;> rfl
  have hle := half_le (size := J.size) h1
  obtain ⟨e1, e2, e3⟩ := putD_calm (f := secF (topN D.seen (2 * J.size) + 1) 0 rec) (base := h * J.size + 0) (k := partsN rec.length) hc (secF_length _ _ _) (by omega) hst
  have e : startV J D rec = (0, { J with half := (h : Int), at_ := partsN rec.length, lap := topN D.seen (2 * J.size) + 1, number := 1, started := true }, (putD (secF (topN D.seen (2 * J.size) + 1) 0 rec) (h * J.size + 0) D (partsN rec.length)).1) := by
    unfold startV
    rw [if_neg (by omega), hh, hhi, if_pos e1]
  have hL := Live.start (size := J.size) h1 (by omega) hP (by omega) e3
  have hC : Calm n (st + n + 1) _ := e2.mono (by omega)
  rw [e]
  exact ⟨rfl, ⟨h, ⟨hC, hsz, hov, rfl, rfl, hL, rfl⟩⟩, rfl, rfl, rfl⟩
theorem appendV_live {n : Nat} {st : Int} {J : Jn} {D : Dk} {h : Nat} {recs : List (List UInt8)} (L : JLive n st J D h recs) (rec : List UInt8) (hP : J.at_ + partsN rec.length ≤ J.size) (hst : st ≤ 4000000000000000000) :
    (appendV J h D rec).1 = 0 ∧ JLive n (st + n + 1) (appendV J h D rec).2.1 (appendV J h D rec).2.2 h (recs ++ [rec]) ∧ (appendV J h D rec).2.1.lap = J.lap ∧ (appendV J h D rec).2.1.at_ = J.at_ + partsN rec.length ∧ (appendV J h D rec).2.1.size = J.size := by
  have hn := L.calm.ok.n
  have hsz := L.sz
  have hle := half_le (size := J.size) L.live.half
  obtain ⟨e1, e2, e3⟩ := putD_calm (f := secF J.lap J.number rec) (base := h * J.size + J.at_) (k := partsN rec.length) L.calm (secF_length _ _ _) (by omega) hst
  have e : appendV J h D rec = (0, { J with at_ := J.at_ + partsN rec.length, number := J.number + 1 }, (putD (secF J.lap J.number rec) (h * J.size + J.at_) D (partsN rec.length)).1) := by
    unfold appendV
    rw [if_neg (by omega), if_pos e1]
  have hC : Calm n (st + n + 1) _ := e2.mono (by omega)
  have hL := L.live.append (S' := (putD (secF J.lap J.number rec) (h * J.size + J.at_) D (partsN rec.length)).1.seen) hP (by rw [L.num] at e3 ⊢; exact e3)
  rw [e]
  exact ⟨rfl, ⟨hC, L.sz, L.ov, L.st, L.hf, hL, by simp [L.num]⟩, rfl, rfl, rfl⟩
section specs
variable {B : Base}
theorem start_full (j d n : Nat) (st : Int) (J : Jn) (D : Dk) (hc : Calm n st D) (hst : st ≤ 4000000000000000000) (hov : J.over = false) (hsz : J.size = n / 2) (X : Asn) (a : Option Addr) (m c : Nat) (rec : List UInt8) (hR : RdS Try.prog B [X] 1 a m c (rec.map byteV)) (hm : m ≤ 1000000000) (hP : J.size < partsN rec.length) :
    Fspec Try.prog B 38 #[.pointer (some ⟨j, 0, none⟩), .slice a m c] [cb j (JC d J) 100, DiskP d n D, X]
      (fun v A' => v = .int .i64 5 ∧ A' = [cb j (JC d J) 100, DiskP d n D, X]) := by
  have hn := hc.ok.n; have hs := hc.steps
  have e : startV J D rec = (5, J, D) := by unfold startV; rw [if_pos (.inl hP)]
  have := start_spec (B := B) j d n J D hc.ok hov hc.down hsz X a m c rec hR hm (by rw [hc.pend]; simp; omega) (by omega)
  rw [e] at this
  exact this
theorem start_live (j d n : Nat) (st : Int) (J : Jn) (D : Dk) (hc : Calm n st D) (hst : st ≤ 4000000000000000000) (hov : J.over = false) (hsz : J.size = n / 2) (X : Asn) (a : Option Addr) (m c : Nat) (rec : List UInt8) (hR : RdS Try.prog B [X] 1 a m c (rec.map byteV)) (hm : m ≤ 1000000000) (hP : partsN rec.length ≤ J.size) (hlap : topN D.seen (2 * J.size) + 1 ≤ 2147483647) :
    Fspec Try.prog B 38 #[.pointer (some ⟨j, 0, none⟩), .slice a m c] [cb j (JC d J) 100, DiskP d n D, X]
      (fun v A' => ∃ h J' D', v = .int .i64 0 ∧ (JLive n (st + n + 1) J' D' h [rec] ∧ J'.lap = topN D.seen (2 * J.size) + 1 ∧ J'.at_ = partsN rec.length ∧ J'.size = J.size) ∧ A' = [cb j (JC d J') 100, DiskP d n D', X]) := by
  have hn := hc.ok.n; have hs := hc.steps
  obtain ⟨e1, ⟨h, e2⟩, e3⟩ := startV_live hc hsz hov rec hP hlap hst
  refine (start_spec (B := B) j d n J D hc.ok hov hc.down hsz X a m c rec hR hm (by rw [hc.pend]; simp; omega) (by omega)).mono ?_
  rintro v A' ⟨rfl, rfl⟩
  exact ⟨h, _, _, by rw [e1], ⟨e2, e3⟩, rfl⟩
theorem append_full (j d n : Nat) (st : Int) (J : Jn) (D : Dk) (h : Nat) (recs : List (List UInt8)) (L : JLive n st J D h recs) (hst : st ≤ 4000000000000000000) (X : Asn) (a : Option Addr) (m c : Nat) (rec : List UInt8) (hR : RdS Try.prog B [X] 1 a m c (rec.map byteV)) (hm : m ≤ 1000000000) (hP : J.size < J.at_ + partsN rec.length) :
    Fspec Try.prog B 39 #[.pointer (some ⟨j, 0, none⟩), .slice a m c] [cb j (JC d J) 100, DiskP d n D, X]
      (fun v A' => v = .int .i64 5 ∧ A' = [cb j (JC d J) 100, DiskP d n D, X]) := by
  have hn := L.calm.ok.n; have hs := L.calm.steps; have hsz := L.sz
  have hcl := L.live.chain.le; have hrm := L.live.room
  have e : appendV J h D rec = (5, J, D) := by unfold appendV; rw [if_pos (by omega)]
  have := append_spec (B := B) j d n J D L.calm.ok L.ov L.calm.down L.st h L.hf L.live.half L.sz L.live.room (by rw [L.num]; omega) X a m c rec hR hm (by rw [L.calm.pend]; simp; omega) (by omega)
  rw [e] at this
  exact this
theorem append_live (j d n : Nat) (st : Int) (J : Jn) (D : Dk) (h : Nat) (recs : List (List UInt8)) (L : JLive n st J D h recs) (hst : st ≤ 4000000000000000000) (X : Asn) (a : Option Addr) (m c : Nat) (rec : List UInt8) (hR : RdS Try.prog B [X] 1 a m c (rec.map byteV)) (hm : m ≤ 1000000000) (hP : J.at_ + partsN rec.length ≤ J.size) :
    Fspec Try.prog B 39 #[.pointer (some ⟨j, 0, none⟩), .slice a m c] [cb j (JC d J) 100, DiskP d n D, X]
      (fun v A' => ∃ J' D', v = .int .i64 0 ∧ (JLive n (st + n + 1) J' D' h (recs ++ [rec]) ∧ J'.lap = J.lap ∧ J'.at_ = J.at_ + partsN rec.length ∧ J'.size = J.size) ∧ A' = [cb j (JC d J') 100, DiskP d n D', X]) := by
  have hn := L.calm.ok.n; have hs := L.calm.steps; have hsz := L.sz
  have hcl := L.live.chain.le; have hrm := L.live.room
  obtain ⟨e1, e2, e3⟩ := appendV_live L rec hP hst
  refine (append_spec (B := B) j d n J D L.calm.ok L.ov L.calm.down L.st h L.hf L.live.half L.sz L.live.room (by rw [L.num]; omega) X a m c rec hR hm (by rw [L.calm.pend]; simp; omega) (by omega)).mono ?_
  rintro v A' ⟨rfl, rfl⟩
  exact ⟨_, _, by rw [e1], ⟨e2, e3⟩, rfl⟩
/-- Opening what stands. -/
theorem open_live (d n : Nat) (st : Int) (J : Jn) (D : Dk) (h : Nat) (recs : List (List UInt8)) (L : JLive n st J D h recs) (hn4 : 4 ≤ n) :
    Fspec Try.prog B 34 #[.pointer (some ⟨d, 0, none⟩)] [DiskP d n D]
      (fun v A' => ∃ j a c xs, recsOf xs = recs ∧ v = .tuple #[.pointer (some ⟨j, 0, none⟩), .slice a xs.length c, .int .i64 0] ∧
        A' = cb j (JC d ⟨n / 2, (h : Int), 0, 0, 0, false, false⟩) 100 :: (RecsP a c xs ++ [DiskP d n D])) := by
  have e := L.live.open
  rw [L.sz] at e
  have := open_spec (B := B) d n D L.calm.ok hn4 L.calm.down
  rw [e] at this
  exact this
/-- Opening a new disk. -/
theorem open_new (d n : Nat) (hn4 : 4 ≤ n) (hn : n ≤ 4096) :
    Fspec Try.prog B 34 #[.pointer (some ⟨d, 0, none⟩)] [DiskP d n (Dk.new n)]
      (fun v A' => ∃ j a c, v = .tuple #[.pointer (some ⟨j, 0, none⟩), .slice a 0 c, .int .i64 0] ∧
        A' = [cb j (JC d ⟨n / 2, -1, 0, 0, 0, false, false⟩) 100, DiskP d n (Dk.new n)]) := by
  have e := openN_zero (S := (Dk.new n).seen) (size := n / 2) (fun i hi => seen_new n i (by omega)) (by omega)
  have := open_spec (B := B) d n (Dk.new n) (Dk.new_ok n (by omega)) hn4 rfl
  rw [e] at this
  refine this.conv ?_
  rintro v A' ⟨j, a, c, xs, hx, rfl, rfl⟩
  have hx : xs = [] := by simpa [recsOf] using hx
  subst hx
  exact ⟨_, ((Ent.nil (L := RecsP a c [])).appR [DiskP d n (Dk.new n)]).cons _, j, a, c, rfl, rfl⟩
end specs
end Go.Proofs.Ytdlpfeflndlpfaa
