/- JournalWrites, the plain law: what becomes of the disk's sectors. Conditions: sizes far from the kind's edges. -/
import Derived.Test.YtdlpfeflndlpfaaLawJ
set_option maxHeartbeats 8000000
set_option linter.unusedVariables false
set_option linter.unusedSimpArgs false
set_option maxRecDepth 100000
namespace Go.Proofs.Ytdlpfeflndlpfaa
open Go Go.Sl
attribute [local irreducible] Go.Sl.Wl Go.Sl.Wc Go.Sl.thenQ Go.Sl.blkQ Go.Sl.loopQ Go.Sl.Fspec

structure Op13 where
  k : Int
  i : Int
  a : Option Addr
  m : Nat
  c : Nat
  bs : List UInt8
def op13C (q : Op13) : List Value := [.int .i64 q.k, .int .i64 q.i, .slice q.a q.m q.c]
theorem op13_row : ∀ {l : List Op13} {j : Nat} {q : Op13}, l[j]? = some q → ((l.flatMap op13C).drop (j * 3)).take 3 = op13C q
  | [], j, q, h => by simp at h
  | x :: l, 0, q, h => by
    have h : x = q := by simpa using h
    subst h; rfl
  | x :: l, j + 1, q, h => by
    have ih := op13_row (l := l) (j := j) (by simpa using h)
    rw [List.flatMap_cons, show (j + 1) * 3 = (op13C x).length + j * 3 by simp [op13C]; omega, ← List.drop_drop, List.drop_left]
    exact ih
structure Op13.ok (P : Program) (B : Base) (q : Op13) : Prop where
  i : -9223372036854775808 ≤ q.i ∧ q.i ≤ 9223372036854775807
  m : q.m ≤ 140737488351232
  rd : RdS P B [] 1 q.a q.m q.c (q.bs.map byteV)
/-- So many sectors put over what was there. -/
def updS (S : Nat → List UInt8) (base k : Nat) (f : Nat → List UInt8) (i : Nat) : List UInt8 := if base ≤ i ∧ i < base + k then f (i - base) else S i
def rowsS (S : Nat → List UInt8) (n : Nat) : List Value := ((List.range n).map S).map strV
theorem rowsS_len (S : Nat → List UInt8) (n : Nat) : (rowsS S n).length = n := by simp [rowsS]
theorem updS_zero (S : Nat → List UInt8) (base : Nat) (f : Nat → List UInt8) : updS S base 0 f = S := by
  funext i
  unfold updS
  rw [if_neg (by omega)]
theorem rowsS_set (S : Nat → List UInt8) (n base k : Nat) (f : Nat → List UInt8) (h : base + k < n) : (rowsS (updS S base k f) n).set (base + k) (strV (f k)) = rowsS (updS S base (k + 1) f) n := by
  apply List.ext_getElem?
  intro i
  unfold rowsS
  rw [List.getElem?_set]
  by_cases hi : base + k = i
  · subst hi
    rw [if_pos rfl, if_pos (by simpa using h), List.getElem?_map, List.getElem?_map, List.getElem?_range h]
    simp only [Option.map_some, updS]
    rw [if_pos (by omega), Nat.add_sub_cancel_left]
  · rw [if_neg hi]
    by_cases hin : i < n
    · rw [List.getElem?_map, List.getElem?_map, List.getElem?_map, List.getElem?_map, List.getElem?_range hin]
      simp only [Option.map_some, updS]
      by_cases hb : base ≤ i ∧ i < base + k
      · rw [if_pos hb, if_pos (by omega)]
      · rw [if_neg hb, if_neg (by omega)]
    · rw [List.getElem?_eq_none (by simp; omega), List.getElem?_eq_none (by simp; omega)]
theorem rowsS_setAt (S : Nat → List UInt8) (n base k : Nat) (f : Nat → List UInt8) (sp : List Value) (off : Nat) (ho : off = base + k) (h : base + k < n) : SetAt (rowsS (updS S base k f) n ++ sp) off (strV (f k)) (rowsS (updS S base (k + 1) f) n ++ sp) := by
  subst ho
  rw [← rowsS_set S n base k f h, ← List.set_append_left _ _ (by rw [rowsS_len]; exact h)]
  exact SetAt.gen (by rw [List.length_append, rowsS_len]; omega)
theorem Calm.len {n : Nat} {st : Int} {D : Dk} (h : Calm n st D) (i : Nat) (hi : i < n) : (D.seen i).length = 64 :=
  seen_length i D.pend _ (by rw [List.length_take, List.length_drop, h.ok.len]; omega) (fun q hq => (h.ok.pend q hq).2)
theorem Calm.put {n : Nat} {st : Int} {D : Dk} (h : Calm n st D) (i : Nat) (bs : List UInt8) (hi : i < n) (hb : bs.length = 64) (hs : st ≤ 4000000000000000000) :
    (D.put i bs).ok n ∧ (D.put i bs).down = false ∧ (D.put i bs).fuse = -1 ∧ Calm n (st + 2) (D.put i bs).sync ∧ (D.put i bs).sync.seen = updS D.seen i 1 (fun _ => bs) := by
  have hst := h.steps
  have hpl : D.pend.length = 0 := by rw [h.pend]; rfl
  have h1 : (D.put i bs).ok n := Dk.put_ok h.ok hi hb (by omega) (by omega)
  have h2 : (D.put i bs).fuse = -1 := by simp [Dk.put, Dk.tick, h.fuse]
  have h3 : (D.put i bs).steps = D.steps + 1 := by simp [Dk.put, Dk.tick]
  refine ⟨h1, h.down, h2, ⟨Dk.sync_ok h1 (by omega), h.down, by simp [Dk.sync, Dk.tick, h2], rfl, by simp only [Dk.sync, Dk.tick, h3]; omega⟩, ?_⟩
  funext k
  rw [seen_sync h1, seen_put]
  unfold updS
  by_cases hk : i = k
  · rw [if_pos hk, if_pos (by omega)]
  · rw [if_neg hk, if_neg (by omega)]
theorem append_calm {n : Nat} {st : Int} {J : Jn} {D : Dk} {h : Nat} (hc : Calm n st D) (hsz : J.size = n / 2) (h1 : h ≤ 1) (rc : List UInt8) (hP : J.at_ + partsN rc.length ≤ J.size) (hst : st ≤ 4000000000000000000) :
    ∃ D', appendV J h D rc = (0, { J with at_ := J.at_ + partsN rc.length, number := J.number + 1 }, D') ∧ Calm n (st + n + 1) D' ∧ D'.seen = updS D.seen (h * J.size + J.at_) (partsN rc.length) (secF J.lap J.number rc) := by
  have hle := half_le (size := J.size) h1
  obtain ⟨e1, e2, e3⟩ := putD_calm (f := secF J.lap J.number rc) (base := h * J.size + J.at_) (k := partsN rc.length) hc (secF_length _ _ _) (by omega) hst
  refine ⟨_, ?_, e2.mono (by omega), funext e3⟩
  unfold appendV
  rw [if_neg (by omega), if_pos e1]
theorem append_calm5 {J : Jn} {D : Dk} {h : Nat} (rc : List UInt8) (hP : J.size < J.at_ + partsN rc.length) (hat : J.at_ ≤ J.size) : appendV J h D rc = (5, J, D) := by
  unfold appendV
  rw [if_pos (by omega)]
theorem start_calm {n : Nat} {st : Int} {J : Jn} {D : Dk} {h : Nat} (hc : Calm n st D) (hsz : J.size = n / 2) (hh : (if J.half = 0 then 1 else 0) = h) (rc : List UInt8) (hP : partsN rc.length ≤ J.size) (hl : topN D.seen (2 * J.size) + 1 ≤ 2147483647) (hst : st ≤ 4000000000000000000) :
    ∃ D', startV J D rc = (0, { J with half := (h : Int), at_ := partsN rc.length, lap := topN D.seen (2 * J.size) + 1, number := 1, started := true }, D') ∧ Calm n (st + n + 1) D' ∧ D'.seen = updS D.seen (h * J.size) (partsN rc.length) (secF (topN D.seen (2 * J.size) + 1) 0 rc) := by
  have h1 : h ≤ 1 := by rw [← hh]; split <;> omega
  have hhi : (if J.half = 0 then 1 else 0 : Int) = (h : Int) := by rw [← hh]; split <;> rfl
  have hle := half_le (size := J.size) h1
  obtain ⟨e1, e2, e3⟩ := putD_calm (f := secF (topN D.seen (2 * J.size) + 1) 0 rc) (base := h * J.size + 0) (k := partsN rc.length) hc (secF_length _ _ _) (by omega) hst
  refine ⟨_, ?_, e2.mono (by omega), funext e3⟩
  unfold startV
  rw [if_neg (by omega), hh, hhi, if_pos e1]
theorem start_calm5 {J : Jn} {D : Dk} (rc : List UInt8) (hP : J.size < partsN rc.length ∨ 2147483647 < topN D.seen (2 * J.size) + 1) : startV J D rc = (5, J, D) := by
  unfold startV
  rw [if_pos hP]
theorem openN_lap (S : Nat → List UInt8) (size : Nat) : ∀ h, (openN S size h).2.1 < 4294967296
  | 0 => by simp [openN]
  | h + 1 => by
    simp only [openN]
    split
    · exact num4_lt _
    · exact openN_lap S size h
theorem recsF_len (S : Nat → List UInt8) (size base lap : Nat) : ∀ (f at_ : Nat) (l : List (List UInt8)), (recsF S size base lap f at_ l).1.length ≤ l.length + f
  | 0, _, l => by simp [recsF]
  | f + 1, at_, l => by
    simp only [recsF]
    split
    · have := recsF_len S size base lap f (by assumption) (l ++ [by assumption])
      simp only [List.length_append, List.length_singleton] at this
      omega
    · simp
theorem openN_len (S : Nat → List UInt8) (size : Nat) : ∀ h, (openN S size h).1.length ≤ size
  | 0 => by simp [openN]
  | h + 1 => by
    simp only [openN]
    split
    · unfold halfF
      split
      · have := recsF_len S size (h * size) (num4 (S (h * size))) size 0 []
        simpa using this
      · simp
    · exact openN_len S size h
theorem xor_u8 (a b : Int) : ∃ y : UInt8, bitV .xor .u8 a b = (y.toNat : Int) := by
  have h : ∀ z : Int, ∃ y : UInt8, IntKind.u8.wrap z = (y.toNat : Int) := fun z => by
    refine ⟨UInt8.ofNat (z % 256).toNat, ?_⟩
    rw [IntKind.wrap_u8, UInt8.toNat_ofNat']
    omega
  unfold bitV
  exact h _
/-- A journal behind 'i' ops of a script. -/
structure WI (n i : Nat) (J : Jn) (D : Dk) (lap : Nat) : Prop where
  calm : Calm n (100 * i) D
  sz : J.size = n / 2
  ov : J.over = false
  room : J.at_ ≤ J.size
  num : J.number ≤ i
  lapb : lap ≤ 4294967296
  lp : J.started = true → lap = J.lap
  hf : J.started = true → ∃ h : Nat, h ≤ 1 ∧ J.half = (h : Int)
theorem WI.up {n i : Nat} {J : Jn} {D : Dk} {lap : Nat} (h : WI n i J D lap) : WI n (i + 1) J D lap := ⟨h.calm.mono (by omega), h.sz, h.ov, h.room, by have := h.num; omega, h.lapb, h.lp, h.hf⟩
theorem Wc_cutB {P : Program} {B : Base} {N : Nat} {F : Fr} {A : List Asn} {Q : Exit → Fr → List Asn → Prop} {α : Type} {k : Nat} {c d : Code} (L : α → List (Nat × Value)) (S : α → List Asn) (φ : α → Prop)
    (h1 : Wc P B N (.block k c) F A (loopQ (fun F' A' => ∃ x, φ x ∧ Mat F' (L x) ∧ Ent A' (S x)) Q))
    (h2 : ∀ x G, φ x → Wc P B N d (ov G (L x)) (S x) Q) : Wc P B N (.seq (.block k c) d) F A Q := Wc_cut L S φ h1 h2
end Go.Proofs.Ytdlpfeflndlpfaa
