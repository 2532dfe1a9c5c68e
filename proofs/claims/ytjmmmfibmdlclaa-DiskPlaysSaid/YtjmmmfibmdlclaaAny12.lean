/- Layer 12: each call told at once for all its cases, for the program and for the document's disk. -/
import Derived.Test.YtjmmmfibmdlclaaRef12
set_option linter.unusedVariables false
set_option linter.unusedSimpArgs false
set_option maxRecDepth 100000
namespace Go.Proofs.Ytjmmmfibmdlclaa
open Go Go.Sl
attribute [local irreducible] Go.Sl.Wl Go.Sl.Wc Go.Sl.thenQ Go.Sl.blkQ Go.Sl.loopQ Go.Sl.Fspec

def Dk.wr (D : Dk) (n : Nat) (i : Int) (bs : List UInt8) : Int × Dk :=
  if i < 0 ∨ (n : Int) ≤ i ∨ bs.length ≠ 64 then (1, D) else if D.down = true ∨ D.fuse = 0 then (7, D.dead) else (0, D.put i.toNat bs)
def Dk.sy (D : Dk) : Int × Dk := if D.down = true ∨ D.fuse = 0 then (7, D.dead) else (0, D.sync)
def Dk.rd (D : Dk) (n : Nat) (i : Int) : List UInt8 × Int := if i < 0 ∨ (n : Int) ≤ i then ([], 1) else if D.down = true then ([], 7) else (D.seen i.toNat, 0)

section specs
variable (B : Base)
theorem write_any (p n : Nat) (i : Int) (D : Dk) (h : D.ok n) (a : Option Addr) (m c : Nat) (bs : List UInt8) (A0 : List Asn) (hl : bs.length = m)
    (hsrc : Src Try.prog B A0 1 (.slice a m c) m (bs.map byteV)) :
    Fspec Try.prog B 13 #[.pointer (some ⟨p, 0, none⟩), .int .i64 i, .slice a m c] (DiskP p n D :: A0)
      (fun v A' => v = .int .i64 (D.wr n i bs).1 ∧ A' = DiskP p n (D.wr n i bs).2 :: A0) := by
  unfold Dk.wr
  split
  · rename_i hb
    exact write_bad B p n i D m (by omega) a c A0
  · rename_i hb
    obtain rfl : m = 64 := by omega
    split
    · rename_i hd
      exact write_down B p n i D h hd (by omega) a c A0
    · rename_i hd
      have := write_ok B p n i.toNat D h (by cases hx : D.down <;> simp_all) (fun e => hd (Or.inr e)) (by omega) a c bs A0 hl hsrc
      rwa [Int.toNat_of_nonneg (by omega)] at this
theorem sync_any (p n : Nat) (D : Dk) (h : D.ok n) :
    Fspec Try.prog B 14 #[.pointer (some ⟨p, 0, none⟩)] [DiskP p n D]
      (fun v A' => v = .int .i64 D.sy.1 ∧ A' = [DiskP p n D.sy.2]) := by
  unfold Dk.sy
  split
  · rename_i hd
    exact sync_down B p n D h hd
  · rename_i hd
    exact sync_ok B p n D h (by cases hx : D.down <;> simp_all) (fun e => hd (Or.inr e))
theorem read_any (p n : Nat) (i : Int) (D : Dk) (h : D.ok n) :
    Fspec Try.prog B 16 #[.pointer (some ⟨p, 0, none⟩), .int .i64 i] [DiskP p n D]
      (fun v A' => ∃ a m c, m = (D.rd n i).1.length ∧ v = .tuple #[.slice a m c, .int .i64 (D.rd n i).2] ∧ Ent A' [own a m c 1 ((D.rd n i).1.map byteV) 5, DiskP p n D]) := by
  unfold Dk.rd
  split
  · rename_i hb
    refine (read_bad B p n i D hb).mono fun v A' ⟨h1, h2⟩ => ⟨none, 0, 0, rfl, h1, ?_⟩
    subst h2
    exact own_nil 1 5 _
  · rename_i hb
    split
    · rename_i hd
      refine (read_down B p n i D (by omega) hd).mono fun v A' ⟨h1, h2⟩ => ⟨none, 0, 0, rfl, h1, ?_⟩
      subst h2
      exact own_nil 1 5 _
    · rename_i hd
      have hx : D.down = false := by cases hx : D.down <;> simp_all
      have := read_ok B p n i.toNat D h hx (by omega)
      rw [Int.toNat_of_nonneg (by omega)] at this
      refine this.mono fun v A' ⟨a, c, h1, h2⟩ => ⟨a, 64, c, ?_, h1, ?_⟩
      · have hsl : ((D.kept.drop (64 * i.toNat)).take 64).length = 64 := by have := h.len; simp; omega
        exact (seen_length i.toNat D.pend _ hsl (fun x hx => (h.pend x hx).2)).symm
      · subst h2; exact Ent.refl _
theorem rwrite_any (p n : Nat) (i : Int) (D : Dk) (h : D.ok n) (bs : List UInt8) :
    Fspec Try.prog B 24 #[.pointer (some ⟨p, 0, none⟩), .int .i64 i, strV bs] [RefP p n D]
      (fun v A' => v = .int .i64 (D.wr n i bs).1 ∧ A' = [RefP p n (D.wr n i bs).2]) := by
  unfold Dk.wr
  split
  · rename_i hb
    exact rwrite_bad B p n i D bs hb
  · rename_i hb
    split
    · rename_i hd
      exact rwrite_down B p n i D hd (by omega) bs (by omega)
    · rename_i hd
      have := rwrite_ok B p n i.toNat D h (by cases hx : D.down <;> simp_all) (fun e => hd (Or.inr e)) (by omega) bs (by omega)
      rwa [Int.toNat_of_nonneg (by omega)] at this
theorem rsync_any (p n : Nat) (D : Dk) (h : D.ok n) :
    Fspec Try.prog B 25 #[.pointer (some ⟨p, 0, none⟩)] [RefP p n D]
      (fun v A' => v = .int .i64 D.sy.1 ∧ A' = [RefP p n D.sy.2]) := by
  unfold Dk.sy
  split
  · rename_i hd
    exact rsync_down B p n D hd
  · rename_i hd
    exact rsync_ok B p n D h (by cases hx : D.down <;> simp_all) (fun e => hd (Or.inr e))
theorem rread_any (p n : Nat) (i : Int) (D : Dk) (h : D.ok n) :
    Fspec Try.prog B 26 #[.pointer (some ⟨p, 0, none⟩), .int .i64 i] [RefP p n D]
      (fun v A' => v = .tuple #[strV (D.rd n i).1, .int .i64 (D.rd n i).2] ∧ A' = [RefP p n D]) := by
  unfold Dk.rd
  split
  · rename_i hb
    exact rread_bad B p n i D hb
  · rename_i hb
    split
    · rename_i hd
      exact rread_down B p n i D (by omega) hd
    · rename_i hd
      have hx : D.down = false := by cases hx : D.down <;> simp_all
      have := rread_ok B p n i.toNat D hx (by omega)
      rwa [Int.toNat_of_nonneg (by omega)] at this
end specs
end Go.Proofs.Ytjmmmfibmdlclaa
