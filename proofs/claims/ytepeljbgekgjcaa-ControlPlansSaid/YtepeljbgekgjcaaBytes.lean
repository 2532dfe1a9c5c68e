/- Numbers as bytes, the highest first. No condition. -/
import Derived.Test.YtepeljbgekgjcaaPlainA
set_option maxHeartbeats 8000000
set_option linter.unusedVariables false
set_option linter.unusedSimpArgs false
set_option maxRecDepth 100000
namespace Go.Proofs.Ytepeljbgekgjcaa
open Go Go.Sl
attribute [local irreducible] Go.Sl.Wl Go.Sl.Wc Go.Sl.thenQ Go.Sl.blkQ Go.Sl.loopQ Go.Sl.Fspec

def num4 (l : List UInt8) : Nat := 16777216 * (l.getD 0 0).toNat + 65536 * (l.getD 1 0).toNat + 256 * (l.getD 2 0).toNat + (l.getD 3 0).toNat
def be (n k : Nat) : UInt8 := UInt8.ofNat (n / 256 ^ k)
def be4 (n : Nat) : List UInt8 := [be n 3, be n 2, be n 1, be n 0]
def be2 (n : Nat) : List UInt8 := [be n 1, be n 0]
theorem u8_lt (b : UInt8) : b.toNat < 256 := b.toNat_lt
theorem be_toNat (n k : Nat) : (be n k).toNat = n / 256 ^ k % 256 := by simp [be, UInt8.toNat_ofNat']
theorem or_disj (a b i : Nat) (hb : b < 2 ^ i) (hs : a * 2 ^ i + b < 9223372036854775808) : bitV .or .i64 ((a * 2 ^ i : Nat) : Int) (b : Int) = ((a * 2 ^ i + b : Nat) : Int) := by
  have h1 : (BitVec.ofInt 64 ((a * 2 ^ i : Nat) : Int) ||| BitVec.ofInt 64 (b : Int)).toNat = a * 2 ^ i + b := by
    rw [BitVec.toNat_or, BitVec.ofInt_natCast, BitVec.ofInt_natCast, BitVec.toNat_ofNat, BitVec.toNat_ofNat, Nat.mod_eq_of_lt (by omega), Nat.mod_eq_of_lt (by omega)]
    have := Nat.shiftLeft_add_eq_or_of_lt (a := a) (b := b) (i := i) hb
    rw [Nat.shiftLeft_eq] at this
    exact this.symm
  unfold bitV
  show IntKind.i64.wrap ((BitVec.ofInt 64 ((a * 2 ^ i : Nat) : Int) ||| BitVec.ofInt 64 (b : Int)).toNat : Int) = _
  rw [h1]
  exact IntWalk.i64_in _ (by omega)
theorem shl_nat (a k : Nat) (hk : k ≤ 64) (hs : a * 2 ^ k < 9223372036854775808) : IntKind.i64.wrap ((a : Int) * 2 ^ (min ((k : Int).toNat) IntKind.i64.bits)) = ((a * 2 ^ k : Nat) : Int) := by
  have e : min ((k : Int).toNat) IntKind.i64.bits = k := by
    have : IntKind.i64.bits = 64 := rfl
    rw [this, Int.toNat_natCast]; omega
  rw [e]
  have : (a : Int) * 2 ^ k = ((a * 2 ^ k : Nat) : Int) := by push_cast; rfl
  rw [this]
  exact IntWalk.i64_in _ (by omega)
theorem num4_or (b0 b1 b2 b3 : UInt8) (r : List UInt8) :
    bitV .or .i64 (bitV .or .i64 (bitV .or .i64 (IntKind.i64.wrap ((b0.toNat : Int) * 2 ^ (min ((24 : Int).toNat) IntKind.i64.bits))) (IntKind.i64.wrap ((b1.toNat : Int) * 2 ^ (min ((16 : Int).toNat) IntKind.i64.bits))))
      (IntKind.i64.wrap ((b2.toNat : Int) * 2 ^ (min ((8 : Int).toNat) IntKind.i64.bits)))) (b3.toNat : Int) = (num4 (b0 :: b1 :: b2 :: b3 :: r) : Int) := by
  have h0 := u8_lt b0; have h1 := u8_lt b1; have h2 := u8_lt b2; have h3 := u8_lt b3
  rw [show (24 : Int) = ((24 : Nat) : Int) from rfl, show (16 : Int) = ((16 : Nat) : Int) from rfl, show (8 : Int) = ((8 : Nat) : Int) from rfl]
  rw [shl_nat _ 24 (by omega) (by omega), shl_nat _ 16 (by omega) (by omega), shl_nat _ 8 (by omega) (by omega)]
  rw [or_disj _ (b1.toNat * 2 ^ 16) 24 (by omega) (by omega)]
  rw [show b0.toNat * 2 ^ 24 + b1.toNat * 2 ^ 16 = (b0.toNat * 256 + b1.toNat) * 2 ^ 16 by omega, or_disj _ (b2.toNat * 2 ^ 8) 16 (by omega) (by omega)]
  rw [show (b0.toNat * 256 + b1.toNat) * 2 ^ 16 + b2.toNat * 2 ^ 8 = ((b0.toNat * 256 + b1.toNat) * 256 + b2.toNat) * 2 ^ 8 by omega, or_disj _ b3.toNat 8 (by omega) (by omega)]
  simp [num4]; omega
theorem num4_be4 (n : Nat) (h : n < 4294967296) (r : List UInt8) : num4 (be4 n ++ r) = n := by
  simp only [num4, be4, List.cons_append, List.getD_cons_zero, List.getD_cons_succ, be_toNat]
  omega
theorem byte_fdiv (n k : Nat) : IntKind.u8.wrap ((n : Int).fdiv (((256 ^ k : Nat) : Int))) = ((be n k).toNat : Int) := by
  rw [IntKind.wrap_u8, be_toNat, Int.fdiv_eq_ediv_of_nonneg _ (Int.natCast_nonneg _)]
  push_cast; rfl
theorem shr_be (n i : Nat) (hi : i < 4) : IntKind.u8.wrap (((n : Nat) : Int).fdiv (2 ^ (min ((24 - 8 * (i : Int))).toNat IntKind.i64.bits))) = ((be n (3 - i)).toNat : Int) := by
  have e : (2 : Int) ^ (min ((24 - 8 * (i : Int))).toNat IntKind.i64.bits) = ((256 ^ (3 - i) : Nat) : Int) := by
    have : i = 0 ∨ i = 1 ∨ i = 2 ∨ i = 3 := by omega
    rcases this with rfl | rfl | rfl | rfl <;> decide
  rw [e]; exact byte_fdiv n _
theorem shr8_be (n : Nat) : IntKind.u8.wrap (((n : Nat) : Int).fdiv (2 ^ (min ((8 : Int)).toNat IntKind.i64.bits))) = ((be n 1).toNat : Int) := by
  have e : (2 : Int) ^ (min ((8 : Int)).toNat IntKind.i64.bits) = ((256 ^ 1 : Nat) : Int) := by decide
  rw [e]; exact byte_fdiv n _
theorem be0 (n : Nat) : IntKind.u8.wrap (n : Int) = ((be n 0).toNat : Int) := by
  rw [IntKind.wrap_u8, be_toNat]; simp
/-- How many parts a record has. -/
def partsN (n : Nat) : Nat := (n - 1) / 47 + 1
theorem quo47 (n : Nat) (h : n ≤ 9223372036854775807) : IntKind.i64.wrap (((n : Int) - 1).tdiv 47) = (((n - 1) / 47 : Nat) : Int) := by
  cases n with
  | zero => decide
  | succ n =>
    rw [show ((n + 1 : Nat) : Int) - 1 = (n : Int) by omega, Int.tdiv_eq_ediv_of_nonneg (by omega)]
    exact (fits_i64 (by omega)).trans (by simp)
/-- The sector of a part. -/
def secL (lap number part of : Nat) (b : List UInt8) : List UInt8 :=
  be4 lap ++ (be4 number ++ (be2 part ++ (be2 of ++ (be b.length 0 :: (b ++ (List.replicate (47 - b.length) 0 ++ be4 lap))))))
theorem secL_length (lap number part of : Nat) (b : List UInt8) (h : b.length ≤ 47) : (secL lap number part of b).length = 64 := by
  simp [secL, be4, be2]; omega
def secI (lap number : Nat) : Nat → List UInt8
  | 0 => List.replicate 64 0
  | i + 1 => (((secI lap number i).set i (be lap (3 - i))).set (60 + i) (be lap (3 - i))).set (4 + i) (be number (3 - i))
theorem secI_length (lap number : Nat) : ∀ i, (secI lap number i).length = 64
  | 0 => by simp [secI]
  | i + 1 => by simp [secI, secI_length lap number i]
def secH (lap number part of n : Nat) : List UInt8 :=
  (((((secI lap number 4).set 8 (be part 1)).set 9 (be part 0)).set 10 (be of 1)).set 11 (be of 0)).set 12 (be n 0)
theorem secH_eq (lap number part of n : Nat) : secH lap number part of n = be4 lap ++ (be4 number ++ (be2 part ++ (be2 of ++ (be n 0 :: (List.replicate 47 0 ++ be4 lap))))) := rfl
theorem secH_copy (lap number part of : Nat) (b : List UInt8) (h : b.length ≤ 47) : (secH lap number part of b.length).take 13 ++ (b ++ (secH lap number part of b.length).drop (13 + b.length)) = secL lap number part of b := by
  rw [secH_eq]
  have e1 : (be4 lap ++ (be4 number ++ (be2 part ++ (be2 of ++ (be b.length 0 :: (List.replicate 47 (0 : UInt8) ++ be4 lap)))))) = (be4 lap ++ (be4 number ++ (be2 part ++ (be2 of ++ [be b.length 0])))) ++ (List.replicate 47 (0 : UInt8) ++ be4 lap) := by simp
  have hl : (be4 lap ++ (be4 number ++ (be2 part ++ (be2 of ++ [be b.length 0])))).length = 13 := rfl
  rw [e1, ← hl, List.take_left, ← List.drop_drop, List.drop_left, List.drop_append_of_le_length (by simp; omega), List.drop_replicate]
  simp [secL]
theorem sat_map {L : List UInt8} {off j : Nat} {b : UInt8} (h : off = j) (hl : j < L.length) : SetAt (L.map byteV) off (.int .u8 (b.toNat : Int)) ((L.set j b).map byteV) := by
  subst h
  rw [List.map_set]
  exact SetAt.gen (by simpa using hl)
end Go.Proofs.Ytepeljbgekgjcaa
