/- Plain lists for layer 12: sectors of a row of bytes. No Go in sight. -/
import Derived.Test.YtepeljbgekgjcaaDisk2
set_option maxHeartbeats 8000000
set_option linter.unusedVariables false
set_option linter.unusedSimpArgs false
set_option maxRecDepth 100000
namespace Go.Proofs.Ytepeljbgekgjcaa
open Go Go.Sl
attribute [local irreducible] Go.Sl.Wl Go.Sl.Wc Go.Sl.thenQ Go.Sl.blkQ Go.Sl.loopQ Go.Sl.Fspec

def sec (K : List UInt8) (i : Nat) : List UInt8 := (K.drop (64 * i)).take 64
theorem sec_get (K : List UInt8) (i j : Nat) : (sec K i)[j]? = if j < 64 then K[64 * i + j]? else none := by
  simp [sec, List.getElem?_take, List.getElem?_drop]
theorem crash1_get (K : List UInt8) (q : Nat × List UInt8) (m j : Nat) (hK : 64 * q.1 + 64 ≤ K.length) (hq : q.2.length = 64) (hm : m ≤ 64) :
    (crash1 K q m)[j]? = if 64 * q.1 ≤ j ∧ j < 64 * q.1 + m then q.2[j - 64 * q.1]? else K[j]? := by
  have hl : (K.take (64 * q.1)).length = 64 * q.1 := by simp; omega
  have hl2 : (q.2.take m).length = m := by simp; omega
  unfold crash1
  by_cases h1 : j < 64 * q.1
  · rw [List.getElem?_append_left (by omega), if_neg (by omega), List.getElem?_take, if_pos h1]
  · rw [List.getElem?_append_right (by omega), hl]
    by_cases h2 : j < 64 * q.1 + m
    · rw [List.getElem?_append_left (by omega), if_pos ⟨by omega, h2⟩, List.getElem?_take, if_pos (by omega)]
    · rw [List.getElem?_append_right (by omega), hl2, if_neg (by omega), List.getElem?_drop]
      congr 1; omega
theorem putK_eq (K : List UInt8) (q : Nat × List UInt8) (hq : q.2.length = 64) : putK K q = crash1 K q 64 := by
  unfold putK crash1
  rw [List.take_of_length_le (by omega : q.2.length ≤ 64)]
theorem sec_crash1 (K : List UInt8) (i : Nat) (b : List UInt8) (m : Nat) (hK : 64 * i + 64 ≤ K.length) (hb : b.length = 64) (hm : m ≤ 64) : sec (crash1 K (i, b) m) i = b.take m ++ (sec K i).drop m := by
  apply List.ext_getElem?
  intro j
  rw [sec_get, crash1_get K (i, b) m _ hK hb hm]
  by_cases hj : j < m
  · rw [if_pos (by omega), if_pos ⟨by simp only; omega, by simp only; omega⟩, List.getElem?_append_left (by simp; omega), List.getElem?_take, if_pos hj]
    congr 1; simp only; omega
  · rw [List.getElem?_append_right (by simp; omega), List.getElem?_drop, sec_get]
    have : (b.take m).length = m := by simp; omega
    rw [this]
    by_cases h64 : j < 64
    · rw [if_pos h64, if_neg (by simp only; omega), if_pos (by omega)]; congr 1; omega
    · rw [if_neg h64, if_neg (by omega)]
theorem sec_crash1_ne (K : List UInt8) (i k : Nat) (b : List UInt8) (m : Nat) (hK : 64 * i + 64 ≤ K.length) (hb : b.length = 64) (hm : m ≤ 64) (hne : k ≠ i) : sec (crash1 K (i, b) m) k = sec K k := by
  apply List.ext_getElem?
  intro j
  rw [sec_get, sec_get, crash1_get K (i, b) m _ hK hb hm]
  by_cases hj : j < 64
  · rw [if_pos hj, if_pos hj, if_neg (by simp only; omega)]
  · rw [if_neg hj, if_neg hj]
theorem sec_put (K : List UInt8) (i : Nat) (b : List UInt8) (hK : 64 * i + 64 ≤ K.length) (hb : b.length = 64) : sec (putK K (i, b)) i = b := by
  rw [putK_eq _ _ hb, sec_crash1 K i b 64 hK hb (by omega), List.take_of_length_le (by omega)]
  have : (sec K i).length ≤ 64 := by simp [sec]; omega
  rw [List.drop_eq_nil_of_le this]; simp
theorem sec_put_ne (K : List UInt8) (i k : Nat) (b : List UInt8) (hK : 64 * i + 64 ≤ K.length) (hb : b.length = 64) (hne : k ≠ i) : sec (putK K (i, b)) k = sec K k := by
  rw [putK_eq _ _ hb, sec_crash1_ne K i k b 64 hK hb (by omega) hne]

theorem and7 (i : Int) : ∃ j : Nat, j < 8 ∧ bitV .and .i64 i 7 = j := by
  refine ⟨(BitVec.ofInt 64 i &&& BitVec.ofInt 64 7).toNat, ?_, ?_⟩
  · rw [BitVec.toNat_and]
    have : (BitVec.ofInt 64 7).toNat = 7 := by decide
    rw [this]
    have := Nat.and_le_right (n := (BitVec.ofInt 64 i).toNat) (m := 7)
    omega
  · have h : (BitVec.ofInt 64 i &&& BitVec.ofInt 64 7).toNat ≤ 7 := by
      rw [BitVec.toNat_and]
      have : (BitVec.ofInt 64 7).toNat = 7 := by decide
      rw [this]; exact Nat.and_le_right
    unfold bitV
    show IntKind.i64.wrap ((BitVec.ofInt 64 i &&& BitVec.ofInt 64 7).toNat : Int) = _
    exact IntWalk.i64_in _ (by omega)

/-- The disk of 'DiskKeeps', behind its writes and its crash. -/
def kp3 (j : Nat) (a : List UInt8) : Dk := (((Dk.new 9).put j a).put 8 a).sync
theorem kp3_ok (j : Nat) (a : List UInt8) (hj : j < 8) (ha : a.length = 64) : (kp3 j a).ok 9 := by
  refine Dk.sync_ok (Dk.put_ok (Dk.put_ok (Dk.new_ok 9 (by omega)) (by omega) ha (by simp [Dk.new]) (by simp [Dk.new])) (by omega) ha ?_ ?_) ?_ <;> simp [Dk.put, Dk.tick, Dk.new]
theorem kp3_kept (j : Nat) (a : List UInt8) : (kp3 j a).kept = putK (putK (List.replicate (64 * 9) 0) (j, a)) (8, a) := rfl
theorem kp_seen (j : Nat) (a b ch : List UInt8) (hj : j < 8) (ha : a.length = 64) (hb : b.length = 64) :
    (((kp3 j a).put j b).crash ch).seen j = b.take (nOf ch 0) ++ a.drop (nOf ch 0) ∧ (((kp3 j a).put j b).crash ch).seen 8 = a := by
  have hl1 : (putK (List.replicate (64 * 9) 0) (j, a)).length = 64 * 9 := putK_length _ _ 9 (by simp) (by simp only; omega) ha
  have hl2 : (kp3 j a).kept.length = 64 * 9 := (kp3_ok j a hj ha).len
  have hK : (((kp3 j a).put j b).crash ch).kept = crash1 (kp3 j a).kept (j, b) (nOf ch 0) := rfl
  have hs : ∀ i, (((kp3 j a).put j b).crash ch).seen i = sec (((kp3 j a).put j b).crash ch).kept i := fun _ => rfl
  rw [hs, hs, hK]
  constructor
  · rw [sec_crash1 _ j b _ (by omega) hb (nOf_le ch 0), kp3_kept, sec_put_ne _ 8 j a (by omega) ha (by omega), sec_put _ j a (by simp; omega) ha]
  · rw [sec_crash1_ne _ j 8 b _ (by omega) hb (nOf_le ch 0) (by omega), kp3_kept, sec_put _ 8 a (by omega) ha]
theorem bytes_toList (l : List UInt8) : (bytesOf l).toList = l := by
  rw [ByteArray.toList_eq]; simp [bytesOf]
theorem get_map {l : List UInt8} {k : Nat} {x : UInt8} (h : l[k]? = some x) (s : List Value) : (l.map byteV ++ s)[k]? = some (byteV x) := by
  have hk : k < l.length := by rcases Nat.lt_or_ge k l.length with h' | h'; exact h'; rw [List.getElem?_eq_none h'] at h; cases h
  rw [List.getElem?_append_left (by simpa using hk), List.getElem?_map, h]; rfl
theorem take_map {l : List UInt8} {n : Nat} (h : l.length = n) (s : List Value) : (l.map byteV ++ s).take n = l.map byteV := by
  rw [List.take_append_of_le_length (by simp [h]), List.take_of_length_le (by simp [h])]
theorem kp_tail (a b X : List UInt8) (n k : Nat) (hX : b.take n ++ a.drop n = X) (ha : a.length = 64) (hb : b.length = 64) (hn : n ≤ 64) (h : k = 64 ∨ X[k]? ≠ b[k]?) : X.drop k = a.drop k := by
  subst hX
  have hl : (b.take n).length = n := by simp; omega
  rcases h with rfl | h
  · rw [List.drop_eq_nil_of_le (by simp; omega), List.drop_eq_nil_of_le (by omega)]
  · by_cases hk : k < n
    · exact absurd (by rw [List.getElem?_append_left (by omega), List.getElem?_take, if_pos hk]) h
    · rw [List.drop_append, hl, List.drop_eq_nil_of_le (by omega), List.drop_drop, List.nil_append]
      congr 1; omega
end Go.Proofs.Ytepeljbgekgjcaa
