/- Numbers as package pack writes them, the plain law. No condition. -/
import Derived.Test.YtepeljbgekgjcaaPlainA
set_option maxHeartbeats 8000000
set_option linter.unusedVariables false
set_option linter.unusedSimpArgs false
set_option maxRecDepth 100000
namespace Go.Proofs.Ytepeljbgekgjcaa
open Go Go.Sl
attribute [local irreducible] Go.Sl.Wl Go.Sl.Wc Go.Sl.thenQ Go.Sl.blkQ Go.Sl.loopQ Go.Sl.Fspec

/-- A number, seven bits a byte, the lowest first. -/
def encN (n : Nat) : List UInt8 := if n < 128 then [UInt8.ofNat n] else UInt8.ofNat (n % 128 + 128) :: encN (n / 128)
termination_by n
decreasing_by omega
theorem encN_small {n : Nat} (h : n < 128) : encN n = [UInt8.ofNat n] := by rw [encN, if_pos h]
theorem encN_big {n : Nat} (h : 128 ≤ n) : encN n = UInt8.ofNat (n % 128 + 128) :: encN (n / 128) := by rw [encN, if_neg (by omega)]
theorem encN_len2 {n : Nat} (h : n < 16384) : (encN n).length ≤ 2 := by
  by_cases h1 : n < 128
  · rw [encN_small h1]; simp
  · rw [encN_big (by omega), encN_small (by omega)]; simp
theorem encN_pos (n : Nat) : 0 < (encN n).length := by
  by_cases h1 : n < 128
  · rw [encN_small h1]; simp
  · rw [encN_big (by omega)]; simp
structure Ep where
  master : Int
  cut : Int
  forced : Bool
def encE (e : Ep) : List UInt8 := encN e.master.toNat ++ (encN e.cut.toNat ++ encN (if e.forced then 1 else 0))
/-- What lasts of a controller, as a record. -/
def encK (t : List Ep) (kind target : Int) : List UInt8 := encN t.length ++ (t.flatMap encE ++ (encN kind.toNat ++ encN target.toNat))
theorem encE_len {e : Ep} (h1 : e.master.toNat < 16384) (h2 : e.cut.toNat < 16384) : (encE e).length ≤ 6 := by
  have := encN_len2 h1; have := encN_len2 h2
  have h3 : (if e.forced then 1 else 0) < 16384 := by split <;> omega
  have := encN_len2 h3
  simp only [encE, List.length_append]; omega
theorem encT_len : ∀ {t : List Ep}, (∀ e ∈ t, e.master.toNat < 16384 ∧ e.cut.toNat < 16384) → (t.flatMap encE).length ≤ 6 * t.length
  | [], _ => by simp
  | e :: t, h => by
    have h1 := encE_len (h e (List.mem_cons_self ..)).1 (h e (List.mem_cons_self ..)).2
    have h2 := encT_len (t := t) fun x hx => h x (List.mem_cons_of_mem _ hx)
    rw [List.flatMap_cons, List.length_append, List.length_cons]; omega
theorem encK_len {t : List Ep} {kind target : Int} (h : ∀ e ∈ t, e.master.toNat < 16384 ∧ e.cut.toNat < 16384) (hl : t.length ≤ 100) (hk : kind.toNat < 16384) (ht : target.toNat < 16384) : (encK t kind target).length ≤ 606 := by
  have h1 := encT_len h
  have := encN_len2 hk; have := encN_len2 ht; have := encN_len2 (show t.length < 16384 by omega)
  simp only [encK, List.length_append]; omega
end Go.Proofs.Ytepeljbgekgjcaa
