/- Lists of pairs as the document's map keeps them: where a key stands, or would. No condition. -/
import Derived.Test.YtdlpfeflndlpfaaOrd05B
set_option linter.unusedVariables false
set_option maxRecDepth 100000
namespace Go.Proofs.Ytdlpfeflndlpfaa
open Go Go.Sl Go.ChangeShapes Go.WideShapes Go.ChangeAt Go.RowKit

def lpl : KL → ByteArray → Nat
  | [], _ => 0
  | (q, _) :: l, k => if klt q k = true then lpl l k + 1 else 0
theorem lpl_le (k : ByteArray) : ∀ l : KL, lpl l k ≤ l.length
  | [] => Nat.le_refl _
  | (q, w) :: l => by
    have := lpl_le k l
    simp only [lpl, List.length_cons]; split <;> omega
theorem lpl_lt (k : ByteArray) : ∀ (l : KL) (i : Nat), i < lpl l k → ∃ x, l[i]? = some x ∧ klt x.1 k = true
  | [], i, h => by simp [lpl] at h
  | (q, w) :: l, i, h => by
    simp only [lpl] at h
    split at h
    · rename_i hq
      cases i with
      | zero => exact ⟨(q, w), rfl, hq⟩
      | succ i =>
        obtain ⟨x, h1, h2⟩ := lpl_lt k l i (by omega)
        exact ⟨x, by simpa using h1, h2⟩
    · omega
theorem lpl_at (k : ByteArray) : ∀ (l : KL) (x : ByteArray × Int), l[lpl l k]? = some x → klt x.1 k = false
  | [], x, h => by simp at h
  | (q, w) :: l, x, h => by
    simp only [lpl] at h
    split at h
    · exact lpl_at k l x (by simpa using h)
    · rename_i hq
      have : (q, w) = x := by simpa using h
      subst this; simpa using hq
theorem keyeq {a b : ByteArray} (h : klt a b = false) (h2 : klt b a = false) : a = b :=
  Classical.byContradiction fun hn => by rw [klt_total h hn] at h2; cases h2
/-- The key stands there. -/
theorem lpl_yes (k : ByteArray) (v : Int) : ∀ (l : KL) (w : Int), l[lpl l k]? = some (k, w) →
    lget l k = some w ∧ lset l k v = l.set (lpl l k) (k, v) ∧ ldel l k = l.take (lpl l k) ++ l.drop (lpl l k + 1)
  | [], w, h => by simp at h
  | (q, u) :: l, w, h => by
    by_cases hq : klt q k = true
    · have hn : klt k q = false := klt_asymm hq
      simp only [lpl, hq, if_true] at h ⊢
      obtain ⟨h1, h2, h3⟩ := lpl_yes k v l w (by simpa using h)
      simp [lget, lset, ldel, hq, hn, h1, h2, h3]
    · simp only [lpl, hq] at h ⊢
      have : (q, u) = (k, w) := by simpa using h
      cases this
      simp [lget, lset, ldel, klt_irrefl]
/-- It doesn't. -/
theorem lpl_no (k : ByteArray) (v : Int) : ∀ (l : KL), (∀ w, l[lpl l k]? ≠ some (k, w)) →
    lget l k = none ∧ lset l k v = l.take (lpl l k) ++ (k, v) :: l.drop (lpl l k) ∧ ldel l k = l
  | [], h => by simp [lget, lset, ldel, lpl]
  | (q, u) :: l, h => by
    by_cases hq : klt q k = true
    · have hn : klt k q = false := klt_asymm hq
      simp only [lpl, hq, if_true] at h ⊢
      obtain ⟨h1, h2, h3⟩ := lpl_no k v l (fun w hw => h w (by simpa using hw))
      simp [lget, lset, ldel, hq, hn, h1, h2, h3]
    · simp only [lpl, hq] at h ⊢
      have hk : klt k q = true := klt_total (by simpa using hq) (fun e => h u (by simp [e]))
      simp [lget, lset, ldel, hk]
theorem lfrom_lpl (k : ByteArray) : ∀ l : KL, lfrom l k = l[lpl l k]?
  | [] => rfl
  | (q, u) :: l => by
    have ih := lfrom_lpl k l
    unfold lfrom at ih ⊢
    by_cases hq : klt q k = true
    · simp [lpl, hq, List.find?, ih]
    · have hq' : klt q k = false := by simpa using hq
      simp [lpl, List.find?, hq']
/-- The rows that the lists lie in. -/
def pcs (l : KL) : List Value := l.flatMap fun x => [.string x.1, .int .i64 x.2]
theorem pcs_cons (x : ByteArray × Int) (l : KL) : pcs (x :: l) = .string x.1 :: .int .i64 x.2 :: pcs l := rfl
theorem pcs_app (l r : KL) : pcs (l ++ r) = pcs l ++ pcs r := by unfold pcs; exact List.flatMap_append
theorem pcs_len : ∀ l : KL, (pcs l).length = l.length * 2
  | [] => rfl
  | x :: l => by rw [pcs_cons]; simp [pcs_len l]; omega
theorem pcs_get : ∀ (l : KL) (i : Nat) (x : ByteArray × Int), l[i]? = some x → (pcs l)[i * 2]? = some (.string x.1) ∧ (pcs l)[i * 2 + 1]? = some (.int .i64 x.2)
  | [], i, x, h => by simp at h
  | y :: l, 0, x, h => by
    have : y = x := by simpa using h
    subst this; exact ⟨rfl, rfl⟩
  | y :: l, i + 1, x, h => by
    obtain ⟨h1, h2⟩ := pcs_get l i x (by simpa using h)
    rw [pcs_cons, show (i + 1) * 2 = i * 2 + 2 by omega, show i * 2 + 2 + 1 = (i * 2 + 1) + 2 by omega]
    exact ⟨by simpa using h1, by simpa using h2⟩
theorem pcs_cut {l : KL} {i : Nat} {x : ByteArray × Int} (hx : l[i]? = some x) : ((pcs l).drop (i * 2)).take 2 = [.string x.1, .int .i64 x.2] := by
  obtain ⟨g0, g1⟩ := pcs_get l i x hx
  have h0 : i * 2 + 1 < (pcs l).length := by
    have := (List.getElem?_eq_some_iff.1 hx).1
    rw [pcs_len]; omega
  rw [List.drop_eq_getElem_cons (by omega), List.take_succ_cons, List.drop_eq_getElem_cons h0, List.take_succ_cons]
  rw [List.getElem?_eq_getElem (by omega)] at g0 g1
  simp at g0 g1
  simp [g0, g1]
theorem pcs_take : ∀ (l : KL) (i : Nat), (pcs l).take (i * 2) = pcs (l.take i)
  | [], i => by simp [pcs]
  | y :: l, 0 => by simp [pcs]
  | y :: l, i + 1 => by
    rw [pcs_cons, show (i + 1) * 2 = i * 2 + 2 by omega, List.take_succ_cons, List.take_succ_cons, pcs_take l i]; rfl
theorem pcs_drop : ∀ (l : KL) (i : Nat), (pcs l).drop (i * 2) = pcs (l.drop i)
  | [], i => by simp [pcs]
  | y :: l, 0 => by simp [pcs]
  | y :: l, i + 1 => by
    rw [pcs_cons, show (i + 1) * 2 = i * 2 + 2 by omega, List.drop_succ_cons, List.drop_succ_cons, pcs_drop l i]; rfl
theorem pcs_set : ∀ (l : KL) (i : Nat) (k : ByteArray) (w v : Int), l[i]? = some (k, w) → (pcs l).set (i * 2 + 1) (.int .i64 v) = pcs (l.set i (k, v))
  | [], i, k, w, v, h => by simp at h
  | y :: l, 0, k, w, v, h => by
    have : y = (k, w) := by simpa using h
    subst this; rfl
  | y :: l, i + 1, k, w, v, h => by
    have ih := pcs_set l i k w v (by simpa using h)
    rw [pcs_cons, show (i + 1) * 2 + 1 = (i * 2 + 1) + 2 by omega, List.set_cons_succ, List.set_cons_succ, ih]; rfl
theorem pcs_cell : ∀ l : KL, (pcs l).all isCell = true
  | [] => rfl
  | x :: l => by rw [pcs_cons]; simp [isCell, pcs_cell l]
theorem pcs_nil {l : KL} (h : pcs l = []) : l = [] := by cases l with
  | nil => rfl
  | cons x l => rw [pcs_cons] at h; cases h
end Go.Proofs.Ytdlpfeflndlpfaa
