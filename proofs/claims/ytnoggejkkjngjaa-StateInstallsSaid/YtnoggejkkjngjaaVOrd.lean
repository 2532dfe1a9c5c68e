/- Package sorted: its trees as rising lists. No condition. -/
import Derived.Test.YtnoggejkkjngjaaVTreeP
import Derived.Test.YtnoggejkkjngjaaOp
set_option linter.unusedVariables false
set_option maxRecDepth 100000
namespace Go.Proofs.Ytnoggejkkjngjaa
open Go Go.Sl Go.ChangeShapes Go.WideShapes Go.ChangeAt Go.RowKit

def Tree.inorder : Tree → List (ByteArray × VX)
  | .nil => []
  | .node l k v _ r => l.inorder ++ (k, v) :: r.inorder
theorem bl_irrefl : ∀ x : List UInt8, Op.bytesLess x x = false
  | [] => rfl
  | a :: x => by simp [Op.bytesLess, bl_irrefl x, UInt8.lt_irrefl]
theorem bl_trans : ∀ {x y z : List UInt8}, Op.bytesLess x y = true → Op.bytesLess y z = true → Op.bytesLess x z = true
  | x, y, [], _, h => by cases y <;> simp [Op.bytesLess] at h
  | [], y, c :: z, _, _ => rfl
  | a :: x, [], c :: z, h, _ => by simp [Op.bytesLess] at h
  | a :: x, b :: y, c :: z, h, k => by
    simp only [Op.bytesLess, Bool.or_eq_true, decide_eq_true_eq, Bool.and_eq_true, beq_iff_eq] at h k ⊢
    rcases h with h | ⟨rfl, h⟩
    · rcases k with k | ⟨rfl, k⟩
      · exact .inl (UInt8.lt_trans h k)
      · exact .inl h
    · rcases k with k | ⟨rfl, k⟩
      · exact .inl k
      · exact .inr ⟨rfl, bl_trans h k⟩
theorem bl_total : ∀ {x y : List UInt8}, Op.bytesLess x y = false → x ≠ y → Op.bytesLess y x = true
  | [], [], _, h => absurd rfl h
  | a :: x, [], _, _ => rfl
  | [], b :: y, h, _ => by simp [Op.bytesLess] at h
  | a :: x, b :: y, h, hn => by
    simp only [Op.bytesLess, Bool.or_eq_true, decide_eq_true_eq, Bool.and_eq_true, beq_iff_eq, Bool.or_eq_false_iff, decide_eq_false_iff_not, Bool.and_eq_false_imp] at h ⊢
    by_cases hab : a = b
    · subst hab
      exact .inr ⟨rfl, bl_total (h.2 rfl) (fun e => hn (by rw [e]))⟩
    · left
      rcases UInt8.lt_or_lt_of_ne hab with q | q
      · exact absurd q h.1
      · exact q
theorem key_ne {a b : ByteArray} (h : a ≠ b) : a.toList ≠ b.toList := fun e => h (by
  rw [ByteArray.toList_eq, ByteArray.toList_eq] at e
  exact ByteArray.ext (Array.toList_inj.1 e))
theorem klt_irrefl (a : ByteArray) : klt a a = false := bl_irrefl _
theorem klt_trans {a b c : ByteArray} (h : klt a b = true) (k : klt b c = true) : klt a c = true := bl_trans h k
theorem klt_asymm {a b : ByteArray} (h : klt a b = true) : klt b a = false := by
  cases hb : klt b a with
  | false => rfl
  | true => exact absurd (klt_trans h hb) (by rw [klt_irrefl]; simp)
theorem klt_ne {a b : ByteArray} (h : klt a b = true) : a ≠ b := fun e => by subst e; rw [klt_irrefl] at h; cases h
theorem klt_total {a b : ByteArray} (h : klt a b = false) (hn : a ≠ b) : klt b a = true := bl_total h (key_ne hn)
theorem kgt_eq (a b : ByteArray) : kgt a b = klt b a := by
  unfold kgt
  cases h : klt a b with
  | true =>
    rw [klt_asymm h]
    have : Op.bytesLess a.toList b.toList = true := h
    simp [this]
  | false =>
    have h1 : Op.bytesLess a.toList b.toList = false := h
    by_cases he : a = b
    · subst he; rw [klt_irrefl]; simp
    · rw [klt_total h he]; simp [h1, key_ne he]

/-! ### Rising lists -/
abbrev KL := List (ByteArray × VX)
def Ris (l : KL) : Prop := l.Pairwise fun x y => klt x.1 y.1 = true
def lset : KL → ByteArray → VX → KL
  | [], k, v => [(k, v)]
  | (k', v') :: l, k, v => if klt k k' = true then (k, v) :: (k', v') :: l else if klt k' k = true then (k', v') :: lset l k v else (k', v) :: l
def ldel : KL → ByteArray → KL
  | [], _ => []
  | (k', v') :: l, k => if klt k k' = true then (k', v') :: l else if klt k' k = true then (k', v') :: ldel l k else l
def lget : KL → ByteArray → Option VX
  | [], _ => none
  | (k', v') :: l, k => if klt k k' = true then none else if klt k' k = true then lget l k else some v'
theorem Ris.app {l r : KL} {k : ByteArray} {v : VX} : Ris (l ++ (k, v) :: r) ↔ Ris l ∧ Ris r ∧ (∀ x ∈ l, klt x.1 k = true) ∧ (∀ x ∈ r, klt k x.1 = true) := by
  unfold Ris
  rw [List.pairwise_append, List.pairwise_cons]
  constructor
  · rintro ⟨h1, ⟨h2, h3⟩, h4⟩
    exact ⟨h1, h3, fun x hx => h4 x hx _ (List.mem_cons_self ..), fun x hx => h2 x hx⟩
  · rintro ⟨h1, h2, h3, h4⟩
    refine ⟨h1, ⟨fun x hx => h4 x hx, h2⟩, fun x hx y hy => ?_⟩
    rcases List.mem_cons.1 hy with rfl | hy
    · exact h3 x hx
    · exact klt_trans (h3 x hx) (h4 y hy)
theorem lset_lt {k k' : ByteArray} {v v' : VX} {r : KL} (h : klt k k' = true) : ∀ {l : KL}, (∀ x ∈ l, klt x.1 k' = true) → lset (l ++ (k', v') :: r) k v = lset l k v ++ (k', v') :: r
  | [], _ => by simp [lset, h]
  | (q, w) :: l, hl => by
    have := lset_lt (v := v) (v' := v') (r := r) h (l := l) (fun x hx => hl x (List.mem_cons_of_mem _ hx))
    simp only [List.cons_append, lset]
    split
    · rfl
    · split
      · rw [this]; rfl
      · rfl
theorem lset_gt {k k' : ByteArray} {v v' : VX} {r : KL} (h : klt k' k = true) : ∀ {l : KL}, (∀ x ∈ l, klt x.1 k' = true) → lset (l ++ (k', v') :: r) k v = l ++ (k', v') :: lset r k v
  | [], _ => by simp [lset, h, klt_asymm h]
  | (q, w) :: l, hl => by
    have := lset_gt (v := v) (v' := v') (r := r) h (l := l) (fun x hx => hl x (List.mem_cons_of_mem _ hx))
    have hq : klt q k = true := klt_trans (hl (q, w) (List.mem_cons_self ..)) h
    simp only [List.cons_append, lset, klt_asymm hq, hq]
    simp [this]
theorem lset_eq {k : ByteArray} {v v' : VX} {r : KL} : ∀ {l : KL}, (∀ x ∈ l, klt x.1 k = true) → lset (l ++ (k, v') :: r) k v = l ++ (k, v) :: r
  | [], _ => by simp [lset, klt_irrefl]
  | (q, w) :: l, hl => by
    have := lset_eq (v := v) (v' := v') (r := r) (l := l) (fun x hx => hl x (List.mem_cons_of_mem _ hx))
    have hq : klt q k = true := hl (q, w) (List.mem_cons_self ..)
    simp only [List.cons_append, lset, klt_asymm hq, hq]
    simp [this]
theorem ldel_lt {k k' : ByteArray} {v' : VX} {r : KL} (h : klt k k' = true) : ∀ {l : KL}, (∀ x ∈ l, klt x.1 k' = true) → ldel (l ++ (k', v') :: r) k = ldel l k ++ (k', v') :: r
  | [], _ => by simp [ldel, h]
  | (q, w) :: l, hl => by
    have := ldel_lt (v' := v') (r := r) h (l := l) (fun x hx => hl x (List.mem_cons_of_mem _ hx))
    simp only [List.cons_append, ldel]
    split
    · rfl
    · split
      · rw [this]; rfl
      · rfl
theorem ldel_gt {k k' : ByteArray} {v' : VX} {r : KL} (h : klt k' k = true) : ∀ {l : KL}, (∀ x ∈ l, klt x.1 k' = true) → ldel (l ++ (k', v') :: r) k = l ++ (k', v') :: ldel r k
  | [], _ => by simp [ldel, h, klt_asymm h]
  | (q, w) :: l, hl => by
    have := ldel_gt (v' := v') (r := r) h (l := l) (fun x hx => hl x (List.mem_cons_of_mem _ hx))
    have hq : klt q k = true := klt_trans (hl (q, w) (List.mem_cons_self ..)) h
    simp only [List.cons_append, ldel, klt_asymm hq, hq]
    simp [this]
theorem ldel_eq {k : ByteArray} {v' : VX} {r : KL} : ∀ {l : KL}, (∀ x ∈ l, klt x.1 k = true) → ldel (l ++ (k, v') :: r) k = l ++ r
  | [], _ => by simp [ldel, klt_irrefl]
  | (q, w) :: l, hl => by
    have := ldel_eq (v' := v') (r := r) (l := l) (fun x hx => hl x (List.mem_cons_of_mem _ hx))
    have hq : klt q k = true := hl (q, w) (List.mem_cons_self ..)
    simp only [List.cons_append, ldel, klt_asymm hq, hq]
    simp [this]

/-! ### The trees' rows -/
theorem Tree.inorder_skew (t : Tree) : t.skew.inorder = t.inorder := by
  unfold Tree.skew
  split
  · split
    · simp [Tree.inorder]
    · rfl
  · rfl
theorem Tree.inorder_split (t : Tree) : t.split.inorder = t.inorder := by
  unfold Tree.split
  split
  · split
    · simp [Tree.inorder]
    · rfl
  · rfl
theorem Tree.inorder_cut (N : Int) (t : Tree) : (t.cut N).inorder = t.inorder := by
  cases t with
  | nil => rfl
  | node l k v lv r => simp only [Tree.cut]; split <;> rfl
theorem Tree.inorder_low1 (t : Tree) : t.low1.inorder = t.inorder := by
  cases t with
  | nil => rfl
  | node l k v lv r =>
    simp only [Tree.low1]
    split
    · simp [Tree.inorder, Tree.inorder_cut]
    · rfl
theorem Tree.inorder_onGreat {f : Tree → Tree} (hf : ∀ t, (f t).inorder = t.inorder) (t : Tree) : (t.onGreat f).inorder = t.inorder := by
  cases t with
  | nil => rfl
  | node l k v lv r => simp [Tree.onGreat, Tree.inorder, hf]
theorem Tree.inorder_lower (t : Tree) : t.lower.inorder = t.inorder := by
  unfold Tree.lower
  rw [Tree.inorder_onGreat Tree.inorder_split, Tree.inorder_split, Tree.inorder_onGreat (fun r => by rw [Tree.inorder_onGreat Tree.inorder_skew, Tree.inorder_skew]), Tree.inorder_skew, Tree.inorder_low1]
theorem Tree.inorder_set (k : ByteArray) (v : VX) : ∀ (t : Tree), Ris t.inorder → (t.set k v).inorder = lset t.inorder k v
  | .nil, _ => rfl
  | .node l k' v' lv r, h => by
    obtain ⟨h1, h2, h3, h4⟩ := Ris.app.1 (show Ris (l.inorder ++ (k', v') :: r.inorder) from h)
    simp only [Tree.set]
    split
    · rename_i hk
      rw [Tree.inorder_split, Tree.inorder_skew]
      show (l.set k v).inorder ++ (k', v') :: r.inorder = lset (l.inorder ++ (k', v') :: r.inorder) k v
      rw [Tree.inorder_set k v l h1, lset_lt hk h3]
    · rename_i hk
      rw [kgt_eq]
      split
      · rename_i hg
        rw [Tree.inorder_split, Tree.inorder_skew]
        show l.inorder ++ (k', v') :: (r.set k v).inorder = lset (l.inorder ++ (k', v') :: r.inorder) k v
        rw [Tree.inorder_set k v r h2, lset_gt hg h3]
      · rename_i hg
        have he : k = k' := by
          refine Classical.byContradiction fun hne => ?_
          exact hg (klt_total (by simpa using hk) hne)
        subst he
        show l.inorder ++ (k, v) :: r.inorder = lset (l.inorder ++ (k, v') :: r.inorder) k v
        rw [lset_eq h3]
theorem lset_mem {k : ByteArray} {v : VX} {x : ByteArray × VX} : ∀ {l : KL}, x ∈ lset l k v → x ∈ l ∨ x.1 = k ∨ ∃ w, (x.1, w) ∈ l
  | [], h => by simp [lset] at h; exact .inr (.inl (by rw [h]))
  | (q, w) :: l, h => by
    simp only [lset] at h
    split at h
    · rcases List.mem_cons.1 h with rfl | h
      · exact .inr (.inl rfl)
      · exact .inl h
    · split at h
      · rcases List.mem_cons.1 h with rfl | h
        · exact .inl (List.mem_cons_self ..)
        · rcases lset_mem h with h | h | ⟨w', h⟩
          · exact .inl (List.mem_cons_of_mem _ h)
          · exact .inr (.inl h)
          · exact .inr (.inr ⟨w', List.mem_cons_of_mem _ h⟩)
      · rcases List.mem_cons.1 h with rfl | h
        · exact .inr (.inr ⟨w, List.mem_cons_self ..⟩)
        · exact .inl (List.mem_cons_of_mem _ h)
end Go.Proofs.Ytnoggejkkjngjaa
