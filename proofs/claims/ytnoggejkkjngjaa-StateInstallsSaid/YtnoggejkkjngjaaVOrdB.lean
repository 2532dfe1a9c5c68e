/- Package sorted: deleting and asking, told of rising lists. No condition. -/
import Derived.Test.YtnoggejkkjngjaaVOrd
import Derived.Test.YtnoggejkkjngjaaVFrom
set_option linter.unusedVariables false
set_option maxRecDepth 100000
namespace Go.Proofs.Ytnoggejkkjngjaa
open Go Go.Sl Go.ChangeShapes Go.WideShapes Go.ChangeAt Go.RowKit

theorem lset_key {k : ByteArray} {v : VX} {x : ByteArray × VX} {l : KL} (h : x ∈ lset l k v) : x.1 = k ∨ ∃ w, (x.1, w) ∈ l := by
  rcases lset_mem h with h | h | h
  · exact .inr ⟨x.2, h⟩
  · exact .inl h
  · exact .inr h
theorem Ris.set {k : ByteArray} {v : VX} : ∀ {l : KL}, Ris l → Ris (lset l k v)
  | [], _ => List.pairwise_singleton ..
  | (q, w) :: l, h => by
    have h1 := List.pairwise_cons.1 h
    simp only [lset]
    split
    · rename_i hk
      refine List.pairwise_cons.2 ⟨fun x hx => ?_, h⟩
      rcases List.mem_cons.1 hx with rfl | hx
      · exact hk
      · exact klt_trans hk (h1.1 x hx)
    · split
      · rename_i hk
        refine List.pairwise_cons.2 ⟨fun x hx => ?_, Ris.set h1.2⟩
        rcases lset_key hx with rfl | ⟨w', hx⟩
        · exact hk
        · exact h1.1 (x.1, w') hx
      · exact List.pairwise_cons.2 ⟨h1.1, h1.2⟩
theorem ldel_sub {k : ByteArray} : ∀ {l : KL}, (ldel l k).Sublist l
  | [] => List.Sublist.refl _
  | (q, w) :: l => by
    simp only [ldel]
    split
    · exact List.Sublist.refl _
    · split
      · exact ldel_sub.cons_cons _
      · exact List.sublist_cons_self ..
theorem Ris.del {k : ByteArray} {l : KL} (h : Ris l) : Ris (ldel l k) := List.Pairwise.sublist ldel_sub h
theorem Tree.least_in : ∀ {t : Tree}, t.isNode → ∃ r, t.inorder = t.least :: r
  | .node .nil k v lv r, _ => ⟨r.inorder, rfl⟩
  | .node (.node ll lk lx llv lr) k v lv r, _ => by
    obtain ⟨q, hq⟩ := Tree.least_in (t := .node ll lk lx llv lr) trivial
    refine ⟨q ++ (k, v) :: r.inorder, ?_⟩
    show (Tree.node ll lk lx llv lr).inorder ++ (k, v) :: r.inorder = _
    rw [hq]; rfl
theorem Tree.most_in : ∀ {t : Tree}, t.isNode → ∃ r, t.inorder = r ++ [t.most]
  | .node l k v lv .nil, _ => ⟨l.inorder, rfl⟩
  | .node l k v lv (.node rl rk rx rlv rr), _ => by
    obtain ⟨q, hq⟩ := Tree.most_in (t := .node rl rk rx rlv rr) trivial
    refine ⟨l.inorder ++ (k, v) :: q, ?_⟩
    show l.inorder ++ (k, v) :: (Tree.node rl rk rx rlv rr).inorder = _
    rw [hq]; simp [Tree.most]
theorem Tree.inorder_top {l r : Tree} {dl dr : ByteArray → Tree} {lv : Int} (hl : Ris l.inorder) (hr : Ris r.inorder) (h1 : ∀ q, (dl q).inorder = ldel l.inorder q) (h2 : ∀ q, (dr q).inorder = ldel r.inorder q) :
    (Tree.top l r dl dr lv).inorder = l.inorder ++ r.inorder := by
  unfold Tree.top
  split
  · rfl
  · rename_i rl rk rx rlv rr
    rw [Tree.inorder_lower]
    obtain ⟨q, hq⟩ := Tree.least_in (t := .node rl rk rx rlv rr) trivial
    show [] ++ ((Tree.node rl rk rx rlv rr).least.1, (Tree.node rl rk rx rlv rr).least.2) :: (dr (Tree.node rl rk rx rlv rr).least.1).inorder = [] ++ (Tree.node rl rk rx rlv rr).inorder
    rw [h2, hq]
    have := ldel_eq (k := (Tree.node rl rk rx rlv rr).least.1) (v' := (Tree.node rl rk rx rlv rr).least.2) (r := q) (l := []) (by simp)
    simp only [List.nil_append] at this ⊢
    rw [this]
  · rename_i ll lk lx llv lr
    rw [Tree.inorder_lower]
    obtain ⟨q, hq⟩ := Tree.most_in (t := .node ll lk lx llv lr) trivial
    show (dl (Tree.node ll lk lx llv lr).most.1).inorder ++ ((Tree.node ll lk lx llv lr).most.1, (Tree.node ll lk lx llv lr).most.2) :: r.inorder = (Tree.node ll lk lx llv lr).inorder ++ r.inorder
    rw [h1, hq]
    rw [hq] at hl
    have h3 := (Ris.app (k := (Tree.node ll lk lx llv lr).most.1) (v := (Tree.node ll lk lx llv lr).most.2) (l := q) (r := [])).1 hl
    have := ldel_eq (k := (Tree.node ll lk lx llv lr).most.1) (v' := (Tree.node ll lk lx llv lr).most.2) (r := []) (l := q) h3.2.2.1
    rw [this]; simp
theorem Tree.inorder_del : ∀ (t : Tree) (k : ByteArray), Ris t.inorder → (t.del k).inorder = ldel t.inorder k
  | .nil, _, _ => rfl
  | .node l k' v' lv r, k, h => by
    obtain ⟨h1, h2, h3, h4⟩ := Ris.app.1 (show Ris (l.inorder ++ (k', v') :: r.inorder) from h)
    show _ = ldel (l.inorder ++ (k', v') :: r.inorder) k
    simp only [Tree.del]
    split
    · rename_i hk
      rw [Tree.inorder_lower]
      show (l.del k).inorder ++ (k', v') :: r.inorder = _
      rw [Tree.inorder_del l k h1, ldel_lt hk h3]
    · rename_i hk
      rw [kgt_eq]
      split
      · rename_i hg
        rw [Tree.inorder_lower]
        show l.inorder ++ (k', v') :: (r.del k).inorder = _
        rw [Tree.inorder_del r k h2, ldel_gt hg h3]
      · rename_i hg
        have he : k = k' := by
          refine Classical.byContradiction fun hne => ?_
          exact hg (klt_total (by simpa using hk) hne)
        subst he
        rw [Tree.inorder_top h1 h2 (fun q => Tree.inorder_del l q h1) (fun q => Tree.inorder_del r q h2), ldel_eq h3]
theorem Tree.inorder_len : ∀ t : Tree, t.inorder.length = t.size
  | .nil => rfl
  | .node l k v lv r => by
    have := Tree.inorder_len l; have := Tree.inorder_len r
    simp only [Tree.inorder, Tree.size, List.length_append, List.length_cons]; omega

/-! ### Asking -/
def lfrom (l : KL) (k : ByteArray) : Option (ByteArray × VX) := l.find? fun x => !klt x.1 k
theorem lfrom_none {l : KL} {k : ByteArray} (h : ∀ x ∈ l, klt x.1 k = true) : lfrom l k = none := by
  unfold lfrom
  rw [List.find?_eq_none]
  intro x hx; simp [h x hx]
theorem Tree.from_in : ∀ (t : Tree) (k : ByteArray) (q : Option (ByteArray × VX)), Ris t.inorder → t.from k q = (lfrom t.inorder k).or q
  | .nil, _, _, _ => rfl
  | .node l k' v' lv r, k, q, h => by
    obtain ⟨h1, h2, h3, h4⟩ := Ris.app.1 (show Ris (l.inorder ++ (k', v') :: r.inorder) from h)
    show _ = (lfrom (l.inorder ++ (k', v') :: r.inorder) k).or q
    simp only [Tree.from]
    split
    · rename_i hk
      rw [Tree.from_in r k q h2]
      unfold lfrom
      have hn : l.inorder.find? (fun x => !klt x.1 k) = none := lfrom_none (fun x hx => klt_trans (h3 x hx) hk)
      rw [List.find?_append, hn]
      simp [hk]
    · rename_i hk
      rw [Tree.from_in l k _ h1]
      unfold lfrom
      rw [List.find?_append]
      simp only [List.find?_cons, Bool.eq_false_iff.2 hk]
      cases l.inorder.find? (fun x => !klt x.1 k) <;> simp
theorem lget_app_lt {k k' : ByteArray} {v' : VX} {r : KL} (h : klt k k' = true) : ∀ {l : KL}, (∀ x ∈ l, klt x.1 k' = true) → lget (l ++ (k', v') :: r) k = lget l k
  | [], _ => by simp [lget, h]
  | (q, w) :: l, hl => by
    have := lget_app_lt (v' := v') (r := r) h (l := l) (fun x hx => hl x (List.mem_cons_of_mem _ hx))
    simp only [List.cons_append, lget, this]
theorem lget_app_gt {k k' : ByteArray} {v' : VX} {r : KL} (h : klt k' k = true) : ∀ {l : KL}, (∀ x ∈ l, klt x.1 k' = true) → lget (l ++ (k', v') :: r) k = lget r k
  | [], _ => by simp [lget, h, klt_asymm h]
  | (q, w) :: l, hl => by
    have := lget_app_gt (v' := v') (r := r) h (l := l) (fun x hx => hl x (List.mem_cons_of_mem _ hx))
    have hq : klt q k = true := klt_trans (hl (q, w) (List.mem_cons_self ..)) h
    simp only [List.cons_append, lget, klt_asymm hq, hq]
    simpa using this
theorem lget_app_eq {k : ByteArray} {v' : VX} {r : KL} : ∀ {l : KL}, (∀ x ∈ l, klt x.1 k = true) → lget (l ++ (k, v') :: r) k = some v'
  | [], _ => by simp [lget, klt_irrefl]
  | (q, w) :: l, hl => by
    have := lget_app_eq (v' := v') (r := r) (l := l) (fun x hx => hl x (List.mem_cons_of_mem _ hx))
    have hq : klt q k = true := hl (q, w) (List.mem_cons_self ..)
    simp only [List.cons_append, lget, klt_asymm hq, hq]
    simpa using this
theorem Tree.news_in (k : ByteArray) : ∀ (t : Tree), Ris t.inorder → t.news k = (lget t.inorder k).isNone
  | .nil, _ => rfl
  | .node l k' v' lv r, h => by
    obtain ⟨h1, h2, h3, h4⟩ := Ris.app.1 (show Ris (l.inorder ++ (k', v') :: r.inorder) from h)
    show _ = (lget (l.inorder ++ (k', v') :: r.inorder) k).isNone
    simp only [Tree.news]
    split
    · rename_i hk; rw [Tree.news_in k l h1, lget_app_lt hk h3]
    · rename_i hk
      rw [kgt_eq]
      split
      · rename_i hg; rw [Tree.news_in k r h2, lget_app_gt hg h3]
      · rename_i hg
        have he : k = k' := Classical.byContradiction fun hne => hg (klt_total (by simpa using hk) hne)
        subst he
        rw [lget_app_eq h3]; rfl
/-- What From tells is what Get asks of. -/
theorem lfrom_get {k : ByteArray} : ∀ {l : KL}, Ris l → getV k (lfrom l k) = match lget l k with
    | some v => .tuple #[.agg v.C.toArray, .bool true]
    | none => .tuple #[.agg VX.zero.C.toArray, .bool false]
  | [], _ => rfl
  | (q, w) :: l, h => by
    have h1 := List.pairwise_cons.1 h
    unfold lfrom
    simp only [List.find?_cons, lget]
    by_cases hq : klt q k = true
    · simp only [hq, klt_asymm hq]
      exact lfrom_get h1.2
    · have hq' : klt q k = false := by simpa using hq
      simp only [hq', Bool.not_false]
      by_cases hk : klt k q = true
      · simp only [hk, getV]
        rw [if_neg (fun e => key_ne (klt_ne hk).symm e)]
        rfl
      · have he : q = k := Classical.byContradiction fun hne => hk (klt_total hq' hne)
        subst he
        simp [getV, klt_irrefl]
end Go.Proofs.Ytnoggejkkjngjaa
