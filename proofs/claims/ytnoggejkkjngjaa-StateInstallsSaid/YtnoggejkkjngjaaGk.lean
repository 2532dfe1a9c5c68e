/- Package state: keys, sessions, tables, positions: what is on the branch. No program in sight. -/
import Derived.Test.YtnoggejkkjngjaaGtd
set_option maxHeartbeats 8000000
set_option linter.unusedVariables false
set_option linter.unusedSimpArgs false
set_option maxRecDepth 100000
namespace Go.Proofs.Ytnoggejkkjngjaa
open Go Go.Sl
attribute [local irreducible] Go.Sl.Wl Go.Sl.Wc Go.Sl.thenQ Go.Sl.blkQ Go.Sl.loopQ Go.Sl.Fspec

/-! ### Keys -/
theorem lset_val {k : ByteArray} {v : VX} {x : ByteArray × VX} : ∀ {l : KL}, x ∈ lset l k v → x ∈ l ∨ x = (k, v)
  | [], h => by simp [lset] at h; exact .inr h
  | (k', v') :: l, h => by
    unfold lset at h
    split at h
    · rcases List.mem_cons.1 h with h | h
      · exact .inr h
      · exact .inl h
    · split at h
      · rcases List.mem_cons.1 h with h | h
        · exact .inl (by rw [h]; exact List.mem_cons_self ..)
        · rcases lset_val h with h | h
          · exact .inl (List.mem_cons_of_mem _ h)
          · exact .inr h
      · rename_i h1 h2
        have he : k' = k := Classical.byContradiction fun hne => h1 (klt_total (by simpa using h2) hne)
        rcases List.mem_cons.1 h with h | h
        · exact .inr (by rw [h, he])
        · exact .inl (List.mem_cons_of_mem _ h)
theorem lset_len {k : ByteArray} {v : VX} : ∀ l : KL, (lset l k v).length ≤ l.length + 1
  | [] => by simp [lset]
  | (k', v') :: l => by
    have := lset_len (k := k) (v := v) l
    unfold lset
    split
    · simp
    · split <;> simp <;> omega
theorem lget_mem {k : ByteArray} {v : VX} : ∀ {l : KL}, lget l k = some v → (k, v) ∈ l
  | [], h => by cases h
  | (k', v') :: l, h => by
    simp only [lget] at h
    split at h
    · cases h
    · split at h
      · exact List.mem_cons_of_mem _ (lget_mem h)
      · rename_i h1 h2
        have he : k' = k := Classical.byContradiction fun hne => h1 (klt_total (by simpa using h2) hne)
        subst he
        cases h
        exact List.mem_cons_self ..
theorem lget_of_mem {k : ByteArray} {v : VX} : ∀ {l : KL}, Ris l → (k, v) ∈ l → lget l k = some v
  | [], _, h => by simp at h
  | (k', v') :: l, hr, h => by
    have h1 := List.pairwise_cons.1 hr
    rcases List.mem_cons.1 h with h | h
    · obtain ⟨rfl, rfl⟩ := Prod.mk.inj h
      simp [lget, klt_irrefl]
    · have hk : klt k' k = true := h1.1 _ h
      simp only [lget]
      rw [if_neg (by rw [klt_asymm hk]; simp), if_pos hk]
      exact lget_of_mem h1.2 h
/-- What a key has. -/
def kX (l : KL) (k : ByteArray) : VX := (lget l k).getD VX.zero
theorem getV_kX {t : Tree} (hr : Ris t.inorder) (k : ByteArray) : ∃ b, getV k (t.from k none) = .tuple #[.agg (kX t.inorder k).C.toArray, .bool b] := by
  have h1 := Tree.from_in t k none hr
  have h2 := lfrom_get (k := k) hr
  rw [Option.or_none] at h1
  rw [h1, h2]
  unfold kX
  cases lget t.inorder k with
  | none => exact ⟨false, rfl⟩
  | some v => exact ⟨true, rfl⟩
def prK (x : PrX) : ByteArray × VX := (x.k, x.v)
def kPr (x : ByteArray × VX) : PrX := ⟨x.1, x.2⟩
def prs (t : Tree) : List PrX := t.inorder.map kPr
theorem prK_kPr (l : KL) : (l.map kPr).map prK = l := by
  rw [List.map_map]; exact List.map_id'' (fun _ => rfl) l
theorem kPr_prK (l : List PrX) : (l.map prK).map kPr = l := by
  rw [List.map_map]; exact List.map_id'' (fun _ => rfl) l
theorem prs_len (t : Tree) : (prs t).length = t.size := by unfold prs; rw [List.length_map, Tree.inorder_len]
/-- What it tells. -/
def FoX.snap (f : FoX) : SnX := ⟨f.e, f.i, prs f.t, f.L⟩
def FoX.rk (f : FoX) : Prop := Ris f.t.inorder
theorem FoX.rk.put {f : FoX} (h : f.rk) (x : EnX) : (f.put x).rk := by
  show Ris (f.t.set x.key x.v).inorder
  rw [Tree.inorder_set _ _ _ h]; exact Ris.set h
theorem FoX.put_in {f : FoX} (h : f.rk) (x : EnX) : (f.put x).t.inorder = lset f.t.inorder x.key x.v := Tree.inorder_set _ _ _ h
theorem foldl_rk : ∀ (l : List EnX) {f : FoX}, f.rk → (l.foldl FoX.put f).rk
  | [], _, h => h
  | x :: l, _, h => foldl_rk l (h.put x)
theorem setAll_rk_aux : ∀ (ps : List PrX) (t : Tree), Ris t.inorder → Ris (ps.foldl (fun t p => t.set p.k p.v) t).inorder
  | [], _, h => h
  | p :: ps, t, h => setAll_rk_aux ps (t.set p.k p.v) (by rw [Tree.inorder_set _ _ _ h]; exact h.set)
theorem of_rk (b : SnX) : (FoX.of b).rk := setAll_rk_aux b.ps .nil (by simp [Tree.inorder, Ris])
theorem G15.fold_rk (S : G15) : S.fold.rk := foldl_rk S.es (of_rk S.base)
theorem G15.upto_rk (S : G15) (k : Nat) : (S.upto k).rk := foldl_rk (S.es.take k) (of_rk S.base)
theorem lset_last {k : ByteArray} {v : VX} : ∀ {l : KL}, (∀ x ∈ l, klt x.1 k = true) → lset l k v = l ++ [(k, v)]
  | [], _ => rfl
  | (k', v') :: l, h => by
    have h1 : klt k' k = true := h _ (List.mem_cons_self ..)
    unfold lset
    rw [if_neg (by rw [klt_asymm h1]; simp), if_pos h1, lset_last fun x hx => h x (List.mem_cons_of_mem _ hx)]
    rfl
theorem setAll_in_aux : ∀ (ps : List PrX) (t : Tree), Ris (t.inorder ++ ps.map prK) → (ps.foldl (fun t p => t.set p.k p.v) t).inorder = t.inorder ++ ps.map prK
  | [], t, _ => by simp
  | p :: ps, t, h => by
    have h' : Ris (t.inorder ++ (p.k, p.v) :: ps.map prK) := h
    obtain ⟨h1, h2, h3, h4⟩ := Ris.app.1 h'
    have hs : (t.set p.k p.v).inorder = t.inorder ++ [(p.k, p.v)] := by rw [Tree.inorder_set _ _ _ h1, lset_last h3]
    show (ps.foldl (fun t p => t.set p.k p.v) (t.set p.k p.v)).inorder = _
    rw [setAll_in_aux ps (t.set p.k p.v) (by rw [hs]; simpa using h'), hs]
    simp [prK]
theorem setAll_in {ps : List PrX} (h : Ris (ps.map prK)) : (setAll ps).inorder = ps.map prK := by
  have := setAll_in_aux ps .nil (by simpa [Tree.inorder] using h)
  unfold setAll
  simpa [Tree.inorder] using this
theorem of_snap {b : SnX} (h : Ris (b.ps.map prK)) : (FoX.of b).snap = b := by
  show SnX.mk b.e b.i ((setAll b.ps).inorder.map kPr) b.ss = b
  rw [setAll_in h, kPr_prK]
theorem snap_ris {f : FoX} (h : f.rk) : Ris (f.snap.ps.map prK) := by
  show Ris ((f.t.inorder.map kPr).map prK)
  rw [prK_kPr]; exact h
theorem of_of_snap {f : FoX} (h : f.rk) : (FoX.of f.snap).snap = f.snap := of_snap (snap_ris h)
theorem snap_in {f g : FoX} (h : f.snap = g.snap) : f.t.inorder = g.t.inorder := by
  have : prs f.t = prs g.t := congrArg SnX.ps h
  have h2 := congrArg (List.map prK) this
  unfold prs at h2
  rwa [prK_kPr, prK_kPr] at h2
theorem snap_put {f g : FoX} (hf : f.rk) (hg : g.rk) (h : f.snap = g.snap) (x : EnX) : (f.put x).snap = (g.put x).snap := by
  have h1 := snap_in h
  have h2 : f.L = g.L := congrArg SnX.ss h
  show SnX.mk x.e x.i ((f.put x).t.inorder.map kPr) (noteV f.L 16 x.se) = SnX.mk x.e x.i ((g.put x).t.inorder.map kPr) (noteV g.L 16 x.se)
  rw [FoX.put_in hf, FoX.put_in hg, h1, h2]
theorem snap_foldl : ∀ (l : List EnX) {f g : FoX}, f.rk → g.rk → f.snap = g.snap → (l.foldl FoX.put f).snap = (l.foldl FoX.put g).snap
  | [], _, _, _, _, h => h
  | x :: l, _, _, hf, hg, h => snap_foldl l (hf.put x) (hg.put x) (snap_put hf hg h x)
/-! ### Sessions -/
theorem dput_len {x : SX} : ∀ {L : List SX}, RisS L → (dput L x).length = L.length + (if (dget L x.s).isSome = true then 0 else 1)
  | [], _ => by simp [dput, dget]
  | y :: l, h => by
    have h1 := List.pairwise_cons.1 h
    unfold dput
    by_cases ha : x.s < y.s
    · rw [if_pos ha]
      have hn : dget (y :: l) x.s = none := by
        cases hd : dget (y :: l) x.s with
        | none => rfl
        | some z =>
          obtain ⟨hz, he⟩ := dget_some hd
          rcases List.mem_cons.1 hz with rfl | hz
          · omega
          · have := h1.1 z hz; omega
      rw [hn]; simp
    · rw [if_neg ha]
      by_cases hb : y.s < x.s
      · rw [if_pos hb]
        have hn : dget (y :: l) x.s = dget l x.s := by
          unfold dget
          rw [List.find?_cons]
          have : (y.s == x.s) = false := by simp; omega
          rw [this]
        rw [hn, List.length_cons, dput_len h1.2, List.length_cons]; omega
      · rw [if_neg hb]
        have he : y.s = x.s := by omega
        have hn : dget (y :: l) x.s = some y := by
          unfold dget
          rw [List.find?_cons]
          have : (y.s == x.s) = true := by simp [he]
          rw [this]
        rw [hn]; simp
theorem noteV_len {L : List SX} {x : SX} (h : RisS L) (hl : L.length ≤ 16) : (noteV L 16 x).length ≤ 16 := by
  unfold noteV
  split
  · rename_i h1
    rw [dput_len h]
    unfold lookV at h1
    split at h1
    · rename_i hd
      rw [hd]
      split at h1
      · simp at h1
      · simp; omega
    · rename_i y hd
      rw [hd]; simp; omega
  · exact hl
theorem noteV_mem {L : List SX} {x y : SX} (h : y ∈ noteV L 16 x) : y = x ∨ y ∈ L := by
  unfold noteV at h
  split at h
  · exact dput_mem h
  · exact .inr h
theorem noteV_ris {L : List SX} {x : SX} (h : RisS L) : RisS (noteV L 16 x) := by
  unfold noteV; split
  · exact h.put
  · exact h
/-! ### Tables -/
/-- On the branch. -/
def OnP (T : List Ep) (e i : Int) : Prop := (e = 0 ∧ i = 0) ∨ (1 ≤ e ∧ e ≤ T.length ∧ i ≤ 512 ∧ ∃ x, T[e.toNat - 1]? = some x ∧ x.cut < i ∧ ∀ k y, e.toNat ≤ k → T[k]? = some y → i ≤ y.cut)
theorem cutL_zero {i : Int} : ∀ (l : List Ep) (k : Nat), cutL l k i = 0 ↔ ∀ y ∈ l, i ≤ y.cut
  | [], k => by simp [cutL]
  | x :: l, k => by
    unfold cutL
    split
    · rename_i h
      simp only [List.mem_cons, forall_eq_or_imp]
      constructor
      · intro h2; omega
      · intro h2; omega
    · rename_i h
      rw [cutL_zero l (k + 1)]
      simp only [List.mem_cons, forall_eq_or_imp]
      constructor
      · intro h2; exact ⟨by omega, h2⟩
      · intro h2; exact h2.2
theorem drop_all {T : List Ep} {n : Nat} {i : Int} : (∀ y ∈ T.drop n, i ≤ y.cut) ↔ ∀ k y, n ≤ k → T[k]? = some y → i ≤ y.cut := by
  constructor
  · intro h k y hk hy
    refine h y (List.mem_of_getElem? (i := k - n) ?_)
    rw [List.getElem?_drop, show n + (k - n) = k by omega]; exact hy
  · intro h y hy
    obtain ⟨k, hk⟩ := List.getElem?_of_mem hy
    rw [List.getElem?_drop] at hk
    exact h (n + k) y (by omega) hk
theorem fair_at {T : List Ep} (hT : rightT T = true) {k : Nat} {y : Ep} (h : T[k]? = some y) : 0 ≤ y.cut ∧ y.cut ≤ 512 := by
  have := (rightT_out hT).2.2.1 y (List.mem_of_getElem? h)
  unfold Ep.fair at this; omega
theorem on_iff {T : List Ep} (hT : rightT T = true) (e i : Int) : onT T e i = true ↔ OnP T e i := by
  have hcut : isT T e i = true → (cutN T e i = 0 ↔ ∀ k y, e.toNat ≤ k → T[k]? = some y → i ≤ y.cut) := fun h => by
    unfold cutN
    rw [if_pos ⟨hT, h⟩, cutL_zero, drop_all]
  have h0 : onT T e i = true ↔ isT T e i = true ∧ ∀ k y, e.toNat ≤ k → T[k]? = some y → i ≤ y.cut := by
    unfold onT
    rw [hT]
    simp only [Bool.true_and, Bool.and_eq_true, decide_eq_true_eq]
    constructor
    · rintro ⟨h1, h2⟩; exact ⟨h1, (hcut h1).1 h2⟩
    · rintro ⟨h1, h2⟩; exact ⟨h1, (hcut h1).2 h2⟩
  rw [h0]
  unfold isT OnP
  simp only [Bool.or_eq_true, Bool.and_eq_true, decide_eq_true_eq]
  constructor
  · rintro ⟨h1 | ⟨⟨h1, h2⟩, h3⟩, h4⟩
    · exact .inl h1
    · right
      cases hx : T[e.toNat - 1]? with
      | none => rw [hx] at h2; cases h2
      | some x =>
        rw [hx] at h2
        exact ⟨h1.1, h1.2, h3, x, rfl, by simpa using h2, h4⟩
  · rintro (⟨rfl, rfl⟩ | ⟨h1, h2, h3, x, hx, h4, h5⟩)
    · exact ⟨.inl ⟨rfl, rfl⟩, fun k y _ hy => (fair_at hT hy).1⟩
    · refine ⟨.inr ⟨⟨⟨h1, h2⟩, ?_⟩, h3⟩, h5⟩
      rw [hx]; simpa using h4
theorem on_right {T : List Ep} {e i : Int} (h : onT T e i = true) : rightT T = true := by
  unfold onT at h
  simp only [Bool.and_eq_true] at h
  exact h.1.1
theorem on_range {T : List Ep} {e i : Int} (h : onT T e i = true) : 0 ≤ e ∧ e ≤ 64 ∧ 0 ≤ i ∧ i ≤ 512 ∧ (e = 0 ↔ i = 0) := by
  have hT := on_right h
  have h64 := (rightT_out hT).2.1
  rcases (on_iff hT e i).1 h with ⟨rfl, rfl⟩ | ⟨h1, h2, h3, x, hx, h4, h5⟩
  · omega
  · have := fair_at hT hx
    omega
theorem on_app {T : List Ep} {p : Ep} {e i : Int} (h : onT T e i = true) (hT : rightT (T ++ [p]) = true) (hc : i ≤ p.cut) : onT (T ++ [p]) e i = true := by
  refine (on_iff hT e i).2 ?_
  rcases (on_iff (on_right h) e i).1 h with h0 | ⟨h1, h2, h3, x, hx, h4, h5⟩
  · exact .inl h0
  · refine .inr ⟨h1, by simp; omega, h3, x, ?_, h4, fun k y hk hy => ?_⟩
    · rw [List.getElem?_append_left (by omega)]; exact hx
    · rcases Nat.lt_or_ge k T.length with hl | hl
      · rw [List.getElem?_append_left hl] at hy; exact h5 k y hk hy
      · rw [List.getElem?_append_right hl] at hy
        have : k - T.length = 0 := by
          rcases Nat.eq_zero_or_pos (k - T.length) with q | q
          · exact q
          · rw [List.getElem?_eq_none (by simp; omega)] at hy; cases hy
        rw [this] at hy
        simp at hy; subst hy; exact hc
theorem atE_out (T : List Ep) (i : Int) : ∀ n, n ≤ T.length → (atE T n i = 0 ∧ ∀ k y, k < n → T[k]? = some y → i ≤ y.cut) ∨ (1 ≤ atE T n i ∧ atE T n i ≤ n ∧ ∃ x, T[atE T n i - 1]? = some x ∧ x.cut < i ∧ ∀ k y, atE T n i ≤ k → k < n → T[k]? = some y → i ≤ y.cut)
  | 0, _ => .inl ⟨rfl, fun k y hk => by omega⟩
  | n + 1, hn => by
    obtain ⟨x, hx⟩ : ∃ x, T[n]? = some x := ⟨_, List.getElem?_eq_getElem (by omega)⟩
    unfold atE
    rw [hx]
    simp only
    split
    · rename_i h
      exact .inr ⟨by omega, Nat.le_refl _, x, by simpa using hx, h, fun k y h1 h2 => by omega⟩
    · rename_i h
      rcases atE_out T i n (by omega) with ⟨h1, h2⟩ | ⟨h1, h2, z, hz, h3, h4⟩
      · refine .inl ⟨h1, fun k y hk hy => ?_⟩
        rcases Nat.lt_or_ge k n with q | q
        · exact h2 k y q hy
        · obtain rfl : k = n := by omega
          rw [hx] at hy; cases hy; omega
      · refine .inr ⟨h1, by omega, z, hz, h3, fun k y hk1 hk2 hy => ?_⟩
        rcases Nat.lt_or_ge k n with q | q
        · exact h4 k y hk1 q hy
        · obtain rfl : k = n := by omega
          rw [hx] at hy; cases hy; omega
theorem at_on {T : List Ep} (hT : rightT T = true) {i : Int} (hi : 1 ≤ i ∧ i ≤ 512) : (atT T i).2 = i ∧ onT T (atT T i).1 i = true := by
  have hr := rightT_out hT
  unfold atT
  rw [if_neg (by rw [hT]; simp; omega)]
  rcases atE_out T i T.length (Nat.le_refl _) with ⟨h1, h2⟩ | ⟨h1, h2, x, hx, h3, h4⟩
  · exfalso
    obtain ⟨e, he, h0, _⟩ := hr.2.2.2
    have := h2 0 e (by omega) he
    omega
  · rw [if_neg (by omega)]
    refine ⟨rfl, (on_iff hT _ i).2 (.inr ⟨by omega, by omega, hi.2, x, by simpa using hx, h3, fun k y hk hy => ?_⟩)⟩
    refine h4 k y (by simpa using hk) ?_ hy
    rcases Nat.lt_or_ge k T.length with q | q
    · exact q
    · rw [List.getElem?_eq_none (by omega)] at hy; cases hy
theorem on_uniq {T : List Ep} {e e' i : Int} (h : onT T e i = true) (h' : onT T e' i = true) : e = e' := by
  have hT := on_right h
  have hr := on_range h
  have hr' := on_range h'
  rcases (on_iff hT e i).1 h with ⟨rfl, rfl⟩ | ⟨h1, h2, h3, x, hx, h4, h5⟩
  · omega
  · rcases (on_iff hT e' i).1 h' with ⟨rfl, rfl⟩ | ⟨g1, g2, g3, y, hy, g4, g5⟩
    · omega
    · rcases Int.lt_trichotomy e e' with q | q | q
      · have := h5 (e'.toNat - 1) y (by omega) hy; omega
      · exact q
      · have := g5 (e.toNat - 1) x (by omega) hx; omega
theorem on_at {T : List Ep} {e i : Int} (h : onT T e i = true) (hi : 1 ≤ i) : atT T i = (e, i) := by
  have hr := on_range h
  obtain ⟨h1, h2⟩ := at_on (on_right h) (i := i) ⟨hi, hr.2.2.2.1⟩
  have := on_uniq h2 h
  exact Prod.ext this h1
theorem below_out {T : List Ep} {e i ae ai : Int} (h : belowT T e i ae ai = true) : onT T e i = true ∧ onT T ae ai = true ∧ 1 ≤ i ∧ i ≤ ai := by
  unfold belowT at h
  simp only [Bool.and_eq_true, Bool.not_eq_true', decide_eq_false_iff_not, decide_eq_true_eq] at h
  have hr := on_range h.2.1.2
  refine ⟨h.2.1.2, h.2.1.1, ?_, h.2.2⟩
  have := h.1
  omega
theorem below_in {T : List Ep} {e i ae ai : Int} (h : onT T e i = true) (h2 : onT T ae ai = true) (h3 : 1 ≤ i) (h4 : i ≤ ai) : belowT T e i ae ai = true := by
  unfold belowT
  simp only [Bool.and_eq_true, Bool.not_eq_true', decide_eq_false_iff_not, decide_eq_true_eq]
  exact ⟨by omega, ⟨h2, h⟩, h4⟩
theorem below_app {T : List Ep} {p : Ep} {e i ae ai : Int} (h : belowT T e i ae ai = true) (hT : rightT (T ++ [p]) = true) (hc : ai ≤ p.cut) : belowT (T ++ [p]) e i ae ai = true := by
  obtain ⟨h1, h2, h3, h4⟩ := below_out h
  exact below_in (on_app h1 hT (by omega)) (on_app h2 hT hc) h3 h4
end Go.Proofs.Ytnoggejkkjngjaa
