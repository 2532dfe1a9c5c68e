/- Package state: what records come to, and what stands on the branch, whatever is applied. No program in sight. -/
import Derived.Test.YtnoggejkkjngjaaGreatK9
set_option maxHeartbeats 8000000
set_option linter.unusedVariables false
set_option linter.unusedSimpArgs false
set_option maxRecDepth 100000
namespace Go.Proofs.YtnoggejkkjngjaaGreat
open Go Go.Sl
attribute [local irreducible] Go.Sl.Wl Go.Sl.Wc Go.Sl.thenQ Go.Sl.blkQ Go.Sl.loopQ Go.Sl.Fspec

def prOk (T : List Ep) (ae ai : Int) (x : PrX) : Bool := decide (1 ≤ x.k.size ∧ x.k.size ≤ 64) && decide (x.v.d.size ≤ 1024) && (x.v.c || decide (x.v.d.toList = [])) && belowT T x.v.a x.v.b ae ai
def ssOk (T : List Ep) (ae ai : Int) (y : SX) : Bool := numB y.s && numB y.r && belowT T y.e y.i ae ai
def prRow (T : List Ep) (b : SnX) (j : Nat) : Bool := match b.ps[j]? with
  | none => true
  | some x => prOk T b.e b.i x && (decide (j = 0) || match b.ps[j - 1]? with | some y => klt y.k x.k | none => true)
def ssRow (T : List Ep) (b : SnX) (j : Nat) : Bool := match b.ss[j]? with
  | none => true
  | some x => ssOk T b.e b.i x && (decide (j = 0) || match b.ss[j - 1]? with | some y => decide (y.s < x.s) | none => true)
/-- Which snapshots are right. -/
def rightX (T : List Ep) (b : SnX) : Bool := !decide (b.e = 0 ∧ b.i = 0) && onT T b.e b.i && decide (b.ss.length ≤ 16) && (List.range b.ps.length).all (prRow T b) && (List.range b.ss.length).all (ssRow T b)
structure RightP (T : List Ep) (b : SnX) : Prop where
  on : onT T b.e b.i = true
  pos : 1 ≤ b.i
  few : b.ss.length ≤ 16
  prs : ∀ x ∈ b.ps, prOk T b.e b.i x = true
  ris : Ris (b.ps.map prK)
  sss : ∀ y ∈ b.ss, ssOk T b.e b.i y = true
  rss : RisS b.ss
theorem chain_pair {α : Type} {R : α → α → Prop} (tr : ∀ a b c, R a b → R b c → R a c) {l : List α} (h : ∀ j x y, l[j]? = some x → l[j + 1]? = some y → R x y) : l.Pairwise R := by
  have key : ∀ (d i : Nat) (x y : α), l[i]? = some x → l[i + d + 1]? = some y → R x y := by
    intro d
    induction d with
    | zero => intro i x y hx hy; exact h i x y hx hy
    | succ d ih =>
      intro i x y hx hy
      have hlt : i + (d + 1) + 1 < l.length := (List.getElem?_eq_some_iff.1 hy).1
      exact tr _ _ _ (ih i x _ hx (List.getElem?_eq_getElem (show i + d + 1 < l.length by omega))) (h (i + d + 1) _ y (List.getElem?_eq_getElem (by omega)) hy)
  refine List.pairwise_iff_getElem.2 fun i j hi hj hij => ?_
  refine key (j - i - 1) i _ _ (List.getElem?_eq_getElem hi) ?_
  rw [show i + (j - i - 1) + 1 = j by omega]
  exact List.getElem?_eq_getElem hj
theorem right_iff (T : List Ep) (b : SnX) : rightX T b = true ↔ RightP T b := by
  unfold rightX
  simp only [Bool.and_eq_true, Bool.not_eq_true', decide_eq_false_iff_not, decide_eq_true_eq, List.all_eq_true, List.mem_range]
  constructor
  · rintro ⟨⟨⟨⟨h1, h2⟩, h3⟩, h4⟩, h5⟩
    have hr := on_range h2
    refine ⟨h2, by omega, h3, ?_, ?_, ?_, ?_⟩
    · intro x hx
      obtain ⟨j, hj⟩ := List.getElem?_of_mem hx
      have := h4 j (List.getElem?_eq_some_iff.1 hj).1
      unfold prRow at this
      rw [hj] at this
      simp only [Bool.and_eq_true] at this
      exact this.1
    · refine chain_pair (R := fun x y : ByteArray × VX => klt x.1 y.1 = true) (fun a b c => klt_trans) ?_
      intro j x y hx hy
      rw [List.getElem?_map] at hx hy
      cases hx' : b.ps[j]? with
      | none => rw [hx'] at hx; cases hx
      | some x' =>
        cases hy' : b.ps[j + 1]? with
        | none => rw [hy'] at hy; cases hy
        | some y' =>
          rw [hx'] at hx; rw [hy'] at hy
          cases hx; cases hy
          have := h4 (j + 1) (List.getElem?_eq_some_iff.1 hy').1
          unfold prRow at this
          rw [hy'] at this
          simp only [Bool.and_eq_true, Nat.add_sub_cancel, hx', Bool.or_eq_true, decide_eq_true_eq] at this
          rcases this.2 with q | q
          · omega
          · exact q
    · intro x hx
      obtain ⟨j, hj⟩ := List.getElem?_of_mem hx
      have := h5 j (List.getElem?_eq_some_iff.1 hj).1
      unfold ssRow at this
      rw [hj] at this
      simp only [Bool.and_eq_true] at this
      exact this.1
    · refine chain_pair (R := fun x y : SX => x.s < y.s) (fun a b c => Int.lt_trans) ?_
      intro j x y hx hy
      have := h5 (j + 1) (List.getElem?_eq_some_iff.1 hy).1
      unfold ssRow at this
      rw [hy] at this
      simp only [Bool.and_eq_true, Nat.add_sub_cancel, hx, Bool.or_eq_true, decide_eq_true_eq] at this
      rcases this.2 with q | q
      · omega
      · exact q
  · intro h
    refine ⟨⟨⟨⟨by have := h.pos; omega, h.on⟩, h.few⟩, ?_⟩, ?_⟩
    · intro j hj
      unfold prRow
      rw [List.getElem?_eq_getElem hj]
      simp only [Bool.and_eq_true, Bool.or_eq_true, decide_eq_true_eq]
      refine ⟨h.prs _ (List.getElem_mem hj), ?_⟩
      rcases Nat.eq_zero_or_pos j with q | q
      · exact .inl q
      · right
        rw [List.getElem?_eq_getElem (show j - 1 < b.ps.length by omega)]
        have := List.pairwise_iff_getElem.1 h.ris (j - 1) j (by simp; omega) (by simpa using hj) (by omega)
        simpa [prK] using this
    · intro j hj
      unfold ssRow
      rw [List.getElem?_eq_getElem hj]
      simp only [Bool.and_eq_true, Bool.or_eq_true, decide_eq_true_eq]
      refine ⟨h.sss _ (List.getElem_mem hj), ?_⟩
      rcases Nat.eq_zero_or_pos j with q | q
      · exact .inl q
      · right
        rw [List.getElem?_eq_getElem (show j - 1 < b.ss.length by omega)]
        have := List.pairwise_iff_getElem.1 h.rss (j - 1) j (by omega) hj (by omega)
        simpa using this
theorem prOk_out {T : List Ep} {ae ai : Int} {x : PrX} (h : prOk T ae ai x = true) : (1 ≤ x.k.size ∧ x.k.size ≤ 64) ∧ x.v.d.size ≤ 1024 ∧ (x.v.c = true ∨ x.v.d.toList = []) ∧ belowT T x.v.a x.v.b ae ai = true := by
  unfold prOk at h
  simp only [Bool.and_eq_true, Bool.or_eq_true, decide_eq_true_eq] at h
  exact ⟨h.1.1.1, h.1.1.2, h.1.2, h.2⟩
theorem prOk_in {T : List Ep} {ae ai : Int} {x : PrX} (h1 : 1 ≤ x.k.size ∧ x.k.size ≤ 64) (h2 : x.v.d.size ≤ 1024) (h3 : x.v.c = true ∨ x.v.d.toList = []) (h4 : belowT T x.v.a x.v.b ae ai = true) : prOk T ae ai x = true := by
  unfold prOk
  simp only [Bool.and_eq_true, Bool.or_eq_true, decide_eq_true_eq]
  exact ⟨⟨⟨h1, h2⟩, h3⟩, h4⟩
theorem ssOk_out {T : List Ep} {ae ai : Int} {x : SX} (h : ssOk T ae ai x = true) : numB x.s = true ∧ numB x.r = true ∧ belowT T x.e x.i ae ai = true := by
  unfold ssOk at h
  simp only [Bool.and_eq_true] at h
  exact ⟨h.1.1, h.1.2, h.2⟩
theorem ssOk_in {T : List Ep} {ae ai : Int} {x : SX} (h1 : numB x.s = true) (h2 : numB x.r = true) (h4 : belowT T x.e x.i ae ai = true) : ssOk T ae ai x = true := by
  unfold ssOk; rw [h1, h2, h4]; rfl
theorem numB_ok {x : SX} (h : numB x.s = true) : x.ok := by
  unfold numB at h
  unfold SX.ok
  have := of_decide_eq_true h
  omega
theorem RightP.app {T : List Ep} {p : Ep} {b : SnX} (h : RightP T b) (hT : rightT (T ++ [p]) = true) (hc : b.i ≤ p.cut) : RightP (T ++ [p]) b :=
  ⟨on_app h.on hT hc, h.pos, h.few, fun x hx => by
    obtain ⟨h1, h2, h3, h4⟩ := prOk_out (h.prs x hx)
    exact prOk_in h1 h2 h3 (below_app h4 hT hc), h.ris, fun y hy => by
    obtain ⟨h1, h2, h4⟩ := ssOk_out (h.sss y hy)
    exact ssOk_in h1 h2 (below_app h4 hT hc), h.rss⟩
structure EntP (T : List Ep) (x : EnX) : Prop where
  on : onT T x.e x.i = true
  pos : 1 ≤ x.i
  ns : numB x.s = true
  nr : numB x.r = true
  dl : x.del = true → x.tx.toList = []
  ks : 1 ≤ x.key.size ∧ x.key.size ≤ 64
  ts : x.tx.size ≤ 1024
theorem EntP.app {T : List Ep} {p : Ep} {x : EnX} (h : EntP T x) (hT : rightT (T ++ [p]) = true) (hc : x.i ≤ p.cut) : EntP (T ++ [p]) x :=
  ⟨on_app h.on hT hc, h.pos, h.ns, h.nr, h.dl, h.ks, h.ts⟩
def FoP (T : List Ep) (f : FoX) : Prop := f.snap = SnX.zero ∨ RightP T f.snap
theorem fop_few {T : List Ep} {f : FoX} (h : FoP T f) : f.L.length ≤ 16 := by
  rcases h with h | h
  · have : f.L = [] := congrArg SnX.ss h
    rw [this]; simp
  · exact h.few
theorem fop_rss {T : List Ep} {f : FoX} (h : FoP T f) : RisS f.L := by
  rcases h with h | h
  · have : f.L = [] := congrArg SnX.ss h
    rw [this]; simp [RisS]
  · exact h.rss
theorem prs_mem {t : Tree} {x : PrX} : x ∈ prs t ↔ (x.k, x.v) ∈ t.inorder := by
  unfold prs
  rw [List.mem_map]
  constructor
  · rintro ⟨y, hy, rfl⟩; exact hy
  · intro h; exact ⟨_, h, rfl⟩
theorem fop_put {T : List Ep} {f : FoX} {x : EnX} (hk : f.rk) (h : FoP T f) (hx : EntP T x) (hi : x.i = f.i + 1) : RightP T (f.put x).snap := by
  have hself : belowT T x.e x.i x.e x.i = true := below_in hx.on hx.on hx.pos (Int.le_refl _)
  refine ⟨hx.on, hx.pos, noteV_len (fop_rss h) (fop_few h), ?_, snap_ris (hk.put x), ?_, noteV_ris (fop_rss h)⟩
  · intro y hy
    have hy1 := prs_mem.1 (show y ∈ prs (f.put x).t from hy)
    rw [FoX.put_in hk] at hy1
    rcases lset_val hy1 with hy2 | hy2
    · rcases h with h | h
      · have : prs f.t = [] := congrArg SnX.ps h
        have hm := prs_mem.2 hy2
        rw [this] at hm; simp at hm
      · obtain ⟨h1, h2, h3, h4⟩ := prOk_out (h.prs y (prs_mem.2 hy2))
        obtain ⟨g1, g2, g3, g4⟩ := below_out h4
        refine prOk_in h1 h2 h3 (below_in g1 hx.on g3 ?_)
        have : f.snap.i = f.i := rfl
        show y.v.b ≤ x.i; omega
    · obtain ⟨e1, e2⟩ := Prod.mk.inj hy2
      have hxc : x.v.c = true ∨ x.v.d.toList = [] := by
        show (!x.del) = true ∨ x.tx.toList = []
        cases hd : x.del with
        | false => exact .inl rfl
        | true => exact .inr (hx.dl hd)
      have key : prOk T x.e x.i ⟨x.key, x.v⟩ = true := prOk_in hx.ks hx.ts hxc hself
      have : y = ⟨x.key, x.v⟩ := by cases y; simp at e1 e2; rw [e1, e2]
      rw [this]; exact key
  · intro y hy
    rcases noteV_mem (show y ∈ noteV f.L 16 x.se from hy) with rfl | hy2
    · exact ssOk_in hx.ns hx.nr hself
    · rcases h with h | h
      · have : f.L = [] := congrArg SnX.ss h
        rw [this] at hy2; simp at hy2
      · obtain ⟨h1, h2, h4⟩ := ssOk_out (h.sss y hy2)
        obtain ⟨g1, g2, g3, g4⟩ := below_out h4
        refine ssOk_in h1 h2 (below_in g1 hx.on g3 ?_)
        have : f.snap.i = f.i := rfl
        show y.i ≤ x.i; omega
/-! ### Records -/
/-- A record. -/
structure RcG where
  kind : Int
  x : EnX
  ep : Ep
  config : Int
  sn : SnX
structure RcG.ok (r : RcG) : Prop where
  xo : r.x.ok
  xi : rg r.x.i
  se : rg r.sn.e
  ps : r.sn.ps.length ≤ 90000
  ss : r.sn.ss.length ≤ 1000
  pr : ∀ x ∈ r.sn.ps, rg x.v.a
  sr : ∀ y ∈ r.sn.ss, rg y.e
def gchkV (S : G15) (r : RcG) : Int :=
  if r.kind = 1 then gcwV S r.x else if r.kind = 2 then (if rightT (S.table ++ [r.ep]) = true then 0 else 1) else if r.kind = 3 then (if r.config = (S.table.length : Int) then 0 else 1) else
  if r.kind = 4 then (if S.closed = true then 10 else if rightX S.table r.sn = false then 2 else if r.sn.i ≤ S.fold.i then 11 else 0) else if r.kind = 5 then (if S.closed = true then 10 else 0) else 1
def gapplyV (S : G15) (r : RcG) : G15 :=
  if gchkV S r ≠ 0 then S else if r.kind = 1 then gwriteV S r.x else if r.kind = 2 then gadoptV S r.ep else if r.kind = 3 then { S with closed := true } else
  if r.kind = 4 then { S with base := r.sn, es := [] } else { S with base := S.fold.snap, es := [] }
structure G15.inv (S : G15) (n : Nat) : Prop where
  ok : S.ok
  wt : S.base.ps.length + S.es.length ≤ n
  top : S.base.i + (S.es.length : Int) ≤ 512
  bz : S.base = SnX.zero ∨ RightP S.table S.base
  en : ∀ x ∈ S.es, EntP S.table x
theorem zero_snap : (FoX.of SnX.zero).snap = SnX.zero := rfl
theorem fop_of {T : List Ep} {b : SnX} (h : b = SnX.zero ∨ RightP T b) : FoP T (FoX.of b) := by
  rcases h with rfl | h
  · exact .inl zero_snap
  · right; rw [of_snap h.ris]; exact h
theorem G15.inv.upto {S : G15} {n : Nat} (h : S.inv n) : ∀ k, k ≤ S.es.length → FoP S.table (S.upto k)
  | 0, _ => fop_of h.bz
  | k + 1, hk => by
    obtain ⟨x, hx⟩ : ∃ x, S.es[k]? = some x := ⟨_, List.getElem?_eq_getElem (by omega)⟩
    rw [G15.upto_succ hx]
    refine .inr (fop_put (G15.upto_rk S k) (h.upto k (by omega)) (h.en x (List.mem_of_getElem? hx)) ?_)
    rw [h.ok.idx k x hx, G15.upto_i h.ok k (by omega)]; omega
theorem G15.inv.fop {S : G15} {n : Nat} (h : S.inv n) : FoP S.table S.fold := by
  have := h.upto S.es.length (Nat.le_refl _)
  rwa [G15.upto_all] at this
theorem foldl_size : ∀ (l : List EnX) (f : FoX), (l.foldl FoX.put f).t.size ≤ f.t.size + l.length
  | [], f => Nat.le_refl _
  | x :: l, f => by
    have h1 := foldl_size l (f.put x)
    have h2 := Tree.size_set x.key x.v f.t
    have h3 : (f.put x).t.size = (f.t.set x.key x.v).size := rfl
    simp only [List.foldl_cons, List.length_cons]
    split at h2 <;> omega
theorem G15.snap_len (S : G15) : S.fold.snap.ps.length ≤ S.base.ps.length + S.es.length := by
  have h1 := foldl_size S.es (FoX.of S.base)
  have h2 := (setAll_AA S.base.ps).2
  show (prs S.fold.t).length ≤ _
  rw [prs_len]
  have h3 : (FoX.of S.base).t = setAll S.base.ps := rfl
  rw [h3] at h1
  unfold G15.fold
  omega
theorem gcwV_zero {S : G15} {x : EnX} (h : gcwV S x = 0) : S.closed = false ∧ x.i = S.fold.i + 1 ∧ x.i ≤ 512 ∧ (x.e = (atT S.table x.i).1 ∧ x.i = (atT S.table x.i).2) ∧ (numB x.s = true ∧ numB x.r = true ∧ (x.del = true → x.tx.toList = [])) ∧ (1 ≤ x.key.size ∧ x.key.size ≤ 64 ∧ x.tx.size ≤ 1024) := by
  unfold gcwV at h
  split at h
  · omega
  · rename_i h1
    split at h
    · omega
    · rename_i h2
      split at h
      · omega
      · rename_i h3
        split at h
        · omega
        · rename_i h4
          split at h
          · omega
          · rename_i h5
            split at h
            · omega
            · rename_i h6
              refine ⟨by simpa using h1, by omega, by omega, Classical.byContradiction h4, ?_, by omega⟩
              simp only [not_or, not_and, Bool.not_eq_false, ne_eq, Classical.not_not] at h5
              exact ⟨h5.1, h5.2.1, h5.2.2⟩
theorem cw_ent {S : G15} {n : Nat} (h : S.inv n) {x : EnX} (h0 : gcwV S x = 0) : EntP S.table x := by
  obtain ⟨_, h2, h3, h4, h5, h6⟩ := gcwV_zero h0
  have hi := G15.fold_i h.ok
  have hb := h.ok.bi
  have hp : 1 ≤ x.i := by omega
  have hat := at_on h.ok.tab (i := x.i) ⟨hp, h3⟩
  exact ⟨by rw [h4.1]; exact hat.2, hp, h5.1, h5.2.1, h5.2.2, ⟨h6.1, h6.2.1⟩, h6.2.2⟩
theorem G15.ok.base {S : G15} (h : S.ok) {b : SnX} {T : List Ep} (hb : b = SnX.zero ∨ RightP T b) (hl : b.ps.length ≤ 100000) (c : Bool) : (G15.mk S.table b [] c).ok := by
  refine ⟨h.tab, by simp, by simp, ?_, hl, ?_, by simp⟩
  · rcases hb with rfl | hb
    · exact SnX.zero_ok
    · exact ⟨hb.rss, hb.few, fun x hx => numB_ok (ssOk_out (hb.sss x hx)).1⟩
  · rcases hb with rfl | hb
    · simp [SnX.zero]
    · have := on_range hb.on; have := hb.pos
      show 0 ≤ b.i ∧ b.i ≤ 512; omega
theorem gwrite_ok {S : G15} {n : Nat} (h : S.inv n) {x : EnX} (hx : x.ok) (h0 : gcwV S x = 0) : (gwriteV S x).ok := by
  obtain ⟨_, h2, h3, _⟩ := gcwV_zero h0
  have hi := G15.fold_i h.ok
  have htop := h.top
  have hb := h.ok.bi
  refine ⟨h.ok.tab, ?_, ?_, h.ok.bok, h.ok.bps, h.ok.bi, ?_⟩
  · show (S.es ++ [x]).length ≤ 600
    simp; omega
  · intro k y hy
    have hy' : (S.es ++ [x])[k]? = some y := hy
    by_cases hk : k < S.es.length
    · rw [List.getElem?_append_left hk] at hy'; exact h.ok.idx k y hy'
    · rw [List.getElem?_append_right (by omega)] at hy'
      have : k - S.es.length = 0 := by
        rcases Nat.eq_zero_or_pos (k - S.es.length) with h | h
        · exact h
        · rw [List.getElem?_eq_none (by simp; omega)] at hy'; cases hy'
      rw [this] at hy'
      simp at hy'; subst hy'
      show x.i = S.base.i + _; omega
  · intro y hy
    have hy' : y ∈ S.es ++ [x] := hy
    rcases List.mem_append.1 hy' with hy' | hy'
    · exact h.ok.ens y hy'
    · simp at hy'; subst hy'; exact hx
theorem G15.inv.write {S : G15} {n : Nat} (h : S.inv n) {x : EnX} (hx : x.ok) (h0 : gcwV S x = 0) : (gwriteV S x).inv (n + 1) := by
  obtain ⟨_, h2, h3, _⟩ := gcwV_zero h0
  have hi := G15.fold_i h.ok
  refine ⟨gwrite_ok h hx h0, ?_, ?_, h.bz, ?_⟩
  · have := h.wt
    show S.base.ps.length + (S.es ++ [x]).length ≤ n + 1
    simp; omega
  · show S.base.i + ((S.es ++ [x]).length : Int) ≤ 512
    simp; omega
  · intro y hy
    have hy' : y ∈ S.es ++ [x] := hy
    rcases List.mem_append.1 hy' with hy' | hy'
    · exact h.en y hy'
    · simp at hy'; subst hy'; exact cw_ent h h0
theorem G15.inv.top_i {S : G15} {n : Nat} (h : S.inv n) {k : Nat} {x : EnX} (hx : S.es[k]? = some x) : x.i = S.base.i + ((k + 1 : Nat) : Int) ∧ x.i ≤ S.fold.i := by
  have h1 := h.ok.idx k x hx
  have h2 := G15.fold_i h.ok
  have h3 := (List.getElem?_eq_some_iff.1 hx).1
  exact ⟨h1, by omega⟩
theorem G15.inv.adopt {S : G15} {n : Nat} (h : S.inv n) {e : Ep} (hT : rightT (S.table ++ [e]) = true) : (gadoptV S e).inv n := by
  have hok := gadopt_ok h.ok e hT
  have hi := G15.fold_i h.ok
  have hwt := h.wt
  have htop := h.top
  unfold gadoptV at hok ⊢
  split
  · rename_i hc
    rw [if_pos hc] at hok
    refine ⟨hok, hwt, htop, ?_, ?_⟩
    · rcases h.bz with q | q
      · exact .inl q
      · exact .inr (q.app hT (by omega))
    · intro x hx
      obtain ⟨k, hk⟩ := List.getElem?_of_mem hx
      exact (h.en x hx).app hT (by have := (h.top_i hk).2; omega)
  · rename_i hc
    rw [if_neg hc] at hok
    split
    · rename_i hb
      rw [if_pos hb] at hok
      refine ⟨hok, ?_, ?_, ?_, ?_⟩
      · show S.base.ps.length + (S.es.take _).length ≤ n
        simp; omega
      · show S.base.i + ((S.es.take _).length : Int) ≤ 512
        simp; omega
      · rcases h.bz with q | q
        · exact .inl q
        · exact .inr (q.app hT hb)
      · intro x hx
        have hx1 : x ∈ S.es.take (e.cut - S.base.i).toNat := hx
        obtain ⟨k, hk⟩ := List.getElem?_of_mem hx1
        rw [List.getElem?_take] at hk
        split at hk
        · have := (h.top_i hk).1
          exact (h.en x (List.mem_of_mem_take hx1)).app hT (by omega)
        · cases hk
    · rename_i hb
      rw [if_neg hb] at hok
      exact ⟨hok, by simp [SnX.zero], by simp [SnX.zero], .inl rfl, by simp⟩
theorem G15.inv.mono {S : G15} {n m : Nat} (h : S.inv n) (hm : n ≤ m) : S.inv m := ⟨h.ok, by have := h.wt; omega, h.top, h.bz, h.en⟩
theorem G15.inv.close {S : G15} {n : Nat} (h : S.inv n) (c : Bool) : G15.inv { S with closed := c } n :=
  ⟨⟨h.ok.tab, h.ok.few, h.ok.idx, h.ok.bok, h.ok.bps, h.ok.bi, h.ok.ens⟩, h.wt, h.top, h.bz, h.en⟩
theorem G15.inv.install {S : G15} {n : Nat} (h : S.inv n) {b : SnX} (hb : RightP S.table b) {m : Nat} (hl : b.ps.length ≤ m) (hm : m ≤ 100000) : G15.inv { S with base := b, es := [] } m :=
  ⟨h.ok.base (.inr hb) (by omega) _, by simpa using hl, by have := on_range hb.on; show b.i + ((([] : List EnX).length : Nat) : Int) ≤ 512; simp; omega, .inr hb, by simp⟩
theorem G15.inv.compact {S : G15} {n : Nat} (h : S.inv n) (hn : n ≤ 90000) : G15.inv { S with base := S.fold.snap, es := [] } n := by
  have hl := G15.snap_len S
  have hwt := h.wt
  have hi := G15.fold_i h.ok
  have htop := h.top
  have hf := h.fop
  exact ⟨h.ok.base hf (by omega) _, by show S.fold.snap.ps.length + 0 ≤ n; omega, by show S.fold.i + ((0 : Nat) : Int) ≤ 512; omega, hf, by simp⟩
theorem G15.inv.apply {S : G15} {n : Nat} (h : S.inv n) {r : RcG} (hr : r.ok) (h1 : r.sn.ps.length ≤ n + 1) (h2 : n ≤ 90000) : (gapplyV S r).inv (n + 1) := by
  unfold gapplyV
  split
  · exact h.mono (by omega)
  · rename_i h0
    have h0' : gchkV S r = 0 := by omega
    unfold gchkV at h0'
    split
    · rename_i hk; rw [if_pos hk] at h0'; exact h.write hr.xo h0'
    · rename_i k1; rw [if_neg k1] at h0'
      split
      · rename_i hk; rw [if_pos hk] at h0'
        split at h0'
        · rename_i hT; exact (h.adopt hT).mono (by omega)
        · omega
      · rename_i k2; rw [if_neg k2] at h0'
        split
        · exact (h.close true).mono (by omega)
        · rename_i k3; rw [if_neg k3] at h0'
          split
          · rename_i hk; rw [if_pos hk] at h0'
            split at h0'
            · omega
            · split at h0'
              · omega
              · rename_i hX
                have hX' := (right_iff S.table r.sn).1 (by simpa using hX)
                exact (h.install hX' (m := n + 1) h1 (by omega))
          · exact (h.compact h2).mono (by omega)
end Go.Proofs.YtnoggejkkjngjaaGreat
