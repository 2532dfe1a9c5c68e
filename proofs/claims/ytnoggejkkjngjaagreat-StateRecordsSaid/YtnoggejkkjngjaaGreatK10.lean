/- Package state: what records come to, and what stands on the branch, whatever is applied. No program in sight. -/
import Derived.Test.YtnoggejkkjngjaaGreatK9
set_option maxHeartbeats 8000000
set_option linter.unusedVariables false
set_option linter.unusedSimpArgs false
set_option maxRecDepth 100000
namespace Go.Proofs.YtnoggejkkjngjaaGreat
open Go Go.Sl
attribute [local irreducible] Go.Sl.Wl Go.Sl.Wc Go.Sl.thenQ Go.Sl.blkQ Go.Sl.loopQ Go.Sl.Fspec

def prOk (T : List Ep) (ae ai : Int) (x : PrX) : Bool := decide (1 ≤ x.k.size ∧ x.k.size ≤ 64) && decide (x.v.d.size ≤ 1024) && (x.v.c || decide (x.v.d.toList = [])) && belowT T x.v.a x.v.b ae ai
def ssOk (T : List Ep) (ae ai : Int) (y : SX) : Bool := numB y.s && numB y.r && belowT T y.e y.i ae ai
def prRow (T : List Ep) (b : SnX) (j : Nat) : Bool := match b.ps[j]? with
  | none => true
  | some x => prOk T b.e b.i x && (decide (j = 0) || match b.ps[j - 1]? with | some y => klt y.k x.k | none => true)
def ssRow (T : List Ep) (b : SnX) (j : Nat) : Bool := match b.ss[j]? with
  | none => true
  | some x => ssOk T b.e b.i x && (decide (j = 0) || match b.ss[j - 1]? with | some y => decide (y.s < x.s) | none => true)
/-- Which snapshots are right. -/
def rightX (T : List Ep) (b : SnX) : Bool := !decide (b.e = 0 ∧ b.i = 0) && onT T b.e b.i && decide (b.ss.length ≤ 16) && (List.range b.ps.length).all (prRow T b) && (List.range b.ss.length).all (ssRow T b)
structure RightP (T : List Ep) (b : SnX) : Prop where
  on : onT T b.e b.i = true
  pos : 1 ≤ b.i
  few : b.ss.length ≤ 16
  prs : ∀ x ∈ b.ps, prOk T b.e b.i x = true
  ris : Ris (b.ps.map prK)
  sss : ∀ y ∈ b.ss, ssOk T b.e b.i y = true
  rss : RisS b.ss
theorem chain_pair {α : Type} {R : α → α → Prop} (tr : ∀ a b c, R a b → R b c → R a c) {l : List α} (h : ∀ j x y, l[j]? = some x → l[j + 1]? = some y → R x y) : l.Pairwise R := by
  have key : ∀ (d i : Nat) (x y : α), l[i]? = some x → l[i + d + 1]? = some y → R x y := by
    intro d
    induction d with
    | zero => intro i x y hx hy; exact h i x y hx hy
    | succ d ih =>
      intro i x y hx hy
      have hlt : i + (d + 1) + 1 < l.length := (List.getElem?_eq_some_iff.1 hy).1
      exact tr _ _ _ (ih i x _ hx (List.getElem?_eq_getElem (show i + d + 1 < l.length by omega))) (h (i + d + 1) _ y (List.getElem?_eq_getElem (by omega)) hy)
  refine List.pairwise_iff_getElem.2 fun i j hi hj hij => ?_
  refine key (j - i - 1) i _ _ (List.getElem?_eq_getElem hi) ?_
  rw [show i + (j - i - 1) + 1 = j by omega]
  exact List.getElem?_eq_getElem hj
theorem right_iff (T : List Ep) (b : SnX) : rightX T b = true ↔ RightP T b := by
  unfold rightX
  simp only [Bool.and_eq_true, Bool.not_eq_true', decide_eq_false_iff_not, decide_eq_true_eq, List.all_eq_true, List.mem_range]
  constructor
  · rintro ⟨⟨⟨⟨h1, h2⟩, h3⟩, h4⟩, h5⟩
    have hr := on_range h2
    refine ⟨h2, by omega, h3, ?_, ?_, ?_, ?_⟩
    · intro x hx
      obtain ⟨j, hj⟩ := List.getElem?_of_mem hx
      have := h4 j (List.getElem?_eq_some_iff.1 hj).1
      unfold prRow at this
      rw [hj] at this
      simp only [Bool.and_eq_true] at this
      exact this.1
    · refine chain_pair (R := fun x y : ByteArray × VX => klt x.1 y.1 = true) (fun a b c => klt_trans) ?_
      intro j x y hx hy
      rw [List.getElem?_map] at hx hy
      cases hx' : b.ps[j]? with
      | none => rw [hx'] at hx; cases hx
      | some x' =>
        cases hy' : b.ps[j + 1]? with
        | none => rw [hy'] at hy; cases hy
        | some y' =>
          rw [hx'] at hx; rw [hy'] at hy
          cases hx; cases hy
          have := h4 (j + 1) (List.getElem?_eq_some_iff.1 hy').1
          unfold prRow at this
          rw [hy'] at this
          simp only [Bool.and_eq_true, Nat.add_sub_cancel, hx', Bool.or_eq_true, decide_eq_true_eq] at this
          rcases this.2 with q | q
          · omega
          · exact q
    · intro x hx
      obtain ⟨j, hj⟩ := List.getElem?_of_mem hx
      have := h5 j (List.getElem?_eq_some_iff.1 hj).1
      unfold ssRow at this
      rw [hj] at this
      simp only [Bool.and_eq_true] at this
      exact this.1
    · refine chain_pair (R := fun x y : SX => x.s < y.s) (fun a b c => Int.lt_trans) ?_
      intro j x y hx hy
      have := h5 (j + 1) (List.getElem?_eq_some_iff.1 hy).1
      unfold ssRow at this
      rw [hy] at this
      simp only [Bool.and_eq_true, Nat.add_sub_cancel, hx, Bool.or_eq_true, decide_eq_true_eq] at this
      rcases this.2 with q | q
      · omega
      · exact q
  · intro h
    refine ⟨⟨⟨⟨by have := h.pos; omega, h.on⟩, h.few⟩, ?_⟩, ?_⟩
    · intro j hj
      unfold prRow
      rw [List.getElem?_eq_getElem hj]
      simp only [Bool.and_eq_true, Bool.or_eq_true, decide_eq_true_eq]
      refine ⟨h.prs _ (List.getElem_mem hj), ?_⟩
      rcases Nat.eq_zero_or_pos j with q | q
      · exact .inl q
      · right
        rw [List.getElem?_eq_getElem (show j - 1 < b.ps.length by omega)]
        have := List.pairwise_iff_getElem.1 h.ris (j - 1) j (by simp; omega) (by simpa using hj) (by omega)
        simpa [prK] using this
    · intro j hj
      unfold ssRow
      rw [List.getElem?_eq_getElem hj]
      simp only [Bool.and_eq_true, Bool.or_eq_true, decide_eq_true_eq]
      refine ⟨h.sss _ (List.getElem_mem hj), ?_⟩
      rcases Nat.eq_zero_or_pos j with q | q
      · exact .inl q
      · right
        rw [List.getElem?_eq_getElem (show j - 1 < b.ss.length by omega)]
        have := List.pairwise_iff_getElem.1 h.rss (j - 1) j (by omega) hj (by omega)
        simpa using this
theorem prOk_out {T : List Ep} {ae ai : Int} {x : PrX} (h : prOk T ae ai x = true) : (1 ≤ x.k.size ∧ x.k.size ≤ 64) ∧ x.v.d.size ≤ 1024 ∧ (x.v.c = true ∨ x.v.d.toList = []) ∧ belowT T x.v.a x.v.b ae ai = true := by
  unfold prOk at h
  simp only [Bool.and_eq_true, Bool.or_eq_true, decide_eq_true_eq] at h
  exact ⟨h.1.1.1, h.1.1.2, h.1.2, h.2⟩
theorem prOk_in {T : List Ep} {ae ai : Int} {x : PrX} (h1 : 1 ≤ x.k.size ∧ x.k.size ≤ 64) (h2 : x.v.d.size ≤ 1024) (h3 : x.v.c = true ∨ x.v.d.toList = []) (h4 : belowT T x.v.a x.v.b ae ai = true) : prOk T ae ai x = true := by
  unfold prOk
  simp only [Bool.and_eq_true, Bool.or_eq_true, decide_eq_true_eq]
  exact ⟨⟨⟨h1, h2⟩, h3⟩, h4⟩
theorem ssOk_out {T : List Ep} {ae ai : Int} {x : SX} (h : ssOk T ae ai x = true) : numB x.s = true ∧ numB x.r = true ∧ belowT T x.e x.i ae ai = true := by
  unfold ssOk at h
  simp only [Bool.and_eq_true] at h
  exact ⟨h.1.1, h.1.2, h.2⟩
theorem ssOk_in {T : List Ep} {ae ai : Int} {x : SX} (h1 : numB x.s = true) (h2 : numB x.r = true) (h4 : belowT T x.e x.i ae ai = true) : ssOk T ae ai x = true := by
  unfold ssOk; rw [h1, h2, h4]; rfl
theorem numB_ok {x : SX} (h : numB x.s = true) : x.ok := by
  unfold numB at h
  unfold SX.ok
  have := of_decide_eq_true h
  omega
theorem RightP.app {T : List Ep} {p : Ep} {b : SnX} (h : RightP T b) (hT : rightT (T ++ [p]) = true) (hc : b.i ≤ p.cut) : RightP (T ++ [p]) b :=
  ⟨on_app h.on hT hc, h.pos, h.few, fun x hx => by
    obtain ⟨h1, h2, h3, h4⟩ := prOk_out (h.prs x hx)
    exact prOk_in h1 h2 h3 (below_app h4 hT hc), h.ris, fun y hy => by
    obtain ⟨h1, h2, h4⟩ := ssOk_out (h.sss y hy)
    exact ssOk_in h1 h2 (below_app h4 hT hc), h.rss⟩
structure EntP (T : List Ep) (x : EnX) : Prop where
  on : onT T x.e x.i = true
  pos : 1 ≤ x.i
  ns : numB x.s = true
  nr : numB x.r = true
  dl : x.del = true → x.tx.toList = []
  ks : 1 ≤ x.key.size ∧ x.key.size ≤ 64
  ts : x.tx.size ≤ 1024
theorem EntP.app {T : List Ep} {p : Ep} {x : EnX} (h : EntP T x) (hT : rightT (T ++ [p]) = true) (hc : x.i ≤ p.cut) : EntP (T ++ [p]) x :=
  ⟨on_app h.on hT hc, h.pos, h.ns, h.nr, h.dl, h.ks, h.ts⟩
def FoP (T : List Ep) (f : FoX) : Prop := f.snap = SnX.zero ∨ RightP T f.snap
theorem fop_few {T : List Ep} {f : FoX} (h : FoP T f) : f.L.length ≤ 16 := by
  rcases h with h | h
  · have : f.L = [] := congrArg SnX.ss h
    rw [this]; simp
  · exact h.few
theorem fop_rss {T : List Ep} {f : FoX} (h : FoP T f) : RisS f.L := by
  rcases h with h | h
  · have : f.L = [] := congrArg SnX.ss h
    rw [this]; simp [RisS]
  · exact h.rss
theorem prs_mem {t : Tree} {x : PrX} : x ∈ prs t ↔ (x.k, x.v) ∈ t.inorder := by
  unfold prs
  rw [List.mem_map]
  constructor
  · rintro ⟨y, hy, rfl⟩; exact hy
  · intro h; exact ⟨_, h, rfl⟩
theorem fop_put {T : List Ep} {f : FoX} {x : EnX} (hk : f.rk) (h : FoP T f) (hx : EntP T x) (hi : x.i = f.i + 1) : RightP T (f.put x).snap := by
  have hself : belowT T x.e x.i x.e x.i = true := below_in hx.on hx.on hx.pos (Int.le_refl _)
  refine ⟨hx.on, hx.pos, noteV_len (fop_rss h) (fop_few h), ?_, snap_ris (hk.put x), ?_, noteV_ris (fop_rss h)⟩
  · intro y hy
    have hy1 := prs_mem.1 (show y ∈ prs (f.put x).t from hy)
    rw [FoX.put_in hk] at hy1
    rcases lset_val hy1 with hy2 | hy2
    · rcases h with h | h
      · have : prs f.t = [] := congrArg SnX.ps h
        have hm := prs_mem.2 hy2
        rw [this] at hm; simp at hm
      · obtain ⟨h1, h2, h3, h4⟩ := prOk_out (h.prs y (prs_mem.2 hy2))
        obtain ⟨g1, g2, g3, g4⟩ := below_out h4
        refine prOk_in h1 h2 h3 (below_in g1 hx.on g3 ?_)
        have : f.snap.i = f.i := rfl
        show y.v.b ≤ x.i; omega
    · obtain ⟨e1, e2⟩ := Prod.mk.inj hy2
      have hxc : x.v.c = true ∨ x.v.d.toList = [] := by
        show (!x.del) = true ∨ x.tx.toList = []
        cases hd : x.del with
        | false => exact .inl rfl
        | true => exact .inr (hx.dl hd)
      have key : prOk T x.e x.i ⟨x.key, x.v⟩ = true := prOk_in hx.ks hx.ts hxc hself
      have : y = ⟨x.key, x.v⟩ := by cases y; simp at e1 e2; rw [e1, e2]
      rw [this]; exact key
  · intro y hy
    rcases noteV_mem (show y ∈ noteV f.L 16 x.se from hy) with rfl | hy2
    · exact ssOk_in hx.ns hx.nr hself
    · rcases h with h | h
      · have : f.L = [] := congrArg SnX.ss h
        rw [this] at hy2; simp at hy2
      · obtain ⟨h1, h2, h4⟩ := ssOk_out (h.sss y hy2)
        obtain ⟨g1, g2, g3, g4⟩ := below_out h4
        refine ssOk_in h1 h2 (below_in g1 hx.on g3 ?_)
        have : f.snap.i = f.i := rfl
        show y.i ≤ x.i; omega
/-! ### Records -/
/-- A record. -/
structure RcG where
  kind : Int
  x : EnX
  ep : Ep
  config : Int
  sn : SnX
structure RcG.ok (r : RcG) : Prop where
  xo : r.x.ok
  xi : rg r.x.i
  se : rg r.sn.e
  ps : r.sn.ps.length ≤ 90000
  ss : r.sn.ss.length ≤ 1000
  pr : ∀ x ∈ r.sn.ps, rg x.v.a
  sr : ∀ y ∈ r.sn.ss, rg y.e
def gchkV (S : G15) (r : RcG) : Int :=
  if r.kind = 1 then gcwV S r.x else if r.kind = 2 then (if rightT (S.table ++ [r.ep]) = true then 0 else 1) else if r.kind = 3 then (if r.config = (S.table.length : Int) then 0 else 1) else
  if r.kind = 4 then (if S.closed = true then 10 else if rightX S.table r.sn = false then 2 else if r.sn.i ≤ S.fold.i then 11 else 0) else if r.kind = 5 then (if S.closed = true then 10 else 0) else 1
def gapplyV (S : G15) (r : RcG) : G15 :=
  if gchkV S r ≠ 0 then S else if r.kind = 1 then gwriteV S r.x else if r.kind = 2 then gadoptV S r.ep else if r.kind = 3 then { S with closed := true } else
  if r.kind = 4 then { S with base := r.sn, es := [] } else { S with base := S.fold.snap, es := [] }
structure G15.inv (S : G15) (n : Nat) : Prop where
  ok : S.ok
  wt : S.base.ps.length + S.es.length ≤ n
  top : S.base.i + (S.es.length : Int) ≤ 512
  bz : S.base = SnX.zero ∨ RightP S.table S.base
  en : ∀ x ∈ S.es, EntP S.table x
theorem zero_snap : (FoX.of SnX.zero).snap = SnX.zero := rfl
theorem fop_of {T : List Ep} {b : SnX} (h : b = SnX.zero ∨ RightP T b) : FoP T (FoX.of b) := by
  rcases h with rfl | h
  · exact .inl zero_snap
  · right; rw [of_snap h.ris]; exact h
theorem G15.inv.upto {S : G15} {n : Nat} (h : S.inv n) : ∀ k, k ≤ S.es.length → FoP S.table (S.upto k)
  | 0, _ => fop_of h.bz
  | k + 1, hk => by
    obtain ⟨x, hx⟩ : ∃ x, S.es[k]? = some x := ⟨_, List.getElem?_eq_getElem (by omega)⟩
    rw [G15.upto_succ hx]
    refine .inr (fop_put (G15.upto_rk S k) (h.upto k (by omega)) (h.en x (List.mem_of_getElem? hx)) ?_)
    rw [h.ok.idx k x hx, G15.upto_i h.ok k (by omega)]; omega
theorem G15.inv.fop {S : G15} {n : Nat} (h : S.inv n) : FoP S.table S.fold := by
  have := h.upto S.es.length (Nat.le_refl _)
  rwa [G15.upto_all] at this
theorem foldl_size : ∀ (l : List EnX) (f : FoX), (l.foldl FoX.put f).t.size ≤ f.t.size + l.length
  | [], f => Nat.le_refl _
  | x :: l, f => by
    have h1 := foldl_size l (f.put x)
    have h2 := Tree.size_set x.key x.v f.t
    have h3 : (f.put x).t.size = (f.t.set x.key x.v).size := rfl
    simp only [List.foldl_cons, List.length_cons]
    split at h2 <;> omega
theorem G15.snap_len (S : G15) : S.fold.snap.ps.length ≤ S.base.ps.length + S.es.length := by
  have h1 := foldl_size S.es (FoX.of S.base)
  have h2 := (setAll_AA S.base.ps).2
  show (prs S.fold.t).length ≤ _
  rw [prs_len]
  have h3 : (FoX.of S.base).t = setAll S.base.ps := rfl
  rw [h3] at h1
  unfold G15.fold
  omega
theorem gcwV_zero {S : G15} {x : EnX} (h : gcwV S x = 0) : S.closed = false ∧ x.i = S.fold.i + 1 ∧ x.i ≤ 512 ∧ (x.e = (atT S.table x.i).1 ∧ x.i = (atT S.table x.i).2) ∧ (numB x.s = true ∧ numB x.r = true ∧ (x.del = true → x.tx.toList = [])) ∧ (1 ≤ x.key.size ∧ x.key.size ≤ 64 ∧ x.tx.size ≤ 1024) := by
  unfold gcwV at h
  split at h
  · omega
  · rename_i h1
    split at h
    · omega
    · rename_i h2
      split at h
      · omega
      · rename_i h3
        split at h
        · omega
        · rename_i h4
          split at h
          · omega
          · rename_i h5
            split at h
            · omega
            · rename_i h6
              refine ⟨by simpa using h1, by omega, by omega, Classical.byContradiction h4, ?_, by omega⟩
              simp only [not_or, not_and, Bool.not_eq_false, ne_eq, Classical.not_not] at h5
              exact ⟨h5.1, h5.2.1, h5.2.2⟩
theorem cw_ent {S : G15} {n : Nat} (h : S.inv n) {x : EnX} (h0 : gcwV S x = 0) : EntP S.table x := by
  obtain ⟨_, h2, h3, h4, h5, h6⟩ := gcwV_zero h0
  have hi := G15.fold_i h.ok
  have hb := h.ok.bi
  have hp : 1 ≤ x.i := by omega
  have hat := at_on h.ok.tab (i := x.i) ⟨hp, h3⟩
  exact ⟨by rw [h4.1]; exact hat.2, hp, h5.1, h5.2.1, h5.2.2, ⟨h6.1, h6.2.1⟩, h6.2.2⟩
theorem G15.ok.base {S : G15} (h : S.ok) {b : SnX} {T : List Ep} (hb : b = SnX.zero ∨ RightP T b) (hl : b.ps.length ≤ 100000) (c : Bool) : (G15.mk S.table b [] c).ok := by
  refine ⟨h.tab, by simp, by simp, ?_, hl, ?_, by simp⟩
  · rcases hb with rfl | hb
    · exact SnX.zero_ok
    · exact ⟨hb.rss, hb.few, fun x hx => numB_ok (ssOk_out (hb.sss x hx)).1⟩
  · rcases hb with rfl | hb
    · simp [SnX.zero]
    · have := on_range hb.on; have := hb.pos
      show 0 ≤ b.i ∧ b.i ≤ 512; omega
theorem gwrite_ok {S : G15} {n : Nat} (h : S.inv n) {x : EnX} (hx : x.ok) (h0 : gcwV S x = 0) : (gwriteV S x).ok := by
  obtain ⟨_, h2, h3, _⟩ := gcwV_zero h0
  have hi := G15.fold_i h.ok
  have htop := h.top
  have hb := h.ok.bi
  refine ⟨h.ok.tab, ?_, ?_, h.ok.bok, h.ok.bps, h.ok.bi, ?_⟩
  · show (S.es ++ [x]).length ≤ 600
    simp; omega
  · intro k y hy
    have hy' : (S.es ++ [x])[k]? = some y := hy
    by_cases hk : k < S.es.length
    · rw [List.getElem?_append_left hk] at hy'; exact h.ok.idx k y hy'
    · rw [List.getElem?_append_right (by omega)] at hy'
      have : k - S.es.length = 0 := by
        rcases Nat.eq_zero_or_pos (k - S.es.length) with h | h
        · exact h
        · rw [List.getElem?_eq_none (by simp; omega)] at hy'; cases hy'
      rw [this] at hy'
      simp at hy'; subst hy'
      show x.i = S.base.i + _; omega
  · intro y hy
    have hy' : y ∈ S.es ++ [x] := hy
    rcases List.mem_append.1 hy' with hy' | hy'
    · exact h.ok.ens y hy'
    · simp at hy'; subst hy'; exact hx
theorem G15.inv.write {S : G15} {n : Nat} (h : S.inv n) {x : EnX} (hx : x.ok) (h0 : gcwV S x = 0) : (gwriteV S x).inv (n + 1) := by
  obtain ⟨_, h2, h3, _⟩ := gcwV_zero h0
  have hi := G15.fold_i h.ok
  refine ⟨gwrite_ok h hx h0, ?_, ?_, h.bz, ?_⟩
  · have := h.wt
    show S.base.ps.length + (S.es ++ [x]).length ≤ n + 1
    simp; omega
  · show S.base.i + ((S.es ++ [x]).length : Int) ≤ 512
    simp; omega
  · intro y hy
    have hy' : y ∈ S.es ++ [x] := hy
    rcases List.mem_append.1 hy' with hy' | hy'
    · exact h.en y hy'
    · simp at hy'; subst hy'; exact cw_ent h h0
theorem G15.inv.top_i {S : G15} {n : Nat} (h : S.inv n) {k : Nat} {x : EnX} (hx : S.es[k]? = some x) : x.i = S.base.i + ((k + 1 : Nat) : Int) ∧ x.i ≤ S.fold.i := by
  have h1 := h.ok.idx k x hx
  have h2 := G15.fold_i h.ok
  have h3 := (List.getElem?_eq_some_iff.1 hx).1
  exact ⟨h1, by omega⟩
theorem G15.inv.adopt {S : G15} {n : Nat} (h : S.inv n) {e : Ep} (hT : rightT (S.table ++ [e]) = true) : (gadoptV S e).inv n := by
  have hok := gadopt_ok h.ok e hT
  have hi := G15.fold_i h.ok
  have hwt := h.wt
  have htop := h.top
  unfold gadoptV at hok ⊢
  split
  · rename_i hc
    rw [if_pos hc] at hok
    refine ⟨hok, hwt, htop, ?_, ?_⟩
    · rcases h.bz with q | q
      · exact .inl q
      · exact .inr (q.app hT (by omega))
    · intro x hx
      obtain ⟨k, hk⟩ := List.getElem?_of_mem hx
      exact (h.en x hx).app hT (by have := (h.top_i hk).2; omega)
  · rename_i hc
    rw [if_neg hc] at hok
    split
    · rename_i hb
      rw [if_pos hb] at hok
      refine ⟨hok, ?_, ?_, ?_, ?_⟩
      · show S.base.ps.length + (S.es.take _).length ≤ n
        simp; omega
      · show S.base.i + ((S.es.take _).length : Int) ≤ 512
        simp; omega
      · rcases h.bz with q | q
        · exact .inl q
        · exact .inr (q.app hT hb)
      · intro x hx
        have hx1 : x ∈ S.es.take (e.cut - S.base.i).toNat := hx
        obtain ⟨k, hk⟩ := List.getElem?_of_mem hx1
        rw [List.getElem?_take] at hk
        split at hk
        · have := (h.top_i hk).1
          exact (h.en x (List.mem_of_mem_take hx1)).app hT (by omega)
        · cases hk
    · rename_i hb
      rw [if_neg hb] at hok
      exact ⟨hok, by simp [SnX.zero], by simp [SnX.zero], .inl rfl, by simp⟩
theorem G15.inv.mono {S : G15} {n m : Nat} (h : S.inv n) (hm : n ≤ m) : S.inv m := ⟨h.ok, by have := h.wt; omega, h.top, h.bz, h.en⟩
theorem G15.inv.close {S : G15} {n : Nat} (h : S.inv n) (c : Bool) : G15.inv { S with closed := c } n :=
  ⟨⟨h.ok.tab, h.ok.few, h.ok.idx, h.ok.bok, h.ok.bps, h.ok.bi, h.ok.ens⟩, h.wt, h.top, h.bz, h.en⟩
theorem G15.inv.install {S : G15} {n : Nat} (h : S.inv n) {b : SnX} (hb : RightP S.table b) {m : Nat} (hl : b.ps.length ≤ m) (hm : m ≤ 100000) : G15.inv { S with base := b, es := [] } m :=
  ⟨h.ok.base (.inr hb) (by omega) _, by simpa using hl, by have := on_range hb.on; show b.i + ((([] : List EnX).length : Nat) : Int) ≤ 512; simp; omega, .inr hb, by simp⟩
theorem G15.inv.compact {S : G15} {n : Nat} (h : S.inv n) (hn : n ≤ 90000) : G15.inv { S with base := S.fold.snap, es := [] } n := by
  have hl := G15.snap_len S
  have hwt := h.wt
  have hi := G15.fold_i h.ok
  have htop := h.top
  have hf := h.fop
  exact ⟨h.ok.base hf (by omega) _, by show S.fold.snap.ps.length + 0 ≤ n; omega, by show S.fold.i + ((0 : Nat) : Int) ≤ 512; omega, hf, by simp⟩
theorem G15.inv.apply {S : G15} {n : Nat} (h : S.inv n) {r : RcG} (hr : r.ok) (h1 : r.sn.ps.length ≤ n + 1) (h2 : n ≤ 90000) : (gapplyV S r).inv (n + 1) := by
  unfold gapplyV
  split
  · exact h.mono (by omega)
  · rename_i h0
    have h0' : gchkV S r = 0 := by omega
    unfold gchkV at h0'
    split
    · rename_i hk; rw [if_pos hk] at h0'; exact h.write hr.xo h0'
    · rename_i k1; rw [if_neg k1] at h0'
      split
      · rename_i hk; rw [if_pos hk] at h0'
        split at h0'
        · rename_i hT; exact (h.adopt hT).mono (by omega)
        · omega
      · rename_i k2; rw [if_neg k2] at h0'
        split
        · exact (h.close true).mono (by omega)
        · rename_i k3; rw [if_neg k3] at h0'
          split
          · rename_i hk; rw [if_pos hk] at h0'
            split at h0'
            · omega
            · split at h0'
              · omega
              · rename_i hX
                have hX' := (right_iff S.table r.sn).1 (by simpa using hX)
                exact (h.install hX' (m := n + 1) h1 (by omega))
          · exact (h.compact h2).mono (by omega)
end Go.Proofs.YtnoggejkkjngjaaGreat
/- What package pack writes, the plain law. No program in sight. -/
set_option maxHeartbeats 8000000
set_option linter.unusedVariables false
set_option linter.unusedSimpArgs false
set_option maxRecDepth 100000
namespace Go.Proofs.YtnoggejkkjngjaaGreat
open Go Go.Sl
attribute [local irreducible] Go.Sl.Wl Go.Sl.Wc Go.Sl.thenQ Go.Sl.blkQ Go.Sl.loopQ Go.Sl.Fspec

/-- A number, seven bits a byte, the lowest first. -/
def encN (n : Nat) : List UInt8 := if n < 128 then [UInt8.ofNat n] else UInt8.ofNat (n % 128 + 128) :: encN (n / 128)
termination_by n
decreasing_by omega
theorem encN_small {n : Nat} (h : n < 128) : encN n = [UInt8.ofNat n] := by rw [encN, if_pos h]
theorem encN_big {n : Nat} (h : 128 ≤ n) : encN n = UInt8.ofNat (n % 128 + 128) :: encN (n / 128) := by rw [encN, if_neg (by omega)]
theorem encN_pos (n : Nat) : 0 < (encN n).length := by
  by_cases h1 : n < 128
  · rw [encN_small h1]; simp
  · rw [encN_big (by omega)]; simp
theorem encN_few (n : Nat) (h : n ≤ 9007199254740992) : (encN n).length ≤ 9 := by
  have step : ∀ (k m : Nat), m < 128 ^ (k + 1) → (encN m).length ≤ k + 1 := by
    intro k
    induction k with
    | zero => intro m hm; rw [encN_small (by simpa using hm)]; simp
    | succ k ih =>
      intro m hm
      by_cases h1 : m < 128
      · rw [encN_small h1]; simp
      · rw [encN_big (by omega)]
        have : m / 128 < 128 ^ (k + 1) := Nat.div_lt_of_lt_mul (by rw [Nat.pow_succ] at hm; rw [Nat.mul_comm]; exact hm)
        have := ih (m / 128) this
        simp only [List.length_cons]; omega
  exact step 8 n (by omega)
/-- What a Writer has: its bytes, whether it is spoilt. -/
abbrev Wr := List UInt8 × Bool
def numOk (n : Int) : Bool := decide (0 ≤ n ∧ n ≤ 9007199254740992)
def wNum (w : Wr) (n : Int) : Wr := if numOk n = false then (w.1, true) else if w.2 = true then w else (w.1 ++ encN n.toNat, false)
def wFlag (w : Wr) (on : Bool) : Wr := wNum w (if on = true then 1 else 0)
def wText (w : Wr) (s : ByteArray) : Wr := if (wNum w s.size).2 = true then wNum w s.size else ((wNum w s.size).1 ++ s.data.toList, false)
def wPos (w : Wr) (e i : Int) : Wr := wNum (wNum w e) i
def wEp (w : Wr) (e : Ep) : Wr := wFlag (wNum (wNum w e.master) e.cut) e.forced
def wEnt (w : Wr) (x : EnX) : Wr := wText (wFlag (wText (wNum (wNum (wPos w x.e x.i) x.s) x.r) x.key) x.del) x.tx
def wPr (w : Wr) (x : PrX) : Wr := wText (wFlag (wPos (wText w x.k) x.v.a x.v.b) x.v.c) x.v.d
def wSs (w : Wr) (x : SX) : Wr := wPos (wNum (wNum w x.s) x.r) x.e x.i
def wSnap (w : Wr) (b : SnX) : Wr := b.ss.foldl wSs (wNum (b.ps.foldl wPr (wNum (wPos w b.e b.i) (b.ps.length : Nat))) (b.ss.length : Nat))
theorem wNum_le (w : Wr) (n : Int) : w.1.length ≤ (wNum w n).1.length := by
  unfold wNum; split
  · exact Nat.le_refl _
  · split
    · exact Nat.le_refl _
    · simp
theorem wFlag_le (w : Wr) (b : Bool) : w.1.length ≤ (wFlag w b).1.length := wNum_le w _
theorem wText_le (w : Wr) (s : ByteArray) : (wNum w s.size).1.length ≤ (wText w s).1.length := by
  unfold wText; split
  · exact Nat.le_refl _
  · simp
theorem wText_le0 (w : Wr) (s : ByteArray) : w.1.length ≤ (wText w s).1.length := Nat.le_trans (wNum_le w _) (wText_le w s)
theorem wPos_le (w : Wr) (e i : Int) : w.1.length ≤ (wPos w e i).1.length := Nat.le_trans (wNum_le w e) (wNum_le _ i)
theorem wPr_le (w : Wr) (x : PrX) : w.1.length ≤ (wPr w x).1.length :=
  Nat.le_trans (wText_le0 w x.k) (Nat.le_trans (wPos_le _ _ _) (Nat.le_trans (wFlag_le _ _) (wText_le0 _ _)))
theorem wSs_le (w : Wr) (x : SX) : w.1.length ≤ (wSs w x).1.length := Nat.le_trans (wNum_le w _) (Nat.le_trans (wNum_le _ _) (wPos_le _ _ _))
theorem fold_le {α : Type} {f : Wr → α → Wr} (hf : ∀ w x, w.1.length ≤ (f w x).1.length) : ∀ (l : List α) (w : Wr), w.1.length ≤ (l.foldl f w).1.length
  | [], _ => Nat.le_refl _
  | x :: l, w => Nat.le_trans (hf w x) (fold_le hf l (f w x))
theorem fold_take_le {α : Type} {f : Wr → α → Wr} (hf : ∀ w x, w.1.length ≤ (f w x).1.length) (l : List α) (w : Wr) (k : Nat) : ((l.take k).foldl f w).1.length ≤ (l.foldl f w).1.length := by
  conv => rhs; rw [← List.take_append_drop k l, List.foldl_append]
  exact fold_le hf _ _
theorem fold_succ {α : Type} {f : Wr → α → Wr} {l : List α} {k : Nat} {x : α} (h : l[k]? = some x) (w : Wr) : (l.take (k + 1)).foldl f w = f ((l.take k).foldl f w) x := by
  obtain ⟨hk, rfl⟩ := List.getElem?_eq_some_iff.1 h
  rw [List.take_succ_eq_append_getElem hk, List.foldl_append]; rfl
end Go.Proofs.YtnoggejkkjngjaaGreat
/- Package pack: the Writer. Conditions: what is written is far from the kind's edges. -/
set_option maxHeartbeats 8000000
set_option linter.unusedVariables false
set_option linter.unusedSimpArgs false
set_option maxRecDepth 100000
namespace Go.Proofs.YtnoggejkkjngjaaGreat
open Go Go.Sl
attribute [local irreducible] Go.Sl.Wl Go.Sl.Wc Go.Sl.thenQ Go.Sl.blkQ Go.Sl.loopQ Go.Sl.Fspec

def WrL (p : Nat) (w : Wr) (a : Option Addr) (c : Nat) : List Asn :=
  [cb p [.slice a w.1.length c, .bool w.2] 103, own a w.1.length c 1 (w.1.map byteV) 5]
/-- A Writer that has written so far. -/
def WrP (p : Nat) (w : Wr) : Asn := exN fun x : Option Addr × Nat => WrL p w x.1 x.2
theorem fold_wr {p : Nat} {w : Wr} {a : Option Addr} {c : Nat} {X A0 : List Asn} (h : Ent X (WrL p w a c ++ A0)) : Ent X (WrP p w :: A0) :=
  h.trans (Ent.exN_shut (f := fun x : Option Addr × Nat => WrL p w x.1 x.2) (a, c) A0)
theorem byteV_all (l : List UInt8) : (l.map byteV).all isCell = true := by simp [byteV, isCell]
theorem low7 (n : Nat) : Value.int .u8 (((n : Int).tmod 128) + 128) = byteV (UInt8.ofNat (n % 128 + 128)) := by
  have : (UInt8.ofNat (n % 128 + 128)).toNat = n % 128 + 128 := by simp [UInt8.toNat_ofNat']; omega
  unfold byteV; rw [this]
  have : (n : Int).tmod 128 = ((n % 128 : Nat) : Int) := by rw [Int.tmod_eq_emod_of_nonneg (by omega)]; omega
  rw [this]; push_cast; rfl
theorem low7i (n : Nat) : (n : Int).tmod 128 = ((n % 128 : Nat) : Int) := by rw [Int.tmod_eq_emod_of_nonneg (by omega)]; omega
theorem byte_small (n : Nat) (h : n < 128) : Value.int .u8 (n : Int) = byteV (UInt8.ofNat n) := by
  have : (UInt8.ofNat n).toNat = n := by simp [UInt8.toNat_ofNat']; omega
  unfold byteV; rw [this]
theorem quo128 (n : Nat) (h : n ≤ 9007199254740992) : IntKind.i64.wrap ((n : Int).tdiv 128) = ((n / 128 : Nat) : Int) := by
  have : (n : Int).tdiv 128 = ((n / 128 : Nat) : Int) := by rw [Int.tdiv_eq_ediv_of_nonneg (by omega)]; omega
  rw [this]; exact IntWalk.i64_in _ (by omega)
section specs
variable {B : Base}
theorem add_spec (p : Nat) (w : Wr) (l : List UInt8) (a : Option Addr) (m c : Nat) (A0 : List Asn) (h : RdS Tryz.prog B A0 1 a m c (l.map byteV)) (hm : w.1.length + m ≤ 140737490000000) :
    Fspec Tryz.prog B 94 #[.pointer (some ⟨p, 0, none⟩), .slice a m c] (WrP p w :: A0) (fun v A' => v = .tuple #[] ∧ A' = WrP p (w.1 ++ l, w.2) :: A0) := by
  have hl : l.length = m := by have := h.len; simpa using this
  obtain ⟨bs, bad⟩ := w
  refine spec_of (args := [_, _]) Tryz.func94 rfl rfl rfl ?_
  refine yE (fun x => ?_)
  obtain ⟨wa, wc⟩ := x
  simp only [WrL] at hm ⊢
  simp only [List.cons_append, List.nil_append]
  repeat' (first
    | refine zi ?_
    | refine zK ?_
    | refine zQ (h := ?_)
    | refine zU (h := ?_)
    | refine zj ?_
    | refine zR ?_
    | refine zW ?_
    | refine zN ?_
    | refine zV ?_
    | refine ze ?_
    | refine zP ?_
    | refine zY ?_
    | refine zS rfl ?_
    | refine zd ?_
    | refine zX ?_
    | refine zO ?_
    | refine zT ?_
    | refine zL ?_
    | (refine zC (id := 0) ?_; intro K hK; refine zF (k := ?_); refine zF (k := ?_); refine zJ (k := ?_); refine zB (k := ?_); refine zM (k := ?_); refine zF (k := ?_); ((refine yN (hsrc := h.tail.tail) (hvc := byteV_all _) (hbd := by omega) (k := ?_); intro oa' oc')) <;> (refine zJ (k := ?_); refine zB (k := ?_); refine zy (ho := rfl) (k := ?_); (refine zD (hK _ _ ?_); clear hK K)))
    | (refine zc (ht := (fun ht => ?_)) (hf := (fun ht => ?_)) <;> (try simp at ht) <;> (try (exfalso; omega))))
  refine ⟨by simp, _, WrP p (bs ++ l, bad) :: A0, fold_wr (a := oa') (c := oc') ?_, res0 rfl, rfl, rfl⟩
  simp only [WrL, List.length_append, hl, List.map_append]
  simp only [List.cons_append, List.nil_append]
  (repeat (first | exact Ent.refl _ | exact Ent.nil | refine Ent.take (by (repeat (first | exact Out.head | apply Out.tail)); (first | done | fail)) ?_ | refine Ent.drop1 ?_))
theorem add1_spec (p : Nat) (w : Wr) (b : UInt8) (r : Nat) (E : TypeId) (hm : w.1.length + 1 ≤ 140737490000000) :
    Fspec Tryz.prog B 94 #[.pointer (some ⟨p, 0, none⟩), .slice (some ⟨r, 0, none⟩) 1 1] [WrP p w, cb r [byteV b] E] (fun v A' => v = .tuple #[] ∧ A' = [WrP p (w.1 ++ [b], w.2), cb r [byteV b] E]) :=
  add_spec p w [b] _ 1 1 [cb r [byteV b] E] (rds_sl Rd.head (by simp) (by simp) (by omega)) hm
theorem num_spec (p : Nat) (w : Wr) (n : Int) (hm : (wNum w n).1.length ≤ 140737489000000) :
    Fspec Tryz.prog B 58 #[.pointer (some ⟨p, 0, none⟩), .int .i64 n] [WrP p w] (fun v A' => v = .tuple #[] ∧ A' = [WrP p (wNum w n)]) := by
  refine spec_of (args := [_, _]) Tryz.func58 rfl rfl rfl ?_
  refine yE (fun x => ?_)
  obtain ⟨wa, wc⟩ := x
  obtain ⟨bs, bad⟩ := w
  simp only [WrL]
  simp only [List.cons_append, List.nil_append]
  by_cases hn : numOk n = false
  · have hno : ¬ (0 ≤ n ∧ n ≤ 9007199254740992) := by unfold numOk at hn; exact of_decide_eq_false hn
    have e : wNum (bs, bad) n = (bs, true) := by unfold wNum; rw [if_pos hn]
    rw [e]
    repeat' (first
      | refine zi ?_
      | refine zK ?_
      | refine zQ (h := ?_)
      | refine zU (h := ?_)
      | refine zj ?_
      | refine zR ?_
      | refine zW ?_
      | refine zN ?_
      | refine zV ?_
      | refine ze ?_
      | refine zP ?_
      | refine zY ?_
      | refine zS rfl ?_
      | refine zd ?_
      | refine zX ?_
      | refine zO ?_
      | refine zT ?_
      | refine zL ?_
      | (refine zC (id := 0) ?_; intro K hK; refine zF (k := ?_); refine zf (k' := ?_); (refine zD (hK _ _ ?_); clear hK K))
      | (refine zC (id := 1) ?_; intro K hK; refine zF (k := ?_); refine z6 (k' := ?_); refine zF (k := ?_); ((first | (refine zA (k := ?_); refine zF (k := ?_)) | refine zE (k := ?_) | ((refine zG (yes := (fun ht => ?_)) (no := (fun ht => ?_)) <;> (try simp at ht) <;> (try (exfalso; omega))) <;> (first | (refine zA (k := ?_); refine zF (k := ?_)) | refine zE (k := ?_))))) <;> (((first | (refine zA (k := ?_); refine z0 (k' := ?_)) | refine zE (k := ?_) | ((refine zG (yes := (fun ht => ?_)) (no := (fun ht => ?_)) <;> (try simp at ht) <;> (try (exfalso; omega))) <;> (first | (refine zA (k := ?_); refine z0 (k' := ?_)) | refine zE (k := ?_))))) <;> ((first | refine zZ (k := ?_) | refine za (k := ?_) | refine zg (k := ?_)); (refine zD (hK _ _ ?_); clear hK K))))
      | (refine zC (id := 2) ?_; intro K hK; refine zF (k := ?_); refine zJ (k := ?_); refine zB (k := ?_); refine zB (k := ?_); refine zy (ho := rfl) (k := ?_); (refine zD (hK _ _ ?_); clear hK K))
      | (refine zC (id := 3) ?_; intro K hK; refine zF (k := ?_); refine zJ (k := ?_); refine zB (k := ?_); refine zB (k := ?_); refine zM (k := ?_); (refine zD (hK _ _ ?_); clear hK K))
      | (refine zc (ht := (fun ht => ?_)) (hf := (fun ht => ?_)) <;> (try simp at ht) <;> (try (exfalso; omega))))
    all_goals exact ⟨by simp, _, [WrP p (bs, true)], fold_wr (A0 := []) (a := wa) (c := wc) (Ent.refl _), res0 rfl, rfl, rfl⟩
  have hok : 0 ≤ n ∧ n ≤ 9007199254740992 := by
    unfold numOk at hn
    simpa using hn
  cases bad with
  | true =>
    have e : wNum (bs, true) n = (bs, true) := by unfold wNum; rw [if_neg hn, if_pos rfl]
    rw [e]
    repeat' (first
      | refine zi ?_
      | refine zK ?_
      | refine zQ (h := ?_)
      | refine zU (h := ?_)
      | refine zj ?_
      | refine zR ?_
      | refine zW ?_
      | refine zN ?_
      | refine zV ?_
      | refine ze ?_
      | refine zP ?_
      | refine zY ?_
      | refine zS rfl ?_
      | refine zd ?_
      | refine zX ?_
      | refine zO ?_
      | refine zT ?_
      | refine zL ?_
      | (refine zC (id := 0) ?_; intro K hK; refine zF (k := ?_); refine zf (k' := ?_); (refine zD (hK _ _ ?_); clear hK K))
      | (refine zC (id := 1) ?_; intro K hK; refine zF (k := ?_); refine z6 (k' := ?_); refine zF (k := ?_); ((first | (refine zA (k := ?_); refine zF (k := ?_)) | refine zE (k := ?_) | ((refine zG (yes := (fun ht => ?_)) (no := (fun ht => ?_)) <;> (try simp at ht) <;> (try (exfalso; omega))) <;> (first | (refine zA (k := ?_); refine zF (k := ?_)) | refine zE (k := ?_))))) <;> (((first | (refine zA (k := ?_); refine z0 (k' := ?_)) | refine zE (k := ?_) | ((refine zG (yes := (fun ht => ?_)) (no := (fun ht => ?_)) <;> (try simp at ht) <;> (try (exfalso; omega))) <;> (first | (refine zA (k := ?_); refine z0 (k' := ?_)) | refine zE (k := ?_))))) <;> ((first | refine zZ (k := ?_) | refine za (k := ?_) | refine zg (k := ?_)); (refine zD (hK _ _ ?_); clear hK K))))
      | (refine zC (id := 2) ?_; intro K hK; refine zF (k := ?_); refine zJ (k := ?_); refine zB (k := ?_); refine zB (k := ?_); refine zy (ho := rfl) (k := ?_); (refine zD (hK _ _ ?_); clear hK K))
      | (refine zC (id := 3) ?_; intro K hK; refine zF (k := ?_); refine zJ (k := ?_); refine zB (k := ?_); refine zB (k := ?_); refine zM (k := ?_); (refine zD (hK _ _ ?_); clear hK K))
      | (refine zc (ht := (fun ht => ?_)) (hf := (fun ht => ?_)) <;> (try simp at ht) <;> (try (exfalso; omega))))
    all_goals exact ⟨by simp, _, [WrP p (bs, true)], fold_wr (A0 := []) (a := wa) (c := wc) (Ent.refl _), res0 rfl, rfl, rfl⟩
  | false =>
    obtain ⟨k, rfl⟩ := Int.eq_ofNat_of_zero_le hok.1
    have e : wNum (bs, false) k = (bs ++ encN k, false) := by unfold wNum; rw [if_neg hn, if_neg (by simp)]; rfl
    rw [e] at hm ⊢
    simp only [List.length_append] at hm
    repeat' (first
      | refine zi ?_
      | refine zK ?_
      | refine zQ (h := ?_)
      | refine zU (h := ?_)
      | refine zj ?_
      | refine zR ?_
      | refine zW ?_
      | refine zN ?_
      | refine zV ?_
      | refine ze ?_
      | refine zP ?_
      | refine zY ?_
      | refine zS rfl ?_
      | refine zd ?_
      | refine zX ?_
      | refine zO ?_
      | refine zT ?_
      | refine zL ?_
      | (refine zC (id := 0) ?_; intro K hK; refine zF (k := ?_); refine zf (k' := ?_); (refine zD (hK _ _ ?_); clear hK K))
      | (refine zC (id := 1) ?_; intro K hK; refine zF (k := ?_); refine z6 (k' := ?_); refine zF (k := ?_); ((first | (refine zA (k := ?_); refine zF (k := ?_)) | refine zE (k := ?_) | ((refine zG (yes := (fun ht => ?_)) (no := (fun ht => ?_)) <;> (try simp at ht) <;> (try (exfalso; omega))) <;> (first | (refine zA (k := ?_); refine zF (k := ?_)) | refine zE (k := ?_))))) <;> (((first | (refine zA (k := ?_); refine z0 (k' := ?_)) | refine zE (k := ?_) | ((refine zG (yes := (fun ht => ?_)) (no := (fun ht => ?_)) <;> (try simp at ht) <;> (try (exfalso; omega))) <;> (first | (refine zA (k := ?_); refine z0 (k' := ?_)) | refine zE (k := ?_))))) <;> ((first | refine zZ (k := ?_) | refine za (k := ?_) | refine zg (k := ?_)); (refine zD (hK _ _ ?_); clear hK K))))
      | (refine zC (id := 2) ?_; intro K hK; refine zF (k := ?_); refine zJ (k := ?_); refine zB (k := ?_); refine zB (k := ?_); refine zy (ho := rfl) (k := ?_); (refine zD (hK _ _ ?_); clear hK K))
      | (refine zC (id := 3) ?_; intro K hK; refine zF (k := ?_); refine zJ (k := ?_); refine zB (k := ?_); refine zB (k := ?_); refine zM (k := ?_); (refine zD (hK _ _ ?_); clear hK K))
      | (refine zc (ht := (fun ht => ?_)) (hf := (fun ht => ?_)) <;> (try simp at ht) <;> (try (exfalso; omega))))
    refine yI (α := List UInt8 × Nat) (fun g => [(0, .pointer (some ⟨p, 0, none⟩)), (1, .int .i64 g.2)]) (fun g => [WrP p (g.1, false)])
      (fun g => g.1 ++ encN g.2 = bs ++ encN k ∧ g.2 ≤ 9007199254740992) (fun g => g.2) (bs, k) ⟨rfl, by show k ≤ _; omega⟩ ⟨rfl, rfl, trivial⟩ (fold_wr (A0 := []) (a := wa) (c := wc) (Ent.refl _)) ?_
    rintro ⟨cs, i⟩ G ⟨h1, h2⟩
    simp only [ov] at h1 h2 ⊢
    have hlen := congrArg List.length h1
    have hpos := encN_pos i
    simp only [List.length_append] at hlen
    by_cases hi : 128 ≤ i
    · rw [encN_big hi] at h1
      repeat' (first
        | refine zi ?_
        | refine zK ?_
        | refine zQ (h := ?_)
        | refine zU (h := ?_)
        | refine zj ?_
        | refine zR ?_
        | refine zW ?_
        | refine zN ?_
        | refine zV ?_
        | refine ze ?_
        | refine zP ?_
        | refine zY ?_
        | refine zS rfl ?_
        | refine zd ?_
        | refine zX ?_
        | refine zO ?_
        | refine zT ?_
        | refine zL ?_
        | (refine zC (id := 4) ?_; intro K hK; refine zF (k := ?_); refine yV (k' := ?_); (refine zD (hK _ _ ?_); clear hK K))
        | (refine zC (id := 5) ?_; intro K hK; refine zF (k := ?_); refine zJ (k := ?_); refine zB (k := ?_); refine zF (k := ?_); ((refine xX (hb := by decide) (k' := ?_); rw [low7i])) <;> (refine yl (k' := ?_); ((refine zl (k' := ?_); rw [← low7i, low7])) <;> (((refine yR (cs := [byteV (UInt8.ofNat (i % 128 + 128))]) (k := ?_); intro r)) <;> (((refine zb (hs := add1_spec p (cs, false) (UInt8.ofNat (i % 128 + 128)) r _ (by show cs.length + 1 ≤ _; omega)) (k := ?_); rintro v A' ⟨rfl, rfl⟩; simp only [List.cons_append, List.nil_append])) <;> ((refine zD (hK _ _ ?_); clear hK K))))))
        | (refine zC (id := 6) ?_; intro K hK; refine zF (k := ?_); ((refine xW (hb := by decide) (k' := ?_); rw [quo128 _ h2])) <;> (refine zH (k := ?_); (refine zD (hK _ _ ?_); clear hK K)))
        | (refine zc (ht := (fun ht => ?_)) (hf := (fun ht => ?_)) <;> (try simp at ht) <;> (try (exfalso; omega))))
      refine ⟨(cs ++ [UInt8.ofNat (i % 128 + 128)], i / 128), ⟨by simpa using h1, by show i / 128 ≤ _; omega⟩, by show i / 128 < i; omega, ⟨rfl, rfl, trivial⟩, ?_⟩
      (repeat (first | exact Ent.refl _ | exact Ent.nil | refine Ent.take (by (repeat (first | exact Out.head | apply Out.tail)); (first | done | fail)) ?_ | refine Ent.drop1 ?_))
    · rw [encN_small (by omega)] at h1
      repeat' (first
        | refine zi ?_
        | refine zK ?_
        | refine zQ (h := ?_)
        | refine zU (h := ?_)
        | refine zj ?_
        | refine zR ?_
        | refine zW ?_
        | refine zN ?_
        | refine zV ?_
        | refine ze ?_
        | refine zP ?_
        | refine zY ?_
        | refine zS rfl ?_
        | refine zd ?_
        | refine zX ?_
        | refine zO ?_
        | refine zT ?_
        | refine zL ?_
        | (refine zC (id := 4) ?_; intro K hK; refine zF (k := ?_); refine yV (k' := ?_); (refine zD (hK _ _ ?_); clear hK K))
        | (refine zC (id := 7) ?_; intro K hK; refine zF (k := ?_); refine zJ (k := ?_); refine zB (k := ?_); refine zF (k := ?_); ((refine yl (k' := ?_); rw [byte_small _ (by omega)])) <;> (((refine yR (cs := [byteV (UInt8.ofNat i)]) (k := ?_); intro r)) <;> (((refine zb (hs := add1_spec p (cs, false) (UInt8.ofNat i) r _ (by show cs.length + 1 ≤ _; omega)) (k := ?_); rintro v A' ⟨rfl, rfl⟩; simp only [List.cons_append, List.nil_append])) <;> ((refine zD (hK _ _ ?_); clear hK K)))))
        | (refine zc (ht := (fun ht => ?_)) (hf := (fun ht => ?_)) <;> (try simp at ht) <;> (try (exfalso; omega))))
      refine ⟨by simp, _, [WrP p (bs ++ encN k, false)], ?_, res0 rfl, rfl, rfl⟩
      rw [← h1]
      (repeat (first | exact Ent.refl _ | exact Ent.nil | refine Ent.take (by (repeat (first | exact Out.head | apply Out.tail)); (first | done | fail)) ?_ | refine Ent.drop1 ?_))
theorem flag_spec (p : Nat) (w : Wr) (on : Bool) (hm : (wFlag w on).1.length ≤ 140737489000000) :
    Fspec Tryz.prog B 72 #[.pointer (some ⟨p, 0, none⟩), .bool on] [WrP p w] (fun v A' => v = .tuple #[] ∧ A' = [WrP p (wFlag w on)]) := by
  refine spec_of (args := [_, _]) Tryz.func72 rfl rfl rfl ?_
  cases on
  · repeat' (first
      | refine zi ?_
      | refine zK ?_
      | refine zQ (h := ?_)
      | refine zU (h := ?_)
      | refine zj ?_
      | refine zR ?_
      | refine zW ?_
      | refine zN ?_
      | refine zV ?_
      | refine ze ?_
      | refine zP ?_
      | refine zY ?_
      | refine zS rfl ?_
      | refine zd ?_
      | refine zX ?_
      | refine zO ?_
      | refine zT ?_
      | refine zL ?_
      | (refine zC (id := 0) ?_; intro K hK; refine zF (k := ?_); (refine zD (hK _ _ ?_); clear hK K))
      | (refine zC (id := 1) ?_; intro K hK; refine zF (k := ?_))
      | (refine zC (id := 2) ?_; intro K hK; refine zF (k := ?_); ((refine zb (hs := num_spec p w 0 hm) (k := ?_); rintro v A' ⟨rfl, rfl⟩; simp only [List.cons_append, List.nil_append])) <;> ((refine zD (hK _ _ ?_); clear hK K)))
      | (refine zc (ht := (fun ht => ?_)) (hf := (fun ht => ?_)) <;> (try simp at ht) <;> (try (exfalso; omega))))
    exact ⟨by simp, _, [WrP p (wFlag w false)], Ent.refl _, res0 rfl, rfl, rfl⟩
  · repeat' (first
      | refine zi ?_
      | refine zK ?_
      | refine zQ (h := ?_)
      | refine zU (h := ?_)
      | refine zj ?_
      | refine zR ?_
      | refine zW ?_
      | refine zN ?_
      | refine zV ?_
      | refine ze ?_
      | refine zP ?_
      | refine zY ?_
      | refine zS rfl ?_
      | refine zd ?_
      | refine zX ?_
      | refine zO ?_
      | refine zT ?_
      | refine zL ?_
      | (refine zC (id := 0) ?_; intro K hK; refine zF (k := ?_); (refine zD (hK _ _ ?_); clear hK K))
      | (refine zC (id := 1) ?_; intro K hK; refine zF (k := ?_); ((refine zb (hs := num_spec p w 1 hm) (k := ?_); rintro v A' ⟨rfl, rfl⟩; simp only [List.cons_append, List.nil_append])) <;> ((refine zD (hK _ _ ?_); clear hK K)))
      | (refine zC (id := 2) ?_; intro K hK; refine zF (k := ?_))
      | (refine zc (ht := (fun ht => ?_)) (hf := (fun ht => ?_)) <;> (try simp at ht) <;> (try (exfalso; omega))))
    exact ⟨by simp, _, [WrP p (wFlag w true)], Ent.refl _, res0 rfl, rfl, rfl⟩
theorem wbytes_spec (p : Nat) (bs : List UInt8) (hm : bs.length ≤ 140737489000000) :
    Fspec Tryz.prog B 62 #[.pointer (some ⟨p, 0, none⟩)] [WrP p (bs, false)]
      (fun v A' => ∃ a c, v = .tuple #[.slice a bs.length c, .int .i64 0] ∧ A' = [own a bs.length c 1 (bs.map byteV) 5, WrP p (bs, false)]) := by
  refine spec_of (args := [_]) Tryz.func62 rfl rfl rfl ?_
  refine yE (fun x => ?_)
  obtain ⟨wa, wc⟩ := x
  simp only [WrL]
  simp only [List.cons_append, List.nil_append]
  refine yW (a := wa) (sz := 1) (h0 := by omega) (h := fun hf => ?_)
  repeat' (first
    | refine zi ?_
    | refine zK ?_
    | refine zQ (h := ?_)
    | refine zU (h := ?_)
    | refine zj ?_
    | refine zR ?_
    | refine zW ?_
    | refine zN ?_
    | refine zV ?_
    | refine ze ?_
    | refine zP ?_
    | refine zY ?_
    | refine zS rfl ?_
    | refine zd ?_
    | refine zX ?_
    | refine zO ?_
    | refine zT ?_
    | refine zL ?_
    | (refine zC (id := 0) ?_; intro K hK; refine zH (k := ?_); refine zH (k := ?_); (refine zD (hK _ _ ?_); clear hK K))
    | (refine zC (id := 1) ?_; intro K hK; refine zF (k := ?_); refine zf (k' := ?_); refine zF (k := ?_); ((first | (refine zA (k := ?_); refine zF (k := ?_)) | refine zE (k := ?_) | ((refine zG (yes := (fun ht => ?_)) (no := (fun ht => ?_)) <;> (try simp at ht) <;> (try (exfalso; omega))) <;> (first | (refine zA (k := ?_); refine zF (k := ?_)) | refine zE (k := ?_))))) <;> (((first | (refine zA (k := ?_); refine zJ (k := ?_)) | refine zE (k := ?_) | ((refine zG (yes := (fun ht => ?_)) (no := (fun ht => ?_)) <;> (try simp at ht) <;> (try (exfalso; omega))) <;> (first | (refine zA (k := ?_); refine zJ (k := ?_)) | refine zE (k := ?_))))) <;> (((first | (refine zA (k := ?_); refine zB (k := ?_)) | refine zE (k := ?_) | ((refine zG (yes := (fun ht => ?_)) (no := (fun ht => ?_)) <;> (try simp at ht) <;> (try (exfalso; omega))) <;> (first | (refine zA (k := ?_); refine zB (k := ?_)) | refine zE (k := ?_))))) <;> (((first | (refine zA (k := ?_); refine zB (k := ?_)) | refine zE (k := ?_) | ((refine zG (yes := (fun ht => ?_)) (no := (fun ht => ?_)) <;> (try simp at ht) <;> (try (exfalso; omega))) <;> (first | (refine zA (k := ?_); refine zB (k := ?_)) | refine zE (k := ?_))))) <;> (((first | (refine zA (k := ?_); refine zM (k := ?_)) | refine zE (k := ?_) | ((refine zG (yes := (fun ht => ?_)) (no := (fun ht => ?_)) <;> (try simp at ht) <;> (try (exfalso; omega))) <;> (first | (refine zA (k := ?_); refine zM (k := ?_)) | refine zE (k := ?_))))) <;> ((first | refine zZ (k := ?_) | refine za (k := ?_) | refine zg (k := ?_)); (refine zD (hK _ _ ?_); clear hK K)))))))
    | (refine zC (id := 2) ?_; intro K hK; refine zH (k := ?_); refine zH (k := ?_); (refine zD (hK _ _ ?_); clear hK K))
    | (refine zC (id := 3) ?_; intro K hK; (refine yT (k := ?_); intro r); refine zF (k := ?_); refine zJ (k := ?_); refine zB (k := ?_); refine zB (k := ?_); refine zM (k := ?_); ((refine yN (hsrc := hf.rd (by (repeat (first | exact Out.head | apply Out.tail)); (first | done | fail))) (hvc := byteV_all _) (hbd := by omega) (k := ?_); intro oa' oc')) <;> (refine zH (k := ?_); refine zH (k := ?_); (refine zD (hK _ _ ?_); clear hK K)))
    | (refine zc (ht := (fun ht => ?_)) (hf := (fun ht => ?_)) <;> (try simp at ht) <;> (try (exfalso; omega))))
  refine ⟨Or.inr rfl, _, [own oa' bs.length oc' 1 (bs.map byteV) 5, WrP p (bs, false)], ?_, res2 rfl rfl rfl, oa', oc', congrArg (fun k => Value.tuple #[.slice oa' k oc', .int .i64 0]) (Nat.zero_add _), rfl⟩
  refine Ent.trans ?_ (Ent.perm (List.Perm.swap ..))
  refine fold_wr (a := wa) (c := wc) ?_
  simp only [WrL, Nat.zero_add]
  simp only [List.cons_append, List.nil_append]
  (repeat (first | exact Ent.refl _ | exact Ent.nil | refine Ent.take (by (repeat (first | exact Out.head | apply Out.tail)); (first | done | fail)) ?_ | refine Ent.drop1 ?_))
theorem wbad_spec (p : Nat) (bs : List UInt8) :
    Fspec Tryz.prog B 62 #[.pointer (some ⟨p, 0, none⟩)] [WrP p (bs, true)] (fun v A' => v = .tuple #[.slice none 0 0, .int .i64 1] ∧ A' = [WrP p (bs, true)]) := by
  refine spec_of (args := [_]) Tryz.func62 rfl rfl rfl ?_
  refine yE (fun x => ?_)
  obtain ⟨wa, wc⟩ := x
  simp only [WrL]
  simp only [List.cons_append, List.nil_append]
  repeat' (first
    | refine zi ?_
    | refine zK ?_
    | refine zQ (h := ?_)
    | refine zU (h := ?_)
    | refine zj ?_
    | refine zR ?_
    | refine zW ?_
    | refine zN ?_
    | refine zV ?_
    | refine ze ?_
    | refine zP ?_
    | refine zY ?_
    | refine zS rfl ?_
    | refine zd ?_
    | refine zX ?_
    | refine zO ?_
    | refine zT ?_
    | refine zL ?_
    | (refine zC (id := 0) ?_; intro K hK; refine zH (k := ?_); refine zH (k := ?_); (refine zD (hK _ _ ?_); clear hK K))
    | (refine zC (id := 1) ?_; intro K hK; refine zF (k := ?_); refine zf (k' := ?_); refine zF (k := ?_); ((first | (refine zA (k := ?_); refine zF (k := ?_)) | refine zE (k := ?_) | ((refine zG (yes := (fun ht => ?_)) (no := (fun ht => ?_)) <;> (try simp at ht) <;> (try (exfalso; omega))) <;> (first | (refine zA (k := ?_); refine zF (k := ?_)) | refine zE (k := ?_))))) <;> (((first | (refine zA (k := ?_); refine zJ (k := ?_)) | refine zE (k := ?_) | ((refine zG (yes := (fun ht => ?_)) (no := (fun ht => ?_)) <;> (try simp at ht) <;> (try (exfalso; omega))) <;> (first | (refine zA (k := ?_); refine zJ (k := ?_)) | refine zE (k := ?_))))) <;> (((first | (refine zA (k := ?_); refine zB (k := ?_)) | refine zE (k := ?_) | ((refine zG (yes := (fun ht => ?_)) (no := (fun ht => ?_)) <;> (try simp at ht) <;> (try (exfalso; omega))) <;> (first | (refine zA (k := ?_); refine zB (k := ?_)) | refine zE (k := ?_))))) <;> (((first | (refine zA (k := ?_); refine zB (k := ?_)) | refine zE (k := ?_) | ((refine zG (yes := (fun ht => ?_)) (no := (fun ht => ?_)) <;> (try simp at ht) <;> (try (exfalso; omega))) <;> (first | (refine zA (k := ?_); refine zB (k := ?_)) | refine zE (k := ?_))))) <;> (((first | (refine zA (k := ?_); refine zM (k := ?_)) | refine zE (k := ?_) | ((refine zG (yes := (fun ht => ?_)) (no := (fun ht => ?_)) <;> (try simp at ht) <;> (try (exfalso; omega))) <;> (first | (refine zA (k := ?_); refine zM (k := ?_)) | refine zE (k := ?_))))) <;> ((first | refine zZ (k := ?_) | refine za (k := ?_) | refine zg (k := ?_)); (refine zD (hK _ _ ?_); clear hK K)))))))
    | (refine zC (id := 2) ?_; intro K hK; refine zH (k := ?_); refine zH (k := ?_); (refine zD (hK _ _ ?_); clear hK K))
    | (refine zC (id := 3) ?_; intro K hK; (refine yT (k := ?_); intro r); refine zF (k := ?_); refine zJ (k := ?_); refine zB (k := ?_); refine zB (k := ?_); refine zM (k := ?_))
    | (refine zc (ht := (fun ht => ?_)) (hf := (fun ht => ?_)) <;> (try simp at ht) <;> (try (exfalso; omega))))
  exact ⟨Or.inr rfl, _, [WrP p (bs, true)], fold_wr (A0 := []) (a := wa) (c := wc) (Ent.refl _), res2 rfl rfl rfl, rfl, rfl⟩
theorem text_spec (p : Nat) (w : Wr) (s : ByteArray) (hm : (wText w s).1.length ≤ 140737489000000) :
    Fspec Tryz.prog B 96 #[.pointer (some ⟨p, 0, none⟩), .string s] [WrP p w] (fun v A' => v = .tuple #[] ∧ A' = [WrP p (wText w s)]) := by
  have hn := wText_le w s
  refine spec_of (args := [_, _]) Tryz.func96 rfl rfl rfl ?_
  obtain ⟨⟨wb, wd⟩, hw2⟩ : ∃ x, wNum w s.size = x := ⟨_, rfl⟩
  have hns := num_spec (B := B) p w s.size (by omega)
  have hsz : s.data.toList.length = s.size := by rw [Array.length_toList]; rfl
  rw [hw2] at hns
  unfold wText at hm ⊢
  rw [hw2] at hm ⊢
  cases wd with
  | true =>
    rw [if_pos rfl]
    repeat' (first
      | refine zi ?_
      | refine zK ?_
      | refine zQ (h := ?_)
      | refine zU (h := ?_)
      | refine zj ?_
      | refine zR ?_
      | refine zW ?_
      | refine zN ?_
      | refine zV ?_
      | refine ze ?_
      | refine zP ?_
      | refine zY ?_
      | refine zS rfl ?_
      | refine zd ?_
      | refine zX ?_
      | refine zO ?_
      | refine zT ?_
      | refine zL ?_
      | (refine zC (id := 0) ?_; intro K hK; refine zF (k := ?_); refine zf (k' := ?_); (refine zD (hK _ _ ?_); clear hK K))
      | (refine zC (id := 1) ?_; intro K hK; refine zF (k := ?_); refine zF (k := ?_); refine zk (k' := ?_); ((refine zb (hs := hns) (k := ?_); rintro v A' ⟨rfl, rfl⟩; simp only [List.cons_append, List.nil_append])) <;> ((refine zD (hK _ _ ?_); clear hK K)))
      | (refine zc (ht := (fun ht => ?_)) (hf := (fun ht => ?_)) <;> (try simp at ht) <;> (try (exfalso; omega))))
    refine yE (fun x => ?_)
    obtain ⟨wa, wc⟩ := x
    simp only [WrL]
    simp only [List.cons_append, List.nil_append]
    repeat' (first
      | refine zi ?_
      | refine zK ?_
      | refine zQ (h := ?_)
      | refine zU (h := ?_)
      | refine zj ?_
      | refine zR ?_
      | refine zW ?_
      | refine zN ?_
      | refine zV ?_
      | refine ze ?_
      | refine zP ?_
      | refine zY ?_
      | refine zS rfl ?_
      | refine zd ?_
      | refine zX ?_
      | refine zO ?_
      | refine zT ?_
      | refine zL ?_
      | (refine zC (id := 2) ?_; intro K hK; refine zF (k := ?_); refine zJ (k := ?_); refine zB (k := ?_); refine zB (k := ?_); refine zM (k := ?_); refine z7 (k' := ?_); (refine zD (hK _ _ ?_); clear hK K))
      | (refine zc (ht := (fun ht => ?_)) (hf := (fun ht => ?_)) <;> (try simp at ht) <;> (try (exfalso; omega))))
    all_goals exact ⟨by simp, _, [WrP p (wb, true)], fold_wr (A0 := []) (a := wa) (c := wc) (Ent.refl _), res0 rfl, rfl, rfl⟩
  | false =>
    rw [if_neg (by simp)] at hm ⊢
    simp only [List.length_append, hsz] at hm
    repeat' (first
      | refine zi ?_
      | refine zK ?_
      | refine zQ (h := ?_)
      | refine zU (h := ?_)
      | refine zj ?_
      | refine zR ?_
      | refine zW ?_
      | refine zN ?_
      | refine zV ?_
      | refine ze ?_
      | refine zP ?_
      | refine zY ?_
      | refine zS rfl ?_
      | refine zd ?_
      | refine zX ?_
      | refine zO ?_
      | refine zT ?_
      | refine zL ?_
      | (refine zC (id := 0) ?_; intro K hK; refine zF (k := ?_); refine zf (k' := ?_); (refine zD (hK _ _ ?_); clear hK K))
      | (refine zC (id := 1) ?_; intro K hK; refine zF (k := ?_); refine zF (k := ?_); refine zk (k' := ?_); ((refine zb (hs := hns) (k := ?_); rintro v A' ⟨rfl, rfl⟩; simp only [List.cons_append, List.nil_append])) <;> ((refine zD (hK _ _ ?_); clear hK K)))
      | (refine zc (ht := (fun ht => ?_)) (hf := (fun ht => ?_)) <;> (try simp at ht) <;> (try (exfalso; omega))))
    refine yE (fun x => ?_)
    obtain ⟨wa, wc⟩ := x
    simp only [WrL]
    simp only [List.cons_append, List.nil_append]
    repeat' (first
      | refine zi ?_
      | refine zK ?_
      | refine zQ (h := ?_)
      | refine zU (h := ?_)
      | refine zj ?_
      | refine zR ?_
      | refine zW ?_
      | refine zN ?_
      | refine zV ?_
      | refine ze ?_
      | refine zP ?_
      | refine zY ?_
      | refine zS rfl ?_
      | refine zd ?_
      | refine zX ?_
      | refine zO ?_
      | refine zT ?_
      | refine zL ?_
      | (refine zC (id := 2) ?_; intro K hK; refine zF (k := ?_); refine zJ (k := ?_); refine zB (k := ?_); refine zB (k := ?_); refine zM (k := ?_); refine z7 (k' := ?_); (refine zD (hK _ _ ?_); clear hK K))
      | (refine xC (id := 3) ([1000020]) ?_; intro K hK; refine zF (k := ?_); refine zJ (k := ?_); refine zB (k := ?_); refine zF (k := ?_); ((refine yx (k := ?_); intro r cap zs hcap hzs)) <;> (((refine yB (A' := [WrP p (wb, false), pt r (.cells (s.data.toList.map byteV ++ zs).toArray 5 (cap, cap + 1))]) (fold_wr (A0 := [pt r (.cells (s.data.toList.map byteV ++ zs).toArray 5 (cap, cap + 1))]) (a := wa) (c := wc) (by simp only [WrL]; simp only [List.cons_append, List.nil_append]; (repeat (first | exact Ent.refl _ | exact Ent.nil | refine Ent.take (by (repeat (first | exact Out.head | apply Out.tail)); (first | done | fail)) ?_ | refine Ent.drop1 ?_)))) ?_; refine zb (hs := add_spec p (wb, false) s.data.toList (some ⟨r, 0, none⟩) s.size cap [pt r (.cells (s.data.toList.map byteV ++ zs).toArray 5 (cap, cap + 1))] (rds_sl Rd.head (by simp [hsz]) (by rw [List.drop_zero, List.take_left' (by rw [List.length_map, hsz, Nat.mul_one])]) hcap) (by show wb.length + s.size ≤ _; omega)) (k := ?_); rintro v A' ⟨rfl, rfl⟩; simp only [List.cons_append, List.nil_append])) <;> ((refine zD (hK _ _ ?_); clear hK K))))
      | (refine zc (ht := (fun ht => ?_)) (hf := (fun ht => ?_)) <;> (try simp at ht) <;> (try (exfalso; omega))))
    exact ⟨by simp, _, [WrP p (wb ++ s.data.toList, false)], (by (repeat (first | exact Ent.refl _ | exact Ent.nil | refine Ent.take (by (repeat (first | exact Out.head | apply Out.tail)); (first | done | fail)) ?_ | refine Ent.drop1 ?_))), res0 rfl, rfl, rfl⟩
theorem putPos_spec (p : Nat) (w : Wr) (e i : Int) (hm : (wPos w e i).1.length ≤ 140737489000000) :
    Fspec Tryz.prog B 95 #[.pointer (some ⟨p, 0, none⟩), .agg #[.int .i64 e, .int .i64 i]] [WrP p w] (fun v A' => v = .tuple #[] ∧ A' = [WrP p (wPos w e i)]) := by
  have h1 := wNum_le (wNum w e) i
  unfold wPos at hm ⊢
  refine spec_of (args := [_, _]) Tryz.func95 rfl rfl rfl ?_
  repeat' (first
    | refine zi ?_
    | refine zK ?_
    | refine zQ (h := ?_)
    | refine zU (h := ?_)
    | refine zj ?_
    | refine zR ?_
    | refine zW ?_
    | refine zN ?_
    | refine zV ?_
    | refine ze ?_
    | refine zP ?_
    | refine zY ?_
    | refine zS rfl ?_
    | refine zd ?_
    | refine zX ?_
    | refine zO ?_
    | refine zT ?_
    | refine zL ?_
    | (refine zC (id := 0) ?_; intro K hK; ((refine zm (k := ?_); intro r3)) <;> ((refine zD (hK _ _ ?_); clear hK K)))
    | (refine zC (id := 1) ?_; intro K hK; refine zF (k := ?_); refine zB (k := ?_); refine zM (k := ?_); ((refine zb (hs := num_spec p w e (by omega)) (k := ?_); rintro v A' ⟨rfl, rfl⟩; simp only [List.cons_append, List.nil_append])) <;> ((refine zD (hK _ _ ?_); clear hK K)))
    | (refine zC (id := 2) ?_; intro K hK; refine zF (k := ?_); refine zB (k := ?_); refine zM (k := ?_); ((refine zb (hs := num_spec p (wNum w e) i (by omega)) (k := ?_); rintro v A' ⟨rfl, rfl⟩; simp only [List.cons_append, List.nil_append])) <;> ((refine zD (hK _ _ ?_); clear hK K)))
    | (refine zc (ht := (fun ht => ?_)) (hf := (fun ht => ?_)) <;> (try simp at ht) <;> (try (exfalso; omega))))
  exact ⟨by simp, _, [WrP p (wNum (wNum w e) i)], (by (repeat (first | exact Ent.refl _ | exact Ent.nil | refine Ent.take (by (repeat (first | exact Out.head | apply Out.tail)); (first | done | fail)) ?_ | refine Ent.drop1 ?_))), res0 rfl, rfl, rfl⟩
theorem putEpoch_spec (p : Nat) (w : Wr) (e : Ep) (hm : (wEp w e).1.length ≤ 140737489000000) :
    Fspec Tryz.prog B 60 #[.pointer (some ⟨p, 0, none⟩), .agg (epC e).toArray] [WrP p w] (fun v A' => v = .tuple #[] ∧ A' = [WrP p (wEp w e)]) := by
  have h1 := wNum_le (wNum w e.master) e.cut
  have h2 := wFlag_le (wNum (wNum w e.master) e.cut) e.forced
  unfold wEp at hm ⊢
  refine spec_of (args := [_, _]) Tryz.func60 rfl rfl rfl ?_
  repeat' (first
    | refine zi ?_
    | refine zK ?_
    | refine zQ (h := ?_)
    | refine zU (h := ?_)
    | refine zj ?_
    | refine zR ?_
    | refine zW ?_
    | refine zN ?_
    | refine zV ?_
    | refine ze ?_
    | refine zP ?_
    | refine zY ?_
    | refine zS rfl ?_
    | refine zd ?_
    | refine zX ?_
    | refine zO ?_
    | refine zT ?_
    | refine zL ?_
    | (refine zC (id := 0) ?_; intro K hK; ((refine zm (l := epC e) (k := ?_); intro r3; simp only [epC])) <;> ((refine zD (hK _ _ ?_); clear hK K)))
    | (refine zC (id := 1) ?_; intro K hK; refine zF (k := ?_); refine zB (k := ?_); refine zM (k := ?_); ((refine zb (hs := num_spec p w e.master (by omega)) (k := ?_); rintro v A' ⟨rfl, rfl⟩; simp only [List.cons_append, List.nil_append])) <;> ((refine zD (hK _ _ ?_); clear hK K)))
    | (refine zC (id := 2) ?_; intro K hK; refine zF (k := ?_); refine zB (k := ?_); refine zM (k := ?_); ((refine zb (hs := num_spec p (wNum w e.master) e.cut (by omega)) (k := ?_); rintro v A' ⟨rfl, rfl⟩; simp only [List.cons_append, List.nil_append])) <;> ((refine zD (hK _ _ ?_); clear hK K)))
    | (refine zC (id := 3) ?_; intro K hK; refine zF (k := ?_); refine zB (k := ?_); refine zM (k := ?_); ((refine zb (hs := flag_spec p (wNum (wNum w e.master) e.cut) e.forced hm) (k := ?_); rintro v A' ⟨rfl, rfl⟩; simp only [List.cons_append, List.nil_append])) <;> ((refine zD (hK _ _ ?_); clear hK K)))
    | (refine zc (ht := (fun ht => ?_)) (hf := (fun ht => ?_)) <;> (try simp at ht) <;> (try (exfalso; omega))))
  exact ⟨by simp, _, [WrP p (wFlag (wNum (wNum w e.master) e.cut) e.forced)], (by (repeat (first | exact Ent.refl _ | exact Ent.nil | refine Ent.take (by (repeat (first | exact Out.head | apply Out.tail)); (first | done | fail)) ?_ | refine Ent.drop1 ?_))), res0 rfl, rfl, rfl⟩
theorem putEntry_spec (p : Nat) (w : Wr) (x : EnX) (hm : (wEnt w x).1.length ≤ 140737489000000) :
    Fspec Tryz.prog B 59 #[.pointer (some ⟨p, 0, none⟩), .agg x.c.toArray] [WrP p w] (fun v A' => v = .tuple #[] ∧ A' = [WrP p (wEnt w x)]) := by
  obtain ⟨w1, e1⟩ : ∃ q, wPos w x.e x.i = q := ⟨_, rfl⟩
  obtain ⟨w2, e2⟩ : ∃ q, wNum w1 x.s = q := ⟨_, rfl⟩
  obtain ⟨w3, e3⟩ : ∃ q, wNum w2 x.r = q := ⟨_, rfl⟩
  obtain ⟨w4, e4⟩ : ∃ q, wText w3 x.key = q := ⟨_, rfl⟩
  obtain ⟨w5, e5⟩ : ∃ q, wFlag w4 x.del = q := ⟨_, rfl⟩
  have l2 := wNum_le w1 x.s
  have l3 := wNum_le w2 x.r
  have l4 := wText_le0 w3 x.key
  have l5 := wFlag_le w4 x.del
  have l6 := wText_le0 w5 x.tx
  have h1 := putPos_spec (B := B) p w x.e x.i
  have h2 := num_spec (B := B) p w1 x.s
  have h3 := num_spec (B := B) p w2 x.r
  have h4 := text_spec (B := B) p w3 x.key
  have h5 := flag_spec (B := B) p w4 x.del
  have h6 := text_spec (B := B) p w5 x.tx
  unfold wEnt at hm ⊢
  rw [e1, e2, e3, e4, e5] at hm ⊢
  rw [e2] at l2 h2
  rw [e3] at l3 h3
  rw [e4] at l4 h4
  rw [e5] at l5 h5
  rw [e1] at h1
  refine spec_of (args := [_, _]) Tryz.func59 rfl rfl rfl ?_
  repeat' (first
    | refine zi ?_
    | refine zK ?_
    | refine zQ (h := ?_)
    | refine zU (h := ?_)
    | refine zj ?_
    | refine zR ?_
    | refine zW ?_
    | refine zN ?_
    | refine zV ?_
    | refine ze ?_
    | refine zP ?_
    | refine zY ?_
    | refine zS rfl ?_
    | refine zd ?_
    | refine zX ?_
    | refine zO ?_
    | refine zT ?_
    | refine zL ?_
    | (refine zC (id := 0) ?_; intro K hK; ((refine zm (l := x.c) (k := ?_); intro r3; simp only [EnX.c])) <;> ((refine zD (hK _ _ ?_); clear hK K)))
    | (refine zC (id := 1) ?_; intro K hK; refine zF (k := ?_); refine zB (k := ?_); refine zo (k := ?_); ((refine zb (hs := h1 (by omega)) (k := ?_); rintro v A' ⟨rfl, rfl⟩; simp only [List.cons_append, List.nil_append])) <;> ((refine zD (hK _ _ ?_); clear hK K)))
    | (refine zC (id := 2) ?_; intro K hK; refine zF (k := ?_); refine zB (k := ?_); refine zM (k := ?_); ((refine zb (hs := h2 (by omega)) (k := ?_); rintro v A' ⟨rfl, rfl⟩; simp only [List.cons_append, List.nil_append])) <;> ((refine zD (hK _ _ ?_); clear hK K)))
    | (refine zC (id := 3) ?_; intro K hK; refine zF (k := ?_); refine zB (k := ?_); refine zM (k := ?_); ((refine zb (hs := h3 (by omega)) (k := ?_); rintro v A' ⟨rfl, rfl⟩; simp only [List.cons_append, List.nil_append])) <;> ((refine zD (hK _ _ ?_); clear hK K)))
    | (refine zC (id := 4) ?_; intro K hK; refine zF (k := ?_); refine zB (k := ?_); refine zM (k := ?_); ((refine zb (hs := h4 (by omega)) (k := ?_); rintro v A' ⟨rfl, rfl⟩; simp only [List.cons_append, List.nil_append])) <;> ((refine zD (hK _ _ ?_); clear hK K)))
    | (refine zC (id := 5) ?_; intro K hK; refine zF (k := ?_); refine zB (k := ?_); refine zM (k := ?_); ((refine zb (hs := h5 (by omega)) (k := ?_); rintro v A' ⟨rfl, rfl⟩; simp only [List.cons_append, List.nil_append])) <;> ((refine zD (hK _ _ ?_); clear hK K)))
    | (refine zC (id := 6) ?_; intro K hK; refine zF (k := ?_); refine zB (k := ?_); refine zM (k := ?_); ((refine zb (hs := h6 (by omega)) (k := ?_); rintro v A' ⟨rfl, rfl⟩; simp only [List.cons_append, List.nil_append])) <;> ((refine zD (hK _ _ ?_); clear hK K)))
    | (refine zc (ht := (fun ht => ?_)) (hf := (fun ht => ?_)) <;> (try simp at ht) <;> (try (exfalso; omega))))
  exact ⟨by simp, _, [WrP p (wText w5 x.tx)], (by (repeat (first | exact Ent.refl _ | exact Ent.nil | refine Ent.take (by (repeat (first | exact Out.head | apply Out.tail)); (first | done | fail)) ?_ | refine Ent.drop1 ?_))), res0 rfl, rfl, rfl⟩
theorem putSnap1_spec (X : Asn) (p : Nat) (w : Wr) (b : SnX) (hps : b.ps.length ≤ 140737489000000) (hss : b.ss.length ≤ 140737489000000) (pa : Option Addr) (pc : Nat) (sa : Option Addr) (sc : Nat)
    (h1 : RdS Tryz.prog B [X] 5 pa b.ps.length pc (prC b.ps)) (h2 : RdS Tryz.prog B [X] 4 sa b.ss.length sc (ssC b.ss)) (hm : (wSnap w b).1.length ≤ 140737489000000) :
    Fspec Tryz.prog B 61 #[.pointer (some ⟨p, 0, none⟩), .agg #[.int .i64 b.e, .int .i64 b.i, .slice pa b.ps.length pc, .slice sa b.ss.length sc]] [WrP p w, X] (fun v A' => v = .tuple #[] ∧ A' = [WrP p (wSnap w b), X]) := by
  obtain ⟨w1, e1⟩ : ∃ q, wPos w b.e b.i = q := ⟨_, rfl⟩
  obtain ⟨w2, e2⟩ : ∃ q, wNum w1 (b.ps.length : Nat) = q := ⟨_, rfl⟩
  obtain ⟨w3, e3⟩ : ∃ q, b.ps.foldl wPr w2 = q := ⟨_, rfl⟩
  obtain ⟨w4, e4⟩ : ∃ q, wNum w3 (b.ss.length : Nat) = q := ⟨_, rfl⟩
  have l1 := wNum_le w1 (b.ps.length : Nat)
  have l2 := fold_le wPr_le b.ps w2
  have l3 := wNum_le w3 (b.ss.length : Nat)
  have l4 := fold_le wSs_le b.ss w4
  have k1 := fold_take_le wPr_le b.ps w2
  have k2 := fold_take_le wSs_le b.ss w4
  have g1 := putPos_spec (B := B) p w b.e b.i
  have g2 := num_spec (B := B) p w1 (b.ps.length : Nat)
  have g4 := num_spec (B := B) p w3 (b.ss.length : Nat)
  unfold wSnap at hm ⊢
  rw [e1, e2, e3, e4] at hm ⊢
  rw [e2] at l1 g2
  rw [e3] at l2 k1
  rw [e4] at l3 g4
  rw [e1] at g1
  refine spec_of (args := [_, _]) Tryz.func61 rfl rfl rfl ?_
  repeat' (first
    | refine zi ?_
    | refine zK ?_
    | refine zQ (h := ?_)
    | refine zU (h := ?_)
    | refine zj ?_
    | refine zR ?_
    | refine zW ?_
    | refine zN ?_
    | refine zV ?_
    | refine ze ?_
    | refine zP ?_
    | refine zY ?_
    | refine zS rfl ?_
    | refine zd ?_
    | refine zX ?_
    | refine zO ?_
    | refine zT ?_
    | refine zL ?_
    | (refine zC (id := 0) ?_; intro K hK; ((refine zm (k := ?_); intro r3)) <;> ((refine zD (hK _ _ ?_); clear hK K)))
    | (refine zC (id := 1) ?_; intro K hK; refine zF (k := ?_); refine zB (k := ?_); refine zo (k := ?_); ((refine zb (hs := g1 (by omega)) (k := ?_); rintro v A' ⟨rfl, rfl⟩; simp only [List.cons_append, List.nil_append])) <;> ((refine zD (hK _ _ ?_); clear hK K)))
    | (refine zC (id := 2) ?_; intro K hK; refine zF (k := ?_); refine zB (k := ?_); refine zM (k := ?_); refine zn (k' := ?_); ((refine zb (hs := g2 (by omega)) (k := ?_); rintro v A' ⟨rfl, rfl⟩; simp only [List.cons_append, List.nil_append])) <;> ((refine zD (hK _ _ ?_); clear hK K)))
    | (refine zC (id := 3) ?_; intro K hK; refine zB (k := ?_); refine zM (k := ?_); refine zn (k' := ?_); refine zF (k := ?_); (refine zD (hK _ _ ?_); clear hK K))
    | (refine zc (ht := (fun ht => ?_)) (hf := (fun ht => ?_)) <;> (try simp at ht) <;> (try (exfalso; omega))))
  refine yI (α := Nat) (fun j => [(0, .pointer (some ⟨p, 0, none⟩)), (3, .pointer (some ⟨r3, 0, none⟩)), (18, .slice pa b.ps.length pc), (19, .int .i64 b.ps.length), (20, .int .i64 j)])
    (fun j => [WrP p ((b.ps.take j).foldl wPr w2), cb r3 [.int .i64 b.e, .int .i64 b.i, .slice pa b.ps.length pc, .slice sa b.ss.length sc] 37, X]) (fun j => j ≤ b.ps.length) (fun j => b.ps.length - j) 0 (by omega) ⟨rfl, rfl, rfl, rfl, rfl, trivial⟩ (by (repeat (first | exact Ent.refl _ | exact Ent.nil | refine Ent.take (by (repeat (first | exact Out.head | apply Out.tail)); (first | done | fail)) ?_ | refine Ent.drop1 ?_))) ?_
  intro j G hj
  simp only [ov]
  by_cases hlt : j < b.ps.length
  · obtain ⟨q, rfl⟩ : ∃ q, pa = some q := by
      cases pa with
      | none => have := h1.nil rfl; omega
      | some q => exact ⟨q, rfl⟩
    obtain ⟨x, hx⟩ : ∃ x, b.ps[j]? = some x := ⟨_, List.getElem?_eq_getElem hlt⟩
    have hsx := fold_succ (f := wPr) hx w2
    have hk := k1 (j + 1)
    obtain ⟨v0, ev0⟩ : ∃ q, (b.ps.take j).foldl wPr w2 = q := ⟨_, rfl⟩
    rw [ev0] at hsx ⊢
    rw [hsx] at hk
    rw [show wPr v0 x = wText (wFlag (wPos (wText v0 x.k) x.v.a x.v.b) x.v.c) x.v.d from rfl] at hk hsx
    obtain ⟨v1, ev1⟩ : ∃ q, wText v0 x.k = q := ⟨_, rfl⟩
    obtain ⟨v2, ev2⟩ : ∃ q, wPos v1 x.v.a x.v.b = q := ⟨_, rfl⟩
    obtain ⟨v3, ev3⟩ : ∃ q, wFlag v2 x.v.c = q := ⟨_, rfl⟩
    have m2 := wPos_le v1 x.v.a x.v.b
    have m3 := wFlag_le v2 x.v.c
    have m4 := wText_le0 v3 x.v.d
    have f1 := text_spec (B := B) p v0 x.k
    have f2 := putPos_spec (B := B) p v1 x.v.a x.v.b
    have f3 := flag_spec (B := B) p v2 x.v.c
    have f4 := text_spec (B := B) p v3 x.v.d
    rw [ev1, ev2, ev3] at hk hsx
    rw [ev1] at f1
    rw [ev2] at m2 f2
    rw [ev3] at m3 f3
    repeat' (first
      | refine zi ?_
      | refine zK ?_
      | refine zQ (h := ?_)
      | refine zU (h := ?_)
      | refine zj ?_
      | refine zR ?_
      | refine zW ?_
      | refine zN ?_
      | refine zV ?_
      | refine ze ?_
      | refine zP ?_
      | refine zY ?_
      | refine zS rfl ?_
      | refine zd ?_
      | refine zX ?_
      | refine zO ?_
      | refine zT ?_
      | refine zL ?_
      | (refine zC (id := 4) ?_; intro K hK; refine z6 (k' := ?_); (refine zD (hK _ _ ?_); clear hK K))
      | (refine zC (id := 5) ?_; intro K hK; ((refine zq (k' := ?_))) <;> (((refine yD (j := j * 5) (cs := x.c) (hq := by simp) (hr := RdS.under (RdS.under h1)) (hv := prC_row hx) (k := ?_))) <;> (((refine zw (k := ?_); intro r5)) <;> (refine zh (ho' := rfl) (k := ?_); (refine zD (hK _ _ ?_); clear hK K)))))
      | (refine zC (id := 6) ?_; intro K hK; refine zF (k := ?_); refine zB (k := ?_); refine zM (k := ?_); ((refine zb (hs := f1 (by omega)) (k := ?_); rintro v A' ⟨rfl, rfl⟩; simp only [List.cons_append, List.nil_append])) <;> ((refine zD (hK _ _ ?_); clear hK K)))
      | (refine zC (id := 7) ?_; intro K hK; refine zF (k := ?_); refine zB (k := ?_); refine zB (k := ?_); refine zo (k := ?_); ((refine zb (hs := f2 (by omega)) (k := ?_); rintro v A' ⟨rfl, rfl⟩; simp only [List.cons_append, List.nil_append])) <;> ((refine zD (hK _ _ ?_); clear hK K)))
      | (refine zC (id := 8) ?_; intro K hK; refine zF (k := ?_); refine zB (k := ?_); refine zB (k := ?_); refine zM (k := ?_); ((refine zb (hs := f3 (by omega)) (k := ?_); rintro v A' ⟨rfl, rfl⟩; simp only [List.cons_append, List.nil_append])) <;> ((refine zD (hK _ _ ?_); clear hK K)))
      | (refine zC (id := 9) ?_; intro K hK; refine zF (k := ?_); refine zB (k := ?_); refine zB (k := ?_); refine zM (k := ?_); ((refine zb (hs := f4 (by omega)) (k := ?_); rintro v A' ⟨rfl, rfl⟩; simp only [List.cons_append, List.nil_append])) <;> ((refine zD (hK _ _ ?_); clear hK K)))
      | (refine zC (id := 10) ?_; intro K hK; refine zl (k' := ?_); refine zF (k := ?_); (refine zD (hK _ _ ?_); clear hK K))
      | (refine zc (ht := (fun ht => ?_)) (hf := (fun ht => ?_)) <;> (try simp at ht) <;> (try (exfalso; omega))))
    exact ⟨j + 1, by omega, by omega, ⟨rfl, rfl, rfl, rfl, int_succ j, trivial⟩, by rw [hsx]; (repeat (first | exact Ent.refl _ | exact Ent.nil | refine Ent.take (by (repeat (first | exact Out.head | apply Out.tail)); (first | done | fail)) ?_ | refine Ent.drop1 ?_))⟩
  obtain rfl : j = b.ps.length := by omega
  rw [List.take_length, e3]
  repeat' (first
    | refine zi ?_
    | refine zK ?_
    | refine zQ (h := ?_)
    | refine zU (h := ?_)
    | refine zj ?_
    | refine zR ?_
    | refine zW ?_
    | refine zN ?_
    | refine zV ?_
    | refine ze ?_
    | refine zP ?_
    | refine zY ?_
    | refine zS rfl ?_
    | refine zd ?_
    | refine zX ?_
    | refine zO ?_
    | refine zT ?_
    | refine zL ?_
    | (refine zC (id := 4) ?_; intro K hK; refine z6 (k' := ?_); (refine zD (hK _ _ ?_); clear hK K))
    | (refine zC (id := 11) ?_; intro K hK; refine zF (k := ?_); refine zB (k := ?_); refine zM (k := ?_); refine zn (k' := ?_); ((refine zb (hs := g4 (by omega)) (k := ?_); rintro v A' ⟨rfl, rfl⟩; simp only [List.cons_append, List.nil_append])) <;> ((refine zD (hK _ _ ?_); clear hK K)))
    | (refine zC (id := 12) ?_; intro K hK; refine zB (k := ?_); refine zM (k := ?_); refine zn (k' := ?_); refine zF (k := ?_); (refine zD (hK _ _ ?_); clear hK K))
    | (refine zc (ht := (fun ht => ?_)) (hf := (fun ht => ?_)) <;> (try simp at ht) <;> (try (exfalso; omega))))
  refine yI (α := Nat) (fun j => [(0, .pointer (some ⟨p, 0, none⟩)), (3, .pointer (some ⟨r3, 0, none⟩)), (50, .slice sa b.ss.length sc), (51, .int .i64 b.ss.length), (52, .int .i64 j)])
    (fun j => [WrP p ((b.ss.take j).foldl wSs w4), cb r3 [.int .i64 b.e, .int .i64 b.i, .slice pa b.ps.length pc, .slice sa b.ss.length sc] 37, X]) (fun j => j ≤ b.ss.length) (fun j => b.ss.length - j) 0 (by omega) ⟨rfl, rfl, rfl, rfl, rfl, trivial⟩ (by (repeat (first | exact Ent.refl _ | exact Ent.nil | refine Ent.take (by (repeat (first | exact Out.head | apply Out.tail)); (first | done | fail)) ?_ | refine Ent.drop1 ?_))) ?_
  intro j G hj
  simp only [ov]
  by_cases hlt : j < b.ss.length
  · obtain ⟨q, rfl⟩ : ∃ q, sa = some q := by
      cases sa with
      | none => have := h2.nil rfl; omega
      | some q => exact ⟨q, rfl⟩
    obtain ⟨x, hx⟩ : ∃ x, b.ss[j]? = some x := ⟨_, List.getElem?_eq_getElem hlt⟩
    have hsx := fold_succ (f := wSs) hx w4
    have hk := k2 (j + 1)
    obtain ⟨v0, ev0⟩ : ∃ q, (b.ss.take j).foldl wSs w4 = q := ⟨_, rfl⟩
    rw [ev0] at hsx ⊢
    rw [hsx] at hk
    rw [show wSs v0 x = wPos (wNum (wNum v0 x.s) x.r) x.e x.i from rfl] at hk hsx
    obtain ⟨v1, ev1⟩ : ∃ q, wNum v0 x.s = q := ⟨_, rfl⟩
    obtain ⟨v2, ev2⟩ : ∃ q, wNum v1 x.r = q := ⟨_, rfl⟩
    have m2 := wNum_le v1 x.r
    have m3 := wPos_le v2 x.e x.i
    have f1 := num_spec (B := B) p v0 x.s
    have f2 := num_spec (B := B) p v1 x.r
    have f3 := putPos_spec (B := B) p v2 x.e x.i
    rw [ev1, ev2] at hk hsx
    rw [ev1] at f1
    rw [ev2] at m2 f2
    repeat' (first
      | refine zi ?_
      | refine zK ?_
      | refine zQ (h := ?_)
      | refine zU (h := ?_)
      | refine zj ?_
      | refine zR ?_
      | refine zW ?_
      | refine zN ?_
      | refine zV ?_
      | refine ze ?_
      | refine zP ?_
      | refine zY ?_
      | refine zS rfl ?_
      | refine zd ?_
      | refine zX ?_
      | refine zO ?_
      | refine zT ?_
      | refine zL ?_
      | (refine zC (id := 13) ?_; intro K hK; refine z6 (k' := ?_); (refine zD (hK _ _ ?_); clear hK K))
      | (refine zC (id := 14) ?_; intro K hK; ((refine zq (k' := ?_))) <;> (((refine yD (j := j * 4) (cs := x.c) (hq := by simp) (hr := RdS.under (RdS.under h2)) (hv := ssC_row hx) (k := ?_))) <;> (((refine zw (k := ?_); intro r7)) <;> (refine zh (ho' := rfl) (k := ?_); (refine zD (hK _ _ ?_); clear hK K)))))
      | (refine zC (id := 15) ?_; intro K hK; refine zF (k := ?_); refine zB (k := ?_); refine zM (k := ?_); ((refine zb (hs := f1 (by omega)) (k := ?_); rintro v A' ⟨rfl, rfl⟩; simp only [List.cons_append, List.nil_append])) <;> ((refine zD (hK _ _ ?_); clear hK K)))
      | (refine zC (id := 16) ?_; intro K hK; refine zF (k := ?_); refine zB (k := ?_); refine zM (k := ?_); ((refine zb (hs := f2 (by omega)) (k := ?_); rintro v A' ⟨rfl, rfl⟩; simp only [List.cons_append, List.nil_append])) <;> ((refine zD (hK _ _ ?_); clear hK K)))
      | (refine zC (id := 17) ?_; intro K hK; refine zF (k := ?_); refine zB (k := ?_); refine zo (k := ?_); ((refine zb (hs := f3 (by omega)) (k := ?_); rintro v A' ⟨rfl, rfl⟩; simp only [List.cons_append, List.nil_append])) <;> ((refine zD (hK _ _ ?_); clear hK K)))
      | (refine zC (id := 18) ?_; intro K hK; refine zl (k' := ?_); refine zF (k := ?_); (refine zD (hK _ _ ?_); clear hK K))
      | (refine zc (ht := (fun ht => ?_)) (hf := (fun ht => ?_)) <;> (try simp at ht) <;> (try (exfalso; omega))))
    exact ⟨j + 1, by omega, by omega, ⟨rfl, rfl, rfl, rfl, int_succ j, trivial⟩, by rw [hsx]; (repeat (first | exact Ent.refl _ | exact Ent.nil | refine Ent.take (by (repeat (first | exact Out.head | apply Out.tail)); (first | done | fail)) ?_ | refine Ent.drop1 ?_))⟩
  obtain rfl : j = b.ss.length := by omega
  rw [List.take_length]
  repeat' (first
    | refine zi ?_
    | refine zK ?_
    | refine zQ (h := ?_)
    | refine zU (h := ?_)
    | refine zj ?_
    | refine zR ?_
    | refine zW ?_
    | refine zN ?_
    | refine zV ?_
    | refine ze ?_
    | refine zP ?_
    | refine zY ?_
    | refine zS rfl ?_
    | refine zd ?_
    | refine zX ?_
    | refine zO ?_
    | refine zT ?_
    | refine zL ?_
    | (refine zC (id := 13) ?_; intro K hK; refine z6 (k' := ?_); (refine zD (hK _ _ ?_); clear hK K))
    | (refine zc (ht := (fun ht => ?_)) (hf := (fun ht => ?_)) <;> (try simp at ht) <;> (try (exfalso; omega))))
  exact ⟨by simp, _, [WrP p (b.ss.foldl wSs w4), X], (by (repeat (first | exact Ent.refl _ | exact Ent.nil | refine Ent.take (by (repeat (first | exact Out.head | apply Out.tail)); (first | done | fail)) ?_ | refine Ent.drop1 ?_))), res0 rfl, rfl, rfl⟩
end specs
end Go.Proofs.YtnoggejkkjngjaaGreat
/- Package pack: the Reader, whatever bytes it reads. Conditions: the bytes are few. -/
set_option maxHeartbeats 8000000
set_option linter.unusedVariables false
set_option linter.unusedSimpArgs false
set_option maxRecDepth 100000
namespace Go.Proofs.YtnoggejkkjngjaaGreat
open Go Go.Sl
attribute [local irreducible] Go.Sl.Wl Go.Sl.Wc Go.Sl.thenQ Go.Sl.blkQ Go.Sl.loopQ Go.Sl.Fspec

/-- What a Reader has: the bytes ahead, whether it is spoilt. -/
abbrev Rr := List UInt8 × Bool
def rNext : Rr → Option UInt8 × Rr
  | (b :: l, false) => (some b, (l, false))
  | (l, _) => (none, (l, true))
def rNumL : Nat → Nat → Nat → Rr → Nat × Rr
  | 0, _, _, r => (0, (r.1, true))
  | f + 1, i, acc, r => match rNext r with
    | (none, r2) => (0, r2)
    | (some b, r2) => if b.toNat < 128 then (if (b.toNat = 0 ∧ 0 < i) ∨ 9007199254740992 < acc + b.toNat * 128 ^ i then (0, (r2.1, true)) else (acc + b.toNat * 128 ^ i, r2)) else rNumL f (i + 1) (acc + b.toNat % 128 * 128 ^ i) r2
def rNum (r : Rr) : Nat × Rr := rNumL 8 0 0 r
def rFlag (r : Rr) : Bool × Rr := match rNext r with
  | (none, r2) => (false, r2)
  | (some b, r2) => (decide (b.toNat = 1), (r2.1, decide (1 < b.toNat)))
def rText (r : Rr) (most : Int) : List UInt8 × Rr :=
  if (rNum r).2.2 = true ∨ most < ((rNum r).1 : Int) ∨ (rNum r).2.1.length < (rNum r).1 then ([], ((rNum r).2.1, true)) else ((rNum r).2.1.take (rNum r).1, ((rNum r).2.1.drop (rNum r).1, false))
def rCount (r : Rr) (most : Int) : Nat × Rr := if most < ((rNum r).1 : Int) then (0, ((rNum r).2.1, true)) else rNum r
theorem rNext_le (r : Rr) : (rNext r).2.1.length ≤ r.1.length := by
  unfold rNext; split <;> simp
theorem rNumL_le : ∀ (f i acc : Nat) (r : Rr), (rNumL f i acc r).2.1.length ≤ r.1.length
  | 0, _, _, r => Nat.le_refl _
  | f + 1, i, acc, r => by
    have h := rNext_le r
    unfold rNumL
    split
    · rename_i r2 e; rw [e] at h; exact h
    · rename_i b r2 e; rw [e] at h
      split
      · split
        · exact h
        · exact h
      · exact Nat.le_trans (rNumL_le f _ _ r2) h
theorem rNum_le (r : Rr) : (rNum r).2.1.length ≤ r.1.length := rNumL_le 8 0 0 r
theorem rFlag_le (r : Rr) : (rFlag r).2.1.length ≤ r.1.length := by
  have h := rNext_le r
  unfold rFlag
  split
  · rename_i r2 e; rw [e] at h; exact h
  · rename_i b r2 e; rw [e] at h; exact h
theorem rText_le (r : Rr) (m : Int) : (rText r m).2.1.length ≤ r.1.length := by
  have h := rNum_le r
  unfold rText
  split
  · exact h
  · simp only [List.length_drop]; omega
theorem rCount_le (r : Rr) (m : Int) : (rCount r m).2.1.length ≤ r.1.length := by
  have h := rNum_le r
  unfold rCount; split
  · exact h
  · exact h
theorem rds_sub {P : Program} {B : Base} {X : Asn} {A M : List Asn} {sz m c : Nat} {a : Option Addr} {vs : List Value} (h : RdS P B [X] sz a m c vs) (ho : Out X A M) : RdS P B A sz a m c vs :=
  ⟨h.len, h.nil, h.cap, h.src.weak fun w hs => (hs.perm ho.perm).ent (Ent.nil.cons X)⟩
/-- A Reader with so many bytes before it, which lie in 'X'. -/
def RdrP (B : Base) (X : Asn) (p : Nat) (r : Rr) : Asn :=
  exN fun x : { x : Option Addr × Nat // RdS Tryz.prog B [X] 1 x.1 r.1.length x.2 (r.1.map byteV) } => [cb p [.slice x.1.1 r.1.length x.1.2, .bool r.2] 145]
theorem fold_rdr {B : Base} {X : Asn} {p : Nat} {r : Rr} {a : Option Addr} {c : Nat} {Y A0 : List Asn} (hr : RdS Tryz.prog B [X] 1 a r.1.length c (r.1.map byteV)) (h : Ent Y (cb p [.slice a r.1.length c, .bool r.2] 145 :: A0)) : Ent Y (RdrP B X p r :: A0) :=
  h.trans (Ent.exN_shut (f := fun x : { x : Option Addr × Nat // RdS Tryz.prog B [X] 1 x.1 r.1.length x.2 (r.1.map byteV) } => [cb p [.slice x.1.1 r.1.length x.1.2, .bool r.2] 145]) ⟨(a, c), hr⟩ A0)
theorem and127F : ∀ k : Fin 256, bitV .and .u8 ((k.val : Nat) : Int) 127 = ((k.val % 128 : Nat) : Int) := by decide +kernel
theorem and127 (b : UInt8) : bitV .and .u8 (b.toNat : Int) 127 = ((b.toNat % 128 : Nat) : Int) := and127F ⟨b.toNat, b.toNat_lt⟩
theorem u8_lt (b : UInt8) : b.toNat < 256 := b.toNat_lt
def nextV : Option UInt8 → Value
  | none => .tuple #[.int .u8 0, .bool false]
  | some b => .tuple #[.int .u8 b.toNat, .bool true]
section specs
variable {B : Base}
theorem next_spec (X : Asn) (p : Nat) (r : Rr) (hl : r.1.length ≤ 140737490000000) :
    Fspec Tryz.prog B 100 #[.pointer (some ⟨p, 0, none⟩)] [RdrP B X p r, X] (fun v A' => v = nextV (rNext r).1 ∧ A' = [RdrP B X p (rNext r).2, X]) := by
  refine spec_of (args := [_]) Tryz.func100 rfl rfl rfl ?_
  refine yE (fun x => ?_)
  obtain ⟨⟨a, c⟩, hr⟩ := x
  obtain ⟨l, bad⟩ := r
  simp only at hr hl ⊢
  simp only [List.cons_append, List.nil_append]
  cases bad with
  | true =>
    have e : rNext (l, true) = (none, (l, true)) := by unfold rNext; split <;> simp_all
    rw [e]
    repeat' (first
      | refine zi ?_
      | refine zK ?_
      | refine zQ (h := ?_)
      | refine zU (h := ?_)
      | refine zj ?_
      | refine zR ?_
      | refine zW ?_
      | refine zN ?_
      | refine zV ?_
      | refine ze ?_
      | refine zP ?_
      | refine zY ?_
      | refine zS rfl ?_
      | refine zd ?_
      | refine zX ?_
      | refine zO ?_
      | refine zT ?_
      | refine zL ?_
      | (refine zC (id := 0) ?_; intro K hK; refine zH (k := ?_); refine zH (k := ?_); (refine zD (hK _ _ ?_); clear hK K))
      | (refine zC (id := 1) ?_; intro K hK; refine zF (k := ?_); refine zJ (k := ?_); refine zB (k := ?_); refine zM (k := ?_); refine zF (k := ?_); ((first | (refine zA (k := ?_); refine zF (k := ?_)) | refine zE (k := ?_) | ((refine zG (yes := (fun ht => ?_)) (no := (fun ht => ?_)) <;> (try simp at ht) <;> (try (exfalso; omega))) <;> (first | (refine zA (k := ?_); refine zF (k := ?_)) | refine zE (k := ?_))))) <;> (((first | (refine zA (k := ?_); refine zJ (k := ?_)) | refine zE (k := ?_) | ((refine zG (yes := (fun ht => ?_)) (no := (fun ht => ?_)) <;> (try simp at ht) <;> (try (exfalso; omega))) <;> (first | (refine zA (k := ?_); refine zJ (k := ?_)) | refine zE (k := ?_))))) <;> (((first | (refine zA (k := ?_); refine zB (k := ?_)) | refine zE (k := ?_) | ((refine zG (yes := (fun ht => ?_)) (no := (fun ht => ?_)) <;> (try simp at ht) <;> (try (exfalso; omega))) <;> (first | (refine zA (k := ?_); refine zB (k := ?_)) | refine zE (k := ?_))))) <;> (((first | (refine zA (k := ?_); refine zM (k := ?_)) | refine zE (k := ?_) | ((refine zG (yes := (fun ht => ?_)) (no := (fun ht => ?_)) <;> (try simp at ht) <;> (try (exfalso; omega))) <;> (first | (refine zA (k := ?_); refine zM (k := ?_)) | refine zE (k := ?_))))) <;> (((first | (refine zA (k := ?_); refine zn (k' := ?_)) | refine zE (k := ?_) | ((refine zG (yes := (fun ht => ?_)) (no := (fun ht => ?_)) <;> (try simp at ht) <;> (try (exfalso; omega))) <;> (first | (refine zA (k := ?_); refine zn (k' := ?_)) | refine zE (k := ?_))))) <;> (((first | (refine zA (k := ?_); refine zp (k' := ?_)) | refine zE (k := ?_) | ((refine zG (yes := (fun ht => ?_)) (no := (fun ht => ?_)) <;> (try simp at ht) <;> (try (exfalso; omega))) <;> (first | (refine zA (k := ?_); refine zp (k' := ?_)) | refine zE (k := ?_))))) <;> ((first | refine zZ (k := ?_) | refine za (k := ?_) | refine zg (k := ?_)); (refine zD (hK _ _ ?_); clear hK K))))))))
      | (refine zC (id := 2) ?_; intro K hK; refine zF (k := ?_); refine zJ (k := ?_); refine zB (k := ?_); refine zy (ho := rfl) (k := ?_); (refine zD (hK _ _ ?_); clear hK K))
      | (refine zC (id := 3) ?_; intro K hK; refine zH (k := ?_); refine zH (k := ?_); (refine zD (hK _ _ ?_); clear hK K))
      | (refine zc (ht := (fun ht => ?_)) (hf := (fun ht => ?_)) <;> (try simp at ht) <;> (try (exfalso; omega))))
    all_goals exact ⟨Or.inr rfl, _, [RdrP B X p (l, true), X], fold_rdr (r := (l, true)) hr (by (repeat (first | exact Ent.refl _ | exact Ent.nil | refine Ent.take (by (repeat (first | exact Out.head | apply Out.tail)); (first | done | fail)) ?_ | refine Ent.drop1 ?_)); (first | done | fail)), res2 rfl rfl rfl, rfl, rfl⟩
  | false =>
    cases l with
    | nil =>
      have e : rNext ([], false) = (none, ([], true)) := rfl
      rw [e]
      repeat' (first
        | refine zi ?_
        | refine zK ?_
        | refine zQ (h := ?_)
        | refine zU (h := ?_)
        | refine zj ?_
        | refine zR ?_
        | refine zW ?_
        | refine zN ?_
        | refine zV ?_
        | refine ze ?_
        | refine zP ?_
        | refine zY ?_
        | refine zS rfl ?_
        | refine zd ?_
        | refine zX ?_
        | refine zO ?_
        | refine zT ?_
        | refine zL ?_
        | (refine zC (id := 0) ?_; intro K hK; refine zH (k := ?_); refine zH (k := ?_); (refine zD (hK _ _ ?_); clear hK K))
        | (refine zC (id := 1) ?_; intro K hK; refine zF (k := ?_); refine zJ (k := ?_); refine zB (k := ?_); refine zM (k := ?_); refine zF (k := ?_); ((first | (refine zA (k := ?_); refine zF (k := ?_)) | refine zE (k := ?_) | ((refine zG (yes := (fun ht => ?_)) (no := (fun ht => ?_)) <;> (try simp at ht) <;> (try (exfalso; omega))) <;> (first | (refine zA (k := ?_); refine zF (k := ?_)) | refine zE (k := ?_))))) <;> (((first | (refine zA (k := ?_); refine zJ (k := ?_)) | refine zE (k := ?_) | ((refine zG (yes := (fun ht => ?_)) (no := (fun ht => ?_)) <;> (try simp at ht) <;> (try (exfalso; omega))) <;> (first | (refine zA (k := ?_); refine zJ (k := ?_)) | refine zE (k := ?_))))) <;> (((first | (refine zA (k := ?_); refine zB (k := ?_)) | refine zE (k := ?_) | ((refine zG (yes := (fun ht => ?_)) (no := (fun ht => ?_)) <;> (try simp at ht) <;> (try (exfalso; omega))) <;> (first | (refine zA (k := ?_); refine zB (k := ?_)) | refine zE (k := ?_))))) <;> (((first | (refine zA (k := ?_); refine zM (k := ?_)) | refine zE (k := ?_) | ((refine zG (yes := (fun ht => ?_)) (no := (fun ht => ?_)) <;> (try simp at ht) <;> (try (exfalso; omega))) <;> (first | (refine zA (k := ?_); refine zM (k := ?_)) | refine zE (k := ?_))))) <;> (((first | (refine zA (k := ?_); refine zn (k' := ?_)) | refine zE (k := ?_) | ((refine zG (yes := (fun ht => ?_)) (no := (fun ht => ?_)) <;> (try simp at ht) <;> (try (exfalso; omega))) <;> (first | (refine zA (k := ?_); refine zn (k' := ?_)) | refine zE (k := ?_))))) <;> (((first | (refine zA (k := ?_); refine zp (k' := ?_)) | refine zE (k := ?_) | ((refine zG (yes := (fun ht => ?_)) (no := (fun ht => ?_)) <;> (try simp at ht) <;> (try (exfalso; omega))) <;> (first | (refine zA (k := ?_); refine zp (k' := ?_)) | refine zE (k := ?_))))) <;> ((first | refine zZ (k := ?_) | refine za (k := ?_) | refine zg (k := ?_)); (refine zD (hK _ _ ?_); clear hK K))))))))
        | (refine zC (id := 2) ?_; intro K hK; refine zF (k := ?_); refine zJ (k := ?_); refine zB (k := ?_); refine zy (ho := rfl) (k := ?_); (refine zD (hK _ _ ?_); clear hK K))
        | (refine zC (id := 3) ?_; intro K hK; refine zH (k := ?_); refine zH (k := ?_); (refine zD (hK _ _ ?_); clear hK K))
        | (refine zc (ht := (fun ht => ?_)) (hf := (fun ht => ?_)) <;> (try simp at ht) <;> (try (exfalso; omega))))
      all_goals exact ⟨Or.inr rfl, _, [RdrP B X p ([], true), X], fold_rdr (r := ([], true)) hr (by (repeat (first | exact Ent.refl _ | exact Ent.nil | refine Ent.take (by (repeat (first | exact Out.head | apply Out.tail)); (first | done | fail)) ?_ | refine Ent.drop1 ?_)); (first | done | fail)), res2 rfl rfl rfl, rfl, rfl⟩
    | cons b l =>
      have e : rNext (b :: l, false) = (some b, (l, false)) := rfl
      rw [e]
      obtain ⟨q, rfl⟩ : ∃ q, a = some q := by
        cases a with
        | none => have := hr.nil rfl; simp at this
        | some q => exact ⟨q, rfl⟩
      have hcap := hr.cap
      simp only [List.length_cons] at hcap
      have hcut := hr.cut (l := 1) (h := (b :: l).length) (by simp) (Nat.le_refl _)
      have e1 : (((b :: l).map byteV).drop (1 * 1)).take (((b :: l).length - 1) * 1) = l.map byteV := by
        simp only [List.map_cons, Nat.one_mul, List.drop_succ_cons, List.drop_zero, Nat.mul_one]
        exact List.take_of_length_le (by simp)
      have e2 : (b :: l).length - 1 = l.length := by simp
      rw [e1, e2] at hcut
      repeat' (first
        | refine zi ?_
        | refine zK ?_
        | refine zQ (h := ?_)
        | refine zU (h := ?_)
        | refine zj ?_
        | refine zR ?_
        | refine zW ?_
        | refine zN ?_
        | refine zV ?_
        | refine ze ?_
        | refine zP ?_
        | refine zY ?_
        | refine zS rfl ?_
        | refine zd ?_
        | refine zX ?_
        | refine zO ?_
        | refine zT ?_
        | refine zL ?_
        | (refine zC (id := 0) ?_; intro K hK; refine zH (k := ?_); refine zH (k := ?_); (refine zD (hK _ _ ?_); clear hK K))
        | (refine zC (id := 1) ?_; intro K hK; refine zF (k := ?_); refine zJ (k := ?_); refine zB (k := ?_); refine zM (k := ?_); refine zF (k := ?_); ((first | (refine zA (k := ?_); refine zF (k := ?_)) | refine zE (k := ?_) | ((refine zG (yes := (fun ht => ?_)) (no := (fun ht => ?_)) <;> (try simp at ht) <;> (try (exfalso; omega))) <;> (first | (refine zA (k := ?_); refine zF (k := ?_)) | refine zE (k := ?_))))) <;> (((first | (refine zA (k := ?_); refine zJ (k := ?_)) | refine zE (k := ?_) | ((refine zG (yes := (fun ht => ?_)) (no := (fun ht => ?_)) <;> (try simp at ht) <;> (try (exfalso; omega))) <;> (first | (refine zA (k := ?_); refine zJ (k := ?_)) | refine zE (k := ?_))))) <;> (((first | (refine zA (k := ?_); refine zB (k := ?_)) | refine zE (k := ?_) | ((refine zG (yes := (fun ht => ?_)) (no := (fun ht => ?_)) <;> (try simp at ht) <;> (try (exfalso; omega))) <;> (first | (refine zA (k := ?_); refine zB (k := ?_)) | refine zE (k := ?_))))) <;> (((first | (refine zA (k := ?_); refine zM (k := ?_)) | refine zE (k := ?_) | ((refine zG (yes := (fun ht => ?_)) (no := (fun ht => ?_)) <;> (try simp at ht) <;> (try (exfalso; omega))) <;> (first | (refine zA (k := ?_); refine zM (k := ?_)) | refine zE (k := ?_))))) <;> (((first | (refine zA (k := ?_); refine zn (k' := ?_)) | refine zE (k := ?_) | ((refine zG (yes := (fun ht => ?_)) (no := (fun ht => ?_)) <;> (try simp at ht) <;> (try (exfalso; omega))) <;> (first | (refine zA (k := ?_); refine zn (k' := ?_)) | refine zE (k := ?_))))) <;> (((first | (refine zA (k := ?_); refine zp (k' := ?_)) | refine zE (k := ?_) | ((refine zG (yes := (fun ht => ?_)) (no := (fun ht => ?_)) <;> (try simp at ht) <;> (try (exfalso; omega))) <;> (first | (refine zA (k := ?_); refine zp (k' := ?_)) | refine zE (k := ?_))))) <;> ((first | refine zZ (k := ?_) | refine za (k := ?_) | refine zg (k := ?_)); (refine zD (hK _ _ ?_); clear hK K))))))))
        | (refine zC (id := 4) ?_; intro K hK; refine zF (k := ?_); refine zJ (k := ?_); refine zB (k := ?_); refine zM (k := ?_); ((refine zq (hl := by simp) (k' := ?_))) <;> (((refine z4 (v := byteV b) (j := 0) (hq := rfl) (hr := rds_sub hr (by (repeat (first | exact Out.head | apply Out.tail)); (first | done | fail))) (hv := rfl) (k := ?_))) <;> (refine zH (k := ?_); (refine zD (hK _ _ ?_); clear hK K))))
        | (refine zC (id := 5) ?_; intro K hK; refine zF (k := ?_); refine zF (k := ?_); refine zJ (k := ?_); refine zB (k := ?_); refine zM (k := ?_); ((refine yc (l := 1) (h := (b :: l).length) (hlo := ⟨_, rfl⟩) (hlh := by simp) (hhc := by simpa using hcap) (k' := ?_); rw [e2])) <;> (refine zJ (k := ?_); refine zB (k := ?_); refine zy (ho := rfl) (k := ?_); (refine zD (hK _ _ ?_); clear hK K)))
        | (refine zC (id := 6) ?_; intro K hK; refine zF (k := ?_); refine zH (k := ?_); refine zH (k := ?_); (refine zD (hK _ _ ?_); clear hK K))
        | (refine zc (ht := (fun ht => ?_)) (hf := (fun ht => ?_)) <;> (try simp at ht) <;> (try (exfalso; omega))))
      exact ⟨Or.inr rfl, _, [RdrP B X p (l, false), X], fold_rdr (r := (l, false)) hcut (Ent.refl _), res2 rfl rfl rfl, rfl, rfl⟩
theorem number_spec' (X : Asn) (p : Nat) (r : Rr) (hl : r.1.length ≤ 140737490000000) :
    Fspec Tryz.prog B 97 #[.pointer (some ⟨p, 0, none⟩)] [RdrP B X p r, X] (fun v A' => v = .int .i64 (rNum r).1 ∧ A' = [RdrP B X p (rNum r).2, X]) := by
  refine spec_of (args := [_]) Tryz.func97 rfl rfl rfl ?_
  repeat' (first
    | refine zi ?_
    | refine zK ?_
    | refine zQ (h := ?_)
    | refine zU (h := ?_)
    | refine zj ?_
    | refine zR ?_
    | refine zW ?_
    | refine zN ?_
    | refine zV ?_
    | refine ze ?_
    | refine zP ?_
    | refine zY ?_
    | refine zS rfl ?_
    | refine zd ?_
    | refine zX ?_
    | refine zO ?_
    | refine zT ?_
    | refine zL ?_
    | (refine zC (id := 0) ?_; intro K hK; refine zH (k := ?_); (refine zD (hK _ _ ?_); clear hK K))
    | (refine zC (id := 1) ?_; intro K hK; refine zH (k := ?_); refine zH (k := ?_); (refine zD (hK _ _ ?_); clear hK K))
    | (refine zC (id := 2) ?_; intro K hK; refine zH (k := ?_); (refine zD (hK _ _ ?_); clear hK K))
    | (refine zc (ht := (fun ht => ?_)) (hf := (fun ht => ?_)) <;> (try simp at ht) <;> (try (exfalso; omega))))
  refine yI (α := Nat × Nat × Rr) (fun g => [(0, .pointer (some ⟨p, 0, none⟩)), (3, .int .i64 (g.2.1 : Nat)), (4, .int .i64 ((128 ^ g.1 : Nat) : Int)), (5, .int .i64 (g.1 : Nat))])
    (fun g => [RdrP B X p g.2.2, X]) (fun g => g.1 ≤ 8 ∧ rNumL (8 - g.1) g.1 g.2.1 g.2.2 = rNum r ∧ g.2.1 < 128 ^ g.1 ∧ g.2.2.1.length ≤ 140737490000000) (fun g => 8 - g.1) (0, 0, r) ⟨by omega, rfl, by simp, hl⟩ ⟨rfl, rfl, rfl, rfl, trivial⟩ (Ent.refl _) ?_
  rintro ⟨i, acc, s⟩ G ⟨h1, h2, h3, h4⟩
  simp only [ov] at h1 h2 h3 h4 ⊢
  by_cases hi8 : i = 8
  · subst hi8
    have e : rNum r = (0, (s.1, true)) := by rw [← h2]; rfl
    rw [e]
    repeat' (first
      | refine zi ?_
      | refine zK ?_
      | refine zQ (h := ?_)
      | refine zU (h := ?_)
      | refine zj ?_
      | refine zR ?_
      | refine zW ?_
      | refine zN ?_
      | refine zV ?_
      | refine ze ?_
      | refine zP ?_
      | refine zY ?_
      | refine zS rfl ?_
      | refine zd ?_
      | refine zX ?_
      | refine zO ?_
      | refine zT ?_
      | refine zL ?_
      | (refine zC (id := 3) ?_; intro K hK; refine zF (k := ?_); refine z6 (k' := ?_); (refine zD (hK _ _ ?_); clear hK K))
      | (refine zc (ht := (fun ht => ?_)) (hf := (fun ht => ?_)) <;> (try simp at ht) <;> (try (exfalso; omega))))
    refine yE (fun x => ?_)
    obtain ⟨⟨a, c⟩, hr⟩ := x
    simp only at hr ⊢
    simp only [List.cons_append, List.nil_append]
    repeat' (first
      | refine zi ?_
      | refine zK ?_
      | refine zQ (h := ?_)
      | refine zU (h := ?_)
      | refine zj ?_
      | refine zR ?_
      | refine zW ?_
      | refine zN ?_
      | refine zV ?_
      | refine ze ?_
      | refine zP ?_
      | refine zY ?_
      | refine zS rfl ?_
      | refine zd ?_
      | refine zX ?_
      | refine zO ?_
      | refine zT ?_
      | refine zL ?_
      | (refine zC (id := 13) ?_; intro K hK; refine zF (k := ?_); refine zJ (k := ?_); refine zB (k := ?_); refine zy (ho := rfl) (k := ?_); (refine zD (hK _ _ ?_); clear hK K))
      | (refine zC (id := 14) ?_; intro K hK; refine zH (k := ?_); (refine zD (hK _ _ ?_); clear hK K))
      | (refine zc (ht := (fun ht => ?_)) (hf := (fun ht => ?_)) <;> (try simp at ht) <;> (try (exfalso; omega))))
    exact ⟨Or.inr rfl, _, [RdrP B X p (s.1, true), X], fold_rdr (r := (s.1, true)) hr (by (repeat (first | exact Ent.refl _ | exact Ent.nil | refine Ent.take (by (repeat (first | exact Out.head | apply Out.tail)); (first | done | fail)) ?_ | refine Ent.drop1 ?_))), res1 rfl rfl, rfl, rfl⟩
  have hi : i < 8 := by omega
  have hpow : 128 ^ i ≤ 562949953421312 := by
    have : i = 0 ∨ i = 1 ∨ i = 2 ∨ i = 3 ∨ i = 4 ∨ i = 5 ∨ i = 6 ∨ i = 7 := by omega
    rcases this with rfl | rfl | rfl | rfl | rfl | rfl | rfl | rfl <;> decide
  have hpos : 1 ≤ 128 ^ i := Nat.pow_pos (by omega)
  rw [show 8 - i = (7 - i) + 1 by omega] at h2
  have hn := rNext_le s
  have hns := next_spec (B := B) X p s h4
  unfold rNumL at h2
  cases hnx : rNext s with
  | mk o s2 =>
    rw [hnx] at hn hns h2
    simp only at hn hns h2
    cases o with
    | none =>
      simp only at h2
      rw [← h2]
      repeat' (first
        | refine zi ?_
        | refine zK ?_
        | refine zQ (h := ?_)
        | refine zU (h := ?_)
        | refine zj ?_
        | refine zR ?_
        | refine zW ?_
        | refine zN ?_
        | refine zV ?_
        | refine ze ?_
        | refine zP ?_
        | refine zY ?_
        | refine zS rfl ?_
        | refine zd ?_
        | refine zX ?_
        | refine zO ?_
        | refine zT ?_
        | refine zL ?_
        | (refine zC (id := 3) ?_; intro K hK; refine zF (k := ?_); refine z6 (k' := ?_); (refine zD (hK _ _ ?_); clear hK K))
        | (refine zC (id := 5) ?_; intro K hK; refine zF (k := ?_); ((refine zb (hs := hns) (k := ?_); rintro v A' ⟨rfl, rfl⟩; simp only [List.cons_append, List.nil_append]; simp only [nextV])) <;> (refine zF (k := ?_); refine zu (k' := ?_); refine zu (k' := ?_); refine zH (k := ?_); refine zH (k := ?_); (refine zD (hK _ _ ?_); clear hK K)))
        | (refine zC (id := 6) ?_; intro K hK; refine zF (k := ?_); refine z7 (k' := ?_); (refine zD (hK _ _ ?_); clear hK K))
        | (refine zC (id := 7) ?_; intro K hK; refine zH (k := ?_); (refine zD (hK _ _ ?_); clear hK K))
        | (refine zc (ht := (fun ht => ?_)) (hf := (fun ht => ?_)) <;> (try simp at ht) <;> (try (exfalso; omega))))
      all_goals exact ⟨Or.inr rfl, _, [RdrP B X p s2, X], Ent.refl _, res1 rfl rfl, rfl, rfl⟩
    | some b =>
      simp only at h2
      have hb := u8_lt b
      obtain ⟨by_, hby⟩ : ∃ by_, 128 ^ i = by_ := ⟨_, rfl⟩
      have hpow2 : 128 ^ (i + 1) = by_ * 128 := by rw [Nat.pow_succ, hby]
      have hm : b.toNat % 128 * by_ ≤ 127 * by_ := Nat.mul_le_mul_right _ (by omega)
      rw [hby] at h2 h3 hpow hpos ⊢
      by_cases h128 : b.toNat < 128
      · rw [if_pos h128] at h2
        have hmod : b.toNat % 128 = b.toNat := Nat.mod_eq_of_lt h128
        rw [hmod] at hm
        by_cases hbad : (b.toNat = 0 ∧ 0 < i) ∨ 9007199254740992 < acc + b.toNat * by_
        · rw [if_pos hbad] at h2
          rw [← h2]
          repeat' (first
            | refine zi ?_
            | refine zK ?_
            | refine zQ (h := ?_)
            | refine zU (h := ?_)
            | refine zj ?_
            | refine zR ?_
            | refine zW ?_
            | refine zN ?_
            | refine zV ?_
            | refine ze ?_
            | refine zP ?_
            | refine zY ?_
            | refine zS rfl ?_
            | refine zd ?_
            | refine zX ?_
            | refine zO ?_
            | refine zT ?_
            | refine zL ?_
            | (refine zC (id := 3) ?_; intro K hK; refine zF (k := ?_); refine z6 (k' := ?_); (refine zD (hK _ _ ?_); clear hK K))
            | (refine zC (id := 5) ?_; intro K hK; refine zF (k := ?_); ((refine zb (hs := hns) (k := ?_); rintro v A' ⟨rfl, rfl⟩; simp only [List.cons_append, List.nil_append]; simp only [nextV])) <;> (refine zF (k := ?_); refine zu (k' := ?_); refine zu (k' := ?_); refine zH (k := ?_); refine zH (k := ?_); (refine zD (hK _ _ ?_); clear hK K)))
            | (refine zC (id := 6) ?_; intro K hK; refine zF (k := ?_); refine z7 (k' := ?_); (refine zD (hK _ _ ?_); clear hK K))
            | (refine zC (id := 8) ?_; intro K hK; refine zF (k := ?_); refine zF (k := ?_); ((refine xJ (k' := ?_); rw [and127, hmod])) <;> (refine yl (k' := ?_); refine zF (k := ?_); ((refine y9 (hf := fits_i64 (by rw [← Int.natCast_mul]; omega)) (k' := ?_); rw [← Int.natCast_mul])) <;> (((refine zl (hf := fits_i64 (by omega)) (k' := ?_); rw [show ((acc : Nat) : Int) + ((b.toNat * by_ : Nat) : Int) = ((acc + b.toNat * by_ : Nat) : Int) by omega])) <;> (refine zH (k := ?_); (refine zD (hK _ _ ?_); clear hK K)))))
            | (refine zC (id := 9) ?_; intro K hK; refine zF (k := ?_); refine z6 (k' := ?_); (refine zD (hK _ _ ?_); clear hK K))
            | (refine zC (id := 10) ?_; intro K hK; refine zF (k := ?_); refine zp (k' := ?_); refine zF (k := ?_); ((first | (refine zA (k := ?_); refine zF (k := ?_)) | refine zE (k := ?_) | ((refine zG (yes := (fun ht => ?_)) (no := (fun ht => ?_)) <;> (try simp at ht) <;> (try (exfalso; omega))) <;> (first | (refine zA (k := ?_); refine zF (k := ?_)) | refine zE (k := ?_))))) <;> (((first | (refine zA (k := ?_); refine z0 (k' := ?_)) | refine zE (k := ?_) | ((refine zG (yes := (fun ht => ?_)) (no := (fun ht => ?_)) <;> (try simp at ht) <;> (try (exfalso; omega))) <;> (first | (refine zA (k := ?_); refine z0 (k' := ?_)) | refine zE (k := ?_))))) <;> ((first | refine zZ (k := ?_) | refine za (k := ?_) | refine zg (k := ?_)); refine zF (k := ?_); ((first | (refine zA (k := ?_); refine zF (k := ?_)) | refine zE (k := ?_) | ((refine zG (yes := (fun ht => ?_)) (no := (fun ht => ?_)) <;> (try simp at ht) <;> (try (exfalso; omega))) <;> (first | (refine zA (k := ?_); refine zF (k := ?_)) | refine zE (k := ?_))))) <;> (((first | (refine zA (k := ?_); refine z0 (k' := ?_)) | refine zE (k := ?_) | ((refine zG (yes := (fun ht => ?_)) (no := (fun ht => ?_)) <;> (try simp at ht) <;> (try (exfalso; omega))) <;> (first | (refine zA (k := ?_); refine z0 (k' := ?_)) | refine zE (k := ?_))))) <;> ((first | refine zZ (k := ?_) | refine za (k := ?_) | refine zg (k := ?_)); (refine zD (hK _ _ ?_); clear hK K))))))
            | (refine zc (ht := (fun ht => ?_)) (hf := (fun ht => ?_)) <;> (try simp at ht) <;> (try (exfalso; omega))))
          all_goals try (exfalso; omega)
          all_goals
            refine yE (fun x => ?_)
            obtain ⟨⟨a, c⟩, hr⟩ := x
            simp only at hr ⊢
            simp only [List.cons_append, List.nil_append]
          all_goals (
            repeat' (first
              | refine zi ?_
              | refine zK ?_
              | refine zQ (h := ?_)
              | refine zU (h := ?_)
              | refine zj ?_
              | refine zR ?_
              | refine zW ?_
              | refine zN ?_
              | refine zV ?_
              | refine ze ?_
              | refine zP ?_
              | refine zY ?_
              | refine zS rfl ?_
              | refine zd ?_
              | refine zX ?_
              | refine zO ?_
              | refine zT ?_
              | refine zL ?_
              | (refine zC (id := 13) ?_; intro K hK; refine zF (k := ?_); refine zJ (k := ?_); refine zB (k := ?_); refine zy (ho := rfl) (k := ?_); (refine zD (hK _ _ ?_); clear hK K))
              | (refine zC (id := 14) ?_; intro K hK; refine zH (k := ?_); (refine zD (hK _ _ ?_); clear hK K))
              | (refine zc (ht := (fun ht => ?_)) (hf := (fun ht => ?_)) <;> (try simp at ht) <;> (try (exfalso; omega))))
            exact ⟨Or.inr rfl, _, [RdrP B X p (s2.1, true), X], fold_rdr (r := (s2.1, true)) hr (by (repeat (first | exact Ent.refl _ | exact Ent.nil | refine Ent.take (by (repeat (first | exact Out.head | apply Out.tail)); (first | done | fail)) ?_ | refine Ent.drop1 ?_))), res1 rfl rfl, rfl, rfl⟩)
        · rw [if_neg hbad] at h2
          rw [← h2]
          repeat' (first
            | refine zi ?_
            | refine zK ?_
            | refine zQ (h := ?_)
            | refine zU (h := ?_)
            | refine zj ?_
            | refine zR ?_
            | refine zW ?_
            | refine zN ?_
            | refine zV ?_
            | refine ze ?_
            | refine zP ?_
            | refine zY ?_
            | refine zS rfl ?_
            | refine zd ?_
            | refine zX ?_
            | refine zO ?_
            | refine zT ?_
            | refine zL ?_
            | (refine zC (id := 3) ?_; intro K hK; refine zF (k := ?_); refine z6 (k' := ?_); (refine zD (hK _ _ ?_); clear hK K))
            | (refine zC (id := 5) ?_; intro K hK; refine zF (k := ?_); ((refine zb (hs := hns) (k := ?_); rintro v A' ⟨rfl, rfl⟩; simp only [List.cons_append, List.nil_append]; simp only [nextV])) <;> (refine zF (k := ?_); refine zu (k' := ?_); refine zu (k' := ?_); refine zH (k := ?_); refine zH (k := ?_); (refine zD (hK _ _ ?_); clear hK K)))
            | (refine zC (id := 6) ?_; intro K hK; refine zF (k := ?_); refine z7 (k' := ?_); (refine zD (hK _ _ ?_); clear hK K))
            | (refine zC (id := 8) ?_; intro K hK; refine zF (k := ?_); refine zF (k := ?_); ((refine xJ (k' := ?_); rw [and127, hmod])) <;> (refine yl (k' := ?_); refine zF (k := ?_); ((refine y9 (hf := fits_i64 (by rw [← Int.natCast_mul]; omega)) (k' := ?_); rw [← Int.natCast_mul])) <;> (((refine zl (hf := fits_i64 (by omega)) (k' := ?_); rw [show ((acc : Nat) : Int) + ((b.toNat * by_ : Nat) : Int) = ((acc + b.toNat * by_ : Nat) : Int) by omega])) <;> (refine zH (k := ?_); (refine zD (hK _ _ ?_); clear hK K)))))
            | (refine zC (id := 9) ?_; intro K hK; refine zF (k := ?_); refine z6 (k' := ?_); (refine zD (hK _ _ ?_); clear hK K))
            | (refine zC (id := 10) ?_; intro K hK; refine zF (k := ?_); refine zp (k' := ?_); refine zF (k := ?_); ((first | (refine zA (k := ?_); refine zF (k := ?_)) | refine zE (k := ?_) | ((refine zG (yes := (fun ht => ?_)) (no := (fun ht => ?_)) <;> (try simp at ht) <;> (try (exfalso; omega))) <;> (first | (refine zA (k := ?_); refine zF (k := ?_)) | refine zE (k := ?_))))) <;> (((first | (refine zA (k := ?_); refine z0 (k' := ?_)) | refine zE (k := ?_) | ((refine zG (yes := (fun ht => ?_)) (no := (fun ht => ?_)) <;> (try simp at ht) <;> (try (exfalso; omega))) <;> (first | (refine zA (k := ?_); refine z0 (k' := ?_)) | refine zE (k := ?_))))) <;> ((first | refine zZ (k := ?_) | refine za (k := ?_) | refine zg (k := ?_)); refine zF (k := ?_); ((first | (refine zA (k := ?_); refine zF (k := ?_)) | refine zE (k := ?_) | ((refine zG (yes := (fun ht => ?_)) (no := (fun ht => ?_)) <;> (try simp at ht) <;> (try (exfalso; omega))) <;> (first | (refine zA (k := ?_); refine zF (k := ?_)) | refine zE (k := ?_))))) <;> (((first | (refine zA (k := ?_); refine z0 (k' := ?_)) | refine zE (k := ?_) | ((refine zG (yes := (fun ht => ?_)) (no := (fun ht => ?_)) <;> (try simp at ht) <;> (try (exfalso; omega))) <;> (first | (refine zA (k := ?_); refine z0 (k' := ?_)) | refine zE (k := ?_))))) <;> ((first | refine zZ (k := ?_) | refine za (k := ?_) | refine zg (k := ?_)); (refine zD (hK _ _ ?_); clear hK K))))))
            | (refine zC (id := 11) ?_; intro K hK; refine zF (k := ?_); refine zH (k := ?_); (refine zD (hK _ _ ?_); clear hK K))
            | (refine zc (ht := (fun ht => ?_)) (hf := (fun ht => ?_)) <;> (try simp at ht) <;> (try (exfalso; omega))))
          all_goals first
            | exact ⟨Or.inr rfl, _, [RdrP B X p s2, X], Ent.refl _, res1 rfl rfl, rfl, rfl⟩
            | (exfalso; omega)
      · rw [if_neg h128] at h2
        repeat' (first
          | refine zi ?_
          | refine zK ?_
          | refine zQ (h := ?_)
          | refine zU (h := ?_)
          | refine zj ?_
          | refine zR ?_
          | refine zW ?_
          | refine zN ?_
          | refine zV ?_
          | refine ze ?_
          | refine zP ?_
          | refine zY ?_
          | refine zS rfl ?_
          | refine zd ?_
          | refine zX ?_
          | refine zO ?_
          | refine zT ?_
          | refine zL ?_
          | (refine zC (id := 3) ?_; intro K hK; refine zF (k := ?_); refine z6 (k' := ?_); (refine zD (hK _ _ ?_); clear hK K))
          | (refine zC (id := 4) ?_; intro K hK; refine zF (k := ?_); refine zl (k' := ?_); refine zH (k := ?_); (refine zD (hK _ _ ?_); clear hK K))
          | (refine zC (id := 5) ?_; intro K hK; refine zF (k := ?_); ((refine zb (hs := hns) (k := ?_); rintro v A' ⟨rfl, rfl⟩; simp only [List.cons_append, List.nil_append]; simp only [nextV])) <;> (refine zF (k := ?_); refine zu (k' := ?_); refine zu (k' := ?_); refine zH (k := ?_); refine zH (k := ?_); (refine zD (hK _ _ ?_); clear hK K)))
          | (refine zC (id := 6) ?_; intro K hK; refine zF (k := ?_); refine z7 (k' := ?_); (refine zD (hK _ _ ?_); clear hK K))
          | (refine zC (id := 8) ?_; intro K hK; refine zF (k := ?_); refine zF (k := ?_); ((refine xJ (k' := ?_); rw [and127])) <;> (refine yl (k' := ?_); refine zF (k := ?_); ((refine y9 (hf := fits_i64 (by rw [← Int.natCast_mul]; omega)) (k' := ?_); rw [← Int.natCast_mul])) <;> (((refine zl (hf := fits_i64 (by omega)) (k' := ?_); rw [show ((acc : Nat) : Int) + ((b.toNat % 128 * by_ : Nat) : Int) = ((acc + b.toNat % 128 * by_ : Nat) : Int) by omega])) <;> (refine zH (k := ?_); (refine zD (hK _ _ ?_); clear hK K)))))
          | (refine zC (id := 9) ?_; intro K hK; refine zF (k := ?_); refine z6 (k' := ?_); (refine zD (hK _ _ ?_); clear hK K))
          | (refine zC (id := 12) ?_; intro K hK; refine zF (k := ?_); ((refine y9 (hf := fits_i64 (by omega)) (k' := ?_); rw [show ((by_ : Nat) : Int) * 128 = ((128 ^ (i + 1) : Nat) : Int) by rw [hpow2]; omega])) <;> (refine zH (k := ?_); (refine zD (hK _ _ ?_); clear hK K)))
          | (refine zc (ht := (fun ht => ?_)) (hf := (fun ht => ?_)) <;> (try simp at ht) <;> (try (exfalso; omega))))
        exact ⟨(i + 1, acc + b.toNat % 128 * by_, s2), ⟨by show i + 1 ≤ 8; omega, by show rNumL (8 - (i + 1)) (i + 1) _ s2 = _; rw [← h2, show 8 - (i + 1) = 7 - i by omega], by show acc + _ < 128 ^ (i + 1); rw [hpow2]; omega, by show s2.1.length ≤ _; omega⟩, by show 8 - (i + 1) < 8 - i; omega, ⟨rfl, rfl, rfl, int_succ i, trivial⟩, Ent.refl _⟩
theorem rnum_spec (X : Asn) (p : Nat) (r : Rr) (hl : r.1.length ≤ 140737490000000) :
    Fspec Tryz.prog B 65 #[.pointer (some ⟨p, 0, none⟩)] [RdrP B X p r, X] (fun v A' => v = .int .i64 (rNum r).1 ∧ A' = [RdrP B X p (rNum r).2, X]) := by
  refine spec_of (args := [_]) Tryz.func65 rfl rfl rfl ?_
  repeat' (first
    | refine zi ?_
    | refine zK ?_
    | refine zQ (h := ?_)
    | refine zU (h := ?_)
    | refine zj ?_
    | refine zR ?_
    | refine zW ?_
    | refine zN ?_
    | refine zV ?_
    | refine ze ?_
    | refine zP ?_
    | refine zY ?_
    | refine zS rfl ?_
    | refine zd ?_
    | refine zX ?_
    | refine zO ?_
    | refine zT ?_
    | refine zL ?_
    | (refine zC (id := 0) ?_; intro K hK; refine zH (k := ?_); (refine zD (hK _ _ ?_); clear hK K))
    | (refine zC (id := 1) ?_; intro K hK; refine zF (k := ?_); refine zf (k' := ?_); (refine zD (hK _ _ ?_); clear hK K))
    | (refine zC (id := 2) ?_; intro K hK; refine zH (k := ?_); (refine zD (hK _ _ ?_); clear hK K))
    | (refine zC (id := 3) ?_; intro K hK; refine zF (k := ?_); refine zJ (k := ?_); refine zB (k := ?_); ((refine zb (hs := number_spec' X p r hl) (k := ?_); rintro v A' ⟨rfl, rfl⟩; simp only [List.cons_append, List.nil_append])) <;> (refine zH (k := ?_); (refine zD (hK _ _ ?_); clear hK K)))
    | (refine zc (ht := (fun ht => ?_)) (hf := (fun ht => ?_)) <;> (try simp at ht) <;> (try (exfalso; omega))))
  exact ⟨Or.inr rfl, _, [RdrP B X p (rNum r).2, X], Ent.refl _, res1 rfl rfl, rfl, rfl⟩
theorem rcount_spec (X : Asn) (p : Nat) (r : Rr) (most : Int) (hl : r.1.length ≤ 140737490000000) :
    Fspec Tryz.prog B 70 #[.pointer (some ⟨p, 0, none⟩), .int .i64 most] [RdrP B X p r, X] (fun v A' => v = .int .i64 (rCount r most).1 ∧ A' = [RdrP B X p (rCount r most).2, X]) := by
  refine spec_of (args := [_, _]) Tryz.func70 rfl rfl rfl ?_
  unfold rCount
  by_cases h : most < ((rNum r).1 : Int)
  · rw [if_pos h]
    repeat' (first
      | refine zi ?_
      | refine zK ?_
      | refine zQ (h := ?_)
      | refine zU (h := ?_)
      | refine zj ?_
      | refine zR ?_
      | refine zW ?_
      | refine zN ?_
      | refine zV ?_
      | refine ze ?_
      | refine zP ?_
      | refine zY ?_
      | refine zS rfl ?_
      | refine zd ?_
      | refine zX ?_
      | refine zO ?_
      | refine zT ?_
      | refine zL ?_
      | (refine zC (id := 0) ?_; intro K hK; refine zH (k := ?_); (refine zD (hK _ _ ?_); clear hK K))
      | (refine zC (id := 1) ?_; intro K hK; refine zF (k := ?_); ((refine zb (hs := rnum_spec X p r hl) (k := ?_); rintro v A' ⟨rfl, rfl⟩; simp only [List.cons_append, List.nil_append])) <;> (refine zH (k := ?_); (refine zD (hK _ _ ?_); clear hK K)))
      | (refine zC (id := 2) ?_; intro K hK; refine zF (k := ?_); refine yG (k' := ?_); refine zF (k := ?_); ((first | (refine zA (k := ?_); refine zF (k := ?_)) | refine zE (k := ?_) | ((refine zG (yes := (fun ht => ?_)) (no := (fun ht => ?_)) <;> (try simp at ht) <;> (try (exfalso; omega))) <;> (first | (refine zA (k := ?_); refine zF (k := ?_)) | refine zE (k := ?_))))) <;> (((first | (refine zA (k := ?_); refine zF (k := ?_)) | refine zE (k := ?_) | ((refine zG (yes := (fun ht => ?_)) (no := (fun ht => ?_)) <;> (try simp at ht) <;> (try (exfalso; omega))) <;> (first | (refine zA (k := ?_); refine zF (k := ?_)) | refine zE (k := ?_))))) <;> (((first | (refine zA (k := ?_); refine z0 (k' := ?_)) | refine zE (k := ?_) | ((refine zG (yes := (fun ht => ?_)) (no := (fun ht => ?_)) <;> (try simp at ht) <;> (try (exfalso; omega))) <;> (first | (refine zA (k := ?_); refine z0 (k' := ?_)) | refine zE (k := ?_))))) <;> ((first | refine zZ (k := ?_) | refine za (k := ?_) | refine zg (k := ?_)); (refine zD (hK _ _ ?_); clear hK K)))))
      | (refine zc (ht := (fun ht => ?_)) (hf := (fun ht => ?_)) <;> (try simp at ht) <;> (try (exfalso; omega))))
    refine yE (fun x => ?_)
    obtain ⟨⟨a, c⟩, hr⟩ := x
    simp only at hr ⊢
    simp only [List.cons_append, List.nil_append]
    repeat' (first
      | refine zi ?_
      | refine zK ?_
      | refine zQ (h := ?_)
      | refine zU (h := ?_)
      | refine zj ?_
      | refine zR ?_
      | refine zW ?_
      | refine zN ?_
      | refine zV ?_
      | refine ze ?_
      | refine zP ?_
      | refine zY ?_
      | refine zS rfl ?_
      | refine zd ?_
      | refine zX ?_
      | refine zO ?_
      | refine zT ?_
      | refine zL ?_
      | (refine zC (id := 3) ?_; intro K hK; refine zF (k := ?_); refine zJ (k := ?_); refine zB (k := ?_); refine zB (k := ?_); refine zy (ho := rfl) (k := ?_); (refine zD (hK _ _ ?_); clear hK K))
      | (refine zC (id := 4) ?_; intro K hK; refine zH (k := ?_); (refine zD (hK _ _ ?_); clear hK K))
      | (refine zc (ht := (fun ht => ?_)) (hf := (fun ht => ?_)) <;> (try simp at ht) <;> (try (exfalso; omega))))
    exact ⟨Or.inr rfl, _, [RdrP B X p ((rNum r).2.1, true), X], fold_rdr (r := ((rNum r).2.1, true)) hr (by (repeat (first | exact Ent.refl _ | exact Ent.nil | refine Ent.take (by (repeat (first | exact Out.head | apply Out.tail)); (first | done | fail)) ?_ | refine Ent.drop1 ?_))), res1 rfl rfl, rfl, rfl⟩
  · rw [if_neg h]
    repeat' (first
      | refine zi ?_
      | refine zK ?_
      | refine zQ (h := ?_)
      | refine zU (h := ?_)
      | refine zj ?_
      | refine zR ?_
      | refine zW ?_
      | refine zN ?_
      | refine zV ?_
      | refine ze ?_
      | refine zP ?_
      | refine zY ?_
      | refine zS rfl ?_
      | refine zd ?_
      | refine zX ?_
      | refine zO ?_
      | refine zT ?_
      | refine zL ?_
      | (refine zC (id := 0) ?_; intro K hK; refine zH (k := ?_); (refine zD (hK _ _ ?_); clear hK K))
      | (refine zC (id := 1) ?_; intro K hK; refine zF (k := ?_); ((refine zb (hs := rnum_spec X p r hl) (k := ?_); rintro v A' ⟨rfl, rfl⟩; simp only [List.cons_append, List.nil_append])) <;> (refine zH (k := ?_); (refine zD (hK _ _ ?_); clear hK K)))
      | (refine zC (id := 2) ?_; intro K hK; refine zF (k := ?_); refine yG (k' := ?_); refine zF (k := ?_); ((first | (refine zA (k := ?_); refine zF (k := ?_)) | refine zE (k := ?_) | ((refine zG (yes := (fun ht => ?_)) (no := (fun ht => ?_)) <;> (try simp at ht) <;> (try (exfalso; omega))) <;> (first | (refine zA (k := ?_); refine zF (k := ?_)) | refine zE (k := ?_))))) <;> (((first | (refine zA (k := ?_); refine zF (k := ?_)) | refine zE (k := ?_) | ((refine zG (yes := (fun ht => ?_)) (no := (fun ht => ?_)) <;> (try simp at ht) <;> (try (exfalso; omega))) <;> (first | (refine zA (k := ?_); refine zF (k := ?_)) | refine zE (k := ?_))))) <;> (((first | (refine zA (k := ?_); refine z0 (k' := ?_)) | refine zE (k := ?_) | ((refine zG (yes := (fun ht => ?_)) (no := (fun ht => ?_)) <;> (try simp at ht) <;> (try (exfalso; omega))) <;> (first | (refine zA (k := ?_); refine z0 (k' := ?_)) | refine zE (k := ?_))))) <;> ((first | refine zZ (k := ?_) | refine za (k := ?_) | refine zg (k := ?_)); (refine zD (hK _ _ ?_); clear hK K)))))
      | (refine zC (id := 3) ?_; intro K hK; refine zF (k := ?_); refine zJ (k := ?_); refine zB (k := ?_); refine zB (k := ?_); refine zy (ho := rfl) (k := ?_); (refine zD (hK _ _ ?_); clear hK K))
      | (refine zC (id := 4) ?_; intro K hK; refine zH (k := ?_); (refine zD (hK _ _ ?_); clear hK K))
      | (refine zC (id := 5) ?_; intro K hK; refine zF (k := ?_); refine zH (k := ?_); (refine zD (hK _ _ ?_); clear hK K))
      | (refine zc (ht := (fun ht => ?_)) (hf := (fun ht => ?_)) <;> (try simp at ht) <;> (try (exfalso; omega))))
    exact ⟨Or.inr rfl, _, [RdrP B X p (rNum r).2, X], Ent.refl _, res1 rfl rfl, rfl, rfl⟩
theorem rflag_spec (X : Asn) (p : Nat) (r : Rr) (hl : r.1.length ≤ 140737490000000) :
    Fspec Tryz.prog B 71 #[.pointer (some ⟨p, 0, none⟩)] [RdrP B X p r, X] (fun v A' => v = .bool (rFlag r).1 ∧ A' = [RdrP B X p (rFlag r).2, X]) := by
  have hns := next_spec (B := B) X p r hl
  refine spec_of (args := [_]) Tryz.func71 rfl rfl rfl ?_
  unfold rFlag
  cases hnx : rNext r with
  | mk o s2 =>
    have hbad : o = none → s2.2 = true := fun h => by
      subst h
      unfold rNext at hnx
      split at hnx
      · simp at hnx
      · have := (Prod.mk.inj hnx).2
        rw [← this]
    have hgood : ∀ b, o = some b → s2.2 = false := fun b h => by
      subst h
      unfold rNext at hnx
      split at hnx
      · have := (Prod.mk.inj hnx).2
        rw [← this]
      · simp at hnx
    rw [hnx] at hns
    simp only at hns
    obtain ⟨l2, d2⟩ := s2
    cases o with
    | none =>
      obtain rfl : d2 = true := hbad rfl
      simp only
      repeat' (first
        | refine zi ?_
        | refine zK ?_
        | refine zQ (h := ?_)
        | refine zU (h := ?_)
        | refine zj ?_
        | refine zR ?_
        | refine zW ?_
        | refine zN ?_
        | refine zV ?_
        | refine ze ?_
        | refine zP ?_
        | refine zY ?_
        | refine zS rfl ?_
        | refine zd ?_
        | refine zX ?_
        | refine zO ?_
        | refine zT ?_
        | refine zL ?_
        | (refine zC (id := 0) ?_; intro K hK; refine zH (k := ?_); (refine zD (hK _ _ ?_); clear hK K))
        | (refine zC (id := 1) ?_; intro K hK; refine zF (k := ?_); refine zf (k' := ?_); (refine zD (hK _ _ ?_); clear hK K))
        | (refine zC (id := 2) ?_; intro K hK; refine zH (k := ?_); (refine zD (hK _ _ ?_); clear hK K))
        | (refine zC (id := 3) ?_; intro K hK; refine zF (k := ?_); refine zJ (k := ?_); refine zB (k := ?_); ((refine zb (hs := hns) (k := ?_); rintro v A' ⟨rfl, rfl⟩; simp only [List.cons_append, List.nil_append]; simp only [nextV])) <;> (refine zF (k := ?_); refine zu (k' := ?_); refine zu (k' := ?_); refine zH (k := ?_); refine zH (k := ?_); (refine zD (hK _ _ ?_); clear hK K)))
        | (refine zc (ht := (fun ht => ?_)) (hf := (fun ht => ?_)) <;> (try simp at ht) <;> (try (exfalso; omega))))
      refine yE (fun x => ?_)
      obtain ⟨⟨a, c⟩, hr⟩ := x
      simp only at hr ⊢
      simp only [List.cons_append, List.nil_append]
      repeat' (first
        | refine zi ?_
        | refine zK ?_
        | refine zQ (h := ?_)
        | refine zU (h := ?_)
        | refine zj ?_
        | refine zR ?_
        | refine zW ?_
        | refine zN ?_
        | refine zV ?_
        | refine ze ?_
        | refine zP ?_
        | refine zY ?_
        | refine zS rfl ?_
        | refine zd ?_
        | refine zX ?_
        | refine zO ?_
        | refine zT ?_
        | refine zL ?_
        | (refine zC (id := 4) ?_; intro K hK; refine zF (k := ?_); refine zF (k := ?_); refine zJ (k := ?_); refine zB (k := ?_); refine zB (k := ?_); refine zM (k := ?_); refine zF (k := ?_); ((first | (refine zA (k := ?_); refine zF (k := ?_)) | refine zE (k := ?_) | ((refine zG (yes := (fun ht => ?_)) (no := (fun ht => ?_)) <;> (try simp at ht) <;> (try (exfalso; omega))) <;> (first | (refine zA (k := ?_); refine zF (k := ?_)) | refine zE (k := ?_))))) <;> (((first | (refine zA (k := ?_); refine z0 (k' := ?_)) | refine zE (k := ?_) | ((refine zG (yes := (fun ht => ?_)) (no := (fun ht => ?_)) <;> (try simp at ht) <;> (try (exfalso; omega))) <;> (first | (refine zA (k := ?_); refine z0 (k' := ?_)) | refine zE (k := ?_))))) <;> ((first | refine zZ (k := ?_) | refine za (k := ?_) | refine zg (k := ?_)); refine zJ (k := ?_); refine zB (k := ?_); refine zB (k := ?_); refine zy (ho := rfl) (k := ?_); (refine zD (hK _ _ ?_); clear hK K))))
        | (refine zC (id := 5) ?_; intro K hK; refine zF (k := ?_); refine zF (k := ?_); ((first | (refine zA (k := ?_); refine zF (k := ?_)) | refine zE (k := ?_) | ((refine zG (yes := (fun ht => ?_)) (no := (fun ht => ?_)) <;> (try simp at ht) <;> (try (exfalso; omega))) <;> (first | (refine zA (k := ?_); refine zF (k := ?_)) | refine zE (k := ?_))))) <;> (((first | (refine zA (k := ?_); refine zp (k' := ?_)) | refine zE (k := ?_) | ((refine zG (yes := (fun ht => ?_)) (no := (fun ht => ?_)) <;> (try simp at ht) <;> (try (exfalso; omega))) <;> (first | (refine zA (k := ?_); refine zp (k' := ?_)) | refine zE (k := ?_))))) <;> ((first | refine zZ (k := ?_) | refine za (k := ?_) | refine zg (k := ?_)); refine zH (k := ?_); (refine zD (hK _ _ ?_); clear hK K))))
        | (refine zc (ht := (fun ht => ?_)) (hf := (fun ht => ?_)) <;> (try simp at ht) <;> (try (exfalso; omega))))
      all_goals exact ⟨Or.inr rfl, _, [RdrP B X p (l2, true), X], fold_rdr (r := (l2, true)) hr (by (repeat (first | exact Ent.refl _ | exact Ent.nil | refine Ent.take (by (repeat (first | exact Out.head | apply Out.tail)); (first | done | fail)) ?_ | refine Ent.drop1 ?_))), res1 rfl rfl, rfl, rfl⟩
    | some b =>
      obtain rfl : d2 = false := hgood b rfl
      simp only
      repeat' (first
        | refine zi ?_
        | refine zK ?_
        | refine zQ (h := ?_)
        | refine zU (h := ?_)
        | refine zj ?_
        | refine zR ?_
        | refine zW ?_
        | refine zN ?_
        | refine zV ?_
        | refine ze ?_
        | refine zP ?_
        | refine zY ?_
        | refine zS rfl ?_
        | refine zd ?_
        | refine zX ?_
        | refine zO ?_
        | refine zT ?_
        | refine zL ?_
        | (refine zC (id := 0) ?_; intro K hK; refine zH (k := ?_); (refine zD (hK _ _ ?_); clear hK K))
        | (refine zC (id := 1) ?_; intro K hK; refine zF (k := ?_); refine zf (k' := ?_); (refine zD (hK _ _ ?_); clear hK K))
        | (refine zC (id := 2) ?_; intro K hK; refine zH (k := ?_); (refine zD (hK _ _ ?_); clear hK K))
        | (refine zC (id := 3) ?_; intro K hK; refine zF (k := ?_); refine zJ (k := ?_); refine zB (k := ?_); ((refine zb (hs := hns) (k := ?_); rintro v A' ⟨rfl, rfl⟩; simp only [List.cons_append, List.nil_append]; simp only [nextV])) <;> (refine zF (k := ?_); refine zu (k' := ?_); refine zu (k' := ?_); refine zH (k := ?_); refine zH (k := ?_); (refine zD (hK _ _ ?_); clear hK K)))
        | (refine zc (ht := (fun ht => ?_)) (hf := (fun ht => ?_)) <;> (try simp at ht) <;> (try (exfalso; omega))))
      refine yE (fun x => ?_)
      obtain ⟨⟨a, c⟩, hr⟩ := x
      simp only at hr ⊢
      simp only [List.cons_append, List.nil_append]
      have e1 : decide ((1 : Int) < (b.toNat : Int)) = decide (1 < b.toNat) := decide_eq_decide.2 (by omega)
      have e2 : decide ((b.toNat : Int) = 1) = decide (b.toNat = 1) := decide_eq_decide.2 (by omega)
      repeat' (first
        | refine zi ?_
        | refine zK ?_
        | refine zQ (h := ?_)
        | refine zU (h := ?_)
        | refine zj ?_
        | refine zR ?_
        | refine zW ?_
        | refine zN ?_
        | refine zV ?_
        | refine ze ?_
        | refine zP ?_
        | refine zY ?_
        | refine zS rfl ?_
        | refine zd ?_
        | refine zX ?_
        | refine zO ?_
        | refine zT ?_
        | refine zL ?_
        | (refine zC (id := 4) ?_; intro K hK; refine zF (k := ?_); refine zF (k := ?_); refine zJ (k := ?_); refine zB (k := ?_); refine zB (k := ?_); refine zM (k := ?_); refine zF (k := ?_); ((first | (refine zA (k := ?_); refine zF (k := ?_)) | refine zE (k := ?_) | ((refine zG (yes := (fun ht => ?_)) (no := (fun ht => ?_)) <;> (try simp at ht) <;> (try (exfalso; omega))) <;> (first | (refine zA (k := ?_); refine zF (k := ?_)) | refine zE (k := ?_))))) <;> (((first | (refine zA (k := ?_); (refine z0 (k' := ?_); rw [e1])) | refine zE (k := ?_) | ((refine zG (yes := (fun ht => ?_)) (no := (fun ht => ?_)) <;> (try simp at ht) <;> (try (exfalso; omega))) <;> (first | (refine zA (k := ?_); (refine z0 (k' := ?_); rw [e1])) | refine zE (k := ?_))))) <;> ((first | refine zZ (k := ?_) | refine za (k := ?_) | refine zg (k := ?_)); refine zJ (k := ?_); refine zB (k := ?_); refine zB (k := ?_); refine zy (ho := rfl) (k := ?_); (refine zD (hK _ _ ?_); clear hK K))))
        | (refine zC (id := 5) ?_; intro K hK; refine zF (k := ?_); refine zF (k := ?_); ((first | (refine zA (k := ?_); refine zF (k := ?_)) | refine zE (k := ?_) | ((refine zG (yes := (fun ht => ?_)) (no := (fun ht => ?_)) <;> (try simp at ht) <;> (try (exfalso; omega))) <;> (first | (refine zA (k := ?_); refine zF (k := ?_)) | refine zE (k := ?_))))) <;> (((first | (refine zA (k := ?_); (refine zp (k' := ?_); rw [e2])) | refine zE (k := ?_) | ((refine zG (yes := (fun ht => ?_)) (no := (fun ht => ?_)) <;> (try simp at ht) <;> (try (exfalso; omega))) <;> (first | (refine zA (k := ?_); (refine zp (k' := ?_); rw [e2])) | refine zE (k := ?_))))) <;> ((first | refine zZ (k := ?_) | refine za (k := ?_) | refine zg (k := ?_)); refine zH (k := ?_); (refine zD (hK _ _ ?_); clear hK K))))
        | (refine zc (ht := (fun ht => ?_)) (hf := (fun ht => ?_)) <;> (try simp at ht) <;> (try (exfalso; omega))))
      all_goals exact ⟨Or.inr rfl, _, [RdrP B X p (l2, decide (1 < b.toNat)), X], fold_rdr (r := (l2, decide (1 < b.toNat))) hr (by (repeat (first | exact Ent.refl _ | exact Ent.nil | refine Ent.take (by (repeat (first | exact Out.head | apply Out.tail)); (first | done | fail)) ?_ | refine Ent.drop1 ?_))), res1 rfl rfl, rfl, rfl⟩
theorem rtext_spec (X : Asn) (p : Nat) (r : Rr) (most : Int) (hl : r.1.length ≤ 140737490000000) :
    Fspec Tryz.prog B 99 #[.pointer (some ⟨p, 0, none⟩), .int .i64 most] [RdrP B X p r, X] (fun v A' => v = .string (bytesOf (rText r most).1) ∧ A' = [RdrP B X p (rText r most).2, X]) := by
  have hns := number_spec' (B := B) X p r hl
  have hle := rNum_le r
  refine spec_of (args := [_, _]) Tryz.func99 rfl rfl rfl ?_
  unfold rText
  obtain ⟨⟨n, l2, bad⟩, hn⟩ : ∃ q, rNum r = q := ⟨_, rfl⟩
  rw [hn] at hns hle ⊢
  simp only at hns hle ⊢
  by_cases hb : bad = true ∨ most < (n : Int) ∨ l2.length < n
  · rw [if_pos hb]
    repeat' (first
      | refine zi ?_
      | refine zK ?_
      | refine zQ (h := ?_)
      | refine zU (h := ?_)
      | refine zj ?_
      | refine zR ?_
      | refine zW ?_
      | refine zN ?_
      | refine zV ?_
      | refine ze ?_
      | refine zP ?_
      | refine zY ?_
      | refine zS rfl ?_
      | refine zd ?_
      | refine zX ?_
      | refine zO ?_
      | refine zT ?_
      | refine zL ?_
      | (refine zC (id := 0) ?_; intro K hK; refine zH (k := ?_); (refine zD (hK _ _ ?_); clear hK K))
      | (refine zC (id := 1) ?_; intro K hK; refine zF (k := ?_); refine zf (k' := ?_); (refine zD (hK _ _ ?_); clear hK K))
      | (refine zC (id := 2) ?_; intro K hK; refine zH (k := ?_); (refine zD (hK _ _ ?_); clear hK K))
      | (refine zC (id := 3) ?_; intro K hK; refine zF (k := ?_); refine zJ (k := ?_); refine zB (k := ?_); ((refine zb (hs := hns) (k := ?_); rintro v A' ⟨rfl, rfl⟩; simp only [List.cons_append, List.nil_append])) <;> (refine zH (k := ?_); (refine zD (hK _ _ ?_); clear hK K)))
      | (refine zc (ht := (fun ht => ?_)) (hf := (fun ht => ?_)) <;> (try simp at ht) <;> (try (exfalso; omega))))
    refine yE (fun x => ?_)
    obtain ⟨⟨a, c⟩, hr⟩ := x
    simp only at hr ⊢
    simp only [List.cons_append, List.nil_append]
    repeat' (first
      | refine zi ?_
      | refine zK ?_
      | refine zQ (h := ?_)
      | refine zU (h := ?_)
      | refine zj ?_
      | refine zR ?_
      | refine zW ?_
      | refine zN ?_
      | refine zV ?_
      | refine ze ?_
      | refine zP ?_
      | refine zY ?_
      | refine zS rfl ?_
      | refine zd ?_
      | refine zX ?_
      | refine zO ?_
      | refine zT ?_
      | refine zL ?_
      | (refine zC (id := 4) ?_; intro K hK; refine zF (k := ?_); refine zJ (k := ?_); refine zB (k := ?_); refine zB (k := ?_); refine zM (k := ?_); refine zF (k := ?_); ((first | (refine zA (k := ?_); refine zF (k := ?_)) | refine zE (k := ?_) | ((refine zG (yes := (fun ht => ?_)) (no := (fun ht => ?_)) <;> (try simp at ht) <;> (try (exfalso; omega))) <;> (first | (refine zA (k := ?_); refine zF (k := ?_)) | refine zE (k := ?_))))) <;> (((first | (refine zA (k := ?_); refine zF (k := ?_)) | refine zE (k := ?_) | ((refine zG (yes := (fun ht => ?_)) (no := (fun ht => ?_)) <;> (try simp at ht) <;> (try (exfalso; omega))) <;> (first | (refine zA (k := ?_); refine zF (k := ?_)) | refine zE (k := ?_))))) <;> (((first | (refine zA (k := ?_); refine z0 (k' := ?_)) | refine zE (k := ?_) | ((refine zG (yes := (fun ht => ?_)) (no := (fun ht => ?_)) <;> (try simp at ht) <;> (try (exfalso; omega))) <;> (first | (refine zA (k := ?_); refine z0 (k' := ?_)) | refine zE (k := ?_))))) <;> ((first | refine zZ (k := ?_) | refine za (k := ?_) | refine zg (k := ?_)); refine zF (k := ?_); ((first | (refine zA (k := ?_); refine zF (k := ?_)) | refine zE (k := ?_) | ((refine zG (yes := (fun ht => ?_)) (no := (fun ht => ?_)) <;> (try simp at ht) <;> (try (exfalso; omega))) <;> (first | (refine zA (k := ?_); refine zF (k := ?_)) | refine zE (k := ?_))))) <;> (((first | (refine zA (k := ?_); refine zF (k := ?_)) | refine zE (k := ?_) | ((refine zG (yes := (fun ht => ?_)) (no := (fun ht => ?_)) <;> (try simp at ht) <;> (try (exfalso; omega))) <;> (first | (refine zA (k := ?_); refine zF (k := ?_)) | refine zE (k := ?_))))) <;> (((first | (refine zA (k := ?_); refine zJ (k := ?_)) | refine zE (k := ?_) | ((refine zG (yes := (fun ht => ?_)) (no := (fun ht => ?_)) <;> (try simp at ht) <;> (try (exfalso; omega))) <;> (first | (refine zA (k := ?_); refine zJ (k := ?_)) | refine zE (k := ?_))))) <;> (((first | (refine zA (k := ?_); refine zB (k := ?_)) | refine zE (k := ?_) | ((refine zG (yes := (fun ht => ?_)) (no := (fun ht => ?_)) <;> (try simp at ht) <;> (try (exfalso; omega))) <;> (first | (refine zA (k := ?_); refine zB (k := ?_)) | refine zE (k := ?_))))) <;> (((first | (refine zA (k := ?_); refine zB (k := ?_)) | refine zE (k := ?_) | ((refine zG (yes := (fun ht => ?_)) (no := (fun ht => ?_)) <;> (try simp at ht) <;> (try (exfalso; omega))) <;> (first | (refine zA (k := ?_); refine zB (k := ?_)) | refine zE (k := ?_))))) <;> (((first | (refine zA (k := ?_); refine zM (k := ?_)) | refine zE (k := ?_) | ((refine zG (yes := (fun ht => ?_)) (no := (fun ht => ?_)) <;> (try simp at ht) <;> (try (exfalso; omega))) <;> (first | (refine zA (k := ?_); refine zM (k := ?_)) | refine zE (k := ?_))))) <;> (((first | (refine zA (k := ?_); refine zn (k' := ?_)) | refine zE (k := ?_) | ((refine zG (yes := (fun ht => ?_)) (no := (fun ht => ?_)) <;> (try simp at ht) <;> (try (exfalso; omega))) <;> (first | (refine zA (k := ?_); refine zn (k' := ?_)) | refine zE (k := ?_))))) <;> (((first | (refine zA (k := ?_); refine z0 (k' := ?_)) | refine zE (k := ?_) | ((refine zG (yes := (fun ht => ?_)) (no := (fun ht => ?_)) <;> (try simp at ht) <;> (try (exfalso; omega))) <;> (first | (refine zA (k := ?_); refine z0 (k' := ?_)) | refine zE (k := ?_))))) <;> ((first | refine zZ (k := ?_) | refine za (k := ?_) | refine zg (k := ?_)); (refine zD (hK _ _ ?_); clear hK K)))))))))))))
      | (refine zC (id := 5) ?_; intro K hK; refine zF (k := ?_); refine zJ (k := ?_); refine zB (k := ?_); refine zB (k := ?_); refine zy (ho := rfl) (k := ?_); (refine zD (hK _ _ ?_); clear hK K))
      | (refine zC (id := 6) ?_; intro K hK; refine zH (k := ?_); (refine zD (hK _ _ ?_); clear hK K))
      | (refine zc (ht := (fun ht => ?_)) (hf := (fun ht => ?_)) <;> (try simp at ht) <;> (try (exfalso; omega))))
    all_goals first
      | exact ⟨Or.inr rfl, _, [RdrP B X p (l2, true), X], fold_rdr (r := (l2, true)) hr (by (repeat (first | exact Ent.refl _ | exact Ent.nil | refine Ent.take (by (repeat (first | exact Out.head | apply Out.tail)); (first | done | fail)) ?_ | refine Ent.drop1 ?_)); (first | done | fail)), res1 rfl rfl, rfl, rfl⟩
      | (exfalso; rcases hb with hb | hb | hb <;> first | omega | (simp_all; done))
  · rw [if_neg hb]
    have hb1 : bad = false := by cases bad with | false => rfl | true => exact absurd (.inl rfl) hb
    subst hb1
    have hb2 : (n : Int) ≤ most := by
      rcases Int.lt_or_le most n with h | h
      · exact absurd (.inr (.inl h)) hb
      · exact h
    have hb3 : n ≤ l2.length := by
      rcases Nat.lt_or_ge l2.length n with h | h
      · exact absurd (.inr (.inr h)) hb
      · exact h
    repeat' (first
      | refine zi ?_
      | refine zK ?_
      | refine zQ (h := ?_)
      | refine zU (h := ?_)
      | refine zj ?_
      | refine zR ?_
      | refine zW ?_
      | refine zN ?_
      | refine zV ?_
      | refine ze ?_
      | refine zP ?_
      | refine zY ?_
      | refine zS rfl ?_
      | refine zd ?_
      | refine zX ?_
      | refine zO ?_
      | refine zT ?_
      | refine zL ?_
      | (refine zC (id := 0) ?_; intro K hK; refine zH (k := ?_); (refine zD (hK _ _ ?_); clear hK K))
      | (refine zC (id := 1) ?_; intro K hK; refine zF (k := ?_); refine zf (k' := ?_); (refine zD (hK _ _ ?_); clear hK K))
      | (refine zC (id := 2) ?_; intro K hK; refine zH (k := ?_); (refine zD (hK _ _ ?_); clear hK K))
      | (refine zC (id := 3) ?_; intro K hK; refine zF (k := ?_); refine zJ (k := ?_); refine zB (k := ?_); ((refine zb (hs := hns) (k := ?_); rintro v A' ⟨rfl, rfl⟩; simp only [List.cons_append, List.nil_append])) <;> (refine zH (k := ?_); (refine zD (hK _ _ ?_); clear hK K)))
      | (refine zc (ht := (fun ht => ?_)) (hf := (fun ht => ?_)) <;> (try simp at ht) <;> (try (exfalso; omega))))
    refine yE (fun x => ?_)
    obtain ⟨⟨a, c⟩, hr⟩ := x
    simp only at hr ⊢
    simp only [List.cons_append, List.nil_append]
    have hcap := hr.cap
    have htk : RdS Tryz.prog B [X] 1 a n c ((l2.take n).map byteV) := by
      have := hr.take hb3
      rwa [Nat.mul_one, ← List.map_take] at this
    have hcut : RdS Tryz.prog B [X] 1 (slAdd a c n 1) (l2.drop n).length (c - n) ((l2.drop n).map byteV) := by
      have := hr.cut (l := n) (h := l2.length) hb3 (Nat.le_refl _)
      rw [Nat.mul_one, Nat.mul_one, ← List.map_drop, List.take_of_length_le (by simp)] at this
      rw [List.length_drop]; exact this
    repeat' (first
      | refine zi ?_
      | refine zK ?_
      | refine zQ (h := ?_)
      | refine zU (h := ?_)
      | refine zj ?_
      | refine zR ?_
      | refine zW ?_
      | refine zN ?_
      | refine zV ?_
      | refine ze ?_
      | refine zP ?_
      | refine zY ?_
      | refine zS rfl ?_
      | refine zd ?_
      | refine zX ?_
      | refine zO ?_
      | refine zT ?_
      | refine zL ?_
      | (refine zC (id := 4) ?_; intro K hK; refine zF (k := ?_); refine zJ (k := ?_); refine zB (k := ?_); refine zB (k := ?_); refine zM (k := ?_); refine zF (k := ?_); ((first | (refine zA (k := ?_); refine zF (k := ?_)) | refine zE (k := ?_) | ((refine zG (yes := (fun ht => ?_)) (no := (fun ht => ?_)) <;> (try simp at ht) <;> (try (exfalso; omega))) <;> (first | (refine zA (k := ?_); refine zF (k := ?_)) | refine zE (k := ?_))))) <;> (((first | (refine zA (k := ?_); refine zF (k := ?_)) | refine zE (k := ?_) | ((refine zG (yes := (fun ht => ?_)) (no := (fun ht => ?_)) <;> (try simp at ht) <;> (try (exfalso; omega))) <;> (first | (refine zA (k := ?_); refine zF (k := ?_)) | refine zE (k := ?_))))) <;> (((first | (refine zA (k := ?_); refine z0 (k' := ?_)) | refine zE (k := ?_) | ((refine zG (yes := (fun ht => ?_)) (no := (fun ht => ?_)) <;> (try simp at ht) <;> (try (exfalso; omega))) <;> (first | (refine zA (k := ?_); refine z0 (k' := ?_)) | refine zE (k := ?_))))) <;> ((first | refine zZ (k := ?_) | refine za (k := ?_) | refine zg (k := ?_)); refine zF (k := ?_); ((first | (refine zA (k := ?_); refine zF (k := ?_)) | refine zE (k := ?_) | ((refine zG (yes := (fun ht => ?_)) (no := (fun ht => ?_)) <;> (try simp at ht) <;> (try (exfalso; omega))) <;> (first | (refine zA (k := ?_); refine zF (k := ?_)) | refine zE (k := ?_))))) <;> (((first | (refine zA (k := ?_); refine zF (k := ?_)) | refine zE (k := ?_) | ((refine zG (yes := (fun ht => ?_)) (no := (fun ht => ?_)) <;> (try simp at ht) <;> (try (exfalso; omega))) <;> (first | (refine zA (k := ?_); refine zF (k := ?_)) | refine zE (k := ?_))))) <;> (((first | (refine zA (k := ?_); refine zJ (k := ?_)) | refine zE (k := ?_) | ((refine zG (yes := (fun ht => ?_)) (no := (fun ht => ?_)) <;> (try simp at ht) <;> (try (exfalso; omega))) <;> (first | (refine zA (k := ?_); refine zJ (k := ?_)) | refine zE (k := ?_))))) <;> (((first | (refine zA (k := ?_); refine zB (k := ?_)) | refine zE (k := ?_) | ((refine zG (yes := (fun ht => ?_)) (no := (fun ht => ?_)) <;> (try simp at ht) <;> (try (exfalso; omega))) <;> (first | (refine zA (k := ?_); refine zB (k := ?_)) | refine zE (k := ?_))))) <;> (((first | (refine zA (k := ?_); refine zB (k := ?_)) | refine zE (k := ?_) | ((refine zG (yes := (fun ht => ?_)) (no := (fun ht => ?_)) <;> (try simp at ht) <;> (try (exfalso; omega))) <;> (first | (refine zA (k := ?_); refine zB (k := ?_)) | refine zE (k := ?_))))) <;> (((first | (refine zA (k := ?_); refine zM (k := ?_)) | refine zE (k := ?_) | ((refine zG (yes := (fun ht => ?_)) (no := (fun ht => ?_)) <;> (try simp at ht) <;> (try (exfalso; omega))) <;> (first | (refine zA (k := ?_); refine zM (k := ?_)) | refine zE (k := ?_))))) <;> (((first | (refine zA (k := ?_); refine zn (k' := ?_)) | refine zE (k := ?_) | ((refine zG (yes := (fun ht => ?_)) (no := (fun ht => ?_)) <;> (try simp at ht) <;> (try (exfalso; omega))) <;> (first | (refine zA (k := ?_); refine zn (k' := ?_)) | refine zE (k := ?_))))) <;> (((first | (refine zA (k := ?_); refine z0 (k' := ?_)) | refine zE (k := ?_) | ((refine zG (yes := (fun ht => ?_)) (no := (fun ht => ?_)) <;> (try simp at ht) <;> (try (exfalso; omega))) <;> (first | (refine zA (k := ?_); refine z0 (k' := ?_)) | refine zE (k := ?_))))) <;> ((first | refine zZ (k := ?_) | refine za (k := ?_) | refine zg (k := ?_)); (refine zD (hK _ _ ?_); clear hK K)))))))))))))
      | (refine zC (id := 7) ?_; intro K hK; refine zF (k := ?_); refine zJ (k := ?_); refine zB (k := ?_); refine zB (k := ?_); refine zM (k := ?_); refine zF (k := ?_); ((refine yf (h := n) (hhi := ⟨_, rfl⟩) (hhc := by omega) (k' := ?_))) <;> (((refine yu (cs := l2.take n) (hsrc := (rds_sub htk (by (repeat (first | exact Out.head | apply Out.tail)); (first | done | fail))).src) (hl := by rw [List.length_take]; omega) (k := ?_))) <;> (refine zH (k := ?_); (refine zD (hK _ _ ?_); clear hK K))))
      | (refine zC (id := 8) ?_; intro K hK; refine zF (k := ?_); refine zF (k := ?_); refine zJ (k := ?_); refine zB (k := ?_); refine zB (k := ?_); refine zM (k := ?_); refine zF (k := ?_); ((refine yc (l := n) (h := l2.length) (hlo := ⟨_, rfl⟩) (hhi := rfl) (hlh := by omega) (hhc := hcap) (k' := ?_); rw [← List.length_drop])) <;> (refine zJ (k := ?_); refine zB (k := ?_); refine zB (k := ?_); refine zy (ho := rfl) (k := ?_); (refine zD (hK _ _ ?_); clear hK K)))
      | (refine zC (id := 9) ?_; intro K hK; refine zF (k := ?_); refine zH (k := ?_); (refine zD (hK _ _ ?_); clear hK K))
      | (refine zc (ht := (fun ht => ?_)) (hf := (fun ht => ?_)) <;> (try simp at ht) <;> (try (exfalso; omega))))
    all_goals first
      | exact ⟨Or.inr rfl, _, [RdrP B X p (l2.drop n, false), X], fold_rdr (r := (l2.drop n, false)) hcut (by (repeat (first | exact Ent.refl _ | exact Ent.nil | refine Ent.take (by (repeat (first | exact Out.head | apply Out.tail)); (first | done | fail)) ?_ | refine Ent.drop1 ?_)); (first | done | fail)), res1 rfl rfl, rfl, rfl⟩
      | (exfalso; omega)
theorem rend_spec (X : Asn) (p : Nat) (r : Rr) :
    Fspec Tryz.prog B 69 #[.pointer (some ⟨p, 0, none⟩)] [RdrP B X p r, X] (fun v A' => v = .int .i64 (if r.2 = true ∨ 0 < r.1.length then 2 else 0) ∧ A' = [RdrP B X p r, X]) := by
  refine spec_of (args := [_]) Tryz.func69 rfl rfl rfl ?_
  refine yE (fun x => ?_)
  obtain ⟨⟨a, c⟩, hr⟩ := x
  obtain ⟨l, bad⟩ := r
  simp only at hr ⊢
  simp only [List.cons_append, List.nil_append]
  by_cases hb : bad = true ∨ 0 < l.length
  · rw [if_pos hb]
    repeat' (first
      | refine zi ?_
      | refine zK ?_
      | refine zQ (h := ?_)
      | refine zU (h := ?_)
      | refine zj ?_
      | refine zR ?_
      | refine zW ?_
      | refine zN ?_
      | refine zV ?_
      | refine ze ?_
      | refine zP ?_
      | refine zY ?_
      | refine zS rfl ?_
      | refine zd ?_
      | refine zX ?_
      | refine zO ?_
      | refine zT ?_
      | refine zL ?_
      | (refine zC (id := 0) ?_; intro K hK; refine zH (k := ?_); (refine zD (hK _ _ ?_); clear hK K))
      | (refine zC (id := 1) ?_; intro K hK; refine zF (k := ?_); refine zf (k' := ?_); refine zF (k := ?_); ((first | (refine zA (k := ?_); refine zF (k := ?_)) | refine zE (k := ?_) | ((refine zG (yes := (fun ht => ?_)) (no := (fun ht => ?_)) <;> (try simp at ht) <;> (try (exfalso; omega))) <;> (first | (refine zA (k := ?_); refine zF (k := ?_)) | refine zE (k := ?_))))) <;> (((first | (refine zA (k := ?_); refine zJ (k := ?_)) | refine zE (k := ?_) | ((refine zG (yes := (fun ht => ?_)) (no := (fun ht => ?_)) <;> (try simp at ht) <;> (try (exfalso; omega))) <;> (first | (refine zA (k := ?_); refine zJ (k := ?_)) | refine zE (k := ?_))))) <;> (((first | (refine zA (k := ?_); refine zB (k := ?_)) | refine zE (k := ?_) | ((refine zG (yes := (fun ht => ?_)) (no := (fun ht => ?_)) <;> (try simp at ht) <;> (try (exfalso; omega))) <;> (first | (refine zA (k := ?_); refine zB (k := ?_)) | refine zE (k := ?_))))) <;> (((first | (refine zA (k := ?_); refine zB (k := ?_)) | refine zE (k := ?_) | ((refine zG (yes := (fun ht => ?_)) (no := (fun ht => ?_)) <;> (try simp at ht) <;> (try (exfalso; omega))) <;> (first | (refine zA (k := ?_); refine zB (k := ?_)) | refine zE (k := ?_))))) <;> (((first | (refine zA (k := ?_); refine zM (k := ?_)) | refine zE (k := ?_) | ((refine zG (yes := (fun ht => ?_)) (no := (fun ht => ?_)) <;> (try simp at ht) <;> (try (exfalso; omega))) <;> (first | (refine zA (k := ?_); refine zM (k := ?_)) | refine zE (k := ?_))))) <;> ((first | refine zZ (k := ?_) | refine za (k := ?_) | refine zg (k := ?_)); refine zF (k := ?_); ((first | (refine zA (k := ?_); refine zF (k := ?_)) | refine zE (k := ?_) | ((refine zG (yes := (fun ht => ?_)) (no := (fun ht => ?_)) <;> (try simp at ht) <;> (try (exfalso; omega))) <;> (first | (refine zA (k := ?_); refine zF (k := ?_)) | refine zE (k := ?_))))) <;> (((first | (refine zA (k := ?_); refine zJ (k := ?_)) | refine zE (k := ?_) | ((refine zG (yes := (fun ht => ?_)) (no := (fun ht => ?_)) <;> (try simp at ht) <;> (try (exfalso; omega))) <;> (first | (refine zA (k := ?_); refine zJ (k := ?_)) | refine zE (k := ?_))))) <;> (((first | (refine zA (k := ?_); refine zB (k := ?_)) | refine zE (k := ?_) | ((refine zG (yes := (fun ht => ?_)) (no := (fun ht => ?_)) <;> (try simp at ht) <;> (try (exfalso; omega))) <;> (first | (refine zA (k := ?_); refine zB (k := ?_)) | refine zE (k := ?_))))) <;> (((first | (refine zA (k := ?_); refine zB (k := ?_)) | refine zE (k := ?_) | ((refine zG (yes := (fun ht => ?_)) (no := (fun ht => ?_)) <;> (try simp at ht) <;> (try (exfalso; omega))) <;> (first | (refine zA (k := ?_); refine zB (k := ?_)) | refine zE (k := ?_))))) <;> (((first | (refine zA (k := ?_); refine zM (k := ?_)) | refine zE (k := ?_) | ((refine zG (yes := (fun ht => ?_)) (no := (fun ht => ?_)) <;> (try simp at ht) <;> (try (exfalso; omega))) <;> (first | (refine zA (k := ?_); refine zM (k := ?_)) | refine zE (k := ?_))))) <;> (((first | (refine zA (k := ?_); refine zn (k' := ?_)) | refine zE (k := ?_) | ((refine zG (yes := (fun ht => ?_)) (no := (fun ht => ?_)) <;> (try simp at ht) <;> (try (exfalso; omega))) <;> (first | (refine zA (k := ?_); refine zn (k' := ?_)) | refine zE (k := ?_))))) <;> (((first | (refine zA (k := ?_); refine z0 (k' := ?_)) | refine zE (k := ?_) | ((refine zG (yes := (fun ht => ?_)) (no := (fun ht => ?_)) <;> (try simp at ht) <;> (try (exfalso; omega))) <;> (first | (refine zA (k := ?_); refine z0 (k' := ?_)) | refine zE (k := ?_))))) <;> ((first | refine zZ (k := ?_) | refine za (k := ?_) | refine zg (k := ?_)); (refine zD (hK _ _ ?_); clear hK K))))))))))))))
      | (refine zC (id := 2) ?_; intro K hK; refine zH (k := ?_); (refine zD (hK _ _ ?_); clear hK K))
      | (refine zc (ht := (fun ht => ?_)) (hf := (fun ht => ?_)) <;> (try simp at ht) <;> (try (exfalso; omega))))
    all_goals first
      | exact ⟨Or.inr rfl, _, [RdrP B X p (l, _), X], fold_rdr (r := (l, _)) hr (by (repeat (first | exact Ent.refl _ | exact Ent.nil | refine Ent.take (by (repeat (first | exact Out.head | apply Out.tail)); (first | done | fail)) ?_ | refine Ent.drop1 ?_)); (first | done | fail)), res1 rfl rfl, rfl, rfl⟩
      | (exfalso; rcases hb with hb | hb; (simp_all; done); omega)
      | (exfalso; simp_all; done)
  · rw [if_neg hb]
    repeat' (first
      | refine zi ?_
      | refine zK ?_
      | refine zQ (h := ?_)
      | refine zU (h := ?_)
      | refine zj ?_
      | refine zR ?_
      | refine zW ?_
      | refine zN ?_
      | refine zV ?_
      | refine ze ?_
      | refine zP ?_
      | refine zY ?_
      | refine zS rfl ?_
      | refine zd ?_
      | refine zX ?_
      | refine zO ?_
      | refine zT ?_
      | refine zL ?_
      | (refine zC (id := 0) ?_; intro K hK; refine zH (k := ?_); (refine zD (hK _ _ ?_); clear hK K))
      | (refine zC (id := 1) ?_; intro K hK; refine zF (k := ?_); refine zf (k' := ?_); refine zF (k := ?_); ((first | (refine zA (k := ?_); refine zF (k := ?_)) | refine zE (k := ?_) | ((refine zG (yes := (fun ht => ?_)) (no := (fun ht => ?_)) <;> (try simp at ht) <;> (try (exfalso; omega))) <;> (first | (refine zA (k := ?_); refine zF (k := ?_)) | refine zE (k := ?_))))) <;> (((first | (refine zA (k := ?_); refine zJ (k := ?_)) | refine zE (k := ?_) | ((refine zG (yes := (fun ht => ?_)) (no := (fun ht => ?_)) <;> (try simp at ht) <;> (try (exfalso; omega))) <;> (first | (refine zA (k := ?_); refine zJ (k := ?_)) | refine zE (k := ?_))))) <;> (((first | (refine zA (k := ?_); refine zB (k := ?_)) | refine zE (k := ?_) | ((refine zG (yes := (fun ht => ?_)) (no := (fun ht => ?_)) <;> (try simp at ht) <;> (try (exfalso; omega))) <;> (first | (refine zA (k := ?_); refine zB (k := ?_)) | refine zE (k := ?_))))) <;> (((first | (refine zA (k := ?_); refine zB (k := ?_)) | refine zE (k := ?_) | ((refine zG (yes := (fun ht => ?_)) (no := (fun ht => ?_)) <;> (try simp at ht) <;> (try (exfalso; omega))) <;> (first | (refine zA (k := ?_); refine zB (k := ?_)) | refine zE (k := ?_))))) <;> (((first | (refine zA (k := ?_); refine zM (k := ?_)) | refine zE (k := ?_) | ((refine zG (yes := (fun ht => ?_)) (no := (fun ht => ?_)) <;> (try simp at ht) <;> (try (exfalso; omega))) <;> (first | (refine zA (k := ?_); refine zM (k := ?_)) | refine zE (k := ?_))))) <;> ((first | refine zZ (k := ?_) | refine za (k := ?_) | refine zg (k := ?_)); refine zF (k := ?_); ((first | (refine zA (k := ?_); refine zF (k := ?_)) | refine zE (k := ?_) | ((refine zG (yes := (fun ht => ?_)) (no := (fun ht => ?_)) <;> (try simp at ht) <;> (try (exfalso; omega))) <;> (first | (refine zA (k := ?_); refine zF (k := ?_)) | refine zE (k := ?_))))) <;> (((first | (refine zA (k := ?_); refine zJ (k := ?_)) | refine zE (k := ?_) | ((refine zG (yes := (fun ht => ?_)) (no := (fun ht => ?_)) <;> (try simp at ht) <;> (try (exfalso; omega))) <;> (first | (refine zA (k := ?_); refine zJ (k := ?_)) | refine zE (k := ?_))))) <;> (((first | (refine zA (k := ?_); refine zB (k := ?_)) | refine zE (k := ?_) | ((refine zG (yes := (fun ht => ?_)) (no := (fun ht => ?_)) <;> (try simp at ht) <;> (try (exfalso; omega))) <;> (first | (refine zA (k := ?_); refine zB (k := ?_)) | refine zE (k := ?_))))) <;> (((first | (refine zA (k := ?_); refine zB (k := ?_)) | refine zE (k := ?_) | ((refine zG (yes := (fun ht => ?_)) (no := (fun ht => ?_)) <;> (try simp at ht) <;> (try (exfalso; omega))) <;> (first | (refine zA (k := ?_); refine zB (k := ?_)) | refine zE (k := ?_))))) <;> (((first | (refine zA (k := ?_); refine zM (k := ?_)) | refine zE (k := ?_) | ((refine zG (yes := (fun ht => ?_)) (no := (fun ht => ?_)) <;> (try simp at ht) <;> (try (exfalso; omega))) <;> (first | (refine zA (k := ?_); refine zM (k := ?_)) | refine zE (k := ?_))))) <;> (((first | (refine zA (k := ?_); refine zn (k' := ?_)) | refine zE (k := ?_) | ((refine zG (yes := (fun ht => ?_)) (no := (fun ht => ?_)) <;> (try simp at ht) <;> (try (exfalso; omega))) <;> (first | (refine zA (k := ?_); refine zn (k' := ?_)) | refine zE (k := ?_))))) <;> (((first | (refine zA (k := ?_); refine z0 (k' := ?_)) | refine zE (k := ?_) | ((refine zG (yes := (fun ht => ?_)) (no := (fun ht => ?_)) <;> (try simp at ht) <;> (try (exfalso; omega))) <;> (first | (refine zA (k := ?_); refine z0 (k' := ?_)) | refine zE (k := ?_))))) <;> ((first | refine zZ (k := ?_) | refine za (k := ?_) | refine zg (k := ?_)); (refine zD (hK _ _ ?_); clear hK K))))))))))))))
      | (refine zC (id := 2) ?_; intro K hK; refine zH (k := ?_); (refine zD (hK _ _ ?_); clear hK K))
      | (refine zC (id := 3) ?_; intro K hK; refine zH (k := ?_); (refine zD (hK _ _ ?_); clear hK K))
      | (refine zc (ht := (fun ht => ?_)) (hf := (fun ht => ?_)) <;> (try simp at ht) <;> (try (exfalso; omega))))
    all_goals first
      | exact ⟨Or.inr rfl, _, [RdrP B X p (l, _), X], fold_rdr (r := (l, _)) hr (by (repeat (first | exact Ent.refl _ | exact Ent.nil | refine Ent.take (by (repeat (first | exact Out.head | apply Out.tail)); (first | done | fail)) ?_ | refine Ent.drop1 ?_)); (first | done | fail)), res1 rfl rfl, rfl, rfl⟩
      | (exfalso; exact hb (.inl (by assumption)))
      | (exfalso; exact hb (.inr (by omega)))
/-- A reader of some bytes has a copy of them. -/
theorem rnew_spec (A0 : List Asn) (a : Option Addr) (m c : Nat) (l : List UInt8) (h : RdS Tryz.prog B A0 1 a m c (l.map byteV)) (hm : m ≤ 140737489000000) :
    Fspec Tryz.prog B 64 #[.slice a m c] A0 (fun v A' => ∃ p b bc, v = .pointer (some ⟨p, 0, none⟩) ∧ A' = RdrP B (own b l.length bc 1 (l.map byteV) 5) p (l, false) :: own b l.length bc 1 (l.map byteV) 5 :: A0) := by
  have hl : l.length = m := by have := h.len; simpa using this
  subst hl
  refine spec_of (args := [_]) Tryz.func64 rfl rfl rfl ?_
  repeat' (first
    | refine zi ?_
    | refine zK ?_
    | refine zQ (h := ?_)
    | refine zU (h := ?_)
    | refine zj ?_
    | refine zR ?_
    | refine zW ?_
    | refine zN ?_
    | refine zV ?_
    | refine ze ?_
    | refine zP ?_
    | refine zY ?_
    | refine zS rfl ?_
    | refine zd ?_
    | refine zX ?_
    | refine zO ?_
    | refine zT ?_
    | refine zL ?_
    | (refine zC (id := 0) ?_; intro K hK; refine zH (k := ?_); (refine zD (hK _ _ ?_); clear hK K))
    | (refine zC (id := 1) ?_; intro K hK; (refine yT (k := ?_); intro r); refine zF (k := ?_); ((refine yN (hsrc := h.tail) (hvc := byteV_all _) (hbd := by omega) (k := ?_); intro oa' oc'; rw [Nat.zero_add, List.nil_append]; refine yF (a := oa') (sz := 1) (h0 := by omega) (h := fun hf => ?_))) <;> (refine zr (k := ?_); refine zr (k := ?_); ((refine zm (l := [.slice oa' l.length oc', .bool false]) (k := ?_); intro pr)) <;> (refine zH (k := ?_); (refine zD (hK _ _ ?_); clear hK K))))
    | (refine zc (ht := (fun ht => ?_)) (hf := (fun ht => ?_)) <;> (try simp at ht) <;> (try (exfalso; omega))))
  refine ⟨Or.inr rfl, _, RdrP B (own oa' l.length oc' 1 (l.map byteV) 5) pr (l, false) :: own oa' l.length oc' 1 (l.map byteV) 5 :: A0, ?_, res1 rfl rfl, pr, oa', oc', rfl, rfl⟩
  refine fold_rdr (r := (l, false)) (a := oa') (c := oc') (hf.rd (M := []) .head) ?_
  (repeat (first | exact Ent.refl _ | exact Ent.nil | refine Ent.take (by (repeat (first | exact Out.head | apply Out.tail)); (first | done | fail)) ?_ | refine Ent.drop1 ?_))
end specs
end Go.Proofs.YtnoggejkkjngjaaGreat
