/- Trees whose levels keep them low: what setting and deleting leave right. No program in sight. No condition. -/
import Derived.Test.YtnoggejkkjngjaaVTree3
set_option linter.unusedVariables false
set_option linter.unusedSimpArgs false
namespace Go.Proofs.Ytnoggejkkjngjaa
open Go Go.Sl
namespace Tree
def le : Tree → Tree
  | .nil => .nil
  | .node l _ _ _ _ => l
def gr : Tree → Tree
  | .nil => .nil
  | .node _ _ _ _ r => r
theorem lev_node {l r : Tree} {k : ByteArray} {v : VX} {lv : Int} : (Tree.node l k v lv r).lev = lv := rfl
theorem gr_node {l r : Tree} {k : ByteArray} {v : VX} {lv : Int} : (Tree.node l k v lv r).gr = r := rfl
theorem le_node {l r : Tree} {k : ByteArray} {v : VX} {lv : Int} : (Tree.node l k v lv r).le = l := rfl
theorem lev_nil : Tree.nil.lev = 0 := rfl
theorem gr_nil : Tree.nil.gr = .nil := rfl
def AA : Tree → Prop
  | .nil => True
  | .node l _ _ lv r => l.AA ∧ r.AA ∧ lv = l.lev + 1 ∧ (r.lev + 1 = lv ∨ (r.lev = lv ∧ r.gr.lev + 1 = lv))
theorem AA.pos : ∀ {t : Tree}, t.AA → 0 ≤ t.lev
  | .nil, _ => Int.le_refl _
  | .node l _ _ lv r, h => by have := h.1.pos; have := h.2.2.1; simp only [lev_node]; omega
theorem AA.node_pos {l r : Tree} {k : ByteArray} {v : VX} {lv : Int} (h : (Tree.node l k v lv r).AA) : 1 ≤ lv := by have := h.1.pos; have := h.2.2.1; omega
/-- A tree with a level above nought is a place. -/
theorem of_lev {t : Tree} (h : t.lev ≠ 0) : ∃ l k v lv r, t = .node l k v lv r := by
  cases t with
  | nil => exact absurd rfl h
  | node l k v lv r => exact ⟨l, k, v, lv, r, rfl⟩
theorem AA.gr_le {t : Tree} (h : t.AA) : t.gr.lev ≤ t.lev ∧ t.gr.lev + 1 ≥ t.lev := by
  cases t with
  | nil => exact ⟨Int.le_refl _, by simp [gr_nil, lev_nil]⟩
  | node l k v lv r => have := h.2.2.2; simp only [gr_node, lev_node]; omega
theorem AA.gr {t : Tree} (h : t.AA) : t.gr.AA := by
  cases t with
  | nil => trivial
  | node l k v lv r => exact h.2.1
theorem skew_none {l r : Tree} {k : ByteArray} {v : VX} {lv : Int} (h : l.lev ≠ lv) : (Tree.node l k v lv r).skew = .node l k v lv r := by
  cases l with
  | nil => rfl
  | node a b c d e => simp only [skew]; exact if_neg (fun e => h e)
theorem skew_rot {a b r : Tree} {k k2 : ByteArray} {v v2 : VX} {lv : Int} : (Tree.node (.node a k2 v2 lv b) k v lv r).skew = .node a k2 v2 lv (.node b k v lv r) := by
  simp [skew]
theorem split_none {l r : Tree} {k : ByteArray} {v : VX} {lv : Int} (h : r.gr.lev ≠ lv) : (Tree.node l k v lv r).split = .node l k v lv r := by
  cases r with
  | nil => rfl
  | node a b c d e =>
    cases e with
    | nil => rfl
    | node f g i j m => simp only [split]; exact if_neg (fun e => h e)
theorem split_rot {l a b : Tree} {k k2 : ByteArray} {v v2 : VX} {lv lv2 : Int} (h : b.lev = lv) (h0 : lv ≠ 0) : (Tree.node l k v lv (.node a k2 v2 lv2 b)).split = .node (.node l k v lv a) k2 v2 (lv2 + 1) b := by
  obtain ⟨f, g, i, j, m, rfl⟩ := of_lev (t := b) (by omega)
  simp only [split]; exact if_pos h
theorem AA.skew {t : Tree} (h : t.AA) : t.skew = t := by
  cases t with
  | nil => rfl
  | node l k v lv r => exact skew_none (by have := h.2.2.1; omega)
theorem AA.split {t : Tree} (h : t.AA) : t.split = t := by
  cases t with
  | nil => rfl
  | node l k v lv r =>
    refine split_none ?_
    have h2 := h.2.2.2
    have := h.2.1.gr_le
    omega
theorem AA.onGreat_skew {t : Tree} (h : t.AA) : t.onGreat Tree.skew = t := by
  cases t with
  | nil => rfl
  | node l k v lv r => simp only [onGreat, h.2.1.skew]
theorem AA.onGreat_split {t : Tree} (h : t.AA) : t.onGreat Tree.split = t := by
  cases t with
  | nil => rfl
  | node l k v lv r => simp only [onGreat, h.2.1.split]

/-- What setting a key may do to a tree. -/
structure Grow (t u : Tree) : Prop where
  aa : u.AA
  lv : u.lev = t.lev ∨ (u.lev = t.lev + 1 ∧ u.gr.lev = t.lev ∧ u.le.lev = t.lev)
  sn : t.gr.lev < t.lev → u.lev = t.lev
theorem Grow.left {l l' r : Tree} {k : ByteArray} {v : VX} {lv : Int} (h : (Tree.node l k v lv r).AA) (g : Grow l l') : Grow (.node l k v lv r) (Tree.node l' k v lv r).skew.split := by
  obtain ⟨hl, hr, hv, hrr⟩ := h
  have hp := hl.pos
  have hg := hr.gr_le
  rcases g.lv with e | ⟨e1, e2, e3⟩
  · rw [skew_none (by omega), split_none (by omega)]
    exact ⟨⟨g.aa, hr, by omega, hrr⟩, .inl rfl, fun _ => rfl⟩
  · obtain ⟨a, k2, v2, lv2, b, rfl⟩ := of_lev (t := l') (by omega)
    simp only [lev_node, gr_node, le_node] at e1 e2 e3
    obtain rfl : lv2 = lv := by omega
    obtain ⟨ha, hb, hab, hbb⟩ := g.aa
    rw [skew_rot]
    rcases hrr with h1 | ⟨h1, h2⟩
    · rw [split_none (by simp only [gr_node]; omega)]
      exact ⟨⟨ha, ⟨hb, hr, by omega, .inl h1⟩, by omega, .inr ⟨rfl, by simp only [gr_node]; omega⟩⟩, .inl rfl, fun _ => rfl⟩
    · rw [split_rot h1 (by omega)]
      refine ⟨⟨⟨ha, hb, hab, hbb⟩, hr, by simp only [lev_node], .inl (by omega)⟩, .inr ⟨rfl, h1, rfl⟩, fun h => ?_⟩
      simp only [gr_node, lev_node] at h; omega
theorem Grow.right {l r r' : Tree} {k : ByteArray} {v : VX} {lv : Int} (h : (Tree.node l k v lv r).AA) (g : Grow r r') : Grow (.node l k v lv r) (Tree.node l k v lv r').skew.split := by
  obtain ⟨hl, hr, hv, hrr⟩ := h
  have hp := hl.pos
  have hg := g.aa.gr_le
  rw [skew_none (by omega)]
  rcases g.lv with e | ⟨e1, e2, e3⟩
  · by_cases hs : r'.gr.lev = lv
    · obtain ⟨a, k2, v2, lv2, b, rfl⟩ := of_lev (t := r') (by omega)
      simp only [gr_node, lev_node] at hs e hg
      obtain ⟨ha, hb, hab, hbb⟩ := g.aa
      rw [split_rot hs (by omega)]
      refine ⟨⟨⟨hl, ha, hv, .inl (by omega)⟩, hb, by simp only [lev_node]; omega, .inl (by omega)⟩, .inr ⟨by simp only [lev_node]; omega, hs, rfl⟩, fun h => ?_⟩
      simp only [gr_node, lev_node] at h; omega
    · rw [split_none hs]
      exact ⟨⟨hl, g.aa, hv, by omega⟩, .inl rfl, fun _ => rfl⟩
  · rcases hrr with h1 | ⟨h1, h2⟩
    · rw [split_none (by omega)]
      exact ⟨⟨hl, g.aa, hv, .inr ⟨by omega, by omega⟩⟩, .inl rfl, fun _ => rfl⟩
    · have := g.sn (by omega); omega
theorem set_AA (k : ByteArray) (v : VX) : ∀ (t : Tree), t.AA → Grow t (t.set k v)
  | .nil, _ => ⟨⟨trivial, trivial, rfl, .inl rfl⟩, .inr ⟨rfl, rfl, rfl⟩, fun h => by simp [gr_nil, lev_nil] at h⟩
  | .node l k' v' lv r, h => by
    simp only [set]
    split
    · exact Grow.left h (set_AA k v l h.1)
    · split
      · exact Grow.right h (set_AA k v r h.2.1)
      · exact ⟨h, .inl rfl, fun _ => rfl⟩

/-- What deleting a key may do to a tree. -/
structure Fall (t u : Tree) : Prop where
  aa : u.AA
  lv : u.lev = t.lev ∨ u.lev + 1 = t.lev
  sn : t.gr.lev < t.lev → u.lev = t.lev → u.gr.lev < u.lev
theorem low1_pos {l r : Tree} {k : ByteArray} {v : VX} {lv : Int} (h : min l.lev r.lev + 1 < lv) : (Tree.node l k v lv r).low1 = .node l k v (min l.lev r.lev + 1) (r.cut (min l.lev r.lev + 1)) := by
  simp only [low1]; exact if_pos h
theorem low1_neg {l r : Tree} {k : ByteArray} {v : VX} {lv : Int} (h : ¬ min l.lev r.lev + 1 < lv) : (Tree.node l k v lv r).low1 = .node l k v lv r := by
  simp only [low1]; exact if_neg h
theorem cut_pos {l r : Tree} {k : ByteArray} {v : VX} {lv M : Int} (h : M < lv) : (Tree.node l k v lv r).cut M = .node l k v M r := by
  simp only [cut]; exact if_pos h
theorem cut_neg {t : Tree} {M : Int} (h : t.lev ≤ M) : t.cut M = t := by
  cases t with
  | nil => rfl
  | node l k v lv r => simp only [lev_node] at h; simp only [cut]; exact if_neg (by omega)
theorem onGreat_node {l r : Tree} {k : ByteArray} {v : VX} {lv : Int} {f : Tree → Tree} : (Tree.node l k v lv r).onGreat f = .node l k v lv (f r) := rfl
theorem lower_same {l r : Tree} {k : ByteArray} {v : VX} {lv : Int} (h : (Tree.node l k v lv r).AA) : (Tree.node l k v lv r).lower = .node l k v lv r := by
  have h0 := h
  obtain ⟨hl, hr, hv, hrr⟩ := h
  have := hl.pos
  unfold lower
  rw [low1_neg (by omega), h0.skew, onGreat_node, hr.skew, hr.onGreat_skew, h0.split, onGreat_node, hr.split]
/-- Down by one, or as it was. -/
structure Low (h : Int) (φ : Prop) (u : Tree) : Prop where
  aa : u.AA
  lv : u.lev = h ∨ u.lev + 1 = h
  sn : φ → u.lev = h → u.gr.lev < u.lev
theorem lower_left {l r : Tree} {k : ByteArray} {v : VX} {lv : Int} (hl : l.AA) (hr : r.AA) (hv : lv = l.lev + 2) (hrr : r.lev + 1 = lv ∨ (r.lev = lv ∧ r.gr.lev + 1 = lv)) : Low lv (r.lev < lv) (Tree.node l k v lv r).lower := by
  have hp := hl.pos
  have hg := hr.gr_le
  have hm : min l.lev r.lev + 1 = lv - 1 := by omega
  unfold lower
  rw [low1_pos (by omega), hm]
  rcases hrr with h1 | ⟨h1, h2⟩
  · rw [cut_neg (by omega), skew_none (by omega), onGreat_node, hr.skew, hr.onGreat_skew]
    by_cases hs : r.gr.lev = lv - 1
    · obtain ⟨a, k2, v2, lv2, b, rfl⟩ := of_lev (t := r) (by omega)
      simp only [lev_node, gr_node] at h1 hs hg ⊢
      obtain ⟨ha, hb, hab, hbb⟩ := hr
      rw [split_rot hs (by omega), onGreat_node, hb.split]
      exact ⟨⟨⟨hl, ha, by omega, .inl (by omega)⟩, hb, by simp only [lev_node]; omega, .inl (by omega)⟩, .inl (by simp only [lev_node]; omega), fun _ _ => by simp only [lev_node, gr_node]; omega⟩
    · rw [split_none hs, onGreat_node, hr.split]
      exact ⟨⟨hl, hr, by omega, .inr ⟨by omega, by omega⟩⟩, .inr (by simp only [lev_node]; omega), fun _ h => by simp only [lev_node] at h; omega⟩
  · obtain ⟨a, k2, v2, lv2, b, rfl⟩ := of_lev (t := r) (by omega)
    simp only [lev_node, gr_node] at h1 h2 hg ⊢
    obtain ⟨ha, hb, hab, hbb⟩ := hr
    rw [cut_pos (by omega), skew_none (by omega), onGreat_node]
    obtain ⟨c, k3, v3, lv3, d, rfl⟩ := of_lev (t := a) (by omega)
    simp only [lev_node] at hab
    obtain rfl : lv3 = lv - 1 := by omega
    obtain ⟨hc, hd, hcd, hdd⟩ := ha
    have hbg := hb.gr_le
    rw [skew_rot, onGreat_node]
    by_cases hred : d.lev = lv - 1
    · obtain ⟨f, k4, v4, lv4, g, rfl⟩ := of_lev (t := d) (by omega)
      simp only [lev_node, gr_node] at hred hdd
      obtain rfl : lv4 = lv - 1 := by omega
      obtain ⟨hf, hgg, hfg, hggg⟩ := hd
      rw [skew_rot, split_rot (by simp only [lev_node]) (by omega), onGreat_node, split_rot (by omega) (by omega)]
      refine ⟨⟨⟨hl, hc, by omega, .inl (by omega)⟩, ⟨⟨hf, hgg, by omega, .inl (by omega)⟩, hb, by simp only [lev_node], .inl (by omega)⟩, by simp only [lev_node], .inr ⟨by simp only [lev_node], by simp only [gr_node]; omega⟩⟩, .inl (by simp only [lev_node]; omega), fun h => by omega⟩
    · rw [skew_none (by omega), split_rot (by simp only [lev_node]) (by omega), onGreat_node]
      by_cases hs : b.gr.lev = lv - 1
      · obtain ⟨f, k4, v4, lv4, g, rfl⟩ := of_lev (t := b) (by omega)
        simp only [lev_node, gr_node] at hs h2 hbg
        obtain ⟨hf, hgg, hfg, hggg⟩ := hb
        rw [split_rot hs (by omega)]
        refine ⟨⟨⟨hl, hc, by omega, .inl (by omega)⟩, ⟨⟨hd, hf, by omega, .inl (by omega)⟩, hgg, by simp only [lev_node]; omega, .inl (by omega)⟩, by simp only [lev_node], .inr ⟨by simp only [lev_node]; omega, by simp only [gr_node]; omega⟩⟩, .inl (by simp only [lev_node]; omega), fun h => by omega⟩
      · rw [split_none hs]
        refine ⟨⟨⟨hl, hc, by omega, .inl (by omega)⟩, ⟨hd, hb, by omega, .inr ⟨by omega, by omega⟩⟩, by simp only [lev_node], .inl (by simp only [lev_node])⟩, .inl (by simp only [lev_node]; omega), fun h => by omega⟩
theorem lower_right {l r : Tree} {k : ByteArray} {v : VX} {lv : Int} (hl : l.AA) (hr : r.AA) (hv : lv = l.lev + 1) (hrr : r.lev + 2 = lv) : Low lv True (Tree.node l k v lv r).lower := by
  have hp := hr.pos
  have hm : min l.lev r.lev + 1 = lv - 1 := by omega
  have hg := hr.gr_le
  unfold lower
  rw [low1_pos (by omega), hm, cut_neg (by omega)]
  obtain ⟨a, k2, v2, lv2, b, rfl⟩ := of_lev (t := l) (by omega)
  simp only [lev_node] at hv
  obtain rfl : lv2 = lv - 1 := by omega
  obtain ⟨ha, hb, hab, hbb⟩ := hl
  rw [skew_rot, onGreat_node]
  by_cases hred : b.lev = lv - 1
  · obtain ⟨f, k4, v4, lv4, g, rfl⟩ := of_lev (t := b) (by omega)
    simp only [lev_node, gr_node] at hred hbb
    obtain rfl : lv4 = lv - 1 := by omega
    obtain ⟨hf, hgg, hfg, hggg⟩ := hb
    rw [skew_rot, onGreat_node, skew_none (by omega), split_rot (by simp only [lev_node]) (by omega), onGreat_node, split_none (by omega)]
    exact ⟨⟨⟨ha, hf, by omega, .inl (by omega)⟩, ⟨hgg, hr, by omega, .inl (by omega)⟩, by simp only [lev_node], .inl (by simp only [lev_node])⟩, .inl (by simp only [lev_node]; omega), fun _ _ => by simp only [lev_node, gr_node]; omega⟩
  · rw [skew_none (by omega), onGreat_node, hr.skew, split_none (by simp only [gr_node]; omega), onGreat_node, split_none (by omega)]
    exact ⟨⟨ha, ⟨hb, hr, by omega, .inl (by omega)⟩, by omega, .inr ⟨by simp only [lev_node], by simp only [gr_node]; omega⟩⟩, .inr (by simp only [lev_node]; omega), fun _ h => by simp only [lev_node] at h; omega⟩
theorem Fall.left {l l' r : Tree} {k k2 : ByteArray} {v v2 : VX} {lv : Int} (h : (Tree.node l k v lv r).AA) (g : Fall l l') : Fall (.node l k v lv r) (Tree.node l' k2 v2 lv r).lower := by
  obtain ⟨hl, hr, hv, hrr⟩ := h
  rcases g.lv with e | e
  · have h1 : (Tree.node l' k2 v2 lv r).AA := ⟨g.aa, hr, by omega, hrr⟩
    rw [lower_same h1]
    exact ⟨h1, .inl rfl, fun h _ => h⟩
  · have := lower_left (k := k2) (v := v2) g.aa hr (by omega) hrr
    exact ⟨this.aa, this.lv, fun h e => this.sn h e⟩
theorem Fall.right {l r r' : Tree} {k k2 : ByteArray} {v v2 : VX} {lv : Int} (h : (Tree.node l k v lv r).AA) (g : Fall r r') : Fall (.node l k v lv r) (Tree.node l k2 v2 lv r').lower := by
  obtain ⟨hl, hr, hv, hrr⟩ := h
  have hg := g.aa.gr_le
  by_cases hlow : r'.lev + 2 = lv
  · have := lower_right (k := k2) (v := v2) hl g.aa hv hlow
    exact ⟨this.aa, this.lv, fun _ e => this.sn trivial e⟩
  · have h1 : (Tree.node l k2 v2 lv r').AA := by
      refine ⟨hl, g.aa, hv, ?_⟩
      rcases g.lv with e | e
      · rcases hrr with h1 | ⟨h1, h2⟩
        · exact .inl (by omega)
        · have := g.sn (by omega) e
          exact .inr ⟨by omega, by omega⟩
      · rcases hrr with h1 | ⟨h1, h2⟩
        · omega
        · exact .inl (by omega)
    rw [lower_same h1]
    refine ⟨h1, .inl rfl, fun h _ => ?_⟩
    simp only [gr_node, lev_node] at h ⊢
    rcases g.lv with e | e <;> omega
theorem del_AA : ∀ (t : Tree) (k : ByteArray), t.AA → Fall t (t.del k)
  | .nil, _, _ => ⟨trivial, .inl rfl, fun h => by simp [gr_nil, lev_nil] at h⟩
  | .node l k' v' lv r, k, h => by
    have ihl := fun q => del_AA l q h.1
    have ihr := fun q => del_AA r q h.2.1
    simp only [del]
    split
    · exact Fall.left h (ihl k)
    · split
      · exact Fall.right h (ihr k)
      · cases l with
        | nil =>
          cases r with
          | nil => exact ⟨trivial, .inr (by have := h.2.2.1; simp only [top, lev_nil, lev_node] at *; omega), fun _ e => by have := h.2.2.1; simp only [Tree.top, lev_nil, lev_node] at *; omega⟩
          | node => exact Fall.right h (ihr _)
        | node => exact Fall.left h (ihl _)

/-! how deep -/
theorem AA.depth_le : ∀ {t : Tree}, t.AA → (t.depth : Int) ≤ 2 * t.lev ∧ (t.gr.lev < t.lev → (t.depth : Int) ≤ 2 * t.lev - 1)
  | .nil, _ => ⟨by simp [depth, lev_nil], fun h => by simp [gr_nil, lev_nil] at h⟩
  | .node l k v lv r, h => by
    obtain ⟨hl, hr, hv, hrr⟩ := h
    have dl := AA.depth_le hl; have dr := AA.depth_le hr
    simp only [depth, lev_node, gr_node]
    rcases hrr with h1 | ⟨h1, h2⟩
    · have := dl.1; have := dr.1
      exact ⟨by omega, fun _ => by omega⟩
    · have := dl.1; have := dr.2 (by omega)
      exact ⟨by omega, fun h => by omega⟩
theorem AA.size_ge : ∀ {t : Tree} (n : Nat), t.AA → t.lev = n → 2 ^ n ≤ t.size + 1
  | .nil, n, _, e => by have h0 : (0 : Int) = n := e; obtain rfl : n = 0 := (by omega); exact Nat.le_refl _
  | .node l k v lv r, n, h, e => by
    obtain ⟨hl, hr, hv, hrr⟩ := h
    have hp := hl.pos
    simp only [lev_node] at e
    obtain ⟨m, rfl⟩ : ∃ m, n = m + 1 := ⟨n - 1, by omega⟩
    have h1 := AA.size_ge m hl (by omega)
    have h2 : 2 ^ m ≤ r.size + 1 := by
      rcases hrr with h2 | ⟨h2, _⟩
      · exact AA.size_ge m hr (by omega)
      · have := AA.size_ge (m + 1) hr (by omega)
        rw [Nat.pow_succ] at this; omega
    rw [Nat.pow_succ]; simp only [size]; omega
/-- How often a number can be halved. -/
def halves : Nat → Nat → Nat
  | 0, _ => 0
  | f + 1, n => if n = 0 then 0 else halves f (n / 2) + 1
theorem halves_ge : ∀ (f n m : Nat), n ≤ f → 2 ^ m ≤ n → m + 1 ≤ halves f n
  | 0, n, m, hf, h => by have := Nat.two_pow_pos m; omega
  | f + 1, n, 0, hf, h => by simp only [halves]; rw [if_neg (by simp at h; omega)]; omega
  | f + 1, n, m + 1, hf, h => by
    have hp := Nat.two_pow_pos m
    rw [Nat.pow_succ] at h
    simp only [halves]
    rw [if_neg (by omega)]
    have := halves_ge f (n / 2) m (by omega) (by omega)
    omega
theorem AA.bound {t : Tree} (h : t.AA) : t.depth ≤ 2 * halves (t.size + 1) (t.size + 1) := by
  have hp := h.pos
  obtain ⟨n, hn⟩ : ∃ n : Nat, t.lev = n := ⟨t.lev.toNat, by omega⟩
  have h1 := halves_ge (t.size + 1) (t.size + 1) n (Nat.le_refl _) (h.size_ge n hn)
  have h2 := h.depth_le.1
  omega
theorem AA.levs : ∀ {t : Tree}, t.AA → t.LB t.lev
  | .nil, _ => trivial
  | .node l k v lv r, h => by
    obtain ⟨hl, hr, hv, hrr⟩ := h
    have hp := hl.pos
    exact ⟨⟨by omega, Int.le_refl _⟩, (AA.levs hl).mono (by simp only [lev_node]; omega), (AA.levs hr).mono (by simp only [lev_node]; omega)⟩
theorem AA.lev_le : ∀ {t : Tree}, t.AA → t.lev ≤ t.size
  | .nil, _ => Int.le_refl _
  | .node l k v lv r, h => by have := AA.lev_le h.1; have := h.2.2.1; simp only [lev_node, size]; omega
theorem AA.LB_size {t : Tree} (h : t.AA) : t.LB t.size := h.levs.mono h.lev_le

/-! how many -/
theorem size_skew (t : Tree) : t.skew.size = t.size := by
  unfold skew
  split
  · split <;> simp only [size]; omega
  · rfl
theorem size_split (t : Tree) : t.split.size = t.size := by
  unfold split
  split
  · split <;> simp only [size]; omega
  · rfl
theorem size_cut (t : Tree) (M : Int) : (t.cut M).size = t.size := by
  cases t with
  | nil => rfl
  | node l k v lv r => simp only [cut]; split <;> rfl
theorem size_low1 (t : Tree) : t.low1.size = t.size := by
  cases t with
  | nil => rfl
  | node l k v lv r => simp only [low1]; split <;> simp only [size, size_cut]
theorem size_onGreat (t : Tree) {f : Tree → Tree} (hf : ∀ r, (f r).size = r.size) : (t.onGreat f).size = t.size := by
  cases t with
  | nil => rfl
  | node l k v lv r => simp only [onGreat, size, hf]
theorem size_lower (t : Tree) : t.lower.size = t.size := by
  unfold lower
  rw [size_onGreat _ size_split, size_split, size_onGreat _ (fun r => by rw [size_onGreat _ size_skew, size_skew]), size_skew, size_low1]
theorem size_set (k : ByteArray) (v : VX) : ∀ t : Tree, (t.set k v).size = t.size + (if t.news k then 1 else 0)
  | .nil => rfl
  | .node l k' v' lv r => by
    have hl := size_set k v l; have hr := size_set k v r
    simp only [set, news]
    split
    · rw [size_split, size_skew]; simp only [size, hl]; omega
    · split
      · rw [size_split, size_skew]; simp only [size, hr]; omega
      · simp [size]
theorem size_del : ∀ (t : Tree) (k : ByteArray), (t.del k).size + t.gone k = t.size
  | .nil, _ => rfl
  | .node l k' v' lv r, k => by
    have hl := size_del l; have hr := size_del r
    simp only [del, gone]
    split
    · have := hl k; rw [size_lower]; simp only [size]; omega
    · split
      · have := hr k; rw [size_lower]; simp only [size]; omega
      · cases l with
        | nil =>
          cases r with
          | nil => rfl
          | node a b c d e => have := hr (Tree.node a b c d e).least.1; simp only [top, topGone]; rw [size_lower]; simp only [size] at *; omega
        | node a b c d e => have := hl (Tree.node a b c d e).most.1; simp only [top, topGone]; rw [size_lower]; simp only [size] at *; omega
end Tree
end Go.Proofs.Ytnoggejkkjngjaa
