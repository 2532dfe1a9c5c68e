/- Package sorted: setting and deleting in a tree. Conditions: levels and counts are bounded. -/
import Derived.Test.YtnoggejkkjngjaaVTree2
set_option maxHeartbeats 8000000
set_option linter.unusedVariables false
set_option linter.unusedSimpArgs false
set_option maxRecDepth 100000
namespace Go.Proofs.Ytnoggejkkjngjaa
open Go Go.Sl
attribute [local irreducible] Go.Sl.Wl Go.Sl.Wc Go.Sl.thenQ Go.Sl.blkQ Go.Sl.loopQ Go.Sl.Fspec

structure ZF where
  b : Nat
  k : ByteArray
  v : VX
  lv : Int
  o : Option Addr
  t : Tree
/-- The way down to the least place of a tree. -/
def zLA : List ZF → Option Addr → List Asn
  | [], _ => []
  | z :: Z, x => cb z.b [.string z.k, .int .i64 z.v.a, .int .i64 z.v.b, .bool z.v.c, .string z.v.d, .int .i64 z.lv, .pointer x, .pointer z.o] 139 :: TrA z.t z.o :: zLA Z (some ⟨z.b, 0, none⟩)
def zLP : List ZF → Tree → Tree
  | [], s => s
  | z :: Z, s => zLP Z (.node s z.k z.v z.lv z.t)
def zLR : List ZF → Option Addr → Option Addr
  | [], x => x
  | z :: Z, _ => zLR Z (some ⟨z.b, 0, none⟩)
theorem zL_fold : ∀ (Z : List ZF) (s : Tree) (x : Option Addr) (A : List Asn), Ent (TrA s x :: (zLA Z x ++ A)) (TrA (zLP Z s) (zLR Z x) :: A)
  | [], _, _, _ => Ent.refl _
  | z :: Z, s, x, A => by
    refine Ent.trans ?_ (zL_fold Z (.node s z.k z.v z.lv z.t) (some ⟨z.b, 0, none⟩) A)
    refine Ent.trans ?_ (tr_fold (b := z.b) (la := x) (ra := z.o))
    exact Ent.perm (List.Perm.swap ..)
theorem zL_least : ∀ (Z : List ZF) (s : Tree), s.isNode → (zLP Z s).least = s.least
  | [], _, _ => rfl
  | z :: Z, s, h => by
    rw [zLP, zL_least Z (.node s z.k z.v z.lv z.t) trivial]
    obtain ⟨l, k, v, lv, r, rfl⟩ := isNode_out h
    rfl
/-- The way down to the most place of a tree. -/
def zRA : List ZF → Option Addr → List Asn
  | [], _ => []
  | z :: Z, x => cb z.b [.string z.k, .int .i64 z.v.a, .int .i64 z.v.b, .bool z.v.c, .string z.v.d, .int .i64 z.lv, .pointer z.o, .pointer x] 139 :: TrA z.t z.o :: zRA Z (some ⟨z.b, 0, none⟩)
def zRP : List ZF → Tree → Tree
  | [], s => s
  | z :: Z, s => zRP Z (.node z.t z.k z.v z.lv s)
def zRR : List ZF → Option Addr → Option Addr
  | [], x => x
  | z :: Z, _ => zRR Z (some ⟨z.b, 0, none⟩)
theorem zR_fold : ∀ (Z : List ZF) (s : Tree) (x : Option Addr) (A : List Asn), Ent (TrA s x :: (zRA Z x ++ A)) (TrA (zRP Z s) (zRR Z x) :: A)
  | [], _, _, _ => Ent.refl _
  | z :: Z, s, x, A => by
    refine Ent.trans ?_ (zR_fold Z (.node z.t z.k z.v z.lv s) (some ⟨z.b, 0, none⟩) A)
    refine Ent.trans ?_ (tr_fold (b := z.b) (la := z.o) (ra := x))
    exact Ent.perm ((List.Perm.swap ..).trans ((List.Perm.swap ..).cons _))
theorem zR_most : ∀ (Z : List ZF) (s : Tree), s.isNode → (zRP Z s).most = s.most
  | [], _, _ => rfl
  | z :: Z, s, h => by
    rw [zRP, zR_most Z (.node z.t z.k z.v z.lv s) trivial]
    obtain ⟨l, k, v, lv, r, rfl⟩ := isNode_out h
    rfl

theorem zL_fold2 (Z : List ZF) (s : Tree) (x : Option Addr) (a1 a2 : Asn) : Ent (TrA s x :: a1 :: a2 :: zLA Z x) (TrA (zLP Z s) (zLR Z x) :: [a1, a2]) :=
  (Ent.perm ((List.perm_append_comm (l₁ := [a1, a2]) (l₂ := zLA Z x)).cons _)).trans (zL_fold Z s x [a1, a2])
theorem zR_fold3 (Z : List ZF) (s : Tree) (x : Option Addr) (a1 a2 a3 : Asn) : Ent (TrA s x :: a1 :: a2 :: a3 :: zRA Z x) (TrA (zRP Z s) (zRR Z x) :: [a1, a2, a3]) :=
  (Ent.perm ((List.perm_append_comm (l₁ := [a1, a2, a3]) (l₂ := zRA Z x)).cons _)).trans (zR_fold Z s x [a1, a2, a3])
theorem Tree.LB.set {N : Int} (hN : 1 ≤ N) {k : ByteArray} {v : VX} : ∀ {t : Tree}, t.LB N → (t.set k v).LB (N + t.size)
  | .nil, _ => ⟨by simp only [Tree.size]; omega, trivial, trivial⟩
  | .node l k' v' lv r, h => by
    have hl := LB.set hN (k := k) (v := v) h.2.1; have hr := LB.set hN (k := k) (v := v) h.2.2
    simp only [Tree.set, Tree.size]
    split
    · have h1 : (Tree.node (l.set k v) k' v' lv r).LB (N + l.size) := ⟨by have := h.1; omega, hl, h.2.2.mono (by omega)⟩
      exact h1.skew.split.mono (by omega)
    · split
      · have h1 : (Tree.node l k' v' lv (r.set k v)).LB (N + r.size) := ⟨by have := h.1; omega, h.2.1.mono (by omega), hr⟩
        exact h1.skew.split.mono (by omega)
      · exact ⟨by have := h.1; omega, h.2.1.mono (by omega), h.2.2.mono (by omega)⟩
theorem Tree.LB.del {N : Int} : ∀ {t : Tree} {k : ByteArray}, t.LB N → (t.del k).LB (N + 2 * t.size)
  | .nil, _, _ => trivial
  | .node l k' v' lv r, k, h => by
    have hl : ∀ {q : ByteArray}, (l.del q).LB (N + 2 * l.size) := LB.del h.2.1
    have hr : ∀ {q : ByteArray}, (r.del q).LB (N + 2 * r.size) := LB.del h.2.2
    have h1 := h.1
    have kl : ∀ {q q2 : ByteArray} {x : VX}, (Tree.node (l.del q) q2 x lv r).lower.LB (N + 2 * (l.size + r.size + 1 : Nat)) := fun {q q2 x} => by
      have h1 : (Tree.node (l.del q) q2 x lv r).LB (N + 2 * l.size) := ⟨by omega, hl, h.2.2.mono (by omega)⟩
      exact h1.lower.mono (by omega)
    have kr : ∀ {q q2 : ByteArray} {x : VX}, (Tree.node l q2 x lv (r.del q)).lower.LB (N + 2 * (l.size + r.size + 1 : Nat)) := fun {q q2 x} => by
      have h1 : (Tree.node l q2 x lv (r.del q)).LB (N + 2 * r.size) := ⟨by omega, h.2.1.mono (by omega), hr⟩
      exact h1.lower.mono (by omega)
    simp only [Tree.del, Tree.size]
    split
    · exact kl
    · split
      · exact kr
      · cases l with
        | nil =>
          cases r with
          | nil => trivial
          | node => exact kr
        | node => exact kl
theorem Tree.gone_le : ∀ (t : Tree) (k : ByteArray), t.gone k ≤ 1
  | .nil, _ => Nat.zero_le _
  | .node l k' v' lv r, k => by
    have hl := gone_le l; have hr := gone_le r
    simp only [Tree.gone]
    split
    · exact hl k
    · split
      · exact hr k
      · cases l with
        | nil =>
          cases r with
          | nil => exact Nat.le_refl _
          | node => exact hr _
        | node => exact hl _

section specs
variable (B : Base)
theorem set_spec : ∀ (t : Tree) (a : Option Addr) (k : ByteArray) (v : VX) (N n : Int) (x : Value) (p : Nat), 1 ≤ N → N + t.size ≤ 4611686018427387800 → t.LB N → 0 ≤ n ∧ n ≤ 4611686018427387904 →
    Fspec Try.prog B 71 #[.pointer (some ⟨p, 0, none⟩), .pointer a, .string k, .agg #[.int .i64 v.a, .int .i64 v.b, .bool v.c, .string v.d]] [cb p [x, .int .i64 n] 131, TrA t a]
      (fun w A' => ∃ a', w = .pointer a' ∧ A' = [cb p [x, .int .i64 (n + (if t.news k then 1 else 0))] 131, TrA (t.set k v) a'])
  | .nil, a, k, v, N, n, x, p, hN, hs, ht, hn => by
    refine spec_of (args := [_, _, _, _]) Try.func71 rfl rfl rfl ?_
    refine Wc_take (y := TrA .nil a) (k := (Wc_trNil (fun e => ?_)))
    subst e
    repeat' (first
      | refine Wc_seq ?_
      | refine thenQ_normal ?_
      | refine Wc_cond_t (h := ?_)
      | refine Wc_cond_f (h := ?_)
      | refine Wc_ret ?_
      | refine thenQ_ret ?_
      | refine Wc_block ?_
      | refine blkQ_normal ?_
      | refine blkQ_ret ?_
      | refine Wc_exit ?_
      | refine thenQ_exit ?_
      | refine blkQ_hit ?_
      | refine blkQ_miss rfl ?_
      | refine Wc_skip ?_
      | refine Wc_label ?_
      | refine loopQ_exit ?_
      | refine loopQ_ret ?_
      | refine loopQ_normal ?_
      | (refine Wc_region (id := 0) ?_; intro K hK; ((refine Wl_boxAgg (k := ?_); intro r7)) <;> (refine Wl_assign (k := ?_); (refine Wl_nil (hK _ _ ?_); clear hK K)))
      | (refine Wc_region (id := 1) ?_; intro K hK; refine Wl_move (k := ?_); refine Wl_ptr_eq_nil (k' := ?_); (refine Wl_nil (hK _ _ ?_); clear hK K))
      | (refine Wc_region (id := 2) ?_; intro K hK; refine Wl_move (k := ?_); refine Wl_nilCheck (k := ?_); refine Wl_fieldAddr (k := ?_); refine Wl_load (k := ?_); refine Wl_add (k' := ?_); refine Wl_nilCheck (k := ?_); refine Wl_fieldAddr (k := ?_); refine Wl_store (ho := rfl) (k := ?_); (refine Wl_nil (hK _ _ ?_); clear hK K))
      | (refine Wc_region (id := 3) ?_; intro K hK; refine Wl_move (k := ?_); refine Wl_loadR (k := ?_); refine Wl_build (k := ?_); (refine Wl_boxAgg (k := ?_); intro r); refine Wl_assign (k := ?_); (refine Wl_nil (hK _ _ ?_); clear hK K))
      | (refine Wc_cond (ht := (fun ht => ?_)) (hf := (fun ht => ?_)) <;> (try simp at ht) <;> (try (exfalso; omega))))
    refine ⟨Or.inr rfl, _, [cb p _ _, TrA (.node .nil k v 1 .nil) (some ⟨r, 0, none⟩)], ?_, res1 rfl rfl, _, rfl, rfl⟩
    refine tr_nil.trans (tr_nil.trans (Ent_foldTr (b := r) (by (repeat (first | exact Out.head | apply Out.tail)); (first | done | fail)) (by (repeat (first | exact Out.head | apply Out.tail)); (first | done | fail)) (by (repeat (first | exact Out.head | apply Out.tail)); (first | done | fail)) ?_))
    (repeat (first | exact Ent.refl _ | exact Ent.nil | refine Ent.take (by (repeat (first | exact Out.head | apply Out.tail)); (first | done | fail)) ?_ | refine Ent.drop1 ?_))
  | .node l k' v' lv r, a, k, v, N, n, x, p, hN, hs, ht, hn => by
    have hs' : N + ((l.size + r.size + 1 : Nat) : Int) ≤ 4611686018427387800 := hs
    have ihl := set_spec l; have ihr := set_spec r
    have h1 := ht.1
    refine spec_of (args := [_, _, _, _]) Try.func71 rfl rfl rfl ?_
    refine Wc_take (y := TrA (.node l k' v' lv r) a) (k := (Wc_trNode (fun b la ra e => ?_)))
    subst e
    cases hlt : klt k k' with
    | true =>
      have hlt' : Op.bytesLess k.toList k'.toList = true := hlt
      have e1 : (Tree.node l k' v' lv r).set k v = (Tree.node (l.set k v) k' v' lv r).skew.split := by simp [Tree.set, hlt]
      have e2 : (Tree.node l k' v' lv r).news k = l.news k := by simp [Tree.news, hlt]
      have hl := Tree.LB.set hN (k := k) (v := v) ht.2.1
      have hb : (Tree.node (l.set k v) k' v' lv r).LB (N + l.size) := ⟨by omega, hl, ht.2.2.mono (by omega)⟩
      rw [e1, e2]
      repeat' (first
        | refine Wc_seq ?_
        | refine thenQ_normal ?_
        | refine Wc_cond_t (h := ?_)
        | refine Wc_cond_f (h := ?_)
        | refine Wc_ret ?_
        | refine thenQ_ret ?_
        | refine Wc_block ?_
        | refine blkQ_normal ?_
        | refine blkQ_ret ?_
        | refine Wc_exit ?_
        | refine thenQ_exit ?_
        | refine blkQ_hit ?_
        | refine blkQ_miss rfl ?_
        | refine Wc_skip ?_
        | refine Wc_label ?_
        | refine loopQ_exit ?_
        | refine loopQ_ret ?_
        | refine loopQ_normal ?_
        | (refine Wc_region (id := 0) ?_; intro K hK; ((refine Wl_boxAgg (k := ?_); intro r7)) <;> (refine Wl_assign (k := ?_); (refine Wl_nil (hK _ _ ?_); clear hK K)))
        | (refine Wc_region (id := 1) ?_; intro K hK; refine Wl_move (k := ?_); refine Wl_ptr_eq_nil (k' := ?_); (refine Wl_nil (hK _ _ ?_); clear hK K))
        | (refine Wc_region (id := 6) ?_; intro K hK; refine Wl_move (k := ?_); refine Wl_move (k := ?_); refine Wl_nilCheck (k := ?_); refine Wl_fieldAddr (k := ?_); refine Wl_load (k := ?_); ((refine Wl_str_lss (k' := ?_); rw [hlt'])) <;> (refine Wl_assign (k := ?_); (refine Wl_nil (hK _ _ ?_); clear hK K)))
        | (refine Wc_draw (id := 7) (h := ?_); intro K hK; refine Wl_move (k := ?_); refine Wl_move (k := ?_); refine Wl_move (k := ?_); refine Wl_nilCheck (k := ?_); refine Wl_fieldAddr (k := ?_); refine Wl_load (k := ?_); refine Wl_move (k := ?_); refine Wl_loadR (k := ?_); ((refine Wl_call (hs := (ihl la k v N n x p hN (by omega) ht.2.1 hn)) (k := ?_); rintro w A' ⟨a1, rfl, rfl⟩; simp only [List.cons_append, List.nil_append])) <;> (refine Wl_nilCheck (k := ?_); refine Wl_fieldAddr (k := ?_); refine Wl_store (ho := rfl) (k := ?_); (refine Wl_nil (hK _ _ ?_); clear hK K)))
        | (refine Wc_region (id := 10) ?_; intro K hK; refine Wl_move (k := ?_); ((refine Wl_foldTr (b := b) (by (repeat (first | exact Out.head | apply Out.tail)); (first | done | fail)) (by (repeat (first | exact Out.head | apply Out.tail)); (first | done | fail)) (by (repeat (first | exact Out.head | apply Out.tail)); (first | done | fail)) ?_; refine Wl_call (hs := (skew_spec B (.node (l.set k v) k' v' lv r) (some ⟨b, 0, none⟩))) (k := ?_); rintro w A' ⟨a2, rfl, rfl⟩; simp only [List.cons_append, List.nil_append])) <;> (((refine Wl_call (hs := (split_spec B _ a2 (N + l.size) (by omega) hb.skew)) (k := ?_); rintro w A' ⟨a3, rfl, rfl⟩; simp only [List.cons_append, List.nil_append])) <;> (refine Wl_assign (k := ?_); (refine Wl_nil (hK _ _ ?_); clear hK K))))
        | (refine Wc_cond (ht := (fun ht => ?_)) (hf := (fun ht => ?_)) <;> (try simp at ht) <;> (try (exfalso; omega))))
      exact ⟨Or.inr rfl, _, [cb p _ _, TrA _ a3], (by (repeat (first | exact Ent.refl _ | exact Ent.nil | refine Ent.take (by (repeat (first | exact Out.head | apply Out.tail)); (first | done | fail)) ?_ | refine Ent.drop1 ?_))), res1 rfl rfl, _, rfl, rfl⟩
    | false =>
      have hlt' : Op.bytesLess k.toList k'.toList = false := hlt
      cases hgt : kgt k k' with
      | true =>
        have hgt' : (!(Op.bytesLess k.toList k'.toList || k.toList == k'.toList)) = true := hgt
        have e1 : (Tree.node l k' v' lv r).set k v = (Tree.node l k' v' lv (r.set k v)).skew.split := by simp [Tree.set, hlt, hgt]
        have e2 : (Tree.node l k' v' lv r).news k = r.news k := by simp [Tree.news, hlt, hgt]
        have hr := Tree.LB.set hN (k := k) (v := v) ht.2.2
        have hb : (Tree.node l k' v' lv (r.set k v)).LB (N + r.size) := ⟨by omega, ht.2.1.mono (by omega), hr⟩
        rw [e1, e2]
        repeat' (first
          | refine Wc_seq ?_
          | refine thenQ_normal ?_
          | refine Wc_cond_t (h := ?_)
          | refine Wc_cond_f (h := ?_)
          | refine Wc_ret ?_
          | refine thenQ_ret ?_
          | refine Wc_block ?_
          | refine blkQ_normal ?_
          | refine blkQ_ret ?_
          | refine Wc_exit ?_
          | refine thenQ_exit ?_
          | refine blkQ_hit ?_
          | refine blkQ_miss rfl ?_
          | refine Wc_skip ?_
          | refine Wc_label ?_
          | refine loopQ_exit ?_
          | refine loopQ_ret ?_
          | refine loopQ_normal ?_
          | (refine Wc_region (id := 0) ?_; intro K hK; ((refine Wl_boxAgg (k := ?_); intro r7)) <;> (refine Wl_assign (k := ?_); (refine Wl_nil (hK _ _ ?_); clear hK K)))
          | (refine Wc_region (id := 1) ?_; intro K hK; refine Wl_move (k := ?_); refine Wl_ptr_eq_nil (k' := ?_); (refine Wl_nil (hK _ _ ?_); clear hK K))
          | (refine Wc_region (id := 6) ?_; intro K hK; refine Wl_move (k := ?_); refine Wl_move (k := ?_); refine Wl_nilCheck (k := ?_); refine Wl_fieldAddr (k := ?_); refine Wl_load (k := ?_); ((refine Wl_str_lss (k' := ?_); rw [hlt'])) <;> (refine Wl_assign (k := ?_); (refine Wl_nil (hK _ _ ?_); clear hK K)))
          | (refine Wc_region (id := 8) ?_; intro K hK; refine Wl_move (k := ?_); refine Wl_move (k := ?_); refine Wl_nilCheck (k := ?_); refine Wl_fieldAddr (k := ?_); refine Wl_load (k := ?_); ((refine Wl_str_gtr (k' := ?_); rw [hgt'])) <;> (refine Wl_assign (k := ?_); (refine Wl_nil (hK _ _ ?_); clear hK K)))
          | (refine Wc_draw (id := 9) (h := ?_); intro K hK; refine Wl_move (k := ?_); refine Wl_move (k := ?_); refine Wl_move (k := ?_); refine Wl_nilCheck (k := ?_); refine Wl_fieldAddr (k := ?_); refine Wl_load (k := ?_); refine Wl_move (k := ?_); refine Wl_loadR (k := ?_); ((refine Wl_call (hs := (ihr ra k v N n x p hN (by omega) ht.2.2 hn)) (k := ?_); rintro w A' ⟨a1, rfl, rfl⟩; simp only [List.cons_append, List.nil_append])) <;> (refine Wl_nilCheck (k := ?_); refine Wl_fieldAddr (k := ?_); refine Wl_store (ho := rfl) (k := ?_); (refine Wl_nil (hK _ _ ?_); clear hK K)))
          | (refine Wc_region (id := 10) ?_; intro K hK; refine Wl_move (k := ?_); ((refine Wl_foldTr (b := b) (by (repeat (first | exact Out.head | apply Out.tail)); (first | done | fail)) (by (repeat (first | exact Out.head | apply Out.tail)); (first | done | fail)) (by (repeat (first | exact Out.head | apply Out.tail)); (first | done | fail)) ?_; refine Wl_call (hs := (skew_spec B (.node l k' v' lv (r.set k v)) (some ⟨b, 0, none⟩))) (k := ?_); rintro w A' ⟨a2, rfl, rfl⟩; simp only [List.cons_append, List.nil_append])) <;> (((refine Wl_call (hs := (split_spec B _ a2 (N + r.size) (by omega) hb.skew)) (k := ?_); rintro w A' ⟨a3, rfl, rfl⟩; simp only [List.cons_append, List.nil_append])) <;> (refine Wl_assign (k := ?_); (refine Wl_nil (hK _ _ ?_); clear hK K))))
          | (refine Wc_cond (ht := (fun ht => ?_)) (hf := (fun ht => ?_)) <;> (try simp at ht) <;> (try (exfalso; omega))))
        exact ⟨Or.inr rfl, _, [cb p _ _, TrA _ a3], (by (repeat (first | exact Ent.refl _ | exact Ent.nil | refine Ent.take (by (repeat (first | exact Out.head | apply Out.tail)); (first | done | fail)) ?_ | refine Ent.drop1 ?_))), res1 rfl rfl, _, rfl, rfl⟩
      | false =>
        have hgt' : (!(Op.bytesLess k.toList k'.toList || k.toList == k'.toList)) = false := hgt
        have e1 : (Tree.node l k' v' lv r).set k v = .node l k' v lv r := by simp [Tree.set, hlt, hgt]
        have e2 : (Tree.node l k' v' lv r).news k = false := by simp [Tree.news, hlt, hgt]
        rw [e1, e2]
        repeat' (first
          | refine Wc_seq ?_
          | refine thenQ_normal ?_
          | refine Wc_cond_t (h := ?_)
          | refine Wc_cond_f (h := ?_)
          | refine Wc_ret ?_
          | refine thenQ_ret ?_
          | refine Wc_block ?_
          | refine blkQ_normal ?_
          | refine blkQ_ret ?_
          | refine Wc_exit ?_
          | refine thenQ_exit ?_
          | refine blkQ_hit ?_
          | refine blkQ_miss rfl ?_
          | refine Wc_skip ?_
          | refine Wc_label ?_
          | refine loopQ_exit ?_
          | refine loopQ_ret ?_
          | refine loopQ_normal ?_
          | (refine Wc_region (id := 0) ?_; intro K hK; ((refine Wl_boxAgg (k := ?_); intro r7)) <;> (refine Wl_assign (k := ?_); (refine Wl_nil (hK _ _ ?_); clear hK K)))
          | (refine Wc_region (id := 1) ?_; intro K hK; refine Wl_move (k := ?_); refine Wl_ptr_eq_nil (k' := ?_); (refine Wl_nil (hK _ _ ?_); clear hK K))
          | (refine Wc_region (id := 4) ?_; intro K hK; refine Wl_move (k := ?_); refine Wl_loadR (k := ?_); refine Wl_nilCheck (k := ?_); refine Wl_fieldAddr (k := ?_); refine Wl_storeR (ho' := rfl) (k := ?_); (refine Wl_nil (hK _ _ ?_); clear hK K))
          | (refine Wc_region (id := 5) ?_; intro K hK; refine Wl_move (k := ?_); refine Wl_assign (k := ?_); (refine Wl_nil (hK _ _ ?_); clear hK K))
          | (refine Wc_region (id := 6) ?_; intro K hK; refine Wl_move (k := ?_); refine Wl_move (k := ?_); refine Wl_nilCheck (k := ?_); refine Wl_fieldAddr (k := ?_); refine Wl_load (k := ?_); ((refine Wl_str_lss (k' := ?_); rw [hlt'])) <;> (refine Wl_assign (k := ?_); (refine Wl_nil (hK _ _ ?_); clear hK K)))
          | (refine Wc_region (id := 8) ?_; intro K hK; refine Wl_move (k := ?_); refine Wl_move (k := ?_); refine Wl_nilCheck (k := ?_); refine Wl_fieldAddr (k := ?_); refine Wl_load (k := ?_); ((refine Wl_str_gtr (k' := ?_); rw [hgt'])) <;> (refine Wl_assign (k := ?_); (refine Wl_nil (hK _ _ ?_); clear hK K)))
          | (refine Wc_cond (ht := (fun ht => ?_)) (hf := (fun ht => ?_)) <;> (try simp at ht) <;> (try (exfalso; omega))))
        refine ⟨Or.inr rfl, _, [cb p [x, .int .i64 n] 131, TrA (.node l k' v lv r) (some ⟨b, 0, none⟩)], ?_, res1 rfl rfl, _, rfl, by simp⟩
        refine Ent_foldTr (b := b) (by (repeat (first | exact Out.head | apply Out.tail)); (first | done | fail)) (by (repeat (first | exact Out.head | apply Out.tail)); (first | done | fail)) (by (repeat (first | exact Out.head | apply Out.tail)); (first | done | fail)) ?_
        (repeat (first | exact Ent.refl _ | exact Ent.nil | refine Ent.take (by (repeat (first | exact Out.head | apply Out.tail)); (first | done | fail)) ?_ | refine Ent.drop1 ?_))
end specs
end Go.Proofs.Ytnoggejkkjngjaa
