/- Package sorted: asking (From, Get). Conditions: none. -/
import Derived.Test.YtnoggejkkjngjaaGreatK8
set_option maxHeartbeats 8000000
set_option linter.unusedVariables false
set_option linter.unusedSimpArgs false
set_option maxRecDepth 100000
namespace Go.Proofs.YtnoggejkkjngjaaGreat
open Go Go.Sl
attribute [local irreducible] Go.Sl.Wl Go.Sl.Wc Go.Sl.thenQ Go.Sl.blkQ Go.Sl.loopQ Go.Sl.Fspec

structure ZG where
  d : Bool
  b : Nat
  k : ByteArray
  v : VX
  lv : Int
  o : Option Addr
  t : Tree
def ZG.c (z : ZG) (x : Option Addr) : List Value := .string z.k :: .int .i64 z.v.a :: .int .i64 z.v.b :: .bool z.v.c :: .string z.v.d :: .int .i64 z.lv :: (if z.d = true then [.pointer x, .pointer z.o] else [.pointer z.o, .pointer x])
/-- The way down a tree. -/
def zGA : List ZG → Option Addr → List Asn
  | [], _ => []
  | z :: Z, x => cb z.b (z.c x) 173 :: TrA z.t z.o :: zGA Z (some ⟨z.b, 0, none⟩)
def zGP : List ZG → Tree → Tree
  | [], s => s
  | z :: Z, s => zGP Z (if z.d = true then .node s z.k z.v z.lv z.t else .node z.t z.k z.v z.lv s)
def zGR : List ZG → Option Addr → Option Addr
  | [], x => x
  | z :: Z, _ => zGR Z (some ⟨z.b, 0, none⟩)
theorem zG_fold : ∀ (Z : List ZG) (s : Tree) (x : Option Addr) (A : List Asn), Ent (TrA s x :: (zGA Z x ++ A)) (TrA (zGP Z s) (zGR Z x) :: A)
  | [], _, _, _ => Ent.refl _
  | z :: Z, s, x, A => by
    obtain ⟨d, b, k, v, lv, o, t⟩ := z
    refine Ent.trans ?_ (zG_fold Z _ (some ⟨b, 0, none⟩) A)
    cases d with
    | true =>
      refine Ent.trans ?_ (tr_fold (b := b) (la := x) (ra := o))
      exact Ent.perm (List.Perm.swap ..)
    | false =>
      refine Ent.trans ?_ (tr_fold (b := b) (la := o) (ra := x))
      exact Ent.perm ((List.Perm.swap ..).trans ((List.Perm.swap ..).cons _))
theorem zG_fold1 (Z : List ZG) (s : Tree) (x : Option Addr) (a1 : Asn) : Ent (TrA s x :: a1 :: zGA Z x) (TrA (zGP Z s) (zGR Z x) :: [a1]) :=
  (Ent.perm ((List.perm_append_comm (l₁ := [a1]) (l₂ := zGA Z x)).cons _)).trans (zG_fold Z s x [a1])
def zBest : List ZG → Option (Nat × ByteArray × VX)
  | [] => none
  | z :: Z => if z.d = true then some (z.b, z.k, z.v) else zBest Z
theorem zBest_rd {B : Base} {b : Nat} {k : ByteArray} {v : VX} : ∀ (Z : List ZG) (x : Option Addr), zBest Z = some (b, k, v) → ∃ l, l[0]? = some (Value.string k) ∧ (1 + 4 ≤ l.length ∧ (l.drop 1).take 4 = v.C) ∧ Rd B b l 173 (0, 0) (zGA Z x)
  | [], _, h => by cases h
  | z :: Z, x, h => by
    unfold zBest at h
    split at h
    · simp only [Option.some.injEq, Prod.mk.injEq] at h
      obtain ⟨rfl, rfl, rfl⟩ := h
      refine ⟨z.c x, rfl, ⟨?_, rfl⟩, Rd.head⟩
      unfold ZG.c; split <;> simp
    · obtain ⟨l, h1, h2, h3⟩ := zBest_rd Z (some ⟨z.b, 0, none⟩) h
      exact ⟨l, h1, h2, h3.tail.tail⟩
def Tree.from : Tree → ByteArray → Option (ByteArray × VX) → Option (ByteArray × VX)
  | .nil, _, q => q
  | .node l k' v' _ r, k, q => if klt k' k = true then r.from k q else l.from k (some (k', v'))
def bestKV (q : Option (Nat × ByteArray × VX)) : Option (ByteArray × VX) := q.map fun x => (x.2.1, x.2.2)
def fromV : Option (ByteArray × VX) → Value
  | none => .tuple #[.string ByteArray.empty, .agg VX.zero.C.toArray, .bool false]
  | some (k, v) => .tuple #[.string k, .agg v.C.toArray, .bool true]
def getV (k : ByteArray) : Option (ByteArray × VX) → Value
  | none => .tuple #[.agg VX.zero.C.toArray, .bool false]
  | some (k', v) => if k'.toList = k.toList then .tuple #[.agg v.C.toArray, .bool true] else .tuple #[.agg VX.zero.C.toArray, .bool false]
section specs
variable (B : Base)
theorem from_spec (p : Nat) (t : Tree) (k : ByteArray) :
    Fspec Tryz.prog B 101 #[.pointer (some ⟨p, 0, none⟩), .string k] [MpA p t] (fun w A' => w = fromV (t.from k none) ∧ A' = [MpA p t]) := by
  refine spec_of (args := [_, _]) Tryz.func101 rfl rfl rfl ?_
  refine yE (fun a => ?_)
  simp only [MpX]
  simp only [List.cons_append, List.nil_append]
  repeat' (first
    | refine zi ?_
    | refine zK ?_
    | refine zQ (h := ?_)
    | refine zU (h := ?_)
    | refine zj ?_
    | refine zR ?_
    | refine zW ?_
    | refine zN ?_
    | refine zV ?_
    | refine ze ?_
    | refine zP ?_
    | refine zY ?_
    | refine zS rfl ?_
    | refine zd ?_
    | refine zX ?_
    | refine zO ?_
    | refine zT ?_
    | refine zL ?_
    | (refine zC (id := 0) ?_; intro K hK; refine zH (k := ?_); ((refine zw (k := ?_); intro r5)) <;> (refine zH (k := ?_); (refine zD (hK _ _ ?_); clear hK K)))
    | (refine zC (id := 1) ?_; intro K hK; refine zH (k := ?_); (refine zD (hK _ _ ?_); clear hK K))
    | (refine zC (id := 2) ?_; intro K hK; refine zF (k := ?_); refine yG (k' := ?_); (refine zD (hK _ _ ?_); clear hK K))
    | (refine zC (id := 3) ?_; intro K hK; refine zF (k := ?_); refine zJ (k := ?_); refine zB (k := ?_); refine zM (k := ?_); refine zH (k := ?_); (refine zD (hK _ _ ?_); clear hK K))
    | (refine zc (ht := (fun ht => ?_)) (hf := (fun ht => ?_)) <;> (try simp at ht) <;> (try (exfalso; omega))))
  refine yI (α := List ZG × Tree × Option Addr) (fun y => [(0, .pointer (some ⟨p, 0, none⟩)), (1, .string k), (5, .pointer (some ⟨r5, 0, none⟩)), (7, .pointer ((zBest y.1).map fun q => ⟨q.1, 0, none⟩)), (8, .pointer y.2.2)])
    (fun y => cb r5 VX.zero.C 55 :: cb p [.pointer a, .int .i64 t.size] 154 :: TrA y.2.1 y.2.2 :: zGA y.1 y.2.2)
    (fun y => zGP y.1 y.2.1 = t ∧ zGR y.1 y.2.2 = a ∧ y.2.1.from k (bestKV (zBest y.1)) = t.from k none) (fun y => y.2.1.size) ([], t, a) ⟨rfl, rfl, rfl⟩ ⟨rfl, rfl, rfl, rfl, rfl, trivial⟩ (by (repeat (first | exact Ent.refl _ | exact Ent.nil | refine Ent.take (by (repeat (first | exact Out.head | apply Out.tail)); (first | done | fail)) ?_ | refine Ent.drop1 ?_))) ?_
  rintro ⟨Z, s, y⟩ G ⟨hz, hzr, hb⟩
  simp only at hz hzr hb
  simp only [ov]
  cases s with
  | nil =>
    refine yJ (y := TrA .nil y) (k := (yS (fun e => ?_)))
    subst e
    have hend : ∀ (X : Asn), Ent (X :: cb p [.pointer a, .int .i64 t.size] 154 :: zGA Z none) [MpA p t] := by
      intro X
      refine Ent.trans (Ent.drop X) ?_
      refine Ent.trans (tr_nil.trans (zG_fold1 Z .nil none _)) ?_
      rw [hz, hzr]
      refine mp_fold (A0 := []) a ?_
      simp only [MpX]
      simp only [List.cons_append, List.nil_append]
      (repeat (first | exact Ent.refl _ | exact Ent.nil | refine Ent.take (by (repeat (first | exact Out.head | apply Out.tail)); (first | done | fail)) ?_ | refine Ent.drop1 ?_))
    cases hq : zBest Z with
    | none =>
      have hr : t.from k none = none := by rw [← hb, hq]; rfl
      rw [hr]
      repeat' (first
        | refine zi ?_
        | refine zK ?_
        | refine zQ (h := ?_)
        | refine zU (h := ?_)
        | refine zj ?_
        | refine zR ?_
        | refine zW ?_
        | refine zN ?_
        | refine zV ?_
        | refine ze ?_
        | refine zP ?_
        | refine zY ?_
        | refine zS rfl ?_
        | refine zd ?_
        | refine zX ?_
        | refine zO ?_
        | refine zT ?_
        | refine zL ?_
        | (refine zC (id := 4) ?_; intro K hK; refine zF (k := ?_); refine yG (k' := ?_); (refine zD (hK _ _ ?_); clear hK K))
        | (refine zC (id := 8) ?_; intro K hK; refine zF (k := ?_); refine zf (k' := ?_); (refine zD (hK _ _ ?_); clear hK K))
        | (refine zC (id := 9) ?_; intro K hK; ((refine zw (k := ?_); intro r9)) <;> ((refine zD (hK _ _ ?_); clear hK K)))
        | (refine z3 (id := 10) (h := ?_); intro K hK; refine zo (k := ?_); refine zH (k := ?_); refine zh (ho' := rfl) (k := ?_); refine zH (k := ?_); (refine zD (hK _ _ ?_); clear hK K))
        | (refine zc (ht := (fun ht => ?_)) (hf := (fun ht => ?_)) <;> (try simp at ht) <;> (try (exfalso; omega))))
      exact ⟨Or.inr rfl, _, [MpA p t], (by first | exact hend _ | exact Ent.trans (Ent.drop _) (hend _)), resG rfl (by (repeat (first | exact ResL.nil | apply ResL.tmp (by (repeat (first | exact Ev.here | exact Ev.const | exact Ev.arg rfl | apply Ev.there rfl | exact Ev.none rfl | exact Ev.func | exact Ev.var)); (first | done | fail)) | apply ResL.agg (by (repeat (first | exact Ev.here | exact Ev.const | exact Ev.arg rfl | apply Ev.there rfl | exact Ev.none rfl | exact Ev.func | exact Ev.var)); (first | done | fail)) (by (repeat (first | exact Rd.head | exact Rd.base (by assumption) | apply Rd.tail)); (first | done | fail)) (by (repeat (first | exact TakeR.nil | apply TakeR.take | apply TakeR.skip)); (first | done | fail)) | apply ResL.cell (by (repeat (first | exact Ev.here | exact Ev.const | exact Ev.arg rfl | apply Ev.there rfl | exact Ev.none rfl | exact Ev.func | exact Ev.var)); (first | done | fail)) (by (repeat (first | exact Rd.head | exact Rd.base (by assumption) | apply Rd.tail)); (first | done | fail)) rfl)); (first | done | fail)) rfl, rfl, rfl⟩
    | some q =>
      obtain ⟨qb, qk, qv⟩ := q
      have hr : t.from k none = some (qk, qv) := by rw [← hb, hq]; rfl
      obtain ⟨cl, c0, c1, hrd⟩ := zBest_rd (B := B) Z none hq
      rw [hr]
      repeat' (first
        | refine zi ?_
        | refine zK ?_
        | refine zQ (h := ?_)
        | refine zU (h := ?_)
        | refine zj ?_
        | refine zR ?_
        | refine zW ?_
        | refine zN ?_
        | refine zV ?_
        | refine ze ?_
        | refine zP ?_
        | refine zY ?_
        | refine zS rfl ?_
        | refine zd ?_
        | refine zX ?_
        | refine zO ?_
        | refine zT ?_
        | refine zL ?_
        | (refine zC (id := 4) ?_; intro K hK; refine zF (k := ?_); refine yG (k' := ?_); (refine zD (hK _ _ ?_); clear hK K))
        | (refine zC (id := 8) ?_; intro K hK; refine zF (k := ?_); refine zf (k' := ?_); (refine zD (hK _ _ ?_); clear hK K))
        | (refine z3 (id := 11) (h := ?_); intro K hK; refine zF (k := ?_); refine zJ (k := ?_); refine zB (k := ?_); ((refine zM (v := .string qk) (hr := (hrd.tail.tail)) (hv := c0) (k := ?_))) <;> (refine zF (k := ?_); refine zJ (k := ?_); refine zB (k := ?_); ((refine z5 (cs := qv.C) (hr := hrd.tail.tail) (hv := c1.1) (hc := c1.2) (k := ?_))) <;> (refine zH (k := ?_); refine zh (ho' := rfl) (k := ?_); refine zH (k := ?_); (refine zD (hK _ _ ?_); clear hK K))))
        | (refine zc (ht := (fun ht => ?_)) (hf := (fun ht => ?_)) <;> (try simp at ht) <;> (try (exfalso; omega))))
      exact ⟨Or.inr rfl, _, [MpA p t], (by first | exact hend _ | exact Ent.trans (Ent.drop _) (hend _)), resG rfl (by (repeat (first | exact ResL.nil | apply ResL.tmp (by (repeat (first | exact Ev.here | exact Ev.const | exact Ev.arg rfl | apply Ev.there rfl | exact Ev.none rfl | exact Ev.func | exact Ev.var)); (first | done | fail)) | apply ResL.agg (by (repeat (first | exact Ev.here | exact Ev.const | exact Ev.arg rfl | apply Ev.there rfl | exact Ev.none rfl | exact Ev.func | exact Ev.var)); (first | done | fail)) (by (repeat (first | exact Rd.head | exact Rd.base (by assumption) | apply Rd.tail)); (first | done | fail)) (by (repeat (first | exact TakeR.nil | apply TakeR.take | apply TakeR.skip)); (first | done | fail)) | apply ResL.cell (by (repeat (first | exact Ev.here | exact Ev.const | exact Ev.arg rfl | apply Ev.there rfl | exact Ev.none rfl | exact Ev.func | exact Ev.var)); (first | done | fail)) (by (repeat (first | exact Rd.head | exact Rd.base (by assumption) | apply Rd.tail)); (first | done | fail)) rfl)); (first | done | fail)) rfl, rfl, rfl⟩
  | node l k' v' lv r =>
    refine yJ (y := TrA (.node l k' v' lv r) y) (k := (yQ (fun b la ra e => ?_)))
    subst e
    cases hlt : klt k' k with
    | true =>
      have hlt' : Op.bytesLess k'.toList k.toList = true := hlt
      have hb2 : r.from k (bestKV (zBest Z)) = t.from k none := by rw [← hb]; simp [Tree.from, hlt]
      repeat' (first
        | refine zi ?_
        | refine zK ?_
        | refine zQ (h := ?_)
        | refine zU (h := ?_)
        | refine zj ?_
        | refine zR ?_
        | refine zW ?_
        | refine zN ?_
        | refine zV ?_
        | refine ze ?_
        | refine zP ?_
        | refine zY ?_
        | refine zS rfl ?_
        | refine zd ?_
        | refine zX ?_
        | refine zO ?_
        | refine zT ?_
        | refine zL ?_
        | (refine zC (id := 4) ?_; intro K hK; refine zF (k := ?_); refine yG (k' := ?_); (refine zD (hK _ _ ?_); clear hK K))
        | (refine zC (id := 5) ?_; intro K hK; refine zF (k := ?_); refine zJ (k := ?_); refine zB (k := ?_); refine zM (k := ?_); refine zF (k := ?_); ((refine yZ (k' := ?_); rw [hlt'])) <;> ((refine zD (hK _ _ ?_); clear hK K)))
        | (refine zC (id := 6) ?_; intro K hK; refine zF (k := ?_); refine zJ (k := ?_); refine zB (k := ?_); refine zM (k := ?_); refine zH (k := ?_); (refine zD (hK _ _ ?_); clear hK K))
        | (refine z3 (id := 7) (h := ?_); intro K hK; refine zF (k := ?_); refine zF (k := ?_); refine zJ (k := ?_); refine zB (k := ?_); refine zM (k := ?_); refine zH (k := ?_); refine zH (k := ?_); (refine zD (hK _ _ ?_); clear hK K))
        | (refine zc (ht := (fun ht => ?_)) (hf := (fun ht => ?_)) <;> (try simp at ht) <;> (try (exfalso; omega))))
      refine ⟨(⟨false, b, k', v', lv, la, l⟩ :: Z, r, ra), ⟨hz, hzr, hb2⟩, by simp only [Tree.size]; omega, ⟨rfl, rfl, rfl, rfl, rfl, trivial⟩, ?_⟩
      (repeat (first | exact Ent.refl _ | exact Ent.nil | refine Ent.take (by (repeat (first | exact Out.head | apply Out.tail)); (first | done | fail)) ?_ | refine Ent.drop1 ?_))
    | false =>
      have hlt' : Op.bytesLess k'.toList k.toList = false := hlt
      have hb2 : l.from k (some (k', v')) = t.from k none := by rw [← hb]; simp [Tree.from, hlt]
      repeat' (first
        | refine zi ?_
        | refine zK ?_
        | refine zQ (h := ?_)
        | refine zU (h := ?_)
        | refine zj ?_
        | refine zR ?_
        | refine zW ?_
        | refine zN ?_
        | refine zV ?_
        | refine ze ?_
        | refine zP ?_
        | refine zY ?_
        | refine zS rfl ?_
        | refine zd ?_
        | refine zX ?_
        | refine zO ?_
        | refine zT ?_
        | refine zL ?_
        | (refine zC (id := 4) ?_; intro K hK; refine zF (k := ?_); refine yG (k' := ?_); (refine zD (hK _ _ ?_); clear hK K))
        | (refine zC (id := 5) ?_; intro K hK; refine zF (k := ?_); refine zJ (k := ?_); refine zB (k := ?_); refine zM (k := ?_); refine zF (k := ?_); ((refine yZ (k' := ?_); rw [hlt'])) <;> ((refine zD (hK _ _ ?_); clear hK K)))
        | (refine zC (id := 6) ?_; intro K hK; refine zF (k := ?_); refine zJ (k := ?_); refine zB (k := ?_); refine zM (k := ?_); refine zH (k := ?_); (refine zD (hK _ _ ?_); clear hK K))
        | (refine z3 (id := 7) (h := ?_); intro K hK; refine zF (k := ?_); refine zF (k := ?_); refine zJ (k := ?_); refine zB (k := ?_); refine zM (k := ?_); refine zH (k := ?_); refine zH (k := ?_); (refine zD (hK _ _ ?_); clear hK K))
        | (refine zc (ht := (fun ht => ?_)) (hf := (fun ht => ?_)) <;> (try simp at ht) <;> (try (exfalso; omega))))
      refine ⟨(⟨true, b, k', v', lv, ra, r⟩ :: Z, l, la), ⟨hz, hzr, hb2⟩, by simp only [Tree.size]; omega, ⟨rfl, rfl, rfl, rfl, rfl, trivial⟩, ?_⟩
      (repeat (first | exact Ent.refl _ | exact Ent.nil | refine Ent.take (by (repeat (first | exact Out.head | apply Out.tail)); (first | done | fail)) ?_ | refine Ent.drop1 ?_))
theorem get_spec (p : Nat) (t : Tree) (k : ByteArray) :
    Fspec Tryz.prog B 75 #[.pointer (some ⟨p, 0, none⟩), .string k] [MpA p t] (fun w A' => w = getV k (t.from k none) ∧ A' = [MpA p t]) := by
  have hf := from_spec B p t k
  refine spec_of (args := [_, _]) Tryz.func75 rfl rfl rfl ?_
  cases hq : t.from k none with
  | none =>
    rw [hq] at hf
    repeat' (first
      | refine zi ?_
      | refine zK ?_
      | refine zQ (h := ?_)
      | refine zU (h := ?_)
      | refine zj ?_
      | refine zR ?_
      | refine zW ?_
      | refine zN ?_
      | refine zV ?_
      | refine ze ?_
      | refine zP ?_
      | refine zY ?_
      | refine zS rfl ?_
      | refine zd ?_
      | refine zX ?_
      | refine zO ?_
      | refine zT ?_
      | refine zL ?_
      | (refine zC (id := 0) ?_; intro K hK; (refine zw (k := ?_); intro r); refine zH (k := ?_); (refine zD (hK _ _ ?_); clear hK K))
      | (refine zC (id := 1) ?_; intro K hK; refine zF (k := ?_); refine zF (k := ?_); ((refine zb (hs := hf) (k := ?_); rintro w A' ⟨rfl, rfl⟩; simp only [List.cons_append, List.nil_append]; simp only [fromV])) <;> (refine zF (k := ?_); refine zu (k' := ?_); refine zu (k' := ?_); refine zu (k' := ?_); (refine zw (k := ?_); intro r); refine zH (k := ?_); refine zh (ho' := rfl) (k := ?_); refine zH (k := ?_); (refine zD (hK _ _ ?_); clear hK K)))
      | (refine zC (id := 2) ?_; intro K hK; refine zF (k := ?_); refine z7 (k' := ?_); refine zF (k := ?_); ((first | (refine zA (k := ?_); refine zF (k := ?_)) | refine zE (k := ?_) | ((refine zG (yes := (fun ht => ?_)) (no := (fun ht => ?_)) <;> (try simp at ht) <;> (try (exfalso; omega))) <;> (first | (refine zA (k := ?_); refine zF (k := ?_)) | refine zE (k := ?_))))) <;> (((first | (refine zA (k := ?_); refine zF (k := ?_)) | refine zE (k := ?_) | ((refine zG (yes := (fun ht => ?_)) (no := (fun ht => ?_)) <;> (try simp at ht) <;> (try (exfalso; omega))) <;> (first | (refine zA (k := ?_); refine zF (k := ?_)) | refine zE (k := ?_))))) <;> (((first | (refine zA (k := ?_); refine yM (k' := ?_)) | refine zE (k := ?_) | ((refine zG (yes := (fun ht => ?_)) (no := (fun ht => ?_)) <;> (try simp at ht) <;> (try (exfalso; omega))) <;> (first | (refine zA (k := ?_); refine yM (k' := ?_)) | refine zE (k := ?_))))) <;> ((first | refine zZ (k := ?_) | refine za (k := ?_) | refine zg (k := ?_)); (refine zD (hK _ _ ?_); clear hK K)))))
      | (refine zC (id := 3) ?_; intro K hK; (refine zw (k := ?_); intro r); (refine zD (hK _ _ ?_); clear hK K))
      | (refine zC (id := 4) ?_; intro K hK; refine zo (k := ?_); refine zh (ho' := rfl) (k := ?_); refine zH (k := ?_); (refine zD (hK _ _ ?_); clear hK K))
      | (refine zC (id := 5) ?_; intro K hK; refine zo (k := ?_); refine zh (ho' := rfl) (k := ?_); refine zH (k := ?_); (refine zD (hK _ _ ?_); clear hK K))
      | (refine zc (ht := (fun ht => ?_)) (hf := (fun ht => ?_)) <;> (try simp at ht) <;> (try (exfalso; omega))))
    exact ⟨Or.inr rfl, _, [MpA p t], (by (repeat (first | exact Ent.refl _ | exact Ent.nil | refine Ent.take (by (repeat (first | exact Out.head | apply Out.tail)); (first | done | fail)) ?_ | refine Ent.drop1 ?_))), resG rfl (by (repeat (first | exact ResL.nil | apply ResL.tmp (by (repeat (first | exact Ev.here | exact Ev.const | exact Ev.arg rfl | apply Ev.there rfl | exact Ev.none rfl | exact Ev.func | exact Ev.var)); (first | done | fail)) | apply ResL.agg (by (repeat (first | exact Ev.here | exact Ev.const | exact Ev.arg rfl | apply Ev.there rfl | exact Ev.none rfl | exact Ev.func | exact Ev.var)); (first | done | fail)) (by (repeat (first | exact Rd.head | exact Rd.base (by assumption) | apply Rd.tail)); (first | done | fail)) (by (repeat (first | exact TakeR.nil | apply TakeR.take | apply TakeR.skip)); (first | done | fail)) | apply ResL.cell (by (repeat (first | exact Ev.here | exact Ev.const | exact Ev.arg rfl | apply Ev.there rfl | exact Ev.none rfl | exact Ev.func | exact Ev.var)); (first | done | fail)) (by (repeat (first | exact Rd.head | exact Rd.base (by assumption) | apply Rd.tail)); (first | done | fail)) rfl)); (first | done | fail)) rfl, rfl, rfl⟩
  | some q =>
    obtain ⟨qk, qv⟩ := q
    rw [hq] at hf
    repeat' (first
      | refine zi ?_
      | refine zK ?_
      | refine zQ (h := ?_)
      | refine zU (h := ?_)
      | refine zj ?_
      | refine zR ?_
      | refine zW ?_
      | refine zN ?_
      | refine zV ?_
      | refine ze ?_
      | refine zP ?_
      | refine zY ?_
      | refine zS rfl ?_
      | refine zd ?_
      | refine zX ?_
      | refine zO ?_
      | refine zT ?_
      | refine zL ?_
      | (refine zC (id := 0) ?_; intro K hK; (refine zw (k := ?_); intro r); refine zH (k := ?_); (refine zD (hK _ _ ?_); clear hK K))
      | (refine zC (id := 1) ?_; intro K hK; refine zF (k := ?_); refine zF (k := ?_); ((refine zb (hs := hf) (k := ?_); rintro w A' ⟨rfl, rfl⟩; simp only [List.cons_append, List.nil_append]; simp only [fromV])) <;> (refine zF (k := ?_); refine zu (k' := ?_); refine zu (k' := ?_); refine zu (k' := ?_); (refine zw (k := ?_); intro r); refine zH (k := ?_); refine zh (ho' := rfl) (k := ?_); refine zH (k := ?_); (refine zD (hK _ _ ?_); clear hK K)))
      | (refine zC (id := 2) ?_; intro K hK; refine zF (k := ?_); refine z7 (k' := ?_); refine zF (k := ?_); ((first | (refine zA (k := ?_); refine zF (k := ?_)) | refine zE (k := ?_) | ((refine zG (yes := (fun ht => ?_)) (no := (fun ht => ?_)) <;> (try simp at ht) <;> (try (exfalso; omega))) <;> (first | (refine zA (k := ?_); refine zF (k := ?_)) | refine zE (k := ?_))))) <;> (((first | (refine zA (k := ?_); refine zF (k := ?_)) | refine zE (k := ?_) | ((refine zG (yes := (fun ht => ?_)) (no := (fun ht => ?_)) <;> (try simp at ht) <;> (try (exfalso; omega))) <;> (first | (refine zA (k := ?_); refine zF (k := ?_)) | refine zE (k := ?_))))) <;> (((first | (refine zA (k := ?_); refine yM (k' := ?_)) | refine zE (k := ?_) | ((refine zG (yes := (fun ht => ?_)) (no := (fun ht => ?_)) <;> (try simp at ht) <;> (try (exfalso; omega))) <;> (first | (refine zA (k := ?_); refine yM (k' := ?_)) | refine zE (k := ?_))))) <;> ((first | refine zZ (k := ?_) | refine za (k := ?_) | refine zg (k := ?_)); (refine zD (hK _ _ ?_); clear hK K)))))
      | (refine zC (id := 3) ?_; intro K hK; (refine zw (k := ?_); intro r); (refine zD (hK _ _ ?_); clear hK K))
      | (refine zC (id := 4) ?_; intro K hK; refine zo (k := ?_); refine zh (ho' := rfl) (k := ?_); refine zH (k := ?_); (refine zD (hK _ _ ?_); clear hK K))
      | (refine zC (id := 5) ?_; intro K hK; refine zo (k := ?_); refine zh (ho' := rfl) (k := ?_); refine zH (k := ?_); (refine zD (hK _ _ ?_); clear hK K))
      | (refine zc (ht := (fun ht => ?_)) (hf := (fun ht => ?_)) <;> (try simp at ht) <;> (try (exfalso; omega))))
    · refine ⟨Or.inr rfl, _, [MpA p t], (by (repeat (first | exact Ent.refl _ | exact Ent.nil | refine Ent.take (by (repeat (first | exact Out.head | apply Out.tail)); (first | done | fail)) ?_ | refine Ent.drop1 ?_))), resG rfl (by (repeat (first | exact ResL.nil | apply ResL.tmp (by (repeat (first | exact Ev.here | exact Ev.const | exact Ev.arg rfl | apply Ev.there rfl | exact Ev.none rfl | exact Ev.func | exact Ev.var)); (first | done | fail)) | apply ResL.agg (by (repeat (first | exact Ev.here | exact Ev.const | exact Ev.arg rfl | apply Ev.there rfl | exact Ev.none rfl | exact Ev.func | exact Ev.var)); (first | done | fail)) (by (repeat (first | exact Rd.head | exact Rd.base (by assumption) | apply Rd.tail)); (first | done | fail)) (by (repeat (first | exact TakeR.nil | apply TakeR.take | apply TakeR.skip)); (first | done | fail)) | apply ResL.cell (by (repeat (first | exact Ev.here | exact Ev.const | exact Ev.arg rfl | apply Ev.there rfl | exact Ev.none rfl | exact Ev.func | exact Ev.var)); (first | done | fail)) (by (repeat (first | exact Rd.head | exact Rd.base (by assumption) | apply Rd.tail)); (first | done | fail)) rfl)); (first | done | fail)) rfl, ?_, rfl⟩
      simp only [getV]; rw [if_neg (by assumption)]; rfl
    · refine ⟨Or.inr rfl, _, [MpA p t], (by (repeat (first | exact Ent.refl _ | exact Ent.nil | refine Ent.take (by (repeat (first | exact Out.head | apply Out.tail)); (first | done | fail)) ?_ | refine Ent.drop1 ?_))), resG rfl (by (repeat (first | exact ResL.nil | apply ResL.tmp (by (repeat (first | exact Ev.here | exact Ev.const | exact Ev.arg rfl | apply Ev.there rfl | exact Ev.none rfl | exact Ev.func | exact Ev.var)); (first | done | fail)) | apply ResL.agg (by (repeat (first | exact Ev.here | exact Ev.const | exact Ev.arg rfl | apply Ev.there rfl | exact Ev.none rfl | exact Ev.func | exact Ev.var)); (first | done | fail)) (by (repeat (first | exact Rd.head | exact Rd.base (by assumption) | apply Rd.tail)); (first | done | fail)) (by (repeat (first | exact TakeR.nil | apply TakeR.take | apply TakeR.skip)); (first | done | fail)) | apply ResL.cell (by (repeat (first | exact Ev.here | exact Ev.const | exact Ev.arg rfl | apply Ev.there rfl | exact Ev.none rfl | exact Ev.func | exact Ev.var)); (first | done | fail)) (by (repeat (first | exact Rd.head | exact Rd.base (by assumption) | apply Rd.tail)); (first | done | fail)) rfl)); (first | done | fail)) rfl, ?_, rfl⟩
      simp only [getV]; rw [if_pos (by assumption)]; rfl
end specs
end Go.Proofs.YtnoggejkkjngjaaGreat
/- Package sorted: its trees as rising lists. No condition. -/
set_option linter.unusedVariables false
set_option maxRecDepth 100000
namespace Go.Proofs.YtnoggejkkjngjaaGreat
open Go Go.Sl Go.ChangeShapes Go.WideShapes Go.ChangeAt Go.RowKit

def Tree.inorder : Tree → List (ByteArray × VX)
  | .nil => []
  | .node l k v _ r => l.inorder ++ (k, v) :: r.inorder
theorem bl_irrefl : ∀ x : List UInt8, Op.bytesLess x x = false
  | [] => rfl
  | a :: x => by simp [Op.bytesLess, bl_irrefl x, UInt8.lt_irrefl]
theorem bl_trans : ∀ {x y z : List UInt8}, Op.bytesLess x y = true → Op.bytesLess y z = true → Op.bytesLess x z = true
  | x, y, [], _, h => by cases y <;> simp [Op.bytesLess] at h
  | [], y, c :: z, _, _ => rfl
  | a :: x, [], c :: z, h, _ => by simp [Op.bytesLess] at h
  | a :: x, b :: y, c :: z, h, k => by
    simp only [Op.bytesLess, Bool.or_eq_true, decide_eq_true_eq, Bool.and_eq_true, beq_iff_eq] at h k ⊢
    rcases h with h | ⟨rfl, h⟩
    · rcases k with k | ⟨rfl, k⟩
      · exact .inl (UInt8.lt_trans h k)
      · exact .inl h
    · rcases k with k | ⟨rfl, k⟩
      · exact .inl k
      · exact .inr ⟨rfl, bl_trans h k⟩
theorem bl_total : ∀ {x y : List UInt8}, Op.bytesLess x y = false → x ≠ y → Op.bytesLess y x = true
  | [], [], _, h => absurd rfl h
  | a :: x, [], _, _ => rfl
  | [], b :: y, h, _ => by simp [Op.bytesLess] at h
  | a :: x, b :: y, h, hn => by
    simp only [Op.bytesLess, Bool.or_eq_true, decide_eq_true_eq, Bool.and_eq_true, beq_iff_eq, Bool.or_eq_false_iff, decide_eq_false_iff_not, Bool.and_eq_false_imp] at h ⊢
    by_cases hab : a = b
    · subst hab
      exact .inr ⟨rfl, bl_total (h.2 rfl) (fun e => hn (by rw [e]))⟩
    · left
      rcases UInt8.lt_or_lt_of_ne hab with q | q
      · exact absurd q h.1
      · exact q
theorem key_ne {a b : ByteArray} (h : a ≠ b) : a.toList ≠ b.toList := fun e => h (by
  rw [ByteArray.toList_eq, ByteArray.toList_eq] at e
  exact ByteArray.ext (Array.toList_inj.1 e))
theorem klt_irrefl (a : ByteArray) : klt a a = false := bl_irrefl _
theorem klt_trans {a b c : ByteArray} (h : klt a b = true) (k : klt b c = true) : klt a c = true := bl_trans h k
theorem klt_asymm {a b : ByteArray} (h : klt a b = true) : klt b a = false := by
  cases hb : klt b a with
  | false => rfl
  | true => exact absurd (klt_trans h hb) (by rw [klt_irrefl]; simp)
theorem klt_ne {a b : ByteArray} (h : klt a b = true) : a ≠ b := fun e => by subst e; rw [klt_irrefl] at h; cases h
theorem klt_total {a b : ByteArray} (h : klt a b = false) (hn : a ≠ b) : klt b a = true := bl_total h (key_ne hn)
theorem kgt_eq (a b : ByteArray) : kgt a b = klt b a := by
  unfold kgt
  cases h : klt a b with
  | true =>
    rw [klt_asymm h]
    have : Op.bytesLess a.toList b.toList = true := h
    simp [this]
  | false =>
    have h1 : Op.bytesLess a.toList b.toList = false := h
    by_cases he : a = b
    · subst he; rw [klt_irrefl]; simp
    · rw [klt_total h he]; simp [h1, key_ne he]

/-! ### Rising lists -/
abbrev KL := List (ByteArray × VX)
def Ris (l : KL) : Prop := l.Pairwise fun x y => klt x.1 y.1 = true
def lset : KL → ByteArray → VX → KL
  | [], k, v => [(k, v)]
  | (k', v') :: l, k, v => if klt k k' = true then (k, v) :: (k', v') :: l else if klt k' k = true then (k', v') :: lset l k v else (k', v) :: l
def ldel : KL → ByteArray → KL
  | [], _ => []
  | (k', v') :: l, k => if klt k k' = true then (k', v') :: l else if klt k' k = true then (k', v') :: ldel l k else l
def lget : KL → ByteArray → Option VX
  | [], _ => none
  | (k', v') :: l, k => if klt k k' = true then none else if klt k' k = true then lget l k else some v'
theorem Ris.app {l r : KL} {k : ByteArray} {v : VX} : Ris (l ++ (k, v) :: r) ↔ Ris l ∧ Ris r ∧ (∀ x ∈ l, klt x.1 k = true) ∧ (∀ x ∈ r, klt k x.1 = true) := by
  unfold Ris
  rw [List.pairwise_append, List.pairwise_cons]
  constructor
  · rintro ⟨h1, ⟨h2, h3⟩, h4⟩
    exact ⟨h1, h3, fun x hx => h4 x hx _ (List.mem_cons_self ..), fun x hx => h2 x hx⟩
  · rintro ⟨h1, h2, h3, h4⟩
    refine ⟨h1, ⟨fun x hx => h4 x hx, h2⟩, fun x hx y hy => ?_⟩
    rcases List.mem_cons.1 hy with rfl | hy
    · exact h3 x hx
    · exact klt_trans (h3 x hx) (h4 y hy)
theorem lset_lt {k k' : ByteArray} {v v' : VX} {r : KL} (h : klt k k' = true) : ∀ {l : KL}, (∀ x ∈ l, klt x.1 k' = true) → lset (l ++ (k', v') :: r) k v = lset l k v ++ (k', v') :: r
  | [], _ => by simp [lset, h]
  | (q, w) :: l, hl => by
    have := lset_lt (v := v) (v' := v') (r := r) h (l := l) (fun x hx => hl x (List.mem_cons_of_mem _ hx))
    simp only [List.cons_append, lset]
    split
    · rfl
    · split
      · rw [this]; rfl
      · rfl
theorem lset_gt {k k' : ByteArray} {v v' : VX} {r : KL} (h : klt k' k = true) : ∀ {l : KL}, (∀ x ∈ l, klt x.1 k' = true) → lset (l ++ (k', v') :: r) k v = l ++ (k', v') :: lset r k v
  | [], _ => by simp [lset, h, klt_asymm h]
  | (q, w) :: l, hl => by
    have := lset_gt (v := v) (v' := v') (r := r) h (l := l) (fun x hx => hl x (List.mem_cons_of_mem _ hx))
    have hq : klt q k = true := klt_trans (hl (q, w) (List.mem_cons_self ..)) h
    simp only [List.cons_append, lset, klt_asymm hq, hq]
    simp [this]
theorem lset_eq {k : ByteArray} {v v' : VX} {r : KL} : ∀ {l : KL}, (∀ x ∈ l, klt x.1 k = true) → lset (l ++ (k, v') :: r) k v = l ++ (k, v) :: r
  | [], _ => by simp [lset, klt_irrefl]
  | (q, w) :: l, hl => by
    have := lset_eq (v := v) (v' := v') (r := r) (l := l) (fun x hx => hl x (List.mem_cons_of_mem _ hx))
    have hq : klt q k = true := hl (q, w) (List.mem_cons_self ..)
    simp only [List.cons_append, lset, klt_asymm hq, hq]
    simp [this]
/-! ### The trees' rows -/
theorem Tree.inorder_skew (t : Tree) : t.skew.inorder = t.inorder := by
  unfold Tree.skew
  split
  · split
    · simp [Tree.inorder]
    · rfl
  · rfl
theorem Tree.inorder_split (t : Tree) : t.split.inorder = t.inorder := by
  unfold Tree.split
  split
  · split
    · simp [Tree.inorder]
    · rfl
  · rfl
theorem Tree.inorder_set (k : ByteArray) (v : VX) : ∀ (t : Tree), Ris t.inorder → (t.set k v).inorder = lset t.inorder k v
  | .nil, _ => rfl
  | .node l k' v' lv r, h => by
    obtain ⟨h1, h2, h3, h4⟩ := Ris.app.1 (show Ris (l.inorder ++ (k', v') :: r.inorder) from h)
    simp only [Tree.set]
    split
    · rename_i hk
      rw [Tree.inorder_split, Tree.inorder_skew]
      show (l.set k v).inorder ++ (k', v') :: r.inorder = lset (l.inorder ++ (k', v') :: r.inorder) k v
      rw [Tree.inorder_set k v l h1, lset_lt hk h3]
    · rename_i hk
      rw [kgt_eq]
      split
      · rename_i hg
        rw [Tree.inorder_split, Tree.inorder_skew]
        show l.inorder ++ (k', v') :: (r.set k v).inorder = lset (l.inorder ++ (k', v') :: r.inorder) k v
        rw [Tree.inorder_set k v r h2, lset_gt hg h3]
      · rename_i hg
        have he : k = k' := by
          refine Classical.byContradiction fun hne => ?_
          exact hg (klt_total (by simpa using hk) hne)
        subst he
        show l.inorder ++ (k, v) :: r.inorder = lset (l.inorder ++ (k, v') :: r.inorder) k v
        rw [lset_eq h3]
theorem lset_mem {k : ByteArray} {v : VX} {x : ByteArray × VX} : ∀ {l : KL}, x ∈ lset l k v → x ∈ l ∨ x.1 = k ∨ ∃ w, (x.1, w) ∈ l
  | [], h => by simp [lset] at h; exact .inr (.inl (by rw [h]))
  | (q, w) :: l, h => by
    simp only [lset] at h
    split at h
    · rcases List.mem_cons.1 h with rfl | h
      · exact .inr (.inl rfl)
      · exact .inl h
    · split at h
      · rcases List.mem_cons.1 h with rfl | h
        · exact .inl (List.mem_cons_self ..)
        · rcases lset_mem h with h | h | ⟨w', h⟩
          · exact .inl (List.mem_cons_of_mem _ h)
          · exact .inr (.inl h)
          · exact .inr (.inr ⟨w', List.mem_cons_of_mem _ h⟩)
      · rcases List.mem_cons.1 h with rfl | h
        · exact .inr (.inr ⟨w, List.mem_cons_self ..⟩)
        · exact .inl (List.mem_cons_of_mem _ h)
end Go.Proofs.YtnoggejkkjngjaaGreat
/- Package sorted: deleting and asking, told of rising lists. No condition. -/
set_option linter.unusedVariables false
set_option maxRecDepth 100000
namespace Go.Proofs.YtnoggejkkjngjaaGreat
open Go Go.Sl Go.ChangeShapes Go.WideShapes Go.ChangeAt Go.RowKit

theorem lset_key {k : ByteArray} {v : VX} {x : ByteArray × VX} {l : KL} (h : x ∈ lset l k v) : x.1 = k ∨ ∃ w, (x.1, w) ∈ l := by
  rcases lset_mem h with h | h | h
  · exact .inr ⟨x.2, h⟩
  · exact .inl h
  · exact .inr h
theorem Ris.set {k : ByteArray} {v : VX} : ∀ {l : KL}, Ris l → Ris (lset l k v)
  | [], _ => List.pairwise_singleton ..
  | (q, w) :: l, h => by
    have h1 := List.pairwise_cons.1 h
    simp only [lset]
    split
    · rename_i hk
      refine List.pairwise_cons.2 ⟨fun x hx => ?_, h⟩
      rcases List.mem_cons.1 hx with rfl | hx
      · exact hk
      · exact klt_trans hk (h1.1 x hx)
    · split
      · rename_i hk
        refine List.pairwise_cons.2 ⟨fun x hx => ?_, Ris.set h1.2⟩
        rcases lset_key hx with rfl | ⟨w', hx⟩
        · exact hk
        · exact h1.1 (x.1, w') hx
      · exact List.pairwise_cons.2 ⟨h1.1, h1.2⟩
theorem ldel_sub {k : ByteArray} : ∀ {l : KL}, (ldel l k).Sublist l
  | [] => List.Sublist.refl _
  | (q, w) :: l => by
    simp only [ldel]
    split
    · exact List.Sublist.refl _
    · split
      · exact ldel_sub.cons_cons _
      · exact List.sublist_cons_self ..
theorem Ris.del {k : ByteArray} {l : KL} (h : Ris l) : Ris (ldel l k) := List.Pairwise.sublist ldel_sub h
theorem Tree.inorder_len : ∀ t : Tree, t.inorder.length = t.size
  | .nil => rfl
  | .node l k v lv r => by
    have := Tree.inorder_len l; have := Tree.inorder_len r
    simp only [Tree.inorder, Tree.size, List.length_append, List.length_cons]; omega

/-! ### Asking -/
def lfrom (l : KL) (k : ByteArray) : Option (ByteArray × VX) := l.find? fun x => !klt x.1 k
theorem lfrom_none {l : KL} {k : ByteArray} (h : ∀ x ∈ l, klt x.1 k = true) : lfrom l k = none := by
  unfold lfrom
  rw [List.find?_eq_none]
  intro x hx; simp [h x hx]
theorem Tree.from_in : ∀ (t : Tree) (k : ByteArray) (q : Option (ByteArray × VX)), Ris t.inorder → t.from k q = (lfrom t.inorder k).or q
  | .nil, _, _, _ => rfl
  | .node l k' v' lv r, k, q, h => by
    obtain ⟨h1, h2, h3, h4⟩ := Ris.app.1 (show Ris (l.inorder ++ (k', v') :: r.inorder) from h)
    show _ = (lfrom (l.inorder ++ (k', v') :: r.inorder) k).or q
    simp only [Tree.from]
    split
    · rename_i hk
      rw [Tree.from_in r k q h2]
      unfold lfrom
      have hn : l.inorder.find? (fun x => !klt x.1 k) = none := lfrom_none (fun x hx => klt_trans (h3 x hx) hk)
      rw [List.find?_append, hn]
      simp [hk]
    · rename_i hk
      rw [Tree.from_in l k _ h1]
      unfold lfrom
      rw [List.find?_append]
      simp only [List.find?_cons, Bool.eq_false_iff.2 hk]
      cases l.inorder.find? (fun x => !klt x.1 k) <;> simp
/-- What From tells is what Get asks of. -/
theorem lfrom_get {k : ByteArray} : ∀ {l : KL}, Ris l → getV k (lfrom l k) = match lget l k with
    | some v => .tuple #[.agg v.C.toArray, .bool true]
    | none => .tuple #[.agg VX.zero.C.toArray, .bool false]
  | [], _ => rfl
  | (q, w) :: l, h => by
    have h1 := List.pairwise_cons.1 h
    unfold lfrom
    simp only [List.find?_cons, lget]
    by_cases hq : klt q k = true
    · simp only [hq, klt_asymm hq]
      exact lfrom_get h1.2
    · have hq' : klt q k = false := by simpa using hq
      simp only [hq', Bool.not_false]
      by_cases hk : klt k q = true
      · simp only [hk, getV]
        rw [if_neg (fun e => key_ne (klt_ne hk).symm e)]
        rfl
      · have he : q = k := Classical.byContradiction fun hne => hk (klt_total hq' hne)
        subst he
        simp [getV, klt_irrefl]
end Go.Proofs.YtnoggejkkjngjaaGreat
/- Package state: what a beginning of the log comes to. Conditions: none but the kinds' bounds, and not too many keys. -/
set_option maxHeartbeats 8000000
set_option linter.unusedVariables false
set_option linter.unusedSimpArgs false
set_option maxRecDepth 100000
namespace Go.Proofs.YtnoggejkkjngjaaGreat
open Go Go.Sl
attribute [local irreducible] Go.Sl.Wl Go.Sl.Wc Go.Sl.thenQ Go.Sl.blkQ Go.Sl.loopQ Go.Sl.Fspec

/-- An entry. -/
structure EnX where
  e : Int
  i : Int
  s : Int
  r : Int
  key : ByteArray
  del : Bool
  tx : ByteArray
def EnX.c (x : EnX) : List Value := [.int .i64 x.e, .int .i64 x.i, .int .i64 x.s, .int .i64 x.r, .string x.key, .bool x.del, .string x.tx]
def EnX.v (x : EnX) : VX := ⟨x.e, x.i, !x.del, x.tx⟩
def EnX.se (x : EnX) : SX := ⟨x.s, x.r, x.e, x.i⟩
def EnX.ok (x : EnX) : Prop := x.se.ok
structure PrX where
  k : ByteArray
  v : VX
def PrX.c (x : PrX) : List Value := .string x.k :: x.v.C
/-- What a beginning of the log comes to. -/
structure FoX where
  e : Int
  i : Int
  t : Tree
  L : List SX
def FoX.put (f : FoX) (x : EnX) : FoX := ⟨x.e, x.i, f.t.set x.key x.v, noteV f.L 16 x.se⟩
def FoX.zero : FoX := ⟨0, 0, .nil, []⟩
structure FoX.ok (f : FoX) (n : Nat) : Prop where
  aa : f.t.AA
  size : f.t.size ≤ n
  ris : RisS f.L
theorem FoX.ok.put {f : FoX} {n : Nat} (h : f.ok n) (x : EnX) : (f.put x).ok (n + 1) := by
  refine ⟨(Tree.set_AA x.key x.v f.t h.aa).aa, ?_, ?_⟩
  · have := Tree.size_set x.key x.v f.t; have := h.size; simp only [FoX.put]; split at * <;> omega
  · show RisS (noteV f.L 16 x.se)
    unfold noteV; split
    · exact h.ris.put
    · exact h.ris
theorem FoX.ok.mono {f : FoX} {n m : Nat} (h : f.ok n) (hm : n ≤ m) : f.ok m := ⟨h.aa, Nat.le_trans h.size hm, h.ris⟩
section specs
variable {B : Base}
theorem blank_spec : Fspec Tryz.prog B 35 #[] [] (fun v A' => ∃ k d, v = .agg #[.int .i64 0, .int .i64 0, .pointer (some ⟨k, 0, none⟩), .pointer (some ⟨d, 0, none⟩)] ∧ A' = [MpA k .nil, DeP d 16 []]) := by
  refine spec_of (args := []) Tryz.func35 rfl rfl rfl ?_
  repeat' (first
    | refine zi ?_
    | refine zK ?_
    | refine zQ (h := ?_)
    | refine zU (h := ?_)
    | refine zj ?_
    | refine zR ?_
    | refine zW ?_
    | refine zN ?_
    | refine zV ?_
    | refine ze ?_
    | refine zP ?_
    | refine zY ?_
    | refine zS rfl ?_
    | refine zd ?_
    | refine zX ?_
    | refine zO ?_
    | refine zT ?_
    | refine zL ?_
    | (refine zC (id := 0) ?_; intro K hK; ((refine zw (k := ?_); intro r0)) <;> ((refine zD (hK _ _ ?_); clear hK K)))
    | (refine zC (id := 1) ?_; intro K hK; ((refine zb (hs := mnew_spec B) (k := ?_); rintro v A' ⟨k, rfl, rfl⟩; simp only [List.cons_append, List.nil_append])) <;> (((refine zb (hs := dnew_spec 16) (k := ?_); rintro v A' ⟨d, rfl, rfl⟩; simp only [List.cons_append, List.nil_append])) <;> (refine zr (k := ?_); refine zh (ho' := rfl) (k := ?_); (refine zD (hK _ _ ?_); clear hK K))))
    | (refine zc (ht := (fun ht => ?_)) (hf := (fun ht => ?_)) <;> (try simp at ht) <;> (try (exfalso; omega))))
  exact ⟨Or.inr rfl, _, [MpA k .nil, DeP d 16 []], by (repeat (first | exact Ent.refl _ | exact Ent.nil | refine Ent.take (by (repeat (first | exact Out.head | apply Out.tail)); (first | done | fail)) ?_ | refine Ent.drop1 ?_)), resG rfl (by (repeat (first | exact ResL.nil | apply ResL.tmp (by (repeat (first | exact Ev.here | exact Ev.const | exact Ev.arg rfl | apply Ev.there rfl | exact Ev.none rfl | exact Ev.func | exact Ev.var)); (first | done | fail)) | apply ResL.agg (by (repeat (first | exact Ev.here | exact Ev.const | exact Ev.arg rfl | apply Ev.there rfl | exact Ev.none rfl | exact Ev.func | exact Ev.var)); (first | done | fail)) (by (repeat (first | exact Rd.head | exact Rd.base (by assumption) | apply Rd.tail)); (first | done | fail)) (by (repeat (first | exact TakeR.nil | apply TakeR.take | apply TakeR.skip)); (first | done | fail)) | apply ResL.cell (by (repeat (first | exact Ev.here | exact Ev.const | exact Ev.arg rfl | apply Ev.there rfl | exact Ev.none rfl | exact Ev.func | exact Ev.var)); (first | done | fail)) (by (repeat (first | exact Rd.head | exact Rd.base (by assumption) | apply Rd.tail)); (first | done | fail)) rfl)); (first | done | fail)) rfl, k, d, rfl, rfl⟩
theorem put_spec (st k d : Nat) (f : FoX) (hf : f.ok 999999) (x : EnX) (hx : x.ok) (l : List Value) (T : TypeId) :
    Fspec Tryz.prog B 50 #[.pointer (some ⟨st, 0, none⟩), .agg x.c.toArray] [cb st (.int .i64 f.e :: .int .i64 f.i :: .pointer (some ⟨k, 0, none⟩) :: .pointer (some ⟨d, 0, none⟩) :: l) T, MpA k f.t, DeP d 16 f.L]
      (fun v A' => v = .tuple #[] ∧ A' = [cb st (.int .i64 (f.put x).e :: .int .i64 (f.put x).i :: .pointer (some ⟨k, 0, none⟩) :: .pointer (some ⟨d, 0, none⟩) :: l) T, MpA k (f.put x).t, DeP d 16 (f.put x).L]) := by
  have hsz := hf.size
  refine spec_of (args := [_, _]) Tryz.func50 rfl rfl rfl ?_
  repeat' (first
    | refine zi ?_
    | refine zK ?_
    | refine zQ (h := ?_)
    | refine zU (h := ?_)
    | refine zj ?_
    | refine zR ?_
    | refine zW ?_
    | refine zN ?_
    | refine zV ?_
    | refine ze ?_
    | refine zP ?_
    | refine zY ?_
    | refine zS rfl ?_
    | refine zd ?_
    | refine zX ?_
    | refine zO ?_
    | refine zT ?_
    | refine zL ?_
    | (refine zC (id := 0) ?_; intro K hK; ((refine zm (l := x.c) (k := ?_); intro r3; simp only [EnX.c])) <;> ((refine zD (hK _ _ ?_); clear hK K)))
    | (refine zC (id := 1) ?_; intro K hK; refine zF (k := ?_); refine zB (k := ?_); refine zo (k := ?_); refine zJ (k := ?_); refine zB (k := ?_); refine zh (ho' := rfl) (k := ?_); (refine zD (hK _ _ ?_); clear hK K))
    | (refine z3 (id := 2) (h := ?_); intro K hK; refine zF (k := ?_); refine zJ (k := ?_); refine zB (k := ?_); refine zM (k := ?_); refine zB (k := ?_); refine zM (k := ?_); refine zB (k := ?_); refine zo (k := ?_); refine zB (k := ?_); refine zM (k := ?_); refine z7 (k' := ?_); refine zB (k := ?_); refine zM (k := ?_); refine zr (k := ?_); ((refine zb (hs := mset_spec B k f.t x.key x.v hf.aa (by omega)) (k := ?_); rintro v A' ⟨rfl, rfl⟩; simp only [List.cons_append, List.nil_append])) <;> ((refine zD (hK _ _ ?_); clear hK K)))
    | (refine z3 (id := 3) (h := ?_); intro K hK; refine zF (k := ?_); refine zJ (k := ?_); refine zB (k := ?_); refine zM (k := ?_); refine zB (k := ?_); refine zM (k := ?_); refine zB (k := ?_); refine zM (k := ?_); refine zB (k := ?_); refine zo (k := ?_); ((refine zb (hs := note_spec d 16 f.L hf.ris x.se hx) (k := ?_); rintro v A' ⟨b, rfl, rfl⟩; simp only [List.cons_append, List.nil_append])) <;> ((refine zD (hK _ _ ?_); clear hK K)))
    | (refine zc (ht := (fun ht => ?_)) (hf := (fun ht => ?_)) <;> (try simp at ht) <;> (try (exfalso; omega))))
  exact ⟨by simp, _, [cb st _ T, MpA k (f.put x).t, DeP d 16 (f.put x).L], (by (repeat (first | exact Ent.refl _ | exact Ent.nil | refine Ent.take (by (repeat (first | exact Out.head | apply Out.tail)); (first | done | fail)) ?_ | refine Ent.drop1 ?_))), res0 rfl, rfl, rfl⟩
end specs
end Go.Proofs.YtnoggejkkjngjaaGreat
/- Package state: what a snapshot comes to. Conditions: none but the kinds' bounds, and not too many rows. -/
set_option maxHeartbeats 8000000
set_option linter.unusedVariables false
set_option linter.unusedSimpArgs false
set_option maxRecDepth 100000
namespace Go.Proofs.YtnoggejkkjngjaaGreat
open Go Go.Sl
attribute [local irreducible] Go.Sl.Wl Go.Sl.Wc Go.Sl.thenQ Go.Sl.blkQ Go.Sl.loopQ Go.Sl.Fspec

/-- A snapshot. -/
structure SnX where
  e : Int
  i : Int
  ps : List PrX
  ss : List SX
def prC (l : List PrX) : List Value := l.flatMap PrX.c
def ssC (l : List SX) : List Value := l.flatMap SX.c
theorem ssC_len (l : List SX) : (ssC l).length = l.length * 4 := by
  induction l with
  | nil => rfl
  | cons x l ih => simp only [ssC] at ih; simp [ssC, SX.c, ih]; omega
theorem prC_row {l : List PrX} {k : Nat} {x : PrX} (h : l[k]? = some x) : ((prC l).drop (k * 5)).take 5 = x.c := flatMap_row (fun _ _ => rfl) h
theorem ssC_row {l : List SX} {k : Nat} {x : SX} (h : l[k]? = some x) : ((ssC l).drop (k * 4)).take 4 = x.c := flatMap_row (fun _ _ => rfl) h
theorem ssC_cell {l : List SX} {k r : Nat} {x : SX} {v : Value} (h : l[k]? = some x) (hr : r < 4) (hv : x.c[r]? = some v) : (ssC l)[k * 4 + r]? = some v := flatMap_cell (fun _ _ => rfl) h hr hv
theorem prC_all (l : List PrX) : (prC l).all isCell = true := by
  induction l with
  | nil => rfl
  | cons x l ih => simp only [prC] at ih; simp [prC, PrX.c, VX.C, ih, isCell]
theorem ssC_all (l : List SX) : (ssC l).all isCell = true := by
  induction l with
  | nil => rfl
  | cons x l ih => simp only [ssC] at ih; simp [ssC, SX.c, ih, isCell]
def setAll (ps : List PrX) : Tree := ps.foldl (fun t p => t.set p.k p.v) .nil
def FoX.of (b : SnX) : FoX := ⟨b.e, b.i, setAll b.ps, b.ss⟩
structure SnX.ok (b : SnX) : Prop where
  ris : RisS b.ss
  few : b.ss.length ≤ 16
  ses : ∀ x ∈ b.ss, x.ok
theorem setAll_aux : ∀ (ps : List PrX) (t : Tree), t.AA → (ps.foldl (fun t p => t.set p.k p.v) t).AA ∧ (ps.foldl (fun t p => t.set p.k p.v) t).size ≤ t.size + ps.length
  | [], t, h => ⟨h, Nat.le_refl _⟩
  | p :: ps, t, h => by
    have h1 := (Tree.set_AA p.k p.v t h).aa
    have h2 := Tree.size_set p.k p.v t
    obtain ⟨h3, h4⟩ := setAll_aux ps (t.set p.k p.v) h1
    refine ⟨h3, Nat.le_trans h4 ?_⟩
    simp only [List.length_cons]
    split at h2 <;> omega
theorem setAll_AA (ps : List PrX) : (setAll ps).AA ∧ (setAll ps).size ≤ ps.length := by
  have := setAll_aux ps .nil trivial
  refine ⟨this.1, ?_⟩
  have h := this.2
  simp only [Tree.size, Nat.zero_add] at h
  exact h
theorem setAll_succ {ps : List PrX} {k : Nat} {x : PrX} (h : ps[k]? = some x) : setAll (ps.take (k + 1)) = (setAll (ps.take k)).set x.k x.v := by
  obtain ⟨hk, rfl⟩ := List.getElem?_eq_some_iff.1 h
  unfold setAll
  rw [List.take_succ_eq_append_getElem hk, List.foldl_append]; rfl
theorem FoX.of_ok {b : SnX} (h : b.ok) : (FoX.of b).ok b.ps.length := ⟨(setAll_AA b.ps).1, (setAll_AA b.ps).2, h.ris⟩
theorem dput_last {x : SX} : ∀ {l : List SX}, (∀ y ∈ l, y.s < x.s) → dput l x = l ++ [x]
  | [], _ => rfl
  | y :: l, h => by
    have hy := h y (List.mem_cons_self ..)
    unfold dput
    rw [if_neg (by omega), if_pos hy, dput_last fun z hz => h z (List.mem_cons_of_mem _ hz)]; rfl
theorem ris_take {l : List SX} (h : RisS l) {k : Nat} {x : SX} (hx : l[k]? = some x) : ∀ y ∈ l.take k, y.s < x.s := by
  intro y hy
  obtain ⟨j, hj⟩ := List.getElem?_of_mem hy
  rw [List.getElem?_take] at hj
  split at hj
  · rename_i hjk
    obtain ⟨h1, e1⟩ := List.getElem?_eq_some_iff.1 hj
    obtain ⟨h2, e2⟩ := List.getElem?_eq_some_iff.1 hx
    have := List.pairwise_iff_getElem.1 h j k h1 h2 hjk
    rw [e1, e2] at this; exact this
  · cases hj
theorem ris_sub {l : List SX} (h : RisS l) (k : Nat) : RisS (l.take k) := List.Pairwise.sublist (List.take_sublist ..) h
theorem RdS.ofEnt {P : Program} {B : Base} {A A' : List Asn} {sz m c : Nat} {a : Option Addr} {vs : List Value} (h : RdS P B A' sz a m c vs) (he : Ent A A') : RdS P B A sz a m c vs :=
  ⟨h.len, h.nil, h.cap, h.src.weak fun w hs => hs.ent he⟩
theorem Out_mid : ∀ (M : List Asn) (a : Asn) (A0 : List Asn), Out a (M ++ a :: A0) (M ++ A0)
  | [], _, _ => .head
  | _ :: M, a, A0 => .tail (Out_mid M a A0)
theorem Pick_mid (M : List Asn) : ∀ A0 : List Asn, Pick (M ++ A0) A0 M
  | [] => by rw [List.append_nil]; exact .nil
  | a :: A0 => .cons (Out_mid M a A0) (Pick_mid M A0)
theorem of_perm (D : Asn) (A0 : List Asn) (a b c d : Asn) : ((D :: A0) ++ [a, b, c, d]).Perm (a :: b :: c :: d :: D :: A0) := List.perm_append_comm (l₁ := D :: A0) (l₂ := [a, b, c, d])
section specs
variable {B : Base}
theorem load_spec (A0 : List Asn) (p : Nat) (L l : List SX) (hr : RisS l) (h16 : l.length ≤ 16) (hses : ∀ x ∈ l, x.ok) (a : Option Addr) (c : Nat) (h : RdS Tryz.prog B A0 4 a l.length c (ssC l)) :
    Fspec Tryz.prog B 114 #[.pointer (some ⟨p, 0, none⟩), .slice a l.length c] (DeP p 16 L :: A0) (fun v A' => v = .bool true ∧ A' = DeP p 16 l :: A0) := by
  have hKd := Go.Maps.int_keyed (P := Tryz.prog) Tryz.underlying3
  refine spec_of (args := [_, _]) Tryz.func114 rfl rfl rfl ?_
  refine yE (fun rm => ?_)
  simp only [DeX]
  simp only [List.cons_append, List.nil_append]
  repeat' (first
    | refine zi ?_
    | refine zK ?_
    | refine zQ (h := ?_)
    | refine zU (h := ?_)
    | refine zj ?_
    | refine zR ?_
    | refine zW ?_
    | refine zN ?_
    | refine zV ?_
    | refine ze ?_
    | refine zP ?_
    | refine zY ?_
    | refine zS rfl ?_
    | refine zd ?_
    | refine zX ?_
    | refine zO ?_
    | refine zT ?_
    | refine zL ?_
    | (refine zC (id := 0) ?_; intro K hK; refine zH (k := ?_); (refine zD (hK _ _ ?_); clear hK K))
    | (refine zC (id := 1) ?_; intro K hK; refine zF (k := ?_); refine zf (k' := ?_); refine zF (k := ?_); ((first | (refine zA (k := ?_); refine zF (k := ?_)) | refine zE (k := ?_) | ((refine zG (yes := (fun ht => ?_)) (no := (fun ht => ?_)) <;> (try simp at ht) <;> (try (exfalso; omega))) <;> (first | (refine zA (k := ?_); refine zF (k := ?_)) | refine zE (k := ?_))))) <;> (((first | (refine zA (k := ?_); refine zn (k' := ?_)) | refine zE (k := ?_) | ((refine zG (yes := (fun ht => ?_)) (no := (fun ht => ?_)) <;> (try simp at ht) <;> (try (exfalso; omega))) <;> (first | (refine zA (k := ?_); refine zn (k' := ?_)) | refine zE (k := ?_))))) <;> (((first | (refine zA (k := ?_); refine zF (k := ?_)) | refine zE (k := ?_) | ((refine zG (yes := (fun ht => ?_)) (no := (fun ht => ?_)) <;> (try simp at ht) <;> (try (exfalso; omega))) <;> (first | (refine zA (k := ?_); refine zF (k := ?_)) | refine zE (k := ?_))))) <;> (((first | (refine zA (k := ?_); refine zJ (k := ?_)) | refine zE (k := ?_) | ((refine zG (yes := (fun ht => ?_)) (no := (fun ht => ?_)) <;> (try simp at ht) <;> (try (exfalso; omega))) <;> (first | (refine zA (k := ?_); refine zJ (k := ?_)) | refine zE (k := ?_))))) <;> (((first | (refine zA (k := ?_); refine zB (k := ?_)) | refine zE (k := ?_) | ((refine zG (yes := (fun ht => ?_)) (no := (fun ht => ?_)) <;> (try simp at ht) <;> (try (exfalso; omega))) <;> (first | (refine zA (k := ?_); refine zB (k := ?_)) | refine zE (k := ?_))))) <;> (((first | (refine zA (k := ?_); refine zM (k := ?_)) | refine zE (k := ?_) | ((refine zG (yes := (fun ht => ?_)) (no := (fun ht => ?_)) <;> (try simp at ht) <;> (try (exfalso; omega))) <;> (first | (refine zA (k := ?_); refine zM (k := ?_)) | refine zE (k := ?_))))) <;> (((first | (refine zA (k := ?_); refine xN (k' := ?_)) | refine zE (k := ?_) | ((refine zG (yes := (fun ht => ?_)) (no := (fun ht => ?_)) <;> (try simp at ht) <;> (try (exfalso; omega))) <;> (first | (refine zA (k := ?_); refine xN (k' := ?_)) | refine zE (k := ?_))))) <;> (((first | (refine zA (k := ?_); refine z0 (k' := ?_)) | refine zE (k := ?_) | ((refine zG (yes := (fun ht => ?_)) (no := (fun ht => ?_)) <;> (try simp at ht) <;> (try (exfalso; omega))) <;> (first | (refine zA (k := ?_); refine z0 (k' := ?_)) | refine zE (k := ?_))))) <;> ((first | refine zZ (k := ?_) | refine za (k := ?_) | refine zg (k := ?_)); (refine zD (hK _ _ ?_); clear hK K))))))))))
    | (refine zC (id := 2) ?_; intro K hK; refine zH (k := ?_); (refine zD (hK _ _ ?_); clear hK K))
    | (refine zC (id := 3) ?_; intro K hK; refine zF (k := ?_); refine zn (k' := ?_); refine zF (k := ?_); (refine zD (hK _ _ ?_); clear hK K))
    | (refine zc (ht := (fun ht => ?_)) (hf := (fun ht => ?_)) <;> (try simp at ht) <;> (try (exfalso; omega))))
  refine yI (α := Nat) (fun k => [(0, .pointer (some ⟨p, 0, none⟩)), (1, .slice a l.length c), (21, .int .i64 l.length), (22, .int .i64 k)]) (fun _ => cb p [.int .i64 16, .map (some rm)] 157 :: mpA Tryz.prog 3 rm (fS L) :: A0) (fun k => k ≤ l.length) (fun k => l.length - k) 0 (by omega) ⟨rfl, rfl, rfl, rfl, trivial⟩ (Ent.refl _) ?_
  intro k G hk
  simp only [ov]
  by_cases hlt : k < l.length
  · obtain ⟨q, rfl⟩ : ∃ q, a = some q := by
      cases a with
      | none => have := h.nil rfl; omega
      | some q => exact ⟨q, rfl⟩
    obtain ⟨x, hx⟩ : ∃ x, l[k]? = some x := ⟨_, List.getElem?_eq_getElem hlt⟩
    by_cases h0 : k = 0
    · repeat' (first
        | refine zi ?_
        | refine zK ?_
        | refine zQ (h := ?_)
        | refine zU (h := ?_)
        | refine zj ?_
        | refine zR ?_
        | refine zW ?_
        | refine zN ?_
        | refine zV ?_
        | refine ze ?_
        | refine zP ?_
        | refine zY ?_
        | refine zS rfl ?_
        | refine zd ?_
        | refine zX ?_
        | refine zO ?_
        | refine zT ?_
        | refine zL ?_
        | (refine zC (id := 4) ?_; intro K hK; refine z6 (k' := ?_); (refine zD (hK _ _ ?_); clear hK K))
        | (refine zC (id := 5) ?_; intro K hK; refine zF (k := ?_); refine zH (k := ?_); (refine zD (hK _ _ ?_); clear hK K))
        | (refine z3 (id := 6) (h := ?_); intro K hK; refine zF (k := ?_); refine z0 (k' := ?_); refine zF (k := ?_); ((first | (refine zA (k := ?_); refine zF (k := ?_)) | refine zE (k := ?_) | ((refine zG (yes := (fun ht => ?_)) (no := (fun ht => ?_)) <;> (try simp at ht) <;> (try (exfalso; omega))) <;> (first | (refine zA (k := ?_); refine zF (k := ?_)) | refine zE (k := ?_))))) <;> (((first | (refine zA (k := ?_); refine zF (k := ?_)) | refine zE (k := ?_) | ((refine zG (yes := (fun ht => ?_)) (no := (fun ht => ?_)) <;> (try simp at ht) <;> (try (exfalso; omega))) <;> (first | (refine zA (k := ?_); refine zF (k := ?_)) | refine zE (k := ?_))))) <;> (((first | (refine zA (k := ?_); refine z9 (k' := ?_)) | refine zE (k := ?_) | ((refine zG (yes := (fun ht => ?_)) (no := (fun ht => ?_)) <;> (try simp at ht) <;> (try (exfalso; omega))) <;> (first | (refine zA (k := ?_); refine z9 (k' := ?_)) | refine zE (k := ?_))))) <;> (((first | (refine zA (k := ?_); refine zB (k := ?_)) | refine zE (k := ?_) | ((refine zG (yes := (fun ht => ?_)) (no := (fun ht => ?_)) <;> (try simp at ht) <;> (try (exfalso; omega))) <;> (first | (refine zA (k := ?_); refine zB (k := ?_)) | refine zE (k := ?_))))) <;> (((first | (refine zA (k := ?_); refine zM (k := ?_)) | refine zE (k := ?_) | ((refine zG (yes := (fun ht => ?_)) (no := (fun ht => ?_)) <;> (try simp at ht) <;> (try (exfalso; omega))) <;> (first | (refine zA (k := ?_); refine zM (k := ?_)) | refine zE (k := ?_))))) <;> (((first | (refine zA (k := ?_); refine zF (k := ?_)) | refine zE (k := ?_) | ((refine zG (yes := (fun ht => ?_)) (no := (fun ht => ?_)) <;> (try simp at ht) <;> (try (exfalso; omega))) <;> (first | (refine zA (k := ?_); refine zF (k := ?_)) | refine zE (k := ?_))))) <;> (((first | (refine zA (k := ?_); refine zF (k := ?_)) | refine zE (k := ?_) | ((refine zG (yes := (fun ht => ?_)) (no := (fun ht => ?_)) <;> (try simp at ht) <;> (try (exfalso; omega))) <;> (first | (refine zA (k := ?_); refine zF (k := ?_)) | refine zE (k := ?_))))) <;> (((first | (refine zA (k := ?_); refine yL (k' := ?_)) | refine zE (k := ?_) | ((refine zG (yes := (fun ht => ?_)) (no := (fun ht => ?_)) <;> (try simp at ht) <;> (try (exfalso; omega))) <;> (first | (refine zA (k := ?_); refine yL (k' := ?_)) | refine zE (k := ?_))))) <;> (((first | (refine zA (k := ?_); refine z9 (k' := ?_)) | refine zE (k := ?_) | ((refine zG (yes := (fun ht => ?_)) (no := (fun ht => ?_)) <;> (try simp at ht) <;> (try (exfalso; omega))) <;> (first | (refine zA (k := ?_); refine z9 (k' := ?_)) | refine zE (k := ?_))))) <;> (((first | (refine zA (k := ?_); refine zB (k := ?_)) | refine zE (k := ?_) | ((refine zG (yes := (fun ht => ?_)) (no := (fun ht => ?_)) <;> (try simp at ht) <;> (try (exfalso; omega))) <;> (first | (refine zA (k := ?_); refine zB (k := ?_)) | refine zE (k := ?_))))) <;> (((first | (refine zA (k := ?_); refine zM (k := ?_)) | refine zE (k := ?_) | ((refine zG (yes := (fun ht => ?_)) (no := (fun ht => ?_)) <;> (try simp at ht) <;> (try (exfalso; omega))) <;> (first | (refine zA (k := ?_); refine zM (k := ?_)) | refine zE (k := ?_))))) <;> (((first | (refine zA (k := ?_); refine yH (k' := ?_)) | refine zE (k := ?_) | ((refine zG (yes := (fun ht => ?_)) (no := (fun ht => ?_)) <;> (try simp at ht) <;> (try (exfalso; omega))) <;> (first | (refine zA (k := ?_); refine yH (k' := ?_)) | refine zE (k := ?_))))) <;> ((first | refine zZ (k := ?_) | refine za (k := ?_) | refine zg (k := ?_)); (refine zD (hK _ _ ?_); clear hK K))))))))))))))
        | (refine zC (id := 7) ?_; intro K hK; refine zH (k := ?_); (refine zD (hK _ _ ?_); clear hK K))
        | (refine zC (id := 8) ?_; intro K hK; refine zl (k' := ?_); refine zF (k := ?_); (refine zD (hK _ _ ?_); clear hK K))
        | (refine zc (ht := (fun ht => ?_)) (hf := (fun ht => ?_)) <;> (try simp at ht) <;> (try (exfalso; omega))))
      exact ⟨k + 1, by omega, by omega, ⟨rfl, rfl, rfl, int_succ k, trivial⟩, Ent.refl _⟩
    · obtain ⟨y, hy⟩ : ∃ y, l[k - 1]? = some y := ⟨_, List.getElem?_eq_getElem (by omega)⟩
      have hyx : y.s < x.s := ris_take hr hx y (List.mem_of_getElem? (i := k - 1) (by rw [List.getElem?_take, if_pos (by omega), hy]))
      have e1 : ((k : Nat) : Int) - 1 = ((k - 1 : Nat) : Int) := by omega
      repeat' (first
        | refine zi ?_
        | refine zK ?_
        | refine zQ (h := ?_)
        | refine zU (h := ?_)
        | refine zj ?_
        | refine zR ?_
        | refine zW ?_
        | refine zN ?_
        | refine zV ?_
        | refine ze ?_
        | refine zP ?_
        | refine zY ?_
        | refine zS rfl ?_
        | refine zd ?_
        | refine zX ?_
        | refine zO ?_
        | refine zT ?_
        | refine zL ?_
        | (refine zC (id := 4) ?_; intro K hK; refine z6 (k' := ?_); (refine zD (hK _ _ ?_); clear hK K))
        | (refine zC (id := 5) ?_; intro K hK; refine zF (k := ?_); refine zH (k := ?_); (refine zD (hK _ _ ?_); clear hK K))
        | (refine z3 (id := 6) (h := ?_); intro K hK; refine zF (k := ?_); refine z0 (k' := ?_); refine zF (k := ?_); ((first | (refine zA (k := ?_); refine zF (k := ?_)) | refine zE (k := ?_) | ((refine zG (yes := (fun ht => ?_)) (no := (fun ht => ?_)) <;> (try simp at ht) <;> (try (exfalso; omega))) <;> (first | (refine zA (k := ?_); refine zF (k := ?_)) | refine zE (k := ?_))))) <;> (((first | (refine zA (k := ?_); refine zF (k := ?_)) | refine zE (k := ?_) | ((refine zG (yes := (fun ht => ?_)) (no := (fun ht => ?_)) <;> (try simp at ht) <;> (try (exfalso; omega))) <;> (first | (refine zA (k := ?_); refine zF (k := ?_)) | refine zE (k := ?_))))) <;> (((first | (refine zA (k := ?_); (refine zq (k' := ?_))) | refine zE (k := ?_) | ((refine zG (yes := (fun ht => ?_)) (no := (fun ht => ?_)) <;> (try simp at ht) <;> (try (exfalso; omega))) <;> (first | (refine zA (k := ?_); (refine zq (k' := ?_))) | refine zE (k := ?_))))) <;> (((first | (refine zA (k := ?_); (refine zz (k := ?_))) | refine zE (k := ?_) | ((refine zG (yes := (fun ht => ?_)) (no := (fun ht => ?_)) <;> (try simp at ht) <;> (try (exfalso; omega))) <;> (first | (refine zA (k := ?_); (refine zz (k := ?_))) | refine zE (k := ?_))))) <;> (((first | (refine zA (k := ?_); (refine z4 (v := .int .i64 x.s) (j := k * 4) (hq := by simp [Addr.add]) (hr := RdS.under (RdS.under h)) (hv := by simpa using ssC_cell (r := 0) hx (by omega) rfl) (k := ?_))) | refine zE (k := ?_) | ((refine zG (yes := (fun ht => ?_)) (no := (fun ht => ?_)) <;> (try simp at ht) <;> (try (exfalso; omega))) <;> (first | (refine zA (k := ?_); (refine z4 (v := .int .i64 x.s) (j := k * 4) (hq := by simp [Addr.add]) (hr := RdS.under (RdS.under h)) (hv := by simpa using ssC_cell (r := 0) hx (by omega) rfl) (k := ?_))) | refine zE (k := ?_))))) <;> (((first | (refine zA (k := ?_); refine zF (k := ?_)) | refine zE (k := ?_) | ((refine zG (yes := (fun ht => ?_)) (no := (fun ht => ?_)) <;> (try simp at ht) <;> (try (exfalso; omega))) <;> (first | (refine zA (k := ?_); refine zF (k := ?_)) | refine zE (k := ?_))))) <;> (((first | (refine zA (k := ?_); refine zF (k := ?_)) | refine zE (k := ?_) | ((refine zG (yes := (fun ht => ?_)) (no := (fun ht => ?_)) <;> (try simp at ht) <;> (try (exfalso; omega))) <;> (first | (refine zA (k := ?_); refine zF (k := ?_)) | refine zE (k := ?_))))) <;> (((first | (refine zA (k := ?_); (refine yL (k' := ?_); rw [e1])) | refine zE (k := ?_) | ((refine zG (yes := (fun ht => ?_)) (no := (fun ht => ?_)) <;> (try simp at ht) <;> (try (exfalso; omega))) <;> (first | (refine zA (k := ?_); (refine yL (k' := ?_); rw [e1])) | refine zE (k := ?_))))) <;> (((first | (refine zA (k := ?_); (refine zq (k' := ?_))) | refine zE (k := ?_) | ((refine zG (yes := (fun ht => ?_)) (no := (fun ht => ?_)) <;> (try simp at ht) <;> (try (exfalso; omega))) <;> (first | (refine zA (k := ?_); (refine zq (k' := ?_))) | refine zE (k := ?_))))) <;> (((first | (refine zA (k := ?_); (refine zz (k := ?_))) | refine zE (k := ?_) | ((refine zG (yes := (fun ht => ?_)) (no := (fun ht => ?_)) <;> (try simp at ht) <;> (try (exfalso; omega))) <;> (first | (refine zA (k := ?_); (refine zz (k := ?_))) | refine zE (k := ?_))))) <;> (((first | (refine zA (k := ?_); (refine z4 (v := .int .i64 y.s) (j := (k - 1) * 4) (hq := by simp [Addr.add]) (hr := RdS.under (RdS.under h)) (hv := by simpa using ssC_cell (r := 0) hy (by omega) rfl) (k := ?_))) | refine zE (k := ?_) | ((refine zG (yes := (fun ht => ?_)) (no := (fun ht => ?_)) <;> (try simp at ht) <;> (try (exfalso; omega))) <;> (first | (refine zA (k := ?_); (refine z4 (v := .int .i64 y.s) (j := (k - 1) * 4) (hq := by simp [Addr.add]) (hr := RdS.under (RdS.under h)) (hv := by simpa using ssC_cell (r := 0) hy (by omega) rfl) (k := ?_))) | refine zE (k := ?_))))) <;> (((first | (refine zA (k := ?_); refine yH (k' := ?_)) | refine zE (k := ?_) | ((refine zG (yes := (fun ht => ?_)) (no := (fun ht => ?_)) <;> (try simp at ht) <;> (try (exfalso; omega))) <;> (first | (refine zA (k := ?_); refine yH (k' := ?_)) | refine zE (k := ?_))))) <;> ((first | refine zZ (k := ?_) | refine za (k := ?_) | refine zg (k := ?_)); (refine zD (hK _ _ ?_); clear hK K))))))))))))))
        | (refine zC (id := 7) ?_; intro K hK; refine zH (k := ?_); (refine zD (hK _ _ ?_); clear hK K))
        | (refine zC (id := 8) ?_; intro K hK; refine zl (k' := ?_); refine zF (k := ?_); (refine zD (hK _ _ ?_); clear hK K))
        | (refine zc (ht := (fun ht => ?_)) (hf := (fun ht => ?_)) <;> (try simp at ht) <;> (try (exfalso; omega))))
      all_goals exact ⟨k + 1, by omega, by omega, ⟨rfl, rfl, rfl, int_succ k, trivial⟩, Ent.refl _⟩
  obtain rfl : k = l.length := by omega
  repeat' (first
    | refine zi ?_
    | refine zK ?_
    | refine zQ (h := ?_)
    | refine zU (h := ?_)
    | refine zj ?_
    | refine zR ?_
    | refine zW ?_
    | refine zN ?_
    | refine zV ?_
    | refine ze ?_
    | refine zP ?_
    | refine zY ?_
    | refine zS rfl ?_
    | refine zd ?_
    | refine zX ?_
    | refine zO ?_
    | refine zT ?_
    | refine zL ?_
    | (refine zC (id := 4) ?_; intro K hK; refine z6 (k' := ?_); (refine zD (hK _ _ ?_); clear hK K))
    | (refine zC (id := 9) ?_; intro K hK; refine zF (k := ?_); refine zJ (k := ?_); refine zB (k := ?_); refine zM (k := ?_); ((refine xL (k' := ?_))) <;> ((refine zD (hK _ _ ?_); clear hK K)))
    | (refine zC (id := 10) ?_; intro K hK; refine zF (k := ?_); refine zn (k' := ?_); refine zF (k := ?_); (refine zD (hK _ _ ?_); clear hK K))
    | (refine zc (ht := (fun ht => ?_)) (hf := (fun ht => ?_)) <;> (try simp at ht) <;> (try (exfalso; omega))))
  refine yI (α := Nat) (fun k => [(0, .pointer (some ⟨p, 0, none⟩)), (46, .slice a l.length c), (47, .int .i64 l.length), (48, .int .i64 k)]) (fun k => mpA Tryz.prog 3 rm (fS (l.take k)) :: cb p [.int .i64 16, .map (some rm)] 157 :: A0) (fun k => k ≤ l.length) (fun k => l.length - k) 0 (by omega) ⟨rfl, rfl, rfl, rfl, trivial⟩ (by rw [List.take_zero, fS_nil]; exact Ent.refl _) ?_
  intro k G2 hk2
  simp only [ov]
  by_cases hlt : k < l.length
  · obtain ⟨q, rfl⟩ : ∃ q, a = some q := by
      cases a with
      | none => have := h.nil rfl; omega
      | some q => exact ⟨q, rfl⟩
    obtain ⟨x, hx⟩ : ∃ x, l[k]? = some x := ⟨_, List.getElem?_eq_getElem hlt⟩
    have hxo := hses x (List.mem_of_getElem? hx)
    have hkey : keyOf Tryz.prog 3 (.int .i64 x.s) = some (.int .i64 x.s) := Go.Maps.keyOf_int_mk Tryz.underlying3 (wf_int hxo)
    have hput : dput (l.take k) x = l.take (k + 1) := by
      rw [dput_last (ris_take hr hx)]
      obtain ⟨hk3, rfl⟩ := List.getElem?_eq_some_iff.1 hx
      rw [List.take_succ_eq_append_getElem hk3]
    repeat' (first
      | refine zi ?_
      | refine zK ?_
      | refine zQ (h := ?_)
      | refine zU (h := ?_)
      | refine zj ?_
      | refine zR ?_
      | refine zW ?_
      | refine zN ?_
      | refine zV ?_
      | refine ze ?_
      | refine zP ?_
      | refine zY ?_
      | refine zS rfl ?_
      | refine zd ?_
      | refine zX ?_
      | refine zO ?_
      | refine zT ?_
      | refine zL ?_
      | (refine zC (id := 11) ?_; intro K hK; refine z6 (k' := ?_); (refine zD (hK _ _ ?_); clear hK K))
      | (refine zC (id := 12) ?_; intro K hK; ((refine zq (k' := ?_))) <;> (((refine yD (j := k * 4) (cs := x.c) (hq := by simp) (hr := RdS.under (RdS.under h)) (hv := ssC_row hx) (k := ?_))) <;> (((refine zw (k := ?_); intro r7)) <;> (refine zh (ho' := rfl) (k := ?_); (refine zD (hK _ _ ?_); clear hK K)))))
      | (refine z3 (id := 13) (h := ?_); intro K hK; refine zF (k := ?_); refine zJ (k := ?_); refine zB (k := ?_); refine zM (k := ?_); refine zB (k := ?_); refine zM (k := ?_); refine zB (k := ?_); refine zM (k := ?_); refine zB (k := ?_); refine zo (k := ?_); refine zr (k := ?_); ((refine yi (val := x.l) (hK := hKd) (hk := hkey) (k := ?_); rw [fS_put (ris_sub hr k), hput])) <;> ((refine zD (hK _ _ ?_); clear hK K)))
      | (refine zC (id := 14) ?_; intro K hK; refine zl (k' := ?_); refine zF (k := ?_); (refine zD (hK _ _ ?_); clear hK K))
      | (refine zc (ht := (fun ht => ?_)) (hf := (fun ht => ?_)) <;> (try simp at ht) <;> (try (exfalso; omega))))
    exact ⟨k + 1, by omega, by omega, ⟨rfl, rfl, rfl, int_succ k, trivial⟩, by (repeat (first | exact Ent.refl _ | exact Ent.nil | refine Ent.take (by (repeat (first | exact Out.head | apply Out.tail)); (first | done | fail)) ?_ | refine Ent.drop1 ?_))⟩
  obtain rfl : k = l.length := by omega
  repeat' (first
    | refine zi ?_
    | refine zK ?_
    | refine zQ (h := ?_)
    | refine zU (h := ?_)
    | refine zj ?_
    | refine zR ?_
    | refine zW ?_
    | refine zN ?_
    | refine zV ?_
    | refine ze ?_
    | refine zP ?_
    | refine zY ?_
    | refine zS rfl ?_
    | refine zd ?_
    | refine zX ?_
    | refine zO ?_
    | refine zT ?_
    | refine zL ?_
    | (refine zC (id := 11) ?_; intro K hK; refine z6 (k' := ?_); (refine zD (hK _ _ ?_); clear hK K))
    | (refine zC (id := 15) ?_; intro K hK; refine zH (k := ?_); (refine zD (hK _ _ ?_); clear hK K))
    | (refine zc (ht := (fun ht => ?_)) (hf := (fun ht => ?_)) <;> (try simp at ht) <;> (try (exfalso; omega))))
  refine ⟨Or.inr rfl, _, DeP p 16 l :: A0, ?_, res1 rfl rfl, rfl, rfl⟩
  rw [List.take_length]
  exact de_fold (A0 := A0) rm (by simp only [DeX]; simp only [List.cons_append, List.nil_append]; exact Ent.perm (List.Perm.swap ..))
/-- A snapshot's fold. -/
theorem of_spec (A0 : List Asn) (b : SnX) (hb : b.ok) (hps : b.ps.length ≤ 900000) (pa : Option Addr) (pc : Nat) (sa : Option Addr) (sc : Nat) (h1 : RdS Tryz.prog B A0 5 pa b.ps.length pc (prC b.ps)) (h2 : RdS Tryz.prog B A0 4 sa b.ss.length sc (ssC b.ss)) :
    Fspec Tryz.prog B 93 #[.agg #[.int .i64 b.e, .int .i64 b.i, .slice pa b.ps.length pc, .slice sa b.ss.length sc]] A0
      (fun v A' => ∃ k d, v = .agg #[.int .i64 b.e, .int .i64 b.i, .pointer (some ⟨k, 0, none⟩), .pointer (some ⟨d, 0, none⟩)] ∧ A' = MpA k (FoX.of b).t :: DeP d 16 (FoX.of b).L :: A0) := by
  refine spec_of (args := [_]) Tryz.func93 rfl rfl rfl ?_
  repeat' (first
    | refine zi ?_
    | refine zK ?_
    | refine zQ (h := ?_)
    | refine zU (h := ?_)
    | refine zj ?_
    | refine zR ?_
    | refine zW ?_
    | refine zN ?_
    | refine zV ?_
    | refine ze ?_
    | refine zP ?_
    | refine zY ?_
    | refine zS rfl ?_
    | refine zd ?_
    | refine zX ?_
    | refine zO ?_
    | refine zT ?_
    | refine zL ?_
    | (refine zC (id := 0) ?_; intro K hK; ((refine zm (k := ?_); intro r1)) <;> (((refine zw (k := ?_); intro r2)) <;> ((refine zD (hK _ _ ?_); clear hK K))))
    | (refine zC (id := 1) ?_; intro K hK; ((refine zb (hs := blank_spec) (hp := .nil) (k := ?_); rintro v A' ⟨k, d, rfl, rfl⟩; simp only [List.cons_append, List.nil_append])) <;> (((refine zw (k := ?_); intro r3)) <;> (refine zh (ho' := rfl) (k := ?_); (refine zD (hK _ _ ?_); clear hK K))))
    | (refine zC (id := 2) ?_; intro K hK; refine zB (k := ?_); refine zo (k := ?_); refine zB (k := ?_); refine zh (ho' := rfl) (k := ?_); (refine zD (hK _ _ ?_); clear hK K))
    | (refine zC (id := 3) ?_; intro K hK; refine zB (k := ?_); refine zM (k := ?_); refine zn (k' := ?_); refine zF (k := ?_); (refine zD (hK _ _ ?_); clear hK K))
    | (refine zc (ht := (fun ht => ?_)) (hf := (fun ht => ?_)) <;> (try simp at ht) <;> (try (exfalso; omega))))
  refine yI (α := Nat) (fun j => [(1, .pointer (some ⟨r1, 0, none⟩)), (2, .pointer (some ⟨r2, 0, none⟩)), (3, .pointer (some ⟨r3, 0, none⟩)), (11, .slice pa b.ps.length pc), (12, .int .i64 b.ps.length), (13, .int .i64 j)])
    (fun j => MpA k (setAll (b.ps.take j)) :: cb r1 [.int .i64 b.e, .int .i64 b.i, .slice pa b.ps.length pc, .slice sa b.ss.length sc] 37 :: cb r2 [.int .i64 0, .int .i64 0, .pointer none, .pointer none] 83 :: cb r3 [.int .i64 b.e, .int .i64 b.i, .pointer (some ⟨k, 0, none⟩), .pointer (some ⟨d, 0, none⟩)] 83 :: DeP d 16 [] :: A0) (fun j => j ≤ b.ps.length) (fun j => b.ps.length - j) 0 (by omega) ⟨rfl, rfl, rfl, rfl, rfl, rfl, trivial⟩ (by (repeat (first | exact Ent.refl _ | exact Ent.nil | refine Ent.take (by (repeat (first | exact Out.head | apply Out.tail)); (first | done | fail)) ?_ | refine Ent.drop1 ?_))) ?_
  intro j G hj
  simp only [ov]
  by_cases hlt : j < b.ps.length
  · obtain ⟨q, rfl⟩ : ∃ q, pa = some q := by
      cases pa with
      | none => have := h1.nil rfl; omega
      | some q => exact ⟨q, rfl⟩
    obtain ⟨x, hx⟩ : ∃ x, b.ps[j]? = some x := ⟨_, List.getElem?_eq_getElem hlt⟩
    have hs := setAll_succ hx
    have hA := setAll_AA (b.ps.take j)
    have hsz : (setAll (b.ps.take j)).size ≤ 1000000 := Nat.le_trans hA.2 (by simp; omega)
    repeat' (first
      | refine zi ?_
      | refine zK ?_
      | refine zQ (h := ?_)
      | refine zU (h := ?_)
      | refine zj ?_
      | refine zR ?_
      | refine zW ?_
      | refine zN ?_
      | refine zV ?_
      | refine ze ?_
      | refine zP ?_
      | refine zY ?_
      | refine zS rfl ?_
      | refine zd ?_
      | refine zX ?_
      | refine zO ?_
      | refine zT ?_
      | refine zL ?_
      | (refine zC (id := 4) ?_; intro K hK; refine z6 (k' := ?_); (refine zD (hK _ _ ?_); clear hK K))
      | (refine zC (id := 5) ?_; intro K hK; ((refine zq (k' := ?_))) <;> (((refine yD (j := j * 5) (cs := x.c) (hq := by simp) (hr := RdS.ofEnt h1 (Ent.trans (Ent.drop _) (Ent.trans (Ent.drop _) (Ent.trans (Ent.drop _) (Ent.trans (Ent.drop _) (Ent.drop _)))))) (hv := prC_row hx) (k := ?_))) <;> (((refine zw (k := ?_); intro r5)) <;> (refine zh (ho' := rfl) (k := ?_); (refine zD (hK _ _ ?_); clear hK K)))))
      | (refine zC (id := 6) ?_; intro K hK; refine zB (k := ?_); refine zM (k := ?_); refine zB (k := ?_); refine zM (k := ?_); refine zB (k := ?_); refine zo (k := ?_); ((refine zb (hs := mset_spec B k (setAll (b.ps.take j)) x.k x.v hA.1 hsz) (k := ?_); rintro v A' ⟨rfl, rfl⟩; simp only [List.cons_append, List.nil_append]; rw [← hs])) <;> ((refine zD (hK _ _ ?_); clear hK K)))
      | (refine zC (id := 7) ?_; intro K hK; refine zl (k' := ?_); refine zF (k := ?_); (refine zD (hK _ _ ?_); clear hK K))
      | (refine zc (ht := (fun ht => ?_)) (hf := (fun ht => ?_)) <;> (try simp at ht) <;> (try (exfalso; omega))))
    exact ⟨j + 1, by omega, by omega, ⟨rfl, rfl, rfl, rfl, rfl, int_succ j, trivial⟩, by (repeat (first | exact Ent.refl _ | exact Ent.nil | refine Ent.take (by (repeat (first | exact Out.head | apply Out.tail)); (first | done | fail)) ?_ | refine Ent.drop1 ?_))⟩
  obtain rfl : j = b.ps.length := by omega
  rw [List.take_length]
  have hld := load_spec (B := B) A0 d [] b.ss hb.ris hb.few hb.ses sa sc h2
  repeat' (first
    | refine zi ?_
    | refine zK ?_
    | refine zQ (h := ?_)
    | refine zU (h := ?_)
    | refine zj ?_
    | refine zR ?_
    | refine zW ?_
    | refine zN ?_
    | refine zV ?_
    | refine ze ?_
    | refine zP ?_
    | refine zY ?_
    | refine zS rfl ?_
    | refine zd ?_
    | refine zX ?_
    | refine zO ?_
    | refine zT ?_
    | refine zL ?_
    | (refine zC (id := 4) ?_; intro K hK; refine z6 (k' := ?_); (refine zD (hK _ _ ?_); clear hK K))
    | (refine zC (id := 8) ?_; intro K hK; refine zB (k := ?_); refine zM (k := ?_); refine zB (k := ?_); refine zM (k := ?_); ((refine yP (y := DeP d 16 []) (k := ?_); refine zb (hs := hld) (hp := .cons .head (Pick_mid [_, _, _, _] A0)) (k := ?_); rintro v A' ⟨rfl, rfl⟩; refine yB (Ent.perm (of_perm _ A0 _ _ _ _)) ?_)) <;> ((refine zD (hK _ _ ?_); clear hK K)))
    | (refine zC (id := 9) ?_; intro K hK; refine zo (k := ?_); refine zh (ho' := rfl) (k := ?_); (refine zD (hK _ _ ?_); clear hK K))
    | (refine zc (ht := (fun ht => ?_)) (hf := (fun ht => ?_)) <;> (try simp at ht) <;> (try (exfalso; omega))))
  exact ⟨Or.inr rfl, _, MpA k (FoX.of b).t :: DeP d 16 (FoX.of b).L :: A0, by (repeat (first | exact Ent.refl _ | exact Ent.nil | refine Ent.take (by (repeat (first | exact Out.head | apply Out.tail)); (first | done | fail)) ?_ | refine Ent.drop1 ?_)), resG rfl (by (repeat (first | exact ResL.nil | apply ResL.tmp (by (repeat (first | exact Ev.here | exact Ev.const | exact Ev.arg rfl | apply Ev.there rfl | exact Ev.none rfl | exact Ev.func | exact Ev.var)); (first | done | fail)) | apply ResL.agg (by (repeat (first | exact Ev.here | exact Ev.const | exact Ev.arg rfl | apply Ev.there rfl | exact Ev.none rfl | exact Ev.func | exact Ev.var)); (first | done | fail)) (by (repeat (first | exact Rd.head | exact Rd.base (by assumption) | apply Rd.tail)); (first | done | fail)) (by (repeat (first | exact TakeR.nil | apply TakeR.take | apply TakeR.skip)); (first | done | fail)) | apply ResL.cell (by (repeat (first | exact Ev.here | exact Ev.const | exact Ev.arg rfl | apply Ev.there rfl | exact Ev.none rfl | exact Ev.func | exact Ev.var)); (first | done | fail)) (by (repeat (first | exact Rd.head | exact Rd.base (by assumption) | apply Rd.tail)); (first | done | fail)) rfl)); (first | done | fail)) rfl, k, d, rfl, rfl⟩
end specs
end Go.Proofs.YtnoggejkkjngjaaGreat
/- Package state: states: what is written, what stands against an entry. Conditions: none but the kinds' bounds, and not too many entries. -/
set_option maxHeartbeats 8000000
set_option linter.unusedVariables false
set_option linter.unusedSimpArgs false
set_option maxRecDepth 100000
namespace Go.Proofs.YtnoggejkkjngjaaGreat
open Go Go.Sl
attribute [local irreducible] Go.Sl.Wl Go.Sl.Wc Go.Sl.thenQ Go.Sl.blkQ Go.Sl.loopQ Go.Sl.Fspec

/-- A state: epochs, a snapshot, entries behind it. -/
structure G15 where
  table : List Ep
  base : SnX
  es : List EnX
  closed : Bool
def G15.upto (S : G15) (k : Nat) : FoX := (S.es.take k).foldl FoX.put (FoX.of S.base)
def G15.fold (S : G15) : FoX := S.es.foldl FoX.put (FoX.of S.base)
structure G15.ok (S : G15) : Prop where
  tab : rightT S.table = true
  few : S.es.length ≤ 600
  idx : ∀ (k : Nat) (x : EnX), S.es[k]? = some x → x.i = S.base.i + ((k + 1 : Nat) : Int)
  bok : S.base.ok
  bps : S.base.ps.length ≤ 100000
  bi : 0 ≤ S.base.i ∧ S.base.i ≤ 512
  ens : ∀ x ∈ S.es, x.ok
theorem foldl_ok : ∀ (l : List EnX) (f : FoX) (n : Nat), f.ok n → (l.foldl FoX.put f).ok (n + l.length)
  | [], _, _, h => h
  | x :: l, f, n, h => by
    have := foldl_ok l (f.put x) (n + 1) (h.put x)
    rw [List.length_cons, show n + (l.length + 1) = n + 1 + l.length by omega]
    exact this
theorem G15.fold_ok {S : G15} (h : S.ok) : S.fold.ok 100600 := (foldl_ok S.es (FoX.of S.base) S.base.ps.length (FoX.of_ok h.bok)).mono (by have := h.few; have := h.bps; omega)
theorem G15.upto_ok {S : G15} (h : S.ok) (k : Nat) : (S.upto k).ok 100600 := (foldl_ok (S.es.take k) (FoX.of S.base) S.base.ps.length (FoX.of_ok h.bok)).mono (by have := h.few; have := h.bps; simp; omega)
theorem G15.upto_succ {S : G15} {k : Nat} {x : EnX} (h : S.es[k]? = some x) : S.upto (k + 1) = (S.upto k).put x := by
  unfold G15.upto
  obtain ⟨hk, rfl⟩ := List.getElem?_eq_some_iff.1 h
  rw [List.take_succ_eq_append_getElem hk, List.foldl_append]; rfl
theorem G15.upto_all (S : G15) : S.upto S.es.length = S.fold := by unfold G15.upto G15.fold; rw [List.take_length]
theorem G15.upto_i {S : G15} (hS : S.ok) : ∀ k : Nat, k ≤ S.es.length → (S.upto k).i = S.base.i + (k : Int)
  | 0, _ => by show S.base.i = _; simp
  | k + 1, h => by
    obtain ⟨x, hx⟩ : ∃ x, S.es[k]? = some x := ⟨_, List.getElem?_eq_getElem (by omega)⟩
    rw [G15.upto_succ hx]; exact hS.idx k x hx
theorem G15.fold_i {S : G15} (hS : S.ok) : S.fold.i = S.base.i + (S.es.length : Int) := by rw [← G15.upto_all]; exact G15.upto_i hS _ (Nat.le_refl _)
def esC (l : List EnX) : List Value := l.flatMap EnX.c
theorem esC_len (l : List EnX) : (esC l).length = l.length * 7 := by
  induction l with
  | nil => rfl
  | cons x l ih => simp only [esC] at ih; simp [esC, EnX.c, ih]; omega
theorem esC_row {l : List EnX} {k : Nat} {x : EnX} (h : l[k]? = some x) : ((esC l).drop (k * 7)).take 7 = x.c := flatMap_row (fun _ _ => rfl) h
theorem esC_app (l m : List EnX) : esC (l ++ m) = esC l ++ esC m := by simp [esC]
def GtR (S : G15) (ta : Option Addr) (tc : Nat) (pa : Option Addr) (pc : Nat) (sa : Option Addr) (sc : Nat) (ea : Option Addr) (ec : Nat) : List Value := [.slice ta S.table.length tc, .int .i64 S.base.e, .int .i64 S.base.i, .slice pa S.base.ps.length pc, .slice sa S.base.ss.length sc, .slice ea S.es.length ec, .bool S.closed]
structure Gq where
  k : Nat
  d : Nat
  ta : Option Addr
  tc : Nat
  pa : Option Addr
  pc : Nat
  sa : Option Addr
  sc : Nat
  ea : Option Addr
  ec : Nat
def GtL (st : Nat) (S : G15) (q : Gq) : List Asn :=
  [cb st (.int .i64 S.fold.e :: .int .i64 S.fold.i :: .pointer (some ⟨q.k, 0, none⟩) :: .pointer (some ⟨q.d, 0, none⟩) :: GtR S q.ta q.tc q.pa q.pc q.sa q.sc q.ea q.ec) 86, MpA q.k S.fold.t, DeP q.d 16 S.fold.L,
   own q.ta S.table.length q.tc 3 (epsC S.table) 45, own q.pa S.base.ps.length q.pc 5 (prC S.base.ps) 57, own q.sa S.base.ss.length q.sc 4 (ssC S.base.ss) 111, own q.ea S.es.length q.ec 7 (esC S.es) 43]
def GtP (st : Nat) (S : G15) : Asn := exN (GtL st S)
theorem gt_fold {st : Nat} {S : G15} {X A0 : List Asn} (q : Gq) (h : Ent X (GtL st S q ++ A0)) : Ent X (GtP st S :: A0) := h.trans (Ent.exN_shut (f := GtL st S) q A0)
def numB (n : Int) : Bool := decide (1 ≤ n ∧ n ≤ 9007199254740992)
/-- What stands against an entry. -/
def gcwV (S : G15) (x : EnX) : Int :=
  if S.closed = true then 10 else if x.i ≠ S.fold.i + 1 then 9 else if 512 < x.i then 5 else
  if ¬ (x.e = (atT S.table x.i).1 ∧ x.i = (atT S.table x.i).2) then 8 else
  if numB x.s = false ∨ numB x.r = false ∨ (x.del = true ∧ x.tx.toList ≠ []) then 1 else
  if x.key.size < 1 ∨ 64 < x.key.size ∨ 1024 < x.tx.size then 3 else
  if (lookV S.fold.L 16 x.s x.r).1 = 2 ∨ (lookV S.fold.L 16 x.s x.r).1 = 3 then 13 else if (lookV S.fold.L 16 x.s x.r).1 = 4 then 4 else 0
section specs
variable {B : Base}
theorem number_spec (n : Int) : Fspec Tryz.prog B 79 #[.int .i64 n] [] (fun v A' => v = .bool (numB n) ∧ A' = []) := by
  refine spec_of (args := [_]) Tryz.func79 rfl rfl rfl ?_
  repeat' (first
    | refine zi ?_
    | refine zK ?_
    | refine zQ (h := ?_)
    | refine zU (h := ?_)
    | refine zj ?_
    | refine zR ?_
    | refine zW ?_
    | refine zN ?_
    | refine zV ?_
    | refine ze ?_
    | refine zP ?_
    | refine zY ?_
    | refine zS rfl ?_
    | refine zd ?_
    | refine zX ?_
    | refine zO ?_
    | refine zT ?_
    | refine zL ?_
    | (refine zC (id := 0) ?_; intro K hK; refine zH (k := ?_); (refine zD (hK _ _ ?_); clear hK K))
    | (refine zC (id := 1) ?_; intro K hK; refine zF (k := ?_); refine yV (k' := ?_); refine zF (k := ?_); ((first | (refine zA (k := ?_); refine zF (k := ?_)) | refine zE (k := ?_) | ((refine zG (yes := (fun ht => ?_)) (no := (fun ht => ?_)) <;> (try simp at ht) <;> (try (exfalso; omega))) <;> (first | (refine zA (k := ?_); refine zF (k := ?_)) | refine zE (k := ?_))))) <;> (((first | (refine zA (k := ?_); refine yH (k' := ?_)) | refine zE (k := ?_) | ((refine zG (yes := (fun ht => ?_)) (no := (fun ht => ?_)) <;> (try simp at ht) <;> (try (exfalso; omega))) <;> (first | (refine zA (k := ?_); refine yH (k' := ?_)) | refine zE (k := ?_))))) <;> ((first | refine zZ (k := ?_) | refine za (k := ?_) | refine zg (k := ?_)); refine zH (k := ?_); (refine zD (hK _ _ ?_); clear hK K))))
    | (refine zc (ht := (fun ht => ?_)) (hf := (fun ht => ?_)) <;> (try simp at ht) <;> (try (exfalso; omega))))
  all_goals exact ⟨Or.inr rfl, _, [], Ent.nil, res1 rfl rfl, congrArg Value.bool (by unfold numB; first | (symm; exact decide_eq_false (by omega)) | exact decide_eq_decide.2 (by omega)), rfl⟩
theorem look_range (L : List SX) (lim s r : Int) : (lookV L lim s r).1 = 1 ∨ (lookV L lim s r).1 = 2 ∨ (lookV L lim s r).1 = 3 ∨ (lookV L lim s r).1 = 4 := by
  unfold lookV
  split
  · split <;> simp
  · split
    · simp
    · split <;> simp
theorem pos_ceq (a b c d : Int) : ceqL [.int .i64 a, .int .i64 b] [.int .i64 c, .int .i64 d] = decide (a = c ∧ b = d) := by
  simp [ceqL, ceq, Bool.beq_eq_decide_eq]
theorem gcheckWrite_spec (st : Nat) (S : G15) (hS : S.ok) (x : EnX) (hx : x.ok) (hi : -9223372036854775808 ≤ x.i ∧ x.i ≤ 9223372036854775807) :
    Fspec Tryz.prog B 37 #[.pointer (some ⟨st, 0, none⟩), .agg x.c.toArray] [GtP st S] (fun v A' => v = .int .i64 (gcwV S x) ∧ A' = [GtP st S]) := by
  have hfo := G15.fold_ok hS
  have hidx := G15.fold_i hS
  have hbi := hS.bi
  have hfew := hS.few
  have htab := rightT_out hS.tab
  refine spec_of (args := [_, _]) Tryz.func37 rfl rfl rfl ?_
  refine yE (fun q => ?_)
  simp only [GtL]
  simp only [List.cons_append, List.nil_append]
  refine yW (a := q.ta) (sz := 3) (ho := (by (repeat (first | exact Out.head | apply Out.tail)); (first | done | fail))) (h0 := by omega) (h := fun hft => ?_)
  have hat := at_spec (B := B) [own q.ta S.table.length q.tc 3 (epsC S.table) 45] S.table q.ta q.tc (hft.rd .head) (by omega) x.i
  obtain ⟨a1, ha1⟩ : ∃ a, (atT S.table x.i).1 = a := ⟨_, rfl⟩
  obtain ⟨a2, ha2⟩ : ∃ a, (atT S.table x.i).2 = a := ⟨_, rfl⟩
  rw [ha1, ha2] at hat
  obtain ⟨b8, hb8⟩ : ∃ b, ceqL [.int .i64 x.e, .int .i64 x.i] [.int .i64 a1, .int .i64 a2] = b := ⟨_, rfl⟩
  have hb8' : b8 = decide (x.e = a1 ∧ x.i = a2) := by rw [← hb8, pos_ceq]
  obtain ⟨n1, hn1⟩ : ∃ b, numB x.s = b := ⟨_, rfl⟩
  obtain ⟨n2, hn2⟩ : ∃ b, numB x.r = b := ⟨_, rfl⟩
  obtain ⟨lk, hlk⟩ : ∃ k, (lookV S.fold.L 16 x.s x.r).1 = k := ⟨_, rfl⟩
  have hlr := look_range S.fold.L 16 x.s x.r
  rw [hlk] at hlr
  have hnum1 := number_spec (B := B) x.s
  have hnum2 := number_spec (B := B) x.r
  rw [hn1] at hnum1
  rw [hn2] at hnum2
  simp only [GtR]
  repeat' (first
    | refine zi ?_
    | refine zK ?_
    | refine zQ (h := ?_)
    | refine zU (h := ?_)
    | refine zj ?_
    | refine zR ?_
    | refine zW ?_
    | refine zN ?_
    | refine zV ?_
    | refine ze ?_
    | refine zP ?_
    | refine zY ?_
    | refine zS rfl ?_
    | refine zd ?_
    | refine zX ?_
    | refine zO ?_
    | refine zT ?_
    | refine zL ?_
    | (refine zC (id := 0) ?_; intro K hK; ((refine zm (l := x.c) (k := ?_); intro r3; simp only [EnX.c])) <;> (refine zH (k := ?_); (refine zD (hK _ _ ?_); clear hK K)))
    | (refine zC (id := 1) ?_; intro K hK; refine zF (k := ?_); refine zJ (k := ?_); refine zB (k := ?_); refine zM (k := ?_); refine zH (k := ?_); (refine zD (hK _ _ ?_); clear hK K))
    | (refine zC (id := 2) ?_; intro K hK; refine zH (k := ?_); (refine zD (hK _ _ ?_); clear hK K))
    | (refine z3 (id := 3) (h := ?_); intro K hK; refine zB (k := ?_); refine zB (k := ?_); refine zM (k := ?_); refine zF (k := ?_); refine zJ (k := ?_); refine zB (k := ?_); refine zB (k := ?_); refine zB (k := ?_); refine zM (k := ?_); refine zl (k' := ?_); refine z8 (k' := ?_); refine zH (k := ?_); (refine zD (hK _ _ ?_); clear hK K))
    | (refine zC (id := 4) ?_; intro K hK; refine zH (k := ?_); (refine zD (hK _ _ ?_); clear hK K))
    | (refine zC (id := 5) ?_; intro K hK; refine zB (k := ?_); refine zB (k := ?_); refine zM (k := ?_); refine z0 (k' := ?_); refine zH (k := ?_); (refine zD (hK _ _ ?_); clear hK K))
    | (refine zC (id := 6) ?_; intro K hK; refine zH (k := ?_); (refine zD (hK _ _ ?_); clear hK K))
    | ((refine yY (id := 7) (M := ([cb r3 x.c 43, cb st (.int .i64 S.fold.e :: .int .i64 S.fold.i :: .pointer (some ⟨q.k, 0, none⟩) :: .pointer (some ⟨q.d, 0, none⟩) :: GtR S q.ta q.tc q.pa q.pc q.sa q.sc q.ea q.ec) 86])) (Ls := [31, 35, 38, 40]) (t := (.step 0 (.step 1 (.step 2 (.step 3 (.step 4 (.step 5 (.step 6 (.step 7 (.step 8 (.step 9 (.step 10 (.step 11 .done))))))))))))) (bad := []) (hok := (by decide +kernel)) (hp := (Pick.perm (by (repeat (first | exact Pick.nil | apply Pick.cons (by (repeat (first | exact Out.head | apply Out.tail)); (first | done | fail)))); (first | done | fail)))) (h := ?_); intro K hK; repeat' (first | refine z1 ?_ ?_ | (refine zI (i := 0) rfl ?_; (refine zB (k := ?_)) <;> (refine zD ?_)) | (refine zI (i := 1) rfl ?_; (refine yC (k := ?_)) <;> (refine zD ?_)) | (refine zI (i := 2) rfl ?_; (refine zF (k := ?_)) <;> (refine zD ?_)) | (refine zI (i := 3) rfl ?_; (refine zJ (k := ?_)) <;> (refine zD ?_)) | (refine zI (i := 4) rfl ?_; (refine zB (k := ?_)) <;> (refine zD ?_)) | (refine zI (i := 5) rfl ?_; (refine z2 (k := ?_)) <;> (refine zD ?_)) | (refine zI (i := 6) rfl ?_; (refine zB (k := ?_)) <;> (refine zD ?_)) | (refine zI (i := 7) rfl ?_; (refine zB (k := ?_)) <;> (refine zD ?_)) | (refine zI (i := 8) rfl ?_; (refine z2 (k := ?_)) <;> (refine zD ?_)) | (refine zI (i := 9) rfl ?_; ((refine zb (hs := hat) (k := ?_); rintro v A' ⟨rfl, rfl⟩; simp only [List.cons_append, List.nil_append])) <;> (refine zD ?_)) | (refine zI (i := 10) rfl ?_; ((refine yX (hb := hb8) (k' := ?_))) <;> (refine zD ?_)) | (refine zI (i := 11) rfl ?_; (refine zH (k := ?_)) <;> (refine zD ?_)) | (refine zx (hK _ _ ?_); clear hK K; try simp only [List.cons_append, List.nil_append]))))
    | (refine zC (id := 8) ?_; intro K hK; refine zH (k := ?_); (refine zD (hK _ _ ?_); clear hK K))
    | (refine zC (id := 9) ?_; intro K hK; refine zB (k := ?_); refine zM (k := ?_); ((refine zb (hs := hnum1) (k := ?_); rintro v A' ⟨rfl, rfl⟩; simp only [List.cons_append, List.nil_append])) <;> (refine z7 (k' := ?_); refine zF (k := ?_); ((first | (refine zA (k := ?_); refine zB (k := ?_)) | refine zE (k := ?_) | ((refine zG (yes := (fun ht => ?_)) (no := (fun ht => ?_)) <;> (try simp at ht) <;> (try (exfalso; omega))) <;> (first | (refine zA (k := ?_); refine zB (k := ?_)) | refine zE (k := ?_))))) <;> (((first | (refine zA (k := ?_); refine zM (k := ?_)) | refine zE (k := ?_) | ((refine zG (yes := (fun ht => ?_)) (no := (fun ht => ?_)) <;> (try simp at ht) <;> (try (exfalso; omega))) <;> (first | (refine zA (k := ?_); refine zM (k := ?_)) | refine zE (k := ?_))))) <;> (((first | (refine zA (k := ?_); (refine zb (hs := hnum2) (k := ?_); rintro v A' ⟨rfl, rfl⟩; simp only [List.cons_append, List.nil_append])) | refine zE (k := ?_) | ((refine zG (yes := (fun ht => ?_)) (no := (fun ht => ?_)) <;> (try simp at ht) <;> (try (exfalso; omega))) <;> (first | (refine zA (k := ?_); (refine zb (hs := hnum2) (k := ?_); rintro v A' ⟨rfl, rfl⟩; simp only [List.cons_append, List.nil_append])) | refine zE (k := ?_))))) <;> (((first | (refine zA (k := ?_); refine z7 (k' := ?_)) | refine zE (k := ?_) | ((refine zG (yes := (fun ht => ?_)) (no := (fun ht => ?_)) <;> (try simp at ht) <;> (try (exfalso; omega))) <;> (first | (refine zA (k := ?_); refine z7 (k' := ?_)) | refine zE (k := ?_))))) <;> ((first | refine zZ (k := ?_) | refine za (k := ?_) | refine zg (k := ?_)); refine zF (k := ?_); ((first | (refine zA (k := ?_); refine zB (k := ?_)) | refine zE (k := ?_) | ((refine zG (yes := (fun ht => ?_)) (no := (fun ht => ?_)) <;> (try simp at ht) <;> (try (exfalso; omega))) <;> (first | (refine zA (k := ?_); refine zB (k := ?_)) | refine zE (k := ?_))))) <;> (((first | (refine zA (k := ?_); refine zM (k := ?_)) | refine zE (k := ?_) | ((refine zG (yes := (fun ht => ?_)) (no := (fun ht => ?_)) <;> (try simp at ht) <;> (try (exfalso; omega))) <;> (first | (refine zA (k := ?_); refine zM (k := ?_)) | refine zE (k := ?_))))) <;> (((first | (refine zA (k := ?_); refine zF (k := ?_)) | refine zE (k := ?_) | ((refine zG (yes := (fun ht => ?_)) (no := (fun ht => ?_)) <;> (try simp at ht) <;> (try (exfalso; omega))) <;> (first | (refine zA (k := ?_); refine zF (k := ?_)) | refine zE (k := ?_))))) <;> (((first | (refine zA (k := ?_); refine zB (k := ?_)) | refine zE (k := ?_) | ((refine zG (yes := (fun ht => ?_)) (no := (fun ht => ?_)) <;> (try simp at ht) <;> (try (exfalso; omega))) <;> (first | (refine zA (k := ?_); refine zB (k := ?_)) | refine zE (k := ?_))))) <;> (((first | (refine zA (k := ?_); refine zM (k := ?_)) | refine zE (k := ?_) | ((refine zG (yes := (fun ht => ?_)) (no := (fun ht => ?_)) <;> (try simp at ht) <;> (try (exfalso; omega))) <;> (first | (refine zA (k := ?_); refine zM (k := ?_)) | refine zE (k := ?_))))) <;> (((first | (refine zA (k := ?_); refine yM (k' := ?_)) | refine zE (k := ?_) | ((refine zG (yes := (fun ht => ?_)) (no := (fun ht => ?_)) <;> (try simp at ht) <;> (try (exfalso; omega))) <;> (first | (refine zA (k := ?_); refine yM (k' := ?_)) | refine zE (k := ?_))))) <;> (((first | (refine zA (k := ?_); (first | refine zZ (k := ?_) | refine za (k := ?_) | refine zg (k := ?_))) | refine zE (k := ?_) | ((refine zG (yes := (fun ht => ?_)) (no := (fun ht => ?_)) <;> (try simp at ht) <;> (try (exfalso; omega))) <;> (first | (refine zA (k := ?_); (first | refine zZ (k := ?_) | refine za (k := ?_) | refine zg (k := ?_))) | refine zE (k := ?_))))) <;> ((first | refine zZ (k := ?_) | refine za (k := ?_) | refine zg (k := ?_)); refine zH (k := ?_); (refine zD (hK _ _ ?_); clear hK K))))))))))))))
    | (refine zC (id := 10) ?_; intro K hK; refine zH (k := ?_); (refine zD (hK _ _ ?_); clear hK K))
    | (refine zC (id := 11) ?_; intro K hK; refine zB (k := ?_); refine zM (k := ?_); refine zk (k' := ?_); refine z6 (k' := ?_); refine zF (k := ?_); ((first | (refine zA (k := ?_); refine zB (k := ?_)) | refine zE (k := ?_) | ((refine zG (yes := (fun ht => ?_)) (no := (fun ht => ?_)) <;> (try simp at ht) <;> (try (exfalso; omega))) <;> (first | (refine zA (k := ?_); refine zB (k := ?_)) | refine zE (k := ?_))))) <;> (((first | (refine zA (k := ?_); refine zM (k := ?_)) | refine zE (k := ?_) | ((refine zG (yes := (fun ht => ?_)) (no := (fun ht => ?_)) <;> (try simp at ht) <;> (try (exfalso; omega))) <;> (first | (refine zA (k := ?_); refine zM (k := ?_)) | refine zE (k := ?_))))) <;> (((first | (refine zA (k := ?_); refine zk (k' := ?_)) | refine zE (k := ?_) | ((refine zG (yes := (fun ht => ?_)) (no := (fun ht => ?_)) <;> (try simp at ht) <;> (try (exfalso; omega))) <;> (first | (refine zA (k := ?_); refine zk (k' := ?_)) | refine zE (k := ?_))))) <;> (((first | (refine zA (k := ?_); refine z0 (k' := ?_)) | refine zE (k := ?_) | ((refine zG (yes := (fun ht => ?_)) (no := (fun ht => ?_)) <;> (try simp at ht) <;> (try (exfalso; omega))) <;> (first | (refine zA (k := ?_); refine z0 (k' := ?_)) | refine zE (k := ?_))))) <;> ((first | refine zZ (k := ?_) | refine za (k := ?_) | refine zg (k := ?_)); refine zF (k := ?_); ((first | (refine zA (k := ?_); refine zB (k := ?_)) | refine zE (k := ?_) | ((refine zG (yes := (fun ht => ?_)) (no := (fun ht => ?_)) <;> (try simp at ht) <;> (try (exfalso; omega))) <;> (first | (refine zA (k := ?_); refine zB (k := ?_)) | refine zE (k := ?_))))) <;> (((first | (refine zA (k := ?_); refine zM (k := ?_)) | refine zE (k := ?_) | ((refine zG (yes := (fun ht => ?_)) (no := (fun ht => ?_)) <;> (try simp at ht) <;> (try (exfalso; omega))) <;> (first | (refine zA (k := ?_); refine zM (k := ?_)) | refine zE (k := ?_))))) <;> (((first | (refine zA (k := ?_); refine zk (k' := ?_)) | refine zE (k := ?_) | ((refine zG (yes := (fun ht => ?_)) (no := (fun ht => ?_)) <;> (try simp at ht) <;> (try (exfalso; omega))) <;> (first | (refine zA (k := ?_); refine zk (k' := ?_)) | refine zE (k := ?_))))) <;> (((first | (refine zA (k := ?_); refine z0 (k' := ?_)) | refine zE (k := ?_) | ((refine zG (yes := (fun ht => ?_)) (no := (fun ht => ?_)) <;> (try simp at ht) <;> (try (exfalso; omega))) <;> (first | (refine zA (k := ?_); refine z0 (k' := ?_)) | refine zE (k := ?_))))) <;> ((first | refine zZ (k := ?_) | refine za (k := ?_) | refine zg (k := ?_)); refine zH (k := ?_); (refine zD (hK _ _ ?_); clear hK K))))))))))
    | (refine zC (id := 12) ?_; intro K hK; refine zH (k := ?_); (refine zD (hK _ _ ?_); clear hK K))
    | ((refine xK (id := 13) (t := (.step 0 (.step 1 (.step 2 (.step 3 (.step 4 (.step 5 (.step 6 (.step 7 (.step 8 (.alt (.step 9 (.step 10 (.step 11 (.step 12 (.step 13 (.step 14 (.step 15 .done))))))) (.step 13 (.step 9 (.step 10 (.step 11 (.step 12 (.step 14 (.step 15 .done)))))))))))))))))) (bad := [9, 13]) (hok := (by decide +kernel)) (h := ?_); intro K hK; repeat' (first | refine z1 ?_ ?_ | (refine zI (i := 0) rfl ?_; (refine zF (k := ?_)) <;> (refine zD ?_)) | (refine zI (i := 1) rfl ?_; (refine zJ (k := ?_)) <;> (refine zD ?_)) | (refine zI (i := 2) rfl ?_; (refine zB (k := ?_)) <;> (refine zD ?_)) | (refine zI (i := 3) rfl ?_; (refine zB (k := ?_)) <;> (refine zD ?_)) | (refine zI (i := 4) rfl ?_; (refine zM (k := ?_)) <;> (refine zD ?_)) | (refine zI (i := 5) rfl ?_; (refine zB (k := ?_)) <;> (refine zD ?_)) | (refine zI (i := 6) rfl ?_; (refine zM (k := ?_)) <;> (refine zD ?_)) | (refine zI (i := 7) rfl ?_; (refine zB (k := ?_)) <;> (refine zD ?_)) | (refine zI (i := 8) rfl ?_; (refine zM (k := ?_)) <;> (refine zD ?_)) | (refine zI (i := 9) rfl ?_; ((refine zb (hs := look_spec q.d 16 S.fold.L hfo.ris x.s x.r hx) (k := ?_); rintro v A' ⟨rfl, rfl⟩; simp only [List.cons_append, List.nil_append]; rw [hlk])) <;> (refine zD ?_)) | (refine zI (i := 10) rfl ?_; (refine zF (k := ?_)) <;> (refine zD ?_)) | (refine zI (i := 11) rfl ?_; (refine zu (k' := ?_)) <;> (refine zD ?_)) | (refine zI (i := 12) rfl ?_; (refine zu (k' := ?_)) <;> (refine zD ?_)) | (refine zI (i := 13) rfl ?_; ((refine zw (k := ?_); intro r6)) <;> (refine zD ?_)) | (refine zI (i := 14) rfl ?_; (refine zH (k := ?_)) <;> (refine zD ?_)) | (refine zI (i := 15) rfl ?_; (refine zh (ho' := rfl) (k := ?_)) <;> (refine zD ?_)) | (refine zx (hK _ _ ?_); clear hK K))))
    | (refine zC (id := 14) ?_; intro K hK; refine zF (k := ?_); (refine zD (hK _ _ ?_); clear hK K))
    | (refine zC (id := 15) ?_; intro K hK; refine zp (k' := ?_); refine zH (k := ?_); (refine zD (hK _ _ ?_); clear hK K))
    | (refine zC (id := 16) ?_; intro K hK; refine zp (k' := ?_); refine zH (k := ?_); (refine zD (hK _ _ ?_); clear hK K))
    | (refine zC (id := 17) ?_; intro K hK; refine zH (k := ?_); (refine zD (hK _ _ ?_); clear hK K))
    | (refine zC (id := 18) ?_; intro K hK; refine zp (k' := ?_); refine zH (k := ?_); (refine zD (hK _ _ ?_); clear hK K))
    | (refine zC (id := 19) ?_; intro K hK; refine zH (k := ?_); (refine zD (hK _ _ ?_); clear hK K))
    | (refine zC (id := 20) ?_; intro K hK; refine zH (k := ?_); (refine zD (hK _ _ ?_); clear hK K))
    | (refine zc (ht := (fun ht => ?_)) (hf := (fun ht => ?_)) <;> (try simp at ht) <;> (try (exfalso; omega))))
  all_goals
    refine ⟨Or.inr rfl, _, [GtP st S], gt_fold (A0 := []) q (by simp only [GtL, GtR]; simp only [List.cons_append, List.nil_append]; (repeat (first | exact Ent.refl _ | exact Ent.nil | refine Ent.take (by (repeat (first | exact Out.head | apply Out.tail)); (first | done | fail)) ?_ | refine Ent.drop1 ?_))), res1 rfl rfl, congrArg (Value.int .i64) ?_, rfl⟩
    clear hat hnum1 hnum2 hft hfo htab hS hb8
    unfold gcwV
    rw [hn1, hn2, hlk, ha1, ha2]
    clear hn1 hn2 hlk ha1 ha2
    (repeat' split) <;> first | rfl | (exfalso; omega) | (exfalso; simp_all; done) | (exfalso; simp_all; omega)
end specs
end Go.Proofs.YtnoggejkkjngjaaGreat
/- Package state: states: the fold anew, an epoch. Conditions: none but the kinds' bounds, and not too many entries. -/
set_option maxHeartbeats 8000000
set_option linter.unusedVariables false
set_option linter.unusedSimpArgs false
set_option maxRecDepth 100000
namespace Go.Proofs.YtnoggejkkjngjaaGreat
open Go Go.Sl
attribute [local irreducible] Go.Sl.Wl Go.Sl.Wc Go.Sl.thenQ Go.Sl.blkQ Go.Sl.loopQ Go.Sl.Fspec

/-- The entries of an epoch's beginning. -/
def SnX.zero : SnX := ⟨0, 0, [], []⟩
def gadoptV (S : G15) (e : Ep) : G15 := if S.fold.i ≤ e.cut then { S with table := S.table ++ [e], closed := false } else if S.base.i ≤ e.cut then { table := S.table ++ [e], base := S.base, es := S.es.take (e.cut - S.base.i).toNat, closed := false } else { table := S.table ++ [e], base := SnX.zero, es := [], closed := false }
def gwriteV (S : G15) (x : EnX) : G15 := { S with es := S.es ++ [x] }
theorem gfold_write (S : G15) (x : EnX) : (gwriteV S x).fold = S.fold.put x := by unfold G15.fold gwriteV; simp [List.foldl_append]
theorem own_take {a : Option Addr} {len cap sz k : Nat} {cs : List Value} {E : TypeId} (hk : k ≤ len) (L : List Asn) : Ent (own a len cap sz cs E :: L) (own a k cap sz (cs.take (k * sz)) E :: L) := fun m U hs => by
  rcases own_open hs with ⟨rfl, rfl, rfl, rfl, h⟩ | ⟨r, spare, rfl, h1, h2, h⟩
  · obtain rfl : k = 0 := by omega
    simpa using own_nil sz E L m U h
  · have hle : k * sz ≤ len * sz := Nat.mul_le_mul_right _ hk
    have e : cs ++ spare = cs.take (k * sz) ++ (cs.drop (k * sz) ++ spare) := by rw [← List.append_assoc, List.take_append_drop]
    rw [e] at h h2
    exact own_shut r k cap sz _ _ E L (by simp; omega) h2 m U h
theorem esC_take (l : List EnX) (k : Nat) : (esC l).take (k * 7) = esC (l.take k) := by
  by_cases h : k ≤ l.length
  · have e : esC l = esC (l.take k) ++ esC (l.drop k) := by rw [← esC_app, List.take_append_drop]
    have hl : (esC (l.take k)).length = k * 7 := by rw [esC_len]; simp; omega
    rw [e, ← hl, List.take_left]
  · rw [List.take_of_length_le (by rw [esC_len]; omega), List.take_of_length_le (l := l) (by omega)]
theorem G15.ok.take {S : G15} (h : S.ok) (e : Ep) (hT : rightT (S.table ++ [e]) = true) (k : Nat) : (G15.mk (S.table ++ [e]) S.base (S.es.take k) false).ok := by
  refine ⟨hT, ?_, ?_, h.bok, h.bps, h.bi, ?_⟩
  · have := h.few; simp; omega
  · intro j x hx
    have hx' : (S.es.take k)[j]? = some x := hx
    rw [List.getElem?_take] at hx'
    split at hx'
    · exact h.idx j x hx'
    · cases hx'
  · intro x hx; exact h.ens x (List.mem_of_mem_take hx)
theorem SnX.zero_ok : SnX.zero.ok := ⟨by simp [SnX.zero, RisS], by simp [SnX.zero], by simp [SnX.zero]⟩
theorem wiped_ok {T : List Ep} (hT : rightT T = true) : (G15.mk T SnX.zero [] false).ok :=
  ⟨hT, by simp, by simp, SnX.zero_ok, by simp [SnX.zero], by simp [SnX.zero], by simp⟩
theorem gadopt_ok {S : G15} (h : S.ok) (e : Ep) (hT : rightT (S.table ++ [e]) = true) : (gadoptV S e).ok := by
  unfold gadoptV
  split
  · exact ⟨hT, h.few, h.idx, h.bok, h.bps, h.bi, h.ens⟩
  · split
    · exact h.take e hT _
    · exact wiped_ok hT
section specs
variable {B : Base}
theorem gagain_spec (st : Nat) (S : G15) (hS : S.ok) (a0 a1 : Int) (v0 v1 : Value) (q : Gq) :
    Fspec Tryz.prog B 54 #[.pointer (some ⟨st, 0, none⟩)]
      [cb st (.int .i64 a0 :: .int .i64 a1 :: v0 :: v1 :: GtR S q.ta q.tc q.pa q.pc q.sa q.sc q.ea q.ec) 86, own q.ta S.table.length q.tc 3 (epsC S.table) 45, own q.pa S.base.ps.length q.pc 5 (prC S.base.ps) 57, own q.sa S.base.ss.length q.sc 4 (ssC S.base.ss) 111, own q.ea S.es.length q.ec 7 (esC S.es) 43]
      (fun v A' => v = .tuple #[] ∧ A' = [GtP st S]) := by
  have hfew := hS.few
  obtain ⟨qk, qd, ta, tc, pa, pc, sa, sc, ea, ec⟩ := q
  simp only
  refine spec_of (args := [_]) Tryz.func54 rfl rfl rfl ?_
  refine yW (a := ea) (sz := 7) (ho := (by (repeat (first | exact Out.head | apply Out.tail)); (first | done | fail))) (h0 := by omega) (h := fun hfe => ?_)
  refine yW (a := pa) (sz := 5) (ho := (by (repeat (first | exact Out.head | apply Out.tail)); (first | done | fail))) (h0 := by omega) (h := fun hfp => ?_)
  refine yW (a := sa) (sz := 4) (ho := (by (repeat (first | exact Out.head | apply Out.tail)); (first | done | fail))) (h0 := by omega) (h := fun hfs => ?_)
  have hbps := hS.bps
  have hof := of_spec (B := B) [own pa S.base.ps.length pc 5 (prC S.base.ps) 57, own sa S.base.ss.length sc 4 (ssC S.base.ss) 111] S.base hS.bok (by omega) pa pc sa sc (hfp.rd .head) (hfs.rd (.tail .head))
  simp only [GtR]
  repeat' (first
    | refine zi ?_
    | refine zK ?_
    | refine zQ (h := ?_)
    | refine zU (h := ?_)
    | refine zj ?_
    | refine zR ?_
    | refine zW ?_
    | refine zN ?_
    | refine zV ?_
    | refine ze ?_
    | refine zP ?_
    | refine zY ?_
    | refine zS rfl ?_
    | refine zd ?_
    | refine zX ?_
    | refine zO ?_
    | refine zT ?_
    | refine zL ?_
    | (refine zC (id := 0) ?_; intro K hK; refine zF (k := ?_); refine zF (k := ?_); refine zJ (k := ?_); refine zB (k := ?_); refine zo (k := ?_); ((refine zb (hs := hof) (k := ?_); rintro v A' ⟨k, d, rfl, rfl⟩; simp only [List.cons_append, List.nil_append])) <;> (refine zJ (k := ?_); refine zB (k := ?_); refine zh (ho' := rfl) (k := ?_); (refine zD (hK _ _ ?_); clear hK K)))
    | (refine zC (id := 1) ?_; intro K hK; refine zF (k := ?_); refine zJ (k := ?_); refine zB (k := ?_); refine zM (k := ?_); refine zn (k' := ?_); refine zF (k := ?_); (refine zD (hK _ _ ?_); clear hK K))
    | (refine zc (ht := (fun ht => ?_)) (hf := (fun ht => ?_)) <;> (try simp at ht) <;> (try (exfalso; omega))))
  refine yI (α := Nat) (fun j => [(0, .pointer (some ⟨st, 0, none⟩)), (15, .slice ea S.es.length ec), (16, .int .i64 S.es.length), (17, .int .i64 j)])
    (fun j => [cb st (.int .i64 (S.upto j).e :: .int .i64 (S.upto j).i :: .pointer (some ⟨k, 0, none⟩) :: .pointer (some ⟨d, 0, none⟩) :: GtR S ta tc pa pc sa sc ea ec) 86, MpA k (S.upto j).t, DeP d 16 (S.upto j).L,
      own ta S.table.length tc 3 (epsC S.table) 45, own pa S.base.ps.length pc 5 (prC S.base.ps) 57, own sa S.base.ss.length sc 4 (ssC S.base.ss) 111, own ea S.es.length ec 7 (esC S.es) 43]) (fun j => j ≤ S.es.length) (fun j => S.es.length - j) 0 (by omega) ⟨rfl, rfl, rfl, rfl, trivial⟩ (by (repeat (first | exact Ent.refl _ | exact Ent.nil | refine Ent.take (by (repeat (first | exact Out.head | apply Out.tail)); (first | done | fail)) ?_ | refine Ent.drop1 ?_))) ?_
  intro j G hj
  simp only [ov]
  by_cases hlt : j < S.es.length
  · obtain ⟨x, hx⟩ : ∃ x, S.es[j]? = some x := ⟨_, List.getElem?_eq_getElem hlt⟩
    obtain ⟨p, rfl⟩ := hfe.some (by omega)
    have hup := G15.upto_succ hx
    repeat' (first
      | refine zi ?_
      | refine zK ?_
      | refine zQ (h := ?_)
      | refine zU (h := ?_)
      | refine zj ?_
      | refine zR ?_
      | refine zW ?_
      | refine zN ?_
      | refine zV ?_
      | refine ze ?_
      | refine zP ?_
      | refine zY ?_
      | refine zS rfl ?_
      | refine zd ?_
      | refine zX ?_
      | refine zO ?_
      | refine zT ?_
      | refine zL ?_
      | (refine zC (id := 2) ?_; intro K hK; refine z6 (k' := ?_); (refine zD (hK _ _ ?_); clear hK K))
      | (refine zC (id := 3) ?_; intro K hK; ((refine zq (k' := ?_))) <;> (((refine yD (j := j * 7) (cs := x.c) (hq := by simp) (hr := hfe.rd (by (repeat (first | exact Out.head | apply Out.tail)); (first | done | fail))) (hv := esC_row hx) (k := ?_))) <;> (((refine zw (k := ?_); intro r3)) <;> (refine zh (ho' := rfl) (k := ?_); (refine zD (hK _ _ ?_); clear hK K)))))
      | (refine z3 (id := 4) (h := ?_); intro K hK; refine zF (k := ?_); refine zJ (k := ?_); refine zB (k := ?_); ((refine z5 (cs := x.c) (hv := by simp [EnX.c]) (hc := rfl) (k := ?_))) <;> (((refine zb (hs := put_spec st k d (S.upto j) ((G15.upto_ok hS j).mono (by omega)) x (hS.ens x (List.mem_of_getElem? hx)) (GtR S ta tc pa pc sa sc (some p) ec) 86) (k := ?_); rintro v A' ⟨rfl, rfl⟩; simp only [List.cons_append, List.nil_append])) <;> ((refine zD (hK _ _ ?_); clear hK K))))
      | (refine zC (id := 5) ?_; intro K hK; refine zl (k' := ?_); refine zF (k := ?_); (refine zD (hK _ _ ?_); clear hK K))
      | (refine zc (ht := (fun ht => ?_)) (hf := (fun ht => ?_)) <;> (try simp at ht) <;> (try (exfalso; omega))))
    exact ⟨j + 1, by omega, by omega, ⟨rfl, rfl, rfl, int_succ j, trivial⟩, by rw [hup]; (repeat (first | exact Ent.refl _ | exact Ent.nil | refine Ent.take (by (repeat (first | exact Out.head | apply Out.tail)); (first | done | fail)) ?_ | refine Ent.drop1 ?_))⟩
  · obtain rfl : j = S.es.length := by omega
    have hall := G15.upto_all S
    repeat' (first
      | refine zi ?_
      | refine zK ?_
      | refine zQ (h := ?_)
      | refine zU (h := ?_)
      | refine zj ?_
      | refine zR ?_
      | refine zW ?_
      | refine zN ?_
      | refine zV ?_
      | refine ze ?_
      | refine zP ?_
      | refine zY ?_
      | refine zS rfl ?_
      | refine zd ?_
      | refine zX ?_
      | refine zO ?_
      | refine zT ?_
      | refine zL ?_
      | (refine zC (id := 2) ?_; intro K hK; refine z6 (k' := ?_); (refine zD (hK _ _ ?_); clear hK K))
      | (refine zc (ht := (fun ht => ?_)) (hf := (fun ht => ?_)) <;> (try simp at ht) <;> (try (exfalso; omega))))
    exact ⟨by simp, _, [GtP st S], gt_fold (A0 := []) ⟨k, d, ta, tc, pa, pc, sa, sc, ea, ec⟩ (by simp only [GtL]; rw [hall]; simp only [List.cons_append, List.nil_append]; (repeat (first | exact Ent.refl _ | exact Ent.nil | refine Ent.take (by (repeat (first | exact Out.head | apply Out.tail)); (first | done | fail)) ?_ | refine Ent.drop1 ?_))), res0 rfl, rfl, rfl⟩
theorem gadopt_spec (st : Nat) (S : G15) (hS : S.ok) (e : Ep) (hT : rightT (S.table ++ [e]) = true) :
    Fspec Tryz.prog B 51 #[.pointer (some ⟨st, 0, none⟩), .agg #[.int .i64 e.master, .int .i64 e.cut, .bool e.forced]] [GtP st S] (fun v A' => v = .tuple #[] ∧ A' = [GtP st (gadoptV S e)]) := by
  have hfew := hS.few
  have hi := G15.fold_i hS
  have hbi := hS.bi
  have hr := rightT_out hT
  have hlen1 : S.table.length + 1 = (S.table ++ [e]).length := by simp
  have hts : epsC S.table ++ [.int .i64 e.master, .int .i64 e.cut, .bool e.forced] = epsC (S.table ++ [e]) := by simp [epsC, epC]
  have h64 : (S.table ++ [e]).length ≤ 64 := hr.2.1
  have hfair := hr.2.2.1 e (by simp)
  unfold Ep.fair at hfair
  refine spec_of (args := [_, _]) Tryz.func51 rfl rfl rfl ?_
  refine yE (fun q => ?_)
  obtain ⟨k, d, ta, tc, pa, pc, sa, sc, ea, ec⟩ := q
  simp only [GtL, GtR]
  simp only [List.cons_append, List.nil_append]
  unfold gadoptV
  by_cases hc : S.fold.i ≤ e.cut
  · rw [if_pos hc]
    repeat' (first
      | refine zi ?_
      | refine zK ?_
      | refine zQ (h := ?_)
      | refine zU (h := ?_)
      | refine zj ?_
      | refine zR ?_
      | refine zW ?_
      | refine zN ?_
      | refine zV ?_
      | refine ze ?_
      | refine zP ?_
      | refine zY ?_
      | refine zS rfl ?_
      | refine zd ?_
      | refine zX ?_
      | refine zO ?_
      | refine zT ?_
      | refine zL ?_
      | (refine zC (id := 0) ?_; intro K hK; ((refine zm (k := ?_); intro r3)) <;> ((refine zD (hK _ _ ?_); clear hK K)))
      | (refine z3 (id := 1) (h := ?_); intro K hK; refine zF (k := ?_); refine zF (k := ?_); refine zJ (k := ?_); refine zB (k := ?_); refine zM (k := ?_); refine zo (k := ?_); ((refine yR (cs := [.int .i64 e.master, .int .i64 e.cut, .bool e.forced]) (k := ?_); intro r10)) <;> (((refine yO (hvl := by rfl) (hvc := by rfl) (hbd := by omega) (k := ?_); intro nb nc; rw [hlen1, hts])) <;> (refine zJ (k := ?_); refine zB (k := ?_); refine zy (ho := rfl) (k := ?_); (refine zD (hK _ _ ?_); clear hK K))))
      | (refine zC (id := 2) ?_; intro K hK; refine zF (k := ?_); refine zJ (k := ?_); refine zB (k := ?_); refine zy (ho := rfl) (k := ?_); (refine zD (hK _ _ ?_); clear hK K))
      | (refine z3 (id := 3) (h := ?_); intro K hK; refine zF (k := ?_); refine zJ (k := ?_); refine zB (k := ?_); refine zB (k := ?_); refine zB (k := ?_); refine zM (k := ?_); refine zB (k := ?_); refine zM (k := ?_); refine yH (k' := ?_); (refine zD (hK _ _ ?_); clear hK K))
      | (refine z3 (id := 4) (h := ?_); intro K hK; refine zF (k := ?_); refine zJ (k := ?_); refine zB (k := ?_); refine zB (k := ?_); refine zB (k := ?_); refine zM (k := ?_); refine zB (k := ?_); refine zM (k := ?_); refine yH (k' := ?_); (refine zD (hK _ _ ?_); clear hK K))
      | (refine z3 (id := 5) (h := ?_); intro K hK; refine zF (k := ?_); refine zF (k := ?_); refine zJ (k := ?_); refine zB (k := ?_); refine zM (k := ?_); refine zB (k := ?_); refine zM (k := ?_); refine zF (k := ?_); refine zJ (k := ?_); refine zB (k := ?_); refine zB (k := ?_); refine zB (k := ?_); refine zM (k := ?_); refine yL (k' := ?_); refine yh (k' := ?_); refine zJ (k := ?_); refine zB (k := ?_); refine zy (ho := rfl) (k := ?_); (refine zD (hK _ _ ?_); clear hK K))
      | (refine zC (id := 6) ?_; intro K hK; refine zF (k := ?_); refine zF (k := ?_); refine zr (k := ?_); refine zJ (k := ?_); refine zB (k := ?_); refine zh (ho' := rfl) (k := ?_); refine zJ (k := ?_); refine zB (k := ?_); refine zy (ho := rfl) (k := ?_); (refine zD (hK _ _ ?_); clear hK K))
      | (refine zC (id := 7) ?_; intro K hK; refine zF (k := ?_))
      | (refine zc (ht := (fun ht => ?_)) (hf := (fun ht => ?_)) <;> (try simp at ht) <;> (try (exfalso; omega))))
    exact ⟨by simp, _, [GtP st { S with table := S.table ++ [e], closed := false }], gt_fold (A0 := []) ⟨k, d, nb, nc, pa, pc, sa, sc, ea, ec⟩ (by simp only [GtL, GtR]; simp only [List.cons_append, List.nil_append]; exact (by (repeat (first | exact Ent.refl _ | exact Ent.nil | refine Ent.take (by (repeat (first | exact Out.head | apply Out.tail)); (first | done | fail)) ?_ | refine Ent.drop1 ?_)))), res0 rfl, rfl, rfl⟩
  · rw [if_neg hc]
    by_cases hb : S.base.i ≤ e.cut
    · rw [if_pos hb]
      obtain ⟨c, hcut⟩ : ∃ c : Nat, c = (e.cut - S.base.i).toNat := ⟨_, rfl⟩
      have hci : e.cut - S.base.i = ((c : Nat) : Int) := by omega
      have hle : c ≤ S.es.length := by omega
      have hok := hS.take e hT c
      have hlt : (S.es.take c).length = c := by simp; omega
      rw [← hcut]
      repeat' (first
        | refine zi ?_
        | refine zK ?_
        | refine zQ (h := ?_)
        | refine zU (h := ?_)
        | refine zj ?_
        | refine zR ?_
        | refine zW ?_
        | refine zN ?_
        | refine zV ?_
        | refine ze ?_
        | refine zP ?_
        | refine zY ?_
        | refine zS rfl ?_
        | refine zd ?_
        | refine zX ?_
        | refine zO ?_
        | refine zT ?_
        | refine zL ?_
        | (refine zC (id := 0) ?_; intro K hK; ((refine zm (k := ?_); intro r3)) <;> ((refine zD (hK _ _ ?_); clear hK K)))
        | (refine z3 (id := 1) (h := ?_); intro K hK; refine zF (k := ?_); refine zF (k := ?_); refine zJ (k := ?_); refine zB (k := ?_); refine zM (k := ?_); refine zo (k := ?_); ((refine yR (cs := [.int .i64 e.master, .int .i64 e.cut, .bool e.forced]) (k := ?_); intro r10)) <;> (((refine yO (hvl := by rfl) (hvc := by rfl) (hbd := by omega) (k := ?_); intro nb nc; rw [hlen1, hts])) <;> (refine zJ (k := ?_); refine zB (k := ?_); refine zy (ho := rfl) (k := ?_); (refine zD (hK _ _ ?_); clear hK K))))
        | (refine zC (id := 2) ?_; intro K hK; refine zF (k := ?_); refine zJ (k := ?_); refine zB (k := ?_); refine zy (ho := rfl) (k := ?_); (refine zD (hK _ _ ?_); clear hK K))
        | (refine z3 (id := 3) (h := ?_); intro K hK; refine zF (k := ?_); refine zJ (k := ?_); refine zB (k := ?_); refine zB (k := ?_); refine zB (k := ?_); refine zM (k := ?_); refine zB (k := ?_); refine zM (k := ?_); refine yH (k' := ?_); (refine zD (hK _ _ ?_); clear hK K))
        | (refine z3 (id := 4) (h := ?_); intro K hK; refine zF (k := ?_); refine zJ (k := ?_); refine zB (k := ?_); refine zB (k := ?_); refine zB (k := ?_); refine zM (k := ?_); refine zB (k := ?_); refine zM (k := ?_); refine yH (k' := ?_); (refine zD (hK _ _ ?_); clear hK K))
        | (refine z3 (id := 5) (h := ?_); intro K hK; refine zF (k := ?_); refine zF (k := ?_); refine zJ (k := ?_); refine zB (k := ?_); refine zM (k := ?_); refine zB (k := ?_); refine zM (k := ?_); refine zF (k := ?_); refine zJ (k := ?_); refine zB (k := ?_); refine zB (k := ?_); refine zB (k := ?_); refine zM (k := ?_); ((refine yF (a := ea) (sz := 7) (h0 := by omega) (h := fun hfe => ?_); refine yL (k' := ?_); rw [hci])) <;> (((refine yf (h := c) (hhi := ⟨_, rfl⟩) (hhc := by have := hfe.e2; omega) (k' := ?_))) <;> (refine zJ (k := ?_); refine zB (k := ?_); refine zy (ho := rfl) (k := ?_); (refine zD (hK _ _ ?_); clear hK K))))
        | (refine zC (id := 6) ?_; intro K hK; refine zF (k := ?_); refine zF (k := ?_); refine zr (k := ?_); refine zJ (k := ?_); refine zB (k := ?_); refine zh (ho' := rfl) (k := ?_); refine zJ (k := ?_); refine zB (k := ?_); refine zy (ho := rfl) (k := ?_); (refine zD (hK _ _ ?_); clear hK K))
        | (refine zC (id := 7) ?_; intro K hK; refine zF (k := ?_); ((refine yP (y := own ea S.es.length ec 7 (esC S.es) 43) (k := ?_); refine yB (own_take (k := c) hle _) ?_; rw [esC_take]; refine zb (hs := by have := gagain_spec (B := B) st (G15.mk (S.table ++ [e]) S.base (S.es.take c) false) hok S.fold.e S.fold.i (.pointer (some ⟨k, 0, none⟩)) (.pointer (some ⟨d, 0, none⟩)) ⟨k, d, nb, nc, pa, pc, sa, sc, ea, ec⟩; simp only [GtR, hlt] at this; exact this) (k := ?_); rintro v A' ⟨rfl, rfl⟩; simp only [List.cons_append, List.nil_append])) <;> ((refine zD (hK _ _ ?_); clear hK K)))
        | (refine zc (ht := (fun ht => ?_)) (hf := (fun ht => ?_)) <;> (try simp at ht) <;> (try (exfalso; omega))))
      exact ⟨by simp, _, [GtP st _], (by (repeat (first | exact Ent.refl _ | exact Ent.nil | refine Ent.take (by (repeat (first | exact Out.head | apply Out.tail)); (first | done | fail)) ?_ | refine Ent.drop1 ?_))), res0 rfl, rfl, rfl⟩
    · rw [if_neg hb]
      repeat' (first
        | refine zi ?_
        | refine zK ?_
        | refine zQ (h := ?_)
        | refine zU (h := ?_)
        | refine zj ?_
        | refine zR ?_
        | refine zW ?_
        | refine zN ?_
        | refine zV ?_
        | refine ze ?_
        | refine zP ?_
        | refine zY ?_
        | refine zS rfl ?_
        | refine zd ?_
        | refine zX ?_
        | refine zO ?_
        | refine zT ?_
        | refine zL ?_
        | (refine zC (id := 0) ?_; intro K hK; ((refine zm (k := ?_); intro r3)) <;> ((refine zD (hK _ _ ?_); clear hK K)))
        | (refine z3 (id := 1) (h := ?_); intro K hK; refine zF (k := ?_); refine zF (k := ?_); refine zJ (k := ?_); refine zB (k := ?_); refine zM (k := ?_); refine zo (k := ?_); ((refine yR (cs := [.int .i64 e.master, .int .i64 e.cut, .bool e.forced]) (k := ?_); intro r10)) <;> (((refine yO (hvl := by rfl) (hvc := by rfl) (hbd := by omega) (k := ?_); intro nb nc; rw [hlen1, hts])) <;> (refine zJ (k := ?_); refine zB (k := ?_); refine zy (ho := rfl) (k := ?_); (refine zD (hK _ _ ?_); clear hK K))))
        | (refine zC (id := 2) ?_; intro K hK; refine zF (k := ?_); refine zJ (k := ?_); refine zB (k := ?_); refine zy (ho := rfl) (k := ?_); (refine zD (hK _ _ ?_); clear hK K))
        | (refine z3 (id := 3) (h := ?_); intro K hK; refine zF (k := ?_); refine zJ (k := ?_); refine zB (k := ?_); refine zB (k := ?_); refine zB (k := ?_); refine zM (k := ?_); refine zB (k := ?_); refine zM (k := ?_); refine yH (k' := ?_); (refine zD (hK _ _ ?_); clear hK K))
        | (refine z3 (id := 4) (h := ?_); intro K hK; refine zF (k := ?_); refine zJ (k := ?_); refine zB (k := ?_); refine zB (k := ?_); refine zB (k := ?_); refine zM (k := ?_); refine zB (k := ?_); refine zM (k := ?_); refine yH (k' := ?_); (refine zD (hK _ _ ?_); clear hK K))
        | (refine z3 (id := 5) (h := ?_); intro K hK; refine zF (k := ?_); refine zF (k := ?_); refine zJ (k := ?_); refine zB (k := ?_); refine zM (k := ?_); refine zB (k := ?_); refine zM (k := ?_); refine zF (k := ?_); refine zJ (k := ?_); refine zB (k := ?_); refine zB (k := ?_); refine zB (k := ?_); refine zM (k := ?_); refine yL (k' := ?_); refine yh (k' := ?_); refine zJ (k := ?_); refine zB (k := ?_); refine zy (ho := rfl) (k := ?_); (refine zD (hK _ _ ?_); clear hK K))
        | (refine zC (id := 6) ?_; intro K hK; refine zF (k := ?_); refine zF (k := ?_); refine zr (k := ?_); refine zJ (k := ?_); refine zB (k := ?_); refine zh (ho' := rfl) (k := ?_); refine zJ (k := ?_); refine zB (k := ?_); refine zy (ho := rfl) (k := ?_); (refine zD (hK _ _ ?_); clear hK K))
        | (refine zC (id := 7) ?_; intro K hK; refine zF (k := ?_); ((refine yB (own_nil 7 43 _) ?_; refine yB (own_nil 4 111 _) ?_; refine yB (own_nil 5 57 _) ?_; refine zb (hs := gagain_spec (B := B) st (G15.mk (S.table ++ [e]) SnX.zero [] false) (wiped_ok hT) S.fold.e S.fold.i (.pointer (some ⟨k, 0, none⟩)) (.pointer (some ⟨d, 0, none⟩)) ⟨k, d, nb, nc, none, 0, none, 0, none, 0⟩) (k := ?_); rintro v A' ⟨rfl, rfl⟩; simp only [List.cons_append, List.nil_append])) <;> ((refine zD (hK _ _ ?_); clear hK K)))
        | (refine zc (ht := (fun ht => ?_)) (hf := (fun ht => ?_)) <;> (try simp at ht) <;> (try (exfalso; omega))))
      exact ⟨by simp, _, [GtP st _], (by (repeat (first | exact Ent.refl _ | exact Ent.nil | refine Ent.take (by (repeat (first | exact Out.head | apply Out.tail)); (first | done | fail)) ?_ | refine Ent.drop1 ?_))), res0 rfl, rfl, rfl⟩
end specs
end Go.Proofs.YtnoggejkkjngjaaGreat
/- The logic: a scope through which the run goes without a jump. No condition. -/
set_option linter.unusedVariables false
namespace Go.Sl
open Go
theorem stepR_scope {P : Program} {b : Frame} {a : Act} {k : List Item} {cs : List Frame} {w : World} {c : Code} : step P (lone (b.atR a (.code (.scope c) :: k)) cs w) = .next (lone (b.atR a (.code c :: .inScope c :: k)) cs w) :=
  step_lone_go (by simp [stepG, stepG.exec, Frame.atR])
theorem stepR_inScope {P : Program} {b : Frame} {a : Act} {k : List Item} {cs : List Frame} {w : World} {c : Code} : step P (lone (b.atR a (.inScope c :: k)) cs w) = .next (lone (b.atR a k) cs w) :=
  step_lone_go (by simp [stepG, stepG.exec, Frame.atR])
theorem wpIn_scope {F : Fence} {n : Nat} {P : Program} {Q : Exit → Act → World → Prop} {a : Act} {w : World} {c : Code} (h : c.wpIn F n P (fun e a w => (∀ l, e ≠ .goto l) ∧ Q e a w) a w) : (Code.scope c).wpIn F n P Q a w := by
  intro b k cs hro hb hr
  have h0 : (lone (b.atR a (.code (.scope c) :: k)) cs w).fenced P F := fenced_calm hb hr rfl
  obtain ⟨e, a₁, w₁, ⟨hn, hq⟩, harr⟩ := h b (.inScope c :: k) cs hro hb hr
  cases e with
  | normal => exact ⟨.normal, a₁, w₁, hq, .head h0 stepR_scope (StepsIn.trans harr (.one (fenced_calm hb hr rfl) stepR_inScope))⟩
  | exit id =>
    have hx : exitTo id (.inScope c :: k) = exitTo id k := by simp [exitTo]
    exact ⟨.exit id, a₁, w₁, hq, fun k' hk => .head h0 stepR_scope (harr.1 k' (by rw [hx]; exact hk)),
      fun hr' hk => let ⟨k₁, h1, h2⟩ := harr.2 hr' (by rw [hx]; exact hk); ⟨k₁, h1, .head h0 stepR_scope h2⟩⟩
  | goto l => exact absurd rfl (hn l)
  | ret => exact ⟨_, a₁, w₁, hq, .of_steps (.one h0 stepR_scope) harr⟩
  | panic ch => exact ⟨_, a₁, w₁, hq, .of_steps (.one h0 stepR_scope) harr⟩
  | outgrown => exact ⟨_, a₁, w₁, hq, .of_steps (.one h0 stepR_scope) harr⟩
section code
variable {P : Program} {B : Base} {N : Nat} {F : Fr} {A : List Asn} {Q : Exit → Fr → List Asn → Prop}
def scopeQ (Q : Exit → Fr → List Asn → Prop) (e : Exit) (F : Fr) (A : List Asn) : Prop := (∀ l, e ≠ .goto l) ∧ Q e F A
theorem yd {c : Code} (h : Wc P B N c F A (scopeQ Q)) : Wc P B N (.scope c) F A Q := fun ro R a w hk hr hs =>
  wpIn_scope (wpIn_mono (h ro R a w hk hr hs) (fun e a' w' ⟨Ds, F', A', hd, hr', hs', hq⟩ => ⟨hq.1, Ds, F', A', hd, hr', hs', hq.2⟩))
theorem scopeQ_normal (h : Q .normal F A) : scopeQ Q .normal F A := ⟨fun _ e => (nomatch e), h⟩
theorem scopeQ_ret (h : Q .ret F A) : scopeQ Q .ret F A := ⟨fun _ e => (nomatch e), h⟩
theorem scopeQ_exit {id : Nat} (h : Q (.exit id) F A) : scopeQ Q (.exit id) F A := ⟨fun _ e => (nomatch e), h⟩
end code
end Go.Sl
/- Package pos: which positions are on the branch. Conditions: none but the kinds' bounds. -/
set_option maxHeartbeats 8000000
set_option linter.unusedVariables false
set_option linter.unusedSimpArgs false
set_option maxRecDepth 100000
namespace Go.Proofs.YtnoggejkkjngjaaGreat
open Go Go.Sl
attribute [local irreducible] Go.Sl.Wl Go.Sl.Wc Go.Sl.thenQ Go.Sl.blkQ Go.Sl.loopQ Go.Sl.Fspec

/-- A table has a position. -/
def isT (t : List Ep) (e i : Int) : Bool := decide (e = 0 ∧ i = 0) || (decide (1 ≤ e ∧ e ≤ t.length) && (match t[e.toNat - 1]? with | some x => decide (x.cut < i) | none => false) && decide (i ≤ 512))
def cutL : List Ep → Nat → Int → Nat
  | [], _, _ => 0
  | x :: l, k, i => if x.cut < i then k + 1 else cutL l (k + 1) i
def cutN (t : List Ep) (e i : Int) : Nat := if rightT t = true ∧ isT t e i = true then cutL (t.drop e.toNat) e.toNat i else 0
def onT (t : List Ep) (e i : Int) : Bool := rightT t && isT t e i && decide (cutN t e i = 0)
theorem cutL_le : ∀ (l : List Ep) (k : Nat) (i : Int), cutL l k i = 0 ∨ (k < cutL l k i ∧ cutL l k i ≤ k + l.length)
  | [], _, _ => .inl rfl
  | x :: l, k, i => by
    unfold cutL
    split
    · exact .inr ⟨by omega, by simp only [List.length_cons]; omega⟩
    · rcases cutL_le l (k + 1) i with h | h
      · exact .inl h
      · exact .inr ⟨by omega, by simp only [List.length_cons]; omega⟩
theorem isT_e {t : List Ep} {e i : Int} (h : isT t e i = true) : 0 ≤ e ∧ e ≤ t.length := by
  unfold isT at h
  simp only [Bool.or_eq_true, Bool.and_eq_true, decide_eq_true_eq] at h
  rcases h with h | h
  · omega
  · omega
section specs
variable {B : Base}
theorem is_spec (A0 : List Asn) (t : List Ep) (a : Option Addr) (c : Nat) (h : RdS Tryz.prog B A0 3 a t.length c (epsC t)) (e i : Int) (he : -9223372036854775808 ≤ e ∧ e ≤ 9223372036854775807) :
    Fspec Tryz.prog B 102 #[.slice a t.length c, .agg #[.int .i64 e, .int .i64 i]] A0 (fun v A' => v = .bool (isT t e i) ∧ A' = A0) := by
  refine spec_of (args := [_, _]) Tryz.func102 rfl rfl rfl ?_
  by_cases h0 : e = 0 ∧ i = 0
  · have hz : isT t e i = true := by unfold isT; simp [h0]
    rw [hz]
    repeat' (first
      | refine zi ?_
      | refine zK ?_
      | refine zQ (h := ?_)
      | refine zU (h := ?_)
      | refine zj ?_
      | refine zR ?_
      | refine zW ?_
      | refine zN ?_
      | refine zV ?_
      | refine ze ?_
      | refine zP ?_
      | refine zY ?_
      | refine zS rfl ?_
      | refine zd ?_
      | refine zX ?_
      | refine zO ?_
      | refine zT ?_
      | refine zL ?_
      | (refine zC (id := 0) ?_; intro K hK; ((refine zm (k := ?_); intro r3)) <;> (refine zH (k := ?_); (refine zD (hK _ _ ?_); clear hK K)))
      | (refine zC (id := 1) ?_; intro K hK; refine zo (k := ?_); refine zr (k := ?_); ((refine yK (b := true) (hb := by rw [pos_ceq]; exact decide_eq_true h0) (k' := ?_))) <;> ((refine zD (hK _ _ ?_); clear hK K)))
      | (refine zC (id := 2) ?_; intro K hK; refine zH (k := ?_); (refine zD (hK _ _ ?_); clear hK K))
      | (refine z3 (id := 3) (h := ?_); intro K hK; refine zB (k := ?_); refine zM (k := ?_); refine yV (k' := ?_); refine zF (k := ?_); ((first | (refine zA (k := ?_); refine zB (k := ?_)) | refine zE (k := ?_) | ((refine zG (yes := (fun ht => ?_)) (no := (fun ht => ?_)) <;> (try simp at ht) <;> (try (exfalso; omega))) <;> (first | (refine zA (k := ?_); refine zB (k := ?_)) | refine zE (k := ?_))))) <;> (((first | (refine zA (k := ?_); refine zM (k := ?_)) | refine zE (k := ?_) | ((refine zG (yes := (fun ht => ?_)) (no := (fun ht => ?_)) <;> (try simp at ht) <;> (try (exfalso; omega))) <;> (first | (refine zA (k := ?_); refine zM (k := ?_)) | refine zE (k := ?_))))) <;> (((first | (refine zA (k := ?_); refine zF (k := ?_)) | refine zE (k := ?_) | ((refine zG (yes := (fun ht => ?_)) (no := (fun ht => ?_)) <;> (try simp at ht) <;> (try (exfalso; omega))) <;> (first | (refine zA (k := ?_); refine zF (k := ?_)) | refine zE (k := ?_))))) <;> (((first | (refine zA (k := ?_); refine zn (k' := ?_)) | refine zE (k := ?_) | ((refine zG (yes := (fun ht => ?_)) (no := (fun ht => ?_)) <;> (try simp at ht) <;> (try (exfalso; omega))) <;> (first | (refine zA (k := ?_); refine zn (k' := ?_)) | refine zE (k := ?_))))) <;> (((first | (refine zA (k := ?_); refine yH (k' := ?_)) | refine zE (k := ?_) | ((refine zG (yes := (fun ht => ?_)) (no := (fun ht => ?_)) <;> (try simp at ht) <;> (try (exfalso; omega))) <;> (first | (refine zA (k := ?_); refine yH (k' := ?_)) | refine zE (k := ?_))))) <;> ((first | refine zZ (k := ?_) | refine za (k := ?_) | refine zg (k := ?_)); refine zF (k := ?_); ((first | (refine zA (k := ?_); refine zB (k := ?_)) | refine zE (k := ?_) | ((refine zG (yes := (fun ht => ?_)) (no := (fun ht => ?_)) <;> (try simp at ht) <;> (try (exfalso; omega))) <;> (first | (refine zA (k := ?_); refine zB (k := ?_)) | refine zE (k := ?_))))) <;> (((first | (refine zA (k := ?_); refine zM (k := ?_)) | refine zE (k := ?_) | ((refine zG (yes := (fun ht => ?_)) (no := (fun ht => ?_)) <;> (try simp at ht) <;> (try (exfalso; omega))) <;> (first | (refine zA (k := ?_); refine zM (k := ?_)) | refine zE (k := ?_))))) <;> (((first | (refine zA (k := ?_); refine zF (k := ?_)) | refine zE (k := ?_) | ((refine zG (yes := (fun ht => ?_)) (no := (fun ht => ?_)) <;> (try simp at ht) <;> (try (exfalso; omega))) <;> (first | (refine zA (k := ?_); refine zF (k := ?_)) | refine zE (k := ?_))))) <;> (((first | (refine zA (k := ?_); refine zB (k := ?_)) | refine zE (k := ?_) | ((refine zG (yes := (fun ht => ?_)) (no := (fun ht => ?_)) <;> (try simp at ht) <;> (try (exfalso; omega))) <;> (first | (refine zA (k := ?_); refine zB (k := ?_)) | refine zE (k := ?_))))) <;> (((first | (refine zA (k := ?_); refine zM (k := ?_)) | refine zE (k := ?_) | ((refine zG (yes := (fun ht => ?_)) (no := (fun ht => ?_)) <;> (try simp at ht) <;> (try (exfalso; omega))) <;> (first | (refine zA (k := ?_); refine zM (k := ?_)) | refine zE (k := ?_))))) <;> (((first | (refine zA (k := ?_); refine yL (k' := ?_)) | refine zE (k := ?_) | ((refine zG (yes := (fun ht => ?_)) (no := (fun ht => ?_)) <;> (try simp at ht) <;> (try (exfalso; omega))) <;> (first | (refine zA (k := ?_); refine yL (k' := ?_)) | refine zE (k := ?_))))) <;> (((first | (refine zA (k := ?_); refine z9 (k' := ?_)) | refine zE (k := ?_) | ((refine zG (yes := (fun ht => ?_)) (no := (fun ht => ?_)) <;> (try simp at ht) <;> (try (exfalso; omega))) <;> (first | (refine zA (k := ?_); refine z9 (k' := ?_)) | refine zE (k := ?_))))) <;> (((first | (refine zA (k := ?_); refine zB (k := ?_)) | refine zE (k := ?_) | ((refine zG (yes := (fun ht => ?_)) (no := (fun ht => ?_)) <;> (try simp at ht) <;> (try (exfalso; omega))) <;> (first | (refine zA (k := ?_); refine zB (k := ?_)) | refine zE (k := ?_))))) <;> (((first | (refine zA (k := ?_); refine zM (k := ?_)) | refine zE (k := ?_) | ((refine zG (yes := (fun ht => ?_)) (no := (fun ht => ?_)) <;> (try simp at ht) <;> (try (exfalso; omega))) <;> (first | (refine zA (k := ?_); refine zM (k := ?_)) | refine zE (k := ?_))))) <;> (((first | (refine zA (k := ?_); refine z0 (k' := ?_)) | refine zE (k := ?_) | ((refine zG (yes := (fun ht => ?_)) (no := (fun ht => ?_)) <;> (try simp at ht) <;> (try (exfalso; omega))) <;> (first | (refine zA (k := ?_); refine z0 (k' := ?_)) | refine zE (k := ?_))))) <;> ((first | refine zZ (k := ?_) | refine za (k := ?_) | refine zg (k := ?_)); refine zF (k := ?_); ((first | (refine zA (k := ?_); refine zB (k := ?_)) | refine zE (k := ?_) | ((refine zG (yes := (fun ht => ?_)) (no := (fun ht => ?_)) <;> (try simp at ht) <;> (try (exfalso; omega))) <;> (first | (refine zA (k := ?_); refine zB (k := ?_)) | refine zE (k := ?_))))) <;> (((first | (refine zA (k := ?_); refine zM (k := ?_)) | refine zE (k := ?_) | ((refine zG (yes := (fun ht => ?_)) (no := (fun ht => ?_)) <;> (try simp at ht) <;> (try (exfalso; omega))) <;> (first | (refine zA (k := ?_); refine zM (k := ?_)) | refine zE (k := ?_))))) <;> (((first | (refine zA (k := ?_); refine yH (k' := ?_)) | refine zE (k := ?_) | ((refine zG (yes := (fun ht => ?_)) (no := (fun ht => ?_)) <;> (try simp at ht) <;> (try (exfalso; omega))) <;> (first | (refine zA (k := ?_); refine yH (k' := ?_)) | refine zE (k := ?_))))) <;> ((first | refine zZ (k := ?_) | refine za (k := ?_) | refine zg (k := ?_)); refine zH (k := ?_); (refine zD (hK _ _ ?_); clear hK K))))))))))))))))))))
      | (refine zc (ht := (fun ht => ?_)) (hf := (fun ht => ?_)) <;> (try simp at ht) <;> (try (exfalso; omega))))
    exact ⟨Or.inr rfl, _, A0, Ent.drop _, res1 rfl rfl, rfl, rfl⟩
  by_cases h1 : 1 ≤ e ∧ e ≤ t.length
  · obtain ⟨x, hx⟩ : ∃ x, t[e.toNat - 1]? = some x := ⟨_, List.getElem?_eq_getElem (by omega)⟩
    have hz : isT t e i = (decide (x.cut < i) && decide (i ≤ 512)) := by unfold isT; rw [hx]; simp [h0, h1]
    have e1 : e - 1 = ((e.toNat - 1 : Nat) : Int) := by omega
    obtain ⟨p, rfl⟩ : ∃ p, a = some p := by
      cases a with
      | none => have := h.nil rfl; omega
      | some p => exact ⟨p, rfl⟩
    rw [hz]
    repeat' (first
      | refine zi ?_
      | refine zK ?_
      | refine zQ (h := ?_)
      | refine zU (h := ?_)
      | refine zj ?_
      | refine zR ?_
      | refine zW ?_
      | refine zN ?_
      | refine zV ?_
      | refine ze ?_
      | refine zP ?_
      | refine zY ?_
      | refine zS rfl ?_
      | refine zd ?_
      | refine zX ?_
      | refine zO ?_
      | refine zT ?_
      | refine zL ?_
      | (refine zC (id := 0) ?_; intro K hK; ((refine zm (k := ?_); intro r3)) <;> (refine zH (k := ?_); (refine zD (hK _ _ ?_); clear hK K)))
      | (refine zC (id := 1) ?_; intro K hK; refine zo (k := ?_); refine zr (k := ?_); ((refine yK (b := false) (hb := by rw [pos_ceq]; exact decide_eq_false h0) (k' := ?_))) <;> ((refine zD (hK _ _ ?_); clear hK K)))
      | (refine zC (id := 2) ?_; intro K hK; refine zH (k := ?_); (refine zD (hK _ _ ?_); clear hK K))
      | (refine z3 (id := 3) (h := ?_); intro K hK; refine zB (k := ?_); refine zM (k := ?_); refine yV (k' := ?_); refine zF (k := ?_); ((first | (refine zA (k := ?_); refine zB (k := ?_)) | refine zE (k := ?_) | ((refine zG (yes := (fun ht => ?_)) (no := (fun ht => ?_)) <;> (try simp at ht) <;> (try (exfalso; omega))) <;> (first | (refine zA (k := ?_); refine zB (k := ?_)) | refine zE (k := ?_))))) <;> (((first | (refine zA (k := ?_); refine zM (k := ?_)) | refine zE (k := ?_) | ((refine zG (yes := (fun ht => ?_)) (no := (fun ht => ?_)) <;> (try simp at ht) <;> (try (exfalso; omega))) <;> (first | (refine zA (k := ?_); refine zM (k := ?_)) | refine zE (k := ?_))))) <;> (((first | (refine zA (k := ?_); refine zF (k := ?_)) | refine zE (k := ?_) | ((refine zG (yes := (fun ht => ?_)) (no := (fun ht => ?_)) <;> (try simp at ht) <;> (try (exfalso; omega))) <;> (first | (refine zA (k := ?_); refine zF (k := ?_)) | refine zE (k := ?_))))) <;> (((first | (refine zA (k := ?_); refine zn (k' := ?_)) | refine zE (k := ?_) | ((refine zG (yes := (fun ht => ?_)) (no := (fun ht => ?_)) <;> (try simp at ht) <;> (try (exfalso; omega))) <;> (first | (refine zA (k := ?_); refine zn (k' := ?_)) | refine zE (k := ?_))))) <;> (((first | (refine zA (k := ?_); refine yH (k' := ?_)) | refine zE (k := ?_) | ((refine zG (yes := (fun ht => ?_)) (no := (fun ht => ?_)) <;> (try simp at ht) <;> (try (exfalso; omega))) <;> (first | (refine zA (k := ?_); refine yH (k' := ?_)) | refine zE (k := ?_))))) <;> ((first | refine zZ (k := ?_) | refine za (k := ?_) | refine zg (k := ?_)); refine zF (k := ?_); ((first | (refine zA (k := ?_); refine zB (k := ?_)) | refine zE (k := ?_) | ((refine zG (yes := (fun ht => ?_)) (no := (fun ht => ?_)) <;> (try simp at ht) <;> (try (exfalso; omega))) <;> (first | (refine zA (k := ?_); refine zB (k := ?_)) | refine zE (k := ?_))))) <;> (((first | (refine zA (k := ?_); refine zM (k := ?_)) | refine zE (k := ?_) | ((refine zG (yes := (fun ht => ?_)) (no := (fun ht => ?_)) <;> (try simp at ht) <;> (try (exfalso; omega))) <;> (first | (refine zA (k := ?_); refine zM (k := ?_)) | refine zE (k := ?_))))) <;> (((first | (refine zA (k := ?_); refine zF (k := ?_)) | refine zE (k := ?_) | ((refine zG (yes := (fun ht => ?_)) (no := (fun ht => ?_)) <;> (try simp at ht) <;> (try (exfalso; omega))) <;> (first | (refine zA (k := ?_); refine zF (k := ?_)) | refine zE (k := ?_))))) <;> (((first | (refine zA (k := ?_); refine zB (k := ?_)) | refine zE (k := ?_) | ((refine zG (yes := (fun ht => ?_)) (no := (fun ht => ?_)) <;> (try simp at ht) <;> (try (exfalso; omega))) <;> (first | (refine zA (k := ?_); refine zB (k := ?_)) | refine zE (k := ?_))))) <;> (((first | (refine zA (k := ?_); refine zM (k := ?_)) | refine zE (k := ?_) | ((refine zG (yes := (fun ht => ?_)) (no := (fun ht => ?_)) <;> (try simp at ht) <;> (try (exfalso; omega))) <;> (first | (refine zA (k := ?_); refine zM (k := ?_)) | refine zE (k := ?_))))) <;> (((first | (refine zA (k := ?_); (refine yL (k' := ?_); rw [e1])) | refine zE (k := ?_) | ((refine zG (yes := (fun ht => ?_)) (no := (fun ht => ?_)) <;> (try simp at ht) <;> (try (exfalso; omega))) <;> (first | (refine zA (k := ?_); (refine yL (k' := ?_); rw [e1])) | refine zE (k := ?_))))) <;> (((first | (refine zA (k := ?_); (refine zq (k' := ?_))) | refine zE (k := ?_) | ((refine zG (yes := (fun ht => ?_)) (no := (fun ht => ?_)) <;> (try simp at ht) <;> (try (exfalso; omega))) <;> (first | (refine zA (k := ?_); (refine zq (k' := ?_))) | refine zE (k := ?_))))) <;> (((first | (refine zA (k := ?_); (refine zz (k := ?_))) | refine zE (k := ?_) | ((refine zG (yes := (fun ht => ?_)) (no := (fun ht => ?_)) <;> (try simp at ht) <;> (try (exfalso; omega))) <;> (first | (refine zA (k := ?_); (refine zz (k := ?_))) | refine zE (k := ?_))))) <;> (((first | (refine zA (k := ?_); (refine z4 (v := .int .i64 x.cut) (j := (e.toNat - 1) * 3 + 1) (hq := by rw [Int.toNat_natCast]; exact addr_two _ _ _) (hr := RdS.under h) (hv := epsC_cell (r := 1) hx (by omega) rfl) (k := ?_))) | refine zE (k := ?_) | ((refine zG (yes := (fun ht => ?_)) (no := (fun ht => ?_)) <;> (try simp at ht) <;> (try (exfalso; omega))) <;> (first | (refine zA (k := ?_); (refine z4 (v := .int .i64 x.cut) (j := (e.toNat - 1) * 3 + 1) (hq := by rw [Int.toNat_natCast]; exact addr_two _ _ _) (hr := RdS.under h) (hv := epsC_cell (r := 1) hx (by omega) rfl) (k := ?_))) | refine zE (k := ?_))))) <;> (((first | (refine zA (k := ?_); refine z0 (k' := ?_)) | refine zE (k := ?_) | ((refine zG (yes := (fun ht => ?_)) (no := (fun ht => ?_)) <;> (try simp at ht) <;> (try (exfalso; omega))) <;> (first | (refine zA (k := ?_); refine z0 (k' := ?_)) | refine zE (k := ?_))))) <;> ((first | refine zZ (k := ?_) | refine za (k := ?_) | refine zg (k := ?_)); refine zF (k := ?_); ((first | (refine zA (k := ?_); refine zB (k := ?_)) | refine zE (k := ?_) | ((refine zG (yes := (fun ht => ?_)) (no := (fun ht => ?_)) <;> (try simp at ht) <;> (try (exfalso; omega))) <;> (first | (refine zA (k := ?_); refine zB (k := ?_)) | refine zE (k := ?_))))) <;> (((first | (refine zA (k := ?_); refine zM (k := ?_)) | refine zE (k := ?_) | ((refine zG (yes := (fun ht => ?_)) (no := (fun ht => ?_)) <;> (try simp at ht) <;> (try (exfalso; omega))) <;> (first | (refine zA (k := ?_); refine zM (k := ?_)) | refine zE (k := ?_))))) <;> (((first | (refine zA (k := ?_); refine yH (k' := ?_)) | refine zE (k := ?_) | ((refine zG (yes := (fun ht => ?_)) (no := (fun ht => ?_)) <;> (try simp at ht) <;> (try (exfalso; omega))) <;> (first | (refine zA (k := ?_); refine yH (k' := ?_)) | refine zE (k := ?_))))) <;> ((first | refine zZ (k := ?_) | refine za (k := ?_) | refine zg (k := ?_)); refine zH (k := ?_); (refine zD (hK _ _ ?_); clear hK K))))))))))))))))))))
      | (refine zc (ht := (fun ht => ?_)) (hf := (fun ht => ?_)) <;> (try simp at ht) <;> (try (exfalso; omega))))
    all_goals exact ⟨Or.inr rfl, _, A0, Ent.drop _, res1 rfl rfl, congrArg Value.bool (by first | (rw [decide_eq_true (by assumption), Bool.true_and]; done) | (rw [decide_eq_false (by omega), Bool.false_and]; done) | simp_all), rfl⟩
  · have hz : isT t e i = false := by unfold isT; simp [h0]; omega
    rw [hz]
    by_cases h2 : 1 ≤ e
    all_goals
      repeat' (first
        | refine zi ?_
        | refine zK ?_
        | refine zQ (h := ?_)
        | refine zU (h := ?_)
        | refine zj ?_
        | refine zR ?_
        | refine zW ?_
        | refine zN ?_
        | refine zV ?_
        | refine ze ?_
        | refine zP ?_
        | refine zY ?_
        | refine zS rfl ?_
        | refine zd ?_
        | refine zX ?_
        | refine zO ?_
        | refine zT ?_
        | refine zL ?_
        | (refine zC (id := 0) ?_; intro K hK; ((refine zm (k := ?_); intro r3)) <;> (refine zH (k := ?_); (refine zD (hK _ _ ?_); clear hK K)))
        | (refine zC (id := 1) ?_; intro K hK; refine zo (k := ?_); refine zr (k := ?_); ((refine yK (b := false) (hb := by rw [pos_ceq]; exact decide_eq_false h0) (k' := ?_))) <;> ((refine zD (hK _ _ ?_); clear hK K)))
        | (refine zC (id := 2) ?_; intro K hK; refine zH (k := ?_); (refine zD (hK _ _ ?_); clear hK K))
        | (refine z3 (id := 3) (h := ?_); intro K hK; refine zB (k := ?_); refine zM (k := ?_); refine yV (k' := ?_); refine zF (k := ?_); ((first | (refine zA (k := ?_); refine zB (k := ?_)) | refine zE (k := ?_) | ((refine zG (yes := (fun ht => ?_)) (no := (fun ht => ?_)) <;> (try simp at ht) <;> (try (exfalso; omega))) <;> (first | (refine zA (k := ?_); refine zB (k := ?_)) | refine zE (k := ?_))))) <;> (((first | (refine zA (k := ?_); refine zM (k := ?_)) | refine zE (k := ?_) | ((refine zG (yes := (fun ht => ?_)) (no := (fun ht => ?_)) <;> (try simp at ht) <;> (try (exfalso; omega))) <;> (first | (refine zA (k := ?_); refine zM (k := ?_)) | refine zE (k := ?_))))) <;> (((first | (refine zA (k := ?_); refine zF (k := ?_)) | refine zE (k := ?_) | ((refine zG (yes := (fun ht => ?_)) (no := (fun ht => ?_)) <;> (try simp at ht) <;> (try (exfalso; omega))) <;> (first | (refine zA (k := ?_); refine zF (k := ?_)) | refine zE (k := ?_))))) <;> (((first | (refine zA (k := ?_); refine zn (k' := ?_)) | refine zE (k := ?_) | ((refine zG (yes := (fun ht => ?_)) (no := (fun ht => ?_)) <;> (try simp at ht) <;> (try (exfalso; omega))) <;> (first | (refine zA (k := ?_); refine zn (k' := ?_)) | refine zE (k := ?_))))) <;> (((first | (refine zA (k := ?_); refine yH (k' := ?_)) | refine zE (k := ?_) | ((refine zG (yes := (fun ht => ?_)) (no := (fun ht => ?_)) <;> (try simp at ht) <;> (try (exfalso; omega))) <;> (first | (refine zA (k := ?_); refine yH (k' := ?_)) | refine zE (k := ?_))))) <;> ((first | refine zZ (k := ?_) | refine za (k := ?_) | refine zg (k := ?_)); refine zF (k := ?_); ((first | (refine zA (k := ?_); refine zB (k := ?_)) | refine zE (k := ?_) | ((refine zG (yes := (fun ht => ?_)) (no := (fun ht => ?_)) <;> (try simp at ht) <;> (try (exfalso; omega))) <;> (first | (refine zA (k := ?_); refine zB (k := ?_)) | refine zE (k := ?_))))) <;> (((first | (refine zA (k := ?_); refine zM (k := ?_)) | refine zE (k := ?_) | ((refine zG (yes := (fun ht => ?_)) (no := (fun ht => ?_)) <;> (try simp at ht) <;> (try (exfalso; omega))) <;> (first | (refine zA (k := ?_); refine zM (k := ?_)) | refine zE (k := ?_))))) <;> (((first | (refine zA (k := ?_); refine zF (k := ?_)) | refine zE (k := ?_) | ((refine zG (yes := (fun ht => ?_)) (no := (fun ht => ?_)) <;> (try simp at ht) <;> (try (exfalso; omega))) <;> (first | (refine zA (k := ?_); refine zF (k := ?_)) | refine zE (k := ?_))))) <;> (((first | (refine zA (k := ?_); refine zB (k := ?_)) | refine zE (k := ?_) | ((refine zG (yes := (fun ht => ?_)) (no := (fun ht => ?_)) <;> (try simp at ht) <;> (try (exfalso; omega))) <;> (first | (refine zA (k := ?_); refine zB (k := ?_)) | refine zE (k := ?_))))) <;> (((first | (refine zA (k := ?_); refine zM (k := ?_)) | refine zE (k := ?_) | ((refine zG (yes := (fun ht => ?_)) (no := (fun ht => ?_)) <;> (try simp at ht) <;> (try (exfalso; omega))) <;> (first | (refine zA (k := ?_); refine zM (k := ?_)) | refine zE (k := ?_))))) <;> (((first | (refine zA (k := ?_); refine yL (k' := ?_)) | refine zE (k := ?_) | ((refine zG (yes := (fun ht => ?_)) (no := (fun ht => ?_)) <;> (try simp at ht) <;> (try (exfalso; omega))) <;> (first | (refine zA (k := ?_); refine yL (k' := ?_)) | refine zE (k := ?_))))) <;> (((first | (refine zA (k := ?_); refine z9 (k' := ?_)) | refine zE (k := ?_) | ((refine zG (yes := (fun ht => ?_)) (no := (fun ht => ?_)) <;> (try simp at ht) <;> (try (exfalso; omega))) <;> (first | (refine zA (k := ?_); refine z9 (k' := ?_)) | refine zE (k := ?_))))) <;> (((first | (refine zA (k := ?_); refine zB (k := ?_)) | refine zE (k := ?_) | ((refine zG (yes := (fun ht => ?_)) (no := (fun ht => ?_)) <;> (try simp at ht) <;> (try (exfalso; omega))) <;> (first | (refine zA (k := ?_); refine zB (k := ?_)) | refine zE (k := ?_))))) <;> (((first | (refine zA (k := ?_); refine zM (k := ?_)) | refine zE (k := ?_) | ((refine zG (yes := (fun ht => ?_)) (no := (fun ht => ?_)) <;> (try simp at ht) <;> (try (exfalso; omega))) <;> (first | (refine zA (k := ?_); refine zM (k := ?_)) | refine zE (k := ?_))))) <;> (((first | (refine zA (k := ?_); refine z0 (k' := ?_)) | refine zE (k := ?_) | ((refine zG (yes := (fun ht => ?_)) (no := (fun ht => ?_)) <;> (try simp at ht) <;> (try (exfalso; omega))) <;> (first | (refine zA (k := ?_); refine z0 (k' := ?_)) | refine zE (k := ?_))))) <;> ((first | refine zZ (k := ?_) | refine za (k := ?_) | refine zg (k := ?_)); refine zF (k := ?_); ((first | (refine zA (k := ?_); refine zB (k := ?_)) | refine zE (k := ?_) | ((refine zG (yes := (fun ht => ?_)) (no := (fun ht => ?_)) <;> (try simp at ht) <;> (try (exfalso; omega))) <;> (first | (refine zA (k := ?_); refine zB (k := ?_)) | refine zE (k := ?_))))) <;> (((first | (refine zA (k := ?_); refine zM (k := ?_)) | refine zE (k := ?_) | ((refine zG (yes := (fun ht => ?_)) (no := (fun ht => ?_)) <;> (try simp at ht) <;> (try (exfalso; omega))) <;> (first | (refine zA (k := ?_); refine zM (k := ?_)) | refine zE (k := ?_))))) <;> (((first | (refine zA (k := ?_); refine yH (k' := ?_)) | refine zE (k := ?_) | ((refine zG (yes := (fun ht => ?_)) (no := (fun ht => ?_)) <;> (try simp at ht) <;> (try (exfalso; omega))) <;> (first | (refine zA (k := ?_); refine yH (k' := ?_)) | refine zE (k := ?_))))) <;> ((first | refine zZ (k := ?_) | refine za (k := ?_) | refine zg (k := ?_)); refine zH (k := ?_); (refine zD (hK _ _ ?_); clear hK K))))))))))))))))))))
        | (refine zc (ht := (fun ht => ?_)) (hf := (fun ht => ?_)) <;> (try simp at ht) <;> (try (exfalso; omega))))
    all_goals exact ⟨Or.inr rfl, _, A0, Ent.drop _, res1 rfl rfl, rfl, rfl⟩
theorem cut_spec (A0 : List Asn) (t : List Ep) (a : Option Addr) (c : Nat) (h : RdS Tryz.prog B A0 3 a t.length c (epsC t)) (hsz : t.length ≤ 1000000) (e i : Int) (he : -9223372036854775808 ≤ e ∧ e ≤ 9223372036854775807) :
    Fspec Tryz.prog B 103 #[.slice a t.length c, .agg #[.int .i64 e, .int .i64 i]] A0 (fun v A' => ∃ b, v = .tuple #[.int .i64 (cutN t e i : Nat), .bool b] ∧ A' = A0) := by
  have hr := right_spec (B := B) A0 t a c h hsz
  have hI := is_spec (B := B) A0 t a c h e i he
  refine spec_of (args := [_, _]) Tryz.func103 rfl rfl rfl ?_
  by_cases hg : rightT t = true ∧ isT t e i = true
  rotate_left
  · have hz : cutN t e i = 0 := if_neg hg
    rw [hz]
    cases hb : rightT t with
    | false =>
      rw [hb] at hr
      repeat' (first
        | (refine yd ?_)
        | (refine scopeQ_normal ?_)
        | (refine scopeQ_ret ?_)
        | (refine scopeQ_exit ?_)
        | refine zi ?_
        | refine zK ?_
        | refine zQ (h := ?_)
        | refine zU (h := ?_)
        | refine zj ?_
        | refine zR ?_
        | refine zW ?_
        | refine zN ?_
        | refine zV ?_
        | refine ze ?_
        | refine zP ?_
        | refine zY ?_
        | refine zS rfl ?_
        | refine zd ?_
        | refine zX ?_
        | refine zO ?_
        | refine zT ?_
        | refine zL ?_
        | (refine zC (id := 0) ?_; intro K hK; ((refine zm (k := ?_); intro r3)) <;> (refine zH (k := ?_); refine zH (k := ?_); (refine zD (hK _ _ ?_); clear hK K)))
        | (refine zC (id := 1) ?_; intro K hK; refine zH (k := ?_); (refine zD (hK _ _ ?_); clear hK K))
        | (refine zC (id := 2) ?_; intro K hK; refine zF (k := ?_); ((refine zb (hs := hr) (hp := Pick_under _ _) (k := ?_); rintro v A' ⟨rfl, hA⟩; subst A'; refine yB (Ent.perm (List.perm_append_comm (l₁ := A0) (l₂ := [_]))) ?_; simp only [List.cons_append, List.nil_append])) <;> (refine z7 (k' := ?_); refine zF (k := ?_); ((first | (refine zA (k := ?_); refine zF (k := ?_)) | refine zE (k := ?_) | ((refine zG (yes := (fun ht => ?_)) (no := (fun ht => ?_)) <;> (try simp at ht) <;> (try (exfalso; omega))) <;> (first | (refine zA (k := ?_); refine zF (k := ?_)) | refine zE (k := ?_))))) <;> (((first | (refine zA (k := ?_); refine zo (k := ?_)) | refine zE (k := ?_) | ((refine zG (yes := (fun ht => ?_)) (no := (fun ht => ?_)) <;> (try simp at ht) <;> (try (exfalso; omega))) <;> (first | (refine zA (k := ?_); refine zo (k := ?_)) | refine zE (k := ?_))))) <;> ((refine zE (k := ?_)) <;> (((first | (refine zA (k := ?_); refine z7 (k' := ?_)) | refine zE (k := ?_) | ((refine zG (yes := (fun ht => ?_)) (no := (fun ht => ?_)) <;> (try simp at ht) <;> (try (exfalso; omega))) <;> (first | (refine zA (k := ?_); refine z7 (k' := ?_)) | refine zE (k := ?_))))) <;> ((first | refine zZ (k := ?_) | refine za (k := ?_) | refine zg (k := ?_)); (refine zD (hK _ _ ?_); clear hK K)))))))
        | (refine zC (id := 3) ?_; intro K hK; refine zH (k := ?_); refine zH (k := ?_); (refine zD (hK _ _ ?_); clear hK K))
        | (refine zc (ht := (fun ht => ?_)) (hf := (fun ht => ?_)) <;> (try simp at ht) <;> (try (exfalso; omega))))
      exact ⟨Or.inr rfl, _, A0, Ent.drop _, res2 rfl rfl rfl, _, rfl, rfl⟩
    | true =>
      have hb2 : isT t e i = false := by cases hq : isT t e i with
        | false => rfl
        | true => exact absurd ⟨hb, hq⟩ hg
      rw [hb] at hr
      rw [hb2] at hI
      repeat' (first
        | (refine yd ?_)
        | (refine scopeQ_normal ?_)
        | (refine scopeQ_ret ?_)
        | (refine scopeQ_exit ?_)
        | refine zi ?_
        | refine zK ?_
        | refine zQ (h := ?_)
        | refine zU (h := ?_)
        | refine zj ?_
        | refine zR ?_
        | refine zW ?_
        | refine zN ?_
        | refine zV ?_
        | refine ze ?_
        | refine zP ?_
        | refine zY ?_
        | refine zS rfl ?_
        | refine zd ?_
        | refine zX ?_
        | refine zO ?_
        | refine zT ?_
        | refine zL ?_
        | (refine zC (id := 0) ?_; intro K hK; ((refine zm (k := ?_); intro r3)) <;> (refine zH (k := ?_); refine zH (k := ?_); (refine zD (hK _ _ ?_); clear hK K)))
        | (refine zC (id := 1) ?_; intro K hK; refine zH (k := ?_); (refine zD (hK _ _ ?_); clear hK K))
        | (refine zC (id := 2) ?_; intro K hK; refine zF (k := ?_); ((refine zb (hs := hr) (hp := Pick_under _ _) (k := ?_); rintro v A' ⟨rfl, hA⟩; subst A'; refine yB (Ent.perm (List.perm_append_comm (l₁ := A0) (l₂ := [_]))) ?_; simp only [List.cons_append, List.nil_append])) <;> (refine z7 (k' := ?_); refine zF (k := ?_); ((first | (refine zA (k := ?_); refine zF (k := ?_)) | refine zE (k := ?_) | ((refine zG (yes := (fun ht => ?_)) (no := (fun ht => ?_)) <;> (try simp at ht) <;> (try (exfalso; omega))) <;> (first | (refine zA (k := ?_); refine zF (k := ?_)) | refine zE (k := ?_))))) <;> (((first | (refine zA (k := ?_); refine zo (k := ?_)) | refine zE (k := ?_) | ((refine zG (yes := (fun ht => ?_)) (no := (fun ht => ?_)) <;> (try simp at ht) <;> (try (exfalso; omega))) <;> (first | (refine zA (k := ?_); refine zo (k := ?_)) | refine zE (k := ?_))))) <;> (((first | (refine zA (k := ?_); (refine zb (hs := hI) (hp := Pick_under _ _) (k := ?_); rintro v A' ⟨rfl, hA⟩; subst A'; refine yB (Ent.perm (List.perm_append_comm (l₁ := A0) (l₂ := [_]))) ?_; simp only [List.cons_append, List.nil_append])) | refine zE (k := ?_) | ((refine zG (yes := (fun ht => ?_)) (no := (fun ht => ?_)) <;> (try simp at ht) <;> (try (exfalso; omega))) <;> (first | (refine zA (k := ?_); (refine zb (hs := hI) (hp := Pick_under _ _) (k := ?_); rintro v A' ⟨rfl, hA⟩; subst A'; refine yB (Ent.perm (List.perm_append_comm (l₁ := A0) (l₂ := [_]))) ?_; simp only [List.cons_append, List.nil_append])) | refine zE (k := ?_))))) <;> (((first | (refine zA (k := ?_); refine z7 (k' := ?_)) | refine zE (k := ?_) | ((refine zG (yes := (fun ht => ?_)) (no := (fun ht => ?_)) <;> (try simp at ht) <;> (try (exfalso; omega))) <;> (first | (refine zA (k := ?_); refine z7 (k' := ?_)) | refine zE (k := ?_))))) <;> ((first | refine zZ (k := ?_) | refine za (k := ?_) | refine zg (k := ?_)); (refine zD (hK _ _ ?_); clear hK K)))))))
        | (refine zC (id := 3) ?_; intro K hK; refine zH (k := ?_); refine zH (k := ?_); (refine zD (hK _ _ ?_); clear hK K))
        | (refine zc (ht := (fun ht => ?_)) (hf := (fun ht => ?_)) <;> (try simp at ht) <;> (try (exfalso; omega))))
      exact ⟨Or.inr rfl, _, A0, Ent.drop _, res2 rfl rfl rfl, _, rfl, rfl⟩
  obtain ⟨hb, hb2⟩ := hg
  have hz : cutN t e i = cutL (t.drop e.toNat) e.toNat i := if_pos ⟨hb, hb2⟩
  have hee := isT_e hb2
  rw [hb] at hr
  rw [hb2] at hI
  obtain ⟨p, rfl⟩ : ∃ p, a = some p := by
    cases a with
    | none => have := h.nil rfl; have := (rightT_out hb).1; omega
    | some p => exact ⟨p, rfl⟩
  obtain ⟨k0, rfl⟩ := Int.eq_ofNat_of_zero_le hee.1
  rw [Int.toNat_natCast] at hz
  have hrange := cutL_le (t.drop k0) k0 i
  rw [← hz] at hrange
  have htl : (t.drop k0).length = t.length - k0 := by simp
  repeat' (first
    | (refine yd ?_)
    | (refine scopeQ_normal ?_)
    | (refine scopeQ_ret ?_)
    | (refine scopeQ_exit ?_)
    | refine zi ?_
    | refine zK ?_
    | refine zQ (h := ?_)
    | refine zU (h := ?_)
    | refine zj ?_
    | refine zR ?_
    | refine zW ?_
    | refine zN ?_
    | refine zV ?_
    | refine ze ?_
    | refine zP ?_
    | refine zY ?_
    | refine zS rfl ?_
    | refine zd ?_
    | refine zX ?_
    | refine zO ?_
    | refine zT ?_
    | refine zL ?_
    | (refine zC (id := 0) ?_; intro K hK; ((refine zm (k := ?_); intro r3)) <;> (refine zH (k := ?_); refine zH (k := ?_); (refine zD (hK _ _ ?_); clear hK K)))
    | (refine zC (id := 1) ?_; intro K hK; refine zH (k := ?_); (refine zD (hK _ _ ?_); clear hK K))
    | (refine zC (id := 2) ?_; intro K hK; refine zF (k := ?_); ((refine zb (hs := hr) (hp := Pick_under _ _) (k := ?_); rintro v A' ⟨rfl, hA⟩; subst A'; refine yB (Ent.perm (List.perm_append_comm (l₁ := A0) (l₂ := [_]))) ?_; simp only [List.cons_append, List.nil_append])) <;> (refine z7 (k' := ?_); refine zF (k := ?_); ((first | (refine zA (k := ?_); refine zF (k := ?_)) | refine zE (k := ?_) | ((refine zG (yes := (fun ht => ?_)) (no := (fun ht => ?_)) <;> (try simp at ht) <;> (try (exfalso; omega))) <;> (first | (refine zA (k := ?_); refine zF (k := ?_)) | refine zE (k := ?_))))) <;> (((first | (refine zA (k := ?_); refine zo (k := ?_)) | refine zE (k := ?_) | ((refine zG (yes := (fun ht => ?_)) (no := (fun ht => ?_)) <;> (try simp at ht) <;> (try (exfalso; omega))) <;> (first | (refine zA (k := ?_); refine zo (k := ?_)) | refine zE (k := ?_))))) <;> (((first | (refine zA (k := ?_); (refine zb (hs := hI) (hp := Pick_under _ _) (k := ?_); rintro v A' ⟨rfl, hA⟩; subst A'; refine yB (Ent.perm (List.perm_append_comm (l₁ := A0) (l₂ := [_]))) ?_; simp only [List.cons_append, List.nil_append])) | refine zE (k := ?_) | ((refine zG (yes := (fun ht => ?_)) (no := (fun ht => ?_)) <;> (try simp at ht) <;> (try (exfalso; omega))) <;> (first | (refine zA (k := ?_); (refine zb (hs := hI) (hp := Pick_under _ _) (k := ?_); rintro v A' ⟨rfl, hA⟩; subst A'; refine yB (Ent.perm (List.perm_append_comm (l₁ := A0) (l₂ := [_]))) ?_; simp only [List.cons_append, List.nil_append])) | refine zE (k := ?_))))) <;> (((first | (refine zA (k := ?_); refine z7 (k' := ?_)) | refine zE (k := ?_) | ((refine zG (yes := (fun ht => ?_)) (no := (fun ht => ?_)) <;> (try simp at ht) <;> (try (exfalso; omega))) <;> (first | (refine zA (k := ?_); refine z7 (k' := ?_)) | refine zE (k := ?_))))) <;> ((first | refine zZ (k := ?_) | refine za (k := ?_) | refine zg (k := ?_)); (refine zD (hK _ _ ?_); clear hK K)))))))
    | (refine zC (id := 4) ?_; intro K hK; refine zB (k := ?_); refine zM (k := ?_); refine zH (k := ?_); (refine zD (hK _ _ ?_); clear hK K))
    | (refine zc (ht := (fun ht => ?_)) (hf := (fun ht => ?_)) <;> (try simp at ht) <;> (try (exfalso; omega))))
  refine yI (α := Nat) (fun k => [(0, .slice (some p) t.length c), (3, .pointer (some ⟨r3, 0, none⟩)), (6, .int .i64 0), (7, .int .i64 k)])
    (fun k => cb r3 [.int .i64 (k0 : Nat), .int .i64 i] 33 :: A0) (fun k => k ≤ t.length ∧ cutN t k0 i = cutL (t.drop k) k i) (fun k => t.length - k) k0 ⟨by omega, hz⟩ ⟨rfl, rfl, rfl, rfl, trivial⟩ (Ent.refl _) ?_
  rintro k G ⟨hk, hc⟩
  simp only [ov]
  by_cases hlt : k < t.length
  · obtain ⟨y, hy⟩ : ∃ y, t[k]? = some y := ⟨_, List.getElem?_eq_getElem hlt⟩
    have hd : t.drop k = y :: t.drop (k + 1) := by
      obtain ⟨h9, rfl⟩ := List.getElem?_eq_some_iff.1 hy
      exact List.drop_eq_getElem_cons h9
    by_cases hcy : y.cut < i
    · have hn : cutN t k0 i = k + 1 := by rw [hc, hd]; exact if_pos hcy
      have e1 : ((k + 1 : Nat) : Int) - 1 = ((k : Nat) : Int) := by omega
      rw [hn]
      repeat' (first
        | (refine yd ?_)
        | (refine scopeQ_normal ?_)
        | (refine scopeQ_ret ?_)
        | (refine scopeQ_exit ?_)
        | refine zi ?_
        | refine zK ?_
        | refine zQ (h := ?_)
        | refine zU (h := ?_)
        | refine zj ?_
        | refine zR ?_
        | refine zW ?_
        | refine zN ?_
        | refine zV ?_
        | refine ze ?_
        | refine zP ?_
        | refine zY ?_
        | refine zS rfl ?_
        | refine zd ?_
        | refine zX ?_
        | refine zO ?_
        | refine zT ?_
        | refine zL ?_
        | (refine zC (id := 5) ?_; intro K hK; refine zF (k := ?_); refine zF (k := ?_); refine zn (k' := ?_); refine z6 (k' := ?_); (refine zD (hK _ _ ?_); clear hK K))
        | (refine z3 (id := 7) (h := ?_); intro K hK; refine zF (k := ?_); refine zF (k := ?_); ((refine zq (k' := ?_))) <;> (((refine zz (k := ?_))) <;> (((refine z4 (v := .int .i64 y.cut) (j := k * 3 + 1) (hq := by rw [Int.toNat_natCast]; exact addr_two _ _ _) (hr := RdS.under h) (hv := epsC_cell (r := 1) hy (by omega) rfl) (k := ?_))) <;> (refine zB (k := ?_); refine zM (k := ?_); refine z6 (k' := ?_); (refine zD (hK _ _ ?_); clear hK K)))))
        | (refine zC (id := 8) ?_; intro K hK; refine zF (k := ?_); ((refine zl (k' := ?_); rw [show ((k : Nat) : Int) + 1 = ((k + 1 : Nat) : Int) by omega])) <;> (refine zH (k := ?_); (refine zD (hK _ _ ?_); clear hK K)))
        | (refine z3 (id := 9) (h := ?_); intro K hK; refine zF (k := ?_); refine zF (k := ?_); refine z0 (k' := ?_); refine zF (k := ?_); ((first | (refine zA (k := ?_); refine zF (k := ?_)) | refine zE (k := ?_) | ((refine zG (yes := (fun ht => ?_)) (no := (fun ht => ?_)) <;> (try simp at ht) <;> (try (exfalso; omega))) <;> (first | (refine zA (k := ?_); refine zF (k := ?_)) | refine zE (k := ?_))))) <;> (((first | (refine zA (k := ?_); refine zF (k := ?_)) | refine zE (k := ?_) | ((refine zG (yes := (fun ht => ?_)) (no := (fun ht => ?_)) <;> (try simp at ht) <;> (try (exfalso; omega))) <;> (first | (refine zA (k := ?_); refine zF (k := ?_)) | refine zE (k := ?_))))) <;> (((first | (refine zA (k := ?_); (refine yL (k' := ?_); rw [e1])) | refine zE (k := ?_) | ((refine zG (yes := (fun ht => ?_)) (no := (fun ht => ?_)) <;> (try simp at ht) <;> (try (exfalso; omega))) <;> (first | (refine zA (k := ?_); (refine yL (k' := ?_); rw [e1])) | refine zE (k := ?_))))) <;> (((first | (refine zA (k := ?_); (refine zq (k' := ?_))) | refine zE (k := ?_) | ((refine zG (yes := (fun ht => ?_)) (no := (fun ht => ?_)) <;> (try simp at ht) <;> (try (exfalso; omega))) <;> (first | (refine zA (k := ?_); (refine zq (k' := ?_))) | refine zE (k := ?_))))) <;> (((first | (refine zA (k := ?_); (refine zz (k := ?_))) | refine zE (k := ?_) | ((refine zG (yes := (fun ht => ?_)) (no := (fun ht => ?_)) <;> (try simp at ht) <;> (try (exfalso; omega))) <;> (first | (refine zA (k := ?_); (refine zz (k := ?_))) | refine zE (k := ?_))))) <;> (((first | (refine zA (k := ?_); (refine z4 (v := .bool y.forced) (j := k * 3 + 2) (hq := by rw [Int.toNat_natCast]; exact addr_two _ _ _) (hr := RdS.under h) (hv := epsC_cell (r := 2) hy (by omega) rfl) (k := ?_))) | refine zE (k := ?_) | ((refine zG (yes := (fun ht => ?_)) (no := (fun ht => ?_)) <;> (try simp at ht) <;> (try (exfalso; omega))) <;> (first | (refine zA (k := ?_); (refine z4 (v := .bool y.forced) (j := k * 3 + 2) (hq := by rw [Int.toNat_natCast]; exact addr_two _ _ _) (hr := RdS.under h) (hv := epsC_cell (r := 2) hy (by omega) rfl) (k := ?_))) | refine zE (k := ?_))))) <;> ((first | refine zZ (k := ?_) | refine za (k := ?_) | refine zg (k := ?_)); refine zH (k := ?_); refine zH (k := ?_); (refine zD (hK _ _ ?_); clear hK K))))))))
        | (refine zc (ht := (fun ht => ?_)) (hf := (fun ht => ?_)) <;> (try simp at ht) <;> (try (exfalso; omega))))
      exact ⟨Or.inr rfl, _, A0, Ent.drop _, res2 rfl rfl rfl, _, rfl, rfl⟩
    · have hn : cutN t k0 i = cutL (t.drop (k + 1)) (k + 1) i := by rw [hc, hd]; exact if_neg hcy
      repeat' (first
        | (refine yd ?_)
        | (refine scopeQ_normal ?_)
        | (refine scopeQ_ret ?_)
        | (refine scopeQ_exit ?_)
        | refine zi ?_
        | refine zK ?_
        | refine zQ (h := ?_)
        | refine zU (h := ?_)
        | refine zj ?_
        | refine zR ?_
        | refine zW ?_
        | refine zN ?_
        | refine zV ?_
        | refine ze ?_
        | refine zP ?_
        | refine zY ?_
        | refine zS rfl ?_
        | refine zd ?_
        | refine zX ?_
        | refine zO ?_
        | refine zT ?_
        | refine zL ?_
        | (refine zC (id := 5) ?_; intro K hK; refine zF (k := ?_); refine zF (k := ?_); refine zn (k' := ?_); refine z6 (k' := ?_); (refine zD (hK _ _ ?_); clear hK K))
        | (refine zC (id := 6) ?_; intro K hK; refine zF (k := ?_); refine zl (k' := ?_); refine zH (k := ?_); (refine zD (hK _ _ ?_); clear hK K))
        | (refine z3 (id := 7) (h := ?_); intro K hK; refine zF (k := ?_); refine zF (k := ?_); ((refine zq (k' := ?_))) <;> (((refine zz (k := ?_))) <;> (((refine z4 (v := .int .i64 y.cut) (j := k * 3 + 1) (hq := by rw [Int.toNat_natCast]; exact addr_two _ _ _) (hr := RdS.under h) (hv := epsC_cell (r := 1) hy (by omega) rfl) (k := ?_))) <;> (refine zB (k := ?_); refine zM (k := ?_); refine z6 (k' := ?_); (refine zD (hK _ _ ?_); clear hK K)))))
        | (refine zc (ht := (fun ht => ?_)) (hf := (fun ht => ?_)) <;> (try simp at ht) <;> (try (exfalso; omega))))
      exact ⟨k + 1, ⟨by omega, hn⟩, by omega, ⟨rfl, rfl, rfl, int_succ k, trivial⟩, Ent.refl _⟩
  · obtain rfl : k = t.length := by omega
    have hn : cutN t k0 i = 0 := by rw [hc, List.drop_length]; rfl
    rw [hn]
    repeat' (first
      | (refine yd ?_)
      | (refine scopeQ_normal ?_)
      | (refine scopeQ_ret ?_)
      | (refine scopeQ_exit ?_)
      | refine zi ?_
      | refine zK ?_
      | refine zQ (h := ?_)
      | refine zU (h := ?_)
      | refine zj ?_
      | refine zR ?_
      | refine zW ?_
      | refine zN ?_
      | refine zV ?_
      | refine ze ?_
      | refine zP ?_
      | refine zY ?_
      | refine zS rfl ?_
      | refine zd ?_
      | refine zX ?_
      | refine zO ?_
      | refine zT ?_
      | refine zL ?_
      | (refine zC (id := 5) ?_; intro K hK; refine zF (k := ?_); refine zF (k := ?_); refine zn (k' := ?_); refine z6 (k' := ?_); (refine zD (hK _ _ ?_); clear hK K))
      | (refine z3 (id := 9) (h := ?_); intro K hK; refine zF (k := ?_); refine zF (k := ?_); refine z0 (k' := ?_); refine zF (k := ?_); ((first | (refine zA (k := ?_); refine zF (k := ?_)) | refine zE (k := ?_) | ((refine zG (yes := (fun ht => ?_)) (no := (fun ht => ?_)) <;> (try simp at ht) <;> (try (exfalso; omega))) <;> (first | (refine zA (k := ?_); refine zF (k := ?_)) | refine zE (k := ?_))))) <;> (((first | (refine zA (k := ?_); refine zF (k := ?_)) | refine zE (k := ?_) | ((refine zG (yes := (fun ht => ?_)) (no := (fun ht => ?_)) <;> (try simp at ht) <;> (try (exfalso; omega))) <;> (first | (refine zA (k := ?_); refine zF (k := ?_)) | refine zE (k := ?_))))) <;> (((first | (refine zA (k := ?_); refine yL (k' := ?_)) | refine zE (k := ?_) | ((refine zG (yes := (fun ht => ?_)) (no := (fun ht => ?_)) <;> (try simp at ht) <;> (try (exfalso; omega))) <;> (first | (refine zA (k := ?_); refine yL (k' := ?_)) | refine zE (k := ?_))))) <;> (((first | (refine zA (k := ?_); refine z9 (k' := ?_)) | refine zE (k := ?_) | ((refine zG (yes := (fun ht => ?_)) (no := (fun ht => ?_)) <;> (try simp at ht) <;> (try (exfalso; omega))) <;> (first | (refine zA (k := ?_); refine z9 (k' := ?_)) | refine zE (k := ?_))))) <;> (((first | (refine zA (k := ?_); refine zB (k := ?_)) | refine zE (k := ?_) | ((refine zG (yes := (fun ht => ?_)) (no := (fun ht => ?_)) <;> (try simp at ht) <;> (try (exfalso; omega))) <;> (first | (refine zA (k := ?_); refine zB (k := ?_)) | refine zE (k := ?_))))) <;> (((first | (refine zA (k := ?_); refine zM (k := ?_)) | refine zE (k := ?_) | ((refine zG (yes := (fun ht => ?_)) (no := (fun ht => ?_)) <;> (try simp at ht) <;> (try (exfalso; omega))) <;> (first | (refine zA (k := ?_); refine zM (k := ?_)) | refine zE (k := ?_))))) <;> ((first | refine zZ (k := ?_) | refine za (k := ?_) | refine zg (k := ?_)); refine zH (k := ?_); refine zH (k := ?_); (refine zD (hK _ _ ?_); clear hK K))))))))
      | (refine zc (ht := (fun ht => ?_)) (hf := (fun ht => ?_)) <;> (try simp at ht) <;> (try (exfalso; omega))))
    exact ⟨Or.inr rfl, _, A0, Ent.drop _, res2 rfl rfl rfl, _, rfl, rfl⟩
theorem on_spec (A0 : List Asn) (t : List Ep) (a : Option Addr) (c : Nat) (h : RdS Tryz.prog B A0 3 a t.length c (epsC t)) (hsz : t.length ≤ 1000000) (e i : Int) (he : -9223372036854775808 ≤ e ∧ e ≤ 9223372036854775807) :
    Fspec Tryz.prog B 81 #[.slice a t.length c, .agg #[.int .i64 e, .int .i64 i]] A0 (fun v A' => v = .bool (onT t e i) ∧ A' = A0) := by
  have hr := right_spec (B := B) A0 t a c h hsz
  have hI := is_spec (B := B) A0 t a c h e i he
  have hC := cut_spec (B := B) A0 t a c h hsz e i he
  obtain ⟨b1, hb1⟩ : ∃ b, rightT t = b := ⟨_, rfl⟩
  obtain ⟨b2, hb2⟩ : ∃ b, isT t e i = b := ⟨_, rfl⟩
  have hz : onT t e i = (b1 && b2 && decide (cutN t e i = 0)) := by unfold onT; rw [hb1, hb2]
  rw [hz]
  rw [hb1] at hr
  rw [hb2] at hI
  refine spec_of (args := [_, _]) Tryz.func81 rfl rfl rfl ?_
  cases b1 <;> cases b2
  all_goals
    repeat' (first
      | refine zi ?_
      | refine zK ?_
      | refine zQ (h := ?_)
      | refine zU (h := ?_)
      | refine zj ?_
      | refine zR ?_
      | refine zW ?_
      | refine zN ?_
      | refine zV ?_
      | refine ze ?_
      | refine zP ?_
      | refine zY ?_
      | refine zS rfl ?_
      | refine zd ?_
      | refine zX ?_
      | refine zO ?_
      | refine zT ?_
      | refine zL ?_
      | (refine zC (id := 0) ?_; intro K hK; ((refine zm (k := ?_); intro r3)) <;> (refine zH (k := ?_); (refine zD (hK _ _ ?_); clear hK K)))
      | (refine zC (id := 1) ?_; intro K hK; refine zF (k := ?_); ((refine zb (hs := hr) (hp := Pick_under _ _) (k := ?_); rintro v A' ⟨rfl, hA⟩; subst A'; refine yB (Ent.perm (List.perm_append_comm (l₁ := A0) (l₂ := [_]))) ?_; simp only [List.cons_append, List.nil_append])) <;> (refine z7 (k' := ?_); refine zF (k := ?_); ((first | (refine zA (k := ?_); refine zF (k := ?_)) | refine zE (k := ?_) | ((refine zG (yes := (fun ht => ?_)) (no := (fun ht => ?_)) <;> (try simp at ht) <;> (try (exfalso; omega))) <;> (first | (refine zA (k := ?_); refine zF (k := ?_)) | refine zE (k := ?_))))) <;> (((first | (refine zA (k := ?_); refine zo (k := ?_)) | refine zE (k := ?_) | ((refine zG (yes := (fun ht => ?_)) (no := (fun ht => ?_)) <;> (try simp at ht) <;> (try (exfalso; omega))) <;> (first | (refine zA (k := ?_); refine zo (k := ?_)) | refine zE (k := ?_))))) <;> (((first | (refine zA (k := ?_); (refine zb (hs := hI) (hp := Pick_under _ _) (k := ?_); rintro v A' ⟨rfl, hA⟩; subst A'; refine yB (Ent.perm (List.perm_append_comm (l₁ := A0) (l₂ := [_]))) ?_; simp only [List.cons_append, List.nil_append])) | refine zE (k := ?_) | ((refine zG (yes := (fun ht => ?_)) (no := (fun ht => ?_)) <;> (try simp at ht) <;> (try (exfalso; omega))) <;> (first | (refine zA (k := ?_); (refine zb (hs := hI) (hp := Pick_under _ _) (k := ?_); rintro v A' ⟨rfl, hA⟩; subst A'; refine yB (Ent.perm (List.perm_append_comm (l₁ := A0) (l₂ := [_]))) ?_; simp only [List.cons_append, List.nil_append])) | refine zE (k := ?_))))) <;> (((first | (refine zA (k := ?_); refine z7 (k' := ?_)) | refine zE (k := ?_) | ((refine zG (yes := (fun ht => ?_)) (no := (fun ht => ?_)) <;> (try simp at ht) <;> (try (exfalso; omega))) <;> (first | (refine zA (k := ?_); refine z7 (k' := ?_)) | refine zE (k := ?_))))) <;> ((first | refine zZ (k := ?_) | refine za (k := ?_) | refine zg (k := ?_)); (refine zD (hK _ _ ?_); clear hK K)))))))
      | (refine zC (id := 2) ?_; intro K hK; refine zH (k := ?_); (refine zD (hK _ _ ?_); clear hK K))
      | (refine zC (id := 3) ?_; intro K hK; refine zF (k := ?_); refine zo (k := ?_); ((refine zb (hs := hC) (hp := Pick_under _ _) (k := ?_); rintro v A' ⟨bf, rfl, hA⟩; subst A'; refine yB (Ent.perm (List.perm_append_comm (l₁ := A0) (l₂ := [_]))) ?_; simp only [List.cons_append, List.nil_append])) <;> (refine zF (k := ?_); refine zu (k' := ?_); refine zu (k' := ?_); refine zH (k := ?_); refine zH (k := ?_); (refine zD (hK _ _ ?_); clear hK K)))
      | (refine zC (id := 4) ?_; intro K hK; refine zF (k := ?_); refine zp (k' := ?_); refine zH (k := ?_); (refine zD (hK _ _ ?_); clear hK K))
      | (refine zc (ht := (fun ht => ?_)) (hf := (fun ht => ?_)) <;> (try simp at ht) <;> (try (exfalso; omega))))
  all_goals exact ⟨Or.inr rfl, _, A0, Ent.drop _, res1 rfl rfl, congrArg Value.bool (by simp), rfl⟩
theorem covers_spec (A0 : List Asn) (t : List Ep) (a : Option Addr) (c : Nat) (h : RdS Tryz.prog B A0 3 a t.length c (epsC t)) (hsz : t.length ≤ 1000000) (e i e2 i2 : Int) (he : -9223372036854775808 ≤ e ∧ e ≤ 9223372036854775807) (he2 : -9223372036854775808 ≤ e2 ∧ e2 ≤ 9223372036854775807) :
    Fspec Tryz.prog B 104 #[.slice a t.length c, .agg #[.int .i64 e, .int .i64 i], .agg #[.int .i64 e2, .int .i64 i2]] A0 (fun v A' => v = .bool (onT t e i && onT t e2 i2 && decide (i2 ≤ i)) ∧ A' = A0) := by
  have h1 := on_spec (B := B) A0 t a c h hsz e i he
  have h2 := on_spec (B := B) A0 t a c h hsz e2 i2 he2
  obtain ⟨b1, hb1⟩ : ∃ b, onT t e i = b := ⟨_, rfl⟩
  obtain ⟨b2, hb2⟩ : ∃ b, onT t e2 i2 = b := ⟨_, rfl⟩
  rw [hb1, hb2]
  rw [hb1] at h1
  rw [hb2] at h2
  refine spec_of (args := [_, _, _]) Tryz.func104 rfl rfl rfl ?_
  cases b1 <;> cases b2
  all_goals
    repeat' (first
      | refine zi ?_
      | refine zK ?_
      | refine zQ (h := ?_)
      | refine zU (h := ?_)
      | refine zj ?_
      | refine zR ?_
      | refine zW ?_
      | refine zN ?_
      | refine zV ?_
      | refine ze ?_
      | refine zP ?_
      | refine zY ?_
      | refine zS rfl ?_
      | refine zd ?_
      | refine zX ?_
      | refine zO ?_
      | refine zT ?_
      | refine zL ?_
      | (refine zC (id := 0) ?_; intro K hK; ((refine zm (k := ?_); intro r4)) <;> (((refine zm (k := ?_); intro r5)) <;> (refine zH (k := ?_); (refine zD (hK _ _ ?_); clear hK K))))
      | (refine zC (id := 1) ?_; intro K hK; refine zF (k := ?_); refine zo (k := ?_); ((refine zb (hs := h1) (hp := Pick_mid [_, _] _) (k := ?_); rintro v A' ⟨rfl, hA⟩; subst A'; refine yB (Ent.perm (List.perm_append_comm (l₁ := A0) (l₂ := [_, _]))) ?_; simp only [List.cons_append, List.nil_append])) <;> (refine zF (k := ?_); ((first | (refine zA (k := ?_); refine zF (k := ?_)) | refine zE (k := ?_) | ((refine zG (yes := (fun ht => ?_)) (no := (fun ht => ?_)) <;> (try simp at ht) <;> (try (exfalso; omega))) <;> (first | (refine zA (k := ?_); refine zF (k := ?_)) | refine zE (k := ?_))))) <;> (((first | (refine zA (k := ?_); refine zo (k := ?_)) | refine zE (k := ?_) | ((refine zG (yes := (fun ht => ?_)) (no := (fun ht => ?_)) <;> (try simp at ht) <;> (try (exfalso; omega))) <;> (first | (refine zA (k := ?_); refine zo (k := ?_)) | refine zE (k := ?_))))) <;> (((first | (refine zA (k := ?_); (refine zb (hs := h2) (hp := Pick_mid [_, _] _) (k := ?_); rintro v A' ⟨rfl, hA⟩; subst A'; refine yB (Ent.perm (List.perm_append_comm (l₁ := A0) (l₂ := [_, _]))) ?_; simp only [List.cons_append, List.nil_append])) | refine zE (k := ?_) | ((refine zG (yes := (fun ht => ?_)) (no := (fun ht => ?_)) <;> (try simp at ht) <;> (try (exfalso; omega))) <;> (first | (refine zA (k := ?_); (refine zb (hs := h2) (hp := Pick_mid [_, _] _) (k := ?_); rintro v A' ⟨rfl, hA⟩; subst A'; refine yB (Ent.perm (List.perm_append_comm (l₁ := A0) (l₂ := [_, _]))) ?_; simp only [List.cons_append, List.nil_append])) | refine zE (k := ?_))))) <;> ((first | refine zZ (k := ?_) | refine za (k := ?_) | refine zg (k := ?_)); refine zF (k := ?_); ((first | (refine zA (k := ?_); refine zB (k := ?_)) | refine zE (k := ?_) | ((refine zG (yes := (fun ht => ?_)) (no := (fun ht => ?_)) <;> (try simp at ht) <;> (try (exfalso; omega))) <;> (first | (refine zA (k := ?_); refine zB (k := ?_)) | refine zE (k := ?_))))) <;> (((first | (refine zA (k := ?_); refine zM (k := ?_)) | refine zE (k := ?_) | ((refine zG (yes := (fun ht => ?_)) (no := (fun ht => ?_)) <;> (try simp at ht) <;> (try (exfalso; omega))) <;> (first | (refine zA (k := ?_); refine zM (k := ?_)) | refine zE (k := ?_))))) <;> (((first | (refine zA (k := ?_); refine zB (k := ?_)) | refine zE (k := ?_) | ((refine zG (yes := (fun ht => ?_)) (no := (fun ht => ?_)) <;> (try simp at ht) <;> (try (exfalso; omega))) <;> (first | (refine zA (k := ?_); refine zB (k := ?_)) | refine zE (k := ?_))))) <;> (((first | (refine zA (k := ?_); refine zM (k := ?_)) | refine zE (k := ?_) | ((refine zG (yes := (fun ht => ?_)) (no := (fun ht => ?_)) <;> (try simp at ht) <;> (try (exfalso; omega))) <;> (first | (refine zA (k := ?_); refine zM (k := ?_)) | refine zE (k := ?_))))) <;> (((first | (refine zA (k := ?_); refine yH (k' := ?_)) | refine zE (k := ?_) | ((refine zG (yes := (fun ht => ?_)) (no := (fun ht => ?_)) <;> (try simp at ht) <;> (try (exfalso; omega))) <;> (first | (refine zA (k := ?_); refine yH (k' := ?_)) | refine zE (k := ?_))))) <;> ((first | refine zZ (k := ?_) | refine za (k := ?_) | refine zg (k := ?_)); refine zH (k := ?_); (refine zD (hK _ _ ?_); clear hK K)))))))))))
      | (refine zc (ht := (fun ht => ?_)) (hf := (fun ht => ?_)) <;> (try simp at ht) <;> (try (exfalso; omega))))
  all_goals exact ⟨Or.inr rfl, _, A0, Ent.trans (Ent.drop _) (Ent.drop _), res1 rfl rfl, congrArg Value.bool (by simp), rfl⟩
end specs
end Go.Proofs.YtnoggejkkjngjaaGreat
/- Package state: which snapshots are right; a snapshot in new memory. Conditions: none but the kinds' bounds, and not too many rows. -/
set_option maxHeartbeats 8000000
set_option linter.unusedVariables false
set_option linter.unusedSimpArgs false
set_option maxRecDepth 100000
namespace Go.Proofs.YtnoggejkkjngjaaGreat
open Go Go.Sl
attribute [local irreducible] Go.Sl.Wl Go.Sl.Wc Go.Sl.thenQ Go.Sl.blkQ Go.Sl.loopQ Go.Sl.Fspec

def rg (n : Int) : Prop := -9223372036854775808 ≤ n ∧ n ≤ 9223372036854775807
def belowT (t : List Ep) (e i ae ai : Int) : Bool := !decide (e = 0 ∧ i = 0) && (onT t ae ai && onT t e i && decide (i ≤ ai))
section specs
variable {B : Base}
theorem below_spec (st : Nat) (S : G15) (hS : S.ok) (e i ae ai : Int) (he : rg e) (hae : rg ae) :
    Fspec Tryz.prog B 82 #[.pointer (some ⟨st, 0, none⟩), .agg #[.int .i64 e, .int .i64 i], .agg #[.int .i64 ae, .int .i64 ai]] [GtP st S] (fun v A' => v = .bool (belowT S.table e i ae ai) ∧ A' = [GtP st S]) := by
  have htab := rightT_out hS.tab
  refine spec_of (args := [_, _, _]) Tryz.func82 rfl rfl rfl ?_
  refine yE (fun q => ?_)
  obtain ⟨k, d, ta, tc, pa, pc, sa, sc, ea, ec⟩ := q
  simp only [GtL, GtR]
  simp only [List.cons_append, List.nil_append]
  refine yW (a := ta) (sz := 3) (ho := (by (repeat (first | exact Out.head | apply Out.tail)); (first | done | fail))) (h0 := by omega) (h := fun hft => ?_)
  have hcov := covers_spec (B := B) [own ta S.table.length tc 3 (epsC S.table) 45] S.table ta tc (hft.rd .head) (by omega) ae ai e i hae he
  unfold belowT
  by_cases h0 : e = 0 ∧ i = 0
  · rw [decide_eq_true h0]
    repeat' (first
      | refine zi ?_
      | refine zK ?_
      | refine zQ (h := ?_)
      | refine zU (h := ?_)
      | refine zj ?_
      | refine zR ?_
      | refine zW ?_
      | refine zN ?_
      | refine zV ?_
      | refine ze ?_
      | refine zP ?_
      | refine zY ?_
      | refine zS rfl ?_
      | refine zd ?_
      | refine zX ?_
      | refine zO ?_
      | refine zT ?_
      | refine zL ?_
      | (refine zC (id := 0) ?_; intro K hK; ((refine zm (k := ?_); intro r4)) <;> (((refine zm (k := ?_); intro r5)) <;> (refine zH (k := ?_); (refine zD (hK _ _ ?_); clear hK K))))
      | (refine z3 (id := 1) (h := ?_); intro K hK; refine zo (k := ?_); refine zr (k := ?_); ((refine yX (b := true) (hb := by rw [pos_ceq]; exact decide_eq_true h0) (k' := ?_))) <;> (refine zF (k := ?_); ((first | (refine zA (k := ?_); refine zF (k := ?_)) | refine zE (k := ?_) | ((refine zG (yes := (fun ht => ?_)) (no := (fun ht => ?_)) <;> (try simp at ht) <;> (try (exfalso; omega))) <;> (first | (refine zA (k := ?_); refine zF (k := ?_)) | refine zE (k := ?_))))) <;> (((first | (refine zA (k := ?_); refine zJ (k := ?_)) | refine zE (k := ?_) | ((refine zG (yes := (fun ht => ?_)) (no := (fun ht => ?_)) <;> (try simp at ht) <;> (try (exfalso; omega))) <;> (first | (refine zA (k := ?_); refine zJ (k := ?_)) | refine zE (k := ?_))))) <;> (((first | (refine zA (k := ?_); refine zB (k := ?_)) | refine zE (k := ?_) | ((refine zG (yes := (fun ht => ?_)) (no := (fun ht => ?_)) <;> (try simp at ht) <;> (try (exfalso; omega))) <;> (first | (refine zA (k := ?_); refine zB (k := ?_)) | refine zE (k := ?_))))) <;> (((first | (refine zA (k := ?_); refine zM (k := ?_)) | refine zE (k := ?_) | ((refine zG (yes := (fun ht => ?_)) (no := (fun ht => ?_)) <;> (try simp at ht) <;> (try (exfalso; omega))) <;> (first | (refine zA (k := ?_); refine zM (k := ?_)) | refine zE (k := ?_))))) <;> (((first | (refine zA (k := ?_); refine zo (k := ?_)) | refine zE (k := ?_) | ((refine zG (yes := (fun ht => ?_)) (no := (fun ht => ?_)) <;> (try simp at ht) <;> (try (exfalso; omega))) <;> (first | (refine zA (k := ?_); refine zo (k := ?_)) | refine zE (k := ?_))))) <;> (((first | (refine zA (k := ?_); refine zo (k := ?_)) | refine zE (k := ?_) | ((refine zG (yes := (fun ht => ?_)) (no := (fun ht => ?_)) <;> (try simp at ht) <;> (try (exfalso; omega))) <;> (first | (refine zA (k := ?_); refine zo (k := ?_)) | refine zE (k := ?_))))) <;> ((refine zE (k := ?_)) <;> ((first | refine zZ (k := ?_) | refine za (k := ?_) | refine zg (k := ?_)); refine zH (k := ?_); (refine zD (hK _ _ ?_); clear hK K))))))))))
      | (refine zc (ht := (fun ht => ?_)) (hf := (fun ht => ?_)) <;> (try simp at ht) <;> (try (exfalso; omega))))
    exact ⟨Or.inr rfl, _, [GtP st S], gt_fold (A0 := []) ⟨k, d, ta, tc, pa, pc, sa, sc, ea, ec⟩ (by simp only [GtL, GtR]; simp only [List.cons_append, List.nil_append]; (repeat (first | exact Ent.refl _ | exact Ent.nil | refine Ent.take (by (repeat (first | exact Out.head | apply Out.tail)); (first | done | fail)) ?_ | refine Ent.drop1 ?_))), res1 rfl rfl, rfl, rfl⟩
  · rw [decide_eq_false h0]
    repeat' (first
      | refine zi ?_
      | refine zK ?_
      | refine zQ (h := ?_)
      | refine zU (h := ?_)
      | refine zj ?_
      | refine zR ?_
      | refine zW ?_
      | refine zN ?_
      | refine zV ?_
      | refine ze ?_
      | refine zP ?_
      | refine zY ?_
      | refine zS rfl ?_
      | refine zd ?_
      | refine zX ?_
      | refine zO ?_
      | refine zT ?_
      | refine zL ?_
      | (refine zC (id := 0) ?_; intro K hK; ((refine zm (k := ?_); intro r4)) <;> (((refine zm (k := ?_); intro r5)) <;> (refine zH (k := ?_); (refine zD (hK _ _ ?_); clear hK K))))
      | (refine z3 (id := 1) (h := ?_); intro K hK; refine zo (k := ?_); refine zr (k := ?_); ((refine yX (b := false) (hb := by rw [pos_ceq]; exact decide_eq_false h0) (k' := ?_))) <;> (refine zF (k := ?_); ((first | (refine zA (k := ?_); refine zF (k := ?_)) | refine zE (k := ?_) | ((refine zG (yes := (fun ht => ?_)) (no := (fun ht => ?_)) <;> (try simp at ht) <;> (try (exfalso; omega))) <;> (first | (refine zA (k := ?_); refine zF (k := ?_)) | refine zE (k := ?_))))) <;> (((first | (refine zA (k := ?_); refine zJ (k := ?_)) | refine zE (k := ?_) | ((refine zG (yes := (fun ht => ?_)) (no := (fun ht => ?_)) <;> (try simp at ht) <;> (try (exfalso; omega))) <;> (first | (refine zA (k := ?_); refine zJ (k := ?_)) | refine zE (k := ?_))))) <;> (((first | (refine zA (k := ?_); refine zB (k := ?_)) | refine zE (k := ?_) | ((refine zG (yes := (fun ht => ?_)) (no := (fun ht => ?_)) <;> (try simp at ht) <;> (try (exfalso; omega))) <;> (first | (refine zA (k := ?_); refine zB (k := ?_)) | refine zE (k := ?_))))) <;> (((first | (refine zA (k := ?_); refine zM (k := ?_)) | refine zE (k := ?_) | ((refine zG (yes := (fun ht => ?_)) (no := (fun ht => ?_)) <;> (try simp at ht) <;> (try (exfalso; omega))) <;> (first | (refine zA (k := ?_); refine zM (k := ?_)) | refine zE (k := ?_))))) <;> (((first | (refine zA (k := ?_); refine zo (k := ?_)) | refine zE (k := ?_) | ((refine zG (yes := (fun ht => ?_)) (no := (fun ht => ?_)) <;> (try simp at ht) <;> (try (exfalso; omega))) <;> (first | (refine zA (k := ?_); refine zo (k := ?_)) | refine zE (k := ?_))))) <;> (((first | (refine zA (k := ?_); refine zo (k := ?_)) | refine zE (k := ?_) | ((refine zG (yes := (fun ht => ?_)) (no := (fun ht => ?_)) <;> (try simp at ht) <;> (try (exfalso; omega))) <;> (first | (refine zA (k := ?_); refine zo (k := ?_)) | refine zE (k := ?_))))) <;> (((first | (refine zA (k := ?_); (refine zb (hs := hcov) (k := ?_); rintro v A' ⟨rfl, rfl⟩; simp only [List.cons_append, List.nil_append])) | refine zE (k := ?_) | ((refine zG (yes := (fun ht => ?_)) (no := (fun ht => ?_)) <;> (try simp at ht) <;> (try (exfalso; omega))) <;> (first | (refine zA (k := ?_); (refine zb (hs := hcov) (k := ?_); rintro v A' ⟨rfl, rfl⟩; simp only [List.cons_append, List.nil_append])) | refine zE (k := ?_))))) <;> ((first | refine zZ (k := ?_) | refine za (k := ?_) | refine zg (k := ?_)); refine zH (k := ?_); (refine zD (hK _ _ ?_); clear hK K))))))))))
      | (refine zc (ht := (fun ht => ?_)) (hf := (fun ht => ?_)) <;> (try simp at ht) <;> (try (exfalso; omega))))
    exact ⟨Or.inr rfl, _, [GtP st S], gt_fold (A0 := []) ⟨k, d, ta, tc, pa, pc, sa, sc, ea, ec⟩ (by simp only [GtL, GtR]; simp only [List.cons_append, List.nil_append]; (repeat (first | exact Ent.refl _ | exact Ent.nil | refine Ent.take (by (repeat (first | exact Out.head | apply Out.tail)); (first | done | fail)) ?_ | refine Ent.drop1 ?_))), res1 rfl rfl, congrArg Value.bool (by simp), rfl⟩
theorem copied_spec (A0 : List Asn) (b : SnX) (hps : b.ps.length ≤ 900000) (hss : b.ss.length ≤ 900000) (pa : Option Addr) (pc : Nat) (sa : Option Addr) (sc : Nat) (h1 : RdS Tryz.prog B A0 5 pa b.ps.length pc (prC b.ps)) (h2 : RdS Tryz.prog B A0 4 sa b.ss.length sc (ssC b.ss)) :
    Fspec Tryz.prog B 53 #[.agg #[.int .i64 b.e, .int .i64 b.i, .slice pa b.ps.length pc, .slice sa b.ss.length sc]] A0
      (fun v A' => ∃ a1 c1 a2 c2, v = .agg #[.int .i64 b.e, .int .i64 b.i, .slice a1 b.ps.length c1, .slice a2 b.ss.length c2] ∧ A' = own a2 b.ss.length c2 4 (ssC b.ss) 111 :: own a1 b.ps.length c1 5 (prC b.ps) 57 :: A0) := by
  refine spec_of (args := [_]) Tryz.func53 rfl rfl rfl ?_
  repeat' (first
    | refine zi ?_
    | refine zK ?_
    | refine zQ (h := ?_)
    | refine zU (h := ?_)
    | refine zj ?_
    | refine zR ?_
    | refine zW ?_
    | refine zN ?_
    | refine zV ?_
    | refine ze ?_
    | refine zP ?_
    | refine zY ?_
    | refine zS rfl ?_
    | refine zd ?_
    | refine zX ?_
    | refine zO ?_
    | refine zT ?_
    | refine zL ?_
    | (refine zC (id := 0) ?_; intro K hK; ((refine zm (k := ?_); intro r1)) <;> (((refine zw (k := ?_); intro r2)) <;> ((refine zD (hK _ _ ?_); clear hK K))))
    | (refine zC (id := 1) ?_; intro K hK; ((refine yT (k := ?_); intro r3)) <;> (refine zB (k := ?_); refine zM (k := ?_); ((refine yN (hsrc := RdS.under (RdS.under (RdS.under h1))) (hvc := prC_all _) (hbd := by omega) (k := ?_); intro a6 c6)) <;> (refine zB (k := ?_); refine zy (ho := rfl) (k := ?_); (refine zD (hK _ _ ?_); clear hK K))))
    | (refine zC (id := 2) ?_; intro K hK; ((refine yT (k := ?_); intro r8)) <;> (refine zB (k := ?_); refine zM (k := ?_); ((refine yN (hsrc := RdS.under (RdS.under (RdS.under (RdS.under h2)))) (hvc := ssC_all _) (hbd := by omega) (k := ?_); intro a11 c11)) <;> (refine zB (k := ?_); refine zy (ho := rfl) (k := ?_); (refine zD (hK _ _ ?_); clear hK K))))
    | (refine zC (id := 3) ?_; intro K hK; refine zo (k := ?_); refine zh (ho' := rfl) (k := ?_); (refine zD (hK _ _ ?_); clear hK K))
    | (refine zc (ht := (fun ht => ?_)) (hf := (fun ht => ?_)) <;> (try simp at ht) <;> (try (exfalso; omega))))
  refine ⟨Or.inr rfl, _, own a11 b.ss.length c11 4 (ssC b.ss) 111 :: own a6 b.ps.length c6 5 (prC b.ps) 57 :: A0, ?_, resG rfl (by (repeat (first | exact ResL.nil | apply ResL.tmp (by (repeat (first | exact Ev.here | exact Ev.const | exact Ev.arg rfl | apply Ev.there rfl | exact Ev.none rfl | exact Ev.func | exact Ev.var)); (first | done | fail)) | apply ResL.agg (by (repeat (first | exact Ev.here | exact Ev.const | exact Ev.arg rfl | apply Ev.there rfl | exact Ev.none rfl | exact Ev.func | exact Ev.var)); (first | done | fail)) (by (repeat (first | exact Rd.head | exact Rd.base (by assumption) | apply Rd.tail)); (first | done | fail)) (by (repeat (first | exact TakeR.nil | apply TakeR.take | apply TakeR.skip)); (first | done | fail)) | apply ResL.cell (by (repeat (first | exact Ev.here | exact Ev.const | exact Ev.arg rfl | apply Ev.there rfl | exact Ev.none rfl | exact Ev.func | exact Ev.var)); (first | done | fail)) (by (repeat (first | exact Rd.head | exact Rd.base (by assumption) | apply Rd.tail)); (first | done | fail)) rfl)); (first | done | fail)) rfl, a6, c6, a11, c11, ?_, rfl⟩
  · simp only [Nat.zero_add, List.nil_append]
    (repeat (first | exact Ent.refl _ | exact Ent.nil | refine Ent.take (by (repeat (first | exact Out.head | apply Out.tail)); (first | done | fail)) ?_ | refine Ent.drop1 ?_))
  · simp only [Nat.zero_add]; rfl
end specs
end Go.Proofs.YtnoggejkkjngjaaGreat
/- Package state: keys, sessions, tables, positions: what is on the branch. No program in sight. -/
set_option maxHeartbeats 8000000
set_option linter.unusedVariables false
set_option linter.unusedSimpArgs false
set_option maxRecDepth 100000
namespace Go.Proofs.YtnoggejkkjngjaaGreat
open Go Go.Sl
attribute [local irreducible] Go.Sl.Wl Go.Sl.Wc Go.Sl.thenQ Go.Sl.blkQ Go.Sl.loopQ Go.Sl.Fspec

/-! ### Keys -/
theorem lset_val {k : ByteArray} {v : VX} {x : ByteArray × VX} : ∀ {l : KL}, x ∈ lset l k v → x ∈ l ∨ x = (k, v)
  | [], h => by simp [lset] at h; exact .inr h
  | (k', v') :: l, h => by
    unfold lset at h
    split at h
    · rcases List.mem_cons.1 h with h | h
      · exact .inr h
      · exact .inl h
    · split at h
      · rcases List.mem_cons.1 h with h | h
        · exact .inl (by rw [h]; exact List.mem_cons_self ..)
        · rcases lset_val h with h | h
          · exact .inl (List.mem_cons_of_mem _ h)
          · exact .inr h
      · rename_i h1 h2
        have he : k' = k := Classical.byContradiction fun hne => h1 (klt_total (by simpa using h2) hne)
        rcases List.mem_cons.1 h with h | h
        · exact .inr (by rw [h, he])
        · exact .inl (List.mem_cons_of_mem _ h)
/-- What a key has. -/
def kX (l : KL) (k : ByteArray) : VX := (lget l k).getD VX.zero
theorem getV_kX {t : Tree} (hr : Ris t.inorder) (k : ByteArray) : ∃ b, getV k (t.from k none) = .tuple #[.agg (kX t.inorder k).C.toArray, .bool b] := by
  have h1 := Tree.from_in t k none hr
  have h2 := lfrom_get (k := k) hr
  rw [Option.or_none] at h1
  rw [h1, h2]
  unfold kX
  cases lget t.inorder k with
  | none => exact ⟨false, rfl⟩
  | some v => exact ⟨true, rfl⟩
def prK (x : PrX) : ByteArray × VX := (x.k, x.v)
def kPr (x : ByteArray × VX) : PrX := ⟨x.1, x.2⟩
def prs (t : Tree) : List PrX := t.inorder.map kPr
theorem prK_kPr (l : KL) : (l.map kPr).map prK = l := by
  rw [List.map_map]; exact List.map_id'' (fun _ => rfl) l
theorem kPr_prK (l : List PrX) : (l.map prK).map kPr = l := by
  rw [List.map_map]; exact List.map_id'' (fun _ => rfl) l
theorem prs_len (t : Tree) : (prs t).length = t.size := by unfold prs; rw [List.length_map, Tree.inorder_len]
/-- What it tells. -/
def FoX.snap (f : FoX) : SnX := ⟨f.e, f.i, prs f.t, f.L⟩
def FoX.rk (f : FoX) : Prop := Ris f.t.inorder
theorem FoX.rk.put {f : FoX} (h : f.rk) (x : EnX) : (f.put x).rk := by
  show Ris (f.t.set x.key x.v).inorder
  rw [Tree.inorder_set _ _ _ h]; exact Ris.set h
theorem FoX.put_in {f : FoX} (h : f.rk) (x : EnX) : (f.put x).t.inorder = lset f.t.inorder x.key x.v := Tree.inorder_set _ _ _ h
theorem foldl_rk : ∀ (l : List EnX) {f : FoX}, f.rk → (l.foldl FoX.put f).rk
  | [], _, h => h
  | x :: l, _, h => foldl_rk l (h.put x)
theorem setAll_rk_aux : ∀ (ps : List PrX) (t : Tree), Ris t.inorder → Ris (ps.foldl (fun t p => t.set p.k p.v) t).inorder
  | [], _, h => h
  | p :: ps, t, h => setAll_rk_aux ps (t.set p.k p.v) (by rw [Tree.inorder_set _ _ _ h]; exact h.set)
theorem of_rk (b : SnX) : (FoX.of b).rk := setAll_rk_aux b.ps .nil (by simp [Tree.inorder, Ris])
theorem G15.fold_rk (S : G15) : S.fold.rk := foldl_rk S.es (of_rk S.base)
theorem G15.upto_rk (S : G15) (k : Nat) : (S.upto k).rk := foldl_rk (S.es.take k) (of_rk S.base)
theorem lset_last {k : ByteArray} {v : VX} : ∀ {l : KL}, (∀ x ∈ l, klt x.1 k = true) → lset l k v = l ++ [(k, v)]
  | [], _ => rfl
  | (k', v') :: l, h => by
    have h1 : klt k' k = true := h _ (List.mem_cons_self ..)
    unfold lset
    rw [if_neg (by rw [klt_asymm h1]; simp), if_pos h1, lset_last fun x hx => h x (List.mem_cons_of_mem _ hx)]
    rfl
theorem setAll_in_aux : ∀ (ps : List PrX) (t : Tree), Ris (t.inorder ++ ps.map prK) → (ps.foldl (fun t p => t.set p.k p.v) t).inorder = t.inorder ++ ps.map prK
  | [], t, _ => by simp
  | p :: ps, t, h => by
    have h' : Ris (t.inorder ++ (p.k, p.v) :: ps.map prK) := h
    obtain ⟨h1, h2, h3, h4⟩ := Ris.app.1 h'
    have hs : (t.set p.k p.v).inorder = t.inorder ++ [(p.k, p.v)] := by rw [Tree.inorder_set _ _ _ h1, lset_last h3]
    show (ps.foldl (fun t p => t.set p.k p.v) (t.set p.k p.v)).inorder = _
    rw [setAll_in_aux ps (t.set p.k p.v) (by rw [hs]; simpa using h'), hs]
    simp [prK]
theorem setAll_in {ps : List PrX} (h : Ris (ps.map prK)) : (setAll ps).inorder = ps.map prK := by
  have := setAll_in_aux ps .nil (by simpa [Tree.inorder] using h)
  unfold setAll
  simpa [Tree.inorder] using this
theorem of_snap {b : SnX} (h : Ris (b.ps.map prK)) : (FoX.of b).snap = b := by
  show SnX.mk b.e b.i ((setAll b.ps).inorder.map kPr) b.ss = b
  rw [setAll_in h, kPr_prK]
theorem snap_ris {f : FoX} (h : f.rk) : Ris (f.snap.ps.map prK) := by
  show Ris ((f.t.inorder.map kPr).map prK)
  rw [prK_kPr]; exact h
/-! ### Sessions -/
theorem dput_len {x : SX} : ∀ {L : List SX}, RisS L → (dput L x).length = L.length + (if (dget L x.s).isSome = true then 0 else 1)
  | [], _ => by simp [dput, dget]
  | y :: l, h => by
    have h1 := List.pairwise_cons.1 h
    unfold dput
    by_cases ha : x.s < y.s
    · rw [if_pos ha]
      have hn : dget (y :: l) x.s = none := by
        cases hd : dget (y :: l) x.s with
        | none => rfl
        | some z =>
          obtain ⟨hz, he⟩ := dget_some hd
          rcases List.mem_cons.1 hz with rfl | hz
          · omega
          · have := h1.1 z hz; omega
      rw [hn]; simp
    · rw [if_neg ha]
      by_cases hb : y.s < x.s
      · rw [if_pos hb]
        have hn : dget (y :: l) x.s = dget l x.s := by
          unfold dget
          rw [List.find?_cons]
          have : (y.s == x.s) = false := by simp; omega
          rw [this]
        rw [hn, List.length_cons, dput_len h1.2, List.length_cons]; omega
      · rw [if_neg hb]
        have he : y.s = x.s := by omega
        have hn : dget (y :: l) x.s = some y := by
          unfold dget
          rw [List.find?_cons]
          have : (y.s == x.s) = true := by simp [he]
          rw [this]
        rw [hn]; simp
theorem noteV_len {L : List SX} {x : SX} (h : RisS L) (hl : L.length ≤ 16) : (noteV L 16 x).length ≤ 16 := by
  unfold noteV
  split
  · rename_i h1
    rw [dput_len h]
    unfold lookV at h1
    split at h1
    · rename_i hd
      rw [hd]
      split at h1
      · simp at h1
      · simp; omega
    · rename_i y hd
      rw [hd]; simp; omega
  · exact hl
theorem noteV_mem {L : List SX} {x y : SX} (h : y ∈ noteV L 16 x) : y = x ∨ y ∈ L := by
  unfold noteV at h
  split at h
  · exact dput_mem h
  · exact .inr h
theorem noteV_ris {L : List SX} {x : SX} (h : RisS L) : RisS (noteV L 16 x) := by
  unfold noteV; split
  · exact h.put
  · exact h
/-! ### Tables -/
/-- On the branch. -/
def OnP (T : List Ep) (e i : Int) : Prop := (e = 0 ∧ i = 0) ∨ (1 ≤ e ∧ e ≤ T.length ∧ i ≤ 512 ∧ ∃ x, T[e.toNat - 1]? = some x ∧ x.cut < i ∧ ∀ k y, e.toNat ≤ k → T[k]? = some y → i ≤ y.cut)
theorem cutL_zero {i : Int} : ∀ (l : List Ep) (k : Nat), cutL l k i = 0 ↔ ∀ y ∈ l, i ≤ y.cut
  | [], k => by simp [cutL]
  | x :: l, k => by
    unfold cutL
    split
    · rename_i h
      simp only [List.mem_cons, forall_eq_or_imp]
      constructor
      · intro h2; omega
      · intro h2; omega
    · rename_i h
      rw [cutL_zero l (k + 1)]
      simp only [List.mem_cons, forall_eq_or_imp]
      constructor
      · intro h2; exact ⟨by omega, h2⟩
      · intro h2; exact h2.2
theorem drop_all {T : List Ep} {n : Nat} {i : Int} : (∀ y ∈ T.drop n, i ≤ y.cut) ↔ ∀ k y, n ≤ k → T[k]? = some y → i ≤ y.cut := by
  constructor
  · intro h k y hk hy
    refine h y (List.mem_of_getElem? (i := k - n) ?_)
    rw [List.getElem?_drop, show n + (k - n) = k by omega]; exact hy
  · intro h y hy
    obtain ⟨k, hk⟩ := List.getElem?_of_mem hy
    rw [List.getElem?_drop] at hk
    exact h (n + k) y (by omega) hk
theorem fair_at {T : List Ep} (hT : rightT T = true) {k : Nat} {y : Ep} (h : T[k]? = some y) : 0 ≤ y.cut ∧ y.cut ≤ 512 := by
  have := (rightT_out hT).2.2.1 y (List.mem_of_getElem? h)
  unfold Ep.fair at this; omega
theorem on_iff {T : List Ep} (hT : rightT T = true) (e i : Int) : onT T e i = true ↔ OnP T e i := by
  have hcut : isT T e i = true → (cutN T e i = 0 ↔ ∀ k y, e.toNat ≤ k → T[k]? = some y → i ≤ y.cut) := fun h => by
    unfold cutN
    rw [if_pos ⟨hT, h⟩, cutL_zero, drop_all]
  have h0 : onT T e i = true ↔ isT T e i = true ∧ ∀ k y, e.toNat ≤ k → T[k]? = some y → i ≤ y.cut := by
    unfold onT
    rw [hT]
    simp only [Bool.true_and, Bool.and_eq_true, decide_eq_true_eq]
    constructor
    · rintro ⟨h1, h2⟩; exact ⟨h1, (hcut h1).1 h2⟩
    · rintro ⟨h1, h2⟩; exact ⟨h1, (hcut h1).2 h2⟩
  rw [h0]
  unfold isT OnP
  simp only [Bool.or_eq_true, Bool.and_eq_true, decide_eq_true_eq]
  constructor
  · rintro ⟨h1 | ⟨⟨h1, h2⟩, h3⟩, h4⟩
    · exact .inl h1
    · right
      cases hx : T[e.toNat - 1]? with
      | none => rw [hx] at h2; cases h2
      | some x =>
        rw [hx] at h2
        exact ⟨h1.1, h1.2, h3, x, rfl, by simpa using h2, h4⟩
  · rintro (⟨rfl, rfl⟩ | ⟨h1, h2, h3, x, hx, h4, h5⟩)
    · exact ⟨.inl ⟨rfl, rfl⟩, fun k y _ hy => (fair_at hT hy).1⟩
    · refine ⟨.inr ⟨⟨⟨h1, h2⟩, ?_⟩, h3⟩, h5⟩
      rw [hx]; simpa using h4
theorem on_right {T : List Ep} {e i : Int} (h : onT T e i = true) : rightT T = true := by
  unfold onT at h
  simp only [Bool.and_eq_true] at h
  exact h.1.1
theorem on_range {T : List Ep} {e i : Int} (h : onT T e i = true) : 0 ≤ e ∧ e ≤ 64 ∧ 0 ≤ i ∧ i ≤ 512 ∧ (e = 0 ↔ i = 0) := by
  have hT := on_right h
  have h64 := (rightT_out hT).2.1
  rcases (on_iff hT e i).1 h with ⟨rfl, rfl⟩ | ⟨h1, h2, h3, x, hx, h4, h5⟩
  · omega
  · have := fair_at hT hx
    omega
theorem on_app {T : List Ep} {p : Ep} {e i : Int} (h : onT T e i = true) (hT : rightT (T ++ [p]) = true) (hc : i ≤ p.cut) : onT (T ++ [p]) e i = true := by
  refine (on_iff hT e i).2 ?_
  rcases (on_iff (on_right h) e i).1 h with h0 | ⟨h1, h2, h3, x, hx, h4, h5⟩
  · exact .inl h0
  · refine .inr ⟨h1, by simp; omega, h3, x, ?_, h4, fun k y hk hy => ?_⟩
    · rw [List.getElem?_append_left (by omega)]; exact hx
    · rcases Nat.lt_or_ge k T.length with hl | hl
      · rw [List.getElem?_append_left hl] at hy; exact h5 k y hk hy
      · rw [List.getElem?_append_right hl] at hy
        have : k - T.length = 0 := by
          rcases Nat.eq_zero_or_pos (k - T.length) with q | q
          · exact q
          · rw [List.getElem?_eq_none (by simp; omega)] at hy; cases hy
        rw [this] at hy
        simp at hy; subst hy; exact hc
theorem atE_out (T : List Ep) (i : Int) : ∀ n, n ≤ T.length → (atE T n i = 0 ∧ ∀ k y, k < n → T[k]? = some y → i ≤ y.cut) ∨ (1 ≤ atE T n i ∧ atE T n i ≤ n ∧ ∃ x, T[atE T n i - 1]? = some x ∧ x.cut < i ∧ ∀ k y, atE T n i ≤ k → k < n → T[k]? = some y → i ≤ y.cut)
  | 0, _ => .inl ⟨rfl, fun k y hk => by omega⟩
  | n + 1, hn => by
    obtain ⟨x, hx⟩ : ∃ x, T[n]? = some x := ⟨_, List.getElem?_eq_getElem (by omega)⟩
    unfold atE
    rw [hx]
    simp only
    split
    · rename_i h
      exact .inr ⟨by omega, Nat.le_refl _, x, by simpa using hx, h, fun k y h1 h2 => by omega⟩
    · rename_i h
      rcases atE_out T i n (by omega) with ⟨h1, h2⟩ | ⟨h1, h2, z, hz, h3, h4⟩
      · refine .inl ⟨h1, fun k y hk hy => ?_⟩
        rcases Nat.lt_or_ge k n with q | q
        · exact h2 k y q hy
        · obtain rfl : k = n := by omega
          rw [hx] at hy; cases hy; omega
      · refine .inr ⟨h1, by omega, z, hz, h3, fun k y hk1 hk2 hy => ?_⟩
        rcases Nat.lt_or_ge k n with q | q
        · exact h4 k y hk1 q hy
        · obtain rfl : k = n := by omega
          rw [hx] at hy; cases hy; omega
theorem at_on {T : List Ep} (hT : rightT T = true) {i : Int} (hi : 1 ≤ i ∧ i ≤ 512) : (atT T i).2 = i ∧ onT T (atT T i).1 i = true := by
  have hr := rightT_out hT
  unfold atT
  rw [if_neg (by rw [hT]; simp; omega)]
  rcases atE_out T i T.length (Nat.le_refl _) with ⟨h1, h2⟩ | ⟨h1, h2, x, hx, h3, h4⟩
  · exfalso
    obtain ⟨e, he, h0, _⟩ := hr.2.2.2
    have := h2 0 e (by omega) he
    omega
  · rw [if_neg (by omega)]
    refine ⟨rfl, (on_iff hT _ i).2 (.inr ⟨by omega, by omega, hi.2, x, by simpa using hx, h3, fun k y hk hy => ?_⟩)⟩
    refine h4 k y (by simpa using hk) ?_ hy
    rcases Nat.lt_or_ge k T.length with q | q
    · exact q
    · rw [List.getElem?_eq_none (by omega)] at hy; cases hy
theorem below_out {T : List Ep} {e i ae ai : Int} (h : belowT T e i ae ai = true) : onT T e i = true ∧ onT T ae ai = true ∧ 1 ≤ i ∧ i ≤ ai := by
  unfold belowT at h
  simp only [Bool.and_eq_true, Bool.not_eq_true', decide_eq_false_iff_not, decide_eq_true_eq] at h
  have hr := on_range h.2.1.2
  refine ⟨h.2.1.2, h.2.1.1, ?_, h.2.2⟩
  have := h.1
  omega
theorem below_in {T : List Ep} {e i ae ai : Int} (h : onT T e i = true) (h2 : onT T ae ai = true) (h3 : 1 ≤ i) (h4 : i ≤ ai) : belowT T e i ae ai = true := by
  unfold belowT
  simp only [Bool.and_eq_true, Bool.not_eq_true', decide_eq_false_iff_not, decide_eq_true_eq]
  exact ⟨by omega, ⟨h2, h⟩, h4⟩
theorem below_app {T : List Ep} {p : Ep} {e i ae ai : Int} (h : belowT T e i ae ai = true) (hT : rightT (T ++ [p]) = true) (hc : ai ≤ p.cut) : belowT (T ++ [p]) e i ae ai = true := by
  obtain ⟨h1, h2, h3, h4⟩ := below_out h
  exact below_in (on_app h1 hT (by omega)) (on_app h2 hT hc) h3 h4
end Go.Proofs.YtnoggejkkjngjaaGreat
