/- Package sorted: copies. No condition. -/
import Derived.Test.YtnoggejkkjngjaaVMap
set_option maxHeartbeats 8000000
set_option linter.unusedVariables false
set_option linter.unusedSimpArgs false
set_option maxRecDepth 100000
namespace Go.Proofs.Ytnoggejkkjngjaa
open Go Go.Sl
attribute [local irreducible] Go.Sl.Wl Go.Sl.Wc Go.Sl.thenQ Go.Sl.blkQ Go.Sl.loopQ Go.Sl.Fspec

theorem Ent_foldMp {p : Nat} {a : Option Addr} {t : Tree} {A A1 A2 L : List Asn} (h1 : Out (cb p [.pointer a, .int .i64 t.size] 131) A A1) (h2 : Out (TrA t a) A1 A2)
    (h : Ent (MpA p t :: A2) L) : Ent A L :=
  ((Ent.perm (h1.perm.trans (h2.perm.cons _))).trans (mp_fold (A0 := A2) a (Ent.refl _))).trans h
section specs
variable {B : Base}
theorem tcopied_spec : ∀ (t : Tree) (a : Option Addr),
    Fspec Try.prog B 87 #[.pointer a] [TrA t a] (fun v A' => ∃ a', v = .pointer a' ∧ A' = [TrA t a, TrA t a'])
  | .nil, a => by
    refine spec_of (args := [_]) Try.func87 rfl rfl rfl ?_
    refine Wc_trNil (fun e => ?_)
    subst e
    repeat' (first
      | refine Wc_seq ?_
      | refine thenQ_normal ?_
      | refine Wc_cond_t (h := ?_)
      | refine Wc_cond_f (h := ?_)
      | refine Wc_ret ?_
      | refine thenQ_ret ?_
      | refine Wc_block ?_
      | refine blkQ_normal ?_
      | refine blkQ_ret ?_
      | refine Wc_exit ?_
      | refine thenQ_exit ?_
      | refine blkQ_hit ?_
      | refine blkQ_miss rfl ?_
      | refine Wc_skip ?_
      | refine Wc_label ?_
      | refine loopQ_exit ?_
      | refine loopQ_ret ?_
      | refine loopQ_normal ?_
      | (refine Wc_region (id := 0) ?_; intro K hK; refine Wl_assign (k := ?_); (refine Wl_nil (hK _ _ ?_); clear hK K))
      | (refine Wc_region (id := 1) ?_; intro K hK; refine Wl_move (k := ?_); refine Wl_ptr_eq_nil (k' := ?_); (refine Wl_nil (hK _ _ ?_); clear hK K))
      | (refine Wc_region (id := 2) ?_; intro K hK; refine Wl_assign (k := ?_); (refine Wl_nil (hK _ _ ?_); clear hK K))
      | (refine Wc_region (id := 3) ?_; intro K hK; refine Wl_move (k := ?_); refine Wl_nilCheck (k := ?_); refine Wl_loadR (k := ?_); (refine Wl_alloc (k := ?_); intro r); refine Wl_storeR (ho' := rfl) (k := ?_); (refine Wl_nil (hK _ _ ?_); clear hK K))
      | (refine Wc_draw (id := 4) (h := ?_); intro K hK; refine Wl_move (k := ?_); refine Wl_nilCheck (k := ?_); refine Wl_fieldAddr (k := ?_); refine Wl_load (k := ?_))
      | (refine Wc_region (id := 5) ?_; intro K hK; refine Wl_assign (k := ?_); (refine Wl_nil (hK _ _ ?_); clear hK K))
      | (refine Wc_cond (ht := (fun ht => ?_)) (hf := (fun ht => ?_)) <;> (try simp at ht) <;> (try (exfalso; omega))))
    exact ⟨Or.inr rfl, _, [TrA .nil none, TrA .nil none], Ent.trans tr_nil (Ent.cons _ tr_nil), res1 rfl rfl, none, rfl, rfl⟩
  | .node l k v lv rt, a => by
    have ihl := tcopied_spec l; have ihr := tcopied_spec rt
    refine spec_of (args := [_]) Try.func87 rfl rfl rfl ?_
    refine Wc_trNode (fun b la ra e => ?_)
    subst e
    repeat' (first
      | refine Wc_seq ?_
      | refine thenQ_normal ?_
      | refine Wc_cond_t (h := ?_)
      | refine Wc_cond_f (h := ?_)
      | refine Wc_ret ?_
      | refine thenQ_ret ?_
      | refine Wc_block ?_
      | refine blkQ_normal ?_
      | refine blkQ_ret ?_
      | refine Wc_exit ?_
      | refine thenQ_exit ?_
      | refine blkQ_hit ?_
      | refine blkQ_miss rfl ?_
      | refine Wc_skip ?_
      | refine Wc_label ?_
      | refine loopQ_exit ?_
      | refine loopQ_ret ?_
      | refine loopQ_normal ?_
      | (refine Wc_region (id := 0) ?_; intro K hK; refine Wl_assign (k := ?_); (refine Wl_nil (hK _ _ ?_); clear hK K))
      | (refine Wc_region (id := 1) ?_; intro K hK; refine Wl_move (k := ?_); refine Wl_ptr_eq_nil (k' := ?_); (refine Wl_nil (hK _ _ ?_); clear hK K))
      | (refine Wc_region (id := 2) ?_; intro K hK; refine Wl_assign (k := ?_); (refine Wl_nil (hK _ _ ?_); clear hK K))
      | (refine Wc_region (id := 3) ?_; intro K hK; refine Wl_move (k := ?_); refine Wl_nilCheck (k := ?_); refine Wl_loadR (k := ?_); (refine Wl_alloc (k := ?_); intro r); refine Wl_storeR (ho' := rfl) (k := ?_); (refine Wl_nil (hK _ _ ?_); clear hK K))
      | (refine Wc_drawF (id := 4) (M := ([cb b [.string k, .int .i64 v.a, .int .i64 v.b, .bool v.c, .string v.d, .int .i64 lv, .pointer la, .pointer ra] 139])) (Ls := [12, 17]) (hp := (Pick.perm (by (repeat (first | exact Pick.nil | apply Pick.cons (by (repeat (first | exact Out.head | apply Out.tail)); (first | done | fail)))); (first | done | fail)))) (h := ?_); intro K hK; refine Wl_move (k := ?_); refine Wl_nilCheck (k := ?_); refine Wl_fieldAddr (k := ?_); refine Wl_loadF (k := ?_); ((refine Wl_call (hs := (ihl la)) (k := ?_); rintro v A' ⟨la', rfl, rfl⟩; simp only [List.cons_append, List.nil_append])) <;> (refine Wl_move (k := ?_); refine Wl_nilCheck (k := ?_); refine Wl_fieldAddr (k := ?_); refine Wl_loadF (k := ?_); ((refine Wl_call (hs := (ihr ra)) (k := ?_); rintro v A' ⟨ra', rfl, rfl⟩; simp only [List.cons_append, List.nil_append])) <;> (refine Wl_fieldAddr (k := ?_); refine Wl_store (ho := rfl) (k := ?_); refine Wl_fieldAddr (k := ?_); refine Wl_store (ho := rfl) (k := ?_); (refine Wl_nil (hK _ _ ?_); clear hK K; try simp only [List.cons_append, List.nil_append]))))
      | (refine Wc_region (id := 5) ?_; intro K hK; refine Wl_assign (k := ?_); (refine Wl_nil (hK _ _ ?_); clear hK K))
      | (refine Wc_cond (ht := (fun ht => ?_)) (hf := (fun ht => ?_)) <;> (try simp at ht) <;> (try (exfalso; omega))))
    exact ⟨Or.inr rfl, _, [TrA (.node l k v lv rt) (some ⟨b, 0, none⟩), TrA (.node l k v lv rt) (some ⟨r, 0, none⟩)], Ent_foldTr (b := r) (by (repeat (first | exact Out.head | apply Out.tail)); (first | done | fail)) (by (repeat (first | exact Out.head | apply Out.tail)); (first | done | fail)) (by (repeat (first | exact Out.head | apply Out.tail)); (first | done | fail)) (Ent_foldTr (b := b) (by (repeat (first | exact Out.head | apply Out.tail)); (first | done | fail)) (by (repeat (first | exact Out.head | apply Out.tail)); (first | done | fail)) (by (repeat (first | exact Out.head | apply Out.tail)); (first | done | fail)) (Ent.refl _)), res1 rfl rfl, some ⟨r, 0, none⟩, rfl, rfl⟩
theorem mcopy_spec (p : Nat) (t : Tree) :
    Fspec Try.prog B 76 #[.pointer (some ⟨p, 0, none⟩)] [MpA p t] (fun w A' => ∃ q, w = .pointer (some ⟨q, 0, none⟩) ∧ A' = [MpA q t, MpA p t]) := by
  refine spec_of (args := [_]) Try.func76 rfl rfl rfl ?_
  refine Wc_exN (fun a => ?_)
  simp only [MpX]
  simp only [List.cons_append, List.nil_append]
  repeat' (first
    | refine Wc_seq ?_
    | refine thenQ_normal ?_
    | refine Wc_cond_t (h := ?_)
    | refine Wc_cond_f (h := ?_)
    | refine Wc_ret ?_
    | refine thenQ_ret ?_
    | refine Wc_block ?_
    | refine blkQ_normal ?_
    | refine blkQ_ret ?_
    | refine Wc_exit ?_
    | refine thenQ_exit ?_
    | refine blkQ_hit ?_
    | refine blkQ_miss rfl ?_
    | refine Wc_skip ?_
    | refine Wc_label ?_
    | refine loopQ_exit ?_
    | refine loopQ_ret ?_
    | refine loopQ_normal ?_
    | (refine Wc_region (id := 0) ?_; intro K hK; refine Wl_assign (k := ?_); (refine Wl_nil (hK _ _ ?_); clear hK K))
    | (refine Wc_region (id := 1) ?_; intro K hK; refine Wl_move (k := ?_); refine Wl_ptr_eq_nil (k' := ?_); (refine Wl_nil (hK _ _ ?_); clear hK K))
    | (refine Wc_region (id := 2) ?_; intro K hK; refine Wl_assign (k := ?_); (refine Wl_nil (hK _ _ ?_); clear hK K))
    | (refine Wc_drawF (id := 3) (M := ([cb p [.pointer a, .int .i64 t.size] 131])) (Ls := [8, 13]) (hp := (Pick.perm (by (repeat (first | exact Pick.nil | apply Pick.cons (by (repeat (first | exact Out.head | apply Out.tail)); (first | done | fail)))); (first | done | fail)))) (h := ?_); intro K hK; refine Wl_move (k := ?_); refine Wl_nilCheck (k := ?_); refine Wl_fieldAddr (k := ?_); refine Wl_loadF (k := ?_); ((refine Wl_call (hs := (tcopied_spec t a)) (k := ?_); rintro v A' ⟨a', rfl, rfl⟩; simp only [List.cons_append, List.nil_append])) <;> (refine Wl_move (k := ?_); refine Wl_nilCheck (k := ?_); refine Wl_fieldAddr (k := ?_); refine Wl_loadF (k := ?_); refine Wl_build (k := ?_); (refine Wl_boxAgg (k := ?_); intro r); refine Wl_assign (k := ?_); (refine Wl_nil (hK _ _ ?_); clear hK K; try simp only [List.cons_append, List.nil_append])))
    | (refine Wc_cond (ht := (fun ht => ?_)) (hf := (fun ht => ?_)) <;> (try simp at ht) <;> (try (exfalso; omega))))
  exact ⟨Or.inr rfl, _, [MpA r t, MpA p t], Ent_foldMp (p := p) (a := a) (by (repeat (first | exact Out.head | apply Out.tail)); (first | done | fail)) (by (repeat (first | exact Out.head | apply Out.tail)); (first | done | fail)) (Ent_foldMp (p := r) (a := a') (by (repeat (first | exact Out.head | apply Out.tail)); (first | done | fail)) (by (repeat (first | exact Out.head | apply Out.tail)); (first | done | fail)) (Ent.refl _)), res1 rfl rfl, r, rfl, rfl⟩
theorem mcopy_nil : Fspec Try.prog B 76 #[.pointer none] [] (fun w A' => w = .pointer none ∧ A' = []) := by
  refine spec_of (args := [_]) Try.func76 rfl rfl rfl ?_
  repeat' (first
    | refine Wc_seq ?_
    | refine thenQ_normal ?_
    | refine Wc_cond_t (h := ?_)
    | refine Wc_cond_f (h := ?_)
    | refine Wc_ret ?_
    | refine thenQ_ret ?_
    | refine Wc_block ?_
    | refine blkQ_normal ?_
    | refine blkQ_ret ?_
    | refine Wc_exit ?_
    | refine thenQ_exit ?_
    | refine blkQ_hit ?_
    | refine blkQ_miss rfl ?_
    | refine Wc_skip ?_
    | refine Wc_label ?_
    | refine loopQ_exit ?_
    | refine loopQ_ret ?_
    | refine loopQ_normal ?_
    | (refine Wc_region (id := 0) ?_; intro K hK; refine Wl_assign (k := ?_); (refine Wl_nil (hK _ _ ?_); clear hK K))
    | (refine Wc_region (id := 1) ?_; intro K hK; refine Wl_move (k := ?_); refine Wl_ptr_eq_nil (k' := ?_); (refine Wl_nil (hK _ _ ?_); clear hK K))
    | (refine Wc_region (id := 2) ?_; intro K hK; refine Wl_assign (k := ?_); (refine Wl_nil (hK _ _ ?_); clear hK K))
    | (refine Wc_draw (id := 3) (h := ?_); intro K hK; refine Wl_move (k := ?_); refine Wl_nilCheck (k := ?_); refine Wl_fieldAddr (k := ?_); refine Wl_load (k := ?_))
    | (refine Wc_cond (ht := (fun ht => ?_)) (hf := (fun ht => ?_)) <;> (try simp at ht) <;> (try (exfalso; omega))))
  exact ⟨Or.inr rfl, _, [], Ent.refl _, res1 rfl rfl, rfl, rfl⟩
end specs
end Go.Proofs.Ytnoggejkkjngjaa
