/- Package state: a record has its effect. Conditions: none but the kinds' bounds, and not too many rows. -/
import Derived.Test.YtnoggejkkjngjaaGo
import Derived.Test.YtnoggejkkjngjaaGm
set_option maxHeartbeats 8000000
set_option linter.unusedVariables false
set_option linter.unusedSimpArgs false
set_option maxRecDepth 100000
namespace Go.Proofs.Ytnoggejkkjngjaa
open Go Go.Sl
attribute [local irreducible] Go.Sl.Wl Go.Sl.Wc Go.Sl.thenQ Go.Sl.blkQ Go.Sl.loopQ Go.Sl.Fspec

section specs
variable {B : Base}
theorem gapply1_spec (X : Asn) (st n : Nat) (S : G15) (hS : S.inv n) (hn : n ≤ 90000) (r : RcG) (hr : r.ok) (pa : Option Addr) (pc : Nat) (sa : Option Addr) (sc : Nat)
    (h1 : RdS Try.prog B [X] 5 pa r.sn.ps.length pc (prC r.sn.ps)) (h2 : RdS Try.prog B [X] 4 sa r.sn.ss.length sc (ssC r.sn.ss)) :
    Fspec Try.prog B 11 #[.pointer (some ⟨st, 0, none⟩), .agg (r.c pa pc sa sc).toArray] [GtP st S, X] (fun v A' => v = .int .i64 (gchkV S r) ∧ A' = [GtP st (gapplyV S r), X]) := by
  have hck := gcheck1_spec (B := B) X st S hS.ok r hr pa pc sa sc h1 h2
  have htab := rightT_out hS.ok.tab
  have hfew := hS.ok.few
  have hi := G15.fold_i hS.ok
  have hbi := hS.ok.bi
  have hxo := hr.xo
  have hps := hr.ps
  have hss := hr.ss
  refine spec_of (args := [_, _]) Try.func11 rfl rfl rfl ?_
  unfold gapplyV
  by_cases h0 : gchkV S r ≠ 0
  · rw [if_pos h0]
    repeat' (first
      | refine Wc_seq ?_
      | refine thenQ_normal ?_
      | refine Wc_cond_t (h := ?_)
      | refine Wc_cond_f (h := ?_)
      | refine Wc_ret ?_
      | refine thenQ_ret ?_
      | refine Wc_block ?_
      | refine blkQ_normal ?_
      | refine blkQ_ret ?_
      | refine Wc_exit ?_
      | refine thenQ_exit ?_
      | refine blkQ_hit ?_
      | refine blkQ_miss rfl ?_
      | refine Wc_skip ?_
      | refine Wc_label ?_
      | refine loopQ_exit ?_
      | refine loopQ_ret ?_
      | refine loopQ_normal ?_
      | (refine Wc_region (id := 0) ?_; intro K hK; ((refine Wl_boxAgg (l := r.c pa pc sa sc) (k := ?_); intro r3)) <;> (refine Wl_assign (k := ?_); (refine Wl_nil (hK _ _ ?_); clear hK K)))
      | (refine Wc_region (id := 1) ?_; intro K hK; refine Wl_move (k := ?_); ((refine Wl_loadAgg (cs := r.c pa pc sa sc) (hv := by simp [RcG.c]) (hc := rfl) (k := ?_))) <;> (((refine Wl_call (hs := hck) (k := ?_); rintro v A' ⟨rfl, rfl⟩; simp only [List.cons_append, List.nil_append])) <;> (refine Wl_assign (k := ?_); (refine Wl_nil (hK _ _ ?_); clear hK K))))
      | (refine Wc_region (id := 2) ?_; intro K hK; refine Wl_move (k := ?_); refine Wl_neq (k' := ?_); (refine Wl_nil (hK _ _ ?_); clear hK K))
      | (refine Wc_region (id := 3) ?_; intro K hK; refine Wl_move (k := ?_); refine Wl_assign (k := ?_); (refine Wl_nil (hK _ _ ?_); clear hK K))
      | (refine Wc_cond (ht := (fun ht => ?_)) (hf := (fun ht => ?_)) <;> (try simp at ht) <;> (try (exfalso; omega))))
    exact ⟨Or.inr rfl, _, [GtP st S, X], (by (repeat (first | exact Ent.refl _ | exact Ent.nil | refine Ent.take (by (repeat (first | exact Out.head | apply Out.tail)); (first | done | fail)) ?_ | refine Ent.drop1 ?_))), res1 rfl rfl, rfl, rfl⟩
  rw [if_neg h0]
  have h0' : gchkV S r = 0 := by omega
  rw [h0'] at hck ⊢
  unfold gchkV at h0'
  obtain ⟨kind, x, ep, config, sn⟩ := r
  simp only at hxo hps hss h1 h2 h0' ⊢
  have hfo : ∀ (S : G15) (q : Gq) (A0 : List Asn), Ent (GtL st S q ++ A0) (GtP st S :: A0) := fun S q A0 => gt_fold (A0 := A0) q (Ent.refl _)
  by_cases k1 : kind = 1
  · subst k1
    rw [if_pos rfl] at h0' ⊢
    have hfold := hS.ok
    have hfo1 := G15.fold_ok hS.ok
    have hfw := gfold_write S x
    have hl1 : S.es.length + 1 = (S.es ++ [x]).length := by simp
    have hes : esC S.es ++ x.c = esC (S.es ++ [x]) := by simp [esC]
    repeat' (first
      | refine Wc_seq ?_
      | refine thenQ_normal ?_
      | refine Wc_cond_t (h := ?_)
      | refine Wc_cond_f (h := ?_)
      | refine Wc_ret ?_
      | refine thenQ_ret ?_
      | refine Wc_block ?_
      | refine blkQ_normal ?_
      | refine blkQ_ret ?_
      | refine Wc_exit ?_
      | refine thenQ_exit ?_
      | refine blkQ_hit ?_
      | refine blkQ_miss rfl ?_
      | refine Wc_skip ?_
      | refine Wc_label ?_
      | refine loopQ_exit ?_
      | refine loopQ_ret ?_
      | refine loopQ_normal ?_
      | (refine Wc_region (id := 0) ?_; intro K hK; ((refine Wl_boxAgg (k := ?_); intro r3)) <;> (refine Wl_assign (k := ?_); (refine Wl_nil (hK _ _ ?_); clear hK K)))
      | (refine Wc_region (id := 1) ?_; intro K hK; refine Wl_move (k := ?_); refine Wl_loadR (k := ?_); ((refine Wl_call (hs := hck) (k := ?_); rintro v A' ⟨rfl, rfl⟩; simp only [List.cons_append, List.nil_append])) <;> (refine Wl_assign (k := ?_); (refine Wl_nil (hK _ _ ?_); clear hK K)))
      | (refine Wc_region (id := 2) ?_; intro K hK; refine Wl_move (k := ?_); refine Wl_neq (k' := ?_); (refine Wl_nil (hK _ _ ?_); clear hK K))
      | (refine Wc_region (id := 4) ?_; intro K hK; refine Wl_fieldAddr (k := ?_); refine Wl_load (k := ?_); (refine Wl_nil (hK _ _ ?_); clear hK K))
      | (refine Wc_cond (ht := (fun ht => ?_)) (hf := (fun ht => ?_)) <;> (try simp at ht) <;> (try (exfalso; omega))))
    refine Wc_take (y := GtP st S) (k := ?_)
    refine Wc_exN (fun q => ?_)
    obtain ⟨k, d, ta, tc, ea0, ec0, sa0, sc0, ea, ec⟩ := q
    simp only [GtL, GtR, RcG.c]
    simp only [List.cons_append, List.nil_append]
    repeat' (first
      | refine Wc_seq ?_
      | refine thenQ_normal ?_
      | refine Wc_cond_t (h := ?_)
      | refine Wc_cond_f (h := ?_)
      | refine Wc_ret ?_
      | refine thenQ_ret ?_
      | refine Wc_block ?_
      | refine blkQ_normal ?_
      | refine blkQ_ret ?_
      | refine Wc_exit ?_
      | refine thenQ_exit ?_
      | refine blkQ_hit ?_
      | refine blkQ_miss rfl ?_
      | refine Wc_skip ?_
      | refine Wc_label ?_
      | refine loopQ_exit ?_
      | refine loopQ_ret ?_
      | refine loopQ_normal ?_
      | (refine Wc_region (id := 5) ?_; intro K hK; refine Wl_eql (k' := ?_); refine Wl_assign (k := ?_); (refine Wl_nil (hK _ _ ?_); clear hK K))
      | (refine Wc_draw (id := 10) (h := ?_); intro K hK; refine Wl_move (k := ?_); refine Wl_move (k := ?_); refine Wl_nilCheck (k := ?_); refine Wl_fieldAddr (k := ?_); refine Wl_load (k := ?_); refine Wl_fieldAddr (k := ?_); ((refine Wl_loadAgg (cs := x.c) (hv := by simp) (hc := rfl) (k := ?_))) <;> (((refine Wl_lit1 (cs := x.c) (k := ?_); intro r31)) <;> (((refine Wl_append1 (hvl := by rfl) (hvc := by rfl) (hbd := by omega) (k := ?_); intro nb nc; rw [hl1, hes])) <;> (refine Wl_nilCheck (k := ?_); refine Wl_fieldAddr (k := ?_); refine Wl_store (ho := rfl) (k := ?_); (refine Wl_nil (hK _ _ ?_); clear hK K)))))
      | (refine Wc_draw (id := 11) (h := ?_); intro K hK; refine Wl_move (k := ?_); refine Wl_nilCheck (k := ?_); refine Wl_fieldAddr (k := ?_); refine Wl_fieldAddr (k := ?_); ((refine Wl_loadAgg (cs := x.c) (hv := by simp) (hc := rfl) (k := ?_))) <;> (((refine Wl_call (hs := put_spec st k d S.fold (hfo1.mono (by omega)) x hxo (GtR (gwriteV S x) ta tc ea0 ec0 sa0 sc0 nb nc) 83) (k := ?_); rintro v A' ⟨rfl, rfl⟩; simp only [List.cons_append, List.nil_append])) <;> ((refine Wl_nil (hK _ _ ?_); clear hK K))))
      | (refine Wc_region (id := 17) ?_; intro K hK; refine Wl_assign (k := ?_); (refine Wl_nil (hK _ _ ?_); clear hK K))
      | (refine Wc_cond (ht := (fun ht => ?_)) (hf := (fun ht => ?_)) <;> (try simp at ht) <;> (try (exfalso; omega))))
    refine ⟨Or.inr rfl, _, [GtP st (gwriteV S x), X], Ent.trans ?_ (hfo (gwriteV S x) ⟨k, d, ta, tc, ea0, ec0, sa0, sc0, nb, nc⟩ [X]), res1 rfl rfl, rfl, rfl⟩
    simp only [GtL, hfw]; simp only [List.cons_append, List.nil_append]
    exact (by (repeat (first | exact Ent.refl _ | exact Ent.nil | refine Ent.take (by (repeat (first | exact Out.head | apply Out.tail)); (first | done | fail)) ?_ | refine Ent.drop1 ?_)))
  rw [if_neg k1] at h0' ⊢
  by_cases k2 : kind = 2
  · subst k2
    rw [if_pos rfl] at h0' ⊢
    have hT : rightT (S.table ++ [ep]) = true := by
      cases hb : rightT (S.table ++ [ep]) with
      | true => rfl
      | false => rw [hb] at h0'; simp at h0'
    repeat' (first
      | refine Wc_seq ?_
      | refine thenQ_normal ?_
      | refine Wc_cond_t (h := ?_)
      | refine Wc_cond_f (h := ?_)
      | refine Wc_ret ?_
      | refine thenQ_ret ?_
      | refine Wc_block ?_
      | refine blkQ_normal ?_
      | refine blkQ_ret ?_
      | refine Wc_exit ?_
      | refine thenQ_exit ?_
      | refine blkQ_hit ?_
      | refine blkQ_miss rfl ?_
      | refine Wc_skip ?_
      | refine Wc_label ?_
      | refine loopQ_exit ?_
      | refine loopQ_ret ?_
      | refine loopQ_normal ?_
      | (refine Wc_region (id := 0) ?_; intro K hK; ((refine Wl_boxAgg (k := ?_); intro r3)) <;> (refine Wl_assign (k := ?_); (refine Wl_nil (hK _ _ ?_); clear hK K)))
      | (refine Wc_region (id := 1) ?_; intro K hK; refine Wl_move (k := ?_); refine Wl_loadR (k := ?_); ((refine Wl_call (hs := hck) (k := ?_); rintro v A' ⟨rfl, rfl⟩; simp only [List.cons_append, List.nil_append])) <;> (refine Wl_assign (k := ?_); (refine Wl_nil (hK _ _ ?_); clear hK K)))
      | (refine Wc_region (id := 2) ?_; intro K hK; refine Wl_move (k := ?_); refine Wl_neq (k' := ?_); (refine Wl_nil (hK _ _ ?_); clear hK K))
      | (refine Wc_region (id := 4) ?_; intro K hK; refine Wl_fieldAddr (k := ?_); refine Wl_load (k := ?_); (refine Wl_nil (hK _ _ ?_); clear hK K))
      | (refine Wc_region (id := 5) ?_; intro K hK; refine Wl_eql (k' := ?_); refine Wl_assign (k := ?_); (refine Wl_nil (hK _ _ ?_); clear hK K))
      | (refine Wc_region (id := 6) ?_; intro K hK; refine Wl_eql (k' := ?_); refine Wl_assign (k := ?_); (refine Wl_nil (hK _ _ ?_); clear hK K))
      | (refine Wc_region (id := 12) ?_; intro K hK; refine Wl_move (k := ?_); refine Wl_fieldAddr (k := ?_); ((refine Wl_loadAgg (cs := epC ep) (hv := by simp [RcG.c]) (hc := rfl) (k := ?_))) <;> (((refine Wl_call (hs := gadopt_spec st S hS.ok ep hT) (k := ?_); rintro v A' ⟨rfl, rfl⟩; simp only [List.cons_append, List.nil_append])) <;> ((refine Wl_nil (hK _ _ ?_); clear hK K))))
      | (refine Wc_region (id := 17) ?_; intro K hK; refine Wl_assign (k := ?_); (refine Wl_nil (hK _ _ ?_); clear hK K))
      | (refine Wc_cond (ht := (fun ht => ?_)) (hf := (fun ht => ?_)) <;> (try simp at ht) <;> (try (exfalso; omega))))
    exact ⟨Or.inr rfl, _, [GtP st (gadoptV S ep), X], (by (repeat (first | exact Ent.refl _ | exact Ent.nil | refine Ent.take (by (repeat (first | exact Out.head | apply Out.tail)); (first | done | fail)) ?_ | refine Ent.drop1 ?_))), res1 rfl rfl, rfl, rfl⟩
  rw [if_neg k2] at h0' ⊢
  by_cases k3 : kind = 3
  · subst k3
    rw [if_pos rfl] at h0' ⊢
    repeat' (first
      | refine Wc_seq ?_
      | refine thenQ_normal ?_
      | refine Wc_cond_t (h := ?_)
      | refine Wc_cond_f (h := ?_)
      | refine Wc_ret ?_
      | refine thenQ_ret ?_
      | refine Wc_block ?_
      | refine blkQ_normal ?_
      | refine blkQ_ret ?_
      | refine Wc_exit ?_
      | refine thenQ_exit ?_
      | refine blkQ_hit ?_
      | refine blkQ_miss rfl ?_
      | refine Wc_skip ?_
      | refine Wc_label ?_
      | refine loopQ_exit ?_
      | refine loopQ_ret ?_
      | refine loopQ_normal ?_
      | (refine Wc_region (id := 0) ?_; intro K hK; ((refine Wl_boxAgg (k := ?_); intro r3)) <;> (refine Wl_assign (k := ?_); (refine Wl_nil (hK _ _ ?_); clear hK K)))
      | (refine Wc_region (id := 1) ?_; intro K hK; refine Wl_move (k := ?_); refine Wl_loadR (k := ?_); ((refine Wl_call (hs := hck) (k := ?_); rintro v A' ⟨rfl, rfl⟩; simp only [List.cons_append, List.nil_append])) <;> (refine Wl_assign (k := ?_); (refine Wl_nil (hK _ _ ?_); clear hK K)))
      | (refine Wc_region (id := 2) ?_; intro K hK; refine Wl_move (k := ?_); refine Wl_neq (k' := ?_); (refine Wl_nil (hK _ _ ?_); clear hK K))
      | (refine Wc_region (id := 4) ?_; intro K hK; refine Wl_fieldAddr (k := ?_); refine Wl_load (k := ?_); (refine Wl_nil (hK _ _ ?_); clear hK K))
      | (refine Wc_region (id := 5) ?_; intro K hK; refine Wl_eql (k' := ?_); refine Wl_assign (k := ?_); (refine Wl_nil (hK _ _ ?_); clear hK K))
      | (refine Wc_region (id := 6) ?_; intro K hK; refine Wl_eql (k' := ?_); refine Wl_assign (k := ?_); (refine Wl_nil (hK _ _ ?_); clear hK K))
      | (refine Wc_region (id := 7) ?_; intro K hK; refine Wl_eql (k' := ?_); refine Wl_assign (k := ?_); (refine Wl_nil (hK _ _ ?_); clear hK K))
      | (refine Wc_cond (ht := (fun ht => ?_)) (hf := (fun ht => ?_)) <;> (try simp at ht) <;> (try (exfalso; omega))))
    refine Wc_take (y := GtP st S) (k := ?_)
    refine Wc_exN (fun q => ?_)
    obtain ⟨k, d, ta, tc, ea0, ec0, sa0, sc0, ea, ec⟩ := q
    simp only [GtL, GtR, RcG.c]
    simp only [List.cons_append, List.nil_append]
    repeat' (first
      | refine Wc_seq ?_
      | refine thenQ_normal ?_
      | refine Wc_cond_t (h := ?_)
      | refine Wc_cond_f (h := ?_)
      | refine Wc_ret ?_
      | refine thenQ_ret ?_
      | refine Wc_block ?_
      | refine blkQ_normal ?_
      | refine blkQ_ret ?_
      | refine Wc_exit ?_
      | refine thenQ_exit ?_
      | refine blkQ_hit ?_
      | refine blkQ_miss rfl ?_
      | refine Wc_skip ?_
      | refine Wc_label ?_
      | refine loopQ_exit ?_
      | refine loopQ_ret ?_
      | refine loopQ_normal ?_
      | (refine Wc_region (id := 13) ?_; intro K hK; refine Wl_move (k := ?_); refine Wl_nilCheck (k := ?_); refine Wl_fieldAddr (k := ?_); refine Wl_store (ho := rfl) (k := ?_); (refine Wl_nil (hK _ _ ?_); clear hK K))
      | (refine Wc_region (id := 17) ?_; intro K hK; refine Wl_assign (k := ?_); (refine Wl_nil (hK _ _ ?_); clear hK K))
      | (refine Wc_cond (ht := (fun ht => ?_)) (hf := (fun ht => ?_)) <;> (try simp at ht) <;> (try (exfalso; omega))))
    refine ⟨Or.inr rfl, _, [GtP st { S with closed := true }, X], Ent.trans ?_ (hfo { S with closed := true } ⟨k, d, ta, tc, ea0, ec0, sa0, sc0, ea, ec⟩ [X]), res1 rfl rfl, rfl, rfl⟩
    show Ent _ (GtL st { S with closed := true } ⟨k, d, ta, tc, ea0, ec0, sa0, sc0, ea, ec⟩ ++ [X])
    simp only [GtL, GtR]; simp only [List.cons_append, List.nil_append]
    show Ent _ [cb st (.int .i64 S.fold.e :: .int .i64 S.fold.i :: _) _, MpA k S.fold.t, DeP d 16 S.fold.L, _, _, _, _, X]
    exact (by (repeat (first | exact Ent.refl _ | exact Ent.nil | refine Ent.take (by (repeat (first | exact Out.head | apply Out.tail)); (first | done | fail)) ?_ | refine Ent.drop1 ?_)))
  rw [if_neg k3] at h0' ⊢
  by_cases k4 : kind = 4
  · subst k4
    rw [if_pos rfl] at h0' ⊢
    have hX : RightP S.table sn := by
      refine (right_iff _ _).1 ?_
      cases hb : rightX S.table sn with
      | true => rfl
      | false => rw [hb] at h0'; split at h0' <;> simp_all
    have hok : (G15.mk S.table sn [] S.closed).ok := hS.ok.base (.inr hX) (by omega) _
    have hcp := copied_spec (B := B) [X] sn (by omega) (by omega) pa pc sa sc h1 h2
    repeat' (first
      | refine Wc_seq ?_
      | refine thenQ_normal ?_
      | refine Wc_cond_t (h := ?_)
      | refine Wc_cond_f (h := ?_)
      | refine Wc_ret ?_
      | refine thenQ_ret ?_
      | refine Wc_block ?_
      | refine blkQ_normal ?_
      | refine blkQ_ret ?_
      | refine Wc_exit ?_
      | refine thenQ_exit ?_
      | refine blkQ_hit ?_
      | refine blkQ_miss rfl ?_
      | refine Wc_skip ?_
      | refine Wc_label ?_
      | refine loopQ_exit ?_
      | refine loopQ_ret ?_
      | refine loopQ_normal ?_
      | (refine Wc_region (id := 0) ?_; intro K hK; ((refine Wl_boxAgg (k := ?_); intro r3)) <;> (refine Wl_assign (k := ?_); (refine Wl_nil (hK _ _ ?_); clear hK K)))
      | (refine Wc_region (id := 1) ?_; intro K hK; refine Wl_move (k := ?_); refine Wl_loadR (k := ?_); ((refine Wl_call (hs := hck) (k := ?_); rintro v A' ⟨rfl, rfl⟩; simp only [List.cons_append, List.nil_append])) <;> (refine Wl_assign (k := ?_); (refine Wl_nil (hK _ _ ?_); clear hK K)))
      | (refine Wc_region (id := 2) ?_; intro K hK; refine Wl_move (k := ?_); refine Wl_neq (k' := ?_); (refine Wl_nil (hK _ _ ?_); clear hK K))
      | (refine Wc_region (id := 4) ?_; intro K hK; refine Wl_fieldAddr (k := ?_); refine Wl_load (k := ?_); (refine Wl_nil (hK _ _ ?_); clear hK K))
      | (refine Wc_region (id := 5) ?_; intro K hK; refine Wl_eql (k' := ?_); refine Wl_assign (k := ?_); (refine Wl_nil (hK _ _ ?_); clear hK K))
      | (refine Wc_region (id := 6) ?_; intro K hK; refine Wl_eql (k' := ?_); refine Wl_assign (k := ?_); (refine Wl_nil (hK _ _ ?_); clear hK K))
      | (refine Wc_region (id := 7) ?_; intro K hK; refine Wl_eql (k' := ?_); refine Wl_assign (k := ?_); (refine Wl_nil (hK _ _ ?_); clear hK K))
      | (refine Wc_region (id := 8) ?_; intro K hK; refine Wl_eql (k' := ?_); refine Wl_assign (k := ?_); (refine Wl_nil (hK _ _ ?_); clear hK K))
      | (refine Wc_region (id := 9) ?_; intro K hK; refine Wl_eql (k' := ?_); refine Wl_assign (k := ?_); (refine Wl_nil (hK _ _ ?_); clear hK K))
      | (refine Wc_cond (ht := (fun ht => ?_)) (hf := (fun ht => ?_)) <;> (try simp at ht) <;> (try (exfalso; omega))))
    refine Wc_take (y := GtP st S) (k := ?_)
    refine Wc_exN (fun q => ?_)
    obtain ⟨k, d, ta, tc, ea0, ec0, sa0, sc0, ea, ec⟩ := q
    simp only [GtL, GtR, RcG.c]
    simp only [List.cons_append, List.nil_append]
    repeat' (first
      | refine Wc_seq ?_
      | refine thenQ_normal ?_
      | refine Wc_cond_t (h := ?_)
      | refine Wc_cond_f (h := ?_)
      | refine Wc_ret ?_
      | refine thenQ_ret ?_
      | refine Wc_block ?_
      | refine blkQ_normal ?_
      | refine blkQ_ret ?_
      | refine Wc_exit ?_
      | refine thenQ_exit ?_
      | refine blkQ_hit ?_
      | refine blkQ_miss rfl ?_
      | refine Wc_skip ?_
      | refine Wc_label ?_
      | refine loopQ_exit ?_
      | refine loopQ_ret ?_
      | refine loopQ_normal ?_
      | (refine Wc_region (id := 15) ?_; intro K hK; refine Wl_move (k := ?_); refine Wl_move (k := ?_); refine Wl_fieldAddr (k := ?_); refine Wl_loadR (k := ?_); ((refine Wl_call (hs := hcp) (k := ?_); rintro v A' ⟨a1, c1, a2, c2, rfl, rfl⟩; simp only [List.cons_append, List.nil_append])) <;> (refine Wl_nilCheck (k := ?_); refine Wl_fieldAddr (k := ?_); refine Wl_storeR (ho' := rfl) (k := ?_); refine Wl_nilCheck (k := ?_); refine Wl_fieldAddr (k := ?_); refine Wl_store (ho := rfl) (k := ?_); (refine Wl_nil (hK _ _ ?_); clear hK K)))
      | (refine Wc_region (id := 16) ?_; intro K hK; refine Wl_move (k := ?_); ((refine Wl_ent (own_nil 7 35 _) ?_; refine Wl_call (hs := gagain_spec (B := B) st ⟨S.table, sn, [], S.closed⟩ hok S.fold.e S.fold.i (.pointer (some ⟨k, 0, none⟩)) (.pointer (some ⟨d, 0, none⟩)) ⟨k, d, ta, tc, a1, c1, a2, c2, none, 0⟩) (k := ?_); rintro v A' ⟨rfl, rfl⟩; simp only [List.cons_append, List.nil_append])) <;> ((refine Wl_nil (hK _ _ ?_); clear hK K)))
      | (refine Wc_region (id := 17) ?_; intro K hK; refine Wl_assign (k := ?_); (refine Wl_nil (hK _ _ ?_); clear hK K))
      | (refine Wc_cond (ht := (fun ht => ?_)) (hf := (fun ht => ?_)) <;> (try simp at ht) <;> (try (exfalso; omega))))
    exact ⟨Or.inr rfl, _, [GtP st ⟨S.table, sn, [], S.closed⟩, X], (by (repeat (first | exact Ent.refl _ | exact Ent.nil | refine Ent.take (by (repeat (first | exact Out.head | apply Out.tail)); (first | done | fail)) ?_ | refine Ent.drop1 ?_))), res1 rfl rfl, rfl, rfl⟩
  rw [if_neg k4] at h0' ⊢
  have k5 : kind = 5 := Classical.byContradiction fun h => by rw [if_neg h] at h0'; omega
  subst k5
  have hfp := hS.fop
  have hsl := G15.snap_len S
  have hwt := hS.wt
  have hok : (G15.mk S.table S.fold.snap [] S.closed).ok := hS.ok.base hfp (by omega) _
  have hfe := fop_few hfp
  have hfo1 := (G15.fold_ok hS.ok).mono (show 100600 ≤ 900000 by omega)
  repeat' (first
    | refine Wc_seq ?_
    | refine thenQ_normal ?_
    | refine Wc_cond_t (h := ?_)
    | refine Wc_cond_f (h := ?_)
    | refine Wc_ret ?_
    | refine thenQ_ret ?_
    | refine Wc_block ?_
    | refine blkQ_normal ?_
    | refine blkQ_ret ?_
    | refine Wc_exit ?_
    | refine thenQ_exit ?_
    | refine blkQ_hit ?_
    | refine blkQ_miss rfl ?_
    | refine Wc_skip ?_
    | refine Wc_label ?_
    | refine loopQ_exit ?_
    | refine loopQ_ret ?_
    | refine loopQ_normal ?_
    | (refine Wc_region (id := 0) ?_; intro K hK; ((refine Wl_boxAgg (k := ?_); intro r3)) <;> (refine Wl_assign (k := ?_); (refine Wl_nil (hK _ _ ?_); clear hK K)))
    | (refine Wc_region (id := 1) ?_; intro K hK; refine Wl_move (k := ?_); refine Wl_loadR (k := ?_); ((refine Wl_call (hs := hck) (k := ?_); rintro v A' ⟨rfl, rfl⟩; simp only [List.cons_append, List.nil_append])) <;> (refine Wl_assign (k := ?_); (refine Wl_nil (hK _ _ ?_); clear hK K)))
    | (refine Wc_region (id := 2) ?_; intro K hK; refine Wl_move (k := ?_); refine Wl_neq (k' := ?_); (refine Wl_nil (hK _ _ ?_); clear hK K))
    | (refine Wc_region (id := 4) ?_; intro K hK; refine Wl_fieldAddr (k := ?_); refine Wl_load (k := ?_); (refine Wl_nil (hK _ _ ?_); clear hK K))
    | (refine Wc_region (id := 5) ?_; intro K hK; refine Wl_eql (k' := ?_); refine Wl_assign (k := ?_); (refine Wl_nil (hK _ _ ?_); clear hK K))
    | (refine Wc_region (id := 6) ?_; intro K hK; refine Wl_eql (k' := ?_); refine Wl_assign (k := ?_); (refine Wl_nil (hK _ _ ?_); clear hK K))
    | (refine Wc_region (id := 7) ?_; intro K hK; refine Wl_eql (k' := ?_); refine Wl_assign (k := ?_); (refine Wl_nil (hK _ _ ?_); clear hK K))
    | (refine Wc_region (id := 8) ?_; intro K hK; refine Wl_eql (k' := ?_); refine Wl_assign (k := ?_); (refine Wl_nil (hK _ _ ?_); clear hK K))
    | (refine Wc_cond (ht := (fun ht => ?_)) (hf := (fun ht => ?_)) <;> (try simp at ht) <;> (try (exfalso; omega))))
  refine Wc_take (y := GtP st S) (k := ?_)
  refine Wc_exN (fun q => ?_)
  obtain ⟨k, d, ta, tc, ea0, ec0, sa0, sc0, ea, ec⟩ := q
  simp only [GtL, RcG.c]
  simp only [List.cons_append, List.nil_append]
  have htd := told_spec (B := B) st k d S.fold hfo1 (by omega) (GtR S ta tc ea0 ec0 sa0 sc0 ea ec) 83
  repeat' (first
    | refine Wc_seq ?_
    | refine thenQ_normal ?_
    | refine Wc_cond_t (h := ?_)
    | refine Wc_cond_f (h := ?_)
    | refine Wc_ret ?_
    | refine thenQ_ret ?_
    | refine Wc_block ?_
    | refine blkQ_normal ?_
    | refine blkQ_ret ?_
    | refine Wc_exit ?_
    | refine thenQ_exit ?_
    | refine blkQ_hit ?_
    | refine blkQ_miss rfl ?_
    | refine Wc_skip ?_
    | refine Wc_label ?_
    | refine loopQ_exit ?_
    | refine loopQ_ret ?_
    | refine loopQ_normal ?_
    | (refine Wc_region (id := 14) ?_; intro K hK; refine Wl_move (k := ?_); refine Wl_nilCheck (k := ?_); refine Wl_fieldAddr (k := ?_); ((refine Wl_call (hs := htd) (k := ?_); rintro v A' ⟨pa', pc', sa', sc', rfl, rfl⟩; simp only [List.cons_append, List.nil_append])) <;> (refine Wl_fieldAddr (k := ?_); refine Wl_storeR (ho' := rfl) (k := ?_); (refine Wl_nil (hK _ _ ?_); clear hK K)))
    | (refine Wc_cond (ht := (fun ht => ?_)) (hf := (fun ht => ?_)) <;> (try simp at ht) <;> (try (exfalso; omega))))
  refine Wc_ownF (a := pa') (sz := 5) (ho := (by (repeat (first | exact Out.head | apply Out.tail)); (first | done | fail))) (h0 := by omega) (h := fun hpf => ?_)
  refine Wc_ownF (a := sa') (sz := 4) (ho := (by (repeat (first | exact Out.head | apply Out.tail)); (first | done | fail))) (h0 := by omega) (h := fun hsf => ?_)
  have hcp := copied_spec (B := B) [own pa' S.fold.snap.ps.length pc' 5 (prC S.fold.snap.ps) 67, own sa' S.fold.snap.ss.length sc' 4 (ssC S.fold.snap.ss) 69] S.fold.snap (by omega) (by show S.fold.L.length ≤ 900000; omega) pa' pc' sa' sc' (hpf.rd .head) (hsf.rd (.tail .head))
  simp only [GtR]
  repeat' (first
    | refine Wc_seq ?_
    | refine thenQ_normal ?_
    | refine Wc_cond_t (h := ?_)
    | refine Wc_cond_f (h := ?_)
    | refine Wc_ret ?_
    | refine thenQ_ret ?_
    | refine Wc_block ?_
    | refine blkQ_normal ?_
    | refine blkQ_ret ?_
    | refine Wc_exit ?_
    | refine thenQ_exit ?_
    | refine blkQ_hit ?_
    | refine blkQ_miss rfl ?_
    | refine Wc_skip ?_
    | refine Wc_label ?_
    | refine loopQ_exit ?_
    | refine loopQ_ret ?_
    | refine loopQ_normal ?_
    | (refine Wc_region (id := 15) ?_; intro K hK; refine Wl_move (k := ?_); refine Wl_move (k := ?_); refine Wl_fieldAddr (k := ?_); refine Wl_loadR (k := ?_); ((refine Wl_call (hs := hcp) (k := ?_); rintro v A' ⟨a1, c1, a2, c2, rfl, rfl⟩; simp only [List.cons_append, List.nil_append])) <;> (refine Wl_nilCheck (k := ?_); refine Wl_fieldAddr (k := ?_); refine Wl_storeR (ho' := rfl) (k := ?_); refine Wl_nilCheck (k := ?_); refine Wl_fieldAddr (k := ?_); refine Wl_store (ho := rfl) (k := ?_); (refine Wl_nil (hK _ _ ?_); clear hK K)))
    | (refine Wc_region (id := 16) ?_; intro K hK; refine Wl_move (k := ?_); ((refine Wl_ent (own_nil 7 35 _) ?_; refine Wl_call (hs := gagain_spec (B := B) st ⟨S.table, S.fold.snap, [], S.closed⟩ hok S.fold.e S.fold.i (.pointer (some ⟨k, 0, none⟩)) (.pointer (some ⟨d, 0, none⟩)) ⟨k, d, ta, tc, a1, c1, a2, c2, none, 0⟩) (k := ?_); rintro v A' ⟨rfl, rfl⟩; simp only [List.cons_append, List.nil_append])) <;> ((refine Wl_nil (hK _ _ ?_); clear hK K)))
    | (refine Wc_region (id := 17) ?_; intro K hK; refine Wl_assign (k := ?_); (refine Wl_nil (hK _ _ ?_); clear hK K))
    | (refine Wc_cond (ht := (fun ht => ?_)) (hf := (fun ht => ?_)) <;> (try simp at ht) <;> (try (exfalso; omega))))
  exact ⟨Or.inr rfl, _, [GtP st ⟨S.table, S.fold.snap, [], S.closed⟩, X], (by (repeat (first | exact Ent.refl _ | exact Ent.nil | refine Ent.take (by (repeat (first | exact Out.head | apply Out.tail)); (first | done | fail)) ?_ | refine Ent.drop1 ?_))), res1 rfl rfl, rfl, rfl⟩
end specs
end Go.Proofs.Ytnoggejkkjngjaa
