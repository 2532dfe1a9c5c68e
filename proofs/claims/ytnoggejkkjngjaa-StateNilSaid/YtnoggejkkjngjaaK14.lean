/- Package state: what is told; which snapshots are right. Conditions: none but the kinds' bounds, and not too many rows. -/
import Derived.Test.YtnoggejkkjngjaaK13
import Derived.SlDev
set_option maxHeartbeats 8000000
set_option linter.unusedVariables false
set_option linter.unusedSimpArgs false
set_option maxRecDepth 100000
namespace Go.Proofs.Ytnoggejkkjngjaa
open Go Go.Sl
attribute [local irreducible] Go.Sl.Wl Go.Sl.Wc Go.Sl.thenQ Go.Sl.blkQ Go.Sl.loopQ Go.Sl.Fspec

def TdG (r : Nat) (f : FoX) (sa : Option Addr) (sc : Nat) (pre : List (ByteArray × VX)) (y : Option Addr × Nat) : List Asn :=
  [cb r [.int .i64 f.e, .int .i64 f.i, .slice y.1 pre.length y.2, .slice sa f.L.length sc] 40, own y.1 pre.length y.2 5 (prC (pre.map kPr)) 67]
theorem Ent_foldTdG {r c n : Nat} {f : FoX} {sa : Option Addr} {sc : Nat} {a : Option Addr} {pre : List (ByteArray × VX)} {vs : List Value} {A A1 A2 L : List Asn}
    (h1 : Out (cb r [.int .i64 f.e, .int .i64 f.i, .slice a n c, .slice sa f.L.length sc] 40) A A1) (h2 : Out (own a n c 5 vs 67) A1 A2) (hn : n = pre.length) (hv : vs = prC (pre.map kPr)) (h : Ent (exN (TdG r f sa sc pre) :: A2) L) : Ent A L := by
  subst hn hv
  exact ((Ent.perm (h1.perm.trans (h2.perm.cons _))).trans (Ent.exN_shut (f := TdG r f sa sc pre) (a, c) A2)).trans h
section specs
variable {B : Base}
theorem told_spec (st k d : Nat) (f : FoX) (hf : f.ok 900000) (hL : f.L.length ≤ 1000) (l : List Value) (T : TypeId) :
    Fspec Try.prog B 39 #[.pointer (some ⟨st, 0, none⟩)] [cb st (.int .i64 f.e :: .int .i64 f.i :: .pointer (some ⟨k, 0, none⟩) :: .pointer (some ⟨d, 0, none⟩) :: l) T, MpA k f.t, DeP d 16 f.L]
      (fun v A' => ∃ pa pc sa sc, v = .agg #[.int .i64 f.e, .int .i64 f.i, .slice pa f.snap.ps.length pc, .slice sa f.snap.ss.length sc] ∧
        A' = [own pa f.snap.ps.length pc 5 (prC f.snap.ps) 67, own sa f.snap.ss.length sc 4 (ssC f.snap.ss) 69, cb st (.int .i64 f.e :: .int .i64 f.i :: .pointer (some ⟨k, 0, none⟩) :: .pointer (some ⟨d, 0, none⟩) :: l) T, MpA k f.t, DeP d 16 f.L]) := by
  have hsz := hf.size
  have hlen0 : f.t.inorder.length ≤ 900000 := by rw [Tree.inorder_len]; exact hsz
  refine spec_of (args := [_]) Try.func39 rfl rfl rfl ?_
  repeat' (first
    | (refine Wc_cutS (k := 1) (α := Option Addr × Nat × Nat) (fun x => [(0, .pointer (some ⟨st, 0, none⟩)), (2, .pointer (some ⟨r2, 0, none⟩)), (3, .pointer (some ⟨x.2.2, 0, none⟩))]) (fun x => [cb r2 [.int .i64 0, .int .i64 0, .slice none 0 0, .slice none 0 0] 40, cb x.2.2 [.int .i64 f.e, .int .i64 f.i, .slice none 0 0, .slice x.1 f.L.length x.2.1] 40, own x.1 f.L.length x.2.1 4 (ssC f.L) 69, cb st (.int .i64 f.e :: .int .i64 f.i :: .pointer (some ⟨k, 0, none⟩) :: .pointer (some ⟨d, 0, none⟩) :: l) T, MpA k f.t, DeP d 16 f.L]) (fun x => True) ?_ (fun x G _ => ?_); rotate_left; simp only [ov]; rotate_left)
    | refine Wc_seq ?_
    | refine thenQ_normal ?_
    | refine Wc_cond_t (h := ?_)
    | refine Wc_cond_f (h := ?_)
    | refine Wc_ret ?_
    | refine thenQ_ret ?_
    | refine Wc_block ?_
    | refine blkQ_normal ?_
    | refine blkQ_ret ?_
    | refine Wc_exit ?_
    | refine thenQ_exit ?_
    | refine blkQ_hit ?_
    | refine blkQ_miss rfl ?_
    | refine Wc_skip ?_
    | refine Wc_label ?_
    | refine loopQ_exit ?_
    | refine loopQ_ret ?_
    | refine loopQ_normal ?_
    | (refine Wc_region (id := 0) ?_; intro K hK; ((first | (refine Wl_alloc (k := ?_); intro r2) | sl_stop "s2")) <;> ((refine Wl_nil (hK _ _ ?_); clear hK K)))
    | ((refine Wc_treeF (id := 1) (M := ([cb st (.int .i64 f.e :: .int .i64 f.i :: .pointer (some ⟨k, 0, none⟩) :: .pointer (some ⟨d, 0, none⟩) :: l) T])) (Ls := [9, 13]) (t := (.step 0 (.step 1 (.step 2 (.step 3 (.step 4 (.step 5 (.step 6 (.step 7 (.alt (.step 8 (.step 9 (.step 10 (.step 11 .done)))) (.step 10 (.step 8 (.step 9 (.step 11 .done)))))))))))))) (bad := [8, 10]) (hok := (by decide +kernel)) (hp := (Pick.perm (by (repeat (first | exact Pick.nil | apply Pick.cons (by (repeat (first | exact Out.head | apply Out.tail)); (first | done | fail)))); (first | done | fail)))) (h := ?_); intro K hK; repeat' (first | refine WlT_alt ?_ ?_ | (refine WlT_step (i := 0) rfl ?_; ((first | refine Wl_move (k := ?_) | sl_stop "s6")) <;> (refine Wl_nil ?_)) | (refine WlT_step (i := 1) rfl ?_; ((first | refine Wl_nilCheck (k := ?_) | sl_stop "s7")) <;> (refine Wl_nil ?_)) | (refine WlT_step (i := 2) rfl ?_; ((first | refine Wl_fieldAddr (k := ?_) | sl_stop "s8")) <;> (refine Wl_nil ?_)) | (refine WlT_step (i := 3) rfl ?_; ((first | refine Wl_loadRF (k := ?_) | sl_stop "s9")) <;> (refine Wl_nil ?_)) | (refine WlT_step (i := 4) rfl ?_; ((first | refine Wl_move (k := ?_) | sl_stop "s10")) <;> (refine Wl_nil ?_)) | (refine WlT_step (i := 5) rfl ?_; ((first | refine Wl_nilCheck (k := ?_) | sl_stop "s11")) <;> (refine Wl_nil ?_)) | (refine WlT_step (i := 6) rfl ?_; ((first | refine Wl_fieldAddr (k := ?_) | sl_stop "s12")) <;> (refine Wl_nil ?_)) | (refine WlT_step (i := 7) rfl ?_; ((first | refine Wl_loadF (k := ?_) | sl_stop "s13")) <;> (refine Wl_nil ?_)) | (refine WlT_step (i := 8) rfl ?_; ((first | (refine Wl_call (hs := all_spec d 16 f.L hf.ris hL) (k := ?_); rintro v A' ⟨sa, sc, rfl, rfl⟩; simp only [List.cons_append, List.nil_append]) | sl_stop "s14")) <;> (refine Wl_nil ?_)) | (refine WlT_step (i := 9) rfl ?_; ((first | refine Wl_build (k := ?_) | sl_stop "s15")) <;> (refine Wl_nil ?_)) | (refine WlT_step (i := 10) rfl ?_; ((first | (refine Wl_alloc (k := ?_); intro r3) | sl_stop "s3")) <;> (refine Wl_nil ?_)) | (refine WlT_step (i := 11) rfl ?_; ((first | refine Wl_storeR (ho' := rfl) (k := ?_) | sl_stop "o11")) <;> (refine Wl_nil ?_)) | (refine WlT_done (hK _ _ ?_); clear hK K; try simp only [List.cons_append, List.nil_append]))))
    | (refine Wc_region (id := 2) ?_; intro K hK; (first | refine Wl_move (k := ?_) | sl_stop "s16"); (first | refine Wl_nilCheck (k := ?_) | sl_stop "s17"); (first | refine Wl_fieldAddr (k := ?_) | sl_stop "s18"); (first | refine Wl_load (k := ?_) | sl_stop "s19"); ((first | (refine Wl_call (hs := mall_spec (B := B) _ _ rfl) (k := ?_); rintro v A' ⟨ra, rfl, rfl⟩; simp only [List.cons_append, List.nil_append]) | sl_stop "s20")) <;> ((refine Wl_nil (hK _ _ ?_); clear hK K)))
    | (refine Wc_cond (ht := (fun ht => ?_)) (hf := (fun ht => ?_)) <;> (try simp at ht) <;> (try (exfalso; omega))))
  all_goals first | exact ⟨(sa, sc, r3), trivial, ⟨rfl, rfl, rfl, trivial⟩, (by (repeat (first | exact Ent.refl _ | exact Ent.nil | refine Ent.take (by (repeat (first | exact Out.head | apply Out.tail)); (first | done | fail)) ?_ | refine Ent.drop1 ?_)); (first | done | fail))⟩ | skip
  obtain ⟨sa, sc, r3⟩ := x
  simp only
  refine Wc_rangeFunc (vs := []) encP f.t.inorder [cb ra [.pointer (some ⟨k, 0, none⟩)] 77, MpA k f.t]
    (fun pre => [exN (TdG r3 f sa sc pre), cb r2 [.int .i64 0, .int .i64 0, .slice none 0 0, .slice none 0 0] 40, own sa f.L.length sc 4 (ssC f.L) 69, cb st (.int .i64 f.e :: .int .i64 f.i :: .pointer (some ⟨k, 0, none⟩) :: .pointer (some ⟨d, 0, none⟩) :: l) T, DeP d 16 f.L]) (fun _ _ => [pur False]) rfl ?_ (all_seq ra k f.t) (by decide) (fun _ => rfl) ?_ ?_ (fun c pre x rest hx => ?_)
  · refine Ent.trans (own_nil 5 67 _) (Ent_foldTdG (pre := []) (r := r3) (c := 0) (a := none) (f := f) (sa := sa) (sc := sc) (by (repeat (first | exact Out.head | apply Out.tail)); (first | done | fail)) (by (repeat (first | exact Out.head | apply Out.tail)); (first | done | fail)) rfl rfl ?_)
    simp only [List.cons_append, List.nil_append]
    (repeat (first | exact Ent.refl _ | exact Ent.nil | refine Ent.take (by (repeat (first | exact Out.head | apply Out.tail)); (first | done | fail)) ?_ | refine Ent.drop1 ?_))
  · rintro pre ⟨kk, n⟩ rest hx
    have hlt : pre.length ≤ 900000 := by rw [hx] at hlen0; simp at hlen0; omega
    unfold Round
    simp only [encP, List.zip_cons_cons, List.zip_nil_right, ups, List.cons_append, List.nil_append]
    repeat' (first
      | refine Wc_seq ?_
      | refine thenQ_normal ?_
      | refine Wc_cond_t (h := ?_)
      | refine Wc_cond_f (h := ?_)
      | refine Wc_ret ?_
      | refine thenQ_ret ?_
      | refine Wc_block ?_
      | refine blkQ_normal ?_
      | refine blkQ_ret ?_
      | refine Wc_exit ?_
      | refine thenQ_exit ?_
      | refine blkQ_hit ?_
      | refine blkQ_miss rfl ?_
      | refine Wc_skip ?_
      | refine Wc_label ?_
      | refine loopQ_exit ?_
      | refine loopQ_ret ?_
      | refine loopQ_normal ?_
      | (refine Wc_region (id := 3) ?_; intro K hK; (first | refine Wl_assign (k := ?_) | sl_stop "s4"); (refine Wl_nil (hK _ _ ?_); clear hK K))
      | (refine Wc_region (id := 4) ?_; intro K hK; ((first | (refine Wl_alloc (k := ?_); intro r5) | sl_stop "s5")) <;> ((first | refine Wl_storeR (ho' := rfl) (k := ?_) | sl_stop "o1"); (refine Wl_nil (hK _ _ ?_); clear hK K)))
      | (refine Wc_cond (ht := (fun ht => ?_)) (hf := (fun ht => ?_)) <;> (try simp at ht) <;> (try (exfalso; omega))))
    refine ⟨rfl, ?_⟩
    refine Wc_take (y := exN (TdG r3 f sa sc pre)) (k := (Wc_exN (fun y => ?_)))
    simp only [TdG, List.cons_append, List.nil_append]
    repeat' (first
      | refine Wc_seq ?_
      | refine thenQ_normal ?_
      | refine Wc_cond_t (h := ?_)
      | refine Wc_cond_f (h := ?_)
      | refine Wc_ret ?_
      | refine thenQ_ret ?_
      | refine Wc_block ?_
      | refine blkQ_normal ?_
      | refine blkQ_ret ?_
      | refine Wc_exit ?_
      | refine thenQ_exit ?_
      | refine blkQ_hit ?_
      | refine blkQ_miss rfl ?_
      | refine Wc_skip ?_
      | refine Wc_label ?_
      | refine loopQ_exit ?_
      | refine loopQ_ret ?_
      | refine loopQ_normal ?_
      | (refine Wc_region (id := 5) ?_; intro K hK; (first | refine Wl_fieldAddr (k := ?_) | sl_stop "s23"); (first | refine Wl_load (k := ?_) | sl_stop "s24"); (first | refine Wl_move (k := ?_) | sl_stop "s25"); (first | refine Wl_loadR (k := ?_) | sl_stop "s26"); (first | refine Wl_build (k := ?_) | sl_stop "s27"); ((first | (refine Wl_lit1 (cs := PrX.c ⟨kk, n⟩) (k := ?_); intro r28) | sl_stop "s28")) <;> (((first | (refine Wl_append1 (hvl := by rfl) (hvc := by rfl) (hbd := by omega) (k := ?_); intro nb nc) | sl_stop "s29")) <;> ((first | refine Wl_fieldAddr (k := ?_) | sl_stop "s30"); (first | refine Wl_store (ho := rfl) (k := ?_) | sl_stop "o8"); (refine Wl_nil (hK _ _ ?_); clear hK K))))
      | (refine Wc_cond (ht := (fun ht => ?_)) (hf := (fun ht => ?_)) <;> (try simp at ht) <;> (try (exfalso; omega))))
    refine .inl ⟨rfl, Ent_foldTdG (r := r3) (f := f) (sa := sa) (sc := sc) (pre := pre ++ [(kk, n)]) (by (repeat (first | exact Out.head | apply Out.tail)); (first | done | fail)) (by (repeat (first | exact Out.head | apply Out.tail)); (first | done | fail)) (by simp) (by simp [prC, kPr]) ?_⟩
    (repeat (first | exact Ent.refl _ | exact Ent.nil | refine Ent.take (by (repeat (first | exact Out.head | apply Out.tail)); (first | done | fail)) ?_ | refine Ent.drop1 ?_))
  · refine blkQ_normal (thenQ_normal ?_)
    simp only [List.cons_append, List.nil_append]
    refine Wc_take (y := exN (TdG r3 f sa sc f.t.inorder)) (k := (Wc_exN (fun y => ?_)))
    simp only [TdG, List.cons_append, List.nil_append]
    repeat' (first
      | refine Wc_seq ?_
      | refine thenQ_normal ?_
      | refine Wc_cond_t (h := ?_)
      | refine Wc_cond_f (h := ?_)
      | refine Wc_ret ?_
      | refine thenQ_ret ?_
      | refine Wc_block ?_
      | refine blkQ_normal ?_
      | refine blkQ_ret ?_
      | refine Wc_exit ?_
      | refine thenQ_exit ?_
      | refine blkQ_hit ?_
      | refine blkQ_miss rfl ?_
      | refine Wc_skip ?_
      | refine Wc_label ?_
      | refine loopQ_exit ?_
      | refine loopQ_ret ?_
      | refine loopQ_normal ?_
      | (refine Wc_region (id := 6) ?_; intro K hK; (first | refine Wl_loadR (k := ?_) | sl_stop "s31"); (first | refine Wl_storeR (ho' := rfl) (k := ?_) | sl_stop "o1"); (refine Wl_nil (hK _ _ ?_); clear hK K))
      | (refine Wc_cond (ht := (fun ht => ?_)) (hf := (fun ht => ?_)) <;> (try simp at ht) <;> (try (exfalso; omega))))
    have hpl : f.t.inorder.length = f.snap.ps.length := by simp [FoX.snap, prs]
    refine ⟨Or.inr rfl, _, [own y.1 f.snap.ps.length y.2 5 (prC f.snap.ps) 67, own sa f.snap.ss.length sc 4 (ssC f.snap.ss) 69, cb st (.int .i64 f.e :: .int .i64 f.i :: .pointer (some ⟨k, 0, none⟩) :: .pointer (some ⟨d, 0, none⟩) :: l) T, MpA k f.t, DeP d 16 f.L], ?_, resG rfl (by (repeat (first | exact ResL.nil | apply ResL.tmp (by (repeat (first | exact Ev.here | exact Ev.const | exact Ev.arg rfl | apply Ev.there rfl | exact Ev.none rfl | exact Ev.func | exact Ev.var)); (first | done | fail)) | apply ResL.agg (by (repeat (first | exact Ev.here | exact Ev.const | exact Ev.arg rfl | apply Ev.there rfl | exact Ev.none rfl | exact Ev.func | exact Ev.var)); (first | done | fail)) (by (repeat (first | exact Rd.head | exact Rd.base (by assumption) | apply Rd.tail)); (first | done | fail)) (by (repeat (first | exact TakeR.nil | apply TakeR.take | apply TakeR.skip)); (first | done | fail)) | apply ResL.cell (by (repeat (first | exact Ev.here | exact Ev.const | exact Ev.arg rfl | apply Ev.there rfl | exact Ev.none rfl | exact Ev.func | exact Ev.var)); (first | done | fail)) (by (repeat (first | exact Rd.head | exact Rd.base (by assumption) | apply Rd.tail)); (first | done | fail)) rfl)); (first | done | fail)) rfl, y.1, y.2, sa, sc, by rw [← hpl]; rfl, rfl⟩
    rw [← hpl]
    show Ent _ [own y.1 f.t.inorder.length y.2 5 (prC (f.t.inorder.map kPr)) 67, own sa f.L.length sc 4 (ssC f.L) 69, cb st (.int .i64 f.e :: .int .i64 f.i :: .pointer (some ⟨k, 0, none⟩) :: .pointer (some ⟨d, 0, none⟩) :: l) T, MpA k f.t, DeP d 16 f.L]
    (repeat (first | exact Ent.refl _ | exact Ent.nil | refine Ent.take (by (repeat (first | exact Out.head | apply Out.tail)); (first | done | fail)) ?_ | refine Ent.drop1 ?_))
  · simp only [List.cons_append, List.nil_append]
    refine Wc_take (y := pur False) (k := (Wc_pur (fun h => h.elim)))
end specs
end Go.Proofs.Ytnoggejkkjngjaa
/- Package state: a record has its effect. Conditions: none but the kinds' bounds, and not too many rows. -/
set_option maxHeartbeats 8000000
set_option linter.unusedVariables false
set_option linter.unusedSimpArgs false
set_option maxRecDepth 100000
namespace Go.Proofs.Ytnoggejkkjngjaa
open Go Go.Sl
attribute [local irreducible] Go.Sl.Wl Go.Sl.Wc Go.Sl.thenQ Go.Sl.blkQ Go.Sl.loopQ Go.Sl.Fspec

section specs
variable {B : Base}
theorem gapply1_spec (X : Asn) (st n : Nat) (S : G15) (hS : S.inv n) (hn : n ≤ 90000) (r : RcG) (hr : r.ok) (pa : Option Addr) (pc : Nat) (sa : Option Addr) (sc : Nat)
    (h1 : RdS Try.prog B [X] 5 pa r.sn.ps.length pc (prC r.sn.ps)) (h2 : RdS Try.prog B [X] 4 sa r.sn.ss.length sc (ssC r.sn.ss)) :
    Fspec Try.prog B 11 #[.pointer (some ⟨st, 0, none⟩), .agg (r.c pa pc sa sc).toArray] [GtP st S, X] (fun v A' => v = .int .i64 (gchkV S r) ∧ A' = [GtP st (gapplyV S r), X]) := by
  have hck := gcheck1_spec (B := B) X st S hS.ok r hr pa pc sa sc h1 h2
  have htab := rightT_out hS.ok.tab
  have hfew := hS.ok.few
  have hi := G15.fold_i hS.ok
  have hbi := hS.ok.bi
  have hxo := hr.xo
  have hps := hr.ps
  have hss := hr.ss
  refine spec_of (args := [_, _]) Try.func11 rfl rfl rfl ?_
  unfold gapplyV
  by_cases h0 : gchkV S r ≠ 0
  · rw [if_pos h0]
    repeat' (first
      | refine Wc_seq ?_
      | refine thenQ_normal ?_
      | refine Wc_cond_t (h := ?_)
      | refine Wc_cond_f (h := ?_)
      | refine Wc_ret ?_
      | refine thenQ_ret ?_
      | refine Wc_block ?_
      | refine blkQ_normal ?_
      | refine blkQ_ret ?_
      | refine Wc_exit ?_
      | refine thenQ_exit ?_
      | refine blkQ_hit ?_
      | refine blkQ_miss rfl ?_
      | refine Wc_skip ?_
      | refine Wc_label ?_
      | refine loopQ_exit ?_
      | refine loopQ_ret ?_
      | refine loopQ_normal ?_
      | (refine Wc_region (id := 0) ?_; intro K hK; ((refine Wl_boxAgg (l := r.c pa pc sa sc) (k := ?_); intro r3)) <;> (refine Wl_assign (k := ?_); (refine Wl_nil (hK _ _ ?_); clear hK K)))
      | (refine Wc_region (id := 1) ?_; intro K hK; refine Wl_move (k := ?_); ((refine Wl_loadAgg (cs := r.c pa pc sa sc) (hv := by simp [RcG.c]) (hc := rfl) (k := ?_))) <;> (((refine Wl_call (hs := hck) (k := ?_); rintro v A' ⟨rfl, rfl⟩; simp only [List.cons_append, List.nil_append])) <;> (refine Wl_assign (k := ?_); (refine Wl_nil (hK _ _ ?_); clear hK K))))
      | (refine Wc_region (id := 2) ?_; intro K hK; refine Wl_move (k := ?_); refine Wl_neq (k' := ?_); (refine Wl_nil (hK _ _ ?_); clear hK K))
      | (refine Wc_region (id := 3) ?_; intro K hK; refine Wl_move (k := ?_); refine Wl_assign (k := ?_); (refine Wl_nil (hK _ _ ?_); clear hK K))
      | (refine Wc_cond (ht := (fun ht => ?_)) (hf := (fun ht => ?_)) <;> (try simp at ht) <;> (try (exfalso; omega))))
    exact ⟨Or.inr rfl, _, [GtP st S, X], (by (repeat (first | exact Ent.refl _ | exact Ent.nil | refine Ent.take (by (repeat (first | exact Out.head | apply Out.tail)); (first | done | fail)) ?_ | refine Ent.drop1 ?_))), res1 rfl rfl, rfl, rfl⟩
  rw [if_neg h0]
  have h0' : gchkV S r = 0 := by omega
  rw [h0'] at hck ⊢
  unfold gchkV at h0'
  obtain ⟨kind, x, ep, config, sn⟩ := r
  simp only at hxo hps hss h1 h2 h0' ⊢
  have hfo : ∀ (S : G15) (q : Gq) (A0 : List Asn), Ent (GtL st S q ++ A0) (GtP st S :: A0) := fun S q A0 => gt_fold (A0 := A0) q (Ent.refl _)
  by_cases k1 : kind = 1
  · subst k1
    rw [if_pos rfl] at h0' ⊢
    have hfold := hS.ok
    have hfo1 := G15.fold_ok hS.ok
    have hfw := gfold_write S x
    have hl1 : S.es.length + 1 = (S.es ++ [x]).length := by simp
    have hes : esC S.es ++ x.c = esC (S.es ++ [x]) := by simp [esC]
    repeat' (first
      | refine Wc_seq ?_
      | refine thenQ_normal ?_
      | refine Wc_cond_t (h := ?_)
      | refine Wc_cond_f (h := ?_)
      | refine Wc_ret ?_
      | refine thenQ_ret ?_
      | refine Wc_block ?_
      | refine blkQ_normal ?_
      | refine blkQ_ret ?_
      | refine Wc_exit ?_
      | refine thenQ_exit ?_
      | refine blkQ_hit ?_
      | refine blkQ_miss rfl ?_
      | refine Wc_skip ?_
      | refine Wc_label ?_
      | refine loopQ_exit ?_
      | refine loopQ_ret ?_
      | refine loopQ_normal ?_
      | (refine Wc_region (id := 0) ?_; intro K hK; ((refine Wl_boxAgg (k := ?_); intro r3)) <;> (refine Wl_assign (k := ?_); (refine Wl_nil (hK _ _ ?_); clear hK K)))
      | (refine Wc_region (id := 1) ?_; intro K hK; refine Wl_move (k := ?_); refine Wl_loadR (k := ?_); ((refine Wl_call (hs := hck) (k := ?_); rintro v A' ⟨rfl, rfl⟩; simp only [List.cons_append, List.nil_append])) <;> (refine Wl_assign (k := ?_); (refine Wl_nil (hK _ _ ?_); clear hK K)))
      | (refine Wc_region (id := 2) ?_; intro K hK; refine Wl_move (k := ?_); refine Wl_neq (k' := ?_); (refine Wl_nil (hK _ _ ?_); clear hK K))
      | (refine Wc_region (id := 4) ?_; intro K hK; refine Wl_fieldAddr (k := ?_); refine Wl_load (k := ?_); (refine Wl_nil (hK _ _ ?_); clear hK K))
      | (refine Wc_cond (ht := (fun ht => ?_)) (hf := (fun ht => ?_)) <;> (try simp at ht) <;> (try (exfalso; omega))))
    refine Wc_take (y := GtP st S) (k := ?_)
    refine Wc_exN (fun q => ?_)
    obtain ⟨k, d, ta, tc, ea0, ec0, sa0, sc0, ea, ec⟩ := q
    simp only [GtL, GtR, RcG.c]
    simp only [List.cons_append, List.nil_append]
    repeat' (first
      | refine Wc_seq ?_
      | refine thenQ_normal ?_
      | refine Wc_cond_t (h := ?_)
      | refine Wc_cond_f (h := ?_)
      | refine Wc_ret ?_
      | refine thenQ_ret ?_
      | refine Wc_block ?_
      | refine blkQ_normal ?_
      | refine blkQ_ret ?_
      | refine Wc_exit ?_
      | refine thenQ_exit ?_
      | refine blkQ_hit ?_
      | refine blkQ_miss rfl ?_
      | refine Wc_skip ?_
      | refine Wc_label ?_
      | refine loopQ_exit ?_
      | refine loopQ_ret ?_
      | refine loopQ_normal ?_
      | (refine Wc_region (id := 5) ?_; intro K hK; refine Wl_eql (k' := ?_); refine Wl_assign (k := ?_); (refine Wl_nil (hK _ _ ?_); clear hK K))
      | (refine Wc_draw (id := 10) (h := ?_); intro K hK; refine Wl_move (k := ?_); refine Wl_move (k := ?_); refine Wl_nilCheck (k := ?_); refine Wl_fieldAddr (k := ?_); refine Wl_load (k := ?_); refine Wl_fieldAddr (k := ?_); ((refine Wl_loadAgg (cs := x.c) (hv := by simp) (hc := rfl) (k := ?_))) <;> (((refine Wl_lit1 (cs := x.c) (k := ?_); intro r31)) <;> (((refine Wl_append1 (hvl := by rfl) (hvc := by rfl) (hbd := by omega) (k := ?_); intro nb nc; rw [hl1, hes])) <;> (refine Wl_nilCheck (k := ?_); refine Wl_fieldAddr (k := ?_); refine Wl_store (ho := rfl) (k := ?_); (refine Wl_nil (hK _ _ ?_); clear hK K)))))
      | (refine Wc_draw (id := 11) (h := ?_); intro K hK; refine Wl_move (k := ?_); refine Wl_nilCheck (k := ?_); refine Wl_fieldAddr (k := ?_); refine Wl_fieldAddr (k := ?_); ((refine Wl_loadAgg (cs := x.c) (hv := by simp) (hc := rfl) (k := ?_))) <;> (((refine Wl_call (hs := put_spec st k d S.fold (hfo1.mono (by omega)) x hxo (GtR (gwriteV S x) ta tc ea0 ec0 sa0 sc0 nb nc) 83) (k := ?_); rintro v A' ⟨rfl, rfl⟩; simp only [List.cons_append, List.nil_append])) <;> ((refine Wl_nil (hK _ _ ?_); clear hK K))))
      | (refine Wc_region (id := 17) ?_; intro K hK; refine Wl_assign (k := ?_); (refine Wl_nil (hK _ _ ?_); clear hK K))
      | (refine Wc_cond (ht := (fun ht => ?_)) (hf := (fun ht => ?_)) <;> (try simp at ht) <;> (try (exfalso; omega))))
    refine ⟨Or.inr rfl, _, [GtP st (gwriteV S x), X], Ent.trans ?_ (hfo (gwriteV S x) ⟨k, d, ta, tc, ea0, ec0, sa0, sc0, nb, nc⟩ [X]), res1 rfl rfl, rfl, rfl⟩
    simp only [GtL, hfw]; simp only [List.cons_append, List.nil_append]
    exact (by (repeat (first | exact Ent.refl _ | exact Ent.nil | refine Ent.take (by (repeat (first | exact Out.head | apply Out.tail)); (first | done | fail)) ?_ | refine Ent.drop1 ?_)))
  rw [if_neg k1] at h0' ⊢
  by_cases k2 : kind = 2
  · subst k2
    rw [if_pos rfl] at h0' ⊢
    have hT : rightT (S.table ++ [ep]) = true := by
      cases hb : rightT (S.table ++ [ep]) with
      | true => rfl
      | false => rw [hb] at h0'; simp at h0'
    repeat' (first
      | refine Wc_seq ?_
      | refine thenQ_normal ?_
      | refine Wc_cond_t (h := ?_)
      | refine Wc_cond_f (h := ?_)
      | refine Wc_ret ?_
      | refine thenQ_ret ?_
      | refine Wc_block ?_
      | refine blkQ_normal ?_
      | refine blkQ_ret ?_
      | refine Wc_exit ?_
      | refine thenQ_exit ?_
      | refine blkQ_hit ?_
      | refine blkQ_miss rfl ?_
      | refine Wc_skip ?_
      | refine Wc_label ?_
      | refine loopQ_exit ?_
      | refine loopQ_ret ?_
      | refine loopQ_normal ?_
      | (refine Wc_region (id := 0) ?_; intro K hK; ((refine Wl_boxAgg (k := ?_); intro r3)) <;> (refine Wl_assign (k := ?_); (refine Wl_nil (hK _ _ ?_); clear hK K)))
      | (refine Wc_region (id := 1) ?_; intro K hK; refine Wl_move (k := ?_); refine Wl_loadR (k := ?_); ((refine Wl_call (hs := hck) (k := ?_); rintro v A' ⟨rfl, rfl⟩; simp only [List.cons_append, List.nil_append])) <;> (refine Wl_assign (k := ?_); (refine Wl_nil (hK _ _ ?_); clear hK K)))
      | (refine Wc_region (id := 2) ?_; intro K hK; refine Wl_move (k := ?_); refine Wl_neq (k' := ?_); (refine Wl_nil (hK _ _ ?_); clear hK K))
      | (refine Wc_region (id := 4) ?_; intro K hK; refine Wl_fieldAddr (k := ?_); refine Wl_load (k := ?_); (refine Wl_nil (hK _ _ ?_); clear hK K))
      | (refine Wc_region (id := 5) ?_; intro K hK; refine Wl_eql (k' := ?_); refine Wl_assign (k := ?_); (refine Wl_nil (hK _ _ ?_); clear hK K))
      | (refine Wc_region (id := 6) ?_; intro K hK; refine Wl_eql (k' := ?_); refine Wl_assign (k := ?_); (refine Wl_nil (hK _ _ ?_); clear hK K))
      | (refine Wc_region (id := 12) ?_; intro K hK; refine Wl_move (k := ?_); refine Wl_fieldAddr (k := ?_); ((refine Wl_loadAgg (cs := epC ep) (hv := by simp [RcG.c]) (hc := rfl) (k := ?_))) <;> (((refine Wl_call (hs := gadopt_spec st S hS.ok ep hT) (k := ?_); rintro v A' ⟨rfl, rfl⟩; simp only [List.cons_append, List.nil_append])) <;> ((refine Wl_nil (hK _ _ ?_); clear hK K))))
      | (refine Wc_region (id := 17) ?_; intro K hK; refine Wl_assign (k := ?_); (refine Wl_nil (hK _ _ ?_); clear hK K))
      | (refine Wc_cond (ht := (fun ht => ?_)) (hf := (fun ht => ?_)) <;> (try simp at ht) <;> (try (exfalso; omega))))
    exact ⟨Or.inr rfl, _, [GtP st (gadoptV S ep), X], (by (repeat (first | exact Ent.refl _ | exact Ent.nil | refine Ent.take (by (repeat (first | exact Out.head | apply Out.tail)); (first | done | fail)) ?_ | refine Ent.drop1 ?_))), res1 rfl rfl, rfl, rfl⟩
  rw [if_neg k2] at h0' ⊢
  by_cases k3 : kind = 3
  · subst k3
    rw [if_pos rfl] at h0' ⊢
    repeat' (first
      | refine Wc_seq ?_
      | refine thenQ_normal ?_
      | refine Wc_cond_t (h := ?_)
      | refine Wc_cond_f (h := ?_)
      | refine Wc_ret ?_
      | refine thenQ_ret ?_
      | refine Wc_block ?_
      | refine blkQ_normal ?_
      | refine blkQ_ret ?_
      | refine Wc_exit ?_
      | refine thenQ_exit ?_
      | refine blkQ_hit ?_
      | refine blkQ_miss rfl ?_
      | refine Wc_skip ?_
      | refine Wc_label ?_
      | refine loopQ_exit ?_
      | refine loopQ_ret ?_
      | refine loopQ_normal ?_
      | (refine Wc_region (id := 0) ?_; intro K hK; ((refine Wl_boxAgg (k := ?_); intro r3)) <;> (refine Wl_assign (k := ?_); (refine Wl_nil (hK _ _ ?_); clear hK K)))
      | (refine Wc_region (id := 1) ?_; intro K hK; refine Wl_move (k := ?_); refine Wl_loadR (k := ?_); ((refine Wl_call (hs := hck) (k := ?_); rintro v A' ⟨rfl, rfl⟩; simp only [List.cons_append, List.nil_append])) <;> (refine Wl_assign (k := ?_); (refine Wl_nil (hK _ _ ?_); clear hK K)))
      | (refine Wc_region (id := 2) ?_; intro K hK; refine Wl_move (k := ?_); refine Wl_neq (k' := ?_); (refine Wl_nil (hK _ _ ?_); clear hK K))
      | (refine Wc_region (id := 4) ?_; intro K hK; refine Wl_fieldAddr (k := ?_); refine Wl_load (k := ?_); (refine Wl_nil (hK _ _ ?_); clear hK K))
      | (refine Wc_region (id := 5) ?_; intro K hK; refine Wl_eql (k' := ?_); refine Wl_assign (k := ?_); (refine Wl_nil (hK _ _ ?_); clear hK K))
      | (refine Wc_region (id := 6) ?_; intro K hK; refine Wl_eql (k' := ?_); refine Wl_assign (k := ?_); (refine Wl_nil (hK _ _ ?_); clear hK K))
      | (refine Wc_region (id := 7) ?_; intro K hK; refine Wl_eql (k' := ?_); refine Wl_assign (k := ?_); (refine Wl_nil (hK _ _ ?_); clear hK K))
      | (refine Wc_cond (ht := (fun ht => ?_)) (hf := (fun ht => ?_)) <;> (try simp at ht) <;> (try (exfalso; omega))))
    refine Wc_take (y := GtP st S) (k := ?_)
    refine Wc_exN (fun q => ?_)
    obtain ⟨k, d, ta, tc, ea0, ec0, sa0, sc0, ea, ec⟩ := q
    simp only [GtL, GtR, RcG.c]
    simp only [List.cons_append, List.nil_append]
    repeat' (first
      | refine Wc_seq ?_
      | refine thenQ_normal ?_
      | refine Wc_cond_t (h := ?_)
      | refine Wc_cond_f (h := ?_)
      | refine Wc_ret ?_
      | refine thenQ_ret ?_
      | refine Wc_block ?_
      | refine blkQ_normal ?_
      | refine blkQ_ret ?_
      | refine Wc_exit ?_
      | refine thenQ_exit ?_
      | refine blkQ_hit ?_
      | refine blkQ_miss rfl ?_
      | refine Wc_skip ?_
      | refine Wc_label ?_
      | refine loopQ_exit ?_
      | refine loopQ_ret ?_
      | refine loopQ_normal ?_
      | (refine Wc_region (id := 13) ?_; intro K hK; refine Wl_move (k := ?_); refine Wl_nilCheck (k := ?_); refine Wl_fieldAddr (k := ?_); refine Wl_store (ho := rfl) (k := ?_); (refine Wl_nil (hK _ _ ?_); clear hK K))
      | (refine Wc_region (id := 17) ?_; intro K hK; refine Wl_assign (k := ?_); (refine Wl_nil (hK _ _ ?_); clear hK K))
      | (refine Wc_cond (ht := (fun ht => ?_)) (hf := (fun ht => ?_)) <;> (try simp at ht) <;> (try (exfalso; omega))))
    refine ⟨Or.inr rfl, _, [GtP st { S with closed := true }, X], Ent.trans ?_ (hfo { S with closed := true } ⟨k, d, ta, tc, ea0, ec0, sa0, sc0, ea, ec⟩ [X]), res1 rfl rfl, rfl, rfl⟩
    show Ent _ (GtL st { S with closed := true } ⟨k, d, ta, tc, ea0, ec0, sa0, sc0, ea, ec⟩ ++ [X])
    simp only [GtL, GtR]; simp only [List.cons_append, List.nil_append]
    show Ent _ [cb st (.int .i64 S.fold.e :: .int .i64 S.fold.i :: _) _, MpA k S.fold.t, DeP d 16 S.fold.L, _, _, _, _, X]
    exact (by (repeat (first | exact Ent.refl _ | exact Ent.nil | refine Ent.take (by (repeat (first | exact Out.head | apply Out.tail)); (first | done | fail)) ?_ | refine Ent.drop1 ?_)))
  rw [if_neg k3] at h0' ⊢
  by_cases k4 : kind = 4
  · subst k4
    rw [if_pos rfl] at h0' ⊢
    have hX : RightP S.table sn := by
      refine (right_iff _ _).1 ?_
      cases hb : rightX S.table sn with
      | true => rfl
      | false => rw [hb] at h0'; split at h0' <;> simp_all
    have hok : (G15.mk S.table sn [] S.closed).ok := hS.ok.base (.inr hX) (by omega) _
    have hcp := copied_spec (B := B) [X] sn (by omega) (by omega) pa pc sa sc h1 h2
    repeat' (first
      | refine Wc_seq ?_
      | refine thenQ_normal ?_
      | refine Wc_cond_t (h := ?_)
      | refine Wc_cond_f (h := ?_)
      | refine Wc_ret ?_
      | refine thenQ_ret ?_
      | refine Wc_block ?_
      | refine blkQ_normal ?_
      | refine blkQ_ret ?_
      | refine Wc_exit ?_
      | refine thenQ_exit ?_
      | refine blkQ_hit ?_
      | refine blkQ_miss rfl ?_
      | refine Wc_skip ?_
      | refine Wc_label ?_
      | refine loopQ_exit ?_
      | refine loopQ_ret ?_
      | refine loopQ_normal ?_
      | (refine Wc_region (id := 0) ?_; intro K hK; ((refine Wl_boxAgg (k := ?_); intro r3)) <;> (refine Wl_assign (k := ?_); (refine Wl_nil (hK _ _ ?_); clear hK K)))
      | (refine Wc_region (id := 1) ?_; intro K hK; refine Wl_move (k := ?_); refine Wl_loadR (k := ?_); ((refine Wl_call (hs := hck) (k := ?_); rintro v A' ⟨rfl, rfl⟩; simp only [List.cons_append, List.nil_append])) <;> (refine Wl_assign (k := ?_); (refine Wl_nil (hK _ _ ?_); clear hK K)))
      | (refine Wc_region (id := 2) ?_; intro K hK; refine Wl_move (k := ?_); refine Wl_neq (k' := ?_); (refine Wl_nil (hK _ _ ?_); clear hK K))
      | (refine Wc_region (id := 4) ?_; intro K hK; refine Wl_fieldAddr (k := ?_); refine Wl_load (k := ?_); (refine Wl_nil (hK _ _ ?_); clear hK K))
      | (refine Wc_region (id := 5) ?_; intro K hK; refine Wl_eql (k' := ?_); refine Wl_assign (k := ?_); (refine Wl_nil (hK _ _ ?_); clear hK K))
      | (refine Wc_region (id := 6) ?_; intro K hK; refine Wl_eql (k' := ?_); refine Wl_assign (k := ?_); (refine Wl_nil (hK _ _ ?_); clear hK K))
      | (refine Wc_region (id := 7) ?_; intro K hK; refine Wl_eql (k' := ?_); refine Wl_assign (k := ?_); (refine Wl_nil (hK _ _ ?_); clear hK K))
      | (refine Wc_region (id := 8) ?_; intro K hK; refine Wl_eql (k' := ?_); refine Wl_assign (k := ?_); (refine Wl_nil (hK _ _ ?_); clear hK K))
      | (refine Wc_region (id := 9) ?_; intro K hK; refine Wl_eql (k' := ?_); refine Wl_assign (k := ?_); (refine Wl_nil (hK _ _ ?_); clear hK K))
      | (refine Wc_cond (ht := (fun ht => ?_)) (hf := (fun ht => ?_)) <;> (try simp at ht) <;> (try (exfalso; omega))))
    refine Wc_take (y := GtP st S) (k := ?_)
    refine Wc_exN (fun q => ?_)
    obtain ⟨k, d, ta, tc, ea0, ec0, sa0, sc0, ea, ec⟩ := q
    simp only [GtL, GtR, RcG.c]
    simp only [List.cons_append, List.nil_append]
    repeat' (first
      | refine Wc_seq ?_
      | refine thenQ_normal ?_
      | refine Wc_cond_t (h := ?_)
      | refine Wc_cond_f (h := ?_)
      | refine Wc_ret ?_
      | refine thenQ_ret ?_
      | refine Wc_block ?_
      | refine blkQ_normal ?_
      | refine blkQ_ret ?_
      | refine Wc_exit ?_
      | refine thenQ_exit ?_
      | refine blkQ_hit ?_
      | refine blkQ_miss rfl ?_
      | refine Wc_skip ?_
      | refine Wc_label ?_
      | refine loopQ_exit ?_
      | refine loopQ_ret ?_
      | refine loopQ_normal ?_
      | (refine Wc_region (id := 15) ?_; intro K hK; refine Wl_move (k := ?_); refine Wl_move (k := ?_); refine Wl_fieldAddr (k := ?_); refine Wl_loadR (k := ?_); ((refine Wl_call (hs := hcp) (k := ?_); rintro v A' ⟨a1, c1, a2, c2, rfl, rfl⟩; simp only [List.cons_append, List.nil_append])) <;> (refine Wl_nilCheck (k := ?_); refine Wl_fieldAddr (k := ?_); refine Wl_storeR (ho' := rfl) (k := ?_); refine Wl_nilCheck (k := ?_); refine Wl_fieldAddr (k := ?_); refine Wl_store (ho := rfl) (k := ?_); (refine Wl_nil (hK _ _ ?_); clear hK K)))
      | (refine Wc_region (id := 16) ?_; intro K hK; refine Wl_move (k := ?_); ((refine Wl_ent (own_nil 7 35 _) ?_; refine Wl_call (hs := gagain_spec (B := B) st ⟨S.table, sn, [], S.closed⟩ hok S.fold.e S.fold.i (.pointer (some ⟨k, 0, none⟩)) (.pointer (some ⟨d, 0, none⟩)) ⟨k, d, ta, tc, a1, c1, a2, c2, none, 0⟩) (k := ?_); rintro v A' ⟨rfl, rfl⟩; simp only [List.cons_append, List.nil_append])) <;> ((refine Wl_nil (hK _ _ ?_); clear hK K)))
      | (refine Wc_region (id := 17) ?_; intro K hK; refine Wl_assign (k := ?_); (refine Wl_nil (hK _ _ ?_); clear hK K))
      | (refine Wc_cond (ht := (fun ht => ?_)) (hf := (fun ht => ?_)) <;> (try simp at ht) <;> (try (exfalso; omega))))
    exact ⟨Or.inr rfl, _, [GtP st ⟨S.table, sn, [], S.closed⟩, X], (by (repeat (first | exact Ent.refl _ | exact Ent.nil | refine Ent.take (by (repeat (first | exact Out.head | apply Out.tail)); (first | done | fail)) ?_ | refine Ent.drop1 ?_))), res1 rfl rfl, rfl, rfl⟩
  rw [if_neg k4] at h0' ⊢
  have k5 : kind = 5 := Classical.byContradiction fun h => by rw [if_neg h] at h0'; omega
  subst k5
  have hfp := hS.fop
  have hsl := G15.snap_len S
  have hwt := hS.wt
  have hok : (G15.mk S.table S.fold.snap [] S.closed).ok := hS.ok.base hfp (by omega) _
  have hfe := fop_few hfp
  have hfo1 := (G15.fold_ok hS.ok).mono (show 100600 ≤ 900000 by omega)
  repeat' (first
    | refine Wc_seq ?_
    | refine thenQ_normal ?_
    | refine Wc_cond_t (h := ?_)
    | refine Wc_cond_f (h := ?_)
    | refine Wc_ret ?_
    | refine thenQ_ret ?_
    | refine Wc_block ?_
    | refine blkQ_normal ?_
    | refine blkQ_ret ?_
    | refine Wc_exit ?_
    | refine thenQ_exit ?_
    | refine blkQ_hit ?_
    | refine blkQ_miss rfl ?_
    | refine Wc_skip ?_
    | refine Wc_label ?_
    | refine loopQ_exit ?_
    | refine loopQ_ret ?_
    | refine loopQ_normal ?_
    | (refine Wc_region (id := 0) ?_; intro K hK; ((refine Wl_boxAgg (k := ?_); intro r3)) <;> (refine Wl_assign (k := ?_); (refine Wl_nil (hK _ _ ?_); clear hK K)))
    | (refine Wc_region (id := 1) ?_; intro K hK; refine Wl_move (k := ?_); refine Wl_loadR (k := ?_); ((refine Wl_call (hs := hck) (k := ?_); rintro v A' ⟨rfl, rfl⟩; simp only [List.cons_append, List.nil_append])) <;> (refine Wl_assign (k := ?_); (refine Wl_nil (hK _ _ ?_); clear hK K)))
    | (refine Wc_region (id := 2) ?_; intro K hK; refine Wl_move (k := ?_); refine Wl_neq (k' := ?_); (refine Wl_nil (hK _ _ ?_); clear hK K))
    | (refine Wc_region (id := 4) ?_; intro K hK; refine Wl_fieldAddr (k := ?_); refine Wl_load (k := ?_); (refine Wl_nil (hK _ _ ?_); clear hK K))
    | (refine Wc_region (id := 5) ?_; intro K hK; refine Wl_eql (k' := ?_); refine Wl_assign (k := ?_); (refine Wl_nil (hK _ _ ?_); clear hK K))
    | (refine Wc_region (id := 6) ?_; intro K hK; refine Wl_eql (k' := ?_); refine Wl_assign (k := ?_); (refine Wl_nil (hK _ _ ?_); clear hK K))
    | (refine Wc_region (id := 7) ?_; intro K hK; refine Wl_eql (k' := ?_); refine Wl_assign (k := ?_); (refine Wl_nil (hK _ _ ?_); clear hK K))
    | (refine Wc_region (id := 8) ?_; intro K hK; refine Wl_eql (k' := ?_); refine Wl_assign (k := ?_); (refine Wl_nil (hK _ _ ?_); clear hK K))
    | (refine Wc_cond (ht := (fun ht => ?_)) (hf := (fun ht => ?_)) <;> (try simp at ht) <;> (try (exfalso; omega))))
  refine Wc_take (y := GtP st S) (k := ?_)
  refine Wc_exN (fun q => ?_)
  obtain ⟨k, d, ta, tc, ea0, ec0, sa0, sc0, ea, ec⟩ := q
  simp only [GtL, RcG.c]
  simp only [List.cons_append, List.nil_append]
  have htd := told_spec (B := B) st k d S.fold hfo1 (by omega) (GtR S ta tc ea0 ec0 sa0 sc0 ea ec) 83
  repeat' (first
    | refine Wc_seq ?_
    | refine thenQ_normal ?_
    | refine Wc_cond_t (h := ?_)
    | refine Wc_cond_f (h := ?_)
    | refine Wc_ret ?_
    | refine thenQ_ret ?_
    | refine Wc_block ?_
    | refine blkQ_normal ?_
    | refine blkQ_ret ?_
    | refine Wc_exit ?_
    | refine thenQ_exit ?_
    | refine blkQ_hit ?_
    | refine blkQ_miss rfl ?_
    | refine Wc_skip ?_
    | refine Wc_label ?_
    | refine loopQ_exit ?_
    | refine loopQ_ret ?_
    | refine loopQ_normal ?_
    | (refine Wc_region (id := 14) ?_; intro K hK; refine Wl_move (k := ?_); refine Wl_nilCheck (k := ?_); refine Wl_fieldAddr (k := ?_); ((refine Wl_call (hs := htd) (k := ?_); rintro v A' ⟨pa', pc', sa', sc', rfl, rfl⟩; simp only [List.cons_append, List.nil_append])) <;> (refine Wl_fieldAddr (k := ?_); refine Wl_storeR (ho' := rfl) (k := ?_); (refine Wl_nil (hK _ _ ?_); clear hK K)))
    | (refine Wc_cond (ht := (fun ht => ?_)) (hf := (fun ht => ?_)) <;> (try simp at ht) <;> (try (exfalso; omega))))
  refine Wc_ownF (a := pa') (sz := 5) (ho := (by (repeat (first | exact Out.head | apply Out.tail)); (first | done | fail))) (h0 := by omega) (h := fun hpf => ?_)
  refine Wc_ownF (a := sa') (sz := 4) (ho := (by (repeat (first | exact Out.head | apply Out.tail)); (first | done | fail))) (h0 := by omega) (h := fun hsf => ?_)
  have hcp := copied_spec (B := B) [own pa' S.fold.snap.ps.length pc' 5 (prC S.fold.snap.ps) 67, own sa' S.fold.snap.ss.length sc' 4 (ssC S.fold.snap.ss) 69] S.fold.snap (by omega) (by show S.fold.L.length ≤ 900000; omega) pa' pc' sa' sc' (hpf.rd .head) (hsf.rd (.tail .head))
  simp only [GtR]
  repeat' (first
    | refine Wc_seq ?_
    | refine thenQ_normal ?_
    | refine Wc_cond_t (h := ?_)
    | refine Wc_cond_f (h := ?_)
    | refine Wc_ret ?_
    | refine thenQ_ret ?_
    | refine Wc_block ?_
    | refine blkQ_normal ?_
    | refine blkQ_ret ?_
    | refine Wc_exit ?_
    | refine thenQ_exit ?_
    | refine blkQ_hit ?_
    | refine blkQ_miss rfl ?_
    | refine Wc_skip ?_
    | refine Wc_label ?_
    | refine loopQ_exit ?_
    | refine loopQ_ret ?_
    | refine loopQ_normal ?_
    | (refine Wc_region (id := 15) ?_; intro K hK; refine Wl_move (k := ?_); refine Wl_move (k := ?_); refine Wl_fieldAddr (k := ?_); refine Wl_loadR (k := ?_); ((refine Wl_call (hs := hcp) (k := ?_); rintro v A' ⟨a1, c1, a2, c2, rfl, rfl⟩; simp only [List.cons_append, List.nil_append])) <;> (refine Wl_nilCheck (k := ?_); refine Wl_fieldAddr (k := ?_); refine Wl_storeR (ho' := rfl) (k := ?_); refine Wl_nilCheck (k := ?_); refine Wl_fieldAddr (k := ?_); refine Wl_store (ho := rfl) (k := ?_); (refine Wl_nil (hK _ _ ?_); clear hK K)))
    | (refine Wc_region (id := 16) ?_; intro K hK; refine Wl_move (k := ?_); ((refine Wl_ent (own_nil 7 35 _) ?_; refine Wl_call (hs := gagain_spec (B := B) st ⟨S.table, S.fold.snap, [], S.closed⟩ hok S.fold.e S.fold.i (.pointer (some ⟨k, 0, none⟩)) (.pointer (some ⟨d, 0, none⟩)) ⟨k, d, ta, tc, a1, c1, a2, c2, none, 0⟩) (k := ?_); rintro v A' ⟨rfl, rfl⟩; simp only [List.cons_append, List.nil_append])) <;> ((refine Wl_nil (hK _ _ ?_); clear hK K)))
    | (refine Wc_region (id := 17) ?_; intro K hK; refine Wl_assign (k := ?_); (refine Wl_nil (hK _ _ ?_); clear hK K))
    | (refine Wc_cond (ht := (fun ht => ?_)) (hf := (fun ht => ?_)) <;> (try simp at ht) <;> (try (exfalso; omega))))
  exact ⟨Or.inr rfl, _, [GtP st ⟨S.table, S.fold.snap, [], S.closed⟩, X], (by (repeat (first | exact Ent.refl _ | exact Ent.nil | refine Ent.take (by (repeat (first | exact Out.head | apply Out.tail)); (first | done | fail)) ?_ | refine Ent.drop1 ?_))), res1 rfl rfl, rfl, rfl⟩
end specs
end Go.Proofs.Ytnoggejkkjngjaa
/- Package state: what a state tells. Conditions: none but the kinds' bounds, and not too many rows. -/
set_option maxHeartbeats 8000000
set_option linter.unusedVariables false
set_option linter.unusedSimpArgs false
set_option maxRecDepth 100000
namespace Go.Proofs.Ytnoggejkkjngjaa
open Go Go.Sl
attribute [local irreducible] Go.Sl.Wl Go.Sl.Wc Go.Sl.thenQ Go.Sl.blkQ Go.Sl.loopQ Go.Sl.Fspec

theorem Pick_all : ∀ A : List Asn, Pick A A []
  | [] => .nil
  | a :: A => .cons .head (Pick_all A)
/-- The entries that are told. -/
def G15.some (S : G15) (fr most : Int) : List EnX := if fr ≤ S.base.i ∨ S.fold.i < fr ∨ most < 1 then [] else (S.es.drop (fr - S.base.i - 1).toNat).take most.toNat
def newG (t : List Ep) : G15 := ⟨t, SnX.zero, [], false⟩
theorem new_inv {t : List Ep} (hT : rightT t = true) {n : Nat} : (newG t).inv n := ⟨wiped_ok hT, by simp [newG, SnX.zero], by simp [newG, SnX.zero], .inl rfl, by simp [newG]⟩
section specs
variable {B : Base}
theorem gapply_spec (A0 : List Asn) (st n : Nat) (S : G15) (hS : S.inv n) (hn : n ≤ 90000) (r : RcG) (hr : r.ok) (pa : Option Addr) (pc : Nat) (sa : Option Addr) (sc : Nat)
    (h1 : RdS Try.prog B A0 5 pa r.sn.ps.length pc (prC r.sn.ps)) (h2 : RdS Try.prog B A0 4 sa r.sn.ss.length sc (ssC r.sn.ss)) :
    Fspec Try.prog B 11 #[.pointer (some ⟨st, 0, none⟩), .agg (r.c pa pc sa sc).toArray] (GtP st S :: A0) (fun v A' => v = .int .i64 (gchkV S r) ∧ A' = GtP st (gapplyV S r) :: A0) := by
  have he : Ent [lst A0] A0 := by simpa using Ent.lst_open A0 []
  have hs : Ent A0 [lst A0] := by simpa using Ent.lst_shut A0 []
  refine ((gapply1_spec (lst A0) st n S hS hn r hr pa pc sa sc (RdS.ofEnt h1 he) (RdS.ofEnt h2 he)).ent (Ent.cons _ hs)).conv ?_
  rintro v A' ⟨rfl, rfl⟩
  exact ⟨_, Ent.cons _ he, rfl, rfl⟩
theorem rds_cb {A : List Asn} {b m sz : Nat} {l : List Value} {E : TypeId} (h : Rd B b l E (0, 0) A) (hl : l.length = m * sz) : RdS Try.prog B A sz (some ⟨b, 0, none⟩) m m l :=
  ⟨hl, by simp, Nat.le_refl _, src_sl h (by omega) (by rw [List.drop_zero]; exact List.take_of_length_le (by omega))⟩
theorem gnew_spec (A0 : List Asn) (t : List Ep) (a : Option Addr) (c : Nat) (h : RdS Try.prog B A0 3 a t.length c (epsC t)) (hT : rightT t = true) :
    Fspec Try.prog B 10 #[.slice a t.length c] A0 (fun v A' => ∃ st, v = .tuple #[.pointer (some ⟨st, 0, none⟩), .int .i64 0] ∧ A' = GtP st (newG t) :: A0) := by
  have h64 := (rightT_out hT).2.1
  have hr := right_spec (B := B) A0 t a c h (by omega)
  rw [hT] at hr
  refine spec_of (args := [_]) Try.func10 rfl rfl rfl ?_
  repeat' (first
    | refine Wc_seq ?_
    | refine thenQ_normal ?_
    | refine Wc_cond_t (h := ?_)
    | refine Wc_cond_f (h := ?_)
    | refine Wc_ret ?_
    | refine thenQ_ret ?_
    | refine Wc_block ?_
    | refine blkQ_normal ?_
    | refine blkQ_ret ?_
    | refine Wc_exit ?_
    | refine thenQ_exit ?_
    | refine blkQ_hit ?_
    | refine blkQ_miss rfl ?_
    | refine Wc_skip ?_
    | refine Wc_label ?_
    | refine loopQ_exit ?_
    | refine loopQ_ret ?_
    | refine loopQ_normal ?_
    | (refine Wc_region (id := 0) ?_; intro K hK; refine Wl_assign (k := ?_); refine Wl_assign (k := ?_); (refine Wl_nil (hK _ _ ?_); clear hK K))
    | (refine Wc_region (id := 1) ?_; intro K hK; refine Wl_move (k := ?_); ((refine Wl_call (hs := hr) (hp := Pick_all _) (k := ?_); rintro v A' ⟨rfl, hA⟩; subst A'; simp only [List.append_nil])) <;> (refine Wl_not (k' := ?_); (refine Wl_nil (hK _ _ ?_); clear hK K)))
    | (refine Wc_region (id := 2) ?_; intro K hK; refine Wl_assign (k := ?_); refine Wl_assign (k := ?_); (refine Wl_nil (hK _ _ ?_); clear hK K))
    | (refine Wc_region (id := 3) ?_; intro K hK; ((refine Wl_call (hs := blank_spec) (hp := .nil) (k := ?_); rintro v A' ⟨k, d, rfl, rfl⟩; simp only [List.cons_append, List.nil_append])) <;> (((refine Wl_lit0o (k := ?_); intro r8)) <;> (refine Wl_move (k := ?_); ((refine Wl_appendR (hsrc := RdS.under (RdS.under (RdS.under h))) (hvc := epsC_all _) (hbd := by omega) (k := ?_); intro nb nc)) <;> (refine Wl_build (k := ?_); ((refine Wl_boxAgg (k := ?_); intro rs)) <;> (refine Wl_assign (k := ?_); refine Wl_assign (k := ?_); (refine Wl_nil (hK _ _ ?_); clear hK K))))))
    | (refine Wc_cond (ht := (fun ht => ?_)) (hf := (fun ht => ?_)) <;> (try simp at ht) <;> (try (exfalso; omega))))
  refine ⟨Or.inr rfl, _, GtP rs (newG t) :: A0, ((own_nil 7 35 _).trans ((own_nil 4 69 _).trans (own_nil 5 67 _))).trans (gt_fold (A0 := A0) ⟨k, d, nb, nc, none, 0, none, 0, none, 0⟩ ?_), res2 rfl rfl rfl, rs, rfl, rfl⟩
  simp only [GtL, GtR, newG, G15.fold, List.foldl_nil, esC, prC, ssC, List.flatMap_nil, List.length_nil, Nat.zero_add, List.nil_append]
  simp only [List.cons_append, List.nil_append]
  show Ent _ (cb rs [.int .i64 0, .int .i64 0, .pointer (some ⟨k, 0, none⟩), .pointer (some ⟨d, 0, none⟩), .slice nb t.length nc, .int .i64 0, .int .i64 0, .slice none 0 0, .slice none 0 0, .slice none 0 0, .bool false] 83 :: MpA k .nil :: DeP d 16 [] :: own nb t.length nc 3 (epsC t) 29 :: own none 0 0 5 [] 67 :: own none 0 0 4 [] 69 :: own none 0 0 7 [] 35 :: A0)
  (repeat (first | exact Ent.refl _ | exact Ent.nil | refine Ent.take (by (repeat (first | exact Out.head | apply Out.tail)); (first | done | fail)) ?_ | refine Ent.drop1 ?_))
theorem glast_spec (st : Nat) (S : G15) : Fspec Try.prog B 13 #[.pointer (some ⟨st, 0, none⟩)] [GtP st S] (fun v A' => v = .agg #[.int .i64 S.fold.e, .int .i64 S.fold.i] ∧ A' = [GtP st S]) := by
  refine spec_of (args := [_]) Try.func13 rfl rfl rfl ?_
  refine Wc_exN (fun q => ?_)
  obtain ⟨k, d, ta, tc, pa0, pc0, sa0, sc0, ea, ec⟩ := q
  have hfo : ∀ A0 : List Asn, Ent (GtL st S ⟨k, d, ta, tc, pa0, pc0, sa0, sc0, ea, ec⟩ ++ A0) (GtP st S :: A0) := fun A0 => gt_fold (A0 := A0) ⟨k, d, ta, tc, pa0, pc0, sa0, sc0, ea, ec⟩ (Ent.refl _)
  simp only [GtL, GtR] at hfo ⊢
  simp only [List.cons_append, List.nil_append] at hfo ⊢
  repeat' (first
    | refine Wc_seq ?_
    | refine thenQ_normal ?_
    | refine Wc_cond_t (h := ?_)
    | refine Wc_cond_f (h := ?_)
    | refine Wc_ret ?_
    | refine thenQ_ret ?_
    | refine Wc_block ?_
    | refine blkQ_normal ?_
    | refine blkQ_ret ?_
    | refine Wc_exit ?_
    | refine thenQ_exit ?_
    | refine blkQ_hit ?_
    | refine blkQ_miss rfl ?_
    | refine Wc_skip ?_
    | refine Wc_label ?_
    | refine loopQ_exit ?_
    | refine loopQ_ret ?_
    | refine loopQ_normal ?_
    | (refine Wc_region (id := 0) ?_; intro K hK; ((refine Wl_alloc (k := ?_); intro r2)) <;> ((refine Wl_nil (hK _ _ ?_); clear hK K)))
    | (refine Wc_region (id := 1) ?_; intro K hK; refine Wl_move (k := ?_); refine Wl_ptr_eq_nil (k' := ?_); (refine Wl_nil (hK _ _ ?_); clear hK K))
    | (refine Wc_region (id := 2) ?_; intro K hK; refine Wl_build (k := ?_); refine Wl_storeR (ho' := rfl) (k := ?_); (refine Wl_nil (hK _ _ ?_); clear hK K))
    | (refine Wc_region (id := 3) ?_; intro K hK; refine Wl_move (k := ?_); refine Wl_nilCheck (k := ?_); refine Wl_fieldAddr (k := ?_); refine Wl_fieldAddr (k := ?_); refine Wl_loadR (k := ?_); refine Wl_storeR (ho' := rfl) (k := ?_); (refine Wl_nil (hK _ _ ?_); clear hK K))
    | (refine Wc_cond (ht := (fun ht => ?_)) (hf := (fun ht => ?_)) <;> (try simp at ht) <;> (try (exfalso; omega))))
  exact ⟨Or.inr rfl, _, [GtP st S], Ent.trans (by (repeat (first | exact Ent.refl _ | exact Ent.nil | refine Ent.take (by (repeat (first | exact Out.head | apply Out.tail)); (first | done | fail)) ?_ | refine Ent.drop1 ?_)); (first | done | fail)) (hfo []), resG rfl (by (repeat (first | exact ResL.nil | apply ResL.tmp (by (repeat (first | exact Ev.here | exact Ev.const | exact Ev.arg rfl | apply Ev.there rfl | exact Ev.none rfl | exact Ev.func | exact Ev.var)); (first | done | fail)) | apply ResL.agg (by (repeat (first | exact Ev.here | exact Ev.const | exact Ev.arg rfl | apply Ev.there rfl | exact Ev.none rfl | exact Ev.func | exact Ev.var)); (first | done | fail)) (by (repeat (first | exact Rd.head | exact Rd.base (by assumption) | apply Rd.tail)); (first | done | fail)) (by (repeat (first | exact TakeR.nil | apply TakeR.take | apply TakeR.skip)); (first | done | fail)) | apply ResL.cell (by (repeat (first | exact Ev.here | exact Ev.const | exact Ev.arg rfl | apply Ev.there rfl | exact Ev.none rfl | exact Ev.func | exact Ev.var)); (first | done | fail)) (by (repeat (first | exact Rd.head | exact Rd.base (by assumption) | apply Rd.tail)); (first | done | fail)) rfl)); (first | done | fail)) rfl, rfl, rfl⟩
theorem gconfig_spec (st : Nat) (S : G15) : Fspec Try.prog B 15 #[.pointer (some ⟨st, 0, none⟩)] [GtP st S] (fun v A' => v = .int .i64 S.table.length ∧ A' = [GtP st S]) := by
  refine spec_of (args := [_]) Try.func15 rfl rfl rfl ?_
  refine Wc_exN (fun q => ?_)
  obtain ⟨k, d, ta, tc, pa0, pc0, sa0, sc0, ea, ec⟩ := q
  have hfo : ∀ A0 : List Asn, Ent (GtL st S ⟨k, d, ta, tc, pa0, pc0, sa0, sc0, ea, ec⟩ ++ A0) (GtP st S :: A0) := fun A0 => gt_fold (A0 := A0) ⟨k, d, ta, tc, pa0, pc0, sa0, sc0, ea, ec⟩ (Ent.refl _)
  simp only [GtL, GtR] at hfo ⊢
  simp only [List.cons_append, List.nil_append] at hfo ⊢
  repeat' (first
    | refine Wc_seq ?_
    | refine thenQ_normal ?_
    | refine Wc_cond_t (h := ?_)
    | refine Wc_cond_f (h := ?_)
    | refine Wc_ret ?_
    | refine thenQ_ret ?_
    | refine Wc_block ?_
    | refine blkQ_normal ?_
    | refine blkQ_ret ?_
    | refine Wc_exit ?_
    | refine thenQ_exit ?_
    | refine blkQ_hit ?_
    | refine blkQ_miss rfl ?_
    | refine Wc_skip ?_
    | refine Wc_label ?_
    | refine loopQ_exit ?_
    | refine loopQ_ret ?_
    | refine loopQ_normal ?_
    | (refine Wc_region (id := 0) ?_; intro K hK; refine Wl_assign (k := ?_); (refine Wl_nil (hK _ _ ?_); clear hK K))
    | (refine Wc_region (id := 1) ?_; intro K hK; refine Wl_move (k := ?_); refine Wl_ptr_eq_nil (k' := ?_); (refine Wl_nil (hK _ _ ?_); clear hK K))
    | (refine Wc_region (id := 2) ?_; intro K hK; refine Wl_assign (k := ?_); (refine Wl_nil (hK _ _ ?_); clear hK K))
    | (refine Wc_region (id := 3) ?_; intro K hK; refine Wl_move (k := ?_); refine Wl_nilCheck (k := ?_); refine Wl_fieldAddr (k := ?_); refine Wl_load (k := ?_); refine Wl_len_sl (k' := ?_); refine Wl_assign (k := ?_); (refine Wl_nil (hK _ _ ?_); clear hK K))
    | (refine Wc_cond (ht := (fun ht => ?_)) (hf := (fun ht => ?_)) <;> (try simp at ht) <;> (try (exfalso; omega))))
  exact ⟨Or.inr rfl, _, [GtP st S], Ent.trans (by (repeat (first | exact Ent.refl _ | exact Ent.nil | refine Ent.take (by (repeat (first | exact Out.head | apply Out.tail)); (first | done | fail)) ?_ | refine Ent.drop1 ?_)); (first | done | fail)) (hfo []), res1 rfl rfl, rfl, rfl⟩
theorem gmaster_spec (st : Nat) (S : G15) (h64 : S.table.length ≤ 64) (e : Ep) (he : S.table[S.table.length - 1]? = some e) : Fspec Try.prog B 14 #[.pointer (some ⟨st, 0, none⟩)] [GtP st S] (fun v A' => v = .int .i64 e.master ∧ A' = [GtP st S]) := by
  have hpos : 0 < S.table.length := by
    rcases Nat.eq_zero_or_pos S.table.length with h | h
    · rw [List.getElem?_eq_none (by omega)] at he; cases he
    · exact h
  have hn : ((S.table.length : Nat) : Int) - 1 = ((S.table.length - 1 : Nat) : Int) := by omega
  refine spec_of (args := [_]) Try.func14 rfl rfl rfl ?_
  refine Wc_exN (fun q => ?_)
  obtain ⟨k, d, ta, tc, pa0, pc0, sa0, sc0, ea, ec⟩ := q
  have hfo : ∀ A0 : List Asn, Ent (GtL st S ⟨k, d, ta, tc, pa0, pc0, sa0, sc0, ea, ec⟩ ++ A0) (GtP st S :: A0) := fun A0 => gt_fold (A0 := A0) ⟨k, d, ta, tc, pa0, pc0, sa0, sc0, ea, ec⟩ (Ent.refl _)
  simp only [GtL, GtR] at hfo ⊢
  simp only [List.cons_append, List.nil_append] at hfo ⊢
  refine Wc_ownF (a := ta) (sz := 3) (ho := (by (repeat (first | exact Out.head | apply Out.tail)); (first | done | fail))) (h0 := by omega) (h := fun hft => ?_)
  obtain ⟨p, rfl⟩ := hft.some hpos
  repeat' (first
    | refine Wc_seq ?_
    | refine thenQ_normal ?_
    | refine Wc_cond_t (h := ?_)
    | refine Wc_cond_f (h := ?_)
    | refine Wc_ret ?_
    | refine thenQ_ret ?_
    | refine Wc_block ?_
    | refine blkQ_normal ?_
    | refine blkQ_ret ?_
    | refine Wc_exit ?_
    | refine thenQ_exit ?_
    | refine blkQ_hit ?_
    | refine blkQ_miss rfl ?_
    | refine Wc_skip ?_
    | refine Wc_label ?_
    | refine loopQ_exit ?_
    | refine loopQ_ret ?_
    | refine loopQ_normal ?_
    | (refine Wc_region (id := 0) ?_; intro K hK; refine Wl_assign (k := ?_); (refine Wl_nil (hK _ _ ?_); clear hK K))
    | (refine Wc_region (id := 1) ?_; intro K hK; refine Wl_move (k := ?_); refine Wl_ptr_eq_nil (k' := ?_); (refine Wl_nil (hK _ _ ?_); clear hK K))
    | (refine Wc_region (id := 2) ?_; intro K hK; refine Wl_assign (k := ?_); (refine Wl_nil (hK _ _ ?_); clear hK K))
    | (refine Wc_draw (id := 3) (h := ?_); intro K hK; refine Wl_move (k := ?_); refine Wl_nilCheck (k := ?_); refine Wl_fieldAddr (k := ?_); refine Wl_load (k := ?_); refine Wl_move (k := ?_); refine Wl_nilCheck (k := ?_); refine Wl_fieldAddr (k := ?_); refine Wl_load (k := ?_); refine Wl_len_sl (k' := ?_); ((refine Wl_sub (k' := ?_); rw [hn])) <;> (((refine Wl_index_any (k' := ?_))) <;> (((refine Wl_fieldAddrG (k := ?_))) <;> (((refine Wl_loadG (v := .int .i64 e.master) (j := (S.table.length - 1) * 3) (hq := by simp [Addr.add]) (hr := hft.rd (by (repeat (first | exact Out.head | apply Out.tail)); (first | done | fail))) (hv := by simpa using epsC_cell (r := 0) he (by omega) rfl) (k := ?_))) <;> (refine Wl_assign (k := ?_); (refine Wl_nil (hK _ _ ?_); clear hK K))))))
    | (refine Wc_cond (ht := (fun ht => ?_)) (hf := (fun ht => ?_)) <;> (try simp at ht) <;> (try (exfalso; omega))))
  exact ⟨Or.inr rfl, _, [GtP st S], Ent.trans (by (repeat (first | exact Ent.refl _ | exact Ent.nil | refine Ent.take (by (repeat (first | exact Out.head | apply Out.tail)); (first | done | fail)) ?_ | refine Ent.drop1 ?_)); (first | done | fail)) (hfo []), res1 rfl rfl, rfl, rfl⟩
theorem gget_spec (st : Nat) (S : G15) (key : ByteArray) : Fspec Try.prog B 16 #[.pointer (some ⟨st, 0, none⟩), .string key] [GtP st S] (fun v A' => v = .agg (kX S.fold.t.inorder key).C.toArray ∧ A' = [GtP st S]) := by
  obtain ⟨b, hb⟩ := getV_kX (G15.fold_rk S) key
  refine spec_of (args := [_, _]) Try.func16 rfl rfl rfl ?_
  refine Wc_exN (fun q => ?_)
  obtain ⟨k, d, ta, tc, pa0, pc0, sa0, sc0, ea, ec⟩ := q
  have hfo : ∀ A0 : List Asn, Ent (GtL st S ⟨k, d, ta, tc, pa0, pc0, sa0, sc0, ea, ec⟩ ++ A0) (GtP st S :: A0) := fun A0 => gt_fold (A0 := A0) ⟨k, d, ta, tc, pa0, pc0, sa0, sc0, ea, ec⟩ (Ent.refl _)
  simp only [GtL, GtR] at hfo ⊢
  simp only [List.cons_append, List.nil_append] at hfo ⊢
  have hg := get_spec B k S.fold.t key
  rw [hb] at hg
  repeat' (first
    | refine Wc_seq ?_
    | refine thenQ_normal ?_
    | refine Wc_cond_t (h := ?_)
    | refine Wc_cond_f (h := ?_)
    | refine Wc_ret ?_
    | refine thenQ_ret ?_
    | refine Wc_block ?_
    | refine blkQ_normal ?_
    | refine blkQ_ret ?_
    | refine Wc_exit ?_
    | refine thenQ_exit ?_
    | refine blkQ_hit ?_
    | refine blkQ_miss rfl ?_
    | refine Wc_skip ?_
    | refine Wc_label ?_
    | refine loopQ_exit ?_
    | refine loopQ_ret ?_
    | refine loopQ_normal ?_
    | (refine Wc_region (id := 0) ?_; intro K hK; ((refine Wl_alloc (k := ?_); intro r4)) <;> ((refine Wl_nil (hK _ _ ?_); clear hK K)))
    | (refine Wc_region (id := 1) ?_; intro K hK; refine Wl_move (k := ?_); refine Wl_ptr_eq_nil (k' := ?_); (refine Wl_nil (hK _ _ ?_); clear hK K))
    | (refine Wc_region (id := 2) ?_; intro K hK; refine Wl_build (k := ?_); refine Wl_storeR (ho' := rfl) (k := ?_); (refine Wl_nil (hK _ _ ?_); clear hK K))
    | (refine Wc_region (id := 3) ?_; intro K hK; refine Wl_move (k := ?_); refine Wl_nilCheck (k := ?_); refine Wl_fieldAddr (k := ?_); refine Wl_fieldAddr (k := ?_); refine Wl_load (k := ?_); refine Wl_move (k := ?_); ((refine Wl_call (hs := hg) (k := ?_); rintro v A' ⟨rfl, rfl⟩; simp only [List.cons_append, List.nil_append]; simp only [VX.C])) <;> (refine Wl_move (k := ?_); refine Wl_extract (k' := ?_); refine Wl_extract (k' := ?_); ((refine Wl_alloc (k := ?_); intro r5)) <;> (refine Wl_storeR (ho' := rfl) (k := ?_); refine Wl_assign (k := ?_); (refine Wl_nil (hK _ _ ?_); clear hK K))))
    | (refine Wc_region (id := 4) ?_; intro K hK; refine Wl_loadR (k := ?_); refine Wl_storeR (ho' := rfl) (k := ?_); (refine Wl_nil (hK _ _ ?_); clear hK K))
    | (refine Wc_cond (ht := (fun ht => ?_)) (hf := (fun ht => ?_)) <;> (try simp at ht) <;> (try (exfalso; omega))))
  exact ⟨Or.inr rfl, _, [GtP st S], Ent.trans (by (repeat (first | exact Ent.refl _ | exact Ent.nil | refine Ent.take (by (repeat (first | exact Out.head | apply Out.tail)); (first | done | fail)) ?_ | refine Ent.drop1 ?_)); (first | done | fail)) (hfo []), resG rfl (by (repeat (first | exact ResL.nil | apply ResL.tmp (by (repeat (first | exact Ev.here | exact Ev.const | exact Ev.arg rfl | apply Ev.there rfl | exact Ev.none rfl | exact Ev.func | exact Ev.var)); (first | done | fail)) | apply ResL.agg (by (repeat (first | exact Ev.here | exact Ev.const | exact Ev.arg rfl | apply Ev.there rfl | exact Ev.none rfl | exact Ev.func | exact Ev.var)); (first | done | fail)) (by (repeat (first | exact Rd.head | exact Rd.base (by assumption) | apply Rd.tail)); (first | done | fail)) (by (repeat (first | exact TakeR.nil | apply TakeR.take | apply TakeR.skip)); (first | done | fail)) | apply ResL.cell (by (repeat (first | exact Ev.here | exact Ev.const | exact Ev.arg rfl | apply Ev.there rfl | exact Ev.none rfl | exact Ev.func | exact Ev.var)); (first | done | fail)) (by (repeat (first | exact Rd.head | exact Rd.base (by assumption) | apply Rd.tail)); (first | done | fail)) rfl)); (first | done | fail)) rfl, rfl, rfl⟩
theorem gsnapshot_spec (st : Nat) (S : G15) (n : Nat) (hS : S.inv n) : Fspec Try.prog B 20 #[.pointer (some ⟨st, 0, none⟩)] [GtP st S] (fun v A' => ∃ pa pc sa sc, v = .agg #[.int .i64 S.fold.e, .int .i64 S.fold.i, .slice pa S.fold.snap.ps.length pc, .slice sa S.fold.snap.ss.length sc] ∧ A' = [own pa S.fold.snap.ps.length pc 5 (prC S.fold.snap.ps) 67, own sa S.fold.snap.ss.length sc 4 (ssC S.fold.snap.ss) 69, GtP st S]) := by
  have hfl := (G15.fold_ok hS.ok).mono (show 100600 ≤ 900000 by omega)
  have hfe := fop_few hS.fop
  refine spec_of (args := [_]) Try.func20 rfl rfl rfl ?_
  refine Wc_exN (fun q => ?_)
  obtain ⟨k, d, ta, tc, pa0, pc0, sa0, sc0, ea, ec⟩ := q
  have hfo : ∀ A0 : List Asn, Ent (GtL st S ⟨k, d, ta, tc, pa0, pc0, sa0, sc0, ea, ec⟩ ++ A0) (GtP st S :: A0) := fun A0 => gt_fold (A0 := A0) ⟨k, d, ta, tc, pa0, pc0, sa0, sc0, ea, ec⟩ (Ent.refl _)
  simp only [GtL, GtR] at hfo ⊢
  simp only [List.cons_append, List.nil_append] at hfo ⊢
  repeat' (first
    | refine Wc_seq ?_
    | refine thenQ_normal ?_
    | refine Wc_cond_t (h := ?_)
    | refine Wc_cond_f (h := ?_)
    | refine Wc_ret ?_
    | refine thenQ_ret ?_
    | refine Wc_block ?_
    | refine blkQ_normal ?_
    | refine blkQ_ret ?_
    | refine Wc_exit ?_
    | refine thenQ_exit ?_
    | refine blkQ_hit ?_
    | refine blkQ_miss rfl ?_
    | refine Wc_skip ?_
    | refine Wc_label ?_
    | refine loopQ_exit ?_
    | refine loopQ_ret ?_
    | refine loopQ_normal ?_
    | (refine Wc_region (id := 0) ?_; intro K hK; ((refine Wl_alloc (k := ?_); intro r2)) <;> ((refine Wl_nil (hK _ _ ?_); clear hK K)))
    | (refine Wc_region (id := 1) ?_; intro K hK; refine Wl_move (k := ?_); refine Wl_ptr_eq_nil (k' := ?_); (refine Wl_nil (hK _ _ ?_); clear hK K))
    | (refine Wc_region (id := 2) ?_; intro K hK; refine Wl_build (k := ?_); refine Wl_storeR (ho' := rfl) (k := ?_); (refine Wl_nil (hK _ _ ?_); clear hK K))
    | (refine Wc_region (id := 3) ?_; intro K hK; refine Wl_move (k := ?_); refine Wl_nilCheck (k := ?_); refine Wl_fieldAddr (k := ?_); ((refine Wl_call (hs := told_spec (B := B) st k d S.fold hfl (by omega) _ _) (k := ?_); rintro v A' ⟨pa, pc, sa, sc, rfl, rfl⟩; simp only [List.cons_append, List.nil_append])) <;> (refine Wl_storeR (ho' := rfl) (k := ?_); (refine Wl_nil (hK _ _ ?_); clear hK K)))
    | (refine Wc_cond (ht := (fun ht => ?_)) (hf := (fun ht => ?_)) <;> (try simp at ht) <;> (try (exfalso; omega))))
  refine ⟨Or.inr rfl, _, [own pa S.fold.snap.ps.length pc 5 (prC S.fold.snap.ps) 67, own sa S.fold.snap.ss.length sc 4 (ssC S.fold.snap.ss) 69, GtP st S], ?_, resG rfl (by (repeat (first | exact ResL.nil | apply ResL.tmp (by (repeat (first | exact Ev.here | exact Ev.const | exact Ev.arg rfl | apply Ev.there rfl | exact Ev.none rfl | exact Ev.func | exact Ev.var)); (first | done | fail)) | apply ResL.agg (by (repeat (first | exact Ev.here | exact Ev.const | exact Ev.arg rfl | apply Ev.there rfl | exact Ev.none rfl | exact Ev.func | exact Ev.var)); (first | done | fail)) (by (repeat (first | exact Rd.head | exact Rd.base (by assumption) | apply Rd.tail)); (first | done | fail)) (by (repeat (first | exact TakeR.nil | apply TakeR.take | apply TakeR.skip)); (first | done | fail)) | apply ResL.cell (by (repeat (first | exact Ev.here | exact Ev.const | exact Ev.arg rfl | apply Ev.there rfl | exact Ev.none rfl | exact Ev.func | exact Ev.var)); (first | done | fail)) (by (repeat (first | exact Rd.head | exact Rd.base (by assumption) | apply Rd.tail)); (first | done | fail)) rfl)); (first | done | fail)) rfl, pa, pc, sa, sc, rfl, rfl⟩
  refine Ent.trans ?_ ((hfo [own pa S.fold.snap.ps.length pc 5 (prC S.fold.snap.ps) 67, own sa S.fold.snap.ss.length sc 4 (ssC S.fold.snap.ss) 69]).trans (Ent.perm (List.perm_append_comm (l₁ := [_]))))
  (repeat (first | exact Ent.refl _ | exact Ent.nil | refine Ent.take (by (repeat (first | exact Out.head | apply Out.tail)); (first | done | fail)) ?_ | refine Ent.drop1 ?_))
end specs
end Go.Proofs.Ytnoggejkkjngjaa
/- Layer 15: the law's own functions on records and snapshots. Conditions: none but the kinds' bounds. -/
set_option maxHeartbeats 8000000
set_option linter.unusedVariables false
set_option linter.unusedSimpArgs false
set_option maxRecDepth 100000
namespace Go.Proofs.Ytnoggejkkjngjaa
open Go Go.Sl
attribute [local irreducible] Go.Sl.Wl Go.Sl.Wc Go.Sl.thenQ Go.Sl.blkQ Go.Sl.loopQ Go.Sl.Fspec

/-- What of a record is looked at. -/
def litN (r : RcG) (j : Nat) : Nat := min r.x.key.size 100000 + min r.x.tx.size 100000 + ((r.sn.ps.take j).map fun x => min x.k.size 100000 + min x.v.d.size 100000).sum
def lightV (r : RcG) : Bool := !(decide (1000 < r.sn.ps.length) || decide (1000 < r.sn.ss.length)) && decide (litN r r.sn.ps.length ≤ 100000)
theorem litN_succ {r : RcG} {j : Nat} {x : PrX} (h : r.sn.ps[j]? = some x) : litN r (j + 1) = litN r j + min x.k.size 100000 + min x.v.d.size 100000 := by
  obtain ⟨hj, rfl⟩ := List.getElem?_eq_some_iff.1 h
  unfold litN
  rw [List.take_succ_eq_append_getElem hj, List.map_append, List.sum_append]
  simp; omega
theorem litN_le (r : RcG) : ∀ j, litN r j ≤ 200000 * (j + 1)
  | 0 => by simp [litN]; omega
  | j + 1 => by
    have h := litN_le r j
    cases hx : r.sn.ps[j]? with
    | some x => rw [litN_succ hx]; omega
    | none =>
      have : litN r (j + 1) = litN r j := by
        have hl := List.getElem?_eq_none_iff.1 hx
        unfold litN; rw [List.take_of_length_le (i := j + 1) (by omega), List.take_of_length_le (i := j) hl]
      rw [this]; omega
theorem light_out {r : RcG} (h : lightV r = true) : r.sn.ps.length ≤ 1000 ∧ r.sn.ss.length ≤ 1000 ∧ litN r r.sn.ps.length ≤ 100000 := by
  unfold lightV at h
  simp only [Bool.and_eq_true, Bool.not_eq_true', Bool.or_eq_false_iff, decide_eq_false_iff_not, decide_eq_true_eq] at h
  omega
section specs
variable {B : Base}
theorem light_spec (r : RcG) (hps : r.sn.ps.length ≤ 9223372036854775807) (hss : r.sn.ss.length ≤ 9223372036854775807) (pa : Option Addr) (pc : Nat) (sa : Option Addr) (sc : Nat) (h1 : RdS Try.prog B [] 5 pa r.sn.ps.length pc (prC r.sn.ps)) :
    Fspec Try.prog B 18 #[.agg (r.c pa pc sa sc).toArray] [] (fun v A' => v = .bool (lightV r) ∧ A' = []) := by
  refine spec_of (args := [_]) Try.func18 rfl rfl rfl ?_
  have hm1 : min (r.x.key.size : Int) 100000 = ((min r.x.key.size 100000 : Nat) : Int) := by omega
  have hm2 : min (r.x.tx.size : Int) 100000 = ((min r.x.tx.size 100000 : Nat) : Int) := by omega
  have h0 : ((min r.x.key.size 100000 : Nat) : Int) + ((min r.x.tx.size 100000 : Nat) : Int) = ((litN r 0 : Nat) : Int) := by simp [litN]
  simp only [RcG.c]
  by_cases hbig : 1000 < r.sn.ps.length ∨ 1000 < r.sn.ss.length
  · have hno : lightV r = false := by
      unfold lightV
      rcases hbig with h | h <;> simp [h]
    rw [hno]
    repeat' (first
      | refine Wc_seq ?_
      | refine thenQ_normal ?_
      | refine Wc_cond_t (h := ?_)
      | refine Wc_cond_f (h := ?_)
      | refine Wc_ret ?_
      | refine thenQ_ret ?_
      | refine Wc_block ?_
      | refine blkQ_normal ?_
      | refine blkQ_ret ?_
      | refine Wc_exit ?_
      | refine thenQ_exit ?_
      | refine blkQ_hit ?_
      | refine blkQ_miss rfl ?_
      | refine Wc_skip ?_
      | refine Wc_label ?_
      | refine loopQ_exit ?_
      | refine loopQ_ret ?_
      | refine loopQ_normal ?_
      | (refine Wc_region (id := 0) ?_; intro K hK; ((refine Wl_boxAgg (k := ?_); intro r1)) <;> (refine Wl_assign (k := ?_); (refine Wl_nil (hK _ _ ?_); clear hK K)))
      | (refine Wc_region (id := 1) ?_; intro K hK; refine Wl_fieldAddr (k := ?_); refine Wl_fieldAddr (k := ?_); refine Wl_load (k := ?_); refine Wl_len_str (k' := ?_); ((refine Wl_min (k' := ?_); rw [hm1])) <;> (refine Wl_fieldAddr (k := ?_); refine Wl_fieldAddr (k := ?_); refine Wl_load (k := ?_); refine Wl_len_str (k' := ?_); ((refine Wl_min (k' := ?_); rw [hm2])) <;> (((refine Wl_add (k' := ?_); rw [h0])) <;> (refine Wl_assign (k := ?_); (refine Wl_nil (hK _ _ ?_); clear hK K)))))
      | (refine Wc_region (id := 2) ?_; intro K hK; refine Wl_fieldAddr (k := ?_); refine Wl_fieldAddr (k := ?_); refine Wl_load (k := ?_); refine Wl_len_sl (k' := ?_); refine Wl_gtr (k' := ?_); refine Wl_move (k := ?_); ((first | (refine Wl_guard (k := ?_); refine Wl_fieldAddr (k := ?_)) | refine Wl_gno (k := ?_) | ((refine Wl_split (yes := (fun ht => ?_)) (no := (fun ht => ?_)) <;> (try simp at ht) <;> (try (exfalso; omega))) <;> (first | (refine Wl_guard (k := ?_); refine Wl_fieldAddr (k := ?_)) | refine Wl_gno (k := ?_))))) <;> (((first | (refine Wl_guard (k := ?_); refine Wl_fieldAddr (k := ?_)) | refine Wl_gno (k := ?_) | ((refine Wl_split (yes := (fun ht => ?_)) (no := (fun ht => ?_)) <;> (try simp at ht) <;> (try (exfalso; omega))) <;> (first | (refine Wl_guard (k := ?_); refine Wl_fieldAddr (k := ?_)) | refine Wl_gno (k := ?_))))) <;> (((first | (refine Wl_guard (k := ?_); refine Wl_load (k := ?_)) | refine Wl_gno (k := ?_) | ((refine Wl_split (yes := (fun ht => ?_)) (no := (fun ht => ?_)) <;> (try simp at ht) <;> (try (exfalso; omega))) <;> (first | (refine Wl_guard (k := ?_); refine Wl_load (k := ?_)) | refine Wl_gno (k := ?_))))) <;> (((first | (refine Wl_guard (k := ?_); refine Wl_len_sl (k' := ?_)) | refine Wl_gno (k := ?_) | ((refine Wl_split (yes := (fun ht => ?_)) (no := (fun ht => ?_)) <;> (try simp at ht) <;> (try (exfalso; omega))) <;> (first | (refine Wl_guard (k := ?_); refine Wl_len_sl (k' := ?_)) | refine Wl_gno (k := ?_))))) <;> (((first | (refine Wl_guard (k := ?_); refine Wl_gtr (k' := ?_)) | refine Wl_gno (k := ?_) | ((refine Wl_split (yes := (fun ht => ?_)) (no := (fun ht => ?_)) <;> (try simp at ht) <;> (try (exfalso; omega))) <;> (first | (refine Wl_guard (k := ?_); refine Wl_gtr (k' := ?_)) | refine Wl_gno (k := ?_))))) <;> ((first | refine Wl_pick_t (k := ?_) | refine Wl_pick_f (k := ?_) | refine Wl_pick (k := ?_)); (refine Wl_nil (hK _ _ ?_); clear hK K)))))))
      | (refine Wc_region (id := 3) ?_; intro K hK; refine Wl_assign (k := ?_); (refine Wl_nil (hK _ _ ?_); clear hK K))
      | (refine Wc_cond (ht := (fun ht => ?_)) (hf := (fun ht => ?_)) <;> (try simp at ht) <;> (try (exfalso; omega))))
    all_goals exact ⟨Or.inr rfl, _, [], (by (repeat (first | exact Ent.refl _ | exact Ent.nil | refine Ent.take (by (repeat (first | exact Out.head | apply Out.tail)); (first | done | fail)) ?_ | refine Ent.drop1 ?_)); (first | done | fail)), res1 rfl rfl, rfl, rfl⟩
  repeat' (first
    | refine Wc_seq ?_
    | refine thenQ_normal ?_
    | refine Wc_cond_t (h := ?_)
    | refine Wc_cond_f (h := ?_)
    | refine Wc_ret ?_
    | refine thenQ_ret ?_
    | refine Wc_block ?_
    | refine blkQ_normal ?_
    | refine blkQ_ret ?_
    | refine Wc_exit ?_
    | refine thenQ_exit ?_
    | refine blkQ_hit ?_
    | refine blkQ_miss rfl ?_
    | refine Wc_skip ?_
    | refine Wc_label ?_
    | refine loopQ_exit ?_
    | refine loopQ_ret ?_
    | refine loopQ_normal ?_
    | (refine Wc_region (id := 0) ?_; intro K hK; ((refine Wl_boxAgg (k := ?_); intro r1)) <;> (refine Wl_assign (k := ?_); (refine Wl_nil (hK _ _ ?_); clear hK K)))
    | (refine Wc_region (id := 1) ?_; intro K hK; refine Wl_fieldAddr (k := ?_); refine Wl_fieldAddr (k := ?_); refine Wl_load (k := ?_); refine Wl_len_str (k' := ?_); ((refine Wl_min (k' := ?_); rw [hm1])) <;> (refine Wl_fieldAddr (k := ?_); refine Wl_fieldAddr (k := ?_); refine Wl_load (k := ?_); refine Wl_len_str (k' := ?_); ((refine Wl_min (k' := ?_); rw [hm2])) <;> (((refine Wl_add (k' := ?_); rw [h0])) <;> (refine Wl_assign (k := ?_); (refine Wl_nil (hK _ _ ?_); clear hK K)))))
    | (refine Wc_region (id := 2) ?_; intro K hK; refine Wl_fieldAddr (k := ?_); refine Wl_fieldAddr (k := ?_); refine Wl_load (k := ?_); refine Wl_len_sl (k' := ?_); refine Wl_gtr (k' := ?_); refine Wl_move (k := ?_); ((first | (refine Wl_guard (k := ?_); refine Wl_fieldAddr (k := ?_)) | refine Wl_gno (k := ?_) | ((refine Wl_split (yes := (fun ht => ?_)) (no := (fun ht => ?_)) <;> (try simp at ht) <;> (try (exfalso; omega))) <;> (first | (refine Wl_guard (k := ?_); refine Wl_fieldAddr (k := ?_)) | refine Wl_gno (k := ?_))))) <;> (((first | (refine Wl_guard (k := ?_); refine Wl_fieldAddr (k := ?_)) | refine Wl_gno (k := ?_) | ((refine Wl_split (yes := (fun ht => ?_)) (no := (fun ht => ?_)) <;> (try simp at ht) <;> (try (exfalso; omega))) <;> (first | (refine Wl_guard (k := ?_); refine Wl_fieldAddr (k := ?_)) | refine Wl_gno (k := ?_))))) <;> (((first | (refine Wl_guard (k := ?_); refine Wl_load (k := ?_)) | refine Wl_gno (k := ?_) | ((refine Wl_split (yes := (fun ht => ?_)) (no := (fun ht => ?_)) <;> (try simp at ht) <;> (try (exfalso; omega))) <;> (first | (refine Wl_guard (k := ?_); refine Wl_load (k := ?_)) | refine Wl_gno (k := ?_))))) <;> (((first | (refine Wl_guard (k := ?_); refine Wl_len_sl (k' := ?_)) | refine Wl_gno (k := ?_) | ((refine Wl_split (yes := (fun ht => ?_)) (no := (fun ht => ?_)) <;> (try simp at ht) <;> (try (exfalso; omega))) <;> (first | (refine Wl_guard (k := ?_); refine Wl_len_sl (k' := ?_)) | refine Wl_gno (k := ?_))))) <;> (((first | (refine Wl_guard (k := ?_); refine Wl_gtr (k' := ?_)) | refine Wl_gno (k := ?_) | ((refine Wl_split (yes := (fun ht => ?_)) (no := (fun ht => ?_)) <;> (try simp at ht) <;> (try (exfalso; omega))) <;> (first | (refine Wl_guard (k := ?_); refine Wl_gtr (k' := ?_)) | refine Wl_gno (k := ?_))))) <;> ((first | refine Wl_pick_t (k := ?_) | refine Wl_pick_f (k := ?_) | refine Wl_pick (k := ?_)); (refine Wl_nil (hK _ _ ?_); clear hK K)))))))
    | (refine Wc_region (id := 3) ?_; intro K hK; refine Wl_assign (k := ?_); (refine Wl_nil (hK _ _ ?_); clear hK K))
    | (refine Wc_region (id := 4) ?_; intro K hK; refine Wl_assign (k := ?_); (refine Wl_nil (hK _ _ ?_); clear hK K))
    | (refine Wc_cond (ht := (fun ht => ?_)) (hf := (fun ht => ?_)) <;> (try simp at ht) <;> (try (exfalso; omega))))
  refine Wc_loop (α := Nat) (fun j => [(1, .pointer (some ⟨r1, 0, none⟩)), (3, .int .i64 (litN r j)), (4, .int .i64 j)]) (fun _ => [cb r1 (r.c pa pc sa sc) 52]) (fun j => j ≤ r.sn.ps.length) (fun j => r.sn.ps.length - j) 0 (by omega) ⟨rfl, rfl, rfl, trivial⟩ (by (repeat (first | exact Ent.refl _ | exact Ent.nil | refine Ent.take (by (repeat (first | exact Out.head | apply Out.tail)); (first | done | fail)) ?_ | refine Ent.drop1 ?_))) ?_
  intro j G hj
  simp only [ov, RcG.c]
  by_cases hlt : j < r.sn.ps.length
  · obtain ⟨q, rfl⟩ : ∃ q, pa = some q := by
      cases pa with
      | none => have := h1.nil rfl; omega
      | some q => exact ⟨q, rfl⟩
    obtain ⟨x, hx⟩ : ∃ x, r.sn.ps[j]? = some x := ⟨_, List.getElem?_eq_getElem hlt⟩
    have hb := litN_le r j
    have hs := litN_succ hx
    have g1 : min (x.k.size : Int) 100000 = ((min x.k.size 100000 : Nat) : Int) := by omega
    have g2 : min (x.v.d.size : Int) 100000 = ((min x.v.d.size 100000 : Nat) : Int) := by omega
    have g3 : ((litN r j : Nat) : Int) + ((min x.k.size 100000 : Nat) : Int) + ((min x.v.d.size 100000 : Nat) : Int) = ((litN r (j + 1) : Nat) : Int) := by rw [hs]; omega
    repeat' (first
      | refine Wc_seq ?_
      | refine thenQ_normal ?_
      | refine Wc_cond_t (h := ?_)
      | refine Wc_cond_f (h := ?_)
      | refine Wc_ret ?_
      | refine thenQ_ret ?_
      | refine Wc_block ?_
      | refine blkQ_normal ?_
      | refine blkQ_ret ?_
      | refine Wc_exit ?_
      | refine thenQ_exit ?_
      | refine blkQ_hit ?_
      | refine blkQ_miss rfl ?_
      | refine Wc_skip ?_
      | refine Wc_label ?_
      | refine loopQ_exit ?_
      | refine loopQ_ret ?_
      | refine loopQ_normal ?_
      | (refine Wc_region (id := 5) ?_; intro K hK; refine Wl_move (k := ?_); refine Wl_fieldAddr (k := ?_); refine Wl_fieldAddr (k := ?_); refine Wl_load (k := ?_); refine Wl_len_sl (k' := ?_); refine Wl_lss (k' := ?_); (refine Wl_nil (hK _ _ ?_); clear hK K))
      | (refine Wc_region (id := 6) ?_; intro K hK; refine Wl_move (k := ?_); refine Wl_add (k' := ?_); refine Wl_assign (k := ?_); (refine Wl_nil (hK _ _ ?_); clear hK K))
      | ((refine Wc_tree (id := 7) (t := (.step 0 (.step 1 (.step 2 (.step 4 (.step 11 (.step 12 (.step 14 (.alt (.step 3 (.step 5 (.step 6 (.alt (.step 7 (.alt (.step 8 (.alt (.step 9 (.step 10 (.step 13 (.step 15 (.step 16 (.step 17 (.step 18 (.step 19 (.step 20 (.step 21 (.step 22 .done))))))))))) (.step 13 (.step 15 (.step 16 (.step 17 (.alt (.step 9 (.step 10 (.step 18 (.step 19 (.step 20 (.step 21 (.step 22 .done))))))) (.step 18 (.alt (.step 9 (.step 10 (.step 19 (.step 20 (.step 21 (.step 22 .done)))))) (.step 19 (.alt (.step 9 (.step 10 (.step 20 (.step 21 (.step 22 .done))))) (.step 20 (.step 9 (.step 10 (.step 21 (.step 22 .done)))))))))))))))) (.step 13 (.step 15 (.step 16 (.step 17 (.alt (.step 8 (.alt (.step 9 (.step 10 (.step 18 (.step 19 (.step 20 (.step 21 (.step 22 .done))))))) (.step 18 (.alt (.step 9 (.step 10 (.step 19 (.step 20 (.step 21 (.step 22 .done)))))) (.step 19 (.alt (.step 9 (.step 10 (.step 20 (.step 21 (.step 22 .done))))) (.step 20 (.step 9 (.step 10 (.step 21 (.step 22 .done))))))))))) (.step 18 (.alt (.step 8 (.alt (.step 9 (.step 10 (.step 19 (.step 20 (.step 21 (.step 22 .done)))))) (.step 19 (.alt (.step 9 (.step 10 (.step 20 (.step 21 (.step 22 .done))))) (.step 20 (.step 9 (.step 10 (.step 21 (.step 22 .done))))))))) (.step 19 (.alt (.step 8 (.alt (.step 9 (.step 10 (.step 20 (.step 21 (.step 22 .done))))) (.step 20 (.step 9 (.step 10 (.step 21 (.step 22 .done))))))) (.step 20 (.step 8 (.step 9 (.step 10 (.step 21 (.step 22 .done))))))))))))))))) (.step 13 (.step 15 (.step 16 (.step 17 (.alt (.step 7 (.alt (.step 8 (.alt (.step 9 (.step 10 (.step 18 (.step 19 (.step 20 (.step 21 (.step 22 .done))))))) (.step 18 (.alt (.step 9 (.step 10 (.step 19 (.step 20 (.step 21 (.step 22 .done)))))) (.step 19 (.alt (.step 9 (.step 10 (.step 20 (.step 21 (.step 22 .done))))) (.step 20 (.step 9 (.step 10 (.step 21 (.step 22 .done))))))))))) (.step 18 (.alt (.step 8 (.alt (.step 9 (.step 10 (.step 19 (.step 20 (.step 21 (.step 22 .done)))))) (.step 19 (.alt (.step 9 (.step 10 (.step 20 (.step 21 (.step 22 .done))))) (.step 20 (.step 9 (.step 10 (.step 21 (.step 22 .done))))))))) (.step 19 (.alt (.step 8 (.alt (.step 9 (.step 10 (.step 20 (.step 21 (.step 22 .done))))) (.step 20 (.step 9 (.step 10 (.step 21 (.step 22 .done))))))) (.step 20 (.step 8 (.step 9 (.step 10 (.step 21 (.step 22 .done)))))))))))) (.step 18 (.alt (.step 7 (.alt (.step 8 (.alt (.step 9 (.step 10 (.step 19 (.step 20 (.step 21 (.step 22 .done)))))) (.step 19 (.alt (.step 9 (.step 10 (.step 20 (.step 21 (.step 22 .done))))) (.step 20 (.step 9 (.step 10 (.step 21 (.step 22 .done))))))))) (.step 19 (.alt (.step 8 (.alt (.step 9 (.step 10 (.step 20 (.step 21 (.step 22 .done))))) (.step 20 (.step 9 (.step 10 (.step 21 (.step 22 .done))))))) (.step 20 (.step 8 (.step 9 (.step 10 (.step 21 (.step 22 .done)))))))))) (.step 19 (.alt (.step 7 (.alt (.step 8 (.alt (.step 9 (.step 10 (.step 20 (.step 21 (.step 22 .done))))) (.step 20 (.step 9 (.step 10 (.step 21 (.step 22 .done))))))) (.step 20 (.step 8 (.step 9 (.step 10 (.step 21 (.step 22 .done)))))))) (.step 20 (.step 7 (.step 8 (.step 9 (.step 10 (.step 21 (.step 22 .done)))))))))))))))))))) (.step 13 (.step 15 (.step 16 (.step 17 (.alt (.step 3 (.step 5 (.step 6 (.alt (.step 7 (.alt (.step 8 (.alt (.step 9 (.step 10 (.step 18 (.step 19 (.step 20 (.step 21 (.step 22 .done))))))) (.step 18 (.alt (.step 9 (.step 10 (.step 19 (.step 20 (.step 21 (.step 22 .done)))))) (.step 19 (.alt (.step 9 (.step 10 (.step 20 (.step 21 (.step 22 .done))))) (.step 20 (.step 9 (.step 10 (.step 21 (.step 22 .done))))))))))) (.step 18 (.alt (.step 8 (.alt (.step 9 (.step 10 (.step 19 (.step 20 (.step 21 (.step 22 .done)))))) (.step 19 (.alt (.step 9 (.step 10 (.step 20 (.step 21 (.step 22 .done))))) (.step 20 (.step 9 (.step 10 (.step 21 (.step 22 .done))))))))) (.step 19 (.alt (.step 8 (.alt (.step 9 (.step 10 (.step 20 (.step 21 (.step 22 .done))))) (.step 20 (.step 9 (.step 10 (.step 21 (.step 22 .done))))))) (.step 20 (.step 8 (.step 9 (.step 10 (.step 21 (.step 22 .done)))))))))))) (.step 18 (.alt (.step 7 (.alt (.step 8 (.alt (.step 9 (.step 10 (.step 19 (.step 20 (.step 21 (.step 22 .done)))))) (.step 19 (.alt (.step 9 (.step 10 (.step 20 (.step 21 (.step 22 .done))))) (.step 20 (.step 9 (.step 10 (.step 21 (.step 22 .done))))))))) (.step 19 (.alt (.step 8 (.alt (.step 9 (.step 10 (.step 20 (.step 21 (.step 22 .done))))) (.step 20 (.step 9 (.step 10 (.step 21 (.step 22 .done))))))) (.step 20 (.step 8 (.step 9 (.step 10 (.step 21 (.step 22 .done)))))))))) (.step 19 (.alt (.step 7 (.alt (.step 8 (.alt (.step 9 (.step 10 (.step 20 (.step 21 (.step 22 .done))))) (.step 20 (.step 9 (.step 10 (.step 21 (.step 22 .done))))))) (.step 20 (.step 8 (.step 9 (.step 10 (.step 21 (.step 22 .done)))))))) (.step 20 (.step 7 (.step 8 (.step 9 (.step 10 (.step 21 (.step 22 .done))))))))))))))) (.step 18 (.alt (.step 3 (.step 5 (.step 6 (.alt (.step 7 (.alt (.step 8 (.alt (.step 9 (.step 10 (.step 19 (.step 20 (.step 21 (.step 22 .done)))))) (.step 19 (.alt (.step 9 (.step 10 (.step 20 (.step 21 (.step 22 .done))))) (.step 20 (.step 9 (.step 10 (.step 21 (.step 22 .done))))))))) (.step 19 (.alt (.step 8 (.alt (.step 9 (.step 10 (.step 20 (.step 21 (.step 22 .done))))) (.step 20 (.step 9 (.step 10 (.step 21 (.step 22 .done))))))) (.step 20 (.step 8 (.step 9 (.step 10 (.step 21 (.step 22 .done)))))))))) (.step 19 (.alt (.step 7 (.alt (.step 8 (.alt (.step 9 (.step 10 (.step 20 (.step 21 (.step 22 .done))))) (.step 20 (.step 9 (.step 10 (.step 21 (.step 22 .done))))))) (.step 20 (.step 8 (.step 9 (.step 10 (.step 21 (.step 22 .done)))))))) (.step 20 (.step 7 (.step 8 (.step 9 (.step 10 (.step 21 (.step 22 .done))))))))))))) (.step 19 (.alt (.step 3 (.step 5 (.step 6 (.alt (.step 7 (.alt (.step 8 (.alt (.step 9 (.step 10 (.step 20 (.step 21 (.step 22 .done))))) (.step 20 (.step 9 (.step 10 (.step 21 (.step 22 .done))))))) (.step 20 (.step 8 (.step 9 (.step 10 (.step 21 (.step 22 .done)))))))) (.step 20 (.step 7 (.step 8 (.step 9 (.step 10 (.step 21 (.step 22 .done))))))))))) (.step 20 (.step 3 (.step 5 (.step 6 (.step 7 (.step 8 (.step 9 (.step 10 (.step 21 (.step 22 .done)))))))))))))))))))))))))))) (bad := [3, 7, 8, 9, 13, 18, 19, 20]) (hok := (by decide +kernel)) (h := ?_); intro K hK; ((refine WlT_step (i := 0) rfl ?_; (refine Wl_move (k := ?_)) <;> (refine Wl_nil ?_)) <;> ((refine WlT_step (i := 1) rfl ?_; (refine Wl_fieldAddr (k := ?_)) <;> (refine Wl_nil ?_)) <;> ((refine WlT_step (i := 2) rfl ?_; (refine Wl_fieldAddr (k := ?_)) <;> (refine Wl_nil ?_)) <;> ((refine WlT_step (i := 4) rfl ?_; (refine Wl_move (k := ?_)) <;> (refine Wl_nil ?_)) <;> ((refine WlT_step (i := 11) rfl ?_; (refine Wl_fieldAddr (k := ?_)) <;> (refine Wl_nil ?_)) <;> ((refine WlT_step (i := 12) rfl ?_; (refine Wl_fieldAddr (k := ?_)) <;> (refine Wl_nil ?_)) <;> ((refine WlT_step (i := 14) rfl ?_; (refine Wl_move (k := ?_)) <;> (refine Wl_nil ?_)) <;> (refine WlT_alt ?tp0 ?tq0; (case' tp0 => ((refine WlT_step (i := 3) rfl ?_; (refine Wl_load (k := ?_)) <;> (refine Wl_nil ?_)) <;> ((refine WlT_step (i := 5) rfl ?_; ((refine Wl_index_any (k' := ?_))) <;> (refine Wl_nil ?_)) <;> ((refine WlT_step (i := 6) rfl ?_; ((refine Wl_fieldAddrG (k := ?_))) <;> (refine Wl_nil ?_)) <;> (refine WlT_alt ?tp1 ?tq1; (case' tp1 => ((refine WlT_step (i := 7) rfl ?_; ((refine Wl_loadG (v := .string x.k) (j := j * 5) (hq := by simp [Addr.add]) (hr := h1.any) (hv := by simpa using prC_cell (r := 0) hx (by omega) rfl) (k := ?_))) <;> (refine Wl_nil ?_)) <;> (refine WlT_alt ?tp2 ?tq2; (case' tp2 => ((refine WlT_step (i := 8) rfl ?_; (refine Wl_len_str (k' := ?_)) <;> (refine Wl_nil ?_)) <;> (refine WlT_alt ?tp3 ?tq3; (case' tp3 => ((refine WlT_step (i := 9) rfl ?_; ((refine Wl_min (k' := ?_); rw [g1])) <;> (refine Wl_nil ?_)) <;> ((refine WlT_step (i := 10) rfl ?_; (refine Wl_add (k' := ?_)) <;> (refine Wl_nil ?_)) <;> ((refine WlT_step (i := 13) rfl ?_; (refine Wl_load (k := ?_)) <;> (refine Wl_nil ?_)) <;> ((refine WlT_step (i := 15) rfl ?_; ((refine Wl_index_any (k' := ?_))) <;> (refine Wl_nil ?_)) <;> ((refine WlT_step (i := 16) rfl ?_; ((refine Wl_fieldAddrG (k := ?_))) <;> (refine Wl_nil ?_)) <;> ((refine WlT_step (i := 17) rfl ?_; ((refine Wl_fieldAddrG (k := ?_))) <;> (refine Wl_nil ?_)) <;> ((refine WlT_step (i := 18) rfl ?_; ((refine Wl_loadG (v := .string x.v.d) (j := j * 5 + 4) (hq := by simp [Addr.add]; split <;> simp_all <;> omega) (hr := h1.any) (hv := prC_cell (r := 4) hx (by omega) rfl) (k := ?_))) <;> (refine Wl_nil ?_)) <;> ((refine WlT_step (i := 19) rfl ?_; (refine Wl_len_str (k' := ?_)) <;> (refine Wl_nil ?_)) <;> ((refine WlT_step (i := 20) rfl ?_; ((refine Wl_min (k' := ?_); rw [g2])) <;> (refine Wl_nil ?_)) <;> ((refine WlT_step (i := 21) rfl ?_; ((refine Wl_add (k' := ?_); rw [g3])) <;> (refine Wl_nil ?_)) <;> ((refine WlT_step (i := 22) rfl ?_; (refine Wl_assign (k := ?_)) <;> (refine Wl_nil ?_)) <;> (refine WlT_done (hK _ _ ?_); clear hK K))))))))))))); (case' tq3 => ((refine WlT_step (i := 13) rfl ?_; (refine Wl_load (k := ?_)) <;> (refine Wl_nil ?_)) <;> ((refine WlT_step (i := 15) rfl ?_; ((refine Wl_index_any (k' := ?_))) <;> (refine Wl_nil ?_)) <;> ((refine WlT_step (i := 16) rfl ?_; ((refine Wl_fieldAddrG (k := ?_))) <;> (refine Wl_nil ?_)) <;> ((refine WlT_step (i := 17) rfl ?_; ((refine Wl_fieldAddrG (k := ?_))) <;> (refine Wl_nil ?_)) <;> (refine WlT_alt ?tp4 ?tq4; (case' tp4 => ((refine WlT_step (i := 9) rfl ?_; ((refine Wl_min (k' := ?_); rw [g1])) <;> (refine Wl_nil ?_)) <;> ((refine WlT_step (i := 10) rfl ?_; (refine Wl_add (k' := ?_)) <;> (refine Wl_nil ?_)) <;> ((refine WlT_step (i := 18) rfl ?_; ((refine Wl_loadG (v := .string x.v.d) (j := j * 5 + 4) (hq := by simp [Addr.add]; split <;> simp_all <;> omega) (hr := h1.any) (hv := prC_cell (r := 4) hx (by omega) rfl) (k := ?_))) <;> (refine Wl_nil ?_)) <;> ((refine WlT_step (i := 19) rfl ?_; (refine Wl_len_str (k' := ?_)) <;> (refine Wl_nil ?_)) <;> ((refine WlT_step (i := 20) rfl ?_; ((refine Wl_min (k' := ?_); rw [g2])) <;> (refine Wl_nil ?_)) <;> ((refine WlT_step (i := 21) rfl ?_; ((refine Wl_add (k' := ?_); rw [g3])) <;> (refine Wl_nil ?_)) <;> ((refine WlT_step (i := 22) rfl ?_; (refine Wl_assign (k := ?_)) <;> (refine Wl_nil ?_)) <;> (refine WlT_done (hK _ _ ?_); clear hK K))))))))); (case' tq4 => ((refine WlT_step (i := 18) rfl ?_; ((refine Wl_loadG (v := .string x.v.d) (j := j * 5 + 4) (hq := by simp [Addr.add]; split <;> simp_all <;> omega) (hr := h1.any) (hv := prC_cell (r := 4) hx (by omega) rfl) (k := ?_))) <;> (refine Wl_nil ?_)) <;> (refine WlT_alt ?tp5 ?tq5; (case' tp5 => ((refine WlT_step (i := 9) rfl ?_; ((refine Wl_min (k' := ?_); rw [g1])) <;> (refine Wl_nil ?_)) <;> ((refine WlT_step (i := 10) rfl ?_; (refine Wl_add (k' := ?_)) <;> (refine Wl_nil ?_)) <;> ((refine WlT_step (i := 19) rfl ?_; (refine Wl_len_str (k' := ?_)) <;> (refine Wl_nil ?_)) <;> ((refine WlT_step (i := 20) rfl ?_; ((refine Wl_min (k' := ?_); rw [g2])) <;> (refine Wl_nil ?_)) <;> ((refine WlT_step (i := 21) rfl ?_; ((refine Wl_add (k' := ?_); rw [g3])) <;> (refine Wl_nil ?_)) <;> ((refine WlT_step (i := 22) rfl ?_; (refine Wl_assign (k := ?_)) <;> (refine Wl_nil ?_)) <;> (refine WlT_done (hK _ _ ?_); clear hK K)))))))); (case' tq5 => ((refine WlT_step (i := 19) rfl ?_; (refine Wl_len_str (k' := ?_)) <;> (refine Wl_nil ?_)) <;> (refine WlT_alt ?tp6 ?tq6; (case' tp6 => ((refine WlT_step (i := 9) rfl ?_; ((refine Wl_min (k' := ?_); rw [g1])) <;> (refine Wl_nil ?_)) <;> ((refine WlT_step (i := 10) rfl ?_; (refine Wl_add (k' := ?_)) <;> (refine Wl_nil ?_)) <;> ((refine WlT_step (i := 20) rfl ?_; ((refine Wl_min (k' := ?_); rw [g2])) <;> (refine Wl_nil ?_)) <;> ((refine WlT_step (i := 21) rfl ?_; ((refine Wl_add (k' := ?_); rw [g3])) <;> (refine Wl_nil ?_)) <;> ((refine WlT_step (i := 22) rfl ?_; (refine Wl_assign (k := ?_)) <;> (refine Wl_nil ?_)) <;> (refine WlT_done (hK _ _ ?_); clear hK K))))))); (case' tq6 => ((refine WlT_step (i := 20) rfl ?_; ((refine Wl_min (k' := ?_); rw [g2])) <;> (refine Wl_nil ?_)) <;> ((refine WlT_step (i := 9) rfl ?_; ((refine Wl_min (k' := ?_); rw [g1])) <;> (refine Wl_nil ?_)) <;> ((refine WlT_step (i := 10) rfl ?_; (refine Wl_add (k' := ?_)) <;> (refine Wl_nil ?_)) <;> ((refine WlT_step (i := 21) rfl ?_; ((refine Wl_add (k' := ?_); rw [g3])) <;> (refine Wl_nil ?_)) <;> ((refine WlT_step (i := 22) rfl ?_; (refine Wl_assign (k := ?_)) <;> (refine Wl_nil ?_)) <;> (refine WlT_done (hK _ _ ?_); clear hK K)))))))))))))))))))))); (case' tq2 => ((refine WlT_step (i := 13) rfl ?_; (refine Wl_load (k := ?_)) <;> (refine Wl_nil ?_)) <;> ((refine WlT_step (i := 15) rfl ?_; ((refine Wl_index_any (k' := ?_))) <;> (refine Wl_nil ?_)) <;> ((refine WlT_step (i := 16) rfl ?_; ((refine Wl_fieldAddrG (k := ?_))) <;> (refine Wl_nil ?_)) <;> ((refine WlT_step (i := 17) rfl ?_; ((refine Wl_fieldAddrG (k := ?_))) <;> (refine Wl_nil ?_)) <;> (refine WlT_alt ?tp7 ?tq7; (case' tp7 => ((refine WlT_step (i := 8) rfl ?_; (refine Wl_len_str (k' := ?_)) <;> (refine Wl_nil ?_)) <;> (refine WlT_alt ?tp8 ?tq8; (case' tp8 => ((refine WlT_step (i := 9) rfl ?_; ((refine Wl_min (k' := ?_); rw [g1])) <;> (refine Wl_nil ?_)) <;> ((refine WlT_step (i := 10) rfl ?_; (refine Wl_add (k' := ?_)) <;> (refine Wl_nil ?_)) <;> ((refine WlT_step (i := 18) rfl ?_; ((refine Wl_loadG (v := .string x.v.d) (j := j * 5 + 4) (hq := by simp [Addr.add]; split <;> simp_all <;> omega) (hr := h1.any) (hv := prC_cell (r := 4) hx (by omega) rfl) (k := ?_))) <;> (refine Wl_nil ?_)) <;> ((refine WlT_step (i := 19) rfl ?_; (refine Wl_len_str (k' := ?_)) <;> (refine Wl_nil ?_)) <;> ((refine WlT_step (i := 20) rfl ?_; ((refine Wl_min (k' := ?_); rw [g2])) <;> (refine Wl_nil ?_)) <;> ((refine WlT_step (i := 21) rfl ?_; ((refine Wl_add (k' := ?_); rw [g3])) <;> (refine Wl_nil ?_)) <;> ((refine WlT_step (i := 22) rfl ?_; (refine Wl_assign (k := ?_)) <;> (refine Wl_nil ?_)) <;> (refine WlT_done (hK _ _ ?_); clear hK K))))))))); (case' tq8 => ((refine WlT_step (i := 18) rfl ?_; ((refine Wl_loadG (v := .string x.v.d) (j := j * 5 + 4) (hq := by simp [Addr.add]; split <;> simp_all <;> omega) (hr := h1.any) (hv := prC_cell (r := 4) hx (by omega) rfl) (k := ?_))) <;> (refine Wl_nil ?_)) <;> (refine WlT_alt ?tp9 ?tq9; (case' tp9 => ((refine WlT_step (i := 9) rfl ?_; ((refine Wl_min (k' := ?_); rw [g1])) <;> (refine Wl_nil ?_)) <;> ((refine WlT_step (i := 10) rfl ?_; (refine Wl_add (k' := ?_)) <;> (refine Wl_nil ?_)) <;> ((refine WlT_step (i := 19) rfl ?_; (refine Wl_len_str (k' := ?_)) <;> (refine Wl_nil ?_)) <;> ((refine WlT_step (i := 20) rfl ?_; ((refine Wl_min (k' := ?_); rw [g2])) <;> (refine Wl_nil ?_)) <;> ((refine WlT_step (i := 21) rfl ?_; ((refine Wl_add (k' := ?_); rw [g3])) <;> (refine Wl_nil ?_)) <;> ((refine WlT_step (i := 22) rfl ?_; (refine Wl_assign (k := ?_)) <;> (refine Wl_nil ?_)) <;> (refine WlT_done (hK _ _ ?_); clear hK K)))))))); (case' tq9 => ((refine WlT_step (i := 19) rfl ?_; (refine Wl_len_str (k' := ?_)) <;> (refine Wl_nil ?_)) <;> (refine WlT_alt ?tp10 ?tq10; (case' tp10 => ((refine WlT_step (i := 9) rfl ?_; ((refine Wl_min (k' := ?_); rw [g1])) <;> (refine Wl_nil ?_)) <;> ((refine WlT_step (i := 10) rfl ?_; (refine Wl_add (k' := ?_)) <;> (refine Wl_nil ?_)) <;> ((refine WlT_step (i := 20) rfl ?_; ((refine Wl_min (k' := ?_); rw [g2])) <;> (refine Wl_nil ?_)) <;> ((refine WlT_step (i := 21) rfl ?_; ((refine Wl_add (k' := ?_); rw [g3])) <;> (refine Wl_nil ?_)) <;> ((refine WlT_step (i := 22) rfl ?_; (refine Wl_assign (k := ?_)) <;> (refine Wl_nil ?_)) <;> (refine WlT_done (hK _ _ ?_); clear hK K))))))); (case' tq10 => ((refine WlT_step (i := 20) rfl ?_; ((refine Wl_min (k' := ?_); rw [g2])) <;> (refine Wl_nil ?_)) <;> ((refine WlT_step (i := 9) rfl ?_; ((refine Wl_min (k' := ?_); rw [g1])) <;> (refine Wl_nil ?_)) <;> ((refine WlT_step (i := 10) rfl ?_; (refine Wl_add (k' := ?_)) <;> (refine Wl_nil ?_)) <;> ((refine WlT_step (i := 21) rfl ?_; ((refine Wl_add (k' := ?_); rw [g3])) <;> (refine Wl_nil ?_)) <;> ((refine WlT_step (i := 22) rfl ?_; (refine Wl_assign (k := ?_)) <;> (refine Wl_nil ?_)) <;> (refine WlT_done (hK _ _ ?_); clear hK K)))))))))))))))); (case' tq7 => ((refine WlT_step (i := 18) rfl ?_; ((refine Wl_loadG (v := .string x.v.d) (j := j * 5 + 4) (hq := by simp [Addr.add]; split <;> simp_all <;> omega) (hr := h1.any) (hv := prC_cell (r := 4) hx (by omega) rfl) (k := ?_))) <;> (refine Wl_nil ?_)) <;> (refine WlT_alt ?tp11 ?tq11; (case' tp11 => ((refine WlT_step (i := 8) rfl ?_; (refine Wl_len_str (k' := ?_)) <;> (refine Wl_nil ?_)) <;> (refine WlT_alt ?tp12 ?tq12; (case' tp12 => ((refine WlT_step (i := 9) rfl ?_; ((refine Wl_min (k' := ?_); rw [g1])) <;> (refine Wl_nil ?_)) <;> ((refine WlT_step (i := 10) rfl ?_; (refine Wl_add (k' := ?_)) <;> (refine Wl_nil ?_)) <;> ((refine WlT_step (i := 19) rfl ?_; (refine Wl_len_str (k' := ?_)) <;> (refine Wl_nil ?_)) <;> ((refine WlT_step (i := 20) rfl ?_; ((refine Wl_min (k' := ?_); rw [g2])) <;> (refine Wl_nil ?_)) <;> ((refine WlT_step (i := 21) rfl ?_; ((refine Wl_add (k' := ?_); rw [g3])) <;> (refine Wl_nil ?_)) <;> ((refine WlT_step (i := 22) rfl ?_; (refine Wl_assign (k := ?_)) <;> (refine Wl_nil ?_)) <;> (refine WlT_done (hK _ _ ?_); clear hK K)))))))); (case' tq12 => ((refine WlT_step (i := 19) rfl ?_; (refine Wl_len_str (k' := ?_)) <;> (refine Wl_nil ?_)) <;> (refine WlT_alt ?tp13 ?tq13; (case' tp13 => ((refine WlT_step (i := 9) rfl ?_; ((refine Wl_min (k' := ?_); rw [g1])) <;> (refine Wl_nil ?_)) <;> ((refine WlT_step (i := 10) rfl ?_; (refine Wl_add (k' := ?_)) <;> (refine Wl_nil ?_)) <;> ((refine WlT_step (i := 20) rfl ?_; ((refine Wl_min (k' := ?_); rw [g2])) <;> (refine Wl_nil ?_)) <;> ((refine WlT_step (i := 21) rfl ?_; ((refine Wl_add (k' := ?_); rw [g3])) <;> (refine Wl_nil ?_)) <;> ((refine WlT_step (i := 22) rfl ?_; (refine Wl_assign (k := ?_)) <;> (refine Wl_nil ?_)) <;> (refine WlT_done (hK _ _ ?_); clear hK K))))))); (case' tq13 => ((refine WlT_step (i := 20) rfl ?_; ((refine Wl_min (k' := ?_); rw [g2])) <;> (refine Wl_nil ?_)) <;> ((refine WlT_step (i := 9) rfl ?_; ((refine Wl_min (k' := ?_); rw [g1])) <;> (refine Wl_nil ?_)) <;> ((refine WlT_step (i := 10) rfl ?_; (refine Wl_add (k' := ?_)) <;> (refine Wl_nil ?_)) <;> ((refine WlT_step (i := 21) rfl ?_; ((refine Wl_add (k' := ?_); rw [g3])) <;> (refine Wl_nil ?_)) <;> ((refine WlT_step (i := 22) rfl ?_; (refine Wl_assign (k := ?_)) <;> (refine Wl_nil ?_)) <;> (refine WlT_done (hK _ _ ?_); clear hK K))))))))))))); (case' tq11 => ((refine WlT_step (i := 19) rfl ?_; (refine Wl_len_str (k' := ?_)) <;> (refine Wl_nil ?_)) <;> (refine WlT_alt ?tp14 ?tq14; (case' tp14 => ((refine WlT_step (i := 8) rfl ?_; (refine Wl_len_str (k' := ?_)) <;> (refine Wl_nil ?_)) <;> (refine WlT_alt ?tp15 ?tq15; (case' tp15 => ((refine WlT_step (i := 9) rfl ?_; ((refine Wl_min (k' := ?_); rw [g1])) <;> (refine Wl_nil ?_)) <;> ((refine WlT_step (i := 10) rfl ?_; (refine Wl_add (k' := ?_)) <;> (refine Wl_nil ?_)) <;> ((refine WlT_step (i := 20) rfl ?_; ((refine Wl_min (k' := ?_); rw [g2])) <;> (refine Wl_nil ?_)) <;> ((refine WlT_step (i := 21) rfl ?_; ((refine Wl_add (k' := ?_); rw [g3])) <;> (refine Wl_nil ?_)) <;> ((refine WlT_step (i := 22) rfl ?_; (refine Wl_assign (k := ?_)) <;> (refine Wl_nil ?_)) <;> (refine WlT_done (hK _ _ ?_); clear hK K))))))); (case' tq15 => ((refine WlT_step (i := 20) rfl ?_; ((refine Wl_min (k' := ?_); rw [g2])) <;> (refine Wl_nil ?_)) <;> ((refine WlT_step (i := 9) rfl ?_; ((refine Wl_min (k' := ?_); rw [g1])) <;> (refine Wl_nil ?_)) <;> ((refine WlT_step (i := 10) rfl ?_; (refine Wl_add (k' := ?_)) <;> (refine Wl_nil ?_)) <;> ((refine WlT_step (i := 21) rfl ?_; ((refine Wl_add (k' := ?_); rw [g3])) <;> (refine Wl_nil ?_)) <;> ((refine WlT_step (i := 22) rfl ?_; (refine Wl_assign (k := ?_)) <;> (refine Wl_nil ?_)) <;> (refine WlT_done (hK _ _ ?_); clear hK K)))))))))); (case' tq14 => ((refine WlT_step (i := 20) rfl ?_; ((refine Wl_min (k' := ?_); rw [g2])) <;> (refine Wl_nil ?_)) <;> ((refine WlT_step (i := 8) rfl ?_; (refine Wl_len_str (k' := ?_)) <;> (refine Wl_nil ?_)) <;> ((refine WlT_step (i := 9) rfl ?_; ((refine Wl_min (k' := ?_); rw [g1])) <;> (refine Wl_nil ?_)) <;> ((refine WlT_step (i := 10) rfl ?_; (refine Wl_add (k' := ?_)) <;> (refine Wl_nil ?_)) <;> ((refine WlT_step (i := 21) rfl ?_; ((refine Wl_add (k' := ?_); rw [g3])) <;> (refine Wl_nil ?_)) <;> ((refine WlT_step (i := 22) rfl ?_; (refine Wl_assign (k := ?_)) <;> (refine Wl_nil ?_)) <;> (refine WlT_done (hK _ _ ?_); clear hK K))))))))))))))))))))))); (case' tq1 => ((refine WlT_step (i := 13) rfl ?_; (refine Wl_load (k := ?_)) <;> (refine Wl_nil ?_)) <;> ((refine WlT_step (i := 15) rfl ?_; ((refine Wl_index_any (k' := ?_))) <;> (refine Wl_nil ?_)) <;> ((refine WlT_step (i := 16) rfl ?_; ((refine Wl_fieldAddrG (k := ?_))) <;> (refine Wl_nil ?_)) <;> ((refine WlT_step (i := 17) rfl ?_; ((refine Wl_fieldAddrG (k := ?_))) <;> (refine Wl_nil ?_)) <;> (refine WlT_alt ?tp16 ?tq16; (case' tp16 => ((refine WlT_step (i := 7) rfl ?_; ((refine Wl_loadG (v := .string x.k) (j := j * 5) (hq := by simp [Addr.add]) (hr := h1.any) (hv := by simpa using prC_cell (r := 0) hx (by omega) rfl) (k := ?_))) <;> (refine Wl_nil ?_)) <;> (refine WlT_alt ?tp17 ?tq17; (case' tp17 => ((refine WlT_step (i := 8) rfl ?_; (refine Wl_len_str (k' := ?_)) <;> (refine Wl_nil ?_)) <;> (refine WlT_alt ?tp18 ?tq18; (case' tp18 => ((refine WlT_step (i := 9) rfl ?_; ((refine Wl_min (k' := ?_); rw [g1])) <;> (refine Wl_nil ?_)) <;> ((refine WlT_step (i := 10) rfl ?_; (refine Wl_add (k' := ?_)) <;> (refine Wl_nil ?_)) <;> ((refine WlT_step (i := 18) rfl ?_; ((refine Wl_loadG (v := .string x.v.d) (j := j * 5 + 4) (hq := by simp [Addr.add]; split <;> simp_all <;> omega) (hr := h1.any) (hv := prC_cell (r := 4) hx (by omega) rfl) (k := ?_))) <;> (refine Wl_nil ?_)) <;> ((refine WlT_step (i := 19) rfl ?_; (refine Wl_len_str (k' := ?_)) <;> (refine Wl_nil ?_)) <;> ((refine WlT_step (i := 20) rfl ?_; ((refine Wl_min (k' := ?_); rw [g2])) <;> (refine Wl_nil ?_)) <;> ((refine WlT_step (i := 21) rfl ?_; ((refine Wl_add (k' := ?_); rw [g3])) <;> (refine Wl_nil ?_)) <;> ((refine WlT_step (i := 22) rfl ?_; (refine Wl_assign (k := ?_)) <;> (refine Wl_nil ?_)) <;> (refine WlT_done (hK _ _ ?_); clear hK K))))))))); (case' tq18 => ((refine WlT_step (i := 18) rfl ?_; ((refine Wl_loadG (v := .string x.v.d) (j := j * 5 + 4) (hq := by simp [Addr.add]; split <;> simp_all <;> omega) (hr := h1.any) (hv := prC_cell (r := 4) hx (by omega) rfl) (k := ?_))) <;> (refine Wl_nil ?_)) <;> (refine WlT_alt ?tp19 ?tq19; (case' tp19 => ((refine WlT_step (i := 9) rfl ?_; ((refine Wl_min (k' := ?_); rw [g1])) <;> (refine Wl_nil ?_)) <;> ((refine WlT_step (i := 10) rfl ?_; (refine Wl_add (k' := ?_)) <;> (refine Wl_nil ?_)) <;> ((refine WlT_step (i := 19) rfl ?_; (refine Wl_len_str (k' := ?_)) <;> (refine Wl_nil ?_)) <;> ((refine WlT_step (i := 20) rfl ?_; ((refine Wl_min (k' := ?_); rw [g2])) <;> (refine Wl_nil ?_)) <;> ((refine WlT_step (i := 21) rfl ?_; ((refine Wl_add (k' := ?_); rw [g3])) <;> (refine Wl_nil ?_)) <;> ((refine WlT_step (i := 22) rfl ?_; (refine Wl_assign (k := ?_)) <;> (refine Wl_nil ?_)) <;> (refine WlT_done (hK _ _ ?_); clear hK K)))))))); (case' tq19 => ((refine WlT_step (i := 19) rfl ?_; (refine Wl_len_str (k' := ?_)) <;> (refine Wl_nil ?_)) <;> (refine WlT_alt ?tp20 ?tq20; (case' tp20 => ((refine WlT_step (i := 9) rfl ?_; ((refine Wl_min (k' := ?_); rw [g1])) <;> (refine Wl_nil ?_)) <;> ((refine WlT_step (i := 10) rfl ?_; (refine Wl_add (k' := ?_)) <;> (refine Wl_nil ?_)) <;> ((refine WlT_step (i := 20) rfl ?_; ((refine Wl_min (k' := ?_); rw [g2])) <;> (refine Wl_nil ?_)) <;> ((refine WlT_step (i := 21) rfl ?_; ((refine Wl_add (k' := ?_); rw [g3])) <;> (refine Wl_nil ?_)) <;> ((refine WlT_step (i := 22) rfl ?_; (refine Wl_assign (k := ?_)) <;> (refine Wl_nil ?_)) <;> (refine WlT_done (hK _ _ ?_); clear hK K))))))); (case' tq20 => ((refine WlT_step (i := 20) rfl ?_; ((refine Wl_min (k' := ?_); rw [g2])) <;> (refine Wl_nil ?_)) <;> ((refine WlT_step (i := 9) rfl ?_; ((refine Wl_min (k' := ?_); rw [g1])) <;> (refine Wl_nil ?_)) <;> ((refine WlT_step (i := 10) rfl ?_; (refine Wl_add (k' := ?_)) <;> (refine Wl_nil ?_)) <;> ((refine WlT_step (i := 21) rfl ?_; ((refine Wl_add (k' := ?_); rw [g3])) <;> (refine Wl_nil ?_)) <;> ((refine WlT_step (i := 22) rfl ?_; (refine Wl_assign (k := ?_)) <;> (refine Wl_nil ?_)) <;> (refine WlT_done (hK _ _ ?_); clear hK K)))))))))))))))); (case' tq17 => ((refine WlT_step (i := 18) rfl ?_; ((refine Wl_loadG (v := .string x.v.d) (j := j * 5 + 4) (hq := by simp [Addr.add]; split <;> simp_all <;> omega) (hr := h1.any) (hv := prC_cell (r := 4) hx (by omega) rfl) (k := ?_))) <;> (refine Wl_nil ?_)) <;> (refine WlT_alt ?tp21 ?tq21; (case' tp21 => ((refine WlT_step (i := 8) rfl ?_; (refine Wl_len_str (k' := ?_)) <;> (refine Wl_nil ?_)) <;> (refine WlT_alt ?tp22 ?tq22; (case' tp22 => ((refine WlT_step (i := 9) rfl ?_; ((refine Wl_min (k' := ?_); rw [g1])) <;> (refine Wl_nil ?_)) <;> ((refine WlT_step (i := 10) rfl ?_; (refine Wl_add (k' := ?_)) <;> (refine Wl_nil ?_)) <;> ((refine WlT_step (i := 19) rfl ?_; (refine Wl_len_str (k' := ?_)) <;> (refine Wl_nil ?_)) <;> ((refine WlT_step (i := 20) rfl ?_; ((refine Wl_min (k' := ?_); rw [g2])) <;> (refine Wl_nil ?_)) <;> ((refine WlT_step (i := 21) rfl ?_; ((refine Wl_add (k' := ?_); rw [g3])) <;> (refine Wl_nil ?_)) <;> ((refine WlT_step (i := 22) rfl ?_; (refine Wl_assign (k := ?_)) <;> (refine Wl_nil ?_)) <;> (refine WlT_done (hK _ _ ?_); clear hK K)))))))); (case' tq22 => ((refine WlT_step (i := 19) rfl ?_; (refine Wl_len_str (k' := ?_)) <;> (refine Wl_nil ?_)) <;> (refine WlT_alt ?tp23 ?tq23; (case' tp23 => ((refine WlT_step (i := 9) rfl ?_; ((refine Wl_min (k' := ?_); rw [g1])) <;> (refine Wl_nil ?_)) <;> ((refine WlT_step (i := 10) rfl ?_; (refine Wl_add (k' := ?_)) <;> (refine Wl_nil ?_)) <;> ((refine WlT_step (i := 20) rfl ?_; ((refine Wl_min (k' := ?_); rw [g2])) <;> (refine Wl_nil ?_)) <;> ((refine WlT_step (i := 21) rfl ?_; ((refine Wl_add (k' := ?_); rw [g3])) <;> (refine Wl_nil ?_)) <;> ((refine WlT_step (i := 22) rfl ?_; (refine Wl_assign (k := ?_)) <;> (refine Wl_nil ?_)) <;> (refine WlT_done (hK _ _ ?_); clear hK K))))))); (case' tq23 => ((refine WlT_step (i := 20) rfl ?_; ((refine Wl_min (k' := ?_); rw [g2])) <;> (refine Wl_nil ?_)) <;> ((refine WlT_step (i := 9) rfl ?_; ((refine Wl_min (k' := ?_); rw [g1])) <;> (refine Wl_nil ?_)) <;> ((refine WlT_step (i := 10) rfl ?_; (refine Wl_add (k' := ?_)) <;> (refine Wl_nil ?_)) <;> ((refine WlT_step (i := 21) rfl ?_; ((refine Wl_add (k' := ?_); rw [g3])) <;> (refine Wl_nil ?_)) <;> ((refine WlT_step (i := 22) rfl ?_; (refine Wl_assign (k := ?_)) <;> (refine Wl_nil ?_)) <;> (refine WlT_done (hK _ _ ?_); clear hK K))))))))))))); (case' tq21 => ((refine WlT_step (i := 19) rfl ?_; (refine Wl_len_str (k' := ?_)) <;> (refine Wl_nil ?_)) <;> (refine WlT_alt ?tp24 ?tq24; (case' tp24 => ((refine WlT_step (i := 8) rfl ?_; (refine Wl_len_str (k' := ?_)) <;> (refine Wl_nil ?_)) <;> (refine WlT_alt ?tp25 ?tq25; (case' tp25 => ((refine WlT_step (i := 9) rfl ?_; ((refine Wl_min (k' := ?_); rw [g1])) <;> (refine Wl_nil ?_)) <;> ((refine WlT_step (i := 10) rfl ?_; (refine Wl_add (k' := ?_)) <;> (refine Wl_nil ?_)) <;> ((refine WlT_step (i := 20) rfl ?_; ((refine Wl_min (k' := ?_); rw [g2])) <;> (refine Wl_nil ?_)) <;> ((refine WlT_step (i := 21) rfl ?_; ((refine Wl_add (k' := ?_); rw [g3])) <;> (refine Wl_nil ?_)) <;> ((refine WlT_step (i := 22) rfl ?_; (refine Wl_assign (k := ?_)) <;> (refine Wl_nil ?_)) <;> (refine WlT_done (hK _ _ ?_); clear hK K))))))); (case' tq25 => ((refine WlT_step (i := 20) rfl ?_; ((refine Wl_min (k' := ?_); rw [g2])) <;> (refine Wl_nil ?_)) <;> ((refine WlT_step (i := 9) rfl ?_; ((refine Wl_min (k' := ?_); rw [g1])) <;> (refine Wl_nil ?_)) <;> ((refine WlT_step (i := 10) rfl ?_; (refine Wl_add (k' := ?_)) <;> (refine Wl_nil ?_)) <;> ((refine WlT_step (i := 21) rfl ?_; ((refine Wl_add (k' := ?_); rw [g3])) <;> (refine Wl_nil ?_)) <;> ((refine WlT_step (i := 22) rfl ?_; (refine Wl_assign (k := ?_)) <;> (refine Wl_nil ?_)) <;> (refine WlT_done (hK _ _ ?_); clear hK K)))))))))); (case' tq24 => ((refine WlT_step (i := 20) rfl ?_; ((refine Wl_min (k' := ?_); rw [g2])) <;> (refine Wl_nil ?_)) <;> ((refine WlT_step (i := 8) rfl ?_; (refine Wl_len_str (k' := ?_)) <;> (refine Wl_nil ?_)) <;> ((refine WlT_step (i := 9) rfl ?_; ((refine Wl_min (k' := ?_); rw [g1])) <;> (refine Wl_nil ?_)) <;> ((refine WlT_step (i := 10) rfl ?_; (refine Wl_add (k' := ?_)) <;> (refine Wl_nil ?_)) <;> ((refine WlT_step (i := 21) rfl ?_; ((refine Wl_add (k' := ?_); rw [g3])) <;> (refine Wl_nil ?_)) <;> ((refine WlT_step (i := 22) rfl ?_; (refine Wl_assign (k := ?_)) <;> (refine Wl_nil ?_)) <;> (refine WlT_done (hK _ _ ?_); clear hK K))))))))))))))))); (case' tq16 => ((refine WlT_step (i := 18) rfl ?_; ((refine Wl_loadG (v := .string x.v.d) (j := j * 5 + 4) (hq := by simp [Addr.add]; split <;> simp_all <;> omega) (hr := h1.any) (hv := prC_cell (r := 4) hx (by omega) rfl) (k := ?_))) <;> (refine Wl_nil ?_)) <;> (refine WlT_alt ?tp26 ?tq26; (case' tp26 => ((refine WlT_step (i := 7) rfl ?_; ((refine Wl_loadG (v := .string x.k) (j := j * 5) (hq := by simp [Addr.add]) (hr := h1.any) (hv := by simpa using prC_cell (r := 0) hx (by omega) rfl) (k := ?_))) <;> (refine Wl_nil ?_)) <;> (refine WlT_alt ?tp27 ?tq27; (case' tp27 => ((refine WlT_step (i := 8) rfl ?_; (refine Wl_len_str (k' := ?_)) <;> (refine Wl_nil ?_)) <;> (refine WlT_alt ?tp28 ?tq28; (case' tp28 => ((refine WlT_step (i := 9) rfl ?_; ((refine Wl_min (k' := ?_); rw [g1])) <;> (refine Wl_nil ?_)) <;> ((refine WlT_step (i := 10) rfl ?_; (refine Wl_add (k' := ?_)) <;> (refine Wl_nil ?_)) <;> ((refine WlT_step (i := 19) rfl ?_; (refine Wl_len_str (k' := ?_)) <;> (refine Wl_nil ?_)) <;> ((refine WlT_step (i := 20) rfl ?_; ((refine Wl_min (k' := ?_); rw [g2])) <;> (refine Wl_nil ?_)) <;> ((refine WlT_step (i := 21) rfl ?_; ((refine Wl_add (k' := ?_); rw [g3])) <;> (refine Wl_nil ?_)) <;> ((refine WlT_step (i := 22) rfl ?_; (refine Wl_assign (k := ?_)) <;> (refine Wl_nil ?_)) <;> (refine WlT_done (hK _ _ ?_); clear hK K)))))))); (case' tq28 => ((refine WlT_step (i := 19) rfl ?_; (refine Wl_len_str (k' := ?_)) <;> (refine Wl_nil ?_)) <;> (refine WlT_alt ?tp29 ?tq29; (case' tp29 => ((refine WlT_step (i := 9) rfl ?_; ((refine Wl_min (k' := ?_); rw [g1])) <;> (refine Wl_nil ?_)) <;> ((refine WlT_step (i := 10) rfl ?_; (refine Wl_add (k' := ?_)) <;> (refine Wl_nil ?_)) <;> ((refine WlT_step (i := 20) rfl ?_; ((refine Wl_min (k' := ?_); rw [g2])) <;> (refine Wl_nil ?_)) <;> ((refine WlT_step (i := 21) rfl ?_; ((refine Wl_add (k' := ?_); rw [g3])) <;> (refine Wl_nil ?_)) <;> ((refine WlT_step (i := 22) rfl ?_; (refine Wl_assign (k := ?_)) <;> (refine Wl_nil ?_)) <;> (refine WlT_done (hK _ _ ?_); clear hK K))))))); (case' tq29 => ((refine WlT_step (i := 20) rfl ?_; ((refine Wl_min (k' := ?_); rw [g2])) <;> (refine Wl_nil ?_)) <;> ((refine WlT_step (i := 9) rfl ?_; ((refine Wl_min (k' := ?_); rw [g1])) <;> (refine Wl_nil ?_)) <;> ((refine WlT_step (i := 10) rfl ?_; (refine Wl_add (k' := ?_)) <;> (refine Wl_nil ?_)) <;> ((refine WlT_step (i := 21) rfl ?_; ((refine Wl_add (k' := ?_); rw [g3])) <;> (refine Wl_nil ?_)) <;> ((refine WlT_step (i := 22) rfl ?_; (refine Wl_assign (k := ?_)) <;> (refine Wl_nil ?_)) <;> (refine WlT_done (hK _ _ ?_); clear hK K))))))))))))); (case' tq27 => ((refine WlT_step (i := 19) rfl ?_; (refine Wl_len_str (k' := ?_)) <;> (refine Wl_nil ?_)) <;> (refine WlT_alt ?tp30 ?tq30; (case' tp30 => ((refine WlT_step (i := 8) rfl ?_; (refine Wl_len_str (k' := ?_)) <;> (refine Wl_nil ?_)) <;> (refine WlT_alt ?tp31 ?tq31; (case' tp31 => ((refine WlT_step (i := 9) rfl ?_; ((refine Wl_min (k' := ?_); rw [g1])) <;> (refine Wl_nil ?_)) <;> ((refine WlT_step (i := 10) rfl ?_; (refine Wl_add (k' := ?_)) <;> (refine Wl_nil ?_)) <;> ((refine WlT_step (i := 20) rfl ?_; ((refine Wl_min (k' := ?_); rw [g2])) <;> (refine Wl_nil ?_)) <;> ((refine WlT_step (i := 21) rfl ?_; ((refine Wl_add (k' := ?_); rw [g3])) <;> (refine Wl_nil ?_)) <;> ((refine WlT_step (i := 22) rfl ?_; (refine Wl_assign (k := ?_)) <;> (refine Wl_nil ?_)) <;> (refine WlT_done (hK _ _ ?_); clear hK K))))))); (case' tq31 => ((refine WlT_step (i := 20) rfl ?_; ((refine Wl_min (k' := ?_); rw [g2])) <;> (refine Wl_nil ?_)) <;> ((refine WlT_step (i := 9) rfl ?_; ((refine Wl_min (k' := ?_); rw [g1])) <;> (refine Wl_nil ?_)) <;> ((refine WlT_step (i := 10) rfl ?_; (refine Wl_add (k' := ?_)) <;> (refine Wl_nil ?_)) <;> ((refine WlT_step (i := 21) rfl ?_; ((refine Wl_add (k' := ?_); rw [g3])) <;> (refine Wl_nil ?_)) <;> ((refine WlT_step (i := 22) rfl ?_; (refine Wl_assign (k := ?_)) <;> (refine Wl_nil ?_)) <;> (refine WlT_done (hK _ _ ?_); clear hK K)))))))))); (case' tq30 => ((refine WlT_step (i := 20) rfl ?_; ((refine Wl_min (k' := ?_); rw [g2])) <;> (refine Wl_nil ?_)) <;> ((refine WlT_step (i := 8) rfl ?_; (refine Wl_len_str (k' := ?_)) <;> (refine Wl_nil ?_)) <;> ((refine WlT_step (i := 9) rfl ?_; ((refine Wl_min (k' := ?_); rw [g1])) <;> (refine Wl_nil ?_)) <;> ((refine WlT_step (i := 10) rfl ?_; (refine Wl_add (k' := ?_)) <;> (refine Wl_nil ?_)) <;> ((refine WlT_step (i := 21) rfl ?_; ((refine Wl_add (k' := ?_); rw [g3])) <;> (refine Wl_nil ?_)) <;> ((refine WlT_step (i := 22) rfl ?_; (refine Wl_assign (k := ?_)) <;> (refine Wl_nil ?_)) <;> (refine WlT_done (hK _ _ ?_); clear hK K)))))))))))))); (case' tq26 => ((refine WlT_step (i := 19) rfl ?_; (refine Wl_len_str (k' := ?_)) <;> (refine Wl_nil ?_)) <;> (refine WlT_alt ?tp32 ?tq32; (case' tp32 => ((refine WlT_step (i := 7) rfl ?_; ((refine Wl_loadG (v := .string x.k) (j := j * 5) (hq := by simp [Addr.add]) (hr := h1.any) (hv := by simpa using prC_cell (r := 0) hx (by omega) rfl) (k := ?_))) <;> (refine Wl_nil ?_)) <;> (refine WlT_alt ?tp33 ?tq33; (case' tp33 => ((refine WlT_step (i := 8) rfl ?_; (refine Wl_len_str (k' := ?_)) <;> (refine Wl_nil ?_)) <;> (refine WlT_alt ?tp34 ?tq34; (case' tp34 => ((refine WlT_step (i := 9) rfl ?_; ((refine Wl_min (k' := ?_); rw [g1])) <;> (refine Wl_nil ?_)) <;> ((refine WlT_step (i := 10) rfl ?_; (refine Wl_add (k' := ?_)) <;> (refine Wl_nil ?_)) <;> ((refine WlT_step (i := 20) rfl ?_; ((refine Wl_min (k' := ?_); rw [g2])) <;> (refine Wl_nil ?_)) <;> ((refine WlT_step (i := 21) rfl ?_; ((refine Wl_add (k' := ?_); rw [g3])) <;> (refine Wl_nil ?_)) <;> ((refine WlT_step (i := 22) rfl ?_; (refine Wl_assign (k := ?_)) <;> (refine Wl_nil ?_)) <;> (refine WlT_done (hK _ _ ?_); clear hK K))))))); (case' tq34 => ((refine WlT_step (i := 20) rfl ?_; ((refine Wl_min (k' := ?_); rw [g2])) <;> (refine Wl_nil ?_)) <;> ((refine WlT_step (i := 9) rfl ?_; ((refine Wl_min (k' := ?_); rw [g1])) <;> (refine Wl_nil ?_)) <;> ((refine WlT_step (i := 10) rfl ?_; (refine Wl_add (k' := ?_)) <;> (refine Wl_nil ?_)) <;> ((refine WlT_step (i := 21) rfl ?_; ((refine Wl_add (k' := ?_); rw [g3])) <;> (refine Wl_nil ?_)) <;> ((refine WlT_step (i := 22) rfl ?_; (refine Wl_assign (k := ?_)) <;> (refine Wl_nil ?_)) <;> (refine WlT_done (hK _ _ ?_); clear hK K)))))))))); (case' tq33 => ((refine WlT_step (i := 20) rfl ?_; ((refine Wl_min (k' := ?_); rw [g2])) <;> (refine Wl_nil ?_)) <;> ((refine WlT_step (i := 8) rfl ?_; (refine Wl_len_str (k' := ?_)) <;> (refine Wl_nil ?_)) <;> ((refine WlT_step (i := 9) rfl ?_; ((refine Wl_min (k' := ?_); rw [g1])) <;> (refine Wl_nil ?_)) <;> ((refine WlT_step (i := 10) rfl ?_; (refine Wl_add (k' := ?_)) <;> (refine Wl_nil ?_)) <;> ((refine WlT_step (i := 21) rfl ?_; ((refine Wl_add (k' := ?_); rw [g3])) <;> (refine Wl_nil ?_)) <;> ((refine WlT_step (i := 22) rfl ?_; (refine Wl_assign (k := ?_)) <;> (refine Wl_nil ?_)) <;> (refine WlT_done (hK _ _ ?_); clear hK K))))))))))); (case' tq32 => ((refine WlT_step (i := 20) rfl ?_; ((refine Wl_min (k' := ?_); rw [g2])) <;> (refine Wl_nil ?_)) <;> ((refine WlT_step (i := 7) rfl ?_; ((refine Wl_loadG (v := .string x.k) (j := j * 5) (hq := by simp [Addr.add]) (hr := h1.any) (hv := by simpa using prC_cell (r := 0) hx (by omega) rfl) (k := ?_))) <;> (refine Wl_nil ?_)) <;> ((refine WlT_step (i := 8) rfl ?_; (refine Wl_len_str (k' := ?_)) <;> (refine Wl_nil ?_)) <;> ((refine WlT_step (i := 9) rfl ?_; ((refine Wl_min (k' := ?_); rw [g1])) <;> (refine Wl_nil ?_)) <;> ((refine WlT_step (i := 10) rfl ?_; (refine Wl_add (k' := ?_)) <;> (refine Wl_nil ?_)) <;> ((refine WlT_step (i := 21) rfl ?_; ((refine Wl_add (k' := ?_); rw [g3])) <;> (refine Wl_nil ?_)) <;> ((refine WlT_step (i := 22) rfl ?_; (refine Wl_assign (k := ?_)) <;> (refine Wl_nil ?_)) <;> (refine WlT_done (hK _ _ ?_); clear hK K)))))))))))))))))))))))))); (case' tq0 => ((refine WlT_step (i := 13) rfl ?_; (refine Wl_load (k := ?_)) <;> (refine Wl_nil ?_)) <;> ((refine WlT_step (i := 15) rfl ?_; ((refine Wl_index_any (k' := ?_))) <;> (refine Wl_nil ?_)) <;> ((refine WlT_step (i := 16) rfl ?_; ((refine Wl_fieldAddrG (k := ?_))) <;> (refine Wl_nil ?_)) <;> ((refine WlT_step (i := 17) rfl ?_; ((refine Wl_fieldAddrG (k := ?_))) <;> (refine Wl_nil ?_)) <;> (refine WlT_alt ?tp35 ?tq35; (case' tp35 => ((refine WlT_step (i := 3) rfl ?_; (refine Wl_load (k := ?_)) <;> (refine Wl_nil ?_)) <;> ((refine WlT_step (i := 5) rfl ?_; ((refine Wl_index_any (k' := ?_))) <;> (refine Wl_nil ?_)) <;> ((refine WlT_step (i := 6) rfl ?_; ((refine Wl_fieldAddrG (k := ?_))) <;> (refine Wl_nil ?_)) <;> (refine WlT_alt ?tp36 ?tq36; (case' tp36 => ((refine WlT_step (i := 7) rfl ?_; ((refine Wl_loadG (v := .string x.k) (j := j * 5) (hq := by simp [Addr.add]) (hr := h1.any) (hv := by simpa using prC_cell (r := 0) hx (by omega) rfl) (k := ?_))) <;> (refine Wl_nil ?_)) <;> (refine WlT_alt ?tp37 ?tq37; (case' tp37 => ((refine WlT_step (i := 8) rfl ?_; (refine Wl_len_str (k' := ?_)) <;> (refine Wl_nil ?_)) <;> (refine WlT_alt ?tp38 ?tq38; (case' tp38 => ((refine WlT_step (i := 9) rfl ?_; ((refine Wl_min (k' := ?_); rw [g1])) <;> (refine Wl_nil ?_)) <;> ((refine WlT_step (i := 10) rfl ?_; (refine Wl_add (k' := ?_)) <;> (refine Wl_nil ?_)) <;> ((refine WlT_step (i := 18) rfl ?_; ((refine Wl_loadG (v := .string x.v.d) (j := j * 5 + 4) (hq := by simp [Addr.add]; split <;> simp_all <;> omega) (hr := h1.any) (hv := prC_cell (r := 4) hx (by omega) rfl) (k := ?_))) <;> (refine Wl_nil ?_)) <;> ((refine WlT_step (i := 19) rfl ?_; (refine Wl_len_str (k' := ?_)) <;> (refine Wl_nil ?_)) <;> ((refine WlT_step (i := 20) rfl ?_; ((refine Wl_min (k' := ?_); rw [g2])) <;> (refine Wl_nil ?_)) <;> ((refine WlT_step (i := 21) rfl ?_; ((refine Wl_add (k' := ?_); rw [g3])) <;> (refine Wl_nil ?_)) <;> ((refine WlT_step (i := 22) rfl ?_; (refine Wl_assign (k := ?_)) <;> (refine Wl_nil ?_)) <;> (refine WlT_done (hK _ _ ?_); clear hK K))))))))); (case' tq38 => ((refine WlT_step (i := 18) rfl ?_; ((refine Wl_loadG (v := .string x.v.d) (j := j * 5 + 4) (hq := by simp [Addr.add]; split <;> simp_all <;> omega) (hr := h1.any) (hv := prC_cell (r := 4) hx (by omega) rfl) (k := ?_))) <;> (refine Wl_nil ?_)) <;> (refine WlT_alt ?tp39 ?tq39; (case' tp39 => ((refine WlT_step (i := 9) rfl ?_; ((refine Wl_min (k' := ?_); rw [g1])) <;> (refine Wl_nil ?_)) <;> ((refine WlT_step (i := 10) rfl ?_; (refine Wl_add (k' := ?_)) <;> (refine Wl_nil ?_)) <;> ((refine WlT_step (i := 19) rfl ?_; (refine Wl_len_str (k' := ?_)) <;> (refine Wl_nil ?_)) <;> ((refine WlT_step (i := 20) rfl ?_; ((refine Wl_min (k' := ?_); rw [g2])) <;> (refine Wl_nil ?_)) <;> ((refine WlT_step (i := 21) rfl ?_; ((refine Wl_add (k' := ?_); rw [g3])) <;> (refine Wl_nil ?_)) <;> ((refine WlT_step (i := 22) rfl ?_; (refine Wl_assign (k := ?_)) <;> (refine Wl_nil ?_)) <;> (refine WlT_done (hK _ _ ?_); clear hK K)))))))); (case' tq39 => ((refine WlT_step (i := 19) rfl ?_; (refine Wl_len_str (k' := ?_)) <;> (refine Wl_nil ?_)) <;> (refine WlT_alt ?tp40 ?tq40; (case' tp40 => ((refine WlT_step (i := 9) rfl ?_; ((refine Wl_min (k' := ?_); rw [g1])) <;> (refine Wl_nil ?_)) <;> ((refine WlT_step (i := 10) rfl ?_; (refine Wl_add (k' := ?_)) <;> (refine Wl_nil ?_)) <;> ((refine WlT_step (i := 20) rfl ?_; ((refine Wl_min (k' := ?_); rw [g2])) <;> (refine Wl_nil ?_)) <;> ((refine WlT_step (i := 21) rfl ?_; ((refine Wl_add (k' := ?_); rw [g3])) <;> (refine Wl_nil ?_)) <;> ((refine WlT_step (i := 22) rfl ?_; (refine Wl_assign (k := ?_)) <;> (refine Wl_nil ?_)) <;> (refine WlT_done (hK _ _ ?_); clear hK K))))))); (case' tq40 => ((refine WlT_step (i := 20) rfl ?_; ((refine Wl_min (k' := ?_); rw [g2])) <;> (refine Wl_nil ?_)) <;> ((refine WlT_step (i := 9) rfl ?_; ((refine Wl_min (k' := ?_); rw [g1])) <;> (refine Wl_nil ?_)) <;> ((refine WlT_step (i := 10) rfl ?_; (refine Wl_add (k' := ?_)) <;> (refine Wl_nil ?_)) <;> ((refine WlT_step (i := 21) rfl ?_; ((refine Wl_add (k' := ?_); rw [g3])) <;> (refine Wl_nil ?_)) <;> ((refine WlT_step (i := 22) rfl ?_; (refine Wl_assign (k := ?_)) <;> (refine Wl_nil ?_)) <;> (refine WlT_done (hK _ _ ?_); clear hK K)))))))))))))))); (case' tq37 => ((refine WlT_step (i := 18) rfl ?_; ((refine Wl_loadG (v := .string x.v.d) (j := j * 5 + 4) (hq := by simp [Addr.add]; split <;> simp_all <;> omega) (hr := h1.any) (hv := prC_cell (r := 4) hx (by omega) rfl) (k := ?_))) <;> (refine Wl_nil ?_)) <;> (refine WlT_alt ?tp41 ?tq41; (case' tp41 => ((refine WlT_step (i := 8) rfl ?_; (refine Wl_len_str (k' := ?_)) <;> (refine Wl_nil ?_)) <;> (refine WlT_alt ?tp42 ?tq42; (case' tp42 => ((refine WlT_step (i := 9) rfl ?_; ((refine Wl_min (k' := ?_); rw [g1])) <;> (refine Wl_nil ?_)) <;> ((refine WlT_step (i := 10) rfl ?_; (refine Wl_add (k' := ?_)) <;> (refine Wl_nil ?_)) <;> ((refine WlT_step (i := 19) rfl ?_; (refine Wl_len_str (k' := ?_)) <;> (refine Wl_nil ?_)) <;> ((refine WlT_step (i := 20) rfl ?_; ((refine Wl_min (k' := ?_); rw [g2])) <;> (refine Wl_nil ?_)) <;> ((refine WlT_step (i := 21) rfl ?_; ((refine Wl_add (k' := ?_); rw [g3])) <;> (refine Wl_nil ?_)) <;> ((refine WlT_step (i := 22) rfl ?_; (refine Wl_assign (k := ?_)) <;> (refine Wl_nil ?_)) <;> (refine WlT_done (hK _ _ ?_); clear hK K)))))))); (case' tq42 => ((refine WlT_step (i := 19) rfl ?_; (refine Wl_len_str (k' := ?_)) <;> (refine Wl_nil ?_)) <;> (refine WlT_alt ?tp43 ?tq43; (case' tp43 => ((refine WlT_step (i := 9) rfl ?_; ((refine Wl_min (k' := ?_); rw [g1])) <;> (refine Wl_nil ?_)) <;> ((refine WlT_step (i := 10) rfl ?_; (refine Wl_add (k' := ?_)) <;> (refine Wl_nil ?_)) <;> ((refine WlT_step (i := 20) rfl ?_; ((refine Wl_min (k' := ?_); rw [g2])) <;> (refine Wl_nil ?_)) <;> ((refine WlT_step (i := 21) rfl ?_; ((refine Wl_add (k' := ?_); rw [g3])) <;> (refine Wl_nil ?_)) <;> ((refine WlT_step (i := 22) rfl ?_; (refine Wl_assign (k := ?_)) <;> (refine Wl_nil ?_)) <;> (refine WlT_done (hK _ _ ?_); clear hK K))))))); (case' tq43 => ((refine WlT_step (i := 20) rfl ?_; ((refine Wl_min (k' := ?_); rw [g2])) <;> (refine Wl_nil ?_)) <;> ((refine WlT_step (i := 9) rfl ?_; ((refine Wl_min (k' := ?_); rw [g1])) <;> (refine Wl_nil ?_)) <;> ((refine WlT_step (i := 10) rfl ?_; (refine Wl_add (k' := ?_)) <;> (refine Wl_nil ?_)) <;> ((refine WlT_step (i := 21) rfl ?_; ((refine Wl_add (k' := ?_); rw [g3])) <;> (refine Wl_nil ?_)) <;> ((refine WlT_step (i := 22) rfl ?_; (refine Wl_assign (k := ?_)) <;> (refine Wl_nil ?_)) <;> (refine WlT_done (hK _ _ ?_); clear hK K))))))))))))); (case' tq41 => ((refine WlT_step (i := 19) rfl ?_; (refine Wl_len_str (k' := ?_)) <;> (refine Wl_nil ?_)) <;> (refine WlT_alt ?tp44 ?tq44; (case' tp44 => ((refine WlT_step (i := 8) rfl ?_; (refine Wl_len_str (k' := ?_)) <;> (refine Wl_nil ?_)) <;> (refine WlT_alt ?tp45 ?tq45; (case' tp45 => ((refine WlT_step (i := 9) rfl ?_; ((refine Wl_min (k' := ?_); rw [g1])) <;> (refine Wl_nil ?_)) <;> ((refine WlT_step (i := 10) rfl ?_; (refine Wl_add (k' := ?_)) <;> (refine Wl_nil ?_)) <;> ((refine WlT_step (i := 20) rfl ?_; ((refine Wl_min (k' := ?_); rw [g2])) <;> (refine Wl_nil ?_)) <;> ((refine WlT_step (i := 21) rfl ?_; ((refine Wl_add (k' := ?_); rw [g3])) <;> (refine Wl_nil ?_)) <;> ((refine WlT_step (i := 22) rfl ?_; (refine Wl_assign (k := ?_)) <;> (refine Wl_nil ?_)) <;> (refine WlT_done (hK _ _ ?_); clear hK K))))))); (case' tq45 => ((refine WlT_step (i := 20) rfl ?_; ((refine Wl_min (k' := ?_); rw [g2])) <;> (refine Wl_nil ?_)) <;> ((refine WlT_step (i := 9) rfl ?_; ((refine Wl_min (k' := ?_); rw [g1])) <;> (refine Wl_nil ?_)) <;> ((refine WlT_step (i := 10) rfl ?_; (refine Wl_add (k' := ?_)) <;> (refine Wl_nil ?_)) <;> ((refine WlT_step (i := 21) rfl ?_; ((refine Wl_add (k' := ?_); rw [g3])) <;> (refine Wl_nil ?_)) <;> ((refine WlT_step (i := 22) rfl ?_; (refine Wl_assign (k := ?_)) <;> (refine Wl_nil ?_)) <;> (refine WlT_done (hK _ _ ?_); clear hK K)))))))))); (case' tq44 => ((refine WlT_step (i := 20) rfl ?_; ((refine Wl_min (k' := ?_); rw [g2])) <;> (refine Wl_nil ?_)) <;> ((refine WlT_step (i := 8) rfl ?_; (refine Wl_len_str (k' := ?_)) <;> (refine Wl_nil ?_)) <;> ((refine WlT_step (i := 9) rfl ?_; ((refine Wl_min (k' := ?_); rw [g1])) <;> (refine Wl_nil ?_)) <;> ((refine WlT_step (i := 10) rfl ?_; (refine Wl_add (k' := ?_)) <;> (refine Wl_nil ?_)) <;> ((refine WlT_step (i := 21) rfl ?_; ((refine Wl_add (k' := ?_); rw [g3])) <;> (refine Wl_nil ?_)) <;> ((refine WlT_step (i := 22) rfl ?_; (refine Wl_assign (k := ?_)) <;> (refine Wl_nil ?_)) <;> (refine WlT_done (hK _ _ ?_); clear hK K))))))))))))))))); (case' tq36 => ((refine WlT_step (i := 18) rfl ?_; ((refine Wl_loadG (v := .string x.v.d) (j := j * 5 + 4) (hq := by simp [Addr.add]; split <;> simp_all <;> omega) (hr := h1.any) (hv := prC_cell (r := 4) hx (by omega) rfl) (k := ?_))) <;> (refine Wl_nil ?_)) <;> (refine WlT_alt ?tp46 ?tq46; (case' tp46 => ((refine WlT_step (i := 7) rfl ?_; ((refine Wl_loadG (v := .string x.k) (j := j * 5) (hq := by simp [Addr.add]) (hr := h1.any) (hv := by simpa using prC_cell (r := 0) hx (by omega) rfl) (k := ?_))) <;> (refine Wl_nil ?_)) <;> (refine WlT_alt ?tp47 ?tq47; (case' tp47 => ((refine WlT_step (i := 8) rfl ?_; (refine Wl_len_str (k' := ?_)) <;> (refine Wl_nil ?_)) <;> (refine WlT_alt ?tp48 ?tq48; (case' tp48 => ((refine WlT_step (i := 9) rfl ?_; ((refine Wl_min (k' := ?_); rw [g1])) <;> (refine Wl_nil ?_)) <;> ((refine WlT_step (i := 10) rfl ?_; (refine Wl_add (k' := ?_)) <;> (refine Wl_nil ?_)) <;> ((refine WlT_step (i := 19) rfl ?_; (refine Wl_len_str (k' := ?_)) <;> (refine Wl_nil ?_)) <;> ((refine WlT_step (i := 20) rfl ?_; ((refine Wl_min (k' := ?_); rw [g2])) <;> (refine Wl_nil ?_)) <;> ((refine WlT_step (i := 21) rfl ?_; ((refine Wl_add (k' := ?_); rw [g3])) <;> (refine Wl_nil ?_)) <;> ((refine WlT_step (i := 22) rfl ?_; (refine Wl_assign (k := ?_)) <;> (refine Wl_nil ?_)) <;> (refine WlT_done (hK _ _ ?_); clear hK K)))))))); (case' tq48 => ((refine WlT_step (i := 19) rfl ?_; (refine Wl_len_str (k' := ?_)) <;> (refine Wl_nil ?_)) <;> (refine WlT_alt ?tp49 ?tq49; (case' tp49 => ((refine WlT_step (i := 9) rfl ?_; ((refine Wl_min (k' := ?_); rw [g1])) <;> (refine Wl_nil ?_)) <;> ((refine WlT_step (i := 10) rfl ?_; (refine Wl_add (k' := ?_)) <;> (refine Wl_nil ?_)) <;> ((refine WlT_step (i := 20) rfl ?_; ((refine Wl_min (k' := ?_); rw [g2])) <;> (refine Wl_nil ?_)) <;> ((refine WlT_step (i := 21) rfl ?_; ((refine Wl_add (k' := ?_); rw [g3])) <;> (refine Wl_nil ?_)) <;> ((refine WlT_step (i := 22) rfl ?_; (refine Wl_assign (k := ?_)) <;> (refine Wl_nil ?_)) <;> (refine WlT_done (hK _ _ ?_); clear hK K))))))); (case' tq49 => ((refine WlT_step (i := 20) rfl ?_; ((refine Wl_min (k' := ?_); rw [g2])) <;> (refine Wl_nil ?_)) <;> ((refine WlT_step (i := 9) rfl ?_; ((refine Wl_min (k' := ?_); rw [g1])) <;> (refine Wl_nil ?_)) <;> ((refine WlT_step (i := 10) rfl ?_; (refine Wl_add (k' := ?_)) <;> (refine Wl_nil ?_)) <;> ((refine WlT_step (i := 21) rfl ?_; ((refine Wl_add (k' := ?_); rw [g3])) <;> (refine Wl_nil ?_)) <;> ((refine WlT_step (i := 22) rfl ?_; (refine Wl_assign (k := ?_)) <;> (refine Wl_nil ?_)) <;> (refine WlT_done (hK _ _ ?_); clear hK K))))))))))))); (case' tq47 => ((refine WlT_step (i := 19) rfl ?_; (refine Wl_len_str (k' := ?_)) <;> (refine Wl_nil ?_)) <;> (refine WlT_alt ?tp50 ?tq50; (case' tp50 => ((refine WlT_step (i := 8) rfl ?_; (refine Wl_len_str (k' := ?_)) <;> (refine Wl_nil ?_)) <;> (refine WlT_alt ?tp51 ?tq51; (case' tp51 => ((refine WlT_step (i := 9) rfl ?_; ((refine Wl_min (k' := ?_); rw [g1])) <;> (refine Wl_nil ?_)) <;> ((refine WlT_step (i := 10) rfl ?_; (refine Wl_add (k' := ?_)) <;> (refine Wl_nil ?_)) <;> ((refine WlT_step (i := 20) rfl ?_; ((refine Wl_min (k' := ?_); rw [g2])) <;> (refine Wl_nil ?_)) <;> ((refine WlT_step (i := 21) rfl ?_; ((refine Wl_add (k' := ?_); rw [g3])) <;> (refine Wl_nil ?_)) <;> ((refine WlT_step (i := 22) rfl ?_; (refine Wl_assign (k := ?_)) <;> (refine Wl_nil ?_)) <;> (refine WlT_done (hK _ _ ?_); clear hK K))))))); (case' tq51 => ((refine WlT_step (i := 20) rfl ?_; ((refine Wl_min (k' := ?_); rw [g2])) <;> (refine Wl_nil ?_)) <;> ((refine WlT_step (i := 9) rfl ?_; ((refine Wl_min (k' := ?_); rw [g1])) <;> (refine Wl_nil ?_)) <;> ((refine WlT_step (i := 10) rfl ?_; (refine Wl_add (k' := ?_)) <;> (refine Wl_nil ?_)) <;> ((refine WlT_step (i := 21) rfl ?_; ((refine Wl_add (k' := ?_); rw [g3])) <;> (refine Wl_nil ?_)) <;> ((refine WlT_step (i := 22) rfl ?_; (refine Wl_assign (k := ?_)) <;> (refine Wl_nil ?_)) <;> (refine WlT_done (hK _ _ ?_); clear hK K)))))))))); (case' tq50 => ((refine WlT_step (i := 20) rfl ?_; ((refine Wl_min (k' := ?_); rw [g2])) <;> (refine Wl_nil ?_)) <;> ((refine WlT_step (i := 8) rfl ?_; (refine Wl_len_str (k' := ?_)) <;> (refine Wl_nil ?_)) <;> ((refine WlT_step (i := 9) rfl ?_; ((refine Wl_min (k' := ?_); rw [g1])) <;> (refine Wl_nil ?_)) <;> ((refine WlT_step (i := 10) rfl ?_; (refine Wl_add (k' := ?_)) <;> (refine Wl_nil ?_)) <;> ((refine WlT_step (i := 21) rfl ?_; ((refine Wl_add (k' := ?_); rw [g3])) <;> (refine Wl_nil ?_)) <;> ((refine WlT_step (i := 22) rfl ?_; (refine Wl_assign (k := ?_)) <;> (refine Wl_nil ?_)) <;> (refine WlT_done (hK _ _ ?_); clear hK K)))))))))))))); (case' tq46 => ((refine WlT_step (i := 19) rfl ?_; (refine Wl_len_str (k' := ?_)) <;> (refine Wl_nil ?_)) <;> (refine WlT_alt ?tp52 ?tq52; (case' tp52 => ((refine WlT_step (i := 7) rfl ?_; ((refine Wl_loadG (v := .string x.k) (j := j * 5) (hq := by simp [Addr.add]) (hr := h1.any) (hv := by simpa using prC_cell (r := 0) hx (by omega) rfl) (k := ?_))) <;> (refine Wl_nil ?_)) <;> (refine WlT_alt ?tp53 ?tq53; (case' tp53 => ((refine WlT_step (i := 8) rfl ?_; (refine Wl_len_str (k' := ?_)) <;> (refine Wl_nil ?_)) <;> (refine WlT_alt ?tp54 ?tq54; (case' tp54 => ((refine WlT_step (i := 9) rfl ?_; ((refine Wl_min (k' := ?_); rw [g1])) <;> (refine Wl_nil ?_)) <;> ((refine WlT_step (i := 10) rfl ?_; (refine Wl_add (k' := ?_)) <;> (refine Wl_nil ?_)) <;> ((refine WlT_step (i := 20) rfl ?_; ((refine Wl_min (k' := ?_); rw [g2])) <;> (refine Wl_nil ?_)) <;> ((refine WlT_step (i := 21) rfl ?_; ((refine Wl_add (k' := ?_); rw [g3])) <;> (refine Wl_nil ?_)) <;> ((refine WlT_step (i := 22) rfl ?_; (refine Wl_assign (k := ?_)) <;> (refine Wl_nil ?_)) <;> (refine WlT_done (hK _ _ ?_); clear hK K))))))); (case' tq54 => ((refine WlT_step (i := 20) rfl ?_; ((refine Wl_min (k' := ?_); rw [g2])) <;> (refine Wl_nil ?_)) <;> ((refine WlT_step (i := 9) rfl ?_; ((refine Wl_min (k' := ?_); rw [g1])) <;> (refine Wl_nil ?_)) <;> ((refine WlT_step (i := 10) rfl ?_; (refine Wl_add (k' := ?_)) <;> (refine Wl_nil ?_)) <;> ((refine WlT_step (i := 21) rfl ?_; ((refine Wl_add (k' := ?_); rw [g3])) <;> (refine Wl_nil ?_)) <;> ((refine WlT_step (i := 22) rfl ?_; (refine Wl_assign (k := ?_)) <;> (refine Wl_nil ?_)) <;> (refine WlT_done (hK _ _ ?_); clear hK K)))))))))); (case' tq53 => ((refine WlT_step (i := 20) rfl ?_; ((refine Wl_min (k' := ?_); rw [g2])) <;> (refine Wl_nil ?_)) <;> ((refine WlT_step (i := 8) rfl ?_; (refine Wl_len_str (k' := ?_)) <;> (refine Wl_nil ?_)) <;> ((refine WlT_step (i := 9) rfl ?_; ((refine Wl_min (k' := ?_); rw [g1])) <;> (refine Wl_nil ?_)) <;> ((refine WlT_step (i := 10) rfl ?_; (refine Wl_add (k' := ?_)) <;> (refine Wl_nil ?_)) <;> ((refine WlT_step (i := 21) rfl ?_; ((refine Wl_add (k' := ?_); rw [g3])) <;> (refine Wl_nil ?_)) <;> ((refine WlT_step (i := 22) rfl ?_; (refine Wl_assign (k := ?_)) <;> (refine Wl_nil ?_)) <;> (refine WlT_done (hK _ _ ?_); clear hK K))))))))))); (case' tq52 => ((refine WlT_step (i := 20) rfl ?_; ((refine Wl_min (k' := ?_); rw [g2])) <;> (refine Wl_nil ?_)) <;> ((refine WlT_step (i := 7) rfl ?_; ((refine Wl_loadG (v := .string x.k) (j := j * 5) (hq := by simp [Addr.add]) (hr := h1.any) (hv := by simpa using prC_cell (r := 0) hx (by omega) rfl) (k := ?_))) <;> (refine Wl_nil ?_)) <;> ((refine WlT_step (i := 8) rfl ?_; (refine Wl_len_str (k' := ?_)) <;> (refine Wl_nil ?_)) <;> ((refine WlT_step (i := 9) rfl ?_; ((refine Wl_min (k' := ?_); rw [g1])) <;> (refine Wl_nil ?_)) <;> ((refine WlT_step (i := 10) rfl ?_; (refine Wl_add (k' := ?_)) <;> (refine Wl_nil ?_)) <;> ((refine WlT_step (i := 21) rfl ?_; ((refine Wl_add (k' := ?_); rw [g3])) <;> (refine Wl_nil ?_)) <;> ((refine WlT_step (i := 22) rfl ?_; (refine Wl_assign (k := ?_)) <;> (refine Wl_nil ?_)) <;> (refine WlT_done (hK _ _ ?_); clear hK K)))))))))))))))))))); (case' tq35 => ((refine WlT_step (i := 18) rfl ?_; ((refine Wl_loadG (v := .string x.v.d) (j := j * 5 + 4) (hq := by simp [Addr.add]; split <;> simp_all <;> omega) (hr := h1.any) (hv := prC_cell (r := 4) hx (by omega) rfl) (k := ?_))) <;> (refine Wl_nil ?_)) <;> (refine WlT_alt ?tp55 ?tq55; (case' tp55 => ((refine WlT_step (i := 3) rfl ?_; (refine Wl_load (k := ?_)) <;> (refine Wl_nil ?_)) <;> ((refine WlT_step (i := 5) rfl ?_; ((refine Wl_index_any (k' := ?_))) <;> (refine Wl_nil ?_)) <;> ((refine WlT_step (i := 6) rfl ?_; ((refine Wl_fieldAddrG (k := ?_))) <;> (refine Wl_nil ?_)) <;> (refine WlT_alt ?tp56 ?tq56; (case' tp56 => ((refine WlT_step (i := 7) rfl ?_; ((refine Wl_loadG (v := .string x.k) (j := j * 5) (hq := by simp [Addr.add]) (hr := h1.any) (hv := by simpa using prC_cell (r := 0) hx (by omega) rfl) (k := ?_))) <;> (refine Wl_nil ?_)) <;> (refine WlT_alt ?tp57 ?tq57; (case' tp57 => ((refine WlT_step (i := 8) rfl ?_; (refine Wl_len_str (k' := ?_)) <;> (refine Wl_nil ?_)) <;> (refine WlT_alt ?tp58 ?tq58; (case' tp58 => ((refine WlT_step (i := 9) rfl ?_; ((refine Wl_min (k' := ?_); rw [g1])) <;> (refine Wl_nil ?_)) <;> ((refine WlT_step (i := 10) rfl ?_; (refine Wl_add (k' := ?_)) <;> (refine Wl_nil ?_)) <;> ((refine WlT_step (i := 19) rfl ?_; (refine Wl_len_str (k' := ?_)) <;> (refine Wl_nil ?_)) <;> ((refine WlT_step (i := 20) rfl ?_; ((refine Wl_min (k' := ?_); rw [g2])) <;> (refine Wl_nil ?_)) <;> ((refine WlT_step (i := 21) rfl ?_; ((refine Wl_add (k' := ?_); rw [g3])) <;> (refine Wl_nil ?_)) <;> ((refine WlT_step (i := 22) rfl ?_; (refine Wl_assign (k := ?_)) <;> (refine Wl_nil ?_)) <;> (refine WlT_done (hK _ _ ?_); clear hK K)))))))); (case' tq58 => ((refine WlT_step (i := 19) rfl ?_; (refine Wl_len_str (k' := ?_)) <;> (refine Wl_nil ?_)) <;> (refine WlT_alt ?tp59 ?tq59; (case' tp59 => ((refine WlT_step (i := 9) rfl ?_; ((refine Wl_min (k' := ?_); rw [g1])) <;> (refine Wl_nil ?_)) <;> ((refine WlT_step (i := 10) rfl ?_; (refine Wl_add (k' := ?_)) <;> (refine Wl_nil ?_)) <;> ((refine WlT_step (i := 20) rfl ?_; ((refine Wl_min (k' := ?_); rw [g2])) <;> (refine Wl_nil ?_)) <;> ((refine WlT_step (i := 21) rfl ?_; ((refine Wl_add (k' := ?_); rw [g3])) <;> (refine Wl_nil ?_)) <;> ((refine WlT_step (i := 22) rfl ?_; (refine Wl_assign (k := ?_)) <;> (refine Wl_nil ?_)) <;> (refine WlT_done (hK _ _ ?_); clear hK K))))))); (case' tq59 => ((refine WlT_step (i := 20) rfl ?_; ((refine Wl_min (k' := ?_); rw [g2])) <;> (refine Wl_nil ?_)) <;> ((refine WlT_step (i := 9) rfl ?_; ((refine Wl_min (k' := ?_); rw [g1])) <;> (refine Wl_nil ?_)) <;> ((refine WlT_step (i := 10) rfl ?_; (refine Wl_add (k' := ?_)) <;> (refine Wl_nil ?_)) <;> ((refine WlT_step (i := 21) rfl ?_; ((refine Wl_add (k' := ?_); rw [g3])) <;> (refine Wl_nil ?_)) <;> ((refine WlT_step (i := 22) rfl ?_; (refine Wl_assign (k := ?_)) <;> (refine Wl_nil ?_)) <;> (refine WlT_done (hK _ _ ?_); clear hK K))))))))))))); (case' tq57 => ((refine WlT_step (i := 19) rfl ?_; (refine Wl_len_str (k' := ?_)) <;> (refine Wl_nil ?_)) <;> (refine WlT_alt ?tp60 ?tq60; (case' tp60 => ((refine WlT_step (i := 8) rfl ?_; (refine Wl_len_str (k' := ?_)) <;> (refine Wl_nil ?_)) <;> (refine WlT_alt ?tp61 ?tq61; (case' tp61 => ((refine WlT_step (i := 9) rfl ?_; ((refine Wl_min (k' := ?_); rw [g1])) <;> (refine Wl_nil ?_)) <;> ((refine WlT_step (i := 10) rfl ?_; (refine Wl_add (k' := ?_)) <;> (refine Wl_nil ?_)) <;> ((refine WlT_step (i := 20) rfl ?_; ((refine Wl_min (k' := ?_); rw [g2])) <;> (refine Wl_nil ?_)) <;> ((refine WlT_step (i := 21) rfl ?_; ((refine Wl_add (k' := ?_); rw [g3])) <;> (refine Wl_nil ?_)) <;> ((refine WlT_step (i := 22) rfl ?_; (refine Wl_assign (k := ?_)) <;> (refine Wl_nil ?_)) <;> (refine WlT_done (hK _ _ ?_); clear hK K))))))); (case' tq61 => ((refine WlT_step (i := 20) rfl ?_; ((refine Wl_min (k' := ?_); rw [g2])) <;> (refine Wl_nil ?_)) <;> ((refine WlT_step (i := 9) rfl ?_; ((refine Wl_min (k' := ?_); rw [g1])) <;> (refine Wl_nil ?_)) <;> ((refine WlT_step (i := 10) rfl ?_; (refine Wl_add (k' := ?_)) <;> (refine Wl_nil ?_)) <;> ((refine WlT_step (i := 21) rfl ?_; ((refine Wl_add (k' := ?_); rw [g3])) <;> (refine Wl_nil ?_)) <;> ((refine WlT_step (i := 22) rfl ?_; (refine Wl_assign (k := ?_)) <;> (refine Wl_nil ?_)) <;> (refine WlT_done (hK _ _ ?_); clear hK K)))))))))); (case' tq60 => ((refine WlT_step (i := 20) rfl ?_; ((refine Wl_min (k' := ?_); rw [g2])) <;> (refine Wl_nil ?_)) <;> ((refine WlT_step (i := 8) rfl ?_; (refine Wl_len_str (k' := ?_)) <;> (refine Wl_nil ?_)) <;> ((refine WlT_step (i := 9) rfl ?_; ((refine Wl_min (k' := ?_); rw [g1])) <;> (refine Wl_nil ?_)) <;> ((refine WlT_step (i := 10) rfl ?_; (refine Wl_add (k' := ?_)) <;> (refine Wl_nil ?_)) <;> ((refine WlT_step (i := 21) rfl ?_; ((refine Wl_add (k' := ?_); rw [g3])) <;> (refine Wl_nil ?_)) <;> ((refine WlT_step (i := 22) rfl ?_; (refine Wl_assign (k := ?_)) <;> (refine Wl_nil ?_)) <;> (refine WlT_done (hK _ _ ?_); clear hK K)))))))))))))); (case' tq56 => ((refine WlT_step (i := 19) rfl ?_; (refine Wl_len_str (k' := ?_)) <;> (refine Wl_nil ?_)) <;> (refine WlT_alt ?tp62 ?tq62; (case' tp62 => ((refine WlT_step (i := 7) rfl ?_; ((refine Wl_loadG (v := .string x.k) (j := j * 5) (hq := by simp [Addr.add]) (hr := h1.any) (hv := by simpa using prC_cell (r := 0) hx (by omega) rfl) (k := ?_))) <;> (refine Wl_nil ?_)) <;> (refine WlT_alt ?tp63 ?tq63; (case' tp63 => ((refine WlT_step (i := 8) rfl ?_; (refine Wl_len_str (k' := ?_)) <;> (refine Wl_nil ?_)) <;> (refine WlT_alt ?tp64 ?tq64; (case' tp64 => ((refine WlT_step (i := 9) rfl ?_; ((refine Wl_min (k' := ?_); rw [g1])) <;> (refine Wl_nil ?_)) <;> ((refine WlT_step (i := 10) rfl ?_; (refine Wl_add (k' := ?_)) <;> (refine Wl_nil ?_)) <;> ((refine WlT_step (i := 20) rfl ?_; ((refine Wl_min (k' := ?_); rw [g2])) <;> (refine Wl_nil ?_)) <;> ((refine WlT_step (i := 21) rfl ?_; ((refine Wl_add (k' := ?_); rw [g3])) <;> (refine Wl_nil ?_)) <;> ((refine WlT_step (i := 22) rfl ?_; (refine Wl_assign (k := ?_)) <;> (refine Wl_nil ?_)) <;> (refine WlT_done (hK _ _ ?_); clear hK K))))))); (case' tq64 => ((refine WlT_step (i := 20) rfl ?_; ((refine Wl_min (k' := ?_); rw [g2])) <;> (refine Wl_nil ?_)) <;> ((refine WlT_step (i := 9) rfl ?_; ((refine Wl_min (k' := ?_); rw [g1])) <;> (refine Wl_nil ?_)) <;> ((refine WlT_step (i := 10) rfl ?_; (refine Wl_add (k' := ?_)) <;> (refine Wl_nil ?_)) <;> ((refine WlT_step (i := 21) rfl ?_; ((refine Wl_add (k' := ?_); rw [g3])) <;> (refine Wl_nil ?_)) <;> ((refine WlT_step (i := 22) rfl ?_; (refine Wl_assign (k := ?_)) <;> (refine Wl_nil ?_)) <;> (refine WlT_done (hK _ _ ?_); clear hK K)))))))))); (case' tq63 => ((refine WlT_step (i := 20) rfl ?_; ((refine Wl_min (k' := ?_); rw [g2])) <;> (refine Wl_nil ?_)) <;> ((refine WlT_step (i := 8) rfl ?_; (refine Wl_len_str (k' := ?_)) <;> (refine Wl_nil ?_)) <;> ((refine WlT_step (i := 9) rfl ?_; ((refine Wl_min (k' := ?_); rw [g1])) <;> (refine Wl_nil ?_)) <;> ((refine WlT_step (i := 10) rfl ?_; (refine Wl_add (k' := ?_)) <;> (refine Wl_nil ?_)) <;> ((refine WlT_step (i := 21) rfl ?_; ((refine Wl_add (k' := ?_); rw [g3])) <;> (refine Wl_nil ?_)) <;> ((refine WlT_step (i := 22) rfl ?_; (refine Wl_assign (k := ?_)) <;> (refine Wl_nil ?_)) <;> (refine WlT_done (hK _ _ ?_); clear hK K))))))))))); (case' tq62 => ((refine WlT_step (i := 20) rfl ?_; ((refine Wl_min (k' := ?_); rw [g2])) <;> (refine Wl_nil ?_)) <;> ((refine WlT_step (i := 7) rfl ?_; ((refine Wl_loadG (v := .string x.k) (j := j * 5) (hq := by simp [Addr.add]) (hr := h1.any) (hv := by simpa using prC_cell (r := 0) hx (by omega) rfl) (k := ?_))) <;> (refine Wl_nil ?_)) <;> ((refine WlT_step (i := 8) rfl ?_; (refine Wl_len_str (k' := ?_)) <;> (refine Wl_nil ?_)) <;> ((refine WlT_step (i := 9) rfl ?_; ((refine Wl_min (k' := ?_); rw [g1])) <;> (refine Wl_nil ?_)) <;> ((refine WlT_step (i := 10) rfl ?_; (refine Wl_add (k' := ?_)) <;> (refine Wl_nil ?_)) <;> ((refine WlT_step (i := 21) rfl ?_; ((refine Wl_add (k' := ?_); rw [g3])) <;> (refine Wl_nil ?_)) <;> ((refine WlT_step (i := 22) rfl ?_; (refine Wl_assign (k := ?_)) <;> (refine Wl_nil ?_)) <;> (refine WlT_done (hK _ _ ?_); clear hK K))))))))))))))))); (case' tq55 => ((refine WlT_step (i := 19) rfl ?_; (refine Wl_len_str (k' := ?_)) <;> (refine Wl_nil ?_)) <;> (refine WlT_alt ?tp65 ?tq65; (case' tp65 => ((refine WlT_step (i := 3) rfl ?_; (refine Wl_load (k := ?_)) <;> (refine Wl_nil ?_)) <;> ((refine WlT_step (i := 5) rfl ?_; ((refine Wl_index_any (k' := ?_))) <;> (refine Wl_nil ?_)) <;> ((refine WlT_step (i := 6) rfl ?_; ((refine Wl_fieldAddrG (k := ?_))) <;> (refine Wl_nil ?_)) <;> (refine WlT_alt ?tp66 ?tq66; (case' tp66 => ((refine WlT_step (i := 7) rfl ?_; ((refine Wl_loadG (v := .string x.k) (j := j * 5) (hq := by simp [Addr.add]) (hr := h1.any) (hv := by simpa using prC_cell (r := 0) hx (by omega) rfl) (k := ?_))) <;> (refine Wl_nil ?_)) <;> (refine WlT_alt ?tp67 ?tq67; (case' tp67 => ((refine WlT_step (i := 8) rfl ?_; (refine Wl_len_str (k' := ?_)) <;> (refine Wl_nil ?_)) <;> (refine WlT_alt ?tp68 ?tq68; (case' tp68 => ((refine WlT_step (i := 9) rfl ?_; ((refine Wl_min (k' := ?_); rw [g1])) <;> (refine Wl_nil ?_)) <;> ((refine WlT_step (i := 10) rfl ?_; (refine Wl_add (k' := ?_)) <;> (refine Wl_nil ?_)) <;> ((refine WlT_step (i := 20) rfl ?_; ((refine Wl_min (k' := ?_); rw [g2])) <;> (refine Wl_nil ?_)) <;> ((refine WlT_step (i := 21) rfl ?_; ((refine Wl_add (k' := ?_); rw [g3])) <;> (refine Wl_nil ?_)) <;> ((refine WlT_step (i := 22) rfl ?_; (refine Wl_assign (k := ?_)) <;> (refine Wl_nil ?_)) <;> (refine WlT_done (hK _ _ ?_); clear hK K))))))); (case' tq68 => ((refine WlT_step (i := 20) rfl ?_; ((refine Wl_min (k' := ?_); rw [g2])) <;> (refine Wl_nil ?_)) <;> ((refine WlT_step (i := 9) rfl ?_; ((refine Wl_min (k' := ?_); rw [g1])) <;> (refine Wl_nil ?_)) <;> ((refine WlT_step (i := 10) rfl ?_; (refine Wl_add (k' := ?_)) <;> (refine Wl_nil ?_)) <;> ((refine WlT_step (i := 21) rfl ?_; ((refine Wl_add (k' := ?_); rw [g3])) <;> (refine Wl_nil ?_)) <;> ((refine WlT_step (i := 22) rfl ?_; (refine Wl_assign (k := ?_)) <;> (refine Wl_nil ?_)) <;> (refine WlT_done (hK _ _ ?_); clear hK K)))))))))); (case' tq67 => ((refine WlT_step (i := 20) rfl ?_; ((refine Wl_min (k' := ?_); rw [g2])) <;> (refine Wl_nil ?_)) <;> ((refine WlT_step (i := 8) rfl ?_; (refine Wl_len_str (k' := ?_)) <;> (refine Wl_nil ?_)) <;> ((refine WlT_step (i := 9) rfl ?_; ((refine Wl_min (k' := ?_); rw [g1])) <;> (refine Wl_nil ?_)) <;> ((refine WlT_step (i := 10) rfl ?_; (refine Wl_add (k' := ?_)) <;> (refine Wl_nil ?_)) <;> ((refine WlT_step (i := 21) rfl ?_; ((refine Wl_add (k' := ?_); rw [g3])) <;> (refine Wl_nil ?_)) <;> ((refine WlT_step (i := 22) rfl ?_; (refine Wl_assign (k := ?_)) <;> (refine Wl_nil ?_)) <;> (refine WlT_done (hK _ _ ?_); clear hK K))))))))))); (case' tq66 => ((refine WlT_step (i := 20) rfl ?_; ((refine Wl_min (k' := ?_); rw [g2])) <;> (refine Wl_nil ?_)) <;> ((refine WlT_step (i := 7) rfl ?_; ((refine Wl_loadG (v := .string x.k) (j := j * 5) (hq := by simp [Addr.add]) (hr := h1.any) (hv := by simpa using prC_cell (r := 0) hx (by omega) rfl) (k := ?_))) <;> (refine Wl_nil ?_)) <;> ((refine WlT_step (i := 8) rfl ?_; (refine Wl_len_str (k' := ?_)) <;> (refine Wl_nil ?_)) <;> ((refine WlT_step (i := 9) rfl ?_; ((refine Wl_min (k' := ?_); rw [g1])) <;> (refine Wl_nil ?_)) <;> ((refine WlT_step (i := 10) rfl ?_; (refine Wl_add (k' := ?_)) <;> (refine Wl_nil ?_)) <;> ((refine WlT_step (i := 21) rfl ?_; ((refine Wl_add (k' := ?_); rw [g3])) <;> (refine Wl_nil ?_)) <;> ((refine WlT_step (i := 22) rfl ?_; (refine Wl_assign (k := ?_)) <;> (refine Wl_nil ?_)) <;> (refine WlT_done (hK _ _ ?_); clear hK K)))))))))))))); (case' tq65 => ((refine WlT_step (i := 20) rfl ?_; ((refine Wl_min (k' := ?_); rw [g2])) <;> (refine Wl_nil ?_)) <;> ((refine WlT_step (i := 3) rfl ?_; (refine Wl_load (k := ?_)) <;> (refine Wl_nil ?_)) <;> ((refine WlT_step (i := 5) rfl ?_; ((refine Wl_index_any (k' := ?_))) <;> (refine Wl_nil ?_)) <;> ((refine WlT_step (i := 6) rfl ?_; ((refine Wl_fieldAddrG (k := ?_))) <;> (refine Wl_nil ?_)) <;> ((refine WlT_step (i := 7) rfl ?_; ((refine Wl_loadG (v := .string x.k) (j := j * 5) (hq := by simp [Addr.add]) (hr := h1.any) (hv := by simpa using prC_cell (r := 0) hx (by omega) rfl) (k := ?_))) <;> (refine Wl_nil ?_)) <;> ((refine WlT_step (i := 8) rfl ?_; (refine Wl_len_str (k' := ?_)) <;> (refine Wl_nil ?_)) <;> ((refine WlT_step (i := 9) rfl ?_; ((refine Wl_min (k' := ?_); rw [g1])) <;> (refine Wl_nil ?_)) <;> ((refine WlT_step (i := 10) rfl ?_; (refine Wl_add (k' := ?_)) <;> (refine Wl_nil ?_)) <;> ((refine WlT_step (i := 21) rfl ?_; ((refine Wl_add (k' := ?_); rw [g3])) <;> (refine Wl_nil ?_)) <;> ((refine WlT_step (i := 22) rfl ?_; (refine Wl_assign (k := ?_)) <;> (refine Wl_nil ?_)) <;> (refine WlT_done (hK _ _ ?_); clear hK K))))))))))))))))))))))))))))))))))
      | (refine Wc_cond (ht := (fun ht => ?_)) (hf := (fun ht => ?_)) <;> (try simp at ht) <;> (try (exfalso; omega))))
    all_goals exact ⟨j + 1, by omega, by omega, ⟨rfl, rfl, int_succ j, trivial⟩, (by (repeat (first | exact Ent.refl _ | exact Ent.nil | refine Ent.take (by (repeat (first | exact Out.head | apply Out.tail)); (first | done | fail)) ?_ | refine Ent.drop1 ?_)); (first | done | fail))⟩
  obtain rfl : j = r.sn.ps.length := by omega
  repeat' (first
    | refine Wc_seq ?_
    | refine thenQ_normal ?_
    | refine Wc_cond_t (h := ?_)
    | refine Wc_cond_f (h := ?_)
    | refine Wc_ret ?_
    | refine thenQ_ret ?_
    | refine Wc_block ?_
    | refine blkQ_normal ?_
    | refine blkQ_ret ?_
    | refine Wc_exit ?_
    | refine thenQ_exit ?_
    | refine blkQ_hit ?_
    | refine blkQ_miss rfl ?_
    | refine Wc_skip ?_
    | refine Wc_label ?_
    | refine loopQ_exit ?_
    | refine loopQ_ret ?_
    | refine loopQ_normal ?_
    | (refine Wc_region (id := 5) ?_; intro K hK; refine Wl_move (k := ?_); refine Wl_fieldAddr (k := ?_); refine Wl_fieldAddr (k := ?_); refine Wl_load (k := ?_); refine Wl_len_sl (k' := ?_); refine Wl_lss (k' := ?_); (refine Wl_nil (hK _ _ ?_); clear hK K))
    | (refine Wc_region (id := 8) ?_; intro K hK; refine Wl_move (k := ?_); refine Wl_leq (k' := ?_); refine Wl_assign (k := ?_); (refine Wl_nil (hK _ _ ?_); clear hK K))
    | (refine Wc_cond (ht := (fun ht => ?_)) (hf := (fun ht => ?_)) <;> (try simp at ht) <;> (try (exfalso; omega))))
  refine ⟨Or.inr rfl, _, [], (by (repeat (first | exact Ent.refl _ | exact Ent.nil | refine Ent.take (by (repeat (first | exact Out.head | apply Out.tail)); (first | done | fail)) ?_ | refine Ent.drop1 ?_)); (first | done | fail)), res1 rfl rfl, congrArg Value.bool ?_, rfl⟩
  unfold lightV
  have e1 : decide (1000 < r.sn.ps.length) = false := decide_eq_false (by omega)
  have e2 : decide (1000 < r.sn.ss.length) = false := decide_eq_false (by omega)
  rw [e1, e2]
  simp only [Bool.or_false, Bool.not_false, Bool.true_and]
  exact decide_eq_decide.2 (by omega)
theorem snap_spec (A0 : List Asn) (b : SnX) (hps : b.ps.length ≤ 900000) (hss : b.ss.length ≤ 900000) (pa : Option Addr) (pc : Nat) (sa : Option Addr) (sc : Nat) (h1 : RdS Try.prog B A0 5 pa b.ps.length pc (prC b.ps)) (h2 : RdS Try.prog B A0 4 sa b.ss.length sc (ssC b.ss)) :
    Fspec Try.prog B 43 #[.agg #[.int .i64 b.e, .int .i64 b.i, .slice pa b.ps.length pc, .slice sa b.ss.length sc]] A0
      (fun v A' => ∃ a1 c1 a2 c2, v = .agg #[.int .i64 b.e, .int .i64 b.i, .slice a1 b.ps.length c1, .slice a2 b.ss.length c2] ∧ A' = own a2 b.ss.length c2 4 (ssC b.ss) 69 :: own a1 b.ps.length c1 5 (prC b.ps) 67 :: A0) := by
  refine spec_of (args := [_]) Try.func43 rfl rfl rfl ?_
  repeat' (first
    | refine Wc_seq ?_
    | refine thenQ_normal ?_
    | refine Wc_cond_t (h := ?_)
    | refine Wc_cond_f (h := ?_)
    | refine Wc_ret ?_
    | refine thenQ_ret ?_
    | refine Wc_block ?_
    | refine blkQ_normal ?_
    | refine blkQ_ret ?_
    | refine Wc_exit ?_
    | refine thenQ_exit ?_
    | refine blkQ_hit ?_
    | refine blkQ_miss rfl ?_
    | refine Wc_skip ?_
    | refine Wc_label ?_
    | refine loopQ_exit ?_
    | refine loopQ_ret ?_
    | refine loopQ_normal ?_
    | (refine Wc_region (id := 0) ?_; intro K hK; ((refine Wl_boxAgg (k := ?_); intro r1)) <;> (((refine Wl_alloc (k := ?_); intro r2)) <;> ((refine Wl_nil (hK _ _ ?_); clear hK K))))
    | (refine Wc_region (id := 1) ?_; intro K hK; ((refine Wl_lit0o (k := ?_); intro r3)) <;> (refine Wl_fieldAddr (k := ?_); refine Wl_load (k := ?_); ((refine Wl_appendR (hsrc := RdS.under (RdS.under (RdS.under h1))) (hvc := prC_all _) (hbd := by omega) (k := ?_); intro a6 c6)) <;> (refine Wl_fieldAddr (k := ?_); refine Wl_store (ho := rfl) (k := ?_); (refine Wl_nil (hK _ _ ?_); clear hK K))))
    | (refine Wc_region (id := 2) ?_; intro K hK; ((refine Wl_lit0o (k := ?_); intro r8)) <;> (refine Wl_fieldAddr (k := ?_); refine Wl_load (k := ?_); ((refine Wl_appendR (hsrc := RdS.under (RdS.under (RdS.under (RdS.under h2)))) (hvc := ssC_all _) (hbd := by omega) (k := ?_); intro a11 c11)) <;> (refine Wl_fieldAddr (k := ?_); refine Wl_store (ho := rfl) (k := ?_); (refine Wl_nil (hK _ _ ?_); clear hK K))))
    | (refine Wc_region (id := 3) ?_; intro K hK; refine Wl_loadR (k := ?_); refine Wl_storeR (ho' := rfl) (k := ?_); (refine Wl_nil (hK _ _ ?_); clear hK K))
    | (refine Wc_cond (ht := (fun ht => ?_)) (hf := (fun ht => ?_)) <;> (try simp at ht) <;> (try (exfalso; omega))))
  refine ⟨Or.inr rfl, _, own a11 b.ss.length c11 4 (ssC b.ss) 69 :: own a6 b.ps.length c6 5 (prC b.ps) 67 :: A0, ?_, resG rfl (by (repeat (first | exact ResL.nil | apply ResL.tmp (by (repeat (first | exact Ev.here | exact Ev.const | exact Ev.arg rfl | apply Ev.there rfl | exact Ev.none rfl | exact Ev.func | exact Ev.var)); (first | done | fail)) | apply ResL.agg (by (repeat (first | exact Ev.here | exact Ev.const | exact Ev.arg rfl | apply Ev.there rfl | exact Ev.none rfl | exact Ev.func | exact Ev.var)); (first | done | fail)) (by (repeat (first | exact Rd.head | exact Rd.base (by assumption) | apply Rd.tail)); (first | done | fail)) (by (repeat (first | exact TakeR.nil | apply TakeR.take | apply TakeR.skip)); (first | done | fail)) | apply ResL.cell (by (repeat (first | exact Ev.here | exact Ev.const | exact Ev.arg rfl | apply Ev.there rfl | exact Ev.none rfl | exact Ev.func | exact Ev.var)); (first | done | fail)) (by (repeat (first | exact Rd.head | exact Rd.base (by assumption) | apply Rd.tail)); (first | done | fail)) rfl)); (first | done | fail)) rfl, a6, c6, a11, c11, ?_, rfl⟩
  · simp only [Nat.zero_add, List.nil_append]
    (repeat (first | exact Ent.refl _ | exact Ent.nil | refine Ent.take (by (repeat (first | exact Out.head | apply Out.tail)); (first | done | fail)) ?_ | refine Ent.drop1 ?_))
  · simp only [Nat.zero_add]; rfl
theorem plain_spec (r : RcG) (hps : r.sn.ps.length ≤ 900000) (hss : r.sn.ss.length ≤ 900000) (pa : Option Addr) (pc : Nat) (sa : Option Addr) (sc : Nat) (h1 : RdS Try.prog B [] 5 pa r.sn.ps.length pc (prC r.sn.ps)) (h2 : RdS Try.prog B [] 4 sa r.sn.ss.length sc (ssC r.sn.ss)) :
    Fspec Try.prog B 19 #[.agg (r.c pa pc sa sc).toArray] []
      (fun v A' => ∃ a1 c1 a2 c2, v = .agg (r.c a1 c1 a2 c2).toArray ∧ A' = [own a2 r.sn.ss.length c2 4 (ssC r.sn.ss) 69, own a1 r.sn.ps.length c1 5 (prC r.sn.ps) 67]) := by
  refine spec_of (args := [_]) Try.func19 rfl rfl rfl ?_
  simp only [RcG.c]
  repeat' (first
    | refine Wc_seq ?_
    | refine thenQ_normal ?_
    | refine Wc_cond_t (h := ?_)
    | refine Wc_cond_f (h := ?_)
    | refine Wc_ret ?_
    | refine thenQ_ret ?_
    | refine Wc_block ?_
    | refine blkQ_normal ?_
    | refine blkQ_ret ?_
    | refine Wc_exit ?_
    | refine thenQ_exit ?_
    | refine blkQ_hit ?_
    | refine blkQ_miss rfl ?_
    | refine Wc_skip ?_
    | refine Wc_label ?_
    | refine loopQ_exit ?_
    | refine loopQ_ret ?_
    | refine loopQ_normal ?_
    | (refine Wc_region (id := 0) ?_; intro K hK; ((refine Wl_boxAgg (k := ?_); intro r1)) <;> (((refine Wl_alloc (k := ?_); intro r2)) <;> ((refine Wl_nil (hK _ _ ?_); clear hK K))))
    | ((refine Wc_treeF (id := 1) (M := ([cb r1 (r.c pa pc sa sc) 52])) (Ls := [4, 6, 8, 10, 12]) (t := (.step 0 (.step 1 (.step 2 (.step 3 (.step 4 (.step 5 (.step 6 (.step 7 (.step 8 (.step 9 (.step 10 (.step 11 (.step 12 .done)))))))))))))) (bad := []) (hok := (by decide +kernel)) (hp := (Pick.perm (by (repeat (first | exact Pick.nil | apply Pick.cons (by (repeat (first | exact Out.head | apply Out.tail)); (first | done | fail)))); (first | done | fail)))) (h := ?_); intro K hK; repeat' (first | refine WlT_alt ?_ ?_ | (refine WlT_step (i := 0) rfl ?_; (refine Wl_fieldAddr (k := ?_)) <;> (refine Wl_nil ?_)) | (refine WlT_step (i := 1) rfl ?_; (refine Wl_loadF (k := ?_)) <;> (refine Wl_nil ?_)) | (refine WlT_step (i := 2) rfl ?_; (refine Wl_fieldAddr (k := ?_)) <;> (refine Wl_nil ?_)) | (refine WlT_step (i := 3) rfl ?_; (refine Wl_loadRF (k := ?_)) <;> (refine Wl_nil ?_)) | (refine WlT_step (i := 4) rfl ?_; (refine Wl_fieldAddr (k := ?_)) <;> (refine Wl_nil ?_)) | (refine WlT_step (i := 5) rfl ?_; (refine Wl_loadRF (k := ?_)) <;> (refine Wl_nil ?_)) | (refine WlT_step (i := 6) rfl ?_; (refine Wl_fieldAddr (k := ?_)) <;> (refine Wl_nil ?_)) | (refine WlT_step (i := 7) rfl ?_; (refine Wl_loadF (k := ?_)) <;> (refine Wl_nil ?_)) | (refine WlT_step (i := 8) rfl ?_; (refine Wl_fieldAddr (k := ?_)) <;> (refine Wl_nil ?_)) | (refine WlT_step (i := 9) rfl ?_; (refine Wl_loadRF (k := ?_)) <;> (refine Wl_nil ?_)) | (refine WlT_step (i := 10) rfl ?_; ((refine Wl_call (hs := snap_spec [] r.sn hps hss pa pc sa sc h1 h2) (k := ?_); rintro v A' ⟨a1, c1, a2, c2, rfl, rfl⟩; simp only [List.cons_append, List.nil_append])) <;> (refine Wl_nil ?_)) | (refine WlT_step (i := 11) rfl ?_; (refine Wl_build (k := ?_)) <;> (refine Wl_nil ?_)) | (refine WlT_step (i := 12) rfl ?_; (refine Wl_storeR (ho' := rfl) (k := ?_)) <;> (refine Wl_nil ?_)) | (refine WlT_done (hK _ _ ?_); clear hK K; try simp only [List.cons_append, List.nil_append]))))
    | (refine Wc_cond (ht := (fun ht => ?_)) (hf := (fun ht => ?_)) <;> (try simp at ht) <;> (try (exfalso; omega))))
  all_goals exact ⟨Or.inr rfl, _, [own a2 r.sn.ss.length c2 4 (ssC r.sn.ss) 69, own a1 r.sn.ps.length c1 5 (prC r.sn.ps) 67], (by (repeat (first | exact Ent.refl _ | exact Ent.nil | refine Ent.take (by (repeat (first | exact Out.head | apply Out.tail)); (first | done | fail)) ?_ | refine Ent.drop1 ?_)); (first | done | fail)), resG rfl (by (repeat (first | exact ResL.nil | apply ResL.tmp (by (repeat (first | exact Ev.here | exact Ev.const | exact Ev.arg rfl | apply Ev.there rfl | exact Ev.none rfl | exact Ev.func | exact Ev.var)); (first | done | fail)) | apply ResL.agg (by (repeat (first | exact Ev.here | exact Ev.const | exact Ev.arg rfl | apply Ev.there rfl | exact Ev.none rfl | exact Ev.func | exact Ev.var)); (first | done | fail)) (by (repeat (first | exact Rd.head | exact Rd.base (by assumption) | apply Rd.tail)); (first | done | fail)) (by (repeat (first | exact TakeR.nil | apply TakeR.take | apply TakeR.skip)); (first | done | fail)) | apply ResL.cell (by (repeat (first | exact Ev.here | exact Ev.const | exact Ev.arg rfl | apply Ev.there rfl | exact Ev.none rfl | exact Ev.func | exact Ev.var)); (first | done | fail)) (by (repeat (first | exact Rd.head | exact Rd.base (by assumption) | apply Rd.tail)); (first | done | fail)) rfl)); (first | done | fail)) rfl, a1, c1, a2, c2, rfl, rfl⟩
theorem sameSeen_spec (X : Asn) (l : List SX) (hl : l.length ≤ 1000000) (a : Option Addr) (c : Nat) (b : Option Addr) (d : Nat) (h1 : RdS Try.prog B [X] 4 a l.length c (ssC l)) (h2 : RdS Try.prog B [X] 4 b l.length d (ssC l)) :
    Fspec Try.prog B 34 #[.slice a l.length c, .slice b l.length d] [X] (fun v A' => v = .bool true ∧ A' = [X]) := by
  refine spec_of (args := [_, _]) Try.func34 rfl rfl rfl ?_
  repeat' (first
    | refine Wc_seq ?_
    | refine thenQ_normal ?_
    | refine Wc_cond_t (h := ?_)
    | refine Wc_cond_f (h := ?_)
    | refine Wc_ret ?_
    | refine thenQ_ret ?_
    | refine Wc_block ?_
    | refine blkQ_normal ?_
    | refine blkQ_ret ?_
    | refine Wc_exit ?_
    | refine thenQ_exit ?_
    | refine blkQ_hit ?_
    | refine blkQ_miss rfl ?_
    | refine Wc_skip ?_
    | refine Wc_label ?_
    | refine loopQ_exit ?_
    | refine loopQ_ret ?_
    | refine loopQ_normal ?_
    | (refine Wc_region (id := 0) ?_; intro K hK; refine Wl_assign (k := ?_); (refine Wl_nil (hK _ _ ?_); clear hK K))
    | (refine Wc_region (id := 1) ?_; intro K hK; refine Wl_move (k := ?_); refine Wl_len_sl (k' := ?_); refine Wl_move (k := ?_); refine Wl_len_sl (k' := ?_); refine Wl_neq (k' := ?_); (refine Wl_nil (hK _ _ ?_); clear hK K))
    | (refine Wc_region (id := 2) ?_; intro K hK; refine Wl_assign (k := ?_); (refine Wl_nil (hK _ _ ?_); clear hK K))
    | (refine Wc_region (id := 3) ?_; intro K hK; refine Wl_assign (k := ?_); (refine Wl_nil (hK _ _ ?_); clear hK K))
    | (refine Wc_cond (ht := (fun ht => ?_)) (hf := (fun ht => ?_)) <;> (try simp at ht) <;> (try (exfalso; omega))))
  refine Wc_loop (α := Nat) (fun j => [(0, .slice a l.length c), (1, .slice b l.length d), (5, .int .i64 j)]) (fun _ => [X]) (fun j => j ≤ l.length) (fun j => l.length - j) 0 (by omega) ⟨rfl, rfl, rfl, trivial⟩ (Ent.refl _) ?_
  intro j G hj
  simp only [ov]
  by_cases hlt : j < l.length
  · obtain ⟨p, rfl⟩ : ∃ q, a = some q := by
      cases a with
      | none => have := h1.nil rfl; omega
      | some q => exact ⟨q, rfl⟩
    obtain ⟨q, rfl⟩ : ∃ q, b = some q := by
      cases b with
      | none => have := h2.nil rfl; omega
      | some q => exact ⟨q, rfl⟩
    obtain ⟨x, hx⟩ : ∃ x, l[j]? = some x := ⟨_, List.getElem?_eq_getElem hlt⟩
    repeat' (first
      | refine Wc_seq ?_
      | refine thenQ_normal ?_
      | refine Wc_cond_t (h := ?_)
      | refine Wc_cond_f (h := ?_)
      | refine Wc_ret ?_
      | refine thenQ_ret ?_
      | refine Wc_block ?_
      | refine blkQ_normal ?_
      | refine blkQ_ret ?_
      | refine Wc_exit ?_
      | refine thenQ_exit ?_
      | refine blkQ_hit ?_
      | refine blkQ_miss rfl ?_
      | refine Wc_skip ?_
      | refine Wc_label ?_
      | refine loopQ_exit ?_
      | refine loopQ_ret ?_
      | refine loopQ_normal ?_
      | (refine Wc_region (id := 4) ?_; intro K hK; refine Wl_move (k := ?_); refine Wl_move (k := ?_); refine Wl_len_sl (k' := ?_); refine Wl_lss (k' := ?_); (refine Wl_nil (hK _ _ ?_); clear hK K))
      | (refine Wc_region (id := 5) ?_; intro K hK; refine Wl_move (k := ?_); refine Wl_add (k' := ?_); refine Wl_assign (k := ?_); (refine Wl_nil (hK _ _ ?_); clear hK K))
      | (refine Wc_draw (id := 6) (h := ?_); intro K hK; refine Wl_move (k := ?_); refine Wl_move (k := ?_); ((refine Wl_index_any (k' := ?_))) <;> (((refine Wl_loadAggG (j := j * 4) (cs := x.c) (hq := by simp) (hr := h1) (hv := ssC_row hx) (k := ?_))) <;> (refine Wl_move (k := ?_); refine Wl_move (k := ?_); ((refine Wl_index_any (k' := ?_))) <;> (((refine Wl_loadAggG (j := j * 4) (cs := x.c) (hq := by simp) (hr := h2) (hv := ssC_row hx) (k := ?_))) <;> (((refine Wl_agg_neqB (b := true) (hb := ceqL_self _ [.i .i64, .i .i64, .i .i64, .i .i64] rfl) (k' := ?_))) <;> ((refine Wl_nil (hK _ _ ?_); clear hK K)))))))
      | (refine Wc_region (id := 7) ?_; intro K hK; refine Wl_assign (k := ?_); (refine Wl_nil (hK _ _ ?_); clear hK K))
      | (refine Wc_cond (ht := (fun ht => ?_)) (hf := (fun ht => ?_)) <;> (try simp at ht) <;> (try (exfalso; omega))))
    exact ⟨j + 1, by omega, by omega, ⟨rfl, rfl, int_succ j, trivial⟩, Ent.refl _⟩
  obtain rfl : j = l.length := by omega
  repeat' (first
    | refine Wc_seq ?_
    | refine thenQ_normal ?_
    | refine Wc_cond_t (h := ?_)
    | refine Wc_cond_f (h := ?_)
    | refine Wc_ret ?_
    | refine thenQ_ret ?_
    | refine Wc_block ?_
    | refine blkQ_normal ?_
    | refine blkQ_ret ?_
    | refine Wc_exit ?_
    | refine thenQ_exit ?_
    | refine blkQ_hit ?_
    | refine blkQ_miss rfl ?_
    | refine Wc_skip ?_
    | refine Wc_label ?_
    | refine loopQ_exit ?_
    | refine loopQ_ret ?_
    | refine loopQ_normal ?_
    | (refine Wc_region (id := 4) ?_; intro K hK; refine Wl_move (k := ?_); refine Wl_move (k := ?_); refine Wl_len_sl (k' := ?_); refine Wl_lss (k' := ?_); (refine Wl_nil (hK _ _ ?_); clear hK K))
    | (refine Wc_region (id := 8) ?_; intro K hK; refine Wl_assign (k := ?_); (refine Wl_nil (hK _ _ ?_); clear hK K))
    | (refine Wc_cond (ht := (fun ht => ?_)) (hf := (fun ht => ?_)) <;> (try simp at ht) <;> (try (exfalso; omega))))
  exact ⟨Or.inr rfl, _, [X], Ent.refl _, res1 rfl rfl, rfl, rfl⟩
theorem of_lst {f : FuncId} {args : Array Value} {A0 : List Asn} {φ : Value → Prop} (h : Fspec Try.prog B f args [lst A0] (fun v A' => φ v ∧ A' = [lst A0])) : Fspec Try.prog B f args A0 (fun v A' => φ v ∧ A' = A0) := by
  refine (h.ent (by simpa using Ent.lst_shut A0 [])).conv ?_
  rintro v A' ⟨hv, rfl⟩
  exact ⟨A0, by simpa using Ent.lst_open A0 [], hv, rfl⟩
theorem _root_.Go.Sl.RdS.lst {A0 : List Asn} {sz m c : Nat} {a : Option Addr} {vs : List Value} (h : RdS Try.prog B A0 sz a m c vs) : RdS Try.prog B [lst A0] sz a m c vs := RdS.ofEnt h (by simpa using Ent.lst_open A0 [])
end specs
end Go.Proofs.Ytnoggejkkjngjaa
/- Layer 15: the document's example. No condition. -/
set_option maxHeartbeats 8000000
set_option linter.unusedVariables false
set_option linter.unusedSimpArgs false
set_option maxRecDepth 100000
namespace Go.Proofs.Ytnoggejkkjngjaa
open Go Go.Sl
attribute [local irreducible] Go.Sl.Wl Go.Sl.Wc Go.Sl.thenQ Go.Sl.blkQ Go.Sl.loopQ Go.Sl.Fspec

def kA : ByteArray := ⟨#[97]⟩
def kB : ByteArray := ⟨#[98]⟩
def tX : ByteArray := ⟨#[120]⟩
def tY : ByteArray := ⟨#[121]⟩
def oneT : List Ep := [⟨1, 0, false⟩]
def enZ : EnX := ⟨0, 0, 0, 0, ByteArray.empty, false, ByteArray.empty⟩
def rcW (x : EnX) : RcG := ⟨1, x, ⟨0, 0, false⟩, 0, SnX.zero⟩
def rcE (e : Ep) : RcG := ⟨2, enZ, e, 0, SnX.zero⟩
theorem zero_rg : rg 0 := by unfold rg; omega
theorem enZ_ok : enZ.ok := by simp [EnX.ok, SX.ok, EnX.se, enZ]
theorem rcW_ok {x : EnX} (h : x.ok) (hi : rg x.i) : (rcW x).ok := ⟨h, hi, zero_rg, by simp [rcW, SnX.zero], by simp [rcW, SnX.zero], by simp [rcW, SnX.zero], by simp [rcW, SnX.zero]⟩
theorem rcE_ok (e : Ep) : (rcE e).ok := ⟨enZ_ok, zero_rg, zero_rg, by simp [rcE, SnX.zero], by simp [rcE, SnX.zero], by simp [rcE, SnX.zero], by simp [rcE, SnX.zero]⟩
def aw15a : EnX := ⟨1, 1, 1, 1, kA, false, tX⟩
def aw15b : EnX := ⟨1, 2, 1, 2, kB, false, tY⟩
def awS0 : G15 := newG oneT
def awS1 : G15 := ⟨oneT, SnX.zero, [aw15a], false⟩
def awS2 : G15 := ⟨oneT, SnX.zero, [aw15a, aw15b], false⟩
def awS3 : G15 := ⟨[⟨1, 0, false⟩, ⟨2, 1, false⟩], SnX.zero, [aw15a], false⟩
theorem one_right : rightT oneT = true := by decide
section specs
variable {B : Base}
theorem one_spec : Fspec Try.prog B 17 #[] [] (fun v A' => ∃ r, v = .slice (some ⟨r, 0, none⟩) 1 1 ∧ A' = [cb r (epsC oneT) 29]) := by
  refine spec_of (args := []) Try.func17 rfl rfl rfl ?_
  repeat' (first
    | refine Wc_seq ?_
    | refine thenQ_normal ?_
    | refine Wc_cond_t (h := ?_)
    | refine Wc_cond_f (h := ?_)
    | refine Wc_ret ?_
    | refine thenQ_ret ?_
    | refine Wc_block ?_
    | refine blkQ_normal ?_
    | refine blkQ_ret ?_
    | refine Wc_exit ?_
    | refine thenQ_exit ?_
    | refine blkQ_hit ?_
    | refine blkQ_miss rfl ?_
    | refine Wc_skip ?_
    | refine Wc_label ?_
    | refine loopQ_exit ?_
    | refine loopQ_ret ?_
    | refine loopQ_normal ?_
    | (refine Wc_region (id := 0) ?_; intro K hK; refine Wl_assign (k := ?_); (refine Wl_nil (hK _ _ ?_); clear hK K))
    | (refine Wc_region (id := 1) ?_; intro K hK; refine Wl_build (k := ?_); ((refine Wl_lit1 (cs := epC ⟨1, 0, false⟩) (k := ?_); intro r2)) <;> (refine Wl_assign (k := ?_); (refine Wl_nil (hK _ _ ?_); clear hK K)))
    | (refine Wc_cond (ht := (fun ht => ?_)) (hf := (fun ht => ?_)) <;> (try simp at ht) <;> (try (exfalso; omega))))
  exact ⟨Or.inr rfl, _, [cb r2 (epsC oneT) 29], (by (repeat (first | exact Ent.refl _ | exact Ent.nil | refine Ent.take (by (repeat (first | exact Out.head | apply Out.tail)); (first | done | fail)) ?_ | refine Ent.drop1 ?_))), res1 rfl rfl, r2, rfl, rfl⟩
theorem awake15 : Fspec Try.prog B 9 #[] [] (fun v A' => v = .bool true ∧ A' = []) := by
  have c1 : gchkV awS0 (rcW aw15a) = 0 := by decide +kernel
  have c2 : gchkV awS1 (rcW aw15b) = 0 := by decide +kernel
  have c3 : gchkV awS2 (rcE ⟨2, 1, false⟩) = 0 := by decide +kernel
  have p1 : gapplyV awS0 (rcW aw15a) = awS1 := by unfold gapplyV; rw [c1]; rfl
  have p2 : gapplyV awS1 (rcW aw15b) = awS2 := by unfold gapplyV; rw [c2]; rfl
  have p3 : gapplyV awS2 (rcE ⟨2, 1, false⟩) = awS3 := by unfold gapplyV; rw [c3]; rfl
  have xa : aw15a.ok := by simp [EnX.ok, SX.ok, EnX.se, aw15a]
  have xb : aw15b.ok := by simp [EnX.ok, SX.ok, EnX.se, aw15b]
  have ra : (rcW aw15a).ok := rcW_ok xa (by show rg 1; unfold rg; omega)
  have rb : (rcW aw15b).ok := rcW_ok xb (by show rg 2; unfold rg; omega)
  have re : (rcE ⟨2, 1, false⟩).ok := rcE_ok _
  have k0 : awS0.inv 1000 := new_inv one_right
  have k1 : awS1.inv 1001 := p1 ▸ k0.apply ra (by simp [rcW, SnX.zero]) (by omega)
  have k2 : awS2.inv 1002 := p2 ▸ k1.apply rb (by simp [rcW, SnX.zero]) (by omega)
  have g1 : (kX awS3.fold.t.inorder kA).d = tX := by decide +kernel
  have g2 : (kX awS3.fold.t.inorder kB).c = false := by decide +kernel
  have f1 : awS3.fold.e = 1 := by decide +kernel
  have f2 : awS3.fold.i = 1 := by decide +kernel
  refine spec_of (args := []) Try.func9 rfl rfl rfl ?_
  repeat' (first
    | refine Wc_seq ?_
    | refine thenQ_normal ?_
    | refine Wc_cond_t (h := ?_)
    | refine Wc_cond_f (h := ?_)
    | refine Wc_ret ?_
    | refine thenQ_ret ?_
    | refine Wc_block ?_
    | refine blkQ_normal ?_
    | refine blkQ_ret ?_
    | refine Wc_exit ?_
    | refine thenQ_exit ?_
    | refine blkQ_hit ?_
    | refine blkQ_miss rfl ?_
    | refine Wc_skip ?_
    | refine Wc_label ?_
    | refine loopQ_exit ?_
    | refine loopQ_ret ?_
    | refine loopQ_normal ?_
    | (refine Wc_region (id := 0) ?_; intro K hK; refine Wl_assign (k := ?_); (refine Wl_nil (hK _ _ ?_); clear hK K))
    | (refine Wc_region (id := 1) ?_; intro K hK; ((refine Wl_call (hs := one_spec) (k := ?_); rintro v A' ⟨r, rfl, rfl⟩; simp only [List.cons_append, List.nil_append])) <;> (((refine Wl_call (hs := gnew_spec [cb r (epsC oneT) 29] oneT (some ⟨r, 0, none⟩) 1 (rds_cb .head rfl) (by decide)) (k := ?_); rintro v A' ⟨st, rfl, rfl⟩; simp only [List.cons_append, List.nil_append])) <;> (refine Wl_move (k := ?_); refine Wl_extract (k' := ?_); refine Wl_extract (k' := ?_); refine Wl_assign (k := ?_); refine Wl_assign (k := ?_); (refine Wl_nil (hK _ _ ?_); clear hK K))))
    | (refine Wc_region (id := 2) ?_; intro K hK; refine Wl_move (k := ?_); refine Wl_ptr_eq_nil (k' := ?_); refine Wl_move (k := ?_); ((first | (refine Wl_guard (k := ?_); refine Wl_move (k := ?_)) | refine Wl_gno (k := ?_) | ((refine Wl_split (yes := (fun ht => ?_)) (no := (fun ht => ?_)) <;> (try simp at ht) <;> (try (exfalso; omega))) <;> (first | (refine Wl_guard (k := ?_); refine Wl_move (k := ?_)) | refine Wl_gno (k := ?_))))) <;> (((first | (refine Wl_guard (k := ?_); refine Wl_neq (k' := ?_)) | refine Wl_gno (k := ?_) | ((refine Wl_split (yes := (fun ht => ?_)) (no := (fun ht => ?_)) <;> (try simp at ht) <;> (try (exfalso; omega))) <;> (first | (refine Wl_guard (k := ?_); refine Wl_neq (k' := ?_)) | refine Wl_gno (k := ?_))))) <;> ((first | refine Wl_pick_t (k := ?_) | refine Wl_pick_f (k := ?_) | refine Wl_pick (k := ?_)); (refine Wl_nil (hK _ _ ?_); clear hK K))))
    | (refine Wc_region (id := 3) ?_; intro K hK; refine Wl_assign (k := ?_); (refine Wl_nil (hK _ _ ?_); clear hK K))
    | (refine Wc_region (id := 4) ?_; intro K hK; refine Wl_move (k := ?_); refine Wl_build (k := ?_); refine Wl_build (k := ?_); refine Wl_build (k := ?_); ((refine Wl_call (hs := gapply_spec [] st 1000 awS0 k0 (by omega) (rcW aw15a) ra none 0 none 0 rds_nil rds_nil) (k := ?_); rintro v A' ⟨rfl, rfl⟩; simp only [List.cons_append, List.nil_append]; rw [c1, p1])) <;> (refine Wl_assign (k := ?_); (refine Wl_nil (hK _ _ ?_); clear hK K)))
    | (refine Wc_region (id := 5) ?_; intro K hK; refine Wl_move (k := ?_); refine Wl_build (k := ?_); refine Wl_build (k := ?_); refine Wl_build (k := ?_); ((refine Wl_call (hs := gapply_spec [] st 1001 awS1 k1 (by omega) (rcW aw15b) rb none 0 none 0 rds_nil rds_nil) (k := ?_); rintro v A' ⟨rfl, rfl⟩; simp only [List.cons_append, List.nil_append]; rw [c2, p2])) <;> (refine Wl_assign (k := ?_); (refine Wl_nil (hK _ _ ?_); clear hK K)))
    | (refine Wc_region (id := 6) ?_; intro K hK; refine Wl_move (k := ?_); refine Wl_build (k := ?_); refine Wl_build (k := ?_); ((refine Wl_call (hs := gapply_spec [] st 1002 awS2 k2 (by omega) (rcE ⟨2, 1, false⟩) re none 0 none 0 rds_nil rds_nil) (k := ?_); rintro v A' ⟨rfl, rfl⟩; simp only [List.cons_append, List.nil_append]; rw [c3, p3])) <;> (refine Wl_assign (k := ?_); (refine Wl_nil (hK _ _ ?_); clear hK K)))
    | (refine Wc_region (id := 7) ?_; intro K hK; refine Wl_move (k := ?_); refine Wl_eql (k' := ?_); refine Wl_move (k := ?_); ((first | (refine Wl_guard (k := ?_); refine Wl_move (k := ?_)) | refine Wl_gno (k := ?_) | ((refine Wl_split (yes := (fun ht => ?_)) (no := (fun ht => ?_)) <;> (try simp at ht) <;> (try (exfalso; omega))) <;> (first | (refine Wl_guard (k := ?_); refine Wl_move (k := ?_)) | refine Wl_gno (k := ?_))))) <;> (((first | (refine Wl_guard (k := ?_); refine Wl_eql (k' := ?_)) | refine Wl_gno (k := ?_) | ((refine Wl_split (yes := (fun ht => ?_)) (no := (fun ht => ?_)) <;> (try simp at ht) <;> (try (exfalso; omega))) <;> (first | (refine Wl_guard (k := ?_); refine Wl_eql (k' := ?_)) | refine Wl_gno (k := ?_))))) <;> ((first | refine Wl_pick_t (k := ?_) | refine Wl_pick_f (k := ?_) | refine Wl_pick (k := ?_)); refine Wl_move (k := ?_); ((first | (refine Wl_guard (k := ?_); refine Wl_move (k := ?_)) | refine Wl_gno (k := ?_) | ((refine Wl_split (yes := (fun ht => ?_)) (no := (fun ht => ?_)) <;> (try simp at ht) <;> (try (exfalso; omega))) <;> (first | (refine Wl_guard (k := ?_); refine Wl_move (k := ?_)) | refine Wl_gno (k := ?_))))) <;> (((first | (refine Wl_guard (k := ?_); refine Wl_eql (k' := ?_)) | refine Wl_gno (k := ?_) | ((refine Wl_split (yes := (fun ht => ?_)) (no := (fun ht => ?_)) <;> (try simp at ht) <;> (try (exfalso; omega))) <;> (first | (refine Wl_guard (k := ?_); refine Wl_eql (k' := ?_)) | refine Wl_gno (k := ?_))))) <;> ((first | refine Wl_pick_t (k := ?_) | refine Wl_pick_f (k := ?_) | refine Wl_pick (k := ?_)); refine Wl_move (k := ?_); ((first | (refine Wl_guard (k := ?_); refine Wl_move (k := ?_)) | refine Wl_gno (k := ?_) | ((refine Wl_split (yes := (fun ht => ?_)) (no := (fun ht => ?_)) <;> (try simp at ht) <;> (try (exfalso; omega))) <;> (first | (refine Wl_guard (k := ?_); refine Wl_move (k := ?_)) | refine Wl_gno (k := ?_))))) <;> (((first | (refine Wl_guard (k := ?_); (refine Wl_call (hs := glast_spec st awS3) (k := ?_); rintro v A' ⟨rfl, rfl⟩; simp only [List.cons_append, List.nil_append]; rw [f1, f2])) | refine Wl_gno (k := ?_) | ((refine Wl_split (yes := (fun ht => ?_)) (no := (fun ht => ?_)) <;> (try simp at ht) <;> (try (exfalso; omega))) <;> (first | (refine Wl_guard (k := ?_); (refine Wl_call (hs := glast_spec st awS3) (k := ?_); rintro v A' ⟨rfl, rfl⟩; simp only [List.cons_append, List.nil_append]; rw [f1, f2])) | refine Wl_gno (k := ?_))))) <;> (((first | (refine Wl_guard (k := ?_); refine Wl_build (k := ?_)) | refine Wl_gno (k := ?_) | ((refine Wl_split (yes := (fun ht => ?_)) (no := (fun ht => ?_)) <;> (try simp at ht) <;> (try (exfalso; omega))) <;> (first | (refine Wl_guard (k := ?_); refine Wl_build (k := ?_)) | refine Wl_gno (k := ?_))))) <;> (((first | (refine Wl_guard (k := ?_); (refine Wl_agg_eqlB (b := true) (hb := rfl) (k' := ?_))) | refine Wl_gno (k := ?_) | ((refine Wl_split (yes := (fun ht => ?_)) (no := (fun ht => ?_)) <;> (try simp at ht) <;> (try (exfalso; omega))) <;> (first | (refine Wl_guard (k := ?_); (refine Wl_agg_eqlB (b := true) (hb := rfl) (k' := ?_))) | refine Wl_gno (k := ?_))))) <;> ((first | refine Wl_pick_t (k := ?_) | refine Wl_pick_f (k := ?_) | refine Wl_pick (k := ?_)); refine Wl_move (k := ?_); ((first | (refine Wl_guard (k := ?_); refine Wl_move (k := ?_)) | refine Wl_gno (k := ?_) | ((refine Wl_split (yes := (fun ht => ?_)) (no := (fun ht => ?_)) <;> (try simp at ht) <;> (try (exfalso; omega))) <;> (first | (refine Wl_guard (k := ?_); refine Wl_move (k := ?_)) | refine Wl_gno (k := ?_))))) <;> (((first | (refine Wl_guard (k := ?_); (refine Wl_call (hs := gget_spec st awS3 kA) (k := ?_); rintro v A' ⟨rfl, rfl⟩; simp only [List.cons_append, List.nil_append]; simp only [VX.C]; rw [g1])) | refine Wl_gno (k := ?_) | ((refine Wl_split (yes := (fun ht => ?_)) (no := (fun ht => ?_)) <;> (try simp at ht) <;> (try (exfalso; omega))) <;> (first | (refine Wl_guard (k := ?_); (refine Wl_call (hs := gget_spec st awS3 kA) (k := ?_); rintro v A' ⟨rfl, rfl⟩; simp only [List.cons_append, List.nil_append]; simp only [VX.C]; rw [g1])) | refine Wl_gno (k := ?_))))) <;> (((first | (refine Wl_guard (k := ?_); refine Wl_field (k' := ?_)) | refine Wl_gno (k := ?_) | ((refine Wl_split (yes := (fun ht => ?_)) (no := (fun ht => ?_)) <;> (try simp at ht) <;> (try (exfalso; omega))) <;> (first | (refine Wl_guard (k := ?_); refine Wl_field (k' := ?_)) | refine Wl_gno (k := ?_))))) <;> (((first | (refine Wl_guard (k := ?_); (refine Wl_str_eql (a := tX) (b := tX) (k' := ?_); rw [beq_self_eq_true])) | refine Wl_gno (k := ?_) | ((refine Wl_split (yes := (fun ht => ?_)) (no := (fun ht => ?_)) <;> (try simp at ht) <;> (try (exfalso; omega))) <;> (first | (refine Wl_guard (k := ?_); (refine Wl_str_eql (a := tX) (b := tX) (k' := ?_); rw [beq_self_eq_true])) | refine Wl_gno (k := ?_))))) <;> ((first | refine Wl_pick_t (k := ?_) | refine Wl_pick_f (k := ?_) | refine Wl_pick (k := ?_)); refine Wl_move (k := ?_); ((first | (refine Wl_guard (k := ?_); refine Wl_move (k := ?_)) | refine Wl_gno (k := ?_) | ((refine Wl_split (yes := (fun ht => ?_)) (no := (fun ht => ?_)) <;> (try simp at ht) <;> (try (exfalso; omega))) <;> (first | (refine Wl_guard (k := ?_); refine Wl_move (k := ?_)) | refine Wl_gno (k := ?_))))) <;> (((first | (refine Wl_guard (k := ?_); (refine Wl_call (hs := gget_spec st awS3 kB) (k := ?_); rintro v A' ⟨rfl, rfl⟩; simp only [List.cons_append, List.nil_append]; simp only [VX.C]; rw [g2])) | refine Wl_gno (k := ?_) | ((refine Wl_split (yes := (fun ht => ?_)) (no := (fun ht => ?_)) <;> (try simp at ht) <;> (try (exfalso; omega))) <;> (first | (refine Wl_guard (k := ?_); (refine Wl_call (hs := gget_spec st awS3 kB) (k := ?_); rintro v A' ⟨rfl, rfl⟩; simp only [List.cons_append, List.nil_append]; simp only [VX.C]; rw [g2])) | refine Wl_gno (k := ?_))))) <;> (((first | (refine Wl_guard (k := ?_); refine Wl_field (k' := ?_)) | refine Wl_gno (k := ?_) | ((refine Wl_split (yes := (fun ht => ?_)) (no := (fun ht => ?_)) <;> (try simp at ht) <;> (try (exfalso; omega))) <;> (first | (refine Wl_guard (k := ?_); refine Wl_field (k' := ?_)) | refine Wl_gno (k := ?_))))) <;> (((first | (refine Wl_guard (k := ?_); refine Wl_not (k' := ?_)) | refine Wl_gno (k := ?_) | ((refine Wl_split (yes := (fun ht => ?_)) (no := (fun ht => ?_)) <;> (try simp at ht) <;> (try (exfalso; omega))) <;> (first | (refine Wl_guard (k := ?_); refine Wl_not (k' := ?_)) | refine Wl_gno (k := ?_))))) <;> ((first | refine Wl_pick_t (k := ?_) | refine Wl_pick_f (k := ?_) | refine Wl_pick (k := ?_)); refine Wl_move (k := ?_); ((first | (refine Wl_guard (k := ?_); refine Wl_move (k := ?_)) | refine Wl_gno (k := ?_) | ((refine Wl_split (yes := (fun ht => ?_)) (no := (fun ht => ?_)) <;> (try simp at ht) <;> (try (exfalso; omega))) <;> (first | (refine Wl_guard (k := ?_); refine Wl_move (k := ?_)) | refine Wl_gno (k := ?_))))) <;> (((first | (refine Wl_guard (k := ?_); (refine Wl_call (hs := gconfig_spec st awS3) (k := ?_); rintro v A' ⟨rfl, rfl⟩; simp only [List.cons_append, List.nil_append]; rw [show ((awS3.table.length : Nat) : Int) = 2 from rfl])) | refine Wl_gno (k := ?_) | ((refine Wl_split (yes := (fun ht => ?_)) (no := (fun ht => ?_)) <;> (try simp at ht) <;> (try (exfalso; omega))) <;> (first | (refine Wl_guard (k := ?_); (refine Wl_call (hs := gconfig_spec st awS3) (k := ?_); rintro v A' ⟨rfl, rfl⟩; simp only [List.cons_append, List.nil_append]; rw [show ((awS3.table.length : Nat) : Int) = 2 from rfl])) | refine Wl_gno (k := ?_))))) <;> (((first | (refine Wl_guard (k := ?_); refine Wl_eql (k' := ?_)) | refine Wl_gno (k := ?_) | ((refine Wl_split (yes := (fun ht => ?_)) (no := (fun ht => ?_)) <;> (try simp at ht) <;> (try (exfalso; omega))) <;> (first | (refine Wl_guard (k := ?_); refine Wl_eql (k' := ?_)) | refine Wl_gno (k := ?_))))) <;> ((first | refine Wl_pick_t (k := ?_) | refine Wl_pick_f (k := ?_) | refine Wl_pick (k := ?_)); refine Wl_move (k := ?_); ((first | (refine Wl_guard (k := ?_); refine Wl_move (k := ?_)) | refine Wl_gno (k := ?_) | ((refine Wl_split (yes := (fun ht => ?_)) (no := (fun ht => ?_)) <;> (try simp at ht) <;> (try (exfalso; omega))) <;> (first | (refine Wl_guard (k := ?_); refine Wl_move (k := ?_)) | refine Wl_gno (k := ?_))))) <;> (((first | (refine Wl_guard (k := ?_); (refine Wl_call (hs := gmaster_spec st awS3 (by decide) ⟨2, 1, false⟩ rfl) (k := ?_); rintro v A' ⟨rfl, rfl⟩; simp only [List.cons_append, List.nil_append])) | refine Wl_gno (k := ?_) | ((refine Wl_split (yes := (fun ht => ?_)) (no := (fun ht => ?_)) <;> (try simp at ht) <;> (try (exfalso; omega))) <;> (first | (refine Wl_guard (k := ?_); (refine Wl_call (hs := gmaster_spec st awS3 (by decide) ⟨2, 1, false⟩ rfl) (k := ?_); rintro v A' ⟨rfl, rfl⟩; simp only [List.cons_append, List.nil_append])) | refine Wl_gno (k := ?_))))) <;> (((first | (refine Wl_guard (k := ?_); refine Wl_eql (k' := ?_)) | refine Wl_gno (k := ?_) | ((refine Wl_split (yes := (fun ht => ?_)) (no := (fun ht => ?_)) <;> (try simp at ht) <;> (try (exfalso; omega))) <;> (first | (refine Wl_guard (k := ?_); refine Wl_eql (k' := ?_)) | refine Wl_gno (k := ?_))))) <;> ((first | refine Wl_pick_t (k := ?_) | refine Wl_pick_f (k := ?_) | refine Wl_pick (k := ?_)); refine Wl_assign (k := ?_); (refine Wl_nil (hK _ _ ?_); clear hK K))))))))))))))))))))))))
    | (refine Wc_cond (ht := (fun ht => ?_)) (hf := (fun ht => ?_)) <;> (try simp at ht) <;> (try (exfalso; omega))))
  all_goals exact ⟨Or.inr rfl, .bool true, [], Ent.nil, res1 rfl rfl, rfl, rfl⟩
end specs
end Go.Proofs.Ytnoggejkkjngjaa
/- Layer 15: records that came in. No condition. -/
set_option maxHeartbeats 8000000
set_option linter.unusedVariables false
set_option linter.unusedSimpArgs false
set_option maxRecDepth 100000
namespace Go.Proofs.Ytnoggejkkjngjaa
open Go Go.Sl
attribute [local irreducible] Go.Sl.Wl Go.Sl.Wc Go.Sl.thenQ Go.Sl.blkQ Go.Sl.loopQ Go.Sl.Fspec

/-- A record that came in, and where its rows are. -/
structure RI where
  r : RcG
  pa : Option Addr
  pc : Nat
  sa : Option Addr
  sc : Nat
def RI.c (x : RI) : List Value := x.r.c x.pa x.pc x.sa x.sc
structure RI.ok (B : Base) (x : RI) : Prop where
  h1 : RdS Try.prog B [] 5 x.pa x.r.sn.ps.length x.pc (prC x.r.sn.ps)
  h2 : RdS Try.prog B [] 4 x.sa x.r.sn.ss.length x.sc (ssC x.r.sn.ss)
  xo : x.r.x.ok
  xi : rg x.r.x.i
  se : rg x.r.sn.e
  pl : x.r.sn.ps.length ≤ 9223372036854775807
  sl : x.r.sn.ss.length ≤ 9223372036854775807
  pr : ∀ y ∈ x.r.sn.ps, rg y.v.a
  sr : ∀ y ∈ x.r.sn.ss, rg y.e
theorem RI.ok.light {B : Base} {x : RI} (h : x.ok B) (hl : lightV x.r = true) : x.r.ok := by
  obtain ⟨l1, l2, _⟩ := light_out hl
  exact ⟨h.xo, h.xi, h.se, by omega, l2, h.pr, h.sr⟩
def recsC (l : List RI) : List Value := l.flatMap RI.c
theorem recsC_row {l : List RI} {k : Nat} {x : RI} (h : l[k]? = some x) : ((recsC l).drop (k * 16)).take 16 = x.c := flatMap_row (fun _ _ => rfl) h
end Go.Proofs.Ytnoggejkkjngjaa
/- What package pack writes, the plain law. No program in sight. -/
set_option maxHeartbeats 8000000
set_option linter.unusedVariables false
set_option linter.unusedSimpArgs false
set_option maxRecDepth 100000
namespace Go.Proofs.Ytnoggejkkjngjaa
open Go Go.Sl
attribute [local irreducible] Go.Sl.Wl Go.Sl.Wc Go.Sl.thenQ Go.Sl.blkQ Go.Sl.loopQ Go.Sl.Fspec

/-- A number, seven bits a byte, the lowest first. -/
def encN (n : Nat) : List UInt8 := if n < 128 then [UInt8.ofNat n] else UInt8.ofNat (n % 128 + 128) :: encN (n / 128)
termination_by n
decreasing_by omega
theorem encN_small {n : Nat} (h : n < 128) : encN n = [UInt8.ofNat n] := by rw [encN, if_pos h]
theorem encN_big {n : Nat} (h : 128 ≤ n) : encN n = UInt8.ofNat (n % 128 + 128) :: encN (n / 128) := by rw [encN, if_neg (by omega)]
theorem encN_pos (n : Nat) : 0 < (encN n).length := by
  by_cases h1 : n < 128
  · rw [encN_small h1]; simp
  · rw [encN_big (by omega)]; simp
theorem encN_few (n : Nat) (h : n ≤ 9007199254740992) : (encN n).length ≤ 9 := by
  have step : ∀ (k m : Nat), m < 128 ^ (k + 1) → (encN m).length ≤ k + 1 := by
    intro k
    induction k with
    | zero => intro m hm; rw [encN_small (by simpa using hm)]; simp
    | succ k ih =>
      intro m hm
      by_cases h1 : m < 128
      · rw [encN_small h1]; simp
      · rw [encN_big (by omega)]
        have : m / 128 < 128 ^ (k + 1) := Nat.div_lt_of_lt_mul (by rw [Nat.pow_succ] at hm; rw [Nat.mul_comm]; exact hm)
        have := ih (m / 128) this
        simp only [List.length_cons]; omega
  exact step 8 n (by omega)
/-- What a Writer has: its bytes, whether it is spoilt. -/
abbrev Wr := List UInt8 × Bool
def numOk (n : Int) : Bool := decide (0 ≤ n ∧ n ≤ 9007199254740992)
def wNum (w : Wr) (n : Int) : Wr := if numOk n = false then (w.1, true) else if w.2 = true then w else (w.1 ++ encN n.toNat, false)
def wFlag (w : Wr) (on : Bool) : Wr := wNum w (if on = true then 1 else 0)
def wText (w : Wr) (s : ByteArray) : Wr := if (wNum w s.size).2 = true then wNum w s.size else ((wNum w s.size).1 ++ s.data.toList, false)
def wPos (w : Wr) (e i : Int) : Wr := wNum (wNum w e) i
def wEp (w : Wr) (e : Ep) : Wr := wFlag (wNum (wNum w e.master) e.cut) e.forced
def wEnt (w : Wr) (x : EnX) : Wr := wText (wFlag (wText (wNum (wNum (wPos w x.e x.i) x.s) x.r) x.key) x.del) x.tx
def wPr (w : Wr) (x : PrX) : Wr := wText (wFlag (wPos (wText w x.k) x.v.a x.v.b) x.v.c) x.v.d
def wSs (w : Wr) (x : SX) : Wr := wPos (wNum (wNum w x.s) x.r) x.e x.i
def wSnap (w : Wr) (b : SnX) : Wr := b.ss.foldl wSs (wNum (b.ps.foldl wPr (wNum (wPos w b.e b.i) (b.ps.length : Nat))) (b.ss.length : Nat))
def wState (S : G15) : Wr := S.es.foldl wEnt (wNum (wSnap (wFlag (S.table.foldl wEp (wNum ([], false) (S.table.length : Nat))) S.closed) S.base) (S.es.length : Nat))
theorem wNum_le (w : Wr) (n : Int) : w.1.length ≤ (wNum w n).1.length := by
  unfold wNum; split
  · exact Nat.le_refl _
  · split
    · exact Nat.le_refl _
    · simp
theorem wFlag_le (w : Wr) (b : Bool) : w.1.length ≤ (wFlag w b).1.length := wNum_le w _
theorem wText_le (w : Wr) (s : ByteArray) : (wNum w s.size).1.length ≤ (wText w s).1.length := by
  unfold wText; split
  · exact Nat.le_refl _
  · simp
theorem wText_le0 (w : Wr) (s : ByteArray) : w.1.length ≤ (wText w s).1.length := Nat.le_trans (wNum_le w _) (wText_le w s)
theorem wPos_le (w : Wr) (e i : Int) : w.1.length ≤ (wPos w e i).1.length := Nat.le_trans (wNum_le w e) (wNum_le _ i)
theorem wEp_le (w : Wr) (e : Ep) : w.1.length ≤ (wEp w e).1.length := Nat.le_trans (Nat.le_trans (wNum_le w _) (wNum_le _ _)) (wFlag_le _ _)
theorem wEnt_le (w : Wr) (x : EnX) : w.1.length ≤ (wEnt w x).1.length :=
  Nat.le_trans (wPos_le w x.e x.i) (Nat.le_trans (wNum_le _ _) (Nat.le_trans (wNum_le _ _) (Nat.le_trans (wText_le0 _ _) (Nat.le_trans (wFlag_le _ _) (wText_le0 _ _)))))
theorem wPr_le (w : Wr) (x : PrX) : w.1.length ≤ (wPr w x).1.length :=
  Nat.le_trans (wText_le0 w x.k) (Nat.le_trans (wPos_le _ _ _) (Nat.le_trans (wFlag_le _ _) (wText_le0 _ _)))
theorem wSs_le (w : Wr) (x : SX) : w.1.length ≤ (wSs w x).1.length := Nat.le_trans (wNum_le w _) (Nat.le_trans (wNum_le _ _) (wPos_le _ _ _))
theorem fold_le {α : Type} {f : Wr → α → Wr} (hf : ∀ w x, w.1.length ≤ (f w x).1.length) : ∀ (l : List α) (w : Wr), w.1.length ≤ (l.foldl f w).1.length
  | [], _ => Nat.le_refl _
  | x :: l, w => Nat.le_trans (hf w x) (fold_le hf l (f w x))
theorem fold_take_le {α : Type} {f : Wr → α → Wr} (hf : ∀ w x, w.1.length ≤ (f w x).1.length) (l : List α) (w : Wr) (k : Nat) : ((l.take k).foldl f w).1.length ≤ (l.foldl f w).1.length := by
  conv => rhs; rw [← List.take_append_drop k l, List.foldl_append]
  exact fold_le hf _ _
theorem fold_succ {α : Type} {f : Wr → α → Wr} {l : List α} {k : Nat} {x : α} (h : l[k]? = some x) (w : Wr) : (l.take (k + 1)).foldl f w = f ((l.take k).foldl f w) x := by
  obtain ⟨hk, rfl⟩ := List.getElem?_eq_some_iff.1 h
  rw [List.take_succ_eq_append_getElem hk, List.foldl_append]; rfl
end Go.Proofs.Ytnoggejkkjngjaa
