/- Package state: what is told; which snapshots are right. Conditions: none but the kinds' bounds, and not too many rows. -/
import Derived.Test.YtnoggejkkjngjaaGreatK13
import Derived.SlDev
set_option maxHeartbeats 8000000
set_option linter.unusedVariables false
set_option linter.unusedSimpArgs false
set_option maxRecDepth 100000
namespace Go.Proofs.YtnoggejkkjngjaaGreat
open Go Go.Sl
attribute [local irreducible] Go.Sl.Wl Go.Sl.Wc Go.Sl.thenQ Go.Sl.blkQ Go.Sl.loopQ Go.Sl.Fspec

def TdG (r : Nat) (f : FoX) (sa : Option Addr) (sc : Nat) (pre : List (ByteArray × VX)) (y : Option Addr × Nat) : List Asn :=
  [cb r [.int .i64 f.e, .int .i64 f.i, .slice y.1 pre.length y.2, .slice sa f.L.length sc] 37, own y.1 pre.length y.2 5 (prC (pre.map kPr)) 57]
theorem Ent_foldTdG {r c n : Nat} {f : FoX} {sa : Option Addr} {sc : Nat} {a : Option Addr} {pre : List (ByteArray × VX)} {vs : List Value} {A A1 A2 L : List Asn}
    (h1 : Out (cb r [.int .i64 f.e, .int .i64 f.i, .slice a n c, .slice sa f.L.length sc] 37) A A1) (h2 : Out (own a n c 5 vs 57) A1 A2) (hn : n = pre.length) (hv : vs = prC (pre.map kPr)) (h : Ent (exN (TdG r f sa sc pre) :: A2) L) : Ent A L := by
  subst hn hv
  exact ((Ent.perm (h1.perm.trans (h2.perm.cons _))).trans (Ent.exN_shut (f := TdG r f sa sc pre) (a, c) A2)).trans h
section specs
variable {B : Base}
theorem told_spec (st k d : Nat) (f : FoX) (hf : f.ok 900000) (hL : f.L.length ≤ 1000) (l : List Value) (T : TypeId) :
    Fspec Tryz.prog B 52 #[.pointer (some ⟨st, 0, none⟩)] [cb st (.int .i64 f.e :: .int .i64 f.i :: .pointer (some ⟨k, 0, none⟩) :: .pointer (some ⟨d, 0, none⟩) :: l) T, MpA k f.t, DeP d 16 f.L]
      (fun v A' => ∃ pa pc sa sc, v = .agg #[.int .i64 f.e, .int .i64 f.i, .slice pa f.snap.ps.length pc, .slice sa f.snap.ss.length sc] ∧
        A' = [own pa f.snap.ps.length pc 5 (prC f.snap.ps) 57, own sa f.snap.ss.length sc 4 (ssC f.snap.ss) 111, cb st (.int .i64 f.e :: .int .i64 f.i :: .pointer (some ⟨k, 0, none⟩) :: .pointer (some ⟨d, 0, none⟩) :: l) T, MpA k f.t, DeP d 16 f.L]) := by
  have hsz := hf.size
  have hlen0 : f.t.inorder.length ≤ 900000 := by rw [Tree.inorder_len]; exact hsz
  refine spec_of (args := [_]) Tryz.func52 rfl rfl rfl ?_
  repeat' (first
    | (refine y4 (k := 1) (α := Option Addr × Nat × Nat) (fun x => [(0, .pointer (some ⟨st, 0, none⟩)), (2, .pointer (some ⟨r2, 0, none⟩)), (3, .pointer (some ⟨x.2.2, 0, none⟩))]) (fun x => [cb r2 [.int .i64 0, .int .i64 0, .slice none 0 0, .slice none 0 0] 37, cb x.2.2 [.int .i64 f.e, .int .i64 f.i, .slice none 0 0, .slice x.1 f.L.length x.2.1] 37, own x.1 f.L.length x.2.1 4 (ssC f.L) 111, cb st (.int .i64 f.e :: .int .i64 f.i :: .pointer (some ⟨k, 0, none⟩) :: .pointer (some ⟨d, 0, none⟩) :: l) T, MpA k f.t, DeP d 16 f.L]) (fun x => True) ?_ (fun x G _ => ?_); rotate_left; simp only [ov]; rotate_left)
    | refine zi ?_
    | refine zK ?_
    | refine zQ (h := ?_)
    | refine zU (h := ?_)
    | refine zj ?_
    | refine zR ?_
    | refine zW ?_
    | refine zN ?_
    | refine zV ?_
    | refine ze ?_
    | refine zP ?_
    | refine zY ?_
    | refine zS rfl ?_
    | refine zd ?_
    | refine zX ?_
    | refine zO ?_
    | refine zT ?_
    | refine zL ?_
    | (refine zC (id := 0) ?_; intro K hK; ((first | (refine zw (k := ?_); intro r2) | sl_stop "s2")) <;> ((refine zD (hK _ _ ?_); clear hK K)))
    | ((refine yY (id := 1) (M := ([cb st (.int .i64 f.e :: .int .i64 f.i :: .pointer (some ⟨k, 0, none⟩) :: .pointer (some ⟨d, 0, none⟩) :: l) T])) (Ls := [9, 13]) (t := (.step 0 (.step 1 (.step 2 (.step 3 (.step 4 (.step 5 (.step 6 (.step 7 (.alt (.step 8 (.step 9 (.step 10 (.step 11 .done)))) (.step 10 (.step 8 (.step 9 (.step 11 .done)))))))))))))) (bad := [8, 10]) (hok := (by decide +kernel)) (hp := (Pick.perm (by (repeat (first | exact Pick.nil | apply Pick.cons (by (repeat (first | exact Out.head | apply Out.tail)); (first | done | fail)))); (first | done | fail)))) (h := ?_); intro K hK; repeat' (first | refine z1 ?_ ?_ | (refine zI (i := 0) rfl ?_; ((first | refine zF (k := ?_) | sl_stop "s6")) <;> (refine zD ?_)) | (refine zI (i := 1) rfl ?_; ((first | refine zJ (k := ?_) | sl_stop "s7")) <;> (refine zD ?_)) | (refine zI (i := 2) rfl ?_; ((first | refine zB (k := ?_) | sl_stop "s8")) <;> (refine zD ?_)) | (refine zI (i := 3) rfl ?_; ((first | refine yC (k := ?_) | sl_stop "s9")) <;> (refine zD ?_)) | (refine zI (i := 4) rfl ?_; ((first | refine zF (k := ?_) | sl_stop "s10")) <;> (refine zD ?_)) | (refine zI (i := 5) rfl ?_; ((first | refine zJ (k := ?_) | sl_stop "s11")) <;> (refine zD ?_)) | (refine zI (i := 6) rfl ?_; ((first | refine zB (k := ?_) | sl_stop "s12")) <;> (refine zD ?_)) | (refine zI (i := 7) rfl ?_; ((first | refine z2 (k := ?_) | sl_stop "s13")) <;> (refine zD ?_)) | (refine zI (i := 8) rfl ?_; ((first | (refine zb (hs := all_spec d 16 f.L hf.ris hL) (k := ?_); rintro v A' ⟨sa, sc, rfl, rfl⟩; simp only [List.cons_append, List.nil_append]) | sl_stop "s14")) <;> (refine zD ?_)) | (refine zI (i := 9) rfl ?_; ((first | refine zr (k := ?_) | sl_stop "s15")) <;> (refine zD ?_)) | (refine zI (i := 10) rfl ?_; ((first | (refine zw (k := ?_); intro r3) | sl_stop "s3")) <;> (refine zD ?_)) | (refine zI (i := 11) rfl ?_; ((first | refine zh (ho' := rfl) (k := ?_) | sl_stop "o11")) <;> (refine zD ?_)) | (refine zx (hK _ _ ?_); clear hK K; try simp only [List.cons_append, List.nil_append]))))
    | (refine zC (id := 2) ?_; intro K hK; (first | refine zF (k := ?_) | sl_stop "s16"); (first | refine zJ (k := ?_) | sl_stop "s17"); (first | refine zB (k := ?_) | sl_stop "s18"); (first | refine zM (k := ?_) | sl_stop "s19"); ((first | (refine zb (hs := mall_spec (B := B) _ _ rfl) (k := ?_); rintro v A' ⟨ra, rfl, rfl⟩; simp only [List.cons_append, List.nil_append]) | sl_stop "s20")) <;> ((refine zD (hK _ _ ?_); clear hK K)))
    | (refine zc (ht := (fun ht => ?_)) (hf := (fun ht => ?_)) <;> (try simp at ht) <;> (try (exfalso; omega))))
  all_goals first | exact ⟨(sa, sc, r3), trivial, ⟨rfl, rfl, rfl, trivial⟩, (by (repeat (first | exact Ent.refl _ | exact Ent.nil | refine Ent.take (by (repeat (first | exact Out.head | apply Out.tail)); (first | done | fail)) ?_ | refine Ent.drop1 ?_)); (first | done | fail))⟩ | skip
  obtain ⟨sa, sc, r3⟩ := x
  simp only
  refine yr (vs := []) encP f.t.inorder [cb ra [.pointer (some ⟨k, 0, none⟩)] 80, MpA k f.t]
    (fun pre => [exN (TdG r3 f sa sc pre), cb r2 [.int .i64 0, .int .i64 0, .slice none 0 0, .slice none 0 0] 37, own sa f.L.length sc 4 (ssC f.L) 111, cb st (.int .i64 f.e :: .int .i64 f.i :: .pointer (some ⟨k, 0, none⟩) :: .pointer (some ⟨d, 0, none⟩) :: l) T, DeP d 16 f.L]) (fun _ _ => [pur False]) rfl ?_ (all_seq ra k f.t) (by decide) (fun _ => rfl) ?_ ?_ (fun c pre x rest hx => ?_)
  · refine Ent.trans (own_nil 5 57 _) (Ent_foldTdG (pre := []) (r := r3) (c := 0) (a := none) (f := f) (sa := sa) (sc := sc) (by (repeat (first | exact Out.head | apply Out.tail)); (first | done | fail)) (by (repeat (first | exact Out.head | apply Out.tail)); (first | done | fail)) rfl rfl ?_)
    simp only [List.cons_append, List.nil_append]
    (repeat (first | exact Ent.refl _ | exact Ent.nil | refine Ent.take (by (repeat (first | exact Out.head | apply Out.tail)); (first | done | fail)) ?_ | refine Ent.drop1 ?_))
  · rintro pre ⟨kk, n⟩ rest hx
    have hlt : pre.length ≤ 900000 := by rw [hx] at hlen0; simp at hlen0; omega
    unfold Round
    simp only [encP, List.zip_cons_cons, List.zip_nil_right, ups, List.cons_append, List.nil_append]
    repeat' (first
      | refine zi ?_
      | refine zK ?_
      | refine zQ (h := ?_)
      | refine zU (h := ?_)
      | refine zj ?_
      | refine zR ?_
      | refine zW ?_
      | refine zN ?_
      | refine zV ?_
      | refine ze ?_
      | refine zP ?_
      | refine zY ?_
      | refine zS rfl ?_
      | refine zd ?_
      | refine zX ?_
      | refine zO ?_
      | refine zT ?_
      | refine zL ?_
      | (refine zC (id := 3) ?_; intro K hK; (first | refine zH (k := ?_) | sl_stop "s4"); (refine zD (hK _ _ ?_); clear hK K))
      | (refine zC (id := 4) ?_; intro K hK; ((first | (refine zw (k := ?_); intro r5) | sl_stop "s5")) <;> ((first | refine zh (ho' := rfl) (k := ?_) | sl_stop "o1"); (refine zD (hK _ _ ?_); clear hK K)))
      | (refine zc (ht := (fun ht => ?_)) (hf := (fun ht => ?_)) <;> (try simp at ht) <;> (try (exfalso; omega))))
    refine ⟨rfl, ?_⟩
    refine yJ (y := exN (TdG r3 f sa sc pre)) (k := (yE (fun y => ?_)))
    simp only [TdG, List.cons_append, List.nil_append]
    repeat' (first
      | refine zi ?_
      | refine zK ?_
      | refine zQ (h := ?_)
      | refine zU (h := ?_)
      | refine zj ?_
      | refine zR ?_
      | refine zW ?_
      | refine zN ?_
      | refine zV ?_
      | refine ze ?_
      | refine zP ?_
      | refine zY ?_
      | refine zS rfl ?_
      | refine zd ?_
      | refine zX ?_
      | refine zO ?_
      | refine zT ?_
      | refine zL ?_
      | (refine zC (id := 5) ?_; intro K hK; (first | refine zB (k := ?_) | sl_stop "s23"); (first | refine zM (k := ?_) | sl_stop "s24"); (first | refine zF (k := ?_) | sl_stop "s25"); (first | refine zo (k := ?_) | sl_stop "s26"); (first | refine zr (k := ?_) | sl_stop "s27"); ((first | (refine yR (cs := PrX.c ⟨kk, n⟩) (k := ?_); intro r28) | sl_stop "s28")) <;> (((first | (refine yO (hvl := by rfl) (hvc := by rfl) (hbd := by omega) (k := ?_); intro nb nc) | sl_stop "s29")) <;> ((first | refine zB (k := ?_) | sl_stop "s30"); (first | refine zy (ho := rfl) (k := ?_) | sl_stop "o8"); (refine zD (hK _ _ ?_); clear hK K))))
      | (refine zc (ht := (fun ht => ?_)) (hf := (fun ht => ?_)) <;> (try simp at ht) <;> (try (exfalso; omega))))
    refine .inl ⟨rfl, Ent_foldTdG (r := r3) (f := f) (sa := sa) (sc := sc) (pre := pre ++ [(kk, n)]) (by (repeat (first | exact Out.head | apply Out.tail)); (first | done | fail)) (by (repeat (first | exact Out.head | apply Out.tail)); (first | done | fail)) (by simp) (by simp [prC, kPr]) ?_⟩
    (repeat (first | exact Ent.refl _ | exact Ent.nil | refine Ent.take (by (repeat (first | exact Out.head | apply Out.tail)); (first | done | fail)) ?_ | refine Ent.drop1 ?_))
  · refine zN (zK ?_)
    simp only [List.cons_append, List.nil_append]
    refine yJ (y := exN (TdG r3 f sa sc f.t.inorder)) (k := (yE (fun y => ?_)))
    simp only [TdG, List.cons_append, List.nil_append]
    repeat' (first
      | refine zi ?_
      | refine zK ?_
      | refine zQ (h := ?_)
      | refine zU (h := ?_)
      | refine zj ?_
      | refine zR ?_
      | refine zW ?_
      | refine zN ?_
      | refine zV ?_
      | refine ze ?_
      | refine zP ?_
      | refine zY ?_
      | refine zS rfl ?_
      | refine zd ?_
      | refine zX ?_
      | refine zO ?_
      | refine zT ?_
      | refine zL ?_
      | (refine zC (id := 6) ?_; intro K hK; (first | refine zo (k := ?_) | sl_stop "s31"); (first | refine zh (ho' := rfl) (k := ?_) | sl_stop "o1"); (refine zD (hK _ _ ?_); clear hK K))
      | (refine zc (ht := (fun ht => ?_)) (hf := (fun ht => ?_)) <;> (try simp at ht) <;> (try (exfalso; omega))))
    have hpl : f.t.inorder.length = f.snap.ps.length := by simp [FoX.snap, prs]
    refine ⟨Or.inr rfl, _, [own y.1 f.snap.ps.length y.2 5 (prC f.snap.ps) 57, own sa f.snap.ss.length sc 4 (ssC f.snap.ss) 111, cb st (.int .i64 f.e :: .int .i64 f.i :: .pointer (some ⟨k, 0, none⟩) :: .pointer (some ⟨d, 0, none⟩) :: l) T, MpA k f.t, DeP d 16 f.L], ?_, resG rfl (by (repeat (first | exact ResL.nil | apply ResL.tmp (by (repeat (first | exact Ev.here | exact Ev.const | exact Ev.arg rfl | apply Ev.there rfl | exact Ev.none rfl | exact Ev.func | exact Ev.var)); (first | done | fail)) | apply ResL.agg (by (repeat (first | exact Ev.here | exact Ev.const | exact Ev.arg rfl | apply Ev.there rfl | exact Ev.none rfl | exact Ev.func | exact Ev.var)); (first | done | fail)) (by (repeat (first | exact Rd.head | exact Rd.base (by assumption) | apply Rd.tail)); (first | done | fail)) (by (repeat (first | exact TakeR.nil | apply TakeR.take | apply TakeR.skip)); (first | done | fail)) | apply ResL.cell (by (repeat (first | exact Ev.here | exact Ev.const | exact Ev.arg rfl | apply Ev.there rfl | exact Ev.none rfl | exact Ev.func | exact Ev.var)); (first | done | fail)) (by (repeat (first | exact Rd.head | exact Rd.base (by assumption) | apply Rd.tail)); (first | done | fail)) rfl)); (first | done | fail)) rfl, y.1, y.2, sa, sc, by rw [← hpl]; rfl, rfl⟩
    rw [← hpl]
    show Ent _ [own y.1 f.t.inorder.length y.2 5 (prC (f.t.inorder.map kPr)) 57, own sa f.L.length sc 4 (ssC f.L) 111, cb st (.int .i64 f.e :: .int .i64 f.i :: .pointer (some ⟨k, 0, none⟩) :: .pointer (some ⟨d, 0, none⟩) :: l) T, MpA k f.t, DeP d 16 f.L]
    (repeat (first | exact Ent.refl _ | exact Ent.nil | refine Ent.take (by (repeat (first | exact Out.head | apply Out.tail)); (first | done | fail)) ?_ | refine Ent.drop1 ?_))
  · simp only [List.cons_append, List.nil_append]
    refine yJ (y := pur False) (k := (xZ (fun h => h.elim)))
end specs
end Go.Proofs.YtnoggejkkjngjaaGreat
/- Package state: a record has its effect. Conditions: none but the kinds' bounds, and not too many rows. -/
set_option maxHeartbeats 8000000
set_option linter.unusedVariables false
set_option linter.unusedSimpArgs false
set_option maxRecDepth 100000
namespace Go.Proofs.YtnoggejkkjngjaaGreat
open Go Go.Sl
attribute [local irreducible] Go.Sl.Wl Go.Sl.Wc Go.Sl.thenQ Go.Sl.blkQ Go.Sl.loopQ Go.Sl.Fspec

section specs
variable {B : Base}
theorem gapply1_spec (X : Asn) (st n : Nat) (S : G15) (hS : S.inv n) (hn : n ≤ 90000) (r : RcG) (hr : r.ok) (pa : Option Addr) (pc : Nat) (sa : Option Addr) (sc : Nat)
    (h1 : RdS Tryz.prog B [X] 5 pa r.sn.ps.length pc (prC r.sn.ps)) (h2 : RdS Tryz.prog B [X] 4 sa r.sn.ss.length sc (ssC r.sn.ss)) :
    Fspec Tryz.prog B 15 #[.pointer (some ⟨st, 0, none⟩), .agg (r.c pa pc sa sc).toArray] [GtP st S, X] (fun v A' => v = .int .i64 (gchkV S r) ∧ A' = [GtP st (gapplyV S r), X]) := by
  have hck := gcheck1_spec (B := B) X st S hS.ok r hr pa pc sa sc h1 h2
  have htab := rightT_out hS.ok.tab
  have hfew := hS.ok.few
  have hi := G15.fold_i hS.ok
  have hbi := hS.ok.bi
  have hxo := hr.xo
  have hps := hr.ps
  have hss := hr.ss
  refine spec_of (args := [_, _]) Tryz.func15 rfl rfl rfl ?_
  unfold gapplyV
  by_cases h0 : gchkV S r ≠ 0
  · rw [if_pos h0]
    repeat' (first
      | refine zi ?_
      | refine zK ?_
      | refine zQ (h := ?_)
      | refine zU (h := ?_)
      | refine zj ?_
      | refine zR ?_
      | refine zW ?_
      | refine zN ?_
      | refine zV ?_
      | refine ze ?_
      | refine zP ?_
      | refine zY ?_
      | refine zS rfl ?_
      | refine zd ?_
      | refine zX ?_
      | refine zO ?_
      | refine zT ?_
      | refine zL ?_
      | (refine zC (id := 0) ?_; intro K hK; ((refine zm (l := r.c pa pc sa sc) (k := ?_); intro r3)) <;> (refine zH (k := ?_); (refine zD (hK _ _ ?_); clear hK K)))
      | (refine zC (id := 1) ?_; intro K hK; refine zF (k := ?_); ((refine z5 (cs := r.c pa pc sa sc) (hv := by simp [RcG.c]) (hc := rfl) (k := ?_))) <;> (((refine zb (hs := hck) (k := ?_); rintro v A' ⟨rfl, rfl⟩; simp only [List.cons_append, List.nil_append])) <;> (refine zH (k := ?_); (refine zD (hK _ _ ?_); clear hK K))))
      | (refine zC (id := 2) ?_; intro K hK; refine zF (k := ?_); refine z8 (k' := ?_); (refine zD (hK _ _ ?_); clear hK K))
      | (refine zC (id := 3) ?_; intro K hK; refine zF (k := ?_); refine zH (k := ?_); (refine zD (hK _ _ ?_); clear hK K))
      | (refine zc (ht := (fun ht => ?_)) (hf := (fun ht => ?_)) <;> (try simp at ht) <;> (try (exfalso; omega))))
    exact ⟨Or.inr rfl, _, [GtP st S, X], (by (repeat (first | exact Ent.refl _ | exact Ent.nil | refine Ent.take (by (repeat (first | exact Out.head | apply Out.tail)); (first | done | fail)) ?_ | refine Ent.drop1 ?_))), res1 rfl rfl, rfl, rfl⟩
  rw [if_neg h0]
  have h0' : gchkV S r = 0 := by omega
  rw [h0'] at hck ⊢
  unfold gchkV at h0'
  obtain ⟨kind, x, ep, config, sn⟩ := r
  simp only at hxo hps hss h1 h2 h0' ⊢
  have hfo : ∀ (S : G15) (q : Gq) (A0 : List Asn), Ent (GtL st S q ++ A0) (GtP st S :: A0) := fun S q A0 => gt_fold (A0 := A0) q (Ent.refl _)
  by_cases k1 : kind = 1
  · subst k1
    rw [if_pos rfl] at h0' ⊢
    have hfold := hS.ok
    have hfo1 := G15.fold_ok hS.ok
    have hfw := gfold_write S x
    have hl1 : S.es.length + 1 = (S.es ++ [x]).length := by simp
    have hes : esC S.es ++ x.c = esC (S.es ++ [x]) := by simp [esC]
    repeat' (first
      | refine zi ?_
      | refine zK ?_
      | refine zQ (h := ?_)
      | refine zU (h := ?_)
      | refine zj ?_
      | refine zR ?_
      | refine zW ?_
      | refine zN ?_
      | refine zV ?_
      | refine ze ?_
      | refine zP ?_
      | refine zY ?_
      | refine zS rfl ?_
      | refine zd ?_
      | refine zX ?_
      | refine zO ?_
      | refine zT ?_
      | refine zL ?_
      | (refine zC (id := 0) ?_; intro K hK; ((refine zm (k := ?_); intro r3)) <;> (refine zH (k := ?_); (refine zD (hK _ _ ?_); clear hK K)))
      | (refine zC (id := 1) ?_; intro K hK; refine zF (k := ?_); refine zo (k := ?_); ((refine zb (hs := hck) (k := ?_); rintro v A' ⟨rfl, rfl⟩; simp only [List.cons_append, List.nil_append])) <;> (refine zH (k := ?_); (refine zD (hK _ _ ?_); clear hK K)))
      | (refine zC (id := 2) ?_; intro K hK; refine zF (k := ?_); refine z8 (k' := ?_); (refine zD (hK _ _ ?_); clear hK K))
      | (refine zC (id := 4) ?_; intro K hK; refine zB (k := ?_); refine zM (k := ?_); (refine zD (hK _ _ ?_); clear hK K))
      | (refine zc (ht := (fun ht => ?_)) (hf := (fun ht => ?_)) <;> (try simp at ht) <;> (try (exfalso; omega))))
    refine yJ (y := GtP st S) (k := ?_)
    refine yE (fun q => ?_)
    obtain ⟨k, d, ta, tc, ea0, ec0, sa0, sc0, ea, ec⟩ := q
    simp only [GtL, GtR, RcG.c]
    simp only [List.cons_append, List.nil_append]
    repeat' (first
      | refine zi ?_
      | refine zK ?_
      | refine zQ (h := ?_)
      | refine zU (h := ?_)
      | refine zj ?_
      | refine zR ?_
      | refine zW ?_
      | refine zN ?_
      | refine zV ?_
      | refine ze ?_
      | refine zP ?_
      | refine zY ?_
      | refine zS rfl ?_
      | refine zd ?_
      | refine zX ?_
      | refine zO ?_
      | refine zT ?_
      | refine zL ?_
      | (refine zC (id := 5) ?_; intro K hK; refine zp (k' := ?_); refine zH (k := ?_); (refine zD (hK _ _ ?_); clear hK K))
      | (refine z3 (id := 10) (h := ?_); intro K hK; refine zF (k := ?_); refine zF (k := ?_); refine zJ (k := ?_); refine zB (k := ?_); refine zM (k := ?_); refine zB (k := ?_); ((refine z5 (cs := x.c) (hv := by simp) (hc := rfl) (k := ?_))) <;> (((refine yR (cs := x.c) (k := ?_); intro r31)) <;> (((refine yO (hvl := by rfl) (hvc := by rfl) (hbd := by omega) (k := ?_); intro nb nc; rw [hl1, hes])) <;> (refine zJ (k := ?_); refine zB (k := ?_); refine zy (ho := rfl) (k := ?_); (refine zD (hK _ _ ?_); clear hK K)))))
      | (refine z3 (id := 11) (h := ?_); intro K hK; refine zF (k := ?_); refine zJ (k := ?_); refine zB (k := ?_); refine zB (k := ?_); ((refine z5 (cs := x.c) (hv := by simp) (hc := rfl) (k := ?_))) <;> (((refine zb (hs := put_spec st k d S.fold (hfo1.mono (by omega)) x hxo (GtR (gwriteV S x) ta tc ea0 ec0 sa0 sc0 nb nc) 86) (k := ?_); rintro v A' ⟨rfl, rfl⟩; simp only [List.cons_append, List.nil_append])) <;> ((refine zD (hK _ _ ?_); clear hK K))))
      | (refine zC (id := 17) ?_; intro K hK; refine zH (k := ?_); (refine zD (hK _ _ ?_); clear hK K))
      | (refine zc (ht := (fun ht => ?_)) (hf := (fun ht => ?_)) <;> (try simp at ht) <;> (try (exfalso; omega))))
    refine ⟨Or.inr rfl, _, [GtP st (gwriteV S x), X], Ent.trans ?_ (hfo (gwriteV S x) ⟨k, d, ta, tc, ea0, ec0, sa0, sc0, nb, nc⟩ [X]), res1 rfl rfl, rfl, rfl⟩
    simp only [GtL, hfw]; simp only [List.cons_append, List.nil_append]
    exact (by (repeat (first | exact Ent.refl _ | exact Ent.nil | refine Ent.take (by (repeat (first | exact Out.head | apply Out.tail)); (first | done | fail)) ?_ | refine Ent.drop1 ?_)))
  rw [if_neg k1] at h0' ⊢
  by_cases k2 : kind = 2
  · subst k2
    rw [if_pos rfl] at h0' ⊢
    have hT : rightT (S.table ++ [ep]) = true := by
      cases hb : rightT (S.table ++ [ep]) with
      | true => rfl
      | false => rw [hb] at h0'; simp at h0'
    repeat' (first
      | refine zi ?_
      | refine zK ?_
      | refine zQ (h := ?_)
      | refine zU (h := ?_)
      | refine zj ?_
      | refine zR ?_
      | refine zW ?_
      | refine zN ?_
      | refine zV ?_
      | refine ze ?_
      | refine zP ?_
      | refine zY ?_
      | refine zS rfl ?_
      | refine zd ?_
      | refine zX ?_
      | refine zO ?_
      | refine zT ?_
      | refine zL ?_
      | (refine zC (id := 0) ?_; intro K hK; ((refine zm (k := ?_); intro r3)) <;> (refine zH (k := ?_); (refine zD (hK _ _ ?_); clear hK K)))
      | (refine zC (id := 1) ?_; intro K hK; refine zF (k := ?_); refine zo (k := ?_); ((refine zb (hs := hck) (k := ?_); rintro v A' ⟨rfl, rfl⟩; simp only [List.cons_append, List.nil_append])) <;> (refine zH (k := ?_); (refine zD (hK _ _ ?_); clear hK K)))
      | (refine zC (id := 2) ?_; intro K hK; refine zF (k := ?_); refine z8 (k' := ?_); (refine zD (hK _ _ ?_); clear hK K))
      | (refine zC (id := 4) ?_; intro K hK; refine zB (k := ?_); refine zM (k := ?_); (refine zD (hK _ _ ?_); clear hK K))
      | (refine zC (id := 5) ?_; intro K hK; refine zp (k' := ?_); refine zH (k := ?_); (refine zD (hK _ _ ?_); clear hK K))
      | (refine zC (id := 6) ?_; intro K hK; refine zp (k' := ?_); refine zH (k := ?_); (refine zD (hK _ _ ?_); clear hK K))
      | (refine zC (id := 12) ?_; intro K hK; refine zF (k := ?_); refine zB (k := ?_); ((refine z5 (cs := epC ep) (hv := by simp [RcG.c]) (hc := rfl) (k := ?_))) <;> (((refine zb (hs := gadopt_spec st S hS.ok ep hT) (k := ?_); rintro v A' ⟨rfl, rfl⟩; simp only [List.cons_append, List.nil_append])) <;> ((refine zD (hK _ _ ?_); clear hK K))))
      | (refine zC (id := 17) ?_; intro K hK; refine zH (k := ?_); (refine zD (hK _ _ ?_); clear hK K))
      | (refine zc (ht := (fun ht => ?_)) (hf := (fun ht => ?_)) <;> (try simp at ht) <;> (try (exfalso; omega))))
    exact ⟨Or.inr rfl, _, [GtP st (gadoptV S ep), X], (by (repeat (first | exact Ent.refl _ | exact Ent.nil | refine Ent.take (by (repeat (first | exact Out.head | apply Out.tail)); (first | done | fail)) ?_ | refine Ent.drop1 ?_))), res1 rfl rfl, rfl, rfl⟩
  rw [if_neg k2] at h0' ⊢
  by_cases k3 : kind = 3
  · subst k3
    rw [if_pos rfl] at h0' ⊢
    repeat' (first
      | refine zi ?_
      | refine zK ?_
      | refine zQ (h := ?_)
      | refine zU (h := ?_)
      | refine zj ?_
      | refine zR ?_
      | refine zW ?_
      | refine zN ?_
      | refine zV ?_
      | refine ze ?_
      | refine zP ?_
      | refine zY ?_
      | refine zS rfl ?_
      | refine zd ?_
      | refine zX ?_
      | refine zO ?_
      | refine zT ?_
      | refine zL ?_
      | (refine zC (id := 0) ?_; intro K hK; ((refine zm (k := ?_); intro r3)) <;> (refine zH (k := ?_); (refine zD (hK _ _ ?_); clear hK K)))
      | (refine zC (id := 1) ?_; intro K hK; refine zF (k := ?_); refine zo (k := ?_); ((refine zb (hs := hck) (k := ?_); rintro v A' ⟨rfl, rfl⟩; simp only [List.cons_append, List.nil_append])) <;> (refine zH (k := ?_); (refine zD (hK _ _ ?_); clear hK K)))
      | (refine zC (id := 2) ?_; intro K hK; refine zF (k := ?_); refine z8 (k' := ?_); (refine zD (hK _ _ ?_); clear hK K))
      | (refine zC (id := 4) ?_; intro K hK; refine zB (k := ?_); refine zM (k := ?_); (refine zD (hK _ _ ?_); clear hK K))
      | (refine zC (id := 5) ?_; intro K hK; refine zp (k' := ?_); refine zH (k := ?_); (refine zD (hK _ _ ?_); clear hK K))
      | (refine zC (id := 6) ?_; intro K hK; refine zp (k' := ?_); refine zH (k := ?_); (refine zD (hK _ _ ?_); clear hK K))
      | (refine zC (id := 7) ?_; intro K hK; refine zp (k' := ?_); refine zH (k := ?_); (refine zD (hK _ _ ?_); clear hK K))
      | (refine zc (ht := (fun ht => ?_)) (hf := (fun ht => ?_)) <;> (try simp at ht) <;> (try (exfalso; omega))))
    refine yJ (y := GtP st S) (k := ?_)
    refine yE (fun q => ?_)
    obtain ⟨k, d, ta, tc, ea0, ec0, sa0, sc0, ea, ec⟩ := q
    simp only [GtL, GtR, RcG.c]
    simp only [List.cons_append, List.nil_append]
    repeat' (first
      | refine zi ?_
      | refine zK ?_
      | refine zQ (h := ?_)
      | refine zU (h := ?_)
      | refine zj ?_
      | refine zR ?_
      | refine zW ?_
      | refine zN ?_
      | refine zV ?_
      | refine ze ?_
      | refine zP ?_
      | refine zY ?_
      | refine zS rfl ?_
      | refine zd ?_
      | refine zX ?_
      | refine zO ?_
      | refine zT ?_
      | refine zL ?_
      | (refine zC (id := 13) ?_; intro K hK; refine zF (k := ?_); refine zJ (k := ?_); refine zB (k := ?_); refine zy (ho := rfl) (k := ?_); (refine zD (hK _ _ ?_); clear hK K))
      | (refine zC (id := 17) ?_; intro K hK; refine zH (k := ?_); (refine zD (hK _ _ ?_); clear hK K))
      | (refine zc (ht := (fun ht => ?_)) (hf := (fun ht => ?_)) <;> (try simp at ht) <;> (try (exfalso; omega))))
    refine ⟨Or.inr rfl, _, [GtP st { S with closed := true }, X], Ent.trans ?_ (hfo { S with closed := true } ⟨k, d, ta, tc, ea0, ec0, sa0, sc0, ea, ec⟩ [X]), res1 rfl rfl, rfl, rfl⟩
    show Ent _ (GtL st { S with closed := true } ⟨k, d, ta, tc, ea0, ec0, sa0, sc0, ea, ec⟩ ++ [X])
    simp only [GtL, GtR]; simp only [List.cons_append, List.nil_append]
    show Ent _ [cb st (.int .i64 S.fold.e :: .int .i64 S.fold.i :: _) _, MpA k S.fold.t, DeP d 16 S.fold.L, _, _, _, _, X]
    exact (by (repeat (first | exact Ent.refl _ | exact Ent.nil | refine Ent.take (by (repeat (first | exact Out.head | apply Out.tail)); (first | done | fail)) ?_ | refine Ent.drop1 ?_)))
  rw [if_neg k3] at h0' ⊢
  by_cases k4 : kind = 4
  · subst k4
    rw [if_pos rfl] at h0' ⊢
    have hX : RightP S.table sn := by
      refine (right_iff _ _).1 ?_
      cases hb : rightX S.table sn with
      | true => rfl
      | false => rw [hb] at h0'; split at h0' <;> simp_all
    have hok : (G15.mk S.table sn [] S.closed).ok := hS.ok.base (.inr hX) (by omega) _
    have hcp := copied_spec (B := B) [X] sn (by omega) (by omega) pa pc sa sc h1 h2
    repeat' (first
      | refine zi ?_
      | refine zK ?_
      | refine zQ (h := ?_)
      | refine zU (h := ?_)
      | refine zj ?_
      | refine zR ?_
      | refine zW ?_
      | refine zN ?_
      | refine zV ?_
      | refine ze ?_
      | refine zP ?_
      | refine zY ?_
      | refine zS rfl ?_
      | refine zd ?_
      | refine zX ?_
      | refine zO ?_
      | refine zT ?_
      | refine zL ?_
      | (refine zC (id := 0) ?_; intro K hK; ((refine zm (k := ?_); intro r3)) <;> (refine zH (k := ?_); (refine zD (hK _ _ ?_); clear hK K)))
      | (refine zC (id := 1) ?_; intro K hK; refine zF (k := ?_); refine zo (k := ?_); ((refine zb (hs := hck) (k := ?_); rintro v A' ⟨rfl, rfl⟩; simp only [List.cons_append, List.nil_append])) <;> (refine zH (k := ?_); (refine zD (hK _ _ ?_); clear hK K)))
      | (refine zC (id := 2) ?_; intro K hK; refine zF (k := ?_); refine z8 (k' := ?_); (refine zD (hK _ _ ?_); clear hK K))
      | (refine zC (id := 4) ?_; intro K hK; refine zB (k := ?_); refine zM (k := ?_); (refine zD (hK _ _ ?_); clear hK K))
      | (refine zC (id := 5) ?_; intro K hK; refine zp (k' := ?_); refine zH (k := ?_); (refine zD (hK _ _ ?_); clear hK K))
      | (refine zC (id := 6) ?_; intro K hK; refine zp (k' := ?_); refine zH (k := ?_); (refine zD (hK _ _ ?_); clear hK K))
      | (refine zC (id := 7) ?_; intro K hK; refine zp (k' := ?_); refine zH (k := ?_); (refine zD (hK _ _ ?_); clear hK K))
      | (refine zC (id := 8) ?_; intro K hK; refine zp (k' := ?_); refine zH (k := ?_); (refine zD (hK _ _ ?_); clear hK K))
      | (refine zC (id := 9) ?_; intro K hK; refine zp (k' := ?_); refine zH (k := ?_); (refine zD (hK _ _ ?_); clear hK K))
      | (refine zc (ht := (fun ht => ?_)) (hf := (fun ht => ?_)) <;> (try simp at ht) <;> (try (exfalso; omega))))
    refine yJ (y := GtP st S) (k := ?_)
    refine yE (fun q => ?_)
    obtain ⟨k, d, ta, tc, ea0, ec0, sa0, sc0, ea, ec⟩ := q
    simp only [GtL, GtR, RcG.c]
    simp only [List.cons_append, List.nil_append]
    repeat' (first
      | refine zi ?_
      | refine zK ?_
      | refine zQ (h := ?_)
      | refine zU (h := ?_)
      | refine zj ?_
      | refine zR ?_
      | refine zW ?_
      | refine zN ?_
      | refine zV ?_
      | refine ze ?_
      | refine zP ?_
      | refine zY ?_
      | refine zS rfl ?_
      | refine zd ?_
      | refine zX ?_
      | refine zO ?_
      | refine zT ?_
      | refine zL ?_
      | (refine zC (id := 15) ?_; intro K hK; refine zF (k := ?_); refine zF (k := ?_); refine zB (k := ?_); refine zo (k := ?_); ((refine zb (hs := hcp) (k := ?_); rintro v A' ⟨a1, c1, a2, c2, rfl, rfl⟩; simp only [List.cons_append, List.nil_append])) <;> (refine zJ (k := ?_); refine zB (k := ?_); refine zh (ho' := rfl) (k := ?_); refine zJ (k := ?_); refine zB (k := ?_); refine zy (ho := rfl) (k := ?_); (refine zD (hK _ _ ?_); clear hK K)))
      | (refine zC (id := 16) ?_; intro K hK; refine zF (k := ?_); ((refine yB (own_nil 7 43 _) ?_; refine zb (hs := gagain_spec (B := B) st ⟨S.table, sn, [], S.closed⟩ hok S.fold.e S.fold.i (.pointer (some ⟨k, 0, none⟩)) (.pointer (some ⟨d, 0, none⟩)) ⟨k, d, ta, tc, a1, c1, a2, c2, none, 0⟩) (k := ?_); rintro v A' ⟨rfl, rfl⟩; simp only [List.cons_append, List.nil_append])) <;> ((refine zD (hK _ _ ?_); clear hK K)))
      | (refine zC (id := 17) ?_; intro K hK; refine zH (k := ?_); (refine zD (hK _ _ ?_); clear hK K))
      | (refine zc (ht := (fun ht => ?_)) (hf := (fun ht => ?_)) <;> (try simp at ht) <;> (try (exfalso; omega))))
    exact ⟨Or.inr rfl, _, [GtP st ⟨S.table, sn, [], S.closed⟩, X], (by (repeat (first | exact Ent.refl _ | exact Ent.nil | refine Ent.take (by (repeat (first | exact Out.head | apply Out.tail)); (first | done | fail)) ?_ | refine Ent.drop1 ?_))), res1 rfl rfl, rfl, rfl⟩
  rw [if_neg k4] at h0' ⊢
  have k5 : kind = 5 := Classical.byContradiction fun h => by rw [if_neg h] at h0'; omega
  subst k5
  have hfp := hS.fop
  have hsl := G15.snap_len S
  have hwt := hS.wt
  have hok : (G15.mk S.table S.fold.snap [] S.closed).ok := hS.ok.base hfp (by omega) _
  have hfe := fop_few hfp
  have hfo1 := (G15.fold_ok hS.ok).mono (show 100600 ≤ 900000 by omega)
  repeat' (first
    | refine zi ?_
    | refine zK ?_
    | refine zQ (h := ?_)
    | refine zU (h := ?_)
    | refine zj ?_
    | refine zR ?_
    | refine zW ?_
    | refine zN ?_
    | refine zV ?_
    | refine ze ?_
    | refine zP ?_
    | refine zY ?_
    | refine zS rfl ?_
    | refine zd ?_
    | refine zX ?_
    | refine zO ?_
    | refine zT ?_
    | refine zL ?_
    | (refine zC (id := 0) ?_; intro K hK; ((refine zm (k := ?_); intro r3)) <;> (refine zH (k := ?_); (refine zD (hK _ _ ?_); clear hK K)))
    | (refine zC (id := 1) ?_; intro K hK; refine zF (k := ?_); refine zo (k := ?_); ((refine zb (hs := hck) (k := ?_); rintro v A' ⟨rfl, rfl⟩; simp only [List.cons_append, List.nil_append])) <;> (refine zH (k := ?_); (refine zD (hK _ _ ?_); clear hK K)))
    | (refine zC (id := 2) ?_; intro K hK; refine zF (k := ?_); refine z8 (k' := ?_); (refine zD (hK _ _ ?_); clear hK K))
    | (refine zC (id := 4) ?_; intro K hK; refine zB (k := ?_); refine zM (k := ?_); (refine zD (hK _ _ ?_); clear hK K))
    | (refine zC (id := 5) ?_; intro K hK; refine zp (k' := ?_); refine zH (k := ?_); (refine zD (hK _ _ ?_); clear hK K))
    | (refine zC (id := 6) ?_; intro K hK; refine zp (k' := ?_); refine zH (k := ?_); (refine zD (hK _ _ ?_); clear hK K))
    | (refine zC (id := 7) ?_; intro K hK; refine zp (k' := ?_); refine zH (k := ?_); (refine zD (hK _ _ ?_); clear hK K))
    | (refine zC (id := 8) ?_; intro K hK; refine zp (k' := ?_); refine zH (k := ?_); (refine zD (hK _ _ ?_); clear hK K))
    | (refine zc (ht := (fun ht => ?_)) (hf := (fun ht => ?_)) <;> (try simp at ht) <;> (try (exfalso; omega))))
  refine yJ (y := GtP st S) (k := ?_)
  refine yE (fun q => ?_)
  obtain ⟨k, d, ta, tc, ea0, ec0, sa0, sc0, ea, ec⟩ := q
  simp only [GtL, RcG.c]
  simp only [List.cons_append, List.nil_append]
  have htd := told_spec (B := B) st k d S.fold hfo1 (by omega) (GtR S ta tc ea0 ec0 sa0 sc0 ea ec) 86
  repeat' (first
    | refine zi ?_
    | refine zK ?_
    | refine zQ (h := ?_)
    | refine zU (h := ?_)
    | refine zj ?_
    | refine zR ?_
    | refine zW ?_
    | refine zN ?_
    | refine zV ?_
    | refine ze ?_
    | refine zP ?_
    | refine zY ?_
    | refine zS rfl ?_
    | refine zd ?_
    | refine zX ?_
    | refine zO ?_
    | refine zT ?_
    | refine zL ?_
    | (refine zC (id := 14) ?_; intro K hK; refine zF (k := ?_); refine zJ (k := ?_); refine zB (k := ?_); ((refine zb (hs := htd) (k := ?_); rintro v A' ⟨pa', pc', sa', sc', rfl, rfl⟩; simp only [List.cons_append, List.nil_append])) <;> (refine zB (k := ?_); refine zh (ho' := rfl) (k := ?_); (refine zD (hK _ _ ?_); clear hK K)))
    | (refine zc (ht := (fun ht => ?_)) (hf := (fun ht => ?_)) <;> (try simp at ht) <;> (try (exfalso; omega))))
  refine yW (a := pa') (sz := 5) (ho := (by (repeat (first | exact Out.head | apply Out.tail)); (first | done | fail))) (h0 := by omega) (h := fun hpf => ?_)
  refine yW (a := sa') (sz := 4) (ho := (by (repeat (first | exact Out.head | apply Out.tail)); (first | done | fail))) (h0 := by omega) (h := fun hsf => ?_)
  have hcp := copied_spec (B := B) [own pa' S.fold.snap.ps.length pc' 5 (prC S.fold.snap.ps) 57, own sa' S.fold.snap.ss.length sc' 4 (ssC S.fold.snap.ss) 111] S.fold.snap (by omega) (by show S.fold.L.length ≤ 900000; omega) pa' pc' sa' sc' (hpf.rd .head) (hsf.rd (.tail .head))
  simp only [GtR]
  repeat' (first
    | refine zi ?_
    | refine zK ?_
    | refine zQ (h := ?_)
    | refine zU (h := ?_)
    | refine zj ?_
    | refine zR ?_
    | refine zW ?_
    | refine zN ?_
    | refine zV ?_
    | refine ze ?_
    | refine zP ?_
    | refine zY ?_
    | refine zS rfl ?_
    | refine zd ?_
    | refine zX ?_
    | refine zO ?_
    | refine zT ?_
    | refine zL ?_
    | (refine zC (id := 15) ?_; intro K hK; refine zF (k := ?_); refine zF (k := ?_); refine zB (k := ?_); refine zo (k := ?_); ((refine zb (hs := hcp) (k := ?_); rintro v A' ⟨a1, c1, a2, c2, rfl, rfl⟩; simp only [List.cons_append, List.nil_append])) <;> (refine zJ (k := ?_); refine zB (k := ?_); refine zh (ho' := rfl) (k := ?_); refine zJ (k := ?_); refine zB (k := ?_); refine zy (ho := rfl) (k := ?_); (refine zD (hK _ _ ?_); clear hK K)))
    | (refine zC (id := 16) ?_; intro K hK; refine zF (k := ?_); ((refine yB (own_nil 7 43 _) ?_; refine zb (hs := gagain_spec (B := B) st ⟨S.table, S.fold.snap, [], S.closed⟩ hok S.fold.e S.fold.i (.pointer (some ⟨k, 0, none⟩)) (.pointer (some ⟨d, 0, none⟩)) ⟨k, d, ta, tc, a1, c1, a2, c2, none, 0⟩) (k := ?_); rintro v A' ⟨rfl, rfl⟩; simp only [List.cons_append, List.nil_append])) <;> ((refine zD (hK _ _ ?_); clear hK K)))
    | (refine zC (id := 17) ?_; intro K hK; refine zH (k := ?_); (refine zD (hK _ _ ?_); clear hK K))
    | (refine zc (ht := (fun ht => ?_)) (hf := (fun ht => ?_)) <;> (try simp at ht) <;> (try (exfalso; omega))))
  exact ⟨Or.inr rfl, _, [GtP st ⟨S.table, S.fold.snap, [], S.closed⟩, X], (by (repeat (first | exact Ent.refl _ | exact Ent.nil | refine Ent.take (by (repeat (first | exact Out.head | apply Out.tail)); (first | done | fail)) ?_ | refine Ent.drop1 ?_))), res1 rfl rfl, rfl, rfl⟩
end specs
end Go.Proofs.YtnoggejkkjngjaaGreat
/- Package state: what a state tells. Conditions: none but the kinds' bounds, and not too many rows. -/
set_option maxHeartbeats 8000000
set_option linter.unusedVariables false
set_option linter.unusedSimpArgs false
set_option maxRecDepth 100000
namespace Go.Proofs.YtnoggejkkjngjaaGreat
open Go Go.Sl
attribute [local irreducible] Go.Sl.Wl Go.Sl.Wc Go.Sl.thenQ Go.Sl.blkQ Go.Sl.loopQ Go.Sl.Fspec

theorem Pick_all : ∀ A : List Asn, Pick A A []
  | [] => .nil
  | a :: A => .cons .head (Pick_all A)
/-- The entries that are told. -/
def G15.some (S : G15) (fr most : Int) : List EnX := if fr ≤ S.base.i ∨ S.fold.i < fr ∨ most < 1 then [] else (S.es.drop (fr - S.base.i - 1).toNat).take most.toNat
def newG (t : List Ep) : G15 := ⟨t, SnX.zero, [], false⟩
theorem new_inv {t : List Ep} (hT : rightT t = true) {n : Nat} : (newG t).inv n := ⟨wiped_ok hT, by simp [newG, SnX.zero], by simp [newG, SnX.zero], .inl rfl, by simp [newG]⟩
section specs
variable {B : Base}
theorem gapply_spec (A0 : List Asn) (st n : Nat) (S : G15) (hS : S.inv n) (hn : n ≤ 90000) (r : RcG) (hr : r.ok) (pa : Option Addr) (pc : Nat) (sa : Option Addr) (sc : Nat)
    (h1 : RdS Tryz.prog B A0 5 pa r.sn.ps.length pc (prC r.sn.ps)) (h2 : RdS Tryz.prog B A0 4 sa r.sn.ss.length sc (ssC r.sn.ss)) :
    Fspec Tryz.prog B 15 #[.pointer (some ⟨st, 0, none⟩), .agg (r.c pa pc sa sc).toArray] (GtP st S :: A0) (fun v A' => v = .int .i64 (gchkV S r) ∧ A' = GtP st (gapplyV S r) :: A0) := by
  have he : Ent [lst A0] A0 := by simpa using Ent.lst_open A0 []
  have hs : Ent A0 [lst A0] := by simpa using Ent.lst_shut A0 []
  refine ((gapply1_spec (lst A0) st n S hS hn r hr pa pc sa sc (RdS.ofEnt h1 he) (RdS.ofEnt h2 he)).ent (Ent.cons _ hs)).conv ?_
  rintro v A' ⟨rfl, rfl⟩
  exact ⟨_, Ent.cons _ he, rfl, rfl⟩
theorem rds_cb {A : List Asn} {b m sz : Nat} {l : List Value} {E : TypeId} (h : Rd B b l E (0, 0) A) (hl : l.length = m * sz) : RdS Tryz.prog B A sz (some ⟨b, 0, none⟩) m m l :=
  ⟨hl, by simp, Nat.le_refl _, src_sl h (by omega) (by rw [List.drop_zero]; exact List.take_of_length_le (by omega))⟩
theorem gnew_spec (A0 : List Asn) (t : List Ep) (a : Option Addr) (c : Nat) (h : RdS Tryz.prog B A0 3 a t.length c (epsC t)) (hT : rightT t = true) :
    Fspec Tryz.prog B 7 #[.slice a t.length c] A0 (fun v A' => ∃ st, v = .tuple #[.pointer (some ⟨st, 0, none⟩), .int .i64 0] ∧ A' = GtP st (newG t) :: A0) := by
  have h64 := (rightT_out hT).2.1
  have hr := right_spec (B := B) A0 t a c h (by omega)
  rw [hT] at hr
  refine spec_of (args := [_]) Tryz.func7 rfl rfl rfl ?_
  repeat' (first
    | refine zi ?_
    | refine zK ?_
    | refine zQ (h := ?_)
    | refine zU (h := ?_)
    | refine zj ?_
    | refine zR ?_
    | refine zW ?_
    | refine zN ?_
    | refine zV ?_
    | refine ze ?_
    | refine zP ?_
    | refine zY ?_
    | refine zS rfl ?_
    | refine zd ?_
    | refine zX ?_
    | refine zO ?_
    | refine zT ?_
    | refine zL ?_
    | (refine zC (id := 0) ?_; intro K hK; refine zH (k := ?_); refine zH (k := ?_); (refine zD (hK _ _ ?_); clear hK K))
    | (refine zC (id := 1) ?_; intro K hK; refine zF (k := ?_); ((refine zb (hs := hr) (hp := Pick_all _) (k := ?_); rintro v A' ⟨rfl, hA⟩; subst A'; simp only [List.append_nil])) <;> (refine z7 (k' := ?_); (refine zD (hK _ _ ?_); clear hK K)))
    | (refine zC (id := 2) ?_; intro K hK; refine zH (k := ?_); refine zH (k := ?_); (refine zD (hK _ _ ?_); clear hK K))
    | (refine zC (id := 3) ?_; intro K hK; ((refine zb (hs := blank_spec) (hp := .nil) (k := ?_); rintro v A' ⟨k, d, rfl, rfl⟩; simp only [List.cons_append, List.nil_append])) <;> (((refine yT (k := ?_); intro r8)) <;> (refine zF (k := ?_); ((refine yN (hsrc := RdS.under (RdS.under (RdS.under h))) (hvc := epsC_all _) (hbd := by omega) (k := ?_); intro nb nc)) <;> (refine zr (k := ?_); ((refine zm (k := ?_); intro rs)) <;> (refine zH (k := ?_); refine zH (k := ?_); (refine zD (hK _ _ ?_); clear hK K))))))
    | (refine zc (ht := (fun ht => ?_)) (hf := (fun ht => ?_)) <;> (try simp at ht) <;> (try (exfalso; omega))))
  refine ⟨Or.inr rfl, _, GtP rs (newG t) :: A0, ((own_nil 7 43 _).trans ((own_nil 4 111 _).trans (own_nil 5 57 _))).trans (gt_fold (A0 := A0) ⟨k, d, nb, nc, none, 0, none, 0, none, 0⟩ ?_), res2 rfl rfl rfl, rs, rfl, rfl⟩
  simp only [GtL, GtR, newG, G15.fold, List.foldl_nil, esC, prC, ssC, List.flatMap_nil, List.length_nil, Nat.zero_add, List.nil_append]
  simp only [List.cons_append, List.nil_append]
  show Ent _ (cb rs [.int .i64 0, .int .i64 0, .pointer (some ⟨k, 0, none⟩), .pointer (some ⟨d, 0, none⟩), .slice nb t.length nc, .int .i64 0, .int .i64 0, .slice none 0 0, .slice none 0 0, .slice none 0 0, .bool false] 86 :: MpA k .nil :: DeP d 16 [] :: own nb t.length nc 3 (epsC t) 45 :: own none 0 0 5 [] 57 :: own none 0 0 4 [] 111 :: own none 0 0 7 [] 43 :: A0)
  (repeat (first | exact Ent.refl _ | exact Ent.nil | refine Ent.take (by (repeat (first | exact Out.head | apply Out.tail)); (first | done | fail)) ?_ | refine Ent.drop1 ?_))
theorem glast_spec (st : Nat) (S : G15) : Fspec Tryz.prog B 30 #[.pointer (some ⟨st, 0, none⟩)] [GtP st S] (fun v A' => v = .agg #[.int .i64 S.fold.e, .int .i64 S.fold.i] ∧ A' = [GtP st S]) := by
  refine spec_of (args := [_]) Tryz.func30 rfl rfl rfl ?_
  refine yE (fun q => ?_)
  obtain ⟨k, d, ta, tc, pa0, pc0, sa0, sc0, ea, ec⟩ := q
  have hfo : ∀ A0 : List Asn, Ent (GtL st S ⟨k, d, ta, tc, pa0, pc0, sa0, sc0, ea, ec⟩ ++ A0) (GtP st S :: A0) := fun A0 => gt_fold (A0 := A0) ⟨k, d, ta, tc, pa0, pc0, sa0, sc0, ea, ec⟩ (Ent.refl _)
  simp only [GtL, GtR] at hfo ⊢
  simp only [List.cons_append, List.nil_append] at hfo ⊢
  repeat' (first
    | refine zi ?_
    | refine zK ?_
    | refine zQ (h := ?_)
    | refine zU (h := ?_)
    | refine zj ?_
    | refine zR ?_
    | refine zW ?_
    | refine zN ?_
    | refine zV ?_
    | refine ze ?_
    | refine zP ?_
    | refine zY ?_
    | refine zS rfl ?_
    | refine zd ?_
    | refine zX ?_
    | refine zO ?_
    | refine zT ?_
    | refine zL ?_
    | (refine zC (id := 0) ?_; intro K hK; ((refine zw (k := ?_); intro r2)) <;> ((refine zD (hK _ _ ?_); clear hK K)))
    | (refine zC (id := 1) ?_; intro K hK; refine zF (k := ?_); refine zf (k' := ?_); (refine zD (hK _ _ ?_); clear hK K))
    | (refine zC (id := 2) ?_; intro K hK; refine zr (k := ?_); refine zh (ho' := rfl) (k := ?_); (refine zD (hK _ _ ?_); clear hK K))
    | (refine zC (id := 3) ?_; intro K hK; refine zF (k := ?_); refine zJ (k := ?_); refine zB (k := ?_); refine zB (k := ?_); refine zo (k := ?_); refine zh (ho' := rfl) (k := ?_); (refine zD (hK _ _ ?_); clear hK K))
    | (refine zc (ht := (fun ht => ?_)) (hf := (fun ht => ?_)) <;> (try simp at ht) <;> (try (exfalso; omega))))
  exact ⟨Or.inr rfl, _, [GtP st S], Ent.trans (by (repeat (first | exact Ent.refl _ | exact Ent.nil | refine Ent.take (by (repeat (first | exact Out.head | apply Out.tail)); (first | done | fail)) ?_ | refine Ent.drop1 ?_)); (first | done | fail)) (hfo []), resG rfl (by (repeat (first | exact ResL.nil | apply ResL.tmp (by (repeat (first | exact Ev.here | exact Ev.const | exact Ev.arg rfl | apply Ev.there rfl | exact Ev.none rfl | exact Ev.func | exact Ev.var)); (first | done | fail)) | apply ResL.agg (by (repeat (first | exact Ev.here | exact Ev.const | exact Ev.arg rfl | apply Ev.there rfl | exact Ev.none rfl | exact Ev.func | exact Ev.var)); (first | done | fail)) (by (repeat (first | exact Rd.head | exact Rd.base (by assumption) | apply Rd.tail)); (first | done | fail)) (by (repeat (first | exact TakeR.nil | apply TakeR.take | apply TakeR.skip)); (first | done | fail)) | apply ResL.cell (by (repeat (first | exact Ev.here | exact Ev.const | exact Ev.arg rfl | apply Ev.there rfl | exact Ev.none rfl | exact Ev.func | exact Ev.var)); (first | done | fail)) (by (repeat (first | exact Rd.head | exact Rd.base (by assumption) | apply Rd.tail)); (first | done | fail)) rfl)); (first | done | fail)) rfl, rfl, rfl⟩
theorem gconfig_spec (st : Nat) (S : G15) : Fspec Tryz.prog B 32 #[.pointer (some ⟨st, 0, none⟩)] [GtP st S] (fun v A' => v = .int .i64 S.table.length ∧ A' = [GtP st S]) := by
  refine spec_of (args := [_]) Tryz.func32 rfl rfl rfl ?_
  refine yE (fun q => ?_)
  obtain ⟨k, d, ta, tc, pa0, pc0, sa0, sc0, ea, ec⟩ := q
  have hfo : ∀ A0 : List Asn, Ent (GtL st S ⟨k, d, ta, tc, pa0, pc0, sa0, sc0, ea, ec⟩ ++ A0) (GtP st S :: A0) := fun A0 => gt_fold (A0 := A0) ⟨k, d, ta, tc, pa0, pc0, sa0, sc0, ea, ec⟩ (Ent.refl _)
  simp only [GtL, GtR] at hfo ⊢
  simp only [List.cons_append, List.nil_append] at hfo ⊢
  repeat' (first
    | refine zi ?_
    | refine zK ?_
    | refine zQ (h := ?_)
    | refine zU (h := ?_)
    | refine zj ?_
    | refine zR ?_
    | refine zW ?_
    | refine zN ?_
    | refine zV ?_
    | refine ze ?_
    | refine zP ?_
    | refine zY ?_
    | refine zS rfl ?_
    | refine zd ?_
    | refine zX ?_
    | refine zO ?_
    | refine zT ?_
    | refine zL ?_
    | (refine zC (id := 0) ?_; intro K hK; refine zH (k := ?_); (refine zD (hK _ _ ?_); clear hK K))
    | (refine zC (id := 1) ?_; intro K hK; refine zF (k := ?_); refine zf (k' := ?_); (refine zD (hK _ _ ?_); clear hK K))
    | (refine zC (id := 2) ?_; intro K hK; refine zH (k := ?_); (refine zD (hK _ _ ?_); clear hK K))
    | (refine zC (id := 3) ?_; intro K hK; refine zF (k := ?_); refine zJ (k := ?_); refine zB (k := ?_); refine zM (k := ?_); refine zn (k' := ?_); refine zH (k := ?_); (refine zD (hK _ _ ?_); clear hK K))
    | (refine zc (ht := (fun ht => ?_)) (hf := (fun ht => ?_)) <;> (try simp at ht) <;> (try (exfalso; omega))))
  exact ⟨Or.inr rfl, _, [GtP st S], Ent.trans (by (repeat (first | exact Ent.refl _ | exact Ent.nil | refine Ent.take (by (repeat (first | exact Out.head | apply Out.tail)); (first | done | fail)) ?_ | refine Ent.drop1 ?_)); (first | done | fail)) (hfo []), res1 rfl rfl, rfl, rfl⟩
theorem gmaster_spec (st : Nat) (S : G15) (h64 : S.table.length ≤ 64) (e : Ep) (he : S.table[S.table.length - 1]? = some e) : Fspec Tryz.prog B 33 #[.pointer (some ⟨st, 0, none⟩)] [GtP st S] (fun v A' => v = .int .i64 e.master ∧ A' = [GtP st S]) := by
  have hpos : 0 < S.table.length := by
    rcases Nat.eq_zero_or_pos S.table.length with h | h
    · rw [List.getElem?_eq_none (by omega)] at he; cases he
    · exact h
  have hn : ((S.table.length : Nat) : Int) - 1 = ((S.table.length - 1 : Nat) : Int) := by omega
  refine spec_of (args := [_]) Tryz.func33 rfl rfl rfl ?_
  refine yE (fun q => ?_)
  obtain ⟨k, d, ta, tc, pa0, pc0, sa0, sc0, ea, ec⟩ := q
  have hfo : ∀ A0 : List Asn, Ent (GtL st S ⟨k, d, ta, tc, pa0, pc0, sa0, sc0, ea, ec⟩ ++ A0) (GtP st S :: A0) := fun A0 => gt_fold (A0 := A0) ⟨k, d, ta, tc, pa0, pc0, sa0, sc0, ea, ec⟩ (Ent.refl _)
  simp only [GtL, GtR] at hfo ⊢
  simp only [List.cons_append, List.nil_append] at hfo ⊢
  refine yW (a := ta) (sz := 3) (ho := (by (repeat (first | exact Out.head | apply Out.tail)); (first | done | fail))) (h0 := by omega) (h := fun hft => ?_)
  obtain ⟨p, rfl⟩ := hft.some hpos
  repeat' (first
    | refine zi ?_
    | refine zK ?_
    | refine zQ (h := ?_)
    | refine zU (h := ?_)
    | refine zj ?_
    | refine zR ?_
    | refine zW ?_
    | refine zN ?_
    | refine zV ?_
    | refine ze ?_
    | refine zP ?_
    | refine zY ?_
    | refine zS rfl ?_
    | refine zd ?_
    | refine zX ?_
    | refine zO ?_
    | refine zT ?_
    | refine zL ?_
    | (refine zC (id := 0) ?_; intro K hK; refine zH (k := ?_); (refine zD (hK _ _ ?_); clear hK K))
    | (refine zC (id := 1) ?_; intro K hK; refine zF (k := ?_); refine zf (k' := ?_); (refine zD (hK _ _ ?_); clear hK K))
    | (refine zC (id := 2) ?_; intro K hK; refine zH (k := ?_); (refine zD (hK _ _ ?_); clear hK K))
    | (refine z3 (id := 3) (h := ?_); intro K hK; refine zF (k := ?_); refine zJ (k := ?_); refine zB (k := ?_); refine zM (k := ?_); refine zF (k := ?_); refine zJ (k := ?_); refine zB (k := ?_); refine zM (k := ?_); refine zn (k' := ?_); ((refine yL (k' := ?_); rw [hn])) <;> (((refine zq (k' := ?_))) <;> (((refine zz (k := ?_))) <;> (((refine z4 (v := .int .i64 e.master) (j := (S.table.length - 1) * 3) (hq := by simp [Addr.add]) (hr := hft.rd (by (repeat (first | exact Out.head | apply Out.tail)); (first | done | fail))) (hv := by simpa using epsC_cell (r := 0) he (by omega) rfl) (k := ?_))) <;> (refine zH (k := ?_); (refine zD (hK _ _ ?_); clear hK K))))))
    | (refine zc (ht := (fun ht => ?_)) (hf := (fun ht => ?_)) <;> (try simp at ht) <;> (try (exfalso; omega))))
  exact ⟨Or.inr rfl, _, [GtP st S], Ent.trans (by (repeat (first | exact Ent.refl _ | exact Ent.nil | refine Ent.take (by (repeat (first | exact Out.head | apply Out.tail)); (first | done | fail)) ?_ | refine Ent.drop1 ?_)); (first | done | fail)) (hfo []), res1 rfl rfl, rfl, rfl⟩
theorem gget_spec (st : Nat) (S : G15) (key : ByteArray) : Fspec Tryz.prog B 31 #[.pointer (some ⟨st, 0, none⟩), .string key] [GtP st S] (fun v A' => v = .agg (kX S.fold.t.inorder key).C.toArray ∧ A' = [GtP st S]) := by
  obtain ⟨b, hb⟩ := getV_kX (G15.fold_rk S) key
  refine spec_of (args := [_, _]) Tryz.func31 rfl rfl rfl ?_
  refine yE (fun q => ?_)
  obtain ⟨k, d, ta, tc, pa0, pc0, sa0, sc0, ea, ec⟩ := q
  have hfo : ∀ A0 : List Asn, Ent (GtL st S ⟨k, d, ta, tc, pa0, pc0, sa0, sc0, ea, ec⟩ ++ A0) (GtP st S :: A0) := fun A0 => gt_fold (A0 := A0) ⟨k, d, ta, tc, pa0, pc0, sa0, sc0, ea, ec⟩ (Ent.refl _)
  simp only [GtL, GtR] at hfo ⊢
  simp only [List.cons_append, List.nil_append] at hfo ⊢
  have hg := get_spec B k S.fold.t key
  rw [hb] at hg
  repeat' (first
    | refine zi ?_
    | refine zK ?_
    | refine zQ (h := ?_)
    | refine zU (h := ?_)
    | refine zj ?_
    | refine zR ?_
    | refine zW ?_
    | refine zN ?_
    | refine zV ?_
    | refine ze ?_
    | refine zP ?_
    | refine zY ?_
    | refine zS rfl ?_
    | refine zd ?_
    | refine zX ?_
    | refine zO ?_
    | refine zT ?_
    | refine zL ?_
    | (refine zC (id := 0) ?_; intro K hK; ((refine zw (k := ?_); intro r4)) <;> ((refine zD (hK _ _ ?_); clear hK K)))
    | (refine zC (id := 1) ?_; intro K hK; refine zF (k := ?_); refine zf (k' := ?_); (refine zD (hK _ _ ?_); clear hK K))
    | (refine zC (id := 2) ?_; intro K hK; refine zr (k := ?_); refine zh (ho' := rfl) (k := ?_); (refine zD (hK _ _ ?_); clear hK K))
    | (refine zC (id := 3) ?_; intro K hK; refine zF (k := ?_); refine zJ (k := ?_); refine zB (k := ?_); refine zB (k := ?_); refine zM (k := ?_); refine zF (k := ?_); ((refine zb (hs := hg) (k := ?_); rintro v A' ⟨rfl, rfl⟩; simp only [List.cons_append, List.nil_append]; simp only [VX.C])) <;> (refine zF (k := ?_); refine zu (k' := ?_); refine zu (k' := ?_); ((refine zw (k := ?_); intro r5)) <;> (refine zh (ho' := rfl) (k := ?_); refine zH (k := ?_); (refine zD (hK _ _ ?_); clear hK K))))
    | (refine zC (id := 4) ?_; intro K hK; refine zo (k := ?_); refine zh (ho' := rfl) (k := ?_); (refine zD (hK _ _ ?_); clear hK K))
    | (refine zc (ht := (fun ht => ?_)) (hf := (fun ht => ?_)) <;> (try simp at ht) <;> (try (exfalso; omega))))
  exact ⟨Or.inr rfl, _, [GtP st S], Ent.trans (by (repeat (first | exact Ent.refl _ | exact Ent.nil | refine Ent.take (by (repeat (first | exact Out.head | apply Out.tail)); (first | done | fail)) ?_ | refine Ent.drop1 ?_)); (first | done | fail)) (hfo []), resG rfl (by (repeat (first | exact ResL.nil | apply ResL.tmp (by (repeat (first | exact Ev.here | exact Ev.const | exact Ev.arg rfl | apply Ev.there rfl | exact Ev.none rfl | exact Ev.func | exact Ev.var)); (first | done | fail)) | apply ResL.agg (by (repeat (first | exact Ev.here | exact Ev.const | exact Ev.arg rfl | apply Ev.there rfl | exact Ev.none rfl | exact Ev.func | exact Ev.var)); (first | done | fail)) (by (repeat (first | exact Rd.head | exact Rd.base (by assumption) | apply Rd.tail)); (first | done | fail)) (by (repeat (first | exact TakeR.nil | apply TakeR.take | apply TakeR.skip)); (first | done | fail)) | apply ResL.cell (by (repeat (first | exact Ev.here | exact Ev.const | exact Ev.arg rfl | apply Ev.there rfl | exact Ev.none rfl | exact Ev.func | exact Ev.var)); (first | done | fail)) (by (repeat (first | exact Rd.head | exact Rd.base (by assumption) | apply Rd.tail)); (first | done | fail)) rfl)); (first | done | fail)) rfl, rfl, rfl⟩
end specs
end Go.Proofs.YtnoggejkkjngjaaGreat
/- Package state: a state's bytes; another state like it. Conditions: none but the kinds' bounds, and not too many rows. -/
set_option maxHeartbeats 8000000
set_option linter.unusedVariables false
set_option linter.unusedSimpArgs false
set_option maxRecDepth 100000
namespace Go.Proofs.YtnoggejkkjngjaaGreat
open Go Go.Sl
attribute [local irreducible] Go.Sl.Wl Go.Sl.Wc Go.Sl.thenQ Go.Sl.blkQ Go.Sl.loopQ Go.Sl.Fspec

/-! ### What is written stays good and small -/
theorem wNum_ok (w : Wr) {n : Int} (h : numOk n = true) : (wNum w n).2 = w.2 ∧ (wNum w n).1.length ≤ w.1.length + 9 := by
  have hn : 0 ≤ n ∧ n ≤ 9007199254740992 := by unfold numOk at h; exact of_decide_eq_true h
  unfold wNum
  rw [if_neg (by rw [h]; simp)]
  split
  · exact ⟨rfl, by omega⟩
  · rename_i hb
    have := encN_few n.toNat (by omega)
    refine ⟨by simpa using hb, ?_⟩
    simp only [List.length_append]; omega
theorem fold_ok {α : Type} {f : Wr → α → Wr} {C : Nat} : ∀ (l : List α) (w : Wr), (∀ x ∈ l, ∀ w, (f w x).2 = w.2 ∧ (f w x).1.length ≤ w.1.length + C) → (l.foldl f w).2 = w.2 ∧ (l.foldl f w).1.length ≤ w.1.length + C * l.length
  | [], w, _ => ⟨rfl, by simp⟩
  | x :: l, w, h => by
    have h1 := h x (List.mem_cons_self ..) w
    have h2 := fold_ok l (f w x) (fun y hy => h y (List.mem_cons_of_mem _ hy))
    refine ⟨h2.1.trans h1.1, ?_⟩
    have := h1.2
    have := h2.2
    simp only [List.foldl_cons, List.length_cons, Nat.mul_add, Nat.mul_one]; omega
section specs
variable {B : Base}
end specs
end Go.Proofs.YtnoggejkkjngjaaGreat
/- What was written is read as it was. No program in sight. -/
set_option maxHeartbeats 8000000
set_option linter.unusedVariables false
set_option linter.unusedSimpArgs false
set_option maxRecDepth 100000
namespace Go.Proofs.YtnoggejkkjngjaaGreat
open Go Go.Sl
attribute [local irreducible] Go.Sl.Wl Go.Sl.Wc Go.Sl.thenQ Go.Sl.blkQ Go.Sl.loopQ Go.Sl.Fspec

/-! ### What is read -/
def gPos (r : Rr) : (Nat × Nat) × Rr := (((rNum r).1, (rNum (rNum r).2).1), (rNum (rNum r).2).2)
def gEp (r : Rr) : Ep × Rr := (⟨(gPos r).1.1, (gPos r).1.2, (rFlag (gPos r).2).1⟩, (rFlag (gPos r).2).2)
def gNN (r : Rr) : (Nat × Nat) × Rr := gPos r
def gText (r : Rr) (n : Int) : ByteArray × Rr := (bytesOf (rText r n).1, (rText r n).2)
def gHead (r : Rr) : (Nat × Nat × Nat × Nat) × Rr := (((gPos r).1.1, (gPos r).1.2, (gNN (gPos r).2).1.1, (gNN (gPos r).2).1.2), (gNN (gPos r).2).2)
def gKV (r : Rr) (n : Int) : (ByteArray × Bool × ByteArray) × Rr :=
  (((gText r n).1, (rFlag (gText r n).2).1, (gText (rFlag (gText r n).2).2 n).1), (gText (rFlag (gText r n).2).2 n).2)
def gEnt (r : Rr) : EnX × Rr :=
  (⟨(gHead r).1.1, (gHead r).1.2.1, (gHead r).1.2.2.1, (gHead r).1.2.2.2, (gKV (gHead r).2 9007199254740992).1.1, (gKV (gHead r).2 9007199254740992).1.2.1, (gKV (gHead r).2 9007199254740992).1.2.2⟩, (gKV (gHead r).2 9007199254740992).2)
def gFT (r : Rr) (n : Int) : (Bool × ByteArray) × Rr := (((rFlag r).1, (gText (rFlag r).2 n).1), (gText (rFlag r).2 n).2)
def gPr (r : Rr) (n : Int) : PrX × Rr :=
  (⟨(gText r n).1, ⟨(gPos (gText r n).2).1.1, (gPos (gText r n).2).1.2, (gFT (gPos (gText r n).2).2 n).1.1, (gFT (gPos (gText r n).2).2 n).1.2⟩⟩, (gFT (gPos (gText r n).2).2 n).2)
def gSs (r : Rr) : SX × Rr := (⟨(gHead r).1.1, (gHead r).1.2.1, (gHead r).1.2.2.1, (gHead r).1.2.2.2⟩, (gHead r).2)
def gMany {α : Type} (g : Rr → α × Rr) : Nat → Rr → List α × Rr
  | 0, r => ([], r)
  | k + 1, r => ((gMany g k r).1 ++ [(g (gMany g k r).2).1], (g (gMany g k r).2).2)
def gPrs (n : Int) (r : Rr) : List PrX × Rr := gMany (gPr · n) (rCount r n).1 (rCount r n).2
def gSss (n : Int) (r : Rr) : List SX × Rr := gMany gSs (rCount r n).1 (rCount r n).2
def gSnap (r : Rr) (n : Int) : SnX × Rr :=
  (⟨(gPos r).1.1, (gPos r).1.2, (gPrs n (gPos r).2).1, (gSss n (gPrs n (gPos r).2).2).1⟩, (gSss n (gPrs n (gPos r).2).2).2)
theorem gPos_le (r : Rr) : (gPos r).2.1.length ≤ r.1.length := Nat.le_trans (rNum_le _) (rNum_le r)
theorem gText_le (r : Rr) (n : Int) : (gText r n).2.1.length ≤ r.1.length := rText_le r n
theorem gHead_le (r : Rr) : (gHead r).2.1.length ≤ r.1.length := Nat.le_trans (gPos_le _) (gPos_le r)
theorem gFT_le (r : Rr) (n : Int) : (gFT r n).2.1.length ≤ r.1.length := Nat.le_trans (gText_le _ _) (rFlag_le r)
theorem gPr_le (r : Rr) (n : Int) : (gPr r n).2.1.length ≤ r.1.length := Nat.le_trans (gFT_le _ _) (Nat.le_trans (gPos_le _) (gText_le r n))
theorem gSs_le (r : Rr) : (gSs r).2.1.length ≤ r.1.length := gHead_le r
theorem gMany_le {α : Type} {g : Rr → α × Rr} (h : ∀ r, (g r).2.1.length ≤ r.1.length) : ∀ (k : Nat) (r : Rr), (gMany g k r).2.1.length ≤ r.1.length
  | 0, _ => Nat.le_refl _
  | k + 1, r => Nat.le_trans (h _) (gMany_le h k r)
theorem gMany_len {α : Type} (g : Rr → α × Rr) : ∀ (k : Nat) (r : Rr), (gMany g k r).1.length = k
  | 0, _ => rfl
  | k + 1, r => by simp [gMany, gMany_len g k r]
/-! ### What is written -/
def eN (n : Int) : List UInt8 := encN n.toNat
def eFlag (b : Bool) : List UInt8 := encN (if b = true then 1 else 0)
def eText (s : ByteArray) : List UInt8 := encN s.size ++ s.data.toList
def ePos (e i : Int) : List UInt8 := eN e ++ eN i
def eEp (e : Ep) : List UInt8 := ePos e.master e.cut ++ eFlag e.forced
def eEnt (x : EnX) : List UInt8 := (ePos x.e x.i ++ ePos x.s x.r) ++ (eText x.key ++ (eFlag x.del ++ eText x.tx))
def ePr (x : PrX) : List UInt8 := eText x.k ++ (ePos x.v.a x.v.b ++ (eFlag x.v.c ++ eText x.v.d))
def eSs (x : SX) : List UInt8 := ePos x.s x.r ++ ePos x.e x.i
def ePrs (l : List PrX) : List UInt8 := encN l.length ++ l.flatMap ePr
def eSss (l : List SX) : List UInt8 := encN l.length ++ l.flatMap eSs
def eSnap (b : SnX) : List UInt8 := ePos b.e b.i ++ (ePrs b.ps ++ eSss b.ss)
theorem numOk_out {n : Int} (h : numOk n = true) : 0 ≤ n ∧ n ≤ 9007199254740992 := by unfold numOk at h; exact of_decide_eq_true h
theorem wNum_e (l : List UInt8) {n : Int} (h : numOk n = true) : wNum (l, false) n = (l ++ eN n, false) := by
  unfold wNum; rw [if_neg (by rw [h]; simp), if_neg (by simp)]; rfl
theorem wFlag_e (l : List UInt8) (b : Bool) : wFlag (l, false) b = (l ++ eFlag b, false) := by
  unfold wFlag; rw [wNum_e l (by cases b <;> decide)]; cases b <;> rfl
theorem wText_e (l : List UInt8) {s : ByteArray} (h : s.size ≤ 9007199254740992) : wText (l, false) s = (l ++ eText s, false) := by
  have hn := wNum_e l (n := s.size) (by unfold numOk; exact decide_eq_true (by omega))
  unfold wText; rw [hn, if_neg (by simp)]
  unfold eText eN; rw [Int.toNat_natCast, List.append_assoc]
theorem wPos_e (l : List UInt8) {e i : Int} (h1 : numOk e = true) (h2 : numOk i = true) : wPos (l, false) e i = (l ++ ePos e i, false) := by
  unfold wPos ePos; rw [wNum_e l h1, wNum_e _ h2, List.append_assoc]
structure EpK (e : Ep) : Prop where
  m : numOk e.master = true
  c : numOk e.cut = true
structure EnK (x : EnX) : Prop where
  e : numOk x.e = true
  i : numOk x.i = true
  s : numOk x.s = true
  r : numOk x.r = true
  k : x.key.size ≤ 9007199254740992
  t : x.tx.size ≤ 9007199254740992
structure PrK (n : Nat) (x : PrX) : Prop where
  a : numOk x.v.a = true
  b : numOk x.v.b = true
  k : x.k.size ≤ n
  t : x.v.d.size ≤ n
structure SsK (x : SX) : Prop where
  s : numOk x.s = true
  r : numOk x.r = true
  e : numOk x.e = true
  i : numOk x.i = true
structure SnK (n : Nat) (b : SnX) : Prop where
  nm : n ≤ 9007199254740992
  e : numOk b.e = true
  i : numOk b.i = true
  pl : b.ps.length ≤ n
  sl : b.ss.length ≤ n
  ps : ∀ x ∈ b.ps, PrK n x
  ss : ∀ x ∈ b.ss, SsK x
theorem wEp_e (l : List UInt8) {e : Ep} (h : EpK e) : wEp (l, false) e = (l ++ eEp e, false) := by
  unfold wEp eEp ePos; rw [wNum_e l h.m, wNum_e _ h.c, wFlag_e]; simp [List.append_assoc]
theorem wEnt_e (l : List UInt8) {x : EnX} (h : EnK x) : wEnt (l, false) x = (l ++ eEnt x, false) := by
  unfold wEnt eEnt
  rw [wPos_e l h.e h.i, wNum_e _ h.s, wNum_e _ h.r, wText_e _ h.k, wFlag_e, wText_e _ h.t]
  simp [ePos, List.append_assoc]
theorem wPr_e (l : List UInt8) {n : Nat} (hn : n ≤ 9007199254740992) {x : PrX} (h : PrK n x) : wPr (l, false) x = (l ++ ePr x, false) := by
  unfold wPr ePr
  rw [wText_e _ (Nat.le_trans h.k hn), wPos_e _ h.a h.b, wFlag_e, wText_e _ (Nat.le_trans h.t hn)]
  simp [List.append_assoc]
theorem wSs_e (l : List UInt8) {x : SX} (h : SsK x) : wSs (l, false) x = (l ++ eSs x, false) := by
  unfold wSs eSs
  rw [wNum_e _ h.s, wNum_e _ h.r, wPos_e _ h.e h.i]
  simp [ePos, List.append_assoc]
theorem fold_e {α : Type} {f : Wr → α → Wr} {e : α → List UInt8} : ∀ (xs : List α) (l : List UInt8), (∀ x ∈ xs, ∀ l, f (l, false) x = (l ++ e x, false)) → xs.foldl f (l, false) = (l ++ xs.flatMap e, false)
  | [], l, _ => by simp
  | x :: xs, l, h => by
    rw [List.foldl_cons, h x (List.mem_cons_self ..), fold_e xs _ (fun y hy => h y (List.mem_cons_of_mem _ hy)), List.flatMap_cons, List.append_assoc]
theorem wSnap_e (l : List UInt8) {n : Nat} {b : SnX} (h : SnK n b) : wSnap (l, false) b = (l ++ eSnap b, false) := by
  have hn := h.nm
  have hp := h.pl
  have hs := h.sl
  unfold wSnap eSnap ePrs eSss
  rw [wPos_e l h.e h.i, wNum_e _ (n := (b.ps.length : Nat)) (by unfold numOk; exact decide_eq_true (by omega)), fold_e b.ps _ (fun x hx l => wPr_e l h.nm (h.ps x hx)),
    wNum_e _ (n := (b.ss.length : Nat)) (by unfold numOk; exact decide_eq_true (by omega)), fold_e b.ss _ (fun x hx l => wSs_e l (h.ss x hx))]
  simp [eN, List.append_assoc]
/-! ### Back -/
theorem big_byte (n : Nat) : (UInt8.ofNat (n % 128 + 128)).toNat = n % 128 + 128 := by simp [UInt8.toNat_ofNat']; omega
theorem small_byte (n : Nat) (h : n < 128) : (UInt8.ofNat n).toNat = n := by simp [UInt8.toNat_ofNat']; omega
theorem rNumL_step (f i acc : Nat) (b : UInt8) (l : List UInt8) : rNumL (f + 1) i acc (b :: l, false) = if b.toNat < 128 then (if (b.toNat = 0 ∧ 0 < i) ∨ 9007199254740992 < acc + b.toNat * 128 ^ i then (0, (l, true)) else (acc + b.toNat * 128 ^ i, (l, false))) else rNumL f (i + 1) (acc + b.toNat % 128 * 128 ^ i) (l, false) := rfl
theorem rNumL_enc (l : List UInt8) : ∀ (f i acc m : Nat), f + i = 8 → m < 128 ^ f → acc + m * 128 ^ i ≤ 9007199254740992 → (0 < i → 0 < m) → rNumL f i acc (encN m ++ l, false) = (acc + m * 128 ^ i, (l, false))
  | 0, i, acc, m, h1, h2, h3, h4 => by
    have := h4 (by omega)
    simp at h2; omega
  | f + 1, i, acc, m, h1, h2, h3, h4 => by
    by_cases hm : m < 128
    · rw [encN_small hm]
      rw [List.cons_append, List.nil_append, rNumL_step, small_byte m hm, if_pos hm, if_neg (by
        rintro (⟨q1, q2⟩ | q)
        · have := h4 q2; omega
        · omega)]
    · have hd : m % 128 + 128 * (m / 128) = m := Nat.mod_add_div m 128
      have hs : acc + m % 128 * 128 ^ i + m / 128 * 128 ^ (i + 1) = acc + m * 128 ^ i := by
        have e : m * 128 ^ i = m % 128 * 128 ^ i + m / 128 * 128 ^ (i + 1) := by
          conv => lhs; rw [← hd]
          rw [Nat.add_mul, Nat.pow_succ, Nat.mul_comm 128 (m / 128), Nat.mul_assoc, Nat.mul_comm 128]
        omega
      have ih := rNumL_enc l f (i + 1) (acc + m % 128 * 128 ^ i) (m / 128) (by omega) (Nat.div_lt_of_lt_mul (by rw [Nat.mul_comm, ← Nat.pow_succ]; exact h2)) (by omega) (fun _ => by omega)
      rw [encN_big (by omega), List.cons_append, rNumL_step, big_byte m, if_neg (by omega), show (m % 128 + 128) % 128 = m % 128 by omega, ih, hs]
theorem rNum_enc {n : Nat} (h : n ≤ 9007199254740992) (l : List UInt8) : rNum (encN n ++ l, false) = (n, (l, false)) := by
  have := rNumL_enc l 8 0 0 n rfl (by omega) (by omega) (by omega)
  unfold rNum; rw [this]; simp
theorem rNum_e {n : Int} (h : numOk n = true) (l : List UInt8) : rNum (eN n ++ l, false) = (n.toNat, (l, false)) := rNum_enc (by have := numOk_out h; omega) l
theorem rFlag_e (b : Bool) (l : List UInt8) : rFlag (eFlag b ++ l, false) = (b, (l, false)) := by
  unfold eFlag
  cases b
  · rw [if_neg (by simp), encN_small (by omega)]; rfl
  · rw [if_pos rfl, encN_small (by omega)]; rfl
theorem bytesOf_self (s : ByteArray) : bytesOf s.data.toList = s := by cases s; simp [bytesOf]
theorem gText_e {s : ByteArray} {n : Int} (h : s.size ≤ 9007199254740992) (hn : (s.size : Int) ≤ n) (l : List UInt8) : gText (eText s ++ l, false) n = (s, (l, false)) := by
  have hsz : s.data.toList.length = s.size := by rw [Array.length_toList]; rfl
  have h1 := rNum_enc h (s.data.toList ++ l)
  have h2 : rText (eText s ++ l, false) n = (s.data.toList, (l, false)) := by
    unfold rText eText
    rw [List.append_assoc, h1]
    simp only
    rw [if_neg (by simp only [List.length_append, hsz]; simp; omega), List.take_left' hsz, List.drop_left' hsz]
  unfold gText
  rw [h2]; simp only [bytesOf_self]
theorem gPos_e {e i : Int} (h1 : numOk e = true) (h2 : numOk i = true) (l : List UInt8) : gPos (ePos e i ++ l, false) = ((e.toNat, i.toNat), (l, false)) := by
  unfold gPos ePos
  rw [List.append_assoc, rNum_e h1, rNum_e h2]
theorem gEp_e {e : Ep} (h : EpK e) (l : List UInt8) : gEp (eEp e ++ l, false) = (e, (l, false)) := by
  have a := numOk_out h.m
  have b := numOk_out h.c
  unfold gEp eEp
  rw [List.append_assoc, gPos_e h.m h.c, rFlag_e]
  simp only
  rw [Int.toNat_of_nonneg a.1, Int.toNat_of_nonneg b.1]
theorem gHead_e {a b c d : Int} (h1 : numOk a = true) (h2 : numOk b = true) (h3 : numOk c = true) (h4 : numOk d = true) (l : List UInt8) : gHead (ePos a b ++ ePos c d ++ l, false) = ((a.toNat, b.toNat, c.toNat, d.toNat), (l, false)) := by
  unfold gHead gNN
  rw [List.append_assoc, gPos_e h1 h2, gPos_e h3 h4]
theorem gEnt_e {x : EnX} (h : EnK x) (l : List UInt8) : gEnt (eEnt x ++ l, false) = (x, (l, false)) := by
  have a1 := numOk_out h.e
  have a2 := numOk_out h.i
  have a3 := numOk_out h.s
  have a4 := numOk_out h.r
  have hk := h.k
  have ht := h.t
  have hkv : gKV (eText x.key ++ (eFlag x.del ++ eText x.tx) ++ l, false) 9007199254740992 = ((x.key, x.del, x.tx), (l, false)) := by
    unfold gKV
    rw [List.append_assoc, gText_e h.k (by omega), List.append_assoc, rFlag_e, gText_e h.t (by omega)]
  unfold gEnt eEnt
  rw [List.append_assoc, gHead_e h.e h.i h.s h.r, hkv]
  simp only
  rw [Int.toNat_of_nonneg a1.1, Int.toNat_of_nonneg a2.1, Int.toNat_of_nonneg a3.1, Int.toNat_of_nonneg a4.1]
theorem gPr_e {n : Nat} (hn : n ≤ 9007199254740992) {x : PrX} (h : PrK n x) (l : List UInt8) : gPr (ePr x ++ l, false) n = (x, (l, false)) := by
  have a1 := numOk_out h.a
  have a2 := numOk_out h.b
  have hk := h.k
  have ht := h.t
  have hft : gFT (eFlag x.v.c ++ eText x.v.d ++ l, false) n = ((x.v.c, x.v.d), (l, false)) := by
    unfold gFT
    rw [List.append_assoc, rFlag_e, gText_e (by omega) (by omega)]
  unfold gPr ePr
  rw [List.append_assoc, gText_e (by omega) (by omega), List.append_assoc, gPos_e h.a h.b, hft]
  simp only
  rw [Int.toNat_of_nonneg a1.1, Int.toNat_of_nonneg a2.1]
theorem gSs_e {x : SX} (h : SsK x) (l : List UInt8) : gSs (eSs x ++ l, false) = (x, (l, false)) := by
  have a1 := numOk_out h.s
  have a2 := numOk_out h.r
  have a3 := numOk_out h.e
  have a4 := numOk_out h.i
  unfold gSs eSs
  rw [gHead_e h.s h.r h.e h.i]
  simp only
  rw [Int.toNat_of_nonneg a1.1, Int.toNat_of_nonneg a2.1, Int.toNat_of_nonneg a3.1, Int.toNat_of_nonneg a4.1]
theorem gMany_e {α : Type} {g : Rr → α × Rr} {e : α → List UInt8} (xs : List α) (h : ∀ x ∈ xs, ∀ l, g (e x ++ l, false) = (x, (l, false))) (l : List UInt8) : ∀ k, k ≤ xs.length → gMany g k (xs.flatMap e ++ l, false) = (xs.take k, ((xs.drop k).flatMap e ++ l, false))
  | 0, _ => by simp [gMany]
  | k + 1, hk => by
    have ih := gMany_e xs h l k (by omega)
    have hx : k < xs.length := by omega
    unfold gMany
    rw [ih, List.drop_eq_getElem_cons hx, List.flatMap_cons, List.append_assoc]
    simp only
    rw [h xs[k] (List.getElem_mem hx), List.take_succ_eq_append_getElem hx]
theorem gMany_all {α : Type} {g : Rr → α × Rr} {e : α → List UInt8} (xs : List α) (h : ∀ x ∈ xs, ∀ l, g (e x ++ l, false) = (x, (l, false))) (l : List UInt8) : gMany g xs.length (xs.flatMap e ++ l, false) = (xs, (l, false)) := by
  rw [gMany_e xs h l xs.length (Nat.le_refl _)]; simp
theorem rCount_e {n : Nat} {m : Int} (h : n ≤ 9007199254740992) (hm : (n : Int) ≤ m) (l : List UInt8) : rCount (encN n ++ l, false) m = (n, (l, false)) := by
  unfold rCount; rw [rNum_enc h]; simp only; rw [if_neg (by omega)]
theorem gSnap_e {n : Nat} {b : SnX} (h : SnK n b) (l : List UInt8) : gSnap (eSnap b ++ l, false) n = (b, (l, false)) := by
  have hn := h.nm
  have hp := h.pl
  have hs := h.sl
  have a1 := numOk_out h.e
  have a2 := numOk_out h.i
  have h1 : ∀ l, gPrs n (ePrs b.ps ++ l, false) = (b.ps, (l, false)) := fun l => by
    unfold gPrs ePrs
    rw [List.append_assoc, rCount_e (by omega) (by omega)]
    simp only
    exact gMany_all b.ps (fun x hx l => gPr_e h.nm (h.ps x hx) l) l
  have h2 : gSss n (eSss b.ss ++ l, false) = (b.ss, (l, false)) := by
    unfold gSss eSss
    rw [List.append_assoc, rCount_e (by omega) (by omega)]
    simp only
    exact gMany_all b.ss (fun x hx l => gSs_e (h.ss x hx) l) l
  unfold gSnap eSnap
  rw [List.append_assoc, gPos_e h.e h.i]
  simp only
  rw [List.append_assoc, h1]
  simp only
  rw [h2]
  simp only
  rw [Int.toNat_of_nonneg a1.1, Int.toNat_of_nonneg a2.1]
end Go.Proofs.YtnoggejkkjngjaaGreat
/- Package state: what is read of bytes. Conditions: the bytes are few. -/
set_option maxHeartbeats 8000000
set_option linter.unusedVariables false
set_option linter.unusedSimpArgs false
set_option maxRecDepth 100000
namespace Go.Proofs.YtnoggejkkjngjaaGreat
open Go Go.Sl
attribute [local irreducible] Go.Sl.Wl Go.Sl.Wc Go.Sl.thenQ Go.Sl.blkQ Go.Sl.loopQ Go.Sl.Fspec

section specs
variable {B : Base}
theorem getPos_spec (X : Asn) (p : Nat) (r : Rr) (hl : r.1.length ≤ 140737490000000) :
    Fspec Tryz.prog B 98 #[.pointer (some ⟨p, 0, none⟩)] [RdrP B X p r, X] (fun v A' => v = .agg #[.int .i64 (gPos r).1.1, .int .i64 (gPos r).1.2] ∧ A' = [RdrP B X p (gPos r).2, X]) := by
  have h1 := rNum_le r
  refine spec_of (args := [_]) Tryz.func98 rfl rfl rfl ?_
  repeat' (first
    | refine zi ?_
    | refine zK ?_
    | refine zQ (h := ?_)
    | refine zU (h := ?_)
    | refine zj ?_
    | refine zR ?_
    | refine zW ?_
    | refine zN ?_
    | refine zV ?_
    | refine ze ?_
    | refine zP ?_
    | refine zY ?_
    | refine zS rfl ?_
    | refine zd ?_
    | refine zX ?_
    | refine zO ?_
    | refine zT ?_
    | refine zL ?_
    | (refine zC (id := 0) ?_; intro K hK; ((refine zw (k := ?_); intro r2)) <;> ((refine zD (hK _ _ ?_); clear hK K)))
    | (refine zC (id := 1) ?_; intro K hK; refine zF (k := ?_); ((refine zb (hs := rnum_spec X p r hl) (k := ?_); rintro v A' ⟨rfl, rfl⟩; simp only [List.cons_append, List.nil_append])) <;> (refine zH (k := ?_); (refine zD (hK _ _ ?_); clear hK K)))
    | (refine zC (id := 2) ?_; intro K hK; refine zF (k := ?_); refine zF (k := ?_); ((refine zb (hs := rnum_spec X p (rNum r).2 (by omega)) (k := ?_); rintro v A' ⟨rfl, rfl⟩; simp only [List.cons_append, List.nil_append])) <;> (refine zr (k := ?_); refine zh (ho' := rfl) (k := ?_); (refine zD (hK _ _ ?_); clear hK K)))
    | (refine zc (ht := (fun ht => ?_)) (hf := (fun ht => ?_)) <;> (try simp at ht) <;> (try (exfalso; omega))))
  exact ⟨Or.inr rfl, _, [RdrP B X p (gPos r).2, X], (by (repeat (first | exact Ent.refl _ | exact Ent.nil | refine Ent.take (by (repeat (first | exact Out.head | apply Out.tail)); (first | done | fail)) ?_ | refine Ent.drop1 ?_)); (first | done | fail)), resG rfl (by (repeat (first | exact ResL.nil | apply ResL.tmp (by (repeat (first | exact Ev.here | exact Ev.const | exact Ev.arg rfl | apply Ev.there rfl | exact Ev.none rfl | exact Ev.func | exact Ev.var)); (first | done | fail)) | apply ResL.agg (by (repeat (first | exact Ev.here | exact Ev.const | exact Ev.arg rfl | apply Ev.there rfl | exact Ev.none rfl | exact Ev.func | exact Ev.var)); (first | done | fail)) (by (repeat (first | exact Rd.head | exact Rd.base (by assumption) | apply Rd.tail)); (first | done | fail)) (by (repeat (first | exact TakeR.nil | apply TakeR.take | apply TakeR.skip)); (first | done | fail)) | apply ResL.cell (by (repeat (first | exact Ev.here | exact Ev.const | exact Ev.arg rfl | apply Ev.there rfl | exact Ev.none rfl | exact Ev.func | exact Ev.var)); (first | done | fail)) (by (repeat (first | exact Rd.head | exact Rd.base (by assumption) | apply Rd.tail)); (first | done | fail)) rfl)); (first | done | fail)) rfl, rfl, rfl⟩
theorem getEpoch_spec (X : Asn) (p : Nat) (r : Rr) (hl : r.1.length ≤ 140737490000000) :
    Fspec Tryz.prog B 67 #[.pointer (some ⟨p, 0, none⟩)] [RdrP B X p r, X] (fun v A' => v = .agg (epC (gEp r).1).toArray ∧ A' = [RdrP B X p (gEp r).2, X]) := by
  have h1 := rNum_le r
  have h2 := gPos_le r
  refine spec_of (args := [_]) Tryz.func67 rfl rfl rfl ?_
  repeat' (first
    | refine zi ?_
    | refine zK ?_
    | refine zQ (h := ?_)
    | refine zU (h := ?_)
    | refine zj ?_
    | refine zR ?_
    | refine zW ?_
    | refine zN ?_
    | refine zV ?_
    | refine ze ?_
    | refine zP ?_
    | refine zY ?_
    | refine zS rfl ?_
    | refine zd ?_
    | refine zX ?_
    | refine zO ?_
    | refine zT ?_
    | refine zL ?_
    | (refine zC (id := 0) ?_; intro K hK; ((refine zw (k := ?_); intro r2)) <;> ((refine zD (hK _ _ ?_); clear hK K)))
    | (refine zC (id := 1) ?_; intro K hK; refine zF (k := ?_); ((refine zb (hs := rnum_spec X p r hl) (k := ?_); rintro v A' ⟨rfl, rfl⟩; simp only [List.cons_append, List.nil_append])) <;> (refine zH (k := ?_); (refine zD (hK _ _ ?_); clear hK K)))
    | (refine zC (id := 2) ?_; intro K hK; refine zF (k := ?_); ((refine zb (hs := rnum_spec X p (rNum r).2 (by omega)) (k := ?_); rintro v A' ⟨rfl, rfl⟩; simp only [List.cons_append, List.nil_append])) <;> (refine zH (k := ?_); (refine zD (hK _ _ ?_); clear hK K)))
    | (refine zC (id := 3) ?_; intro K hK; refine zF (k := ?_); refine zF (k := ?_); refine zF (k := ?_); ((refine zb (hs := rflag_spec X p (gPos r).2 (by omega)) (k := ?_); rintro v A' ⟨rfl, rfl⟩; simp only [List.cons_append, List.nil_append])) <;> (refine zr (k := ?_); refine zh (ho' := rfl) (k := ?_); (refine zD (hK _ _ ?_); clear hK K)))
    | (refine zc (ht := (fun ht => ?_)) (hf := (fun ht => ?_)) <;> (try simp at ht) <;> (try (exfalso; omega))))
  exact ⟨Or.inr rfl, _, [RdrP B X p (gEp r).2, X], (by (repeat (first | exact Ent.refl _ | exact Ent.nil | refine Ent.take (by (repeat (first | exact Out.head | apply Out.tail)); (first | done | fail)) ?_ | refine Ent.drop1 ?_)); (first | done | fail)), resG rfl (by (repeat (first | exact ResL.nil | apply ResL.tmp (by (repeat (first | exact Ev.here | exact Ev.const | exact Ev.arg rfl | apply Ev.there rfl | exact Ev.none rfl | exact Ev.func | exact Ev.var)); (first | done | fail)) | apply ResL.agg (by (repeat (first | exact Ev.here | exact Ev.const | exact Ev.arg rfl | apply Ev.there rfl | exact Ev.none rfl | exact Ev.func | exact Ev.var)); (first | done | fail)) (by (repeat (first | exact Rd.head | exact Rd.base (by assumption) | apply Rd.tail)); (first | done | fail)) (by (repeat (first | exact TakeR.nil | apply TakeR.take | apply TakeR.skip)); (first | done | fail)) | apply ResL.cell (by (repeat (first | exact Ev.here | exact Ev.const | exact Ev.arg rfl | apply Ev.there rfl | exact Ev.none rfl | exact Ev.func | exact Ev.var)); (first | done | fail)) (by (repeat (first | exact Rd.head | exact Rd.base (by assumption) | apply Rd.tail)); (first | done | fail)) rfl)); (first | done | fail)) rfl, rfl, rfl⟩
theorem gtext_spec (X : Asn) (p : Nat) (r : Rr) (most : Int) (hl : r.1.length ≤ 140737490000000) :
    Fspec Tryz.prog B 99 #[.pointer (some ⟨p, 0, none⟩), .int .i64 most] [RdrP B X p r, X] (fun v A' => v = .string (gText r most).1 ∧ A' = [RdrP B X p (gText r most).2, X]) := rtext_spec X p r most hl
theorem getEntry_spec (X : Asn) (p : Nat) (r : Rr) (hl : r.1.length ≤ 140737490000000) :
    Fspec Tryz.prog B 66 #[.pointer (some ⟨p, 0, none⟩)] [RdrP B X p r, X] (fun v A' => v = .agg (gEnt r).1.c.toArray ∧ A' = [RdrP B X p (gEnt r).2, X]) := by
  have h1 := gPos_le r
  have h2 := rNum_le (gPos r).2
  have h3 := gHead_le r
  have h4 := gText_le (gHead r).2 9007199254740992
  have h5 := rFlag_le (gText (gHead r).2 9007199254740992).2
  refine spec_of (args := [_]) Tryz.func66 rfl rfl rfl ?_
  repeat' (first
    | refine zi ?_
    | refine zK ?_
    | refine zQ (h := ?_)
    | refine zU (h := ?_)
    | refine zj ?_
    | refine zR ?_
    | refine zW ?_
    | refine zN ?_
    | refine zV ?_
    | refine ze ?_
    | refine zP ?_
    | refine zY ?_
    | refine zS rfl ?_
    | refine zd ?_
    | refine zX ?_
    | refine zO ?_
    | refine zT ?_
    | refine zL ?_
    | (refine zC (id := 0) ?_; intro K hK; ((refine zw (k := ?_); intro r2)) <;> ((refine zD (hK _ _ ?_); clear hK K)))
    | (refine zC (id := 1) ?_; intro K hK; refine zF (k := ?_); ((refine zb (hs := getPos_spec X p r hl) (k := ?_); rintro v A' ⟨rfl, rfl⟩; simp only [List.cons_append, List.nil_append])) <;> (refine zF (k := ?_); ((refine zb (hs := rnum_spec X p (gPos r).2 (by omega)) (k := ?_); rintro v A' ⟨rfl, rfl⟩; simp only [List.cons_append, List.nil_append])) <;> (refine zF (k := ?_); ((refine zb (hs := rnum_spec X p (rNum (gPos r).2).2 (by omega)) (k := ?_); rintro v A' ⟨rfl, rfl⟩; simp only [List.cons_append, List.nil_append])) <;> (refine zr (k := ?_); ((refine zw (k := ?_); intro r3)) <;> (refine zh (ho' := rfl) (k := ?_); (refine zD (hK _ _ ?_); clear hK K))))))
    | (refine zC (id := 2) ?_; intro K hK; refine zF (k := ?_); ((refine zb (hs := gtext_spec X p (gHead r).2 9007199254740992 (by omega)) (k := ?_); rintro v A' ⟨rfl, rfl⟩; simp only [List.cons_append, List.nil_append])) <;> (refine zB (k := ?_); refine zy (ho := rfl) (k := ?_); (refine zD (hK _ _ ?_); clear hK K)))
    | (refine zC (id := 3) ?_; intro K hK; refine zF (k := ?_); ((refine zb (hs := rflag_spec X p (gText (gHead r).2 9007199254740992).2 (by omega)) (k := ?_); rintro v A' ⟨rfl, rfl⟩; simp only [List.cons_append, List.nil_append])) <;> (refine zB (k := ?_); refine zy (ho := rfl) (k := ?_); (refine zD (hK _ _ ?_); clear hK K)))
    | (refine zC (id := 4) ?_; intro K hK; refine zF (k := ?_); ((refine zb (hs := gtext_spec X p (rFlag (gText (gHead r).2 9007199254740992).2).2 9007199254740992 (by omega)) (k := ?_); rintro v A' ⟨rfl, rfl⟩; simp only [List.cons_append, List.nil_append])) <;> (refine zB (k := ?_); refine zy (ho := rfl) (k := ?_); (refine zD (hK _ _ ?_); clear hK K)))
    | (refine zC (id := 5) ?_; intro K hK; refine zo (k := ?_); refine zh (ho' := rfl) (k := ?_); (refine zD (hK _ _ ?_); clear hK K))
    | (refine zc (ht := (fun ht => ?_)) (hf := (fun ht => ?_)) <;> (try simp at ht) <;> (try (exfalso; omega))))
  exact ⟨Or.inr rfl, _, [RdrP B X p (gEnt r).2, X], (by (repeat (first | exact Ent.refl _ | exact Ent.nil | refine Ent.take (by (repeat (first | exact Out.head | apply Out.tail)); (first | done | fail)) ?_ | refine Ent.drop1 ?_)); (first | done | fail)), resG rfl (by (repeat (first | exact ResL.nil | apply ResL.tmp (by (repeat (first | exact Ev.here | exact Ev.const | exact Ev.arg rfl | apply Ev.there rfl | exact Ev.none rfl | exact Ev.func | exact Ev.var)); (first | done | fail)) | apply ResL.agg (by (repeat (first | exact Ev.here | exact Ev.const | exact Ev.arg rfl | apply Ev.there rfl | exact Ev.none rfl | exact Ev.func | exact Ev.var)); (first | done | fail)) (by (repeat (first | exact Rd.head | exact Rd.base (by assumption) | apply Rd.tail)); (first | done | fail)) (by (repeat (first | exact TakeR.nil | apply TakeR.take | apply TakeR.skip)); (first | done | fail)) | apply ResL.cell (by (repeat (first | exact Ev.here | exact Ev.const | exact Ev.arg rfl | apply Ev.there rfl | exact Ev.none rfl | exact Ev.func | exact Ev.var)); (first | done | fail)) (by (repeat (first | exact Rd.head | exact Rd.base (by assumption) | apply Rd.tail)); (first | done | fail)) rfl)); (first | done | fail)) rfl, rfl, rfl⟩
theorem rCount_max (r : Rr) (n : Int) (hn : 0 ≤ n) : ((rCount r n).1 : Int) ≤ n := by
  unfold rCount; split
  · simpa using hn
  · omega
theorem getSnap_spec (X : Asn) (p : Nat) (r : Rr) (n : Nat) (hn : n ≤ 140737489000000) (hps : (gSnap r n).1.ps.length ≤ 900000000) (hss : (gSnap r n).1.ss.length ≤ 900000000) (hl : r.1.length ≤ 140737490000000) :
    Fspec Tryz.prog B 68 #[.pointer (some ⟨p, 0, none⟩), .int .i64 n] [RdrP B X p r, X] (fun v A' => ∃ a c a2 c2, v = .agg #[.int .i64 (gSnap r n).1.e, .int .i64 (gSnap r n).1.i, .slice a (gSnap r n).1.ps.length c, .slice a2 (gSnap r n).1.ss.length c2] ∧
      A' = [RdrP B X p (gSnap r n).2, X, own a (gSnap r n).1.ps.length c 5 (prC (gSnap r n).1.ps) 57, own a2 (gSnap r n).1.ss.length c2 4 (ssC (gSnap r n).1.ss) 111]) := by
  have h1 := gPos_le r
  obtain ⟨e, he⟩ : ∃ e, (gPos r).1.1 = e := ⟨_, rfl⟩
  obtain ⟨i, hi⟩ : ∃ i, (gPos r).1.2 = i := ⟨_, rfl⟩
  obtain ⟨r1, hr1⟩ : ∃ q, (gPos r).2 = q := ⟨_, rfl⟩
  have hp := getPos_spec (B := B) X p r hl
  rw [he, hi, hr1] at hp
  rw [hr1] at h1
  have hc := rCount_max r1 n (by omega)
  have h2 := rCount_le r1 n
  have hcs := rcount_spec (B := B) X p r1 n (by omega)
  obtain ⟨⟨k, r2⟩, hr2⟩ : ∃ q, rCount r1 n = q := ⟨_, rfl⟩
  rw [hr2] at hc h2 hcs
  simp only at hc h2 hcs
  obtain ⟨⟨ps, r3⟩, hr3⟩ : ∃ q, gMany (gPr · (n : Int)) k r2 = q := ⟨_, rfl⟩
  have hlp := gMany_len (gPr · (n : Int)) k r2
  have h3 := gMany_le (g := (gPr · (n : Int))) (fun r => gPr_le r n) k r2
  rw [hr3] at hlp h3
  simp only at hlp h3
  have hc2 := rCount_max r3 n (by omega)
  have h4 := rCount_le r3 n
  have hcs2 := rcount_spec (B := B) X p r3 n (by omega)
  obtain ⟨⟨k2, r4⟩, hr4⟩ : ∃ q, rCount r3 n = q := ⟨_, rfl⟩
  rw [hr4] at hc2 h4 hcs2
  simp only at hc2 h4 hcs2
  obtain ⟨⟨ss, r5⟩, hr5⟩ : ∃ q, gMany gSs k2 r4 = q := ⟨_, rfl⟩
  have hls := gMany_len gSs k2 r4
  rw [hr5] at hls
  simp only at hls
  have hsn : gSnap r n = (⟨e, i, ps, ss⟩, r5) := by
    unfold gSnap gPrs gSss
    rw [he, hi, hr1, hr2]
    simp only
    rw [hr3]
    simp only
    rw [hr4]
    simp only
    rw [hr5]
  rw [hsn] at hps hss ⊢
  simp only at hps hss ⊢
  refine spec_of (args := [_, _]) Tryz.func68 rfl rfl rfl ?_
  repeat' (first
    | refine zi ?_
    | refine zK ?_
    | refine zQ (h := ?_)
    | refine zU (h := ?_)
    | refine zj ?_
    | refine zR ?_
    | refine zW ?_
    | refine zN ?_
    | refine zV ?_
    | refine ze ?_
    | refine zP ?_
    | refine zY ?_
    | refine zS rfl ?_
    | refine zd ?_
    | refine zX ?_
    | refine zO ?_
    | refine zT ?_
    | refine zL ?_
    | (refine zC (id := 0) ?_; intro K hK; ((refine zw (k := ?_); intro q4)) <;> ((refine zD (hK _ _ ?_); clear hK K)))
    | (refine zC (id := 1) ?_; intro K hK; refine zF (k := ?_); ((refine zb (hs := hp) (k := ?_); rintro v A' ⟨rfl, rfl⟩; simp only [List.cons_append, List.nil_append])) <;> (refine zr (k := ?_); ((refine zw (k := ?_); intro q5)) <;> (refine zh (ho' := rfl) (k := ?_); (refine zD (hK _ _ ?_); clear hK K))))
    | (refine zC (id := 2) ?_; intro K hK; refine zF (k := ?_); refine zF (k := ?_); ((refine zb (hs := hcs) (k := ?_); rintro v A' ⟨rfl, rfl⟩; simp only [List.cons_append, List.nil_append])) <;> (refine zF (k := ?_); (refine zD (hK _ _ ?_); clear hK K)))
    | (refine zc (ht := (fun ht => ?_)) (hf := (fun ht => ?_)) <;> (try simp at ht) <;> (try (exfalso; omega))))
  refine yI (α := Nat × Option Addr × Nat) (fun g => [(0, .pointer (some ⟨p, 0, none⟩)), (1, .int .i64 n), (4, .pointer (some ⟨q4, 0, none⟩)), (5, .pointer (some ⟨q5, 0, none⟩)), (13, .int .i64 k), (14, .int .i64 g.1)])
    (fun g => [RdrP B X p (gMany (gPr · (n : Int)) g.1 r2).2, X, cb q4 [.int .i64 0, .int .i64 0, .slice none 0 0, .slice none 0 0] 37, cb q5 [.int .i64 e, .int .i64 i, .slice g.2.1 g.1 g.2.2, .slice none 0 0] 37, own g.2.1 g.1 g.2.2 5 (prC (gMany (gPr · (n : Int)) g.1 r2).1) 57])
    (fun g => g.1 ≤ k) (fun g => k - g.1) (0, none, 0) (by simp) ⟨rfl, rfl, rfl, rfl, rfl, rfl, trivial⟩ (Ent.trans (own_nil 5 57 _) (by (repeat (first | exact Ent.refl _ | exact Ent.nil | refine Ent.take (by (repeat (first | exact Out.head | apply Out.tail)); (first | done | fail)) ?_ | refine Ent.drop1 ?_)); (first | done | fail))) ?_
  rintro ⟨j, a, c⟩ G hj
  simp only [ov] at hj ⊢
  by_cases hlt : j < k
  · have m1 := gMany_le (g := (gPr · (n : Int))) (fun r => gPr_le r n) j r2
    have hsx : gMany (gPr · (n : Int)) (j + 1) r2 = ((gMany (gPr · (n : Int)) j r2).1 ++ [(gPr (gMany (gPr · (n : Int)) j r2).2 n).1], (gPr (gMany (gPr · (n : Int)) j r2).2 n).2) := rfl
    obtain ⟨⟨l, s⟩, hs⟩ : ∃ q, gMany (gPr · (n : Int)) j r2 = q := ⟨_, rfl⟩
    rw [hs] at m1 hsx ⊢
    simp only at m1 hsx ⊢
    have m2 := gText_le s n
    have m3 := gPos_le (gText s n).2
    have m4 := rFlag_le (gPos (gText s n).2).2
    repeat' (first
      | refine zi ?_
      | refine zK ?_
      | refine zQ (h := ?_)
      | refine zU (h := ?_)
      | refine zj ?_
      | refine zR ?_
      | refine zW ?_
      | refine zN ?_
      | refine zV ?_
      | refine ze ?_
      | refine zP ?_
      | refine zY ?_
      | refine zS rfl ?_
      | refine zd ?_
      | refine zX ?_
      | refine zO ?_
      | refine zT ?_
      | refine zL ?_
      | (refine zC (id := 3) ?_; intro K hK; refine z6 (k' := ?_); (refine zD (hK _ _ ?_); clear hK K))
      | (refine zC (id := 4) ?_; intro K hK; refine zF (k := ?_); refine zF (k := ?_); ((refine zb (hs := gtext_spec X p s n (by omega)) (k := ?_); rintro v A' ⟨rfl, rfl⟩; simp only [List.cons_append, List.nil_append])) <;> (refine zr (k := ?_); ((refine zw (k := ?_); intro q6)) <;> (refine zh (ho' := rfl) (k := ?_); (refine zD (hK _ _ ?_); clear hK K))))
      | (refine zC (id := 5) ?_; intro K hK; refine zF (k := ?_); ((refine zb (hs := getPos_spec X p (gText s n).2 (by omega)) (k := ?_); rintro v A' ⟨rfl, rfl⟩; simp only [List.cons_append, List.nil_append])) <;> (refine zB (k := ?_); refine zB (k := ?_); refine zh (ho' := rfl) (k := ?_); (refine zD (hK _ _ ?_); clear hK K)))
      | (refine zC (id := 6) ?_; intro K hK; refine zF (k := ?_); ((refine zb (hs := rflag_spec X p (gPos (gText s n).2).2 (by omega)) (k := ?_); rintro v A' ⟨rfl, rfl⟩; simp only [List.cons_append, List.nil_append])) <;> (refine zB (k := ?_); refine zB (k := ?_); refine zy (ho := rfl) (k := ?_); (refine zD (hK _ _ ?_); clear hK K)))
      | (refine zC (id := 7) ?_; intro K hK; refine zF (k := ?_); refine zF (k := ?_); ((refine zb (hs := gtext_spec X p (rFlag (gPos (gText s n).2).2).2 n (by omega)) (k := ?_); rintro v A' ⟨rfl, rfl⟩; simp only [List.cons_append, List.nil_append])) <;> (refine zB (k := ?_); refine zB (k := ?_); refine zy (ho := rfl) (k := ?_); (refine zD (hK _ _ ?_); clear hK K)))
      | (refine zC (id := 8) ?_; intro K hK; refine zB (k := ?_); refine zM (k := ?_); refine zo (k := ?_); ((refine yR (cs := PrX.c (gPr s n).1) (k := ?_); intro q36)) <;> (((refine yO (hvl := by rfl) (hvc := by rfl) (hbd := by omega) (k := ?_); intro nb nc)) <;> (refine zB (k := ?_); refine zy (ho := rfl) (k := ?_); (refine zD (hK _ _ ?_); clear hK K))))
      | (refine zC (id := 9) ?_; intro K hK; refine zl (k' := ?_); refine zF (k := ?_); (refine zD (hK _ _ ?_); clear hK K))
      | (refine zc (ht := (fun ht => ?_)) (hf := (fun ht => ?_)) <;> (try simp at ht) <;> (try (exfalso; omega))))
    exact ⟨(j + 1, nb, nc), by show j + 1 ≤ k; omega, by show k - (j + 1) < k - j; omega, ⟨rfl, rfl, rfl, rfl, rfl, int_succ j, trivial⟩, by simp only [hsx]; rw [show prC (l ++ [(gPr s n).1]) = prC l ++ PrX.c (gPr s n).1 by simp [prC]]; (repeat (first | exact Ent.refl _ | exact Ent.nil | refine Ent.take (by (repeat (first | exact Out.head | apply Out.tail)); (first | done | fail)) ?_ | refine Ent.drop1 ?_))⟩
  obtain rfl : j = k := by omega
  rw [hr3]
  simp only
  repeat' (first
    | refine zi ?_
    | refine zK ?_
    | refine zQ (h := ?_)
    | refine zU (h := ?_)
    | refine zj ?_
    | refine zR ?_
    | refine zW ?_
    | refine zN ?_
    | refine zV ?_
    | refine ze ?_
    | refine zP ?_
    | refine zY ?_
    | refine zS rfl ?_
    | refine zd ?_
    | refine zX ?_
    | refine zO ?_
    | refine zT ?_
    | refine zL ?_
    | (refine zC (id := 3) ?_; intro K hK; refine z6 (k' := ?_); (refine zD (hK _ _ ?_); clear hK K))
    | (refine zC (id := 10) ?_; intro K hK; refine zF (k := ?_); refine zF (k := ?_); ((refine zb (hs := hcs2) (k := ?_); rintro v A' ⟨rfl, rfl⟩; simp only [List.cons_append, List.nil_append])) <;> (refine zF (k := ?_); (refine zD (hK _ _ ?_); clear hK K)))
    | (refine zc (ht := (fun ht => ?_)) (hf := (fun ht => ?_)) <;> (try simp at ht) <;> (try (exfalso; omega))))
  refine yI (α := Nat × Option Addr × Nat) (fun g => [(0, .pointer (some ⟨p, 0, none⟩)), (1, .int .i64 n), (4, .pointer (some ⟨q4, 0, none⟩)), (5, .pointer (some ⟨q5, 0, none⟩)), (42, .int .i64 k2), (43, .int .i64 g.1)])
    (fun g => [RdrP B X p (gMany gSs g.1 r4).2, X, cb q4 [.int .i64 0, .int .i64 0, .slice none 0 0, .slice none 0 0] 37, cb q5 [.int .i64 e, .int .i64 i, .slice a j c, .slice g.2.1 g.1 g.2.2] 37, own a j c 5 (prC ps) 57, own g.2.1 g.1 g.2.2 4 (ssC (gMany gSs g.1 r4).1) 111])
    (fun g => g.1 ≤ k2) (fun g => k2 - g.1) (0, none, 0) (by simp) ⟨rfl, rfl, rfl, rfl, rfl, rfl, trivial⟩ (Ent.trans (own_nil 4 111 _) (by (repeat (first | exact Ent.refl _ | exact Ent.nil | refine Ent.take (by (repeat (first | exact Out.head | apply Out.tail)); (first | done | fail)) ?_ | refine Ent.drop1 ?_)); (first | done | fail))) ?_
  rintro ⟨j2, a2, c2⟩ G2 hj2
  simp only [ov] at hj2 ⊢
  by_cases hlt2 : j2 < k2
  · have m1 := gMany_le gSs_le j2 r4
    have hsx : gMany gSs (j2 + 1) r4 = ((gMany gSs j2 r4).1 ++ [(gSs (gMany gSs j2 r4).2).1], (gSs (gMany gSs j2 r4).2).2) := rfl
    obtain ⟨⟨l, s⟩, hs⟩ : ∃ q, gMany gSs j2 r4 = q := ⟨_, rfl⟩
    rw [hs] at m1 hsx ⊢
    simp only at m1 hsx ⊢
    have m2 := rNum_le s
    have m3 := gPos_le s
    repeat' (first
      | refine zi ?_
      | refine zK ?_
      | refine zQ (h := ?_)
      | refine zU (h := ?_)
      | refine zj ?_
      | refine zR ?_
      | refine zW ?_
      | refine zN ?_
      | refine zV ?_
      | refine ze ?_
      | refine zP ?_
      | refine zY ?_
      | refine zS rfl ?_
      | refine zd ?_
      | refine zX ?_
      | refine zO ?_
      | refine zT ?_
      | refine zL ?_
      | (refine zC (id := 11) ?_; intro K hK; refine z6 (k' := ?_); (refine zD (hK _ _ ?_); clear hK K))
      | (refine zC (id := 12) ?_; intro K hK; refine zF (k := ?_); ((refine zb (hs := rnum_spec X p s (by omega)) (k := ?_); rintro v A' ⟨rfl, rfl⟩; simp only [List.cons_append, List.nil_append])) <;> (refine zF (k := ?_); ((refine zb (hs := rnum_spec X p (rNum s).2 (by omega)) (k := ?_); rintro v A' ⟨rfl, rfl⟩; simp only [List.cons_append, List.nil_append])) <;> (refine zr (k := ?_); ((refine zw (k := ?_); intro q7)) <;> (refine zh (ho' := rfl) (k := ?_); (refine zD (hK _ _ ?_); clear hK K)))))
      | (refine zC (id := 13) ?_; intro K hK; refine zF (k := ?_); ((refine zb (hs := getPos_spec X p (gPos s).2 (by omega)) (k := ?_); rintro v A' ⟨rfl, rfl⟩; simp only [List.cons_append, List.nil_append])) <;> (refine zB (k := ?_); refine zh (ho' := rfl) (k := ?_); (refine zD (hK _ _ ?_); clear hK K)))
      | (refine zC (id := 14) ?_; intro K hK; refine zB (k := ?_); refine zM (k := ?_); refine zo (k := ?_); ((refine yR (cs := SX.c (gSs s).1) (k := ?_); intro q56)) <;> (((refine yO (hvl := by rfl) (hvc := by rfl) (hbd := by omega) (k := ?_); intro nb nc)) <;> (refine zB (k := ?_); refine zy (ho := rfl) (k := ?_); (refine zD (hK _ _ ?_); clear hK K))))
      | (refine zC (id := 15) ?_; intro K hK; refine zl (k' := ?_); refine zF (k := ?_); (refine zD (hK _ _ ?_); clear hK K))
      | (refine zc (ht := (fun ht => ?_)) (hf := (fun ht => ?_)) <;> (try simp at ht) <;> (try (exfalso; omega))))
    exact ⟨(j2 + 1, nb, nc), by show j2 + 1 ≤ k2; omega, by show k2 - (j2 + 1) < k2 - j2; omega, ⟨rfl, rfl, rfl, rfl, rfl, int_succ j2, trivial⟩, by simp only [hsx]; rw [show ssC (l ++ [(gSs s).1]) = ssC l ++ SX.c (gSs s).1 by simp [ssC]]; (repeat (first | exact Ent.refl _ | exact Ent.nil | refine Ent.take (by (repeat (first | exact Out.head | apply Out.tail)); (first | done | fail)) ?_ | refine Ent.drop1 ?_))⟩
  obtain rfl : j2 = k2 := by omega
  rw [hr5]
  simp only
  repeat' (first
    | refine zi ?_
    | refine zK ?_
    | refine zQ (h := ?_)
    | refine zU (h := ?_)
    | refine zj ?_
    | refine zR ?_
    | refine zW ?_
    | refine zN ?_
    | refine zV ?_
    | refine ze ?_
    | refine zP ?_
    | refine zY ?_
    | refine zS rfl ?_
    | refine zd ?_
    | refine zX ?_
    | refine zO ?_
    | refine zT ?_
    | refine zL ?_
    | (refine zC (id := 11) ?_; intro K hK; refine z6 (k' := ?_); (refine zD (hK _ _ ?_); clear hK K))
    | (refine zC (id := 16) ?_; intro K hK; refine zo (k := ?_); refine zh (ho' := rfl) (k := ?_); (refine zD (hK _ _ ?_); clear hK K))
    | (refine zc (ht := (fun ht => ?_)) (hf := (fun ht => ?_)) <;> (try simp at ht) <;> (try (exfalso; omega))))
  refine ⟨Or.inr rfl, _, [RdrP B X p r5, X, own a ps.length c 5 (prC ps) 57, own a2 ss.length c2 4 (ssC ss) 111], ?_, resG rfl (by (repeat (first | exact ResL.nil | apply ResL.tmp (by (repeat (first | exact Ev.here | exact Ev.const | exact Ev.arg rfl | apply Ev.there rfl | exact Ev.none rfl | exact Ev.func | exact Ev.var)); (first | done | fail)) | apply ResL.agg (by (repeat (first | exact Ev.here | exact Ev.const | exact Ev.arg rfl | apply Ev.there rfl | exact Ev.none rfl | exact Ev.func | exact Ev.var)); (first | done | fail)) (by (repeat (first | exact Rd.head | exact Rd.base (by assumption) | apply Rd.tail)); (first | done | fail)) (by (repeat (first | exact TakeR.nil | apply TakeR.take | apply TakeR.skip)); (first | done | fail)) | apply ResL.cell (by (repeat (first | exact Ev.here | exact Ev.const | exact Ev.arg rfl | apply Ev.there rfl | exact Ev.none rfl | exact Ev.func | exact Ev.var)); (first | done | fail)) (by (repeat (first | exact Rd.head | exact Rd.base (by assumption) | apply Rd.tail)); (first | done | fail)) rfl)); (first | done | fail)) rfl, a, c, a2, c2, by rw [hlp, hls]; rfl, rfl⟩
  rw [hlp, hls]
  (repeat (first | exact Ent.refl _ | exact Ent.nil | refine Ent.take (by (repeat (first | exact Out.head | apply Out.tail)); (first | done | fail)) ?_ | refine Ent.drop1 ?_))
end specs
end Go.Proofs.YtnoggejkkjngjaaGreat
/- Package state: a record's bytes, and back. Conditions: the bytes are few. -/
set_option maxHeartbeats 8000000
set_option linter.unusedVariables false
set_option linter.unusedSimpArgs false
set_option maxRecDepth 100000
namespace Go.Proofs.YtnoggejkkjngjaaGreat
open Go Go.Sl
attribute [local irreducible] Go.Sl.Wl Go.Sl.Wc Go.Sl.thenQ Go.Sl.blkQ Go.Sl.loopQ Go.Sl.Fspec

def enO : EnX := ⟨0, 0, 0, 0, ByteArray.empty, false, ByteArray.empty⟩
def epO : Ep := ⟨0, 0, false⟩
def rcO : RcG := ⟨0, enO, epO, 0, SnX.zero⟩
def kindOk (k : Int) : Bool := decide (1 ≤ k ∧ k ≤ 5)
/-- A record's bytes. -/
def wRec (r : RcG) : Wr :=
  if r.kind = 1 then wEnt (wNum ([], false) r.kind) r.x else if r.kind = 2 then wEp (wNum ([], false) r.kind) r.ep else if r.kind = 3 then wNum (wNum ([], false) r.kind) r.config else
  if r.kind = 4 then wSnap (wNum ([], false) r.kind) r.sn else wNum ([], false) r.kind
def recB (r : RcG) : Bool := kindOk r.kind && !(wRec r).2
/-- The record of some bytes. -/
def dRec (r : Rr) (n : Int) : RcG × Rr :=
  if (rNum r).1 = 1 then (⟨1, (gEnt (rNum r).2).1, epO, 0, SnX.zero⟩, (gEnt (rNum r).2).2) else if (rNum r).1 = 2 then (⟨2, enO, (gEp (rNum r).2).1, 0, SnX.zero⟩, (gEp (rNum r).2).2) else
  if (rNum r).1 = 3 then (⟨3, enO, epO, (rNum (rNum r).2).1, SnX.zero⟩, (rNum (rNum r).2).2) else if (rNum r).1 = 4 then (⟨4, enO, epO, 0, (gSnap (rNum r).2 n).1⟩, (gSnap (rNum r).2 n).2) else (⟨(rNum r).1, enO, epO, 0, SnX.zero⟩, (rNum r).2)
def decB (l : List UInt8) : Bool := kindOk ((rNum (l, false)).1 : Nat) && !((dRec (l, false) l.length).2.2 || decide (0 < (dRec (l, false) l.length).2.1.length))
section specs
variable {B : Base}
theorem wfin_spec (p : Nat) (w : Wr) (hm : w.1.length ≤ 140737489000000) :
    Fspec Tryz.prog B 62 #[.pointer (some ⟨p, 0, none⟩)] [WrP p w]
      (fun v A' => (w.2 = false ∧ ∃ a c, v = .tuple #[.slice a w.1.length c, .int .i64 0] ∧ A' = [own a w.1.length c 1 (w.1.map byteV) 5, WrP p w]) ∨ (w.2 = true ∧ v = .tuple #[.slice none 0 0, .int .i64 1] ∧ A' = [WrP p w])) := by
  obtain ⟨bs, bad⟩ := w
  cases bad with
  | false => exact (wbytes_spec p bs hm).mono fun v A' h => .inl ⟨rfl, h⟩
  | true => exact (wbad_spec p bs).mono fun v A' h => .inr ⟨rfl, h⟩
theorem erec1_spec (X : Asn) (r : RcG) (hps : r.sn.ps.length ≤ 140737489000000) (hss : r.sn.ss.length ≤ 140737489000000) (pa : Option Addr) (pc : Nat) (sa : Option Addr) (sc : Nat)
    (h1 : RdS Tryz.prog B [X] 5 pa r.sn.ps.length pc (prC r.sn.ps)) (h2 : RdS Tryz.prog B [X] 4 sa r.sn.ss.length sc (ssC r.sn.ss)) (hm : (wRec r).1.length ≤ 140737489000000) :
    Fspec Tryz.prog B 18 #[.agg (r.c pa pc sa sc).toArray] [X]
      (fun v A' => (recB r = true ∧ ∃ a c, v = .tuple #[.slice a (wRec r).1.length c, .int .i64 0] ∧ A' = [own a (wRec r).1.length c 1 ((wRec r).1.map byteV) 5, X]) ∨ (recB r = false ∧ v = .tuple #[.slice none 0 0, .int .i64 1] ∧ A' = [X])) := by
  obtain ⟨kind, x, ep, config, sn⟩ := r
  simp only at hps hss h1 h2
  obtain ⟨w, hw⟩ : ∃ w, wRec ⟨kind, x, ep, config, sn⟩ = w := ⟨_, rfl⟩
  have hwm := hw ▸ hm
  have hfin := fun p => wfin_spec (B := B) p w hwm
  rw [hw] at hm ⊢
  have hn0 : (wNum ([], false) kind).1.length ≤ 9 := by
    unfold wNum
    split
    · simp
    · rename_i hk
      have := encN_few kind.toNat (by have : numOk kind = true := by simpa using hk
                                      unfold numOk at this; have := of_decide_eq_true this; omega)
      simpa using this
  have hn := fun p => num_spec (B := B) p ([], false) kind (by omega)
  obtain ⟨w0, hw0⟩ : ∃ w0, wNum ([], false) kind = w0 := ⟨_, rfl⟩
  rw [hw0] at hn
  have hB : kindOk kind = true → recB ⟨kind, x, ep, config, sn⟩ = !w.2 := fun h => by
    unfold recB; rw [hw]; simp only; rw [h]; rfl
  refine spec_of (args := [_]) Tryz.func18 rfl rfl rfl ?_
  simp only [RcG.c]
  by_cases k0 : ¬ (1 ≤ kind ∧ kind ≤ 5)
  · have hb : recB ⟨kind, x, ep, config, sn⟩ = false := by
      unfold recB kindOk; simp only; rw [decide_eq_false k0]; rfl
    rw [hb]
    repeat' (first
      | refine zi ?_
      | refine zK ?_
      | refine zQ (h := ?_)
      | refine zU (h := ?_)
      | refine zj ?_
      | refine zR ?_
      | refine zW ?_
      | refine zN ?_
      | refine zV ?_
      | refine ze ?_
      | refine zP ?_
      | refine zY ?_
      | refine zS rfl ?_
      | refine zd ?_
      | refine zX ?_
      | refine zO ?_
      | refine zT ?_
      | refine zL ?_
      | (refine zC (id := 0) ?_; intro K hK; ((refine zm (k := ?_); intro r1)) <;> (refine zH (k := ?_); refine zH (k := ?_); (refine zD (hK _ _ ?_); clear hK K)))
      | (refine zC (id := 1) ?_; intro K hK; refine zr (k := ?_); ((refine zm (k := ?_); intro rw)) <;> (refine zH (k := ?_); (refine zD (hK _ _ ?_); clear hK K)))
      | (refine zC (id := 2) ?_; intro K hK; refine zF (k := ?_); refine zB (k := ?_); refine zM (k := ?_); ((refine yB (own_nil 1 5 _) ?_; refine yP (y := cb rw [.slice none 0 0, .bool false] 103) (k := ?_); refine yP (y := own none 0 0 1 [] 5) (k := ?_); refine yB (Ent.trans (Ent.perm (List.Perm.swap ..)) (fold_wr (w := ([], false)) (a := none) (c := 0) (Ent.refl _))) ?_; refine zb (hs := hn rw) (k := ?_); rintro v A' ⟨rfl, rfl⟩; simp only [List.cons_append, List.nil_append])) <;> ((refine zD (hK _ _ ?_); clear hK K)))
      | (refine zC (id := 3) ?_; intro K hK; refine zB (k := ?_); refine zM (k := ?_); (refine zD (hK _ _ ?_); clear hK K))
      | (refine zC (id := 4) ?_; intro K hK; refine zH (k := ?_); refine zH (k := ?_); (refine zD (hK _ _ ?_); clear hK K))
      | (refine zC (id := 5) ?_; intro K hK; refine zp (k' := ?_); refine zH (k := ?_); (refine zD (hK _ _ ?_); clear hK K))
      | (refine zC (id := 7) ?_; intro K hK; refine zp (k' := ?_); refine zH (k := ?_); (refine zD (hK _ _ ?_); clear hK K))
      | (refine zC (id := 9) ?_; intro K hK; refine zp (k' := ?_); refine zH (k := ?_); (refine zD (hK _ _ ?_); clear hK K))
      | (refine zC (id := 11) ?_; intro K hK; refine zp (k' := ?_); refine zH (k := ?_); (refine zD (hK _ _ ?_); clear hK K))
      | (refine zC (id := 13) ?_; intro K hK; refine zp (k' := ?_); refine zH (k := ?_); (refine zD (hK _ _ ?_); clear hK K))
      | (refine zc (ht := (fun ht => ?_)) (hf := (fun ht => ?_)) <;> (try simp at ht) <;> (try (exfalso; omega))))
    all_goals exact ⟨Or.inr rfl, _, [X], (by (repeat (first | exact Ent.refl _ | exact Ent.nil | refine Ent.take (by (repeat (first | exact Out.head | apply Out.tail)); (first | done | fail)) ?_ | refine Ent.drop1 ?_)); (first | done | fail)), res2 rfl rfl rfl, .inr ⟨rfl, rfl, rfl⟩⟩
  have k0' := Classical.not_not.1 k0
  have hB' := hB (decide_eq_true k0')
  have hk : kind = 1 ∨ kind = 2 ∨ kind = 3 ∨ kind = 4 ∨ kind = 5 := by omega
  have hent := fun p => putEntry_spec (B := B) p w0 x
  have hep := fun p => putEpoch_spec (B := B) p w0 ep
  have hco := fun p => num_spec (B := B) p w0 config
  have hsn := fun p => putSnap1_spec (B := B) X p w0 sn hps hss pa pc sa sc h1 h2
  rcases hk with rfl | rfl | rfl | rfl | rfl
  all_goals
    unfold wRec at hw
    simp only [hw0, if_true, Int.reduceEq, if_false] at hw
  · rw [hw] at hent
    repeat' (first
      | refine zi ?_
      | refine zK ?_
      | refine zQ (h := ?_)
      | refine zU (h := ?_)
      | refine zj ?_
      | refine zR ?_
      | refine zW ?_
      | refine zN ?_
      | refine zV ?_
      | refine ze ?_
      | refine zP ?_
      | refine zY ?_
      | refine zS rfl ?_
      | refine zd ?_
      | refine zX ?_
      | refine zO ?_
      | refine zT ?_
      | refine zL ?_
      | (refine zC (id := 0) ?_; intro K hK; ((refine zm (k := ?_); intro r1)) <;> (refine zH (k := ?_); refine zH (k := ?_); (refine zD (hK _ _ ?_); clear hK K)))
      | (refine zC (id := 1) ?_; intro K hK; refine zr (k := ?_); ((refine zm (k := ?_); intro rw)) <;> (refine zH (k := ?_); (refine zD (hK _ _ ?_); clear hK K)))
      | (refine zC (id := 2) ?_; intro K hK; refine zF (k := ?_); refine zB (k := ?_); refine zM (k := ?_); ((refine yB (own_nil 1 5 _) ?_; refine yP (y := cb rw [.slice none 0 0, .bool false] 103) (k := ?_); refine yP (y := own none 0 0 1 [] 5) (k := ?_); refine yB (Ent.trans (Ent.perm (List.Perm.swap ..)) (fold_wr (w := ([], false)) (a := none) (c := 0) (Ent.refl _))) ?_; refine zb (hs := hn rw) (k := ?_); rintro v A' ⟨rfl, rfl⟩; simp only [List.cons_append, List.nil_append])) <;> ((refine zD (hK _ _ ?_); clear hK K)))
      | (refine zC (id := 3) ?_; intro K hK; refine zB (k := ?_); refine zM (k := ?_); (refine zD (hK _ _ ?_); clear hK K))
      | (refine zC (id := 5) ?_; intro K hK; refine zp (k' := ?_); refine zH (k := ?_); (refine zD (hK _ _ ?_); clear hK K))
      | (refine zC (id := 6) ?_; intro K hK; refine zF (k := ?_); refine zB (k := ?_); ((refine z5 (cs := x.c) (hv := by simp) (hc := rfl) (k := ?_))) <;> (((refine zb (hs := hent rw hm) (k := ?_); rintro v A' ⟨rfl, rfl⟩; simp only [List.cons_append, List.nil_append])) <;> ((refine zD (hK _ _ ?_); clear hK K))))
      | (refine zC (id := 14) ?_; intro K hK; refine zF (k := ?_); ((refine zb (hs := hfin rw) (k := ?_); rintro v A' (⟨hw2, oa, oc, rfl, rfl⟩ | ⟨hw2, rfl, rfl⟩) <;> simp only [List.cons_append, List.nil_append])) <;> (refine zu (k' := ?_); refine zu (k' := ?_); refine zH (k := ?_); refine zH (k := ?_); (refine zD (hK _ _ ?_); clear hK K)))
      | (refine zc (ht := (fun ht => ?_)) (hf := (fun ht => ?_)) <;> (try simp at ht) <;> (try (exfalso; omega))))
    · exact ⟨Or.inr rfl, _, [own oa w.1.length oc 1 (w.1.map byteV) 5, X], (by (repeat (first | exact Ent.refl _ | exact Ent.nil | refine Ent.take (by (repeat (first | exact Out.head | apply Out.tail)); (first | done | fail)) ?_ | refine Ent.drop1 ?_)); (first | done | fail)), res2 rfl rfl rfl, .inl ⟨by rw [hB', hw2]; rfl, oa, oc, rfl, rfl⟩⟩
    · exact ⟨Or.inr rfl, _, [X], (by (repeat (first | exact Ent.refl _ | exact Ent.nil | refine Ent.take (by (repeat (first | exact Out.head | apply Out.tail)); (first | done | fail)) ?_ | refine Ent.drop1 ?_)); (first | done | fail)), res2 rfl rfl rfl, .inr ⟨by rw [hB', hw2]; rfl, rfl, rfl⟩⟩
  · rw [hw] at hep
    repeat' (first
      | refine zi ?_
      | refine zK ?_
      | refine zQ (h := ?_)
      | refine zU (h := ?_)
      | refine zj ?_
      | refine zR ?_
      | refine zW ?_
      | refine zN ?_
      | refine zV ?_
      | refine ze ?_
      | refine zP ?_
      | refine zY ?_
      | refine zS rfl ?_
      | refine zd ?_
      | refine zX ?_
      | refine zO ?_
      | refine zT ?_
      | refine zL ?_
      | (refine zC (id := 0) ?_; intro K hK; ((refine zm (k := ?_); intro r1)) <;> (refine zH (k := ?_); refine zH (k := ?_); (refine zD (hK _ _ ?_); clear hK K)))
      | (refine zC (id := 1) ?_; intro K hK; refine zr (k := ?_); ((refine zm (k := ?_); intro rw)) <;> (refine zH (k := ?_); (refine zD (hK _ _ ?_); clear hK K)))
      | (refine zC (id := 2) ?_; intro K hK; refine zF (k := ?_); refine zB (k := ?_); refine zM (k := ?_); ((refine yB (own_nil 1 5 _) ?_; refine yP (y := cb rw [.slice none 0 0, .bool false] 103) (k := ?_); refine yP (y := own none 0 0 1 [] 5) (k := ?_); refine yB (Ent.trans (Ent.perm (List.Perm.swap ..)) (fold_wr (w := ([], false)) (a := none) (c := 0) (Ent.refl _))) ?_; refine zb (hs := hn rw) (k := ?_); rintro v A' ⟨rfl, rfl⟩; simp only [List.cons_append, List.nil_append])) <;> ((refine zD (hK _ _ ?_); clear hK K)))
      | (refine zC (id := 3) ?_; intro K hK; refine zB (k := ?_); refine zM (k := ?_); (refine zD (hK _ _ ?_); clear hK K))
      | (refine zC (id := 5) ?_; intro K hK; refine zp (k' := ?_); refine zH (k := ?_); (refine zD (hK _ _ ?_); clear hK K))
      | (refine zC (id := 7) ?_; intro K hK; refine zp (k' := ?_); refine zH (k := ?_); (refine zD (hK _ _ ?_); clear hK K))
      | (refine zC (id := 8) ?_; intro K hK; refine zF (k := ?_); refine zB (k := ?_); ((refine z5 (cs := epC ep) (hv := by simp) (hc := rfl) (k := ?_))) <;> (((refine zb (hs := hep rw hm) (k := ?_); rintro v A' ⟨rfl, rfl⟩; simp only [List.cons_append, List.nil_append])) <;> ((refine zD (hK _ _ ?_); clear hK K))))
      | (refine zC (id := 14) ?_; intro K hK; refine zF (k := ?_); ((refine zb (hs := hfin rw) (k := ?_); rintro v A' (⟨hw2, oa, oc, rfl, rfl⟩ | ⟨hw2, rfl, rfl⟩) <;> simp only [List.cons_append, List.nil_append])) <;> (refine zu (k' := ?_); refine zu (k' := ?_); refine zH (k := ?_); refine zH (k := ?_); (refine zD (hK _ _ ?_); clear hK K)))
      | (refine zc (ht := (fun ht => ?_)) (hf := (fun ht => ?_)) <;> (try simp at ht) <;> (try (exfalso; omega))))
    · exact ⟨Or.inr rfl, _, [own oa w.1.length oc 1 (w.1.map byteV) 5, X], (by (repeat (first | exact Ent.refl _ | exact Ent.nil | refine Ent.take (by (repeat (first | exact Out.head | apply Out.tail)); (first | done | fail)) ?_ | refine Ent.drop1 ?_)); (first | done | fail)), res2 rfl rfl rfl, .inl ⟨by rw [hB', hw2]; rfl, oa, oc, rfl, rfl⟩⟩
    · exact ⟨Or.inr rfl, _, [X], (by (repeat (first | exact Ent.refl _ | exact Ent.nil | refine Ent.take (by (repeat (first | exact Out.head | apply Out.tail)); (first | done | fail)) ?_ | refine Ent.drop1 ?_)); (first | done | fail)), res2 rfl rfl rfl, .inr ⟨by rw [hB', hw2]; rfl, rfl, rfl⟩⟩
  · rw [hw] at hco
    repeat' (first
      | refine zi ?_
      | refine zK ?_
      | refine zQ (h := ?_)
      | refine zU (h := ?_)
      | refine zj ?_
      | refine zR ?_
      | refine zW ?_
      | refine zN ?_
      | refine zV ?_
      | refine ze ?_
      | refine zP ?_
      | refine zY ?_
      | refine zS rfl ?_
      | refine zd ?_
      | refine zX ?_
      | refine zO ?_
      | refine zT ?_
      | refine zL ?_
      | (refine zC (id := 0) ?_; intro K hK; ((refine zm (k := ?_); intro r1)) <;> (refine zH (k := ?_); refine zH (k := ?_); (refine zD (hK _ _ ?_); clear hK K)))
      | (refine zC (id := 1) ?_; intro K hK; refine zr (k := ?_); ((refine zm (k := ?_); intro rw)) <;> (refine zH (k := ?_); (refine zD (hK _ _ ?_); clear hK K)))
      | (refine zC (id := 2) ?_; intro K hK; refine zF (k := ?_); refine zB (k := ?_); refine zM (k := ?_); ((refine yB (own_nil 1 5 _) ?_; refine yP (y := cb rw [.slice none 0 0, .bool false] 103) (k := ?_); refine yP (y := own none 0 0 1 [] 5) (k := ?_); refine yB (Ent.trans (Ent.perm (List.Perm.swap ..)) (fold_wr (w := ([], false)) (a := none) (c := 0) (Ent.refl _))) ?_; refine zb (hs := hn rw) (k := ?_); rintro v A' ⟨rfl, rfl⟩; simp only [List.cons_append, List.nil_append])) <;> ((refine zD (hK _ _ ?_); clear hK K)))
      | (refine zC (id := 3) ?_; intro K hK; refine zB (k := ?_); refine zM (k := ?_); (refine zD (hK _ _ ?_); clear hK K))
      | (refine zC (id := 5) ?_; intro K hK; refine zp (k' := ?_); refine zH (k := ?_); (refine zD (hK _ _ ?_); clear hK K))
      | (refine zC (id := 7) ?_; intro K hK; refine zp (k' := ?_); refine zH (k := ?_); (refine zD (hK _ _ ?_); clear hK K))
      | (refine zC (id := 9) ?_; intro K hK; refine zp (k' := ?_); refine zH (k := ?_); (refine zD (hK _ _ ?_); clear hK K))
      | (refine zC (id := 10) ?_; intro K hK; refine zF (k := ?_); refine zB (k := ?_); refine zM (k := ?_); ((refine zb (hs := hco rw hm) (k := ?_); rintro v A' ⟨rfl, rfl⟩; simp only [List.cons_append, List.nil_append])) <;> ((refine zD (hK _ _ ?_); clear hK K)))
      | (refine zC (id := 14) ?_; intro K hK; refine zF (k := ?_); ((refine zb (hs := hfin rw) (k := ?_); rintro v A' (⟨hw2, oa, oc, rfl, rfl⟩ | ⟨hw2, rfl, rfl⟩) <;> simp only [List.cons_append, List.nil_append])) <;> (refine zu (k' := ?_); refine zu (k' := ?_); refine zH (k := ?_); refine zH (k := ?_); (refine zD (hK _ _ ?_); clear hK K)))
      | (refine zc (ht := (fun ht => ?_)) (hf := (fun ht => ?_)) <;> (try simp at ht) <;> (try (exfalso; omega))))
    · exact ⟨Or.inr rfl, _, [own oa w.1.length oc 1 (w.1.map byteV) 5, X], (by (repeat (first | exact Ent.refl _ | exact Ent.nil | refine Ent.take (by (repeat (first | exact Out.head | apply Out.tail)); (first | done | fail)) ?_ | refine Ent.drop1 ?_)); (first | done | fail)), res2 rfl rfl rfl, .inl ⟨by rw [hB', hw2]; rfl, oa, oc, rfl, rfl⟩⟩
    · exact ⟨Or.inr rfl, _, [X], (by (repeat (first | exact Ent.refl _ | exact Ent.nil | refine Ent.take (by (repeat (first | exact Out.head | apply Out.tail)); (first | done | fail)) ?_ | refine Ent.drop1 ?_)); (first | done | fail)), res2 rfl rfl rfl, .inr ⟨by rw [hB', hw2]; rfl, rfl, rfl⟩⟩
  · rw [hw] at hsn
    repeat' (first
      | refine zi ?_
      | refine zK ?_
      | refine zQ (h := ?_)
      | refine zU (h := ?_)
      | refine zj ?_
      | refine zR ?_
      | refine zW ?_
      | refine zN ?_
      | refine zV ?_
      | refine ze ?_
      | refine zP ?_
      | refine zY ?_
      | refine zS rfl ?_
      | refine zd ?_
      | refine zX ?_
      | refine zO ?_
      | refine zT ?_
      | refine zL ?_
      | (refine zC (id := 0) ?_; intro K hK; ((refine zm (k := ?_); intro r1)) <;> (refine zH (k := ?_); refine zH (k := ?_); (refine zD (hK _ _ ?_); clear hK K)))
      | (refine zC (id := 1) ?_; intro K hK; refine zr (k := ?_); ((refine zm (k := ?_); intro rw)) <;> (refine zH (k := ?_); (refine zD (hK _ _ ?_); clear hK K)))
      | (refine zC (id := 2) ?_; intro K hK; refine zF (k := ?_); refine zB (k := ?_); refine zM (k := ?_); ((refine yB (own_nil 1 5 _) ?_; refine yP (y := cb rw [.slice none 0 0, .bool false] 103) (k := ?_); refine yP (y := own none 0 0 1 [] 5) (k := ?_); refine yB (Ent.trans (Ent.perm (List.Perm.swap ..)) (fold_wr (w := ([], false)) (a := none) (c := 0) (Ent.refl _))) ?_; refine zb (hs := hn rw) (k := ?_); rintro v A' ⟨rfl, rfl⟩; simp only [List.cons_append, List.nil_append])) <;> ((refine zD (hK _ _ ?_); clear hK K)))
      | (refine zC (id := 3) ?_; intro K hK; refine zB (k := ?_); refine zM (k := ?_); (refine zD (hK _ _ ?_); clear hK K))
      | (refine zC (id := 5) ?_; intro K hK; refine zp (k' := ?_); refine zH (k := ?_); (refine zD (hK _ _ ?_); clear hK K))
      | (refine zC (id := 7) ?_; intro K hK; refine zp (k' := ?_); refine zH (k := ?_); (refine zD (hK _ _ ?_); clear hK K))
      | (refine zC (id := 9) ?_; intro K hK; refine zp (k' := ?_); refine zH (k := ?_); (refine zD (hK _ _ ?_); clear hK K))
      | (refine zC (id := 11) ?_; intro K hK; refine zp (k' := ?_); refine zH (k := ?_); (refine zD (hK _ _ ?_); clear hK K))
      | (refine zC (id := 12) ?_; intro K hK; refine zF (k := ?_); refine zB (k := ?_); refine zo (k := ?_); ((refine zb (hs := hsn rw hm) (k := ?_); rintro v A' ⟨rfl, rfl⟩; simp only [List.cons_append, List.nil_append])) <;> ((refine zD (hK _ _ ?_); clear hK K)))
      | (refine zC (id := 14) ?_; intro K hK; refine zF (k := ?_); ((refine zb (hs := hfin rw) (k := ?_); rintro v A' (⟨hw2, oa, oc, rfl, rfl⟩ | ⟨hw2, rfl, rfl⟩) <;> simp only [List.cons_append, List.nil_append])) <;> (refine zu (k' := ?_); refine zu (k' := ?_); refine zH (k := ?_); refine zH (k := ?_); (refine zD (hK _ _ ?_); clear hK K)))
      | (refine zc (ht := (fun ht => ?_)) (hf := (fun ht => ?_)) <;> (try simp at ht) <;> (try (exfalso; omega))))
    · exact ⟨Or.inr rfl, _, [own oa w.1.length oc 1 (w.1.map byteV) 5, X], (by (repeat (first | exact Ent.refl _ | exact Ent.nil | refine Ent.take (by (repeat (first | exact Out.head | apply Out.tail)); (first | done | fail)) ?_ | refine Ent.drop1 ?_)); (first | done | fail)), res2 rfl rfl rfl, .inl ⟨by rw [hB', hw2]; rfl, oa, oc, rfl, rfl⟩⟩
    · exact ⟨Or.inr rfl, _, [X], (by (repeat (first | exact Ent.refl _ | exact Ent.nil | refine Ent.take (by (repeat (first | exact Out.head | apply Out.tail)); (first | done | fail)) ?_ | refine Ent.drop1 ?_)); (first | done | fail)), res2 rfl rfl rfl, .inr ⟨by rw [hB', hw2]; rfl, rfl, rfl⟩⟩
  · subst hw
    repeat' (first
      | refine zi ?_
      | refine zK ?_
      | refine zQ (h := ?_)
      | refine zU (h := ?_)
      | refine zj ?_
      | refine zR ?_
      | refine zW ?_
      | refine zN ?_
      | refine zV ?_
      | refine ze ?_
      | refine zP ?_
      | refine zY ?_
      | refine zS rfl ?_
      | refine zd ?_
      | refine zX ?_
      | refine zO ?_
      | refine zT ?_
      | refine zL ?_
      | (refine zC (id := 0) ?_; intro K hK; ((refine zm (k := ?_); intro r1)) <;> (refine zH (k := ?_); refine zH (k := ?_); (refine zD (hK _ _ ?_); clear hK K)))
      | (refine zC (id := 1) ?_; intro K hK; refine zr (k := ?_); ((refine zm (k := ?_); intro rw)) <;> (refine zH (k := ?_); (refine zD (hK _ _ ?_); clear hK K)))
      | (refine zC (id := 2) ?_; intro K hK; refine zF (k := ?_); refine zB (k := ?_); refine zM (k := ?_); ((refine yB (own_nil 1 5 _) ?_; refine yP (y := cb rw [.slice none 0 0, .bool false] 103) (k := ?_); refine yP (y := own none 0 0 1 [] 5) (k := ?_); refine yB (Ent.trans (Ent.perm (List.Perm.swap ..)) (fold_wr (w := ([], false)) (a := none) (c := 0) (Ent.refl _))) ?_; refine zb (hs := hn rw) (k := ?_); rintro v A' ⟨rfl, rfl⟩; simp only [List.cons_append, List.nil_append])) <;> ((refine zD (hK _ _ ?_); clear hK K)))
      | (refine zC (id := 3) ?_; intro K hK; refine zB (k := ?_); refine zM (k := ?_); (refine zD (hK _ _ ?_); clear hK K))
      | (refine zC (id := 5) ?_; intro K hK; refine zp (k' := ?_); refine zH (k := ?_); (refine zD (hK _ _ ?_); clear hK K))
      | (refine zC (id := 7) ?_; intro K hK; refine zp (k' := ?_); refine zH (k := ?_); (refine zD (hK _ _ ?_); clear hK K))
      | (refine zC (id := 9) ?_; intro K hK; refine zp (k' := ?_); refine zH (k := ?_); (refine zD (hK _ _ ?_); clear hK K))
      | (refine zC (id := 11) ?_; intro K hK; refine zp (k' := ?_); refine zH (k := ?_); (refine zD (hK _ _ ?_); clear hK K))
      | (refine zC (id := 13) ?_; intro K hK; refine zp (k' := ?_); refine zH (k := ?_); (refine zD (hK _ _ ?_); clear hK K))
      | (refine zC (id := 14) ?_; intro K hK; refine zF (k := ?_); ((refine zb (hs := hfin rw) (k := ?_); rintro v A' (⟨hw2, oa, oc, rfl, rfl⟩ | ⟨hw2, rfl, rfl⟩) <;> simp only [List.cons_append, List.nil_append])) <;> (refine zu (k' := ?_); refine zu (k' := ?_); refine zH (k := ?_); refine zH (k := ?_); (refine zD (hK _ _ ?_); clear hK K)))
      | (refine zc (ht := (fun ht => ?_)) (hf := (fun ht => ?_)) <;> (try simp at ht) <;> (try (exfalso; omega))))
    · exact ⟨Or.inr rfl, _, [own oa w0.1.length oc 1 (w0.1.map byteV) 5, X], (by (repeat (first | exact Ent.refl _ | exact Ent.nil | refine Ent.take (by (repeat (first | exact Out.head | apply Out.tail)); (first | done | fail)) ?_ | refine Ent.drop1 ?_)); (first | done | fail)), res2 rfl rfl rfl, .inl ⟨by rw [hB', hw2]; rfl, oa, oc, rfl, rfl⟩⟩
    · exact ⟨Or.inr rfl, _, [X], (by (repeat (first | exact Ent.refl _ | exact Ent.nil | refine Ent.take (by (repeat (first | exact Out.head | apply Out.tail)); (first | done | fail)) ?_ | refine Ent.drop1 ?_)); (first | done | fail)), res2 rfl rfl rfl, .inr ⟨by rw [hB', hw2]; rfl, rfl, rfl⟩⟩
end specs
end Go.Proofs.YtnoggejkkjngjaaGreat
/- Package state: a record out of bytes. Conditions: the bytes are few. -/
set_option maxHeartbeats 8000000
set_option linter.unusedVariables false
set_option linter.unusedSimpArgs false
set_option maxRecDepth 100000
namespace Go.Proofs.YtnoggejkkjngjaaGreat
open Go Go.Sl
attribute [local irreducible] Go.Sl.Wl Go.Sl.Wc Go.Sl.thenQ Go.Sl.blkQ Go.Sl.loopQ Go.Sl.Fspec

theorem dRec_1 {l : List UInt8} {r1 : Rr} (h : rNum (l, false) = (1, r1)) : dRec (l, false) l.length = (⟨1, (gEnt r1).1, epO, 0, SnX.zero⟩, (gEnt r1).2) := by unfold dRec; rw [h]; rfl
theorem dRec_2 {l : List UInt8} {r1 : Rr} (h : rNum (l, false) = (2, r1)) : dRec (l, false) l.length = (⟨2, enO, (gEp r1).1, 0, SnX.zero⟩, (gEp r1).2) := by unfold dRec; rw [h]; rfl
theorem dRec_3 {l : List UInt8} {r1 : Rr} (h : rNum (l, false) = (3, r1)) : dRec (l, false) l.length = (⟨3, enO, epO, (rNum r1).1, SnX.zero⟩, (rNum r1).2) := by unfold dRec; rw [h]; rfl
theorem dRec_4 {l : List UInt8} {r1 : Rr} (h : rNum (l, false) = (4, r1)) : dRec (l, false) l.length = (⟨4, enO, epO, 0, (gSnap r1 l.length).1⟩, (gSnap r1 l.length).2) := by unfold dRec; rw [h]; rfl
theorem dRec_5 {l : List UInt8} {r1 : Rr} (h : rNum (l, false) = (5, r1)) : dRec (l, false) l.length = (⟨5, enO, epO, 0, SnX.zero⟩, r1) := by unfold dRec; rw [h]; rfl
section specs
variable {B : Base}
theorem drec1_spec (X : Asn) (a : Option Addr) (m c : Nat) (l : List UInt8) (h : RdS Tryz.prog B [X] 1 a m c (l.map byteV)) (hm : m ≤ 140737489000000)
    (hps : (dRec (l, false) l.length).1.sn.ps.length ≤ 900000000) (hss : (dRec (l, false) l.length).1.sn.ss.length ≤ 900000000) :
    Fspec Tryz.prog B 20 #[.slice a m c] [X]
      (fun v A' => (decB l = true ∧ ∃ pa pc sa sc, v = .tuple #[.agg ((dRec (l, false) l.length).1.c pa pc sa sc).toArray, .int .i64 0] ∧ A' = [own pa (dRec (l, false) l.length).1.sn.ps.length pc 5 (prC (dRec (l, false) l.length).1.sn.ps) 57, own sa (dRec (l, false) l.length).1.sn.ss.length sc 4 (ssC (dRec (l, false) l.length).1.sn.ss) 111, X]) ∨
        (decB l = false ∧ v = .tuple #[.agg (rcO.c none 0 none 0).toArray, .int .i64 2] ∧ A' = [X])) := by
  have hl : l.length = m := by have := h.len; simpa using this
  subst hl
  have hnew := rnew_spec (B := B) [X] a l.length c l h (by omega)
  obtain ⟨⟨k, r1⟩, hk⟩ : ∃ q, rNum (l, false) = q := ⟨_, rfl⟩
  have hle := rNum_le (l, false)
  have hnum := fun Y p => rnum_spec (B := B) Y p (l, false) (by show l.length ≤ _; omega)
  rw [hk] at hle hnum
  simp only at hle hnum
  have hent := fun Y p => getEntry_spec (B := B) Y p r1 (by omega)
  have hep := fun Y p => getEpoch_spec (B := B) Y p r1 (by omega)
  have hco := fun Y p => rnum_spec (B := B) Y p r1 (by omega)
  refine spec_of (args := [_]) Tryz.func20 rfl rfl rfl ?_
  by_cases k0 : ¬ (1 ≤ (k : Int) ∧ (k : Int) ≤ 5)
  · have hb : decB l = false := by
      unfold decB kindOk; rw [hk]; simp only; rw [decide_eq_false k0]; rfl
    rw [hb]
    repeat' (first
      | refine zi ?_
      | refine zK ?_
      | refine zQ (h := ?_)
      | refine zU (h := ?_)
      | refine zj ?_
      | refine zR ?_
      | refine zW ?_
      | refine zN ?_
      | refine zV ?_
      | refine ze ?_
      | refine zP ?_
      | refine zY ?_
      | refine zS rfl ?_
      | refine zd ?_
      | refine zX ?_
      | refine zO ?_
      | refine zT ?_
      | refine zL ?_
      | (refine zC (id := 0) ?_; intro K hK; ((refine zw (k := ?_); intro q2)) <;> (refine zH (k := ?_); (refine zD (hK _ _ ?_); clear hK K)))
      | (refine zC (id := 1) ?_; intro K hK; refine zF (k := ?_); ((refine zb (hs := hnew) (k := ?_); rintro v A' ⟨p, b, bc, rfl, rfl⟩; simp only [List.cons_append, List.nil_append])) <;> (refine zH (k := ?_); (refine zD (hK _ _ ?_); clear hK K)))
      | (refine zC (id := 2) ?_; intro K hK; refine zF (k := ?_); ((refine zb (hs := hnum _ p) (k := ?_); rintro v A' ⟨rfl, rfl⟩; simp only [List.cons_append, List.nil_append])) <;> (refine zr (k := ?_); ((refine zw (k := ?_); intro q5)) <;> (refine zh (ho' := rfl) (k := ?_); (refine zD (hK _ _ ?_); clear hK K))))
      | (refine zC (id := 3) ?_; intro K hK; refine zB (k := ?_); refine zM (k := ?_); (refine zD (hK _ _ ?_); clear hK K))
      | (refine zC (id := 4) ?_; intro K hK; refine zr (k := ?_); refine zh (ho' := rfl) (k := ?_); refine zH (k := ?_); (refine zD (hK _ _ ?_); clear hK K))
      | (refine zC (id := 5) ?_; intro K hK; refine zp (k' := ?_); refine zH (k := ?_); (refine zD (hK _ _ ?_); clear hK K))
      | (refine zC (id := 7) ?_; intro K hK; refine zp (k' := ?_); refine zH (k := ?_); (refine zD (hK _ _ ?_); clear hK K))
      | (refine zC (id := 9) ?_; intro K hK; refine zp (k' := ?_); refine zH (k := ?_); (refine zD (hK _ _ ?_); clear hK K))
      | (refine zC (id := 11) ?_; intro K hK; refine zp (k' := ?_); refine zH (k := ?_); (refine zD (hK _ _ ?_); clear hK K))
      | (refine zC (id := 13) ?_; intro K hK; refine zp (k' := ?_); refine zH (k := ?_); (refine zD (hK _ _ ?_); clear hK K))
      | (refine zc (ht := (fun ht => ?_)) (hf := (fun ht => ?_)) <;> (try simp at ht) <;> (try (exfalso; omega))))
    all_goals exact ⟨Or.inr rfl, _, [X], (by (repeat (first | exact Ent.refl _ | exact Ent.nil | refine Ent.take (by (repeat (first | exact Out.head | apply Out.tail)); (first | done | fail)) ?_ | refine Ent.drop1 ?_)); (first | done | fail)), resG rfl (by (repeat (first | exact ResL.nil | apply ResL.tmp (by (repeat (first | exact Ev.here | exact Ev.const | exact Ev.arg rfl | apply Ev.there rfl | exact Ev.none rfl | exact Ev.func | exact Ev.var)); (first | done | fail)) | apply ResL.agg (by (repeat (first | exact Ev.here | exact Ev.const | exact Ev.arg rfl | apply Ev.there rfl | exact Ev.none rfl | exact Ev.func | exact Ev.var)); (first | done | fail)) (by (repeat (first | exact Rd.head | exact Rd.base (by assumption) | apply Rd.tail)); (first | done | fail)) (by (repeat (first | exact TakeR.nil | apply TakeR.take | apply TakeR.skip)); (first | done | fail)) | apply ResL.cell (by (repeat (first | exact Ev.here | exact Ev.const | exact Ev.arg rfl | apply Ev.there rfl | exact Ev.none rfl | exact Ev.func | exact Ev.var)); (first | done | fail)) (by (repeat (first | exact Rd.head | exact Rd.base (by assumption) | apply Rd.tail)); (first | done | fail)) rfl)); (first | done | fail)) rfl, .inr ⟨rfl, rfl, rfl⟩⟩
  have k0' := Classical.not_not.1 k0
  have hkk : k = 1 ∨ k = 2 ∨ k = 3 ∨ k = 4 ∨ k = 5 := by omega
  have hB : ∀ q : RcG × Rr, dRec (l, false) l.length = q → decB l = !(q.2.2 || decide (0 < q.2.1.length)) := fun q hq => by
    unfold decB kindOk; rw [hk, hq]; simp only; rw [decide_eq_true k0']; rfl
  rcases hkk with rfl | rfl | rfl | rfl | rfl
  · have hu0 := dRec_1 (l := l) hk
    obtain ⟨y, s, hy⟩ : ∃ y s, gEnt r1 = (y, s) := ⟨_, _, rfl⟩
    rw [hy] at hu0 hent
    simp only at hu0 hent
    have hB' := hB _ hu0
    rw [hu0]
    simp only at hB' ⊢
    by_cases hbad : s.2 = true ∨ 0 < s.1.length
    · have hdb : decB l = false := by rw [hB']; rcases hbad with q | q <;> simp [q]
      rw [hdb]
      repeat' (first
        | refine zi ?_
        | refine zK ?_
        | refine zQ (h := ?_)
        | refine zU (h := ?_)
        | refine zj ?_
        | refine zR ?_
        | refine zW ?_
        | refine zN ?_
        | refine zV ?_
        | refine ze ?_
        | refine zP ?_
        | refine zY ?_
        | refine zS rfl ?_
        | refine zd ?_
        | refine zX ?_
        | refine zO ?_
        | refine zT ?_
        | refine zL ?_
        | (refine zC (id := 0) ?_; intro K hK; ((refine zw (k := ?_); intro q2)) <;> (refine zH (k := ?_); (refine zD (hK _ _ ?_); clear hK K)))
        | (refine zC (id := 1) ?_; intro K hK; refine zF (k := ?_); ((refine zb (hs := hnew) (k := ?_); rintro v A' ⟨p, b, bc, rfl, rfl⟩; simp only [List.cons_append, List.nil_append])) <;> (refine zH (k := ?_); (refine zD (hK _ _ ?_); clear hK K)))
        | (refine zC (id := 2) ?_; intro K hK; refine zF (k := ?_); ((refine zb (hs := hnum _ p) (k := ?_); rintro v A' ⟨rfl, rfl⟩; simp only [List.cons_append, List.nil_append])) <;> (refine zr (k := ?_); ((refine zw (k := ?_); intro q5)) <;> (refine zh (ho' := rfl) (k := ?_); (refine zD (hK _ _ ?_); clear hK K))))
        | (refine zC (id := 3) ?_; intro K hK; refine zB (k := ?_); refine zM (k := ?_); (refine zD (hK _ _ ?_); clear hK K))
        | (refine zC (id := 5) ?_; intro K hK; refine zp (k' := ?_); refine zH (k := ?_); (refine zD (hK _ _ ?_); clear hK K))
        | (refine zC (id := 6) ?_; intro K hK; refine zF (k := ?_); ((refine zb (hs := hent _ p) (k := ?_); rintro v A' ⟨rfl, rfl⟩; simp only [List.cons_append, List.nil_append]; simp only [EnX.c])) <;> (refine zB (k := ?_); refine zh (ho' := rfl) (k := ?_); (refine zD (hK _ _ ?_); clear hK K)))
        | (refine zC (id := 14) ?_; intro K hK; refine zF (k := ?_); ((refine zb (hs := rend_spec _ p s) (k := ?_); rintro v A' ⟨rfl, rfl⟩; simp only [List.cons_append, List.nil_append]; rw [if_pos hbad])) <;> (refine z8 (k' := ?_); (refine zD (hK _ _ ?_); clear hK K)))
        | (refine zC (id := 15) ?_; intro K hK; refine zr (k := ?_); refine zh (ho' := rfl) (k := ?_); refine zH (k := ?_); (refine zD (hK _ _ ?_); clear hK K))
        | (refine zc (ht := (fun ht => ?_)) (hf := (fun ht => ?_)) <;> (try simp at ht) <;> (try (exfalso; omega))))
      all_goals exact ⟨Or.inr rfl, _, [X], (by (repeat (first | exact Ent.refl _ | exact Ent.nil | refine Ent.take (by (repeat (first | exact Out.head | apply Out.tail)); (first | done | fail)) ?_ | refine Ent.drop1 ?_)); (first | done | fail)), resG rfl (by (repeat (first | exact ResL.nil | apply ResL.tmp (by (repeat (first | exact Ev.here | exact Ev.const | exact Ev.arg rfl | apply Ev.there rfl | exact Ev.none rfl | exact Ev.func | exact Ev.var)); (first | done | fail)) | apply ResL.agg (by (repeat (first | exact Ev.here | exact Ev.const | exact Ev.arg rfl | apply Ev.there rfl | exact Ev.none rfl | exact Ev.func | exact Ev.var)); (first | done | fail)) (by (repeat (first | exact Rd.head | exact Rd.base (by assumption) | apply Rd.tail)); (first | done | fail)) (by (repeat (first | exact TakeR.nil | apply TakeR.take | apply TakeR.skip)); (first | done | fail)) | apply ResL.cell (by (repeat (first | exact Ev.here | exact Ev.const | exact Ev.arg rfl | apply Ev.there rfl | exact Ev.none rfl | exact Ev.func | exact Ev.var)); (first | done | fail)) (by (repeat (first | exact Rd.head | exact Rd.base (by assumption) | apply Rd.tail)); (first | done | fail)) rfl)); (first | done | fail)) rfl, .inr ⟨rfl, rfl, rfl⟩⟩
    · have hdb : decB l = true := by rw [hB']; cases hs2 : s.2 <;> simp_all
      rw [hdb]
      repeat' (first
        | refine zi ?_
        | refine zK ?_
        | refine zQ (h := ?_)
        | refine zU (h := ?_)
        | refine zj ?_
        | refine zR ?_
        | refine zW ?_
        | refine zN ?_
        | refine zV ?_
        | refine ze ?_
        | refine zP ?_
        | refine zY ?_
        | refine zS rfl ?_
        | refine zd ?_
        | refine zX ?_
        | refine zO ?_
        | refine zT ?_
        | refine zL ?_
        | (refine zC (id := 0) ?_; intro K hK; ((refine zw (k := ?_); intro q2)) <;> (refine zH (k := ?_); (refine zD (hK _ _ ?_); clear hK K)))
        | (refine zC (id := 1) ?_; intro K hK; refine zF (k := ?_); ((refine zb (hs := hnew) (k := ?_); rintro v A' ⟨p, b, bc, rfl, rfl⟩; simp only [List.cons_append, List.nil_append])) <;> (refine zH (k := ?_); (refine zD (hK _ _ ?_); clear hK K)))
        | (refine zC (id := 2) ?_; intro K hK; refine zF (k := ?_); ((refine zb (hs := hnum _ p) (k := ?_); rintro v A' ⟨rfl, rfl⟩; simp only [List.cons_append, List.nil_append])) <;> (refine zr (k := ?_); ((refine zw (k := ?_); intro q5)) <;> (refine zh (ho' := rfl) (k := ?_); (refine zD (hK _ _ ?_); clear hK K))))
        | (refine zC (id := 3) ?_; intro K hK; refine zB (k := ?_); refine zM (k := ?_); (refine zD (hK _ _ ?_); clear hK K))
        | (refine zC (id := 5) ?_; intro K hK; refine zp (k' := ?_); refine zH (k := ?_); (refine zD (hK _ _ ?_); clear hK K))
        | (refine zC (id := 6) ?_; intro K hK; refine zF (k := ?_); ((refine zb (hs := hent _ p) (k := ?_); rintro v A' ⟨rfl, rfl⟩; simp only [List.cons_append, List.nil_append]; simp only [EnX.c])) <;> (refine zB (k := ?_); refine zh (ho' := rfl) (k := ?_); (refine zD (hK _ _ ?_); clear hK K)))
        | (refine zC (id := 14) ?_; intro K hK; refine zF (k := ?_); ((refine zb (hs := rend_spec _ p s) (k := ?_); rintro v A' ⟨rfl, rfl⟩; simp only [List.cons_append, List.nil_append]; rw [if_neg hbad])) <;> (refine z8 (k' := ?_); (refine zD (hK _ _ ?_); clear hK K)))
        | (refine zC (id := 16) ?_; intro K hK; refine zo (k := ?_); refine zh (ho' := rfl) (k := ?_); refine zH (k := ?_); (refine zD (hK _ _ ?_); clear hK K))
        | (refine zc (ht := (fun ht => ?_)) (hf := (fun ht => ?_)) <;> (try simp at ht) <;> (try (exfalso; omega))))
      all_goals exact ⟨Or.inr rfl, _, [own none 0 0 5 [] 57, own none 0 0 4 [] 111, X], Ent.trans (own_nil 4 111 _) (Ent.trans (own_nil 5 57 _) (by (repeat (first | exact Ent.refl _ | exact Ent.nil | refine Ent.take (by (repeat (first | exact Out.head | apply Out.tail)); (first | done | fail)) ?_ | refine Ent.drop1 ?_)); (first | done | fail))), resG rfl (by (repeat (first | exact ResL.nil | apply ResL.tmp (by (repeat (first | exact Ev.here | exact Ev.const | exact Ev.arg rfl | apply Ev.there rfl | exact Ev.none rfl | exact Ev.func | exact Ev.var)); (first | done | fail)) | apply ResL.agg (by (repeat (first | exact Ev.here | exact Ev.const | exact Ev.arg rfl | apply Ev.there rfl | exact Ev.none rfl | exact Ev.func | exact Ev.var)); (first | done | fail)) (by (repeat (first | exact Rd.head | exact Rd.base (by assumption) | apply Rd.tail)); (first | done | fail)) (by (repeat (first | exact TakeR.nil | apply TakeR.take | apply TakeR.skip)); (first | done | fail)) | apply ResL.cell (by (repeat (first | exact Ev.here | exact Ev.const | exact Ev.arg rfl | apply Ev.there rfl | exact Ev.none rfl | exact Ev.func | exact Ev.var)); (first | done | fail)) (by (repeat (first | exact Rd.head | exact Rd.base (by assumption) | apply Rd.tail)); (first | done | fail)) rfl)); (first | done | fail)) rfl, .inl ⟨rfl, none, 0, none, 0, rfl, rfl⟩⟩
  · have hu0 := dRec_2 (l := l) hk
    obtain ⟨y, s, hy⟩ : ∃ y s, gEp r1 = (y, s) := ⟨_, _, rfl⟩
    rw [hy] at hu0 hep
    simp only at hu0 hep
    have hB' := hB _ hu0
    rw [hu0]
    simp only at hB' ⊢
    by_cases hbad : s.2 = true ∨ 0 < s.1.length
    · have hdb : decB l = false := by rw [hB']; rcases hbad with q | q <;> simp [q]
      rw [hdb]
      repeat' (first
        | refine zi ?_
        | refine zK ?_
        | refine zQ (h := ?_)
        | refine zU (h := ?_)
        | refine zj ?_
        | refine zR ?_
        | refine zW ?_
        | refine zN ?_
        | refine zV ?_
        | refine ze ?_
        | refine zP ?_
        | refine zY ?_
        | refine zS rfl ?_
        | refine zd ?_
        | refine zX ?_
        | refine zO ?_
        | refine zT ?_
        | refine zL ?_
        | (refine zC (id := 0) ?_; intro K hK; ((refine zw (k := ?_); intro q2)) <;> (refine zH (k := ?_); (refine zD (hK _ _ ?_); clear hK K)))
        | (refine zC (id := 1) ?_; intro K hK; refine zF (k := ?_); ((refine zb (hs := hnew) (k := ?_); rintro v A' ⟨p, b, bc, rfl, rfl⟩; simp only [List.cons_append, List.nil_append])) <;> (refine zH (k := ?_); (refine zD (hK _ _ ?_); clear hK K)))
        | (refine zC (id := 2) ?_; intro K hK; refine zF (k := ?_); ((refine zb (hs := hnum _ p) (k := ?_); rintro v A' ⟨rfl, rfl⟩; simp only [List.cons_append, List.nil_append])) <;> (refine zr (k := ?_); ((refine zw (k := ?_); intro q5)) <;> (refine zh (ho' := rfl) (k := ?_); (refine zD (hK _ _ ?_); clear hK K))))
        | (refine zC (id := 3) ?_; intro K hK; refine zB (k := ?_); refine zM (k := ?_); (refine zD (hK _ _ ?_); clear hK K))
        | (refine zC (id := 5) ?_; intro K hK; refine zp (k' := ?_); refine zH (k := ?_); (refine zD (hK _ _ ?_); clear hK K))
        | (refine zC (id := 7) ?_; intro K hK; refine zp (k' := ?_); refine zH (k := ?_); (refine zD (hK _ _ ?_); clear hK K))
        | (refine zC (id := 8) ?_; intro K hK; refine zF (k := ?_); ((refine zb (hs := hep _ p) (k := ?_); rintro v A' ⟨rfl, rfl⟩; simp only [List.cons_append, List.nil_append]; simp only [epC])) <;> (refine zB (k := ?_); refine zh (ho' := rfl) (k := ?_); (refine zD (hK _ _ ?_); clear hK K)))
        | (refine zC (id := 14) ?_; intro K hK; refine zF (k := ?_); ((refine zb (hs := rend_spec _ p s) (k := ?_); rintro v A' ⟨rfl, rfl⟩; simp only [List.cons_append, List.nil_append]; rw [if_pos hbad])) <;> (refine z8 (k' := ?_); (refine zD (hK _ _ ?_); clear hK K)))
        | (refine zC (id := 15) ?_; intro K hK; refine zr (k := ?_); refine zh (ho' := rfl) (k := ?_); refine zH (k := ?_); (refine zD (hK _ _ ?_); clear hK K))
        | (refine zc (ht := (fun ht => ?_)) (hf := (fun ht => ?_)) <;> (try simp at ht) <;> (try (exfalso; omega))))
      all_goals exact ⟨Or.inr rfl, _, [X], (by (repeat (first | exact Ent.refl _ | exact Ent.nil | refine Ent.take (by (repeat (first | exact Out.head | apply Out.tail)); (first | done | fail)) ?_ | refine Ent.drop1 ?_)); (first | done | fail)), resG rfl (by (repeat (first | exact ResL.nil | apply ResL.tmp (by (repeat (first | exact Ev.here | exact Ev.const | exact Ev.arg rfl | apply Ev.there rfl | exact Ev.none rfl | exact Ev.func | exact Ev.var)); (first | done | fail)) | apply ResL.agg (by (repeat (first | exact Ev.here | exact Ev.const | exact Ev.arg rfl | apply Ev.there rfl | exact Ev.none rfl | exact Ev.func | exact Ev.var)); (first | done | fail)) (by (repeat (first | exact Rd.head | exact Rd.base (by assumption) | apply Rd.tail)); (first | done | fail)) (by (repeat (first | exact TakeR.nil | apply TakeR.take | apply TakeR.skip)); (first | done | fail)) | apply ResL.cell (by (repeat (first | exact Ev.here | exact Ev.const | exact Ev.arg rfl | apply Ev.there rfl | exact Ev.none rfl | exact Ev.func | exact Ev.var)); (first | done | fail)) (by (repeat (first | exact Rd.head | exact Rd.base (by assumption) | apply Rd.tail)); (first | done | fail)) rfl)); (first | done | fail)) rfl, .inr ⟨rfl, rfl, rfl⟩⟩
    · have hdb : decB l = true := by rw [hB']; cases hs2 : s.2 <;> simp_all
      rw [hdb]
      repeat' (first
        | refine zi ?_
        | refine zK ?_
        | refine zQ (h := ?_)
        | refine zU (h := ?_)
        | refine zj ?_
        | refine zR ?_
        | refine zW ?_
        | refine zN ?_
        | refine zV ?_
        | refine ze ?_
        | refine zP ?_
        | refine zY ?_
        | refine zS rfl ?_
        | refine zd ?_
        | refine zX ?_
        | refine zO ?_
        | refine zT ?_
        | refine zL ?_
        | (refine zC (id := 0) ?_; intro K hK; ((refine zw (k := ?_); intro q2)) <;> (refine zH (k := ?_); (refine zD (hK _ _ ?_); clear hK K)))
        | (refine zC (id := 1) ?_; intro K hK; refine zF (k := ?_); ((refine zb (hs := hnew) (k := ?_); rintro v A' ⟨p, b, bc, rfl, rfl⟩; simp only [List.cons_append, List.nil_append])) <;> (refine zH (k := ?_); (refine zD (hK _ _ ?_); clear hK K)))
        | (refine zC (id := 2) ?_; intro K hK; refine zF (k := ?_); ((refine zb (hs := hnum _ p) (k := ?_); rintro v A' ⟨rfl, rfl⟩; simp only [List.cons_append, List.nil_append])) <;> (refine zr (k := ?_); ((refine zw (k := ?_); intro q5)) <;> (refine zh (ho' := rfl) (k := ?_); (refine zD (hK _ _ ?_); clear hK K))))
        | (refine zC (id := 3) ?_; intro K hK; refine zB (k := ?_); refine zM (k := ?_); (refine zD (hK _ _ ?_); clear hK K))
        | (refine zC (id := 5) ?_; intro K hK; refine zp (k' := ?_); refine zH (k := ?_); (refine zD (hK _ _ ?_); clear hK K))
        | (refine zC (id := 7) ?_; intro K hK; refine zp (k' := ?_); refine zH (k := ?_); (refine zD (hK _ _ ?_); clear hK K))
        | (refine zC (id := 8) ?_; intro K hK; refine zF (k := ?_); ((refine zb (hs := hep _ p) (k := ?_); rintro v A' ⟨rfl, rfl⟩; simp only [List.cons_append, List.nil_append]; simp only [epC])) <;> (refine zB (k := ?_); refine zh (ho' := rfl) (k := ?_); (refine zD (hK _ _ ?_); clear hK K)))
        | (refine zC (id := 14) ?_; intro K hK; refine zF (k := ?_); ((refine zb (hs := rend_spec _ p s) (k := ?_); rintro v A' ⟨rfl, rfl⟩; simp only [List.cons_append, List.nil_append]; rw [if_neg hbad])) <;> (refine z8 (k' := ?_); (refine zD (hK _ _ ?_); clear hK K)))
        | (refine zC (id := 16) ?_; intro K hK; refine zo (k := ?_); refine zh (ho' := rfl) (k := ?_); refine zH (k := ?_); (refine zD (hK _ _ ?_); clear hK K))
        | (refine zc (ht := (fun ht => ?_)) (hf := (fun ht => ?_)) <;> (try simp at ht) <;> (try (exfalso; omega))))
      all_goals exact ⟨Or.inr rfl, _, [own none 0 0 5 [] 57, own none 0 0 4 [] 111, X], Ent.trans (own_nil 4 111 _) (Ent.trans (own_nil 5 57 _) (by (repeat (first | exact Ent.refl _ | exact Ent.nil | refine Ent.take (by (repeat (first | exact Out.head | apply Out.tail)); (first | done | fail)) ?_ | refine Ent.drop1 ?_)); (first | done | fail))), resG rfl (by (repeat (first | exact ResL.nil | apply ResL.tmp (by (repeat (first | exact Ev.here | exact Ev.const | exact Ev.arg rfl | apply Ev.there rfl | exact Ev.none rfl | exact Ev.func | exact Ev.var)); (first | done | fail)) | apply ResL.agg (by (repeat (first | exact Ev.here | exact Ev.const | exact Ev.arg rfl | apply Ev.there rfl | exact Ev.none rfl | exact Ev.func | exact Ev.var)); (first | done | fail)) (by (repeat (first | exact Rd.head | exact Rd.base (by assumption) | apply Rd.tail)); (first | done | fail)) (by (repeat (first | exact TakeR.nil | apply TakeR.take | apply TakeR.skip)); (first | done | fail)) | apply ResL.cell (by (repeat (first | exact Ev.here | exact Ev.const | exact Ev.arg rfl | apply Ev.there rfl | exact Ev.none rfl | exact Ev.func | exact Ev.var)); (first | done | fail)) (by (repeat (first | exact Rd.head | exact Rd.base (by assumption) | apply Rd.tail)); (first | done | fail)) rfl)); (first | done | fail)) rfl, .inl ⟨rfl, none, 0, none, 0, rfl, rfl⟩⟩
  · have hu0 := dRec_3 (l := l) hk
    obtain ⟨y, s, hy⟩ : ∃ y s, rNum r1 = (y, s) := ⟨_, _, rfl⟩
    rw [hy] at hu0 hco
    simp only at hu0 hco
    have hB' := hB _ hu0
    rw [hu0]
    simp only at hB' ⊢
    by_cases hbad : s.2 = true ∨ 0 < s.1.length
    · have hdb : decB l = false := by rw [hB']; rcases hbad with q | q <;> simp [q]
      rw [hdb]
      repeat' (first
        | refine zi ?_
        | refine zK ?_
        | refine zQ (h := ?_)
        | refine zU (h := ?_)
        | refine zj ?_
        | refine zR ?_
        | refine zW ?_
        | refine zN ?_
        | refine zV ?_
        | refine ze ?_
        | refine zP ?_
        | refine zY ?_
        | refine zS rfl ?_
        | refine zd ?_
        | refine zX ?_
        | refine zO ?_
        | refine zT ?_
        | refine zL ?_
        | (refine zC (id := 0) ?_; intro K hK; ((refine zw (k := ?_); intro q2)) <;> (refine zH (k := ?_); (refine zD (hK _ _ ?_); clear hK K)))
        | (refine zC (id := 1) ?_; intro K hK; refine zF (k := ?_); ((refine zb (hs := hnew) (k := ?_); rintro v A' ⟨p, b, bc, rfl, rfl⟩; simp only [List.cons_append, List.nil_append])) <;> (refine zH (k := ?_); (refine zD (hK _ _ ?_); clear hK K)))
        | (refine zC (id := 2) ?_; intro K hK; refine zF (k := ?_); ((refine zb (hs := hnum _ p) (k := ?_); rintro v A' ⟨rfl, rfl⟩; simp only [List.cons_append, List.nil_append])) <;> (refine zr (k := ?_); ((refine zw (k := ?_); intro q5)) <;> (refine zh (ho' := rfl) (k := ?_); (refine zD (hK _ _ ?_); clear hK K))))
        | (refine zC (id := 3) ?_; intro K hK; refine zB (k := ?_); refine zM (k := ?_); (refine zD (hK _ _ ?_); clear hK K))
        | (refine zC (id := 5) ?_; intro K hK; refine zp (k' := ?_); refine zH (k := ?_); (refine zD (hK _ _ ?_); clear hK K))
        | (refine zC (id := 7) ?_; intro K hK; refine zp (k' := ?_); refine zH (k := ?_); (refine zD (hK _ _ ?_); clear hK K))
        | (refine zC (id := 9) ?_; intro K hK; refine zp (k' := ?_); refine zH (k := ?_); (refine zD (hK _ _ ?_); clear hK K))
        | (refine zC (id := 10) ?_; intro K hK; refine zF (k := ?_); ((refine zb (hs := hco _ p) (k := ?_); rintro v A' ⟨rfl, rfl⟩; simp only [List.cons_append, List.nil_append])) <;> (refine zB (k := ?_); refine zy (ho := rfl) (k := ?_); (refine zD (hK _ _ ?_); clear hK K)))
        | (refine zC (id := 14) ?_; intro K hK; refine zF (k := ?_); ((refine zb (hs := rend_spec _ p s) (k := ?_); rintro v A' ⟨rfl, rfl⟩; simp only [List.cons_append, List.nil_append]; rw [if_pos hbad])) <;> (refine z8 (k' := ?_); (refine zD (hK _ _ ?_); clear hK K)))
        | (refine zC (id := 15) ?_; intro K hK; refine zr (k := ?_); refine zh (ho' := rfl) (k := ?_); refine zH (k := ?_); (refine zD (hK _ _ ?_); clear hK K))
        | (refine zc (ht := (fun ht => ?_)) (hf := (fun ht => ?_)) <;> (try simp at ht) <;> (try (exfalso; omega))))
      all_goals exact ⟨Or.inr rfl, _, [X], (by (repeat (first | exact Ent.refl _ | exact Ent.nil | refine Ent.take (by (repeat (first | exact Out.head | apply Out.tail)); (first | done | fail)) ?_ | refine Ent.drop1 ?_)); (first | done | fail)), resG rfl (by (repeat (first | exact ResL.nil | apply ResL.tmp (by (repeat (first | exact Ev.here | exact Ev.const | exact Ev.arg rfl | apply Ev.there rfl | exact Ev.none rfl | exact Ev.func | exact Ev.var)); (first | done | fail)) | apply ResL.agg (by (repeat (first | exact Ev.here | exact Ev.const | exact Ev.arg rfl | apply Ev.there rfl | exact Ev.none rfl | exact Ev.func | exact Ev.var)); (first | done | fail)) (by (repeat (first | exact Rd.head | exact Rd.base (by assumption) | apply Rd.tail)); (first | done | fail)) (by (repeat (first | exact TakeR.nil | apply TakeR.take | apply TakeR.skip)); (first | done | fail)) | apply ResL.cell (by (repeat (first | exact Ev.here | exact Ev.const | exact Ev.arg rfl | apply Ev.there rfl | exact Ev.none rfl | exact Ev.func | exact Ev.var)); (first | done | fail)) (by (repeat (first | exact Rd.head | exact Rd.base (by assumption) | apply Rd.tail)); (first | done | fail)) rfl)); (first | done | fail)) rfl, .inr ⟨rfl, rfl, rfl⟩⟩
    · have hdb : decB l = true := by rw [hB']; cases hs2 : s.2 <;> simp_all
      rw [hdb]
      repeat' (first
        | refine zi ?_
        | refine zK ?_
        | refine zQ (h := ?_)
        | refine zU (h := ?_)
        | refine zj ?_
        | refine zR ?_
        | refine zW ?_
        | refine zN ?_
        | refine zV ?_
        | refine ze ?_
        | refine zP ?_
        | refine zY ?_
        | refine zS rfl ?_
        | refine zd ?_
        | refine zX ?_
        | refine zO ?_
        | refine zT ?_
        | refine zL ?_
        | (refine zC (id := 0) ?_; intro K hK; ((refine zw (k := ?_); intro q2)) <;> (refine zH (k := ?_); (refine zD (hK _ _ ?_); clear hK K)))
        | (refine zC (id := 1) ?_; intro K hK; refine zF (k := ?_); ((refine zb (hs := hnew) (k := ?_); rintro v A' ⟨p, b, bc, rfl, rfl⟩; simp only [List.cons_append, List.nil_append])) <;> (refine zH (k := ?_); (refine zD (hK _ _ ?_); clear hK K)))
        | (refine zC (id := 2) ?_; intro K hK; refine zF (k := ?_); ((refine zb (hs := hnum _ p) (k := ?_); rintro v A' ⟨rfl, rfl⟩; simp only [List.cons_append, List.nil_append])) <;> (refine zr (k := ?_); ((refine zw (k := ?_); intro q5)) <;> (refine zh (ho' := rfl) (k := ?_); (refine zD (hK _ _ ?_); clear hK K))))
        | (refine zC (id := 3) ?_; intro K hK; refine zB (k := ?_); refine zM (k := ?_); (refine zD (hK _ _ ?_); clear hK K))
        | (refine zC (id := 5) ?_; intro K hK; refine zp (k' := ?_); refine zH (k := ?_); (refine zD (hK _ _ ?_); clear hK K))
        | (refine zC (id := 7) ?_; intro K hK; refine zp (k' := ?_); refine zH (k := ?_); (refine zD (hK _ _ ?_); clear hK K))
        | (refine zC (id := 9) ?_; intro K hK; refine zp (k' := ?_); refine zH (k := ?_); (refine zD (hK _ _ ?_); clear hK K))
        | (refine zC (id := 10) ?_; intro K hK; refine zF (k := ?_); ((refine zb (hs := hco _ p) (k := ?_); rintro v A' ⟨rfl, rfl⟩; simp only [List.cons_append, List.nil_append])) <;> (refine zB (k := ?_); refine zy (ho := rfl) (k := ?_); (refine zD (hK _ _ ?_); clear hK K)))
        | (refine zC (id := 14) ?_; intro K hK; refine zF (k := ?_); ((refine zb (hs := rend_spec _ p s) (k := ?_); rintro v A' ⟨rfl, rfl⟩; simp only [List.cons_append, List.nil_append]; rw [if_neg hbad])) <;> (refine z8 (k' := ?_); (refine zD (hK _ _ ?_); clear hK K)))
        | (refine zC (id := 16) ?_; intro K hK; refine zo (k := ?_); refine zh (ho' := rfl) (k := ?_); refine zH (k := ?_); (refine zD (hK _ _ ?_); clear hK K))
        | (refine zc (ht := (fun ht => ?_)) (hf := (fun ht => ?_)) <;> (try simp at ht) <;> (try (exfalso; omega))))
      all_goals exact ⟨Or.inr rfl, _, [own none 0 0 5 [] 57, own none 0 0 4 [] 111, X], Ent.trans (own_nil 4 111 _) (Ent.trans (own_nil 5 57 _) (by (repeat (first | exact Ent.refl _ | exact Ent.nil | refine Ent.take (by (repeat (first | exact Out.head | apply Out.tail)); (first | done | fail)) ?_ | refine Ent.drop1 ?_)); (first | done | fail))), resG rfl (by (repeat (first | exact ResL.nil | apply ResL.tmp (by (repeat (first | exact Ev.here | exact Ev.const | exact Ev.arg rfl | apply Ev.there rfl | exact Ev.none rfl | exact Ev.func | exact Ev.var)); (first | done | fail)) | apply ResL.agg (by (repeat (first | exact Ev.here | exact Ev.const | exact Ev.arg rfl | apply Ev.there rfl | exact Ev.none rfl | exact Ev.func | exact Ev.var)); (first | done | fail)) (by (repeat (first | exact Rd.head | exact Rd.base (by assumption) | apply Rd.tail)); (first | done | fail)) (by (repeat (first | exact TakeR.nil | apply TakeR.take | apply TakeR.skip)); (first | done | fail)) | apply ResL.cell (by (repeat (first | exact Ev.here | exact Ev.const | exact Ev.arg rfl | apply Ev.there rfl | exact Ev.none rfl | exact Ev.func | exact Ev.var)); (first | done | fail)) (by (repeat (first | exact Rd.head | exact Rd.base (by assumption) | apply Rd.tail)); (first | done | fail)) rfl)); (first | done | fail)) rfl, .inl ⟨rfl, none, 0, none, 0, rfl, rfl⟩⟩
  · have hu0 := dRec_4 (l := l) hk
    rw [hu0] at hps hss
    have hsn := fun Y p => getSnap_spec (B := B) Y p r1 l.length hm hps hss (by omega)
    obtain ⟨y, s, hy⟩ : ∃ y s, gSnap r1 l.length = (y, s) := ⟨_, _, rfl⟩
    rw [hy] at hu0 hsn
    simp only at hu0 hsn
    have hB' := hB _ hu0
    rw [hu0]
    simp only at hB' ⊢
    by_cases hbad : s.2 = true ∨ 0 < s.1.length
    · have hdb : decB l = false := by rw [hB']; rcases hbad with q | q <;> simp [q]
      rw [hdb]
      repeat' (first
        | refine zi ?_
        | refine zK ?_
        | refine zQ (h := ?_)
        | refine zU (h := ?_)
        | refine zj ?_
        | refine zR ?_
        | refine zW ?_
        | refine zN ?_
        | refine zV ?_
        | refine ze ?_
        | refine zP ?_
        | refine zY ?_
        | refine zS rfl ?_
        | refine zd ?_
        | refine zX ?_
        | refine zO ?_
        | refine zT ?_
        | refine zL ?_
        | (refine zC (id := 0) ?_; intro K hK; ((refine zw (k := ?_); intro q2)) <;> (refine zH (k := ?_); (refine zD (hK _ _ ?_); clear hK K)))
        | (refine zC (id := 1) ?_; intro K hK; refine zF (k := ?_); ((refine zb (hs := hnew) (k := ?_); rintro v A' ⟨p, b, bc, rfl, rfl⟩; simp only [List.cons_append, List.nil_append])) <;> (refine zH (k := ?_); (refine zD (hK _ _ ?_); clear hK K)))
        | (refine zC (id := 2) ?_; intro K hK; refine zF (k := ?_); ((refine zb (hs := hnum _ p) (k := ?_); rintro v A' ⟨rfl, rfl⟩; simp only [List.cons_append, List.nil_append])) <;> (refine zr (k := ?_); ((refine zw (k := ?_); intro q5)) <;> (refine zh (ho' := rfl) (k := ?_); (refine zD (hK _ _ ?_); clear hK K))))
        | (refine zC (id := 3) ?_; intro K hK; refine zB (k := ?_); refine zM (k := ?_); (refine zD (hK _ _ ?_); clear hK K))
        | (refine zC (id := 5) ?_; intro K hK; refine zp (k' := ?_); refine zH (k := ?_); (refine zD (hK _ _ ?_); clear hK K))
        | (refine zC (id := 7) ?_; intro K hK; refine zp (k' := ?_); refine zH (k := ?_); (refine zD (hK _ _ ?_); clear hK K))
        | (refine zC (id := 9) ?_; intro K hK; refine zp (k' := ?_); refine zH (k := ?_); (refine zD (hK _ _ ?_); clear hK K))
        | (refine zC (id := 11) ?_; intro K hK; refine zp (k' := ?_); refine zH (k := ?_); (refine zD (hK _ _ ?_); clear hK K))
        | (refine zC (id := 12) ?_; intro K hK; refine zF (k := ?_); refine zF (k := ?_); refine zn (k' := ?_); ((refine zb (hs := hsn _ p) (k := ?_); rintro v A' ⟨a1, c1, a2, c2, rfl, rfl⟩; simp only [List.cons_append, List.nil_append])) <;> (refine zB (k := ?_); refine zh (ho' := rfl) (k := ?_); (refine zD (hK _ _ ?_); clear hK K)))
        | (refine zC (id := 14) ?_; intro K hK; refine zF (k := ?_); ((refine zb (hs := rend_spec _ p s) (k := ?_); rintro v A' ⟨rfl, rfl⟩; simp only [List.cons_append, List.nil_append]; rw [if_pos hbad])) <;> (refine z8 (k' := ?_); (refine zD (hK _ _ ?_); clear hK K)))
        | (refine zC (id := 15) ?_; intro K hK; refine zr (k := ?_); refine zh (ho' := rfl) (k := ?_); refine zH (k := ?_); (refine zD (hK _ _ ?_); clear hK K))
        | (refine zc (ht := (fun ht => ?_)) (hf := (fun ht => ?_)) <;> (try simp at ht) <;> (try (exfalso; omega))))
      all_goals exact ⟨Or.inr rfl, _, [X], (by (repeat (first | exact Ent.refl _ | exact Ent.nil | refine Ent.take (by (repeat (first | exact Out.head | apply Out.tail)); (first | done | fail)) ?_ | refine Ent.drop1 ?_)); (first | done | fail)), resG rfl (by (repeat (first | exact ResL.nil | apply ResL.tmp (by (repeat (first | exact Ev.here | exact Ev.const | exact Ev.arg rfl | apply Ev.there rfl | exact Ev.none rfl | exact Ev.func | exact Ev.var)); (first | done | fail)) | apply ResL.agg (by (repeat (first | exact Ev.here | exact Ev.const | exact Ev.arg rfl | apply Ev.there rfl | exact Ev.none rfl | exact Ev.func | exact Ev.var)); (first | done | fail)) (by (repeat (first | exact Rd.head | exact Rd.base (by assumption) | apply Rd.tail)); (first | done | fail)) (by (repeat (first | exact TakeR.nil | apply TakeR.take | apply TakeR.skip)); (first | done | fail)) | apply ResL.cell (by (repeat (first | exact Ev.here | exact Ev.const | exact Ev.arg rfl | apply Ev.there rfl | exact Ev.none rfl | exact Ev.func | exact Ev.var)); (first | done | fail)) (by (repeat (first | exact Rd.head | exact Rd.base (by assumption) | apply Rd.tail)); (first | done | fail)) rfl)); (first | done | fail)) rfl, .inr ⟨rfl, rfl, rfl⟩⟩
    · have hdb : decB l = true := by rw [hB']; cases hs2 : s.2 <;> simp_all
      rw [hdb]
      repeat' (first
        | refine zi ?_
        | refine zK ?_
        | refine zQ (h := ?_)
        | refine zU (h := ?_)
        | refine zj ?_
        | refine zR ?_
        | refine zW ?_
        | refine zN ?_
        | refine zV ?_
        | refine ze ?_
        | refine zP ?_
        | refine zY ?_
        | refine zS rfl ?_
        | refine zd ?_
        | refine zX ?_
        | refine zO ?_
        | refine zT ?_
        | refine zL ?_
        | (refine zC (id := 0) ?_; intro K hK; ((refine zw (k := ?_); intro q2)) <;> (refine zH (k := ?_); (refine zD (hK _ _ ?_); clear hK K)))
        | (refine zC (id := 1) ?_; intro K hK; refine zF (k := ?_); ((refine zb (hs := hnew) (k := ?_); rintro v A' ⟨p, b, bc, rfl, rfl⟩; simp only [List.cons_append, List.nil_append])) <;> (refine zH (k := ?_); (refine zD (hK _ _ ?_); clear hK K)))
        | (refine zC (id := 2) ?_; intro K hK; refine zF (k := ?_); ((refine zb (hs := hnum _ p) (k := ?_); rintro v A' ⟨rfl, rfl⟩; simp only [List.cons_append, List.nil_append])) <;> (refine zr (k := ?_); ((refine zw (k := ?_); intro q5)) <;> (refine zh (ho' := rfl) (k := ?_); (refine zD (hK _ _ ?_); clear hK K))))
        | (refine zC (id := 3) ?_; intro K hK; refine zB (k := ?_); refine zM (k := ?_); (refine zD (hK _ _ ?_); clear hK K))
        | (refine zC (id := 5) ?_; intro K hK; refine zp (k' := ?_); refine zH (k := ?_); (refine zD (hK _ _ ?_); clear hK K))
        | (refine zC (id := 7) ?_; intro K hK; refine zp (k' := ?_); refine zH (k := ?_); (refine zD (hK _ _ ?_); clear hK K))
        | (refine zC (id := 9) ?_; intro K hK; refine zp (k' := ?_); refine zH (k := ?_); (refine zD (hK _ _ ?_); clear hK K))
        | (refine zC (id := 11) ?_; intro K hK; refine zp (k' := ?_); refine zH (k := ?_); (refine zD (hK _ _ ?_); clear hK K))
        | (refine zC (id := 12) ?_; intro K hK; refine zF (k := ?_); refine zF (k := ?_); refine zn (k' := ?_); ((refine zb (hs := hsn _ p) (k := ?_); rintro v A' ⟨a1, c1, a2, c2, rfl, rfl⟩; simp only [List.cons_append, List.nil_append])) <;> (refine zB (k := ?_); refine zh (ho' := rfl) (k := ?_); (refine zD (hK _ _ ?_); clear hK K)))
        | (refine zC (id := 14) ?_; intro K hK; refine zF (k := ?_); ((refine zb (hs := rend_spec _ p s) (k := ?_); rintro v A' ⟨rfl, rfl⟩; simp only [List.cons_append, List.nil_append]; rw [if_neg hbad])) <;> (refine z8 (k' := ?_); (refine zD (hK _ _ ?_); clear hK K)))
        | (refine zC (id := 16) ?_; intro K hK; refine zo (k := ?_); refine zh (ho' := rfl) (k := ?_); refine zH (k := ?_); (refine zD (hK _ _ ?_); clear hK K))
        | (refine zc (ht := (fun ht => ?_)) (hf := (fun ht => ?_)) <;> (try simp at ht) <;> (try (exfalso; omega))))
      all_goals exact ⟨Or.inr rfl, _, [own a1 y.ps.length c1 5 (prC y.ps) 57, own a2 y.ss.length c2 4 (ssC y.ss) 111, X], (by (repeat (first | exact Ent.refl _ | exact Ent.nil | refine Ent.take (by (repeat (first | exact Out.head | apply Out.tail)); (first | done | fail)) ?_ | refine Ent.drop1 ?_)); (first | done | fail)), resG rfl (by (repeat (first | exact ResL.nil | apply ResL.tmp (by (repeat (first | exact Ev.here | exact Ev.const | exact Ev.arg rfl | apply Ev.there rfl | exact Ev.none rfl | exact Ev.func | exact Ev.var)); (first | done | fail)) | apply ResL.agg (by (repeat (first | exact Ev.here | exact Ev.const | exact Ev.arg rfl | apply Ev.there rfl | exact Ev.none rfl | exact Ev.func | exact Ev.var)); (first | done | fail)) (by (repeat (first | exact Rd.head | exact Rd.base (by assumption) | apply Rd.tail)); (first | done | fail)) (by (repeat (first | exact TakeR.nil | apply TakeR.take | apply TakeR.skip)); (first | done | fail)) | apply ResL.cell (by (repeat (first | exact Ev.here | exact Ev.const | exact Ev.arg rfl | apply Ev.there rfl | exact Ev.none rfl | exact Ev.func | exact Ev.var)); (first | done | fail)) (by (repeat (first | exact Rd.head | exact Rd.base (by assumption) | apply Rd.tail)); (first | done | fail)) rfl)); (first | done | fail)) rfl, .inl ⟨rfl, a1, c1, a2, c2, rfl, rfl⟩⟩
  · have hu0 := dRec_5 (l := l) hk
    have hB' := hB _ hu0
    rw [hu0]
    simp only at hB' ⊢
    by_cases hbad : r1.2 = true ∨ 0 < r1.1.length
    · have hdb : decB l = false := by rw [hB']; rcases hbad with q | q <;> simp [q]
      rw [hdb]
      repeat' (first
        | refine zi ?_
        | refine zK ?_
        | refine zQ (h := ?_)
        | refine zU (h := ?_)
        | refine zj ?_
        | refine zR ?_
        | refine zW ?_
        | refine zN ?_
        | refine zV ?_
        | refine ze ?_
        | refine zP ?_
        | refine zY ?_
        | refine zS rfl ?_
        | refine zd ?_
        | refine zX ?_
        | refine zO ?_
        | refine zT ?_
        | refine zL ?_
        | (refine zC (id := 0) ?_; intro K hK; ((refine zw (k := ?_); intro q2)) <;> (refine zH (k := ?_); (refine zD (hK _ _ ?_); clear hK K)))
        | (refine zC (id := 1) ?_; intro K hK; refine zF (k := ?_); ((refine zb (hs := hnew) (k := ?_); rintro v A' ⟨p, b, bc, rfl, rfl⟩; simp only [List.cons_append, List.nil_append])) <;> (refine zH (k := ?_); (refine zD (hK _ _ ?_); clear hK K)))
        | (refine zC (id := 2) ?_; intro K hK; refine zF (k := ?_); ((refine zb (hs := hnum _ p) (k := ?_); rintro v A' ⟨rfl, rfl⟩; simp only [List.cons_append, List.nil_append])) <;> (refine zr (k := ?_); ((refine zw (k := ?_); intro q5)) <;> (refine zh (ho' := rfl) (k := ?_); (refine zD (hK _ _ ?_); clear hK K))))
        | (refine zC (id := 3) ?_; intro K hK; refine zB (k := ?_); refine zM (k := ?_); (refine zD (hK _ _ ?_); clear hK K))
        | (refine zC (id := 5) ?_; intro K hK; refine zp (k' := ?_); refine zH (k := ?_); (refine zD (hK _ _ ?_); clear hK K))
        | (refine zC (id := 7) ?_; intro K hK; refine zp (k' := ?_); refine zH (k := ?_); (refine zD (hK _ _ ?_); clear hK K))
        | (refine zC (id := 9) ?_; intro K hK; refine zp (k' := ?_); refine zH (k := ?_); (refine zD (hK _ _ ?_); clear hK K))
        | (refine zC (id := 11) ?_; intro K hK; refine zp (k' := ?_); refine zH (k := ?_); (refine zD (hK _ _ ?_); clear hK K))
        | (refine zC (id := 13) ?_; intro K hK; refine zp (k' := ?_); refine zH (k := ?_); (refine zD (hK _ _ ?_); clear hK K))
        | (refine zC (id := 14) ?_; intro K hK; refine zF (k := ?_); ((refine zb (hs := rend_spec _ p r1) (k := ?_); rintro v A' ⟨rfl, rfl⟩; simp only [List.cons_append, List.nil_append]; rw [if_pos hbad])) <;> (refine z8 (k' := ?_); (refine zD (hK _ _ ?_); clear hK K)))
        | (refine zC (id := 15) ?_; intro K hK; refine zr (k := ?_); refine zh (ho' := rfl) (k := ?_); refine zH (k := ?_); (refine zD (hK _ _ ?_); clear hK K))
        | (refine zc (ht := (fun ht => ?_)) (hf := (fun ht => ?_)) <;> (try simp at ht) <;> (try (exfalso; omega))))
      all_goals exact ⟨Or.inr rfl, _, [X], (by (repeat (first | exact Ent.refl _ | exact Ent.nil | refine Ent.take (by (repeat (first | exact Out.head | apply Out.tail)); (first | done | fail)) ?_ | refine Ent.drop1 ?_)); (first | done | fail)), resG rfl (by (repeat (first | exact ResL.nil | apply ResL.tmp (by (repeat (first | exact Ev.here | exact Ev.const | exact Ev.arg rfl | apply Ev.there rfl | exact Ev.none rfl | exact Ev.func | exact Ev.var)); (first | done | fail)) | apply ResL.agg (by (repeat (first | exact Ev.here | exact Ev.const | exact Ev.arg rfl | apply Ev.there rfl | exact Ev.none rfl | exact Ev.func | exact Ev.var)); (first | done | fail)) (by (repeat (first | exact Rd.head | exact Rd.base (by assumption) | apply Rd.tail)); (first | done | fail)) (by (repeat (first | exact TakeR.nil | apply TakeR.take | apply TakeR.skip)); (first | done | fail)) | apply ResL.cell (by (repeat (first | exact Ev.here | exact Ev.const | exact Ev.arg rfl | apply Ev.there rfl | exact Ev.none rfl | exact Ev.func | exact Ev.var)); (first | done | fail)) (by (repeat (first | exact Rd.head | exact Rd.base (by assumption) | apply Rd.tail)); (first | done | fail)) rfl)); (first | done | fail)) rfl, .inr ⟨rfl, rfl, rfl⟩⟩
    · have hdb : decB l = true := by rw [hB']; cases hs2 : r1.2 <;> simp_all
      rw [hdb]
      repeat' (first
        | refine zi ?_
        | refine zK ?_
        | refine zQ (h := ?_)
        | refine zU (h := ?_)
        | refine zj ?_
        | refine zR ?_
        | refine zW ?_
        | refine zN ?_
        | refine zV ?_
        | refine ze ?_
        | refine zP ?_
        | refine zY ?_
        | refine zS rfl ?_
        | refine zd ?_
        | refine zX ?_
        | refine zO ?_
        | refine zT ?_
        | refine zL ?_
        | (refine zC (id := 0) ?_; intro K hK; ((refine zw (k := ?_); intro q2)) <;> (refine zH (k := ?_); (refine zD (hK _ _ ?_); clear hK K)))
        | (refine zC (id := 1) ?_; intro K hK; refine zF (k := ?_); ((refine zb (hs := hnew) (k := ?_); rintro v A' ⟨p, b, bc, rfl, rfl⟩; simp only [List.cons_append, List.nil_append])) <;> (refine zH (k := ?_); (refine zD (hK _ _ ?_); clear hK K)))
        | (refine zC (id := 2) ?_; intro K hK; refine zF (k := ?_); ((refine zb (hs := hnum _ p) (k := ?_); rintro v A' ⟨rfl, rfl⟩; simp only [List.cons_append, List.nil_append])) <;> (refine zr (k := ?_); ((refine zw (k := ?_); intro q5)) <;> (refine zh (ho' := rfl) (k := ?_); (refine zD (hK _ _ ?_); clear hK K))))
        | (refine zC (id := 3) ?_; intro K hK; refine zB (k := ?_); refine zM (k := ?_); (refine zD (hK _ _ ?_); clear hK K))
        | (refine zC (id := 5) ?_; intro K hK; refine zp (k' := ?_); refine zH (k := ?_); (refine zD (hK _ _ ?_); clear hK K))
        | (refine zC (id := 7) ?_; intro K hK; refine zp (k' := ?_); refine zH (k := ?_); (refine zD (hK _ _ ?_); clear hK K))
        | (refine zC (id := 9) ?_; intro K hK; refine zp (k' := ?_); refine zH (k := ?_); (refine zD (hK _ _ ?_); clear hK K))
        | (refine zC (id := 11) ?_; intro K hK; refine zp (k' := ?_); refine zH (k := ?_); (refine zD (hK _ _ ?_); clear hK K))
        | (refine zC (id := 13) ?_; intro K hK; refine zp (k' := ?_); refine zH (k := ?_); (refine zD (hK _ _ ?_); clear hK K))
        | (refine zC (id := 14) ?_; intro K hK; refine zF (k := ?_); ((refine zb (hs := rend_spec _ p r1) (k := ?_); rintro v A' ⟨rfl, rfl⟩; simp only [List.cons_append, List.nil_append]; rw [if_neg hbad])) <;> (refine z8 (k' := ?_); (refine zD (hK _ _ ?_); clear hK K)))
        | (refine zC (id := 16) ?_; intro K hK; refine zo (k := ?_); refine zh (ho' := rfl) (k := ?_); refine zH (k := ?_); (refine zD (hK _ _ ?_); clear hK K))
        | (refine zc (ht := (fun ht => ?_)) (hf := (fun ht => ?_)) <;> (try simp at ht) <;> (try (exfalso; omega))))
      all_goals exact ⟨Or.inr rfl, _, [own none 0 0 5 [] 57, own none 0 0 4 [] 111, X], Ent.trans (own_nil 4 111 _) (Ent.trans (own_nil 5 57 _) (by (repeat (first | exact Ent.refl _ | exact Ent.nil | refine Ent.take (by (repeat (first | exact Out.head | apply Out.tail)); (first | done | fail)) ?_ | refine Ent.drop1 ?_)); (first | done | fail))), resG rfl (by (repeat (first | exact ResL.nil | apply ResL.tmp (by (repeat (first | exact Ev.here | exact Ev.const | exact Ev.arg rfl | apply Ev.there rfl | exact Ev.none rfl | exact Ev.func | exact Ev.var)); (first | done | fail)) | apply ResL.agg (by (repeat (first | exact Ev.here | exact Ev.const | exact Ev.arg rfl | apply Ev.there rfl | exact Ev.none rfl | exact Ev.func | exact Ev.var)); (first | done | fail)) (by (repeat (first | exact Rd.head | exact Rd.base (by assumption) | apply Rd.tail)); (first | done | fail)) (by (repeat (first | exact TakeR.nil | apply TakeR.take | apply TakeR.skip)); (first | done | fail)) | apply ResL.cell (by (repeat (first | exact Ev.here | exact Ev.const | exact Ev.arg rfl | apply Ev.there rfl | exact Ev.none rfl | exact Ev.func | exact Ev.var)); (first | done | fail)) (by (repeat (first | exact Rd.head | exact Rd.base (by assumption) | apply Rd.tail)); (first | done | fail)) rfl)); (first | done | fail)) rfl, .inl ⟨rfl, none, 0, none, 0, rfl, rfl⟩⟩
theorem drec_spec (A0 : List Asn) (a : Option Addr) (m c : Nat) (l : List UInt8) (h : RdS Tryz.prog B A0 1 a m c (l.map byteV)) (hm : m ≤ 140737489000000)
    (hps : (dRec (l, false) l.length).1.sn.ps.length ≤ 900000000) (hss : (dRec (l, false) l.length).1.sn.ss.length ≤ 900000000) :
    Fspec Tryz.prog B 20 #[.slice a m c] A0
      (fun v A' => (decB l = true ∧ ∃ pa pc sa sc, v = .tuple #[.agg ((dRec (l, false) l.length).1.c pa pc sa sc).toArray, .int .i64 0] ∧ A' = own pa (dRec (l, false) l.length).1.sn.ps.length pc 5 (prC (dRec (l, false) l.length).1.sn.ps) 57 :: own sa (dRec (l, false) l.length).1.sn.ss.length sc 4 (ssC (dRec (l, false) l.length).1.sn.ss) 111 :: A0) ∨
        (decB l = false ∧ v = .tuple #[.agg (rcO.c none 0 none 0).toArray, .int .i64 2] ∧ A' = A0)) := by
  have he : Ent [lst A0] A0 := by simpa using Ent.lst_open A0 []
  have hs : Ent A0 [lst A0] := by simpa using Ent.lst_shut A0 []
  refine ((drec1_spec (lst A0) a m c l (RdS.ofEnt h he) hm hps hss).ent hs).conv ?_
  rintro v A' (⟨h1, pa, pc, sa, sc, rfl, rfl⟩ | ⟨h1, rfl, rfl⟩)
  · exact ⟨_, Ent.cons _ (Ent.cons _ he), .inl ⟨h1, pa, pc, sa, sc, rfl, rfl⟩⟩
  · exact ⟨_, he, .inr ⟨h1, rfl, rfl⟩⟩
theorem erec_spec (A0 : List Asn) (r : RcG) (hps : r.sn.ps.length ≤ 140737489000000) (hss : r.sn.ss.length ≤ 140737489000000) (pa : Option Addr) (pc : Nat) (sa : Option Addr) (sc : Nat)
    (h1 : RdS Tryz.prog B A0 5 pa r.sn.ps.length pc (prC r.sn.ps)) (h2 : RdS Tryz.prog B A0 4 sa r.sn.ss.length sc (ssC r.sn.ss)) (hm : (wRec r).1.length ≤ 140737489000000) :
    Fspec Tryz.prog B 18 #[.agg (r.c pa pc sa sc).toArray] A0
      (fun v A' => (recB r = true ∧ ∃ a c, v = .tuple #[.slice a (wRec r).1.length c, .int .i64 0] ∧ A' = own a (wRec r).1.length c 1 ((wRec r).1.map byteV) 5 :: A0) ∨ (recB r = false ∧ v = .tuple #[.slice none 0 0, .int .i64 1] ∧ A' = A0)) := by
  have he : Ent [lst A0] A0 := by simpa using Ent.lst_open A0 []
  have hs : Ent A0 [lst A0] := by simpa using Ent.lst_shut A0 []
  refine ((erec1_spec (lst A0) r hps hss pa pc sa sc (RdS.ofEnt h1 he) (RdS.ofEnt h2 he) hm).ent hs).conv ?_
  rintro v A' (⟨q1, a, c, rfl, rfl⟩ | ⟨q1, rfl, rfl⟩)
  · exact ⟨_, Ent.cons _ he, .inl ⟨q1, a, c, rfl, rfl⟩⟩
  · exact ⟨_, he, .inr ⟨q1, rfl, rfl⟩⟩
end specs
end Go.Proofs.YtnoggejkkjngjaaGreat
/- Layer 15, StateRecords: bytes and records, the plain law. No program in sight. -/
set_option maxHeartbeats 8000000
set_option linter.unusedVariables false
set_option linter.unusedSimpArgs false
set_option maxRecDepth 100000
namespace Go.Proofs.YtnoggejkkjngjaaGreat
open Go Go.Sl
attribute [local irreducible] Go.Sl.Wl Go.Sl.Wc Go.Sl.thenQ Go.Sl.blkQ Go.Sl.loopQ Go.Sl.Fspec

/-! ### What was read is what would be written -/
def InvG {α : Type} (g : Rr → α × Rr) (e : α → List UInt8) (K : α → Prop) : Prop := ∀ (r : Rr) (x : α) (l' : List UInt8), g r = (x, (l', false)) → ∃ l, r = (l, false) ∧ l = e x ++ l' ∧ K x
theorem rNumL_bad : ∀ (f i acc : Nat) (l : List UInt8), (rNumL f i acc (l, true)).2.2 = true
  | 0, _, _, _ => rfl
  | f + 1, i, acc, l => by
    have : rNext (l, true) = (none, (l, true)) := by unfold rNext; split <;> simp_all
    unfold rNumL; rw [this]
theorem rNumL_inv : ∀ (f i acc : Nat) (l : List UInt8) (n : Nat) (l' : List UInt8), rNumL f i acc (l, false) = (n, (l', false)) → ∃ m, l = encN m ++ l' ∧ n = acc + m * 128 ^ i ∧ (0 < i → 0 < m) ∧ n ≤ 9007199254740992
  | 0, _, _, _, _, _, h => by simp [rNumL] at h
  | f + 1, i, acc, [], n, l', h => by
    have : rNumL (f + 1) i acc ([], false) = (0, ([], true)) := rfl
    rw [this] at h; simp at h
  | f + 1, i, acc, b :: l2, n, l', h => by
    have hb := u8_lt b
    rw [rNumL_step] at h
    by_cases h1 : b.toNat < 128
    · rw [if_pos h1] at h
      by_cases h2 : (b.toNat = 0 ∧ 0 < i) ∨ 9007199254740992 < acc + b.toNat * 128 ^ i
      · rw [if_pos h2] at h; simp at h
      · rw [if_neg h2] at h
        have ha : acc + b.toNat * 128 ^ i = n := (Prod.mk.inj h).1
        have hl : l2 = l' := (Prod.mk.inj (Prod.mk.inj h).2).1
        refine ⟨b.toNat, ?_, ha.symm, fun hi => ?_, ?_⟩
        · rw [encN_small h1, UInt8.ofNat_toNat, hl]; rfl
        · rcases Nat.eq_zero_or_pos b.toNat with q | q
          · exact absurd (.inl ⟨q, hi⟩) h2
          · exact q
        · rcases Nat.lt_or_ge 9007199254740992 (acc + b.toNat * 128 ^ i) with q | q
          · exact absurd (.inr q) h2
          · omega
    · rw [if_neg h1] at h
      obtain ⟨m, e1, e2, e3, e4⟩ := rNumL_inv f (i + 1) (acc + b.toNat % 128 * 128 ^ i) l2 n l' h
      have hm := e3 (by omega)
      refine ⟨b.toNat % 128 + 128 * m, ?_, ?_, fun _ => by omega, e4⟩
      · rw [encN_big (by omega), show (b.toNat % 128 + 128 * m) % 128 + 128 = b.toNat by omega, show (b.toNat % 128 + 128 * m) / 128 = m by omega, UInt8.ofNat_toNat, e1]; rfl
      · rw [e2, Nat.add_mul, Nat.pow_succ]
        have : 128 * m * 128 ^ i = m * (128 ^ i * 128) := by rw [Nat.mul_comm 128 m, Nat.mul_assoc, Nat.mul_comm 128]
        omega
theorem rNum_inv : InvG rNum encN (· ≤ 9007199254740992) := fun r n l' h => by
  obtain ⟨l, bad⟩ := r
  cases bad with
  | true =>
    have := rNumL_bad 8 0 0 l
    unfold rNum at h
    rw [h] at this; simp at this
  | false =>
    obtain ⟨m, h1, h2, _, h4⟩ := rNumL_inv 8 0 0 l n l' h
    have : n = m := by simpa using h2
    subst this
    exact ⟨l, rfl, h1, h4⟩
theorem rFlag_inv : InvG rFlag eFlag (fun _ => True) := fun r b l' h => by
  obtain ⟨l, bad⟩ := r
  unfold rFlag at h
  cases bad with
  | true =>
    have : rNext (l, true) = (none, (l, true)) := by unfold rNext; split <;> simp_all
    rw [this] at h; simp at h
  | false =>
    cases l with
    | nil =>
      have : rNext ([], false) = (none, ([], true)) := rfl
      rw [this] at h; simp at h
    | cons c l =>
      have : rNext (c :: l, false) = (some c, (l, false)) := rfl
      rw [this] at h
      simp only [Prod.mk.injEq, decide_eq_false_iff_not] at h
      obtain ⟨h1, h2, h3⟩ := h
      subst h1 h2
      refine ⟨_, rfl, ?_, trivial⟩
      unfold eFlag
      by_cases hc : c.toNat = 1
      · rw [decide_eq_true hc, if_pos rfl, encN_small (by omega), ← hc, UInt8.ofNat_toNat]; rfl
      · rw [decide_eq_false hc, if_neg (by simp), encN_small (by omega), show (0 : Nat) = c.toNat by omega, UInt8.ofNat_toNat]; rfl
theorem gText_inv (n : Int) : InvG (gText · n) eText (fun s => s.size ≤ 9007199254740992) := fun r s l' h => by
  simp only at h
  unfold gText rText at h
  split at h
  · simp at h
  · rename_i hc
    simp only [Prod.mk.injEq, and_true] at h
    obtain ⟨h1, h2⟩ := h
    have hb : (rNum r).2.2 = false := by
      cases hb : (rNum r).2.2 with
      | false => rfl
      | true => exact absurd (.inl hb) hc
    have hl : (rNum r).1 ≤ (rNum r).2.1.length := by
      rcases Nat.lt_or_ge (rNum r).2.1.length (rNum r).1 with q | q
      · exact absurd (.inr (.inr q)) hc
      · exact q
    obtain ⟨l, e1, e2, e3⟩ := rNum_inv r (rNum r).1 (rNum r).2.1 (by rw [← hb])
    have hsz : s.size = (rNum r).1 := by
      rw [← h1]
      show ((rNum r).2.1.take (rNum r).1).toArray.size = _
      simp; omega
    have hd : s.data.toList = (rNum r).2.1.take (rNum r).1 := by rw [← h1]; simp [bytesOf]
    refine ⟨l, e1, ?_, by show s.size ≤ _; rw [hsz]; exact e3⟩
    unfold eText
    rw [hsz, hd, ← h2, List.append_assoc, List.take_append_drop]; exact e2
def ePos2 (x : Nat × Nat) : List UInt8 := encN x.1 ++ encN x.2
theorem gPos_inv : InvG gPos ePos2 (fun x => x.1 ≤ 9007199254740992 ∧ x.2 ≤ 9007199254740992) := fun r x l' h => by
  unfold gPos at h
  obtain ⟨h1, h2⟩ := Prod.mk.inj h
  obtain ⟨l1, e1, e2, e3⟩ := rNum_inv (rNum r).2 (rNum (rNum r).2).1 l' (by rw [← h2])
  obtain ⟨l0, f1, f2, f3⟩ := rNum_inv r (rNum r).1 l1 (by rw [← e1])
  subst h1
  refine ⟨l0, f1, ?_, f3, e3⟩
  unfold ePos2
  rw [f2, e2, List.append_assoc]
theorem numOk_nat {n : Nat} (h : n ≤ 9007199254740992) : numOk (n : Int) = true := by unfold numOk; exact decide_eq_true (by omega)
theorem eN_nat (n : Nat) : eN (n : Int) = encN n := by unfold eN; rw [Int.toNat_natCast]
theorem gEp_inv : InvG gEp eEp EpK := fun r x l' h => by
  unfold gEp at h
  obtain ⟨h1, h2⟩ := Prod.mk.inj h
  obtain ⟨l1, e1, e2, _⟩ := rFlag_inv (gPos r).2 (rFlag (gPos r).2).1 l' (by rw [← h2])
  obtain ⟨l0, f1, f2, f3, f4⟩ := gPos_inv r (gPos r).1 l1 (by rw [← e1])
  subst h1
  refine ⟨l0, f1, ?_, numOk_nat f3, numOk_nat f4⟩
  unfold eEp ePos
  simp only [eN_nat]
  rw [f2, e2, List.append_assoc]; rfl
theorem gHead_inv : InvG gHead (fun x => ePos2 (x.1, x.2.1) ++ ePos2 (x.2.2.1, x.2.2.2)) (fun x => x.1 ≤ 9007199254740992 ∧ x.2.1 ≤ 9007199254740992 ∧ x.2.2.1 ≤ 9007199254740992 ∧ x.2.2.2 ≤ 9007199254740992) := fun r x l' h => by
  unfold gHead gNN at h
  obtain ⟨h1, h2⟩ := Prod.mk.inj h
  obtain ⟨l1, e1, e2, e3, e4⟩ := gPos_inv (gPos r).2 (gPos (gPos r).2).1 l' (by rw [← h2])
  obtain ⟨l0, f1, f2, f3, f4⟩ := gPos_inv r (gPos r).1 l1 (by rw [← e1])
  subst h1
  exact ⟨l0, f1, by rw [f2, e2, List.append_assoc], f3, f4, e3, e4⟩
theorem gKV_inv (n : Int) : InvG (gKV · n) (fun x => eText x.1 ++ (eFlag x.2.1 ++ eText x.2.2)) (fun x => x.1.size ≤ 9007199254740992 ∧ x.2.2.size ≤ 9007199254740992) := fun r x l' h => by
  simp only at h
  unfold gKV at h
  obtain ⟨h1, h2⟩ := Prod.mk.inj h
  obtain ⟨l2, d1, d2, d3⟩ := gText_inv n (rFlag (gText r n).2).2 (gText (rFlag (gText r n).2).2 n).1 l' (by simp only; rw [← h2])
  obtain ⟨l1, e1, e2, _⟩ := rFlag_inv (gText r n).2 (rFlag (gText r n).2).1 l2 (by rw [← d1])
  obtain ⟨l0, f1, f2, f3⟩ := gText_inv n r (gText r n).1 l1 (by simp only; rw [← e1])
  subst h1
  exact ⟨l0, f1, by rw [f2, e2, d2]; simp only [List.append_assoc], f3, d3⟩
theorem gEnt_inv : InvG gEnt eEnt EnK := fun r x l' h => by
  unfold gEnt at h
  obtain ⟨h1, h2⟩ := Prod.mk.inj h
  obtain ⟨l1, e1, e2, e3, e4⟩ := gKV_inv 9007199254740992 (gHead r).2 (gKV (gHead r).2 9007199254740992).1 l' (by simp only; rw [← h2])
  obtain ⟨l0, f1, f2, f3, f4, f5, f6⟩ := gHead_inv r (gHead r).1 l1 (by rw [← e1])
  subst h1
  refine ⟨l0, f1, ?_, numOk_nat f3, numOk_nat f4, numOk_nat f5, numOk_nat f6, e3, e4⟩
  unfold eEnt ePos
  simp only [eN_nat]
  rw [f2, e2]
  simp only [ePos2, List.append_assoc]
theorem gFT_inv (n : Int) : InvG (gFT · n) (fun x => eFlag x.1 ++ eText x.2) (fun x => x.2.size ≤ 9007199254740992) := fun r x l' h => by
  simp only at h
  unfold gFT at h
  obtain ⟨h1, h2⟩ := Prod.mk.inj h
  obtain ⟨l1, d1, d2, d3⟩ := gText_inv n (rFlag r).2 (gText (rFlag r).2 n).1 l' (by simp only; rw [← h2])
  obtain ⟨l0, e1, e2, _⟩ := rFlag_inv r (rFlag r).1 l1 (by rw [← d1])
  subst h1
  exact ⟨l0, e1, by rw [e2, d2]; simp only [List.append_assoc], d3⟩
def big : Nat := 9007199254740992
theorem gPr_inv (n : Int) : InvG (gPr · n) ePr (PrK big) := fun r x l' h => by
  simp only at h
  unfold gPr at h
  obtain ⟨h1, h2⟩ := Prod.mk.inj h
  obtain ⟨l2, d1, d2, d3⟩ := gFT_inv n (gPos (gText r n).2).2 (gFT (gPos (gText r n).2).2 n).1 l' (by simp only; rw [← h2])
  obtain ⟨l1, e1, e2, e3, e4⟩ := gPos_inv (gText r n).2 (gPos (gText r n).2).1 l2 (by rw [← d1])
  obtain ⟨l0, f1, f2, f3⟩ := gText_inv n r (gText r n).1 l1 (by simp only; rw [← e1])
  subst h1
  refine ⟨l0, f1, ?_, numOk_nat e3, numOk_nat e4, f3, d3⟩
  unfold ePr ePos
  simp only [eN_nat]
  rw [f2, e2, d2]
  simp only [ePos2, List.append_assoc]
theorem gSs_inv : InvG gSs eSs SsK := fun r x l' h => by
  unfold gSs at h
  obtain ⟨h1, h2⟩ := Prod.mk.inj h
  obtain ⟨l0, f1, f2, f3, f4, f5, f6⟩ := gHead_inv r (gHead r).1 l' (by rw [← h2])
  subst h1
  refine ⟨l0, f1, ?_, numOk_nat f3, numOk_nat f4, numOk_nat f5, numOk_nat f6⟩
  unfold eSs ePos
  simp only [eN_nat]
  rw [f2]
  simp only [ePos2, List.append_assoc]
theorem gMany_inv {α : Type} {g : Rr → α × Rr} {e : α → List UInt8} {K : α → Prop} (hg : InvG g e K) : ∀ k : Nat, InvG (gMany g k) (fun xs => xs.flatMap e) (fun xs => ∀ x ∈ xs, K x)
  | 0, r, xs, l', h => by
    obtain ⟨h1, h2⟩ := Prod.mk.inj h
    exact ⟨l', h2, by rw [← h1]; simp, by rw [← h1]; simp⟩
  | k + 1, r, xs, l', h => by
    unfold gMany at h
    obtain ⟨h1, h2⟩ := Prod.mk.inj h
    obtain ⟨l1, e1, e2, e3⟩ := hg (gMany g k r).2 (g (gMany g k r).2).1 l' (by rw [← h2])
    obtain ⟨l0, f1, f2, f3⟩ := gMany_inv hg k r (gMany g k r).1 l1 (by rw [← e1])
    refine ⟨l0, f1, ?_, ?_⟩
    · rw [f2, e2, ← h1]; simp
    · rw [← h1]
      intro x hx
      rcases List.mem_append.1 hx with hx | hx
      · exact f3 x hx
      · simp at hx; rw [hx]; exact e3
theorem rCount_inv (m : Int) : InvG (rCount · m) encN (· ≤ 9007199254740992) := fun r n l' h => by
  simp only at h
  unfold rCount at h
  split at h
  · simp at h
  · exact rNum_inv r n l' h
theorem gPrs_inv (n : Int) : InvG (gPrs n) ePrs (fun l => l.length ≤ 9007199254740992 ∧ ∀ x ∈ l, PrK big x) := fun r xs l' h => by
  unfold gPrs at h
  have hlen := gMany_len (gPr · n) (rCount r n).1 (rCount r n).2
  obtain ⟨l1, e1, e2, e3⟩ := gMany_inv (gPr_inv n) _ _ _ _ h
  obtain ⟨l0, f1, f2, f3⟩ := rCount_inv n r (rCount r n).1 l1 (by simp only; rw [← e1])
  rw [h] at hlen
  simp only at hlen
  refine ⟨l0, f1, ?_, by omega, e3⟩
  unfold ePrs
  rw [f2, e2, hlen, List.append_assoc]
theorem gSss_inv (n : Int) : InvG (gSss n) eSss (fun l => l.length ≤ 9007199254740992 ∧ ∀ x ∈ l, SsK x) := fun r xs l' h => by
  unfold gSss at h
  have hlen := gMany_len gSs (rCount r n).1 (rCount r n).2
  obtain ⟨l1, e1, e2, e3⟩ := gMany_inv gSs_inv _ _ _ _ h
  obtain ⟨l0, f1, f2, f3⟩ := rCount_inv n r (rCount r n).1 l1 (by simp only; rw [← e1])
  rw [h] at hlen
  simp only at hlen
  refine ⟨l0, f1, ?_, by omega, e3⟩
  unfold eSss
  rw [f2, e2, hlen, List.append_assoc]
theorem gSnap_inv (n : Int) : InvG (gSnap · n) eSnap (SnK big) := fun r b l' h => by
  simp only at h
  unfold gSnap at h
  obtain ⟨h1, h2⟩ := Prod.mk.inj h
  obtain ⟨l2, d1, d2, d3, d4⟩ := gSss_inv n (gPrs n (gPos r).2).2 (gSss n (gPrs n (gPos r).2).2).1 l' (by rw [← h2])
  obtain ⟨l1, e1, e2, e3, e4⟩ := gPrs_inv n (gPos r).2 (gPrs n (gPos r).2).1 l2 (by rw [← d1])
  obtain ⟨l0, f1, f2, f3, f4⟩ := gPos_inv r (gPos r).1 l1 (by rw [← e1])
  subst h1
  refine ⟨l0, f1, ?_, Nat.le_refl _, numOk_nat f3, numOk_nat f4, e3, d3, e4, d4⟩
  unfold eSnap ePos
  simp only [eN_nat]
  rw [f2, e2, d2]
  simp only [ePos2, List.append_assoc]
/-! ### Records -/
structure RecK (r : RcG) : Prop where
  k : kindOk r.kind = true
  x : r.kind = 1 → EnK r.x
  e : r.kind = 2 → EpK r.ep
  c : r.kind = 3 → numOk r.config = true
  s : r.kind = 4 → SnK big r.sn
/-- A record's bytes. -/
def eBody (r : RcG) : List UInt8 := if r.kind = 1 then eEnt r.x else if r.kind = 2 then eEp r.ep else if r.kind = 3 then eN r.config else if r.kind = 4 then eSnap r.sn else []
def eRec (r : RcG) : List UInt8 := eN r.kind ++ eBody r
theorem kind_num {k : Int} (h : kindOk k = true) : numOk k = true := by
  unfold kindOk at h
  have := of_decide_eq_true h
  unfold numOk; exact decide_eq_true (by omega)
theorem rec_e {r : RcG} (h : RecK r) : wRec r = (eRec r, false) := by
  have hk := wNum_e [] (kind_num h.k)
  have h0 := of_decide_eq_true h.k
  unfold wRec eRec eBody
  rw [hk, List.nil_append]
  by_cases k1 : r.kind = 1
  · rw [if_pos k1, if_pos k1, wEnt_e _ (h.x k1)]
  rw [if_neg k1, if_neg k1]
  by_cases k2 : r.kind = 2
  · rw [if_pos k2, if_pos k2, wEp_e _ (h.e k2)]
  rw [if_neg k2, if_neg k2]
  by_cases k3 : r.kind = 3
  · rw [if_pos k3, if_pos k3, wNum_e _ (h.c k3)]
  rw [if_neg k3, if_neg k3]
  by_cases k4 : r.kind = 4
  · rw [if_pos k4, if_pos k4, wSnap_e _ (h.s k4)]
  · rw [if_neg k4, if_neg k4, List.append_nil]
theorem rec_yes {r : RcG} (h : RecK r) : recB r = true := by
  unfold recB; rw [rec_e h, h.k]; rfl
/-- What a record's kind names. -/
structure Named (a b : RcG) : Prop where
  k : a.kind = b.kind
  x : a.kind = 1 → a.x = b.x
  e : a.kind = 2 → a.ep = b.ep
  c : a.kind = 3 → a.config = b.config
  s : a.kind = 4 → a.sn = b.sn
theorem eText_len (s : ByteArray) : s.size ≤ (eText s).length := by
  have hsz : s.data.toList.length = s.size := by rw [Array.length_toList]; rfl
  unfold eText; rw [List.length_append, hsz]; omega
theorem flat_len {α : Type} {e : α → List UInt8} : ∀ {l : List α}, (∀ x ∈ l, 0 < (e x).length) → l.length ≤ (l.flatMap e).length
  | [], _ => Nat.le_refl _
  | x :: l, h => by
    have h1 := h x (List.mem_cons_self ..)
    have h2 := flat_len (l := l) fun y hy => h y (List.mem_cons_of_mem _ hy)
    simp only [List.flatMap_cons, List.length_append, List.length_cons]; omega
theorem flat_mem {α : Type} {e : α → List UInt8} : ∀ {l : List α} {x : α}, x ∈ l → (e x).length ≤ (l.flatMap e).length
  | y :: l, x, h => by
    simp only [List.flatMap_cons, List.length_append]
    rcases List.mem_cons.1 h with rfl | h
    · omega
    · have := flat_mem (e := e) h; omega
theorem ePr_pos (x : PrX) : 0 < (ePr x).length := by
  have := encN_pos x.k.size
  unfold ePr eText; simp only [List.length_append]; omega
theorem eSs_pos (x : SX) : 0 < (eSs x).length := by
  have := encN_pos x.s.toNat
  unfold eSs ePos eN; simp only [List.length_append]; omega
theorem snap_small {b : SnX} (h : SnK big b) {n : Nat} (hn : (eSnap b).length ≤ n) (hb : n ≤ 9007199254740992) : SnK n b := by
  have h1 : (b.ps.flatMap ePr).length ≤ n := by
    unfold eSnap ePrs at hn; simp only [List.length_append] at hn; omega
  have h2 : (b.ss.flatMap eSs).length ≤ n := by
    unfold eSnap eSss at hn; simp only [List.length_append] at hn; omega
  refine ⟨hb, h.e, h.i, Nat.le_trans (flat_len fun x _ => ePr_pos x) h1, Nat.le_trans (flat_len fun x _ => eSs_pos x) h2, fun x hx => ?_, h.ss⟩
  have hm := flat_mem (e := ePr) hx
  have hp := h.ps x hx
  have k1 := eText_len x.k
  have k2 := eText_len x.v.d
  have : (eText x.k).length + (eText x.v.d).length ≤ (ePr x).length := by unfold ePr; simp only [List.length_append]; omega
  exact ⟨hp.a, hp.b, by omega, by omega⟩
theorem dec_e {r : RcG} (h : RecK r) (hl : (eRec r).length ≤ 9007199254740992) : decB (eRec r) = true ∧ Named r (dRec (eRec r, false) (eRec r).length).1 := by
  have hk := of_decide_eq_true h.k
  obtain ⟨k, hkk⟩ := Int.eq_ofNat_of_zero_le (show 0 ≤ r.kind by omega)
  have hnum : rNum (eRec r, false) = (k, (eBody r, false)) := by
    unfold eRec; rw [rNum_e (kind_num h.k), hkk, Int.toNat_natCast]
  have hfin : ∀ q : RcG, dRec (eRec r, false) (eRec r).length = (q, ([], false)) → Named r q → decB (eRec r) = true ∧ Named r (dRec (eRec r, false) (eRec r).length).1 := fun q hq hn => by
    refine ⟨?_, by rw [hq]; exact hn⟩
    unfold decB
    rw [hq, hnum]
    try simp only
    rw [← hkk, h.k]; rfl
  have hbl : (eBody r).length ≤ (eRec r).length := by unfold eRec; rw [List.length_append]; omega
  have hkc : k = 1 ∨ k = 2 ∨ k = 3 ∨ k = 4 ∨ k = 5 := by omega
  rcases hkc with rfl | rfl | rfl | rfl | rfl
  · have hkk : r.kind = 1 := hkk
    have hb : eBody r = eEnt r.x := by unfold eBody; rw [if_pos hkk]
    have hg := gEnt_e (h.x hkk) []
    rw [List.append_nil] at hg
    rw [hb] at hnum
    refine hfin ⟨1, r.x, epO, 0, SnX.zero⟩ ((dRec_1 hnum).trans (by rw [hg])) ⟨hkk, fun _ => rfl, fun q => ?_, fun q => ?_, fun q => ?_⟩ <;> (rw [hkk] at q; simp at q)
  · have hkk : r.kind = 2 := hkk
    have hb : eBody r = eEp r.ep := by unfold eBody; rw [if_neg (by omega), if_pos hkk]
    have hg := gEp_e (h.e hkk) []
    rw [List.append_nil] at hg
    rw [hb] at hnum
    refine hfin ⟨2, enO, r.ep, 0, SnX.zero⟩ ((dRec_2 hnum).trans (by rw [hg])) ⟨hkk, fun q => ?_, fun _ => rfl, fun q => ?_, fun q => ?_⟩ <;> (rw [hkk] at q; simp at q)
  · have hkk : r.kind = 3 := hkk
    have hb : eBody r = eN r.config := by unfold eBody; rw [if_neg (by omega), if_neg (by omega), if_pos hkk]
    have hc := numOk_out (h.c hkk)
    have hg := rNum_e (h.c hkk) []
    rw [List.append_nil] at hg
    rw [hb] at hnum
    refine hfin ⟨3, enO, epO, (r.config.toNat : Nat), SnX.zero⟩ ((dRec_3 hnum).trans (by rw [hg])) ⟨hkk, fun q => ?_, fun q => ?_, fun _ => (Int.toNat_of_nonneg hc.1).symm, fun q => ?_⟩ <;> (rw [hkk] at q; simp at q)
  · have hkk : r.kind = 4 := hkk
    have hb : eBody r = eSnap r.sn := by unfold eBody; rw [if_neg (by omega), if_neg (by omega), if_neg (by omega), if_pos hkk]
    have hg := gSnap_e (snap_small (h.s hkk) (n := (eRec r).length) (by rw [← hb]; exact hbl) hl) []
    rw [List.append_nil] at hg
    rw [hb] at hnum
    refine hfin ⟨4, enO, epO, 0, r.sn⟩ ((dRec_4 hnum).trans (by rw [hg])) ⟨hkk, fun q => ?_, fun q => ?_, fun q => ?_, fun _ => rfl⟩ <;> (rw [hkk] at q; simp at q)
  · have hkk : r.kind = 5 := hkk
    have hb : eBody r = [] := by unfold eBody; rw [if_neg (by omega), if_neg (by omega), if_neg (by omega), if_neg (by omega)]
    rw [hb] at hnum
    refine hfin ⟨5, enO, epO, 0, SnX.zero⟩ (dRec_5 hnum) ⟨hkk, fun q => ?_, fun q => ?_, fun q => ?_, fun q => ?_⟩ <;> (rw [hkk] at q; simp at q)
/-- Bytes that are read as a record are that record's. -/
theorem dec_inv {l : List UInt8} (h : decB l = true) : RecK (dRec (l, false) l.length).1 ∧ eRec (dRec (l, false) l.length).1 = l := by
  unfold decB at h
  simp only [Bool.and_eq_true, Bool.not_eq_true', Bool.or_eq_false_iff, decide_eq_false_iff_not] at h
  obtain ⟨hk, hb, hl⟩ := h
  have hk0 := of_decide_eq_true hk
  obtain ⟨⟨k, r1⟩, hn⟩ : ∃ q, rNum (l, false) = q := ⟨_, rfl⟩
  rw [hn] at hk hk0
  try simp only at hk hk0
  have hempty : (dRec (l, false) l.length).2 = ([], false) := by
    exact Prod.ext (List.eq_nil_of_length_eq_zero (show (dRec (l, false) l.length).2.1.length = 0 by omega)) hb
  have hfirst : ∀ l1, r1 = (l1, false) → l = encN k ++ l1 := fun l1 e => by
    obtain ⟨l0, f1, f2, _⟩ := rNum_inv (l, false) k l1 (by rw [hn, e])
    rw [← f2]; exact (Prod.mk.inj f1).1
  have hkc : k = 1 ∨ k = 2 ∨ k = 3 ∨ k = 4 ∨ k = 5 := by omega
  rcases hkc with rfl | rfl | rfl | rfl | rfl
  · have hd := dRec_1 hn
    rw [hd] at hempty ⊢
    simp only at hempty ⊢
    obtain ⟨l1, e1, e2, e3⟩ := gEnt_inv r1 (gEnt r1).1 [] (by rw [← hempty])
    rw [List.append_nil] at e2
    refine ⟨⟨hk, fun _ => e3, by simp, by simp, by simp⟩, ?_⟩
    rw [hfirst l1 e1, e2]; rfl
  · have hd := dRec_2 hn
    rw [hd] at hempty ⊢
    simp only at hempty ⊢
    obtain ⟨l1, e1, e2, e3⟩ := gEp_inv r1 (gEp r1).1 [] (by rw [← hempty])
    rw [List.append_nil] at e2
    refine ⟨⟨hk, by simp, fun _ => e3, by simp, by simp⟩, ?_⟩
    rw [hfirst l1 e1, e2]; rfl
  · have hd := dRec_3 hn
    rw [hd] at hempty ⊢
    simp only at hempty ⊢
    obtain ⟨l1, e1, e2, e3⟩ := rNum_inv r1 (rNum r1).1 [] (by rw [← hempty])
    rw [List.append_nil] at e2
    refine ⟨⟨hk, by simp, by simp, fun _ => numOk_nat e3, by simp⟩, ?_⟩
    rw [hfirst l1 e1, e2]; rfl
  · have hd := dRec_4 hn
    rw [hd] at hempty ⊢
    simp only at hempty ⊢
    obtain ⟨l1, e1, e2, e3⟩ := gSnap_inv l.length r1 (gSnap r1 l.length).1 [] (by simp only; rw [← hempty])
    rw [List.append_nil] at e2
    refine ⟨⟨hk, by simp, by simp, by simp, fun _ => e3⟩, ?_⟩
    have := hfirst l1 e1
    conv => rhs; rw [this]
    rw [e2]; rfl
  · have hd := dRec_5 hn
    rw [hd] at hempty ⊢
    simp only at hempty ⊢
    refine ⟨⟨hk, by simp, by simp, by simp, by simp⟩, ?_⟩
    rw [hfirst [] hempty, List.append_nil]
    show eN 5 ++ [] = _
    rw [List.append_nil]; rfl
end Go.Proofs.YtnoggejkkjngjaaGreat
