/- Package state: what is told; which snapshots are right. Conditions: none but the kinds' bounds, and not too many rows. -/
import Derived.Test.YtnoggejkkjngjaaGreatK13
import Derived.SlDev
set_option maxHeartbeats 8000000
set_option linter.unusedVariables false
set_option linter.unusedSimpArgs false
set_option maxRecDepth 100000
namespace Go.Proofs.YtnoggejkkjngjaaGreat
open Go Go.Sl
attribute [local irreducible] Go.Sl.Wl Go.Sl.Wc Go.Sl.thenQ Go.Sl.blkQ Go.Sl.loopQ Go.Sl.Fspec

def TdG (r : Nat) (f : FoX) (sa : Option Addr) (sc : Nat) (pre : List (ByteArray × VX)) (y : Option Addr × Nat) : List Asn :=
  [cb r [.int .i64 f.e, .int .i64 f.i, .slice y.1 pre.length y.2, .slice sa f.L.length sc] 37, own y.1 pre.length y.2 5 (prC (pre.map kPr)) 57]
theorem Ent_foldTdG {r c n : Nat} {f : FoX} {sa : Option Addr} {sc : Nat} {a : Option Addr} {pre : List (ByteArray × VX)} {vs : List Value} {A A1 A2 L : List Asn}
    (h1 : Out (cb r [.int .i64 f.e, .int .i64 f.i, .slice a n c, .slice sa f.L.length sc] 37) A A1) (h2 : Out (own a n c 5 vs 57) A1 A2) (hn : n = pre.length) (hv : vs = prC (pre.map kPr)) (h : Ent (exN (TdG r f sa sc pre) :: A2) L) : Ent A L := by
  subst hn hv
  exact ((Ent.perm (h1.perm.trans (h2.perm.cons _))).trans (Ent.exN_shut (f := TdG r f sa sc pre) (a, c) A2)).trans h
section specs
variable {B : Base}
theorem told_spec (st k d : Nat) (f : FoX) (hf : f.ok 900000) (hL : f.L.length ≤ 1000) (l : List Value) (T : TypeId) :
    Fspec Tryz.prog B 52 #[.pointer (some ⟨st, 0, none⟩)] [cb st (.int .i64 f.e :: .int .i64 f.i :: .pointer (some ⟨k, 0, none⟩) :: .pointer (some ⟨d, 0, none⟩) :: l) T, MpA k f.t, DeP d 16 f.L]
      (fun v A' => ∃ pa pc sa sc, v = .agg #[.int .i64 f.e, .int .i64 f.i, .slice pa f.snap.ps.length pc, .slice sa f.snap.ss.length sc] ∧
        A' = [own pa f.snap.ps.length pc 5 (prC f.snap.ps) 57, own sa f.snap.ss.length sc 4 (ssC f.snap.ss) 111, cb st (.int .i64 f.e :: .int .i64 f.i :: .pointer (some ⟨k, 0, none⟩) :: .pointer (some ⟨d, 0, none⟩) :: l) T, MpA k f.t, DeP d 16 f.L]) := by
  have hsz := hf.size
  have hlen0 : f.t.inorder.length ≤ 900000 := by rw [Tree.inorder_len]; exact hsz
  refine spec_of (args := [_]) Tryz.func52 rfl rfl rfl ?_
  repeat' (first
    | (refine yu (k := 1) (α := Option Addr × Nat × Nat) (fun x => [(0, .pointer (some ⟨st, 0, none⟩)), (2, .pointer (some ⟨r2, 0, none⟩)), (3, .pointer (some ⟨x.2.2, 0, none⟩))]) (fun x => [cb r2 [.int .i64 0, .int .i64 0, .slice none 0 0, .slice none 0 0] 37, cb x.2.2 [.int .i64 f.e, .int .i64 f.i, .slice none 0 0, .slice x.1 f.L.length x.2.1] 37, own x.1 f.L.length x.2.1 4 (ssC f.L) 111, cb st (.int .i64 f.e :: .int .i64 f.i :: .pointer (some ⟨k, 0, none⟩) :: .pointer (some ⟨d, 0, none⟩) :: l) T, MpA k f.t, DeP d 16 f.L]) (fun x => True) ?_ (fun x G _ => ?_); rotate_left; simp only [ov]; rotate_left)
    | refine zh ?_
    | refine zK ?_
    | refine zS (h := ?_)
    | refine zU (h := ?_)
    | refine zi ?_
    | refine zR ?_
    | refine za ?_
    | refine zN ?_
    | refine zY ?_
    | refine zd ?_
    | refine zO ?_
    | refine zZ ?_
    | refine zQ rfl ?_
    | refine ze ?_
    | refine zX ?_
    | refine zP ?_
    | refine zT ?_
    | refine zL ?_
    | (refine zE (id := 0) ?_; intro K hK; ((first | (refine zy (k := ?_); intro r2) | sl_stop "s2")) <;> ((refine zF (hK _ _ ?_); clear hK K)))
    | ((refine yZ (id := 1) (M := ([cb st (.int .i64 f.e :: .int .i64 f.i :: .pointer (some ⟨k, 0, none⟩) :: .pointer (some ⟨d, 0, none⟩) :: l) T])) (Ls := [9, 13]) (t := (.step 0 (.step 1 (.step 2 (.step 3 (.step 4 (.step 5 (.step 6 (.step 7 (.alt (.step 8 (.step 9 (.step 10 (.step 11 .done)))) (.step 10 (.step 8 (.step 9 (.step 11 .done)))))))))))))) (bad := [8, 10]) (hok := (by decide +kernel)) (hp := (Pick.perm (by (repeat (first | exact Pick.nil | apply Pick.cons (by (repeat (first | exact Out.head | apply Out.tail)); (first | done | fail)))); (first | done | fail)))) (h := ?_); intro K hK; repeat' (first | refine z0 ?_ ?_ | (refine zH (i := 0) rfl ?_; ((first | refine zD (k := ?_) | sl_stop "s6")) <;> (refine zF ?_)) | (refine zH (i := 1) rfl ?_; ((first | refine zJ (k := ?_) | sl_stop "s7")) <;> (refine zF ?_)) | (refine zH (i := 2) rfl ?_; ((first | refine zB (k := ?_) | sl_stop "s8")) <;> (refine zF ?_)) | (refine zH (i := 3) rfl ?_; ((first | refine yD (k := ?_) | sl_stop "s9")) <;> (refine zF ?_)) | (refine zH (i := 4) rfl ?_; ((first | refine zD (k := ?_) | sl_stop "s10")) <;> (refine zF ?_)) | (refine zH (i := 5) rfl ?_; ((first | refine zJ (k := ?_) | sl_stop "s11")) <;> (refine zF ?_)) | (refine zH (i := 6) rfl ?_; ((first | refine zB (k := ?_) | sl_stop "s12")) <;> (refine zF ?_)) | (refine zH (i := 7) rfl ?_; ((first | refine z1 (k := ?_) | sl_stop "s13")) <;> (refine zF ?_)) | (refine zH (i := 8) rfl ?_; ((first | (refine zb (hs := all_spec d 16 f.L hf.ris hL) (k := ?_); rintro v A' ⟨sa, sc, rfl, rfl⟩; simp only [List.cons_append, List.nil_append]) | sl_stop "s14")) <;> (refine zF ?_)) | (refine zH (i := 9) rfl ?_; ((first | refine zt (k := ?_) | sl_stop "s15")) <;> (refine zF ?_)) | (refine zH (i := 10) rfl ?_; ((first | (refine zy (k := ?_); intro r3) | sl_stop "s3")) <;> (refine zF ?_)) | (refine zH (i := 11) rfl ?_; ((first | refine zl (ho' := rfl) (k := ?_) | sl_stop "o11")) <;> (refine zF ?_)) | (refine zq (hK _ _ ?_); clear hK K; try simp only [List.cons_append, List.nil_append]))))
    | (refine zE (id := 2) ?_; intro K hK; (first | refine zD (k := ?_) | sl_stop "s16"); (first | refine zJ (k := ?_) | sl_stop "s17"); (first | refine zB (k := ?_) | sl_stop "s18"); (first | refine zM (k := ?_) | sl_stop "s19"); ((first | (refine zb (hs := mall_spec (B := B) _ _ rfl) (k := ?_); rintro v A' ⟨ra, rfl, rfl⟩; simp only [List.cons_append, List.nil_append]) | sl_stop "s20")) <;> ((refine zF (hK _ _ ?_); clear hK K)))
    | (refine zc (ht := (fun ht => ?_)) (hf := (fun ht => ?_)) <;> (try simp at ht) <;> (try (exfalso; omega))))
  all_goals first | exact ⟨(sa, sc, r3), trivial, ⟨rfl, rfl, rfl, trivial⟩, (by (repeat (first | exact Ent.refl _ | exact Ent.nil | refine Ent.take (by (repeat (first | exact Out.head | apply Out.tail)); (first | done | fail)) ?_ | refine Ent.drop1 ?_)); (first | done | fail))⟩ | skip
  obtain ⟨sa, sc, r3⟩ := x
  simp only
  refine yy (vs := []) encP f.t.inorder [cb ra [.pointer (some ⟨k, 0, none⟩)] 80, MpA k f.t]
    (fun pre => [exN (TdG r3 f sa sc pre), cb r2 [.int .i64 0, .int .i64 0, .slice none 0 0, .slice none 0 0] 37, own sa f.L.length sc 4 (ssC f.L) 111, cb st (.int .i64 f.e :: .int .i64 f.i :: .pointer (some ⟨k, 0, none⟩) :: .pointer (some ⟨d, 0, none⟩) :: l) T, DeP d 16 f.L]) (fun _ _ => [pur False]) rfl ?_ (all_seq ra k f.t) (by decide) (fun _ => rfl) ?_ ?_ (fun c pre x rest hx => ?_)
  · refine Ent.trans (own_nil 5 57 _) (Ent_foldTdG (pre := []) (r := r3) (c := 0) (a := none) (f := f) (sa := sa) (sc := sc) (by (repeat (first | exact Out.head | apply Out.tail)); (first | done | fail)) (by (repeat (first | exact Out.head | apply Out.tail)); (first | done | fail)) rfl rfl ?_)
    simp only [List.cons_append, List.nil_append]
    (repeat (first | exact Ent.refl _ | exact Ent.nil | refine Ent.take (by (repeat (first | exact Out.head | apply Out.tail)); (first | done | fail)) ?_ | refine Ent.drop1 ?_))
  · rintro pre ⟨kk, n⟩ rest hx
    have hlt : pre.length ≤ 900000 := by rw [hx] at hlen0; simp at hlen0; omega
    unfold Round
    simp only [encP, List.zip_cons_cons, List.zip_nil_right, ups, List.cons_append, List.nil_append]
    repeat' (first
      | refine zh ?_
      | refine zK ?_
      | refine zS (h := ?_)
      | refine zU (h := ?_)
      | refine zi ?_
      | refine zR ?_
      | refine za ?_
      | refine zN ?_
      | refine zY ?_
      | refine zd ?_
      | refine zO ?_
      | refine zZ ?_
      | refine zQ rfl ?_
      | refine ze ?_
      | refine zX ?_
      | refine zP ?_
      | refine zT ?_
      | refine zL ?_
      | (refine zE (id := 3) ?_; intro K hK; (first | refine zI (k := ?_) | sl_stop "s4"); (refine zF (hK _ _ ?_); clear hK K))
      | (refine zE (id := 4) ?_; intro K hK; ((first | (refine zy (k := ?_); intro r5) | sl_stop "s5")) <;> ((first | refine zl (ho' := rfl) (k := ?_) | sl_stop "o1"); (refine zF (hK _ _ ?_); clear hK K)))
      | (refine zc (ht := (fun ht => ?_)) (hf := (fun ht => ?_)) <;> (try simp at ht) <;> (try (exfalso; omega))))
    refine ⟨rfl, ?_⟩
    refine yJ (y := exN (TdG r3 f sa sc pre)) (k := (yE (fun y => ?_)))
    simp only [TdG, List.cons_append, List.nil_append]
    repeat' (first
      | refine zh ?_
      | refine zK ?_
      | refine zS (h := ?_)
      | refine zU (h := ?_)
      | refine zi ?_
      | refine zR ?_
      | refine za ?_
      | refine zN ?_
      | refine zY ?_
      | refine zd ?_
      | refine zO ?_
      | refine zZ ?_
      | refine zQ rfl ?_
      | refine ze ?_
      | refine zX ?_
      | refine zP ?_
      | refine zT ?_
      | refine zL ?_
      | (refine zE (id := 5) ?_; intro K hK; (first | refine zB (k := ?_) | sl_stop "s23"); (first | refine zM (k := ?_) | sl_stop "s24"); (first | refine zD (k := ?_) | sl_stop "s25"); (first | refine zn (k := ?_) | sl_stop "s26"); (first | refine zt (k := ?_) | sl_stop "s27"); ((first | (refine yT (cs := PrX.c ⟨kk, n⟩) (k := ?_); intro r28) | sl_stop "s28")) <;> (((first | (refine yN (hvl := by rfl) (hvc := by rfl) (hbd := by omega) (k := ?_); intro nb nc) | sl_stop "s29")) <;> ((first | refine zB (k := ?_) | sl_stop "s30"); (first | refine zr (ho := rfl) (k := ?_) | sl_stop "o8"); (refine zF (hK _ _ ?_); clear hK K))))
      | (refine zc (ht := (fun ht => ?_)) (hf := (fun ht => ?_)) <;> (try simp at ht) <;> (try (exfalso; omega))))
    refine .inl ⟨rfl, Ent_foldTdG (r := r3) (f := f) (sa := sa) (sc := sc) (pre := pre ++ [(kk, n)]) (by (repeat (first | exact Out.head | apply Out.tail)); (first | done | fail)) (by (repeat (first | exact Out.head | apply Out.tail)); (first | done | fail)) (by simp) (by simp [prC, kPr]) ?_⟩
    (repeat (first | exact Ent.refl _ | exact Ent.nil | refine Ent.take (by (repeat (first | exact Out.head | apply Out.tail)); (first | done | fail)) ?_ | refine Ent.drop1 ?_))
  · refine zN (zK ?_)
    simp only [List.cons_append, List.nil_append]
    refine yJ (y := exN (TdG r3 f sa sc f.t.inorder)) (k := (yE (fun y => ?_)))
    simp only [TdG, List.cons_append, List.nil_append]
    repeat' (first
      | refine zh ?_
      | refine zK ?_
      | refine zS (h := ?_)
      | refine zU (h := ?_)
      | refine zi ?_
      | refine zR ?_
      | refine za ?_
      | refine zN ?_
      | refine zY ?_
      | refine zd ?_
      | refine zO ?_
      | refine zZ ?_
      | refine zQ rfl ?_
      | refine ze ?_
      | refine zX ?_
      | refine zP ?_
      | refine zT ?_
      | refine zL ?_
      | (refine zE (id := 6) ?_; intro K hK; (first | refine zn (k := ?_) | sl_stop "s31"); (first | refine zl (ho' := rfl) (k := ?_) | sl_stop "o1"); (refine zF (hK _ _ ?_); clear hK K))
      | (refine zc (ht := (fun ht => ?_)) (hf := (fun ht => ?_)) <;> (try simp at ht) <;> (try (exfalso; omega))))
    have hpl : f.t.inorder.length = f.snap.ps.length := by simp [FoX.snap, prs]
    refine ⟨Or.inr rfl, _, [own y.1 f.snap.ps.length y.2 5 (prC f.snap.ps) 57, own sa f.snap.ss.length sc 4 (ssC f.snap.ss) 111, cb st (.int .i64 f.e :: .int .i64 f.i :: .pointer (some ⟨k, 0, none⟩) :: .pointer (some ⟨d, 0, none⟩) :: l) T, MpA k f.t, DeP d 16 f.L], ?_, resG rfl (by (repeat (first | exact ResL.nil | apply ResL.tmp (by (repeat (first | exact Ev.here | exact Ev.const | exact Ev.arg rfl | apply Ev.there rfl | exact Ev.none rfl | exact Ev.func | exact Ev.var)); (first | done | fail)) | apply ResL.agg (by (repeat (first | exact Ev.here | exact Ev.const | exact Ev.arg rfl | apply Ev.there rfl | exact Ev.none rfl | exact Ev.func | exact Ev.var)); (first | done | fail)) (by (repeat (first | exact Rd.head | exact Rd.base (by assumption) | apply Rd.tail)); (first | done | fail)) (by (repeat (first | exact TakeR.nil | apply TakeR.take | apply TakeR.skip)); (first | done | fail)) | apply ResL.cell (by (repeat (first | exact Ev.here | exact Ev.const | exact Ev.arg rfl | apply Ev.there rfl | exact Ev.none rfl | exact Ev.func | exact Ev.var)); (first | done | fail)) (by (repeat (first | exact Rd.head | exact Rd.base (by assumption) | apply Rd.tail)); (first | done | fail)) rfl)); (first | done | fail)) rfl, y.1, y.2, sa, sc, by rw [← hpl]; rfl, rfl⟩
    rw [← hpl]
    show Ent _ [own y.1 f.t.inorder.length y.2 5 (prC (f.t.inorder.map kPr)) 57, own sa f.L.length sc 4 (ssC f.L) 111, cb st (.int .i64 f.e :: .int .i64 f.i :: .pointer (some ⟨k, 0, none⟩) :: .pointer (some ⟨d, 0, none⟩) :: l) T, MpA k f.t, DeP d 16 f.L]
    (repeat (first | exact Ent.refl _ | exact Ent.nil | refine Ent.take (by (repeat (first | exact Out.head | apply Out.tail)); (first | done | fail)) ?_ | refine Ent.drop1 ?_))
  · simp only [List.cons_append, List.nil_append]
    refine yJ (y := pur False) (k := (xX (fun h => h.elim)))
end specs
end Go.Proofs.YtnoggejkkjngjaaGreat
/- Package state: a record has its effect. Conditions: none but the kinds' bounds, and not too many rows. -/
set_option maxHeartbeats 8000000
set_option linter.unusedVariables false
set_option linter.unusedSimpArgs false
set_option maxRecDepth 100000
namespace Go.Proofs.YtnoggejkkjngjaaGreat
open Go Go.Sl
attribute [local irreducible] Go.Sl.Wl Go.Sl.Wc Go.Sl.thenQ Go.Sl.blkQ Go.Sl.loopQ Go.Sl.Fspec

section specs
variable {B : Base}
theorem gapply1_spec (X : Asn) (st n : Nat) (S : G15) (hS : S.inv n) (hn : n ≤ 90000) (r : RcG) (hr : r.ok) (pa : Option Addr) (pc : Nat) (sa : Option Addr) (sc : Nat)
    (h1 : RdS Tryz.prog B [X] 5 pa r.sn.ps.length pc (prC r.sn.ps)) (h2 : RdS Tryz.prog B [X] 4 sa r.sn.ss.length sc (ssC r.sn.ss)) :
    Fspec Tryz.prog B 15 #[.pointer (some ⟨st, 0, none⟩), .agg (r.c pa pc sa sc).toArray] [GtP st S, X] (fun v A' => v = .int .i64 (gchkV S r) ∧ A' = [GtP st (gapplyV S r), X]) := by
  have hck := gcheck1_spec (B := B) X st S hS.ok r hr pa pc sa sc h1 h2
  have htab := rightT_out hS.ok.tab
  have hfew := hS.ok.few
  have hi := G15.fold_i hS.ok
  have hbi := hS.ok.bi
  have hxo := hr.xo
  have hps := hr.ps
  have hss := hr.ss
  refine spec_of (args := [_, _]) Tryz.func15 rfl rfl rfl ?_
  unfold gapplyV
  by_cases h0 : gchkV S r ≠ 0
  · rw [if_pos h0]
    repeat' (first
      | refine zh ?_
      | refine zK ?_
      | refine zS (h := ?_)
      | refine zU (h := ?_)
      | refine zi ?_
      | refine zR ?_
      | refine za ?_
      | refine zN ?_
      | refine zY ?_
      | refine zd ?_
      | refine zO ?_
      | refine zZ ?_
      | refine zQ rfl ?_
      | refine ze ?_
      | refine zX ?_
      | refine zP ?_
      | refine zT ?_
      | refine zL ?_
      | (refine zE (id := 0) ?_; intro K hK; ((refine zw (l := r.c pa pc sa sc) (k := ?_); intro r3)) <;> (refine zI (k := ?_); (refine zF (hK _ _ ?_); clear hK K)))
      | (refine zE (id := 1) ?_; intro K hK; refine zD (k := ?_); ((refine yQ (cs := r.c pa pc sa sc) (hv := by simp [RcG.c]) (hc := rfl) (k := ?_))) <;> (((refine zb (hs := hck) (k := ?_); rintro v A' ⟨rfl, rfl⟩; simp only [List.cons_append, List.nil_append])) <;> (refine zI (k := ?_); (refine zF (hK _ _ ?_); clear hK K))))
      | (refine zE (id := 2) ?_; intro K hK; refine zD (k := ?_); refine yB (k' := ?_); (refine zF (hK _ _ ?_); clear hK K))
      | (refine zE (id := 3) ?_; intro K hK; refine zD (k := ?_); refine zI (k := ?_); (refine zF (hK _ _ ?_); clear hK K))
      | (refine zc (ht := (fun ht => ?_)) (hf := (fun ht => ?_)) <;> (try simp at ht) <;> (try (exfalso; omega))))
    exact ⟨Or.inr rfl, _, [GtP st S, X], (by (repeat (first | exact Ent.refl _ | exact Ent.nil | refine Ent.take (by (repeat (first | exact Out.head | apply Out.tail)); (first | done | fail)) ?_ | refine Ent.drop1 ?_))), res1 rfl rfl, rfl, rfl⟩
  rw [if_neg h0]
  have h0' : gchkV S r = 0 := by omega
  rw [h0'] at hck ⊢
  unfold gchkV at h0'
  obtain ⟨kind, x, ep, config, sn⟩ := r
  simp only at hxo hps hss h1 h2 h0' ⊢
  have hfo : ∀ (S : G15) (q : Gq) (A0 : List Asn), Ent (GtL st S q ++ A0) (GtP st S :: A0) := fun S q A0 => gt_fold (A0 := A0) q (Ent.refl _)
  by_cases k1 : kind = 1
  · subst k1
    rw [if_pos rfl] at h0' ⊢
    have hfold := hS.ok
    have hfo1 := G15.fold_ok hS.ok
    have hfw := gfold_write S x
    have hl1 : S.es.length + 1 = (S.es ++ [x]).length := by simp
    have hes : esC S.es ++ x.c = esC (S.es ++ [x]) := by simp [esC]
    repeat' (first
      | refine zh ?_
      | refine zK ?_
      | refine zS (h := ?_)
      | refine zU (h := ?_)
      | refine zi ?_
      | refine zR ?_
      | refine za ?_
      | refine zN ?_
      | refine zY ?_
      | refine zd ?_
      | refine zO ?_
      | refine zZ ?_
      | refine zQ rfl ?_
      | refine ze ?_
      | refine zX ?_
      | refine zP ?_
      | refine zT ?_
      | refine zL ?_
      | (refine zE (id := 0) ?_; intro K hK; ((refine zw (k := ?_); intro r3)) <;> (refine zI (k := ?_); (refine zF (hK _ _ ?_); clear hK K)))
      | (refine zE (id := 1) ?_; intro K hK; refine zD (k := ?_); refine zn (k := ?_); ((refine zb (hs := hck) (k := ?_); rintro v A' ⟨rfl, rfl⟩; simp only [List.cons_append, List.nil_append])) <;> (refine zI (k := ?_); (refine zF (hK _ _ ?_); clear hK K)))
      | (refine zE (id := 2) ?_; intro K hK; refine zD (k := ?_); refine yB (k' := ?_); (refine zF (hK _ _ ?_); clear hK K))
      | (refine zE (id := 4) ?_; intro K hK; refine zB (k := ?_); refine zM (k := ?_); (refine zF (hK _ _ ?_); clear hK K))
      | (refine zc (ht := (fun ht => ?_)) (hf := (fun ht => ?_)) <;> (try simp at ht) <;> (try (exfalso; omega))))
    refine yJ (y := GtP st S) (k := ?_)
    refine yE (fun q => ?_)
    obtain ⟨k, d, ta, tc, ea0, ec0, sa0, sc0, ea, ec⟩ := q
    simp only [GtL, GtR, RcG.c]
    simp only [List.cons_append, List.nil_append]
    repeat' (first
      | refine zh ?_
      | refine zK ?_
      | refine zS (h := ?_)
      | refine zU (h := ?_)
      | refine zi ?_
      | refine zR ?_
      | refine za ?_
      | refine zN ?_
      | refine zY ?_
      | refine zd ?_
      | refine zO ?_
      | refine zZ ?_
      | refine zQ rfl ?_
      | refine ze ?_
      | refine zX ?_
      | refine zP ?_
      | refine zT ?_
      | refine zL ?_
      | (refine zE (id := 5) ?_; intro K hK; refine z5 (k' := ?_); refine zI (k := ?_); (refine zF (hK _ _ ?_); clear hK K))
      | (refine z3 (id := 10) (h := ?_); intro K hK; refine zD (k := ?_); refine zD (k := ?_); refine zJ (k := ?_); refine zB (k := ?_); refine zM (k := ?_); refine zB (k := ?_); ((refine yQ (cs := x.c) (hv := by simp) (hc := rfl) (k := ?_))) <;> (((refine yT (cs := x.c) (k := ?_); intro r31)) <;> (((refine yN (hvl := by rfl) (hvc := by rfl) (hbd := by omega) (k := ?_); intro nb nc; rw [hl1, hes])) <;> (refine zJ (k := ?_); refine zB (k := ?_); refine zr (ho := rfl) (k := ?_); (refine zF (hK _ _ ?_); clear hK K)))))
      | (refine z3 (id := 11) (h := ?_); intro K hK; refine zD (k := ?_); refine zJ (k := ?_); refine zB (k := ?_); refine zB (k := ?_); ((refine yQ (cs := x.c) (hv := by simp) (hc := rfl) (k := ?_))) <;> (((refine zb (hs := put_spec st k d S.fold (hfo1.mono (by omega)) x hxo (GtR (gwriteV S x) ta tc ea0 ec0 sa0 sc0 nb nc) 86) (k := ?_); rintro v A' ⟨rfl, rfl⟩; simp only [List.cons_append, List.nil_append])) <;> ((refine zF (hK _ _ ?_); clear hK K))))
      | (refine zE (id := 17) ?_; intro K hK; refine zI (k := ?_); (refine zF (hK _ _ ?_); clear hK K))
      | (refine zc (ht := (fun ht => ?_)) (hf := (fun ht => ?_)) <;> (try simp at ht) <;> (try (exfalso; omega))))
    refine ⟨Or.inr rfl, _, [GtP st (gwriteV S x), X], Ent.trans ?_ (hfo (gwriteV S x) ⟨k, d, ta, tc, ea0, ec0, sa0, sc0, nb, nc⟩ [X]), res1 rfl rfl, rfl, rfl⟩
    simp only [GtL, hfw]; simp only [List.cons_append, List.nil_append]
    exact (by (repeat (first | exact Ent.refl _ | exact Ent.nil | refine Ent.take (by (repeat (first | exact Out.head | apply Out.tail)); (first | done | fail)) ?_ | refine Ent.drop1 ?_)))
  rw [if_neg k1] at h0' ⊢
  by_cases k2 : kind = 2
  · subst k2
    rw [if_pos rfl] at h0' ⊢
    have hT : rightT (S.table ++ [ep]) = true := by
      cases hb : rightT (S.table ++ [ep]) with
      | true => rfl
      | false => rw [hb] at h0'; simp at h0'
    repeat' (first
      | refine zh ?_
      | refine zK ?_
      | refine zS (h := ?_)
      | refine zU (h := ?_)
      | refine zi ?_
      | refine zR ?_
      | refine za ?_
      | refine zN ?_
      | refine zY ?_
      | refine zd ?_
      | refine zO ?_
      | refine zZ ?_
      | refine zQ rfl ?_
      | refine ze ?_
      | refine zX ?_
      | refine zP ?_
      | refine zT ?_
      | refine zL ?_
      | (refine zE (id := 0) ?_; intro K hK; ((refine zw (k := ?_); intro r3)) <;> (refine zI (k := ?_); (refine zF (hK _ _ ?_); clear hK K)))
      | (refine zE (id := 1) ?_; intro K hK; refine zD (k := ?_); refine zn (k := ?_); ((refine zb (hs := hck) (k := ?_); rintro v A' ⟨rfl, rfl⟩; simp only [List.cons_append, List.nil_append])) <;> (refine zI (k := ?_); (refine zF (hK _ _ ?_); clear hK K)))
      | (refine zE (id := 2) ?_; intro K hK; refine zD (k := ?_); refine yB (k' := ?_); (refine zF (hK _ _ ?_); clear hK K))
      | (refine zE (id := 4) ?_; intro K hK; refine zB (k := ?_); refine zM (k := ?_); (refine zF (hK _ _ ?_); clear hK K))
      | (refine zE (id := 5) ?_; intro K hK; refine z5 (k' := ?_); refine zI (k := ?_); (refine zF (hK _ _ ?_); clear hK K))
      | (refine zE (id := 6) ?_; intro K hK; refine z5 (k' := ?_); refine zI (k := ?_); (refine zF (hK _ _ ?_); clear hK K))
      | (refine zE (id := 12) ?_; intro K hK; refine zD (k := ?_); refine zB (k := ?_); ((refine yQ (cs := epC ep) (hv := by simp [RcG.c]) (hc := rfl) (k := ?_))) <;> (((refine zb (hs := gadopt_spec st S hS.ok ep hT) (k := ?_); rintro v A' ⟨rfl, rfl⟩; simp only [List.cons_append, List.nil_append])) <;> ((refine zF (hK _ _ ?_); clear hK K))))
      | (refine zE (id := 17) ?_; intro K hK; refine zI (k := ?_); (refine zF (hK _ _ ?_); clear hK K))
      | (refine zc (ht := (fun ht => ?_)) (hf := (fun ht => ?_)) <;> (try simp at ht) <;> (try (exfalso; omega))))
    exact ⟨Or.inr rfl, _, [GtP st (gadoptV S ep), X], (by (repeat (first | exact Ent.refl _ | exact Ent.nil | refine Ent.take (by (repeat (first | exact Out.head | apply Out.tail)); (first | done | fail)) ?_ | refine Ent.drop1 ?_))), res1 rfl rfl, rfl, rfl⟩
  rw [if_neg k2] at h0' ⊢
  by_cases k3 : kind = 3
  · subst k3
    rw [if_pos rfl] at h0' ⊢
    repeat' (first
      | refine zh ?_
      | refine zK ?_
      | refine zS (h := ?_)
      | refine zU (h := ?_)
      | refine zi ?_
      | refine zR ?_
      | refine za ?_
      | refine zN ?_
      | refine zY ?_
      | refine zd ?_
      | refine zO ?_
      | refine zZ ?_
      | refine zQ rfl ?_
      | refine ze ?_
      | refine zX ?_
      | refine zP ?_
      | refine zT ?_
      | refine zL ?_
      | (refine zE (id := 0) ?_; intro K hK; ((refine zw (k := ?_); intro r3)) <;> (refine zI (k := ?_); (refine zF (hK _ _ ?_); clear hK K)))
      | (refine zE (id := 1) ?_; intro K hK; refine zD (k := ?_); refine zn (k := ?_); ((refine zb (hs := hck) (k := ?_); rintro v A' ⟨rfl, rfl⟩; simp only [List.cons_append, List.nil_append])) <;> (refine zI (k := ?_); (refine zF (hK _ _ ?_); clear hK K)))
      | (refine zE (id := 2) ?_; intro K hK; refine zD (k := ?_); refine yB (k' := ?_); (refine zF (hK _ _ ?_); clear hK K))
      | (refine zE (id := 4) ?_; intro K hK; refine zB (k := ?_); refine zM (k := ?_); (refine zF (hK _ _ ?_); clear hK K))
      | (refine zE (id := 5) ?_; intro K hK; refine z5 (k' := ?_); refine zI (k := ?_); (refine zF (hK _ _ ?_); clear hK K))
      | (refine zE (id := 6) ?_; intro K hK; refine z5 (k' := ?_); refine zI (k := ?_); (refine zF (hK _ _ ?_); clear hK K))
      | (refine zE (id := 7) ?_; intro K hK; refine z5 (k' := ?_); refine zI (k := ?_); (refine zF (hK _ _ ?_); clear hK K))
      | (refine zc (ht := (fun ht => ?_)) (hf := (fun ht => ?_)) <;> (try simp at ht) <;> (try (exfalso; omega))))
    refine yJ (y := GtP st S) (k := ?_)
    refine yE (fun q => ?_)
    obtain ⟨k, d, ta, tc, ea0, ec0, sa0, sc0, ea, ec⟩ := q
    simp only [GtL, GtR, RcG.c]
    simp only [List.cons_append, List.nil_append]
    repeat' (first
      | refine zh ?_
      | refine zK ?_
      | refine zS (h := ?_)
      | refine zU (h := ?_)
      | refine zi ?_
      | refine zR ?_
      | refine za ?_
      | refine zN ?_
      | refine zY ?_
      | refine zd ?_
      | refine zO ?_
      | refine zZ ?_
      | refine zQ rfl ?_
      | refine ze ?_
      | refine zX ?_
      | refine zP ?_
      | refine zT ?_
      | refine zL ?_
      | (refine zE (id := 13) ?_; intro K hK; refine zD (k := ?_); refine zJ (k := ?_); refine zB (k := ?_); refine zr (ho := rfl) (k := ?_); (refine zF (hK _ _ ?_); clear hK K))
      | (refine zE (id := 17) ?_; intro K hK; refine zI (k := ?_); (refine zF (hK _ _ ?_); clear hK K))
      | (refine zc (ht := (fun ht => ?_)) (hf := (fun ht => ?_)) <;> (try simp at ht) <;> (try (exfalso; omega))))
    refine ⟨Or.inr rfl, _, [GtP st { S with closed := true }, X], Ent.trans ?_ (hfo { S with closed := true } ⟨k, d, ta, tc, ea0, ec0, sa0, sc0, ea, ec⟩ [X]), res1 rfl rfl, rfl, rfl⟩
    show Ent _ (GtL st { S with closed := true } ⟨k, d, ta, tc, ea0, ec0, sa0, sc0, ea, ec⟩ ++ [X])
    simp only [GtL, GtR]; simp only [List.cons_append, List.nil_append]
    show Ent _ [cb st (.int .i64 S.fold.e :: .int .i64 S.fold.i :: _) _, MpA k S.fold.t, DeP d 16 S.fold.L, _, _, _, _, X]
    exact (by (repeat (first | exact Ent.refl _ | exact Ent.nil | refine Ent.take (by (repeat (first | exact Out.head | apply Out.tail)); (first | done | fail)) ?_ | refine Ent.drop1 ?_)))
  rw [if_neg k3] at h0' ⊢
  by_cases k4 : kind = 4
  · subst k4
    rw [if_pos rfl] at h0' ⊢
    have hX : RightP S.table sn := by
      refine (right_iff _ _).1 ?_
      cases hb : rightX S.table sn with
      | true => rfl
      | false => rw [hb] at h0'; split at h0' <;> simp_all
    have hok : (G15.mk S.table sn [] S.closed).ok := hS.ok.base (.inr hX) (by omega) _
    have hcp := copied_spec (B := B) [X] sn (by omega) (by omega) pa pc sa sc h1 h2
    repeat' (first
      | refine zh ?_
      | refine zK ?_
      | refine zS (h := ?_)
      | refine zU (h := ?_)
      | refine zi ?_
      | refine zR ?_
      | refine za ?_
      | refine zN ?_
      | refine zY ?_
      | refine zd ?_
      | refine zO ?_
      | refine zZ ?_
      | refine zQ rfl ?_
      | refine ze ?_
      | refine zX ?_
      | refine zP ?_
      | refine zT ?_
      | refine zL ?_
      | (refine zE (id := 0) ?_; intro K hK; ((refine zw (k := ?_); intro r3)) <;> (refine zI (k := ?_); (refine zF (hK _ _ ?_); clear hK K)))
      | (refine zE (id := 1) ?_; intro K hK; refine zD (k := ?_); refine zn (k := ?_); ((refine zb (hs := hck) (k := ?_); rintro v A' ⟨rfl, rfl⟩; simp only [List.cons_append, List.nil_append])) <;> (refine zI (k := ?_); (refine zF (hK _ _ ?_); clear hK K)))
      | (refine zE (id := 2) ?_; intro K hK; refine zD (k := ?_); refine yB (k' := ?_); (refine zF (hK _ _ ?_); clear hK K))
      | (refine zE (id := 4) ?_; intro K hK; refine zB (k := ?_); refine zM (k := ?_); (refine zF (hK _ _ ?_); clear hK K))
      | (refine zE (id := 5) ?_; intro K hK; refine z5 (k' := ?_); refine zI (k := ?_); (refine zF (hK _ _ ?_); clear hK K))
      | (refine zE (id := 6) ?_; intro K hK; refine z5 (k' := ?_); refine zI (k := ?_); (refine zF (hK _ _ ?_); clear hK K))
      | (refine zE (id := 7) ?_; intro K hK; refine z5 (k' := ?_); refine zI (k := ?_); (refine zF (hK _ _ ?_); clear hK K))
      | (refine zE (id := 8) ?_; intro K hK; refine z5 (k' := ?_); refine zI (k := ?_); (refine zF (hK _ _ ?_); clear hK K))
      | (refine zE (id := 9) ?_; intro K hK; refine z5 (k' := ?_); refine zI (k := ?_); (refine zF (hK _ _ ?_); clear hK K))
      | (refine zc (ht := (fun ht => ?_)) (hf := (fun ht => ?_)) <;> (try simp at ht) <;> (try (exfalso; omega))))
    refine yJ (y := GtP st S) (k := ?_)
    refine yE (fun q => ?_)
    obtain ⟨k, d, ta, tc, ea0, ec0, sa0, sc0, ea, ec⟩ := q
    simp only [GtL, GtR, RcG.c]
    simp only [List.cons_append, List.nil_append]
    repeat' (first
      | refine zh ?_
      | refine zK ?_
      | refine zS (h := ?_)
      | refine zU (h := ?_)
      | refine zi ?_
      | refine zR ?_
      | refine za ?_
      | refine zN ?_
      | refine zY ?_
      | refine zd ?_
      | refine zO ?_
      | refine zZ ?_
      | refine zQ rfl ?_
      | refine ze ?_
      | refine zX ?_
      | refine zP ?_
      | refine zT ?_
      | refine zL ?_
      | (refine zE (id := 15) ?_; intro K hK; refine zD (k := ?_); refine zD (k := ?_); refine zB (k := ?_); refine zn (k := ?_); ((refine zb (hs := hcp) (k := ?_); rintro v A' ⟨a1, c1, a2, c2, rfl, rfl⟩; simp only [List.cons_append, List.nil_append])) <;> (refine zJ (k := ?_); refine zB (k := ?_); refine zl (ho' := rfl) (k := ?_); refine zJ (k := ?_); refine zB (k := ?_); refine zr (ho := rfl) (k := ?_); (refine zF (hK _ _ ?_); clear hK K)))
      | (refine zE (id := 16) ?_; intro K hK; refine zD (k := ?_); ((refine yF (own_nil 7 43 _) ?_; refine zb (hs := gagain_spec (B := B) st ⟨S.table, sn, [], S.closed⟩ hok S.fold.e S.fold.i (.pointer (some ⟨k, 0, none⟩)) (.pointer (some ⟨d, 0, none⟩)) ⟨k, d, ta, tc, a1, c1, a2, c2, none, 0⟩) (k := ?_); rintro v A' ⟨rfl, rfl⟩; simp only [List.cons_append, List.nil_append])) <;> ((refine zF (hK _ _ ?_); clear hK K)))
      | (refine zE (id := 17) ?_; intro K hK; refine zI (k := ?_); (refine zF (hK _ _ ?_); clear hK K))
      | (refine zc (ht := (fun ht => ?_)) (hf := (fun ht => ?_)) <;> (try simp at ht) <;> (try (exfalso; omega))))
    exact ⟨Or.inr rfl, _, [GtP st ⟨S.table, sn, [], S.closed⟩, X], (by (repeat (first | exact Ent.refl _ | exact Ent.nil | refine Ent.take (by (repeat (first | exact Out.head | apply Out.tail)); (first | done | fail)) ?_ | refine Ent.drop1 ?_))), res1 rfl rfl, rfl, rfl⟩
  rw [if_neg k4] at h0' ⊢
  have k5 : kind = 5 := Classical.byContradiction fun h => by rw [if_neg h] at h0'; omega
  subst k5
  have hfp := hS.fop
  have hsl := G15.snap_len S
  have hwt := hS.wt
  have hok : (G15.mk S.table S.fold.snap [] S.closed).ok := hS.ok.base hfp (by omega) _
  have hfe := fop_few hfp
  have hfo1 := (G15.fold_ok hS.ok).mono (show 100600 ≤ 900000 by omega)
  repeat' (first
    | refine zh ?_
    | refine zK ?_
    | refine zS (h := ?_)
    | refine zU (h := ?_)
    | refine zi ?_
    | refine zR ?_
    | refine za ?_
    | refine zN ?_
    | refine zY ?_
    | refine zd ?_
    | refine zO ?_
    | refine zZ ?_
    | refine zQ rfl ?_
    | refine ze ?_
    | refine zX ?_
    | refine zP ?_
    | refine zT ?_
    | refine zL ?_
    | (refine zE (id := 0) ?_; intro K hK; ((refine zw (k := ?_); intro r3)) <;> (refine zI (k := ?_); (refine zF (hK _ _ ?_); clear hK K)))
    | (refine zE (id := 1) ?_; intro K hK; refine zD (k := ?_); refine zn (k := ?_); ((refine zb (hs := hck) (k := ?_); rintro v A' ⟨rfl, rfl⟩; simp only [List.cons_append, List.nil_append])) <;> (refine zI (k := ?_); (refine zF (hK _ _ ?_); clear hK K)))
    | (refine zE (id := 2) ?_; intro K hK; refine zD (k := ?_); refine yB (k' := ?_); (refine zF (hK _ _ ?_); clear hK K))
    | (refine zE (id := 4) ?_; intro K hK; refine zB (k := ?_); refine zM (k := ?_); (refine zF (hK _ _ ?_); clear hK K))
    | (refine zE (id := 5) ?_; intro K hK; refine z5 (k' := ?_); refine zI (k := ?_); (refine zF (hK _ _ ?_); clear hK K))
    | (refine zE (id := 6) ?_; intro K hK; refine z5 (k' := ?_); refine zI (k := ?_); (refine zF (hK _ _ ?_); clear hK K))
    | (refine zE (id := 7) ?_; intro K hK; refine z5 (k' := ?_); refine zI (k := ?_); (refine zF (hK _ _ ?_); clear hK K))
    | (refine zE (id := 8) ?_; intro K hK; refine z5 (k' := ?_); refine zI (k := ?_); (refine zF (hK _ _ ?_); clear hK K))
    | (refine zc (ht := (fun ht => ?_)) (hf := (fun ht => ?_)) <;> (try simp at ht) <;> (try (exfalso; omega))))
  refine yJ (y := GtP st S) (k := ?_)
  refine yE (fun q => ?_)
  obtain ⟨k, d, ta, tc, ea0, ec0, sa0, sc0, ea, ec⟩ := q
  simp only [GtL, RcG.c]
  simp only [List.cons_append, List.nil_append]
  have htd := told_spec (B := B) st k d S.fold hfo1 (by omega) (GtR S ta tc ea0 ec0 sa0 sc0 ea ec) 86
  repeat' (first
    | refine zh ?_
    | refine zK ?_
    | refine zS (h := ?_)
    | refine zU (h := ?_)
    | refine zi ?_
    | refine zR ?_
    | refine za ?_
    | refine zN ?_
    | refine zY ?_
    | refine zd ?_
    | refine zO ?_
    | refine zZ ?_
    | refine zQ rfl ?_
    | refine ze ?_
    | refine zX ?_
    | refine zP ?_
    | refine zT ?_
    | refine zL ?_
    | (refine zE (id := 14) ?_; intro K hK; refine zD (k := ?_); refine zJ (k := ?_); refine zB (k := ?_); ((refine zb (hs := htd) (k := ?_); rintro v A' ⟨pa', pc', sa', sc', rfl, rfl⟩; simp only [List.cons_append, List.nil_append])) <;> (refine zB (k := ?_); refine zl (ho' := rfl) (k := ?_); (refine zF (hK _ _ ?_); clear hK K)))
    | (refine zc (ht := (fun ht => ?_)) (hf := (fun ht => ?_)) <;> (try simp at ht) <;> (try (exfalso; omega))))
  refine yP (a := pa') (sz := 5) (ho := (by (repeat (first | exact Out.head | apply Out.tail)); (first | done | fail))) (h0 := by omega) (h := fun hpf => ?_)
  refine yP (a := sa') (sz := 4) (ho := (by (repeat (first | exact Out.head | apply Out.tail)); (first | done | fail))) (h0 := by omega) (h := fun hsf => ?_)
  have hcp := copied_spec (B := B) [own pa' S.fold.snap.ps.length pc' 5 (prC S.fold.snap.ps) 57, own sa' S.fold.snap.ss.length sc' 4 (ssC S.fold.snap.ss) 111] S.fold.snap (by omega) (by show S.fold.L.length ≤ 900000; omega) pa' pc' sa' sc' (hpf.rd .head) (hsf.rd (.tail .head))
  simp only [GtR]
  repeat' (first
    | refine zh ?_
    | refine zK ?_
    | refine zS (h := ?_)
    | refine zU (h := ?_)
    | refine zi ?_
    | refine zR ?_
    | refine za ?_
    | refine zN ?_
    | refine zY ?_
    | refine zd ?_
    | refine zO ?_
    | refine zZ ?_
    | refine zQ rfl ?_
    | refine ze ?_
    | refine zX ?_
    | refine zP ?_
    | refine zT ?_
    | refine zL ?_
    | (refine zE (id := 15) ?_; intro K hK; refine zD (k := ?_); refine zD (k := ?_); refine zB (k := ?_); refine zn (k := ?_); ((refine zb (hs := hcp) (k := ?_); rintro v A' ⟨a1, c1, a2, c2, rfl, rfl⟩; simp only [List.cons_append, List.nil_append])) <;> (refine zJ (k := ?_); refine zB (k := ?_); refine zl (ho' := rfl) (k := ?_); refine zJ (k := ?_); refine zB (k := ?_); refine zr (ho := rfl) (k := ?_); (refine zF (hK _ _ ?_); clear hK K)))
    | (refine zE (id := 16) ?_; intro K hK; refine zD (k := ?_); ((refine yF (own_nil 7 43 _) ?_; refine zb (hs := gagain_spec (B := B) st ⟨S.table, S.fold.snap, [], S.closed⟩ hok S.fold.e S.fold.i (.pointer (some ⟨k, 0, none⟩)) (.pointer (some ⟨d, 0, none⟩)) ⟨k, d, ta, tc, a1, c1, a2, c2, none, 0⟩) (k := ?_); rintro v A' ⟨rfl, rfl⟩; simp only [List.cons_append, List.nil_append])) <;> ((refine zF (hK _ _ ?_); clear hK K)))
    | (refine zE (id := 17) ?_; intro K hK; refine zI (k := ?_); (refine zF (hK _ _ ?_); clear hK K))
    | (refine zc (ht := (fun ht => ?_)) (hf := (fun ht => ?_)) <;> (try simp at ht) <;> (try (exfalso; omega))))
  exact ⟨Or.inr rfl, _, [GtP st ⟨S.table, S.fold.snap, [], S.closed⟩, X], (by (repeat (first | exact Ent.refl _ | exact Ent.nil | refine Ent.take (by (repeat (first | exact Out.head | apply Out.tail)); (first | done | fail)) ?_ | refine Ent.drop1 ?_))), res1 rfl rfl, rfl, rfl⟩
end specs
end Go.Proofs.YtnoggejkkjngjaaGreat
/- Package state: what a state tells. Conditions: none but the kinds' bounds, and not too many rows. -/
set_option maxHeartbeats 8000000
set_option linter.unusedVariables false
set_option linter.unusedSimpArgs false
set_option maxRecDepth 100000
namespace Go.Proofs.YtnoggejkkjngjaaGreat
open Go Go.Sl
attribute [local irreducible] Go.Sl.Wl Go.Sl.Wc Go.Sl.thenQ Go.Sl.blkQ Go.Sl.loopQ Go.Sl.Fspec

theorem Pick_all : ∀ A : List Asn, Pick A A []
  | [] => .nil
  | a :: A => .cons .head (Pick_all A)
/-- The entries that are told. -/
def G15.some (S : G15) (fr most : Int) : List EnX := if fr ≤ S.base.i ∨ S.fold.i < fr ∨ most < 1 then [] else (S.es.drop (fr - S.base.i - 1).toNat).take most.toNat
theorem esC_cut (l : List EnX) (k m n : Nat) (hn : l.length - k ≤ n) : (((esC l).drop (k * 7)).take (n * 7)).take (m * 7) = esC ((l.drop k).take m) := by
  have e : (esC l).drop (k * 7) = esC (l.drop k) := by
    by_cases h : k ≤ l.length
    · have e1 : esC l = esC (l.take k) ++ esC (l.drop k) := by rw [← esC_app, List.take_append_drop]
      have hl : (esC (l.take k)).length = k * 7 := by rw [esC_len]; simp; omega
      rw [e1, ← hl, List.drop_left]
    · rw [List.drop_eq_nil_of_le (by rw [esC_len]; omega), List.drop_eq_nil_of_le (show l.length ≤ k by omega)]; rfl
  rw [e, List.take_of_length_le (i := n * 7) (by rw [esC_len]; simp; omega), esC_take]
def newG (t : List Ep) : G15 := ⟨t, SnX.zero, [], false⟩
theorem new_inv {t : List Ep} (hT : rightT t = true) {n : Nat} : (newG t).inv n := ⟨wiped_ok hT, by simp [newG, SnX.zero], by simp [newG, SnX.zero], .inl rfl, by simp [newG]⟩
section specs
variable {B : Base}
theorem gapply_spec (A0 : List Asn) (st n : Nat) (S : G15) (hS : S.inv n) (hn : n ≤ 90000) (r : RcG) (hr : r.ok) (pa : Option Addr) (pc : Nat) (sa : Option Addr) (sc : Nat)
    (h1 : RdS Tryz.prog B A0 5 pa r.sn.ps.length pc (prC r.sn.ps)) (h2 : RdS Tryz.prog B A0 4 sa r.sn.ss.length sc (ssC r.sn.ss)) :
    Fspec Tryz.prog B 15 #[.pointer (some ⟨st, 0, none⟩), .agg (r.c pa pc sa sc).toArray] (GtP st S :: A0) (fun v A' => v = .int .i64 (gchkV S r) ∧ A' = GtP st (gapplyV S r) :: A0) := by
  have he : Ent [lst A0] A0 := by simpa using Ent.lst_open A0 []
  have hs : Ent A0 [lst A0] := by simpa using Ent.lst_shut A0 []
  refine ((gapply1_spec (lst A0) st n S hS hn r hr pa pc sa sc (RdS.ofEnt h1 he) (RdS.ofEnt h2 he)).ent (Ent.cons _ hs)).conv ?_
  rintro v A' ⟨rfl, rfl⟩
  exact ⟨_, Ent.cons _ he, rfl, rfl⟩
theorem rds_cb {A : List Asn} {b m sz : Nat} {l : List Value} {E : TypeId} (h : Rd B b l E (0, 0) A) (hl : l.length = m * sz) : RdS Tryz.prog B A sz (some ⟨b, 0, none⟩) m m l :=
  ⟨hl, by simp, Nat.le_refl _, src_sl h (by omega) (by rw [List.drop_zero]; exact List.take_of_length_le (by omega))⟩
theorem gnew_spec (A0 : List Asn) (t : List Ep) (a : Option Addr) (c : Nat) (h : RdS Tryz.prog B A0 3 a t.length c (epsC t)) (hT : rightT t = true) :
    Fspec Tryz.prog B 7 #[.slice a t.length c] A0 (fun v A' => ∃ st, v = .tuple #[.pointer (some ⟨st, 0, none⟩), .int .i64 0] ∧ A' = GtP st (newG t) :: A0) := by
  have h64 := (rightT_out hT).2.1
  have hr := right_spec (B := B) A0 t a c h (by omega)
  rw [hT] at hr
  refine spec_of (args := [_]) Tryz.func7 rfl rfl rfl ?_
  repeat' (first
    | refine zh ?_
    | refine zK ?_
    | refine zS (h := ?_)
    | refine zU (h := ?_)
    | refine zi ?_
    | refine zR ?_
    | refine za ?_
    | refine zN ?_
    | refine zY ?_
    | refine zd ?_
    | refine zO ?_
    | refine zZ ?_
    | refine zQ rfl ?_
    | refine ze ?_
    | refine zX ?_
    | refine zP ?_
    | refine zT ?_
    | refine zL ?_
    | (refine zE (id := 0) ?_; intro K hK; refine zI (k := ?_); refine zI (k := ?_); (refine zF (hK _ _ ?_); clear hK K))
    | (refine zE (id := 1) ?_; intro K hK; refine zD (k := ?_); ((refine zb (hs := hr) (hp := Pick_all _) (k := ?_); rintro v A' ⟨rfl, hA⟩; subst A'; simp only [List.append_nil])) <;> (refine z6 (k' := ?_); (refine zF (hK _ _ ?_); clear hK K)))
    | (refine zE (id := 2) ?_; intro K hK; refine zI (k := ?_); refine zI (k := ?_); (refine zF (hK _ _ ?_); clear hK K))
    | (refine zE (id := 3) ?_; intro K hK; ((refine zb (hs := blank_spec) (hp := .nil) (k := ?_); rintro v A' ⟨k, d, rfl, rfl⟩; simp only [List.cons_append, List.nil_append])) <;> (((refine yR (k := ?_); intro r8)) <;> (refine zD (k := ?_); ((refine yL (hsrc := RdS.under (RdS.under (RdS.under h))) (hvc := epsC_all _) (hbd := by omega) (k := ?_); intro nb nc)) <;> (refine zt (k := ?_); ((refine zw (k := ?_); intro rs)) <;> (refine zI (k := ?_); refine zI (k := ?_); (refine zF (hK _ _ ?_); clear hK K))))))
    | (refine zc (ht := (fun ht => ?_)) (hf := (fun ht => ?_)) <;> (try simp at ht) <;> (try (exfalso; omega))))
  refine ⟨Or.inr rfl, _, GtP rs (newG t) :: A0, ((own_nil 7 43 _).trans ((own_nil 4 111 _).trans (own_nil 5 57 _))).trans (gt_fold (A0 := A0) ⟨k, d, nb, nc, none, 0, none, 0, none, 0⟩ ?_), res2 rfl rfl rfl, rs, rfl, rfl⟩
  simp only [GtL, GtR, newG, G15.fold, List.foldl_nil, esC, prC, ssC, List.flatMap_nil, List.length_nil, Nat.zero_add, List.nil_append]
  simp only [List.cons_append, List.nil_append]
  show Ent _ (cb rs [.int .i64 0, .int .i64 0, .pointer (some ⟨k, 0, none⟩), .pointer (some ⟨d, 0, none⟩), .slice nb t.length nc, .int .i64 0, .int .i64 0, .slice none 0 0, .slice none 0 0, .slice none 0 0, .bool false] 86 :: MpA k .nil :: DeP d 16 [] :: own nb t.length nc 3 (epsC t) 45 :: own none 0 0 5 [] 57 :: own none 0 0 4 [] 111 :: own none 0 0 7 [] 43 :: A0)
  (repeat (first | exact Ent.refl _ | exact Ent.nil | refine Ent.take (by (repeat (first | exact Out.head | apply Out.tail)); (first | done | fail)) ?_ | refine Ent.drop1 ?_))
theorem glast_spec (st : Nat) (S : G15) : Fspec Tryz.prog B 30 #[.pointer (some ⟨st, 0, none⟩)] [GtP st S] (fun v A' => v = .agg #[.int .i64 S.fold.e, .int .i64 S.fold.i] ∧ A' = [GtP st S]) := by
  refine spec_of (args := [_]) Tryz.func30 rfl rfl rfl ?_
  refine yE (fun q => ?_)
  obtain ⟨k, d, ta, tc, pa0, pc0, sa0, sc0, ea, ec⟩ := q
  have hfo : ∀ A0 : List Asn, Ent (GtL st S ⟨k, d, ta, tc, pa0, pc0, sa0, sc0, ea, ec⟩ ++ A0) (GtP st S :: A0) := fun A0 => gt_fold (A0 := A0) ⟨k, d, ta, tc, pa0, pc0, sa0, sc0, ea, ec⟩ (Ent.refl _)
  simp only [GtL, GtR] at hfo ⊢
  simp only [List.cons_append, List.nil_append] at hfo ⊢
  repeat' (first
    | refine zh ?_
    | refine zK ?_
    | refine zS (h := ?_)
    | refine zU (h := ?_)
    | refine zi ?_
    | refine zR ?_
    | refine za ?_
    | refine zN ?_
    | refine zY ?_
    | refine zd ?_
    | refine zO ?_
    | refine zZ ?_
    | refine zQ rfl ?_
    | refine ze ?_
    | refine zX ?_
    | refine zP ?_
    | refine zT ?_
    | refine zL ?_
    | (refine zE (id := 0) ?_; intro K hK; ((refine zy (k := ?_); intro r2)) <;> ((refine zF (hK _ _ ?_); clear hK K)))
    | (refine zE (id := 1) ?_; intro K hK; refine zD (k := ?_); refine zf (k' := ?_); (refine zF (hK _ _ ?_); clear hK K))
    | (refine zE (id := 2) ?_; intro K hK; refine zt (k := ?_); refine zl (ho' := rfl) (k := ?_); (refine zF (hK _ _ ?_); clear hK K))
    | (refine zE (id := 3) ?_; intro K hK; refine zD (k := ?_); refine zJ (k := ?_); refine zB (k := ?_); refine zB (k := ?_); refine zn (k := ?_); refine zl (ho' := rfl) (k := ?_); (refine zF (hK _ _ ?_); clear hK K))
    | (refine zc (ht := (fun ht => ?_)) (hf := (fun ht => ?_)) <;> (try simp at ht) <;> (try (exfalso; omega))))
  exact ⟨Or.inr rfl, _, [GtP st S], Ent.trans (by (repeat (first | exact Ent.refl _ | exact Ent.nil | refine Ent.take (by (repeat (first | exact Out.head | apply Out.tail)); (first | done | fail)) ?_ | refine Ent.drop1 ?_)); (first | done | fail)) (hfo []), resG rfl (by (repeat (first | exact ResL.nil | apply ResL.tmp (by (repeat (first | exact Ev.here | exact Ev.const | exact Ev.arg rfl | apply Ev.there rfl | exact Ev.none rfl | exact Ev.func | exact Ev.var)); (first | done | fail)) | apply ResL.agg (by (repeat (first | exact Ev.here | exact Ev.const | exact Ev.arg rfl | apply Ev.there rfl | exact Ev.none rfl | exact Ev.func | exact Ev.var)); (first | done | fail)) (by (repeat (first | exact Rd.head | exact Rd.base (by assumption) | apply Rd.tail)); (first | done | fail)) (by (repeat (first | exact TakeR.nil | apply TakeR.take | apply TakeR.skip)); (first | done | fail)) | apply ResL.cell (by (repeat (first | exact Ev.here | exact Ev.const | exact Ev.arg rfl | apply Ev.there rfl | exact Ev.none rfl | exact Ev.func | exact Ev.var)); (first | done | fail)) (by (repeat (first | exact Rd.head | exact Rd.base (by assumption) | apply Rd.tail)); (first | done | fail)) rfl)); (first | done | fail)) rfl, rfl, rfl⟩
theorem gbase_spec (st : Nat) (S : G15) : Fspec Tryz.prog B 27 #[.pointer (some ⟨st, 0, none⟩)] [GtP st S] (fun v A' => v = .agg #[.int .i64 S.base.e, .int .i64 S.base.i] ∧ A' = [GtP st S]) := by
  refine spec_of (args := [_]) Tryz.func27 rfl rfl rfl ?_
  refine yE (fun q => ?_)
  obtain ⟨k, d, ta, tc, pa0, pc0, sa0, sc0, ea, ec⟩ := q
  have hfo : ∀ A0 : List Asn, Ent (GtL st S ⟨k, d, ta, tc, pa0, pc0, sa0, sc0, ea, ec⟩ ++ A0) (GtP st S :: A0) := fun A0 => gt_fold (A0 := A0) ⟨k, d, ta, tc, pa0, pc0, sa0, sc0, ea, ec⟩ (Ent.refl _)
  simp only [GtL, GtR] at hfo ⊢
  simp only [List.cons_append, List.nil_append] at hfo ⊢
  repeat' (first
    | refine zh ?_
    | refine zK ?_
    | refine zS (h := ?_)
    | refine zU (h := ?_)
    | refine zi ?_
    | refine zR ?_
    | refine za ?_
    | refine zN ?_
    | refine zY ?_
    | refine zd ?_
    | refine zO ?_
    | refine zZ ?_
    | refine zQ rfl ?_
    | refine ze ?_
    | refine zX ?_
    | refine zP ?_
    | refine zT ?_
    | refine zL ?_
    | (refine zE (id := 0) ?_; intro K hK; ((refine zy (k := ?_); intro r2)) <;> ((refine zF (hK _ _ ?_); clear hK K)))
    | (refine zE (id := 1) ?_; intro K hK; refine zD (k := ?_); refine zf (k' := ?_); (refine zF (hK _ _ ?_); clear hK K))
    | (refine zE (id := 2) ?_; intro K hK; refine zt (k := ?_); refine zl (ho' := rfl) (k := ?_); (refine zF (hK _ _ ?_); clear hK K))
    | (refine zE (id := 3) ?_; intro K hK; refine zD (k := ?_); refine zJ (k := ?_); refine zB (k := ?_); refine zB (k := ?_); refine zn (k := ?_); refine zl (ho' := rfl) (k := ?_); (refine zF (hK _ _ ?_); clear hK K))
    | (refine zc (ht := (fun ht => ?_)) (hf := (fun ht => ?_)) <;> (try simp at ht) <;> (try (exfalso; omega))))
  exact ⟨Or.inr rfl, _, [GtP st S], Ent.trans (by (repeat (first | exact Ent.refl _ | exact Ent.nil | refine Ent.take (by (repeat (first | exact Out.head | apply Out.tail)); (first | done | fail)) ?_ | refine Ent.drop1 ?_)); (first | done | fail)) (hfo []), resG rfl (by (repeat (first | exact ResL.nil | apply ResL.tmp (by (repeat (first | exact Ev.here | exact Ev.const | exact Ev.arg rfl | apply Ev.there rfl | exact Ev.none rfl | exact Ev.func | exact Ev.var)); (first | done | fail)) | apply ResL.agg (by (repeat (first | exact Ev.here | exact Ev.const | exact Ev.arg rfl | apply Ev.there rfl | exact Ev.none rfl | exact Ev.func | exact Ev.var)); (first | done | fail)) (by (repeat (first | exact Rd.head | exact Rd.base (by assumption) | apply Rd.tail)); (first | done | fail)) (by (repeat (first | exact TakeR.nil | apply TakeR.take | apply TakeR.skip)); (first | done | fail)) | apply ResL.cell (by (repeat (first | exact Ev.here | exact Ev.const | exact Ev.arg rfl | apply Ev.there rfl | exact Ev.none rfl | exact Ev.func | exact Ev.var)); (first | done | fail)) (by (repeat (first | exact Rd.head | exact Rd.base (by assumption) | apply Rd.tail)); (first | done | fail)) rfl)); (first | done | fail)) rfl, rfl, rfl⟩
theorem gconfig_spec (st : Nat) (S : G15) : Fspec Tryz.prog B 32 #[.pointer (some ⟨st, 0, none⟩)] [GtP st S] (fun v A' => v = .int .i64 S.table.length ∧ A' = [GtP st S]) := by
  refine spec_of (args := [_]) Tryz.func32 rfl rfl rfl ?_
  refine yE (fun q => ?_)
  obtain ⟨k, d, ta, tc, pa0, pc0, sa0, sc0, ea, ec⟩ := q
  have hfo : ∀ A0 : List Asn, Ent (GtL st S ⟨k, d, ta, tc, pa0, pc0, sa0, sc0, ea, ec⟩ ++ A0) (GtP st S :: A0) := fun A0 => gt_fold (A0 := A0) ⟨k, d, ta, tc, pa0, pc0, sa0, sc0, ea, ec⟩ (Ent.refl _)
  simp only [GtL, GtR] at hfo ⊢
  simp only [List.cons_append, List.nil_append] at hfo ⊢
  repeat' (first
    | refine zh ?_
    | refine zK ?_
    | refine zS (h := ?_)
    | refine zU (h := ?_)
    | refine zi ?_
    | refine zR ?_
    | refine za ?_
    | refine zN ?_
    | refine zY ?_
    | refine zd ?_
    | refine zO ?_
    | refine zZ ?_
    | refine zQ rfl ?_
    | refine ze ?_
    | refine zX ?_
    | refine zP ?_
    | refine zT ?_
    | refine zL ?_
    | (refine zE (id := 0) ?_; intro K hK; refine zI (k := ?_); (refine zF (hK _ _ ?_); clear hK K))
    | (refine zE (id := 1) ?_; intro K hK; refine zD (k := ?_); refine zf (k' := ?_); (refine zF (hK _ _ ?_); clear hK K))
    | (refine zE (id := 2) ?_; intro K hK; refine zI (k := ?_); (refine zF (hK _ _ ?_); clear hK K))
    | (refine zE (id := 3) ?_; intro K hK; refine zD (k := ?_); refine zJ (k := ?_); refine zB (k := ?_); refine zM (k := ?_); refine zk (k' := ?_); refine zI (k := ?_); (refine zF (hK _ _ ?_); clear hK K))
    | (refine zc (ht := (fun ht => ?_)) (hf := (fun ht => ?_)) <;> (try simp at ht) <;> (try (exfalso; omega))))
  exact ⟨Or.inr rfl, _, [GtP st S], Ent.trans (by (repeat (first | exact Ent.refl _ | exact Ent.nil | refine Ent.take (by (repeat (first | exact Out.head | apply Out.tail)); (first | done | fail)) ?_ | refine Ent.drop1 ?_)); (first | done | fail)) (hfo []), res1 rfl rfl, rfl, rfl⟩
theorem gclosed_spec (st : Nat) (S : G15) : Fspec Tryz.prog B 46 #[.pointer (some ⟨st, 0, none⟩)] [GtP st S] (fun v A' => v = .bool S.closed ∧ A' = [GtP st S]) := by
  refine spec_of (args := [_]) Tryz.func46 rfl rfl rfl ?_
  refine yE (fun q => ?_)
  obtain ⟨k, d, ta, tc, pa0, pc0, sa0, sc0, ea, ec⟩ := q
  have hfo : ∀ A0 : List Asn, Ent (GtL st S ⟨k, d, ta, tc, pa0, pc0, sa0, sc0, ea, ec⟩ ++ A0) (GtP st S :: A0) := fun A0 => gt_fold (A0 := A0) ⟨k, d, ta, tc, pa0, pc0, sa0, sc0, ea, ec⟩ (Ent.refl _)
  simp only [GtL, GtR] at hfo ⊢
  simp only [List.cons_append, List.nil_append] at hfo ⊢
  repeat' (first
    | refine zh ?_
    | refine zK ?_
    | refine zS (h := ?_)
    | refine zU (h := ?_)
    | refine zi ?_
    | refine zR ?_
    | refine za ?_
    | refine zN ?_
    | refine zY ?_
    | refine zd ?_
    | refine zO ?_
    | refine zZ ?_
    | refine zQ rfl ?_
    | refine ze ?_
    | refine zX ?_
    | refine zP ?_
    | refine zT ?_
    | refine zL ?_
    | (refine zE (id := 0) ?_; intro K hK; refine zI (k := ?_); (refine zF (hK _ _ ?_); clear hK K))
    | (refine zE (id := 1) ?_; intro K hK; refine zD (k := ?_); refine yC (k' := ?_); refine zD (k := ?_); ((first | (refine zA (k := ?_); refine zD (k := ?_)) | refine zC (k := ?_) | ((refine zG (yes := (fun ht => ?_)) (no := (fun ht => ?_)) <;> (try simp at ht) <;> (try (exfalso; omega))) <;> (first | (refine zA (k := ?_); refine zD (k := ?_)) | refine zC (k := ?_))))) <;> (((first | (refine zA (k := ?_); refine zJ (k := ?_)) | refine zC (k := ?_) | ((refine zG (yes := (fun ht => ?_)) (no := (fun ht => ?_)) <;> (try simp at ht) <;> (try (exfalso; omega))) <;> (first | (refine zA (k := ?_); refine zJ (k := ?_)) | refine zC (k := ?_))))) <;> (((first | (refine zA (k := ?_); refine zB (k := ?_)) | refine zC (k := ?_) | ((refine zG (yes := (fun ht => ?_)) (no := (fun ht => ?_)) <;> (try simp at ht) <;> (try (exfalso; omega))) <;> (first | (refine zA (k := ?_); refine zB (k := ?_)) | refine zC (k := ?_))))) <;> (((first | (refine zA (k := ?_); refine zM (k := ?_)) | refine zC (k := ?_) | ((refine zG (yes := (fun ht => ?_)) (no := (fun ht => ?_)) <;> (try simp at ht) <;> (try (exfalso; omega))) <;> (first | (refine zA (k := ?_); refine zM (k := ?_)) | refine zC (k := ?_))))) <;> ((first | refine zV (k := ?_) | refine zW (k := ?_) | refine zg (k := ?_)); refine zI (k := ?_); (refine zF (hK _ _ ?_); clear hK K))))))
    | (refine zc (ht := (fun ht => ?_)) (hf := (fun ht => ?_)) <;> (try simp at ht) <;> (try (exfalso; omega))))
  exact ⟨Or.inr rfl, _, [GtP st S], Ent.trans (by (repeat (first | exact Ent.refl _ | exact Ent.nil | refine Ent.take (by (repeat (first | exact Out.head | apply Out.tail)); (first | done | fail)) ?_ | refine Ent.drop1 ?_)); (first | done | fail)) (hfo []), res1 rfl rfl, rfl, rfl⟩
theorem gtable_spec (st : Nat) (S : G15) (h64 : S.table.length ≤ 64) : Fspec Tryz.prog B 45 #[.pointer (some ⟨st, 0, none⟩)] [GtP st S] (fun v A' => ∃ a c, v = .slice a S.table.length c ∧ A' = [own a S.table.length c 3 (epsC S.table) 45, GtP st S]) := by
  refine spec_of (args := [_]) Tryz.func45 rfl rfl rfl ?_
  refine yE (fun q => ?_)
  obtain ⟨k, d, ta, tc, pa0, pc0, sa0, sc0, ea, ec⟩ := q
  have hfo : ∀ A0 : List Asn, Ent (GtL st S ⟨k, d, ta, tc, pa0, pc0, sa0, sc0, ea, ec⟩ ++ A0) (GtP st S :: A0) := fun A0 => gt_fold (A0 := A0) ⟨k, d, ta, tc, pa0, pc0, sa0, sc0, ea, ec⟩ (Ent.refl _)
  simp only [GtL, GtR] at hfo ⊢
  simp only [List.cons_append, List.nil_append] at hfo ⊢
  refine yP (a := ta) (sz := 3) (ho := (by (repeat (first | exact Out.head | apply Out.tail)); (first | done | fail))) (h0 := by omega) (h := fun hft => ?_)
  repeat' (first
    | refine zh ?_
    | refine zK ?_
    | refine zS (h := ?_)
    | refine zU (h := ?_)
    | refine zi ?_
    | refine zR ?_
    | refine za ?_
    | refine zN ?_
    | refine zY ?_
    | refine zd ?_
    | refine zO ?_
    | refine zZ ?_
    | refine zQ rfl ?_
    | refine ze ?_
    | refine zX ?_
    | refine zP ?_
    | refine zT ?_
    | refine zL ?_
    | (refine zE (id := 0) ?_; intro K hK; refine zI (k := ?_); (refine zF (hK _ _ ?_); clear hK K))
    | (refine zE (id := 1) ?_; intro K hK; refine zD (k := ?_); refine zf (k' := ?_); (refine zF (hK _ _ ?_); clear hK K))
    | (refine zE (id := 2) ?_; intro K hK; refine zI (k := ?_); (refine zF (hK _ _ ?_); clear hK K))
    | (refine zE (id := 3) ?_; intro K hK; ((refine yR (k := ?_); intro r5)) <;> (refine zD (k := ?_); refine zJ (k := ?_); refine zB (k := ?_); refine zM (k := ?_); ((refine yL (hsrc := hft.rd (by (repeat (first | exact Out.head | apply Out.tail)); (first | done | fail))) (hvc := epsC_all _) (hbd := by omega) (k := ?_); intro nb nc)) <;> (refine zI (k := ?_); (refine zF (hK _ _ ?_); clear hK K))))
    | (refine zc (ht := (fun ht => ?_)) (hf := (fun ht => ?_)) <;> (try simp at ht) <;> (try (exfalso; omega))))
  refine ⟨Or.inr rfl, _, [own nb S.table.length nc 3 (epsC S.table) 45, GtP st S], ?_, res1 rfl rfl, nb, nc, congrArg (fun k => Value.slice nb k nc) (Nat.zero_add _), rfl⟩
  simp only [Nat.zero_add, List.nil_append]
  refine Ent.trans ?_ ((hfo [own nb S.table.length nc 3 (epsC S.table) 45]).trans (Ent.perm (List.Perm.swap ..)))
  (repeat (first | exact Ent.refl _ | exact Ent.nil | refine Ent.take (by (repeat (first | exact Out.head | apply Out.tail)); (first | done | fail)) ?_ | refine Ent.drop1 ?_))
theorem gmaster_spec (st : Nat) (S : G15) (h64 : S.table.length ≤ 64) (e : Ep) (he : S.table[S.table.length - 1]? = some e) : Fspec Tryz.prog B 33 #[.pointer (some ⟨st, 0, none⟩)] [GtP st S] (fun v A' => v = .int .i64 e.master ∧ A' = [GtP st S]) := by
  have hpos : 0 < S.table.length := by
    rcases Nat.eq_zero_or_pos S.table.length with h | h
    · rw [List.getElem?_eq_none (by omega)] at he; cases he
    · exact h
  have hn : ((S.table.length : Nat) : Int) - 1 = ((S.table.length - 1 : Nat) : Int) := by omega
  refine spec_of (args := [_]) Tryz.func33 rfl rfl rfl ?_
  refine yE (fun q => ?_)
  obtain ⟨k, d, ta, tc, pa0, pc0, sa0, sc0, ea, ec⟩ := q
  have hfo : ∀ A0 : List Asn, Ent (GtL st S ⟨k, d, ta, tc, pa0, pc0, sa0, sc0, ea, ec⟩ ++ A0) (GtP st S :: A0) := fun A0 => gt_fold (A0 := A0) ⟨k, d, ta, tc, pa0, pc0, sa0, sc0, ea, ec⟩ (Ent.refl _)
  simp only [GtL, GtR] at hfo ⊢
  simp only [List.cons_append, List.nil_append] at hfo ⊢
  refine yP (a := ta) (sz := 3) (ho := (by (repeat (first | exact Out.head | apply Out.tail)); (first | done | fail))) (h0 := by omega) (h := fun hft => ?_)
  obtain ⟨p, rfl⟩ := hft.some hpos
  repeat' (first
    | refine zh ?_
    | refine zK ?_
    | refine zS (h := ?_)
    | refine zU (h := ?_)
    | refine zi ?_
    | refine zR ?_
    | refine za ?_
    | refine zN ?_
    | refine zY ?_
    | refine zd ?_
    | refine zO ?_
    | refine zZ ?_
    | refine zQ rfl ?_
    | refine ze ?_
    | refine zX ?_
    | refine zP ?_
    | refine zT ?_
    | refine zL ?_
    | (refine zE (id := 0) ?_; intro K hK; refine zI (k := ?_); (refine zF (hK _ _ ?_); clear hK K))
    | (refine zE (id := 1) ?_; intro K hK; refine zD (k := ?_); refine zf (k' := ?_); (refine zF (hK _ _ ?_); clear hK K))
    | (refine zE (id := 2) ?_; intro K hK; refine zI (k := ?_); (refine zF (hK _ _ ?_); clear hK K))
    | (refine z3 (id := 3) (h := ?_); intro K hK; refine zD (k := ?_); refine zJ (k := ?_); refine zB (k := ?_); refine zM (k := ?_); refine zD (k := ?_); refine zJ (k := ?_); refine zB (k := ?_); refine zM (k := ?_); refine zk (k' := ?_); ((refine yI (k' := ?_); rw [hn])) <;> (((refine zo (k' := ?_))) <;> (((refine zu (k := ?_))) <;> (((refine z4 (v := .int .i64 e.master) (j := (S.table.length - 1) * 3) (hq := by simp [Addr.add]) (hr := hft.rd (by (repeat (first | exact Out.head | apply Out.tail)); (first | done | fail))) (hv := by simpa using epsC_cell (r := 0) he (by omega) rfl) (k := ?_))) <;> (refine zI (k := ?_); (refine zF (hK _ _ ?_); clear hK K))))))
    | (refine zc (ht := (fun ht => ?_)) (hf := (fun ht => ?_)) <;> (try simp at ht) <;> (try (exfalso; omega))))
  exact ⟨Or.inr rfl, _, [GtP st S], Ent.trans (by (repeat (first | exact Ent.refl _ | exact Ent.nil | refine Ent.take (by (repeat (first | exact Out.head | apply Out.tail)); (first | done | fail)) ?_ | refine Ent.drop1 ?_)); (first | done | fail)) (hfo []), res1 rfl rfl, rfl, rfl⟩
theorem gget_spec (st : Nat) (S : G15) (key : ByteArray) : Fspec Tryz.prog B 31 #[.pointer (some ⟨st, 0, none⟩), .string key] [GtP st S] (fun v A' => v = .agg (kX S.fold.t.inorder key).C.toArray ∧ A' = [GtP st S]) := by
  obtain ⟨b, hb⟩ := getV_kX (G15.fold_rk S) key
  refine spec_of (args := [_, _]) Tryz.func31 rfl rfl rfl ?_
  refine yE (fun q => ?_)
  obtain ⟨k, d, ta, tc, pa0, pc0, sa0, sc0, ea, ec⟩ := q
  have hfo : ∀ A0 : List Asn, Ent (GtL st S ⟨k, d, ta, tc, pa0, pc0, sa0, sc0, ea, ec⟩ ++ A0) (GtP st S :: A0) := fun A0 => gt_fold (A0 := A0) ⟨k, d, ta, tc, pa0, pc0, sa0, sc0, ea, ec⟩ (Ent.refl _)
  simp only [GtL, GtR] at hfo ⊢
  simp only [List.cons_append, List.nil_append] at hfo ⊢
  have hg := get_spec B k S.fold.t key
  rw [hb] at hg
  repeat' (first
    | refine zh ?_
    | refine zK ?_
    | refine zS (h := ?_)
    | refine zU (h := ?_)
    | refine zi ?_
    | refine zR ?_
    | refine za ?_
    | refine zN ?_
    | refine zY ?_
    | refine zd ?_
    | refine zO ?_
    | refine zZ ?_
    | refine zQ rfl ?_
    | refine ze ?_
    | refine zX ?_
    | refine zP ?_
    | refine zT ?_
    | refine zL ?_
    | (refine zE (id := 0) ?_; intro K hK; ((refine zy (k := ?_); intro r4)) <;> ((refine zF (hK _ _ ?_); clear hK K)))
    | (refine zE (id := 1) ?_; intro K hK; refine zD (k := ?_); refine zf (k' := ?_); (refine zF (hK _ _ ?_); clear hK K))
    | (refine zE (id := 2) ?_; intro K hK; refine zt (k := ?_); refine zl (ho' := rfl) (k := ?_); (refine zF (hK _ _ ?_); clear hK K))
    | (refine zE (id := 3) ?_; intro K hK; refine zD (k := ?_); refine zJ (k := ?_); refine zB (k := ?_); refine zB (k := ?_); refine zM (k := ?_); refine zD (k := ?_); ((refine zb (hs := hg) (k := ?_); rintro v A' ⟨rfl, rfl⟩; simp only [List.cons_append, List.nil_append]; simp only [VX.C])) <;> (refine zD (k := ?_); refine zx (k' := ?_); refine zx (k' := ?_); ((refine zy (k := ?_); intro r5)) <;> (refine zl (ho' := rfl) (k := ?_); refine zI (k := ?_); (refine zF (hK _ _ ?_); clear hK K))))
    | (refine zE (id := 4) ?_; intro K hK; refine zn (k := ?_); refine zl (ho' := rfl) (k := ?_); (refine zF (hK _ _ ?_); clear hK K))
    | (refine zc (ht := (fun ht => ?_)) (hf := (fun ht => ?_)) <;> (try simp at ht) <;> (try (exfalso; omega))))
  exact ⟨Or.inr rfl, _, [GtP st S], Ent.trans (by (repeat (first | exact Ent.refl _ | exact Ent.nil | refine Ent.take (by (repeat (first | exact Out.head | apply Out.tail)); (first | done | fail)) ?_ | refine Ent.drop1 ?_)); (first | done | fail)) (hfo []), resG rfl (by (repeat (first | exact ResL.nil | apply ResL.tmp (by (repeat (first | exact Ev.here | exact Ev.const | exact Ev.arg rfl | apply Ev.there rfl | exact Ev.none rfl | exact Ev.func | exact Ev.var)); (first | done | fail)) | apply ResL.agg (by (repeat (first | exact Ev.here | exact Ev.const | exact Ev.arg rfl | apply Ev.there rfl | exact Ev.none rfl | exact Ev.func | exact Ev.var)); (first | done | fail)) (by (repeat (first | exact Rd.head | exact Rd.base (by assumption) | apply Rd.tail)); (first | done | fail)) (by (repeat (first | exact TakeR.nil | apply TakeR.take | apply TakeR.skip)); (first | done | fail)) | apply ResL.cell (by (repeat (first | exact Ev.here | exact Ev.const | exact Ev.arg rfl | apply Ev.there rfl | exact Ev.none rfl | exact Ev.func | exact Ev.var)); (first | done | fail)) (by (repeat (first | exact Rd.head | exact Rd.base (by assumption) | apply Rd.tail)); (first | done | fail)) rfl)); (first | done | fail)) rfl, rfl, rfl⟩
theorem gsnapshot_spec (st : Nat) (S : G15) (n : Nat) (hS : S.inv n) : Fspec Tryz.prog B 29 #[.pointer (some ⟨st, 0, none⟩)] [GtP st S] (fun v A' => ∃ pa pc sa sc, v = .agg #[.int .i64 S.fold.e, .int .i64 S.fold.i, .slice pa S.fold.snap.ps.length pc, .slice sa S.fold.snap.ss.length sc] ∧ A' = [own pa S.fold.snap.ps.length pc 5 (prC S.fold.snap.ps) 57, own sa S.fold.snap.ss.length sc 4 (ssC S.fold.snap.ss) 111, GtP st S]) := by
  have hfl := (G15.fold_ok hS.ok).mono (show 100600 ≤ 900000 by omega)
  have hfe := fop_few hS.fop
  refine spec_of (args := [_]) Tryz.func29 rfl rfl rfl ?_
  refine yE (fun q => ?_)
  obtain ⟨k, d, ta, tc, pa0, pc0, sa0, sc0, ea, ec⟩ := q
  have hfo : ∀ A0 : List Asn, Ent (GtL st S ⟨k, d, ta, tc, pa0, pc0, sa0, sc0, ea, ec⟩ ++ A0) (GtP st S :: A0) := fun A0 => gt_fold (A0 := A0) ⟨k, d, ta, tc, pa0, pc0, sa0, sc0, ea, ec⟩ (Ent.refl _)
  simp only [GtL, GtR] at hfo ⊢
  simp only [List.cons_append, List.nil_append] at hfo ⊢
  repeat' (first
    | refine zh ?_
    | refine zK ?_
    | refine zS (h := ?_)
    | refine zU (h := ?_)
    | refine zi ?_
    | refine zR ?_
    | refine za ?_
    | refine zN ?_
    | refine zY ?_
    | refine zd ?_
    | refine zO ?_
    | refine zZ ?_
    | refine zQ rfl ?_
    | refine ze ?_
    | refine zX ?_
    | refine zP ?_
    | refine zT ?_
    | refine zL ?_
    | (refine zE (id := 0) ?_; intro K hK; ((refine zy (k := ?_); intro r2)) <;> ((refine zF (hK _ _ ?_); clear hK K)))
    | (refine zE (id := 1) ?_; intro K hK; refine zD (k := ?_); refine zf (k' := ?_); (refine zF (hK _ _ ?_); clear hK K))
    | (refine zE (id := 2) ?_; intro K hK; refine zt (k := ?_); refine zl (ho' := rfl) (k := ?_); (refine zF (hK _ _ ?_); clear hK K))
    | (refine zE (id := 3) ?_; intro K hK; refine zD (k := ?_); refine zJ (k := ?_); refine zB (k := ?_); ((refine zb (hs := told_spec (B := B) st k d S.fold hfl (by omega) _ _) (k := ?_); rintro v A' ⟨pa, pc, sa, sc, rfl, rfl⟩; simp only [List.cons_append, List.nil_append])) <;> (refine zl (ho' := rfl) (k := ?_); (refine zF (hK _ _ ?_); clear hK K)))
    | (refine zc (ht := (fun ht => ?_)) (hf := (fun ht => ?_)) <;> (try simp at ht) <;> (try (exfalso; omega))))
  refine ⟨Or.inr rfl, _, [own pa S.fold.snap.ps.length pc 5 (prC S.fold.snap.ps) 57, own sa S.fold.snap.ss.length sc 4 (ssC S.fold.snap.ss) 111, GtP st S], ?_, resG rfl (by (repeat (first | exact ResL.nil | apply ResL.tmp (by (repeat (first | exact Ev.here | exact Ev.const | exact Ev.arg rfl | apply Ev.there rfl | exact Ev.none rfl | exact Ev.func | exact Ev.var)); (first | done | fail)) | apply ResL.agg (by (repeat (first | exact Ev.here | exact Ev.const | exact Ev.arg rfl | apply Ev.there rfl | exact Ev.none rfl | exact Ev.func | exact Ev.var)); (first | done | fail)) (by (repeat (first | exact Rd.head | exact Rd.base (by assumption) | apply Rd.tail)); (first | done | fail)) (by (repeat (first | exact TakeR.nil | apply TakeR.take | apply TakeR.skip)); (first | done | fail)) | apply ResL.cell (by (repeat (first | exact Ev.here | exact Ev.const | exact Ev.arg rfl | apply Ev.there rfl | exact Ev.none rfl | exact Ev.func | exact Ev.var)); (first | done | fail)) (by (repeat (first | exact Rd.head | exact Rd.base (by assumption) | apply Rd.tail)); (first | done | fail)) rfl)); (first | done | fail)) rfl, pa, pc, sa, sc, rfl, rfl⟩
  refine Ent.trans ?_ ((hfo [own pa S.fold.snap.ps.length pc 5 (prC S.fold.snap.ps) 57, own sa S.fold.snap.ss.length sc 4 (ssC S.fold.snap.ss) 111]).trans (Ent.perm (List.perm_append_comm (l₁ := [_]))))
  (repeat (first | exact Ent.refl _ | exact Ent.nil | refine Ent.take (by (repeat (first | exact Out.head | apply Out.tail)); (first | done | fail)) ?_ | refine Ent.drop1 ?_))
theorem gentries_spec (st : Nat) (S : G15) (hS : S.ok) (fr most : Int) (hr : -9223372036854775808 ≤ fr ∧ fr ≤ 9223372036854775807) (hr2 : -9223372036854775808 ≤ most ∧ most ≤ 9223372036854775807) :
    Fspec Tryz.prog B 48 #[.pointer (some ⟨st, 0, none⟩), .int .i64 fr, .int .i64 most] [GtP st S]
      (fun v A' => ∃ b bc, v = .slice b (S.some fr most).length bc ∧ A' = [own b (S.some fr most).length bc 7 (esC (S.some fr most)) 43, GtP st S]) := by
  have hi := G15.fold_i hS
  have hfew := hS.few
  have hbi := hS.bi
  refine spec_of (args := [_, _, _]) Tryz.func48 rfl rfl rfl ?_
  refine yE (fun q => ?_)
  obtain ⟨k, d, ta, tc, pa0, pc0, sa0, sc0, ea, ec⟩ := q
  have hfo : ∀ A0 : List Asn, Ent (GtL st S ⟨k, d, ta, tc, pa0, pc0, sa0, sc0, ea, ec⟩ ++ A0) (GtP st S :: A0) := fun A0 => gt_fold (A0 := A0) ⟨k, d, ta, tc, pa0, pc0, sa0, sc0, ea, ec⟩ (Ent.refl _)
  simp only [GtL, GtR] at hfo ⊢
  simp only [List.cons_append, List.nil_append] at hfo ⊢
  unfold G15.some
  by_cases hc : fr ≤ S.base.i ∨ S.fold.i < fr ∨ most < 1
  · rw [if_pos hc]
    repeat' (first
      | refine zh ?_
      | refine zK ?_
      | refine zS (h := ?_)
      | refine zU (h := ?_)
      | refine zi ?_
      | refine zR ?_
      | refine za ?_
      | refine zN ?_
      | refine zY ?_
      | refine zd ?_
      | refine zO ?_
      | refine zZ ?_
      | refine zQ rfl ?_
      | refine ze ?_
      | refine zX ?_
      | refine zP ?_
      | refine zT ?_
      | refine zL ?_
      | (refine zE (id := 0) ?_; intro K hK; refine zI (k := ?_); (refine zF (hK _ _ ?_); clear hK K))
      | (refine zE (id := 1) ?_; intro K hK; refine zD (k := ?_); refine zf (k' := ?_); refine zD (k := ?_); ((first | (refine zA (k := ?_); refine zD (k := ?_)) | refine zC (k := ?_) | ((refine zG (yes := (fun ht => ?_)) (no := (fun ht => ?_)) <;> (try simp at ht) <;> (try (exfalso; omega))) <;> (first | (refine zA (k := ?_); refine zD (k := ?_)) | refine zC (k := ?_))))) <;> (((first | (refine zA (k := ?_); refine zD (k := ?_)) | refine zC (k := ?_) | ((refine zG (yes := (fun ht => ?_)) (no := (fun ht => ?_)) <;> (try simp at ht) <;> (try (exfalso; omega))) <;> (first | (refine zA (k := ?_); refine zD (k := ?_)) | refine zC (k := ?_))))) <;> (((first | (refine zA (k := ?_); refine zJ (k := ?_)) | refine zC (k := ?_) | ((refine zG (yes := (fun ht => ?_)) (no := (fun ht => ?_)) <;> (try simp at ht) <;> (try (exfalso; omega))) <;> (first | (refine zA (k := ?_); refine zJ (k := ?_)) | refine zC (k := ?_))))) <;> (((first | (refine zA (k := ?_); refine zB (k := ?_)) | refine zC (k := ?_) | ((refine zG (yes := (fun ht => ?_)) (no := (fun ht => ?_)) <;> (try simp at ht) <;> (try (exfalso; omega))) <;> (first | (refine zA (k := ?_); refine zB (k := ?_)) | refine zC (k := ?_))))) <;> (((first | (refine zA (k := ?_); refine zB (k := ?_)) | refine zC (k := ?_) | ((refine zG (yes := (fun ht => ?_)) (no := (fun ht => ?_)) <;> (try simp at ht) <;> (try (exfalso; omega))) <;> (first | (refine zA (k := ?_); refine zB (k := ?_)) | refine zC (k := ?_))))) <;> (((first | (refine zA (k := ?_); refine zB (k := ?_)) | refine zC (k := ?_) | ((refine zG (yes := (fun ht => ?_)) (no := (fun ht => ?_)) <;> (try simp at ht) <;> (try (exfalso; omega))) <;> (first | (refine zA (k := ?_); refine zB (k := ?_)) | refine zC (k := ?_))))) <;> (((first | (refine zA (k := ?_); refine zM (k := ?_)) | refine zC (k := ?_) | ((refine zG (yes := (fun ht => ?_)) (no := (fun ht => ?_)) <;> (try simp at ht) <;> (try (exfalso; omega))) <;> (first | (refine zA (k := ?_); refine zM (k := ?_)) | refine zC (k := ?_))))) <;> (((first | (refine zA (k := ?_); refine yH (k' := ?_)) | refine zC (k := ?_) | ((refine zG (yes := (fun ht => ?_)) (no := (fun ht => ?_)) <;> (try simp at ht) <;> (try (exfalso; omega))) <;> (first | (refine zA (k := ?_); refine yH (k' := ?_)) | refine zC (k := ?_))))) <;> ((first | refine zV (k := ?_) | refine zW (k := ?_) | refine zg (k := ?_)); refine zD (k := ?_); ((first | (refine zA (k := ?_); refine zD (k := ?_)) | refine zC (k := ?_) | ((refine zG (yes := (fun ht => ?_)) (no := (fun ht => ?_)) <;> (try simp at ht) <;> (try (exfalso; omega))) <;> (first | (refine zA (k := ?_); refine zD (k := ?_)) | refine zC (k := ?_))))) <;> (((first | (refine zA (k := ?_); refine zD (k := ?_)) | refine zC (k := ?_) | ((refine zG (yes := (fun ht => ?_)) (no := (fun ht => ?_)) <;> (try simp at ht) <;> (try (exfalso; omega))) <;> (first | (refine zA (k := ?_); refine zD (k := ?_)) | refine zC (k := ?_))))) <;> (((first | (refine zA (k := ?_); refine zJ (k := ?_)) | refine zC (k := ?_) | ((refine zG (yes := (fun ht => ?_)) (no := (fun ht => ?_)) <;> (try simp at ht) <;> (try (exfalso; omega))) <;> (first | (refine zA (k := ?_); refine zJ (k := ?_)) | refine zC (k := ?_))))) <;> (((first | (refine zA (k := ?_); refine zB (k := ?_)) | refine zC (k := ?_) | ((refine zG (yes := (fun ht => ?_)) (no := (fun ht => ?_)) <;> (try simp at ht) <;> (try (exfalso; omega))) <;> (first | (refine zA (k := ?_); refine zB (k := ?_)) | refine zC (k := ?_))))) <;> (((first | (refine zA (k := ?_); refine zB (k := ?_)) | refine zC (k := ?_) | ((refine zG (yes := (fun ht => ?_)) (no := (fun ht => ?_)) <;> (try simp at ht) <;> (try (exfalso; omega))) <;> (first | (refine zA (k := ?_); refine zB (k := ?_)) | refine zC (k := ?_))))) <;> (((first | (refine zA (k := ?_); refine zB (k := ?_)) | refine zC (k := ?_) | ((refine zG (yes := (fun ht => ?_)) (no := (fun ht => ?_)) <;> (try simp at ht) <;> (try (exfalso; omega))) <;> (first | (refine zA (k := ?_); refine zB (k := ?_)) | refine zC (k := ?_))))) <;> (((first | (refine zA (k := ?_); refine zM (k := ?_)) | refine zC (k := ?_) | ((refine zG (yes := (fun ht => ?_)) (no := (fun ht => ?_)) <;> (try simp at ht) <;> (try (exfalso; omega))) <;> (first | (refine zA (k := ?_); refine zM (k := ?_)) | refine zC (k := ?_))))) <;> (((first | (refine zA (k := ?_); refine zz (k' := ?_)) | refine zC (k := ?_) | ((refine zG (yes := (fun ht => ?_)) (no := (fun ht => ?_)) <;> (try simp at ht) <;> (try (exfalso; omega))) <;> (first | (refine zA (k := ?_); refine zz (k' := ?_)) | refine zC (k := ?_))))) <;> ((first | refine zV (k := ?_) | refine zW (k := ?_) | refine zg (k := ?_)); refine zD (k := ?_); ((first | (refine zA (k := ?_); refine zD (k := ?_)) | refine zC (k := ?_) | ((refine zG (yes := (fun ht => ?_)) (no := (fun ht => ?_)) <;> (try simp at ht) <;> (try (exfalso; omega))) <;> (first | (refine zA (k := ?_); refine zD (k := ?_)) | refine zC (k := ?_))))) <;> (((first | (refine zA (k := ?_); refine z2 (k' := ?_)) | refine zC (k := ?_) | ((refine zG (yes := (fun ht => ?_)) (no := (fun ht => ?_)) <;> (try simp at ht) <;> (try (exfalso; omega))) <;> (first | (refine zA (k := ?_); refine z2 (k' := ?_)) | refine zC (k := ?_))))) <;> ((first | refine zV (k := ?_) | refine zW (k := ?_) | refine zg (k := ?_)); (refine zF (hK _ _ ?_); clear hK K))))))))))))))))))))
      | (refine zE (id := 2) ?_; intro K hK; refine zI (k := ?_); (refine zF (hK _ _ ?_); clear hK K))
      | (refine z3 (id := 3) (h := ?_); intro K hK; refine zD (k := ?_); refine zJ (k := ?_); refine zB (k := ?_); refine zM (k := ?_); refine zD (k := ?_); refine zD (k := ?_); refine zJ (k := ?_); refine zB (k := ?_); refine zB (k := ?_); refine zB (k := ?_); refine zM (k := ?_); refine yI (k' := ?_); refine yI (k' := ?_))
      | (refine zE (id := 4) ?_; intro K hK; (refine yR (k := ?_); intro r); refine zD (k := ?_); refine zD (k := ?_); refine zD (k := ?_); refine zk (k' := ?_); refine zp (k' := ?_); refine yc (k' := ?_))
      | (refine zc (ht := (fun ht => ?_)) (hf := (fun ht => ?_)) <;> (try simp at ht) <;> (try (exfalso; omega))))
    all_goals exact ⟨Or.inr rfl, _, [own none 0 0 7 [] 43, GtP st S], Ent.trans (Ent.trans (by (repeat (first | exact Ent.refl _ | exact Ent.nil | refine Ent.take (by (repeat (first | exact Out.head | apply Out.tail)); (first | done | fail)) ?_ | refine Ent.drop1 ?_)); (first | done | fail)) (hfo [])) (own_nil 7 43 _), res1 rfl rfl, none, 0, rfl, rfl⟩
  · rw [if_neg hc]
    obtain ⟨l, hl⟩ : ∃ l, l = (fr - S.base.i - 1).toNat := ⟨_, rfl⟩
    obtain ⟨mm, hmm⟩ : ∃ mm, mm = min most.toNat (S.es.length - l) := ⟨_, rfl⟩
    have h1 : fr - S.base.i - 1 = ((l : Nat) : Int) := by omega
    have h1' : fr - S.base.i = ((l + 1 : Nat) : Int) := by omega
    have h2 : min most ((S.es.length - l : Nat) : Int) = ((mm : Nat) : Int) := by omega
    have hlen : ((S.es.drop l).take most.toNat).length = mm := by simp; omega
    have htk : (S.es.drop l).take most.toNat = (S.es.drop l).take mm := by
      rw [hmm]
      by_cases h : most.toNat ≤ S.es.length - l
      · rw [Nat.min_eq_left h]
      · rw [Nat.min_eq_right (by omega), List.take_of_length_le (by simp; omega), List.take_of_length_le (by simp)]
    rw [← hl, hlen, htk]
    refine yP (a := ea) (sz := 7) (ho := (by (repeat (first | exact Out.head | apply Out.tail)); (first | done | fail))) (h0 := by omega) (h := fun hfe => ?_)
    have hcut0 : RdS Tryz.prog B [own ea S.es.length ec 7 (esC S.es) 43] 7 (slAdd ea ec l 7) mm (ec - l) (esC ((S.es.drop l).take mm)) := by
      have h9 : RdS Tryz.prog B [own ea S.es.length ec 7 (esC S.es) 43] 7 ea S.es.length ec (esC S.es) := hfe.rd .head
      have := (h9.cut (show l ≤ S.es.length by omega) (Nat.le_refl _)).take (show mm ≤ S.es.length - l by omega)
      rwa [esC_cut S.es l mm (S.es.length - l) (by omega)] at this
    repeat' (first
      | refine zh ?_
      | refine zK ?_
      | refine zS (h := ?_)
      | refine zU (h := ?_)
      | refine zi ?_
      | refine zR ?_
      | refine za ?_
      | refine zN ?_
      | refine zY ?_
      | refine zd ?_
      | refine zO ?_
      | refine zZ ?_
      | refine zQ rfl ?_
      | refine ze ?_
      | refine zX ?_
      | refine zP ?_
      | refine zT ?_
      | refine zL ?_
      | (refine zE (id := 0) ?_; intro K hK; refine zI (k := ?_); (refine zF (hK _ _ ?_); clear hK K))
      | (refine zE (id := 1) ?_; intro K hK; refine zD (k := ?_); refine zf (k' := ?_); refine zD (k := ?_); ((first | (refine zA (k := ?_); refine zD (k := ?_)) | refine zC (k := ?_) | ((refine zG (yes := (fun ht => ?_)) (no := (fun ht => ?_)) <;> (try simp at ht) <;> (try (exfalso; omega))) <;> (first | (refine zA (k := ?_); refine zD (k := ?_)) | refine zC (k := ?_))))) <;> (((first | (refine zA (k := ?_); refine zD (k := ?_)) | refine zC (k := ?_) | ((refine zG (yes := (fun ht => ?_)) (no := (fun ht => ?_)) <;> (try simp at ht) <;> (try (exfalso; omega))) <;> (first | (refine zA (k := ?_); refine zD (k := ?_)) | refine zC (k := ?_))))) <;> (((first | (refine zA (k := ?_); refine zJ (k := ?_)) | refine zC (k := ?_) | ((refine zG (yes := (fun ht => ?_)) (no := (fun ht => ?_)) <;> (try simp at ht) <;> (try (exfalso; omega))) <;> (first | (refine zA (k := ?_); refine zJ (k := ?_)) | refine zC (k := ?_))))) <;> (((first | (refine zA (k := ?_); refine zB (k := ?_)) | refine zC (k := ?_) | ((refine zG (yes := (fun ht => ?_)) (no := (fun ht => ?_)) <;> (try simp at ht) <;> (try (exfalso; omega))) <;> (first | (refine zA (k := ?_); refine zB (k := ?_)) | refine zC (k := ?_))))) <;> (((first | (refine zA (k := ?_); refine zB (k := ?_)) | refine zC (k := ?_) | ((refine zG (yes := (fun ht => ?_)) (no := (fun ht => ?_)) <;> (try simp at ht) <;> (try (exfalso; omega))) <;> (first | (refine zA (k := ?_); refine zB (k := ?_)) | refine zC (k := ?_))))) <;> (((first | (refine zA (k := ?_); refine zB (k := ?_)) | refine zC (k := ?_) | ((refine zG (yes := (fun ht => ?_)) (no := (fun ht => ?_)) <;> (try simp at ht) <;> (try (exfalso; omega))) <;> (first | (refine zA (k := ?_); refine zB (k := ?_)) | refine zC (k := ?_))))) <;> (((first | (refine zA (k := ?_); refine zM (k := ?_)) | refine zC (k := ?_) | ((refine zG (yes := (fun ht => ?_)) (no := (fun ht => ?_)) <;> (try simp at ht) <;> (try (exfalso; omega))) <;> (first | (refine zA (k := ?_); refine zM (k := ?_)) | refine zC (k := ?_))))) <;> (((first | (refine zA (k := ?_); refine yH (k' := ?_)) | refine zC (k := ?_) | ((refine zG (yes := (fun ht => ?_)) (no := (fun ht => ?_)) <;> (try simp at ht) <;> (try (exfalso; omega))) <;> (first | (refine zA (k := ?_); refine yH (k' := ?_)) | refine zC (k := ?_))))) <;> ((first | refine zV (k := ?_) | refine zW (k := ?_) | refine zg (k := ?_)); refine zD (k := ?_); ((first | (refine zA (k := ?_); refine zD (k := ?_)) | refine zC (k := ?_) | ((refine zG (yes := (fun ht => ?_)) (no := (fun ht => ?_)) <;> (try simp at ht) <;> (try (exfalso; omega))) <;> (first | (refine zA (k := ?_); refine zD (k := ?_)) | refine zC (k := ?_))))) <;> (((first | (refine zA (k := ?_); refine zD (k := ?_)) | refine zC (k := ?_) | ((refine zG (yes := (fun ht => ?_)) (no := (fun ht => ?_)) <;> (try simp at ht) <;> (try (exfalso; omega))) <;> (first | (refine zA (k := ?_); refine zD (k := ?_)) | refine zC (k := ?_))))) <;> (((first | (refine zA (k := ?_); refine zJ (k := ?_)) | refine zC (k := ?_) | ((refine zG (yes := (fun ht => ?_)) (no := (fun ht => ?_)) <;> (try simp at ht) <;> (try (exfalso; omega))) <;> (first | (refine zA (k := ?_); refine zJ (k := ?_)) | refine zC (k := ?_))))) <;> (((first | (refine zA (k := ?_); refine zB (k := ?_)) | refine zC (k := ?_) | ((refine zG (yes := (fun ht => ?_)) (no := (fun ht => ?_)) <;> (try simp at ht) <;> (try (exfalso; omega))) <;> (first | (refine zA (k := ?_); refine zB (k := ?_)) | refine zC (k := ?_))))) <;> (((first | (refine zA (k := ?_); refine zB (k := ?_)) | refine zC (k := ?_) | ((refine zG (yes := (fun ht => ?_)) (no := (fun ht => ?_)) <;> (try simp at ht) <;> (try (exfalso; omega))) <;> (first | (refine zA (k := ?_); refine zB (k := ?_)) | refine zC (k := ?_))))) <;> (((first | (refine zA (k := ?_); refine zB (k := ?_)) | refine zC (k := ?_) | ((refine zG (yes := (fun ht => ?_)) (no := (fun ht => ?_)) <;> (try simp at ht) <;> (try (exfalso; omega))) <;> (first | (refine zA (k := ?_); refine zB (k := ?_)) | refine zC (k := ?_))))) <;> (((first | (refine zA (k := ?_); refine zM (k := ?_)) | refine zC (k := ?_) | ((refine zG (yes := (fun ht => ?_)) (no := (fun ht => ?_)) <;> (try simp at ht) <;> (try (exfalso; omega))) <;> (first | (refine zA (k := ?_); refine zM (k := ?_)) | refine zC (k := ?_))))) <;> (((first | (refine zA (k := ?_); refine zz (k' := ?_)) | refine zC (k := ?_) | ((refine zG (yes := (fun ht => ?_)) (no := (fun ht => ?_)) <;> (try simp at ht) <;> (try (exfalso; omega))) <;> (first | (refine zA (k := ?_); refine zz (k' := ?_)) | refine zC (k := ?_))))) <;> ((first | refine zV (k := ?_) | refine zW (k := ?_) | refine zg (k := ?_)); refine zD (k := ?_); ((first | (refine zA (k := ?_); refine zD (k := ?_)) | refine zC (k := ?_) | ((refine zG (yes := (fun ht => ?_)) (no := (fun ht => ?_)) <;> (try simp at ht) <;> (try (exfalso; omega))) <;> (first | (refine zA (k := ?_); refine zD (k := ?_)) | refine zC (k := ?_))))) <;> (((first | (refine zA (k := ?_); refine z2 (k' := ?_)) | refine zC (k := ?_) | ((refine zG (yes := (fun ht => ?_)) (no := (fun ht => ?_)) <;> (try simp at ht) <;> (try (exfalso; omega))) <;> (first | (refine zA (k := ?_); refine z2 (k' := ?_)) | refine zC (k := ?_))))) <;> ((first | refine zV (k := ?_) | refine zW (k := ?_) | refine zg (k := ?_)); (refine zF (hK _ _ ?_); clear hK K))))))))))))))))))))
      | (refine zE (id := 2) ?_; intro K hK; refine zI (k := ?_); (refine zF (hK _ _ ?_); clear hK K))
      | (refine z3 (id := 3) (h := ?_); intro K hK; refine zD (k := ?_); refine zJ (k := ?_); refine zB (k := ?_); refine zM (k := ?_); refine zD (k := ?_); refine zD (k := ?_); refine zJ (k := ?_); refine zB (k := ?_); refine zB (k := ?_); refine zB (k := ?_); refine zM (k := ?_); ((refine yI (k' := ?_); rw [h1'])) <;> (((refine yI (k' := ?_); rw [show ((l + 1 : Nat) : Int) - 1 = ((l : Nat) : Int) by omega])) <;> (((refine yY (l := l) (h := S.es.length) (hlo := ⟨_, rfl⟩) (hhi := rfl) (hlh := by omega) (hhc := hfe.e2) (k' := ?_))) <;> (refine zI (k := ?_); (refine zF (hK _ _ ?_); clear hK K)))))
      | (refine zE (id := 4) ?_; intro K hK; ((refine yR (k := ?_); intro r48)) <;> (refine zD (k := ?_); refine zD (k := ?_); refine zD (k := ?_); refine zk (k' := ?_); ((refine zp (k' := ?_); rw [h2])) <;> (((refine yb (h := mm) (hhi := ⟨_, rfl⟩) (hhc := by have := hfe.e2; omega) (k' := ?_))) <;> (((refine yL (vs := esC ((S.es.drop l).take mm)) (hsrc := RdS.ofEnt hcut0 (by (repeat (first | exact Ent.refl _ | exact Ent.nil | refine Ent.take (by (repeat (first | exact Out.head | apply Out.tail)); (first | done | fail)) ?_ | refine Ent.drop1 ?_)))) (hvc := esC_all _) (hbd := by omega) (k := ?_); intro nb nc)) <;> (refine zI (k := ?_); (refine zF (hK _ _ ?_); clear hK K))))))
      | (refine zc (ht := (fun ht => ?_)) (hf := (fun ht => ?_)) <;> (try simp at ht) <;> (try (exfalso; omega))))
    refine ⟨Or.inr rfl, _, [own nb mm nc 7 (esC ((S.es.drop l).take mm)) 43, GtP st S], ?_, res1 rfl rfl, nb, nc, congrArg (fun k => Value.slice nb k nc) (Nat.zero_add _), rfl⟩
    simp only [Nat.zero_add, List.nil_append]
    refine Ent.trans ?_ ((hfo [own nb mm nc 7 (esC ((S.es.drop l).take mm)) 43]).trans (Ent.perm (List.Perm.swap ..)))
    (repeat (first | exact Ent.refl _ | exact Ent.nil | refine Ent.take (by (repeat (first | exact Out.head | apply Out.tail)); (first | done | fail)) ?_ | refine Ent.drop1 ?_))
end specs
end Go.Proofs.YtnoggejkkjngjaaGreat
/- Layer 15: the law's own functions on records and snapshots. Conditions: none but the kinds' bounds. -/
set_option maxHeartbeats 8000000
set_option linter.unusedVariables false
set_option linter.unusedSimpArgs false
set_option maxRecDepth 100000
namespace Go.Proofs.YtnoggejkkjngjaaGreat
open Go Go.Sl
attribute [local irreducible] Go.Sl.Wl Go.Sl.Wc Go.Sl.thenQ Go.Sl.blkQ Go.Sl.loopQ Go.Sl.Fspec

/-- What of a record is looked at. -/
def litN (r : RcG) (j : Nat) : Nat := min r.x.key.size 100000 + min r.x.tx.size 100000 + ((r.sn.ps.take j).map fun x => min x.k.size 100000 + min x.v.d.size 100000).sum
def lightV (r : RcG) : Bool := !(decide (1000 < r.sn.ps.length) || decide (1000 < r.sn.ss.length)) && decide (litN r r.sn.ps.length ≤ 100000)
theorem litN_succ {r : RcG} {j : Nat} {x : PrX} (h : r.sn.ps[j]? = some x) : litN r (j + 1) = litN r j + min x.k.size 100000 + min x.v.d.size 100000 := by
  obtain ⟨hj, rfl⟩ := List.getElem?_eq_some_iff.1 h
  unfold litN
  rw [List.take_succ_eq_append_getElem hj, List.map_append, List.sum_append]
  simp; omega
theorem litN_le (r : RcG) : ∀ j, litN r j ≤ 200000 * (j + 1)
  | 0 => by simp [litN]; omega
  | j + 1 => by
    have h := litN_le r j
    cases hx : r.sn.ps[j]? with
    | some x => rw [litN_succ hx]; omega
    | none =>
      have : litN r (j + 1) = litN r j := by
        have hl := List.getElem?_eq_none_iff.1 hx
        unfold litN; rw [List.take_of_length_le (i := j + 1) (by omega), List.take_of_length_le (i := j) hl]
      rw [this]; omega
theorem light_out {r : RcG} (h : lightV r = true) : r.sn.ps.length ≤ 1000 ∧ r.sn.ss.length ≤ 1000 ∧ litN r r.sn.ps.length ≤ 100000 := by
  unfold lightV at h
  simp only [Bool.and_eq_true, Bool.not_eq_true', Bool.or_eq_false_iff, decide_eq_false_iff_not, decide_eq_true_eq] at h
  omega
section specs
variable {B : Base}
theorem light_spec (r : RcG) (hps : r.sn.ps.length ≤ 9223372036854775807) (hss : r.sn.ss.length ≤ 9223372036854775807) (pa : Option Addr) (pc : Nat) (sa : Option Addr) (sc : Nat) (h1 : RdS Tryz.prog B [] 5 pa r.sn.ps.length pc (prC r.sn.ps)) :
    Fspec Tryz.prog B 10 #[.agg (r.c pa pc sa sc).toArray] [] (fun v A' => v = .bool (lightV r) ∧ A' = []) := by
  refine spec_of (args := [_]) Tryz.func10 rfl rfl rfl ?_
  have hm1 : min (r.x.key.size : Int) 100000 = ((min r.x.key.size 100000 : Nat) : Int) := by omega
  have hm2 : min (r.x.tx.size : Int) 100000 = ((min r.x.tx.size 100000 : Nat) : Int) := by omega
  have h0 : ((min r.x.key.size 100000 : Nat) : Int) + ((min r.x.tx.size 100000 : Nat) : Int) = ((litN r 0 : Nat) : Int) := by simp [litN]
  simp only [RcG.c]
  by_cases hbig : 1000 < r.sn.ps.length ∨ 1000 < r.sn.ss.length
  · have hno : lightV r = false := by
      unfold lightV
      rcases hbig with h | h <;> simp [h]
    rw [hno]
    repeat' (first
      | refine zh ?_
      | refine zK ?_
      | refine zS (h := ?_)
      | refine zU (h := ?_)
      | refine zi ?_
      | refine zR ?_
      | refine za ?_
      | refine zN ?_
      | refine zY ?_
      | refine zd ?_
      | refine zO ?_
      | refine zZ ?_
      | refine zQ rfl ?_
      | refine ze ?_
      | refine zX ?_
      | refine zP ?_
      | refine zT ?_
      | refine zL ?_
      | (refine zE (id := 0) ?_; intro K hK; ((refine zw (k := ?_); intro r1)) <;> (refine zI (k := ?_); (refine zF (hK _ _ ?_); clear hK K)))
      | (refine zE (id := 1) ?_; intro K hK; refine zB (k := ?_); refine zB (k := ?_); refine zM (k := ?_); refine zj (k' := ?_); ((refine zp (k' := ?_); rw [hm1])) <;> (refine zB (k := ?_); refine zB (k := ?_); refine zM (k := ?_); refine zj (k' := ?_); ((refine zp (k' := ?_); rw [hm2])) <;> (((refine zm (k' := ?_); rw [h0])) <;> (refine zI (k := ?_); (refine zF (hK _ _ ?_); clear hK K)))))
      | (refine zE (id := 2) ?_; intro K hK; refine zB (k := ?_); refine zB (k := ?_); refine zM (k := ?_); refine zk (k' := ?_); refine zz (k' := ?_); refine zD (k := ?_); ((first | (refine zA (k := ?_); refine zB (k := ?_)) | refine zC (k := ?_) | ((refine zG (yes := (fun ht => ?_)) (no := (fun ht => ?_)) <;> (try simp at ht) <;> (try (exfalso; omega))) <;> (first | (refine zA (k := ?_); refine zB (k := ?_)) | refine zC (k := ?_))))) <;> (((first | (refine zA (k := ?_); refine zB (k := ?_)) | refine zC (k := ?_) | ((refine zG (yes := (fun ht => ?_)) (no := (fun ht => ?_)) <;> (try simp at ht) <;> (try (exfalso; omega))) <;> (first | (refine zA (k := ?_); refine zB (k := ?_)) | refine zC (k := ?_))))) <;> (((first | (refine zA (k := ?_); refine zM (k := ?_)) | refine zC (k := ?_) | ((refine zG (yes := (fun ht => ?_)) (no := (fun ht => ?_)) <;> (try simp at ht) <;> (try (exfalso; omega))) <;> (first | (refine zA (k := ?_); refine zM (k := ?_)) | refine zC (k := ?_))))) <;> (((first | (refine zA (k := ?_); refine zk (k' := ?_)) | refine zC (k := ?_) | ((refine zG (yes := (fun ht => ?_)) (no := (fun ht => ?_)) <;> (try simp at ht) <;> (try (exfalso; omega))) <;> (first | (refine zA (k := ?_); refine zk (k' := ?_)) | refine zC (k := ?_))))) <;> (((first | (refine zA (k := ?_); refine zz (k' := ?_)) | refine zC (k := ?_) | ((refine zG (yes := (fun ht => ?_)) (no := (fun ht => ?_)) <;> (try simp at ht) <;> (try (exfalso; omega))) <;> (first | (refine zA (k := ?_); refine zz (k' := ?_)) | refine zC (k := ?_))))) <;> ((first | refine zV (k := ?_) | refine zW (k := ?_) | refine zg (k := ?_)); (refine zF (hK _ _ ?_); clear hK K)))))))
      | (refine zE (id := 3) ?_; intro K hK; refine zI (k := ?_); (refine zF (hK _ _ ?_); clear hK K))
      | (refine zc (ht := (fun ht => ?_)) (hf := (fun ht => ?_)) <;> (try simp at ht) <;> (try (exfalso; omega))))
    all_goals exact ⟨Or.inr rfl, _, [], (by (repeat (first | exact Ent.refl _ | exact Ent.nil | refine Ent.take (by (repeat (first | exact Out.head | apply Out.tail)); (first | done | fail)) ?_ | refine Ent.drop1 ?_)); (first | done | fail)), res1 rfl rfl, rfl, rfl⟩
  repeat' (first
    | refine zh ?_
    | refine zK ?_
    | refine zS (h := ?_)
    | refine zU (h := ?_)
    | refine zi ?_
    | refine zR ?_
    | refine za ?_
    | refine zN ?_
    | refine zY ?_
    | refine zd ?_
    | refine zO ?_
    | refine zZ ?_
    | refine zQ rfl ?_
    | refine ze ?_
    | refine zX ?_
    | refine zP ?_
    | refine zT ?_
    | refine zL ?_
    | (refine zE (id := 0) ?_; intro K hK; ((refine zw (k := ?_); intro r1)) <;> (refine zI (k := ?_); (refine zF (hK _ _ ?_); clear hK K)))
    | (refine zE (id := 1) ?_; intro K hK; refine zB (k := ?_); refine zB (k := ?_); refine zM (k := ?_); refine zj (k' := ?_); ((refine zp (k' := ?_); rw [hm1])) <;> (refine zB (k := ?_); refine zB (k := ?_); refine zM (k := ?_); refine zj (k' := ?_); ((refine zp (k' := ?_); rw [hm2])) <;> (((refine zm (k' := ?_); rw [h0])) <;> (refine zI (k := ?_); (refine zF (hK _ _ ?_); clear hK K)))))
    | (refine zE (id := 2) ?_; intro K hK; refine zB (k := ?_); refine zB (k := ?_); refine zM (k := ?_); refine zk (k' := ?_); refine zz (k' := ?_); refine zD (k := ?_); ((first | (refine zA (k := ?_); refine zB (k := ?_)) | refine zC (k := ?_) | ((refine zG (yes := (fun ht => ?_)) (no := (fun ht => ?_)) <;> (try simp at ht) <;> (try (exfalso; omega))) <;> (first | (refine zA (k := ?_); refine zB (k := ?_)) | refine zC (k := ?_))))) <;> (((first | (refine zA (k := ?_); refine zB (k := ?_)) | refine zC (k := ?_) | ((refine zG (yes := (fun ht => ?_)) (no := (fun ht => ?_)) <;> (try simp at ht) <;> (try (exfalso; omega))) <;> (first | (refine zA (k := ?_); refine zB (k := ?_)) | refine zC (k := ?_))))) <;> (((first | (refine zA (k := ?_); refine zM (k := ?_)) | refine zC (k := ?_) | ((refine zG (yes := (fun ht => ?_)) (no := (fun ht => ?_)) <;> (try simp at ht) <;> (try (exfalso; omega))) <;> (first | (refine zA (k := ?_); refine zM (k := ?_)) | refine zC (k := ?_))))) <;> (((first | (refine zA (k := ?_); refine zk (k' := ?_)) | refine zC (k := ?_) | ((refine zG (yes := (fun ht => ?_)) (no := (fun ht => ?_)) <;> (try simp at ht) <;> (try (exfalso; omega))) <;> (first | (refine zA (k := ?_); refine zk (k' := ?_)) | refine zC (k := ?_))))) <;> (((first | (refine zA (k := ?_); refine zz (k' := ?_)) | refine zC (k := ?_) | ((refine zG (yes := (fun ht => ?_)) (no := (fun ht => ?_)) <;> (try simp at ht) <;> (try (exfalso; omega))) <;> (first | (refine zA (k := ?_); refine zz (k' := ?_)) | refine zC (k := ?_))))) <;> ((first | refine zV (k := ?_) | refine zW (k := ?_) | refine zg (k := ?_)); (refine zF (hK _ _ ?_); clear hK K)))))))
    | (refine zE (id := 3) ?_; intro K hK; refine zI (k := ?_); (refine zF (hK _ _ ?_); clear hK K))
    | (refine zE (id := 4) ?_; intro K hK; refine zI (k := ?_); (refine zF (hK _ _ ?_); clear hK K))
    | (refine zc (ht := (fun ht => ?_)) (hf := (fun ht => ?_)) <;> (try simp at ht) <;> (try (exfalso; omega))))
  refine yG (α := Nat) (fun j => [(1, .pointer (some ⟨r1, 0, none⟩)), (3, .int .i64 (litN r j)), (4, .int .i64 j)]) (fun _ => [cb r1 (r.c pa pc sa sc) 47]) (fun j => j ≤ r.sn.ps.length) (fun j => r.sn.ps.length - j) 0 (by omega) ⟨rfl, rfl, rfl, trivial⟩ (by (repeat (first | exact Ent.refl _ | exact Ent.nil | refine Ent.take (by (repeat (first | exact Out.head | apply Out.tail)); (first | done | fail)) ?_ | refine Ent.drop1 ?_))) ?_
  intro j G hj
  simp only [ov, RcG.c]
  by_cases hlt : j < r.sn.ps.length
  · obtain ⟨q, rfl⟩ : ∃ q, pa = some q := by
      cases pa with
      | none => have := h1.nil rfl; omega
      | some q => exact ⟨q, rfl⟩
    obtain ⟨x, hx⟩ : ∃ x, r.sn.ps[j]? = some x := ⟨_, List.getElem?_eq_getElem hlt⟩
    have hb := litN_le r j
    have hs := litN_succ hx
    have g1 : min (x.k.size : Int) 100000 = ((min x.k.size 100000 : Nat) : Int) := by omega
    have g2 : min (x.v.d.size : Int) 100000 = ((min x.v.d.size 100000 : Nat) : Int) := by omega
    have g3 : ((litN r j : Nat) : Int) + ((min x.k.size 100000 : Nat) : Int) + ((min x.v.d.size 100000 : Nat) : Int) = ((litN r (j + 1) : Nat) : Int) := by rw [hs]; omega
    repeat' (first
      | refine zh ?_
      | refine zK ?_
      | refine zS (h := ?_)
      | refine zU (h := ?_)
      | refine zi ?_
      | refine zR ?_
      | refine za ?_
      | refine zN ?_
      | refine zY ?_
      | refine zd ?_
      | refine zO ?_
      | refine zZ ?_
      | refine zQ rfl ?_
      | refine ze ?_
      | refine zX ?_
      | refine zP ?_
      | refine zT ?_
      | refine zL ?_
      | (refine zE (id := 5) ?_; intro K hK; refine zD (k := ?_); refine zB (k := ?_); refine zB (k := ?_); refine zM (k := ?_); refine zk (k' := ?_); refine z2 (k' := ?_); (refine zF (hK _ _ ?_); clear hK K))
      | (refine zE (id := 6) ?_; intro K hK; refine zD (k := ?_); refine zm (k' := ?_); refine zI (k := ?_); (refine zF (hK _ _ ?_); clear hK K))
      | ((refine y7 (id := 7) (t := (.step 0 (.step 1 (.step 2 (.step 4 (.step 11 (.step 12 (.step 14 (.alt (.step 3 (.step 5 (.step 6 (.alt (.step 7 (.alt (.step 8 (.alt (.step 9 (.step 10 (.step 13 (.step 15 (.step 16 (.step 17 (.step 18 (.step 19 (.step 20 (.step 21 (.step 22 .done))))))))))) (.step 13 (.step 15 (.step 16 (.step 17 (.alt (.step 9 (.step 10 (.step 18 (.step 19 (.step 20 (.step 21 (.step 22 .done))))))) (.step 18 (.alt (.step 9 (.step 10 (.step 19 (.step 20 (.step 21 (.step 22 .done)))))) (.step 19 (.alt (.step 9 (.step 10 (.step 20 (.step 21 (.step 22 .done))))) (.step 20 (.step 9 (.step 10 (.step 21 (.step 22 .done)))))))))))))))) (.step 13 (.step 15 (.step 16 (.step 17 (.alt (.step 8 (.alt (.step 9 (.step 10 (.step 18 (.step 19 (.step 20 (.step 21 (.step 22 .done))))))) (.step 18 (.alt (.step 9 (.step 10 (.step 19 (.step 20 (.step 21 (.step 22 .done)))))) (.step 19 (.alt (.step 9 (.step 10 (.step 20 (.step 21 (.step 22 .done))))) (.step 20 (.step 9 (.step 10 (.step 21 (.step 22 .done))))))))))) (.step 18 (.alt (.step 8 (.alt (.step 9 (.step 10 (.step 19 (.step 20 (.step 21 (.step 22 .done)))))) (.step 19 (.alt (.step 9 (.step 10 (.step 20 (.step 21 (.step 22 .done))))) (.step 20 (.step 9 (.step 10 (.step 21 (.step 22 .done))))))))) (.step 19 (.alt (.step 8 (.alt (.step 9 (.step 10 (.step 20 (.step 21 (.step 22 .done))))) (.step 20 (.step 9 (.step 10 (.step 21 (.step 22 .done))))))) (.step 20 (.step 8 (.step 9 (.step 10 (.step 21 (.step 22 .done))))))))))))))))) (.step 13 (.step 15 (.step 16 (.step 17 (.alt (.step 7 (.alt (.step 8 (.alt (.step 9 (.step 10 (.step 18 (.step 19 (.step 20 (.step 21 (.step 22 .done))))))) (.step 18 (.alt (.step 9 (.step 10 (.step 19 (.step 20 (.step 21 (.step 22 .done)))))) (.step 19 (.alt (.step 9 (.step 10 (.step 20 (.step 21 (.step 22 .done))))) (.step 20 (.step 9 (.step 10 (.step 21 (.step 22 .done))))))))))) (.step 18 (.alt (.step 8 (.alt (.step 9 (.step 10 (.step 19 (.step 20 (.step 21 (.step 22 .done)))))) (.step 19 (.alt (.step 9 (.step 10 (.step 20 (.step 21 (.step 22 .done))))) (.step 20 (.step 9 (.step 10 (.step 21 (.step 22 .done))))))))) (.step 19 (.alt (.step 8 (.alt (.step 9 (.step 10 (.step 20 (.step 21 (.step 22 .done))))) (.step 20 (.step 9 (.step 10 (.step 21 (.step 22 .done))))))) (.step 20 (.step 8 (.step 9 (.step 10 (.step 21 (.step 22 .done)))))))))))) (.step 18 (.alt (.step 7 (.alt (.step 8 (.alt (.step 9 (.step 10 (.step 19 (.step 20 (.step 21 (.step 22 .done)))))) (.step 19 (.alt (.step 9 (.step 10 (.step 20 (.step 21 (.step 22 .done))))) (.step 20 (.step 9 (.step 10 (.step 21 (.step 22 .done))))))))) (.step 19 (.alt (.step 8 (.alt (.step 9 (.step 10 (.step 20 (.step 21 (.step 22 .done))))) (.step 20 (.step 9 (.step 10 (.step 21 (.step 22 .done))))))) (.step 20 (.step 8 (.step 9 (.step 10 (.step 21 (.step 22 .done)))))))))) (.step 19 (.alt (.step 7 (.alt (.step 8 (.alt (.step 9 (.step 10 (.step 20 (.step 21 (.step 22 .done))))) (.step 20 (.step 9 (.step 10 (.step 21 (.step 22 .done))))))) (.step 20 (.step 8 (.step 9 (.step 10 (.step 21 (.step 22 .done)))))))) (.step 20 (.step 7 (.step 8 (.step 9 (.step 10 (.step 21 (.step 22 .done)))))))))))))))))))) (.step 13 (.step 15 (.step 16 (.step 17 (.alt (.step 3 (.step 5 (.step 6 (.alt (.step 7 (.alt (.step 8 (.alt (.step 9 (.step 10 (.step 18 (.step 19 (.step 20 (.step 21 (.step 22 .done))))))) (.step 18 (.alt (.step 9 (.step 10 (.step 19 (.step 20 (.step 21 (.step 22 .done)))))) (.step 19 (.alt (.step 9 (.step 10 (.step 20 (.step 21 (.step 22 .done))))) (.step 20 (.step 9 (.step 10 (.step 21 (.step 22 .done))))))))))) (.step 18 (.alt (.step 8 (.alt (.step 9 (.step 10 (.step 19 (.step 20 (.step 21 (.step 22 .done)))))) (.step 19 (.alt (.step 9 (.step 10 (.step 20 (.step 21 (.step 22 .done))))) (.step 20 (.step 9 (.step 10 (.step 21 (.step 22 .done))))))))) (.step 19 (.alt (.step 8 (.alt (.step 9 (.step 10 (.step 20 (.step 21 (.step 22 .done))))) (.step 20 (.step 9 (.step 10 (.step 21 (.step 22 .done))))))) (.step 20 (.step 8 (.step 9 (.step 10 (.step 21 (.step 22 .done)))))))))))) (.step 18 (.alt (.step 7 (.alt (.step 8 (.alt (.step 9 (.step 10 (.step 19 (.step 20 (.step 21 (.step 22 .done)))))) (.step 19 (.alt (.step 9 (.step 10 (.step 20 (.step 21 (.step 22 .done))))) (.step 20 (.step 9 (.step 10 (.step 21 (.step 22 .done))))))))) (.step 19 (.alt (.step 8 (.alt (.step 9 (.step 10 (.step 20 (.step 21 (.step 22 .done))))) (.step 20 (.step 9 (.step 10 (.step 21 (.step 22 .done))))))) (.step 20 (.step 8 (.step 9 (.step 10 (.step 21 (.step 22 .done)))))))))) (.step 19 (.alt (.step 7 (.alt (.step 8 (.alt (.step 9 (.step 10 (.step 20 (.step 21 (.step 22 .done))))) (.step 20 (.step 9 (.step 10 (.step 21 (.step 22 .done))))))) (.step 20 (.step 8 (.step 9 (.step 10 (.step 21 (.step 22 .done)))))))) (.step 20 (.step 7 (.step 8 (.step 9 (.step 10 (.step 21 (.step 22 .done))))))))))))))) (.step 18 (.alt (.step 3 (.step 5 (.step 6 (.alt (.step 7 (.alt (.step 8 (.alt (.step 9 (.step 10 (.step 19 (.step 20 (.step 21 (.step 22 .done)))))) (.step 19 (.alt (.step 9 (.step 10 (.step 20 (.step 21 (.step 22 .done))))) (.step 20 (.step 9 (.step 10 (.step 21 (.step 22 .done))))))))) (.step 19 (.alt (.step 8 (.alt (.step 9 (.step 10 (.step 20 (.step 21 (.step 22 .done))))) (.step 20 (.step 9 (.step 10 (.step 21 (.step 22 .done))))))) (.step 20 (.step 8 (.step 9 (.step 10 (.step 21 (.step 22 .done)))))))))) (.step 19 (.alt (.step 7 (.alt (.step 8 (.alt (.step 9 (.step 10 (.step 20 (.step 21 (.step 22 .done))))) (.step 20 (.step 9 (.step 10 (.step 21 (.step 22 .done))))))) (.step 20 (.step 8 (.step 9 (.step 10 (.step 21 (.step 22 .done)))))))) (.step 20 (.step 7 (.step 8 (.step 9 (.step 10 (.step 21 (.step 22 .done))))))))))))) (.step 19 (.alt (.step 3 (.step 5 (.step 6 (.alt (.step 7 (.alt (.step 8 (.alt (.step 9 (.step 10 (.step 20 (.step 21 (.step 22 .done))))) (.step 20 (.step 9 (.step 10 (.step 21 (.step 22 .done))))))) (.step 20 (.step 8 (.step 9 (.step 10 (.step 21 (.step 22 .done)))))))) (.step 20 (.step 7 (.step 8 (.step 9 (.step 10 (.step 21 (.step 22 .done))))))))))) (.step 20 (.step 3 (.step 5 (.step 6 (.step 7 (.step 8 (.step 9 (.step 10 (.step 21 (.step 22 .done)))))))))))))))))))))))))))) (bad := [3, 7, 8, 9, 13, 18, 19, 20]) (hok := (by decide +kernel)) (h := ?_); intro K hK; ((refine zH (i := 0) rfl ?_; (refine zD (k := ?_)) <;> (refine zF ?_)) <;> ((refine zH (i := 1) rfl ?_; (refine zB (k := ?_)) <;> (refine zF ?_)) <;> ((refine zH (i := 2) rfl ?_; (refine zB (k := ?_)) <;> (refine zF ?_)) <;> ((refine zH (i := 4) rfl ?_; (refine zD (k := ?_)) <;> (refine zF ?_)) <;> ((refine zH (i := 11) rfl ?_; (refine zB (k := ?_)) <;> (refine zF ?_)) <;> ((refine zH (i := 12) rfl ?_; (refine zB (k := ?_)) <;> (refine zF ?_)) <;> ((refine zH (i := 14) rfl ?_; (refine zD (k := ?_)) <;> (refine zF ?_)) <;> (refine z0 ?tp0 ?tq0; (case' tp0 => ((refine zH (i := 3) rfl ?_; (refine zM (k := ?_)) <;> (refine zF ?_)) <;> ((refine zH (i := 5) rfl ?_; ((refine zo (k' := ?_))) <;> (refine zF ?_)) <;> ((refine zH (i := 6) rfl ?_; ((refine zu (k := ?_))) <;> (refine zF ?_)) <;> (refine z0 ?tp1 ?tq1; (case' tp1 => ((refine zH (i := 7) rfl ?_; ((refine z4 (v := .string x.k) (j := j * 5) (hq := by simp [Addr.add]) (hr := h1.any) (hv := by simpa using prC_cell (r := 0) hx (by omega) rfl) (k := ?_))) <;> (refine zF ?_)) <;> (refine z0 ?tp2 ?tq2; (case' tp2 => ((refine zH (i := 8) rfl ?_; (refine zj (k' := ?_)) <;> (refine zF ?_)) <;> (refine z0 ?tp3 ?tq3; (case' tp3 => ((refine zH (i := 9) rfl ?_; ((refine zp (k' := ?_); rw [g1])) <;> (refine zF ?_)) <;> ((refine zH (i := 10) rfl ?_; (refine zm (k' := ?_)) <;> (refine zF ?_)) <;> ((refine zH (i := 13) rfl ?_; (refine zM (k := ?_)) <;> (refine zF ?_)) <;> ((refine zH (i := 15) rfl ?_; ((refine zo (k' := ?_))) <;> (refine zF ?_)) <;> ((refine zH (i := 16) rfl ?_; ((refine zu (k := ?_))) <;> (refine zF ?_)) <;> ((refine zH (i := 17) rfl ?_; ((refine zu (k := ?_))) <;> (refine zF ?_)) <;> ((refine zH (i := 18) rfl ?_; ((refine z4 (v := .string x.v.d) (j := j * 5 + 4) (hq := by simp [Addr.add]; split <;> simp_all <;> omega) (hr := h1.any) (hv := prC_cell (r := 4) hx (by omega) rfl) (k := ?_))) <;> (refine zF ?_)) <;> ((refine zH (i := 19) rfl ?_; (refine zj (k' := ?_)) <;> (refine zF ?_)) <;> ((refine zH (i := 20) rfl ?_; ((refine zp (k' := ?_); rw [g2])) <;> (refine zF ?_)) <;> ((refine zH (i := 21) rfl ?_; ((refine zm (k' := ?_); rw [g3])) <;> (refine zF ?_)) <;> ((refine zH (i := 22) rfl ?_; (refine zI (k := ?_)) <;> (refine zF ?_)) <;> (refine zq (hK _ _ ?_); clear hK K))))))))))))); (case' tq3 => ((refine zH (i := 13) rfl ?_; (refine zM (k := ?_)) <;> (refine zF ?_)) <;> ((refine zH (i := 15) rfl ?_; ((refine zo (k' := ?_))) <;> (refine zF ?_)) <;> ((refine zH (i := 16) rfl ?_; ((refine zu (k := ?_))) <;> (refine zF ?_)) <;> ((refine zH (i := 17) rfl ?_; ((refine zu (k := ?_))) <;> (refine zF ?_)) <;> (refine z0 ?tp4 ?tq4; (case' tp4 => ((refine zH (i := 9) rfl ?_; ((refine zp (k' := ?_); rw [g1])) <;> (refine zF ?_)) <;> ((refine zH (i := 10) rfl ?_; (refine zm (k' := ?_)) <;> (refine zF ?_)) <;> ((refine zH (i := 18) rfl ?_; ((refine z4 (v := .string x.v.d) (j := j * 5 + 4) (hq := by simp [Addr.add]; split <;> simp_all <;> omega) (hr := h1.any) (hv := prC_cell (r := 4) hx (by omega) rfl) (k := ?_))) <;> (refine zF ?_)) <;> ((refine zH (i := 19) rfl ?_; (refine zj (k' := ?_)) <;> (refine zF ?_)) <;> ((refine zH (i := 20) rfl ?_; ((refine zp (k' := ?_); rw [g2])) <;> (refine zF ?_)) <;> ((refine zH (i := 21) rfl ?_; ((refine zm (k' := ?_); rw [g3])) <;> (refine zF ?_)) <;> ((refine zH (i := 22) rfl ?_; (refine zI (k := ?_)) <;> (refine zF ?_)) <;> (refine zq (hK _ _ ?_); clear hK K))))))))); (case' tq4 => ((refine zH (i := 18) rfl ?_; ((refine z4 (v := .string x.v.d) (j := j * 5 + 4) (hq := by simp [Addr.add]; split <;> simp_all <;> omega) (hr := h1.any) (hv := prC_cell (r := 4) hx (by omega) rfl) (k := ?_))) <;> (refine zF ?_)) <;> (refine z0 ?tp5 ?tq5; (case' tp5 => ((refine zH (i := 9) rfl ?_; ((refine zp (k' := ?_); rw [g1])) <;> (refine zF ?_)) <;> ((refine zH (i := 10) rfl ?_; (refine zm (k' := ?_)) <;> (refine zF ?_)) <;> ((refine zH (i := 19) rfl ?_; (refine zj (k' := ?_)) <;> (refine zF ?_)) <;> ((refine zH (i := 20) rfl ?_; ((refine zp (k' := ?_); rw [g2])) <;> (refine zF ?_)) <;> ((refine zH (i := 21) rfl ?_; ((refine zm (k' := ?_); rw [g3])) <;> (refine zF ?_)) <;> ((refine zH (i := 22) rfl ?_; (refine zI (k := ?_)) <;> (refine zF ?_)) <;> (refine zq (hK _ _ ?_); clear hK K)))))))); (case' tq5 => ((refine zH (i := 19) rfl ?_; (refine zj (k' := ?_)) <;> (refine zF ?_)) <;> (refine z0 ?tp6 ?tq6; (case' tp6 => ((refine zH (i := 9) rfl ?_; ((refine zp (k' := ?_); rw [g1])) <;> (refine zF ?_)) <;> ((refine zH (i := 10) rfl ?_; (refine zm (k' := ?_)) <;> (refine zF ?_)) <;> ((refine zH (i := 20) rfl ?_; ((refine zp (k' := ?_); rw [g2])) <;> (refine zF ?_)) <;> ((refine zH (i := 21) rfl ?_; ((refine zm (k' := ?_); rw [g3])) <;> (refine zF ?_)) <;> ((refine zH (i := 22) rfl ?_; (refine zI (k := ?_)) <;> (refine zF ?_)) <;> (refine zq (hK _ _ ?_); clear hK K))))))); (case' tq6 => ((refine zH (i := 20) rfl ?_; ((refine zp (k' := ?_); rw [g2])) <;> (refine zF ?_)) <;> ((refine zH (i := 9) rfl ?_; ((refine zp (k' := ?_); rw [g1])) <;> (refine zF ?_)) <;> ((refine zH (i := 10) rfl ?_; (refine zm (k' := ?_)) <;> (refine zF ?_)) <;> ((refine zH (i := 21) rfl ?_; ((refine zm (k' := ?_); rw [g3])) <;> (refine zF ?_)) <;> ((refine zH (i := 22) rfl ?_; (refine zI (k := ?_)) <;> (refine zF ?_)) <;> (refine zq (hK _ _ ?_); clear hK K)))))))))))))))))))))); (case' tq2 => ((refine zH (i := 13) rfl ?_; (refine zM (k := ?_)) <;> (refine zF ?_)) <;> ((refine zH (i := 15) rfl ?_; ((refine zo (k' := ?_))) <;> (refine zF ?_)) <;> ((refine zH (i := 16) rfl ?_; ((refine zu (k := ?_))) <;> (refine zF ?_)) <;> ((refine zH (i := 17) rfl ?_; ((refine zu (k := ?_))) <;> (refine zF ?_)) <;> (refine z0 ?tp7 ?tq7; (case' tp7 => ((refine zH (i := 8) rfl ?_; (refine zj (k' := ?_)) <;> (refine zF ?_)) <;> (refine z0 ?tp8 ?tq8; (case' tp8 => ((refine zH (i := 9) rfl ?_; ((refine zp (k' := ?_); rw [g1])) <;> (refine zF ?_)) <;> ((refine zH (i := 10) rfl ?_; (refine zm (k' := ?_)) <;> (refine zF ?_)) <;> ((refine zH (i := 18) rfl ?_; ((refine z4 (v := .string x.v.d) (j := j * 5 + 4) (hq := by simp [Addr.add]; split <;> simp_all <;> omega) (hr := h1.any) (hv := prC_cell (r := 4) hx (by omega) rfl) (k := ?_))) <;> (refine zF ?_)) <;> ((refine zH (i := 19) rfl ?_; (refine zj (k' := ?_)) <;> (refine zF ?_)) <;> ((refine zH (i := 20) rfl ?_; ((refine zp (k' := ?_); rw [g2])) <;> (refine zF ?_)) <;> ((refine zH (i := 21) rfl ?_; ((refine zm (k' := ?_); rw [g3])) <;> (refine zF ?_)) <;> ((refine zH (i := 22) rfl ?_; (refine zI (k := ?_)) <;> (refine zF ?_)) <;> (refine zq (hK _ _ ?_); clear hK K))))))))); (case' tq8 => ((refine zH (i := 18) rfl ?_; ((refine z4 (v := .string x.v.d) (j := j * 5 + 4) (hq := by simp [Addr.add]; split <;> simp_all <;> omega) (hr := h1.any) (hv := prC_cell (r := 4) hx (by omega) rfl) (k := ?_))) <;> (refine zF ?_)) <;> (refine z0 ?tp9 ?tq9; (case' tp9 => ((refine zH (i := 9) rfl ?_; ((refine zp (k' := ?_); rw [g1])) <;> (refine zF ?_)) <;> ((refine zH (i := 10) rfl ?_; (refine zm (k' := ?_)) <;> (refine zF ?_)) <;> ((refine zH (i := 19) rfl ?_; (refine zj (k' := ?_)) <;> (refine zF ?_)) <;> ((refine zH (i := 20) rfl ?_; ((refine zp (k' := ?_); rw [g2])) <;> (refine zF ?_)) <;> ((refine zH (i := 21) rfl ?_; ((refine zm (k' := ?_); rw [g3])) <;> (refine zF ?_)) <;> ((refine zH (i := 22) rfl ?_; (refine zI (k := ?_)) <;> (refine zF ?_)) <;> (refine zq (hK _ _ ?_); clear hK K)))))))); (case' tq9 => ((refine zH (i := 19) rfl ?_; (refine zj (k' := ?_)) <;> (refine zF ?_)) <;> (refine z0 ?tp10 ?tq10; (case' tp10 => ((refine zH (i := 9) rfl ?_; ((refine zp (k' := ?_); rw [g1])) <;> (refine zF ?_)) <;> ((refine zH (i := 10) rfl ?_; (refine zm (k' := ?_)) <;> (refine zF ?_)) <;> ((refine zH (i := 20) rfl ?_; ((refine zp (k' := ?_); rw [g2])) <;> (refine zF ?_)) <;> ((refine zH (i := 21) rfl ?_; ((refine zm (k' := ?_); rw [g3])) <;> (refine zF ?_)) <;> ((refine zH (i := 22) rfl ?_; (refine zI (k := ?_)) <;> (refine zF ?_)) <;> (refine zq (hK _ _ ?_); clear hK K))))))); (case' tq10 => ((refine zH (i := 20) rfl ?_; ((refine zp (k' := ?_); rw [g2])) <;> (refine zF ?_)) <;> ((refine zH (i := 9) rfl ?_; ((refine zp (k' := ?_); rw [g1])) <;> (refine zF ?_)) <;> ((refine zH (i := 10) rfl ?_; (refine zm (k' := ?_)) <;> (refine zF ?_)) <;> ((refine zH (i := 21) rfl ?_; ((refine zm (k' := ?_); rw [g3])) <;> (refine zF ?_)) <;> ((refine zH (i := 22) rfl ?_; (refine zI (k := ?_)) <;> (refine zF ?_)) <;> (refine zq (hK _ _ ?_); clear hK K)))))))))))))))); (case' tq7 => ((refine zH (i := 18) rfl ?_; ((refine z4 (v := .string x.v.d) (j := j * 5 + 4) (hq := by simp [Addr.add]; split <;> simp_all <;> omega) (hr := h1.any) (hv := prC_cell (r := 4) hx (by omega) rfl) (k := ?_))) <;> (refine zF ?_)) <;> (refine z0 ?tp11 ?tq11; (case' tp11 => ((refine zH (i := 8) rfl ?_; (refine zj (k' := ?_)) <;> (refine zF ?_)) <;> (refine z0 ?tp12 ?tq12; (case' tp12 => ((refine zH (i := 9) rfl ?_; ((refine zp (k' := ?_); rw [g1])) <;> (refine zF ?_)) <;> ((refine zH (i := 10) rfl ?_; (refine zm (k' := ?_)) <;> (refine zF ?_)) <;> ((refine zH (i := 19) rfl ?_; (refine zj (k' := ?_)) <;> (refine zF ?_)) <;> ((refine zH (i := 20) rfl ?_; ((refine zp (k' := ?_); rw [g2])) <;> (refine zF ?_)) <;> ((refine zH (i := 21) rfl ?_; ((refine zm (k' := ?_); rw [g3])) <;> (refine zF ?_)) <;> ((refine zH (i := 22) rfl ?_; (refine zI (k := ?_)) <;> (refine zF ?_)) <;> (refine zq (hK _ _ ?_); clear hK K)))))))); (case' tq12 => ((refine zH (i := 19) rfl ?_; (refine zj (k' := ?_)) <;> (refine zF ?_)) <;> (refine z0 ?tp13 ?tq13; (case' tp13 => ((refine zH (i := 9) rfl ?_; ((refine zp (k' := ?_); rw [g1])) <;> (refine zF ?_)) <;> ((refine zH (i := 10) rfl ?_; (refine zm (k' := ?_)) <;> (refine zF ?_)) <;> ((refine zH (i := 20) rfl ?_; ((refine zp (k' := ?_); rw [g2])) <;> (refine zF ?_)) <;> ((refine zH (i := 21) rfl ?_; ((refine zm (k' := ?_); rw [g3])) <;> (refine zF ?_)) <;> ((refine zH (i := 22) rfl ?_; (refine zI (k := ?_)) <;> (refine zF ?_)) <;> (refine zq (hK _ _ ?_); clear hK K))))))); (case' tq13 => ((refine zH (i := 20) rfl ?_; ((refine zp (k' := ?_); rw [g2])) <;> (refine zF ?_)) <;> ((refine zH (i := 9) rfl ?_; ((refine zp (k' := ?_); rw [g1])) <;> (refine zF ?_)) <;> ((refine zH (i := 10) rfl ?_; (refine zm (k' := ?_)) <;> (refine zF ?_)) <;> ((refine zH (i := 21) rfl ?_; ((refine zm (k' := ?_); rw [g3])) <;> (refine zF ?_)) <;> ((refine zH (i := 22) rfl ?_; (refine zI (k := ?_)) <;> (refine zF ?_)) <;> (refine zq (hK _ _ ?_); clear hK K))))))))))))); (case' tq11 => ((refine zH (i := 19) rfl ?_; (refine zj (k' := ?_)) <;> (refine zF ?_)) <;> (refine z0 ?tp14 ?tq14; (case' tp14 => ((refine zH (i := 8) rfl ?_; (refine zj (k' := ?_)) <;> (refine zF ?_)) <;> (refine z0 ?tp15 ?tq15; (case' tp15 => ((refine zH (i := 9) rfl ?_; ((refine zp (k' := ?_); rw [g1])) <;> (refine zF ?_)) <;> ((refine zH (i := 10) rfl ?_; (refine zm (k' := ?_)) <;> (refine zF ?_)) <;> ((refine zH (i := 20) rfl ?_; ((refine zp (k' := ?_); rw [g2])) <;> (refine zF ?_)) <;> ((refine zH (i := 21) rfl ?_; ((refine zm (k' := ?_); rw [g3])) <;> (refine zF ?_)) <;> ((refine zH (i := 22) rfl ?_; (refine zI (k := ?_)) <;> (refine zF ?_)) <;> (refine zq (hK _ _ ?_); clear hK K))))))); (case' tq15 => ((refine zH (i := 20) rfl ?_; ((refine zp (k' := ?_); rw [g2])) <;> (refine zF ?_)) <;> ((refine zH (i := 9) rfl ?_; ((refine zp (k' := ?_); rw [g1])) <;> (refine zF ?_)) <;> ((refine zH (i := 10) rfl ?_; (refine zm (k' := ?_)) <;> (refine zF ?_)) <;> ((refine zH (i := 21) rfl ?_; ((refine zm (k' := ?_); rw [g3])) <;> (refine zF ?_)) <;> ((refine zH (i := 22) rfl ?_; (refine zI (k := ?_)) <;> (refine zF ?_)) <;> (refine zq (hK _ _ ?_); clear hK K)))))))))); (case' tq14 => ((refine zH (i := 20) rfl ?_; ((refine zp (k' := ?_); rw [g2])) <;> (refine zF ?_)) <;> ((refine zH (i := 8) rfl ?_; (refine zj (k' := ?_)) <;> (refine zF ?_)) <;> ((refine zH (i := 9) rfl ?_; ((refine zp (k' := ?_); rw [g1])) <;> (refine zF ?_)) <;> ((refine zH (i := 10) rfl ?_; (refine zm (k' := ?_)) <;> (refine zF ?_)) <;> ((refine zH (i := 21) rfl ?_; ((refine zm (k' := ?_); rw [g3])) <;> (refine zF ?_)) <;> ((refine zH (i := 22) rfl ?_; (refine zI (k := ?_)) <;> (refine zF ?_)) <;> (refine zq (hK _ _ ?_); clear hK K))))))))))))))))))))))); (case' tq1 => ((refine zH (i := 13) rfl ?_; (refine zM (k := ?_)) <;> (refine zF ?_)) <;> ((refine zH (i := 15) rfl ?_; ((refine zo (k' := ?_))) <;> (refine zF ?_)) <;> ((refine zH (i := 16) rfl ?_; ((refine zu (k := ?_))) <;> (refine zF ?_)) <;> ((refine zH (i := 17) rfl ?_; ((refine zu (k := ?_))) <;> (refine zF ?_)) <;> (refine z0 ?tp16 ?tq16; (case' tp16 => ((refine zH (i := 7) rfl ?_; ((refine z4 (v := .string x.k) (j := j * 5) (hq := by simp [Addr.add]) (hr := h1.any) (hv := by simpa using prC_cell (r := 0) hx (by omega) rfl) (k := ?_))) <;> (refine zF ?_)) <;> (refine z0 ?tp17 ?tq17; (case' tp17 => ((refine zH (i := 8) rfl ?_; (refine zj (k' := ?_)) <;> (refine zF ?_)) <;> (refine z0 ?tp18 ?tq18; (case' tp18 => ((refine zH (i := 9) rfl ?_; ((refine zp (k' := ?_); rw [g1])) <;> (refine zF ?_)) <;> ((refine zH (i := 10) rfl ?_; (refine zm (k' := ?_)) <;> (refine zF ?_)) <;> ((refine zH (i := 18) rfl ?_; ((refine z4 (v := .string x.v.d) (j := j * 5 + 4) (hq := by simp [Addr.add]; split <;> simp_all <;> omega) (hr := h1.any) (hv := prC_cell (r := 4) hx (by omega) rfl) (k := ?_))) <;> (refine zF ?_)) <;> ((refine zH (i := 19) rfl ?_; (refine zj (k' := ?_)) <;> (refine zF ?_)) <;> ((refine zH (i := 20) rfl ?_; ((refine zp (k' := ?_); rw [g2])) <;> (refine zF ?_)) <;> ((refine zH (i := 21) rfl ?_; ((refine zm (k' := ?_); rw [g3])) <;> (refine zF ?_)) <;> ((refine zH (i := 22) rfl ?_; (refine zI (k := ?_)) <;> (refine zF ?_)) <;> (refine zq (hK _ _ ?_); clear hK K))))))))); (case' tq18 => ((refine zH (i := 18) rfl ?_; ((refine z4 (v := .string x.v.d) (j := j * 5 + 4) (hq := by simp [Addr.add]; split <;> simp_all <;> omega) (hr := h1.any) (hv := prC_cell (r := 4) hx (by omega) rfl) (k := ?_))) <;> (refine zF ?_)) <;> (refine z0 ?tp19 ?tq19; (case' tp19 => ((refine zH (i := 9) rfl ?_; ((refine zp (k' := ?_); rw [g1])) <;> (refine zF ?_)) <;> ((refine zH (i := 10) rfl ?_; (refine zm (k' := ?_)) <;> (refine zF ?_)) <;> ((refine zH (i := 19) rfl ?_; (refine zj (k' := ?_)) <;> (refine zF ?_)) <;> ((refine zH (i := 20) rfl ?_; ((refine zp (k' := ?_); rw [g2])) <;> (refine zF ?_)) <;> ((refine zH (i := 21) rfl ?_; ((refine zm (k' := ?_); rw [g3])) <;> (refine zF ?_)) <;> ((refine zH (i := 22) rfl ?_; (refine zI (k := ?_)) <;> (refine zF ?_)) <;> (refine zq (hK _ _ ?_); clear hK K)))))))); (case' tq19 => ((refine zH (i := 19) rfl ?_; (refine zj (k' := ?_)) <;> (refine zF ?_)) <;> (refine z0 ?tp20 ?tq20; (case' tp20 => ((refine zH (i := 9) rfl ?_; ((refine zp (k' := ?_); rw [g1])) <;> (refine zF ?_)) <;> ((refine zH (i := 10) rfl ?_; (refine zm (k' := ?_)) <;> (refine zF ?_)) <;> ((refine zH (i := 20) rfl ?_; ((refine zp (k' := ?_); rw [g2])) <;> (refine zF ?_)) <;> ((refine zH (i := 21) rfl ?_; ((refine zm (k' := ?_); rw [g3])) <;> (refine zF ?_)) <;> ((refine zH (i := 22) rfl ?_; (refine zI (k := ?_)) <;> (refine zF ?_)) <;> (refine zq (hK _ _ ?_); clear hK K))))))); (case' tq20 => ((refine zH (i := 20) rfl ?_; ((refine zp (k' := ?_); rw [g2])) <;> (refine zF ?_)) <;> ((refine zH (i := 9) rfl ?_; ((refine zp (k' := ?_); rw [g1])) <;> (refine zF ?_)) <;> ((refine zH (i := 10) rfl ?_; (refine zm (k' := ?_)) <;> (refine zF ?_)) <;> ((refine zH (i := 21) rfl ?_; ((refine zm (k' := ?_); rw [g3])) <;> (refine zF ?_)) <;> ((refine zH (i := 22) rfl ?_; (refine zI (k := ?_)) <;> (refine zF ?_)) <;> (refine zq (hK _ _ ?_); clear hK K)))))))))))))))); (case' tq17 => ((refine zH (i := 18) rfl ?_; ((refine z4 (v := .string x.v.d) (j := j * 5 + 4) (hq := by simp [Addr.add]; split <;> simp_all <;> omega) (hr := h1.any) (hv := prC_cell (r := 4) hx (by omega) rfl) (k := ?_))) <;> (refine zF ?_)) <;> (refine z0 ?tp21 ?tq21; (case' tp21 => ((refine zH (i := 8) rfl ?_; (refine zj (k' := ?_)) <;> (refine zF ?_)) <;> (refine z0 ?tp22 ?tq22; (case' tp22 => ((refine zH (i := 9) rfl ?_; ((refine zp (k' := ?_); rw [g1])) <;> (refine zF ?_)) <;> ((refine zH (i := 10) rfl ?_; (refine zm (k' := ?_)) <;> (refine zF ?_)) <;> ((refine zH (i := 19) rfl ?_; (refine zj (k' := ?_)) <;> (refine zF ?_)) <;> ((refine zH (i := 20) rfl ?_; ((refine zp (k' := ?_); rw [g2])) <;> (refine zF ?_)) <;> ((refine zH (i := 21) rfl ?_; ((refine zm (k' := ?_); rw [g3])) <;> (refine zF ?_)) <;> ((refine zH (i := 22) rfl ?_; (refine zI (k := ?_)) <;> (refine zF ?_)) <;> (refine zq (hK _ _ ?_); clear hK K)))))))); (case' tq22 => ((refine zH (i := 19) rfl ?_; (refine zj (k' := ?_)) <;> (refine zF ?_)) <;> (refine z0 ?tp23 ?tq23; (case' tp23 => ((refine zH (i := 9) rfl ?_; ((refine zp (k' := ?_); rw [g1])) <;> (refine zF ?_)) <;> ((refine zH (i := 10) rfl ?_; (refine zm (k' := ?_)) <;> (refine zF ?_)) <;> ((refine zH (i := 20) rfl ?_; ((refine zp (k' := ?_); rw [g2])) <;> (refine zF ?_)) <;> ((refine zH (i := 21) rfl ?_; ((refine zm (k' := ?_); rw [g3])) <;> (refine zF ?_)) <;> ((refine zH (i := 22) rfl ?_; (refine zI (k := ?_)) <;> (refine zF ?_)) <;> (refine zq (hK _ _ ?_); clear hK K))))))); (case' tq23 => ((refine zH (i := 20) rfl ?_; ((refine zp (k' := ?_); rw [g2])) <;> (refine zF ?_)) <;> ((refine zH (i := 9) rfl ?_; ((refine zp (k' := ?_); rw [g1])) <;> (refine zF ?_)) <;> ((refine zH (i := 10) rfl ?_; (refine zm (k' := ?_)) <;> (refine zF ?_)) <;> ((refine zH (i := 21) rfl ?_; ((refine zm (k' := ?_); rw [g3])) <;> (refine zF ?_)) <;> ((refine zH (i := 22) rfl ?_; (refine zI (k := ?_)) <;> (refine zF ?_)) <;> (refine zq (hK _ _ ?_); clear hK K))))))))))))); (case' tq21 => ((refine zH (i := 19) rfl ?_; (refine zj (k' := ?_)) <;> (refine zF ?_)) <;> (refine z0 ?tp24 ?tq24; (case' tp24 => ((refine zH (i := 8) rfl ?_; (refine zj (k' := ?_)) <;> (refine zF ?_)) <;> (refine z0 ?tp25 ?tq25; (case' tp25 => ((refine zH (i := 9) rfl ?_; ((refine zp (k' := ?_); rw [g1])) <;> (refine zF ?_)) <;> ((refine zH (i := 10) rfl ?_; (refine zm (k' := ?_)) <;> (refine zF ?_)) <;> ((refine zH (i := 20) rfl ?_; ((refine zp (k' := ?_); rw [g2])) <;> (refine zF ?_)) <;> ((refine zH (i := 21) rfl ?_; ((refine zm (k' := ?_); rw [g3])) <;> (refine zF ?_)) <;> ((refine zH (i := 22) rfl ?_; (refine zI (k := ?_)) <;> (refine zF ?_)) <;> (refine zq (hK _ _ ?_); clear hK K))))))); (case' tq25 => ((refine zH (i := 20) rfl ?_; ((refine zp (k' := ?_); rw [g2])) <;> (refine zF ?_)) <;> ((refine zH (i := 9) rfl ?_; ((refine zp (k' := ?_); rw [g1])) <;> (refine zF ?_)) <;> ((refine zH (i := 10) rfl ?_; (refine zm (k' := ?_)) <;> (refine zF ?_)) <;> ((refine zH (i := 21) rfl ?_; ((refine zm (k' := ?_); rw [g3])) <;> (refine zF ?_)) <;> ((refine zH (i := 22) rfl ?_; (refine zI (k := ?_)) <;> (refine zF ?_)) <;> (refine zq (hK _ _ ?_); clear hK K)))))))))); (case' tq24 => ((refine zH (i := 20) rfl ?_; ((refine zp (k' := ?_); rw [g2])) <;> (refine zF ?_)) <;> ((refine zH (i := 8) rfl ?_; (refine zj (k' := ?_)) <;> (refine zF ?_)) <;> ((refine zH (i := 9) rfl ?_; ((refine zp (k' := ?_); rw [g1])) <;> (refine zF ?_)) <;> ((refine zH (i := 10) rfl ?_; (refine zm (k' := ?_)) <;> (refine zF ?_)) <;> ((refine zH (i := 21) rfl ?_; ((refine zm (k' := ?_); rw [g3])) <;> (refine zF ?_)) <;> ((refine zH (i := 22) rfl ?_; (refine zI (k := ?_)) <;> (refine zF ?_)) <;> (refine zq (hK _ _ ?_); clear hK K))))))))))))))))); (case' tq16 => ((refine zH (i := 18) rfl ?_; ((refine z4 (v := .string x.v.d) (j := j * 5 + 4) (hq := by simp [Addr.add]; split <;> simp_all <;> omega) (hr := h1.any) (hv := prC_cell (r := 4) hx (by omega) rfl) (k := ?_))) <;> (refine zF ?_)) <;> (refine z0 ?tp26 ?tq26; (case' tp26 => ((refine zH (i := 7) rfl ?_; ((refine z4 (v := .string x.k) (j := j * 5) (hq := by simp [Addr.add]) (hr := h1.any) (hv := by simpa using prC_cell (r := 0) hx (by omega) rfl) (k := ?_))) <;> (refine zF ?_)) <;> (refine z0 ?tp27 ?tq27; (case' tp27 => ((refine zH (i := 8) rfl ?_; (refine zj (k' := ?_)) <;> (refine zF ?_)) <;> (refine z0 ?tp28 ?tq28; (case' tp28 => ((refine zH (i := 9) rfl ?_; ((refine zp (k' := ?_); rw [g1])) <;> (refine zF ?_)) <;> ((refine zH (i := 10) rfl ?_; (refine zm (k' := ?_)) <;> (refine zF ?_)) <;> ((refine zH (i := 19) rfl ?_; (refine zj (k' := ?_)) <;> (refine zF ?_)) <;> ((refine zH (i := 20) rfl ?_; ((refine zp (k' := ?_); rw [g2])) <;> (refine zF ?_)) <;> ((refine zH (i := 21) rfl ?_; ((refine zm (k' := ?_); rw [g3])) <;> (refine zF ?_)) <;> ((refine zH (i := 22) rfl ?_; (refine zI (k := ?_)) <;> (refine zF ?_)) <;> (refine zq (hK _ _ ?_); clear hK K)))))))); (case' tq28 => ((refine zH (i := 19) rfl ?_; (refine zj (k' := ?_)) <;> (refine zF ?_)) <;> (refine z0 ?tp29 ?tq29; (case' tp29 => ((refine zH (i := 9) rfl ?_; ((refine zp (k' := ?_); rw [g1])) <;> (refine zF ?_)) <;> ((refine zH (i := 10) rfl ?_; (refine zm (k' := ?_)) <;> (refine zF ?_)) <;> ((refine zH (i := 20) rfl ?_; ((refine zp (k' := ?_); rw [g2])) <;> (refine zF ?_)) <;> ((refine zH (i := 21) rfl ?_; ((refine zm (k' := ?_); rw [g3])) <;> (refine zF ?_)) <;> ((refine zH (i := 22) rfl ?_; (refine zI (k := ?_)) <;> (refine zF ?_)) <;> (refine zq (hK _ _ ?_); clear hK K))))))); (case' tq29 => ((refine zH (i := 20) rfl ?_; ((refine zp (k' := ?_); rw [g2])) <;> (refine zF ?_)) <;> ((refine zH (i := 9) rfl ?_; ((refine zp (k' := ?_); rw [g1])) <;> (refine zF ?_)) <;> ((refine zH (i := 10) rfl ?_; (refine zm (k' := ?_)) <;> (refine zF ?_)) <;> ((refine zH (i := 21) rfl ?_; ((refine zm (k' := ?_); rw [g3])) <;> (refine zF ?_)) <;> ((refine zH (i := 22) rfl ?_; (refine zI (k := ?_)) <;> (refine zF ?_)) <;> (refine zq (hK _ _ ?_); clear hK K))))))))))))); (case' tq27 => ((refine zH (i := 19) rfl ?_; (refine zj (k' := ?_)) <;> (refine zF ?_)) <;> (refine z0 ?tp30 ?tq30; (case' tp30 => ((refine zH (i := 8) rfl ?_; (refine zj (k' := ?_)) <;> (refine zF ?_)) <;> (refine z0 ?tp31 ?tq31; (case' tp31 => ((refine zH (i := 9) rfl ?_; ((refine zp (k' := ?_); rw [g1])) <;> (refine zF ?_)) <;> ((refine zH (i := 10) rfl ?_; (refine zm (k' := ?_)) <;> (refine zF ?_)) <;> ((refine zH (i := 20) rfl ?_; ((refine zp (k' := ?_); rw [g2])) <;> (refine zF ?_)) <;> ((refine zH (i := 21) rfl ?_; ((refine zm (k' := ?_); rw [g3])) <;> (refine zF ?_)) <;> ((refine zH (i := 22) rfl ?_; (refine zI (k := ?_)) <;> (refine zF ?_)) <;> (refine zq (hK _ _ ?_); clear hK K))))))); (case' tq31 => ((refine zH (i := 20) rfl ?_; ((refine zp (k' := ?_); rw [g2])) <;> (refine zF ?_)) <;> ((refine zH (i := 9) rfl ?_; ((refine zp (k' := ?_); rw [g1])) <;> (refine zF ?_)) <;> ((refine zH (i := 10) rfl ?_; (refine zm (k' := ?_)) <;> (refine zF ?_)) <;> ((refine zH (i := 21) rfl ?_; ((refine zm (k' := ?_); rw [g3])) <;> (refine zF ?_)) <;> ((refine zH (i := 22) rfl ?_; (refine zI (k := ?_)) <;> (refine zF ?_)) <;> (refine zq (hK _ _ ?_); clear hK K)))))))))); (case' tq30 => ((refine zH (i := 20) rfl ?_; ((refine zp (k' := ?_); rw [g2])) <;> (refine zF ?_)) <;> ((refine zH (i := 8) rfl ?_; (refine zj (k' := ?_)) <;> (refine zF ?_)) <;> ((refine zH (i := 9) rfl ?_; ((refine zp (k' := ?_); rw [g1])) <;> (refine zF ?_)) <;> ((refine zH (i := 10) rfl ?_; (refine zm (k' := ?_)) <;> (refine zF ?_)) <;> ((refine zH (i := 21) rfl ?_; ((refine zm (k' := ?_); rw [g3])) <;> (refine zF ?_)) <;> ((refine zH (i := 22) rfl ?_; (refine zI (k := ?_)) <;> (refine zF ?_)) <;> (refine zq (hK _ _ ?_); clear hK K)))))))))))))); (case' tq26 => ((refine zH (i := 19) rfl ?_; (refine zj (k' := ?_)) <;> (refine zF ?_)) <;> (refine z0 ?tp32 ?tq32; (case' tp32 => ((refine zH (i := 7) rfl ?_; ((refine z4 (v := .string x.k) (j := j * 5) (hq := by simp [Addr.add]) (hr := h1.any) (hv := by simpa using prC_cell (r := 0) hx (by omega) rfl) (k := ?_))) <;> (refine zF ?_)) <;> (refine z0 ?tp33 ?tq33; (case' tp33 => ((refine zH (i := 8) rfl ?_; (refine zj (k' := ?_)) <;> (refine zF ?_)) <;> (refine z0 ?tp34 ?tq34; (case' tp34 => ((refine zH (i := 9) rfl ?_; ((refine zp (k' := ?_); rw [g1])) <;> (refine zF ?_)) <;> ((refine zH (i := 10) rfl ?_; (refine zm (k' := ?_)) <;> (refine zF ?_)) <;> ((refine zH (i := 20) rfl ?_; ((refine zp (k' := ?_); rw [g2])) <;> (refine zF ?_)) <;> ((refine zH (i := 21) rfl ?_; ((refine zm (k' := ?_); rw [g3])) <;> (refine zF ?_)) <;> ((refine zH (i := 22) rfl ?_; (refine zI (k := ?_)) <;> (refine zF ?_)) <;> (refine zq (hK _ _ ?_); clear hK K))))))); (case' tq34 => ((refine zH (i := 20) rfl ?_; ((refine zp (k' := ?_); rw [g2])) <;> (refine zF ?_)) <;> ((refine zH (i := 9) rfl ?_; ((refine zp (k' := ?_); rw [g1])) <;> (refine zF ?_)) <;> ((refine zH (i := 10) rfl ?_; (refine zm (k' := ?_)) <;> (refine zF ?_)) <;> ((refine zH (i := 21) rfl ?_; ((refine zm (k' := ?_); rw [g3])) <;> (refine zF ?_)) <;> ((refine zH (i := 22) rfl ?_; (refine zI (k := ?_)) <;> (refine zF ?_)) <;> (refine zq (hK _ _ ?_); clear hK K)))))))))); (case' tq33 => ((refine zH (i := 20) rfl ?_; ((refine zp (k' := ?_); rw [g2])) <;> (refine zF ?_)) <;> ((refine zH (i := 8) rfl ?_; (refine zj (k' := ?_)) <;> (refine zF ?_)) <;> ((refine zH (i := 9) rfl ?_; ((refine zp (k' := ?_); rw [g1])) <;> (refine zF ?_)) <;> ((refine zH (i := 10) rfl ?_; (refine zm (k' := ?_)) <;> (refine zF ?_)) <;> ((refine zH (i := 21) rfl ?_; ((refine zm (k' := ?_); rw [g3])) <;> (refine zF ?_)) <;> ((refine zH (i := 22) rfl ?_; (refine zI (k := ?_)) <;> (refine zF ?_)) <;> (refine zq (hK _ _ ?_); clear hK K))))))))))); (case' tq32 => ((refine zH (i := 20) rfl ?_; ((refine zp (k' := ?_); rw [g2])) <;> (refine zF ?_)) <;> ((refine zH (i := 7) rfl ?_; ((refine z4 (v := .string x.k) (j := j * 5) (hq := by simp [Addr.add]) (hr := h1.any) (hv := by simpa using prC_cell (r := 0) hx (by omega) rfl) (k := ?_))) <;> (refine zF ?_)) <;> ((refine zH (i := 8) rfl ?_; (refine zj (k' := ?_)) <;> (refine zF ?_)) <;> ((refine zH (i := 9) rfl ?_; ((refine zp (k' := ?_); rw [g1])) <;> (refine zF ?_)) <;> ((refine zH (i := 10) rfl ?_; (refine zm (k' := ?_)) <;> (refine zF ?_)) <;> ((refine zH (i := 21) rfl ?_; ((refine zm (k' := ?_); rw [g3])) <;> (refine zF ?_)) <;> ((refine zH (i := 22) rfl ?_; (refine zI (k := ?_)) <;> (refine zF ?_)) <;> (refine zq (hK _ _ ?_); clear hK K)))))))))))))))))))))))))); (case' tq0 => ((refine zH (i := 13) rfl ?_; (refine zM (k := ?_)) <;> (refine zF ?_)) <;> ((refine zH (i := 15) rfl ?_; ((refine zo (k' := ?_))) <;> (refine zF ?_)) <;> ((refine zH (i := 16) rfl ?_; ((refine zu (k := ?_))) <;> (refine zF ?_)) <;> ((refine zH (i := 17) rfl ?_; ((refine zu (k := ?_))) <;> (refine zF ?_)) <;> (refine z0 ?tp35 ?tq35; (case' tp35 => ((refine zH (i := 3) rfl ?_; (refine zM (k := ?_)) <;> (refine zF ?_)) <;> ((refine zH (i := 5) rfl ?_; ((refine zo (k' := ?_))) <;> (refine zF ?_)) <;> ((refine zH (i := 6) rfl ?_; ((refine zu (k := ?_))) <;> (refine zF ?_)) <;> (refine z0 ?tp36 ?tq36; (case' tp36 => ((refine zH (i := 7) rfl ?_; ((refine z4 (v := .string x.k) (j := j * 5) (hq := by simp [Addr.add]) (hr := h1.any) (hv := by simpa using prC_cell (r := 0) hx (by omega) rfl) (k := ?_))) <;> (refine zF ?_)) <;> (refine z0 ?tp37 ?tq37; (case' tp37 => ((refine zH (i := 8) rfl ?_; (refine zj (k' := ?_)) <;> (refine zF ?_)) <;> (refine z0 ?tp38 ?tq38; (case' tp38 => ((refine zH (i := 9) rfl ?_; ((refine zp (k' := ?_); rw [g1])) <;> (refine zF ?_)) <;> ((refine zH (i := 10) rfl ?_; (refine zm (k' := ?_)) <;> (refine zF ?_)) <;> ((refine zH (i := 18) rfl ?_; ((refine z4 (v := .string x.v.d) (j := j * 5 + 4) (hq := by simp [Addr.add]; split <;> simp_all <;> omega) (hr := h1.any) (hv := prC_cell (r := 4) hx (by omega) rfl) (k := ?_))) <;> (refine zF ?_)) <;> ((refine zH (i := 19) rfl ?_; (refine zj (k' := ?_)) <;> (refine zF ?_)) <;> ((refine zH (i := 20) rfl ?_; ((refine zp (k' := ?_); rw [g2])) <;> (refine zF ?_)) <;> ((refine zH (i := 21) rfl ?_; ((refine zm (k' := ?_); rw [g3])) <;> (refine zF ?_)) <;> ((refine zH (i := 22) rfl ?_; (refine zI (k := ?_)) <;> (refine zF ?_)) <;> (refine zq (hK _ _ ?_); clear hK K))))))))); (case' tq38 => ((refine zH (i := 18) rfl ?_; ((refine z4 (v := .string x.v.d) (j := j * 5 + 4) (hq := by simp [Addr.add]; split <;> simp_all <;> omega) (hr := h1.any) (hv := prC_cell (r := 4) hx (by omega) rfl) (k := ?_))) <;> (refine zF ?_)) <;> (refine z0 ?tp39 ?tq39; (case' tp39 => ((refine zH (i := 9) rfl ?_; ((refine zp (k' := ?_); rw [g1])) <;> (refine zF ?_)) <;> ((refine zH (i := 10) rfl ?_; (refine zm (k' := ?_)) <;> (refine zF ?_)) <;> ((refine zH (i := 19) rfl ?_; (refine zj (k' := ?_)) <;> (refine zF ?_)) <;> ((refine zH (i := 20) rfl ?_; ((refine zp (k' := ?_); rw [g2])) <;> (refine zF ?_)) <;> ((refine zH (i := 21) rfl ?_; ((refine zm (k' := ?_); rw [g3])) <;> (refine zF ?_)) <;> ((refine zH (i := 22) rfl ?_; (refine zI (k := ?_)) <;> (refine zF ?_)) <;> (refine zq (hK _ _ ?_); clear hK K)))))))); (case' tq39 => ((refine zH (i := 19) rfl ?_; (refine zj (k' := ?_)) <;> (refine zF ?_)) <;> (refine z0 ?tp40 ?tq40; (case' tp40 => ((refine zH (i := 9) rfl ?_; ((refine zp (k' := ?_); rw [g1])) <;> (refine zF ?_)) <;> ((refine zH (i := 10) rfl ?_; (refine zm (k' := ?_)) <;> (refine zF ?_)) <;> ((refine zH (i := 20) rfl ?_; ((refine zp (k' := ?_); rw [g2])) <;> (refine zF ?_)) <;> ((refine zH (i := 21) rfl ?_; ((refine zm (k' := ?_); rw [g3])) <;> (refine zF ?_)) <;> ((refine zH (i := 22) rfl ?_; (refine zI (k := ?_)) <;> (refine zF ?_)) <;> (refine zq (hK _ _ ?_); clear hK K))))))); (case' tq40 => ((refine zH (i := 20) rfl ?_; ((refine zp (k' := ?_); rw [g2])) <;> (refine zF ?_)) <;> ((refine zH (i := 9) rfl ?_; ((refine zp (k' := ?_); rw [g1])) <;> (refine zF ?_)) <;> ((refine zH (i := 10) rfl ?_; (refine zm (k' := ?_)) <;> (refine zF ?_)) <;> ((refine zH (i := 21) rfl ?_; ((refine zm (k' := ?_); rw [g3])) <;> (refine zF ?_)) <;> ((refine zH (i := 22) rfl ?_; (refine zI (k := ?_)) <;> (refine zF ?_)) <;> (refine zq (hK _ _ ?_); clear hK K)))))))))))))))); (case' tq37 => ((refine zH (i := 18) rfl ?_; ((refine z4 (v := .string x.v.d) (j := j * 5 + 4) (hq := by simp [Addr.add]; split <;> simp_all <;> omega) (hr := h1.any) (hv := prC_cell (r := 4) hx (by omega) rfl) (k := ?_))) <;> (refine zF ?_)) <;> (refine z0 ?tp41 ?tq41; (case' tp41 => ((refine zH (i := 8) rfl ?_; (refine zj (k' := ?_)) <;> (refine zF ?_)) <;> (refine z0 ?tp42 ?tq42; (case' tp42 => ((refine zH (i := 9) rfl ?_; ((refine zp (k' := ?_); rw [g1])) <;> (refine zF ?_)) <;> ((refine zH (i := 10) rfl ?_; (refine zm (k' := ?_)) <;> (refine zF ?_)) <;> ((refine zH (i := 19) rfl ?_; (refine zj (k' := ?_)) <;> (refine zF ?_)) <;> ((refine zH (i := 20) rfl ?_; ((refine zp (k' := ?_); rw [g2])) <;> (refine zF ?_)) <;> ((refine zH (i := 21) rfl ?_; ((refine zm (k' := ?_); rw [g3])) <;> (refine zF ?_)) <;> ((refine zH (i := 22) rfl ?_; (refine zI (k := ?_)) <;> (refine zF ?_)) <;> (refine zq (hK _ _ ?_); clear hK K)))))))); (case' tq42 => ((refine zH (i := 19) rfl ?_; (refine zj (k' := ?_)) <;> (refine zF ?_)) <;> (refine z0 ?tp43 ?tq43; (case' tp43 => ((refine zH (i := 9) rfl ?_; ((refine zp (k' := ?_); rw [g1])) <;> (refine zF ?_)) <;> ((refine zH (i := 10) rfl ?_; (refine zm (k' := ?_)) <;> (refine zF ?_)) <;> ((refine zH (i := 20) rfl ?_; ((refine zp (k' := ?_); rw [g2])) <;> (refine zF ?_)) <;> ((refine zH (i := 21) rfl ?_; ((refine zm (k' := ?_); rw [g3])) <;> (refine zF ?_)) <;> ((refine zH (i := 22) rfl ?_; (refine zI (k := ?_)) <;> (refine zF ?_)) <;> (refine zq (hK _ _ ?_); clear hK K))))))); (case' tq43 => ((refine zH (i := 20) rfl ?_; ((refine zp (k' := ?_); rw [g2])) <;> (refine zF ?_)) <;> ((refine zH (i := 9) rfl ?_; ((refine zp (k' := ?_); rw [g1])) <;> (refine zF ?_)) <;> ((refine zH (i := 10) rfl ?_; (refine zm (k' := ?_)) <;> (refine zF ?_)) <;> ((refine zH (i := 21) rfl ?_; ((refine zm (k' := ?_); rw [g3])) <;> (refine zF ?_)) <;> ((refine zH (i := 22) rfl ?_; (refine zI (k := ?_)) <;> (refine zF ?_)) <;> (refine zq (hK _ _ ?_); clear hK K))))))))))))); (case' tq41 => ((refine zH (i := 19) rfl ?_; (refine zj (k' := ?_)) <;> (refine zF ?_)) <;> (refine z0 ?tp44 ?tq44; (case' tp44 => ((refine zH (i := 8) rfl ?_; (refine zj (k' := ?_)) <;> (refine zF ?_)) <;> (refine z0 ?tp45 ?tq45; (case' tp45 => ((refine zH (i := 9) rfl ?_; ((refine zp (k' := ?_); rw [g1])) <;> (refine zF ?_)) <;> ((refine zH (i := 10) rfl ?_; (refine zm (k' := ?_)) <;> (refine zF ?_)) <;> ((refine zH (i := 20) rfl ?_; ((refine zp (k' := ?_); rw [g2])) <;> (refine zF ?_)) <;> ((refine zH (i := 21) rfl ?_; ((refine zm (k' := ?_); rw [g3])) <;> (refine zF ?_)) <;> ((refine zH (i := 22) rfl ?_; (refine zI (k := ?_)) <;> (refine zF ?_)) <;> (refine zq (hK _ _ ?_); clear hK K))))))); (case' tq45 => ((refine zH (i := 20) rfl ?_; ((refine zp (k' := ?_); rw [g2])) <;> (refine zF ?_)) <;> ((refine zH (i := 9) rfl ?_; ((refine zp (k' := ?_); rw [g1])) <;> (refine zF ?_)) <;> ((refine zH (i := 10) rfl ?_; (refine zm (k' := ?_)) <;> (refine zF ?_)) <;> ((refine zH (i := 21) rfl ?_; ((refine zm (k' := ?_); rw [g3])) <;> (refine zF ?_)) <;> ((refine zH (i := 22) rfl ?_; (refine zI (k := ?_)) <;> (refine zF ?_)) <;> (refine zq (hK _ _ ?_); clear hK K)))))))))); (case' tq44 => ((refine zH (i := 20) rfl ?_; ((refine zp (k' := ?_); rw [g2])) <;> (refine zF ?_)) <;> ((refine zH (i := 8) rfl ?_; (refine zj (k' := ?_)) <;> (refine zF ?_)) <;> ((refine zH (i := 9) rfl ?_; ((refine zp (k' := ?_); rw [g1])) <;> (refine zF ?_)) <;> ((refine zH (i := 10) rfl ?_; (refine zm (k' := ?_)) <;> (refine zF ?_)) <;> ((refine zH (i := 21) rfl ?_; ((refine zm (k' := ?_); rw [g3])) <;> (refine zF ?_)) <;> ((refine zH (i := 22) rfl ?_; (refine zI (k := ?_)) <;> (refine zF ?_)) <;> (refine zq (hK _ _ ?_); clear hK K))))))))))))))))); (case' tq36 => ((refine zH (i := 18) rfl ?_; ((refine z4 (v := .string x.v.d) (j := j * 5 + 4) (hq := by simp [Addr.add]; split <;> simp_all <;> omega) (hr := h1.any) (hv := prC_cell (r := 4) hx (by omega) rfl) (k := ?_))) <;> (refine zF ?_)) <;> (refine z0 ?tp46 ?tq46; (case' tp46 => ((refine zH (i := 7) rfl ?_; ((refine z4 (v := .string x.k) (j := j * 5) (hq := by simp [Addr.add]) (hr := h1.any) (hv := by simpa using prC_cell (r := 0) hx (by omega) rfl) (k := ?_))) <;> (refine zF ?_)) <;> (refine z0 ?tp47 ?tq47; (case' tp47 => ((refine zH (i := 8) rfl ?_; (refine zj (k' := ?_)) <;> (refine zF ?_)) <;> (refine z0 ?tp48 ?tq48; (case' tp48 => ((refine zH (i := 9) rfl ?_; ((refine zp (k' := ?_); rw [g1])) <;> (refine zF ?_)) <;> ((refine zH (i := 10) rfl ?_; (refine zm (k' := ?_)) <;> (refine zF ?_)) <;> ((refine zH (i := 19) rfl ?_; (refine zj (k' := ?_)) <;> (refine zF ?_)) <;> ((refine zH (i := 20) rfl ?_; ((refine zp (k' := ?_); rw [g2])) <;> (refine zF ?_)) <;> ((refine zH (i := 21) rfl ?_; ((refine zm (k' := ?_); rw [g3])) <;> (refine zF ?_)) <;> ((refine zH (i := 22) rfl ?_; (refine zI (k := ?_)) <;> (refine zF ?_)) <;> (refine zq (hK _ _ ?_); clear hK K)))))))); (case' tq48 => ((refine zH (i := 19) rfl ?_; (refine zj (k' := ?_)) <;> (refine zF ?_)) <;> (refine z0 ?tp49 ?tq49; (case' tp49 => ((refine zH (i := 9) rfl ?_; ((refine zp (k' := ?_); rw [g1])) <;> (refine zF ?_)) <;> ((refine zH (i := 10) rfl ?_; (refine zm (k' := ?_)) <;> (refine zF ?_)) <;> ((refine zH (i := 20) rfl ?_; ((refine zp (k' := ?_); rw [g2])) <;> (refine zF ?_)) <;> ((refine zH (i := 21) rfl ?_; ((refine zm (k' := ?_); rw [g3])) <;> (refine zF ?_)) <;> ((refine zH (i := 22) rfl ?_; (refine zI (k := ?_)) <;> (refine zF ?_)) <;> (refine zq (hK _ _ ?_); clear hK K))))))); (case' tq49 => ((refine zH (i := 20) rfl ?_; ((refine zp (k' := ?_); rw [g2])) <;> (refine zF ?_)) <;> ((refine zH (i := 9) rfl ?_; ((refine zp (k' := ?_); rw [g1])) <;> (refine zF ?_)) <;> ((refine zH (i := 10) rfl ?_; (refine zm (k' := ?_)) <;> (refine zF ?_)) <;> ((refine zH (i := 21) rfl ?_; ((refine zm (k' := ?_); rw [g3])) <;> (refine zF ?_)) <;> ((refine zH (i := 22) rfl ?_; (refine zI (k := ?_)) <;> (refine zF ?_)) <;> (refine zq (hK _ _ ?_); clear hK K))))))))))))); (case' tq47 => ((refine zH (i := 19) rfl ?_; (refine zj (k' := ?_)) <;> (refine zF ?_)) <;> (refine z0 ?tp50 ?tq50; (case' tp50 => ((refine zH (i := 8) rfl ?_; (refine zj (k' := ?_)) <;> (refine zF ?_)) <;> (refine z0 ?tp51 ?tq51; (case' tp51 => ((refine zH (i := 9) rfl ?_; ((refine zp (k' := ?_); rw [g1])) <;> (refine zF ?_)) <;> ((refine zH (i := 10) rfl ?_; (refine zm (k' := ?_)) <;> (refine zF ?_)) <;> ((refine zH (i := 20) rfl ?_; ((refine zp (k' := ?_); rw [g2])) <;> (refine zF ?_)) <;> ((refine zH (i := 21) rfl ?_; ((refine zm (k' := ?_); rw [g3])) <;> (refine zF ?_)) <;> ((refine zH (i := 22) rfl ?_; (refine zI (k := ?_)) <;> (refine zF ?_)) <;> (refine zq (hK _ _ ?_); clear hK K))))))); (case' tq51 => ((refine zH (i := 20) rfl ?_; ((refine zp (k' := ?_); rw [g2])) <;> (refine zF ?_)) <;> ((refine zH (i := 9) rfl ?_; ((refine zp (k' := ?_); rw [g1])) <;> (refine zF ?_)) <;> ((refine zH (i := 10) rfl ?_; (refine zm (k' := ?_)) <;> (refine zF ?_)) <;> ((refine zH (i := 21) rfl ?_; ((refine zm (k' := ?_); rw [g3])) <;> (refine zF ?_)) <;> ((refine zH (i := 22) rfl ?_; (refine zI (k := ?_)) <;> (refine zF ?_)) <;> (refine zq (hK _ _ ?_); clear hK K)))))))))); (case' tq50 => ((refine zH (i := 20) rfl ?_; ((refine zp (k' := ?_); rw [g2])) <;> (refine zF ?_)) <;> ((refine zH (i := 8) rfl ?_; (refine zj (k' := ?_)) <;> (refine zF ?_)) <;> ((refine zH (i := 9) rfl ?_; ((refine zp (k' := ?_); rw [g1])) <;> (refine zF ?_)) <;> ((refine zH (i := 10) rfl ?_; (refine zm (k' := ?_)) <;> (refine zF ?_)) <;> ((refine zH (i := 21) rfl ?_; ((refine zm (k' := ?_); rw [g3])) <;> (refine zF ?_)) <;> ((refine zH (i := 22) rfl ?_; (refine zI (k := ?_)) <;> (refine zF ?_)) <;> (refine zq (hK _ _ ?_); clear hK K)))))))))))))); (case' tq46 => ((refine zH (i := 19) rfl ?_; (refine zj (k' := ?_)) <;> (refine zF ?_)) <;> (refine z0 ?tp52 ?tq52; (case' tp52 => ((refine zH (i := 7) rfl ?_; ((refine z4 (v := .string x.k) (j := j * 5) (hq := by simp [Addr.add]) (hr := h1.any) (hv := by simpa using prC_cell (r := 0) hx (by omega) rfl) (k := ?_))) <;> (refine zF ?_)) <;> (refine z0 ?tp53 ?tq53; (case' tp53 => ((refine zH (i := 8) rfl ?_; (refine zj (k' := ?_)) <;> (refine zF ?_)) <;> (refine z0 ?tp54 ?tq54; (case' tp54 => ((refine zH (i := 9) rfl ?_; ((refine zp (k' := ?_); rw [g1])) <;> (refine zF ?_)) <;> ((refine zH (i := 10) rfl ?_; (refine zm (k' := ?_)) <;> (refine zF ?_)) <;> ((refine zH (i := 20) rfl ?_; ((refine zp (k' := ?_); rw [g2])) <;> (refine zF ?_)) <;> ((refine zH (i := 21) rfl ?_; ((refine zm (k' := ?_); rw [g3])) <;> (refine zF ?_)) <;> ((refine zH (i := 22) rfl ?_; (refine zI (k := ?_)) <;> (refine zF ?_)) <;> (refine zq (hK _ _ ?_); clear hK K))))))); (case' tq54 => ((refine zH (i := 20) rfl ?_; ((refine zp (k' := ?_); rw [g2])) <;> (refine zF ?_)) <;> ((refine zH (i := 9) rfl ?_; ((refine zp (k' := ?_); rw [g1])) <;> (refine zF ?_)) <;> ((refine zH (i := 10) rfl ?_; (refine zm (k' := ?_)) <;> (refine zF ?_)) <;> ((refine zH (i := 21) rfl ?_; ((refine zm (k' := ?_); rw [g3])) <;> (refine zF ?_)) <;> ((refine zH (i := 22) rfl ?_; (refine zI (k := ?_)) <;> (refine zF ?_)) <;> (refine zq (hK _ _ ?_); clear hK K)))))))))); (case' tq53 => ((refine zH (i := 20) rfl ?_; ((refine zp (k' := ?_); rw [g2])) <;> (refine zF ?_)) <;> ((refine zH (i := 8) rfl ?_; (refine zj (k' := ?_)) <;> (refine zF ?_)) <;> ((refine zH (i := 9) rfl ?_; ((refine zp (k' := ?_); rw [g1])) <;> (refine zF ?_)) <;> ((refine zH (i := 10) rfl ?_; (refine zm (k' := ?_)) <;> (refine zF ?_)) <;> ((refine zH (i := 21) rfl ?_; ((refine zm (k' := ?_); rw [g3])) <;> (refine zF ?_)) <;> ((refine zH (i := 22) rfl ?_; (refine zI (k := ?_)) <;> (refine zF ?_)) <;> (refine zq (hK _ _ ?_); clear hK K))))))))))); (case' tq52 => ((refine zH (i := 20) rfl ?_; ((refine zp (k' := ?_); rw [g2])) <;> (refine zF ?_)) <;> ((refine zH (i := 7) rfl ?_; ((refine z4 (v := .string x.k) (j := j * 5) (hq := by simp [Addr.add]) (hr := h1.any) (hv := by simpa using prC_cell (r := 0) hx (by omega) rfl) (k := ?_))) <;> (refine zF ?_)) <;> ((refine zH (i := 8) rfl ?_; (refine zj (k' := ?_)) <;> (refine zF ?_)) <;> ((refine zH (i := 9) rfl ?_; ((refine zp (k' := ?_); rw [g1])) <;> (refine zF ?_)) <;> ((refine zH (i := 10) rfl ?_; (refine zm (k' := ?_)) <;> (refine zF ?_)) <;> ((refine zH (i := 21) rfl ?_; ((refine zm (k' := ?_); rw [g3])) <;> (refine zF ?_)) <;> ((refine zH (i := 22) rfl ?_; (refine zI (k := ?_)) <;> (refine zF ?_)) <;> (refine zq (hK _ _ ?_); clear hK K)))))))))))))))))))); (case' tq35 => ((refine zH (i := 18) rfl ?_; ((refine z4 (v := .string x.v.d) (j := j * 5 + 4) (hq := by simp [Addr.add]; split <;> simp_all <;> omega) (hr := h1.any) (hv := prC_cell (r := 4) hx (by omega) rfl) (k := ?_))) <;> (refine zF ?_)) <;> (refine z0 ?tp55 ?tq55; (case' tp55 => ((refine zH (i := 3) rfl ?_; (refine zM (k := ?_)) <;> (refine zF ?_)) <;> ((refine zH (i := 5) rfl ?_; ((refine zo (k' := ?_))) <;> (refine zF ?_)) <;> ((refine zH (i := 6) rfl ?_; ((refine zu (k := ?_))) <;> (refine zF ?_)) <;> (refine z0 ?tp56 ?tq56; (case' tp56 => ((refine zH (i := 7) rfl ?_; ((refine z4 (v := .string x.k) (j := j * 5) (hq := by simp [Addr.add]) (hr := h1.any) (hv := by simpa using prC_cell (r := 0) hx (by omega) rfl) (k := ?_))) <;> (refine zF ?_)) <;> (refine z0 ?tp57 ?tq57; (case' tp57 => ((refine zH (i := 8) rfl ?_; (refine zj (k' := ?_)) <;> (refine zF ?_)) <;> (refine z0 ?tp58 ?tq58; (case' tp58 => ((refine zH (i := 9) rfl ?_; ((refine zp (k' := ?_); rw [g1])) <;> (refine zF ?_)) <;> ((refine zH (i := 10) rfl ?_; (refine zm (k' := ?_)) <;> (refine zF ?_)) <;> ((refine zH (i := 19) rfl ?_; (refine zj (k' := ?_)) <;> (refine zF ?_)) <;> ((refine zH (i := 20) rfl ?_; ((refine zp (k' := ?_); rw [g2])) <;> (refine zF ?_)) <;> ((refine zH (i := 21) rfl ?_; ((refine zm (k' := ?_); rw [g3])) <;> (refine zF ?_)) <;> ((refine zH (i := 22) rfl ?_; (refine zI (k := ?_)) <;> (refine zF ?_)) <;> (refine zq (hK _ _ ?_); clear hK K)))))))); (case' tq58 => ((refine zH (i := 19) rfl ?_; (refine zj (k' := ?_)) <;> (refine zF ?_)) <;> (refine z0 ?tp59 ?tq59; (case' tp59 => ((refine zH (i := 9) rfl ?_; ((refine zp (k' := ?_); rw [g1])) <;> (refine zF ?_)) <;> ((refine zH (i := 10) rfl ?_; (refine zm (k' := ?_)) <;> (refine zF ?_)) <;> ((refine zH (i := 20) rfl ?_; ((refine zp (k' := ?_); rw [g2])) <;> (refine zF ?_)) <;> ((refine zH (i := 21) rfl ?_; ((refine zm (k' := ?_); rw [g3])) <;> (refine zF ?_)) <;> ((refine zH (i := 22) rfl ?_; (refine zI (k := ?_)) <;> (refine zF ?_)) <;> (refine zq (hK _ _ ?_); clear hK K))))))); (case' tq59 => ((refine zH (i := 20) rfl ?_; ((refine zp (k' := ?_); rw [g2])) <;> (refine zF ?_)) <;> ((refine zH (i := 9) rfl ?_; ((refine zp (k' := ?_); rw [g1])) <;> (refine zF ?_)) <;> ((refine zH (i := 10) rfl ?_; (refine zm (k' := ?_)) <;> (refine zF ?_)) <;> ((refine zH (i := 21) rfl ?_; ((refine zm (k' := ?_); rw [g3])) <;> (refine zF ?_)) <;> ((refine zH (i := 22) rfl ?_; (refine zI (k := ?_)) <;> (refine zF ?_)) <;> (refine zq (hK _ _ ?_); clear hK K))))))))))))); (case' tq57 => ((refine zH (i := 19) rfl ?_; (refine zj (k' := ?_)) <;> (refine zF ?_)) <;> (refine z0 ?tp60 ?tq60; (case' tp60 => ((refine zH (i := 8) rfl ?_; (refine zj (k' := ?_)) <;> (refine zF ?_)) <;> (refine z0 ?tp61 ?tq61; (case' tp61 => ((refine zH (i := 9) rfl ?_; ((refine zp (k' := ?_); rw [g1])) <;> (refine zF ?_)) <;> ((refine zH (i := 10) rfl ?_; (refine zm (k' := ?_)) <;> (refine zF ?_)) <;> ((refine zH (i := 20) rfl ?_; ((refine zp (k' := ?_); rw [g2])) <;> (refine zF ?_)) <;> ((refine zH (i := 21) rfl ?_; ((refine zm (k' := ?_); rw [g3])) <;> (refine zF ?_)) <;> ((refine zH (i := 22) rfl ?_; (refine zI (k := ?_)) <;> (refine zF ?_)) <;> (refine zq (hK _ _ ?_); clear hK K))))))); (case' tq61 => ((refine zH (i := 20) rfl ?_; ((refine zp (k' := ?_); rw [g2])) <;> (refine zF ?_)) <;> ((refine zH (i := 9) rfl ?_; ((refine zp (k' := ?_); rw [g1])) <;> (refine zF ?_)) <;> ((refine zH (i := 10) rfl ?_; (refine zm (k' := ?_)) <;> (refine zF ?_)) <;> ((refine zH (i := 21) rfl ?_; ((refine zm (k' := ?_); rw [g3])) <;> (refine zF ?_)) <;> ((refine zH (i := 22) rfl ?_; (refine zI (k := ?_)) <;> (refine zF ?_)) <;> (refine zq (hK _ _ ?_); clear hK K)))))))))); (case' tq60 => ((refine zH (i := 20) rfl ?_; ((refine zp (k' := ?_); rw [g2])) <;> (refine zF ?_)) <;> ((refine zH (i := 8) rfl ?_; (refine zj (k' := ?_)) <;> (refine zF ?_)) <;> ((refine zH (i := 9) rfl ?_; ((refine zp (k' := ?_); rw [g1])) <;> (refine zF ?_)) <;> ((refine zH (i := 10) rfl ?_; (refine zm (k' := ?_)) <;> (refine zF ?_)) <;> ((refine zH (i := 21) rfl ?_; ((refine zm (k' := ?_); rw [g3])) <;> (refine zF ?_)) <;> ((refine zH (i := 22) rfl ?_; (refine zI (k := ?_)) <;> (refine zF ?_)) <;> (refine zq (hK _ _ ?_); clear hK K)))))))))))))); (case' tq56 => ((refine zH (i := 19) rfl ?_; (refine zj (k' := ?_)) <;> (refine zF ?_)) <;> (refine z0 ?tp62 ?tq62; (case' tp62 => ((refine zH (i := 7) rfl ?_; ((refine z4 (v := .string x.k) (j := j * 5) (hq := by simp [Addr.add]) (hr := h1.any) (hv := by simpa using prC_cell (r := 0) hx (by omega) rfl) (k := ?_))) <;> (refine zF ?_)) <;> (refine z0 ?tp63 ?tq63; (case' tp63 => ((refine zH (i := 8) rfl ?_; (refine zj (k' := ?_)) <;> (refine zF ?_)) <;> (refine z0 ?tp64 ?tq64; (case' tp64 => ((refine zH (i := 9) rfl ?_; ((refine zp (k' := ?_); rw [g1])) <;> (refine zF ?_)) <;> ((refine zH (i := 10) rfl ?_; (refine zm (k' := ?_)) <;> (refine zF ?_)) <;> ((refine zH (i := 20) rfl ?_; ((refine zp (k' := ?_); rw [g2])) <;> (refine zF ?_)) <;> ((refine zH (i := 21) rfl ?_; ((refine zm (k' := ?_); rw [g3])) <;> (refine zF ?_)) <;> ((refine zH (i := 22) rfl ?_; (refine zI (k := ?_)) <;> (refine zF ?_)) <;> (refine zq (hK _ _ ?_); clear hK K))))))); (case' tq64 => ((refine zH (i := 20) rfl ?_; ((refine zp (k' := ?_); rw [g2])) <;> (refine zF ?_)) <;> ((refine zH (i := 9) rfl ?_; ((refine zp (k' := ?_); rw [g1])) <;> (refine zF ?_)) <;> ((refine zH (i := 10) rfl ?_; (refine zm (k' := ?_)) <;> (refine zF ?_)) <;> ((refine zH (i := 21) rfl ?_; ((refine zm (k' := ?_); rw [g3])) <;> (refine zF ?_)) <;> ((refine zH (i := 22) rfl ?_; (refine zI (k := ?_)) <;> (refine zF ?_)) <;> (refine zq (hK _ _ ?_); clear hK K)))))))))); (case' tq63 => ((refine zH (i := 20) rfl ?_; ((refine zp (k' := ?_); rw [g2])) <;> (refine zF ?_)) <;> ((refine zH (i := 8) rfl ?_; (refine zj (k' := ?_)) <;> (refine zF ?_)) <;> ((refine zH (i := 9) rfl ?_; ((refine zp (k' := ?_); rw [g1])) <;> (refine zF ?_)) <;> ((refine zH (i := 10) rfl ?_; (refine zm (k' := ?_)) <;> (refine zF ?_)) <;> ((refine zH (i := 21) rfl ?_; ((refine zm (k' := ?_); rw [g3])) <;> (refine zF ?_)) <;> ((refine zH (i := 22) rfl ?_; (refine zI (k := ?_)) <;> (refine zF ?_)) <;> (refine zq (hK _ _ ?_); clear hK K))))))))))); (case' tq62 => ((refine zH (i := 20) rfl ?_; ((refine zp (k' := ?_); rw [g2])) <;> (refine zF ?_)) <;> ((refine zH (i := 7) rfl ?_; ((refine z4 (v := .string x.k) (j := j * 5) (hq := by simp [Addr.add]) (hr := h1.any) (hv := by simpa using prC_cell (r := 0) hx (by omega) rfl) (k := ?_))) <;> (refine zF ?_)) <;> ((refine zH (i := 8) rfl ?_; (refine zj (k' := ?_)) <;> (refine zF ?_)) <;> ((refine zH (i := 9) rfl ?_; ((refine zp (k' := ?_); rw [g1])) <;> (refine zF ?_)) <;> ((refine zH (i := 10) rfl ?_; (refine zm (k' := ?_)) <;> (refine zF ?_)) <;> ((refine zH (i := 21) rfl ?_; ((refine zm (k' := ?_); rw [g3])) <;> (refine zF ?_)) <;> ((refine zH (i := 22) rfl ?_; (refine zI (k := ?_)) <;> (refine zF ?_)) <;> (refine zq (hK _ _ ?_); clear hK K))))))))))))))))); (case' tq55 => ((refine zH (i := 19) rfl ?_; (refine zj (k' := ?_)) <;> (refine zF ?_)) <;> (refine z0 ?tp65 ?tq65; (case' tp65 => ((refine zH (i := 3) rfl ?_; (refine zM (k := ?_)) <;> (refine zF ?_)) <;> ((refine zH (i := 5) rfl ?_; ((refine zo (k' := ?_))) <;> (refine zF ?_)) <;> ((refine zH (i := 6) rfl ?_; ((refine zu (k := ?_))) <;> (refine zF ?_)) <;> (refine z0 ?tp66 ?tq66; (case' tp66 => ((refine zH (i := 7) rfl ?_; ((refine z4 (v := .string x.k) (j := j * 5) (hq := by simp [Addr.add]) (hr := h1.any) (hv := by simpa using prC_cell (r := 0) hx (by omega) rfl) (k := ?_))) <;> (refine zF ?_)) <;> (refine z0 ?tp67 ?tq67; (case' tp67 => ((refine zH (i := 8) rfl ?_; (refine zj (k' := ?_)) <;> (refine zF ?_)) <;> (refine z0 ?tp68 ?tq68; (case' tp68 => ((refine zH (i := 9) rfl ?_; ((refine zp (k' := ?_); rw [g1])) <;> (refine zF ?_)) <;> ((refine zH (i := 10) rfl ?_; (refine zm (k' := ?_)) <;> (refine zF ?_)) <;> ((refine zH (i := 20) rfl ?_; ((refine zp (k' := ?_); rw [g2])) <;> (refine zF ?_)) <;> ((refine zH (i := 21) rfl ?_; ((refine zm (k' := ?_); rw [g3])) <;> (refine zF ?_)) <;> ((refine zH (i := 22) rfl ?_; (refine zI (k := ?_)) <;> (refine zF ?_)) <;> (refine zq (hK _ _ ?_); clear hK K))))))); (case' tq68 => ((refine zH (i := 20) rfl ?_; ((refine zp (k' := ?_); rw [g2])) <;> (refine zF ?_)) <;> ((refine zH (i := 9) rfl ?_; ((refine zp (k' := ?_); rw [g1])) <;> (refine zF ?_)) <;> ((refine zH (i := 10) rfl ?_; (refine zm (k' := ?_)) <;> (refine zF ?_)) <;> ((refine zH (i := 21) rfl ?_; ((refine zm (k' := ?_); rw [g3])) <;> (refine zF ?_)) <;> ((refine zH (i := 22) rfl ?_; (refine zI (k := ?_)) <;> (refine zF ?_)) <;> (refine zq (hK _ _ ?_); clear hK K)))))))))); (case' tq67 => ((refine zH (i := 20) rfl ?_; ((refine zp (k' := ?_); rw [g2])) <;> (refine zF ?_)) <;> ((refine zH (i := 8) rfl ?_; (refine zj (k' := ?_)) <;> (refine zF ?_)) <;> ((refine zH (i := 9) rfl ?_; ((refine zp (k' := ?_); rw [g1])) <;> (refine zF ?_)) <;> ((refine zH (i := 10) rfl ?_; (refine zm (k' := ?_)) <;> (refine zF ?_)) <;> ((refine zH (i := 21) rfl ?_; ((refine zm (k' := ?_); rw [g3])) <;> (refine zF ?_)) <;> ((refine zH (i := 22) rfl ?_; (refine zI (k := ?_)) <;> (refine zF ?_)) <;> (refine zq (hK _ _ ?_); clear hK K))))))))))); (case' tq66 => ((refine zH (i := 20) rfl ?_; ((refine zp (k' := ?_); rw [g2])) <;> (refine zF ?_)) <;> ((refine zH (i := 7) rfl ?_; ((refine z4 (v := .string x.k) (j := j * 5) (hq := by simp [Addr.add]) (hr := h1.any) (hv := by simpa using prC_cell (r := 0) hx (by omega) rfl) (k := ?_))) <;> (refine zF ?_)) <;> ((refine zH (i := 8) rfl ?_; (refine zj (k' := ?_)) <;> (refine zF ?_)) <;> ((refine zH (i := 9) rfl ?_; ((refine zp (k' := ?_); rw [g1])) <;> (refine zF ?_)) <;> ((refine zH (i := 10) rfl ?_; (refine zm (k' := ?_)) <;> (refine zF ?_)) <;> ((refine zH (i := 21) rfl ?_; ((refine zm (k' := ?_); rw [g3])) <;> (refine zF ?_)) <;> ((refine zH (i := 22) rfl ?_; (refine zI (k := ?_)) <;> (refine zF ?_)) <;> (refine zq (hK _ _ ?_); clear hK K)))))))))))))); (case' tq65 => ((refine zH (i := 20) rfl ?_; ((refine zp (k' := ?_); rw [g2])) <;> (refine zF ?_)) <;> ((refine zH (i := 3) rfl ?_; (refine zM (k := ?_)) <;> (refine zF ?_)) <;> ((refine zH (i := 5) rfl ?_; ((refine zo (k' := ?_))) <;> (refine zF ?_)) <;> ((refine zH (i := 6) rfl ?_; ((refine zu (k := ?_))) <;> (refine zF ?_)) <;> ((refine zH (i := 7) rfl ?_; ((refine z4 (v := .string x.k) (j := j * 5) (hq := by simp [Addr.add]) (hr := h1.any) (hv := by simpa using prC_cell (r := 0) hx (by omega) rfl) (k := ?_))) <;> (refine zF ?_)) <;> ((refine zH (i := 8) rfl ?_; (refine zj (k' := ?_)) <;> (refine zF ?_)) <;> ((refine zH (i := 9) rfl ?_; ((refine zp (k' := ?_); rw [g1])) <;> (refine zF ?_)) <;> ((refine zH (i := 10) rfl ?_; (refine zm (k' := ?_)) <;> (refine zF ?_)) <;> ((refine zH (i := 21) rfl ?_; ((refine zm (k' := ?_); rw [g3])) <;> (refine zF ?_)) <;> ((refine zH (i := 22) rfl ?_; (refine zI (k := ?_)) <;> (refine zF ?_)) <;> (refine zq (hK _ _ ?_); clear hK K))))))))))))))))))))))))))))))))))
      | (refine zc (ht := (fun ht => ?_)) (hf := (fun ht => ?_)) <;> (try simp at ht) <;> (try (exfalso; omega))))
    all_goals exact ⟨j + 1, by omega, by omega, ⟨rfl, rfl, int_succ j, trivial⟩, (by (repeat (first | exact Ent.refl _ | exact Ent.nil | refine Ent.take (by (repeat (first | exact Out.head | apply Out.tail)); (first | done | fail)) ?_ | refine Ent.drop1 ?_)); (first | done | fail))⟩
  obtain rfl : j = r.sn.ps.length := by omega
  repeat' (first
    | refine zh ?_
    | refine zK ?_
    | refine zS (h := ?_)
    | refine zU (h := ?_)
    | refine zi ?_
    | refine zR ?_
    | refine za ?_
    | refine zN ?_
    | refine zY ?_
    | refine zd ?_
    | refine zO ?_
    | refine zZ ?_
    | refine zQ rfl ?_
    | refine ze ?_
    | refine zX ?_
    | refine zP ?_
    | refine zT ?_
    | refine zL ?_
    | (refine zE (id := 5) ?_; intro K hK; refine zD (k := ?_); refine zB (k := ?_); refine zB (k := ?_); refine zM (k := ?_); refine zk (k' := ?_); refine z2 (k' := ?_); (refine zF (hK _ _ ?_); clear hK K))
    | (refine zE (id := 8) ?_; intro K hK; refine zD (k := ?_); refine yH (k' := ?_); refine zI (k := ?_); (refine zF (hK _ _ ?_); clear hK K))
    | (refine zc (ht := (fun ht => ?_)) (hf := (fun ht => ?_)) <;> (try simp at ht) <;> (try (exfalso; omega))))
  refine ⟨Or.inr rfl, _, [], (by (repeat (first | exact Ent.refl _ | exact Ent.nil | refine Ent.take (by (repeat (first | exact Out.head | apply Out.tail)); (first | done | fail)) ?_ | refine Ent.drop1 ?_)); (first | done | fail)), res1 rfl rfl, congrArg Value.bool ?_, rfl⟩
  unfold lightV
  have e1 : decide (1000 < r.sn.ps.length) = false := decide_eq_false (by omega)
  have e2 : decide (1000 < r.sn.ss.length) = false := decide_eq_false (by omega)
  rw [e1, e2]
  simp only [Bool.or_false, Bool.not_false, Bool.true_and]
  exact decide_eq_decide.2 (by omega)
theorem snap_spec (A0 : List Asn) (b : SnX) (hps : b.ps.length ≤ 900000) (hss : b.ss.length ≤ 900000) (pa : Option Addr) (pc : Nat) (sa : Option Addr) (sc : Nat) (h1 : RdS Tryz.prog B A0 5 pa b.ps.length pc (prC b.ps)) (h2 : RdS Tryz.prog B A0 4 sa b.ss.length sc (ssC b.ss)) :
    Fspec Tryz.prog B 36 #[.agg #[.int .i64 b.e, .int .i64 b.i, .slice pa b.ps.length pc, .slice sa b.ss.length sc]] A0
      (fun v A' => ∃ a1 c1 a2 c2, v = .agg #[.int .i64 b.e, .int .i64 b.i, .slice a1 b.ps.length c1, .slice a2 b.ss.length c2] ∧ A' = own a2 b.ss.length c2 4 (ssC b.ss) 111 :: own a1 b.ps.length c1 5 (prC b.ps) 57 :: A0) := by
  refine spec_of (args := [_]) Tryz.func36 rfl rfl rfl ?_
  repeat' (first
    | refine zh ?_
    | refine zK ?_
    | refine zS (h := ?_)
    | refine zU (h := ?_)
    | refine zi ?_
    | refine zR ?_
    | refine za ?_
    | refine zN ?_
    | refine zY ?_
    | refine zd ?_
    | refine zO ?_
    | refine zZ ?_
    | refine zQ rfl ?_
    | refine ze ?_
    | refine zX ?_
    | refine zP ?_
    | refine zT ?_
    | refine zL ?_
    | (refine zE (id := 0) ?_; intro K hK; ((refine zw (k := ?_); intro r1)) <;> (((refine zy (k := ?_); intro r2)) <;> ((refine zF (hK _ _ ?_); clear hK K))))
    | (refine zE (id := 1) ?_; intro K hK; ((refine yR (k := ?_); intro r3)) <;> (refine zB (k := ?_); refine zM (k := ?_); ((refine yL (hsrc := RdS.under (RdS.under (RdS.under h1))) (hvc := prC_all _) (hbd := by omega) (k := ?_); intro a6 c6)) <;> (refine zB (k := ?_); refine zr (ho := rfl) (k := ?_); (refine zF (hK _ _ ?_); clear hK K))))
    | (refine zE (id := 2) ?_; intro K hK; ((refine yR (k := ?_); intro r8)) <;> (refine zB (k := ?_); refine zM (k := ?_); ((refine yL (hsrc := RdS.under (RdS.under (RdS.under (RdS.under h2)))) (hvc := ssC_all _) (hbd := by omega) (k := ?_); intro a11 c11)) <;> (refine zB (k := ?_); refine zr (ho := rfl) (k := ?_); (refine zF (hK _ _ ?_); clear hK K))))
    | (refine zE (id := 3) ?_; intro K hK; refine zn (k := ?_); refine zl (ho' := rfl) (k := ?_); (refine zF (hK _ _ ?_); clear hK K))
    | (refine zc (ht := (fun ht => ?_)) (hf := (fun ht => ?_)) <;> (try simp at ht) <;> (try (exfalso; omega))))
  refine ⟨Or.inr rfl, _, own a11 b.ss.length c11 4 (ssC b.ss) 111 :: own a6 b.ps.length c6 5 (prC b.ps) 57 :: A0, ?_, resG rfl (by (repeat (first | exact ResL.nil | apply ResL.tmp (by (repeat (first | exact Ev.here | exact Ev.const | exact Ev.arg rfl | apply Ev.there rfl | exact Ev.none rfl | exact Ev.func | exact Ev.var)); (first | done | fail)) | apply ResL.agg (by (repeat (first | exact Ev.here | exact Ev.const | exact Ev.arg rfl | apply Ev.there rfl | exact Ev.none rfl | exact Ev.func | exact Ev.var)); (first | done | fail)) (by (repeat (first | exact Rd.head | exact Rd.base (by assumption) | apply Rd.tail)); (first | done | fail)) (by (repeat (first | exact TakeR.nil | apply TakeR.take | apply TakeR.skip)); (first | done | fail)) | apply ResL.cell (by (repeat (first | exact Ev.here | exact Ev.const | exact Ev.arg rfl | apply Ev.there rfl | exact Ev.none rfl | exact Ev.func | exact Ev.var)); (first | done | fail)) (by (repeat (first | exact Rd.head | exact Rd.base (by assumption) | apply Rd.tail)); (first | done | fail)) rfl)); (first | done | fail)) rfl, a6, c6, a11, c11, ?_, rfl⟩
  · simp only [Nat.zero_add, List.nil_append]
    (repeat (first | exact Ent.refl _ | exact Ent.nil | refine Ent.take (by (repeat (first | exact Out.head | apply Out.tail)); (first | done | fail)) ?_ | refine Ent.drop1 ?_))
  · simp only [Nat.zero_add]; rfl
theorem plain_spec (r : RcG) (hps : r.sn.ps.length ≤ 900000) (hss : r.sn.ss.length ≤ 900000) (pa : Option Addr) (pc : Nat) (sa : Option Addr) (sc : Nat) (h1 : RdS Tryz.prog B [] 5 pa r.sn.ps.length pc (prC r.sn.ps)) (h2 : RdS Tryz.prog B [] 4 sa r.sn.ss.length sc (ssC r.sn.ss)) :
    Fspec Tryz.prog B 11 #[.agg (r.c pa pc sa sc).toArray] []
      (fun v A' => ∃ a1 c1 a2 c2, v = .agg (r.c a1 c1 a2 c2).toArray ∧ A' = [own a2 r.sn.ss.length c2 4 (ssC r.sn.ss) 111, own a1 r.sn.ps.length c1 5 (prC r.sn.ps) 57]) := by
  refine spec_of (args := [_]) Tryz.func11 rfl rfl rfl ?_
  simp only [RcG.c]
  repeat' (first
    | refine zh ?_
    | refine zK ?_
    | refine zS (h := ?_)
    | refine zU (h := ?_)
    | refine zi ?_
    | refine zR ?_
    | refine za ?_
    | refine zN ?_
    | refine zY ?_
    | refine zd ?_
    | refine zO ?_
    | refine zZ ?_
    | refine zQ rfl ?_
    | refine ze ?_
    | refine zX ?_
    | refine zP ?_
    | refine zT ?_
    | refine zL ?_
    | (refine zE (id := 0) ?_; intro K hK; ((refine zw (k := ?_); intro r1)) <;> (((refine zy (k := ?_); intro r2)) <;> ((refine zF (hK _ _ ?_); clear hK K))))
    | ((refine yZ (id := 1) (M := ([cb r1 (r.c pa pc sa sc) 47])) (Ls := [4, 6, 8, 10, 12]) (t := (.step 0 (.step 1 (.step 2 (.step 3 (.step 4 (.step 5 (.step 6 (.step 7 (.step 8 (.step 9 (.step 10 (.step 11 (.step 12 .done)))))))))))))) (bad := []) (hok := (by decide +kernel)) (hp := (Pick.perm (by (repeat (first | exact Pick.nil | apply Pick.cons (by (repeat (first | exact Out.head | apply Out.tail)); (first | done | fail)))); (first | done | fail)))) (h := ?_); intro K hK; repeat' (first | refine z0 ?_ ?_ | (refine zH (i := 0) rfl ?_; (refine zB (k := ?_)) <;> (refine zF ?_)) | (refine zH (i := 1) rfl ?_; (refine z1 (k := ?_)) <;> (refine zF ?_)) | (refine zH (i := 2) rfl ?_; (refine zB (k := ?_)) <;> (refine zF ?_)) | (refine zH (i := 3) rfl ?_; (refine yD (k := ?_)) <;> (refine zF ?_)) | (refine zH (i := 4) rfl ?_; (refine zB (k := ?_)) <;> (refine zF ?_)) | (refine zH (i := 5) rfl ?_; (refine yD (k := ?_)) <;> (refine zF ?_)) | (refine zH (i := 6) rfl ?_; (refine zB (k := ?_)) <;> (refine zF ?_)) | (refine zH (i := 7) rfl ?_; (refine z1 (k := ?_)) <;> (refine zF ?_)) | (refine zH (i := 8) rfl ?_; (refine zB (k := ?_)) <;> (refine zF ?_)) | (refine zH (i := 9) rfl ?_; (refine yD (k := ?_)) <;> (refine zF ?_)) | (refine zH (i := 10) rfl ?_; ((refine zb (hs := snap_spec [] r.sn hps hss pa pc sa sc h1 h2) (k := ?_); rintro v A' ⟨a1, c1, a2, c2, rfl, rfl⟩; simp only [List.cons_append, List.nil_append])) <;> (refine zF ?_)) | (refine zH (i := 11) rfl ?_; (refine zt (k := ?_)) <;> (refine zF ?_)) | (refine zH (i := 12) rfl ?_; (refine zl (ho' := rfl) (k := ?_)) <;> (refine zF ?_)) | (refine zq (hK _ _ ?_); clear hK K; try simp only [List.cons_append, List.nil_append]))))
    | (refine zc (ht := (fun ht => ?_)) (hf := (fun ht => ?_)) <;> (try simp at ht) <;> (try (exfalso; omega))))
  all_goals exact ⟨Or.inr rfl, _, [own a2 r.sn.ss.length c2 4 (ssC r.sn.ss) 111, own a1 r.sn.ps.length c1 5 (prC r.sn.ps) 57], (by (repeat (first | exact Ent.refl _ | exact Ent.nil | refine Ent.take (by (repeat (first | exact Out.head | apply Out.tail)); (first | done | fail)) ?_ | refine Ent.drop1 ?_)); (first | done | fail)), resG rfl (by (repeat (first | exact ResL.nil | apply ResL.tmp (by (repeat (first | exact Ev.here | exact Ev.const | exact Ev.arg rfl | apply Ev.there rfl | exact Ev.none rfl | exact Ev.func | exact Ev.var)); (first | done | fail)) | apply ResL.agg (by (repeat (first | exact Ev.here | exact Ev.const | exact Ev.arg rfl | apply Ev.there rfl | exact Ev.none rfl | exact Ev.func | exact Ev.var)); (first | done | fail)) (by (repeat (first | exact Rd.head | exact Rd.base (by assumption) | apply Rd.tail)); (first | done | fail)) (by (repeat (first | exact TakeR.nil | apply TakeR.take | apply TakeR.skip)); (first | done | fail)) | apply ResL.cell (by (repeat (first | exact Ev.here | exact Ev.const | exact Ev.arg rfl | apply Ev.there rfl | exact Ev.none rfl | exact Ev.func | exact Ev.var)); (first | done | fail)) (by (repeat (first | exact Rd.head | exact Rd.base (by assumption) | apply Rd.tail)); (first | done | fail)) rfl)); (first | done | fail)) rfl, a1, c1, a2, c2, rfl, rfl⟩
theorem samePairs_spec (X : Asn) (l : List PrX) (hl : l.length ≤ 1000000) (a : Option Addr) (c : Nat) (b : Option Addr) (d : Nat) (h1 : RdS Tryz.prog B [X] 5 a l.length c (prC l)) (h2 : RdS Tryz.prog B [X] 5 b l.length d (prC l)) :
    Fspec Tryz.prog B 73 #[.slice a l.length c, .slice b l.length d] [X] (fun v A' => v = .bool true ∧ A' = [X]) := by
  refine spec_of (args := [_, _]) Tryz.func73 rfl rfl rfl ?_
  repeat' (first
    | refine zh ?_
    | refine zK ?_
    | refine zS (h := ?_)
    | refine zU (h := ?_)
    | refine zi ?_
    | refine zR ?_
    | refine za ?_
    | refine zN ?_
    | refine zY ?_
    | refine zd ?_
    | refine zO ?_
    | refine zZ ?_
    | refine zQ rfl ?_
    | refine ze ?_
    | refine zX ?_
    | refine zP ?_
    | refine zT ?_
    | refine zL ?_
    | (refine zE (id := 0) ?_; intro K hK; refine zI (k := ?_); (refine zF (hK _ _ ?_); clear hK K))
    | (refine zE (id := 1) ?_; intro K hK; refine zD (k := ?_); refine zk (k' := ?_); refine zD (k := ?_); refine zk (k' := ?_); refine yB (k' := ?_); (refine zF (hK _ _ ?_); clear hK K))
    | (refine zE (id := 2) ?_; intro K hK; refine zI (k := ?_); (refine zF (hK _ _ ?_); clear hK K))
    | (refine zE (id := 3) ?_; intro K hK; refine zI (k := ?_); (refine zF (hK _ _ ?_); clear hK K))
    | (refine zc (ht := (fun ht => ?_)) (hf := (fun ht => ?_)) <;> (try simp at ht) <;> (try (exfalso; omega))))
  refine yG (α := Nat) (fun j => [(0, .slice a l.length c), (1, .slice b l.length d), (5, .int .i64 j)]) (fun _ => [X]) (fun j => j ≤ l.length) (fun j => l.length - j) 0 (by omega) ⟨rfl, rfl, rfl, trivial⟩ (Ent.refl _) ?_
  intro j G hj
  simp only [ov]
  by_cases hlt : j < l.length
  · obtain ⟨p, rfl⟩ : ∃ q, a = some q := by
      cases a with
      | none => have := h1.nil rfl; omega
      | some q => exact ⟨q, rfl⟩
    obtain ⟨q, rfl⟩ : ∃ q, b = some q := by
      cases b with
      | none => have := h2.nil rfl; omega
      | some q => exact ⟨q, rfl⟩
    obtain ⟨x, hx⟩ : ∃ x, l[j]? = some x := ⟨_, List.getElem?_eq_getElem hlt⟩
    repeat' (first
      | refine zh ?_
      | refine zK ?_
      | refine zS (h := ?_)
      | refine zU (h := ?_)
      | refine zi ?_
      | refine zR ?_
      | refine za ?_
      | refine zN ?_
      | refine zY ?_
      | refine zd ?_
      | refine zO ?_
      | refine zZ ?_
      | refine zQ rfl ?_
      | refine ze ?_
      | refine zX ?_
      | refine zP ?_
      | refine zT ?_
      | refine zL ?_
      | (refine zE (id := 4) ?_; intro K hK; refine zD (k := ?_); refine zD (k := ?_); refine zk (k' := ?_); refine z2 (k' := ?_); (refine zF (hK _ _ ?_); clear hK K))
      | (refine zE (id := 5) ?_; intro K hK; refine zD (k := ?_); refine zm (k' := ?_); refine zI (k := ?_); (refine zF (hK _ _ ?_); clear hK K))
      | (refine z3 (id := 6) (h := ?_); intro K hK; refine zD (k := ?_); refine zD (k := ?_); ((refine zo (k' := ?_))) <;> (((refine z8 (j := j * 5) (cs := x.c) (hq := by simp) (hr := h1) (hv := prC_row hx) (k := ?_))) <;> (refine zD (k := ?_); refine zD (k := ?_); ((refine zo (k' := ?_))) <;> (((refine z8 (j := j * 5) (cs := x.c) (hq := by simp) (hr := h2) (hv := prC_row hx) (k := ?_))) <;> (((refine yM (b := true) (hb := ceqL_self _ [.s, .i .i64, .i .i64, .b, .s] rfl) (k' := ?_))) <;> ((refine zF (hK _ _ ?_); clear hK K)))))))
      | (refine zE (id := 7) ?_; intro K hK; refine zI (k := ?_); (refine zF (hK _ _ ?_); clear hK K))
      | (refine zc (ht := (fun ht => ?_)) (hf := (fun ht => ?_)) <;> (try simp at ht) <;> (try (exfalso; omega))))
    exact ⟨j + 1, by omega, by omega, ⟨rfl, rfl, int_succ j, trivial⟩, Ent.refl _⟩
  obtain rfl : j = l.length := by omega
  repeat' (first
    | refine zh ?_
    | refine zK ?_
    | refine zS (h := ?_)
    | refine zU (h := ?_)
    | refine zi ?_
    | refine zR ?_
    | refine za ?_
    | refine zN ?_
    | refine zY ?_
    | refine zd ?_
    | refine zO ?_
    | refine zZ ?_
    | refine zQ rfl ?_
    | refine ze ?_
    | refine zX ?_
    | refine zP ?_
    | refine zT ?_
    | refine zL ?_
    | (refine zE (id := 4) ?_; intro K hK; refine zD (k := ?_); refine zD (k := ?_); refine zk (k' := ?_); refine z2 (k' := ?_); (refine zF (hK _ _ ?_); clear hK K))
    | (refine zE (id := 8) ?_; intro K hK; refine zI (k := ?_); (refine zF (hK _ _ ?_); clear hK K))
    | (refine zc (ht := (fun ht => ?_)) (hf := (fun ht => ?_)) <;> (try simp at ht) <;> (try (exfalso; omega))))
  exact ⟨Or.inr rfl, _, [X], Ent.refl _, res1 rfl rfl, rfl, rfl⟩
theorem sameTable_spec (X : Asn) (l : List Ep) (hl : l.length ≤ 1000000) (a : Option Addr) (c : Nat) (b : Option Addr) (d : Nat) (h1 : RdS Tryz.prog B [X] 3 a l.length c (epsC l)) (h2 : RdS Tryz.prog B [X] 3 b l.length d (epsC l)) :
    Fspec Tryz.prog B 44 #[.slice a l.length c, .slice b l.length d] [X] (fun v A' => v = .bool true ∧ A' = [X]) := by
  refine spec_of (args := [_, _]) Tryz.func44 rfl rfl rfl ?_
  repeat' (first
    | refine zh ?_
    | refine zK ?_
    | refine zS (h := ?_)
    | refine zU (h := ?_)
    | refine zi ?_
    | refine zR ?_
    | refine za ?_
    | refine zN ?_
    | refine zY ?_
    | refine zd ?_
    | refine zO ?_
    | refine zZ ?_
    | refine zQ rfl ?_
    | refine ze ?_
    | refine zX ?_
    | refine zP ?_
    | refine zT ?_
    | refine zL ?_
    | (refine zE (id := 0) ?_; intro K hK; refine zI (k := ?_); (refine zF (hK _ _ ?_); clear hK K))
    | (refine zE (id := 1) ?_; intro K hK; refine zD (k := ?_); refine zk (k' := ?_); refine zD (k := ?_); refine zk (k' := ?_); refine yB (k' := ?_); (refine zF (hK _ _ ?_); clear hK K))
    | (refine zE (id := 2) ?_; intro K hK; refine zI (k := ?_); (refine zF (hK _ _ ?_); clear hK K))
    | (refine zE (id := 3) ?_; intro K hK; refine zI (k := ?_); (refine zF (hK _ _ ?_); clear hK K))
    | (refine zc (ht := (fun ht => ?_)) (hf := (fun ht => ?_)) <;> (try simp at ht) <;> (try (exfalso; omega))))
  refine yG (α := Nat) (fun j => [(0, .slice a l.length c), (1, .slice b l.length d), (5, .int .i64 j)]) (fun _ => [X]) (fun j => j ≤ l.length) (fun j => l.length - j) 0 (by omega) ⟨rfl, rfl, rfl, trivial⟩ (Ent.refl _) ?_
  intro j G hj
  simp only [ov]
  by_cases hlt : j < l.length
  · obtain ⟨p, rfl⟩ : ∃ q, a = some q := by
      cases a with
      | none => have := h1.nil rfl; omega
      | some q => exact ⟨q, rfl⟩
    obtain ⟨q, rfl⟩ : ∃ q, b = some q := by
      cases b with
      | none => have := h2.nil rfl; omega
      | some q => exact ⟨q, rfl⟩
    obtain ⟨x, hx⟩ : ∃ x, l[j]? = some x := ⟨_, List.getElem?_eq_getElem hlt⟩
    repeat' (first
      | refine zh ?_
      | refine zK ?_
      | refine zS (h := ?_)
      | refine zU (h := ?_)
      | refine zi ?_
      | refine zR ?_
      | refine za ?_
      | refine zN ?_
      | refine zY ?_
      | refine zd ?_
      | refine zO ?_
      | refine zZ ?_
      | refine zQ rfl ?_
      | refine ze ?_
      | refine zX ?_
      | refine zP ?_
      | refine zT ?_
      | refine zL ?_
      | (refine zE (id := 4) ?_; intro K hK; refine zD (k := ?_); refine zD (k := ?_); refine zk (k' := ?_); refine z2 (k' := ?_); (refine zF (hK _ _ ?_); clear hK K))
      | (refine zE (id := 5) ?_; intro K hK; refine zD (k := ?_); refine zm (k' := ?_); refine zI (k := ?_); (refine zF (hK _ _ ?_); clear hK K))
      | (refine z3 (id := 6) (h := ?_); intro K hK; refine zD (k := ?_); refine zD (k := ?_); ((refine zo (k' := ?_))) <;> (((refine z8 (j := j * 3) (cs := epC x) (hq := by simp) (hr := h1) (hv := epsC_row hx) (k := ?_))) <;> (refine zD (k := ?_); refine zD (k := ?_); ((refine zo (k' := ?_))) <;> (((refine z8 (j := j * 3) (cs := epC x) (hq := by simp) (hr := h2) (hv := epsC_row hx) (k := ?_))) <;> (((refine yM (b := true) (hb := ceqL_self _ [.i .i64, .i .i64, .b] rfl) (k' := ?_))) <;> ((refine zF (hK _ _ ?_); clear hK K)))))))
      | (refine zE (id := 7) ?_; intro K hK; refine zI (k := ?_); (refine zF (hK _ _ ?_); clear hK K))
      | (refine zc (ht := (fun ht => ?_)) (hf := (fun ht => ?_)) <;> (try simp at ht) <;> (try (exfalso; omega))))
    exact ⟨j + 1, by omega, by omega, ⟨rfl, rfl, int_succ j, trivial⟩, Ent.refl _⟩
  obtain rfl : j = l.length := by omega
  repeat' (first
    | refine zh ?_
    | refine zK ?_
    | refine zS (h := ?_)
    | refine zU (h := ?_)
    | refine zi ?_
    | refine zR ?_
    | refine za ?_
    | refine zN ?_
    | refine zY ?_
    | refine zd ?_
    | refine zO ?_
    | refine zZ ?_
    | refine zQ rfl ?_
    | refine ze ?_
    | refine zX ?_
    | refine zP ?_
    | refine zT ?_
    | refine zL ?_
    | (refine zE (id := 4) ?_; intro K hK; refine zD (k := ?_); refine zD (k := ?_); refine zk (k' := ?_); refine z2 (k' := ?_); (refine zF (hK _ _ ?_); clear hK K))
    | (refine zE (id := 8) ?_; intro K hK; refine zI (k := ?_); (refine zF (hK _ _ ?_); clear hK K))
    | (refine zc (ht := (fun ht => ?_)) (hf := (fun ht => ?_)) <;> (try simp at ht) <;> (try (exfalso; omega))))
  exact ⟨Or.inr rfl, _, [X], Ent.refl _, res1 rfl rfl, rfl, rfl⟩
theorem sameSeen_spec (X : Asn) (l : List SX) (hl : l.length ≤ 1000000) (a : Option Addr) (c : Nat) (b : Option Addr) (d : Nat) (h1 : RdS Tryz.prog B [X] 4 a l.length c (ssC l)) (h2 : RdS Tryz.prog B [X] 4 b l.length d (ssC l)) :
    Fspec Tryz.prog B 74 #[.slice a l.length c, .slice b l.length d] [X] (fun v A' => v = .bool true ∧ A' = [X]) := by
  refine spec_of (args := [_, _]) Tryz.func74 rfl rfl rfl ?_
  repeat' (first
    | refine zh ?_
    | refine zK ?_
    | refine zS (h := ?_)
    | refine zU (h := ?_)
    | refine zi ?_
    | refine zR ?_
    | refine za ?_
    | refine zN ?_
    | refine zY ?_
    | refine zd ?_
    | refine zO ?_
    | refine zZ ?_
    | refine zQ rfl ?_
    | refine ze ?_
    | refine zX ?_
    | refine zP ?_
    | refine zT ?_
    | refine zL ?_
    | (refine zE (id := 0) ?_; intro K hK; refine zI (k := ?_); (refine zF (hK _ _ ?_); clear hK K))
    | (refine zE (id := 1) ?_; intro K hK; refine zD (k := ?_); refine zk (k' := ?_); refine zD (k := ?_); refine zk (k' := ?_); refine yB (k' := ?_); (refine zF (hK _ _ ?_); clear hK K))
    | (refine zE (id := 2) ?_; intro K hK; refine zI (k := ?_); (refine zF (hK _ _ ?_); clear hK K))
    | (refine zE (id := 3) ?_; intro K hK; refine zI (k := ?_); (refine zF (hK _ _ ?_); clear hK K))
    | (refine zc (ht := (fun ht => ?_)) (hf := (fun ht => ?_)) <;> (try simp at ht) <;> (try (exfalso; omega))))
  refine yG (α := Nat) (fun j => [(0, .slice a l.length c), (1, .slice b l.length d), (5, .int .i64 j)]) (fun _ => [X]) (fun j => j ≤ l.length) (fun j => l.length - j) 0 (by omega) ⟨rfl, rfl, rfl, trivial⟩ (Ent.refl _) ?_
  intro j G hj
  simp only [ov]
  by_cases hlt : j < l.length
  · obtain ⟨p, rfl⟩ : ∃ q, a = some q := by
      cases a with
      | none => have := h1.nil rfl; omega
      | some q => exact ⟨q, rfl⟩
    obtain ⟨q, rfl⟩ : ∃ q, b = some q := by
      cases b with
      | none => have := h2.nil rfl; omega
      | some q => exact ⟨q, rfl⟩
    obtain ⟨x, hx⟩ : ∃ x, l[j]? = some x := ⟨_, List.getElem?_eq_getElem hlt⟩
    repeat' (first
      | refine zh ?_
      | refine zK ?_
      | refine zS (h := ?_)
      | refine zU (h := ?_)
      | refine zi ?_
      | refine zR ?_
      | refine za ?_
      | refine zN ?_
      | refine zY ?_
      | refine zd ?_
      | refine zO ?_
      | refine zZ ?_
      | refine zQ rfl ?_
      | refine ze ?_
      | refine zX ?_
      | refine zP ?_
      | refine zT ?_
      | refine zL ?_
      | (refine zE (id := 4) ?_; intro K hK; refine zD (k := ?_); refine zD (k := ?_); refine zk (k' := ?_); refine z2 (k' := ?_); (refine zF (hK _ _ ?_); clear hK K))
      | (refine zE (id := 5) ?_; intro K hK; refine zD (k := ?_); refine zm (k' := ?_); refine zI (k := ?_); (refine zF (hK _ _ ?_); clear hK K))
      | (refine z3 (id := 6) (h := ?_); intro K hK; refine zD (k := ?_); refine zD (k := ?_); ((refine zo (k' := ?_))) <;> (((refine z8 (j := j * 4) (cs := x.c) (hq := by simp) (hr := h1) (hv := ssC_row hx) (k := ?_))) <;> (refine zD (k := ?_); refine zD (k := ?_); ((refine zo (k' := ?_))) <;> (((refine z8 (j := j * 4) (cs := x.c) (hq := by simp) (hr := h2) (hv := ssC_row hx) (k := ?_))) <;> (((refine yM (b := true) (hb := ceqL_self _ [.i .i64, .i .i64, .i .i64, .i .i64] rfl) (k' := ?_))) <;> ((refine zF (hK _ _ ?_); clear hK K)))))))
      | (refine zE (id := 7) ?_; intro K hK; refine zI (k := ?_); (refine zF (hK _ _ ?_); clear hK K))
      | (refine zc (ht := (fun ht => ?_)) (hf := (fun ht => ?_)) <;> (try simp at ht) <;> (try (exfalso; omega))))
    exact ⟨j + 1, by omega, by omega, ⟨rfl, rfl, int_succ j, trivial⟩, Ent.refl _⟩
  obtain rfl : j = l.length := by omega
  repeat' (first
    | refine zh ?_
    | refine zK ?_
    | refine zS (h := ?_)
    | refine zU (h := ?_)
    | refine zi ?_
    | refine zR ?_
    | refine za ?_
    | refine zN ?_
    | refine zY ?_
    | refine zd ?_
    | refine zO ?_
    | refine zZ ?_
    | refine zQ rfl ?_
    | refine ze ?_
    | refine zX ?_
    | refine zP ?_
    | refine zT ?_
    | refine zL ?_
    | (refine zE (id := 4) ?_; intro K hK; refine zD (k := ?_); refine zD (k := ?_); refine zk (k' := ?_); refine z2 (k' := ?_); (refine zF (hK _ _ ?_); clear hK K))
    | (refine zE (id := 8) ?_; intro K hK; refine zI (k := ?_); (refine zF (hK _ _ ?_); clear hK K))
    | (refine zc (ht := (fun ht => ?_)) (hf := (fun ht => ?_)) <;> (try simp at ht) <;> (try (exfalso; omega))))
  exact ⟨Or.inr rfl, _, [X], Ent.refl _, res1 rfl rfl, rfl, rfl⟩
theorem sameSnap_spec (X : Asn) (s : SnX) (hps : s.ps.length ≤ 1000000) (hss : s.ss.length ≤ 1000000) (a : Option Addr) (c : Nat) (b : Option Addr) (d : Nat) (a2 : Option Addr) (c2 : Nat) (b2 : Option Addr) (d2 : Nat)
    (h1 : RdS Tryz.prog B [X] 5 a s.ps.length c (prC s.ps)) (h2 : RdS Tryz.prog B [X] 4 b s.ss.length d (ssC s.ss)) (h3 : RdS Tryz.prog B [X] 5 a2 s.ps.length c2 (prC s.ps)) (h4 : RdS Tryz.prog B [X] 4 b2 s.ss.length d2 (ssC s.ss)) :
    Fspec Tryz.prog B 28 #[.agg #[.int .i64 s.e, .int .i64 s.i, .slice a s.ps.length c, .slice b s.ss.length d], .agg #[.int .i64 s.e, .int .i64 s.i, .slice a2 s.ps.length c2, .slice b2 s.ss.length d2]] [X] (fun v A' => v = .bool true ∧ A' = [X]) := by
  refine spec_of (args := [_, _]) Tryz.func28 rfl rfl rfl ?_
  repeat' (first
    | refine zh ?_
    | refine zK ?_
    | refine zS (h := ?_)
    | refine zU (h := ?_)
    | refine zi ?_
    | refine zR ?_
    | refine za ?_
    | refine zN ?_
    | refine zY ?_
    | refine zd ?_
    | refine zO ?_
    | refine zZ ?_
    | refine zQ rfl ?_
    | refine ze ?_
    | refine zX ?_
    | refine zP ?_
    | refine zT ?_
    | refine zL ?_
    | (refine zE (id := 0) ?_; intro K hK; ((refine zw (k := ?_); intro r2)) <;> (((refine zw (k := ?_); intro r3)) <;> (refine zI (k := ?_); (refine zF (hK _ _ ?_); clear hK K))))
    | (refine zE (id := 1) ?_; intro K hK; refine zB (k := ?_); refine zn (k := ?_); refine zB (k := ?_); refine zn (k := ?_); ((refine yK (b := true) (hb := by rw [pos_ceq]; exact decide_eq_true ⟨rfl, rfl⟩) (k' := ?_))) <;> (refine zD (k := ?_); ((first | (refine zA (k := ?_); refine zB (k := ?_)) | refine zC (k := ?_) | ((refine zG (yes := (fun ht => ?_)) (no := (fun ht => ?_)) <;> (try simp at ht) <;> (try (exfalso; omega))) <;> (first | (refine zA (k := ?_); refine zB (k := ?_)) | refine zC (k := ?_))))) <;> (((first | (refine zA (k := ?_); refine zM (k := ?_)) | refine zC (k := ?_) | ((refine zG (yes := (fun ht => ?_)) (no := (fun ht => ?_)) <;> (try simp at ht) <;> (try (exfalso; omega))) <;> (first | (refine zA (k := ?_); refine zM (k := ?_)) | refine zC (k := ?_))))) <;> (((first | (refine zA (k := ?_); refine zB (k := ?_)) | refine zC (k := ?_) | ((refine zG (yes := (fun ht => ?_)) (no := (fun ht => ?_)) <;> (try simp at ht) <;> (try (exfalso; omega))) <;> (first | (refine zA (k := ?_); refine zB (k := ?_)) | refine zC (k := ?_))))) <;> (((first | (refine zA (k := ?_); refine zM (k := ?_)) | refine zC (k := ?_) | ((refine zG (yes := (fun ht => ?_)) (no := (fun ht => ?_)) <;> (try simp at ht) <;> (try (exfalso; omega))) <;> (first | (refine zA (k := ?_); refine zM (k := ?_)) | refine zC (k := ?_))))) <;> (((first | (refine zA (k := ?_); (refine zb (hs := samePairs_spec X s.ps hps a c a2 c2 h1 h3) (k := ?_); rintro v A' ⟨rfl, rfl⟩; simp only [List.cons_append, List.nil_append])) | refine zC (k := ?_) | ((refine zG (yes := (fun ht => ?_)) (no := (fun ht => ?_)) <;> (try simp at ht) <;> (try (exfalso; omega))) <;> (first | (refine zA (k := ?_); (refine zb (hs := samePairs_spec X s.ps hps a c a2 c2 h1 h3) (k := ?_); rintro v A' ⟨rfl, rfl⟩; simp only [List.cons_append, List.nil_append])) | refine zC (k := ?_))))) <;> ((first | refine zV (k := ?_) | refine zW (k := ?_) | refine zg (k := ?_)); refine zD (k := ?_); ((first | (refine zA (k := ?_); refine zB (k := ?_)) | refine zC (k := ?_) | ((refine zG (yes := (fun ht => ?_)) (no := (fun ht => ?_)) <;> (try simp at ht) <;> (try (exfalso; omega))) <;> (first | (refine zA (k := ?_); refine zB (k := ?_)) | refine zC (k := ?_))))) <;> (((first | (refine zA (k := ?_); refine zM (k := ?_)) | refine zC (k := ?_) | ((refine zG (yes := (fun ht => ?_)) (no := (fun ht => ?_)) <;> (try simp at ht) <;> (try (exfalso; omega))) <;> (first | (refine zA (k := ?_); refine zM (k := ?_)) | refine zC (k := ?_))))) <;> (((first | (refine zA (k := ?_); refine zB (k := ?_)) | refine zC (k := ?_) | ((refine zG (yes := (fun ht => ?_)) (no := (fun ht => ?_)) <;> (try simp at ht) <;> (try (exfalso; omega))) <;> (first | (refine zA (k := ?_); refine zB (k := ?_)) | refine zC (k := ?_))))) <;> (((first | (refine zA (k := ?_); refine zM (k := ?_)) | refine zC (k := ?_) | ((refine zG (yes := (fun ht => ?_)) (no := (fun ht => ?_)) <;> (try simp at ht) <;> (try (exfalso; omega))) <;> (first | (refine zA (k := ?_); refine zM (k := ?_)) | refine zC (k := ?_))))) <;> (((first | (refine zA (k := ?_); (refine zb (hs := sameSeen_spec X s.ss hss b d b2 d2 h2 h4) (k := ?_); rintro v A' ⟨rfl, rfl⟩; simp only [List.cons_append, List.nil_append])) | refine zC (k := ?_) | ((refine zG (yes := (fun ht => ?_)) (no := (fun ht => ?_)) <;> (try simp at ht) <;> (try (exfalso; omega))) <;> (first | (refine zA (k := ?_); (refine zb (hs := sameSeen_spec X s.ss hss b d b2 d2 h2 h4) (k := ?_); rintro v A' ⟨rfl, rfl⟩; simp only [List.cons_append, List.nil_append])) | refine zC (k := ?_))))) <;> ((first | refine zV (k := ?_) | refine zW (k := ?_) | refine zg (k := ?_)); refine zI (k := ?_); (refine zF (hK _ _ ?_); clear hK K)))))))))))))
    | (refine zc (ht := (fun ht => ?_)) (hf := (fun ht => ?_)) <;> (try simp at ht) <;> (try (exfalso; omega))))
  exact ⟨Or.inr rfl, _, [X], (by (repeat (first | exact Ent.refl _ | exact Ent.nil | refine Ent.take (by (repeat (first | exact Out.head | apply Out.tail)); (first | done | fail)) ?_ | refine Ent.drop1 ?_)); (first | done | fail)), res1 rfl rfl, rfl, rfl⟩
theorem of_lst {f : FuncId} {args : Array Value} {A0 : List Asn} {φ : Value → Prop} (h : Fspec Tryz.prog B f args [lst A0] (fun v A' => φ v ∧ A' = [lst A0])) : Fspec Tryz.prog B f args A0 (fun v A' => φ v ∧ A' = A0) := by
  refine (h.ent (by simpa using Ent.lst_shut A0 [])).conv ?_
  rintro v A' ⟨hv, rfl⟩
  exact ⟨A0, by simpa using Ent.lst_open A0 [], hv, rfl⟩
theorem _root_.Go.Sl.RdS.lst {A0 : List Asn} {sz m c : Nat} {a : Option Addr} {vs : List Value} (h : RdS Tryz.prog B A0 sz a m c vs) : RdS Tryz.prog B [lst A0] sz a m c vs := RdS.ofEnt h (by simpa using Ent.lst_open A0 [])
end specs
end Go.Proofs.YtnoggejkkjngjaaGreat
/- Layer 15: the document's example. No condition. -/
set_option maxHeartbeats 8000000
set_option linter.unusedVariables false
set_option linter.unusedSimpArgs false
set_option maxRecDepth 100000
namespace Go.Proofs.YtnoggejkkjngjaaGreat
open Go Go.Sl
attribute [local irreducible] Go.Sl.Wl Go.Sl.Wc Go.Sl.thenQ Go.Sl.blkQ Go.Sl.loopQ Go.Sl.Fspec

def kA : ByteArray := ⟨#[97]⟩
def kB : ByteArray := ⟨#[98]⟩
def tX : ByteArray := ⟨#[120]⟩
def tY : ByteArray := ⟨#[121]⟩
def oneT : List Ep := [⟨1, 0, false⟩]
def enZ : EnX := ⟨0, 0, 0, 0, ByteArray.empty, false, ByteArray.empty⟩
def rcW (x : EnX) : RcG := ⟨1, x, ⟨0, 0, false⟩, 0, SnX.zero⟩
def rcE (e : Ep) : RcG := ⟨2, enZ, e, 0, SnX.zero⟩
theorem zero_rg : rg 0 := by unfold rg; omega
theorem enZ_ok : enZ.ok := by simp [EnX.ok, SX.ok, EnX.se, enZ]
theorem rcW_ok {x : EnX} (h : x.ok) (hi : rg x.i) : (rcW x).ok := ⟨h, hi, zero_rg, by simp [rcW, SnX.zero], by simp [rcW, SnX.zero], by simp [rcW, SnX.zero], by simp [rcW, SnX.zero]⟩
theorem rcE_ok (e : Ep) : (rcE e).ok := ⟨enZ_ok, zero_rg, zero_rg, by simp [rcE, SnX.zero], by simp [rcE, SnX.zero], by simp [rcE, SnX.zero], by simp [rcE, SnX.zero]⟩
def aw15a : EnX := ⟨1, 1, 1, 1, kA, false, tX⟩
def aw15b : EnX := ⟨1, 2, 1, 2, kB, false, tY⟩
def awS0 : G15 := newG oneT
def awS1 : G15 := ⟨oneT, SnX.zero, [aw15a], false⟩
def awS2 : G15 := ⟨oneT, SnX.zero, [aw15a, aw15b], false⟩
def awS3 : G15 := ⟨[⟨1, 0, false⟩, ⟨2, 1, false⟩], SnX.zero, [aw15a], false⟩
theorem one_right : rightT oneT = true := by decide
section specs
variable {B : Base}
theorem one_spec : Fspec Tryz.prog B 22 #[] [] (fun v A' => ∃ r, v = .slice (some ⟨r, 0, none⟩) 1 1 ∧ A' = [cb r (epsC oneT) 45]) := by
  refine spec_of (args := []) Tryz.func22 rfl rfl rfl ?_
  repeat' (first
    | refine zh ?_
    | refine zK ?_
    | refine zS (h := ?_)
    | refine zU (h := ?_)
    | refine zi ?_
    | refine zR ?_
    | refine za ?_
    | refine zN ?_
    | refine zY ?_
    | refine zd ?_
    | refine zO ?_
    | refine zZ ?_
    | refine zQ rfl ?_
    | refine ze ?_
    | refine zX ?_
    | refine zP ?_
    | refine zT ?_
    | refine zL ?_
    | (refine zE (id := 0) ?_; intro K hK; refine zI (k := ?_); (refine zF (hK _ _ ?_); clear hK K))
    | (refine zE (id := 1) ?_; intro K hK; refine zt (k := ?_); ((refine yT (cs := epC ⟨1, 0, false⟩) (k := ?_); intro r2)) <;> (refine zI (k := ?_); (refine zF (hK _ _ ?_); clear hK K)))
    | (refine zc (ht := (fun ht => ?_)) (hf := (fun ht => ?_)) <;> (try simp at ht) <;> (try (exfalso; omega))))
  exact ⟨Or.inr rfl, _, [cb r2 (epsC oneT) 45], (by (repeat (first | exact Ent.refl _ | exact Ent.nil | refine Ent.take (by (repeat (first | exact Out.head | apply Out.tail)); (first | done | fail)) ?_ | refine Ent.drop1 ?_))), res1 rfl rfl, r2, rfl, rfl⟩
theorem awake15 : Fspec Tryz.prog B 6 #[] [] (fun v A' => v = .bool true ∧ A' = []) := by
  have c1 : gchkV awS0 (rcW aw15a) = 0 := by decide +kernel
  have c2 : gchkV awS1 (rcW aw15b) = 0 := by decide +kernel
  have c3 : gchkV awS2 (rcE ⟨2, 1, false⟩) = 0 := by decide +kernel
  have p1 : gapplyV awS0 (rcW aw15a) = awS1 := by unfold gapplyV; rw [c1]; rfl
  have p2 : gapplyV awS1 (rcW aw15b) = awS2 := by unfold gapplyV; rw [c2]; rfl
  have p3 : gapplyV awS2 (rcE ⟨2, 1, false⟩) = awS3 := by unfold gapplyV; rw [c3]; rfl
  have xa : aw15a.ok := by simp [EnX.ok, SX.ok, EnX.se, aw15a]
  have xb : aw15b.ok := by simp [EnX.ok, SX.ok, EnX.se, aw15b]
  have ra : (rcW aw15a).ok := rcW_ok xa (by show rg 1; unfold rg; omega)
  have rb : (rcW aw15b).ok := rcW_ok xb (by show rg 2; unfold rg; omega)
  have re : (rcE ⟨2, 1, false⟩).ok := rcE_ok _
  have k0 : awS0.inv 1000 := new_inv one_right
  have k1 : awS1.inv 1001 := p1 ▸ k0.apply ra (by simp [rcW, SnX.zero]) (by omega)
  have k2 : awS2.inv 1002 := p2 ▸ k1.apply rb (by simp [rcW, SnX.zero]) (by omega)
  have g1 : (kX awS3.fold.t.inorder kA).d = tX := by decide +kernel
  have g2 : (kX awS3.fold.t.inorder kB).c = false := by decide +kernel
  have f1 : awS3.fold.e = 1 := by decide +kernel
  have f2 : awS3.fold.i = 1 := by decide +kernel
  refine spec_of (args := []) Tryz.func6 rfl rfl rfl ?_
  repeat' (first
    | refine zh ?_
    | refine zK ?_
    | refine zS (h := ?_)
    | refine zU (h := ?_)
    | refine zi ?_
    | refine zR ?_
    | refine za ?_
    | refine zN ?_
    | refine zY ?_
    | refine zd ?_
    | refine zO ?_
    | refine zZ ?_
    | refine zQ rfl ?_
    | refine ze ?_
    | refine zX ?_
    | refine zP ?_
    | refine zT ?_
    | refine zL ?_
    | (refine zE (id := 0) ?_; intro K hK; refine zI (k := ?_); (refine zF (hK _ _ ?_); clear hK K))
    | (refine zE (id := 1) ?_; intro K hK; ((refine zb (hs := one_spec) (k := ?_); rintro v A' ⟨r, rfl, rfl⟩; simp only [List.cons_append, List.nil_append])) <;> (((refine zb (hs := gnew_spec [cb r (epsC oneT) 45] oneT (some ⟨r, 0, none⟩) 1 (rds_cb .head rfl) (by decide)) (k := ?_); rintro v A' ⟨st, rfl, rfl⟩; simp only [List.cons_append, List.nil_append])) <;> (refine zD (k := ?_); refine zx (k' := ?_); refine zx (k' := ?_); refine zI (k := ?_); refine zI (k := ?_); (refine zF (hK _ _ ?_); clear hK K))))
    | (refine zE (id := 2) ?_; intro K hK; refine zD (k := ?_); refine zf (k' := ?_); refine zD (k := ?_); ((first | (refine zA (k := ?_); refine zD (k := ?_)) | refine zC (k := ?_) | ((refine zG (yes := (fun ht => ?_)) (no := (fun ht => ?_)) <;> (try simp at ht) <;> (try (exfalso; omega))) <;> (first | (refine zA (k := ?_); refine zD (k := ?_)) | refine zC (k := ?_))))) <;> (((first | (refine zA (k := ?_); refine yB (k' := ?_)) | refine zC (k := ?_) | ((refine zG (yes := (fun ht => ?_)) (no := (fun ht => ?_)) <;> (try simp at ht) <;> (try (exfalso; omega))) <;> (first | (refine zA (k := ?_); refine yB (k' := ?_)) | refine zC (k := ?_))))) <;> ((first | refine zV (k := ?_) | refine zW (k := ?_) | refine zg (k := ?_)); (refine zF (hK _ _ ?_); clear hK K))))
    | (refine zE (id := 3) ?_; intro K hK; refine zI (k := ?_); (refine zF (hK _ _ ?_); clear hK K))
    | (refine zE (id := 4) ?_; intro K hK; refine zD (k := ?_); refine zt (k := ?_); refine zt (k := ?_); refine zt (k := ?_); ((refine zb (hs := gapply_spec [] st 1000 awS0 k0 (by omega) (rcW aw15a) ra none 0 none 0 rds_nil rds_nil) (k := ?_); rintro v A' ⟨rfl, rfl⟩; simp only [List.cons_append, List.nil_append]; rw [c1, p1])) <;> (refine zI (k := ?_); (refine zF (hK _ _ ?_); clear hK K)))
    | (refine zE (id := 5) ?_; intro K hK; refine zD (k := ?_); refine zt (k := ?_); refine zt (k := ?_); refine zt (k := ?_); ((refine zb (hs := gapply_spec [] st 1001 awS1 k1 (by omega) (rcW aw15b) rb none 0 none 0 rds_nil rds_nil) (k := ?_); rintro v A' ⟨rfl, rfl⟩; simp only [List.cons_append, List.nil_append]; rw [c2, p2])) <;> (refine zI (k := ?_); (refine zF (hK _ _ ?_); clear hK K)))
    | (refine zE (id := 6) ?_; intro K hK; refine zD (k := ?_); refine zt (k := ?_); refine zt (k := ?_); ((refine zb (hs := gapply_spec [] st 1002 awS2 k2 (by omega) (rcE ⟨2, 1, false⟩) re none 0 none 0 rds_nil rds_nil) (k := ?_); rintro v A' ⟨rfl, rfl⟩; simp only [List.cons_append, List.nil_append]; rw [c3, p3])) <;> (refine zI (k := ?_); (refine zF (hK _ _ ?_); clear hK K)))
    | (refine zE (id := 7) ?_; intro K hK; refine zD (k := ?_); refine z5 (k' := ?_); refine zD (k := ?_); ((first | (refine zA (k := ?_); refine zD (k := ?_)) | refine zC (k := ?_) | ((refine zG (yes := (fun ht => ?_)) (no := (fun ht => ?_)) <;> (try simp at ht) <;> (try (exfalso; omega))) <;> (first | (refine zA (k := ?_); refine zD (k := ?_)) | refine zC (k := ?_))))) <;> (((first | (refine zA (k := ?_); refine z5 (k' := ?_)) | refine zC (k := ?_) | ((refine zG (yes := (fun ht => ?_)) (no := (fun ht => ?_)) <;> (try simp at ht) <;> (try (exfalso; omega))) <;> (first | (refine zA (k := ?_); refine z5 (k' := ?_)) | refine zC (k := ?_))))) <;> ((first | refine zV (k := ?_) | refine zW (k := ?_) | refine zg (k := ?_)); refine zD (k := ?_); ((first | (refine zA (k := ?_); refine zD (k := ?_)) | refine zC (k := ?_) | ((refine zG (yes := (fun ht => ?_)) (no := (fun ht => ?_)) <;> (try simp at ht) <;> (try (exfalso; omega))) <;> (first | (refine zA (k := ?_); refine zD (k := ?_)) | refine zC (k := ?_))))) <;> (((first | (refine zA (k := ?_); refine z5 (k' := ?_)) | refine zC (k := ?_) | ((refine zG (yes := (fun ht => ?_)) (no := (fun ht => ?_)) <;> (try simp at ht) <;> (try (exfalso; omega))) <;> (first | (refine zA (k := ?_); refine z5 (k' := ?_)) | refine zC (k := ?_))))) <;> ((first | refine zV (k := ?_) | refine zW (k := ?_) | refine zg (k := ?_)); refine zD (k := ?_); ((first | (refine zA (k := ?_); refine zD (k := ?_)) | refine zC (k := ?_) | ((refine zG (yes := (fun ht => ?_)) (no := (fun ht => ?_)) <;> (try simp at ht) <;> (try (exfalso; omega))) <;> (first | (refine zA (k := ?_); refine zD (k := ?_)) | refine zC (k := ?_))))) <;> (((first | (refine zA (k := ?_); (refine zb (hs := glast_spec st awS3) (k := ?_); rintro v A' ⟨rfl, rfl⟩; simp only [List.cons_append, List.nil_append]; rw [f1, f2])) | refine zC (k := ?_) | ((refine zG (yes := (fun ht => ?_)) (no := (fun ht => ?_)) <;> (try simp at ht) <;> (try (exfalso; omega))) <;> (first | (refine zA (k := ?_); (refine zb (hs := glast_spec st awS3) (k := ?_); rintro v A' ⟨rfl, rfl⟩; simp only [List.cons_append, List.nil_append]; rw [f1, f2])) | refine zC (k := ?_))))) <;> (((first | (refine zA (k := ?_); refine zt (k := ?_)) | refine zC (k := ?_) | ((refine zG (yes := (fun ht => ?_)) (no := (fun ht => ?_)) <;> (try simp at ht) <;> (try (exfalso; omega))) <;> (first | (refine zA (k := ?_); refine zt (k := ?_)) | refine zC (k := ?_))))) <;> (((first | (refine zA (k := ?_); (refine yK (b := true) (hb := rfl) (k' := ?_))) | refine zC (k := ?_) | ((refine zG (yes := (fun ht => ?_)) (no := (fun ht => ?_)) <;> (try simp at ht) <;> (try (exfalso; omega))) <;> (first | (refine zA (k := ?_); (refine yK (b := true) (hb := rfl) (k' := ?_))) | refine zC (k := ?_))))) <;> ((first | refine zV (k := ?_) | refine zW (k := ?_) | refine zg (k := ?_)); refine zD (k := ?_); ((first | (refine zA (k := ?_); refine zD (k := ?_)) | refine zC (k := ?_) | ((refine zG (yes := (fun ht => ?_)) (no := (fun ht => ?_)) <;> (try simp at ht) <;> (try (exfalso; omega))) <;> (first | (refine zA (k := ?_); refine zD (k := ?_)) | refine zC (k := ?_))))) <;> (((first | (refine zA (k := ?_); (refine zb (hs := gget_spec st awS3 kA) (k := ?_); rintro v A' ⟨rfl, rfl⟩; simp only [List.cons_append, List.nil_append]; simp only [VX.C]; rw [g1])) | refine zC (k := ?_) | ((refine zG (yes := (fun ht => ?_)) (no := (fun ht => ?_)) <;> (try simp at ht) <;> (try (exfalso; omega))) <;> (first | (refine zA (k := ?_); (refine zb (hs := gget_spec st awS3 kA) (k := ?_); rintro v A' ⟨rfl, rfl⟩; simp only [List.cons_append, List.nil_append]; simp only [VX.C]; rw [g1])) | refine zC (k := ?_))))) <;> (((first | (refine zA (k := ?_); refine yi (k' := ?_)) | refine zC (k := ?_) | ((refine zG (yes := (fun ht => ?_)) (no := (fun ht => ?_)) <;> (try simp at ht) <;> (try (exfalso; omega))) <;> (first | (refine zA (k := ?_); refine yi (k' := ?_)) | refine zC (k := ?_))))) <;> (((first | (refine zA (k := ?_); (refine yd (a := tX) (b := tX) (k' := ?_); rw [beq_self_eq_true])) | refine zC (k := ?_) | ((refine zG (yes := (fun ht => ?_)) (no := (fun ht => ?_)) <;> (try simp at ht) <;> (try (exfalso; omega))) <;> (first | (refine zA (k := ?_); (refine yd (a := tX) (b := tX) (k' := ?_); rw [beq_self_eq_true])) | refine zC (k := ?_))))) <;> ((first | refine zV (k := ?_) | refine zW (k := ?_) | refine zg (k := ?_)); refine zD (k := ?_); ((first | (refine zA (k := ?_); refine zD (k := ?_)) | refine zC (k := ?_) | ((refine zG (yes := (fun ht => ?_)) (no := (fun ht => ?_)) <;> (try simp at ht) <;> (try (exfalso; omega))) <;> (first | (refine zA (k := ?_); refine zD (k := ?_)) | refine zC (k := ?_))))) <;> (((first | (refine zA (k := ?_); (refine zb (hs := gget_spec st awS3 kB) (k := ?_); rintro v A' ⟨rfl, rfl⟩; simp only [List.cons_append, List.nil_append]; simp only [VX.C]; rw [g2])) | refine zC (k := ?_) | ((refine zG (yes := (fun ht => ?_)) (no := (fun ht => ?_)) <;> (try simp at ht) <;> (try (exfalso; omega))) <;> (first | (refine zA (k := ?_); (refine zb (hs := gget_spec st awS3 kB) (k := ?_); rintro v A' ⟨rfl, rfl⟩; simp only [List.cons_append, List.nil_append]; simp only [VX.C]; rw [g2])) | refine zC (k := ?_))))) <;> (((first | (refine zA (k := ?_); refine yi (k' := ?_)) | refine zC (k := ?_) | ((refine zG (yes := (fun ht => ?_)) (no := (fun ht => ?_)) <;> (try simp at ht) <;> (try (exfalso; omega))) <;> (first | (refine zA (k := ?_); refine yi (k' := ?_)) | refine zC (k := ?_))))) <;> (((first | (refine zA (k := ?_); refine z6 (k' := ?_)) | refine zC (k := ?_) | ((refine zG (yes := (fun ht => ?_)) (no := (fun ht => ?_)) <;> (try simp at ht) <;> (try (exfalso; omega))) <;> (first | (refine zA (k := ?_); refine z6 (k' := ?_)) | refine zC (k := ?_))))) <;> ((first | refine zV (k := ?_) | refine zW (k := ?_) | refine zg (k := ?_)); refine zD (k := ?_); ((first | (refine zA (k := ?_); refine zD (k := ?_)) | refine zC (k := ?_) | ((refine zG (yes := (fun ht => ?_)) (no := (fun ht => ?_)) <;> (try simp at ht) <;> (try (exfalso; omega))) <;> (first | (refine zA (k := ?_); refine zD (k := ?_)) | refine zC (k := ?_))))) <;> (((first | (refine zA (k := ?_); (refine zb (hs := gconfig_spec st awS3) (k := ?_); rintro v A' ⟨rfl, rfl⟩; simp only [List.cons_append, List.nil_append]; rw [show ((awS3.table.length : Nat) : Int) = 2 from rfl])) | refine zC (k := ?_) | ((refine zG (yes := (fun ht => ?_)) (no := (fun ht => ?_)) <;> (try simp at ht) <;> (try (exfalso; omega))) <;> (first | (refine zA (k := ?_); (refine zb (hs := gconfig_spec st awS3) (k := ?_); rintro v A' ⟨rfl, rfl⟩; simp only [List.cons_append, List.nil_append]; rw [show ((awS3.table.length : Nat) : Int) = 2 from rfl])) | refine zC (k := ?_))))) <;> (((first | (refine zA (k := ?_); refine z5 (k' := ?_)) | refine zC (k := ?_) | ((refine zG (yes := (fun ht => ?_)) (no := (fun ht => ?_)) <;> (try simp at ht) <;> (try (exfalso; omega))) <;> (first | (refine zA (k := ?_); refine z5 (k' := ?_)) | refine zC (k := ?_))))) <;> ((first | refine zV (k := ?_) | refine zW (k := ?_) | refine zg (k := ?_)); refine zD (k := ?_); ((first | (refine zA (k := ?_); refine zD (k := ?_)) | refine zC (k := ?_) | ((refine zG (yes := (fun ht => ?_)) (no := (fun ht => ?_)) <;> (try simp at ht) <;> (try (exfalso; omega))) <;> (first | (refine zA (k := ?_); refine zD (k := ?_)) | refine zC (k := ?_))))) <;> (((first | (refine zA (k := ?_); (refine zb (hs := gmaster_spec st awS3 (by decide) ⟨2, 1, false⟩ rfl) (k := ?_); rintro v A' ⟨rfl, rfl⟩; simp only [List.cons_append, List.nil_append])) | refine zC (k := ?_) | ((refine zG (yes := (fun ht => ?_)) (no := (fun ht => ?_)) <;> (try simp at ht) <;> (try (exfalso; omega))) <;> (first | (refine zA (k := ?_); (refine zb (hs := gmaster_spec st awS3 (by decide) ⟨2, 1, false⟩ rfl) (k := ?_); rintro v A' ⟨rfl, rfl⟩; simp only [List.cons_append, List.nil_append])) | refine zC (k := ?_))))) <;> (((first | (refine zA (k := ?_); refine z5 (k' := ?_)) | refine zC (k := ?_) | ((refine zG (yes := (fun ht => ?_)) (no := (fun ht => ?_)) <;> (try simp at ht) <;> (try (exfalso; omega))) <;> (first | (refine zA (k := ?_); refine z5 (k' := ?_)) | refine zC (k := ?_))))) <;> ((first | refine zV (k := ?_) | refine zW (k := ?_) | refine zg (k := ?_)); refine zI (k := ?_); (refine zF (hK _ _ ?_); clear hK K))))))))))))))))))))))))
    | (refine zc (ht := (fun ht => ?_)) (hf := (fun ht => ?_)) <;> (try simp at ht) <;> (try (exfalso; omega))))
  all_goals exact ⟨Or.inr rfl, .bool true, [], Ent.nil, res1 rfl rfl, rfl, rfl⟩
end specs
end Go.Proofs.YtnoggejkkjngjaaGreat
