/- Package state: what is told; which snapshots are right. Conditions: none but the kinds' bounds, and not too many rows. -/
import Derived.Test.YtnoggejkkjngjaaGl
import Derived.Test.YtnoggejkkjngjaaVWalk
import Derived.Test.YtnoggejkkjngjaaDedA
import Derived.SlDev
set_option maxHeartbeats 8000000
set_option linter.unusedVariables false
set_option linter.unusedSimpArgs false
set_option maxRecDepth 100000
namespace Go.Proofs.Ytnoggejkkjngjaa
open Go Go.Sl
attribute [local irreducible] Go.Sl.Wl Go.Sl.Wc Go.Sl.thenQ Go.Sl.blkQ Go.Sl.loopQ Go.Sl.Fspec

def TdG (r : Nat) (f : FoX) (sa : Option Addr) (sc : Nat) (pre : List (ByteArray × VX)) (y : Option Addr × Nat) : List Asn :=
  [cb r [.int .i64 f.e, .int .i64 f.i, .slice y.1 pre.length y.2, .slice sa f.L.length sc] 40, own y.1 pre.length y.2 5 (prC (pre.map kPr)) 67]
theorem Ent_foldTdG {r c n : Nat} {f : FoX} {sa : Option Addr} {sc : Nat} {a : Option Addr} {pre : List (ByteArray × VX)} {vs : List Value} {A A1 A2 L : List Asn}
    (h1 : Out (cb r [.int .i64 f.e, .int .i64 f.i, .slice a n c, .slice sa f.L.length sc] 40) A A1) (h2 : Out (own a n c 5 vs 67) A1 A2) (hn : n = pre.length) (hv : vs = prC (pre.map kPr)) (h : Ent (exN (TdG r f sa sc pre) :: A2) L) : Ent A L := by
  subst hn hv
  exact ((Ent.perm (h1.perm.trans (h2.perm.cons _))).trans (Ent.exN_shut (f := TdG r f sa sc pre) (a, c) A2)).trans h
section specs
variable {B : Base}
theorem told_spec (st k d : Nat) (f : FoX) (hf : f.ok 900000) (hL : f.L.length ≤ 1000) (l : List Value) (T : TypeId) :
    Fspec Try.prog B 39 #[.pointer (some ⟨st, 0, none⟩)] [cb st (.int .i64 f.e :: .int .i64 f.i :: .pointer (some ⟨k, 0, none⟩) :: .pointer (some ⟨d, 0, none⟩) :: l) T, MpA k f.t, DeP d 16 f.L]
      (fun v A' => ∃ pa pc sa sc, v = .agg #[.int .i64 f.e, .int .i64 f.i, .slice pa f.snap.ps.length pc, .slice sa f.snap.ss.length sc] ∧
        A' = [own pa f.snap.ps.length pc 5 (prC f.snap.ps) 67, own sa f.snap.ss.length sc 4 (ssC f.snap.ss) 69, cb st (.int .i64 f.e :: .int .i64 f.i :: .pointer (some ⟨k, 0, none⟩) :: .pointer (some ⟨d, 0, none⟩) :: l) T, MpA k f.t, DeP d 16 f.L]) := by
  have hsz := hf.size
  have hlen0 : f.t.inorder.length ≤ 900000 := by rw [Tree.inorder_len]; exact hsz
  refine spec_of (args := [_]) Try.func39 rfl rfl rfl ?_
  repeat' (first
    | (refine Wc_cutS (k := 1) (α := Option Addr × Nat × Nat) (fun x => [(0, .pointer (some ⟨st, 0, none⟩)), (2, .pointer (some ⟨r2, 0, none⟩)), (3, .pointer (some ⟨x.2.2, 0, none⟩))]) (fun x => [cb r2 [.int .i64 0, .int .i64 0, .slice none 0 0, .slice none 0 0] 40, cb x.2.2 [.int .i64 f.e, .int .i64 f.i, .slice none 0 0, .slice x.1 f.L.length x.2.1] 40, own x.1 f.L.length x.2.1 4 (ssC f.L) 69, cb st (.int .i64 f.e :: .int .i64 f.i :: .pointer (some ⟨k, 0, none⟩) :: .pointer (some ⟨d, 0, none⟩) :: l) T, MpA k f.t, DeP d 16 f.L]) (fun x => True) ?_ (fun x G _ => ?_); rotate_left; simp only [ov]; rotate_left)
    | refine Wc_seq ?_
    | refine thenQ_normal ?_
    | refine Wc_cond_t (h := ?_)
    | refine Wc_cond_f (h := ?_)
    | refine Wc_ret ?_
    | refine thenQ_ret ?_
    | refine Wc_block ?_
    | refine blkQ_normal ?_
    | refine blkQ_ret ?_
    | refine Wc_exit ?_
    | refine thenQ_exit ?_
    | refine blkQ_hit ?_
    | refine blkQ_miss rfl ?_
    | refine Wc_skip ?_
    | refine Wc_label ?_
    | refine loopQ_exit ?_
    | refine loopQ_ret ?_
    | refine loopQ_normal ?_
    | (refine Wc_region (id := 0) ?_; intro K hK; ((first | (refine Wl_alloc (k := ?_); intro r2) | sl_stop "s2")) <;> ((refine Wl_nil (hK _ _ ?_); clear hK K)))
    | ((refine Wc_treeF (id := 1) (M := ([cb st (.int .i64 f.e :: .int .i64 f.i :: .pointer (some ⟨k, 0, none⟩) :: .pointer (some ⟨d, 0, none⟩) :: l) T])) (Ls := [9, 13]) (t := (.step 0 (.step 1 (.step 2 (.step 3 (.step 4 (.step 5 (.step 6 (.step 7 (.alt (.step 8 (.step 9 (.step 10 (.step 11 .done)))) (.step 10 (.step 8 (.step 9 (.step 11 .done)))))))))))))) (bad := [8, 10]) (hok := (by decide +kernel)) (hp := (Pick.perm (by (repeat (first | exact Pick.nil | apply Pick.cons (by (repeat (first | exact Out.head | apply Out.tail)); (first | done | fail)))); (first | done | fail)))) (h := ?_); intro K hK; repeat' (first | refine WlT_alt ?_ ?_ | (refine WlT_step (i := 0) rfl ?_; ((first | refine Wl_move (k := ?_) | sl_stop "s6")) <;> (refine Wl_nil ?_)) | (refine WlT_step (i := 1) rfl ?_; ((first | refine Wl_nilCheck (k := ?_) | sl_stop "s7")) <;> (refine Wl_nil ?_)) | (refine WlT_step (i := 2) rfl ?_; ((first | refine Wl_fieldAddr (k := ?_) | sl_stop "s8")) <;> (refine Wl_nil ?_)) | (refine WlT_step (i := 3) rfl ?_; ((first | refine Wl_loadRF (k := ?_) | sl_stop "s9")) <;> (refine Wl_nil ?_)) | (refine WlT_step (i := 4) rfl ?_; ((first | refine Wl_move (k := ?_) | sl_stop "s10")) <;> (refine Wl_nil ?_)) | (refine WlT_step (i := 5) rfl ?_; ((first | refine Wl_nilCheck (k := ?_) | sl_stop "s11")) <;> (refine Wl_nil ?_)) | (refine WlT_step (i := 6) rfl ?_; ((first | refine Wl_fieldAddr (k := ?_) | sl_stop "s12")) <;> (refine Wl_nil ?_)) | (refine WlT_step (i := 7) rfl ?_; ((first | refine Wl_loadF (k := ?_) | sl_stop "s13")) <;> (refine Wl_nil ?_)) | (refine WlT_step (i := 8) rfl ?_; ((first | (refine Wl_call (hs := all_spec d 16 f.L hf.ris hL) (k := ?_); rintro v A' ⟨sa, sc, rfl, rfl⟩; simp only [List.cons_append, List.nil_append]) | sl_stop "s14")) <;> (refine Wl_nil ?_)) | (refine WlT_step (i := 9) rfl ?_; ((first | refine Wl_build (k := ?_) | sl_stop "s15")) <;> (refine Wl_nil ?_)) | (refine WlT_step (i := 10) rfl ?_; ((first | (refine Wl_alloc (k := ?_); intro r3) | sl_stop "s3")) <;> (refine Wl_nil ?_)) | (refine WlT_step (i := 11) rfl ?_; ((first | refine Wl_storeR (ho' := rfl) (k := ?_) | sl_stop "o11")) <;> (refine Wl_nil ?_)) | (refine WlT_done (hK _ _ ?_); clear hK K; try simp only [List.cons_append, List.nil_append]))))
    | (refine Wc_region (id := 2) ?_; intro K hK; (first | refine Wl_move (k := ?_) | sl_stop "s16"); (first | refine Wl_nilCheck (k := ?_) | sl_stop "s17"); (first | refine Wl_fieldAddr (k := ?_) | sl_stop "s18"); (first | refine Wl_load (k := ?_) | sl_stop "s19"); ((first | (refine Wl_call (hs := mall_spec (B := B) _ _ rfl) (k := ?_); rintro v A' ⟨ra, rfl, rfl⟩; simp only [List.cons_append, List.nil_append]) | sl_stop "s20")) <;> ((refine Wl_nil (hK _ _ ?_); clear hK K)))
    | (refine Wc_cond (ht := (fun ht => ?_)) (hf := (fun ht => ?_)) <;> (try simp at ht) <;> (try (exfalso; omega))))
  all_goals first | exact ⟨(sa, sc, r3), trivial, ⟨rfl, rfl, rfl, trivial⟩, (by (repeat (first | exact Ent.refl _ | exact Ent.nil | refine Ent.take (by (repeat (first | exact Out.head | apply Out.tail)); (first | done | fail)) ?_ | refine Ent.drop1 ?_)); (first | done | fail))⟩ | skip
  obtain ⟨sa, sc, r3⟩ := x
  simp only
  refine Wc_rangeFunc (vs := []) encP f.t.inorder [cb ra [.pointer (some ⟨k, 0, none⟩)] 77, MpA k f.t]
    (fun pre => [exN (TdG r3 f sa sc pre), cb r2 [.int .i64 0, .int .i64 0, .slice none 0 0, .slice none 0 0] 40, own sa f.L.length sc 4 (ssC f.L) 69, cb st (.int .i64 f.e :: .int .i64 f.i :: .pointer (some ⟨k, 0, none⟩) :: .pointer (some ⟨d, 0, none⟩) :: l) T, DeP d 16 f.L]) (fun _ _ => [pur False]) rfl ?_ (all_seq ra k f.t) (by decide) (fun _ => rfl) ?_ ?_ (fun c pre x rest hx => ?_)
  · refine Ent.trans (own_nil 5 67 _) (Ent_foldTdG (pre := []) (r := r3) (c := 0) (a := none) (f := f) (sa := sa) (sc := sc) (by (repeat (first | exact Out.head | apply Out.tail)); (first | done | fail)) (by (repeat (first | exact Out.head | apply Out.tail)); (first | done | fail)) rfl rfl ?_)
    simp only [List.cons_append, List.nil_append]
    (repeat (first | exact Ent.refl _ | exact Ent.nil | refine Ent.take (by (repeat (first | exact Out.head | apply Out.tail)); (first | done | fail)) ?_ | refine Ent.drop1 ?_))
  · rintro pre ⟨kk, n⟩ rest hx
    have hlt : pre.length ≤ 900000 := by rw [hx] at hlen0; simp at hlen0; omega
    unfold Round
    simp only [encP, List.zip_cons_cons, List.zip_nil_right, ups, List.cons_append, List.nil_append]
    repeat' (first
      | refine Wc_seq ?_
      | refine thenQ_normal ?_
      | refine Wc_cond_t (h := ?_)
      | refine Wc_cond_f (h := ?_)
      | refine Wc_ret ?_
      | refine thenQ_ret ?_
      | refine Wc_block ?_
      | refine blkQ_normal ?_
      | refine blkQ_ret ?_
      | refine Wc_exit ?_
      | refine thenQ_exit ?_
      | refine blkQ_hit ?_
      | refine blkQ_miss rfl ?_
      | refine Wc_skip ?_
      | refine Wc_label ?_
      | refine loopQ_exit ?_
      | refine loopQ_ret ?_
      | refine loopQ_normal ?_
      | (refine Wc_region (id := 3) ?_; intro K hK; (first | refine Wl_assign (k := ?_) | sl_stop "s4"); (refine Wl_nil (hK _ _ ?_); clear hK K))
      | (refine Wc_region (id := 4) ?_; intro K hK; ((first | (refine Wl_alloc (k := ?_); intro r5) | sl_stop "s5")) <;> ((first | refine Wl_storeR (ho' := rfl) (k := ?_) | sl_stop "o1"); (refine Wl_nil (hK _ _ ?_); clear hK K)))
      | (refine Wc_cond (ht := (fun ht => ?_)) (hf := (fun ht => ?_)) <;> (try simp at ht) <;> (try (exfalso; omega))))
    refine ⟨rfl, ?_⟩
    refine Wc_take (y := exN (TdG r3 f sa sc pre)) (k := (Wc_exN (fun y => ?_)))
    simp only [TdG, List.cons_append, List.nil_append]
    repeat' (first
      | refine Wc_seq ?_
      | refine thenQ_normal ?_
      | refine Wc_cond_t (h := ?_)
      | refine Wc_cond_f (h := ?_)
      | refine Wc_ret ?_
      | refine thenQ_ret ?_
      | refine Wc_block ?_
      | refine blkQ_normal ?_
      | refine blkQ_ret ?_
      | refine Wc_exit ?_
      | refine thenQ_exit ?_
      | refine blkQ_hit ?_
      | refine blkQ_miss rfl ?_
      | refine Wc_skip ?_
      | refine Wc_label ?_
      | refine loopQ_exit ?_
      | refine loopQ_ret ?_
      | refine loopQ_normal ?_
      | (refine Wc_region (id := 5) ?_; intro K hK; (first | refine Wl_fieldAddr (k := ?_) | sl_stop "s23"); (first | refine Wl_load (k := ?_) | sl_stop "s24"); (first | refine Wl_move (k := ?_) | sl_stop "s25"); (first | refine Wl_loadR (k := ?_) | sl_stop "s26"); (first | refine Wl_build (k := ?_) | sl_stop "s27"); ((first | (refine Wl_lit1 (cs := PrX.c ⟨kk, n⟩) (k := ?_); intro r28) | sl_stop "s28")) <;> (((first | (refine Wl_append1 (hvl := by rfl) (hvc := by rfl) (hbd := by omega) (k := ?_); intro nb nc) | sl_stop "s29")) <;> ((first | refine Wl_fieldAddr (k := ?_) | sl_stop "s30"); (first | refine Wl_store (ho := rfl) (k := ?_) | sl_stop "o8"); (refine Wl_nil (hK _ _ ?_); clear hK K))))
      | (refine Wc_cond (ht := (fun ht => ?_)) (hf := (fun ht => ?_)) <;> (try simp at ht) <;> (try (exfalso; omega))))
    refine .inl ⟨rfl, Ent_foldTdG (r := r3) (f := f) (sa := sa) (sc := sc) (pre := pre ++ [(kk, n)]) (by (repeat (first | exact Out.head | apply Out.tail)); (first | done | fail)) (by (repeat (first | exact Out.head | apply Out.tail)); (first | done | fail)) (by simp) (by simp [prC, kPr]) ?_⟩
    (repeat (first | exact Ent.refl _ | exact Ent.nil | refine Ent.take (by (repeat (first | exact Out.head | apply Out.tail)); (first | done | fail)) ?_ | refine Ent.drop1 ?_))
  · refine blkQ_normal (thenQ_normal ?_)
    simp only [List.cons_append, List.nil_append]
    refine Wc_take (y := exN (TdG r3 f sa sc f.t.inorder)) (k := (Wc_exN (fun y => ?_)))
    simp only [TdG, List.cons_append, List.nil_append]
    repeat' (first
      | refine Wc_seq ?_
      | refine thenQ_normal ?_
      | refine Wc_cond_t (h := ?_)
      | refine Wc_cond_f (h := ?_)
      | refine Wc_ret ?_
      | refine thenQ_ret ?_
      | refine Wc_block ?_
      | refine blkQ_normal ?_
      | refine blkQ_ret ?_
      | refine Wc_exit ?_
      | refine thenQ_exit ?_
      | refine blkQ_hit ?_
      | refine blkQ_miss rfl ?_
      | refine Wc_skip ?_
      | refine Wc_label ?_
      | refine loopQ_exit ?_
      | refine loopQ_ret ?_
      | refine loopQ_normal ?_
      | (refine Wc_region (id := 6) ?_; intro K hK; (first | refine Wl_loadR (k := ?_) | sl_stop "s31"); (first | refine Wl_storeR (ho' := rfl) (k := ?_) | sl_stop "o1"); (refine Wl_nil (hK _ _ ?_); clear hK K))
      | (refine Wc_cond (ht := (fun ht => ?_)) (hf := (fun ht => ?_)) <;> (try simp at ht) <;> (try (exfalso; omega))))
    have hpl : f.t.inorder.length = f.snap.ps.length := by simp [FoX.snap, prs]
    refine ⟨Or.inr rfl, _, [own y.1 f.snap.ps.length y.2 5 (prC f.snap.ps) 67, own sa f.snap.ss.length sc 4 (ssC f.snap.ss) 69, cb st (.int .i64 f.e :: .int .i64 f.i :: .pointer (some ⟨k, 0, none⟩) :: .pointer (some ⟨d, 0, none⟩) :: l) T, MpA k f.t, DeP d 16 f.L], ?_, resG rfl (by (repeat (first | exact ResL.nil | apply ResL.tmp (by (repeat (first | exact Ev.here | exact Ev.const | exact Ev.arg rfl | apply Ev.there rfl | exact Ev.none rfl | exact Ev.func | exact Ev.var)); (first | done | fail)) | apply ResL.agg (by (repeat (first | exact Ev.here | exact Ev.const | exact Ev.arg rfl | apply Ev.there rfl | exact Ev.none rfl | exact Ev.func | exact Ev.var)); (first | done | fail)) (by (repeat (first | exact Rd.head | exact Rd.base (by assumption) | apply Rd.tail)); (first | done | fail)) (by (repeat (first | exact TakeR.nil | apply TakeR.take | apply TakeR.skip)); (first | done | fail)) | apply ResL.cell (by (repeat (first | exact Ev.here | exact Ev.const | exact Ev.arg rfl | apply Ev.there rfl | exact Ev.none rfl | exact Ev.func | exact Ev.var)); (first | done | fail)) (by (repeat (first | exact Rd.head | exact Rd.base (by assumption) | apply Rd.tail)); (first | done | fail)) rfl)); (first | done | fail)) rfl, y.1, y.2, sa, sc, by rw [← hpl]; rfl, rfl⟩
    rw [← hpl]
    show Ent _ [own y.1 f.t.inorder.length y.2 5 (prC (f.t.inorder.map kPr)) 67, own sa f.L.length sc 4 (ssC f.L) 69, cb st (.int .i64 f.e :: .int .i64 f.i :: .pointer (some ⟨k, 0, none⟩) :: .pointer (some ⟨d, 0, none⟩) :: l) T, MpA k f.t, DeP d 16 f.L]
    (repeat (first | exact Ent.refl _ | exact Ent.nil | refine Ent.take (by (repeat (first | exact Out.head | apply Out.tail)); (first | done | fail)) ?_ | refine Ent.drop1 ?_))
  · simp only [List.cons_append, List.nil_append]
    refine Wc_take (y := pur False) (k := (Wc_pur (fun h => h.elim)))
end specs
end Go.Proofs.Ytnoggejkkjngjaa
