/- Package state: which snapshots are right; a snapshot in new memory. Conditions: none but the kinds' bounds, and not too many rows. -/
import Derived.Test.YtnoggejkkjngjaaGtc
import Derived.Test.YtnoggejkkjngjaaPosB
set_option maxHeartbeats 8000000
set_option linter.unusedVariables false
set_option linter.unusedSimpArgs false
set_option maxRecDepth 100000
namespace Go.Proofs.Ytnoggejkkjngjaa
open Go Go.Sl
attribute [local irreducible] Go.Sl.Wl Go.Sl.Wc Go.Sl.thenQ Go.Sl.blkQ Go.Sl.loopQ Go.Sl.Fspec

def rg (n : Int) : Prop := -9223372036854775808 ≤ n ∧ n ≤ 9223372036854775807
def belowT (t : List Ep) (e i ae ai : Int) : Bool := !decide (e = 0 ∧ i = 0) && (onT t ae ai && onT t e i && decide (i ≤ ai))
section specs
variable {B : Base}
theorem below_spec (st : Nat) (S : G15) (hS : S.ok) (e i ae ai : Int) (he : rg e) (hae : rg ae) :
    Fspec Try.prog B 67 #[.pointer (some ⟨st, 0, none⟩), .agg #[.int .i64 e, .int .i64 i], .agg #[.int .i64 ae, .int .i64 ai]] [GtP st S] (fun v A' => v = .bool (belowT S.table e i ae ai) ∧ A' = [GtP st S]) := by
  have htab := rightT_out hS.tab
  refine spec_of (args := [_, _, _]) Try.func67 rfl rfl rfl ?_
  refine Wc_exN (fun q => ?_)
  obtain ⟨k, d, ta, tc, pa, pc, sa, sc, ea, ec⟩ := q
  simp only [GtL, GtR]
  simp only [List.cons_append, List.nil_append]
  refine Wc_ownF (a := ta) (sz := 3) (ho := (by (repeat (first | exact Out.head | apply Out.tail)); (first | done | fail))) (h0 := by omega) (h := fun hft => ?_)
  have hcov := covers_spec (B := B) [own ta S.table.length tc 3 (epsC S.table) 29] S.table ta tc (hft.rd .head) (by omega) ae ai e i hae he
  unfold belowT
  by_cases h0 : e = 0 ∧ i = 0
  · rw [decide_eq_true h0]
    repeat' (first
      | refine Wc_seq ?_
      | refine thenQ_normal ?_
      | refine Wc_cond_t (h := ?_)
      | refine Wc_cond_f (h := ?_)
      | refine Wc_ret ?_
      | refine thenQ_ret ?_
      | refine Wc_block ?_
      | refine blkQ_normal ?_
      | refine blkQ_ret ?_
      | refine Wc_exit ?_
      | refine thenQ_exit ?_
      | refine blkQ_hit ?_
      | refine blkQ_miss rfl ?_
      | refine Wc_skip ?_
      | refine Wc_label ?_
      | refine loopQ_exit ?_
      | refine loopQ_ret ?_
      | refine loopQ_normal ?_
      | (refine Wc_region (id := 0) ?_; intro K hK; ((refine Wl_boxAgg (k := ?_); intro r4)) <;> (((refine Wl_boxAgg (k := ?_); intro r5)) <;> (refine Wl_assign (k := ?_); (refine Wl_nil (hK _ _ ?_); clear hK K))))
      | (refine Wc_draw (id := 1) (h := ?_); intro K hK; refine Wl_loadR (k := ?_); refine Wl_build (k := ?_); ((refine Wl_agg_neqB (b := true) (hb := by rw [pos_ceq]; exact decide_eq_true h0) (k' := ?_))) <;> (refine Wl_move (k := ?_); ((first | (refine Wl_guard (k := ?_); refine Wl_move (k := ?_)) | refine Wl_gno (k := ?_) | ((refine Wl_split (yes := (fun ht => ?_)) (no := (fun ht => ?_)) <;> (try simp at ht) <;> (try (exfalso; omega))) <;> (first | (refine Wl_guard (k := ?_); refine Wl_move (k := ?_)) | refine Wl_gno (k := ?_))))) <;> (((first | (refine Wl_guard (k := ?_); refine Wl_nilCheck (k := ?_)) | refine Wl_gno (k := ?_) | ((refine Wl_split (yes := (fun ht => ?_)) (no := (fun ht => ?_)) <;> (try simp at ht) <;> (try (exfalso; omega))) <;> (first | (refine Wl_guard (k := ?_); refine Wl_nilCheck (k := ?_)) | refine Wl_gno (k := ?_))))) <;> (((first | (refine Wl_guard (k := ?_); refine Wl_fieldAddr (k := ?_)) | refine Wl_gno (k := ?_) | ((refine Wl_split (yes := (fun ht => ?_)) (no := (fun ht => ?_)) <;> (try simp at ht) <;> (try (exfalso; omega))) <;> (first | (refine Wl_guard (k := ?_); refine Wl_fieldAddr (k := ?_)) | refine Wl_gno (k := ?_))))) <;> (((first | (refine Wl_guard (k := ?_); refine Wl_load (k := ?_)) | refine Wl_gno (k := ?_) | ((refine Wl_split (yes := (fun ht => ?_)) (no := (fun ht => ?_)) <;> (try simp at ht) <;> (try (exfalso; omega))) <;> (first | (refine Wl_guard (k := ?_); refine Wl_load (k := ?_)) | refine Wl_gno (k := ?_))))) <;> (((first | (refine Wl_guard (k := ?_); refine Wl_loadR (k := ?_)) | refine Wl_gno (k := ?_) | ((refine Wl_split (yes := (fun ht => ?_)) (no := (fun ht => ?_)) <;> (try simp at ht) <;> (try (exfalso; omega))) <;> (first | (refine Wl_guard (k := ?_); refine Wl_loadR (k := ?_)) | refine Wl_gno (k := ?_))))) <;> (((first | (refine Wl_guard (k := ?_); refine Wl_loadR (k := ?_)) | refine Wl_gno (k := ?_) | ((refine Wl_split (yes := (fun ht => ?_)) (no := (fun ht => ?_)) <;> (try simp at ht) <;> (try (exfalso; omega))) <;> (first | (refine Wl_guard (k := ?_); refine Wl_loadR (k := ?_)) | refine Wl_gno (k := ?_))))) <;> ((refine Wl_gno (k := ?_)) <;> ((first | refine Wl_pick_t (k := ?_) | refine Wl_pick_f (k := ?_) | refine Wl_pick (k := ?_)); refine Wl_assign (k := ?_); (refine Wl_nil (hK _ _ ?_); clear hK K))))))))))
      | (refine Wc_cond (ht := (fun ht => ?_)) (hf := (fun ht => ?_)) <;> (try simp at ht) <;> (try (exfalso; omega))))
    exact ⟨Or.inr rfl, _, [GtP st S], gt_fold (A0 := []) ⟨k, d, ta, tc, pa, pc, sa, sc, ea, ec⟩ (by simp only [GtL, GtR]; simp only [List.cons_append, List.nil_append]; (repeat (first | exact Ent.refl _ | exact Ent.nil | refine Ent.take (by (repeat (first | exact Out.head | apply Out.tail)); (first | done | fail)) ?_ | refine Ent.drop1 ?_))), res1 rfl rfl, rfl, rfl⟩
  · rw [decide_eq_false h0]
    repeat' (first
      | refine Wc_seq ?_
      | refine thenQ_normal ?_
      | refine Wc_cond_t (h := ?_)
      | refine Wc_cond_f (h := ?_)
      | refine Wc_ret ?_
      | refine thenQ_ret ?_
      | refine Wc_block ?_
      | refine blkQ_normal ?_
      | refine blkQ_ret ?_
      | refine Wc_exit ?_
      | refine thenQ_exit ?_
      | refine blkQ_hit ?_
      | refine blkQ_miss rfl ?_
      | refine Wc_skip ?_
      | refine Wc_label ?_
      | refine loopQ_exit ?_
      | refine loopQ_ret ?_
      | refine loopQ_normal ?_
      | (refine Wc_region (id := 0) ?_; intro K hK; ((refine Wl_boxAgg (k := ?_); intro r4)) <;> (((refine Wl_boxAgg (k := ?_); intro r5)) <;> (refine Wl_assign (k := ?_); (refine Wl_nil (hK _ _ ?_); clear hK K))))
      | (refine Wc_draw (id := 1) (h := ?_); intro K hK; refine Wl_loadR (k := ?_); refine Wl_build (k := ?_); ((refine Wl_agg_neqB (b := false) (hb := by rw [pos_ceq]; exact decide_eq_false h0) (k' := ?_))) <;> (refine Wl_move (k := ?_); ((first | (refine Wl_guard (k := ?_); refine Wl_move (k := ?_)) | refine Wl_gno (k := ?_) | ((refine Wl_split (yes := (fun ht => ?_)) (no := (fun ht => ?_)) <;> (try simp at ht) <;> (try (exfalso; omega))) <;> (first | (refine Wl_guard (k := ?_); refine Wl_move (k := ?_)) | refine Wl_gno (k := ?_))))) <;> (((first | (refine Wl_guard (k := ?_); refine Wl_nilCheck (k := ?_)) | refine Wl_gno (k := ?_) | ((refine Wl_split (yes := (fun ht => ?_)) (no := (fun ht => ?_)) <;> (try simp at ht) <;> (try (exfalso; omega))) <;> (first | (refine Wl_guard (k := ?_); refine Wl_nilCheck (k := ?_)) | refine Wl_gno (k := ?_))))) <;> (((first | (refine Wl_guard (k := ?_); refine Wl_fieldAddr (k := ?_)) | refine Wl_gno (k := ?_) | ((refine Wl_split (yes := (fun ht => ?_)) (no := (fun ht => ?_)) <;> (try simp at ht) <;> (try (exfalso; omega))) <;> (first | (refine Wl_guard (k := ?_); refine Wl_fieldAddr (k := ?_)) | refine Wl_gno (k := ?_))))) <;> (((first | (refine Wl_guard (k := ?_); refine Wl_load (k := ?_)) | refine Wl_gno (k := ?_) | ((refine Wl_split (yes := (fun ht => ?_)) (no := (fun ht => ?_)) <;> (try simp at ht) <;> (try (exfalso; omega))) <;> (first | (refine Wl_guard (k := ?_); refine Wl_load (k := ?_)) | refine Wl_gno (k := ?_))))) <;> (((first | (refine Wl_guard (k := ?_); refine Wl_loadR (k := ?_)) | refine Wl_gno (k := ?_) | ((refine Wl_split (yes := (fun ht => ?_)) (no := (fun ht => ?_)) <;> (try simp at ht) <;> (try (exfalso; omega))) <;> (first | (refine Wl_guard (k := ?_); refine Wl_loadR (k := ?_)) | refine Wl_gno (k := ?_))))) <;> (((first | (refine Wl_guard (k := ?_); refine Wl_loadR (k := ?_)) | refine Wl_gno (k := ?_) | ((refine Wl_split (yes := (fun ht => ?_)) (no := (fun ht => ?_)) <;> (try simp at ht) <;> (try (exfalso; omega))) <;> (first | (refine Wl_guard (k := ?_); refine Wl_loadR (k := ?_)) | refine Wl_gno (k := ?_))))) <;> (((first | (refine Wl_guard (k := ?_); (refine Wl_call (hs := hcov) (k := ?_); rintro v A' ⟨rfl, rfl⟩; simp only [List.cons_append, List.nil_append])) | refine Wl_gno (k := ?_) | ((refine Wl_split (yes := (fun ht => ?_)) (no := (fun ht => ?_)) <;> (try simp at ht) <;> (try (exfalso; omega))) <;> (first | (refine Wl_guard (k := ?_); (refine Wl_call (hs := hcov) (k := ?_); rintro v A' ⟨rfl, rfl⟩; simp only [List.cons_append, List.nil_append])) | refine Wl_gno (k := ?_))))) <;> ((first | refine Wl_pick_t (k := ?_) | refine Wl_pick_f (k := ?_) | refine Wl_pick (k := ?_)); refine Wl_assign (k := ?_); (refine Wl_nil (hK _ _ ?_); clear hK K))))))))))
      | (refine Wc_cond (ht := (fun ht => ?_)) (hf := (fun ht => ?_)) <;> (try simp at ht) <;> (try (exfalso; omega))))
    exact ⟨Or.inr rfl, _, [GtP st S], gt_fold (A0 := []) ⟨k, d, ta, tc, pa, pc, sa, sc, ea, ec⟩ (by simp only [GtL, GtR]; simp only [List.cons_append, List.nil_append]; (repeat (first | exact Ent.refl _ | exact Ent.nil | refine Ent.take (by (repeat (first | exact Out.head | apply Out.tail)); (first | done | fail)) ?_ | refine Ent.drop1 ?_))), res1 rfl rfl, congrArg Value.bool (by simp), rfl⟩
theorem copied_spec (A0 : List Asn) (b : SnX) (hps : b.ps.length ≤ 900000) (hss : b.ss.length ≤ 900000) (pa : Option Addr) (pc : Nat) (sa : Option Addr) (sc : Nat) (h1 : RdS Try.prog B A0 5 pa b.ps.length pc (prC b.ps)) (h2 : RdS Try.prog B A0 4 sa b.ss.length sc (ssC b.ss)) :
    Fspec Try.prog B 40 #[.agg #[.int .i64 b.e, .int .i64 b.i, .slice pa b.ps.length pc, .slice sa b.ss.length sc]] A0
      (fun v A' => ∃ a1 c1 a2 c2, v = .agg #[.int .i64 b.e, .int .i64 b.i, .slice a1 b.ps.length c1, .slice a2 b.ss.length c2] ∧ A' = own a2 b.ss.length c2 4 (ssC b.ss) 69 :: own a1 b.ps.length c1 5 (prC b.ps) 67 :: A0) := by
  refine spec_of (args := [_]) Try.func40 rfl rfl rfl ?_
  repeat' (first
    | refine Wc_seq ?_
    | refine thenQ_normal ?_
    | refine Wc_cond_t (h := ?_)
    | refine Wc_cond_f (h := ?_)
    | refine Wc_ret ?_
    | refine thenQ_ret ?_
    | refine Wc_block ?_
    | refine blkQ_normal ?_
    | refine blkQ_ret ?_
    | refine Wc_exit ?_
    | refine thenQ_exit ?_
    | refine blkQ_hit ?_
    | refine blkQ_miss rfl ?_
    | refine Wc_skip ?_
    | refine Wc_label ?_
    | refine loopQ_exit ?_
    | refine loopQ_ret ?_
    | refine loopQ_normal ?_
    | (refine Wc_region (id := 0) ?_; intro K hK; ((refine Wl_boxAgg (k := ?_); intro r1)) <;> (((refine Wl_alloc (k := ?_); intro r2)) <;> ((refine Wl_nil (hK _ _ ?_); clear hK K))))
    | (refine Wc_region (id := 1) ?_; intro K hK; ((refine Wl_lit0o (k := ?_); intro r3)) <;> (refine Wl_fieldAddr (k := ?_); refine Wl_load (k := ?_); ((refine Wl_appendR (hsrc := RdS.under (RdS.under (RdS.under h1))) (hvc := prC_all _) (hbd := by omega) (k := ?_); intro a6 c6)) <;> (refine Wl_fieldAddr (k := ?_); refine Wl_store (ho := rfl) (k := ?_); (refine Wl_nil (hK _ _ ?_); clear hK K))))
    | (refine Wc_region (id := 2) ?_; intro K hK; ((refine Wl_lit0o (k := ?_); intro r8)) <;> (refine Wl_fieldAddr (k := ?_); refine Wl_load (k := ?_); ((refine Wl_appendR (hsrc := RdS.under (RdS.under (RdS.under (RdS.under h2)))) (hvc := ssC_all _) (hbd := by omega) (k := ?_); intro a11 c11)) <;> (refine Wl_fieldAddr (k := ?_); refine Wl_store (ho := rfl) (k := ?_); (refine Wl_nil (hK _ _ ?_); clear hK K))))
    | (refine Wc_region (id := 3) ?_; intro K hK; refine Wl_loadR (k := ?_); refine Wl_storeR (ho' := rfl) (k := ?_); (refine Wl_nil (hK _ _ ?_); clear hK K))
    | (refine Wc_cond (ht := (fun ht => ?_)) (hf := (fun ht => ?_)) <;> (try simp at ht) <;> (try (exfalso; omega))))
  refine ⟨Or.inr rfl, _, own a11 b.ss.length c11 4 (ssC b.ss) 69 :: own a6 b.ps.length c6 5 (prC b.ps) 67 :: A0, ?_, resG rfl (by (repeat (first | exact ResL.nil | apply ResL.tmp (by (repeat (first | exact Ev.here | exact Ev.const | exact Ev.arg rfl | apply Ev.there rfl | exact Ev.none rfl | exact Ev.func | exact Ev.var)); (first | done | fail)) | apply ResL.agg (by (repeat (first | exact Ev.here | exact Ev.const | exact Ev.arg rfl | apply Ev.there rfl | exact Ev.none rfl | exact Ev.func | exact Ev.var)); (first | done | fail)) (by (repeat (first | exact Rd.head | exact Rd.base (by assumption) | apply Rd.tail)); (first | done | fail)) (by (repeat (first | exact TakeR.nil | apply TakeR.take | apply TakeR.skip)); (first | done | fail)) | apply ResL.cell (by (repeat (first | exact Ev.here | exact Ev.const | exact Ev.arg rfl | apply Ev.there rfl | exact Ev.none rfl | exact Ev.func | exact Ev.var)); (first | done | fail)) (by (repeat (first | exact Rd.head | exact Rd.base (by assumption) | apply Rd.tail)); (first | done | fail)) rfl)); (first | done | fail)) rfl, a6, c6, a11, c11, ?_, rfl⟩
  · simp only [Nat.zero_add, List.nil_append]
    (repeat (first | exact Ent.refl _ | exact Ent.nil | refine Ent.take (by (repeat (first | exact Out.head | apply Out.tail)); (first | done | fail)) ?_ | refine Ent.drop1 ?_))
  · simp only [Nat.zero_add]; rfl
end specs
end Go.Proofs.Ytnoggejkkjngjaa
