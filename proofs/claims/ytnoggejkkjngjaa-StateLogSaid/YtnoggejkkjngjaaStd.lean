/- Package state: states without a snapshot: Check, Apply, New. Conditions: entries and epochs only; none but the kinds' bounds, and not too many entries. -/
import Derived.Test.YtnoggejkkjngjaaStc
set_option maxHeartbeats 8000000
set_option linter.unusedVariables false
set_option linter.unusedSimpArgs false
set_option maxRecDepth 100000
namespace Go.Proofs.Ytnoggejkkjngjaa
open Go Go.Sl
attribute [local irreducible] Go.Sl.Wl Go.Sl.Wc Go.Sl.thenQ Go.Sl.blkQ Go.Sl.loopQ Go.Sl.Fspec

/-- A record; of its snapshot just where its rows are. -/
structure RcX where
  kind : Int
  x : EnX
  ep : Ep
  config : Int
  ae : Int
  ai : Int
  pa : Option Addr
  pn : Nat
  pc : Nat
  sa : Option Addr
  sn : Nat
  sc : Nat
def RcX.c (r : RcX) : List Value := [.int .i64 r.kind, .int .i64 r.x.e, .int .i64 r.x.i, .int .i64 r.x.s, .int .i64 r.x.r, .string r.x.key, .bool r.x.del, .string r.x.tx, .int .i64 r.ep.master, .int .i64 r.ep.cut, .bool r.ep.forced, .int .i64 r.config, .int .i64 r.ae, .int .i64 r.ai, .slice r.pa r.pn r.pc, .slice r.sa r.sn r.sc]
def chkV (S : S15) (r : RcX) : Int := if r.kind = 1 then cwV S r.x else if rightT (S.table ++ [r.ep]) = true then 0 else 1
def applyV (S : S15) (r : RcX) : S15 := if chkV S r ≠ 0 then S else if r.kind = 1 then writeV S r.x else adoptV S r.ep
theorem cwV_zero {S : S15} {x : EnX} (h : cwV S x = 0) : S.closed = false ∧ x.i = S.fold.i + 1 ∧ x.i ≤ 512 := by
  unfold cwV at h
  split at h
  · omega
  · split at h
    · omega
    · split at h
      · omega
      · rename_i h1 h2 h3
        exact ⟨by simpa using h1, by omega, by omega⟩
theorem write_ok {S : S15} (h : S.ok) {x : EnX} (hx : x.ok) (h0 : cwV S x = 0) : (writeV S x).ok := by
  obtain ⟨_, h2, h3⟩ := cwV_zero h0
  have hi := S15.fold_i h
  refine ⟨h.tab, ?_, ?_, ?_⟩
  · show (S.es ++ [x]).length ≤ 600
    simp; omega
  · intro k y hy
    have hy' : (S.es ++ [x])[k]? = some y := hy
    by_cases hk : k < S.es.length
    · rw [List.getElem?_append_left hk] at hy'; exact h.idx k y hy'
    · rw [List.getElem?_append_right (by omega)] at hy'
      have : k - S.es.length = 0 := by
        rcases Nat.eq_zero_or_pos (k - S.es.length) with h | h
        · exact h
        · rw [List.getElem?_eq_none (by simp; omega)] at hy'; cases hy'
      rw [this] at hy'
      simp at hy'; subst hy'; omega
  · intro y hy
    have hy' : y ∈ S.es ++ [x] := hy
    rcases List.mem_append.1 hy' with hy' | hy'
    · exact h.ens y hy'
    · simp at hy'; subst hy'; exact hx
theorem apply_ok {S : S15} (h : S.ok) {r : RcX} (hk : r.kind = 1 ∨ r.kind = 2) (hx : r.x.ok) : (applyV S r).ok := by
  unfold applyV
  by_cases h0 : chkV S r ≠ 0
  · rw [if_pos h0]; exact h
  · rw [if_neg h0]
    have h0' : chkV S r = 0 := by omega
    unfold chkV at h0'
    rcases hk with hk | hk
    · rw [if_pos hk] at h0' ⊢
      exact write_ok h hx h0'
    · rw [if_neg (by omega)] at h0' ⊢
      split at h0'
      · rename_i hT; exact adopt_ok h _ hT
      · omega
section specs
variable {B : Base}
theorem check_spec (st : Nat) (S : S15) (hS : S.ok) (r : RcX) (hk : r.kind = 1 ∨ r.kind = 2) (hx : r.x.ok) (hi : -9223372036854775808 ≤ r.x.i ∧ r.x.i ≤ 9223372036854775807) :
    Fspec Try.prog B 31 #[.pointer (some ⟨st, 0, none⟩), .agg r.c.toArray] [StP st S] (fun v A' => v = .int .i64 (chkV S r) ∧ A' = [StP st S]) := by
  have htab := rightT_out hS.tab
  refine spec_of (args := [_, _]) Try.func31 rfl rfl rfl ?_
  unfold chkV
  by_cases h1 : r.kind = 1
  · rw [if_pos h1]
    repeat' (first
      | refine Wc_seq ?_
      | refine thenQ_normal ?_
      | refine Wc_cond_t (h := ?_)
      | refine Wc_cond_f (h := ?_)
      | refine Wc_ret ?_
      | refine thenQ_ret ?_
      | refine Wc_block ?_
      | refine blkQ_normal ?_
      | refine blkQ_ret ?_
      | refine Wc_exit ?_
      | refine thenQ_exit ?_
      | refine blkQ_hit ?_
      | refine blkQ_miss rfl ?_
      | refine Wc_skip ?_
      | refine Wc_label ?_
      | refine loopQ_exit ?_
      | refine loopQ_ret ?_
      | refine loopQ_normal ?_
      | (refine Wc_region (id := 0) ?_; intro K hK; ((refine Wl_boxAgg (l := r.c) (k := ?_); intro r3; simp only [RcX.c]; rw [h1])) <;> (refine Wl_assign (k := ?_); (refine Wl_nil (hK _ _ ?_); clear hK K)))
      | (refine Wc_region (id := 1) ?_; intro K hK; refine Wl_move (k := ?_); refine Wl_ptr_eq_nil (k' := ?_); (refine Wl_nil (hK _ _ ?_); clear hK K))
      | (refine Wc_region (id := 2) ?_; intro K hK; refine Wl_assign (k := ?_); (refine Wl_nil (hK _ _ ?_); clear hK K))
      | (refine Wc_region (id := 3) ?_; intro K hK; refine Wl_fieldAddr (k := ?_); refine Wl_load (k := ?_); (refine Wl_nil (hK _ _ ?_); clear hK K))
      | (refine Wc_region (id := 4) ?_; intro K hK; refine Wl_assign (k := ?_); (refine Wl_nil (hK _ _ ?_); clear hK K))
      | (refine Wc_region (id := 5) ?_; intro K hK; refine Wl_eql (k' := ?_); refine Wl_assign (k := ?_); (refine Wl_nil (hK _ _ ?_); clear hK K))
      | (refine Wc_region (id := 6) ?_; intro K hK; refine Wl_move (k := ?_); refine Wl_fieldAddr (k := ?_); refine Wl_loadR (k := ?_); ((refine Wl_call (hs := checkWrite_spec st S hS r.x hx hi) (k := ?_); rintro v A' ⟨rfl, rfl⟩; simp only [List.cons_append, List.nil_append])) <;> (refine Wl_assign (k := ?_); (refine Wl_nil (hK _ _ ?_); clear hK K)))
      | (refine Wc_region (id := 7) ?_; intro K hK; refine Wl_eql (k' := ?_); refine Wl_assign (k := ?_); (refine Wl_nil (hK _ _ ?_); clear hK K))
      | (refine Wc_region (id := 22) ?_; intro K hK; refine Wl_assign (k := ?_); (refine Wl_nil (hK _ _ ?_); clear hK K))
      | (refine Wc_cond (ht := (fun ht => ?_)) (hf := (fun ht => ?_)) <;> (try simp at ht) <;> (try (exfalso; omega))))
    exact ⟨Or.inr rfl, _, [StP st S], (by (repeat (first | exact Ent.refl _ | exact Ent.nil | refine Ent.take (by (repeat (first | exact Out.head | apply Out.tail)); (first | done | fail)) ?_ | refine Ent.drop1 ?_))), res1 rfl rfl, rfl, rfl⟩
  · have h2 : r.kind = 2 := by omega
    rw [if_neg h1]
    refine Wc_exN (fun q => ?_)
    obtain ⟨k, d, ta, tc, ea, ec⟩ := q
    simp only [StL]
    simp only [List.cons_append, List.nil_append]
    refine Wc_ownF (a := ta) (sz := 3) (ho := (by (repeat (first | exact Out.head | apply Out.tail)); (first | done | fail))) (h0 := by omega) (h := fun hft => ?_)
    have hlen1 : 0 + S.table.length + 1 = (S.table ++ [r.ep]).length := by simp
    have hts : [] ++ epsC S.table ++ epC r.ep = epsC (S.table ++ [r.ep]) := by simp [epsC, epC]
    have hfo : Ent [cb st (.int .i64 S.fold.e :: .int .i64 S.fold.i :: .pointer (some ⟨k, 0, none⟩) :: .pointer (some ⟨d, 0, none⟩) :: StR S ta tc ea ec) 83, MpA k S.fold.t, DeP d 16 S.fold.L, own ta S.table.length tc 3 (epsC S.table) 29, own ea S.es.length ec 7 (esC S.es) 35] [StP st S] :=
      st_fold (A0 := []) ⟨k, d, ta, tc, ea, ec⟩ (by simp only [StL]; simp only [List.cons_append, List.nil_append]; (repeat (first | exact Ent.refl _ | exact Ent.nil | refine Ent.take (by (repeat (first | exact Out.head | apply Out.tail)); (first | done | fail)) ?_ | refine Ent.drop1 ?_)))
    obtain ⟨bT, hbT⟩ : ∃ b, rightT (S.table ++ [r.ep]) = b := ⟨_, rfl⟩
    rw [hbT]
    simp only [StR]
    repeat' (first
      | (refine Wc_cutS (k := 8) (α := Unit) (fun _ => [(28, .bool (!bT))]) (fun _ => [StP st S]) (fun _ => True) ?_ (fun x G _ => ?_); rotate_left; simp only [ov]; rotate_left)
      | refine Wc_seq ?_
      | refine thenQ_normal ?_
      | refine Wc_cond_t (h := ?_)
      | refine Wc_cond_f (h := ?_)
      | refine Wc_ret ?_
      | refine thenQ_ret ?_
      | refine Wc_block ?_
      | refine blkQ_normal ?_
      | refine blkQ_ret ?_
      | refine Wc_exit ?_
      | refine thenQ_exit ?_
      | refine blkQ_hit ?_
      | refine blkQ_miss rfl ?_
      | refine Wc_skip ?_
      | refine Wc_label ?_
      | refine loopQ_exit ?_
      | refine loopQ_ret ?_
      | refine loopQ_normal ?_
      | (refine Wc_region (id := 0) ?_; intro K hK; ((refine Wl_boxAgg (l := r.c) (k := ?_); intro r3; simp only [RcX.c]; rw [h2])) <;> (refine Wl_assign (k := ?_); (refine Wl_nil (hK _ _ ?_); clear hK K)))
      | (refine Wc_region (id := 1) ?_; intro K hK; refine Wl_move (k := ?_); refine Wl_ptr_eq_nil (k' := ?_); (refine Wl_nil (hK _ _ ?_); clear hK K))
      | (refine Wc_region (id := 2) ?_; intro K hK; refine Wl_assign (k := ?_); (refine Wl_nil (hK _ _ ?_); clear hK K))
      | (refine Wc_region (id := 3) ?_; intro K hK; refine Wl_fieldAddr (k := ?_); refine Wl_load (k := ?_); (refine Wl_nil (hK _ _ ?_); clear hK K))
      | (refine Wc_region (id := 4) ?_; intro K hK; refine Wl_assign (k := ?_); (refine Wl_nil (hK _ _ ?_); clear hK K))
      | (refine Wc_region (id := 5) ?_; intro K hK; refine Wl_eql (k' := ?_); refine Wl_assign (k := ?_); (refine Wl_nil (hK _ _ ?_); clear hK K))
      | (refine Wc_region (id := 6) ?_; intro K hK; refine Wl_move (k := ?_); refine Wl_fieldAddr (k := ?_); refine Wl_loadR (k := ?_))
      | (refine Wc_region (id := 7) ?_; intro K hK; refine Wl_eql (k' := ?_); refine Wl_assign (k := ?_); (refine Wl_nil (hK _ _ ?_); clear hK K))
      | ((refine Wc_treeF (id := 8) (M := ([cb r3 (RcX.c { r with kind := 2 }) 42, cb st (.int .i64 S.fold.e :: .int .i64 S.fold.i :: .pointer (some ⟨k, 0, none⟩) :: .pointer (some ⟨d, 0, none⟩) :: StR S ta tc ea ec) 83])) (Ls := [21, 24]) (t := (.step 1 (.step 2 (.step 3 (.step 4 (.step 6 (.step 7 (.alt (.step 0 (.alt (.step 5 (.step 8 (.step 9 (.step 10 (.step 11 .done))))) (.step 8 (.step 5 (.step 9 (.step 10 (.step 11 .done))))))) (.step 8 (.step 0 (.step 5 (.step 9 (.step 10 (.step 11 .done)))))))))))))) (bad := [0, 5, 8]) (hok := (by decide +kernel)) (hp := (Pick.perm (by (repeat (first | exact Pick.nil | apply Pick.cons (by (repeat (first | exact Out.head | apply Out.tail)); (first | done | fail)))); (first | done | fail)))) (h := ?_); intro K hK; repeat' (first | refine WlT_alt ?_ ?_ | (refine WlT_step (i := 0) rfl ?_; ((refine Wl_lit0o (k := ?_); intro r17)) <;> (refine Wl_nil ?_)) | (refine WlT_step (i := 1) rfl ?_; (refine Wl_move (k := ?_)) <;> (refine Wl_nil ?_)) | (refine WlT_step (i := 2) rfl ?_; (refine Wl_nilCheck (k := ?_)) <;> (refine Wl_nil ?_)) | (refine WlT_step (i := 3) rfl ?_; (refine Wl_fieldAddr (k := ?_)) <;> (refine Wl_nil ?_)) | (refine WlT_step (i := 4) rfl ?_; (refine Wl_loadF (k := ?_)) <;> (refine Wl_nil ?_)) | (refine WlT_step (i := 5) rfl ?_; ((refine Wl_appendR (hsrc := hft.rd (by (repeat (first | exact Out.head | apply Out.tail)); (first | done | fail))) (hvc := epsC_all _) (hbd := by omega) (k := ?_); intro a22 c22)) <;> (refine Wl_nil ?_)) | (refine WlT_step (i := 6) rfl ?_; (refine Wl_fieldAddr (k := ?_)) <;> (refine Wl_nil ?_)) | (refine WlT_step (i := 7) rfl ?_; (refine Wl_loadRF (k := ?_)) <;> (refine Wl_nil ?_)) | (refine WlT_step (i := 8) rfl ?_; ((refine Wl_lit1 (cs := epC r.ep) (k := ?_); intro r25)) <;> (refine Wl_nil ?_)) | (refine WlT_step (i := 9) rfl ?_; ((refine Wl_append1 (hvl := by rfl) (hvc := by rfl) (hbd := by omega) (k := ?_); intro a26 c26; rw [hlen1, hts])) <;> (refine Wl_nil ?_)) | (refine WlT_step (i := 10) rfl ?_; ((refine Wl_ownF (a := a26) (sz := 3) (h0 := by omega) (h := fun hfa => ?_); refine Wl_call (hs := right_spec [own a26 (S.table ++ [r.ep]).length c26 3 (epsC (S.table ++ [r.ep])) 29] (S.table ++ [r.ep]) a26 c26 (hfa.rd (M := []) .head) (by simp; omega)) (k := ?_); rintro v A' ⟨rfl, rfl⟩; simp only [List.cons_append, List.nil_append]; rw [hbT])) <;> (refine Wl_nil ?_)) | (refine WlT_step (i := 11) rfl ?_; (refine Wl_not (k' := ?_)) <;> (refine Wl_nil ?_)) | (refine WlT_done (hK _ _ ?_); clear hK K; try simp only [List.cons_append, List.nil_append]))))
      | (refine Wc_region (id := 9) ?_; intro K hK; refine Wl_assign (k := ?_); (refine Wl_nil (hK _ _ ?_); clear hK K))
      | (refine Wc_region (id := 22) ?_; intro K hK; refine Wl_assign (k := ?_); (refine Wl_nil (hK _ _ ?_); clear hK K))
      | (refine Wc_cond (ht := (fun ht => ?_)) (hf := (fun ht => ?_)) <;> (try simp at ht) <;> (try (exfalso; omega))))
    all_goals try exact ⟨(), trivial, ⟨rfl, trivial⟩, Ent.trans (by simp only [RcX.c, StR]; ((repeat (first | exact Ent.refl _ | exact Ent.nil | refine Ent.take (by (repeat (first | exact Out.head | apply Out.tail)); (first | done | fail)) ?_ | refine Ent.drop1 ?_)); done)) hfo⟩
    all_goals
      refine ⟨Or.inr rfl, _, [StP st S], Ent.refl _, res1 rfl rfl, congrArg (Value.int .i64) ?_, rfl⟩
      cases bT <;> simp_all
theorem apply_spec (st : Nat) (S : S15) (hS : S.ok) (r : RcX) (hk : r.kind = 1 ∨ r.kind = 2) (hx : r.x.ok) (hi : -9223372036854775808 ≤ r.x.i ∧ r.x.i ≤ 9223372036854775807) :
    Fspec Try.prog B 11 #[.pointer (some ⟨st, 0, none⟩), .agg r.c.toArray] [StP st S] (fun v A' => v = .int .i64 (chkV S r) ∧ A' = [StP st (applyV S r)]) := by
  have hck := check_spec (B := B) st S hS r hk hx hi
  have hfew := hS.few
  refine spec_of (args := [_, _]) Try.func11 rfl rfl rfl ?_
  unfold applyV
  by_cases h0 : chkV S r ≠ 0
  · rw [if_pos h0]
    repeat' (first
      | refine Wc_seq ?_
      | refine thenQ_normal ?_
      | refine Wc_cond_t (h := ?_)
      | refine Wc_cond_f (h := ?_)
      | refine Wc_ret ?_
      | refine thenQ_ret ?_
      | refine Wc_block ?_
      | refine blkQ_normal ?_
      | refine blkQ_ret ?_
      | refine Wc_exit ?_
      | refine thenQ_exit ?_
      | refine blkQ_hit ?_
      | refine blkQ_miss rfl ?_
      | refine Wc_skip ?_
      | refine Wc_label ?_
      | refine loopQ_exit ?_
      | refine loopQ_ret ?_
      | refine loopQ_normal ?_
      | (refine Wc_region (id := 0) ?_; intro K hK; ((refine Wl_boxAgg (l := r.c) (k := ?_); intro r3)) <;> (refine Wl_assign (k := ?_); (refine Wl_nil (hK _ _ ?_); clear hK K)))
      | (refine Wc_region (id := 1) ?_; intro K hK; refine Wl_move (k := ?_); ((refine Wl_loadAgg (cs := r.c) (hv := by simp [RcX.c]) (hc := rfl) (k := ?_))) <;> (((refine Wl_call (hs := hck) (k := ?_); rintro v A' ⟨rfl, rfl⟩; simp only [List.cons_append, List.nil_append])) <;> (refine Wl_assign (k := ?_); (refine Wl_nil (hK _ _ ?_); clear hK K))))
      | (refine Wc_region (id := 2) ?_; intro K hK; refine Wl_move (k := ?_); refine Wl_neq (k' := ?_); (refine Wl_nil (hK _ _ ?_); clear hK K))
      | (refine Wc_region (id := 3) ?_; intro K hK; refine Wl_move (k := ?_); refine Wl_assign (k := ?_); (refine Wl_nil (hK _ _ ?_); clear hK K))
      | (refine Wc_cond (ht := (fun ht => ?_)) (hf := (fun ht => ?_)) <;> (try simp at ht) <;> (try (exfalso; omega))))
    exact ⟨Or.inr rfl, _, [StP st S], (by (repeat (first | exact Ent.refl _ | exact Ent.nil | refine Ent.take (by (repeat (first | exact Out.head | apply Out.tail)); (first | done | fail)) ?_ | refine Ent.drop1 ?_))), res1 rfl rfl, rfl, rfl⟩
  · rw [if_neg h0]
    have h0' : chkV S r = 0 := by omega
    rw [h0'] at hck ⊢
    rcases hk with h1 | h2
    · rw [if_pos h1]
      have hcw : cwV S r.x = 0 := by unfold chkV at h0'; rwa [if_pos h1] at h0'
      have hfo := S15.fold_ok hS
      have hfw := fold_write S r.x
      have hl1 : S.es.length + 1 = (S.es ++ [r.x]).length := by simp
      have hes : esC S.es ++ r.x.c = esC (S.es ++ [r.x]) := by simp [esC]
      have hrx : r.c = .int .i64 1 :: r.c.tail := by simp only [RcX.c]; rw [h1]; rfl
      repeat' (first
        | refine Wc_seq ?_
        | refine thenQ_normal ?_
        | refine Wc_cond_t (h := ?_)
        | refine Wc_cond_f (h := ?_)
        | refine Wc_ret ?_
        | refine thenQ_ret ?_
        | refine Wc_block ?_
        | refine blkQ_normal ?_
        | refine blkQ_ret ?_
        | refine Wc_exit ?_
        | refine thenQ_exit ?_
        | refine blkQ_hit ?_
        | refine blkQ_miss rfl ?_
        | refine Wc_skip ?_
        | refine Wc_label ?_
        | refine loopQ_exit ?_
        | refine loopQ_ret ?_
        | refine loopQ_normal ?_
        | (refine Wc_region (id := 0) ?_; intro K hK; ((refine Wl_boxAgg (l := r.c) (k := ?_); intro r3)) <;> (refine Wl_assign (k := ?_); (refine Wl_nil (hK _ _ ?_); clear hK K)))
        | (refine Wc_region (id := 1) ?_; intro K hK; refine Wl_move (k := ?_); ((refine Wl_loadAgg (cs := r.c) (hv := by simp [RcX.c]) (hc := rfl) (k := ?_))) <;> (((refine Wl_call (hs := hck) (k := ?_); rintro v A' ⟨rfl, rfl⟩; simp only [List.cons_append, List.nil_append])) <;> (refine Wl_assign (k := ?_); (refine Wl_nil (hK _ _ ?_); clear hK K))))
        | (refine Wc_region (id := 2) ?_; intro K hK; refine Wl_move (k := ?_); refine Wl_neq (k' := ?_); (refine Wl_nil (hK _ _ ?_); clear hK K))
        | (refine Wc_region (id := 4) ?_; intro K hK; refine Wl_fieldAddr (k := ?_); ((refine Wl_load (v := .int .i64 1) (hv := by simp only [RcX.c]; rw [h1]; rfl) (k := ?_))) <;> ((refine Wl_nil (hK _ _ ?_); clear hK K)))
        | (refine Wc_cond (ht := (fun ht => ?_)) (hf := (fun ht => ?_)) <;> (try simp at ht) <;> (try (exfalso; omega))))
      refine Wc_take (y := StP st S) (k := ?_)
      refine Wc_exN (fun q => ?_)
      obtain ⟨k, d, ta, tc, ea, ec⟩ := q
      simp only [StL, StR]
      simp only [List.cons_append, List.nil_append]
      repeat' (first
        | refine Wc_seq ?_
        | refine thenQ_normal ?_
        | refine Wc_cond_t (h := ?_)
        | refine Wc_cond_f (h := ?_)
        | refine Wc_ret ?_
        | refine thenQ_ret ?_
        | refine Wc_block ?_
        | refine blkQ_normal ?_
        | refine blkQ_ret ?_
        | refine Wc_exit ?_
        | refine thenQ_exit ?_
        | refine blkQ_hit ?_
        | refine blkQ_miss rfl ?_
        | refine Wc_skip ?_
        | refine Wc_label ?_
        | refine loopQ_exit ?_
        | refine loopQ_ret ?_
        | refine loopQ_normal ?_
        | (refine Wc_region (id := 5) ?_; intro K hK; refine Wl_eql (k' := ?_); refine Wl_assign (k := ?_); (refine Wl_nil (hK _ _ ?_); clear hK K))
        | (refine Wc_draw (id := 10) (h := ?_); intro K hK; refine Wl_move (k := ?_); refine Wl_move (k := ?_); refine Wl_nilCheck (k := ?_); refine Wl_fieldAddr (k := ?_); refine Wl_load (k := ?_); refine Wl_fieldAddr (k := ?_); ((refine Wl_loadAgg (cs := r.x.c) (hv := by simp [RcX.c]) (hc := rfl) (k := ?_))) <;> (((refine Wl_lit1 (cs := r.x.c) (k := ?_); intro r31)) <;> (((refine Wl_append1 (hvl := by rfl) (hvc := by rfl) (hbd := by omega) (k := ?_); intro nb nc; rw [hl1, hes])) <;> (refine Wl_nilCheck (k := ?_); refine Wl_fieldAddr (k := ?_); refine Wl_store (ho := rfl) (k := ?_); (refine Wl_nil (hK _ _ ?_); clear hK K)))))
        | (refine Wc_draw (id := 11) (h := ?_); intro K hK; refine Wl_move (k := ?_); refine Wl_nilCheck (k := ?_); refine Wl_fieldAddr (k := ?_); refine Wl_fieldAddr (k := ?_); ((refine Wl_loadAgg (cs := r.x.c) (hv := by simp [RcX.c]) (hc := rfl) (k := ?_))) <;> (((refine Wl_call (hs := put_spec st k d S.fold (hfo.mono (by omega)) r.x hx (StR (writeV S r.x) ta tc nb nc) 83) (k := ?_); rintro v A' ⟨rfl, rfl⟩; simp only [List.cons_append, List.nil_append])) <;> ((refine Wl_nil (hK _ _ ?_); clear hK K))))
        | (refine Wc_region (id := 17) ?_; intro K hK; refine Wl_assign (k := ?_); (refine Wl_nil (hK _ _ ?_); clear hK K))
        | (refine Wc_cond (ht := (fun ht => ?_)) (hf := (fun ht => ?_)) <;> (try simp at ht) <;> (try (exfalso; omega))))
      exact ⟨Or.inr rfl, _, [StP st (writeV S r.x)], st_fold (A0 := []) ⟨k, d, ta, tc, nb, nc⟩ (by simp only [StL, hfw]; simp only [List.cons_append, List.nil_append]; exact (by (repeat (first | exact Ent.refl _ | exact Ent.nil | refine Ent.take (by (repeat (first | exact Out.head | apply Out.tail)); (first | done | fail)) ?_ | refine Ent.drop1 ?_)))), res1 rfl rfl, rfl, rfl⟩
    · rw [if_neg (by omega)]
      have hT : rightT (S.table ++ [r.ep]) = true := by
        unfold chkV at h0'; rw [if_neg (by omega)] at h0'
        cases hb : rightT (S.table ++ [r.ep]) with
        | true => rfl
        | false => rw [hb] at h0'; simp at h0'
      repeat' (first
        | refine Wc_seq ?_
        | refine thenQ_normal ?_
        | refine Wc_cond_t (h := ?_)
        | refine Wc_cond_f (h := ?_)
        | refine Wc_ret ?_
        | refine thenQ_ret ?_
        | refine Wc_block ?_
        | refine blkQ_normal ?_
        | refine blkQ_ret ?_
        | refine Wc_exit ?_
        | refine thenQ_exit ?_
        | refine blkQ_hit ?_
        | refine blkQ_miss rfl ?_
        | refine Wc_skip ?_
        | refine Wc_label ?_
        | refine loopQ_exit ?_
        | refine loopQ_ret ?_
        | refine loopQ_normal ?_
        | (refine Wc_region (id := 0) ?_; intro K hK; ((refine Wl_boxAgg (l := r.c) (k := ?_); intro r3)) <;> (refine Wl_assign (k := ?_); (refine Wl_nil (hK _ _ ?_); clear hK K)))
        | (refine Wc_region (id := 1) ?_; intro K hK; refine Wl_move (k := ?_); ((refine Wl_loadAgg (cs := r.c) (hv := by simp [RcX.c]) (hc := rfl) (k := ?_))) <;> (((refine Wl_call (hs := hck) (k := ?_); rintro v A' ⟨rfl, rfl⟩; simp only [List.cons_append, List.nil_append])) <;> (refine Wl_assign (k := ?_); (refine Wl_nil (hK _ _ ?_); clear hK K))))
        | (refine Wc_region (id := 2) ?_; intro K hK; refine Wl_move (k := ?_); refine Wl_neq (k' := ?_); (refine Wl_nil (hK _ _ ?_); clear hK K))
        | (refine Wc_region (id := 4) ?_; intro K hK; refine Wl_fieldAddr (k := ?_); ((refine Wl_load (v := .int .i64 2) (hv := by simp only [RcX.c]; rw [h2]; rfl) (k := ?_))) <;> ((refine Wl_nil (hK _ _ ?_); clear hK K)))
        | (refine Wc_region (id := 5) ?_; intro K hK; refine Wl_eql (k' := ?_); refine Wl_assign (k := ?_); (refine Wl_nil (hK _ _ ?_); clear hK K))
        | (refine Wc_region (id := 6) ?_; intro K hK; refine Wl_eql (k' := ?_); refine Wl_assign (k := ?_); (refine Wl_nil (hK _ _ ?_); clear hK K))
        | (refine Wc_region (id := 12) ?_; intro K hK; refine Wl_move (k := ?_); refine Wl_fieldAddr (k := ?_); ((refine Wl_loadAgg (cs := epC r.ep) (hv := by simp [RcX.c]) (hc := rfl) (k := ?_))) <;> (((refine Wl_call (hs := adopt_spec st S hS r.ep hT) (k := ?_); rintro v A' ⟨rfl, rfl⟩; simp only [List.cons_append, List.nil_append])) <;> ((refine Wl_nil (hK _ _ ?_); clear hK K))))
        | (refine Wc_region (id := 17) ?_; intro K hK; refine Wl_assign (k := ?_); (refine Wl_nil (hK _ _ ?_); clear hK K))
        | (refine Wc_cond (ht := (fun ht => ?_)) (hf := (fun ht => ?_)) <;> (try simp at ht) <;> (try (exfalso; omega))))
      exact ⟨Or.inr rfl, _, [StP st (adoptV S r.ep)], (by (repeat (first | exact Ent.refl _ | exact Ent.nil | refine Ent.take (by (repeat (first | exact Out.head | apply Out.tail)); (first | done | fail)) ?_ | refine Ent.drop1 ?_))), res1 rfl rfl, rfl, rfl⟩
end specs
end Go.Proofs.Ytnoggejkkjngjaa
