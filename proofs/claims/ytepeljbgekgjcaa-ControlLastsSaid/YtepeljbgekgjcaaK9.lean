/- Package control: Take. Conditions: the table is right, the journal is started, the disk has power. -/
import Derived.Test.YtepeljbgekgjcaaK8
set_option maxHeartbeats 8000000
set_option linter.unusedVariables false
set_option linter.unusedSimpArgs false
set_option maxRecDepth 100000
namespace Go.Proofs.Ytepeljbgekgjcaa
open Go Go.Sl
attribute [local irreducible] Go.Sl.Wl Go.Sl.Wc Go.Sl.thenQ Go.Sl.blkQ Go.Sl.loopQ Go.Sl.Fspec

/-- A controller that knows what was reported. -/
def Ct.told (C : Ct) (r : Nat) (closed : Bool) (ep ix : Int) : Ct := { C with known := fun k => if k = r then ⟨true, closed, ep, ix⟩ else C.known k }
theorem Ct.ok.told {C : Ct} (h : C.ok) (r : Nat) (closed : Bool) (ep ix : Int) : (C.told r closed ep ix).ok := ⟨h.right, h.regs, h.kind, h.target, h.plan, h.mast⟩
def Ct.fresh (C : Ct) : Ct := { C with known := fun _ => Rp.zero }
/-- What Take tells and leaves of a report that counts. -/
def tookV (C : Ct) (J : Jn) (D : Dk) : Bool × Ct × Jn × Dk :=
  if C.ready.2 = false then (true, C, J, D)
  else if rightT (C.table ++ [C.ready.1]) = true then
    (true, if (keepV C J D (C.table ++ [C.ready.1]) 0 0).1 = 0 then (C.kept 0 (C.table ++ [C.ready.1]) 0 0).fresh else C.kept (keepV C J D (C.table ++ [C.ready.1]) 0 0).1 (C.table ++ [C.ready.1]) 0 0, (keepV C J D (C.table ++ [C.ready.1]) 0 0).2.2)
  else (true, C, J, D)
/-- What Take tells and leaves. -/
def takeV (C : Ct) (J : Jn) (D : Dk) (kind from_ config : Int) (closed : Bool) (ep ix : Int) : Bool × Ct × Jn × Dk :=
  if C.over = true ∨ kind ≠ 5 ∨ from_ < 1 ∨ (C.regions : Int) < from_ ∨ config ≠ C.table.length then (false, C, J, D)
  else tookV (C.told from_.toNat closed ep ix) J D
/-- What counts of a message. -/
structure MsgR (cs : List Value) (kind from_ config : Int) (closed : Bool) (ep ix : Int) : Prop where
  len : cs.length = 26
  m0 : cs[0]? = some (.int .i64 kind)
  m1 : cs[1]? = some (.int .i64 from_)
  m2 : cs[2]? = some (.int .i64 config)
  m13 : cs[13]? = some (.bool closed)
  m11 : (cs.drop 11).take 2 = [.int .i64 ep, .int .i64 ix]
theorem known_fresh (a : Option Addr) (cap j : Nat) (C : Ct) : setL (CtC a cap j C) 5 (knownC fun _ => Rp.zero) = CtC a cap j C.fresh := by
  rw [setL_eq _ _ _ (by simp [known_len, knownC, repC])]; rfl
set_option maxHeartbeats 1200000
section specs
variable {B : Base}
theorem take_spec (c d n : Nat) (C : Ct) (J : Jn) (D : Dk) (hC : C.ok) (hJ : C.over = false → JReady J D n) (cs : List Value) (kind from_ config : Int) (closed : Bool) (ep ix : Int) (hm : MsgR cs kind from_ config closed ep ix) :
    Fspec Try.prog B 11 #[.pointer (some ⟨c, 0, none⟩), .agg cs.toArray] [CtP c d n C J D]
      (fun v A' => v = .bool (takeV C J D kind from_ config closed ep ix).1 ∧ A' = [CtP c d n (takeV C J D kind from_ config closed ep ix).2.1 (takeV C J D kind from_ config closed ep ix).2.2.1 (takeV C J D kind from_ config closed ep ix).2.2.2]) := by
  have hreg := hC.regs
  have hright := rightT_out hC.right
  have hcl := hm.len
  refine spec_of (args := [_, _]) Try.func11 rfl rfl rfl ?_
  refine Wc_exN (fun x => ?_)
  obtain ⟨a, cap, j⟩ := x
  simp only [CtL]
  simp only [List.cons_append, List.nil_append]
  refine Wc_ownF (a := a) (sz := 3) (ho := .tail .head) (h0 := by omega) (h := fun hf => ?_)
  have hov := over_spec (B := B) [cb c (CtC a cap j C) 95] c a cap j C (RdH.of .head)
  by_cases h1 : C.over = true ∨ kind ≠ 5 ∨ from_ < 1 ∨ (C.regions : Int) < from_ ∨ config ≠ C.table.length
  · have hA : takeV C J D kind from_ config closed ep ix = (false, C, J, D) := by unfold takeV; rw [if_pos h1]
    rw [hA]
    cases ho : C.over
    rotate_left
    · repeat' (first
        | refine Wc_seq ?_
        | refine thenQ_normal ?_
        | refine Wc_cond_t (h := ?_)
        | refine Wc_cond_f (h := ?_)
        | refine Wc_ret ?_
        | refine thenQ_ret ?_
        | refine Wc_block ?_
        | refine blkQ_normal ?_
        | refine blkQ_ret ?_
        | refine Wc_exit ?_
        | refine thenQ_exit ?_
        | refine blkQ_hit ?_
        | refine blkQ_miss rfl ?_
        | refine Wc_skip ?_
        | refine Wc_label ?_
        | refine loopQ_exit ?_
        | refine loopQ_ret ?_
        | refine loopQ_normal ?_
        | (refine Wc_region (id := 0) ?_; intro K hK; ((refine Wl_boxAgg (l := cs) (k := ?_); intro mr)) <;> (refine Wl_assign (k := ?_); (refine Wl_nil (hK _ _ ?_); clear hK K)))
        | ((refine Wc_tree (id := 1) (t := (.step 0 (.step 1 (.step 2 (.step 3 (.step 4 (.step 5 (.step 6 (.step 7 (.step 8 (.step 9 (.step 10 (.step 11 (.step 12 (.step 13 (.step 14 (.step 15 (.step 16 (.step 17 (.step 18 (.step 19 (.step 20 (.step 21 (.step 22 (.step 23 (.step 24 (.step 25 (.step 26 (.step 27 (.step 28 (.step 29 (.step 30 (.step 31 .done))))))))))))))))))))))))))))))))) (bad := []) (hok := (by decide +kernel)) (h := ?_); intro K hK; repeat' (first | refine WlT_alt ?_ ?_ | (refine WlT_step (i := 0) rfl ?_; (refine Wl_move (k := ?_)) <;> (refine Wl_nil ?_)) | (refine WlT_step (i := 1) rfl ?_; ((refine Wl_call (hs := hov) (k := ?_); rintro v A' ⟨rfl, rfl⟩; simp only [List.cons_append, List.nil_append]; rw [ho])) <;> (refine Wl_nil ?_)) | (refine WlT_step (i := 2) rfl ?_; (refine Wl_move (k := ?_)) <;> (refine Wl_nil ?_)) | (refine WlT_step (i := 3) rfl ?_; ((first | (refine Wl_guard (k := ?_); refine Wl_fieldAddr (k := ?_)) | refine Wl_gno (k := ?_) | ((refine Wl_split (yes := (fun ht => ?_)) (no := (fun ht => ?_)) <;> (try simp at ht) <;> (try (exfalso; omega))) <;> (first | (refine Wl_guard (k := ?_); refine Wl_fieldAddr (k := ?_)) | refine Wl_gno (k := ?_))))) <;> (refine Wl_nil ?_)) | (refine WlT_step (i := 4) rfl ?_; ((first | (refine Wl_guard (k := ?_); refine Wl_load (k := ?_)) | refine Wl_gno (k := ?_) | ((refine Wl_split (yes := (fun ht => ?_)) (no := (fun ht => ?_)) <;> (try simp at ht) <;> (try (exfalso; omega))) <;> (first | (refine Wl_guard (k := ?_); refine Wl_load (k := ?_)) | refine Wl_gno (k := ?_))))) <;> (refine Wl_nil ?_)) | (refine WlT_step (i := 5) rfl ?_; ((first | (refine Wl_guard (k := ?_); refine Wl_neq (k' := ?_)) | refine Wl_gno (k := ?_) | ((refine Wl_split (yes := (fun ht => ?_)) (no := (fun ht => ?_)) <;> (try simp at ht) <;> (try (exfalso; omega))) <;> (first | (refine Wl_guard (k := ?_); refine Wl_neq (k' := ?_)) | refine Wl_gno (k := ?_))))) <;> (refine Wl_nil ?_)) | (refine WlT_step (i := 6) rfl ?_; ((first | refine Wl_pick_t (k := ?_) | refine Wl_pick_f (k := ?_) | refine Wl_pick (k := ?_))) <;> (refine Wl_nil ?_)) | (refine WlT_step (i := 7) rfl ?_; (refine Wl_move (k := ?_)) <;> (refine Wl_nil ?_)) | (refine WlT_step (i := 8) rfl ?_; ((first | (refine Wl_guard (k := ?_); refine Wl_fieldAddr (k := ?_)) | refine Wl_gno (k := ?_) | ((refine Wl_split (yes := (fun ht => ?_)) (no := (fun ht => ?_)) <;> (try simp at ht) <;> (try (exfalso; omega))) <;> (first | (refine Wl_guard (k := ?_); refine Wl_fieldAddr (k := ?_)) | refine Wl_gno (k := ?_))))) <;> (refine Wl_nil ?_)) | (refine WlT_step (i := 9) rfl ?_; ((first | (refine Wl_guard (k := ?_); refine Wl_load (k := ?_)) | refine Wl_gno (k := ?_) | ((refine Wl_split (yes := (fun ht => ?_)) (no := (fun ht => ?_)) <;> (try simp at ht) <;> (try (exfalso; omega))) <;> (first | (refine Wl_guard (k := ?_); refine Wl_load (k := ?_)) | refine Wl_gno (k := ?_))))) <;> (refine Wl_nil ?_)) | (refine WlT_step (i := 10) rfl ?_; ((first | (refine Wl_guard (k := ?_); refine Wl_lss (k' := ?_)) | refine Wl_gno (k := ?_) | ((refine Wl_split (yes := (fun ht => ?_)) (no := (fun ht => ?_)) <;> (try simp at ht) <;> (try (exfalso; omega))) <;> (first | (refine Wl_guard (k := ?_); refine Wl_lss (k' := ?_)) | refine Wl_gno (k := ?_))))) <;> (refine Wl_nil ?_)) | (refine WlT_step (i := 11) rfl ?_; ((first | refine Wl_pick_t (k := ?_) | refine Wl_pick_f (k := ?_) | refine Wl_pick (k := ?_))) <;> (refine Wl_nil ?_)) | (refine WlT_step (i := 12) rfl ?_; (refine Wl_move (k := ?_)) <;> (refine Wl_nil ?_)) | (refine WlT_step (i := 13) rfl ?_; ((first | (refine Wl_guard (k := ?_); refine Wl_fieldAddr (k := ?_)) | refine Wl_gno (k := ?_) | ((refine Wl_split (yes := (fun ht => ?_)) (no := (fun ht => ?_)) <;> (try simp at ht) <;> (try (exfalso; omega))) <;> (first | (refine Wl_guard (k := ?_); refine Wl_fieldAddr (k := ?_)) | refine Wl_gno (k := ?_))))) <;> (refine Wl_nil ?_)) | (refine WlT_step (i := 14) rfl ?_; ((first | (refine Wl_guard (k := ?_); refine Wl_load (k := ?_)) | refine Wl_gno (k := ?_) | ((refine Wl_split (yes := (fun ht => ?_)) (no := (fun ht => ?_)) <;> (try simp at ht) <;> (try (exfalso; omega))) <;> (first | (refine Wl_guard (k := ?_); refine Wl_load (k := ?_)) | refine Wl_gno (k := ?_))))) <;> (refine Wl_nil ?_)) | (refine WlT_step (i := 15) rfl ?_; ((first | (refine Wl_guard (k := ?_); refine Wl_move (k := ?_)) | refine Wl_gno (k := ?_) | ((refine Wl_split (yes := (fun ht => ?_)) (no := (fun ht => ?_)) <;> (try simp at ht) <;> (try (exfalso; omega))) <;> (first | (refine Wl_guard (k := ?_); refine Wl_move (k := ?_)) | refine Wl_gno (k := ?_))))) <;> (refine Wl_nil ?_)) | (refine WlT_step (i := 16) rfl ?_; ((first | (refine Wl_guard (k := ?_); refine Wl_nilCheck (k := ?_)) | refine Wl_gno (k := ?_) | ((refine Wl_split (yes := (fun ht => ?_)) (no := (fun ht => ?_)) <;> (try simp at ht) <;> (try (exfalso; omega))) <;> (first | (refine Wl_guard (k := ?_); refine Wl_nilCheck (k := ?_)) | refine Wl_gno (k := ?_))))) <;> (refine Wl_nil ?_)) | (refine WlT_step (i := 17) rfl ?_; ((first | (refine Wl_guard (k := ?_); refine Wl_fieldAddr (k := ?_)) | refine Wl_gno (k := ?_) | ((refine Wl_split (yes := (fun ht => ?_)) (no := (fun ht => ?_)) <;> (try simp at ht) <;> (try (exfalso; omega))) <;> (first | (refine Wl_guard (k := ?_); refine Wl_fieldAddr (k := ?_)) | refine Wl_gno (k := ?_))))) <;> (refine Wl_nil ?_)) | (refine WlT_step (i := 18) rfl ?_; ((first | (refine Wl_guard (k := ?_); refine Wl_load (k := ?_)) | refine Wl_gno (k := ?_) | ((refine Wl_split (yes := (fun ht => ?_)) (no := (fun ht => ?_)) <;> (try simp at ht) <;> (try (exfalso; omega))) <;> (first | (refine Wl_guard (k := ?_); refine Wl_load (k := ?_)) | refine Wl_gno (k := ?_))))) <;> (refine Wl_nil ?_)) | (refine WlT_step (i := 19) rfl ?_; ((first | (refine Wl_guard (k := ?_); refine Wl_gtr (k' := ?_)) | refine Wl_gno (k := ?_) | ((refine Wl_split (yes := (fun ht => ?_)) (no := (fun ht => ?_)) <;> (try simp at ht) <;> (try (exfalso; omega))) <;> (first | (refine Wl_guard (k := ?_); refine Wl_gtr (k' := ?_)) | refine Wl_gno (k := ?_))))) <;> (refine Wl_nil ?_)) | (refine WlT_step (i := 20) rfl ?_; ((first | refine Wl_pick_t (k := ?_) | refine Wl_pick_f (k := ?_) | refine Wl_pick (k := ?_))) <;> (refine Wl_nil ?_)) | (refine WlT_step (i := 21) rfl ?_; (refine Wl_move (k := ?_)) <;> (refine Wl_nil ?_)) | (refine WlT_step (i := 22) rfl ?_; ((first | (refine Wl_guard (k := ?_); refine Wl_fieldAddr (k := ?_)) | refine Wl_gno (k := ?_) | ((refine Wl_split (yes := (fun ht => ?_)) (no := (fun ht => ?_)) <;> (try simp at ht) <;> (try (exfalso; omega))) <;> (first | (refine Wl_guard (k := ?_); refine Wl_fieldAddr (k := ?_)) | refine Wl_gno (k := ?_))))) <;> (refine Wl_nil ?_)) | (refine WlT_step (i := 23) rfl ?_; ((first | (refine Wl_guard (k := ?_); refine Wl_load (k := ?_)) | refine Wl_gno (k := ?_) | ((refine Wl_split (yes := (fun ht => ?_)) (no := (fun ht => ?_)) <;> (try simp at ht) <;> (try (exfalso; omega))) <;> (first | (refine Wl_guard (k := ?_); refine Wl_load (k := ?_)) | refine Wl_gno (k := ?_))))) <;> (refine Wl_nil ?_)) | (refine WlT_step (i := 24) rfl ?_; ((first | (refine Wl_guard (k := ?_); refine Wl_move (k := ?_)) | refine Wl_gno (k := ?_) | ((refine Wl_split (yes := (fun ht => ?_)) (no := (fun ht => ?_)) <;> (try simp at ht) <;> (try (exfalso; omega))) <;> (first | (refine Wl_guard (k := ?_); refine Wl_move (k := ?_)) | refine Wl_gno (k := ?_))))) <;> (refine Wl_nil ?_)) | (refine WlT_step (i := 25) rfl ?_; ((first | (refine Wl_guard (k := ?_); refine Wl_nilCheck (k := ?_)) | refine Wl_gno (k := ?_) | ((refine Wl_split (yes := (fun ht => ?_)) (no := (fun ht => ?_)) <;> (try simp at ht) <;> (try (exfalso; omega))) <;> (first | (refine Wl_guard (k := ?_); refine Wl_nilCheck (k := ?_)) | refine Wl_gno (k := ?_))))) <;> (refine Wl_nil ?_)) | (refine WlT_step (i := 26) rfl ?_; ((first | (refine Wl_guard (k := ?_); refine Wl_fieldAddr (k := ?_)) | refine Wl_gno (k := ?_) | ((refine Wl_split (yes := (fun ht => ?_)) (no := (fun ht => ?_)) <;> (try simp at ht) <;> (try (exfalso; omega))) <;> (first | (refine Wl_guard (k := ?_); refine Wl_fieldAddr (k := ?_)) | refine Wl_gno (k := ?_))))) <;> (refine Wl_nil ?_)) | (refine WlT_step (i := 27) rfl ?_; ((first | (refine Wl_guard (k := ?_); refine Wl_fieldAddr (k := ?_)) | refine Wl_gno (k := ?_) | ((refine Wl_split (yes := (fun ht => ?_)) (no := (fun ht => ?_)) <;> (try simp at ht) <;> (try (exfalso; omega))) <;> (first | (refine Wl_guard (k := ?_); refine Wl_fieldAddr (k := ?_)) | refine Wl_gno (k := ?_))))) <;> (refine Wl_nil ?_)) | (refine WlT_step (i := 28) rfl ?_; ((first | (refine Wl_guard (k := ?_); refine Wl_load (k := ?_)) | refine Wl_gno (k := ?_) | ((refine Wl_split (yes := (fun ht => ?_)) (no := (fun ht => ?_)) <;> (try simp at ht) <;> (try (exfalso; omega))) <;> (first | (refine Wl_guard (k := ?_); refine Wl_load (k := ?_)) | refine Wl_gno (k := ?_))))) <;> (refine Wl_nil ?_)) | (refine WlT_step (i := 29) rfl ?_; ((first | (refine Wl_guard (k := ?_); refine Wl_len_sl (k' := ?_)) | refine Wl_gno (k := ?_) | ((refine Wl_split (yes := (fun ht => ?_)) (no := (fun ht => ?_)) <;> (try simp at ht) <;> (try (exfalso; omega))) <;> (first | (refine Wl_guard (k := ?_); refine Wl_len_sl (k' := ?_)) | refine Wl_gno (k := ?_))))) <;> (refine Wl_nil ?_)) | (refine WlT_step (i := 30) rfl ?_; ((first | (refine Wl_guard (k := ?_); refine Wl_neq (k' := ?_)) | refine Wl_gno (k := ?_) | ((refine Wl_split (yes := (fun ht => ?_)) (no := (fun ht => ?_)) <;> (try simp at ht) <;> (try (exfalso; omega))) <;> (first | (refine Wl_guard (k := ?_); refine Wl_neq (k' := ?_)) | refine Wl_gno (k := ?_))))) <;> (refine Wl_nil ?_)) | (refine WlT_step (i := 31) rfl ?_; ((first | refine Wl_pick_t (k := ?_) | refine Wl_pick_f (k := ?_) | refine Wl_pick (k := ?_))) <;> (refine Wl_nil ?_)) | (refine WlT_done (hK _ _ ?_); clear hK K))))
        | (refine Wc_region (id := 2) ?_; intro K hK; refine Wl_assign (k := ?_); (refine Wl_nil (hK _ _ ?_); clear hK K))
        | (refine Wc_cond (ht := (fun ht => ?_)) (hf := (fun ht => ?_)) <;> (try simp at ht) <;> (try (exfalso; omega))))
      all_goals (refine ⟨Or.inr rfl, _, [CtP c d n C J D], ?_, res1 rfl rfl, rfl, rfl⟩; refine fold_ct (a := a) (cap := cap) (j := j) ?_; simp only [CtL]; simp only [List.cons_append, List.nil_append]; (repeat (first | exact Ent.refl _ | exact Ent.nil | refine Ent.take (by (repeat (first | exact Out.head | apply Out.tail)); (first | done | fail)) ?_ | refine Ent.drop1 ?_)))
    · have h1' : kind ≠ 5 ∨ from_ < 1 ∨ (C.regions : Int) < from_ ∨ config ≠ C.table.length := h1.resolve_left (by rw [ho]; simp)
      repeat' (first
        | refine Wc_seq ?_
        | refine thenQ_normal ?_
        | refine Wc_cond_t (h := ?_)
        | refine Wc_cond_f (h := ?_)
        | refine Wc_ret ?_
        | refine thenQ_ret ?_
        | refine Wc_block ?_
        | refine blkQ_normal ?_
        | refine blkQ_ret ?_
        | refine Wc_exit ?_
        | refine thenQ_exit ?_
        | refine blkQ_hit ?_
        | refine blkQ_miss rfl ?_
        | refine Wc_skip ?_
        | refine Wc_label ?_
        | refine loopQ_exit ?_
        | refine loopQ_ret ?_
        | refine loopQ_normal ?_
        | (refine Wc_region (id := 0) ?_; intro K hK; ((refine Wl_boxAgg (l := cs) (k := ?_); intro mr)) <;> (refine Wl_assign (k := ?_); (refine Wl_nil (hK _ _ ?_); clear hK K)))
        | ((refine Wc_tree (id := 1) (t := (.step 0 (.step 1 (.step 2 (.step 3 (.step 4 (.step 5 (.step 6 (.step 7 (.step 8 (.step 9 (.step 10 (.step 11 (.step 12 (.step 13 (.step 14 (.step 15 (.step 16 (.step 17 (.step 18 (.step 19 (.step 20 (.step 21 (.step 22 (.step 23 (.step 24 (.step 25 (.step 26 (.step 27 (.step 28 (.step 29 (.step 30 (.step 31 .done))))))))))))))))))))))))))))))))) (bad := []) (hok := (by decide +kernel)) (h := ?_); intro K hK; repeat' (first | refine WlT_alt ?_ ?_ | (refine WlT_step (i := 0) rfl ?_; (refine Wl_move (k := ?_)) <;> (refine Wl_nil ?_)) | (refine WlT_step (i := 1) rfl ?_; ((refine Wl_call (hs := hov) (k := ?_); rintro v A' ⟨rfl, rfl⟩; simp only [List.cons_append, List.nil_append]; rw [ho])) <;> (refine Wl_nil ?_)) | (refine WlT_step (i := 2) rfl ?_; (refine Wl_move (k := ?_)) <;> (refine Wl_nil ?_)) | (refine WlT_step (i := 3) rfl ?_; ((first | (refine Wl_guard (k := ?_); refine Wl_fieldAddr (k := ?_)) | refine Wl_gno (k := ?_) | ((refine Wl_split (yes := (fun ht => ?_)) (no := (fun ht => ?_)) <;> (try simp at ht) <;> (try (exfalso; omega))) <;> (first | (refine Wl_guard (k := ?_); refine Wl_fieldAddr (k := ?_)) | refine Wl_gno (k := ?_))))) <;> (refine Wl_nil ?_)) | (refine WlT_step (i := 4) rfl ?_; ((first | (refine Wl_guard (k := ?_); (refine Wl_load (v := .int .i64 kind) (hv := hm.m0) (k := ?_))) | refine Wl_gno (k := ?_) | ((refine Wl_split (yes := (fun ht => ?_)) (no := (fun ht => ?_)) <;> (try simp at ht) <;> (try (exfalso; omega))) <;> (first | (refine Wl_guard (k := ?_); (refine Wl_load (v := .int .i64 kind) (hv := hm.m0) (k := ?_))) | refine Wl_gno (k := ?_))))) <;> (refine Wl_nil ?_)) | (refine WlT_step (i := 5) rfl ?_; ((first | (refine Wl_guard (k := ?_); refine Wl_neq (k' := ?_)) | refine Wl_gno (k := ?_) | ((refine Wl_split (yes := (fun ht => ?_)) (no := (fun ht => ?_)) <;> (try simp at ht) <;> (try (exfalso; omega))) <;> (first | (refine Wl_guard (k := ?_); refine Wl_neq (k' := ?_)) | refine Wl_gno (k := ?_))))) <;> (refine Wl_nil ?_)) | (refine WlT_step (i := 6) rfl ?_; ((first | refine Wl_pick_t (k := ?_) | refine Wl_pick_f (k := ?_) | refine Wl_pick (k := ?_))) <;> (refine Wl_nil ?_)) | (refine WlT_step (i := 7) rfl ?_; (refine Wl_move (k := ?_)) <;> (refine Wl_nil ?_)) | (refine WlT_step (i := 8) rfl ?_; ((first | (refine Wl_guard (k := ?_); refine Wl_fieldAddr (k := ?_)) | refine Wl_gno (k := ?_) | ((refine Wl_split (yes := (fun ht => ?_)) (no := (fun ht => ?_)) <;> (try simp at ht) <;> (try (exfalso; omega))) <;> (first | (refine Wl_guard (k := ?_); refine Wl_fieldAddr (k := ?_)) | refine Wl_gno (k := ?_))))) <;> (refine Wl_nil ?_)) | (refine WlT_step (i := 9) rfl ?_; ((first | (refine Wl_guard (k := ?_); (refine Wl_load (v := .int .i64 from_) (hv := hm.m1) (k := ?_))) | refine Wl_gno (k := ?_) | ((refine Wl_split (yes := (fun ht => ?_)) (no := (fun ht => ?_)) <;> (try simp at ht) <;> (try (exfalso; omega))) <;> (first | (refine Wl_guard (k := ?_); (refine Wl_load (v := .int .i64 from_) (hv := hm.m1) (k := ?_))) | refine Wl_gno (k := ?_))))) <;> (refine Wl_nil ?_)) | (refine WlT_step (i := 10) rfl ?_; ((first | (refine Wl_guard (k := ?_); refine Wl_lss (k' := ?_)) | refine Wl_gno (k := ?_) | ((refine Wl_split (yes := (fun ht => ?_)) (no := (fun ht => ?_)) <;> (try simp at ht) <;> (try (exfalso; omega))) <;> (first | (refine Wl_guard (k := ?_); refine Wl_lss (k' := ?_)) | refine Wl_gno (k := ?_))))) <;> (refine Wl_nil ?_)) | (refine WlT_step (i := 11) rfl ?_; ((first | refine Wl_pick_t (k := ?_) | refine Wl_pick_f (k := ?_) | refine Wl_pick (k := ?_))) <;> (refine Wl_nil ?_)) | (refine WlT_step (i := 12) rfl ?_; (refine Wl_move (k := ?_)) <;> (refine Wl_nil ?_)) | (refine WlT_step (i := 13) rfl ?_; ((first | (refine Wl_guard (k := ?_); refine Wl_fieldAddr (k := ?_)) | refine Wl_gno (k := ?_) | ((refine Wl_split (yes := (fun ht => ?_)) (no := (fun ht => ?_)) <;> (try simp at ht) <;> (try (exfalso; omega))) <;> (first | (refine Wl_guard (k := ?_); refine Wl_fieldAddr (k := ?_)) | refine Wl_gno (k := ?_))))) <;> (refine Wl_nil ?_)) | (refine WlT_step (i := 14) rfl ?_; ((first | (refine Wl_guard (k := ?_); (refine Wl_load (v := .int .i64 from_) (hv := hm.m1) (k := ?_))) | refine Wl_gno (k := ?_) | ((refine Wl_split (yes := (fun ht => ?_)) (no := (fun ht => ?_)) <;> (try simp at ht) <;> (try (exfalso; omega))) <;> (first | (refine Wl_guard (k := ?_); (refine Wl_load (v := .int .i64 from_) (hv := hm.m1) (k := ?_))) | refine Wl_gno (k := ?_))))) <;> (refine Wl_nil ?_)) | (refine WlT_step (i := 15) rfl ?_; ((first | (refine Wl_guard (k := ?_); refine Wl_move (k := ?_)) | refine Wl_gno (k := ?_) | ((refine Wl_split (yes := (fun ht => ?_)) (no := (fun ht => ?_)) <;> (try simp at ht) <;> (try (exfalso; omega))) <;> (first | (refine Wl_guard (k := ?_); refine Wl_move (k := ?_)) | refine Wl_gno (k := ?_))))) <;> (refine Wl_nil ?_)) | (refine WlT_step (i := 16) rfl ?_; ((first | (refine Wl_guard (k := ?_); refine Wl_nilCheck (k := ?_)) | refine Wl_gno (k := ?_) | ((refine Wl_split (yes := (fun ht => ?_)) (no := (fun ht => ?_)) <;> (try simp at ht) <;> (try (exfalso; omega))) <;> (first | (refine Wl_guard (k := ?_); refine Wl_nilCheck (k := ?_)) | refine Wl_gno (k := ?_))))) <;> (refine Wl_nil ?_)) | (refine WlT_step (i := 17) rfl ?_; ((first | (refine Wl_guard (k := ?_); refine Wl_fieldAddr (k := ?_)) | refine Wl_gno (k := ?_) | ((refine Wl_split (yes := (fun ht => ?_)) (no := (fun ht => ?_)) <;> (try simp at ht) <;> (try (exfalso; omega))) <;> (first | (refine Wl_guard (k := ?_); refine Wl_fieldAddr (k := ?_)) | refine Wl_gno (k := ?_))))) <;> (refine Wl_nil ?_)) | (refine WlT_step (i := 18) rfl ?_; ((first | (refine Wl_guard (k := ?_); refine Wl_load (k := ?_)) | refine Wl_gno (k := ?_) | ((refine Wl_split (yes := (fun ht => ?_)) (no := (fun ht => ?_)) <;> (try simp at ht) <;> (try (exfalso; omega))) <;> (first | (refine Wl_guard (k := ?_); refine Wl_load (k := ?_)) | refine Wl_gno (k := ?_))))) <;> (refine Wl_nil ?_)) | (refine WlT_step (i := 19) rfl ?_; ((first | (refine Wl_guard (k := ?_); refine Wl_gtr (k' := ?_)) | refine Wl_gno (k := ?_) | ((refine Wl_split (yes := (fun ht => ?_)) (no := (fun ht => ?_)) <;> (try simp at ht) <;> (try (exfalso; omega))) <;> (first | (refine Wl_guard (k := ?_); refine Wl_gtr (k' := ?_)) | refine Wl_gno (k := ?_))))) <;> (refine Wl_nil ?_)) | (refine WlT_step (i := 20) rfl ?_; ((first | refine Wl_pick_t (k := ?_) | refine Wl_pick_f (k := ?_) | refine Wl_pick (k := ?_))) <;> (refine Wl_nil ?_)) | (refine WlT_step (i := 21) rfl ?_; (refine Wl_move (k := ?_)) <;> (refine Wl_nil ?_)) | (refine WlT_step (i := 22) rfl ?_; ((first | (refine Wl_guard (k := ?_); refine Wl_fieldAddr (k := ?_)) | refine Wl_gno (k := ?_) | ((refine Wl_split (yes := (fun ht => ?_)) (no := (fun ht => ?_)) <;> (try simp at ht) <;> (try (exfalso; omega))) <;> (first | (refine Wl_guard (k := ?_); refine Wl_fieldAddr (k := ?_)) | refine Wl_gno (k := ?_))))) <;> (refine Wl_nil ?_)) | (refine WlT_step (i := 23) rfl ?_; ((first | (refine Wl_guard (k := ?_); (refine Wl_load (v := .int .i64 config) (hv := hm.m2) (k := ?_))) | refine Wl_gno (k := ?_) | ((refine Wl_split (yes := (fun ht => ?_)) (no := (fun ht => ?_)) <;> (try simp at ht) <;> (try (exfalso; omega))) <;> (first | (refine Wl_guard (k := ?_); (refine Wl_load (v := .int .i64 config) (hv := hm.m2) (k := ?_))) | refine Wl_gno (k := ?_))))) <;> (refine Wl_nil ?_)) | (refine WlT_step (i := 24) rfl ?_; ((first | (refine Wl_guard (k := ?_); refine Wl_move (k := ?_)) | refine Wl_gno (k := ?_) | ((refine Wl_split (yes := (fun ht => ?_)) (no := (fun ht => ?_)) <;> (try simp at ht) <;> (try (exfalso; omega))) <;> (first | (refine Wl_guard (k := ?_); refine Wl_move (k := ?_)) | refine Wl_gno (k := ?_))))) <;> (refine Wl_nil ?_)) | (refine WlT_step (i := 25) rfl ?_; ((first | (refine Wl_guard (k := ?_); refine Wl_nilCheck (k := ?_)) | refine Wl_gno (k := ?_) | ((refine Wl_split (yes := (fun ht => ?_)) (no := (fun ht => ?_)) <;> (try simp at ht) <;> (try (exfalso; omega))) <;> (first | (refine Wl_guard (k := ?_); refine Wl_nilCheck (k := ?_)) | refine Wl_gno (k := ?_))))) <;> (refine Wl_nil ?_)) | (refine WlT_step (i := 26) rfl ?_; ((first | (refine Wl_guard (k := ?_); refine Wl_fieldAddr (k := ?_)) | refine Wl_gno (k := ?_) | ((refine Wl_split (yes := (fun ht => ?_)) (no := (fun ht => ?_)) <;> (try simp at ht) <;> (try (exfalso; omega))) <;> (first | (refine Wl_guard (k := ?_); refine Wl_fieldAddr (k := ?_)) | refine Wl_gno (k := ?_))))) <;> (refine Wl_nil ?_)) | (refine WlT_step (i := 27) rfl ?_; ((first | (refine Wl_guard (k := ?_); refine Wl_fieldAddr (k := ?_)) | refine Wl_gno (k := ?_) | ((refine Wl_split (yes := (fun ht => ?_)) (no := (fun ht => ?_)) <;> (try simp at ht) <;> (try (exfalso; omega))) <;> (first | (refine Wl_guard (k := ?_); refine Wl_fieldAddr (k := ?_)) | refine Wl_gno (k := ?_))))) <;> (refine Wl_nil ?_)) | (refine WlT_step (i := 28) rfl ?_; ((first | (refine Wl_guard (k := ?_); refine Wl_load (k := ?_)) | refine Wl_gno (k := ?_) | ((refine Wl_split (yes := (fun ht => ?_)) (no := (fun ht => ?_)) <;> (try simp at ht) <;> (try (exfalso; omega))) <;> (first | (refine Wl_guard (k := ?_); refine Wl_load (k := ?_)) | refine Wl_gno (k := ?_))))) <;> (refine Wl_nil ?_)) | (refine WlT_step (i := 29) rfl ?_; ((first | (refine Wl_guard (k := ?_); refine Wl_len_sl (k' := ?_)) | refine Wl_gno (k := ?_) | ((refine Wl_split (yes := (fun ht => ?_)) (no := (fun ht => ?_)) <;> (try simp at ht) <;> (try (exfalso; omega))) <;> (first | (refine Wl_guard (k := ?_); refine Wl_len_sl (k' := ?_)) | refine Wl_gno (k := ?_))))) <;> (refine Wl_nil ?_)) | (refine WlT_step (i := 30) rfl ?_; ((first | (refine Wl_guard (k := ?_); refine Wl_neq (k' := ?_)) | refine Wl_gno (k := ?_) | ((refine Wl_split (yes := (fun ht => ?_)) (no := (fun ht => ?_)) <;> (try simp at ht) <;> (try (exfalso; omega))) <;> (first | (refine Wl_guard (k := ?_); refine Wl_neq (k' := ?_)) | refine Wl_gno (k := ?_))))) <;> (refine Wl_nil ?_)) | (refine WlT_step (i := 31) rfl ?_; ((first | refine Wl_pick_t (k := ?_) | refine Wl_pick_f (k := ?_) | refine Wl_pick (k := ?_))) <;> (refine Wl_nil ?_)) | (refine WlT_done (hK _ _ ?_); clear hK K))))
        | (refine Wc_region (id := 2) ?_; intro K hK; refine Wl_assign (k := ?_); (refine Wl_nil (hK _ _ ?_); clear hK K))
        | (refine Wc_cond (ht := (fun ht => ?_)) (hf := (fun ht => ?_)) <;> (try simp at ht) <;> (try (exfalso; omega))))
      all_goals (refine ⟨Or.inr rfl, _, [CtP c d n C J D], ?_, res1 rfl rfl, rfl, rfl⟩; refine fold_ct (a := a) (cap := cap) (j := j) ?_; simp only [CtL]; simp only [List.cons_append, List.nil_append]; (repeat (first | exact Ent.refl _ | exact Ent.nil | refine Ent.take (by (repeat (first | exact Out.head | apply Out.tail)); (first | done | fail)) ?_ | refine Ent.drop1 ?_)))
  have ho : C.over = false := by
    cases h : C.over
    · rfl
    · exact absurd (.inl h) h1
  have h2 : kind = 5 ∧ 1 ≤ from_ ∧ from_ ≤ C.regions ∧ config = C.table.length := by
    refine ⟨?_, ?_, ?_, ?_⟩ <;> exact Classical.byContradiction fun h => h1 (.inr (by omega))
  obtain ⟨h21, h22, h23, h24⟩ := h2
  obtain ⟨fr, rfl⟩ := Int.eq_ofNat_of_zero_le (show 0 ≤ from_ by omega)
  have hA : takeV C J D kind fr config closed ep ix = tookV (C.told fr closed ep ix) J D := by unfold takeV; rw [if_neg h1, Int.toNat_natCast]
  rw [hA]
  have hok1 := hC.told fr closed ep ix
  have hset := known_set a cap j C (i := fr) (by omega) ⟨true, closed, ep, ix⟩
  have hJ1 := hJ ho
  obtain ⟨C1, hC1⟩ : ∃ C1, C1 = C.told fr closed ep ix := ⟨_, rfl⟩
  have htab : C1.table = C.table := by rw [hC1]; rfl
  have hov1 : C1.over = false := by rw [hC1]; exact ho
  rw [show CtC a cap j { C with known := fun k => if k = fr then ⟨true, closed, ep, ix⟩ else C.known k } = CtC a cap j C1 from by rw [hC1]; rfl] at hset
  rw [← hC1] at hok1 ⊢
  have hready := ready_spec (B := B) c a cap j C1 hok1
  simp only [CtK] at hready
  rw [htab] at hready
  have hsp := hf.e1
  obtain ⟨e, he⟩ : ∃ e, C1.ready.1 = e := ⟨_, rfl⟩
  rw [he] at hready
  have htb := table_spec (B := B) c a cap j C1 (by rw [htab]; omega)
  simp only [CtK] at htb
  rw [htab] at htb
  have hts : epsC C.table ++ epC e = epsC (C.table ++ [e]) := by rw [epsC_append]; simp [epsC]
  have hlen1 : C.table.length + 1 = (C.table ++ [e]).length := by simp
  obtain ⟨t, htt⟩ : ∃ t, C.table ++ [e] = t := ⟨_, rfl⟩
  rw [htt] at hts hlen1
  obtain ⟨V, hV⟩ : ∃ V, putV J D (encK t ((0 : Nat) : Int) ((0 : Nat) : Int)) = V := ⟨_, rfl⟩
  have hkv : keepV C1 J D t 0 0 = (V.1, C1.kept V.1 t 0 0, V.2.1, V.2.2) := by unfold keepV; rw [hV]
  have hT0 : C1.ready.2 = false → tookV C1 J D = (true, C1, J, D) := fun h => by unfold tookV; rw [if_pos h]
  have hT1 : C1.ready.2 = true → rightT t = false → tookV C1 J D = (true, C1, J, D) := fun h h' => by
    unfold tookV; rw [if_neg (by rw [h]; simp), he, htab, htt, if_neg (by rw [h']; simp)]
  have hT2 : C1.ready.2 = true → rightT t = true → V.1 = 0 → tookV C1 J D = (true, (C1.kept 0 t 0 0).fresh, V.2.1, V.2.2) := fun h h' h'' => by
    unfold tookV; rw [if_neg (by rw [h]; simp), he, htab, htt, if_pos h']; simp only [hkv]; rw [if_pos h'']
  have hT3 : C1.ready.2 = true → rightT t = true → V.1 ≠ 0 → tookV C1 J D = (true, C1.kept V.1 t 0 0, V.2.1, V.2.2) := fun h h' h'' => by
    unfold tookV; rw [if_neg (by rw [h]; simp), he, htab, htt, if_pos h']; simp only [hkv]; rw [if_neg h'']
  have hKt : V.1 ≠ 0 → (C1.kept V.1 t 0 0).table = C.table := fun h => by
    unfold Ct.kept; rw [if_neg h]; split <;> exact htab
  have hKs : (C1.kept 0 t 0 0).fresh.table = t := rfl
  have hks : ∀ tb tc, OwnF tb t.length tc 3 (epsC t) → rightT t = true → _ := fun tb tc hft hrt =>
    keep_spec (B := B) c a cap j d n C1 J D hov1 hJ1 tb tc t 0 0 (own tb t.length tc 3 (epsC t) 40) (hft.rd (M := []) .head) (rightT_out hrt).2.1 (rightT_out hrt).2.2.1 (by omega) (by omega)
  rw [hV] at hks
  repeat' (first
    | (refine Wc_cutS (k := 7) (α := Option Addr × Nat) (fun x => [(0, .pointer (some ⟨c, 0, none⟩)), (7, .slice x.1 t.length x.2)]) (fun x => [own x.1 t.length x.2 3 (epsC t) 40, cb c (CtC a cap j C1) 95, own a C.table.length cap 3 (epsC C.table) 40, cb j (JC d J) 107, DiskP d n D]) (fun _ => True) ?_ (fun x G _ => ?_); rotate_left; obtain ⟨tb, tc⟩ := x; simp only [ov]; refine Wc_ownF (a := tb) (sz := 3) (h0 := by omega) (h := fun hft => ?_); rotate_left)
    | refine Wc_seq ?_
    | refine thenQ_normal ?_
    | refine Wc_cond_t (h := ?_)
    | refine Wc_cond_f (h := ?_)
    | refine Wc_ret ?_
    | refine thenQ_ret ?_
    | refine Wc_block ?_
    | refine blkQ_normal ?_
    | refine blkQ_ret ?_
    | refine Wc_exit ?_
    | refine thenQ_exit ?_
    | refine blkQ_hit ?_
    | refine blkQ_miss rfl ?_
    | refine Wc_skip ?_
    | refine Wc_label ?_
    | refine loopQ_exit ?_
    | refine loopQ_ret ?_
    | refine loopQ_normal ?_
    | (refine Wc_region (id := 0) ?_; intro K hK; ((refine Wl_boxAgg (l := cs) (k := ?_); intro mr)) <;> (refine Wl_assign (k := ?_); (refine Wl_nil (hK _ _ ?_); clear hK K)))
    | ((refine Wc_tree (id := 1) (t := (.step 0 (.step 1 (.step 2 (.step 3 (.step 4 (.step 5 (.step 6 (.step 7 (.step 8 (.step 9 (.step 10 (.step 11 (.step 12 (.step 13 (.step 14 (.step 15 (.step 16 (.step 17 (.step 18 (.step 19 (.step 20 (.step 21 (.step 22 (.step 23 (.step 24 (.step 25 (.step 26 (.step 27 (.step 28 (.step 29 (.step 30 (.step 31 .done))))))))))))))))))))))))))))))))) (bad := []) (hok := (by decide +kernel)) (h := ?_); intro K hK; repeat' (first | refine WlT_alt ?_ ?_ | (refine WlT_step (i := 0) rfl ?_; (refine Wl_move (k := ?_)) <;> (refine Wl_nil ?_)) | (refine WlT_step (i := 1) rfl ?_; ((refine Wl_call (hs := hov) (k := ?_); rintro v A' ⟨rfl, rfl⟩; simp only [List.cons_append, List.nil_append]; rw [ho])) <;> (refine Wl_nil ?_)) | (refine WlT_step (i := 2) rfl ?_; (refine Wl_move (k := ?_)) <;> (refine Wl_nil ?_)) | (refine WlT_step (i := 3) rfl ?_; ((first | (refine Wl_guard (k := ?_); refine Wl_fieldAddr (k := ?_)) | refine Wl_gno (k := ?_) | ((refine Wl_split (yes := (fun ht => ?_)) (no := (fun ht => ?_)) <;> (try simp at ht) <;> (try (exfalso; omega))) <;> (first | (refine Wl_guard (k := ?_); refine Wl_fieldAddr (k := ?_)) | refine Wl_gno (k := ?_))))) <;> (refine Wl_nil ?_)) | (refine WlT_step (i := 4) rfl ?_; ((first | (refine Wl_guard (k := ?_); (refine Wl_load (v := .int .i64 kind) (hv := hm.m0) (k := ?_))) | refine Wl_gno (k := ?_) | ((refine Wl_split (yes := (fun ht => ?_)) (no := (fun ht => ?_)) <;> (try simp at ht) <;> (try (exfalso; omega))) <;> (first | (refine Wl_guard (k := ?_); (refine Wl_load (v := .int .i64 kind) (hv := hm.m0) (k := ?_))) | refine Wl_gno (k := ?_))))) <;> (refine Wl_nil ?_)) | (refine WlT_step (i := 5) rfl ?_; ((first | (refine Wl_guard (k := ?_); refine Wl_neq (k' := ?_)) | refine Wl_gno (k := ?_) | ((refine Wl_split (yes := (fun ht => ?_)) (no := (fun ht => ?_)) <;> (try simp at ht) <;> (try (exfalso; omega))) <;> (first | (refine Wl_guard (k := ?_); refine Wl_neq (k' := ?_)) | refine Wl_gno (k := ?_))))) <;> (refine Wl_nil ?_)) | (refine WlT_step (i := 6) rfl ?_; ((first | refine Wl_pick_t (k := ?_) | refine Wl_pick_f (k := ?_) | refine Wl_pick (k := ?_))) <;> (refine Wl_nil ?_)) | (refine WlT_step (i := 7) rfl ?_; (refine Wl_move (k := ?_)) <;> (refine Wl_nil ?_)) | (refine WlT_step (i := 8) rfl ?_; ((first | (refine Wl_guard (k := ?_); refine Wl_fieldAddr (k := ?_)) | refine Wl_gno (k := ?_) | ((refine Wl_split (yes := (fun ht => ?_)) (no := (fun ht => ?_)) <;> (try simp at ht) <;> (try (exfalso; omega))) <;> (first | (refine Wl_guard (k := ?_); refine Wl_fieldAddr (k := ?_)) | refine Wl_gno (k := ?_))))) <;> (refine Wl_nil ?_)) | (refine WlT_step (i := 9) rfl ?_; ((first | (refine Wl_guard (k := ?_); (refine Wl_load (v := .int .i64 fr) (hv := hm.m1) (k := ?_))) | refine Wl_gno (k := ?_) | ((refine Wl_split (yes := (fun ht => ?_)) (no := (fun ht => ?_)) <;> (try simp at ht) <;> (try (exfalso; omega))) <;> (first | (refine Wl_guard (k := ?_); (refine Wl_load (v := .int .i64 fr) (hv := hm.m1) (k := ?_))) | refine Wl_gno (k := ?_))))) <;> (refine Wl_nil ?_)) | (refine WlT_step (i := 10) rfl ?_; ((first | (refine Wl_guard (k := ?_); refine Wl_lss (k' := ?_)) | refine Wl_gno (k := ?_) | ((refine Wl_split (yes := (fun ht => ?_)) (no := (fun ht => ?_)) <;> (try simp at ht) <;> (try (exfalso; omega))) <;> (first | (refine Wl_guard (k := ?_); refine Wl_lss (k' := ?_)) | refine Wl_gno (k := ?_))))) <;> (refine Wl_nil ?_)) | (refine WlT_step (i := 11) rfl ?_; ((first | refine Wl_pick_t (k := ?_) | refine Wl_pick_f (k := ?_) | refine Wl_pick (k := ?_))) <;> (refine Wl_nil ?_)) | (refine WlT_step (i := 12) rfl ?_; (refine Wl_move (k := ?_)) <;> (refine Wl_nil ?_)) | (refine WlT_step (i := 13) rfl ?_; ((first | (refine Wl_guard (k := ?_); refine Wl_fieldAddr (k := ?_)) | refine Wl_gno (k := ?_) | ((refine Wl_split (yes := (fun ht => ?_)) (no := (fun ht => ?_)) <;> (try simp at ht) <;> (try (exfalso; omega))) <;> (first | (refine Wl_guard (k := ?_); refine Wl_fieldAddr (k := ?_)) | refine Wl_gno (k := ?_))))) <;> (refine Wl_nil ?_)) | (refine WlT_step (i := 14) rfl ?_; ((first | (refine Wl_guard (k := ?_); (refine Wl_load (v := .int .i64 fr) (hv := hm.m1) (k := ?_))) | refine Wl_gno (k := ?_) | ((refine Wl_split (yes := (fun ht => ?_)) (no := (fun ht => ?_)) <;> (try simp at ht) <;> (try (exfalso; omega))) <;> (first | (refine Wl_guard (k := ?_); (refine Wl_load (v := .int .i64 fr) (hv := hm.m1) (k := ?_))) | refine Wl_gno (k := ?_))))) <;> (refine Wl_nil ?_)) | (refine WlT_step (i := 15) rfl ?_; ((first | (refine Wl_guard (k := ?_); refine Wl_move (k := ?_)) | refine Wl_gno (k := ?_) | ((refine Wl_split (yes := (fun ht => ?_)) (no := (fun ht => ?_)) <;> (try simp at ht) <;> (try (exfalso; omega))) <;> (first | (refine Wl_guard (k := ?_); refine Wl_move (k := ?_)) | refine Wl_gno (k := ?_))))) <;> (refine Wl_nil ?_)) | (refine WlT_step (i := 16) rfl ?_; ((first | (refine Wl_guard (k := ?_); refine Wl_nilCheck (k := ?_)) | refine Wl_gno (k := ?_) | ((refine Wl_split (yes := (fun ht => ?_)) (no := (fun ht => ?_)) <;> (try simp at ht) <;> (try (exfalso; omega))) <;> (first | (refine Wl_guard (k := ?_); refine Wl_nilCheck (k := ?_)) | refine Wl_gno (k := ?_))))) <;> (refine Wl_nil ?_)) | (refine WlT_step (i := 17) rfl ?_; ((first | (refine Wl_guard (k := ?_); refine Wl_fieldAddr (k := ?_)) | refine Wl_gno (k := ?_) | ((refine Wl_split (yes := (fun ht => ?_)) (no := (fun ht => ?_)) <;> (try simp at ht) <;> (try (exfalso; omega))) <;> (first | (refine Wl_guard (k := ?_); refine Wl_fieldAddr (k := ?_)) | refine Wl_gno (k := ?_))))) <;> (refine Wl_nil ?_)) | (refine WlT_step (i := 18) rfl ?_; ((first | (refine Wl_guard (k := ?_); refine Wl_load (k := ?_)) | refine Wl_gno (k := ?_) | ((refine Wl_split (yes := (fun ht => ?_)) (no := (fun ht => ?_)) <;> (try simp at ht) <;> (try (exfalso; omega))) <;> (first | (refine Wl_guard (k := ?_); refine Wl_load (k := ?_)) | refine Wl_gno (k := ?_))))) <;> (refine Wl_nil ?_)) | (refine WlT_step (i := 19) rfl ?_; ((first | (refine Wl_guard (k := ?_); refine Wl_gtr (k' := ?_)) | refine Wl_gno (k := ?_) | ((refine Wl_split (yes := (fun ht => ?_)) (no := (fun ht => ?_)) <;> (try simp at ht) <;> (try (exfalso; omega))) <;> (first | (refine Wl_guard (k := ?_); refine Wl_gtr (k' := ?_)) | refine Wl_gno (k := ?_))))) <;> (refine Wl_nil ?_)) | (refine WlT_step (i := 20) rfl ?_; ((first | refine Wl_pick_t (k := ?_) | refine Wl_pick_f (k := ?_) | refine Wl_pick (k := ?_))) <;> (refine Wl_nil ?_)) | (refine WlT_step (i := 21) rfl ?_; (refine Wl_move (k := ?_)) <;> (refine Wl_nil ?_)) | (refine WlT_step (i := 22) rfl ?_; ((first | (refine Wl_guard (k := ?_); refine Wl_fieldAddr (k := ?_)) | refine Wl_gno (k := ?_) | ((refine Wl_split (yes := (fun ht => ?_)) (no := (fun ht => ?_)) <;> (try simp at ht) <;> (try (exfalso; omega))) <;> (first | (refine Wl_guard (k := ?_); refine Wl_fieldAddr (k := ?_)) | refine Wl_gno (k := ?_))))) <;> (refine Wl_nil ?_)) | (refine WlT_step (i := 23) rfl ?_; ((first | (refine Wl_guard (k := ?_); (refine Wl_load (v := .int .i64 config) (hv := hm.m2) (k := ?_))) | refine Wl_gno (k := ?_) | ((refine Wl_split (yes := (fun ht => ?_)) (no := (fun ht => ?_)) <;> (try simp at ht) <;> (try (exfalso; omega))) <;> (first | (refine Wl_guard (k := ?_); (refine Wl_load (v := .int .i64 config) (hv := hm.m2) (k := ?_))) | refine Wl_gno (k := ?_))))) <;> (refine Wl_nil ?_)) | (refine WlT_step (i := 24) rfl ?_; ((first | (refine Wl_guard (k := ?_); refine Wl_move (k := ?_)) | refine Wl_gno (k := ?_) | ((refine Wl_split (yes := (fun ht => ?_)) (no := (fun ht => ?_)) <;> (try simp at ht) <;> (try (exfalso; omega))) <;> (first | (refine Wl_guard (k := ?_); refine Wl_move (k := ?_)) | refine Wl_gno (k := ?_))))) <;> (refine Wl_nil ?_)) | (refine WlT_step (i := 25) rfl ?_; ((first | (refine Wl_guard (k := ?_); refine Wl_nilCheck (k := ?_)) | refine Wl_gno (k := ?_) | ((refine Wl_split (yes := (fun ht => ?_)) (no := (fun ht => ?_)) <;> (try simp at ht) <;> (try (exfalso; omega))) <;> (first | (refine Wl_guard (k := ?_); refine Wl_nilCheck (k := ?_)) | refine Wl_gno (k := ?_))))) <;> (refine Wl_nil ?_)) | (refine WlT_step (i := 26) rfl ?_; ((first | (refine Wl_guard (k := ?_); refine Wl_fieldAddr (k := ?_)) | refine Wl_gno (k := ?_) | ((refine Wl_split (yes := (fun ht => ?_)) (no := (fun ht => ?_)) <;> (try simp at ht) <;> (try (exfalso; omega))) <;> (first | (refine Wl_guard (k := ?_); refine Wl_fieldAddr (k := ?_)) | refine Wl_gno (k := ?_))))) <;> (refine Wl_nil ?_)) | (refine WlT_step (i := 27) rfl ?_; ((first | (refine Wl_guard (k := ?_); refine Wl_fieldAddr (k := ?_)) | refine Wl_gno (k := ?_) | ((refine Wl_split (yes := (fun ht => ?_)) (no := (fun ht => ?_)) <;> (try simp at ht) <;> (try (exfalso; omega))) <;> (first | (refine Wl_guard (k := ?_); refine Wl_fieldAddr (k := ?_)) | refine Wl_gno (k := ?_))))) <;> (refine Wl_nil ?_)) | (refine WlT_step (i := 28) rfl ?_; ((first | (refine Wl_guard (k := ?_); refine Wl_load (k := ?_)) | refine Wl_gno (k := ?_) | ((refine Wl_split (yes := (fun ht => ?_)) (no := (fun ht => ?_)) <;> (try simp at ht) <;> (try (exfalso; omega))) <;> (first | (refine Wl_guard (k := ?_); refine Wl_load (k := ?_)) | refine Wl_gno (k := ?_))))) <;> (refine Wl_nil ?_)) | (refine WlT_step (i := 29) rfl ?_; ((first | (refine Wl_guard (k := ?_); refine Wl_len_sl (k' := ?_)) | refine Wl_gno (k := ?_) | ((refine Wl_split (yes := (fun ht => ?_)) (no := (fun ht => ?_)) <;> (try simp at ht) <;> (try (exfalso; omega))) <;> (first | (refine Wl_guard (k := ?_); refine Wl_len_sl (k' := ?_)) | refine Wl_gno (k := ?_))))) <;> (refine Wl_nil ?_)) | (refine WlT_step (i := 30) rfl ?_; ((first | (refine Wl_guard (k := ?_); refine Wl_neq (k' := ?_)) | refine Wl_gno (k := ?_) | ((refine Wl_split (yes := (fun ht => ?_)) (no := (fun ht => ?_)) <;> (try simp at ht) <;> (try (exfalso; omega))) <;> (first | (refine Wl_guard (k := ?_); refine Wl_neq (k' := ?_)) | refine Wl_gno (k := ?_))))) <;> (refine Wl_nil ?_)) | (refine WlT_step (i := 31) rfl ?_; ((first | refine Wl_pick_t (k := ?_) | refine Wl_pick_f (k := ?_) | refine Wl_pick (k := ?_))) <;> (refine Wl_nil ?_)) | (refine WlT_done (hK _ _ ?_); clear hK K))))
    | (refine Wc_region (id := 2) ?_; intro K hK; refine Wl_assign (k := ?_); (refine Wl_nil (hK _ _ ?_); clear hK K))
    | (refine Wc_draw (id := 3) (h := ?_); intro K hK; refine Wl_move (k := ?_); refine Wl_fieldAddr (k := ?_); ((refine Wl_load (v := .int .i64 fr) (hv := hm.m1) (k := ?_))) <;> (refine Wl_fieldAddr (k := ?_); ((refine Wl_load (v := .bool closed) (hv := hm.m13) (k := ?_))) <;> (refine Wl_fieldAddr (k := ?_); ((refine Wl_loadAgg (cs := [.int .i64 ep, .int .i64 ix]) (hv := by omega) (hc := hm.m11) (k := ?_))) <;> (refine Wl_build (k := ?_); refine Wl_nilCheck (k := ?_); refine Wl_fieldAddr (k := ?_); refine Wl_index_arr (k' := ?_); ((refine Wl_storeRow (l' := CtC a cap j C1) (cs := repC ⟨true, closed, ep, ix⟩) (hv := rfl) (hl := rfl) (ho := by simp [known_len, repC]; omega) (hs := (congrArg (fun k => setL (CtC a cap j C) k (repC ⟨true, closed, ep, ix⟩)) (by simp)).trans hset) (ho' := rfl) (hz := rfl) (k := ?_))) <;> ((refine Wl_nil (hK _ _ ?_); clear hK K))))))
    | (refine Wc_region (id := 4) ?_; intro K hK; refine Wl_move (k := ?_); ((refine Wl_call (hs := hready) (k := ?_); rintro v A' ⟨rfl, rfl⟩; simp only [List.cons_append, List.nil_append])) <;> (refine Wl_move (k := ?_); refine Wl_extract (k' := ?_); refine Wl_extract (k' := ?_); ((refine Wl_alloc (k := ?_); intro er)) <;> (((refine Wl_storeRow (l' := epC e) (cs := epC e) (hv := rfl) (hl := rfl) (ho := by simp [epC]) (hs := rfl) (ho' := rfl) (hz := rfl) (k := ?_))) <;> (refine Wl_assign (k := ?_); (refine Wl_nil (hK _ _ ?_); clear hK K)))))
    | (refine Wc_region (id := 5) ?_; intro K hK; refine Wl_move (k := ?_); refine Wl_not (k' := ?_); (refine Wl_nil (hK _ _ ?_); clear hK K))
    | (refine Wc_region (id := 6) ?_; intro K hK; refine Wl_assign (k := ?_); (refine Wl_nil (hK _ _ ?_); clear hK K))
    | ((refine Wc_tree (id := 7) (t := (.step 0 (.alt (.step 1 (.step 2 (.step 3 (.step 4 (.step 5 .done))))) (.step 2 (.alt (.step 1 (.step 3 (.step 4 (.step 5 .done)))) (.step 3 (.step 1 (.step 4 (.step 5 .done))))))))) (bad := [1, 2, 3]) (hok := (by decide +kernel)) (h := ?_); intro K hK; repeat' (first | refine WlT_alt ?_ ?_ | (refine WlT_step (i := 0) rfl ?_; (refine Wl_move (k := ?_)) <;> (refine Wl_nil ?_)) | (refine WlT_step (i := 1) rfl ?_; ((refine Wl_call (hs := htb) (k := ?_); rintro v A' ⟨tb, tc, rfl, rfl⟩; simp only [List.cons_append, List.nil_append])) <;> (refine Wl_nil ?_)) | (refine WlT_step (i := 2) rfl ?_; ((refine Wl_loadAgg (cs := epC e) (hv := by simp [epC]) (hc := rfl) (k := ?_))) <;> (refine Wl_nil ?_)) | (refine WlT_step (i := 3) rfl ?_; ((refine Wl_lit1 (cs := epC e) (k := ?_); intro lr)) <;> (refine Wl_nil ?_)) | (refine WlT_step (i := 4) rfl ?_; ((refine Wl_append1 (hvl := by rfl) (hvc := by rfl) (hbd := by omega) (k := ?_); intro nb nc; rw [hlen1, hts])) <;> (refine Wl_nil ?_)) | (refine WlT_step (i := 5) rfl ?_; (refine Wl_assign (k := ?_)) <;> (refine Wl_nil ?_)) | (refine WlT_done (hK _ _ ?_); clear hK K))))
    | (refine Wc_region (id := 8) ?_; intro K hK; refine Wl_move (k := ?_); ((refine Wl_call (hs := right_spec [own tb t.length tc 3 (epsC t) 40] t tb tc (hft.rd (M := []) .head) (by omega)) (k := ?_); rintro v A' ⟨rfl, rfl⟩; simp only [List.cons_append, List.nil_append])) <;> (refine Wl_move (k := ?_); ((first | (refine Wl_guard (k := ?_); refine Wl_move (k := ?_)) | refine Wl_gno (k := ?_) | ((refine Wl_split (yes := (fun ht => ?_)) (no := (fun ht => ?_)) <;> (try simp at ht) <;> (try (exfalso; omega))) <;> (first | (refine Wl_guard (k := ?_); refine Wl_move (k := ?_)) | refine Wl_gno (k := ?_))))) <;> (((first | (refine Wl_guard (k := ?_); refine Wl_move (k := ?_)) | refine Wl_gno (k := ?_) | ((refine Wl_split (yes := (fun ht => ?_)) (no := (fun ht => ?_)) <;> (try simp at ht) <;> (try (exfalso; omega))) <;> (first | (refine Wl_guard (k := ?_); refine Wl_move (k := ?_)) | refine Wl_gno (k := ?_))))) <;> (((first | (refine Wl_guard (k := ?_); refine Wl_build (k := ?_)) | refine Wl_gno (k := ?_) | ((refine Wl_split (yes := (fun ht => ?_)) (no := (fun ht => ?_)) <;> (try simp at ht) <;> (try (exfalso; omega))) <;> (first | (refine Wl_guard (k := ?_); refine Wl_build (k := ?_)) | refine Wl_gno (k := ?_))))) <;> (((first | (refine Wl_guard (k := ?_); (refine Wl_call (hs := hks tb tc hft (by assumption)) (k := ?_); rintro v A' ⟨rfl, rfl⟩; simp only [List.cons_append, List.nil_append]; by_cases hv0 : V.1 = 0 <;> (first | rw [if_pos hv0] | rw [if_neg hv0]))) | refine Wl_gno (k := ?_) | ((refine Wl_split (yes := (fun ht => ?_)) (no := (fun ht => ?_)) <;> (try simp at ht) <;> (try (exfalso; omega))) <;> (first | (refine Wl_guard (k := ?_); (refine Wl_call (hs := hks tb tc hft (by assumption)) (k := ?_); rintro v A' ⟨rfl, rfl⟩; simp only [List.cons_append, List.nil_append]; by_cases hv0 : V.1 = 0 <;> (first | rw [if_pos hv0] | rw [if_neg hv0]))) | refine Wl_gno (k := ?_))))) <;> (((first | (refine Wl_guard (k := ?_); refine Wl_eql (k' := ?_)) | refine Wl_gno (k := ?_) | ((refine Wl_split (yes := (fun ht => ?_)) (no := (fun ht => ?_)) <;> (try simp at ht) <;> (try (exfalso; omega))) <;> (first | (refine Wl_guard (k := ?_); refine Wl_eql (k' := ?_)) | refine Wl_gno (k := ?_))))) <;> ((first | refine Wl_pick_t (k := ?_) | refine Wl_pick_f (k := ?_) | refine Wl_pick (k := ?_)); (refine Wl_nil (hK _ _ ?_); clear hK K))))))))
    | (refine Wc_region (id := 9) ?_; intro K hK; refine Wl_move (k := ?_); refine Wl_buildA0 (k := ?_); refine Wl_nilCheck (k := ?_); refine Wl_fieldAddr (k := ?_); ((refine Wl_storeRow (l' := CtC tb tc j (C1.kept 0 t 0 0).fresh) (cs := knownC fun _ => Rp.zero) (hv := rfl) (hl := rfl) (ho := by simp [known_len, knownC, repC]) (hs := known_fresh tb tc j (C1.kept 0 t 0 0)) (ho' := rfl) (hz := rfl) (k := ?_))) <;> ((refine Wl_nil (hK _ _ ?_); clear hK K)))
    | (refine Wc_region (id := 10) ?_; intro K hK; refine Wl_assign (k := ?_); (refine Wl_nil (hK _ _ ?_); clear hK K))
    | (refine Wc_cond (ht := (fun ht => ?_)) (hf := (fun ht => ?_)) <;> (try simp at ht) <;> (try (exfalso; omega))))
  all_goals first
    | exact ⟨(nb, nc), trivial, ⟨rfl, rfl, trivial⟩, (by (repeat (first | exact Ent.refl _ | exact Ent.nil | refine Ent.take (by (repeat (first | exact Out.head | apply Out.tail)); (first | done | fail)) ?_ | refine Ent.drop1 ?_)))⟩
    | (have h1 : C1.ready.2 = false := by assumption
       rw [hT0 h1]
       refine ⟨Or.inr rfl, _, [CtP c d n C1 J D], ?_, res1 rfl rfl, rfl, rfl⟩
       refine fold_ct (a := a) (cap := cap) (j := j) ?_
       simp only [CtL, htab]
       simp only [List.cons_append, List.nil_append]
       (repeat (first | exact Ent.refl _ | exact Ent.nil | refine Ent.take (by (repeat (first | exact Out.head | apply Out.tail)); (first | done | fail)) ?_ | refine Ent.drop1 ?_)))
    | (have h1 : C1.ready.2 = true := by assumption
       have h2 : rightT t = false := by assumption
       rw [hT1 h1 h2]
       refine ⟨Or.inr rfl, _, [CtP c d n C1 J D], ?_, res1 rfl rfl, rfl, rfl⟩
       refine fold_ct (a := a) (cap := cap) (j := j) ?_
       simp only [CtL, htab]
       simp only [List.cons_append, List.nil_append]
       (repeat (first | exact Ent.refl _ | exact Ent.nil | refine Ent.take (by (repeat (first | exact Out.head | apply Out.tail)); (first | done | fail)) ?_ | refine Ent.drop1 ?_)))
    | (have h1 : C1.ready.2 = true := by assumption
       have h2 : rightT t = true := by assumption
       rw [hT3 h1 h2 hv0]
       refine ⟨Or.inr rfl, _, [CtP c d n (C1.kept V.1 t 0 0) V.2.1 V.2.2], ?_, res1 rfl rfl, rfl, rfl⟩
       refine fold_ct (a := a) (cap := cap) (j := j) ?_
       simp only [CtL, hKt hv0]
       simp only [List.cons_append, List.nil_append]
       (repeat (first | exact Ent.refl _ | exact Ent.nil | refine Ent.take (by (repeat (first | exact Out.head | apply Out.tail)); (first | done | fail)) ?_ | refine Ent.drop1 ?_)))
    | (have h1 : C1.ready.2 = true := by assumption
       have h2 : rightT t = true := by assumption
       rw [hT2 h1 h2 hv0]
       refine ⟨Or.inr rfl, _, [CtP c d n (C1.kept 0 t 0 0).fresh V.2.1 V.2.2], ?_, res1 rfl rfl, rfl, rfl⟩
       refine fold_ct (a := tb) (cap := tc) (j := j) ?_
       simp only [CtL, hKs]
       simp only [List.cons_append, List.nil_append]
       (repeat (first | exact Ent.refl _ | exact Ent.nil | refine Ent.take (by (repeat (first | exact Out.head | apply Out.tail)); (first | done | fail)) ?_ | refine Ent.drop1 ?_)))
end specs
end Go.Proofs.Ytepeljbgekgjcaa
/- Package control: Out, Open on a disk without records. Conditions: the table is right, the disk has power. -/
set_option maxHeartbeats 8000000
set_option linter.unusedVariables false
set_option linter.unusedSimpArgs false
set_option maxRecDepth 100000
namespace Go.Proofs.Ytepeljbgekgjcaa
open Go Go.Sl
attribute [local irreducible] Go.Sl.Wl Go.Sl.Wc Go.Sl.thenQ Go.Sl.blkQ Go.Sl.loopQ Go.Sl.Fspec

def msgT (tb : Option Addr) (n tc : Nat) : List Value := [.int .i64 4, .int .i64 0, .int .i64 0, .slice none 0 0, .int .i64 0, .int .i64 0, .int .i64 0, .int .i64 0, .slice none 0 0, .slice none 0 0, .slice tb n tc, .int .i64 0, .int .i64 0, .bool false, .int .i64 0, .int .i64 0, .string ByteArray.empty, .bool false, .string ByteArray.empty, .int .i64 0, .int .i64 0, .int .i64 0, .int .i64 0, .int .i64 0, .bool false, .string ByteArray.empty]
def msgS (n : Nat) : List Value := [.int .i64 6, .int .i64 0, .int .i64 n, .slice none 0 0, .int .i64 0, .int .i64 0, .int .i64 0, .int .i64 0, .slice none 0 0, .slice none 0 0, .slice none 0 0, .int .i64 0, .int .i64 0, .bool false, .int .i64 0, .int .i64 0, .string ByteArray.empty, .bool false, .string ByteArray.empty, .int .i64 0, .int .i64 0, .int .i64 0, .int .i64 0, .int .i64 0, .bool false, .string ByteArray.empty]
section specs
variable {B : Base}
theorem out_spec (c d n : Nat) (C : Ct) (J : Jn) (D : Dk) (hC : C.ok) (ho : C.over = false) (to : Nat) (hto : 1 ≤ to ∧ to ≤ C.regions) :
    Fspec Try.prog B 10 #[.pointer (some ⟨c, 0, none⟩), .int .i64 to] [CtP c d n C J D]
      (fun v A' => ∃ b bc tb tc, v = .slice b (if C.shut to then 2 else 1) bc ∧
        A' = [own b (if C.shut to then 2 else 1) bc 26 (msgT tb C.table.length tc ++ (if C.shut to then msgS C.table.length else [])) 52, own tb C.table.length tc 3 (epsC C.table) 40, CtP c d n C J D]) := by
  have hreg := hC.regs
  have hright := rightT_out hC.right
  refine spec_of (args := [_, _]) Try.func10 rfl rfl rfl ?_
  refine Wc_exN (fun x => ?_)
  obtain ⟨a, cap, j⟩ := x
  simp only [CtL]
  simp only [List.cons_append, List.nil_append]
  have hov := over_spec (B := B) [cb c (CtC a cap j C) 95] c a cap j C (RdH.of .head)
  rw [ho] at hov
  have htb := table_spec (B := B) c a cap j C hright.2.1
  have hsh := shut_spec (B := B) c a cap j C hC to (by omega)
  simp only [CtK] at htb hsh
  cases hs : C.shut to
  · rw [hs] at hsh
    simp only [Bool.false_eq_true, if_false, List.append_nil]
    repeat' (first
      | refine Wc_seq ?_
      | refine thenQ_normal ?_
      | refine Wc_cond_t (h := ?_)
      | refine Wc_cond_f (h := ?_)
      | refine Wc_ret ?_
      | refine thenQ_ret ?_
      | refine Wc_block ?_
      | refine blkQ_normal ?_
      | refine blkQ_ret ?_
      | refine Wc_exit ?_
      | refine thenQ_exit ?_
      | refine blkQ_hit ?_
      | refine blkQ_miss rfl ?_
      | refine Wc_skip ?_
      | refine Wc_label ?_
      | refine loopQ_exit ?_
      | refine loopQ_ret ?_
      | refine loopQ_normal ?_
      | (refine Wc_region (id := 0) ?_; intro K hK; refine Wl_assign (k := ?_); (refine Wl_nil (hK _ _ ?_); clear hK K))
      | (refine Wc_region (id := 1) ?_; intro K hK; refine Wl_move (k := ?_); ((refine Wl_call (hs := hov) (k := ?_); rintro v A' ⟨rfl, rfl⟩; simp only [List.cons_append, List.nil_append])) <;> (refine Wl_move (k := ?_); ((first | (refine Wl_guard (k := ?_); refine Wl_move (k := ?_)) | refine Wl_gno (k := ?_) | ((refine Wl_split (yes := (fun ht => ?_)) (no := (fun ht => ?_)) <;> (try simp at ht) <;> (try (exfalso; omega))) <;> (first | (refine Wl_guard (k := ?_); refine Wl_move (k := ?_)) | refine Wl_gno (k := ?_))))) <;> (((first | (refine Wl_guard (k := ?_); refine Wl_lss (k' := ?_)) | refine Wl_gno (k := ?_) | ((refine Wl_split (yes := (fun ht => ?_)) (no := (fun ht => ?_)) <;> (try simp at ht) <;> (try (exfalso; omega))) <;> (first | (refine Wl_guard (k := ?_); refine Wl_lss (k' := ?_)) | refine Wl_gno (k := ?_))))) <;> ((first | refine Wl_pick_t (k := ?_) | refine Wl_pick_f (k := ?_) | refine Wl_pick (k := ?_)); refine Wl_move (k := ?_); ((first | (refine Wl_guard (k := ?_); refine Wl_move (k := ?_)) | refine Wl_gno (k := ?_) | ((refine Wl_split (yes := (fun ht => ?_)) (no := (fun ht => ?_)) <;> (try simp at ht) <;> (try (exfalso; omega))) <;> (first | (refine Wl_guard (k := ?_); refine Wl_move (k := ?_)) | refine Wl_gno (k := ?_))))) <;> (((first | (refine Wl_guard (k := ?_); refine Wl_move (k := ?_)) | refine Wl_gno (k := ?_) | ((refine Wl_split (yes := (fun ht => ?_)) (no := (fun ht => ?_)) <;> (try simp at ht) <;> (try (exfalso; omega))) <;> (first | (refine Wl_guard (k := ?_); refine Wl_move (k := ?_)) | refine Wl_gno (k := ?_))))) <;> (((first | (refine Wl_guard (k := ?_); refine Wl_nilCheck (k := ?_)) | refine Wl_gno (k := ?_) | ((refine Wl_split (yes := (fun ht => ?_)) (no := (fun ht => ?_)) <;> (try simp at ht) <;> (try (exfalso; omega))) <;> (first | (refine Wl_guard (k := ?_); refine Wl_nilCheck (k := ?_)) | refine Wl_gno (k := ?_))))) <;> (((first | (refine Wl_guard (k := ?_); refine Wl_fieldAddr (k := ?_)) | refine Wl_gno (k := ?_) | ((refine Wl_split (yes := (fun ht => ?_)) (no := (fun ht => ?_)) <;> (try simp at ht) <;> (try (exfalso; omega))) <;> (first | (refine Wl_guard (k := ?_); refine Wl_fieldAddr (k := ?_)) | refine Wl_gno (k := ?_))))) <;> (((first | (refine Wl_guard (k := ?_); refine Wl_load (k := ?_)) | refine Wl_gno (k := ?_) | ((refine Wl_split (yes := (fun ht => ?_)) (no := (fun ht => ?_)) <;> (try simp at ht) <;> (try (exfalso; omega))) <;> (first | (refine Wl_guard (k := ?_); refine Wl_load (k := ?_)) | refine Wl_gno (k := ?_))))) <;> (((first | (refine Wl_guard (k := ?_); refine Wl_gtr (k' := ?_)) | refine Wl_gno (k := ?_) | ((refine Wl_split (yes := (fun ht => ?_)) (no := (fun ht => ?_)) <;> (try simp at ht) <;> (try (exfalso; omega))) <;> (first | (refine Wl_guard (k := ?_); refine Wl_gtr (k' := ?_)) | refine Wl_gno (k := ?_))))) <;> ((first | refine Wl_pick_t (k := ?_) | refine Wl_pick_f (k := ?_) | refine Wl_pick (k := ?_)); (refine Wl_nil (hK _ _ ?_); clear hK K)))))))))))
      | (refine Wc_region (id := 2) ?_; intro K hK; refine Wl_assign (k := ?_); (refine Wl_nil (hK _ _ ?_); clear hK K))
      | (refine Wc_region (id := 3) ?_; intro K hK; refine Wl_move (k := ?_); ((refine Wl_call (hs := htb) (k := ?_); rintro v A' ⟨tb, tc, rfl, rfl⟩; simp only [List.cons_append, List.nil_append])) <;> (refine Wl_build (k := ?_); ((refine Wl_lit1 (cs := msgT tb C.table.length tc) (k := ?_); intro lr; refine Wl_ent (own_shut lr 1 1 26 (msgT tb C.table.length tc) [] 52 _ rfl rfl) ?_)) <;> (refine Wl_assign (k := ?_); (refine Wl_nil (hK _ _ ?_); clear hK K))))
      | (refine Wc_region (id := 4) ?_; intro K hK; refine Wl_move (k := ?_); refine Wl_move (k := ?_); ((refine Wl_call (hs := hsh) (k := ?_); rintro v A' ⟨rfl, rfl⟩; simp only [List.cons_append, List.nil_append])) <;> ((refine Wl_nil (hK _ _ ?_); clear hK K)))
      | (refine Wc_region (id := 5) ?_; intro K hK; refine Wl_move (k := ?_); refine Wl_move (k := ?_); refine Wl_nilCheck (k := ?_); refine Wl_fieldAddr (k := ?_); refine Wl_fieldAddr (k := ?_); refine Wl_load (k := ?_); refine Wl_len_sl (k' := ?_); refine Wl_build (k := ?_); ((refine Wl_lit1 (cs := msgS C.table.length) (k := ?_); intro lr2)) <;> (((refine Wl_append1 (hvl := by rfl) (hvc := by rfl) (hbd := by omega) (k := ?_); intro nb nc)) <;> (refine Wl_assign (k := ?_); (refine Wl_nil (hK _ _ ?_); clear hK K))))
      | (refine Wc_region (id := 6) ?_; intro K hK; refine Wl_move (k := ?_); refine Wl_assign (k := ?_); (refine Wl_nil (hK _ _ ?_); clear hK K))
      | (refine Wc_cond (ht := (fun ht => ?_)) (hf := (fun ht => ?_)) <;> (try simp at ht) <;> (try (exfalso; omega))))
    refine ⟨Or.inr rfl, _, [own (some ⟨lr, 0, none⟩) 1 1 26 (msgT tb C.table.length tc) 52, own tb C.table.length tc 3 (epsC C.table) 40, CtP c d n C J D], ?_, res1 rfl rfl, (some ⟨lr, 0, none⟩), 1, tb, tc, rfl, rfl⟩
    refine Ent.trans (fold_ct (A0 := [own (some ⟨lr, 0, none⟩) 1 1 26 (msgT tb C.table.length tc) 52, own tb C.table.length tc 3 (epsC C.table) 40]) (a := a) (cap := cap) (j := j) ?_) (by (repeat (first | exact Ent.refl _ | exact Ent.nil | refine Ent.take (by (repeat (first | exact Out.head | apply Out.tail)); (first | done | fail)) ?_ | refine Ent.drop1 ?_)))
    simp only [CtL]
    simp only [List.cons_append, List.nil_append]
    (repeat (first | exact Ent.refl _ | exact Ent.nil | refine Ent.take (by (repeat (first | exact Out.head | apply Out.tail)); (first | done | fail)) ?_ | refine Ent.drop1 ?_))
  · rw [hs] at hsh
    simp only [if_true]
    repeat' (first
      | refine Wc_seq ?_
      | refine thenQ_normal ?_
      | refine Wc_cond_t (h := ?_)
      | refine Wc_cond_f (h := ?_)
      | refine Wc_ret ?_
      | refine thenQ_ret ?_
      | refine Wc_block ?_
      | refine blkQ_normal ?_
      | refine blkQ_ret ?_
      | refine Wc_exit ?_
      | refine thenQ_exit ?_
      | refine blkQ_hit ?_
      | refine blkQ_miss rfl ?_
      | refine Wc_skip ?_
      | refine Wc_label ?_
      | refine loopQ_exit ?_
      | refine loopQ_ret ?_
      | refine loopQ_normal ?_
      | (refine Wc_region (id := 0) ?_; intro K hK; refine Wl_assign (k := ?_); (refine Wl_nil (hK _ _ ?_); clear hK K))
      | (refine Wc_region (id := 1) ?_; intro K hK; refine Wl_move (k := ?_); ((refine Wl_call (hs := hov) (k := ?_); rintro v A' ⟨rfl, rfl⟩; simp only [List.cons_append, List.nil_append])) <;> (refine Wl_move (k := ?_); ((first | (refine Wl_guard (k := ?_); refine Wl_move (k := ?_)) | refine Wl_gno (k := ?_) | ((refine Wl_split (yes := (fun ht => ?_)) (no := (fun ht => ?_)) <;> (try simp at ht) <;> (try (exfalso; omega))) <;> (first | (refine Wl_guard (k := ?_); refine Wl_move (k := ?_)) | refine Wl_gno (k := ?_))))) <;> (((first | (refine Wl_guard (k := ?_); refine Wl_lss (k' := ?_)) | refine Wl_gno (k := ?_) | ((refine Wl_split (yes := (fun ht => ?_)) (no := (fun ht => ?_)) <;> (try simp at ht) <;> (try (exfalso; omega))) <;> (first | (refine Wl_guard (k := ?_); refine Wl_lss (k' := ?_)) | refine Wl_gno (k := ?_))))) <;> ((first | refine Wl_pick_t (k := ?_) | refine Wl_pick_f (k := ?_) | refine Wl_pick (k := ?_)); refine Wl_move (k := ?_); ((first | (refine Wl_guard (k := ?_); refine Wl_move (k := ?_)) | refine Wl_gno (k := ?_) | ((refine Wl_split (yes := (fun ht => ?_)) (no := (fun ht => ?_)) <;> (try simp at ht) <;> (try (exfalso; omega))) <;> (first | (refine Wl_guard (k := ?_); refine Wl_move (k := ?_)) | refine Wl_gno (k := ?_))))) <;> (((first | (refine Wl_guard (k := ?_); refine Wl_move (k := ?_)) | refine Wl_gno (k := ?_) | ((refine Wl_split (yes := (fun ht => ?_)) (no := (fun ht => ?_)) <;> (try simp at ht) <;> (try (exfalso; omega))) <;> (first | (refine Wl_guard (k := ?_); refine Wl_move (k := ?_)) | refine Wl_gno (k := ?_))))) <;> (((first | (refine Wl_guard (k := ?_); refine Wl_nilCheck (k := ?_)) | refine Wl_gno (k := ?_) | ((refine Wl_split (yes := (fun ht => ?_)) (no := (fun ht => ?_)) <;> (try simp at ht) <;> (try (exfalso; omega))) <;> (first | (refine Wl_guard (k := ?_); refine Wl_nilCheck (k := ?_)) | refine Wl_gno (k := ?_))))) <;> (((first | (refine Wl_guard (k := ?_); refine Wl_fieldAddr (k := ?_)) | refine Wl_gno (k := ?_) | ((refine Wl_split (yes := (fun ht => ?_)) (no := (fun ht => ?_)) <;> (try simp at ht) <;> (try (exfalso; omega))) <;> (first | (refine Wl_guard (k := ?_); refine Wl_fieldAddr (k := ?_)) | refine Wl_gno (k := ?_))))) <;> (((first | (refine Wl_guard (k := ?_); refine Wl_load (k := ?_)) | refine Wl_gno (k := ?_) | ((refine Wl_split (yes := (fun ht => ?_)) (no := (fun ht => ?_)) <;> (try simp at ht) <;> (try (exfalso; omega))) <;> (first | (refine Wl_guard (k := ?_); refine Wl_load (k := ?_)) | refine Wl_gno (k := ?_))))) <;> (((first | (refine Wl_guard (k := ?_); refine Wl_gtr (k' := ?_)) | refine Wl_gno (k := ?_) | ((refine Wl_split (yes := (fun ht => ?_)) (no := (fun ht => ?_)) <;> (try simp at ht) <;> (try (exfalso; omega))) <;> (first | (refine Wl_guard (k := ?_); refine Wl_gtr (k' := ?_)) | refine Wl_gno (k := ?_))))) <;> ((first | refine Wl_pick_t (k := ?_) | refine Wl_pick_f (k := ?_) | refine Wl_pick (k := ?_)); (refine Wl_nil (hK _ _ ?_); clear hK K)))))))))))
      | (refine Wc_region (id := 2) ?_; intro K hK; refine Wl_assign (k := ?_); (refine Wl_nil (hK _ _ ?_); clear hK K))
      | (refine Wc_region (id := 3) ?_; intro K hK; refine Wl_move (k := ?_); ((refine Wl_call (hs := htb) (k := ?_); rintro v A' ⟨tb, tc, rfl, rfl⟩; simp only [List.cons_append, List.nil_append])) <;> (refine Wl_build (k := ?_); ((refine Wl_lit1 (cs := msgT tb C.table.length tc) (k := ?_); intro lr; refine Wl_ent (own_shut lr 1 1 26 (msgT tb C.table.length tc) [] 52 _ rfl rfl) ?_)) <;> (refine Wl_assign (k := ?_); (refine Wl_nil (hK _ _ ?_); clear hK K))))
      | (refine Wc_region (id := 4) ?_; intro K hK; refine Wl_move (k := ?_); refine Wl_move (k := ?_); ((refine Wl_call (hs := hsh) (k := ?_); rintro v A' ⟨rfl, rfl⟩; simp only [List.cons_append, List.nil_append])) <;> ((refine Wl_nil (hK _ _ ?_); clear hK K)))
      | (refine Wc_region (id := 5) ?_; intro K hK; refine Wl_move (k := ?_); refine Wl_move (k := ?_); refine Wl_nilCheck (k := ?_); refine Wl_fieldAddr (k := ?_); refine Wl_fieldAddr (k := ?_); refine Wl_load (k := ?_); refine Wl_len_sl (k' := ?_); refine Wl_build (k := ?_); ((refine Wl_lit1 (cs := msgS C.table.length) (k := ?_); intro lr2)) <;> (((refine Wl_append1 (hvl := by rfl) (hvc := by rfl) (hbd := by omega) (k := ?_); intro nb nc)) <;> (refine Wl_assign (k := ?_); (refine Wl_nil (hK _ _ ?_); clear hK K))))
      | (refine Wc_region (id := 6) ?_; intro K hK; refine Wl_move (k := ?_); refine Wl_assign (k := ?_); (refine Wl_nil (hK _ _ ?_); clear hK K))
      | (refine Wc_cond (ht := (fun ht => ?_)) (hf := (fun ht => ?_)) <;> (try simp at ht) <;> (try (exfalso; omega))))
    refine ⟨Or.inr rfl, _, [own nb 2 nc 26 (msgT tb C.table.length tc ++ msgS C.table.length) 52, own tb C.table.length tc 3 (epsC C.table) 40, CtP c d n C J D], ?_, res1 rfl rfl, nb, nc, tb, tc, rfl, rfl⟩
    refine Ent.trans (fold_ct (A0 := [own nb 2 nc 26 (msgT tb C.table.length tc ++ msgS C.table.length) 52, own tb C.table.length tc 3 (epsC C.table) 40]) (a := a) (cap := cap) (j := j) ?_) (by (repeat (first | exact Ent.refl _ | exact Ent.nil | refine Ent.take (by (repeat (first | exact Out.head | apply Out.tail)); (first | done | fail)) ?_ | refine Ent.drop1 ?_)))
    simp only [CtL]
    simp only [List.cons_append, List.nil_append]
    (repeat (first | exact Ent.refl _ | exact Ent.nil | refine Ent.take (by (repeat (first | exact Out.head | apply Out.tail)); (first | done | fail)) ?_ | refine Ent.drop1 ?_))
/-- A new controller. -/
def Ct.new (first regions : Nat) : Ct := ⟨[⟨first, 0, false⟩], 0, 0, regions, fun _ => Rp.zero, false⟩
theorem Ct.new_ok (first regions : Nat) (h1 : 1 ≤ first ∧ first ≤ regions) (h2 : regions ≤ 4) : (Ct.new first regions).ok := by
  refine ⟨?_, ⟨by show 1 ≤ regions; omega, h2⟩, by show 0 ≤ 2; omega, by show 0 ≤ regions; omega, by simp [Ct.new], ?_⟩
  · refine rightT_in (by simp [Ct.new]) (by simp [Ct.new]) ?_ ?_
    · intro e he
      simp [Ct.new] at he; subst he
      refine ⟨?_, ?_, ?_, ?_⟩ <;> simp only <;> omega
    · intro e he
      simp [Ct.new] at he; subst he; exact ⟨rfl, rfl⟩
  · intro e he
    simp [Ct.new] at he; subst he
    show (first : Int) ≤ (regions : Int); omega
theorem copen_new (d n : Nat) (D : Dk) (hD : D.ok n) (hn4 : 4 ≤ n) (hdn : D.down = false) (hO : openN D.seen (n / 2) 2 = ([], 0, -1)) (first regions : Nat) (h1 : 1 ≤ first ∧ first ≤ regions) (h2 : regions ≤ 4)
    (J' : Jn) (D' : Dk) (hS : startV ⟨n / 2, -1, 0, 0, 0, false, false⟩ D (encK [⟨first, 0, false⟩] ((0 : Nat) : Int) ((0 : Nat) : Int)) = (0, J', D')) (hp : D.pend.length + n ≤ 999999) (hs : D.steps + n ≤ 4611686018427387902) :
    Fspec Try.prog B 7 #[.pointer (some ⟨d, 0, none⟩), .int .i64 first, .int .i64 regions] [DiskP d n D]
      (fun v A' => ∃ c, v = .tuple #[.pointer (some ⟨c, 0, none⟩), .int .i64 0] ∧ A' = [CtP c d n (Ct.new first regions) J' D']) := by
  have hok := (Ct.new_ok first regions h1 h2).right
  have hop := open_spec (B := B) d n D hD hn4 hdn
  rw [hO] at hop
  obtain ⟨rc, hrc⟩ : ∃ rc, encK [⟨first, 0, false⟩] ((0 : Nat) : Int) ((0 : Nat) : Int) = rc := ⟨_, rfl⟩
  have hlen := encK_len (t := [⟨first, 0, false⟩]) (kind := ((0 : Nat) : Int)) (target := ((0 : Nat) : Int)) (fun e he => fair_enc ((rightT_out hok).2.2.1 e he)) (by simp) (by omega) (by omega)
  rw [hrc] at hS hlen
  refine spec_of (args := [_, _, _]) Try.func7 rfl rfl rfl ?_
  repeat' (first
    | refine Wc_seq ?_
    | refine thenQ_normal ?_
    | refine Wc_cond_t (h := ?_)
    | refine Wc_cond_f (h := ?_)
    | refine Wc_ret ?_
    | refine thenQ_ret ?_
    | refine Wc_block ?_
    | refine blkQ_normal ?_
    | refine blkQ_ret ?_
    | refine Wc_exit ?_
    | refine thenQ_exit ?_
    | refine blkQ_hit ?_
    | refine blkQ_miss rfl ?_
    | refine Wc_skip ?_
    | refine Wc_label ?_
    | refine loopQ_exit ?_
    | refine loopQ_ret ?_
    | refine loopQ_normal ?_
    | (refine Wc_region (id := 0) ?_; intro K hK; refine Wl_assign (k := ?_); refine Wl_assign (k := ?_); (refine Wl_nil (hK _ _ ?_); clear hK K))
    | (refine Wc_region (id := 1) ?_; intro K hK; refine Wl_move (k := ?_); refine Wl_lss (k' := ?_); refine Wl_move (k := ?_); ((first | (refine Wl_guard (k := ?_); refine Wl_move (k := ?_)) | refine Wl_gno (k := ?_) | ((refine Wl_split (yes := (fun ht => ?_)) (no := (fun ht => ?_)) <;> (try simp at ht) <;> (try (exfalso; omega))) <;> (first | (refine Wl_guard (k := ?_); refine Wl_move (k := ?_)) | refine Wl_gno (k := ?_))))) <;> (((first | (refine Wl_guard (k := ?_); refine Wl_gtr (k' := ?_)) | refine Wl_gno (k := ?_) | ((refine Wl_split (yes := (fun ht => ?_)) (no := (fun ht => ?_)) <;> (try simp at ht) <;> (try (exfalso; omega))) <;> (first | (refine Wl_guard (k := ?_); refine Wl_gtr (k' := ?_)) | refine Wl_gno (k := ?_))))) <;> ((first | refine Wl_pick_t (k := ?_) | refine Wl_pick_f (k := ?_) | refine Wl_pick (k := ?_)); refine Wl_move (k := ?_); ((first | (refine Wl_guard (k := ?_); refine Wl_move (k := ?_)) | refine Wl_gno (k := ?_) | ((refine Wl_split (yes := (fun ht => ?_)) (no := (fun ht => ?_)) <;> (try simp at ht) <;> (try (exfalso; omega))) <;> (first | (refine Wl_guard (k := ?_); refine Wl_move (k := ?_)) | refine Wl_gno (k := ?_))))) <;> (((first | (refine Wl_guard (k := ?_); refine Wl_lss (k' := ?_)) | refine Wl_gno (k := ?_) | ((refine Wl_split (yes := (fun ht => ?_)) (no := (fun ht => ?_)) <;> (try simp at ht) <;> (try (exfalso; omega))) <;> (first | (refine Wl_guard (k := ?_); refine Wl_lss (k' := ?_)) | refine Wl_gno (k := ?_))))) <;> ((first | refine Wl_pick_t (k := ?_) | refine Wl_pick_f (k := ?_) | refine Wl_pick (k := ?_)); refine Wl_move (k := ?_); ((first | (refine Wl_guard (k := ?_); refine Wl_move (k := ?_)) | refine Wl_gno (k := ?_) | ((refine Wl_split (yes := (fun ht => ?_)) (no := (fun ht => ?_)) <;> (try simp at ht) <;> (try (exfalso; omega))) <;> (first | (refine Wl_guard (k := ?_); refine Wl_move (k := ?_)) | refine Wl_gno (k := ?_))))) <;> (((first | (refine Wl_guard (k := ?_); refine Wl_move (k := ?_)) | refine Wl_gno (k := ?_) | ((refine Wl_split (yes := (fun ht => ?_)) (no := (fun ht => ?_)) <;> (try simp at ht) <;> (try (exfalso; omega))) <;> (first | (refine Wl_guard (k := ?_); refine Wl_move (k := ?_)) | refine Wl_gno (k := ?_))))) <;> (((first | (refine Wl_guard (k := ?_); refine Wl_gtr (k' := ?_)) | refine Wl_gno (k := ?_) | ((refine Wl_split (yes := (fun ht => ?_)) (no := (fun ht => ?_)) <;> (try simp at ht) <;> (try (exfalso; omega))) <;> (first | (refine Wl_guard (k := ?_); refine Wl_gtr (k' := ?_)) | refine Wl_gno (k := ?_))))) <;> ((first | refine Wl_pick_t (k := ?_) | refine Wl_pick_f (k := ?_) | refine Wl_pick (k := ?_)); (refine Wl_nil (hK _ _ ?_); clear hK K)))))))))
    | (refine Wc_region (id := 2) ?_; intro K hK; refine Wl_assign (k := ?_); refine Wl_assign (k := ?_); (refine Wl_nil (hK _ _ ?_); clear hK K))
    | (refine Wc_region (id := 3) ?_; intro K hK; refine Wl_move (k := ?_); ((refine Wl_call (hs := hop) (k := ?_); rintro v A' ⟨j, la, lc, xs, hxs, rfl, rfl⟩; have hx0 : xs = [] := List.map_eq_nil_iff.1 hxs; rw [hx0]; simp only [RecsP]; simp only [List.cons_append, List.nil_append])) <;> (refine Wl_move (k := ?_); refine Wl_extract (k' := ?_); refine Wl_extract (k' := ?_); refine Wl_extract (k' := ?_); refine Wl_assign (k := ?_); refine Wl_assign (k := ?_); refine Wl_assign (k := ?_); (refine Wl_nil (hK _ _ ?_); clear hK K)))
    | (refine Wc_region (id := 4) ?_; intro K hK; refine Wl_move (k := ?_); refine Wl_neq (k' := ?_); (refine Wl_nil (hK _ _ ?_); clear hK K))
    | (refine Wc_region (id := 5) ?_; intro K hK; refine Wl_move (k := ?_); refine Wl_assign (k := ?_); refine Wl_assign (k := ?_); (refine Wl_nil (hK _ _ ?_); clear hK K))
    | (refine Wc_region (id := 6) ?_; intro K hK; refine Wl_move (k := ?_); refine Wl_build (k := ?_); ((refine Wl_lit1 (cs := epsC [⟨first, 0, false⟩]) (k := ?_); intro lr; refine Wl_ent (own_shut lr 1 1 3 (epsC [⟨first, 0, false⟩]) [] 40 _ rfl rfl) ?_; refine Wl_ownF (a := some ⟨lr, 0, none⟩) (sz := 3) (h0 := by omega) (h := fun hfl => ?_))) <;> (refine Wl_build (k := ?_); ((refine Wl_alloc (k := ?_); intro kr)) <;> (refine Wl_storeR (ho' := rfl) (k := ?_); (refine Wl_nil (hK _ _ ?_); clear hK K))))
    | (refine Wc_region (id := 7) ?_; intro K hK; refine Wl_move (k := ?_); refine Wl_len_sl (k' := ?_); refine Wl_gtr (k' := ?_); (refine Wl_nil (hK _ _ ?_); clear hK K))
    | (refine Wc_region (id := 8) ?_; intro K hK; refine Wl_assign (k := ?_); (refine Wl_nil (hK _ _ ?_); clear hK K))
    | (refine Wc_region (id := 9) ?_; intro K hK; refine Wl_move (k := ?_); refine Wl_move (k := ?_); refine Wl_len_sl (k' := ?_); refine Wl_sub (k' := ?_); refine Wl_index_sl (k' := ?_); refine Wl_load (k := ?_); refine Wl_move (k := ?_))
    | (refine Wc_region (id := 10) ?_; intro K hK; refine Wl_move (k := ?_); refine Wl_not (k' := ?_); (refine Wl_nil (hK _ _ ?_); clear hK K))
    | (refine Wc_region (id := 11) ?_; intro K hK; refine Wl_assign (k := ?_); refine Wl_assign (k := ?_); (refine Wl_nil (hK _ _ ?_); clear hK K))
    | (refine Wc_region (id := 12) ?_; intro K hK; refine Wl_move (k := ?_); refine Wl_loadR (k := ?_); ((refine Wl_call (hs := by have := kbytes_spec (B := B) [own (some ⟨lr, 0, none⟩) 1 1 3 (epsC [⟨first, 0, false⟩]) 40] [⟨first, 0, false⟩] ((0 : Nat) : Int) ((0 : Nat) : Int) (some ⟨lr, 0, none⟩) 1 (hfl.rd (M := []) .head) (by simp) (rightT_out hok).2.2.1 (by omega) (by omega); rw [hrc] at this; exact this) (k := ?_); rintro v A' ⟨ob, oc, rfl, rfl⟩; simp only [List.cons_append, List.nil_append]; refine Wl_ownF (a := ob) (sz := 1) (h0 := by omega) (h := fun hfb => ?_))) <;> (((refine Wl_call (hs := start_spec j d n ⟨n / 2, -1, 0, 0, 0, false, false⟩ D hD rfl hdn rfl (own ob rc.length oc 1 (rc.map byteV) 5) ob rc.length oc rc (hfb.rd (M := []) (by (repeat (first | exact Out.head | apply Out.tail)); (first | done | fail))) (by omega) hp hs) (k := ?_); rintro v A' ⟨rfl, rfl⟩; simp only [List.cons_append, List.nil_append]; rw [hS])) <;> (refine Wl_assign (k := ?_); (refine Wl_nil (hK _ _ ?_); clear hK K))))
    | (refine Wc_region (id := 13) ?_; intro K hK; refine Wl_move (k := ?_); refine Wl_neq (k' := ?_); (refine Wl_nil (hK _ _ ?_); clear hK K))
    | (refine Wc_region (id := 14) ?_; intro K hK; refine Wl_move (k := ?_); refine Wl_assign (k := ?_); refine Wl_assign (k := ?_); (refine Wl_nil (hK _ _ ?_); clear hK K))
    | (refine Wc_region (id := 15) ?_; intro K hK; refine Wl_loadR (k := ?_); refine Wl_move (k := ?_); refine Wl_move (k := ?_); refine Wl_build (k := ?_); (refine Wl_boxAgg (k := ?_); intro r); refine Wl_assign (k := ?_); refine Wl_assign (k := ?_); (refine Wl_nil (hK _ _ ?_); clear hK K))
    | (refine Wc_cond (ht := (fun ht => ?_)) (hf := (fun ht => ?_)) <;> (try simp at ht) <;> (try (exfalso; omega))))
  refine ⟨Or.inr rfl, _, [CtP r d n (Ct.new first regions) J' D'], ?_, res2 rfl rfl rfl, r, rfl, rfl⟩
  refine fold_ct (a := some ⟨lr, 0, none⟩) (cap := 1) (j := j) ?_
  refine Ent.trans (M := [cb r (CtC (some ⟨lr, 0, none⟩) 1 j (Ct.new first regions)) 95, cb j (JC d J') 107, DiskP d n D', own (some ⟨lr, 0, none⟩) (Ct.new first regions).table.length 1 3 (epsC (Ct.new first regions).table) 40]) ?_ ?_
  · (repeat (first | exact Ent.refl _ | exact Ent.nil | refine Ent.take (by (repeat (first | exact Out.head | apply Out.tail)); (first | done | fail)) ?_ | refine Ent.drop1 ?_))
  · simp only [CtL]
    simp only [List.cons_append, List.nil_append]
    (repeat (first | exact Ent.refl _ | exact Ent.nil | refine Ent.take (by (repeat (first | exact Out.head | apply Out.tail)); (first | done | fail)) ?_ | refine Ent.drop1 ?_))
end specs
end Go.Proofs.Ytepeljbgekgjcaa
/- What is seen of a disk, behind writes and a sync. No condition. -/
set_option maxHeartbeats 8000000
set_option linter.unusedVariables false
set_option linter.unusedSimpArgs false
set_option maxRecDepth 100000
namespace Go.Proofs.Ytepeljbgekgjcaa
open Go Go.Sl
attribute [local irreducible] Go.Sl.Wl Go.Sl.Wc Go.Sl.thenQ Go.Sl.blkQ Go.Sl.loopQ Go.Sl.Fspec

theorem seen_put (D : Dk) (j i : Nat) (b : List UInt8) : (D.put j b).seen i = if j = i then b else D.seen i := by
  simp only [Dk.seen, Dk.put, Dk.tick, List.foldl_append, List.foldl_cons, List.foldl_nil, seen1]
theorem sec_flush (n i : Nat) : ∀ (l : List (Nat × List UInt8)) (K : List UInt8), K.length = 64 * n → (∀ q ∈ l, q.1 < n ∧ q.2.length = 64) → sec (flush K l) i = l.foldl (seen1 i) (sec K i)
  | [], _, _, _ => rfl
  | q :: l, K, hK, h => by
    obtain ⟨h1, h2⟩ := h q (List.mem_cons_self ..)
    have ih := sec_flush n i l (putK K q) (putK_length K q n hK h1 h2) (fun x hx => h x (List.mem_cons_of_mem _ hx))
    show sec (flush (putK K q) l) i = _
    rw [ih, List.foldl_cons]
    congr 1
    unfold seen1
    by_cases e : q.1 = i
    · rw [if_pos e]; subst e; exact sec_put K q.1 q.2 (by omega) h2
    · rw [if_neg e]; exact sec_put_ne K q.1 i q.2 (by omega) h2 (fun e' => e e'.symm)
theorem seen_sync {D : Dk} {n : Nat} (h : D.ok n) (i : Nat) : D.sync.seen i = D.seen i := by
  have := sec_flush n i D.pend D.kept h.len h.pend
  simpa [Dk.seen, Dk.sync, sec] using this
theorem seen_new (n k : Nat) (h : k < n) : (Dk.new n).seen k = List.replicate 64 0 := by
  simp only [Dk.seen, Dk.new, List.foldl_nil, List.drop_replicate, List.take_replicate]
  congr 1; omega
end Go.Proofs.Ytepeljbgekgjcaa
/- Layer 13, the plain law: records that stand on a disk are those that are found. No condition. -/
set_option maxHeartbeats 8000000
set_option linter.unusedVariables false
set_option linter.unusedSimpArgs false
set_option maxRecDepth 100000
namespace Go.Proofs.Ytepeljbgekgjcaa
open Go Go.Sl
attribute [local irreducible] Go.Sl.Wl Go.Sl.Wc Go.Sl.thenQ Go.Sl.blkQ Go.Sl.loopQ Go.Sl.Fspec

theorem secL_num (lap k p P : Nat) (b : List UInt8) (h : lap < 4294967296) : num4 (secL lap k p P b) = lap := num4_be4 lap h _
theorem secL_drop60 (lap k p P : Nat) (b : List UInt8) (hb : b.length ≤ 47) : (secL lap k p P b).drop 60 = be4 lap := by
  have e : secL lap k p P b = (be4 lap ++ (be4 k ++ (be2 p ++ (be2 P ++ (be b.length 0 :: (b ++ List.replicate (47 - b.length) 0)))))) ++ be4 lap := by simp [secL]
  have hl : (be4 lap ++ (be4 k ++ (be2 p ++ (be2 P ++ (be b.length 0 :: (b ++ List.replicate (47 - b.length) 0)))))).length = 60 := by simp [be4, be2]; omega
  rw [e, ← hl, List.drop_left]
theorem be4_num (n : Nat) (h : n < 4294967296) : num4 (be4 n) = n := by
  have := num4_be4 n h []
  simpa using this
theorem secL_by12 (lap k p P : Nat) (b : List UInt8) (hb : b.length ≤ 47) : by12 (secL lap k p P b) = b.length := by
  show (be b.length 0).toNat = _
  rw [be_toNat]; omega
theorem secL_of10 (lap k p P : Nat) (b : List UInt8) (h : P < 65536) : of10 (secL lap k p P b) = P := by
  show 256 * (be P 1).toNat + (be P 0).toNat = _
  rw [be_toNat, be_toNat]; omega
theorem secL_part (lap k p P : Nat) (b : List UInt8) (hb : b.length ≤ 47) : part12 (secL lap k p P b) = b := by
  unfold part12
  rw [secL_by12 _ _ _ _ _ hb]
  have e : (secL lap k p P b).drop 13 = b ++ (List.replicate (47 - b.length) 0 ++ be4 lap) := rfl
  rw [e, List.take_left]
theorem chunk_take (r : List UInt8) (j : Nat) : r.take (j * 47) ++ chunk r j = r.take ((j + 1) * 47) := by
  unfold chunk
  rw [show (j + 1) * 47 = j * 47 + 47 by omega, List.take_add]
/-- The parts of a record stand one behind the other. -/
def Stands (S : Nat → List UInt8) (base at_ lap k : Nat) (r : List UInt8) : Prop := ∀ i, i < partsN r.length → S (base + at_ + i) = secF lap k r i
theorem recF_stands {S : Nat → List UInt8} {size base lap k at_ : Nat} {r : List UInt8} (hs : Stands S base at_ lap k r) (hlap : lap < 4294967296) (hP : partsN r.length < 65536) (hat : at_ + partsN r.length ≤ size) :
    recF S size base lap k (size - at_ + 1) at_ 1 1 [] = some (r, at_ + partsN r.length, true) := by
  have hpn : partsN r.length = (r.length - 1) / 47 + 1 := rfl
  suffices H : ∀ j, j ≤ partsN r.length → ∀ f, size - (at_ + (partsN r.length - j)) + 1 ≤ f → recF S size base lap k f (at_ + (partsN r.length - j)) (partsN r.length - j + 1) (if partsN r.length - j = 0 then 1 else partsN r.length) (r.take ((partsN r.length - j) * 47)) = some (r, at_ + partsN r.length, true) by
    have := H (partsN r.length) (Nat.le_refl _) (size - at_ + 1) (by omega)
    simpa using this
  intro j
  induction j with
  | zero =>
    intro _ f hf
    cases f with
    | zero => omega
    | succ f =>
      simp only [recF]
      rw [Nat.sub_zero, if_neg (by omega : ¬ partsN r.length = 0), if_neg (by omega), List.take_of_length_le (by omega)]
      simp; omega
  | succ j ih =>
    intro hj f hf
    cases f with
    | zero => omega
    | succ f =>
      obtain ⟨i, hi⟩ : ∃ i, partsN r.length - (j + 1) = i := ⟨_, rfl⟩
      have hi2 : partsN r.length - j = i + 1 := by omega
      have ih := ih (by omega) f (by omega)
      rw [hi2] at ih
      rw [hi]
      have hS := hs i (by omega)
      have hcl := chunk_length r i
      have hb : (chunk r i).length ≤ 47 := by omega
      simp only [recF]
      rw [← Nat.add_assoc, hS]
      unfold secF
      rw [secL_num _ _ _ _ _ hlap, secL_drop60 _ _ _ _ _ hb, be4_num _ hlap, secL_by12 _ _ _ _ _ hb, secL_of10 _ _ _ _ _ hP, secL_part _ _ _ _ _ hb]
      have hof : (if i + 1 = 1 then partsN r.length else if i = 0 then 1 else partsN r.length) = partsN r.length := by
        by_cases h0 : i = 0
        · rw [if_pos (by omega)]
        · rw [if_neg (by omega), if_neg h0]
      rw [hof, if_pos (by split <;> omega), if_neg (by omega), if_neg (by simp; omega)]
      rw [if_neg (by
        unfold Bad
        rw [secL_part _ _ _ _ _ hb]
        rintro (h | h | h)
        · exact h rfl
        · omega
        · omega)]
      rw [chunk_take]
      rw [if_neg (by omega : ¬ i + 1 = 0)] at ih
      exact ih
/-- A chain of records, from 'at_' and number 'k' on; its end. -/
def Chain (S : Nat → List UInt8) (base lap : Nat) : Nat → Nat → List (List UInt8) → Nat → Prop
  | at_, _, [], e => at_ = e
  | at_, k, r :: l, e => Stands S base at_ lap k r ∧ Chain S base lap (at_ + partsN r.length) (k + 1) l e
theorem partsN_pos (n : Nat) : 1 ≤ partsN n := by unfold partsN; omega
theorem Chain.le {S : Nat → List UInt8} {base lap : Nat} : ∀ {l : List (List UInt8)} {at_ k e : Nat}, Chain S base lap at_ k l e → at_ + l.length ≤ e
  | [], _, _, _, h => by simp [Chain] at h; subst h; simp
  | r :: l, at_, k, e, ⟨_, h⟩ => by
    have := h.le
    have := partsN_pos r.length
    simp only [List.length_cons]; omega
theorem recsF_chain {S : Nat → List UInt8} {size base lap e : Nat} (hlap : lap < 4294967296) (hsz : size < 65536) (he : e ≤ size) (hend : e = size ∨ num4 ((S (base + e)).drop 60) ≠ lap) :
    ∀ (l : List (List UInt8)) (at_ : Nat) (pre : List (List UInt8)) (f : Nat), Chain S base lap at_ pre.length l e → size - at_ ≤ f → recsF S size base lap f at_ pre = (pre ++ l, e)
  | [], at_, pre, f, h, hf => by
    simp only [Chain] at h; subst h
    cases f with
    | zero => simp [recsF]
    | succ f =>
      have hn : recF S size base lap pre.length (size - at_ + 1) at_ 1 1 [] = none := by
        rcases hend with h | h
        · rw [show size - at_ + 1 = 0 + 1 by omega]; exact recF_end (by omega)
        · simp only [recF]
          rw [if_pos (Nat.le_refl 1)]
          split
          · rfl
          · rw [if_pos (.inr (.inl h))]
      simp only [recsF, hn, List.append_nil]
  | r :: l, at_, pre, f, ⟨hs, hc⟩, hf => by
    have hle := hc.le
    have hp := partsN_pos r.length
    cases f with
    | zero => omega
    | succ f =>
      have h1 := recF_stands (size := size) hs hlap (by omega) (by omega)
      simp only [recsF, h1]
      have := recsF_chain hlap hsz he hend l (at_ + partsN r.length) (pre ++ [r]) f (by simpa using hc) (by omega)
      rw [this]; simp
theorem halfF_chain {S : Nat → List UInt8} {size base lap e : Nat} {r : List UInt8} {l : List (List UInt8)} (hl0 : 0 < lap) (hlap : lap < 4294967296) (hsz : size < 65536) (he : e ≤ size) (hend : e = size ∨ num4 ((S (base + e)).drop 60) ≠ lap) (hc : Chain S base lap 0 0 (r :: l) e) :
    num4 (S base) = lap ∧ halfF S size base = (r :: l, e) := by
  have h0 : S base = secF lap 0 r 0 := by have := hc.1 0 (partsN_pos _); simpa using this
  have h1 : num4 (S base) = lap := by rw [h0]; exact secL_num _ _ _ _ _ hlap
  refine ⟨h1, ?_⟩
  unfold halfF
  rw [h1, if_pos hl0]
  have := recsF_chain hlap hsz he hend (r :: l) 0 [] size hc (by omega)
  simpa using this
/-- A half that ends in another lap has nothing of a lap above. -/
theorem halfF_low {S : Nat → List UInt8} {size base lap : Nat} (h : size = 0 ∨ num4 ((S base).drop 60) < lap) (hn : 0 < (halfF S size base).1.length) : num4 (S base) < lap := by
  unfold halfF at hn
  split at hn
  · rcases Nat.lt_or_ge (num4 (S base)) lap with h' | h'
    · exact h'
    · exfalso
      cases size with
      | zero => simp [recsF] at hn
      | succ f =>
        have hno : recF S (f + 1) base (num4 (S base)) ([] : List (List UInt8)).length (f + 1 - 0 + 1) 0 1 1 [] = none := by
          simp only [recF]
          rw [if_pos (Nat.le_refl 1), if_neg (by omega), Nat.add_zero, if_pos (.inr (.inl (by omega)))]
        simp only [recsF, hno] at hn
        simp at hn
  · simp at hn
end Go.Proofs.Ytepeljbgekgjcaa
/- Layer 13, the plain law: what Start and Append make of a disk with power. Conditions: sizes far from the kind's edges. -/
set_option maxHeartbeats 8000000
set_option linter.unusedVariables false
set_option linter.unusedSimpArgs false
set_option maxRecDepth 100000
namespace Go.Proofs.Ytepeljbgekgjcaa
open Go Go.Sl
attribute [local irreducible] Go.Sl.Wl Go.Sl.Wc Go.Sl.thenQ Go.Sl.blkQ Go.Sl.loopQ Go.Sl.Fspec

structure Calm (n : Nat) (st : Int) (D : Dk) : Prop where
  ok : D.ok n
  down : D.down = false
  fuse : D.fuse = -1
  pend : D.pend = []
  steps : D.steps ≤ st
theorem Calm.new (n : Nat) (h : 1 ≤ n ∧ n ≤ 4096) : Calm n 0 (Dk.new n) := ⟨Dk.new_ok n h, rfl, rfl, rfl, by simp [Dk.new]⟩
theorem Calm.mono {n : Nat} {st st' : Int} {D : Dk} (h : Calm n st D) (k : st ≤ st') : Calm n st' D := ⟨h.ok, h.down, h.fuse, h.pend, by have := h.steps; omega⟩
theorem wrN_calm {f : Nat → List UInt8} {base : Nat} {D : Dk} (hd : D.down = false) (hf : D.fuse = -1) : ∀ k, (wrN f base D k).2 = true ∧ (wrN f base D k).1.down = false ∧ (wrN f base D k).1.fuse = -1 ∧
    ∀ i, (wrN f base D k).1.seen i = if base ≤ i ∧ i < base + k then f (i - base) else D.seen i
  | 0 => ⟨rfl, hd, hf, fun i => by rw [if_neg (by omega)]; rfl⟩
  | k + 1 => by
    obtain ⟨h1, h2, h3, h4⟩ := wrN_calm (f := f) (base := base) hd hf k
    have hno : ¬ ((wrN f base D k).1.down = true ∨ (wrN f base D k).1.fuse = 0) := by rw [h2, h3]; simp
    have e : wrN f base D (k + 1) = ((wrN f base D k).1.put (base + k) (f k), true) := by
      simp only [wrN]
      rw [if_pos h1, if_neg hno]
    rw [e]
    refine ⟨rfl, h2, by simp [Dk.put, Dk.tick, h3], fun i => ?_⟩
    show ((wrN f base D k).1.put (base + k) (f k)).seen i = _
    rw [seen_put, h4]
    by_cases hi : base + k = i
    · rw [if_pos hi, if_pos (by omega)]; congr 1; omega
    · rw [if_neg hi]
      by_cases hj : base ≤ i ∧ i < base + k
      · rw [if_pos hj, if_pos (by omega)]
      · rw [if_neg hj, if_neg (by omega)]
theorem putD_calm {f : Nat → List UInt8} {base n k : Nat} {st : Int} {D : Dk} (h : Calm n st D) (hf : ∀ i, (f i).length = 64) (hk : base + k ≤ n) (hs : st ≤ 4000000000000000000) :
    (putD f base D k).2 = true ∧ Calm n (st + k + 1) (putD f base D k).1 ∧ ∀ i, (putD f base D k).1.seen i = if base ≤ i ∧ i < base + k then f (i - base) else D.seen i := by
  have hn := h.ok.n; have hst := h.steps
  have hpl : D.pend.length = 0 := by rw [h.pend]; rfl
  obtain ⟨e1, e2, e3, e4⟩ := wrN_calm (f := f) (base := base) h.down h.fuse k
  obtain ⟨g1, g2, g3⟩ := wrN_ok h.ok hf k hk (by omega) (by omega)
  have hno : ¬ ((wrN f base D k).1.down = true ∨ (wrN f base D k).1.fuse = 0) := by rw [e2, e3]; simp
  have e : putD f base D k = ((wrN f base D k).1.sync, true) := by
    unfold putD
    rw [if_pos e1, if_neg hno]
  rw [e]
  refine ⟨rfl, ⟨Dk.sync_ok g1 (by omega), e2, by simp [Dk.sync, Dk.tick, e3], rfl, by simp only [Dk.sync, Dk.tick]; omega⟩, fun i => ?_⟩
  show (wrN f base D k).1.sync.seen i = _
  rw [seen_sync g1, e4]
/-- A half with a lap's records, above all other laps. -/
structure Live (S : Nat → List UInt8) (size h lap at_ : Nat) (recs : List (List UInt8)) : Prop where
  half : h ≤ 1
  lap0 : 0 < lap
  lap1 : lap < 4294967296
  room : at_ ≤ size
  small : size < 65536
  some : recs ≠ []
  chain : Chain S (h * size) lap 0 0 recs at_
  low : ∀ i, i < 2 * size → ¬ (h * size ≤ i ∧ i < h * size + at_) → num4 ((S i).drop 60) < lap
theorem Live.pos {S : Nat → List UInt8} {size h lap at_ : Nat} {recs : List (List UInt8)} (L : Live S size h lap at_ recs) : 1 ≤ at_ := by
  have h1 := L.chain.le
  have := L.some
  cases recs with
  | nil => exact absurd rfl this
  | cons r l => simp at h1; omega
theorem half_le {h size : Nat} (hh : h ≤ 1) : h * size + size ≤ 2 * size := by
  have : h = 0 ∨ h = 1 := by omega
  rcases this with rfl | rfl <;> omega
theorem Live.open {S : Nat → List UInt8} {size h lap at_ : Nat} {recs : List (List UInt8)} (L : Live S size h lap at_ recs) : openN S size 2 = (recs, lap, (h : Int)) := by
  have hle := half_le (size := size) L.half
  have hpos := L.pos; have hat := L.room
  obtain ⟨r, l, rfl⟩ : ∃ r l, recs = r :: l := by
    cases recs with
    | nil => exact absurd rfl L.some
    | cons r l => exact ⟨r, l, rfl⟩
  obtain ⟨h1, h2⟩ := halfF_chain L.lap0 L.lap1 L.small L.room (by
    by_cases he : at_ = size
    · exact .inl he
    · right
      have := L.low (h * size + at_) (by omega) (by omega)
      omega) L.chain
  have hh := L.half
  have hcase : h = 0 ∨ h = 1 := by omega
  rcases hcase with rfl | rfl
  · have hlow : 0 < (halfF S size (1 * size)).1.length → num4 (S (1 * size)) < lap := halfF_low (.inr (L.low (1 * size) (by omega) (by omega)))
    have e1 : openN S size 1 = (r :: l, lap, ((0 : Nat) : Int)) := by
      show (if 0 < (halfF S size (0 * size)).1.length ∧ (openN S size 0).2.1 < num4 (S (0 * size)) then _ else _) = _
      rw [h2, h1, if_pos ⟨by simp, by show 0 < lap; exact L.lap0⟩]
    show (if 0 < (halfF S size (1 * size)).1.length ∧ (openN S size 1).2.1 < num4 (S (1 * size)) then _ else _) = _
    rw [e1, if_neg (fun hc => by have := hlow hc.1; have := hc.2; simp only at this; omega)]
  · have hlow : 0 < (halfF S size (0 * size)).1.length → num4 (S (0 * size)) < lap := halfF_low (.inr (L.low (0 * size) (by omega) (by omega)))
    have e1 : (openN S size 1).2.1 < lap := by
      show (if 0 < (halfF S size (0 * size)).1.length ∧ (openN S size 0).2.1 < num4 (S (0 * size)) then ((halfF S size (0 * size)).1, num4 (S (0 * size)), ((0 : Nat) : Int)) else openN S size 0).2.1 < lap
      split
      · rename_i hc; exact hlow hc.1
      · exact L.lap0
    show (if 0 < (halfF S size (1 * size)).1.length ∧ (openN S size 1).2.1 < num4 (S (1 * size)) then ((halfF S size (1 * size)).1, num4 (S (1 * size)), ((1 : Nat) : Int)) else openN S size 1) = _
    rw [h2, h1, if_pos ⟨by simp, e1⟩]
theorem topN_ge (S : Nat → List UInt8) : ∀ k i, i < k → num4 ((S i).drop 60) ≤ topN S k
  | 0, _, h => by omega
  | k + 1, i, h => by
    simp only [topN]
    by_cases hi : i = k
    · subst hi; omega
    · have := topN_ge S k i (by omega); omega
theorem topN_le (S : Nat → List UInt8) (x : Nat) : ∀ k, (∀ i, i < k → num4 ((S i).drop 60) ≤ x) → topN S k ≤ x
  | 0, _ => by simp [topN]
  | k + 1, h => by
    have := topN_le S x k (fun i hi => h i (by omega))
    have := h k (by omega)
    simp only [topN]; omega
theorem Stands.last {S : Nat → List UInt8} {base at_ lap k i : Nat} {r : List UInt8} (h : Stands S base at_ lap k r) (hl : lap < 4294967296) (hi : i < partsN r.length) : num4 ((S (base + at_ + i)).drop 60) = lap := by
  have hc := chunk_length r i
  rw [h i hi]
  unfold secF
  rw [secL_drop60 _ _ _ _ _ (by omega), be4_num _ hl]
theorem Chain.last {S : Nat → List UInt8} {base lap : Nat} (hl : lap < 4294967296) : ∀ {l : List (List UInt8)} {at_ k e i : Nat}, Chain S base lap at_ k l e → at_ ≤ i → i < e → num4 ((S (base + i)).drop 60) = lap
  | [], at_, k, e, i, h, h1, h2 => by simp only [Chain] at h; omega
  | r :: l, at_, k, e, i, ⟨hs, hc⟩, h1, h2 => by
    by_cases hi : i < at_ + partsN r.length
    · have := hs.last hl (i := i - at_) (by omega)
      rwa [show base + at_ + (i - at_) = base + i by omega] at this
    · exact hc.last hl (by omega) h2
theorem Live.top {S : Nat → List UInt8} {size h lap at_ : Nat} {recs : List (List UInt8)} (L : Live S size h lap at_ recs) : topN S (2 * size) = lap := by
  have hle := half_le (size := size) L.half
  have hpos := L.pos; have hat := L.room
  have h1 : topN S (2 * size) ≤ lap := topN_le S lap _ fun i hi => by
    by_cases hin : h * size ≤ i ∧ i < h * size + at_
    · have := L.chain.last L.lap1 (i := i - h * size) (by omega) (by omega)
      rw [show h * size + (i - h * size) = i by omega] at this
      omega
    · have := L.low i hi hin; omega
  have h2 := topN_ge S (2 * size) (h * size) (by omega)
  have h3 := L.chain.last L.lap1 (i := 0) (by omega) (by omega)
  rw [Nat.add_zero] at h3
  omega
/-- Start. -/
theorem Live.start {S S' : Nat → List UInt8} {size h : Nat} {r : List UInt8} (hh : h ≤ 1) (hsz : size < 65536) (hP : partsN r.length ≤ size) (hlap : topN S (2 * size) + 1 < 4294967296)
    (hS : ∀ i, S' i = if h * size + 0 ≤ i ∧ i < h * size + 0 + partsN r.length then secF (topN S (2 * size) + 1) 0 r (i - (h * size + 0)) else S i) : Live S' size h (topN S (2 * size) + 1) (partsN r.length) [r] := by
  refine ⟨hh, by omega, hlap, hP, hsz, by simp, ⟨fun i hi => ?_, by simp [Chain]⟩, fun i hi hn => ?_⟩
  · rw [hS, if_pos (by omega)]; congr 1; omega
  · rw [hS, if_neg (by omega)]
    have := topN_ge S (2 * size) i hi
    omega
theorem Stands.congr {S S' : Nat → List UInt8} {base at_ lap k : Nat} {r : List UInt8} (h : Stands S base at_ lap k r) (hS : ∀ i, at_ ≤ i → i < at_ + partsN r.length → S' (base + i) = S (base + i)) : Stands S' base at_ lap k r := fun i hi => by
  rw [← h i hi]
  have := hS (at_ + i) (by omega) (by omega)
  rwa [← Nat.add_assoc] at this
theorem Chain.snoc {S S' : Nat → List UInt8} {base lap : Nat} {r : List UInt8} : ∀ {l : List (List UInt8)} {at_ k e : Nat}, Chain S base lap at_ k l e → (∀ i, i < e → S' (base + i) = S (base + i)) → Stands S' base e lap (k + l.length) r → Chain S' base lap at_ k (l ++ [r]) (e + partsN r.length)
  | [], at_, k, e, h, _, hs => by
    simp only [Chain] at h; subst h
    exact ⟨by simpa using hs, rfl⟩
  | q :: l, at_, k, e, ⟨h1, h2⟩, hS, hs => by
    have hle := h2.le
    refine ⟨h1.congr fun i _ hi => hS i (by omega), h2.snoc hS ?_⟩
    rw [List.length_cons] at hs
    rwa [show k + 1 + l.length = k + (l.length + 1) by omega]
/-- Append. -/
theorem Live.append {S S' : Nat → List UInt8} {size h lap at_ : Nat} {recs : List (List UInt8)} {r : List UInt8} (L : Live S size h lap at_ recs) (hP : at_ + partsN r.length ≤ size)
    (hS : ∀ i, S' i = if h * size + at_ ≤ i ∧ i < h * size + at_ + partsN r.length then secF lap recs.length r (i - (h * size + at_)) else S i) : Live S' size h lap (at_ + partsN r.length) (recs ++ [r]) := by
  refine ⟨L.half, L.lap0, L.lap1, hP, L.small, by simp, L.chain.snoc (fun i hi => by rw [hS, if_neg (by omega)]) (fun i hi => ?_), fun i hi hn => ?_⟩
  · rw [hS, if_pos (by omega), Nat.zero_add]; congr 1; omega
  · rw [hS, if_neg (by omega)]
    exact L.low i hi (by omega)
theorem openN_zero {S : Nat → List UInt8} {size : Nat} (h : ∀ i, i < 2 * size → S i = List.replicate 64 0) (hs : 1 ≤ size) : openN S size 2 = ([], 0, -1) := by
  have hz : num4 (List.replicate 64 (0 : UInt8)) = 0 := by decide
  have e : ∀ b, b < 2 * size → halfF S size b = ([], 0) := fun b hb => by
    unfold halfF
    rw [h b hb, hz, if_neg (by omega)]
  simp only [openN, e (0 * size) (by omega), e (1 * size) (by omega), List.length_nil, Nat.lt_irrefl, false_and, if_false]
theorem topN_zero {S : Nat → List UInt8} {size : Nat} (h : ∀ i, i < 2 * size → S i = List.replicate 64 0) : topN S (2 * size) = 0 := by
  have hz : num4 ((List.replicate 64 (0 : UInt8)).drop 60) = 0 := by decide
  have := topN_le S 0 (2 * size) (fun i hi => by rw [h i hi, hz]; omega)
  omega
end Go.Proofs.Ytepeljbgekgjcaa
/- A disk with power: what Start, Append, Write and Sync make of its sectors. Conditions: sizes far from the kind's edges. -/
set_option maxHeartbeats 8000000
set_option linter.unusedVariables false
set_option linter.unusedSimpArgs false
set_option maxRecDepth 100000
namespace Go.Proofs.Ytepeljbgekgjcaa
open Go Go.Sl
attribute [local irreducible] Go.Sl.Wl Go.Sl.Wc Go.Sl.thenQ Go.Sl.blkQ Go.Sl.loopQ Go.Sl.Fspec

/-- So many sectors put over what was there. -/
def updS (S : Nat → List UInt8) (base k : Nat) (f : Nat → List UInt8) (i : Nat) : List UInt8 := if base ≤ i ∧ i < base + k then f (i - base) else S i
theorem Calm.len {n : Nat} {st : Int} {D : Dk} (h : Calm n st D) (i : Nat) (hi : i < n) : (D.seen i).length = 64 :=
  seen_length i D.pend _ (by rw [List.length_take, List.length_drop, h.ok.len]; omega) (fun q hq => (h.ok.pend q hq).2)
theorem Calm.put {n : Nat} {st : Int} {D : Dk} (h : Calm n st D) (i : Nat) (bs : List UInt8) (hi : i < n) (hb : bs.length = 64) (hs : st ≤ 4000000000000000000) :
    (D.put i bs).ok n ∧ (D.put i bs).down = false ∧ (D.put i bs).fuse = -1 ∧ Calm n (st + 2) (D.put i bs).sync ∧ (D.put i bs).sync.seen = updS D.seen i 1 (fun _ => bs) := by
  have hst := h.steps
  have hpl : D.pend.length = 0 := by rw [h.pend]; rfl
  have h1 : (D.put i bs).ok n := Dk.put_ok h.ok hi hb (by omega) (by omega)
  have h2 : (D.put i bs).fuse = -1 := by simp [Dk.put, Dk.tick, h.fuse]
  have h3 : (D.put i bs).steps = D.steps + 1 := by simp [Dk.put, Dk.tick]
  refine ⟨h1, h.down, h2, ⟨Dk.sync_ok h1 (by omega), h.down, by simp [Dk.sync, Dk.tick, h2], rfl, by simp only [Dk.sync, Dk.tick, h3]; omega⟩, ?_⟩
  funext k
  rw [seen_sync h1, seen_put]
  unfold updS
  by_cases hk : i = k
  · rw [if_pos hk, if_pos (by omega)]
  · rw [if_neg hk, if_neg (by omega)]
theorem append_calm {n : Nat} {st : Int} {J : Jn} {D : Dk} {h : Nat} (hc : Calm n st D) (hsz : J.size = n / 2) (h1 : h ≤ 1) (rc : List UInt8) (hP : J.at_ + partsN rc.length ≤ J.size) (hst : st ≤ 4000000000000000000) :
    ∃ D', appendV J h D rc = (0, { J with at_ := J.at_ + partsN rc.length, number := J.number + 1 }, D') ∧ Calm n (st + n + 1) D' ∧ D'.seen = updS D.seen (h * J.size + J.at_) (partsN rc.length) (secF J.lap J.number rc) := by
  have hle := half_le (size := J.size) h1
  obtain ⟨e1, e2, e3⟩ := putD_calm (f := secF J.lap J.number rc) (base := h * J.size + J.at_) (k := partsN rc.length) hc (secF_length _ _ _) (by omega) hst
  refine ⟨_, ?_, e2.mono (by omega), funext e3⟩
  unfold appendV
  rw [if_neg (by omega), if_pos e1]
theorem start_calm {n : Nat} {st : Int} {J : Jn} {D : Dk} {h : Nat} (hc : Calm n st D) (hsz : J.size = n / 2) (hh : (if J.half = 0 then 1 else 0) = h) (rc : List UInt8) (hP : partsN rc.length ≤ J.size) (hl : topN D.seen (2 * J.size) + 1 ≤ 2147483647) (hst : st ≤ 4000000000000000000) :
    ∃ D', startV J D rc = (0, { J with half := (h : Int), at_ := partsN rc.length, lap := topN D.seen (2 * J.size) + 1, number := 1, started := true }, D') ∧ Calm n (st + n + 1) D' ∧ D'.seen = updS D.seen (h * J.size) (partsN rc.length) (secF (topN D.seen (2 * J.size) + 1) 0 rc) := by
  have h1 : h ≤ 1 := by rw [← hh]; split <;> omega
  have hhi : (if J.half = 0 then 1 else 0 : Int) = (h : Int) := by rw [← hh]; split <;> rfl
  have hle := half_le (size := J.size) h1
  obtain ⟨e1, e2, e3⟩ := putD_calm (f := secF (topN D.seen (2 * J.size) + 1) 0 rc) (base := h * J.size + 0) (k := partsN rc.length) hc (secF_length _ _ _) (by omega) hst
  refine ⟨_, ?_, e2.mono (by omega), funext e3⟩
  unfold startV
  rw [if_neg (by omega), hh, hhi, if_pos e1]
end Go.Proofs.Ytepeljbgekgjcaa
/- Layer 24, the plain law of ControlPlans: regions that report what is true. Conditions: few operations. -/
set_option maxHeartbeats 8000000
set_option linter.unusedVariables false
set_option linter.unusedSimpArgs false
set_option maxRecDepth 100000
namespace Go.Proofs.Ytepeljbgekgjcaa
open Go Go.Sl
attribute [local irreducible] Go.Sl.Wl Go.Sl.Wc Go.Sl.thenQ Go.Sl.blkQ Go.Sl.loopQ Go.Sl.Fspec

/-- A journal on a calm disk, behind so many operations. -/
structure JK (n k : Nat) (J : Jn) (D : Dk) : Prop where
  calm : Calm n ((k * (n + 1) : Nat) : Int) D
  size : J.size = n / 2
  over : J.over = false
  started : J.started = true
  live : ∃ (hf : Nat) (recs : List (List UInt8)), J.half = (hf : Int) ∧ Live D.seen J.size hf J.lap J.at_ recs ∧ J.number = recs.length
  lap : J.lap ≤ 300 * k
  num : J.number ≤ k
theorem JK.n {n k : Nat} {J : Jn} {D : Dk} (h : JK n k J D) : 1 ≤ n ∧ n ≤ 4096 := h.calm.ok.n
theorem JK.bound {n k : Nat} (hn : n ≤ 4096) (hk : k ≤ 1000) : k * (n + 1) ≤ 4097000 := by
  have : k * (n + 1) ≤ 1000 * 4097 := Nat.mul_le_mul hk (by omega)
  omega
theorem JK.ready {n k : Nat} {J : Jn} {D : Dk} (h : JK n k J D) (hk : k ≤ 1000) : JReady J D n := by
  obtain ⟨hf, recs, h1, h2, h3⟩ := h.live
  have hn := h.n
  have hb := JK.bound hn.2 hk
  have hs := h.calm.steps
  refine ⟨h.calm.ok, h.calm.down, h.size, h.over, h.started, ?_, h2.room, by have := h.num; omega, ?_, by omega⟩
  · have := h2.half; omega
  · rw [h.calm.pend]; simp; omega
theorem JK.mono {n k k' : Nat} {J : Jn} {D : Dk} (h : JK n k J D) (hk : k ≤ k') : JK n k' J D :=
  ⟨h.calm.mono (by have := Nat.mul_le_mul_right (n + 1) hk; omega), h.size, h.over, h.started, h.live, by have := h.lap; omega, by have := h.num; omega⟩
theorem parts_few {m : Nat} (h : m ≤ 606) : partsN m ≤ 13 := by unfold partsN; omega
theorem JK.put {n k : Nat} {J : Jn} {D : Dk} (h : JK n k J D) (h32 : 32 ≤ n) (hk : k ≤ 1000) (rc : List UInt8) (hr : rc.length ≤ 606) : ∃ J' D', putV J D rc = (0, J', D') ∧ JK n (k + 1) J' D' := by
  obtain ⟨hf, recs, h1, h2, h3⟩ := h.live
  have hn := h.n
  have hb := JK.bound hn.2 hk
  have hp := parts_few hr
  have hsz := h.size
  have e1 : (k + 1) * (n + 1) = k * (n + 1) + n + 1 := by rw [Nat.add_mul]; omega
  unfold putV
  by_cases hc : J.size - J.at_ < partsN rc.length
  · rw [if_pos hc]
    have htop := h2.top
    obtain ⟨h', hh'⟩ : ∃ h' : Nat, (if J.half = 0 then 1 else 0) = h' := ⟨_, rfl⟩
    have hh1 : h' ≤ 1 := by rw [← hh']; split <;> omega
    have hlp := h.lap
    obtain ⟨D', hS, hcl, hseen⟩ := start_calm (h := h') h.calm hsz hh' rc (by omega) (by rw [htop]; omega) (by omega)
    have hL : Live D'.seen J.size h' (topN D.seen (2 * J.size) + 1) (partsN rc.length) [rc] :=
      Live.start hh1 (by omega) (by omega) (by rw [htop]; omega) (fun i => by rw [hseen]; unfold updS; simp only [Nat.add_zero])
    exact ⟨_, D', hS, ⟨hcl.mono (by omega), hsz, h.over, rfl, ⟨h', [rc], rfl, hL, rfl⟩, by show topN D.seen (2 * J.size) + 1 ≤ 300 * (k + 1); omega, by show 1 ≤ k + 1; omega⟩⟩
  · rw [if_neg hc, show J.half.toNat = hf by omega]
    obtain ⟨D', hS, hcl, hseen⟩ := append_calm (h := hf) h.calm hsz h2.half rc (by have := h2.room; omega) (by omega)
    have hL := h2.append (r := rc) (S' := D'.seen) (by have := h2.room; omega) (fun i => by rw [hseen]; unfold updS; rw [h3])
    refine ⟨_, D', hS, ⟨hcl.mono (by omega), hsz, h.over, h.started, ⟨hf, recs ++ [rc], h1, hL, ?_⟩, by show J.lap ≤ 300 * (k + 1); have := h.lap; omega, by show J.number + 1 ≤ k + 1; have := h.num; omega⟩⟩
    show J.number + 1 = (recs ++ [rc]).length
    rw [h3]; simp
/-- The first Start, on a new disk. -/
theorem JK.new {n : Nat} (h32 : 32 ≤ n) (hn : n ≤ 4096) (rc : List UInt8) (hr : rc.length ≤ 606) : ∃ J' D', startV ⟨n / 2, -1, 0, 0, 0, false, false⟩ (Dk.new n) rc = (0, J', D') ∧ JK n 1 J' D' := by
  have hp := parts_few hr
  have hz : ∀ i, i < 2 * (n / 2) → (Dk.new n).seen i = List.replicate 64 0 := fun i hi => seen_new n i (by omega)
  have htop := topN_zero hz
  obtain ⟨D', hS, hcl, hseen⟩ := start_calm (J := ⟨n / 2, -1, 0, 0, 0, false, false⟩) (h := 0) (Calm.new n (by omega)) rfl rfl rc (by show partsN rc.length ≤ n / 2; omega) (by show topN (Dk.new n).seen (2 * (n / 2)) + 1 ≤ _; rw [htop]; omega) (by omega)
  refine ⟨_, D', hS, ⟨hcl.mono (by omega), rfl, rfl, rfl, ⟨0, [rc], rfl, ?_, rfl⟩, by show topN (Dk.new n).seen (2 * (n / 2)) + 1 ≤ 300 * 1; omega, Nat.le_refl 1⟩⟩
  refine Live.start (by omega) (by show n / 2 < 65536; omega) (by show partsN rc.length ≤ n / 2; omega) (by show topN (Dk.new n).seen (2 * (n / 2)) + 1 < _; rw [htop]; omega) (fun i => ?_)
  rw [hseen]; unfold updS; simp only [Nat.add_zero]
theorem open_new {n : Nat} (h32 : 32 ≤ n) : openN (Dk.new n).seen (n / 2) 2 = ([], 0, -1) := openN_zero (fun i hi => seen_new n i (by omega)) (by omega)

/-- A controller that is up, behind so many operations. -/
structure CK (n k : Nat) (C : Ct) (J : Jn) (D : Dk) : Prop where
  ok : C.ok
  up : C.over = false
  jk : JK n k J D
theorem CK.mono {n k k' : Nat} {C : Ct} {J : Jn} {D : Dk} (h : CK n k C J D) (hk : k ≤ k') : CK n k' C J D := ⟨h.ok, h.up, h.jk.mono hk⟩
theorem enc_few {t : List Ep} (h : rightT t = true) {kind target : Nat} (hk : kind ≤ 4) (ht : target ≤ 4) : (encK t (kind : Int) (target : Int)).length ≤ 606 := by
  have := rightT_out h
  exact encK_len (fun e he => fair_enc (this.2.2.1 e he)) (by omega) (by omega) (by omega)
theorem CK.ask {n k : Nat} {C : Ct} {J : Jn} {D : Dk} (h : CK n k C J D) (h32 : 32 ≤ n) (hk : k ≤ 1000) (kind target : Int) :
    ∃ e C' J' D', askV C J D kind target = (e, C', J', D') ∧ CK n (k + 1) C' J' D' ∧ C'.table = C.table ∧ C'.known = C.known ∧ C'.regions = C.regions ∧
      ((e = 0 ∧ (C'.kind : Int) = kind ∧ (C'.target : Int) = target) ∨ (e ≠ 0 ∧ C' = C)) := by
  have hreg := h.ok.regs
  have same : ∀ e : Int, e ≠ 0 → ∃ e' C' J' D', (e, C, J, D) = (e', C', J', D') ∧ CK n (k + 1) C' J' D' ∧ C'.table = C.table ∧ C'.known = C.known ∧ C'.regions = C.regions ∧ ((e' = 0 ∧ (C'.kind : Int) = kind ∧ (C'.target : Int) = target) ∨ (e' ≠ 0 ∧ C' = C)) :=
    fun e he => ⟨e, C, J, D, rfl, h.mono (by omega), rfl, rfl, rfl, .inr ⟨he, rfl⟩⟩
  unfold askV
  rw [if_neg (by rw [h.up]; simp)]
  by_cases h2 : (kind ≠ 1 ∧ kind ≠ 2) ∨ target < 1 ∨ (C.regions : Int) < target
  · rw [if_pos h2]; exact same 1 (by omega)
  rw [if_neg h2]
  by_cases h3 : C.kind ≠ 0 ∧ kind ≠ 2
  · rw [if_pos h3]; exact same 4 (by omega)
  rw [if_neg h3]
  by_cases h4 : 64 ≤ C.table.length
  · rw [if_pos h4]; exact same 15 (by omega)
  rw [if_neg h4]
  obtain ⟨J', D', hp, hj⟩ := h.jk.put h32 hk (encK C.table (kind.toNat : Int) (target.toNat : Int)) (enc_few h.ok.right (by omega) (by omega))
  refine ⟨0, C.kept 0 C.table kind.toNat target.toNat, J', D', by unfold keepV; rw [hp], ⟨?_, ?_, hj⟩, rfl, rfl, rfl, .inl ⟨rfl, ?_, ?_⟩⟩
  · exact ⟨h.ok.right, h.ok.regs, by show kind.toNat ≤ 2; omega, by show target.toNat ≤ C.regions; omega, by show kind.toNat = 0 ↔ target.toNat = 0; omega, h.ok.mast⟩
  · exact h.up
  · show ((kind.toNat : Nat) : Int) = kind; omega
  · show ((target.toNat : Nat) : Int) = target; omega
theorem CK.ready_mast {n k : Nat} {C : Ct} {J : Jn} {D : Dk} (h : CK n k C J D) (hr : C.ready.2 = true) : C.ready.1.master = (C.target : Int) ∧ 1 ≤ C.target ∧ C.target ≤ C.regions := by
  have hp := h.ok.plan; have ht := h.ok.target
  unfold Ct.ready at hr ⊢
  by_cases h1 : C.kind = 1
  · rw [if_pos h1]; exact ⟨rfl, by omega, ht⟩
  · rw [if_neg h1] at hr ⊢
    by_cases h2 : C.kind = 2
    · rw [if_pos h2]; exact ⟨rfl, by omega, ht⟩
    · rw [if_neg h2] at hr; cases hr
/-- What a report comes to. -/
theorem CK.take {n k : Nat} {C : Ct} {J : Jn} {D : Dk} (h : CK n k C J D) (h32 : 32 ≤ n) (hk : k ≤ 1000) (kind from_ config : Int) (closed : Bool) (ep ix : Int) :
    ∃ b C' J' D', takeV C J D kind from_ config closed ep ix = (b, C', J', D') ∧ CK n (k + 1) C' J' D' ∧ C'.regions = C.regions ∧
      ((b = false ∧ C' = C) ∨ (b = true ∧ config = C.table.length ∧ (C' = C.told from_.toNat closed ep ix ∧ ((C.told from_.toNat closed ep ix).ready.2 = false ∨ rightT (C.table ++ [(C.told from_.toNat closed ep ix).ready.1]) = false) ∨
        ((C.told from_.toNat closed ep ix).ready.2 = true ∧ C' = ((C.told from_.toNat closed ep ix).kept 0 (C.table ++ [(C.told from_.toNat closed ep ix).ready.1]) 0 0).fresh)))) := by
  unfold takeV
  by_cases h1 : C.over = true ∨ kind ≠ 5 ∨ from_ < 1 ∨ (C.regions : Int) < from_ ∨ config ≠ C.table.length
  · rw [if_pos h1]; exact ⟨false, C, J, D, rfl, h.mono (by omega), rfl, .inl ⟨rfl, rfl⟩⟩
  rw [if_neg h1]
  have hcf : config = C.table.length := Classical.byContradiction fun e => h1 (.inr (.inr (.inr (.inr e))))
  have hk1 : CK n k (C.told from_.toNat closed ep ix) J D := ⟨h.ok.told _ _ _ _, h.up, h.jk⟩
  generalize hC1 : C.told from_.toNat closed ep ix = C1 at hk1 ⊢
  have htb : C1.table = C.table := by rw [← hC1]; rfl
  have hrg : C1.regions = C.regions := by rw [← hC1]; rfl
  unfold tookV
  cases hr : C1.ready.2 with
  | false => exact ⟨true, C1, J, D, by simp, hk1.mono (by omega), hrg, .inr ⟨rfl, hcf, .inl ⟨rfl, .inl rfl⟩⟩⟩
  | true =>
    rw [if_neg (by simp), htb]
    obtain ⟨hm1, hm2, hm3⟩ := hk1.ready_mast hr
    cases hR : rightT (C.table ++ [C1.ready.1]) with
    | false => exact ⟨true, C1, J, D, by simp, hk1.mono (by omega), hrg, .inr ⟨rfl, hcf, .inl ⟨rfl, .inr rfl⟩⟩⟩
    | true =>
      rw [if_pos rfl]
      obtain ⟨J', D', hp, hj⟩ := hk1.jk.put h32 hk (encK (C.table ++ [C1.ready.1]) ((0 : Nat) : Int) ((0 : Nat) : Int)) (enc_few hR (by omega) (by omega))
      refine ⟨true, _, J', D', ?_, ⟨?_, ?_, hj⟩, ?_, .inr ⟨rfl, hcf, .inr ⟨rfl, rfl⟩⟩⟩
      · unfold keepV; rw [hp]; simp
      · refine ⟨hR, by show 1 ≤ C1.regions ∧ C1.regions ≤ 4; exact hk1.ok.regs, by show 0 ≤ 2; omega, by show 0 ≤ C1.regions; omega, by show (0 : Nat) = 0 ↔ (0 : Nat) = 0; simp, fun e he => ?_⟩
        show e.master ≤ (C1.regions : Int)
        rcases List.mem_append.1 he with he | he
        · have := h.ok.mast e he; omega
        · simp at he; subst he; omega
      · exact hk1.up
      · exact hrg

/-! regions -/
structure Sm where
  config : Nat
  last : Nat
  closed : Bool
structure SimI (C : Ct) (s : Nat → Sm) : Prop where
  conf : ∀ r, 1 ≤ r → r ≤ C.regions → 1 ≤ (s r).config ∧ (s r).config ≤ C.table.length
  know : ∀ r, 1 ≤ r → r ≤ C.regions → (C.known r).closed = true → (s r).config = C.table.length ∧ (s r).closed = true ∧ ((s r).last : Int) = (C.known r).ix
  last : ∀ r, 1 ≤ r → r ≤ C.regions → (s r).last ≤ 500
def putS (s : Nat → Sm) (r : Nat) (x : Sm) : Nat → Sm := fun i => if i = r then x else s i
theorem SimI.put {C : Ct} {s : Nat → Sm} (h : SimI C s) {r : Nat} {x : Sm} (h1 : 1 ≤ x.config ∧ x.config ≤ C.table.length) (h2 : (C.known r).closed = true → x.config = C.table.length ∧ x.closed = true ∧ (x.last : Int) = (C.known r).ix) (h3 : x.last ≤ 500) : SimI C (putS s r x) := by
  refine ⟨fun i a b => ?_, fun i a b c => ?_, fun i a b => ?_⟩
  · unfold putS; split
    · exact h1
    · exact h.conf i a b
  · unfold putS; split
    · rename_i e; subst e; exact h2 c
    · exact h.know i a b c
  · unfold putS; split
    · exact h3
    · exact h.last i a b
/-- What must be of a new epoch. -/
structure Fits (C : Ct) (s : Nat → Sm) (e : Ep) : Prop where
  mast : 1 ≤ e.master ∧ e.master ≤ C.regions
  cut : e.cut = ((s e.master.toNat).last : Int)
  conf : (s e.master.toNat).config = C.table.length
  closed : (s e.master.toNat).closed = true
  plan : e.forced = false → e.cut = ((s C.mst).last : Int) ∧ (s C.mst).config = C.table.length ∧ (s C.mst).closed = true
theorem SimI.told {C : Ct} {s : Nat → Sm} (h : SimI C s) {r : Nat} (hcf : (s r).config = C.table.length) (ep : Int) : SimI (C.told r (s r).closed ep (s r).last) s := by
  refine ⟨h.conf, fun i a b c => ?_, h.last⟩
  simp only [Ct.told] at c ⊢
  by_cases hi : i = r
  · subst hi; rw [if_pos rfl] at c ⊢; exact ⟨hcf, c, rfl⟩
  · rw [if_neg hi] at c ⊢; exact h.know i a b c
theorem SimI.fits {n k : Nat} {C : Ct} {J : Jn} {D : Dk} {s : Nat → Sm} (hk : CK n k C J D) (h : SimI C s) (hr : C.ready.2 = true) : Fits C s C.ready.1 := by
  obtain ⟨m1, m2, m3⟩ := hk.ready_mast hr
  obtain ⟨q1, q2, q3⟩ := hk.ok.mst
  have hmt : C.ready.1.master.toNat = C.target := by omega
  unfold Ct.ready at hr
  by_cases h1 : C.kind = 1
  · rw [if_pos h1] at hr
    simp only [Bool.and_eq_true, Bool.or_eq_true, decide_eq_true_eq] at hr
    obtain ⟨hm, hr⟩ := hr
    obtain ⟨k1, k2, k3⟩ := h.know C.mst q2 q3 hm
    have hrd : C.ready.1 = ⟨C.target, (C.known C.mst).ix, false⟩ := by unfold Ct.ready; rw [if_pos h1]
    have hcut : C.ready.1.cut = (C.known C.mst).ix := by rw [hrd]
    rcases hr with hr | ⟨hr1, hr2⟩
    · rw [← hr] at k1 k2 k3
      exact ⟨by omega, by rw [hmt, hcut, k3, hr], by rw [hmt]; exact k1, by rw [hmt]; exact k2, fun _ => by rw [← hr]; exact ⟨by rw [hcut, k3, hr], k1, k2⟩⟩
    · obtain ⟨t1, t2, t3⟩ := h.know C.target m2 m3 hr1
      exact ⟨by omega, by rw [hmt, hcut, t3, hr2], by rw [hmt]; exact t1, by rw [hmt]; exact t2, fun _ => ⟨by rw [hcut, k3], k1, k2⟩⟩
  · rw [if_neg h1] at hr
    by_cases h2 : C.kind = 2
    · rw [if_pos h2] at hr
      obtain ⟨t1, t2, t3⟩ := h.know C.target m2 m3 hr
      have hrd : C.ready.1 = ⟨C.target, (C.known C.target).ix, true⟩ := by unfold Ct.ready; rw [if_neg h1, if_pos h2]
      exact ⟨by omega, by rw [hmt, t3, hrd], by rw [hmt]; exact t1, by rw [hmt]; exact t2, fun e => by rw [hrd] at e; cases e⟩
    · rw [if_neg h2] at hr; cases hr
theorem SimI.fresh {C : Ct} {s : Nat → Sm} (h : SimI C s) (e : Ep) : SimI ((C.kept 0 (C.table ++ [e]) 0 0).fresh) s := by
  refine ⟨fun r a b => ?_, fun r a b c => ?_, fun r a b => h.last r a b⟩
  · have := h.conf r a b
    show 1 ≤ (s r).config ∧ (s r).config ≤ (C.table ++ [e]).length
    simp; omega
  · exact absurd c (by simp [Ct.fresh, Rp.zero])
/-- A report of what is true. -/
theorem SimI.take {n k : Nat} {C : Ct} {J : Jn} {D : Dk} {s : Nat → Sm} (hc : CK n k C J D) (h : SimI C s) (h32 : 32 ≤ n) (hk : k ≤ 1000) (r : Nat) :
    ∃ b C' J' D', takeV C J D 5 r (s r).config (s r).closed (s r).config (s r).last = (b, C', J', D') ∧ CK n (k + 1) C' J' D' ∧ C'.regions = C.regions ∧ SimI C' s ∧
      (C'.table = C.table ∨ ∃ e, C'.table = C.table ++ [e] ∧ Fits C s e) := by
  obtain ⟨b, C', J', D', h1, h2, h3, h4⟩ := hc.take h32 hk 5 r (s r).config (s r).closed (s r).config (s r).last
  refine ⟨b, C', J', D', h1, h2, h3, ?_⟩
  rcases h4 with ⟨_, rfl⟩ | ⟨_, hcf, h4⟩
  · exact ⟨h, .inl rfl⟩
  · have hcf' : (s r).config = C.table.length := by omega
    rw [Int.toNat_natCast] at h4
    have ht := h.told hcf' ((s r).config : Int)
    have hkt : CK n k (C.told r (s r).closed (s r).config (s r).last) J D := ⟨hc.ok.told _ _ _ _, hc.up, hc.jk⟩
    rcases h4 with ⟨rfl, _⟩ | ⟨hr, rfl⟩
    · exact ⟨ht, .inl rfl⟩
    · refine ⟨ht.fresh _, .inr ⟨_, rfl, ?_⟩⟩
      have := ht.fits hkt hr
      exact ⟨this.mast, this.cut, this.conf, this.closed, this.plan⟩
end Go.Proofs.Ytepeljbgekgjcaa
/- Layer 13, the plain law: what a crash amid a put leaves of a journal. Conditions: sizes far from the edges. -/
set_option maxHeartbeats 8000000
set_option linter.unusedVariables false
set_option linter.unusedSimpArgs false
set_option maxRecDepth 100000
namespace Go.Proofs.Ytepeljbgekgjcaa
open Go Go.Sl
attribute [local irreducible] Go.Sl.Wl Go.Sl.Wc Go.Sl.thenQ Go.Sl.blkQ Go.Sl.loopQ Go.Sl.Fspec

/-! writes that are broken off -/
def pendN (f : Nat → List UInt8) (base j : Nat) : List (Nat × List UInt8) := (List.range j).map fun i => (base + i, f i)
theorem pendN_succ (f : Nat → List UInt8) (base j : Nat) : pendN f base (j + 1) = pendN f base j ++ [(base + j, f j)] := by simp [pendN, List.range_succ]
theorem pendN_len (f : Nat → List UInt8) (base j : Nat) : (pendN f base j).length = j := by simp [pendN]
theorem pendN_ok {f : Nat → List UInt8} {base j n : Nat} (hf : ∀ i, (f i).length = 64) (h : base + j ≤ n) : ∀ q ∈ pendN f base j, q.1 < n ∧ q.2.length = 64 := by
  intro q hq
  simp only [pendN, List.mem_map, List.mem_range] at hq
  obtain ⟨i, hi, rfl⟩ := hq
  exact ⟨by simp only; omega, hf i⟩
/-- Behind some writes, of which the last may not have been done. -/
theorem wrN_some {f : Nat → List UInt8} {base : Nat} {D : Dk} (hd : D.down = false) (hp : D.pend = []) (hfu : -1 ≤ D.fuse ∧ D.fuse ≤ 9223372036854775807) : ∀ k, ∃ (j : Nat) (fu st : Int), j ≤ k ∧ -1 ≤ fu ∧ fu ≤ 9223372036854775807 ∧ D.steps ≤ st ∧ st ≤ D.steps + k ∧
    (wrN f base D k).1 = ⟨D.kept, pendN f base j, fu, !(wrN f base D k).2, st⟩ ∧ ((wrN f base D k).2 = true → j = k)
  | 0 => ⟨0, D.fuse, D.steps, Nat.le_refl 0, hfu.1, hfu.2, Int.le_refl _, by simp, by simp only [wrN, pendN, List.range_zero, List.map_nil, Bool.not_true]; rw [← hp, ← hd], fun _ => rfl⟩
  | k + 1 => by
    obtain ⟨j, fu, st, h1, h2, h3, h4, h5, h6, h7⟩ := wrN_some (f := f) (base := base) hd hp hfu k
    simp only [wrN]
    cases hw : (wrN f base D k).2 with
    | false =>
      rw [hw] at h6 h7
      simp only [Bool.false_eq_true, if_false]
      exact ⟨j, fu, st, by omega, h2, h3, h4, by omega, by rw [h6, hw], fun h => absurd h (by rw [hw]; simp)⟩
    | true =>
      rw [hw] at h6 h7
      obtain rfl := h7 rfl
      simp only [if_true]
      rw [h6]
      simp only [Bool.not_true, Bool.false_eq_true, false_or]
      by_cases hz : fu = 0
      · rw [if_pos hz]
        exact ⟨j, fu, st, by omega, h2, h3, h4, by omega, by simp [Dk.dead], by simp⟩
      · rw [if_neg hz]
        refine ⟨j + 1, if 0 < fu then fu - 1 else fu, st + 1, Nat.le_refl _, by split <;> omega, by split <;> omega, by omega, by omega, ?_, fun _ => rfl⟩
        simp [Dk.put, Dk.tick, pendN_succ]
/-- A put that is done, or broken off. -/
theorem putD_some {f : Nat → List UInt8} {base k n : Nat} {D : Dk} (hD : D.ok n) (hd : D.down = false) (hp : D.pend = []) (hf : ∀ i, (f i).length = 64) (hb : base + k ≤ n) (hs : D.steps + k ≤ 4611686018427387902) (hk : k ≤ 999999) :
    ((putD f base D k).2 = true ∧ (putD f base D k).1.ok n ∧ (putD f base D k).1.down = false ∧ (putD f base D k).1.pend = [] ∧ (putD f base D k).1.steps ≤ D.steps + k + 1 ∧
      ∀ i, (putD f base D k).1.seen i = if base ≤ i ∧ i < base + k then f (i - base) else D.seen i) ∨
    ((putD f base D k).2 = false ∧ ∃ (j : Nat) (fu st : Int), j ≤ k ∧ -1 ≤ fu ∧ fu ≤ 9223372036854775807 ∧ 0 ≤ st ∧ st ≤ D.steps + k ∧ (putD f base D k).1 = ⟨D.kept, pendN f base j, fu, true, st⟩) := by
  obtain ⟨j, fu, st, h1, h2, h3, h4, h5, h6, h7⟩ := wrN_some (f := f) (base := base) hd hp hD.fuse k
  have hst := hD.steps
  unfold putD
  cases hw : (wrN f base D k).2 with
  | false =>
    right
    rw [hw] at h6
    simp only [Bool.false_eq_true, if_false]
    exact ⟨hw, j, fu, st, h1, h2, h3, by omega, h5, h6⟩
  | true =>
    rw [hw] at h6 h7
    obtain rfl := h7 rfl
    simp only [if_true]
    rw [h6]
    simp only [Bool.not_true, Bool.false_eq_true, false_or]
    by_cases hz : fu = 0
    · rw [if_pos hz]
      right
      exact ⟨rfl, j, fu, st, Nat.le_refl _, h2, h3, by omega, h5, rfl⟩
    · rw [if_neg hz]
      left
      have hok : (⟨D.kept, pendN f base j, fu, false, st⟩ : Dk).ok n := ⟨hD.len, pendN_ok hf hb, by rw [pendN_len]; omega, ⟨h2, h3⟩, ⟨by simp only; omega, by simp only; omega⟩, hD.n⟩
      refine ⟨rfl, Dk.sync_ok hok (by simp only; omega), rfl, rfl, by simp only [Dk.sync, Dk.tick]; omega, fun i => ?_⟩
      rw [seen_sync hok]
      have hseen : ∀ j, (⟨D.kept, pendN f base j, fu, false, st⟩ : Dk).seen i = if base ≤ i ∧ i < base + j then f (i - base) else D.seen i := by
        intro j
        induction j with
        | zero => rw [if_neg (by omega)]; simp [Dk.seen, pendN, hp]
        | succ j ih =>
          have e : (⟨D.kept, pendN f base (j + 1), fu, false, st⟩ : Dk).seen i = if base + j = i then f j else (⟨D.kept, pendN f base j, fu, false, st⟩ : Dk).seen i := by
            simp only [Dk.seen, pendN_succ, List.foldl_append, List.foldl_cons, List.foldl_nil, seen1]
          rw [e, ih]
          by_cases hi : base + j = i
          · rw [if_pos hi, if_pos (by omega)]; congr 1; omega
          · rw [if_neg hi]
            by_cases hc : base ≤ i ∧ i < base + j
            · rw [if_pos hc, if_pos (by omega)]
            · rw [if_neg hc, if_neg (by omega)]
      exact hseen j
/-- Sectors from 'base' on hold new bytes ahead of old ones. -/
def Torn (S S' : Nat → List UInt8) (base k : Nat) (f : Nat → List UInt8) : Prop := ∀ i, ∃ c, c ≤ 64 ∧ S' i = (f (i - base)).take c ++ (S i).drop c ∧ (¬ (base ≤ i ∧ i < base + k) → c = 0)
theorem crash_torn {f : Nat → List UInt8} {base n : Nat} {kept : List UInt8} (ch : List UInt8) (hl : kept.length = 64 * n) (hf : ∀ i, (f i).length = 64) : ∀ j, base + j ≤ n → Torn (sec kept) (sec (crashF ch kept (pendN f base j))) base j f
  | 0, _ => fun i => ⟨0, by omega, by simp [pendN, crashF], fun _ => rfl⟩
  | j + 1, hj => fun i => by
    have ih := crash_torn (n := n) (base := base) (f := f) ch hl hf j (by omega) i
    obtain ⟨c, h1, h2, h3⟩ := ih
    have hbj : base + j < n := by omega
    have hlen := crashF_length n ch kept hl (pendN f base j) (pendN_ok (n := n) hf (by omega))
    rw [pendN_succ, crashF_snoc, pendN_len]
    by_cases hi : i = base + j
    · subst hi
      have h0 := h3 (by omega)
      subst h0
      have hm := nOf_le ch j
      refine ⟨nOf ch j, hm, ?_, fun h => absurd ⟨by omega, by omega⟩ h⟩
      rw [sec_crash1 (crashF ch kept (pendN f base j)) (base + j) (f j) (nOf ch j) (by omega) (hf j) hm, h2]
      simp
    · rw [sec_crash1_ne (crashF ch kept (pendN f base j)) (base + j) i (f j) (nOf ch j) (by omega) (hf j) (nOf_le ch j) hi]
      exact ⟨c, h1, h2, fun h => h3 (by omega)⟩
theorem Torn.out {S S' : Nat → List UInt8} {base k i : Nat} {f : Nat → List UInt8} (h : Torn S S' base k f) (hi : ¬ (base ≤ i ∧ i < base + k)) : S' i = S i := by
  obtain ⟨c, _, h2, h3⟩ := h i
  rw [h3 hi] at h2; simpa using h2
theorem Torn.mono {S S' : Nat → List UInt8} {base k k' : Nat} {f : Nat → List UInt8} (h : Torn S S' base k f) (hk : k ≤ k') : Torn S S' base k' f := fun i => by
  obtain ⟨c, h1, h2, h3⟩ := h i
  exact ⟨c, h1, h2, fun hc => h3 (by omega)⟩

/-! numbers of torn sectors -/
theorem be4_of : ∀ (l : List UInt8), l.length = 4 → be4 (num4 l) = l
  | [a, b, c, d], _ => by
    have ha := u8_lt a; have hb := u8_lt b; have hc := u8_lt c; have hd := u8_lt d
    have e : num4 [a, b, c, d] = 16777216 * a.toNat + 65536 * b.toNat + 256 * c.toNat + d.toNat := rfl
    rw [e]
    have h : ∀ (x : UInt8) (k : Nat), (16777216 * a.toNat + 65536 * b.toNat + 256 * c.toNat + d.toNat) / 256 ^ k % 256 = x.toNat → be (16777216 * a.toNat + 65536 * b.toNat + 256 * c.toNat + d.toNat) k = x := fun x k hk => by
      apply UInt8.toNat_inj.1
      rw [be_toNat, hk]
    simp only [be4]
    rw [h a 3 (by omega), h b 2 (by omega), h c 1 (by omega), h d 0 (by omega)]
/-- A sector that is not the new one does not end in the new lap. -/
theorem torn_tail {s s' : List UInt8} {lap k i c : Nat} {r : List UInt8} (hl : s.length = 64) (hlap : lap < 4294967296) (hlow : num4 (s.drop 60) < lap) (hc : c ≤ 64) (h : s' = (secF lap k r i).take c ++ s.drop c) (hne : s' ≠ secF lap k r i) : num4 (s'.drop 60) ≠ lap := by
  intro he
  have hfl := secF_length lap k r i
  have hch := chunk_length r i
  have hft : (secF lap k r i).drop 60 = be4 lap := secL_drop60 _ _ _ _ _ (by omega)
  by_cases hc60 : c ≤ 60
  · have : s'.drop 60 = s.drop 60 := by
      rw [h, List.drop_append, List.drop_eq_nil_of_le (by simp; omega), List.nil_append, List.drop_drop]
      congr 1; simp; omega
    rw [this] at he; omega
  · have hs'l : s'.length = 64 := by rw [h]; simp [hfl, hl]; omega
    have ht : s'.drop 60 = be4 lap := by
      rw [← he]; exact (be4_of _ (by simp [hs'l])).symm
    have hh : s'.take 60 = (secF lap k r i).take 60 := by
      rw [h, List.take_append_of_le_length (by simp [hfl]; omega), List.take_take, Nat.min_eq_left (by omega)]
    apply hne
    rw [← List.take_append_drop 60 s', ht, hh, ← hft, List.take_append_drop]
/-- A record of which a sector is not there is not found. -/
theorem recF_torn {S : Nat → List UInt8} {size base lap k at_ i0 : Nat} {r : List UInt8} (hs : ∀ i, i < i0 → S (base + at_ + i) = secF lap k r i) (hi0 : i0 < partsN r.length) (hbad : num4 ((S (base + at_ + i0)).drop 60) ≠ lap) (hlap : lap < 4294967296) (hP : partsN r.length < 65536) (hat : at_ + partsN r.length ≤ size) :
    recF S size base lap k (size - at_ + 1) at_ 1 1 [] = none := by
  have hpn : partsN r.length = (r.length - 1) / 47 + 1 := rfl
  suffices H : ∀ j, j ≤ i0 → ∀ f, size - (at_ + (i0 - j)) + 1 ≤ f → recF S size base lap k f (at_ + (i0 - j)) (i0 - j + 1) (if i0 - j = 0 then 1 else partsN r.length) (r.take ((i0 - j) * 47)) = none by
    have := H i0 (Nat.le_refl _) (size - at_ + 1) (by omega)
    simpa using this
  intro j
  induction j with
  | zero =>
    intro _ f hf
    cases f with
    | zero => omega
    | succ f =>
      simp only [recF]
      rw [Nat.sub_zero]
      have hle : i0 + 1 ≤ (if i0 = 0 then 1 else partsN r.length) := by split <;> omega
      rw [if_pos hle]
      by_cases hsz2 : size ≤ at_ + i0
      · rw [if_pos hsz2]
      · rw [if_neg hsz2, ← Nat.add_assoc, if_pos (.inr (.inl hbad))]
  | succ j ih =>
    intro hj f hf
    cases f with
    | zero => omega
    | succ f =>
      obtain ⟨i, hi⟩ : ∃ i, i0 - (j + 1) = i := ⟨_, rfl⟩
      have hi2 : i0 - j = i + 1 := by omega
      have ih := ih (by omega) f (by omega)
      rw [hi2] at ih
      rw [hi]
      have hS := hs i (by omega)
      have hcl := chunk_length r i
      have hb : (chunk r i).length ≤ 47 := by omega
      simp only [recF]
      rw [← Nat.add_assoc, hS]
      unfold secF
      rw [secL_num _ _ _ _ _ hlap, secL_drop60 _ _ _ _ _ hb, be4_num _ hlap, secL_by12 _ _ _ _ _ hb, secL_of10 _ _ _ _ _ hP, secL_part _ _ _ _ _ hb]
      have hof : (if i + 1 = 1 then partsN r.length else if i = 0 then 1 else partsN r.length) = partsN r.length := by
        by_cases h0 : i = 0
        · rw [if_pos (by omega)]
        · rw [if_neg (by omega), if_neg h0]
      rw [hof, if_pos (by split <;> omega), if_neg (by omega), if_neg (by simp; omega)]
      rw [if_neg (by
        unfold Bad
        rw [secL_part _ _ _ _ _ hb]
        rintro (h | h | h)
        · exact h rfl
        · omega
        · omega)]
      rw [chunk_take]
      rw [if_neg (by omega : ¬ i + 1 = 0)] at ih
      exact ih
theorem recsF_chain2 {S : Nat → List UInt8} {size base lap e : Nat} (hlap : lap < 4294967296) (hsz : size < 65536) (he : e ≤ size) :
    ∀ (l : List (List UInt8)) (at_ : Nat) (pre : List (List UInt8)) (f : Nat), (recF S size base lap (pre.length + l.length) (size - e + 1) e 1 1 [] = none) → Chain S base lap at_ pre.length l e → size - at_ ≤ f → recsF S size base lap f at_ pre = (pre ++ l, e)
  | [], at_, pre, f, hn, h, hf => by
    simp only [Chain] at h; subst h
    cases f with
    | zero => simp [recsF]
    | succ f =>
      simp only [List.length_nil, Nat.add_zero] at hn
      simp only [recsF, hn, List.append_nil]
  | r :: l, at_, pre, f, hn, ⟨hs, hc⟩, hf => by
    have hle := hc.le
    have hp := partsN_pos r.length
    cases f with
    | zero => omega
    | succ f =>
      have h1 := recF_stands (size := size) hs hlap (by omega) (by omega)
      simp only [recsF, h1]
      have := recsF_chain2 hlap hsz he l (at_ + partsN r.length) (pre ++ [r]) f (by
        simp only [List.length_append, List.length_cons, List.length_nil] at hn ⊢
        rw [show pre.length + (0 + 1) + l.length = pre.length + (l.length + 1) by omega]; exact hn) (by simpa using hc) (by omega)
      rw [this]; simp
theorem Chain.agree {S S' : Nat → List UInt8} {base lap : Nat} : ∀ {l : List (List UInt8)} {at_ k e : Nat}, Chain S base lap at_ k l e → (∀ i, i < e → S' (base + i) = S (base + i)) → Chain S' base lap at_ k l e
  | [], _, _, _, h, _ => h
  | r :: l, at_, k, e, ⟨h1, h2⟩, hS => by
    have hle := h2.le
    exact ⟨fun i hi => by rw [← h1 i hi, Nat.add_assoc]; exact hS (at_ + i) (by omega), Chain.agree h2 hS⟩
/-- The half of the greater lap is taken. -/
theorem open_pick {S : Nat → List UInt8} {size h lap e : Nat} {recs : List (List UInt8)} (hh : h ≤ 1) (hl0 : 0 < lap) (hne : recs ≠ []) (h1 : num4 (S (h * size)) = lap) (h2 : halfF S size (h * size) = (recs, e)) (hlow : 0 < (halfF S size ((1 - h) * size)).1.length → num4 (S ((1 - h) * size)) < lap) :
    openN S size 2 = (recs, lap, (h : Int)) := by
  have hpos : 0 < recs.length := by
    cases recs with
    | nil => exact absurd rfl hne
    | cons => simp
  have hcase : h = 0 ∨ h = 1 := by omega
  rcases hcase with rfl | rfl
  · have e1 : openN S size 1 = (recs, lap, ((0 : Nat) : Int)) := by
      show (if 0 < (halfF S size (0 * size)).1.length ∧ (openN S size 0).2.1 < num4 (S (0 * size)) then _ else _) = _
      rw [h2, h1, if_pos ⟨hpos, by show 0 < lap; exact hl0⟩]
    show (if 0 < (halfF S size (1 * size)).1.length ∧ (openN S size 1).2.1 < num4 (S (1 * size)) then _ else _) = _
    rw [e1, if_neg (fun hc => by have := hlow hc.1; have := hc.2; simp only at this; simp at *; omega)]
  · have e1 : (openN S size 1).2.1 < lap := by
      show (if 0 < (halfF S size (0 * size)).1.length ∧ (openN S size 0).2.1 < num4 (S (0 * size)) then ((halfF S size (0 * size)).1, num4 (S (0 * size)), ((0 : Nat) : Int)) else openN S size 0).2.1 < lap
      split
      · rename_i hc; exact hlow hc.1
      · exact hl0
    show (if 0 < (halfF S size (1 * size)).1.length ∧ (openN S size 1).2.1 < num4 (S (1 * size)) then ((halfF S size (1 * size)).1, num4 (S (1 * size)), ((1 : Nat) : Int)) else openN S size 1) = _
    rw [h2, h1, if_pos ⟨hpos, e1⟩]
theorem first_bad {p : Nat → Prop} : ∀ (n : Nat), (∀ i, i < n → p i) ∨ ∃ i, i < n ∧ ¬ p i ∧ ∀ j, j < i → p j
  | 0 => .inl (by omega)
  | n + 1 => by
    rcases first_bad (p := p) n with h | ⟨i, h1, h2, h3⟩
    · by_cases hn : p n
      · exact .inl fun i hi => by rcases Nat.lt_or_ge i n with h' | h'; exact h i h'; exact (show i = n by omega) ▸ hn
      · exact .inr ⟨n, by omega, hn, h⟩
    · exact .inr ⟨i, by omega, h2, h3⟩
/-- An append that is broken off: the records are the old ones, or with the new one. -/
theorem Live.torn_append {S S' : Nat → List UInt8} {size h lap at_ : Nat} {recs : List (List UInt8)} {r : List UInt8} (L : Live S size h lap at_ recs) (hlen : ∀ i, i < 2 * size → (S i).length = 64) (hP : at_ + partsN r.length ≤ size)
    (hT : Torn S S' (h * size + at_) (partsN r.length) (secF lap recs.length r)) : openN S' size 2 = (recs, lap, (h : Int)) ∨ openN S' size 2 = (recs ++ [r], lap, (h : Int)) := by
  have hle := half_le (size := size) L.half
  have hpos := L.pos
  have hsm := L.small
  rcases first_bad (p := fun i => S' (h * size + at_ + i) = secF lap recs.length r i) (partsN r.length) with hall | ⟨i0, h1, h2, h3⟩
  · right
    have := L.append (r := r) (S' := S') hP (fun i => by
      by_cases hi : h * size + at_ ≤ i ∧ i < h * size + at_ + partsN r.length
      · rw [if_pos hi]
        have := hall (i - (h * size + at_)) (by omega)
        rwa [show h * size + at_ + (i - (h * size + at_)) = i by omega] at this
      · rw [if_neg hi]; exact hT.out hi)
    exact this.open
  · left
    obtain ⟨c, hc1, hc2, hc3⟩ := hT (h * size + at_ + i0)
    rw [show h * size + at_ + i0 - (h * size + at_) = i0 by omega] at hc2
    have hbad := torn_tail (hlen _ (by omega)) L.lap1 (L.low (h * size + at_ + i0) (by omega) (by omega)) hc1 hc2 h2
    have hno := recF_torn (S := S') (size := size) (base := h * size) h3 h1 hbad L.lap1 (by omega) hP
    obtain ⟨q, l, rfl⟩ : ∃ q l, recs = q :: l := by
      cases recs with
      | nil => exact absurd rfl L.some
      | cons q l => exact ⟨q, l, rfl⟩
    have hch : Chain S' (h * size) lap 0 0 (q :: l) at_ := Chain.agree L.chain (fun i hi => hT.out (by omega))
    have h0 : S' (h * size) = secF lap 0 q 0 := by have := hch.1 0 (partsN_pos _); simpa using this
    have hf : num4 (S' (h * size)) = lap := by rw [h0]; exact secL_num _ _ _ _ _ L.lap1
    refine open_pick (e := at_) L.half L.lap0 (by simp) hf ?_ (halfF_low ?_)
    · unfold halfF
      rw [hf, if_pos L.lap0]
      have := recsF_chain2 (S := S') (size := size) (base := h * size) L.lap1 L.small L.room (q :: l) 0 [] size (by simpa using hno) (by simpa using hch) (by omega)
      simpa using this
    · right
      have hhh := L.half
      have : h = 0 ∨ h = 1 := by omega
      rcases this with rfl | rfl
      · rw [hT.out (by omega)]; exact L.low _ (by omega) (by omega)
      · rw [hT.out (by omega)]; exact L.low _ (by omega) (by omega)
/-- A start that is broken off: the records are the old ones, or the new one alone. -/
theorem Live.torn_start {S S' : Nat → List UInt8} {size h lap at_ : Nat} {recs : List (List UInt8)} {r : List UInt8} (L : Live S size h lap at_ recs) (hlen : ∀ i, i < 2 * size → (S i).length = 64) (hP : partsN r.length ≤ size) (hlap : lap + 1 < 4294967296)
    (hT : Torn S S' ((1 - h) * size) (partsN r.length) (secF (lap + 1) 0 r)) : openN S' size 2 = (recs, lap, (h : Int)) ∨ openN S' size 2 = ([r], lap + 1, ((1 - h : Nat) : Int)) := by
  have hle := half_le (size := size) L.half
  have hle2 := half_le (size := size) (show 1 - h ≤ 1 by omega)
  have hpos := L.pos
  have hhh := L.half
  have hsm := L.small
  have hpp := partsN_pos r.length
  have hroom := L.room
  have htop := L.top
  have hdis : ∀ i, h * size ≤ i → i < h * size + size → ¬ ((1 - h) * size ≤ i ∧ i < (1 - h) * size + partsN r.length) := fun i a b => by
    have : h = 0 ∨ h = 1 := by omega
    rcases this with rfl | rfl <;> omega
  have hlow : ∀ i, i < partsN r.length → num4 ((S ((1 - h) * size + i)).drop 60) < lap := fun i hi => L.low _ (by omega) (by
    have : h = 0 ∨ h = 1 := by omega
    rcases this with rfl | rfl <;> omega)
  rcases first_bad (p := fun i => S' ((1 - h) * size + i) = secF (lap + 1) 0 r i) (partsN r.length) with hall | ⟨i0, h1, h2, h3⟩
  · right
    have := Live.start (S := S) (S' := S') (size := size) (h := 1 - h) (r := r) (by omega) L.small hP (by rw [htop]; omega) (fun i => by
      rw [htop, Nat.add_zero]
      by_cases hi : (1 - h) * size ≤ i ∧ i < (1 - h) * size + partsN r.length
      · rw [if_pos hi]
        have := hall (i - (1 - h) * size) (by omega)
        rwa [show (1 - h) * size + (i - (1 - h) * size) = i by omega] at this
      · rw [if_neg hi]; exact hT.out hi)
    rw [htop] at this
    exact this.open
  · left
    obtain ⟨c, hc1, hc2, hc3⟩ := hT ((1 - h) * size + i0)
    rw [show (1 - h) * size + i0 - (1 - h) * size = i0 by omega] at hc2
    have hl64 := hlen ((1 - h) * size + i0) (by omega)
    have hbad := torn_tail hl64 hlap (by have := hlow i0 h1; omega) hc1 hc2 h2
    obtain ⟨q, l, rfl⟩ : ∃ q l, recs = q :: l := by
      cases recs with
      | nil => exact absurd rfl L.some
      | cons q l => exact ⟨q, l, rfl⟩
    have hch : Chain S' (h * size) lap 0 0 (q :: l) at_ := Chain.agree L.chain (fun i hi => hT.out (hdis _ (by omega) (by omega)))
    obtain ⟨hf, hhalf⟩ := halfF_chain L.lap0 L.lap1 L.small L.room (by
      by_cases he : at_ = size
      · exact .inl he
      · right
        rw [hT.out (hdis _ (by omega) (by omega))]
        have := L.low (h * size + at_) (by omega) (by omega)
        omega) hch
    refine open_pick (e := at_) L.half L.lap0 (by simp) hf hhalf (fun hn => ?_)
    by_cases hz : i0 = 0
    · subst hz
      rw [Nat.add_zero] at hc2 hbad hl64
      -- the first sector: what begins it must end it
      by_cases hlt : num4 ((S' ((1 - h) * size)).drop 60) < lap
      · exact halfF_low (.inr hlt) hn
      · exfalso
        have hc60 : 60 < c := by
          rcases Nat.lt_or_ge 60 c with h' | h'
          · exact h'
          · exfalso
            apply hlt
            have hfl := secF_length (lap + 1) 0 r 0
            have : (S' ((1 - h) * size)).drop 60 = (S ((1 - h) * size)).drop 60 := by
              rw [hc2, List.drop_append, List.drop_eq_nil_of_le (by simp; omega), List.nil_append, List.drop_drop]
              congr 1; simp; omega
            rw [this]
            have := hlow 0 (by omega)
            simpa using this
        have hfront : num4 (S' ((1 - h) * size)) = lap + 1 := by
          have hfl := secF_length (lap + 1) 0 r 0
          have e4 : ∀ (l m : List UInt8), l.take 4 = m.take 4 → num4 l = num4 m := fun l m e => by
            have : ∀ k, k < 4 → l.getD k 0 = m.getD k 0 := fun k hk => by
              have h1 : (l.take 4)[k]? = l[k]? := by rw [List.getElem?_take, if_pos hk]
              have h2 : (m.take 4)[k]? = m[k]? := by rw [List.getElem?_take, if_pos hk]
              rw [List.getD_eq_getElem?_getD, List.getD_eq_getElem?_getD, ← h1, ← h2, e]
            unfold num4
            rw [this 0 (by omega), this 1 (by omega), this 2 (by omega), this 3 (by omega)]
          rw [e4 (S' ((1 - h) * size)) (secF (lap + 1) 0 r 0) (by rw [hc2, List.take_append_of_le_length (by simp [hfl]; omega), List.take_take, Nat.min_eq_left (by omega)])]
          exact secL_num _ _ _ _ _ hlap
        -- then the record is not found
        have hno : recF S' size ((1 - h) * size) (lap + 1) 0 (size - 0 + 1) 0 1 1 [] = none := recF_torn (S := S') (size := size) (base := (1 - h) * size) (at_ := 0) (i0 := 0) (by omega) h1 (by simpa using hbad) hlap (by omega) (by omega)
        unfold halfF at hn
        rw [hfront, if_pos (by omega)] at hn
        cases size with
        | zero => simp [recsF] at hn
        | succ f =>
          have hno' : recF S' (f + 1) ((1 - h) * (f + 1)) (lap + 1) ([] : List (List UInt8)).length (f + 1 - 0 + 1) 0 1 1 [] = none := hno
          simp only [recsF, hno'] at hn
          simp at hn
    · exfalso
      have h00 : S' ((1 - h) * size) = secF (lap + 1) 0 r 0 := by have := h3 0 (by omega); simpa using this
      have hfront : num4 (S' ((1 - h) * size)) = lap + 1 := by rw [h00]; exact secL_num _ _ _ _ _ hlap
      have hno : recF S' size ((1 - h) * size) (lap + 1) 0 (size - 0 + 1) 0 1 1 [] = none := recF_torn (S := S') (size := size) (base := (1 - h) * size) (at_ := 0) (i0 := i0) (fun i hi => by simpa using h3 i hi) h1 (by simpa using hbad) hlap (by omega) (by omega)
      unfold halfF at hn
      rw [hfront, if_pos (by omega)] at hn
      cases size with
      | zero => simp [recsF] at hn
      | succ f =>
        have hno' : recF S' (f + 1) ((1 - h) * (f + 1)) (lap + 1) ([] : List (List UInt8)).length (f + 1 - 0 + 1) 0 1 1 [] = none := hno
        simp only [recsF, hno'] at hn
        simp at hn
end Go.Proofs.Ytepeljbgekgjcaa
/- Layer 24, the plain law of ControlLasts: what is kept, behind whatever crash. Conditions: few operations. -/
set_option maxHeartbeats 8000000
set_option linter.unusedVariables false
set_option linter.unusedSimpArgs false
set_option maxRecDepth 100000
namespace Go.Proofs.Ytepeljbgekgjcaa
open Go Go.Sl
attribute [local irreducible] Go.Sl.Wl Go.Sl.Wc Go.Sl.thenQ Go.Sl.blkQ Go.Sl.loopQ Go.Sl.Fspec

/-- A journal on a calm disk that has these records. -/
structure JR (n k : Nat) (recs : List (List UInt8)) (J : Jn) (D : Dk) : Prop where
  calm : Calm n ((k * (n + 1) : Nat) : Int) D
  size : J.size = n / 2
  over : J.over = false
  started : J.started = true
  live : ∃ hf : Nat, J.half = (hf : Int) ∧ Live D.seen J.size hf J.lap J.at_ recs
  lap : J.lap ≤ 300 * k
  num : J.number = recs.length ∧ J.number ≤ k
theorem JR.jk {n k : Nat} {recs : List (List UInt8)} {J : Jn} {D : Dk} (h : JR n k recs J D) : JK n k J D := by
  obtain ⟨hf, h1, h2⟩ := h.live
  exact ⟨h.calm, h.size, h.over, h.started, ⟨hf, recs, h1, h2, h.num.1⟩, h.lap, h.num.2⟩
/-- A tail whose first bytes are of another number. -/
theorem mix_tail {x y m : Nat} (hx : x < 65536) (hy : y < 65536) (hm : m ≤ 4) : num4 ((be4 y).take m ++ (be4 x).drop m) ≤ max x (y + 255) := by
  have e : ∀ z, z < 65536 → be z 3 = 0 ∧ be z 2 = 0 := fun z hz => by
    constructor <;> (apply UInt8.toNat_inj.1; rw [be_toNat]; show _ = 0; omega)
  obtain ⟨x3, x2⟩ := e x hx
  obtain ⟨y3, y2⟩ := e y hy
  have hx4 := be4_num x (by omega)
  have hy4 := be4_num y (by omega)
  have : m = 0 ∨ m = 1 ∨ m = 2 ∨ m = 3 ∨ m = 4 := by omega
  rcases this with rfl | rfl | rfl | rfl | rfl
  · have : (be4 y).take 0 ++ (be4 x).drop 0 = be4 x := rfl
    rw [this, hx4]; omega
  · have : (be4 y).take 1 ++ (be4 x).drop 1 = be4 x := by simp [be4, x3, y3]
    rw [this, hx4]; omega
  · have : (be4 y).take 2 ++ (be4 x).drop 2 = be4 x := by simp [be4, x3, y3, x2, y2]
    rw [this, hx4]; omega
  · have : (be4 y).take 3 ++ (be4 x).drop 3 = [be y 3, be y 2, be y 1, be x 0] := rfl
    rw [this, y3, y2]
    have h1 := be_toNat y 1; have h0 := be_toNat x 0
    have : num4 [0, 0, be y 1, be x 0] = 256 * (be y 1).toNat + (be x 0).toNat := by simp [num4]
    rw [this, h1, h0]; omega
  · have : (be4 y).take 4 ++ (be4 x).drop 4 = be4 y := rfl
    rw [this, hy4]; omega
theorem torn_top {S S' : Nat → List UInt8} {base P N lap lap' k : Nat} {r : List UInt8} (hlen : ∀ i, i < N → (S i).length = 64) (hlow : ∀ i, i < N → num4 ((S i).drop 60) ≤ lap) (hl : lap ≤ lap') (hlap : lap' < 65000) (hT : Torn S S' base P (secF lap' k r)) :
    topN S' N ≤ lap' + 255 := by
  refine topN_le S' (lap' + 255) N (fun i hi => ?_)
  obtain ⟨c, hc1, hc2, hc3⟩ := hT i
  have hsl := hlen i hi
  have hlo := hlow i hi
  have hfl := secF_length lap' k r (i - base)
  have hch := chunk_length r (i - base)
  have hft : (secF lap' k r (i - base)).drop 60 = be4 lap' := secL_drop60 _ _ _ _ _ (by omega)
  by_cases hc60 : c ≤ 60
  · have : (S' i).drop 60 = (S i).drop 60 := by
      rw [hc2, List.drop_append, List.drop_eq_nil_of_le (by simp; omega), List.nil_append, List.drop_drop]
      congr 1; simp; omega
    rw [this]; omega
  · have e1 : (S' i).drop 60 = (be4 lap').take (c - 60) ++ ((S i).drop 60).drop (c - 60) := by
      rw [hc2, List.drop_append_of_le_length (by simp; omega), List.drop_take, hft, List.drop_drop]
      congr 2; omega
    have e2 : (S i).drop 60 = be4 (num4 ((S i).drop 60)) := (be4_of _ (by simp [hsl])).symm
    rw [e1, e2]
    have := mix_tail (x := num4 ((S i).drop 60)) (y := lap') (m := c - 60) (by omega) (by omega) (by omega)
    omega
/-- What is found behind a crash. -/
structure Found (n k : Nat) (D : Dk) (recs : List (List UInt8)) (lap : Nat) (half : Int) : Prop where
  calm : Calm n ((k * (n + 1) : Nat) : Int) D
  op : openN D.seen (n / 2) 2 = (recs, lap, half)
  half : half = 0 ∨ half = 1
  top : topN D.seen (2 * (n / 2)) + 1 ≤ 300 * k
  few : recs.length ≤ k
theorem calm_done {n k P : Nat} {D X : Dk} (hn : n ≤ 4096) (hP : P ≤ n) (hD : D.steps ≤ ((k * (n + 1) : Nat) : Int)) (h1 : X.ok n) (h2 : X.down = false) (h3 : X.pend = []) (h4 : X.steps ≤ D.steps + P + 1) : Calm n (((k + 1) * (n + 1) : Nat) : Int) (X.fused (-1)) := by
  have e1 : (k + 1) * (n + 1) = k * (n + 1) + n + 1 := by rw [Nat.add_mul]; omega
  have hs := h1.steps
  exact ⟨⟨h1.len, h1.pend, h1.few, by simp [Dk.fused], h1.steps, h1.n⟩, h2, by simp [Dk.fused], h3, by show X.steps ≤ _; omega⟩
theorem calm_crash {f : Nat → List UInt8} {n k P j base : Nat} {D : Dk} {fu st : Int} (ch : List UInt8) (hD : D.ok n) (hP : P ≤ n) (hst : D.steps ≤ ((k * (n + 1) : Nat) : Int)) (h0 : 0 ≤ st) (h1 : st ≤ D.steps + P) (hb : k * (n + 1) ≤ 4097000) (hf : ∀ i, (f i).length = 64) (hj : base + j ≤ n) :
    Calm n (((k + 1) * (n + 1) : Nat) : Int) ((⟨D.kept, pendN f base j, fu, true, st⟩ : Dk).crash ch) := by
  have e1 : (k + 1) * (n + 1) = k * (n + 1) + n + 1 := by rw [Nat.add_mul]; omega
  have hn := hD.n
  exact ⟨⟨crashF_length n ch D.kept hD.len (pendN f base j) (pendN_ok (n := n) hf hj), by simp [Dk.crash], by simp [Dk.crash], by simp [Dk.crash], ⟨by simp only [Dk.crash]; omega, by simp only [Dk.crash]; omega⟩, hD.n⟩, rfl, rfl, rfl, by show st ≤ _; omega⟩
theorem torn_ok {f : Nat → List UInt8} {n k P j base : Nat} {D : Dk} {fu st : Int} (hD : D.ok n) (hP : P ≤ n) (hst : D.steps ≤ ((k * (n + 1) : Nat) : Int)) (g1 : -1 ≤ fu) (g2 : fu ≤ 9223372036854775807) (h0 : 0 ≤ st) (h1 : st ≤ D.steps + P) (hb : k * (n + 1) ≤ 4097000) (hf : ∀ i, (f i).length = 64) (hj : base + j ≤ n) :
    (⟨D.kept, pendN f base j, fu, true, st⟩ : Dk).ok n := by
  have hn := hD.n
  exact ⟨hD.len, pendN_ok hf hj, by show (pendN f base j).length ≤ 1000000; rw [pendN_len]; omega, ⟨g1, g2⟩, ⟨h0, by show st ≤ _; omega⟩, hn⟩
/-- A put, with or without power to its end. -/
theorem JR.put {n k : Nat} {recs : List (List UInt8)} {J : Jn} {D : Dk} (h : JR n k recs J D) (h32 : 32 ≤ n) (hk : k ≤ 200) (F : Int) (hF : F ≤ 9223372036854775807) (rc : List UInt8) (hr : rc.length ≤ 606) :
    ((putV J (D.fused F) rc).1 = 0 ∧ ∃ recs', recs'.getLast? = some rc ∧ JR n (k + 1) recs' (putV J (D.fused F) rc).2.1 ((putV J (D.fused F) rc).2.2.fused (-1))) ∨
    ((putV J (D.fused F) rc).1 = 7 ∧ (putV J (D.fused F) rc).2.2.ok n ∧ ∀ ch, ∃ recs' lap half, Found n (k + 1) ((putV J (D.fused F) rc).2.2.crash ch) recs' lap half ∧ recs' ≠ [] ∧ (recs'.getLast? = recs.getLast? ∨ recs'.getLast? = some rc)) := by
  obtain ⟨hf, h1, h2⟩ := h.live
  have hn := h.calm.ok.n
  have hb := JK.bound hn.2 (show k ≤ 1000 by omega)
  have hp := parts_few hr
  have hsz := h.size
  have hstep := h.calm.steps
  have hst0 := h.calm.ok.steps
  have hlp := h.lap
  have hnum := h.num
  have htop := h2.top
  have hhh := h2.half
  have hroom := h2.room
  have hle := half_le (size := J.size) h2.half
  have hD1 : (D.fused F).ok n := ⟨h.calm.ok.len, h.calm.ok.pend, h.calm.ok.few, by simp only [Dk.fused]; omega, h.calm.ok.steps, h.calm.ok.n⟩
  have hdn : (D.fused F).down = false := h.calm.down
  have hpe : (D.fused F).pend = [] := h.calm.pend
  have hseen : (D.fused F).seen = D.seen := rfl
  have hsec : D.seen = sec D.kept := by funext i; simp [Dk.seen, h.calm.pend, sec]
  have hlen : ∀ i, i < 2 * J.size → (D.seen i).length = 64 := fun i hi => h.calm.len i (by omega)
  have hlow : ∀ i, i < 2 * J.size → num4 ((D.seen i).drop 60) ≤ J.lap := fun i hi => by have := topN_ge D.seen (2 * J.size) i hi; omega
  unfold putV
  by_cases hc : J.size - J.at_ < partsN rc.length
  · rw [if_pos hc]
    unfold startV
    rw [hseen, htop, if_neg (by omega)]
    have hh' : (if J.half = 0 then 1 else 0) = 1 - hf := by
      have : hf = 0 ∨ hf = 1 := by omega
      rcases this with rfl | rfl
      · rw [if_pos (by omega)]
      · rw [if_neg (by omega)]
    have hh'I : (if J.half = 0 then 1 else 0 : Int) = ((1 - hf : Nat) : Int) := by
      have : hf = 0 ∨ hf = 1 := by omega
      rcases this with rfl | rfl
      · rw [if_pos (by omega)]; rfl
      · rw [if_neg (by omega)]; rfl
    rw [hh']
    simp only [Nat.add_zero]
    have hle2 := half_le (size := J.size) (show 1 - hf ≤ 1 by omega)
    rcases putD_some (f := secF (J.lap + 1) 0 rc) (base := (1 - hf) * J.size) (k := partsN rc.length) hD1 hdn hpe (secF_length _ _ _) (by omega) (by show D.steps + _ ≤ _; omega) (by omega) with ⟨e1, e2, e3, e4, e5, e6⟩ | ⟨e1, j, fu, st, e2, e3, e4, e5, e6, e7⟩
    · left
      rw [if_pos e1]
      refine ⟨rfl, [rc], rfl, ?_⟩
      have hL : Live ((putD (secF (J.lap + 1) 0 rc) ((1 - hf) * J.size) (D.fused F) (partsN rc.length)).1).seen J.size (1 - hf) (J.lap + 1) (partsN rc.length) [rc] := by
        have := Live.start (S := D.seen) (S' := ((putD (secF (J.lap + 1) 0 rc) ((1 - hf) * J.size) (D.fused F) (partsN rc.length)).1).seen) (size := J.size) (h := 1 - hf) (r := rc) (by omega) h2.small (by omega) (by rw [htop]; omega) (fun i => by rw [htop, Nat.add_zero, e6 i]; rfl)
        rwa [htop] at this
      exact ⟨calm_done (D := D.fused F) hn.2 (by omega) hstep e2 e3 e4 e5, hsz, h.over, rfl, ⟨1 - hf, hh'I, hL⟩, by show J.lap + 1 ≤ 300 * (k + 1); omega, rfl, by show 1 ≤ k + 1; omega⟩
    · right
      rw [if_neg (by rw [e1]; simp)]
      refine ⟨rfl, by rw [e7]; exact torn_ok (D := D.fused F) hD1 (by omega) hstep e3 e4 e5 e6 hb (secF_length _ _ _) (by omega), fun ch => ?_⟩
      rw [e7]
      have hT := (crash_torn (n := n) (base := (1 - hf) * J.size) (f := secF (J.lap + 1) 0 rc) (kept := D.kept) ch h.calm.ok.len (secF_length _ _ _) j (by omega)).mono e2
      have hS' : ((⟨(D.fused F).kept, pendN (secF (J.lap + 1) 0 rc) ((1 - hf) * J.size) j, fu, true, st⟩ : Dk).crash ch).seen = sec (crashF ch D.kept (pendN (secF (J.lap + 1) 0 rc) ((1 - hf) * J.size) j)) := by
        funext i; simp [Dk.seen, Dk.crash, sec, Dk.fused]
      rw [← hsec] at hT
      have hcalm := calm_crash (f := secF (J.lap + 1) 0 rc) (base := (1 - hf) * J.size) (fu := fu) ch h.calm.ok (show partsN rc.length ≤ n by omega) hstep e5 e6 hb (secF_length _ _ _) (show (1 - hf) * J.size + j ≤ n by omega)
      have htt := torn_top hlen hlow (show J.lap ≤ J.lap + 1 by omega) (by omega) hT
      have hO := h2.torn_start hlen (by omega) (by omega) hT
      rcases hO with hO | hO
      · exact ⟨recs, J.lap, (hf : Int), ⟨hcalm, by rw [hS', ← hsz]; exact hO, by omega, by rw [hS', ← hsz]; omega, by omega⟩, h2.some, .inl rfl⟩
      · exact ⟨[rc], J.lap + 1, ((1 - hf : Nat) : Int), ⟨hcalm, by rw [hS', ← hsz]; exact hO, by omega, by rw [hS', ← hsz]; omega, by simp⟩, by simp, .inr rfl⟩
  · rw [if_neg hc, show J.half.toNat = hf by omega]
    unfold appendV
    rw [if_neg hc, hnum.1]
    rcases putD_some (f := secF J.lap recs.length rc) (base := hf * J.size + J.at_) (k := partsN rc.length) hD1 hdn hpe (secF_length _ _ _) (by omega) (by show D.steps + _ ≤ _; omega) (by omega) with ⟨e1, e2, e3, e4, e5, e6⟩ | ⟨e1, j, fu, st, e2, e3, e4, e5, e6, e7⟩
    · left
      rw [if_pos e1]
      refine ⟨rfl, recs ++ [rc], by simp, ?_⟩
      have hL := h2.append (r := rc) (S' := ((putD (secF J.lap recs.length rc) (hf * J.size + J.at_) (D.fused F) (partsN rc.length)).1).seen) (by omega) (fun i => by rw [e6 i]; rfl)
      exact ⟨calm_done (D := D.fused F) hn.2 (by omega) hstep e2 e3 e4 e5, hsz, h.over, h.started, ⟨hf, h1, hL⟩, by show J.lap ≤ 300 * (k + 1); omega, by show recs.length + 1 = (recs ++ [rc]).length; simp, by show recs.length + 1 ≤ k + 1; omega⟩
    · right
      rw [if_neg (by rw [e1]; simp)]
      refine ⟨rfl, by rw [e7]; exact torn_ok (D := D.fused F) hD1 (show partsN rc.length ≤ n by omega) hstep e3 e4 e5 e6 hb (secF_length _ _ _) (by omega), fun ch => ?_⟩
      rw [e7]
      have hT := (crash_torn (n := n) (base := hf * J.size + J.at_) (f := secF J.lap recs.length rc) (kept := D.kept) ch h.calm.ok.len (secF_length _ _ _) j (by omega)).mono e2
      have hS' : ((⟨(D.fused F).kept, pendN (secF J.lap recs.length rc) (hf * J.size + J.at_) j, fu, true, st⟩ : Dk).crash ch).seen = sec (crashF ch D.kept (pendN (secF J.lap recs.length rc) (hf * J.size + J.at_) j)) := by
        funext i; simp [Dk.seen, Dk.crash, sec, Dk.fused]
      rw [← hsec] at hT
      have hcalm := calm_crash (f := secF J.lap recs.length rc) (base := hf * J.size + J.at_) (fu := fu) ch h.calm.ok (show partsN rc.length ≤ n by omega) hstep e5 e6 hb (secF_length _ _ _) (show hf * J.size + J.at_ + j ≤ n by omega)
      have htt := torn_top hlen hlow (Nat.le_refl J.lap) (by omega) hT
      have hO := h2.torn_append hlen (by omega) hT
      rcases hO with hO | hO
      · exact ⟨recs, J.lap, (hf : Int), ⟨hcalm, by rw [hS', ← hsz]; exact hO, by omega, by rw [hS', ← hsz]; omega, by omega⟩, h2.some, .inl rfl⟩
      · exact ⟨recs ++ [rc], J.lap, (hf : Int), ⟨hcalm, by rw [hS', ← hsz]; exact hO, by omega, by rw [hS', ← hsz]; omega, by simp; omega⟩, by simp, .inr (by simp)⟩
/-- Behind a crash the next Start goes through. -/
theorem Found.start {n k : Nat} {D : Dk} {recs : List (List UInt8)} {lap : Nat} {half : Int} (h : Found n k D recs lap half) (h32 : 32 ≤ n) (hk : k ≤ 201) (rc : List UInt8) (hr : rc.length ≤ 606) :
    ∃ J' D', startV ⟨n / 2, half, 0, 0, 0, false, false⟩ D rc = (0, J', D') ∧ JR n (k + 1) [rc] J' D' := by
  have hn := h.calm.ok.n
  have hb := JK.bound hn.2 (show k ≤ 1000 by omega)
  have hp := parts_few hr
  have htop := h.top
  have e1 : (k + 1) * (n + 1) = k * (n + 1) + n + 1 := by rw [Nat.add_mul]; omega
  obtain ⟨h', hh'⟩ : ∃ h' : Nat, (if half = 0 then 1 else 0) = h' := ⟨_, rfl⟩
  have hh1 : h' ≤ 1 := by rw [← hh']; split <;> omega
  obtain ⟨D', hS, hcl, hseen⟩ := start_calm (J := ⟨n / 2, half, 0, 0, 0, false, false⟩) (h := h') h.calm rfl hh' rc (by show partsN rc.length ≤ n / 2; omega) (by show topN D.seen (2 * (n / 2)) + 1 ≤ _; omega) (by omega)
  have hL : Live D'.seen (n / 2) h' (topN D.seen (2 * (n / 2)) + 1) (partsN rc.length) [rc] :=
    Live.start hh1 (by omega) (by omega) (by omega) (fun i => by rw [hseen]; unfold updS; simp only [Nat.add_zero])
  exact ⟨_, D', hS, ⟨hcl.mono (by omega), rfl, rfl, rfl, ⟨h', rfl, hL⟩, by show topN D.seen (2 * (n / 2)) + 1 ≤ 300 * (k + 1); omega, rfl, by show 1 ≤ k + 1; omega⟩⟩
/-- A controller that is up, whose last record is what it keeps. -/
structure CR (n k : Nat) (C : Ct) (J : Jn) (D : Dk) : Prop where
  ok : C.ok
  up : C.over = false
  jr : ∃ recs, recs.getLast? = some (encK C.table (C.kind : Int) (C.target : Int)) ∧ JR n k recs J D
/-- What may be found behind a crash: the old or the new. -/
def Either (n k : Nat) (D : Dk) (C : Ct) (t : List Ep) (kind target : Nat) : Prop :=
  D.ok n ∧ ∀ ch, ∃ recs lap half, Found n k (D.crash ch) recs lap half ∧ (recs.getLast? = some (encK C.table (C.kind : Int) (C.target : Int)) ∨ recs.getLast? = some (encK t (kind : Int) (target : Int)))
theorem CR.keep {n k : Nat} {C : Ct} {J : Jn} {D : Dk} (h : CR n k C J D) (h32 : 32 ≤ n) (hk : k ≤ 200) (F : Int) (hF : F ≤ 9223372036854775807) (t : List Ep) (kind target : Nat) (hrt : rightT t = true) (hkd : kind ≤ 4) (htg : target ≤ 4) :
    (keepV C J (D.fused F) t kind target = (0, C.kept 0 t kind target, (keepV C J (D.fused F) t kind target).2.2) ∧ ∃ recs, recs.getLast? = some (encK t (kind : Int) (target : Int)) ∧ JR n (k + 1) recs (keepV C J (D.fused F) t kind target).2.2.1 ((keepV C J (D.fused F) t kind target).2.2.2.fused (-1))) ∨
    (keepV C J (D.fused F) t kind target = (7, { C with over := true }, (keepV C J (D.fused F) t kind target).2.2) ∧ Either n (k + 1) (keepV C J (D.fused F) t kind target).2.2.2 C t kind target) := by
  obtain ⟨recs, hlast, hj⟩ := h.jr
  rcases hj.put h32 hk F hF (encK t (kind : Int) (target : Int)) (enc_few hrt hkd htg) with ⟨e1, recs', e2, e3⟩ | ⟨e1, e2⟩
  · left
    refine ⟨?_, recs', e2, e3⟩
    unfold keepV; rw [e1]
  · right
    refine ⟨?_, e2.1, fun ch => ?_⟩
    · unfold keepV; rw [e1]; simp [Ct.kept]
    · obtain ⟨recs', lap, half, f1, f2, f3⟩ := e2.2 ch
      refine ⟨recs', lap, half, f1, ?_⟩
      rcases f3 with f3 | f3
      · exact .inl (by rw [f3]; exact hlast)
      · exact .inr f3
end Go.Proofs.Ytepeljbgekgjcaa
/- Package pack: the Reader, over bytes that a Writer wrote. Conditions: what is read is there. -/
set_option maxHeartbeats 8000000
set_option linter.unusedVariables false
set_option linter.unusedSimpArgs false
set_option maxRecDepth 100000
namespace Go.Proofs.Ytepeljbgekgjcaa
open Go Go.Sl
attribute [local irreducible] Go.Sl.Wl Go.Sl.Wc Go.Sl.thenQ Go.Sl.blkQ Go.Sl.loopQ Go.Sl.Fspec

theorem rds_sub {P : Program} {B : Base} {X : Asn} {A M : List Asn} {sz m c : Nat} {a : Option Addr} {vs : List Value} (h : RdS P B [X] sz a m c vs) (ho : Out X A M) : RdS P B A sz a m c vs :=
  ⟨h.len, h.nil, h.cap, h.src.weak fun w hs => (hs.perm ho.perm).ent (Ent.nil.cons X)⟩
/-- A Reader with so many bytes before it, which lie in 'X'. -/
def RdrP (B : Base) (X : Asn) (p : Nat) (l : List UInt8) (bad : Bool) : Asn :=
  exN fun x : { x : Option Addr × Nat // RdS Try.prog B [X] 1 x.1 l.length x.2 (l.map byteV) } => [cb p [.slice x.1.1 l.length x.1.2, .bool bad] 132]
theorem fold_rdr {B : Base} {X : Asn} {p : Nat} {l : List UInt8} {bad : Bool} {a : Option Addr} {c : Nat} {Y A0 : List Asn} (hr : RdS Try.prog B [X] 1 a l.length c (l.map byteV)) (h : Ent Y (cb p [.slice a l.length c, .bool bad] 132 :: A0)) : Ent Y (RdrP B X p l bad :: A0) :=
  h.trans (Ent.exN_shut (f := fun x : { x : Option Addr × Nat // RdS Try.prog B [X] 1 x.1 l.length x.2 (l.map byteV) } => [cb p [.slice x.1.1 l.length x.1.2, .bool bad] 132]) ⟨(a, c), hr⟩ A0)
theorem and127F : ∀ k : Fin 256, bitV .and .u8 ((k.val : Nat) : Int) 127 = ((k.val % 128 : Nat) : Int) := by decide +kernel
theorem and127 (b : UInt8) : bitV .and .u8 (b.toNat : Int) 127 = ((b.toNat % 128 : Nat) : Int) := and127F ⟨b.toNat, b.toNat_lt⟩
theorem big_byte (n : Nat) : (UInt8.ofNat (n % 128 + 128)).toNat = n % 128 + 128 := by simp [UInt8.toNat_ofNat']; omega
theorem small_byte (n : Nat) (h : n < 128) : (UInt8.ofNat n).toNat = n := by simp [UInt8.toNat_ofNat']; omega
theorem encN_few (n : Nat) (h : n ≤ 9007199254740992) : (encN n).length ≤ 9 := by
  have step : ∀ (k m : Nat), m < 128 ^ (k + 1) → (encN m).length ≤ k + 1 := by
    intro k
    induction k with
    | zero => intro m hm; rw [encN_small (by simpa using hm)]; simp
    | succ k ih =>
      intro m hm
      by_cases h1 : m < 128
      · rw [encN_small h1]; simp
      · rw [encN_big (by omega), List.length_cons]
        have := ih (m / 128) (by rw [Nat.pow_succ] at hm; exact Nat.div_lt_of_lt_mul (by rw [Nat.mul_comm]; exact hm))
        omega
  exact step 8 n (by have : (128 : Nat) ^ (8 + 1) = 9223372036854775808 := by decide
                     omega)
section specs
variable {B : Base}
theorem next_ok (X : Asn) (p : Nat) (b : UInt8) (l : List UInt8) (hl : l.length ≤ 1000000000) :
    Fspec Try.prog B 50 #[.pointer (some ⟨p, 0, none⟩)] [RdrP B X p (b :: l) false, X] (fun v A' => v = .tuple #[.int .u8 b.toNat, .bool true] ∧ A' = [RdrP B X p l false, X]) := by
  refine spec_of (args := [_]) Try.func50 rfl rfl rfl ?_
  refine Wc_exN (fun x => ?_)
  obtain ⟨⟨a, c⟩, hr⟩ := x
  simp only at hr ⊢
  simp only [List.cons_append, List.nil_append]
  obtain ⟨q, rfl⟩ : ∃ q, a = some q := by
    cases a with
    | none => have := hr.nil rfl; simp at this
    | some q => exact ⟨q, rfl⟩
  have hcap := hr.cap
  simp only [List.length_cons] at hcap
  have hcut := hr.cut (l := 1) (h := (b :: l).length) (by simp) (Nat.le_refl _)
  have e1 : (((b :: l).map byteV).drop (1 * 1)).take (((b :: l).length - 1) * 1) = l.map byteV := by
    simp only [List.map_cons, Nat.one_mul, List.drop_succ_cons, List.drop_zero, Nat.mul_one]
    exact List.take_of_length_le (by simp)
  have e2 : (b :: l).length - 1 = l.length := by simp
  rw [e1, e2] at hcut
  repeat' (first
    | refine Wc_seq ?_
    | refine thenQ_normal ?_
    | refine Wc_cond_t (h := ?_)
    | refine Wc_cond_f (h := ?_)
    | refine Wc_ret ?_
    | refine thenQ_ret ?_
    | refine Wc_block ?_
    | refine blkQ_normal ?_
    | refine blkQ_ret ?_
    | refine Wc_exit ?_
    | refine thenQ_exit ?_
    | refine blkQ_hit ?_
    | refine blkQ_miss rfl ?_
    | refine Wc_skip ?_
    | refine Wc_label ?_
    | refine loopQ_exit ?_
    | refine loopQ_ret ?_
    | refine loopQ_normal ?_
    | (refine Wc_region (id := 0) ?_; intro K hK; refine Wl_assign (k := ?_); refine Wl_assign (k := ?_); (refine Wl_nil (hK _ _ ?_); clear hK K))
    | (refine Wc_region (id := 1) ?_; intro K hK; refine Wl_move (k := ?_); refine Wl_nilCheck (k := ?_); refine Wl_fieldAddr (k := ?_); refine Wl_load (k := ?_); refine Wl_move (k := ?_); ((first | (refine Wl_guard (k := ?_); refine Wl_move (k := ?_)) | refine Wl_gno (k := ?_) | ((refine Wl_split (yes := (fun ht => ?_)) (no := (fun ht => ?_)) <;> (try simp at ht) <;> (try (exfalso; omega))) <;> (first | (refine Wl_guard (k := ?_); refine Wl_move (k := ?_)) | refine Wl_gno (k := ?_))))) <;> (((first | (refine Wl_guard (k := ?_); refine Wl_nilCheck (k := ?_)) | refine Wl_gno (k := ?_) | ((refine Wl_split (yes := (fun ht => ?_)) (no := (fun ht => ?_)) <;> (try simp at ht) <;> (try (exfalso; omega))) <;> (first | (refine Wl_guard (k := ?_); refine Wl_nilCheck (k := ?_)) | refine Wl_gno (k := ?_))))) <;> (((first | (refine Wl_guard (k := ?_); refine Wl_fieldAddr (k := ?_)) | refine Wl_gno (k := ?_) | ((refine Wl_split (yes := (fun ht => ?_)) (no := (fun ht => ?_)) <;> (try simp at ht) <;> (try (exfalso; omega))) <;> (first | (refine Wl_guard (k := ?_); refine Wl_fieldAddr (k := ?_)) | refine Wl_gno (k := ?_))))) <;> (((first | (refine Wl_guard (k := ?_); refine Wl_load (k := ?_)) | refine Wl_gno (k := ?_) | ((refine Wl_split (yes := (fun ht => ?_)) (no := (fun ht => ?_)) <;> (try simp at ht) <;> (try (exfalso; omega))) <;> (first | (refine Wl_guard (k := ?_); refine Wl_load (k := ?_)) | refine Wl_gno (k := ?_))))) <;> (((first | (refine Wl_guard (k := ?_); refine Wl_len_sl (k' := ?_)) | refine Wl_gno (k := ?_) | ((refine Wl_split (yes := (fun ht => ?_)) (no := (fun ht => ?_)) <;> (try simp at ht) <;> (try (exfalso; omega))) <;> (first | (refine Wl_guard (k := ?_); refine Wl_len_sl (k' := ?_)) | refine Wl_gno (k := ?_))))) <;> (((first | (refine Wl_guard (k := ?_); refine Wl_eql (k' := ?_)) | refine Wl_gno (k := ?_) | ((refine Wl_split (yes := (fun ht => ?_)) (no := (fun ht => ?_)) <;> (try simp at ht) <;> (try (exfalso; omega))) <;> (first | (refine Wl_guard (k := ?_); refine Wl_eql (k' := ?_)) | refine Wl_gno (k := ?_))))) <;> ((first | refine Wl_pick_t (k := ?_) | refine Wl_pick_f (k := ?_) | refine Wl_pick (k := ?_)); (refine Wl_nil (hK _ _ ?_); clear hK K))))))))
    | (refine Wc_region (id := 4) ?_; intro K hK; refine Wl_move (k := ?_); refine Wl_nilCheck (k := ?_); refine Wl_fieldAddr (k := ?_); refine Wl_load (k := ?_); ((refine Wl_index_any (hl := by simp) (k' := ?_))) <;> (((refine Wl_loadG (v := byteV b) (j := 0) (hq := rfl) (hr := rds_sub hr (by (repeat (first | exact Out.head | apply Out.tail)); (first | done | fail))) (hv := rfl) (k := ?_))) <;> (refine Wl_assign (k := ?_); (refine Wl_nil (hK _ _ ?_); clear hK K))))
    | (refine Wc_region (id := 5) ?_; intro K hK; refine Wl_move (k := ?_); refine Wl_move (k := ?_); refine Wl_nilCheck (k := ?_); refine Wl_fieldAddr (k := ?_); refine Wl_load (k := ?_); ((refine Wl_slice_any (l := 1) (h := (b :: l).length) (hlo := ⟨_, rfl⟩) (hlh := by simp) (hhc := by simpa using hcap) (k' := ?_); rw [e2])) <;> (refine Wl_nilCheck (k := ?_); refine Wl_fieldAddr (k := ?_); refine Wl_store (ho := rfl) (k := ?_); (refine Wl_nil (hK _ _ ?_); clear hK K)))
    | (refine Wc_region (id := 6) ?_; intro K hK; refine Wl_move (k := ?_); refine Wl_assign (k := ?_); refine Wl_assign (k := ?_); (refine Wl_nil (hK _ _ ?_); clear hK K))
    | (refine Wc_cond (ht := (fun ht => ?_)) (hf := (fun ht => ?_)) <;> (try simp at ht) <;> (try (exfalso; omega))))
  refine ⟨Or.inr rfl, _, [RdrP B X p l false, X], ?_, res2 rfl rfl rfl, rfl, rfl⟩
  exact fold_rdr hcut (Ent.refl _)
/-- A number that is there is read. -/
theorem number_ok (X : Asn) (p n : Nat) (l : List UInt8) (hn : n ≤ 9007199254740992) (hl : l.length ≤ 100000000) :
    Fspec Try.prog B 49 #[.pointer (some ⟨p, 0, none⟩)] [RdrP B X p (encN n ++ l) false, X] (fun v A' => v = .int .i64 n ∧ A' = [RdrP B X p l false, X]) := by
  refine spec_of (args := [_]) Try.func49 rfl rfl rfl ?_
  repeat' (first
    | refine Wc_seq ?_
    | refine thenQ_normal ?_
    | refine Wc_cond_t (h := ?_)
    | refine Wc_cond_f (h := ?_)
    | refine Wc_ret ?_
    | refine thenQ_ret ?_
    | refine Wc_block ?_
    | refine blkQ_normal ?_
    | refine blkQ_ret ?_
    | refine Wc_exit ?_
    | refine thenQ_exit ?_
    | refine blkQ_hit ?_
    | refine blkQ_miss rfl ?_
    | refine Wc_skip ?_
    | refine Wc_label ?_
    | refine loopQ_exit ?_
    | refine loopQ_ret ?_
    | refine loopQ_normal ?_
    | (refine Wc_region (id := 0) ?_; intro K hK; refine Wl_assign (k := ?_); (refine Wl_nil (hK _ _ ?_); clear hK K))
    | (refine Wc_region (id := 1) ?_; intro K hK; refine Wl_assign (k := ?_); refine Wl_assign (k := ?_); (refine Wl_nil (hK _ _ ?_); clear hK K))
    | (refine Wc_region (id := 2) ?_; intro K hK; refine Wl_assign (k := ?_); (refine Wl_nil (hK _ _ ?_); clear hK K))
    | (refine Wc_cond (ht := (fun ht => ?_)) (hf := (fun ht => ?_)) <;> (try simp at ht) <;> (try (exfalso; omega))))
  refine Wc_loop (α := Nat × Nat × Nat) (fun g => [(0, .pointer (some ⟨p, 0, none⟩)), (3, .int .i64 (g.2.1 : Nat)), (4, .int .i64 ((128 ^ g.1 : Nat) : Int)), (5, .int .i64 (g.1 : Nat))])
    (fun g => [RdrP B X p (encN g.2.2 ++ l) false, X]) (fun g => g.1 ≤ 8 ∧ n = g.2.1 + 128 ^ g.1 * g.2.2 ∧ g.2.1 < 128 ^ g.1 ∧ (0 < g.1 → 0 < g.2.2)) (fun g => 8 - g.1) (0, 0, n) ⟨by omega, by simp, by simp, by simp⟩ ⟨rfl, rfl, rfl, rfl, trivial⟩ (Ent.refl _) ?_
  rintro ⟨i, acc, rest⟩ G ⟨h1, h2, h3, h4⟩
  simp only [ov] at h1 h2 h3 h4 ⊢
  have hi8 : i < 8 := by
    rcases Nat.lt_or_ge i 8 with h | h
    · exact h
    · exfalso
      obtain rfl : i = 8 := by omega
      have := h4 (by omega)
      have e8 : (128 : Nat) ^ 8 = 72057594037927936 := by decide
      rw [e8] at h2
      omega
  have hpow : 128 ^ i ≤ 562949953421312 := by
    have : i = 0 ∨ i = 1 ∨ i = 2 ∨ i = 3 ∨ i = 4 ∨ i = 5 ∨ i = 6 ∨ i = 7 := by omega
    rcases this with rfl | rfl | rfl | rfl | rfl | rfl | rfl | rfl <;> decide
  have hpos : 1 ≤ 128 ^ i := Nat.pow_pos (by omega)
  obtain ⟨by_, hby⟩ : ∃ by_, 128 ^ i = by_ := ⟨_, rfl⟩
  rw [hby] at h2 h3 hpow hpos ⊢
  have hpow2 : 128 ^ (i + 1) = by_ * 128 := by rw [Nat.pow_succ, hby]
  by_cases hb : rest < 128
  · obtain ⟨b, hbv, hbe⟩ : ∃ b : UInt8, b.toNat = rest ∧ encN rest = [b] := ⟨UInt8.ofNat rest, small_byte rest hb, encN_small hb⟩
    rw [hbe]
    have hsum : acc + (b.toNat % 128) * by_ = n := by rw [hbv, Nat.mod_eq_of_lt hb, Nat.mul_comm]; exact h2.symm
    have hprod : (b.toNat % 128) * by_ ≤ 9007199254740992 := by omega
    repeat' (first
      | refine Wc_seq ?_
      | refine thenQ_normal ?_
      | refine Wc_cond_t (h := ?_)
      | refine Wc_cond_f (h := ?_)
      | refine Wc_ret ?_
      | refine thenQ_ret ?_
      | refine Wc_block ?_
      | refine blkQ_normal ?_
      | refine blkQ_ret ?_
      | refine Wc_exit ?_
      | refine thenQ_exit ?_
      | refine blkQ_hit ?_
      | refine blkQ_miss rfl ?_
      | refine Wc_skip ?_
      | refine Wc_label ?_
      | refine loopQ_exit ?_
      | refine loopQ_ret ?_
      | refine loopQ_normal ?_
      | (refine Wc_region (id := 3) ?_; intro K hK; refine Wl_move (k := ?_); refine Wl_lss (k' := ?_); (refine Wl_nil (hK _ _ ?_); clear hK K))
      | (refine Wc_region (id := 5) ?_; intro K hK; refine Wl_move (k := ?_); ((refine Wl_call (hs := next_ok X p b l (by omega)) (k := ?_); rintro v A' ⟨rfl, rfl⟩; simp only [List.cons_append, List.nil_append])) <;> (refine Wl_move (k := ?_); refine Wl_extract (k' := ?_); refine Wl_extract (k' := ?_); refine Wl_assign (k := ?_); refine Wl_assign (k := ?_); (refine Wl_nil (hK _ _ ?_); clear hK K)))
      | (refine Wc_region (id := 6) ?_; intro K hK; refine Wl_move (k := ?_); refine Wl_not (k' := ?_); (refine Wl_nil (hK _ _ ?_); clear hK K))
      | (refine Wc_region (id := 7) ?_; intro K hK; refine Wl_assign (k := ?_); (refine Wl_nil (hK _ _ ?_); clear hK K))
      | (refine Wc_region (id := 8) ?_; intro K hK; refine Wl_move (k := ?_); refine Wl_move (k := ?_); ((refine Wl_and (k' := ?_); rw [and127])) <;> (refine Wl_conv (k' := ?_); refine Wl_move (k := ?_); ((refine Wl_mul (hf := fits_i64 (by rw [← Int.natCast_mul]; omega)) (k' := ?_); rw [← Int.natCast_mul])) <;> (((refine Wl_add (hf := fits_i64 (by omega)) (k' := ?_); rw [show ((acc : Nat) : Int) + ((b.toNat % 128 * by_ : Nat) : Int) = (n : Int) by omega])) <;> (refine Wl_assign (k := ?_); (refine Wl_nil (hK _ _ ?_); clear hK K)))))
      | (refine Wc_region (id := 9) ?_; intro K hK; refine Wl_move (k := ?_); refine Wl_lss (k' := ?_); (refine Wl_nil (hK _ _ ?_); clear hK K))
      | (refine Wc_region (id := 10) ?_; intro K hK; refine Wl_move (k := ?_); refine Wl_eql (k' := ?_); refine Wl_move (k := ?_); ((first | (refine Wl_guard (k := ?_); refine Wl_move (k := ?_)) | refine Wl_gno (k := ?_) | ((refine Wl_split (yes := (fun ht => ?_)) (no := (fun ht => ?_)) <;> (try simp at ht) <;> (try (exfalso; omega))) <;> (first | (refine Wl_guard (k := ?_); refine Wl_move (k := ?_)) | refine Wl_gno (k := ?_))))) <;> (((first | (refine Wl_guard (k := ?_); refine Wl_gtr (k' := ?_)) | refine Wl_gno (k := ?_) | ((refine Wl_split (yes := (fun ht => ?_)) (no := (fun ht => ?_)) <;> (try simp at ht) <;> (try (exfalso; omega))) <;> (first | (refine Wl_guard (k := ?_); refine Wl_gtr (k' := ?_)) | refine Wl_gno (k := ?_))))) <;> ((first | refine Wl_pick_t (k := ?_) | refine Wl_pick_f (k := ?_) | refine Wl_pick (k := ?_)); refine Wl_move (k := ?_); ((first | (refine Wl_guard (k := ?_); refine Wl_move (k := ?_)) | refine Wl_gno (k := ?_) | ((refine Wl_split (yes := (fun ht => ?_)) (no := (fun ht => ?_)) <;> (try simp at ht) <;> (try (exfalso; omega))) <;> (first | (refine Wl_guard (k := ?_); refine Wl_move (k := ?_)) | refine Wl_gno (k := ?_))))) <;> (((first | (refine Wl_guard (k := ?_); refine Wl_gtr (k' := ?_)) | refine Wl_gno (k := ?_) | ((refine Wl_split (yes := (fun ht => ?_)) (no := (fun ht => ?_)) <;> (try simp at ht) <;> (try (exfalso; omega))) <;> (first | (refine Wl_guard (k := ?_); refine Wl_gtr (k' := ?_)) | refine Wl_gno (k := ?_))))) <;> ((first | refine Wl_pick_t (k := ?_) | refine Wl_pick_f (k := ?_) | refine Wl_pick (k := ?_)); (refine Wl_nil (hK _ _ ?_); clear hK K))))))
      | (refine Wc_region (id := 11) ?_; intro K hK; refine Wl_move (k := ?_); refine Wl_assign (k := ?_); (refine Wl_nil (hK _ _ ?_); clear hK K))
      | (refine Wc_cond (ht := (fun ht => ?_)) (hf := (fun ht => ?_)) <;> (try simp at ht) <;> (try (exfalso; omega))))
    all_goals exact ⟨Or.inr rfl, _, [RdrP B X p l false, X], Ent.refl _, res1 rfl rfl, rfl, rfl⟩
  · obtain ⟨b, hbv, hbe⟩ : ∃ b : UInt8, b.toNat = rest % 128 + 128 ∧ encN rest = b :: encN (rest / 128) := ⟨UInt8.ofNat (rest % 128 + 128), big_byte rest, encN_big (by omega)⟩
    rw [hbe]
    have hbm : b.toNat % 128 = rest % 128 := by omega
    have hprod : (rest % 128) * by_ ≤ 127 * by_ := Nat.mul_le_mul_right _ (by omega)
    have hdm : by_ * rest = by_ * 128 * (rest / 128) + (rest % 128) * by_ := by
      have := Nat.div_add_mod rest 128
      rw [Nat.mul_comm (rest % 128) by_, Nat.mul_assoc, ← Nat.mul_add, this]
    have hrest : rest ≤ n := by rw [h2]; exact Nat.le_trans (Nat.le_mul_of_pos_left _ hpos) (Nat.le_add_left ..)
    have hlen : (encN (rest / 128) ++ l).length ≤ 1000000000 := by
      have := encN_few (rest / 128) (by omega)
      rw [List.length_append]; omega
    repeat' (first
      | refine Wc_seq ?_
      | refine thenQ_normal ?_
      | refine Wc_cond_t (h := ?_)
      | refine Wc_cond_f (h := ?_)
      | refine Wc_ret ?_
      | refine thenQ_ret ?_
      | refine Wc_block ?_
      | refine blkQ_normal ?_
      | refine blkQ_ret ?_
      | refine Wc_exit ?_
      | refine thenQ_exit ?_
      | refine blkQ_hit ?_
      | refine blkQ_miss rfl ?_
      | refine Wc_skip ?_
      | refine Wc_label ?_
      | refine loopQ_exit ?_
      | refine loopQ_ret ?_
      | refine loopQ_normal ?_
      | (refine Wc_region (id := 3) ?_; intro K hK; refine Wl_move (k := ?_); refine Wl_lss (k' := ?_); (refine Wl_nil (hK _ _ ?_); clear hK K))
      | (refine Wc_region (id := 4) ?_; intro K hK; refine Wl_move (k := ?_); refine Wl_add (k' := ?_); refine Wl_assign (k := ?_); (refine Wl_nil (hK _ _ ?_); clear hK K))
      | (refine Wc_region (id := 5) ?_; intro K hK; refine Wl_move (k := ?_); ((refine Wl_call (hs := next_ok X p b (encN (rest / 128) ++ l) hlen) (k := ?_); rintro v A' ⟨rfl, rfl⟩; simp only [List.cons_append, List.nil_append])) <;> (refine Wl_move (k := ?_); refine Wl_extract (k' := ?_); refine Wl_extract (k' := ?_); refine Wl_assign (k := ?_); refine Wl_assign (k := ?_); (refine Wl_nil (hK _ _ ?_); clear hK K)))
      | (refine Wc_region (id := 6) ?_; intro K hK; refine Wl_move (k := ?_); refine Wl_not (k' := ?_); (refine Wl_nil (hK _ _ ?_); clear hK K))
      | (refine Wc_region (id := 8) ?_; intro K hK; refine Wl_move (k := ?_); refine Wl_move (k := ?_); ((refine Wl_and (k' := ?_); rw [and127, hbm])) <;> (refine Wl_conv (k' := ?_); refine Wl_move (k := ?_); ((refine Wl_mul (hf := fits_i64 (by rw [← Int.natCast_mul]; omega)) (k' := ?_); rw [← Int.natCast_mul])) <;> (((refine Wl_add (hf := fits_i64 (by omega)) (k' := ?_); rw [show ((acc : Nat) : Int) + ((rest % 128 * by_ : Nat) : Int) = ((acc + rest % 128 * by_ : Nat) : Int) by omega])) <;> (refine Wl_assign (k := ?_); (refine Wl_nil (hK _ _ ?_); clear hK K)))))
      | (refine Wc_region (id := 9) ?_; intro K hK; refine Wl_move (k := ?_); refine Wl_lss (k' := ?_); (refine Wl_nil (hK _ _ ?_); clear hK K))
      | (refine Wc_region (id := 12) ?_; intro K hK; refine Wl_move (k := ?_); ((refine Wl_mul (hf := fits_i64 (by omega)) (k' := ?_); rw [show ((by_ : Nat) : Int) * 128 = ((128 ^ (i + 1) : Nat) : Int) by rw [hpow2]; omega])) <;> (refine Wl_assign (k := ?_); (refine Wl_nil (hK _ _ ?_); clear hK K)))
      | (refine Wc_cond (ht := (fun ht => ?_)) (hf := (fun ht => ?_)) <;> (try simp at ht) <;> (try (exfalso; omega))))
    exact ⟨(i + 1, acc + rest % 128 * by_, rest / 128), ⟨by show i + 1 ≤ 8; omega, by show n = acc + rest % 128 * by_ + 128 ^ (i + 1) * (rest / 128); rw [hpow2]; omega, by show acc + rest % 128 * by_ < 128 ^ (i + 1); rw [hpow2]; omega, fun _ => by show 0 < rest / 128; omega⟩, by show 8 - (i + 1) < 8 - i; omega, ⟨rfl, rfl, rfl, int_succ i, trivial⟩, Ent.refl _⟩
theorem num_ok (X : Asn) (p n : Nat) (l : List UInt8) (hn : n ≤ 9007199254740992) (hl : l.length ≤ 100000000) :
    Fspec Try.prog B 33 #[.pointer (some ⟨p, 0, none⟩)] [RdrP B X p (encN n ++ l) false, X] (fun v A' => v = .int .i64 n ∧ A' = [RdrP B X p l false, X]) := by
  refine spec_of (args := [_]) Try.func33 rfl rfl rfl ?_
  repeat' (first
    | refine Wc_seq ?_
    | refine thenQ_normal ?_
    | refine Wc_cond_t (h := ?_)
    | refine Wc_cond_f (h := ?_)
    | refine Wc_ret ?_
    | refine thenQ_ret ?_
    | refine Wc_block ?_
    | refine blkQ_normal ?_
    | refine blkQ_ret ?_
    | refine Wc_exit ?_
    | refine thenQ_exit ?_
    | refine blkQ_hit ?_
    | refine blkQ_miss rfl ?_
    | refine Wc_skip ?_
    | refine Wc_label ?_
    | refine loopQ_exit ?_
    | refine loopQ_ret ?_
    | refine loopQ_normal ?_
    | (refine Wc_region (id := 0) ?_; intro K hK; refine Wl_assign (k := ?_); (refine Wl_nil (hK _ _ ?_); clear hK K))
    | (refine Wc_region (id := 1) ?_; intro K hK; refine Wl_move (k := ?_); refine Wl_ptr_eq_nil (k' := ?_); (refine Wl_nil (hK _ _ ?_); clear hK K))
    | (refine Wc_region (id := 2) ?_; intro K hK; refine Wl_assign (k := ?_); (refine Wl_nil (hK _ _ ?_); clear hK K))
    | (refine Wc_region (id := 3) ?_; intro K hK; refine Wl_move (k := ?_); refine Wl_nilCheck (k := ?_); refine Wl_fieldAddr (k := ?_); ((refine Wl_call (hs := number_ok X p n l hn hl) (k := ?_); rintro v A' ⟨rfl, rfl⟩; simp only [List.cons_append, List.nil_append])) <;> (refine Wl_assign (k := ?_); (refine Wl_nil (hK _ _ ?_); clear hK K)))
    | (refine Wc_cond (ht := (fun ht => ?_)) (hf := (fun ht => ?_)) <;> (try simp at ht) <;> (try (exfalso; omega))))
  exact ⟨Or.inr rfl, _, [RdrP B X p l false, X], Ent.refl _, res1 rfl rfl, rfl, rfl⟩
theorem count_ok (X : Asn) (p n most : Nat) (l : List UInt8) (hn : n ≤ most) (hm : most ≤ 9007199254740992) (hl : l.length ≤ 100000000) :
    Fspec Try.prog B 32 #[.pointer (some ⟨p, 0, none⟩), .int .i64 most] [RdrP B X p (encN n ++ l) false, X] (fun v A' => v = .int .i64 n ∧ A' = [RdrP B X p l false, X]) := by
  refine spec_of (args := [_, _]) Try.func32 rfl rfl rfl ?_
  repeat' (first
    | refine Wc_seq ?_
    | refine thenQ_normal ?_
    | refine Wc_cond_t (h := ?_)
    | refine Wc_cond_f (h := ?_)
    | refine Wc_ret ?_
    | refine thenQ_ret ?_
    | refine Wc_block ?_
    | refine blkQ_normal ?_
    | refine blkQ_ret ?_
    | refine Wc_exit ?_
    | refine thenQ_exit ?_
    | refine blkQ_hit ?_
    | refine blkQ_miss rfl ?_
    | refine Wc_skip ?_
    | refine Wc_label ?_
    | refine loopQ_exit ?_
    | refine loopQ_ret ?_
    | refine loopQ_normal ?_
    | (refine Wc_region (id := 0) ?_; intro K hK; refine Wl_assign (k := ?_); (refine Wl_nil (hK _ _ ?_); clear hK K))
    | (refine Wc_region (id := 1) ?_; intro K hK; refine Wl_move (k := ?_); ((refine Wl_call (hs := num_ok X p n l (by omega) hl) (k := ?_); rintro v A' ⟨rfl, rfl⟩; simp only [List.cons_append, List.nil_append])) <;> (refine Wl_assign (k := ?_); (refine Wl_nil (hK _ _ ?_); clear hK K)))
    | (refine Wc_region (id := 2) ?_; intro K hK; refine Wl_move (k := ?_); refine Wl_ptr_neq_nil (k' := ?_); refine Wl_move (k := ?_); ((first | (refine Wl_guard (k := ?_); refine Wl_move (k := ?_)) | refine Wl_gno (k := ?_) | ((refine Wl_split (yes := (fun ht => ?_)) (no := (fun ht => ?_)) <;> (try simp at ht) <;> (try (exfalso; omega))) <;> (first | (refine Wl_guard (k := ?_); refine Wl_move (k := ?_)) | refine Wl_gno (k := ?_))))) <;> (((first | (refine Wl_guard (k := ?_); refine Wl_move (k := ?_)) | refine Wl_gno (k := ?_) | ((refine Wl_split (yes := (fun ht => ?_)) (no := (fun ht => ?_)) <;> (try simp at ht) <;> (try (exfalso; omega))) <;> (first | (refine Wl_guard (k := ?_); refine Wl_move (k := ?_)) | refine Wl_gno (k := ?_))))) <;> (((first | (refine Wl_guard (k := ?_); refine Wl_gtr (k' := ?_)) | refine Wl_gno (k := ?_) | ((refine Wl_split (yes := (fun ht => ?_)) (no := (fun ht => ?_)) <;> (try simp at ht) <;> (try (exfalso; omega))) <;> (first | (refine Wl_guard (k := ?_); refine Wl_gtr (k' := ?_)) | refine Wl_gno (k := ?_))))) <;> ((first | refine Wl_pick_t (k := ?_) | refine Wl_pick_f (k := ?_) | refine Wl_pick (k := ?_)); (refine Wl_nil (hK _ _ ?_); clear hK K)))))
    | (refine Wc_region (id := 3) ?_; intro K hK; refine Wl_move (k := ?_); refine Wl_nilCheck (k := ?_); refine Wl_fieldAddr (k := ?_); refine Wl_fieldAddr (k := ?_); refine Wl_store (ho := rfl) (k := ?_); (refine Wl_nil (hK _ _ ?_); clear hK K))
    | (refine Wc_region (id := 4) ?_; intro K hK; refine Wl_assign (k := ?_); (refine Wl_nil (hK _ _ ?_); clear hK K))
    | (refine Wc_region (id := 5) ?_; intro K hK; refine Wl_move (k := ?_); refine Wl_assign (k := ?_); (refine Wl_nil (hK _ _ ?_); clear hK K))
    | (refine Wc_cond (ht := (fun ht => ?_)) (hf := (fun ht => ?_)) <;> (try simp at ht) <;> (try (exfalso; omega))))
  exact ⟨Or.inr rfl, _, [RdrP B X p l false, X], Ent.refl _, res1 rfl rfl, rfl, rfl⟩
theorem rflag_ok (X : Asn) (p : Nat) (on : Bool) (l : List UInt8) (hl : l.length ≤ 100000000) :
    Fspec Try.prog B 34 #[.pointer (some ⟨p, 0, none⟩)] [RdrP B X p (encN (if on then 1 else 0) ++ l) false, X] (fun v A' => v = .bool on ∧ A' = [RdrP B X p l false, X]) := by
  obtain ⟨b, hbv, hbe⟩ : ∃ b : UInt8, (b.toNat : Int) = (if on then 1 else 0) ∧ encN (if on then 1 else 0) = [b] := by
    cases on
    · exact ⟨0, rfl, by rw [if_neg (by simp), encN_small (by omega)]; rfl⟩
    · exact ⟨1, rfl, by rw [if_pos rfl, encN_small (by omega)]; rfl⟩
  rw [hbe]
  refine spec_of (args := [_]) Try.func34 rfl rfl rfl ?_
  cases on
  all_goals
    simp only [Bool.false_eq_true, if_false, if_true] at hbv
    repeat' (first
      | refine Wc_seq ?_
      | refine thenQ_normal ?_
      | refine Wc_cond_t (h := ?_)
      | refine Wc_cond_f (h := ?_)
      | refine Wc_ret ?_
      | refine thenQ_ret ?_
      | refine Wc_block ?_
      | refine blkQ_normal ?_
      | refine blkQ_ret ?_
      | refine Wc_exit ?_
      | refine thenQ_exit ?_
      | refine blkQ_hit ?_
      | refine blkQ_miss rfl ?_
      | refine Wc_skip ?_
      | refine Wc_label ?_
      | refine loopQ_exit ?_
      | refine loopQ_ret ?_
      | refine loopQ_normal ?_
      | (refine Wc_region (id := 0) ?_; intro K hK; refine Wl_assign (k := ?_); (refine Wl_nil (hK _ _ ?_); clear hK K))
      | (refine Wc_region (id := 1) ?_; intro K hK; refine Wl_move (k := ?_); refine Wl_ptr_eq_nil (k' := ?_); (refine Wl_nil (hK _ _ ?_); clear hK K))
      | (refine Wc_region (id := 2) ?_; intro K hK; refine Wl_assign (k := ?_); (refine Wl_nil (hK _ _ ?_); clear hK K))
      | (refine Wc_region (id := 3) ?_; intro K hK; refine Wl_move (k := ?_); refine Wl_nilCheck (k := ?_); refine Wl_fieldAddr (k := ?_); ((refine Wl_call (hs := next_ok X p b l (by omega)) (k := ?_); rintro v A' ⟨rfl, rfl⟩; simp only [List.cons_append, List.nil_append]; rw [hbv])) <;> (refine Wl_move (k := ?_); refine Wl_extract (k' := ?_); refine Wl_extract (k' := ?_); refine Wl_assign (k := ?_); refine Wl_assign (k := ?_); (refine Wl_nil (hK _ _ ?_); clear hK K)))
      | (refine Wc_cond (ht := (fun ht => ?_)) (hf := (fun ht => ?_)) <;> (try simp at ht) <;> (try (exfalso; omega))))
    refine Wc_exN (fun x => ?_)
    obtain ⟨⟨a, c⟩, hr⟩ := x
    simp only at hr ⊢
    simp only [List.cons_append, List.nil_append]
    repeat' (first
      | refine Wc_seq ?_
      | refine thenQ_normal ?_
      | refine Wc_cond_t (h := ?_)
      | refine Wc_cond_f (h := ?_)
      | refine Wc_ret ?_
      | refine thenQ_ret ?_
      | refine Wc_block ?_
      | refine blkQ_normal ?_
      | refine blkQ_ret ?_
      | refine Wc_exit ?_
      | refine thenQ_exit ?_
      | refine blkQ_hit ?_
      | refine blkQ_miss rfl ?_
      | refine Wc_skip ?_
      | refine Wc_label ?_
      | refine loopQ_exit ?_
      | refine loopQ_ret ?_
      | refine loopQ_normal ?_
      | (refine Wc_region (id := 4) ?_; intro K hK; refine Wl_move (k := ?_); refine Wl_move (k := ?_); refine Wl_nilCheck (k := ?_); refine Wl_fieldAddr (k := ?_); refine Wl_fieldAddr (k := ?_); refine Wl_load (k := ?_); refine Wl_move (k := ?_); ((first | (refine Wl_guard (k := ?_); refine Wl_move (k := ?_)) | refine Wl_gno (k := ?_) | ((refine Wl_split (yes := (fun ht => ?_)) (no := (fun ht => ?_)) <;> (try simp at ht) <;> (try (exfalso; omega))) <;> (first | (refine Wl_guard (k := ?_); refine Wl_move (k := ?_)) | refine Wl_gno (k := ?_))))) <;> (((first | (refine Wl_guard (k := ?_); refine Wl_gtr (k' := ?_)) | refine Wl_gno (k := ?_) | ((refine Wl_split (yes := (fun ht => ?_)) (no := (fun ht => ?_)) <;> (try simp at ht) <;> (try (exfalso; omega))) <;> (first | (refine Wl_guard (k := ?_); refine Wl_gtr (k' := ?_)) | refine Wl_gno (k := ?_))))) <;> ((first | refine Wl_pick_t (k := ?_) | refine Wl_pick_f (k := ?_) | refine Wl_pick (k := ?_)); refine Wl_nilCheck (k := ?_); refine Wl_fieldAddr (k := ?_); refine Wl_fieldAddr (k := ?_); refine Wl_store (ho := rfl) (k := ?_); (refine Wl_nil (hK _ _ ?_); clear hK K))))
      | (refine Wc_region (id := 5) ?_; intro K hK; refine Wl_move (k := ?_); refine Wl_move (k := ?_); ((first | (refine Wl_guard (k := ?_); refine Wl_move (k := ?_)) | refine Wl_gno (k := ?_) | ((refine Wl_split (yes := (fun ht => ?_)) (no := (fun ht => ?_)) <;> (try simp at ht) <;> (try (exfalso; omega))) <;> (first | (refine Wl_guard (k := ?_); refine Wl_move (k := ?_)) | refine Wl_gno (k := ?_))))) <;> (((first | (refine Wl_guard (k := ?_); refine Wl_eql (k' := ?_)) | refine Wl_gno (k := ?_) | ((refine Wl_split (yes := (fun ht => ?_)) (no := (fun ht => ?_)) <;> (try simp at ht) <;> (try (exfalso; omega))) <;> (first | (refine Wl_guard (k := ?_); refine Wl_eql (k' := ?_)) | refine Wl_gno (k := ?_))))) <;> ((first | refine Wl_pick_t (k := ?_) | refine Wl_pick_f (k := ?_) | refine Wl_pick (k := ?_)); refine Wl_assign (k := ?_); (refine Wl_nil (hK _ _ ?_); clear hK K))))
      | (refine Wc_cond (ht := (fun ht => ?_)) (hf := (fun ht => ?_)) <;> (try simp at ht) <;> (try (exfalso; omega))))
    refine ⟨Or.inr rfl, _, [RdrP B X p l false, X], ?_, res1 rfl rfl, rfl, rfl⟩
    exact fold_rdr hr (Ent.refl _)
theorem end_ok (X : Asn) (p : Nat) :
    Fspec Try.prog B 35 #[.pointer (some ⟨p, 0, none⟩)] [RdrP B X p [] false, X] (fun v A' => v = .int .i64 0 ∧ A' = [RdrP B X p [] false, X]) := by
  refine spec_of (args := [_]) Try.func35 rfl rfl rfl ?_
  refine Wc_exN (fun x => ?_)
  obtain ⟨⟨a, c⟩, hr⟩ := x
  simp only at hr ⊢
  simp only [List.cons_append, List.nil_append]
  repeat' (first
    | refine Wc_seq ?_
    | refine thenQ_normal ?_
    | refine Wc_cond_t (h := ?_)
    | refine Wc_cond_f (h := ?_)
    | refine Wc_ret ?_
    | refine thenQ_ret ?_
    | refine Wc_block ?_
    | refine blkQ_normal ?_
    | refine blkQ_ret ?_
    | refine Wc_exit ?_
    | refine thenQ_exit ?_
    | refine blkQ_hit ?_
    | refine blkQ_miss rfl ?_
    | refine Wc_skip ?_
    | refine Wc_label ?_
    | refine loopQ_exit ?_
    | refine loopQ_ret ?_
    | refine loopQ_normal ?_
    | (refine Wc_region (id := 0) ?_; intro K hK; refine Wl_assign (k := ?_); (refine Wl_nil (hK _ _ ?_); clear hK K))
    | (refine Wc_region (id := 1) ?_; intro K hK; refine Wl_move (k := ?_); refine Wl_ptr_eq_nil (k' := ?_); refine Wl_move (k := ?_); ((first | (refine Wl_guard (k := ?_); refine Wl_move (k := ?_)) | refine Wl_gno (k := ?_) | ((refine Wl_split (yes := (fun ht => ?_)) (no := (fun ht => ?_)) <;> (try simp at ht) <;> (try (exfalso; omega))) <;> (first | (refine Wl_guard (k := ?_); refine Wl_move (k := ?_)) | refine Wl_gno (k := ?_))))) <;> (((first | (refine Wl_guard (k := ?_); refine Wl_nilCheck (k := ?_)) | refine Wl_gno (k := ?_) | ((refine Wl_split (yes := (fun ht => ?_)) (no := (fun ht => ?_)) <;> (try simp at ht) <;> (try (exfalso; omega))) <;> (first | (refine Wl_guard (k := ?_); refine Wl_nilCheck (k := ?_)) | refine Wl_gno (k := ?_))))) <;> (((first | (refine Wl_guard (k := ?_); refine Wl_fieldAddr (k := ?_)) | refine Wl_gno (k := ?_) | ((refine Wl_split (yes := (fun ht => ?_)) (no := (fun ht => ?_)) <;> (try simp at ht) <;> (try (exfalso; omega))) <;> (first | (refine Wl_guard (k := ?_); refine Wl_fieldAddr (k := ?_)) | refine Wl_gno (k := ?_))))) <;> (((first | (refine Wl_guard (k := ?_); refine Wl_fieldAddr (k := ?_)) | refine Wl_gno (k := ?_) | ((refine Wl_split (yes := (fun ht => ?_)) (no := (fun ht => ?_)) <;> (try simp at ht) <;> (try (exfalso; omega))) <;> (first | (refine Wl_guard (k := ?_); refine Wl_fieldAddr (k := ?_)) | refine Wl_gno (k := ?_))))) <;> (((first | (refine Wl_guard (k := ?_); refine Wl_load (k := ?_)) | refine Wl_gno (k := ?_) | ((refine Wl_split (yes := (fun ht => ?_)) (no := (fun ht => ?_)) <;> (try simp at ht) <;> (try (exfalso; omega))) <;> (first | (refine Wl_guard (k := ?_); refine Wl_load (k := ?_)) | refine Wl_gno (k := ?_))))) <;> ((first | refine Wl_pick_t (k := ?_) | refine Wl_pick_f (k := ?_) | refine Wl_pick (k := ?_)); refine Wl_move (k := ?_); ((first | (refine Wl_guard (k := ?_); refine Wl_move (k := ?_)) | refine Wl_gno (k := ?_) | ((refine Wl_split (yes := (fun ht => ?_)) (no := (fun ht => ?_)) <;> (try simp at ht) <;> (try (exfalso; omega))) <;> (first | (refine Wl_guard (k := ?_); refine Wl_move (k := ?_)) | refine Wl_gno (k := ?_))))) <;> (((first | (refine Wl_guard (k := ?_); refine Wl_nilCheck (k := ?_)) | refine Wl_gno (k := ?_) | ((refine Wl_split (yes := (fun ht => ?_)) (no := (fun ht => ?_)) <;> (try simp at ht) <;> (try (exfalso; omega))) <;> (first | (refine Wl_guard (k := ?_); refine Wl_nilCheck (k := ?_)) | refine Wl_gno (k := ?_))))) <;> (((first | (refine Wl_guard (k := ?_); refine Wl_fieldAddr (k := ?_)) | refine Wl_gno (k := ?_) | ((refine Wl_split (yes := (fun ht => ?_)) (no := (fun ht => ?_)) <;> (try simp at ht) <;> (try (exfalso; omega))) <;> (first | (refine Wl_guard (k := ?_); refine Wl_fieldAddr (k := ?_)) | refine Wl_gno (k := ?_))))) <;> (((first | (refine Wl_guard (k := ?_); refine Wl_fieldAddr (k := ?_)) | refine Wl_gno (k := ?_) | ((refine Wl_split (yes := (fun ht => ?_)) (no := (fun ht => ?_)) <;> (try simp at ht) <;> (try (exfalso; omega))) <;> (first | (refine Wl_guard (k := ?_); refine Wl_fieldAddr (k := ?_)) | refine Wl_gno (k := ?_))))) <;> (((first | (refine Wl_guard (k := ?_); refine Wl_load (k := ?_)) | refine Wl_gno (k := ?_) | ((refine Wl_split (yes := (fun ht => ?_)) (no := (fun ht => ?_)) <;> (try simp at ht) <;> (try (exfalso; omega))) <;> (first | (refine Wl_guard (k := ?_); refine Wl_load (k := ?_)) | refine Wl_gno (k := ?_))))) <;> (((first | (refine Wl_guard (k := ?_); refine Wl_len_sl (k' := ?_)) | refine Wl_gno (k := ?_) | ((refine Wl_split (yes := (fun ht => ?_)) (no := (fun ht => ?_)) <;> (try simp at ht) <;> (try (exfalso; omega))) <;> (first | (refine Wl_guard (k := ?_); refine Wl_len_sl (k' := ?_)) | refine Wl_gno (k := ?_))))) <;> (((first | (refine Wl_guard (k := ?_); refine Wl_gtr (k' := ?_)) | refine Wl_gno (k := ?_) | ((refine Wl_split (yes := (fun ht => ?_)) (no := (fun ht => ?_)) <;> (try simp at ht) <;> (try (exfalso; omega))) <;> (first | (refine Wl_guard (k := ?_); refine Wl_gtr (k' := ?_)) | refine Wl_gno (k := ?_))))) <;> ((first | refine Wl_pick_t (k := ?_) | refine Wl_pick_f (k := ?_) | refine Wl_pick (k := ?_)); (refine Wl_nil (hK _ _ ?_); clear hK K))))))))))))))
    | (refine Wc_region (id := 2) ?_; intro K hK; refine Wl_assign (k := ?_); (refine Wl_nil (hK _ _ ?_); clear hK K))
    | (refine Wc_region (id := 3) ?_; intro K hK; refine Wl_assign (k := ?_); (refine Wl_nil (hK _ _ ?_); clear hK K))
    | (refine Wc_cond (ht := (fun ht => ?_)) (hf := (fun ht => ?_)) <;> (try simp at ht) <;> (try (exfalso; omega))))
  refine ⟨Or.inr rfl, _, [RdrP B X p [] false, X], ?_, res1 rfl rfl, rfl, rfl⟩
  exact fold_rdr hr (Ent.refl _)
/-- A reader of some bytes has a copy of them. -/
theorem rnew_spec (A0 : List Asn) (a : Option Addr) (m c : Nat) (l : List UInt8) (h : RdS Try.prog B A0 1 a m c (l.map byteV)) (hm : m ≤ 1000000) :
    Fspec Try.prog B 31 #[.slice a m c] A0 (fun v A' => ∃ p b bc, v = .pointer (some ⟨p, 0, none⟩) ∧ A' = RdrP B (own b l.length bc 1 (l.map byteV) 5) p l false :: own b l.length bc 1 (l.map byteV) 5 :: A0) := by
  have hl : l.length = m := by have := h.len; simpa using this
  subst hl
  refine spec_of (args := [_]) Try.func31 rfl rfl rfl ?_
  repeat' (first
    | refine Wc_seq ?_
    | refine thenQ_normal ?_
    | refine Wc_cond_t (h := ?_)
    | refine Wc_cond_f (h := ?_)
    | refine Wc_ret ?_
    | refine thenQ_ret ?_
    | refine Wc_block ?_
    | refine blkQ_normal ?_
    | refine blkQ_ret ?_
    | refine Wc_exit ?_
    | refine thenQ_exit ?_
    | refine blkQ_hit ?_
    | refine blkQ_miss rfl ?_
    | refine Wc_skip ?_
    | refine Wc_label ?_
    | refine loopQ_exit ?_
    | refine loopQ_ret ?_
    | refine loopQ_normal ?_
    | (refine Wc_region (id := 0) ?_; intro K hK; refine Wl_assign (k := ?_); (refine Wl_nil (hK _ _ ?_); clear hK K))
    | (refine Wc_region (id := 1) ?_; intro K hK; (refine Wl_lit0o (k := ?_); intro r); refine Wl_move (k := ?_); ((refine Wl_appendR (hsrc := h.tail) (hvc := byteV_all _) (hbd := by omega) (k := ?_); intro oa' oc'; rw [Nat.zero_add, List.nil_append]; refine Wl_ownF (a := oa') (sz := 1) (h0 := by omega) (h := fun hf => ?_))) <;> (refine Wl_build (k := ?_); refine Wl_build (k := ?_); ((refine Wl_boxAgg (l := [.slice oa' l.length oc', .bool false]) (k := ?_); intro pr)) <;> (refine Wl_assign (k := ?_); (refine Wl_nil (hK _ _ ?_); clear hK K))))
    | (refine Wc_cond (ht := (fun ht => ?_)) (hf := (fun ht => ?_)) <;> (try simp at ht) <;> (try (exfalso; omega))))
  refine ⟨Or.inr rfl, _, RdrP B (own oa' l.length oc' 1 (l.map byteV) 5) pr l false :: own oa' l.length oc' 1 (l.map byteV) 5 :: A0, ?_, res1 rfl rfl, pr, oa', oc', rfl, rfl⟩
  refine fold_rdr (a := oa') (c := oc') (hf.rd (M := []) .head) ?_
  (repeat (first | exact Ent.refl _ | exact Ent.nil | refine Ent.take (by (repeat (first | exact Out.head | apply Out.tail)); (first | done | fail)) ?_ | refine Ent.drop1 ?_))
end specs
end Go.Proofs.Ytepeljbgekgjcaa
/- Rows that are owned can be read. No condition. -/
set_option maxHeartbeats 8000000
set_option linter.unusedVariables false
set_option linter.unusedSimpArgs false
set_option maxRecDepth 100000
namespace Go.Proofs.Ytepeljbgekgjcaa
open Go Go.Sl
attribute [local irreducible] Go.Sl.Wl Go.Sl.Wc Go.Sl.thenQ Go.Sl.blkQ Go.Sl.loopQ Go.Sl.Fspec

/-- Rows that are owned can be read. -/
theorem Wl_rowsF {P : Program} {B : Base} {N : Nat} {fm : Fm} {ops l : List Oper} {F : Fr} {A M : List Asn} {K : Fr → List Asn → Prop} {xs : List RX} (ho : Out (RowsP xs) A M)
    (h : (∀ x ∈ xs, OwnF x.1 x.2.2.length x.2.1 1 (x.2.2.map byteV)) → Wl P B N fm ops l F A K) : Wl P B N fm ops l F A K := by
  unfold Wl at h ⊢
  intro R hE ac w hr hs
  refine h (fun x hx => ?_) R hE ac w hr hs
  have h1 : Sat B w (xs.map rowA ++ R :: M) := ((hs.perm (ho.perm.cons R)).perm (.swap ..)).ent (Ent.lst_open (xs.map rowA) (R :: M))
  obtain ⟨s, t, rfl⟩ := List.append_of_mem hx
  refine own_ownF (B := B) (w := w) (E := 5) (L := s.map rowA ++ (t.map rowA ++ R :: M)) (by omega) (h1.perm ?_)
  rw [List.map_append, List.map_cons, List.append_assoc]
  exact List.perm_middle
theorem row_rd {P : Program} {B : Base} {xs : List RX} {x : RX} {X : Asn} (hx : x ∈ xs) (hf : OwnF x.1 x.2.2.length x.2.1 1 (x.2.2.map byteV)) (hX : Ent [X] [RowsP xs]) : RdS P B [X] 1 x.1 x.2.2.length x.2.1 (x.2.2.map byteV) := by
  obtain ⟨s, t, rfl⟩ := List.append_of_mem hx
  refine ⟨hf.e1, hf.e3, hf.e2, (src_own (A := s.map rowA ++ t.map rowA) (E := 5) hf.e1).weak fun w hs => ?_⟩
  have h1 := hs.ent (hX.trans (Ent.lst_open ((s ++ x :: t).map rowA) []))
  refine h1.perm ?_
  rw [List.append_nil, List.map_append, List.map_cons]
  exact List.perm_middle
end Go.Proofs.Ytepeljbgekgjcaa
/- Package control: read, of a record that was kept; Open of a disk with records. Conditions: the last record is a controller's. -/
set_option maxHeartbeats 8000000
set_option linter.unusedVariables false
set_option linter.unusedSimpArgs false
set_option maxRecDepth 100000
namespace Go.Proofs.Ytepeljbgekgjcaa
open Go Go.Sl
attribute [local irreducible] Go.Sl.Wl Go.Sl.Wc Go.Sl.thenQ Go.Sl.blkQ Go.Sl.loopQ Go.Sl.Fspec

theorem encT_drop {t : List Ep} {k : Nat} {e : Ep} (h : t[k]? = some e) : (t.drop k).flatMap encE = encE e ++ (t.drop (k + 1)).flatMap encE := by
  obtain ⟨hk, he⟩ := List.getElem?_eq_some_iff.1 h
  rw [List.drop_eq_getElem_cons hk, List.flatMap_cons, he]
theorem last_row {xs : List RX} {rc : List UInt8} (h : (recsOf xs).getLast? = some rc) : ∃ x, xs[xs.length - 1]? = some x ∧ x.2.2 = rc ∧ x ∈ xs ∧ 0 < xs.length := by
  unfold recsOf at h
  rw [List.getLast?_eq_getElem?, List.getElem?_map, List.length_map] at h
  obtain ⟨x, h1, h2⟩ := Option.map_eq_some_iff.1 h
  have h3 := (List.getElem?_eq_some_iff.1 h1).1
  exact ⟨x, h1, h2, List.mem_of_getElem? h1, by omega⟩
section specs
variable {B : Base}
theorem cread_spec (A0 : List Asn) (t : List Ep) (kind target regions : Nat) (a : Option Addr) (m c : Nat) (h : RdS Try.prog B A0 1 a m c ((encK t (kind : Int) (target : Int)).map byteV))
    (hrt : rightT t = true) (hk : kind ≤ 2) (hg : target ≤ regions) (hr4 : regions ≤ 4) (hp : kind = 0 ↔ target = 0) :
    Fspec Try.prog B 20 #[.slice a m c, .int .i64 regions] A0
      (fun v A' => ∃ b bc, v = .tuple #[.agg #[.slice b t.length bc, .int .i64 kind, .int .i64 target], .bool true] ∧ A' = own b t.length bc 3 (epsC t) 40 :: A0) := by
  obtain ⟨h0, h64, hfair, _⟩ := rightT_out hrt
  have hlen := encK_len (t := t) (kind := (kind : Int)) (target := (target : Int)) (fun e he => fair_enc (hfair e he)) (by omega) (by omega) (by omega)
  have hm : (encK t (kind : Int) (target : Int)).length = m := by have := h.len; simpa using this
  have henc : encK t (kind : Int) (target : Int) = encN t.length ++ (t.flatMap encE ++ (encN kind ++ encN target)) := by simp [encK]
  have hfl := encT_len (t := t) (fun e he => fair_enc (hfair e he))
  have hk9 := encN_few kind (by omega); have hg9 := encN_few target (by omega)
  have hpl : (decide ((kind : Int) = 0) == decide ((target : Int) = 0)) = true := by
    by_cases hz : kind = 0
    · have := hp.1 hz; subst hz this; rfl
    · have : target ≠ 0 := fun e => hz (hp.2 e)
      rw [decide_eq_false (by omega), decide_eq_false (by omega)]; rfl
  refine spec_of (args := [_, _]) Try.func20 rfl rfl rfl ?_
  repeat' (first
    | refine Wc_seq ?_
    | refine thenQ_normal ?_
    | refine Wc_cond_t (h := ?_)
    | refine Wc_cond_f (h := ?_)
    | refine Wc_ret ?_
    | refine thenQ_ret ?_
    | refine Wc_block ?_
    | refine blkQ_normal ?_
    | refine blkQ_ret ?_
    | refine Wc_exit ?_
    | refine thenQ_exit ?_
    | refine blkQ_hit ?_
    | refine blkQ_miss rfl ?_
    | refine Wc_skip ?_
    | refine Wc_label ?_
    | refine loopQ_exit ?_
    | refine loopQ_ret ?_
    | refine loopQ_normal ?_
    | (refine Wc_region (id := 0) ?_; intro K hK; ((refine Wl_alloc (k := ?_); intro r4)) <;> (refine Wl_assign (k := ?_); (refine Wl_nil (hK _ _ ?_); clear hK K)))
    | (refine Wc_region (id := 1) ?_; intro K hK; refine Wl_move (k := ?_); ((refine Wl_call (hs := rnew_spec (B := B) (cb r4 [.slice none 0 0, .int .i64 0, .int .i64 0] 83 :: A0) a m c _ h.tail (by omega)) (hp := Pick_all _) (k := ?_); rintro v A' ⟨p, xb, xc, rfl, rfl⟩; simp only [List.cons_append, List.nil_append]; rw [List.append_nil]; generalize hX : own xb (encK t (kind : Int) (target : Int)).length xc 1 ((encK t (kind : Int) (target : Int)).map byteV) 5 = X; rw [henc])) <;> (refine Wl_assign (k := ?_); (refine Wl_nil (hK _ _ ?_); clear hK K)))
    | (refine Wc_region (id := 2) ?_; intro K hK; ((refine Wl_alloc (k := ?_); intro kr)) <;> ((refine Wl_nil (hK _ _ ?_); clear hK K)))
    | (refine Wc_region (id := 3) ?_; intro K hK; refine Wl_move (k := ?_); ((refine Wl_call (hs := count_ok X p t.length 64 (t.flatMap encE ++ (encN kind ++ encN target)) h64 (by omega) (by simp only [List.length_append]; omega)) (k := ?_); rintro v A' ⟨rfl, rfl⟩; simp only [List.cons_append, List.nil_append])) <;> (refine Wl_move (k := ?_); (refine Wl_nil (hK _ _ ?_); clear hK K)))
    | (refine Wc_cond (ht := (fun ht => ?_)) (hf := (fun ht => ?_)) <;> (try simp at ht) <;> (try (exfalso; omega))))
  refine Wc_loop (α := Nat × Option Addr × Nat) (fun x => [(1, .int .i64 regions), (4, .pointer (some ⟨r4, 0, none⟩)), (6, .pointer (some ⟨p, 0, none⟩)), (7, .pointer (some ⟨kr, 0, none⟩)), (12, .int .i64 t.length), (13, .int .i64 x.1)])
    (fun x => RdrP B X p ((t.drop x.1).flatMap encE ++ (encN kind ++ encN target)) false :: X :: cb kr [.slice x.2.1 x.1 x.2.2, .int .i64 0, .int .i64 0] 83 :: own x.2.1 x.1 x.2.2 3 (epsC (t.take x.1)) 40 :: cb r4 [.slice none 0 0, .int .i64 0, .int .i64 0] 83 :: A0)
    (fun x => x.1 ≤ t.length) (fun x => t.length - x.1) (0, none, 0) (by omega) ⟨rfl, rfl, rfl, rfl, rfl, rfl, trivial⟩ ?_ ?_
  · simp only [List.take_zero, epsC, List.flatMap_nil, List.drop_zero]
    refine Ent.trans (own_nil 3 40 _) ?_
    (repeat (first | exact Ent.refl _ | exact Ent.nil | refine Ent.take (by (repeat (first | exact Out.head | apply Out.tail)); (first | done | fail)) ?_ | refine Ent.drop1 ?_))
  rintro ⟨k, kb, kc⟩ G hkt
  simp only [ov] at hkt ⊢
  by_cases hlt : k < t.length
  · obtain ⟨e, he⟩ : ∃ e, t[k]? = some e := ⟨_, List.getElem?_eq_getElem hlt⟩
    have hf := hfair e (List.mem_of_getElem? he)
    have hfd := encT_len (t := t.drop (k + 1)) (fun x hx => fair_enc (hfair x (List.mem_of_mem_drop hx)))
    have hdl : (t.drop (k + 1)).length ≤ 64 := by rw [List.length_drop]; omega
    have hfe := encE_len (fair_enc hf).1 (fair_enc hf).2
    unfold Ep.fair at hf
    simp only [encE, List.length_append] at hfe
    obtain ⟨rest, hrest⟩ : ∃ rest, (t.drop (k + 1)).flatMap encE ++ (encN kind ++ encN target) = rest := ⟨_, rfl⟩
    have hrl : rest.length ≤ 500 := by rw [← hrest]; simp only [List.length_append]; omega
    have hexp : (t.drop k).flatMap encE ++ (encN kind ++ encN target) = encN e.master.toNat ++ (encN e.cut.toNat ++ (encN (if e.forced then 1 else 0) ++ rest)) := by
      rw [encT_drop he, ← hrest]; simp [encE]
    have htk : epsC (t.take k) ++ epC e = epsC (t.take (k + 1)) := by
      rw [List.take_add_one, he]; simp [epsC]
    rw [hexp]
    repeat' (first
      | refine Wc_seq ?_
      | refine thenQ_normal ?_
      | refine Wc_cond_t (h := ?_)
      | refine Wc_cond_f (h := ?_)
      | refine Wc_ret ?_
      | refine thenQ_ret ?_
      | refine Wc_block ?_
      | refine blkQ_normal ?_
      | refine blkQ_ret ?_
      | refine Wc_exit ?_
      | refine thenQ_exit ?_
      | refine blkQ_hit ?_
      | refine blkQ_miss rfl ?_
      | refine Wc_skip ?_
      | refine Wc_label ?_
      | refine loopQ_exit ?_
      | refine loopQ_ret ?_
      | refine loopQ_normal ?_
      | (refine Wc_region (id := 4) ?_; intro K hK; refine Wl_lss (k' := ?_); (refine Wl_nil (hK _ _ ?_); clear hK K))
      | (refine Wc_region (id := 5) ?_; intro K hK; refine Wl_move (k := ?_); ((refine Wl_call (hs := num_ok X p e.master.toNat (encN e.cut.toNat ++ (encN (if e.forced then 1 else 0) ++ rest)) (by omega) (by simp only [List.length_append]; omega)) (k := ?_); rintro v A' ⟨rfl, rfl⟩; simp only [List.cons_append, List.nil_append]; rw [Int.toNat_of_nonneg (show 0 ≤ e.master by omega)])) <;> (refine Wl_move (k := ?_); ((refine Wl_call (hs := num_ok X p e.cut.toNat (encN (if e.forced then 1 else 0) ++ rest) (by omega) (by simp only [List.length_append]; omega)) (k := ?_); rintro v A' ⟨rfl, rfl⟩; simp only [List.cons_append, List.nil_append]; rw [Int.toNat_of_nonneg hf.2.2.1])) <;> (refine Wl_build (k := ?_); ((refine Wl_alloc (k := ?_); intro er)) <;> (refine Wl_storeR (ho' := rfl) (k := ?_); (refine Wl_nil (hK _ _ ?_); clear hK K)))))
      | (refine Wc_region (id := 6) ?_; intro K hK; refine Wl_move (k := ?_); ((refine Wl_call (hs := rflag_ok X p e.forced rest (by omega)) (k := ?_); rintro v A' ⟨rfl, rfl⟩; simp only [List.cons_append, List.nil_append])) <;> (refine Wl_fieldAddr (k := ?_); refine Wl_store (ho := rfl) (k := ?_); (refine Wl_nil (hK _ _ ?_); clear hK K)))
      | (refine Wc_region (id := 7) ?_; intro K hK; refine Wl_fieldAddr (k := ?_); refine Wl_load (k := ?_); refine Wl_loadR (k := ?_); ((refine Wl_lit1 (cs := epC e) (k := ?_); intro lr)) <;> (((refine Wl_append1 (hvl := by rfl) (hvc := by rfl) (hbd := by omega) (k := ?_); intro nb nc; rw [htk])) <;> (refine Wl_fieldAddr (k := ?_); refine Wl_store (ho := rfl) (k := ?_); (refine Wl_nil (hK _ _ ?_); clear hK K))))
      | (refine Wc_region (id := 8) ?_; intro K hK; refine Wl_add (k' := ?_); refine Wl_move (k := ?_); (refine Wl_nil (hK _ _ ?_); clear hK K))
      | (refine Wc_cond (ht := (fun ht => ?_)) (hf := (fun ht => ?_)) <;> (try simp at ht) <;> (try (exfalso; omega))))
    refine ⟨(k + 1, nb, nc), by show k + 1 ≤ t.length; omega, by show t.length - (k + 1) < t.length - k; omega, ⟨rfl, rfl, rfl, rfl, rfl, int_succ k, trivial⟩, ?_⟩
    simp only [hrest]
    (repeat (first | exact Ent.refl _ | exact Ent.nil | refine Ent.take (by (repeat (first | exact Out.head | apply Out.tail)); (first | done | fail)) ?_ | refine Ent.drop1 ?_))
  · obtain rfl : k = t.length := by omega
    simp only [List.drop_length, List.flatMap_nil, List.nil_append, List.take_length]
    refine Wc_ownF (a := kb) (sz := 3) (h0 := by omega) (h := fun hfb => ?_)
    repeat' (first
      | refine Wc_seq ?_
      | refine thenQ_normal ?_
      | refine Wc_cond_t (h := ?_)
      | refine Wc_cond_f (h := ?_)
      | refine Wc_ret ?_
      | refine thenQ_ret ?_
      | refine Wc_block ?_
      | refine blkQ_normal ?_
      | refine blkQ_ret ?_
      | refine Wc_exit ?_
      | refine thenQ_exit ?_
      | refine blkQ_hit ?_
      | refine blkQ_miss rfl ?_
      | refine Wc_skip ?_
      | refine Wc_label ?_
      | refine loopQ_exit ?_
      | refine loopQ_ret ?_
      | refine loopQ_normal ?_
      | (refine Wc_region (id := 4) ?_; intro K hK; refine Wl_lss (k' := ?_); (refine Wl_nil (hK _ _ ?_); clear hK K))
      | (refine Wc_region (id := 9) ?_; intro K hK; refine Wl_move (k := ?_); ((refine Wl_call (hs := count_ok X p kind 2 (encN target) hk (by omega) (by omega)) (k := ?_); rintro v A' ⟨rfl, rfl⟩; simp only [List.cons_append, List.nil_append]; rw [← List.append_nil (encN target)])) <;> (refine Wl_move (k := ?_); refine Wl_move (k := ?_); ((refine Wl_call (hs := count_ok X p target regions [] hg (by omega) (by simp)) (k := ?_); rintro v A' ⟨rfl, rfl⟩; simp only [List.cons_append, List.nil_append])) <;> (refine Wl_build (k := ?_); refine Wl_fieldAddr (k := ?_); refine Wl_storeR (ho' := rfl) (k := ?_); (refine Wl_nil (hK _ _ ?_); clear hK K))))
      | (refine Wc_drawF (id := 10) (M := ([cb kr [.slice kb t.length kc, .int .i64 (kind : Nat), .int .i64 (target : Nat)] 83])) (Ls := [37, 40, 43, 49, 50, 53, 54, 55]) (hp := (Pick.perm (by (repeat (first | exact Pick.nil | apply Pick.cons (by (repeat (first | exact Out.head | apply Out.tail)); (first | done | fail)))); (first | done | fail)))) (h := ?_); intro K hK; refine Wl_loadRF (k := ?_); refine Wl_move (k := ?_); ((refine Wl_call (hs := end_ok X p) (k := ?_); rintro v A' ⟨rfl, rfl⟩; simp only [List.cons_append, List.nil_append])) <;> (refine Wl_eql (k' := ?_); refine Wl_move (k := ?_); ((first | (refine Wl_guard (k := ?_); refine Wl_fieldAddr (k := ?_)) | refine Wl_gno (k := ?_) | ((refine Wl_split (yes := (fun ht => ?_)) (no := (fun ht => ?_)) <;> (try simp at ht) <;> (try (exfalso; omega))) <;> (first | (refine Wl_guard (k := ?_); refine Wl_fieldAddr (k := ?_)) | refine Wl_gno (k := ?_))))) <;> (((first | (refine Wl_guard (k := ?_); refine Wl_loadF (k := ?_)) | refine Wl_gno (k := ?_) | ((refine Wl_split (yes := (fun ht => ?_)) (no := (fun ht => ?_)) <;> (try simp at ht) <;> (try (exfalso; omega))) <;> (first | (refine Wl_guard (k := ?_); refine Wl_loadF (k := ?_)) | refine Wl_gno (k := ?_))))) <;> (((first | (refine Wl_guard (k := ?_); (refine Wl_call (hs := right_spec [own kb t.length kc 3 (epsC t) 40] t kb kc (hfb.rd (M := []) .head) (by omega)) (k := ?_); rintro v A' ⟨rfl, rfl⟩; simp only [List.cons_append, List.nil_append]; rw [hrt])) | refine Wl_gno (k := ?_) | ((refine Wl_split (yes := (fun ht => ?_)) (no := (fun ht => ?_)) <;> (try simp at ht) <;> (try (exfalso; omega))) <;> (first | (refine Wl_guard (k := ?_); (refine Wl_call (hs := right_spec [own kb t.length kc 3 (epsC t) 40] t kb kc (hfb.rd (M := []) .head) (by omega)) (k := ?_); rintro v A' ⟨rfl, rfl⟩; simp only [List.cons_append, List.nil_append]; rw [hrt])) | refine Wl_gno (k := ?_))))) <;> ((first | refine Wl_pick_t (k := ?_) | refine Wl_pick_f (k := ?_) | refine Wl_pick (k := ?_)); refine Wl_move (k := ?_); ((first | (refine Wl_guard (k := ?_); refine Wl_fieldAddr (k := ?_)) | refine Wl_gno (k := ?_) | ((refine Wl_split (yes := (fun ht => ?_)) (no := (fun ht => ?_)) <;> (try simp at ht) <;> (try (exfalso; omega))) <;> (first | (refine Wl_guard (k := ?_); refine Wl_fieldAddr (k := ?_)) | refine Wl_gno (k := ?_))))) <;> (((first | (refine Wl_guard (k := ?_); refine Wl_fieldAddr (k := ?_)) | refine Wl_gno (k := ?_) | ((refine Wl_split (yes := (fun ht => ?_)) (no := (fun ht => ?_)) <;> (try simp at ht) <;> (try (exfalso; omega))) <;> (first | (refine Wl_guard (k := ?_); refine Wl_fieldAddr (k := ?_)) | refine Wl_gno (k := ?_))))) <;> (((first | (refine Wl_guard (k := ?_); refine Wl_loadF (k := ?_)) | refine Wl_gno (k := ?_) | ((refine Wl_split (yes := (fun ht => ?_)) (no := (fun ht => ?_)) <;> (try simp at ht) <;> (try (exfalso; omega))) <;> (first | (refine Wl_guard (k := ?_); refine Wl_loadF (k := ?_)) | refine Wl_gno (k := ?_))))) <;> (((first | (refine Wl_guard (k := ?_); refine Wl_eql (k' := ?_)) | refine Wl_gno (k := ?_) | ((refine Wl_split (yes := (fun ht => ?_)) (no := (fun ht => ?_)) <;> (try simp at ht) <;> (try (exfalso; omega))) <;> (first | (refine Wl_guard (k := ?_); refine Wl_eql (k' := ?_)) | refine Wl_gno (k := ?_))))) <;> (((first | (refine Wl_guard (k := ?_); refine Wl_fieldAddr (k := ?_)) | refine Wl_gno (k := ?_) | ((refine Wl_split (yes := (fun ht => ?_)) (no := (fun ht => ?_)) <;> (try simp at ht) <;> (try (exfalso; omega))) <;> (first | (refine Wl_guard (k := ?_); refine Wl_fieldAddr (k := ?_)) | refine Wl_gno (k := ?_))))) <;> (((first | (refine Wl_guard (k := ?_); refine Wl_fieldAddr (k := ?_)) | refine Wl_gno (k := ?_) | ((refine Wl_split (yes := (fun ht => ?_)) (no := (fun ht => ?_)) <;> (try simp at ht) <;> (try (exfalso; omega))) <;> (first | (refine Wl_guard (k := ?_); refine Wl_fieldAddr (k := ?_)) | refine Wl_gno (k := ?_))))) <;> (((first | (refine Wl_guard (k := ?_); refine Wl_loadF (k := ?_)) | refine Wl_gno (k := ?_) | ((refine Wl_split (yes := (fun ht => ?_)) (no := (fun ht => ?_)) <;> (try simp at ht) <;> (try (exfalso; omega))) <;> (first | (refine Wl_guard (k := ?_); refine Wl_loadF (k := ?_)) | refine Wl_gno (k := ?_))))) <;> (((first | (refine Wl_guard (k := ?_); refine Wl_eql (k' := ?_)) | refine Wl_gno (k := ?_) | ((refine Wl_split (yes := (fun ht => ?_)) (no := (fun ht => ?_)) <;> (try simp at ht) <;> (try (exfalso; omega))) <;> (first | (refine Wl_guard (k := ?_); refine Wl_eql (k' := ?_)) | refine Wl_gno (k := ?_))))) <;> (((first | (refine Wl_guard (k := ?_); (refine Wl_bool_eql (hU := Try.underlying4) (k' := ?_); rw [hpl])) | refine Wl_gno (k := ?_) | ((refine Wl_split (yes := (fun ht => ?_)) (no := (fun ht => ?_)) <;> (try simp at ht) <;> (try (exfalso; omega))) <;> (first | (refine Wl_guard (k := ?_); (refine Wl_bool_eql (hU := Try.underlying4) (k' := ?_); rw [hpl])) | refine Wl_gno (k := ?_))))) <;> ((first | refine Wl_pick_t (k := ?_) | refine Wl_pick_f (k := ?_) | refine Wl_pick (k := ?_)); refine Wl_storeR (ho' := rfl) (k := ?_); refine Wl_assign (k := ?_); (refine Wl_nil (hK _ _ ?_); clear hK K; try simp only [List.cons_append, List.nil_append])))))))))))))))
      | (refine Wc_cond (ht := (fun ht => ?_)) (hf := (fun ht => ?_)) <;> (try simp at ht) <;> (try (exfalso; omega))))
    refine ⟨Or.inr rfl, _, own kb t.length kc 3 (epsC t) 40 :: A0, ?_, resG rfl (by (repeat (first | exact ResL.nil | apply ResL.tmp (by (repeat (first | exact Ev.here | exact Ev.const | exact Ev.arg rfl | apply Ev.there rfl | exact Ev.none rfl | exact Ev.func | exact Ev.var)); (first | done | fail)) | apply ResL.agg (by (repeat (first | exact Ev.here | exact Ev.const | exact Ev.arg rfl | apply Ev.there rfl | exact Ev.none rfl | exact Ev.func | exact Ev.var)); (first | done | fail)) (by (repeat (first | exact Rd.head | exact Rd.base (by assumption) | apply Rd.tail)); (first | done | fail)) (by (repeat (first | exact TakeR.nil | apply TakeR.take | apply TakeR.skip)); (first | done | fail)) | apply ResL.cell (by (repeat (first | exact Ev.here | exact Ev.const | exact Ev.arg rfl | apply Ev.there rfl | exact Ev.none rfl | exact Ev.func | exact Ev.var)); (first | done | fail)) (by (repeat (first | exact Rd.head | exact Rd.base (by assumption) | apply Rd.tail)); (first | done | fail)) rfl)); (first | done | fail)) rfl, kb, kc, rfl, rfl⟩
    (repeat (first | exact Ent.refl _ | exact Ent.nil | refine Ent.take (by (repeat (first | exact Out.head | apply Out.tail)); (first | done | fail)) ?_ | refine Ent.drop1 ?_))
/-- Open of a disk whose last record is a controller's. -/
theorem copen_recs (d n : Nat) (D : Dk) (hD : D.ok n) (hn4 : 4 ≤ n) (hdn : D.down = false) (recs : List (List UInt8)) (lap : Nat) (half : Int) (hO : openN D.seen (n / 2) 2 = (recs, lap, half)) (first regions : Nat) (h1 : 1 ≤ first ∧ first ≤ regions) (h2 : regions ≤ 4)
    (t : List Ep) (kind target : Nat) (hlast : recs.getLast? = some (encK t (kind : Int) (target : Int))) (hrt : rightT t = true) (hk : kind ≤ 2) (hg : target ≤ regions) (hkg : kind = 0 ↔ target = 0)
    (J' : Jn) (D' : Dk) (hS : startV ⟨n / 2, half, 0, 0, 0, false, false⟩ D (encK t (kind : Int) (target : Int)) = (0, J', D')) (hp : D.pend.length + n ≤ 999999) (hs : D.steps + n ≤ 4611686018427387902) (hrl : recs.length ≤ 1000000) :
    Fspec Try.prog B 7 #[.pointer (some ⟨d, 0, none⟩), .int .i64 first, .int .i64 regions] [DiskP d n D]
      (fun v A' => ∃ c, v = .tuple #[.pointer (some ⟨c, 0, none⟩), .int .i64 0] ∧ A' = [CtP c d n ⟨t, kind, target, regions, fun _ => Rp.zero, false⟩ J' D']) := by
  have hop := open_spec (B := B) d n D hD hn4 hdn
  rw [hO] at hop
  obtain ⟨rc, hrc⟩ : ∃ rc, encK t (kind : Int) (target : Int) = rc := ⟨_, rfl⟩
  have hlen := encK_len (t := t) (kind := (kind : Int)) (target := (target : Int)) (fun e he => fair_enc ((rightT_out hrt).2.2.1 e he)) (by have := (rightT_out hrt).2.1; omega) (by omega) (by omega)
  have h64 := (rightT_out hrt).2.1
  rw [hrc] at hS hlen hlast
  refine spec_of (args := [_, _, _]) Try.func7 rfl rfl rfl ?_
  repeat' (first
    | refine Wc_seq ?_
    | refine thenQ_normal ?_
    | refine Wc_cond_t (h := ?_)
    | refine Wc_cond_f (h := ?_)
    | refine Wc_ret ?_
    | refine thenQ_ret ?_
    | refine Wc_block ?_
    | refine blkQ_normal ?_
    | refine blkQ_ret ?_
    | refine Wc_exit ?_
    | refine thenQ_exit ?_
    | refine blkQ_hit ?_
    | refine blkQ_miss rfl ?_
    | refine Wc_skip ?_
    | refine Wc_label ?_
    | refine loopQ_exit ?_
    | refine loopQ_ret ?_
    | refine loopQ_normal ?_
    | (refine Wc_region (id := 0) ?_; intro K hK; refine Wl_assign (k := ?_); refine Wl_assign (k := ?_); (refine Wl_nil (hK _ _ ?_); clear hK K))
    | (refine Wc_region (id := 1) ?_; intro K hK; refine Wl_move (k := ?_); refine Wl_lss (k' := ?_); refine Wl_move (k := ?_); ((first | (refine Wl_guard (k := ?_); refine Wl_move (k := ?_)) | refine Wl_gno (k := ?_) | ((refine Wl_split (yes := (fun ht => ?_)) (no := (fun ht => ?_)) <;> (try simp at ht) <;> (try (exfalso; omega))) <;> (first | (refine Wl_guard (k := ?_); refine Wl_move (k := ?_)) | refine Wl_gno (k := ?_))))) <;> (((first | (refine Wl_guard (k := ?_); refine Wl_gtr (k' := ?_)) | refine Wl_gno (k := ?_) | ((refine Wl_split (yes := (fun ht => ?_)) (no := (fun ht => ?_)) <;> (try simp at ht) <;> (try (exfalso; omega))) <;> (first | (refine Wl_guard (k := ?_); refine Wl_gtr (k' := ?_)) | refine Wl_gno (k := ?_))))) <;> ((first | refine Wl_pick_t (k := ?_) | refine Wl_pick_f (k := ?_) | refine Wl_pick (k := ?_)); refine Wl_move (k := ?_); ((first | (refine Wl_guard (k := ?_); refine Wl_move (k := ?_)) | refine Wl_gno (k := ?_) | ((refine Wl_split (yes := (fun ht => ?_)) (no := (fun ht => ?_)) <;> (try simp at ht) <;> (try (exfalso; omega))) <;> (first | (refine Wl_guard (k := ?_); refine Wl_move (k := ?_)) | refine Wl_gno (k := ?_))))) <;> (((first | (refine Wl_guard (k := ?_); refine Wl_lss (k' := ?_)) | refine Wl_gno (k := ?_) | ((refine Wl_split (yes := (fun ht => ?_)) (no := (fun ht => ?_)) <;> (try simp at ht) <;> (try (exfalso; omega))) <;> (first | (refine Wl_guard (k := ?_); refine Wl_lss (k' := ?_)) | refine Wl_gno (k := ?_))))) <;> ((first | refine Wl_pick_t (k := ?_) | refine Wl_pick_f (k := ?_) | refine Wl_pick (k := ?_)); refine Wl_move (k := ?_); ((first | (refine Wl_guard (k := ?_); refine Wl_move (k := ?_)) | refine Wl_gno (k := ?_) | ((refine Wl_split (yes := (fun ht => ?_)) (no := (fun ht => ?_)) <;> (try simp at ht) <;> (try (exfalso; omega))) <;> (first | (refine Wl_guard (k := ?_); refine Wl_move (k := ?_)) | refine Wl_gno (k := ?_))))) <;> (((first | (refine Wl_guard (k := ?_); refine Wl_move (k := ?_)) | refine Wl_gno (k := ?_) | ((refine Wl_split (yes := (fun ht => ?_)) (no := (fun ht => ?_)) <;> (try simp at ht) <;> (try (exfalso; omega))) <;> (first | (refine Wl_guard (k := ?_); refine Wl_move (k := ?_)) | refine Wl_gno (k := ?_))))) <;> (((first | (refine Wl_guard (k := ?_); refine Wl_gtr (k' := ?_)) | refine Wl_gno (k := ?_) | ((refine Wl_split (yes := (fun ht => ?_)) (no := (fun ht => ?_)) <;> (try simp at ht) <;> (try (exfalso; omega))) <;> (first | (refine Wl_guard (k := ?_); refine Wl_gtr (k' := ?_)) | refine Wl_gno (k := ?_))))) <;> ((first | refine Wl_pick_t (k := ?_) | refine Wl_pick_f (k := ?_) | refine Wl_pick (k := ?_)); (refine Wl_nil (hK _ _ ?_); clear hK K)))))))))
    | (refine Wc_region (id := 2) ?_; intro K hK; refine Wl_assign (k := ?_); refine Wl_assign (k := ?_); (refine Wl_nil (hK _ _ ?_); clear hK K))
    | (refine Wc_region (id := 3) ?_; intro K hK; refine Wl_move (k := ?_); ((refine Wl_call (hs := hop) (k := ?_); rintro v A' ⟨j, la, lc, xs, hxs, rfl, rfl⟩; simp only [RecsP]; simp only [List.cons_append, List.nil_append]; refine Wl_ownF (a := la) (sz := 1) (h0 := by omega) (h := fun hfl => ?_); obtain ⟨x, hx1, hx2, hx3, hx4⟩ := last_row (xs := xs) (rc := rc) ((congrArg List.getLast? (show recsOf xs = recs from hxs)).trans hlast); obtain ⟨lp, rfl⟩ := hfl.some hx4; have hxl : xs.length ≤ 1000000 := by (have hx5 : recsOf xs = recs := hxs; rw [← hx5] at hrl; simpa [recsOf] using hrl))) <;> (refine Wl_move (k := ?_); refine Wl_extract (k' := ?_); refine Wl_extract (k' := ?_); refine Wl_extract (k' := ?_); refine Wl_assign (k := ?_); refine Wl_assign (k := ?_); refine Wl_assign (k := ?_); (refine Wl_nil (hK _ _ ?_); clear hK K)))
    | (refine Wc_region (id := 4) ?_; intro K hK; refine Wl_move (k := ?_); refine Wl_neq (k' := ?_); (refine Wl_nil (hK _ _ ?_); clear hK K))
    | (refine Wc_region (id := 5) ?_; intro K hK; refine Wl_move (k := ?_); refine Wl_assign (k := ?_); refine Wl_assign (k := ?_); (refine Wl_nil (hK _ _ ?_); clear hK K))
    | (refine Wc_region (id := 6) ?_; intro K hK; refine Wl_move (k := ?_); refine Wl_build (k := ?_); ((refine Wl_lit1 (cs := epsC [⟨first, 0, false⟩]) (k := ?_); intro lr; refine Wl_ent (own_shut lr 1 1 3 (epsC [⟨first, 0, false⟩]) [] 40 _ rfl rfl) ?_)) <;> (refine Wl_build (k := ?_); ((refine Wl_alloc (k := ?_); intro kr)) <;> (refine Wl_storeR (ho' := rfl) (k := ?_); (refine Wl_nil (hK _ _ ?_); clear hK K))))
    | (refine Wc_region (id := 7) ?_; intro K hK; refine Wl_move (k := ?_); refine Wl_len_sl (k' := ?_); ((refine Wl_gtr (k' := ?_); rw [decide_eq_true (show (0 : Int) < ((xs.length : Nat) : Int) by omega)])) <;> ((refine Wl_nil (hK _ _ ?_); clear hK K)))
    | (refine Wc_region (id := 8) ?_; intro K hK; refine Wl_assign (k := ?_); (refine Wl_nil (hK _ _ ?_); clear hK K))
    | (refine Wc_region (id := 9) ?_; intro K hK; refine Wl_move (k := ?_); refine Wl_move (k := ?_); refine Wl_len_sl (k' := ?_); ((refine Wl_sub (k' := ?_); rw [show ((xs.length : Nat) : Int) - 1 = ((xs.length - 1 : Nat) : Int) by omega])) <;> (((refine Wl_index_any (k' := ?_))) <;> (((refine Wl_loadG (v := rowV x) (j := xs.length - 1) (hq := by rw [Int.toNat_natCast, Nat.mul_one]) (hr := hfl.rd (by (repeat (first | exact Out.head | apply Out.tail)); (first | done | fail))) (hv := by rw [List.getElem?_map, hx1]; rfl) (k := ?_); refine Wl_rowsF (xs := xs) (by (repeat (first | exact Out.head | apply Out.tail)); (first | done | fail)) (fun hrow => ?_))) <;> (refine Wl_move (k := ?_); ((refine Wl_call (hs := cread_spec [RowsP xs] t kind target regions x.1 x.2.2.length x.2.1 (by rw [hrc, ← hx2]; exact row_rd hx3 (hrow x hx3) (Ent.refl _)) hrt hk hg h2 hkg) (k := ?_); rintro v A' ⟨b, bc, rfl, rfl⟩; simp only [List.cons_append, List.nil_append]; refine Wl_ownF (a := b) (sz := 3) (h0 := by omega) (h := fun hfk => ?_))) <;> (refine Wl_move (k := ?_); refine Wl_extract (k' := ?_); refine Wl_extract (k' := ?_); refine Wl_storeR (ho' := rfl) (k := ?_); refine Wl_assign (k := ?_); (refine Wl_nil (hK _ _ ?_); clear hK K))))))
    | (refine Wc_region (id := 10) ?_; intro K hK; refine Wl_move (k := ?_); refine Wl_not (k' := ?_); (refine Wl_nil (hK _ _ ?_); clear hK K))
    | (refine Wc_region (id := 11) ?_; intro K hK; refine Wl_assign (k := ?_); refine Wl_assign (k := ?_); (refine Wl_nil (hK _ _ ?_); clear hK K))
    | (refine Wc_region (id := 12) ?_; intro K hK; refine Wl_move (k := ?_); refine Wl_loadR (k := ?_); ((refine Wl_call (hs := by have := kbytes_spec (B := B) [own b t.length bc 3 (epsC t) 40] t (kind : Int) (target : Int) b bc (hfk.rd (M := []) .head) h64 (rightT_out hrt).2.2.1 (by omega) (by omega); rw [hrc] at this; exact this) (k := ?_); rintro v A' ⟨ob, oc, rfl, rfl⟩; simp only [List.cons_append, List.nil_append]; refine Wl_ownF (a := ob) (sz := 1) (h0 := by omega) (h := fun hfb => ?_))) <;> (((refine Wl_call (hs := start_spec j d n ⟨n / 2, half, 0, 0, 0, false, false⟩ D hD rfl hdn rfl (own ob rc.length oc 1 (rc.map byteV) 5) ob rc.length oc rc (hfb.rd (M := []) (by (repeat (first | exact Out.head | apply Out.tail)); (first | done | fail))) (by omega) hp hs) (k := ?_); rintro v A' ⟨rfl, rfl⟩; simp only [List.cons_append, List.nil_append]; rw [hS])) <;> (refine Wl_assign (k := ?_); (refine Wl_nil (hK _ _ ?_); clear hK K))))
    | (refine Wc_region (id := 13) ?_; intro K hK; refine Wl_move (k := ?_); refine Wl_neq (k' := ?_); (refine Wl_nil (hK _ _ ?_); clear hK K))
    | (refine Wc_region (id := 14) ?_; intro K hK; refine Wl_move (k := ?_); refine Wl_assign (k := ?_); refine Wl_assign (k := ?_); (refine Wl_nil (hK _ _ ?_); clear hK K))
    | (refine Wc_region (id := 15) ?_; intro K hK; refine Wl_loadR (k := ?_); refine Wl_move (k := ?_); refine Wl_move (k := ?_); refine Wl_build (k := ?_); (refine Wl_boxAgg (k := ?_); intro r); refine Wl_assign (k := ?_); refine Wl_assign (k := ?_); (refine Wl_nil (hK _ _ ?_); clear hK K))
    | (refine Wc_cond (ht := (fun ht => ?_)) (hf := (fun ht => ?_)) <;> (try simp at ht) <;> (try (exfalso; omega))))
  refine ⟨Or.inr rfl, _, [CtP r d n ⟨t, kind, target, regions, fun _ => Rp.zero, false⟩ J' D'], ?_, res2 rfl rfl rfl, r, rfl, rfl⟩
  refine fold_ct (a := b) (cap := bc) (j := j) ?_
  refine Ent.trans (M := [cb r (CtC b bc j ⟨t, kind, target, regions, fun _ => Rp.zero, false⟩) 95, cb j (JC d J') 107, DiskP d n D', own b t.length bc 3 (epsC t) 40]) ?_ ?_
  · (repeat (first | exact Ent.refl _ | exact Ent.nil | refine Ent.take (by (repeat (first | exact Out.head | apply Out.tail)); (first | done | fail)) ?_ | refine Ent.drop1 ?_))
  · simp only [CtL]
    simp only [List.cons_append, List.nil_append]
    (repeat (first | exact Ent.refl _ | exact Ent.nil | refine Ent.take (by (repeat (first | exact Out.head | apply Out.tail)); (first | done | fail)) ?_ | refine Ent.drop1 ?_))
end specs
end Go.Proofs.Ytepeljbgekgjcaa
/- Layer 24: Ask, Take and Open where the power may go. Conditions: few operations. -/
set_option maxHeartbeats 8000000
set_option linter.unusedVariables false
set_option linter.unusedSimpArgs false
set_option maxRecDepth 100000
namespace Go.Proofs.Ytepeljbgekgjcaa
open Go Go.Sl
attribute [local irreducible] Go.Sl.Wl Go.Sl.Wc Go.Sl.thenQ Go.Sl.blkQ Go.Sl.loopQ Go.Sl.Fspec

theorem fused_back {n : Nat} {st : Int} {D : Dk} (h : Calm n st D) (F : Int) : (D.fused F).fused (-1) = D := by
  have := h.fuse
  cases D
  simp only at this
  subst this
  simp [Dk.fused]
theorem JR.ready {n k : Nat} {recs : List (List UInt8)} {J : Jn} {D : Dk} (h : JR n k recs J D) (hk : k ≤ 1000) (F : Int) (hF : F ≤ 9223372036854775807) : JReady J (D.fused F) n := by
  have := h.jk.ready hk
  exact ⟨Dk.fused_ok this.ok hF, this.down, this.size, this.over, this.started, this.half, this.at_, this.number, this.pend, this.steps⟩
theorem JR.mono {n k k' : Nat} {recs : List (List UInt8)} {J : Jn} {D : Dk} (h : JR n k recs J D) (hk : k ≤ k') : JR n k' recs J D :=
  ⟨h.calm.mono (by have := Nat.mul_le_mul_right (n + 1) hk; omega), h.size, h.over, h.started, h.live, by have := h.lap; omega, h.num.1, by have := h.num.2; omega⟩
theorem CR.mono {n k k' : Nat} {C : Ct} {J : Jn} {D : Dk} (h : CR n k C J D) (hk : k ≤ k') : CR n k' C J D := by
  obtain ⟨recs, h1, h2⟩ := h.jr
  exact ⟨h.ok, h.up, recs, h1, h2.mono hk⟩
theorem CR.back {n k : Nat} {C : Ct} {J : Jn} {D : Dk} (h : CR n k C J D) (F : Int) : CR n k C J ((D.fused F).fused (-1)) := by
  obtain ⟨recs, h1, h2⟩ := h.jr
  rw [fused_back h2.calm]; exact h
theorem CR.ready {n k : Nat} {C : Ct} {J : Jn} {D : Dk} (h : CR n k C J D) (hk : k ≤ 1000) (F : Int) (hF : F ≤ 9223372036854775807) : JReady J (D.fused F) n := by
  obtain ⟨recs, h1, h2⟩ := h.jr
  exact h2.ready hk F hF
/-- A controller as it is opened. -/
def Ct.of (t : List Ep) (kind target regions : Nat) : Ct := ⟨t, kind, target, regions, fun _ => Rp.zero, false⟩
/-- An Ask, whatever power there is. -/
theorem CR.ask {n k : Nat} {C : Ct} {J : Jn} {D : Dk} (h : CR n k C J D) (h32 : 32 ≤ n) (hk : k ≤ 200) (F : Int) (hF : F ≤ 9223372036854775807) (kind target : Int) :
    ∃ e C' J' D', askV C J (D.fused F) kind target = (e, C', J', D') ∧ C'.regions = C.regions ∧
      ((CR n (k + 1) C' J' (D'.fused (-1)) ∧ C'.table = C.table) ∨
       (e = 7 ∧ C' = { C with over := true } ∧ (∃ kn tn : Nat, kind = kn ∧ target = tn ∧ (Ct.of C.table kn tn C.regions).ok ∧ Either n (k + 1) D' C C.table kn tn))) := by
  have hreg := h.ok.regs
  have same : ∀ e : Int, ∃ e' C' J' D', (e, C, J, D.fused F) = (e', C', J', D') ∧ C'.regions = C.regions ∧ ((CR n (k + 1) C' J' (D'.fused (-1)) ∧ C'.table = C.table) ∨
       (e' = 7 ∧ C' = { C with over := true } ∧ (∃ kn tn : Nat, kind = kn ∧ target = tn ∧ (Ct.of C.table kn tn C.regions).ok ∧ Either n (k + 1) D' C C.table kn tn))) :=
    fun e => ⟨e, C, J, D.fused F, rfl, rfl, .inl ⟨(h.back F).mono (by omega), rfl⟩⟩
  unfold askV
  rw [if_neg (by rw [h.up]; simp)]
  by_cases h2 : (kind ≠ 1 ∧ kind ≠ 2) ∨ target < 1 ∨ (C.regions : Int) < target
  · rw [if_pos h2]; exact same 1
  rw [if_neg h2]
  by_cases h3 : C.kind ≠ 0 ∧ kind ≠ 2
  · rw [if_pos h3]; exact same 4
  rw [if_neg h3]
  by_cases h4 : 64 ≤ C.table.length
  · rw [if_pos h4]; exact same 15
  rw [if_neg h4]
  obtain ⟨kn, rfl⟩ := Int.eq_ofNat_of_zero_le (show 0 ≤ kind by omega)
  obtain ⟨tn, rfl⟩ := Int.eq_ofNat_of_zero_le (show 0 ≤ target by omega)
  rw [Int.toNat_natCast, Int.toNat_natCast]
  have hok : (Ct.of C.table kn tn C.regions).ok := ⟨h.ok.right, h.ok.regs, by show kn ≤ 2; omega, by show tn ≤ C.regions; omega, by show kn = 0 ↔ tn = 0; omega, h.ok.mast⟩
  rcases h.keep h32 hk F hF C.table kn tn h.ok.right (by omega) (by omega) with ⟨e1, recs, e2, e3⟩ | ⟨e1, e2⟩
  · exact ⟨0, C.kept 0 C.table kn tn, _, _, e1, rfl, .inl ⟨⟨⟨hok.right, hok.regs, hok.kind, hok.target, hok.plan, hok.mast⟩, h.up, recs, e2, e3⟩, rfl⟩⟩
  · exact ⟨7, { C with over := true }, _, _, e1, rfl, .inr ⟨rfl, rfl, kn, tn, rfl, rfl, hok, e2⟩⟩
theorem ready_mast {C : Ct} (h : C.ok) (hr : C.ready.2 = true) : C.ready.1.master = (C.target : Int) ∧ 1 ≤ C.target ∧ C.target ≤ C.regions := by
  have hp := h.plan; have ht := h.target
  unfold Ct.ready at hr ⊢
  by_cases h1 : C.kind = 1
  · rw [if_pos h1]; exact ⟨rfl, by omega, ht⟩
  · rw [if_neg h1] at hr ⊢
    by_cases h2 : C.kind = 2
    · rw [if_pos h2]; exact ⟨rfl, by omega, ht⟩
    · rw [if_neg h2] at hr; cases hr
/-- A Take, whatever power there is. -/
theorem CR.take {n k : Nat} {C : Ct} {J : Jn} {D : Dk} (h : CR n k C J D) (h32 : 32 ≤ n) (hk : k ≤ 200) (F : Int) (hF : F ≤ 9223372036854775807) (kind from_ config : Int) (closed : Bool) (ep ix : Int) :
    ∃ b C' J' D', takeV C J (D.fused F) kind from_ config closed ep ix = (b, C', J', D') ∧ C'.regions = C.regions ∧
      ((CR n (k + 1) C' J' (D'.fused (-1)) ∧ (C'.table = C.table ∨ ∃ e, C'.table = C.table ++ [e])) ∨
       (C'.over = true ∧ C'.table = C.table ∧ C'.kind = C.kind ∧ C'.target = C.target ∧ C'.ok ∧ (∃ e, (Ct.of (C.table ++ [e]) 0 0 C.regions).ok ∧ Either n (k + 1) D' C (C.table ++ [e]) 0 0))) := by
  unfold takeV
  by_cases h1 : C.over = true ∨ kind ≠ 5 ∨ from_ < 1 ∨ (C.regions : Int) < from_ ∨ config ≠ C.table.length
  · rw [if_pos h1]; exact ⟨false, C, J, D.fused F, rfl, rfl, .inl ⟨(h.back F).mono (by omega), .inl rfl⟩⟩
  rw [if_neg h1]
  have hc1 : CR n k (C.told from_.toNat closed ep ix) J D := ⟨h.ok.told _ _ _ _, h.up, h.jr⟩
  have hEi : ∀ D' t kd tg, Either n (k + 1) D' (C.told from_.toNat closed ep ix) t kd tg → Either n (k + 1) D' C t kd tg := fun _ _ _ _ h => h
  have hkd : (C.told from_.toNat closed ep ix).kind = C.kind := rfl
  have htg : (C.told from_.toNat closed ep ix).target = C.target := rfl
  have htb : (C.told from_.toNat closed ep ix).table = C.table := rfl
  have hrg : (C.told from_.toNat closed ep ix).regions = C.regions := rfl
  generalize C.told from_.toNat closed ep ix = C1 at hc1 hEi hkd htg htb hrg ⊢
  unfold tookV
  cases hr : C1.ready.2 with
  | false => exact ⟨true, C1, J, D.fused F, by simp, hrg, .inl ⟨(hc1.back F).mono (by omega), .inl htb⟩⟩
  | true =>
    rw [if_neg (by simp), htb]
    obtain ⟨hm1, hm2, hm3⟩ := ready_mast hc1.ok hr
    cases hR : rightT (C.table ++ [C1.ready.1]) with
    | false => exact ⟨true, C1, J, D.fused F, by simp, hrg, .inl ⟨(hc1.back F).mono (by omega), .inl htb⟩⟩
    | true =>
      rw [if_pos rfl]
      have hok : (Ct.of (C.table ++ [C1.ready.1]) 0 0 C.regions).ok := by
        refine ⟨hR, h.ok.regs, by show 0 ≤ 2; omega, by show 0 ≤ C.regions; omega, by show (0 : Nat) = 0 ↔ (0 : Nat) = 0; simp, fun e he => ?_⟩
        show e.master ≤ (C.regions : Int)
        rcases List.mem_append.1 he with he | he
        · exact h.ok.mast e he
        · simp at he; subst he; omega
      rcases hc1.keep h32 hk F hF (C.table ++ [C1.ready.1]) 0 0 hR (by omega) (by omega) with ⟨e1, recs, e2, e3⟩ | ⟨e1, e2⟩
      · refine ⟨true, (C1.kept 0 (C.table ++ [C1.ready.1]) 0 0).fresh, _, _, ?_, hrg, .inl ⟨⟨⟨hok.right, by show 1 ≤ C1.regions ∧ C1.regions ≤ 4; rw [hrg]; exact h.ok.regs, hok.kind, by show 0 ≤ C1.regions; omega, hok.plan, fun e he => by show e.master ≤ (C1.regions : Int); rw [hrg]; exact hok.mast e he⟩, hc1.up, recs, e2, e3⟩, .inr ⟨_, rfl⟩⟩⟩
        have hz : (keepV C1 J (D.fused F) (C.table ++ [C1.ready.1]) 0 0).1 = 0 := by rw [e1]
        rw [if_pos hz]
      · refine ⟨true, { C1 with over := true }, (keepV C1 J (D.fused F) (C.table ++ [C1.ready.1]) 0 0).2.2.1, (keepV C1 J (D.fused F) (C.table ++ [C1.ready.1]) 0 0).2.2.2, ?_, hrg, .inr ⟨rfl, htb, hkd, htg, ⟨hc1.ok.right, hc1.ok.regs, hc1.ok.kind, hc1.ok.target, hc1.ok.plan, hc1.ok.mast⟩, _, hok, hEi _ _ _ _ e2⟩⟩
        have hz : (keepV C1 J (D.fused F) (C.table ++ [C1.ready.1]) 0 0).1 = 7 := by rw [e1]
        rw [if_neg (by rw [hz]; decide), hz]; simp [Ct.kept]
section specs
variable {B : Base}
/-- Open behind a crash. -/
theorem copen_crash (d n k : Nat) (D : Dk) (C : Ct) (t : List Ep) (kind target : Nat) (hE : Either n k D C t kind target) (hC : (Ct.of C.table C.kind C.target C.regions).ok) (hN : (Ct.of t kind target C.regions).ok) (ch : List UInt8) (first : Nat) (h1 : 1 ≤ first ∧ first ≤ C.regions) (h32 : 32 ≤ n) (hk : k ≤ 201) :
    Fspec Try.prog B 7 #[.pointer (some ⟨d, 0, none⟩), .int .i64 first, .int .i64 C.regions] [DiskP d n (D.crash ch)]
      (fun v A' => ∃ c t' kd tg J' D', v = .tuple #[.pointer (some ⟨c, 0, none⟩), .int .i64 0] ∧ ((t' = C.table ∧ kd = C.kind ∧ tg = C.target) ∨ (t' = t ∧ kd = kind ∧ tg = target)) ∧
        CR n (k + 1) (Ct.of t' kd tg C.regions) J' D' ∧ A' = [CtP c d n (Ct.of t' kd tg C.regions) J' D']) := by
  have hreg : 1 ≤ C.regions ∧ C.regions ≤ 4 := hC.regs
  have key : ∀ t' kd tg, (Ct.of t' kd tg C.regions).ok → ∀ recs lap half, Found n k (D.crash ch) recs lap half → recs.getLast? = some (encK t' (kd : Int) (tg : Int)) → ((t' = C.table ∧ kd = C.kind ∧ tg = C.target) ∨ (t' = t ∧ kd = kind ∧ tg = target)) →
      Fspec Try.prog B 7 #[.pointer (some ⟨d, 0, none⟩), .int .i64 first, .int .i64 C.regions] [DiskP d n (D.crash ch)]
      (fun v A' => ∃ c t' kd tg J' D', v = .tuple #[.pointer (some ⟨c, 0, none⟩), .int .i64 0] ∧ ((t' = C.table ∧ kd = C.kind ∧ tg = C.target) ∨ (t' = t ∧ kd = kind ∧ tg = target)) ∧
        CR n (k + 1) (Ct.of t' kd tg C.regions) J' D' ∧ A' = [CtP c d n (Ct.of t' kd tg C.regions) J' D']) := by
    intro t' kd tg hok recs lap half hF hlast hor
    have hn := hF.calm.ok.n
    have hb := JK.bound hn.2 (show k ≤ 1000 by omega)
    have hst := hF.calm.steps
    have hkd : kd ≤ 2 := hok.kind
    have htg : tg ≤ C.regions := hok.target
    obtain ⟨J', D', hS, hj⟩ := hF.start h32 hk (encK t' (kd : Int) (tg : Int)) (enc_few hok.right (by omega) (by omega))
    refine (copen_recs d n (D.crash ch) hF.calm.ok (by omega) hF.calm.down recs lap half hF.op first C.regions h1 (by omega) t' kd tg hlast hok.right hkd htg hok.plan J' D' hS (by rw [hF.calm.pend]; simp; omega) (by omega) (by have := hF.few; omega)).conv ?_
    rintro v A' ⟨c, rfl, rfl⟩
    exact ⟨_, Ent.refl _, c, t', kd, tg, J', D', rfl, hor, ⟨hok, rfl, _, rfl, hj⟩, rfl⟩
  obtain ⟨recs, lap, half, hF, hl | hl⟩ := hE.2 ch
  · exact key C.table C.kind C.target hC recs lap half hF hl (.inl ⟨rfl, rfl, rfl⟩)
  · exact key t kind target hN recs lap half hF hl (.inr ⟨rfl, rfl, rfl⟩)
end specs
end Go.Proofs.Ytepeljbgekgjcaa
