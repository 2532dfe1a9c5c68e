/- Package journal: Start, Append, Room, Lap. Conditions: sizes far from the kind's edges. -/
import Derived.Test.YtepeljbgekgjcaaJour6
set_option maxHeartbeats 8000000
set_option linter.unusedVariables false
set_option linter.unusedSimpArgs false
set_option maxRecDepth 100000
namespace Go.Proofs.Ytepeljbgekgjcaa
open Go Go.Sl
attribute [local irreducible] Go.Sl.Wl Go.Sl.Wc Go.Sl.thenQ Go.Sl.blkQ Go.Sl.loopQ Go.Sl.Fspec

section specs
variable {B : Base}
theorem start_nil (a : Option Addr) (m c : Nat) : Fspec Try.prog B 21 #[.pointer none, .slice a m c] [] (fun v A' => v = .int .i64 1 ∧ A' = []) := by
  refine spec_of (args := [_, _]) Try.func21 rfl rfl rfl ?_
  repeat' (first
    | refine Wc_seq ?_
    | refine thenQ_normal ?_
    | refine Wc_cond_t (h := ?_)
    | refine Wc_cond_f (h := ?_)
    | refine Wc_ret ?_
    | refine thenQ_ret ?_
    | refine Wc_block ?_
    | refine blkQ_normal ?_
    | refine blkQ_ret ?_
    | refine Wc_exit ?_
    | refine thenQ_exit ?_
    | refine blkQ_hit ?_
    | refine blkQ_miss rfl ?_
    | refine Wc_skip ?_
    | refine Wc_label ?_
    | refine loopQ_exit ?_
    | refine loopQ_ret ?_
    | refine loopQ_normal ?_
    | (refine Wc_region (id := 0) ?_; intro K hK; refine Wl_assign (k := ?_); (refine Wl_nil (hK _ _ ?_); clear hK K))
    | (refine Wc_region (id := 1) ?_; intro K hK; refine Wl_move (k := ?_); refine Wl_ptr_eq_nil (k' := ?_); (refine Wl_nil (hK _ _ ?_); clear hK K))
    | (refine Wc_region (id := 2) ?_; intro K hK; refine Wl_assign (k := ?_); (refine Wl_nil (hK _ _ ?_); clear hK K))
    | (refine Wc_cond (ht := (fun ht => ?_)) (hf := (fun ht => ?_)) <;> (try simp at ht) <;> (try (exfalso; omega))))
  exact ⟨Or.inr rfl, _, [], Ent.nil, res1 rfl rfl, rfl, rfl⟩
theorem append_nil (a : Option Addr) (m c : Nat) : Fspec Try.prog B 43 #[.pointer none, .slice a m c] [] (fun v A' => v = .int .i64 1 ∧ A' = []) := by
  refine spec_of (args := [_, _]) Try.func43 rfl rfl rfl ?_
  repeat' (first
    | refine Wc_seq ?_
    | refine thenQ_normal ?_
    | refine Wc_cond_t (h := ?_)
    | refine Wc_cond_f (h := ?_)
    | refine Wc_ret ?_
    | refine thenQ_ret ?_
    | refine Wc_block ?_
    | refine blkQ_normal ?_
    | refine blkQ_ret ?_
    | refine Wc_exit ?_
    | refine thenQ_exit ?_
    | refine blkQ_hit ?_
    | refine blkQ_miss rfl ?_
    | refine Wc_skip ?_
    | refine Wc_label ?_
    | refine loopQ_exit ?_
    | refine loopQ_ret ?_
    | refine loopQ_normal ?_
    | (refine Wc_region (id := 0) ?_; intro K hK; refine Wl_assign (k := ?_); (refine Wl_nil (hK _ _ ?_); clear hK K))
    | (refine Wc_region (id := 1) ?_; intro K hK; refine Wl_move (k := ?_); refine Wl_ptr_eq_nil (k' := ?_); (refine Wl_nil (hK _ _ ?_); clear hK K))
    | (refine Wc_region (id := 2) ?_; intro K hK; refine Wl_assign (k := ?_); (refine Wl_nil (hK _ _ ?_); clear hK K))
    | (refine Wc_cond (ht := (fun ht => ?_)) (hf := (fun ht => ?_)) <;> (try simp at ht) <;> (try (exfalso; omega))))
  exact ⟨Or.inr rfl, _, [], Ent.nil, res1 rfl rfl, rfl, rfl⟩
theorem start_down (j d n : Nat) (J : Jn) (D : Dk) (X : Asn) (a : Option Addr) (m c : Nat) (h : J.over = true ∨ D.down = true) :
    Fspec Try.prog B 21 #[.pointer (some ⟨j, 0, none⟩), .slice a m c] [cb j (JC d J) 107, DiskP d n D, X]
      (fun v A' => v = .int .i64 7 ∧ A' = [cb j (JC d (J.fail true)) 107, DiskP d n D, X]) := by
  refine spec_of (args := [_, _]) Try.func21 rfl rfl rfl ?_
  have hb := fun b => bload_spec (B := B) j 7 (JC d J) 107 b
  cases ho : J.over with
  | true =>
    have hb1 := hb true (by simp [JC, ho])
    simp only [JC] at hb1 ⊢
    repeat' (first
      | refine Wc_seq ?_
      | refine thenQ_normal ?_
      | refine Wc_cond_t (h := ?_)
      | refine Wc_cond_f (h := ?_)
      | refine Wc_ret ?_
      | refine thenQ_ret ?_
      | refine Wc_block ?_
      | refine blkQ_normal ?_
      | refine blkQ_ret ?_
      | refine Wc_exit ?_
      | refine thenQ_exit ?_
      | refine blkQ_hit ?_
      | refine blkQ_miss rfl ?_
      | refine Wc_skip ?_
      | refine Wc_label ?_
      | refine loopQ_exit ?_
      | refine loopQ_ret ?_
      | refine loopQ_normal ?_
      | (refine Wc_region (id := 0) ?_; intro K hK; refine Wl_assign (k := ?_); (refine Wl_nil (hK _ _ ?_); clear hK K))
      | (refine Wc_region (id := 1) ?_; intro K hK; refine Wl_move (k := ?_); refine Wl_ptr_eq_nil (k' := ?_); (refine Wl_nil (hK _ _ ?_); clear hK K))
      | (refine Wc_region (id := 2) ?_; intro K hK; refine Wl_assign (k := ?_); (refine Wl_nil (hK _ _ ?_); clear hK K))
      | (refine Wc_region (id := 3) ?_; intro K hK; refine Wl_move (k := ?_); refine Wl_nilCheck (k := ?_); refine Wl_fieldAddr (k := ?_); ((refine Wl_call (hs := hb1) (k := ?_); rintro v A' ⟨rfl, rfl⟩; simp only [List.cons_append, List.nil_append])) <;> (refine Wl_move (k := ?_); ((first | (refine Wl_guard (k := ?_); refine Wl_move (k := ?_)) | refine Wl_gno (k := ?_) | ((refine Wl_split (yes := (fun ht => ?_)) (no := (fun ht => ?_)) <;> (try simp at ht) <;> (try (exfalso; omega))) <;> (first | (refine Wl_guard (k := ?_); refine Wl_move (k := ?_)) | refine Wl_gno (k := ?_))))) <;> (((first | (refine Wl_guard (k := ?_); refine Wl_nilCheck (k := ?_)) | refine Wl_gno (k := ?_) | ((refine Wl_split (yes := (fun ht => ?_)) (no := (fun ht => ?_)) <;> (try simp at ht) <;> (try (exfalso; omega))) <;> (first | (refine Wl_guard (k := ?_); refine Wl_nilCheck (k := ?_)) | refine Wl_gno (k := ?_))))) <;> (((first | (refine Wl_guard (k := ?_); refine Wl_fieldAddr (k := ?_)) | refine Wl_gno (k := ?_) | ((refine Wl_split (yes := (fun ht => ?_)) (no := (fun ht => ?_)) <;> (try simp at ht) <;> (try (exfalso; omega))) <;> (first | (refine Wl_guard (k := ?_); refine Wl_fieldAddr (k := ?_)) | refine Wl_gno (k := ?_))))) <;> (((first | (refine Wl_guard (k := ?_); refine Wl_load (k := ?_)) | refine Wl_gno (k := ?_) | ((refine Wl_split (yes := (fun ht => ?_)) (no := (fun ht => ?_)) <;> (try simp at ht) <;> (try (exfalso; omega))) <;> (first | (refine Wl_guard (k := ?_); refine Wl_load (k := ?_)) | refine Wl_gno (k := ?_))))) <;> ((refine Wl_gno (k := ?_)) <;> ((first | refine Wl_pick_t (k := ?_) | refine Wl_pick_f (k := ?_) | refine Wl_pick (k := ?_)); (refine Wl_nil (hK _ _ ?_); clear hK K))))))))
      | (refine Wc_region (id := 4) ?_; intro K hK; refine Wl_move (k := ?_); refine Wl_nilCheck (k := ?_); refine Wl_fieldAddr (k := ?_); ((refine Wl_call (hs := bstore_spec j 7 (JC d J) (JC d (J.fail true)) 107 true J.over rfl (J.fail_set d)) (k := ?_); rintro v A' ⟨rfl, rfl⟩; simp only [List.cons_append, List.nil_append])) <;> ((refine Wl_nil (hK _ _ ?_); clear hK K)))
      | (refine Wc_region (id := 5) ?_; intro K hK; refine Wl_assign (k := ?_); (refine Wl_nil (hK _ _ ?_); clear hK K))
      | (refine Wc_cond (ht := (fun ht => ?_)) (hf := (fun ht => ?_)) <;> (try simp at ht) <;> (try (exfalso; omega))))
    exact ⟨Or.inr rfl, _, [cb j (JC d (J.fail true)) 107, DiskP d n D, X], (by (repeat (first | exact Ent.refl _ | exact Ent.nil | refine Ent.take (by (repeat (first | exact Out.head | apply Out.tail)); (first | done | fail)) ?_ | refine Ent.drop1 ?_))), res1 rfl rfl, rfl, rfl⟩
  | false =>
    have hdn : D.down = true := by rcases h with h | h; rw [ho] at h; cases h; exact h
    have hb1 := hb false (by simp [JC, ho])
    simp only [JC] at hb1 ⊢
    repeat' (first
      | refine Wc_seq ?_
      | refine thenQ_normal ?_
      | refine Wc_cond_t (h := ?_)
      | refine Wc_cond_f (h := ?_)
      | refine Wc_ret ?_
      | refine thenQ_ret ?_
      | refine Wc_block ?_
      | refine blkQ_normal ?_
      | refine blkQ_ret ?_
      | refine Wc_exit ?_
      | refine thenQ_exit ?_
      | refine blkQ_hit ?_
      | refine blkQ_miss rfl ?_
      | refine Wc_skip ?_
      | refine Wc_label ?_
      | refine loopQ_exit ?_
      | refine loopQ_ret ?_
      | refine loopQ_normal ?_
      | (refine Wc_region (id := 0) ?_; intro K hK; refine Wl_assign (k := ?_); (refine Wl_nil (hK _ _ ?_); clear hK K))
      | (refine Wc_region (id := 1) ?_; intro K hK; refine Wl_move (k := ?_); refine Wl_ptr_eq_nil (k' := ?_); (refine Wl_nil (hK _ _ ?_); clear hK K))
      | (refine Wc_region (id := 2) ?_; intro K hK; refine Wl_assign (k := ?_); (refine Wl_nil (hK _ _ ?_); clear hK K))
      | (refine Wc_region (id := 3) ?_; intro K hK; refine Wl_move (k := ?_); refine Wl_nilCheck (k := ?_); refine Wl_fieldAddr (k := ?_); ((refine Wl_call (hs := hb1) (k := ?_); rintro v A' ⟨rfl, rfl⟩; simp only [List.cons_append, List.nil_append])) <;> (refine Wl_move (k := ?_); ((first | (refine Wl_guard (k := ?_); refine Wl_move (k := ?_)) | refine Wl_gno (k := ?_) | ((refine Wl_split (yes := (fun ht => ?_)) (no := (fun ht => ?_)) <;> (try simp at ht) <;> (try (exfalso; omega))) <;> (first | (refine Wl_guard (k := ?_); refine Wl_move (k := ?_)) | refine Wl_gno (k := ?_))))) <;> (((first | (refine Wl_guard (k := ?_); refine Wl_nilCheck (k := ?_)) | refine Wl_gno (k := ?_) | ((refine Wl_split (yes := (fun ht => ?_)) (no := (fun ht => ?_)) <;> (try simp at ht) <;> (try (exfalso; omega))) <;> (first | (refine Wl_guard (k := ?_); refine Wl_nilCheck (k := ?_)) | refine Wl_gno (k := ?_))))) <;> (((first | (refine Wl_guard (k := ?_); refine Wl_fieldAddr (k := ?_)) | refine Wl_gno (k := ?_) | ((refine Wl_split (yes := (fun ht => ?_)) (no := (fun ht => ?_)) <;> (try simp at ht) <;> (try (exfalso; omega))) <;> (first | (refine Wl_guard (k := ?_); refine Wl_fieldAddr (k := ?_)) | refine Wl_gno (k := ?_))))) <;> (((first | (refine Wl_guard (k := ?_); refine Wl_load (k := ?_)) | refine Wl_gno (k := ?_) | ((refine Wl_split (yes := (fun ht => ?_)) (no := (fun ht => ?_)) <;> (try simp at ht) <;> (try (exfalso; omega))) <;> (first | (refine Wl_guard (k := ?_); refine Wl_load (k := ?_)) | refine Wl_gno (k := ?_))))) <;> (((first | (refine Wl_guard (k := ?_); (refine Wl_call (hs := down_ok B d n D) (k := ?_); rintro v A' ⟨rfl, rfl⟩; simp only [List.cons_append, List.nil_append]; rw [hdn])) | refine Wl_gno (k := ?_) | ((refine Wl_split (yes := (fun ht => ?_)) (no := (fun ht => ?_)) <;> (try simp at ht) <;> (try (exfalso; omega))) <;> (first | (refine Wl_guard (k := ?_); (refine Wl_call (hs := down_ok B d n D) (k := ?_); rintro v A' ⟨rfl, rfl⟩; simp only [List.cons_append, List.nil_append]; rw [hdn])) | refine Wl_gno (k := ?_))))) <;> ((first | refine Wl_pick_t (k := ?_) | refine Wl_pick_f (k := ?_) | refine Wl_pick (k := ?_)); (refine Wl_nil (hK _ _ ?_); clear hK K))))))))
      | (refine Wc_region (id := 4) ?_; intro K hK; refine Wl_move (k := ?_); refine Wl_nilCheck (k := ?_); refine Wl_fieldAddr (k := ?_); ((refine Wl_call (hs := bstore_spec j 7 (JC d J) (JC d (J.fail true)) 107 true J.over rfl (J.fail_set d)) (k := ?_); rintro v A' ⟨rfl, rfl⟩; simp only [List.cons_append, List.nil_append])) <;> ((refine Wl_nil (hK _ _ ?_); clear hK K)))
      | (refine Wc_region (id := 5) ?_; intro K hK; refine Wl_assign (k := ?_); (refine Wl_nil (hK _ _ ?_); clear hK K))
      | (refine Wc_cond (ht := (fun ht => ?_)) (hf := (fun ht => ?_)) <;> (try simp at ht) <;> (try (exfalso; omega))))
    exact ⟨Or.inr rfl, _, [cb j (JC d (J.fail true)) 107, DiskP d n D, X], (by (repeat (first | exact Ent.refl _ | exact Ent.nil | refine Ent.take (by (repeat (first | exact Out.head | apply Out.tail)); (first | done | fail)) ?_ | refine Ent.drop1 ?_))), res1 rfl rfl, rfl, rfl⟩
theorem append_down (j d n : Nat) (J : Jn) (D : Dk) (X : Asn) (a : Option Addr) (m c : Nat) (h : J.over = true ∨ D.down = true) :
    Fspec Try.prog B 43 #[.pointer (some ⟨j, 0, none⟩), .slice a m c] [cb j (JC d J) 107, DiskP d n D, X]
      (fun v A' => v = .int .i64 7 ∧ A' = [cb j (JC d (J.fail true)) 107, DiskP d n D, X]) := by
  refine spec_of (args := [_, _]) Try.func43 rfl rfl rfl ?_
  have hb := fun b => bload_spec (B := B) j 7 (JC d J) 107 b
  cases ho : J.over with
  | true =>
    have hb1 := hb true (by simp [JC, ho])
    simp only [JC] at hb1 ⊢
    repeat' (first
      | refine Wc_seq ?_
      | refine thenQ_normal ?_
      | refine Wc_cond_t (h := ?_)
      | refine Wc_cond_f (h := ?_)
      | refine Wc_ret ?_
      | refine thenQ_ret ?_
      | refine Wc_block ?_
      | refine blkQ_normal ?_
      | refine blkQ_ret ?_
      | refine Wc_exit ?_
      | refine thenQ_exit ?_
      | refine blkQ_hit ?_
      | refine blkQ_miss rfl ?_
      | refine Wc_skip ?_
      | refine Wc_label ?_
      | refine loopQ_exit ?_
      | refine loopQ_ret ?_
      | refine loopQ_normal ?_
      | (refine Wc_region (id := 0) ?_; intro K hK; refine Wl_assign (k := ?_); (refine Wl_nil (hK _ _ ?_); clear hK K))
      | (refine Wc_region (id := 1) ?_; intro K hK; refine Wl_move (k := ?_); refine Wl_ptr_eq_nil (k' := ?_); (refine Wl_nil (hK _ _ ?_); clear hK K))
      | (refine Wc_region (id := 2) ?_; intro K hK; refine Wl_assign (k := ?_); (refine Wl_nil (hK _ _ ?_); clear hK K))
      | (refine Wc_region (id := 3) ?_; intro K hK; refine Wl_move (k := ?_); refine Wl_nilCheck (k := ?_); refine Wl_fieldAddr (k := ?_); ((refine Wl_call (hs := hb1) (k := ?_); rintro v A' ⟨rfl, rfl⟩; simp only [List.cons_append, List.nil_append])) <;> (refine Wl_move (k := ?_); ((first | (refine Wl_guard (k := ?_); refine Wl_move (k := ?_)) | refine Wl_gno (k := ?_) | ((refine Wl_split (yes := (fun ht => ?_)) (no := (fun ht => ?_)) <;> (try simp at ht) <;> (try (exfalso; omega))) <;> (first | (refine Wl_guard (k := ?_); refine Wl_move (k := ?_)) | refine Wl_gno (k := ?_))))) <;> (((first | (refine Wl_guard (k := ?_); refine Wl_nilCheck (k := ?_)) | refine Wl_gno (k := ?_) | ((refine Wl_split (yes := (fun ht => ?_)) (no := (fun ht => ?_)) <;> (try simp at ht) <;> (try (exfalso; omega))) <;> (first | (refine Wl_guard (k := ?_); refine Wl_nilCheck (k := ?_)) | refine Wl_gno (k := ?_))))) <;> (((first | (refine Wl_guard (k := ?_); refine Wl_fieldAddr (k := ?_)) | refine Wl_gno (k := ?_) | ((refine Wl_split (yes := (fun ht => ?_)) (no := (fun ht => ?_)) <;> (try simp at ht) <;> (try (exfalso; omega))) <;> (first | (refine Wl_guard (k := ?_); refine Wl_fieldAddr (k := ?_)) | refine Wl_gno (k := ?_))))) <;> (((first | (refine Wl_guard (k := ?_); refine Wl_load (k := ?_)) | refine Wl_gno (k := ?_) | ((refine Wl_split (yes := (fun ht => ?_)) (no := (fun ht => ?_)) <;> (try simp at ht) <;> (try (exfalso; omega))) <;> (first | (refine Wl_guard (k := ?_); refine Wl_load (k := ?_)) | refine Wl_gno (k := ?_))))) <;> ((refine Wl_gno (k := ?_)) <;> ((first | refine Wl_pick_t (k := ?_) | refine Wl_pick_f (k := ?_) | refine Wl_pick (k := ?_)); (refine Wl_nil (hK _ _ ?_); clear hK K))))))))
      | (refine Wc_region (id := 4) ?_; intro K hK; refine Wl_move (k := ?_); refine Wl_nilCheck (k := ?_); refine Wl_fieldAddr (k := ?_); ((refine Wl_call (hs := bstore_spec j 7 (JC d J) (JC d (J.fail true)) 107 true J.over rfl (J.fail_set d)) (k := ?_); rintro v A' ⟨rfl, rfl⟩; simp only [List.cons_append, List.nil_append])) <;> ((refine Wl_nil (hK _ _ ?_); clear hK K)))
      | (refine Wc_region (id := 5) ?_; intro K hK; refine Wl_assign (k := ?_); (refine Wl_nil (hK _ _ ?_); clear hK K))
      | (refine Wc_cond (ht := (fun ht => ?_)) (hf := (fun ht => ?_)) <;> (try simp at ht) <;> (try (exfalso; omega))))
    exact ⟨Or.inr rfl, _, [cb j (JC d (J.fail true)) 107, DiskP d n D, X], (by (repeat (first | exact Ent.refl _ | exact Ent.nil | refine Ent.take (by (repeat (first | exact Out.head | apply Out.tail)); (first | done | fail)) ?_ | refine Ent.drop1 ?_))), res1 rfl rfl, rfl, rfl⟩
  | false =>
    have hdn : D.down = true := by rcases h with h | h; rw [ho] at h; cases h; exact h
    have hb1 := hb false (by simp [JC, ho])
    simp only [JC] at hb1 ⊢
    repeat' (first
      | refine Wc_seq ?_
      | refine thenQ_normal ?_
      | refine Wc_cond_t (h := ?_)
      | refine Wc_cond_f (h := ?_)
      | refine Wc_ret ?_
      | refine thenQ_ret ?_
      | refine Wc_block ?_
      | refine blkQ_normal ?_
      | refine blkQ_ret ?_
      | refine Wc_exit ?_
      | refine thenQ_exit ?_
      | refine blkQ_hit ?_
      | refine blkQ_miss rfl ?_
      | refine Wc_skip ?_
      | refine Wc_label ?_
      | refine loopQ_exit ?_
      | refine loopQ_ret ?_
      | refine loopQ_normal ?_
      | (refine Wc_region (id := 0) ?_; intro K hK; refine Wl_assign (k := ?_); (refine Wl_nil (hK _ _ ?_); clear hK K))
      | (refine Wc_region (id := 1) ?_; intro K hK; refine Wl_move (k := ?_); refine Wl_ptr_eq_nil (k' := ?_); (refine Wl_nil (hK _ _ ?_); clear hK K))
      | (refine Wc_region (id := 2) ?_; intro K hK; refine Wl_assign (k := ?_); (refine Wl_nil (hK _ _ ?_); clear hK K))
      | (refine Wc_region (id := 3) ?_; intro K hK; refine Wl_move (k := ?_); refine Wl_nilCheck (k := ?_); refine Wl_fieldAddr (k := ?_); ((refine Wl_call (hs := hb1) (k := ?_); rintro v A' ⟨rfl, rfl⟩; simp only [List.cons_append, List.nil_append])) <;> (refine Wl_move (k := ?_); ((first | (refine Wl_guard (k := ?_); refine Wl_move (k := ?_)) | refine Wl_gno (k := ?_) | ((refine Wl_split (yes := (fun ht => ?_)) (no := (fun ht => ?_)) <;> (try simp at ht) <;> (try (exfalso; omega))) <;> (first | (refine Wl_guard (k := ?_); refine Wl_move (k := ?_)) | refine Wl_gno (k := ?_))))) <;> (((first | (refine Wl_guard (k := ?_); refine Wl_nilCheck (k := ?_)) | refine Wl_gno (k := ?_) | ((refine Wl_split (yes := (fun ht => ?_)) (no := (fun ht => ?_)) <;> (try simp at ht) <;> (try (exfalso; omega))) <;> (first | (refine Wl_guard (k := ?_); refine Wl_nilCheck (k := ?_)) | refine Wl_gno (k := ?_))))) <;> (((first | (refine Wl_guard (k := ?_); refine Wl_fieldAddr (k := ?_)) | refine Wl_gno (k := ?_) | ((refine Wl_split (yes := (fun ht => ?_)) (no := (fun ht => ?_)) <;> (try simp at ht) <;> (try (exfalso; omega))) <;> (first | (refine Wl_guard (k := ?_); refine Wl_fieldAddr (k := ?_)) | refine Wl_gno (k := ?_))))) <;> (((first | (refine Wl_guard (k := ?_); refine Wl_load (k := ?_)) | refine Wl_gno (k := ?_) | ((refine Wl_split (yes := (fun ht => ?_)) (no := (fun ht => ?_)) <;> (try simp at ht) <;> (try (exfalso; omega))) <;> (first | (refine Wl_guard (k := ?_); refine Wl_load (k := ?_)) | refine Wl_gno (k := ?_))))) <;> (((first | (refine Wl_guard (k := ?_); (refine Wl_call (hs := down_ok B d n D) (k := ?_); rintro v A' ⟨rfl, rfl⟩; simp only [List.cons_append, List.nil_append]; rw [hdn])) | refine Wl_gno (k := ?_) | ((refine Wl_split (yes := (fun ht => ?_)) (no := (fun ht => ?_)) <;> (try simp at ht) <;> (try (exfalso; omega))) <;> (first | (refine Wl_guard (k := ?_); (refine Wl_call (hs := down_ok B d n D) (k := ?_); rintro v A' ⟨rfl, rfl⟩; simp only [List.cons_append, List.nil_append]; rw [hdn])) | refine Wl_gno (k := ?_))))) <;> ((first | refine Wl_pick_t (k := ?_) | refine Wl_pick_f (k := ?_) | refine Wl_pick (k := ?_)); (refine Wl_nil (hK _ _ ?_); clear hK K))))))))
      | (refine Wc_region (id := 4) ?_; intro K hK; refine Wl_move (k := ?_); refine Wl_nilCheck (k := ?_); refine Wl_fieldAddr (k := ?_); ((refine Wl_call (hs := bstore_spec j 7 (JC d J) (JC d (J.fail true)) 107 true J.over rfl (J.fail_set d)) (k := ?_); rintro v A' ⟨rfl, rfl⟩; simp only [List.cons_append, List.nil_append])) <;> ((refine Wl_nil (hK _ _ ?_); clear hK K)))
      | (refine Wc_region (id := 5) ?_; intro K hK; refine Wl_assign (k := ?_); (refine Wl_nil (hK _ _ ?_); clear hK K))
      | (refine Wc_cond (ht := (fun ht => ?_)) (hf := (fun ht => ?_)) <;> (try simp at ht) <;> (try (exfalso; omega))))
    exact ⟨Or.inr rfl, _, [cb j (JC d (J.fail true)) 107, DiskP d n D, X], (by (repeat (first | exact Ent.refl _ | exact Ent.nil | refine Ent.take (by (repeat (first | exact Out.head | apply Out.tail)); (first | done | fail)) ?_ | refine Ent.drop1 ?_))), res1 rfl rfl, rfl, rfl⟩
/-- Start, with power: what it answers; what becomes of the journal, of the disk. -/
def startV (J : Jn) (D : Dk) (rec : List UInt8) : Int × Jn × Dk :=
  if J.size < partsN rec.length ∨ 2147483647 < topN D.seen (2 * J.size) + 1 then (5, J, D)
  else if (putD (secF (topN D.seen (2 * J.size) + 1) 0 rec) ((if J.half = 0 then 1 else 0) * J.size + 0) D (partsN rec.length)).2 = true
    then (0, { J with half := if J.half = 0 then 1 else 0, at_ := partsN rec.length, lap := topN D.seen (2 * J.size) + 1, number := 1, started := true }, (putD (secF (topN D.seen (2 * J.size) + 1) 0 rec) ((if J.half = 0 then 1 else 0) * J.size + 0) D (partsN rec.length)).1)
    else (7, J.fail true, (putD (secF (topN D.seen (2 * J.size) + 1) 0 rec) ((if J.half = 0 then 1 else 0) * J.size + 0) D (partsN rec.length)).1)
theorem start_spec (j d n : Nat) (J : Jn) (D : Dk) (hD : D.ok n) (hov : J.over = false) (hdn : D.down = false) (hsz : J.size = n / 2) (X : Asn) (a : Option Addr) (m c : Nat) (rec : List UInt8) (hR : RdS Try.prog B [X] 1 a m c (rec.map byteV)) (hm : m ≤ 1000000000)
    (hp : D.pend.length + n ≤ 999999) (hs : D.steps + n ≤ 4611686018427387902) :
    Fspec Try.prog B 21 #[.pointer (some ⟨j, 0, none⟩), .slice a m c] [cb j (JC d J) 107, DiskP d n D, X]
      (fun v A' => v = .int .i64 (startV J D rec).1 ∧ A' = [cb j (JC d (startV J D rec).2.1) 107, DiskP d n (startV J D rec).2.2, X]) := by
  have hl : rec.length = m := by have := hR.len; simpa using this
  have hn := hD.n
  obtain ⟨V, hV⟩ : ∃ V, startV J D rec = V := ⟨_, rfl⟩
  rw [hV]
  unfold startV at hV
  rw [hl] at hV
  have htop := topN_lt D.seen (2 * J.size)
  have hnx := next_spec (B := B) j d n J D hD hdn (by omega)
  obtain ⟨lap, hlap⟩ : ∃ lap, topN D.seen (2 * J.size) + 1 = lap := ⟨_, rfl⟩
  rw [hlap] at hV hnx
  have hb1 := bload_spec (B := B) j 7 (JC d J) 107 false (by simp [JC, hov])
  refine spec_of (args := [_, _]) Try.func21 rfl rfl rfl ?_
  obtain ⟨hf, hhf⟩ : ∃ hf : Nat, (if J.half = 0 then 1 else 0) = hf := ⟨_, rfl⟩
  have hfi : ((if J.half = 0 then 1 else 0 : Int)) = (hf : Int) := by rw [← hhf]; split <;> rfl
  rw [hhf, hfi] at hV
  have hf1 : hf ≤ 1 := by rw [← hhf]; split <;> omega
  have hbase : hf * J.size + J.size ≤ n := by
    have : hf = 0 ∨ hf = 1 := by omega
    rcases this with h | h <;> rw [h] <;> omega
  obtain ⟨P, hP⟩ : ∃ P, putD (secF lap 0 rec) (hf * J.size + 0) D (partsN m) = P := ⟨_, rfl⟩
  rw [hP] at hV
  simp only [JC] at hnx hb1 ⊢
  by_cases hfull : J.size < partsN m ∨ 2147483647 < lap
  · rw [if_pos hfull] at hV
    subst hV
    repeat' (first
      | refine Wc_seq ?_
      | refine thenQ_normal ?_
      | refine Wc_cond_t (h := ?_)
      | refine Wc_cond_f (h := ?_)
      | refine Wc_ret ?_
      | refine thenQ_ret ?_
      | refine Wc_block ?_
      | refine blkQ_normal ?_
      | refine blkQ_ret ?_
      | refine Wc_exit ?_
      | refine thenQ_exit ?_
      | refine blkQ_hit ?_
      | refine blkQ_miss rfl ?_
      | refine Wc_skip ?_
      | refine Wc_label ?_
      | refine loopQ_exit ?_
      | refine loopQ_ret ?_
      | refine loopQ_normal ?_
      | (refine Wc_region (id := 0) ?_; intro K hK; refine Wl_assign (k := ?_); (refine Wl_nil (hK _ _ ?_); clear hK K))
      | (refine Wc_region (id := 1) ?_; intro K hK; refine Wl_move (k := ?_); refine Wl_ptr_eq_nil (k' := ?_); (refine Wl_nil (hK _ _ ?_); clear hK K))
      | (refine Wc_region (id := 2) ?_; intro K hK; refine Wl_assign (k := ?_); (refine Wl_nil (hK _ _ ?_); clear hK K))
      | (refine Wc_region (id := 3) ?_; intro K hK; refine Wl_move (k := ?_); refine Wl_nilCheck (k := ?_); refine Wl_fieldAddr (k := ?_); ((refine Wl_call (hs := hb1) (k := ?_); rintro v A' ⟨rfl, rfl⟩; simp only [List.cons_append, List.nil_append])) <;> (refine Wl_move (k := ?_); ((first | (refine Wl_guard (k := ?_); refine Wl_move (k := ?_)) | refine Wl_gno (k := ?_) | ((refine Wl_split (yes := (fun ht => ?_)) (no := (fun ht => ?_)) <;> (try simp at ht) <;> (try (exfalso; omega))) <;> (first | (refine Wl_guard (k := ?_); refine Wl_move (k := ?_)) | refine Wl_gno (k := ?_))))) <;> (((first | (refine Wl_guard (k := ?_); refine Wl_nilCheck (k := ?_)) | refine Wl_gno (k := ?_) | ((refine Wl_split (yes := (fun ht => ?_)) (no := (fun ht => ?_)) <;> (try simp at ht) <;> (try (exfalso; omega))) <;> (first | (refine Wl_guard (k := ?_); refine Wl_nilCheck (k := ?_)) | refine Wl_gno (k := ?_))))) <;> (((first | (refine Wl_guard (k := ?_); refine Wl_fieldAddr (k := ?_)) | refine Wl_gno (k := ?_) | ((refine Wl_split (yes := (fun ht => ?_)) (no := (fun ht => ?_)) <;> (try simp at ht) <;> (try (exfalso; omega))) <;> (first | (refine Wl_guard (k := ?_); refine Wl_fieldAddr (k := ?_)) | refine Wl_gno (k := ?_))))) <;> (((first | (refine Wl_guard (k := ?_); refine Wl_load (k := ?_)) | refine Wl_gno (k := ?_) | ((refine Wl_split (yes := (fun ht => ?_)) (no := (fun ht => ?_)) <;> (try simp at ht) <;> (try (exfalso; omega))) <;> (first | (refine Wl_guard (k := ?_); refine Wl_load (k := ?_)) | refine Wl_gno (k := ?_))))) <;> (((first | (refine Wl_guard (k := ?_); (refine Wl_call (hs := down_ok B d n D) (k := ?_); rintro v A' ⟨rfl, rfl⟩; simp only [List.cons_append, List.nil_append]; rw [hdn])) | refine Wl_gno (k := ?_) | ((refine Wl_split (yes := (fun ht => ?_)) (no := (fun ht => ?_)) <;> (try simp at ht) <;> (try (exfalso; omega))) <;> (first | (refine Wl_guard (k := ?_); (refine Wl_call (hs := down_ok B d n D) (k := ?_); rintro v A' ⟨rfl, rfl⟩; simp only [List.cons_append, List.nil_append]; rw [hdn])) | refine Wl_gno (k := ?_))))) <;> ((first | refine Wl_pick_t (k := ?_) | refine Wl_pick_f (k := ?_) | refine Wl_pick (k := ?_)); (refine Wl_nil (hK _ _ ?_); clear hK K))))))))
      | (refine Wc_region (id := 4) ?_; intro K hK; refine Wl_move (k := ?_); refine Wl_nilCheck (k := ?_); refine Wl_fieldAddr (k := ?_))
      | (refine Wc_region (id := 5) ?_; intro K hK; refine Wl_assign (k := ?_); (refine Wl_nil (hK _ _ ?_); clear hK K))
      | (refine Wc_region (id := 6) ?_; intro K hK; refine Wl_move (k := ?_); ((refine Wl_call (hs := hnx) (k := ?_); rintro v A' ⟨rfl, rfl⟩; simp only [List.cons_append, List.nil_append])) <;> (refine Wl_move (k := ?_); refine Wl_extract (k' := ?_); refine Wl_extract (k' := ?_); refine Wl_assign (k := ?_); refine Wl_assign (k := ?_); (refine Wl_nil (hK _ _ ?_); clear hK K)))
      | (refine Wc_region (id := 7) ?_; intro K hK; refine Wl_move (k := ?_); refine Wl_neq (k' := ?_); (refine Wl_nil (hK _ _ ?_); clear hK K))
      | (refine Wc_region (id := 8) ?_; intro K hK; refine Wl_move (k := ?_); refine Wl_assign (k := ?_); (refine Wl_nil (hK _ _ ?_); clear hK K))
      | (refine Wc_region (id := 9) ?_; intro K hK; refine Wl_move (k := ?_); refine Wl_len_sl (k' := ?_); ((refine Wl_call (hs := parts_spec m (by omega)) (k := ?_); rintro v A' ⟨rfl, rfl⟩; simp only [List.cons_append, List.nil_append])) <;> (refine Wl_assign (k := ?_); (refine Wl_nil (hK _ _ ?_); clear hK K)))
      | (refine Wc_region (id := 10) ?_; intro K hK; refine Wl_move (k := ?_); refine Wl_move (k := ?_); refine Wl_nilCheck (k := ?_); refine Wl_fieldAddr (k := ?_); refine Wl_load (k := ?_); refine Wl_gtr (k' := ?_); refine Wl_move (k := ?_); ((first | (refine Wl_guard (k := ?_); refine Wl_move (k := ?_)) | refine Wl_gno (k := ?_) | ((refine Wl_split (yes := (fun ht => ?_)) (no := (fun ht => ?_)) <;> (try simp at ht) <;> (try (exfalso; omega))) <;> (first | (refine Wl_guard (k := ?_); refine Wl_move (k := ?_)) | refine Wl_gno (k := ?_))))) <;> (((first | (refine Wl_guard (k := ?_); refine Wl_gtr (k' := ?_)) | refine Wl_gno (k := ?_) | ((refine Wl_split (yes := (fun ht => ?_)) (no := (fun ht => ?_)) <;> (try simp at ht) <;> (try (exfalso; omega))) <;> (first | (refine Wl_guard (k := ?_); refine Wl_gtr (k' := ?_)) | refine Wl_gno (k := ?_))))) <;> ((first | refine Wl_pick_t (k := ?_) | refine Wl_pick_f (k := ?_) | refine Wl_pick (k := ?_)); (refine Wl_nil (hK _ _ ?_); clear hK K))))
      | (refine Wc_region (id := 11) ?_; intro K hK; refine Wl_assign (k := ?_); (refine Wl_nil (hK _ _ ?_); clear hK K))
      | (refine Wc_cond (ht := (fun ht => ?_)) (hf := (fun ht => ?_)) <;> (try simp at ht) <;> (try (exfalso; omega))))
    all_goals exact ⟨Or.inr rfl, _, [cb j (JC d J) 107, DiskP d n D, X], (by (repeat (first | exact Ent.refl _ | exact Ent.nil | refine Ent.take (by (repeat (first | exact Out.head | apply Out.tail)); (first | done | fail)) ?_ | refine Ent.drop1 ?_))), res1 rfl rfl, rfl, rfl⟩
  · rw [if_neg hfull] at hV
    have hput := put_spec (B := B) j d n J D hD hf 0 lap 0 X a m c rec hR hm (by omega) (by omega) (by omega) P hP
    have hT : JC d (J.fail !true) = [.pointer (some ⟨d, 0, none⟩), .int .i64 J.size, .int .i64 J.half, .int .i64 J.at_, .int .i64 J.lap, .int .i64 J.number, .bool J.started, .int .u32 (b32 J.over)] := rfl
    have hgo : ∀ (h0 : Int), h0 = (hf : Int) → Fspec Try.prog B 39 #[.pointer (some ⟨j, 0, none⟩), .int .i64 h0, .int .i64 0, .int .i64 lap, .int .i64 0, .slice a m c] [cb j (JC d J) 107, DiskP d n D, X]
        (fun v A' => v = .bool P.2 ∧ A' = [cb j (JC d (J.fail !P.2)) 107, DiskP d n P.1, X]) := fun h0 e => by rw [e]; exact hput
    cases hP2 : P.2 with
    | true =>
      rw [hP2] at hgo
      rw [if_pos hP2] at hV
      subst hV
      by_cases hz : J.half = 0
      all_goals
        first | rw [if_pos hz] at hhf | rw [if_neg hz] at hhf
        subst hhf
        repeat' (first
          | refine Wc_seq ?_
          | refine thenQ_normal ?_
          | refine Wc_cond_t (h := ?_)
          | refine Wc_cond_f (h := ?_)
          | refine Wc_ret ?_
          | refine thenQ_ret ?_
          | refine Wc_block ?_
          | refine blkQ_normal ?_
          | refine blkQ_ret ?_
          | refine Wc_exit ?_
          | refine thenQ_exit ?_
          | refine blkQ_hit ?_
          | refine blkQ_miss rfl ?_
          | refine Wc_skip ?_
          | refine Wc_label ?_
          | refine loopQ_exit ?_
          | refine loopQ_ret ?_
          | refine loopQ_normal ?_
          | (refine Wc_region (id := 0) ?_; intro K hK; refine Wl_assign (k := ?_); (refine Wl_nil (hK _ _ ?_); clear hK K))
          | (refine Wc_region (id := 1) ?_; intro K hK; refine Wl_move (k := ?_); refine Wl_ptr_eq_nil (k' := ?_); (refine Wl_nil (hK _ _ ?_); clear hK K))
          | (refine Wc_region (id := 2) ?_; intro K hK; refine Wl_assign (k := ?_); (refine Wl_nil (hK _ _ ?_); clear hK K))
          | (refine Wc_region (id := 3) ?_; intro K hK; refine Wl_move (k := ?_); refine Wl_nilCheck (k := ?_); refine Wl_fieldAddr (k := ?_); ((refine Wl_call (hs := hb1) (k := ?_); rintro v A' ⟨rfl, rfl⟩; simp only [List.cons_append, List.nil_append])) <;> (refine Wl_move (k := ?_); ((first | (refine Wl_guard (k := ?_); refine Wl_move (k := ?_)) | refine Wl_gno (k := ?_) | ((refine Wl_split (yes := (fun ht => ?_)) (no := (fun ht => ?_)) <;> (try simp at ht) <;> (try (exfalso; omega))) <;> (first | (refine Wl_guard (k := ?_); refine Wl_move (k := ?_)) | refine Wl_gno (k := ?_))))) <;> (((first | (refine Wl_guard (k := ?_); refine Wl_nilCheck (k := ?_)) | refine Wl_gno (k := ?_) | ((refine Wl_split (yes := (fun ht => ?_)) (no := (fun ht => ?_)) <;> (try simp at ht) <;> (try (exfalso; omega))) <;> (first | (refine Wl_guard (k := ?_); refine Wl_nilCheck (k := ?_)) | refine Wl_gno (k := ?_))))) <;> (((first | (refine Wl_guard (k := ?_); refine Wl_fieldAddr (k := ?_)) | refine Wl_gno (k := ?_) | ((refine Wl_split (yes := (fun ht => ?_)) (no := (fun ht => ?_)) <;> (try simp at ht) <;> (try (exfalso; omega))) <;> (first | (refine Wl_guard (k := ?_); refine Wl_fieldAddr (k := ?_)) | refine Wl_gno (k := ?_))))) <;> (((first | (refine Wl_guard (k := ?_); refine Wl_load (k := ?_)) | refine Wl_gno (k := ?_) | ((refine Wl_split (yes := (fun ht => ?_)) (no := (fun ht => ?_)) <;> (try simp at ht) <;> (try (exfalso; omega))) <;> (first | (refine Wl_guard (k := ?_); refine Wl_load (k := ?_)) | refine Wl_gno (k := ?_))))) <;> (((first | (refine Wl_guard (k := ?_); (refine Wl_call (hs := down_ok B d n D) (k := ?_); rintro v A' ⟨rfl, rfl⟩; simp only [List.cons_append, List.nil_append]; rw [hdn])) | refine Wl_gno (k := ?_) | ((refine Wl_split (yes := (fun ht => ?_)) (no := (fun ht => ?_)) <;> (try simp at ht) <;> (try (exfalso; omega))) <;> (first | (refine Wl_guard (k := ?_); (refine Wl_call (hs := down_ok B d n D) (k := ?_); rintro v A' ⟨rfl, rfl⟩; simp only [List.cons_append, List.nil_append]; rw [hdn])) | refine Wl_gno (k := ?_))))) <;> ((first | refine Wl_pick_t (k := ?_) | refine Wl_pick_f (k := ?_) | refine Wl_pick (k := ?_)); (refine Wl_nil (hK _ _ ?_); clear hK K))))))))
          | (refine Wc_region (id := 4) ?_; intro K hK; refine Wl_move (k := ?_); refine Wl_nilCheck (k := ?_); refine Wl_fieldAddr (k := ?_))
          | (refine Wc_region (id := 5) ?_; intro K hK; refine Wl_assign (k := ?_); (refine Wl_nil (hK _ _ ?_); clear hK K))
          | (refine Wc_region (id := 6) ?_; intro K hK; refine Wl_move (k := ?_); ((refine Wl_call (hs := hnx) (k := ?_); rintro v A' ⟨rfl, rfl⟩; simp only [List.cons_append, List.nil_append])) <;> (refine Wl_move (k := ?_); refine Wl_extract (k' := ?_); refine Wl_extract (k' := ?_); refine Wl_assign (k := ?_); refine Wl_assign (k := ?_); (refine Wl_nil (hK _ _ ?_); clear hK K)))
          | (refine Wc_region (id := 7) ?_; intro K hK; refine Wl_move (k := ?_); refine Wl_neq (k' := ?_); (refine Wl_nil (hK _ _ ?_); clear hK K))
          | (refine Wc_region (id := 8) ?_; intro K hK; refine Wl_move (k := ?_); refine Wl_assign (k := ?_); (refine Wl_nil (hK _ _ ?_); clear hK K))
          | (refine Wc_region (id := 9) ?_; intro K hK; refine Wl_move (k := ?_); refine Wl_len_sl (k' := ?_); ((refine Wl_call (hs := parts_spec m (by omega)) (k := ?_); rintro v A' ⟨rfl, rfl⟩; simp only [List.cons_append, List.nil_append])) <;> (refine Wl_assign (k := ?_); (refine Wl_nil (hK _ _ ?_); clear hK K)))
          | (refine Wc_region (id := 10) ?_; intro K hK; refine Wl_move (k := ?_); refine Wl_move (k := ?_); refine Wl_nilCheck (k := ?_); refine Wl_fieldAddr (k := ?_); refine Wl_load (k := ?_); refine Wl_gtr (k' := ?_); refine Wl_move (k := ?_); ((first | (refine Wl_guard (k := ?_); refine Wl_move (k := ?_)) | refine Wl_gno (k := ?_) | ((refine Wl_split (yes := (fun ht => ?_)) (no := (fun ht => ?_)) <;> (try simp at ht) <;> (try (exfalso; omega))) <;> (first | (refine Wl_guard (k := ?_); refine Wl_move (k := ?_)) | refine Wl_gno (k := ?_))))) <;> (((first | (refine Wl_guard (k := ?_); refine Wl_gtr (k' := ?_)) | refine Wl_gno (k := ?_) | ((refine Wl_split (yes := (fun ht => ?_)) (no := (fun ht => ?_)) <;> (try simp at ht) <;> (try (exfalso; omega))) <;> (first | (refine Wl_guard (k := ?_); refine Wl_gtr (k' := ?_)) | refine Wl_gno (k := ?_))))) <;> ((first | refine Wl_pick_t (k := ?_) | refine Wl_pick_f (k := ?_) | refine Wl_pick (k := ?_)); (refine Wl_nil (hK _ _ ?_); clear hK K))))
          | (refine Wc_region (id := 11) ?_; intro K hK; refine Wl_assign (k := ?_); (refine Wl_nil (hK _ _ ?_); clear hK K))
          | (refine Wc_region (id := 12) ?_; intro K hK; refine Wl_assign (k := ?_); (refine Wl_nil (hK _ _ ?_); clear hK K))
          | (refine Wc_region (id := 13) ?_; intro K hK; refine Wl_move (k := ?_); refine Wl_nilCheck (k := ?_); refine Wl_fieldAddr (k := ?_); refine Wl_load (k := ?_); ((refine Wl_eql (k' := ?_); (first | rw [decide_eq_true hz] | rw [decide_eq_false hz]))) <;> ((refine Wl_nil (hK _ _ ?_); clear hK K)))
          | (refine Wc_region (id := 14) ?_; intro K hK; refine Wl_assign (k := ?_); (refine Wl_nil (hK _ _ ?_); clear hK K))
          | (refine Wc_region (id := 15) ?_; intro K hK; refine Wl_move (k := ?_); refine Wl_move (k := ?_); refine Wl_move (k := ?_); refine Wl_move (k := ?_); ((refine Wl_call (hs := hgo _ rfl) (k := ?_); rintro v A' ⟨rfl, rfl⟩; rw [hT]; simp only [List.cons_append, List.nil_append])) <;> (refine Wl_not (k' := ?_); (refine Wl_nil (hK _ _ ?_); clear hK K)))
          | (refine Wc_region (id := 16) ?_; intro K hK; refine Wl_assign (k := ?_); (refine Wl_nil (hK _ _ ?_); clear hK K))
          | (refine Wc_region (id := 17) ?_; intro K hK; refine Wl_move (k := ?_); refine Wl_move (k := ?_); refine Wl_move (k := ?_); refine Wl_move (k := ?_); refine Wl_move (k := ?_); refine Wl_move (k := ?_); refine Wl_move (k := ?_); refine Wl_move (k := ?_); refine Wl_nilCheck (k := ?_); refine Wl_fieldAddr (k := ?_); refine Wl_store (ho := rfl) (k := ?_); refine Wl_nilCheck (k := ?_); refine Wl_fieldAddr (k := ?_); refine Wl_store (ho := rfl) (k := ?_); refine Wl_nilCheck (k := ?_); refine Wl_fieldAddr (k := ?_); refine Wl_store (ho := rfl) (k := ?_); refine Wl_nilCheck (k := ?_); refine Wl_fieldAddr (k := ?_); refine Wl_store (ho := rfl) (k := ?_); refine Wl_nilCheck (k := ?_); refine Wl_fieldAddr (k := ?_); refine Wl_store (ho := rfl) (k := ?_); (refine Wl_nil (hK _ _ ?_); clear hK K))
          | (refine Wc_region (id := 18) ?_; intro K hK; refine Wl_assign (k := ?_); (refine Wl_nil (hK _ _ ?_); clear hK K))
          | (refine Wc_cond (ht := (fun ht => ?_)) (hf := (fun ht => ?_)) <;> (try simp at ht) <;> (try (exfalso; omega))))
        exact ⟨Or.inr rfl, _, [cb j (JC d { J with half := _, at_ := partsN m, lap := lap, number := 1, started := true }) 107, DiskP d n P.1, X], (by (repeat (first | exact Ent.refl _ | exact Ent.nil | refine Ent.take (by (repeat (first | exact Out.head | apply Out.tail)); (first | done | fail)) ?_ | refine Ent.drop1 ?_))), res1 rfl rfl, rfl, rfl⟩
    | false =>
      rw [hP2] at hgo
      rw [if_neg (by rw [hP2]; simp)] at hV
      subst hV
      by_cases hz : J.half = 0
      all_goals
        first | rw [if_pos hz] at hhf | rw [if_neg hz] at hhf
        subst hhf
        repeat' (first
          | refine Wc_seq ?_
          | refine thenQ_normal ?_
          | refine Wc_cond_t (h := ?_)
          | refine Wc_cond_f (h := ?_)
          | refine Wc_ret ?_
          | refine thenQ_ret ?_
          | refine Wc_block ?_
          | refine blkQ_normal ?_
          | refine blkQ_ret ?_
          | refine Wc_exit ?_
          | refine thenQ_exit ?_
          | refine blkQ_hit ?_
          | refine blkQ_miss rfl ?_
          | refine Wc_skip ?_
          | refine Wc_label ?_
          | refine loopQ_exit ?_
          | refine loopQ_ret ?_
          | refine loopQ_normal ?_
          | (refine Wc_region (id := 0) ?_; intro K hK; refine Wl_assign (k := ?_); (refine Wl_nil (hK _ _ ?_); clear hK K))
          | (refine Wc_region (id := 1) ?_; intro K hK; refine Wl_move (k := ?_); refine Wl_ptr_eq_nil (k' := ?_); (refine Wl_nil (hK _ _ ?_); clear hK K))
          | (refine Wc_region (id := 2) ?_; intro K hK; refine Wl_assign (k := ?_); (refine Wl_nil (hK _ _ ?_); clear hK K))
          | (refine Wc_region (id := 3) ?_; intro K hK; refine Wl_move (k := ?_); refine Wl_nilCheck (k := ?_); refine Wl_fieldAddr (k := ?_); ((refine Wl_call (hs := hb1) (k := ?_); rintro v A' ⟨rfl, rfl⟩; simp only [List.cons_append, List.nil_append])) <;> (refine Wl_move (k := ?_); ((first | (refine Wl_guard (k := ?_); refine Wl_move (k := ?_)) | refine Wl_gno (k := ?_) | ((refine Wl_split (yes := (fun ht => ?_)) (no := (fun ht => ?_)) <;> (try simp at ht) <;> (try (exfalso; omega))) <;> (first | (refine Wl_guard (k := ?_); refine Wl_move (k := ?_)) | refine Wl_gno (k := ?_))))) <;> (((first | (refine Wl_guard (k := ?_); refine Wl_nilCheck (k := ?_)) | refine Wl_gno (k := ?_) | ((refine Wl_split (yes := (fun ht => ?_)) (no := (fun ht => ?_)) <;> (try simp at ht) <;> (try (exfalso; omega))) <;> (first | (refine Wl_guard (k := ?_); refine Wl_nilCheck (k := ?_)) | refine Wl_gno (k := ?_))))) <;> (((first | (refine Wl_guard (k := ?_); refine Wl_fieldAddr (k := ?_)) | refine Wl_gno (k := ?_) | ((refine Wl_split (yes := (fun ht => ?_)) (no := (fun ht => ?_)) <;> (try simp at ht) <;> (try (exfalso; omega))) <;> (first | (refine Wl_guard (k := ?_); refine Wl_fieldAddr (k := ?_)) | refine Wl_gno (k := ?_))))) <;> (((first | (refine Wl_guard (k := ?_); refine Wl_load (k := ?_)) | refine Wl_gno (k := ?_) | ((refine Wl_split (yes := (fun ht => ?_)) (no := (fun ht => ?_)) <;> (try simp at ht) <;> (try (exfalso; omega))) <;> (first | (refine Wl_guard (k := ?_); refine Wl_load (k := ?_)) | refine Wl_gno (k := ?_))))) <;> (((first | (refine Wl_guard (k := ?_); (refine Wl_call (hs := down_ok B d n D) (k := ?_); rintro v A' ⟨rfl, rfl⟩; simp only [List.cons_append, List.nil_append]; rw [hdn])) | refine Wl_gno (k := ?_) | ((refine Wl_split (yes := (fun ht => ?_)) (no := (fun ht => ?_)) <;> (try simp at ht) <;> (try (exfalso; omega))) <;> (first | (refine Wl_guard (k := ?_); (refine Wl_call (hs := down_ok B d n D) (k := ?_); rintro v A' ⟨rfl, rfl⟩; simp only [List.cons_append, List.nil_append]; rw [hdn])) | refine Wl_gno (k := ?_))))) <;> ((first | refine Wl_pick_t (k := ?_) | refine Wl_pick_f (k := ?_) | refine Wl_pick (k := ?_)); (refine Wl_nil (hK _ _ ?_); clear hK K))))))))
          | (refine Wc_region (id := 4) ?_; intro K hK; refine Wl_move (k := ?_); refine Wl_nilCheck (k := ?_); refine Wl_fieldAddr (k := ?_))
          | (refine Wc_region (id := 5) ?_; intro K hK; refine Wl_assign (k := ?_); (refine Wl_nil (hK _ _ ?_); clear hK K))
          | (refine Wc_region (id := 6) ?_; intro K hK; refine Wl_move (k := ?_); ((refine Wl_call (hs := hnx) (k := ?_); rintro v A' ⟨rfl, rfl⟩; simp only [List.cons_append, List.nil_append])) <;> (refine Wl_move (k := ?_); refine Wl_extract (k' := ?_); refine Wl_extract (k' := ?_); refine Wl_assign (k := ?_); refine Wl_assign (k := ?_); (refine Wl_nil (hK _ _ ?_); clear hK K)))
          | (refine Wc_region (id := 7) ?_; intro K hK; refine Wl_move (k := ?_); refine Wl_neq (k' := ?_); (refine Wl_nil (hK _ _ ?_); clear hK K))
          | (refine Wc_region (id := 8) ?_; intro K hK; refine Wl_move (k := ?_); refine Wl_assign (k := ?_); (refine Wl_nil (hK _ _ ?_); clear hK K))
          | (refine Wc_region (id := 9) ?_; intro K hK; refine Wl_move (k := ?_); refine Wl_len_sl (k' := ?_); ((refine Wl_call (hs := parts_spec m (by omega)) (k := ?_); rintro v A' ⟨rfl, rfl⟩; simp only [List.cons_append, List.nil_append])) <;> (refine Wl_assign (k := ?_); (refine Wl_nil (hK _ _ ?_); clear hK K)))
          | (refine Wc_region (id := 10) ?_; intro K hK; refine Wl_move (k := ?_); refine Wl_move (k := ?_); refine Wl_nilCheck (k := ?_); refine Wl_fieldAddr (k := ?_); refine Wl_load (k := ?_); refine Wl_gtr (k' := ?_); refine Wl_move (k := ?_); ((first | (refine Wl_guard (k := ?_); refine Wl_move (k := ?_)) | refine Wl_gno (k := ?_) | ((refine Wl_split (yes := (fun ht => ?_)) (no := (fun ht => ?_)) <;> (try simp at ht) <;> (try (exfalso; omega))) <;> (first | (refine Wl_guard (k := ?_); refine Wl_move (k := ?_)) | refine Wl_gno (k := ?_))))) <;> (((first | (refine Wl_guard (k := ?_); refine Wl_gtr (k' := ?_)) | refine Wl_gno (k := ?_) | ((refine Wl_split (yes := (fun ht => ?_)) (no := (fun ht => ?_)) <;> (try simp at ht) <;> (try (exfalso; omega))) <;> (first | (refine Wl_guard (k := ?_); refine Wl_gtr (k' := ?_)) | refine Wl_gno (k := ?_))))) <;> ((first | refine Wl_pick_t (k := ?_) | refine Wl_pick_f (k := ?_) | refine Wl_pick (k := ?_)); (refine Wl_nil (hK _ _ ?_); clear hK K))))
          | (refine Wc_region (id := 11) ?_; intro K hK; refine Wl_assign (k := ?_); (refine Wl_nil (hK _ _ ?_); clear hK K))
          | (refine Wc_region (id := 12) ?_; intro K hK; refine Wl_assign (k := ?_); (refine Wl_nil (hK _ _ ?_); clear hK K))
          | (refine Wc_region (id := 13) ?_; intro K hK; refine Wl_move (k := ?_); refine Wl_nilCheck (k := ?_); refine Wl_fieldAddr (k := ?_); refine Wl_load (k := ?_); ((refine Wl_eql (k' := ?_); (first | rw [decide_eq_true hz] | rw [decide_eq_false hz]))) <;> ((refine Wl_nil (hK _ _ ?_); clear hK K)))
          | (refine Wc_region (id := 14) ?_; intro K hK; refine Wl_assign (k := ?_); (refine Wl_nil (hK _ _ ?_); clear hK K))
          | (refine Wc_region (id := 15) ?_; intro K hK; refine Wl_move (k := ?_); refine Wl_move (k := ?_); refine Wl_move (k := ?_); refine Wl_move (k := ?_); ((refine Wl_call (hs := hgo _ rfl) (k := ?_); rintro v A' ⟨rfl, rfl⟩; simp only [List.cons_append, List.nil_append])) <;> (refine Wl_not (k' := ?_); (refine Wl_nil (hK _ _ ?_); clear hK K)))
          | (refine Wc_region (id := 16) ?_; intro K hK; refine Wl_assign (k := ?_); (refine Wl_nil (hK _ _ ?_); clear hK K))
          | (refine Wc_cond (ht := (fun ht => ?_)) (hf := (fun ht => ?_)) <;> (try simp at ht) <;> (try (exfalso; omega))))
        exact ⟨Or.inr rfl, _, [cb j (JC d (J.fail true)) 107, DiskP d n P.1, X], (by (repeat (first | exact Ent.refl _ | exact Ent.nil | refine Ent.take (by (repeat (first | exact Out.head | apply Out.tail)); (first | done | fail)) ?_ | refine Ent.drop1 ?_))), res1 rfl rfl, rfl, rfl⟩
end specs
end Go.Proofs.Ytepeljbgekgjcaa
