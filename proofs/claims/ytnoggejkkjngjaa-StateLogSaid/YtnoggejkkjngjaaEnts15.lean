/- Layer 15: the entries that are told; what a log's sessions and keys have. Conditions: few entries. -/
import Derived.Test.YtnoggejkkjngjaaAwake15
set_option maxHeartbeats 8000000
set_option linter.unusedVariables false
set_option linter.unusedSimpArgs false
set_option maxRecDepth 100000
namespace Go.Proofs.Ytnoggejkkjngjaa
open Go Go.Sl
attribute [local irreducible] Go.Sl.Wl Go.Sl.Wc Go.Sl.thenQ Go.Sl.blkQ Go.Sl.loopQ Go.Sl.Fspec

theorem esC_cut (l : List EnX) (k m n : Nat) (hn : l.length - k ≤ n) : (((esC l).drop (k * 7)).take (n * 7)).take (m * 7) = esC ((l.drop k).take m) := by
  have e : (esC l).drop (k * 7) = esC (l.drop k) := by
    by_cases h : k ≤ l.length
    · have e1 : esC l = esC (l.take k) ++ esC (l.drop k) := by rw [← esC_app, List.take_append_drop]
      have hl : (esC (l.take k)).length = k * 7 := by rw [esC_len]; simp; omega
      rw [e1, ← hl, List.drop_left]
    · rw [List.drop_eq_nil_of_le (by rw [esC_len]; omega), List.drop_eq_nil_of_le (show l.length ≤ k by omega)]; rfl
  rw [e, List.take_of_length_le (i := n * 7) (by rw [esC_len]; simp; omega), esC_take]
theorem RdS.ofEnt {P : Program} {B : Base} {A A' : List Asn} {sz m c : Nat} {a : Option Addr} {vs : List Value} (h : RdS P B A' sz a m c vs) (he : Ent A A') : RdS P B A sz a m c vs :=
  ⟨h.len, h.nil, h.cap, h.src.weak fun w hs => hs.ent he⟩
section specs
variable {B : Base}
theorem sentries_spec (st : Nat) (S : S15) (hS : S.ok) (fr most : Int) (hr : -9223372036854775808 ≤ fr ∧ fr ≤ 9223372036854775807) (hr2 : -9223372036854775808 ≤ most ∧ most ≤ 9223372036854775807) :
    Fspec Try.prog B 25 #[.pointer (some ⟨st, 0, none⟩), .int .i64 fr, .int .i64 most] [StP st S]
      (fun v A' => ∃ b bc, v = .slice b (S.some fr most).length bc ∧ A' = [own b (S.some fr most).length bc 7 (esC (S.some fr most)) 35, StP st S]) := by
  have hi := S15.fold_i hS
  have hfew := hS.few
  refine spec_of (args := [_, _, _]) Try.func25 rfl rfl rfl ?_
  refine Wc_exN (fun q => ?_)
  obtain ⟨k, d, ta, tc, ea, ec⟩ := q
  simp only [StL, StR]
  simp only [List.cons_append, List.nil_append]
  have hfo : ∀ A0 : List Asn, Ent (StL st S ⟨k, d, ta, tc, ea, ec⟩ ++ A0) (StP st S :: A0) := fun A0 => st_fold (A0 := A0) ⟨k, d, ta, tc, ea, ec⟩ (Ent.refl _)
  unfold S15.some
  by_cases hc : fr ≤ 0 ∨ S.fold.i < fr ∨ most < 1
  · rw [if_pos hc]
    repeat' (first
      | refine Wc_seq ?_
      | refine thenQ_normal ?_
      | refine Wc_cond_t (h := ?_)
      | refine Wc_cond_f (h := ?_)
      | refine Wc_ret ?_
      | refine thenQ_ret ?_
      | refine Wc_block ?_
      | refine blkQ_normal ?_
      | refine blkQ_ret ?_
      | refine Wc_exit ?_
      | refine thenQ_exit ?_
      | refine blkQ_hit ?_
      | refine blkQ_miss rfl ?_
      | refine Wc_skip ?_
      | refine Wc_label ?_
      | refine loopQ_exit ?_
      | refine loopQ_ret ?_
      | refine loopQ_normal ?_
      | (refine Wc_region (id := 0) ?_; intro K hK; refine Wl_assign (k := ?_); (refine Wl_nil (hK _ _ ?_); clear hK K))
      | (refine Wc_region (id := 1) ?_; intro K hK; refine Wl_move (k := ?_); refine Wl_ptr_eq_nil (k' := ?_); refine Wl_move (k := ?_); ((first | (refine Wl_guard (k := ?_); refine Wl_move (k := ?_)) | refine Wl_gno (k := ?_) | ((refine Wl_split (yes := (fun ht => ?_)) (no := (fun ht => ?_)) <;> (try simp at ht) <;> (try (exfalso; omega))) <;> (first | (refine Wl_guard (k := ?_); refine Wl_move (k := ?_)) | refine Wl_gno (k := ?_))))) <;> (((first | (refine Wl_guard (k := ?_); refine Wl_move (k := ?_)) | refine Wl_gno (k := ?_) | ((refine Wl_split (yes := (fun ht => ?_)) (no := (fun ht => ?_)) <;> (try simp at ht) <;> (try (exfalso; omega))) <;> (first | (refine Wl_guard (k := ?_); refine Wl_move (k := ?_)) | refine Wl_gno (k := ?_))))) <;> (((first | (refine Wl_guard (k := ?_); refine Wl_nilCheck (k := ?_)) | refine Wl_gno (k := ?_) | ((refine Wl_split (yes := (fun ht => ?_)) (no := (fun ht => ?_)) <;> (try simp at ht) <;> (try (exfalso; omega))) <;> (first | (refine Wl_guard (k := ?_); refine Wl_nilCheck (k := ?_)) | refine Wl_gno (k := ?_))))) <;> (((first | (refine Wl_guard (k := ?_); refine Wl_fieldAddr (k := ?_)) | refine Wl_gno (k := ?_) | ((refine Wl_split (yes := (fun ht => ?_)) (no := (fun ht => ?_)) <;> (try simp at ht) <;> (try (exfalso; omega))) <;> (first | (refine Wl_guard (k := ?_); refine Wl_fieldAddr (k := ?_)) | refine Wl_gno (k := ?_))))) <;> (((first | (refine Wl_guard (k := ?_); refine Wl_fieldAddr (k := ?_)) | refine Wl_gno (k := ?_) | ((refine Wl_split (yes := (fun ht => ?_)) (no := (fun ht => ?_)) <;> (try simp at ht) <;> (try (exfalso; omega))) <;> (first | (refine Wl_guard (k := ?_); refine Wl_fieldAddr (k := ?_)) | refine Wl_gno (k := ?_))))) <;> (((first | (refine Wl_guard (k := ?_); refine Wl_fieldAddr (k := ?_)) | refine Wl_gno (k := ?_) | ((refine Wl_split (yes := (fun ht => ?_)) (no := (fun ht => ?_)) <;> (try simp at ht) <;> (try (exfalso; omega))) <;> (first | (refine Wl_guard (k := ?_); refine Wl_fieldAddr (k := ?_)) | refine Wl_gno (k := ?_))))) <;> (((first | (refine Wl_guard (k := ?_); refine Wl_load (k := ?_)) | refine Wl_gno (k := ?_) | ((refine Wl_split (yes := (fun ht => ?_)) (no := (fun ht => ?_)) <;> (try simp at ht) <;> (try (exfalso; omega))) <;> (first | (refine Wl_guard (k := ?_); refine Wl_load (k := ?_)) | refine Wl_gno (k := ?_))))) <;> (((first | (refine Wl_guard (k := ?_); refine Wl_leq (k' := ?_)) | refine Wl_gno (k := ?_) | ((refine Wl_split (yes := (fun ht => ?_)) (no := (fun ht => ?_)) <;> (try simp at ht) <;> (try (exfalso; omega))) <;> (first | (refine Wl_guard (k := ?_); refine Wl_leq (k' := ?_)) | refine Wl_gno (k := ?_))))) <;> ((first | refine Wl_pick_t (k := ?_) | refine Wl_pick_f (k := ?_) | refine Wl_pick (k := ?_)); refine Wl_move (k := ?_); ((first | (refine Wl_guard (k := ?_); refine Wl_move (k := ?_)) | refine Wl_gno (k := ?_) | ((refine Wl_split (yes := (fun ht => ?_)) (no := (fun ht => ?_)) <;> (try simp at ht) <;> (try (exfalso; omega))) <;> (first | (refine Wl_guard (k := ?_); refine Wl_move (k := ?_)) | refine Wl_gno (k := ?_))))) <;> (((first | (refine Wl_guard (k := ?_); refine Wl_move (k := ?_)) | refine Wl_gno (k := ?_) | ((refine Wl_split (yes := (fun ht => ?_)) (no := (fun ht => ?_)) <;> (try simp at ht) <;> (try (exfalso; omega))) <;> (first | (refine Wl_guard (k := ?_); refine Wl_move (k := ?_)) | refine Wl_gno (k := ?_))))) <;> (((first | (refine Wl_guard (k := ?_); refine Wl_nilCheck (k := ?_)) | refine Wl_gno (k := ?_) | ((refine Wl_split (yes := (fun ht => ?_)) (no := (fun ht => ?_)) <;> (try simp at ht) <;> (try (exfalso; omega))) <;> (first | (refine Wl_guard (k := ?_); refine Wl_nilCheck (k := ?_)) | refine Wl_gno (k := ?_))))) <;> (((first | (refine Wl_guard (k := ?_); refine Wl_fieldAddr (k := ?_)) | refine Wl_gno (k := ?_) | ((refine Wl_split (yes := (fun ht => ?_)) (no := (fun ht => ?_)) <;> (try simp at ht) <;> (try (exfalso; omega))) <;> (first | (refine Wl_guard (k := ?_); refine Wl_fieldAddr (k := ?_)) | refine Wl_gno (k := ?_))))) <;> (((first | (refine Wl_guard (k := ?_); refine Wl_fieldAddr (k := ?_)) | refine Wl_gno (k := ?_) | ((refine Wl_split (yes := (fun ht => ?_)) (no := (fun ht => ?_)) <;> (try simp at ht) <;> (try (exfalso; omega))) <;> (first | (refine Wl_guard (k := ?_); refine Wl_fieldAddr (k := ?_)) | refine Wl_gno (k := ?_))))) <;> (((first | (refine Wl_guard (k := ?_); refine Wl_fieldAddr (k := ?_)) | refine Wl_gno (k := ?_) | ((refine Wl_split (yes := (fun ht => ?_)) (no := (fun ht => ?_)) <;> (try simp at ht) <;> (try (exfalso; omega))) <;> (first | (refine Wl_guard (k := ?_); refine Wl_fieldAddr (k := ?_)) | refine Wl_gno (k := ?_))))) <;> (((first | (refine Wl_guard (k := ?_); refine Wl_load (k := ?_)) | refine Wl_gno (k := ?_) | ((refine Wl_split (yes := (fun ht => ?_)) (no := (fun ht => ?_)) <;> (try simp at ht) <;> (try (exfalso; omega))) <;> (first | (refine Wl_guard (k := ?_); refine Wl_load (k := ?_)) | refine Wl_gno (k := ?_))))) <;> (((first | (refine Wl_guard (k := ?_); refine Wl_gtr (k' := ?_)) | refine Wl_gno (k := ?_) | ((refine Wl_split (yes := (fun ht => ?_)) (no := (fun ht => ?_)) <;> (try simp at ht) <;> (try (exfalso; omega))) <;> (first | (refine Wl_guard (k := ?_); refine Wl_gtr (k' := ?_)) | refine Wl_gno (k := ?_))))) <;> ((first | refine Wl_pick_t (k := ?_) | refine Wl_pick_f (k := ?_) | refine Wl_pick (k := ?_)); refine Wl_move (k := ?_); ((first | (refine Wl_guard (k := ?_); refine Wl_move (k := ?_)) | refine Wl_gno (k := ?_) | ((refine Wl_split (yes := (fun ht => ?_)) (no := (fun ht => ?_)) <;> (try simp at ht) <;> (try (exfalso; omega))) <;> (first | (refine Wl_guard (k := ?_); refine Wl_move (k := ?_)) | refine Wl_gno (k := ?_))))) <;> (((first | (refine Wl_guard (k := ?_); refine Wl_lss (k' := ?_)) | refine Wl_gno (k := ?_) | ((refine Wl_split (yes := (fun ht => ?_)) (no := (fun ht => ?_)) <;> (try simp at ht) <;> (try (exfalso; omega))) <;> (first | (refine Wl_guard (k := ?_); refine Wl_lss (k' := ?_)) | refine Wl_gno (k := ?_))))) <;> ((first | refine Wl_pick_t (k := ?_) | refine Wl_pick_f (k := ?_) | refine Wl_pick (k := ?_)); (refine Wl_nil (hK _ _ ?_); clear hK K))))))))))))))))))))
      | (refine Wc_region (id := 2) ?_; intro K hK; refine Wl_assign (k := ?_); (refine Wl_nil (hK _ _ ?_); clear hK K))
      | (refine Wc_draw (id := 3) (h := ?_); intro K hK; refine Wl_move (k := ?_); refine Wl_nilCheck (k := ?_); refine Wl_fieldAddr (k := ?_); refine Wl_load (k := ?_); refine Wl_move (k := ?_); refine Wl_move (k := ?_); refine Wl_nilCheck (k := ?_); refine Wl_fieldAddr (k := ?_); refine Wl_fieldAddr (k := ?_); refine Wl_fieldAddr (k := ?_); refine Wl_load (k := ?_); refine Wl_sub (k' := ?_); refine Wl_sub (k' := ?_))
      | (refine Wc_region (id := 4) ?_; intro K hK; (refine Wl_lit0o (k := ?_); intro r); refine Wl_move (k := ?_); refine Wl_move (k := ?_); refine Wl_move (k := ?_); refine Wl_len_sl (k' := ?_); refine Wl_min (k' := ?_); refine Wl_slice_sl0 (k' := ?_))
      | (refine Wc_cond (ht := (fun ht => ?_)) (hf := (fun ht => ?_)) <;> (try simp at ht) <;> (try (exfalso; omega))))
    all_goals exact ⟨Or.inr rfl, _, [own none 0 0 7 [] 35, StP st S], (hfo []).trans (own_nil 7 35 _), res1 rfl rfl, none, 0, rfl, rfl⟩
  · rw [if_neg hc]
    obtain ⟨l, hl⟩ : ∃ l, l = fr.toNat - 1 := ⟨_, rfl⟩
    obtain ⟨mm, hmm⟩ : ∃ mm, mm = min most.toNat (S.es.length - l) := ⟨_, rfl⟩
    have h1 : fr - 0 - 1 = ((l : Nat) : Int) := by omega
    have h1' : fr - 0 = ((l + 1 : Nat) : Int) := by omega
    have h2 : min most ((S.es.length - l : Nat) : Int) = ((mm : Nat) : Int) := by omega
    have hlen : ((S.es.drop l).take most.toNat).length = mm := by simp; omega
    have htk : (S.es.drop l).take most.toNat = (S.es.drop l).take mm := by
      rw [hmm]
      by_cases h : most.toNat ≤ S.es.length - l
      · rw [Nat.min_eq_left h]
      · rw [Nat.min_eq_right (by omega), List.take_of_length_le (by simp; omega), List.take_of_length_le (by simp)]
    rw [← hl, hlen, htk]
    refine Wc_ownF (a := ea) (sz := 7) (ho := (by (repeat (first | exact Out.head | apply Out.tail)); (first | done | fail))) (h0 := by omega) (h := fun hfe => ?_)
    have hcut0 : RdS Try.prog B [own ea S.es.length ec 7 (esC S.es) 35] 7 (slAdd ea ec l 7) mm (ec - l) (esC ((S.es.drop l).take mm)) := by
      have h9 : RdS Try.prog B [own ea S.es.length ec 7 (esC S.es) 35] 7 ea S.es.length ec (esC S.es) := hfe.rd .head
      have := (h9.cut (show l ≤ S.es.length by omega) (Nat.le_refl _)).take (show mm ≤ S.es.length - l by omega)
      rwa [esC_cut S.es l mm (S.es.length - l) (by omega)] at this
    repeat' (first
      | refine Wc_seq ?_
      | refine thenQ_normal ?_
      | refine Wc_cond_t (h := ?_)
      | refine Wc_cond_f (h := ?_)
      | refine Wc_ret ?_
      | refine thenQ_ret ?_
      | refine Wc_block ?_
      | refine blkQ_normal ?_
      | refine blkQ_ret ?_
      | refine Wc_exit ?_
      | refine thenQ_exit ?_
      | refine blkQ_hit ?_
      | refine blkQ_miss rfl ?_
      | refine Wc_skip ?_
      | refine Wc_label ?_
      | refine loopQ_exit ?_
      | refine loopQ_ret ?_
      | refine loopQ_normal ?_
      | (refine Wc_region (id := 0) ?_; intro K hK; refine Wl_assign (k := ?_); (refine Wl_nil (hK _ _ ?_); clear hK K))
      | (refine Wc_region (id := 1) ?_; intro K hK; refine Wl_move (k := ?_); refine Wl_ptr_eq_nil (k' := ?_); refine Wl_move (k := ?_); ((first | (refine Wl_guard (k := ?_); refine Wl_move (k := ?_)) | refine Wl_gno (k := ?_) | ((refine Wl_split (yes := (fun ht => ?_)) (no := (fun ht => ?_)) <;> (try simp at ht) <;> (try (exfalso; omega))) <;> (first | (refine Wl_guard (k := ?_); refine Wl_move (k := ?_)) | refine Wl_gno (k := ?_))))) <;> (((first | (refine Wl_guard (k := ?_); refine Wl_move (k := ?_)) | refine Wl_gno (k := ?_) | ((refine Wl_split (yes := (fun ht => ?_)) (no := (fun ht => ?_)) <;> (try simp at ht) <;> (try (exfalso; omega))) <;> (first | (refine Wl_guard (k := ?_); refine Wl_move (k := ?_)) | refine Wl_gno (k := ?_))))) <;> (((first | (refine Wl_guard (k := ?_); refine Wl_nilCheck (k := ?_)) | refine Wl_gno (k := ?_) | ((refine Wl_split (yes := (fun ht => ?_)) (no := (fun ht => ?_)) <;> (try simp at ht) <;> (try (exfalso; omega))) <;> (first | (refine Wl_guard (k := ?_); refine Wl_nilCheck (k := ?_)) | refine Wl_gno (k := ?_))))) <;> (((first | (refine Wl_guard (k := ?_); refine Wl_fieldAddr (k := ?_)) | refine Wl_gno (k := ?_) | ((refine Wl_split (yes := (fun ht => ?_)) (no := (fun ht => ?_)) <;> (try simp at ht) <;> (try (exfalso; omega))) <;> (first | (refine Wl_guard (k := ?_); refine Wl_fieldAddr (k := ?_)) | refine Wl_gno (k := ?_))))) <;> (((first | (refine Wl_guard (k := ?_); refine Wl_fieldAddr (k := ?_)) | refine Wl_gno (k := ?_) | ((refine Wl_split (yes := (fun ht => ?_)) (no := (fun ht => ?_)) <;> (try simp at ht) <;> (try (exfalso; omega))) <;> (first | (refine Wl_guard (k := ?_); refine Wl_fieldAddr (k := ?_)) | refine Wl_gno (k := ?_))))) <;> (((first | (refine Wl_guard (k := ?_); refine Wl_fieldAddr (k := ?_)) | refine Wl_gno (k := ?_) | ((refine Wl_split (yes := (fun ht => ?_)) (no := (fun ht => ?_)) <;> (try simp at ht) <;> (try (exfalso; omega))) <;> (first | (refine Wl_guard (k := ?_); refine Wl_fieldAddr (k := ?_)) | refine Wl_gno (k := ?_))))) <;> (((first | (refine Wl_guard (k := ?_); refine Wl_load (k := ?_)) | refine Wl_gno (k := ?_) | ((refine Wl_split (yes := (fun ht => ?_)) (no := (fun ht => ?_)) <;> (try simp at ht) <;> (try (exfalso; omega))) <;> (first | (refine Wl_guard (k := ?_); refine Wl_load (k := ?_)) | refine Wl_gno (k := ?_))))) <;> (((first | (refine Wl_guard (k := ?_); refine Wl_leq (k' := ?_)) | refine Wl_gno (k := ?_) | ((refine Wl_split (yes := (fun ht => ?_)) (no := (fun ht => ?_)) <;> (try simp at ht) <;> (try (exfalso; omega))) <;> (first | (refine Wl_guard (k := ?_); refine Wl_leq (k' := ?_)) | refine Wl_gno (k := ?_))))) <;> ((first | refine Wl_pick_t (k := ?_) | refine Wl_pick_f (k := ?_) | refine Wl_pick (k := ?_)); refine Wl_move (k := ?_); ((first | (refine Wl_guard (k := ?_); refine Wl_move (k := ?_)) | refine Wl_gno (k := ?_) | ((refine Wl_split (yes := (fun ht => ?_)) (no := (fun ht => ?_)) <;> (try simp at ht) <;> (try (exfalso; omega))) <;> (first | (refine Wl_guard (k := ?_); refine Wl_move (k := ?_)) | refine Wl_gno (k := ?_))))) <;> (((first | (refine Wl_guard (k := ?_); refine Wl_move (k := ?_)) | refine Wl_gno (k := ?_) | ((refine Wl_split (yes := (fun ht => ?_)) (no := (fun ht => ?_)) <;> (try simp at ht) <;> (try (exfalso; omega))) <;> (first | (refine Wl_guard (k := ?_); refine Wl_move (k := ?_)) | refine Wl_gno (k := ?_))))) <;> (((first | (refine Wl_guard (k := ?_); refine Wl_nilCheck (k := ?_)) | refine Wl_gno (k := ?_) | ((refine Wl_split (yes := (fun ht => ?_)) (no := (fun ht => ?_)) <;> (try simp at ht) <;> (try (exfalso; omega))) <;> (first | (refine Wl_guard (k := ?_); refine Wl_nilCheck (k := ?_)) | refine Wl_gno (k := ?_))))) <;> (((first | (refine Wl_guard (k := ?_); refine Wl_fieldAddr (k := ?_)) | refine Wl_gno (k := ?_) | ((refine Wl_split (yes := (fun ht => ?_)) (no := (fun ht => ?_)) <;> (try simp at ht) <;> (try (exfalso; omega))) <;> (first | (refine Wl_guard (k := ?_); refine Wl_fieldAddr (k := ?_)) | refine Wl_gno (k := ?_))))) <;> (((first | (refine Wl_guard (k := ?_); refine Wl_fieldAddr (k := ?_)) | refine Wl_gno (k := ?_) | ((refine Wl_split (yes := (fun ht => ?_)) (no := (fun ht => ?_)) <;> (try simp at ht) <;> (try (exfalso; omega))) <;> (first | (refine Wl_guard (k := ?_); refine Wl_fieldAddr (k := ?_)) | refine Wl_gno (k := ?_))))) <;> (((first | (refine Wl_guard (k := ?_); refine Wl_fieldAddr (k := ?_)) | refine Wl_gno (k := ?_) | ((refine Wl_split (yes := (fun ht => ?_)) (no := (fun ht => ?_)) <;> (try simp at ht) <;> (try (exfalso; omega))) <;> (first | (refine Wl_guard (k := ?_); refine Wl_fieldAddr (k := ?_)) | refine Wl_gno (k := ?_))))) <;> (((first | (refine Wl_guard (k := ?_); refine Wl_load (k := ?_)) | refine Wl_gno (k := ?_) | ((refine Wl_split (yes := (fun ht => ?_)) (no := (fun ht => ?_)) <;> (try simp at ht) <;> (try (exfalso; omega))) <;> (first | (refine Wl_guard (k := ?_); refine Wl_load (k := ?_)) | refine Wl_gno (k := ?_))))) <;> (((first | (refine Wl_guard (k := ?_); refine Wl_gtr (k' := ?_)) | refine Wl_gno (k := ?_) | ((refine Wl_split (yes := (fun ht => ?_)) (no := (fun ht => ?_)) <;> (try simp at ht) <;> (try (exfalso; omega))) <;> (first | (refine Wl_guard (k := ?_); refine Wl_gtr (k' := ?_)) | refine Wl_gno (k := ?_))))) <;> ((first | refine Wl_pick_t (k := ?_) | refine Wl_pick_f (k := ?_) | refine Wl_pick (k := ?_)); refine Wl_move (k := ?_); ((first | (refine Wl_guard (k := ?_); refine Wl_move (k := ?_)) | refine Wl_gno (k := ?_) | ((refine Wl_split (yes := (fun ht => ?_)) (no := (fun ht => ?_)) <;> (try simp at ht) <;> (try (exfalso; omega))) <;> (first | (refine Wl_guard (k := ?_); refine Wl_move (k := ?_)) | refine Wl_gno (k := ?_))))) <;> (((first | (refine Wl_guard (k := ?_); refine Wl_lss (k' := ?_)) | refine Wl_gno (k := ?_) | ((refine Wl_split (yes := (fun ht => ?_)) (no := (fun ht => ?_)) <;> (try simp at ht) <;> (try (exfalso; omega))) <;> (first | (refine Wl_guard (k := ?_); refine Wl_lss (k' := ?_)) | refine Wl_gno (k := ?_))))) <;> ((first | refine Wl_pick_t (k := ?_) | refine Wl_pick_f (k := ?_) | refine Wl_pick (k := ?_)); (refine Wl_nil (hK _ _ ?_); clear hK K))))))))))))))))))))
      | (refine Wc_region (id := 2) ?_; intro K hK; refine Wl_assign (k := ?_); (refine Wl_nil (hK _ _ ?_); clear hK K))
      | (refine Wc_draw (id := 3) (h := ?_); intro K hK; refine Wl_move (k := ?_); refine Wl_nilCheck (k := ?_); refine Wl_fieldAddr (k := ?_); refine Wl_load (k := ?_); refine Wl_move (k := ?_); refine Wl_move (k := ?_); refine Wl_nilCheck (k := ?_); refine Wl_fieldAddr (k := ?_); refine Wl_fieldAddr (k := ?_); refine Wl_fieldAddr (k := ?_); refine Wl_load (k := ?_); ((refine Wl_sub (k' := ?_); rw [h1'])) <;> (((refine Wl_sub (k' := ?_); rw [show ((l + 1 : Nat) : Int) - 1 = ((l : Nat) : Int) by omega])) <;> (((refine Wl_slice_any (l := l) (h := S.es.length) (hlo := ⟨_, rfl⟩) (hhi := rfl) (hlh := by omega) (hhc := hfe.e2) (k' := ?_))) <;> (refine Wl_assign (k := ?_); (refine Wl_nil (hK _ _ ?_); clear hK K)))))
      | (refine Wc_region (id := 4) ?_; intro K hK; ((refine Wl_lit0o (k := ?_); intro r48)) <;> (refine Wl_move (k := ?_); refine Wl_move (k := ?_); refine Wl_move (k := ?_); refine Wl_len_sl (k' := ?_); ((refine Wl_min (k' := ?_); rw [h2])) <;> (((refine Wl_slice_any0 (h := mm) (hhi := ⟨_, rfl⟩) (hhc := by have := hfe.e2; omega) (k' := ?_))) <;> (((refine Wl_appendR (vs := esC ((S.es.drop l).take mm)) (hsrc := RdS.ofEnt hcut0 (by (repeat (first | exact Ent.refl _ | exact Ent.nil | refine Ent.take (by (repeat (first | exact Out.head | apply Out.tail)); (first | done | fail)) ?_ | refine Ent.drop1 ?_)))) (hvc := esC_all _) (hbd := by omega) (k := ?_); intro nb nc)) <;> (refine Wl_assign (k := ?_); (refine Wl_nil (hK _ _ ?_); clear hK K))))))
      | (refine Wc_cond (ht := (fun ht => ?_)) (hf := (fun ht => ?_)) <;> (try simp at ht) <;> (try (exfalso; omega))))
    refine ⟨Or.inr rfl, _, [own nb mm nc 7 (esC ((S.es.drop l).take mm)) 35, StP st S], ?_, res1 rfl rfl, nb, nc, congrArg (fun k => Value.slice nb k nc) (Nat.zero_add _), rfl⟩
    simp only [Nat.zero_add, List.nil_append]
    refine Ent.trans ?_ ((hfo [own nb mm nc 7 (esC ((S.es.drop l).take mm)) 35]).trans (Ent.perm (List.Perm.swap ..)))
    simp only [StL, StR]
    simp only [List.cons_append, List.nil_append]
    (repeat (first | exact Ent.refl _ | exact Ent.nil | refine Ent.take (by (repeat (first | exact Out.head | apply Out.tail)); (first | done | fail)) ?_ | refine Ent.drop1 ?_))
end specs
theorem lget_ne {k k' : ByteArray} {v : VX} (hn : k' ≠ k) : ∀ l : KL, lget (lset l k v) k' = lget l k'
  | [] => by
    simp only [lset, lget]
    split
    · rfl
    · rename_i h
      rw [if_pos (klt_total (by simpa using h) hn)]
  | (q, w) :: l => by
    unfold lset
    split
    · rename_i h1
      simp only [lget]
      by_cases h2 : klt k' k = true
      · rw [if_pos h2, if_pos (klt_trans h2 h1)]
      · rw [if_neg h2, if_pos (klt_total (by simpa using h2) hn)]
    · split
      · simp only [lget]
        rw [lget_ne hn l]
      · rename_i h1 h2
        have he : q = k := Classical.byContradiction fun hne => h1 (klt_total (by simpa using h2) hne)
        subst he
        simp only [lget]
        split
        · rfl
        · rename_i h3
          rw [if_pos (klt_total (by simpa using h3) hn), if_pos (klt_total (by simpa using h3) hn)]
theorem gX_get {t : Tree} (hr : Ris t.inorder) {k : ByteArray} {v : VX} (h : lget t.inorder k = some v) : gX t k = v := by
  have h1 := Tree.from_in t k none hr
  have h2 := lfrom_get (k := k) hr
  rw [Option.or_none] at h1
  rw [← h1, h] at h2
  obtain ⟨b, hb⟩ := getV_gX t k
  rw [h2] at hb
  have hc2 : (gX t k).C = v.C ∧ b = true := by simpa using hb.symm
  have hc := hc2.1
  cases hg : gX t k
  rw [hg] at hc
  cases v
  simpa [VX.C] using hc
/-- What a log's keys have. -/
theorem log_keys (f : ByteArray → ByteArray) (ks : List ByteArray) (S : S15) (n : Nat) (hS : S.es = logE f ks n) : ∀ k, k ≤ n → ∀ i, i < k → ∃ j, i < j ∧ j ≤ k ∧ keyAt ks (j - 1) = keyAt ks i ∧ lget (S.upto k).t.inorder (keyAt ks i) = some ⟨1, j, true, f (keyAt ks i)⟩
  | 0, _, i, hi => by omega
  | k + 1, hk, i, hi => by
    have hlog : LogE S.es := by rw [hS]; exact logE_log f ks n
    have hF := upto_log hlog k (by rw [hS, logE_len]; omega)
    have hx : S.es[k]? = some (simX (k + 1) (keyAt ks k) (f (keyAt ks k))) := by rw [hS]; exact logE_get f ks (by omega)
    have hin : (S.upto (k + 1)).t.inorder = lset (S.upto k).t.inorder (keyAt ks k) ⟨1, ((k + 1 : Nat) : Int), true, f (keyAt ks k)⟩ := by
      rw [S15.upto_succ hx]; exact Tree.inorder_set _ _ _ hF.ris
    rw [hin]
    by_cases he : keyAt ks i = keyAt ks k
    · exact ⟨k + 1, by omega, Nat.le_refl _, he.symm, by rw [he, lget_lset]⟩
    · have hik : i < k := by
        rcases Nat.lt_or_ge i k with h | h
        · exact h
        · obtain rfl : i = k := by omega
          exact absurd rfl he
      obtain ⟨j, j1, j2, j3, j4⟩ := log_keys f ks S n hS k (by omega) i hik
      exact ⟨j, j1, by omega, j3, by rw [lget_ne he, j4]⟩
/-- What a log's sessions have. -/
theorem log_seen (f : ByteArray → ByteArray) (ks : List ByteArray) (S : S15) (n : Nat) (hS : S.es = logE f ks n) : ∀ k, k ≤ n → ∀ j : Nat, 1 ≤ j → j ≤ k → ∃ j' : Nat, j ≤ j' ∧ j' ≤ k ∧ j' % 3 = j % 3 ∧ k < j' + 3 ∧ dget (S.upto k).L (1 + (j : Int) % 3) = some ⟨1 + (j' : Int) % 3, j', 1, j'⟩
  | 0, _, j, h1, h2 => by omega
  | k + 1, hk, j, h1, h2 => by
    have hlog : LogE S.es := by rw [hS]; exact logE_log f ks n
    have hF := upto_log hlog k (by rw [hS, logE_len]; omega)
    have hx : S.es[k]? = some (simX (k + 1) (keyAt ks k) (f (keyAt ks k))) := by rw [hS]; exact logE_get f ks (by omega)
    have hfr : (lookV (S.upto k).L 16 (1 + ((k + 1 : Nat) : Int) % 3) ((k + 1 : Nat) : Int)).1 = 1 := look_fresh hF.rs hF.ses (by omega)
    have hL : (S.upto (k + 1)).L = dput (S.upto k).L ⟨1 + ((k + 1 : Nat) : Int) % 3, ((k + 1 : Nat) : Int), 1, ((k + 1 : Nat) : Int)⟩ := by
      rw [S15.upto_succ hx]
      show noteV (S.upto k).L 16 _ = _
      unfold noteV
      exact if_pos hfr
    rw [hL, dget_put hF.rs]
    by_cases he : (k + 1) % 3 = j % 3
    · refine ⟨k + 1, h2, Nat.le_refl _, he, by omega, ?_⟩
      rw [if_pos (by show 1 + (j : Int) % 3 = 1 + ((k + 1 : Nat) : Int) % 3; omega)]
    · have hjk : j ≤ k := by
        rcases Nat.lt_or_ge k j with h | h
        · obtain rfl : j = k + 1 := by omega
          exact absurd rfl he
        · exact h
      obtain ⟨j', q1, q2, q3, q4, q5⟩ := log_seen f ks S n hS k (by omega) j h1 hjk
      refine ⟨j', q1, by omega, q3, by omega, ?_⟩
      rw [if_neg (by show ¬ (1 + (j : Int) % 3 = 1 + ((k + 1 : Nat) : Int) % 3); omega), q5]
end Go.Proofs.Ytnoggejkkjngjaa
