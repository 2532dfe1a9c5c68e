/- Layer 15, StateCompacts: the walk. Conditions: none but the kinds' bounds. -/
import Derived.Test.YtnoggejkkjngjaaK13
set_option maxHeartbeats 8000000
set_option linter.unusedVariables false
set_option linter.unusedSimpArgs false
set_option maxRecDepth 100000
namespace Go.Proofs.Ytnoggejkkjngjaa
open Go Go.Sl
attribute [local irreducible] Go.Sl.Wl Go.Sl.Wc Go.Sl.thenQ Go.Sl.blkQ Go.Sl.loopQ Go.Sl.Fspec

section specs
variable {B : Base}
theorem cmp15_spec (l : List RI) (a : Option Addr) (c : Nat) (hlen : l.length ≤ 9223372036854775807) (hl : ∀ x ∈ l, x.ok B) (hr : RdS Try.prog B [] 16 a l.length c (recsC l)) :
    Fspec Try.prog B 4 #[.slice a l.length c] [] (fun v A' => v = .bool true ∧ A' = []) := by
  refine spec_of (args := [_]) Try.func4 rfl rfl rfl ?_
  repeat' (first
    | refine Wc_seq ?_
    | refine thenQ_normal ?_
    | refine Wc_cond_t (h := ?_)
    | refine Wc_cond_f (h := ?_)
    | refine Wc_ret ?_
    | refine thenQ_ret ?_
    | refine Wc_block ?_
    | refine blkQ_normal ?_
    | refine blkQ_ret ?_
    | refine Wc_exit ?_
    | refine thenQ_exit ?_
    | refine blkQ_hit ?_
    | refine blkQ_miss rfl ?_
    | refine Wc_skip ?_
    | refine Wc_label ?_
    | refine loopQ_exit ?_
    | refine loopQ_ret ?_
    | refine loopQ_normal ?_
    | (refine Wc_region (id := 0) ?_; intro K hK; refine Wl_assign (k := ?_); (refine Wl_nil (hK _ _ ?_); clear hK K))
    | (refine Wc_region (id := 1) ?_; intro K hK; ((refine Wl_call (hs := awake15) (k := ?_); rintro v A' ⟨rfl, rfl⟩; simp only [List.cons_append, List.nil_append])) <;> (refine Wl_not (k' := ?_); (refine Wl_nil (hK _ _ ?_); clear hK K)))
    | (refine Wc_region (id := 2) ?_; intro K hK; refine Wl_assign (k := ?_); (refine Wl_nil (hK _ _ ?_); clear hK K))
    | (refine Wc_region (id := 3) ?_; intro K hK; ((refine Wl_call (hs := one_spec) (k := ?_); rintro v A' ⟨ra, rfl, rfl⟩; simp only [List.cons_append, List.nil_append])) <;> (((refine Wl_call (hs := gnew_spec [cb ra (epsC oneT) 29] oneT (some ⟨ra, 0, none⟩) 1 (rds_cb .head rfl) one_right) (k := ?_); rintro v A' ⟨sta, rfl, rfl⟩; simp only [List.cons_append, List.nil_append])) <;> (refine Wl_move (k := ?_); refine Wl_extract (k' := ?_); refine Wl_extract (k' := ?_); refine Wl_assign (k := ?_); refine Wl_assign (k := ?_); (refine Wl_nil (hK _ _ ?_); clear hK K))))
    | (refine Wc_region (id := 4) ?_; intro K hK; ((refine Wl_call (hs := one_spec) (k := ?_); rintro v A' ⟨rb, rfl, rfl⟩; simp only [List.cons_append, List.nil_append])) <;> (((refine Wl_call (hs := gnew_spec [cb rb (epsC oneT) 29] oneT (some ⟨rb, 0, none⟩) 1 (rds_cb .head rfl) one_right) (k := ?_); rintro v A' ⟨stb, rfl, rfl⟩; simp only [List.cons_append, List.nil_append])) <;> (refine Wl_move (k := ?_); refine Wl_extract (k' := ?_); refine Wl_extract (k' := ?_); refine Wl_assign (k := ?_); refine Wl_assign (k := ?_); (refine Wl_nil (hK _ _ ?_); clear hK K))))
    | (refine Wc_region (id := 5) ?_; intro K hK; refine Wl_assign (k := ?_); (refine Wl_nil (hK _ _ ?_); clear hK K))
    | (refine Wc_cond (ht := (fun ht => ?_)) (hf := (fun ht => ?_)) <;> (try simp at ht) <;> (try (exfalso; omega))))
  refine Wc_loop (α := Nat × G15 × G15) (fun y => [(0, .slice a l.length c), (3, .pointer (some ⟨sta, 0, none⟩)), (5, .pointer (some ⟨stb, 0, none⟩)), (7, .int .i64 y.1)]) (fun y => [GtP sta y.2.1, GtP stb y.2.2])
    (fun y => y.1 ≤ min l.length 60 ∧ y.2.1.inv (1000 + y.1) ∧ y.2.2.inv (1000 + y.1) ∧ Sim y.2.1 y.2.2) (fun y => 60 - y.1) (0, newG oneT, newG oneT) ⟨by omega, new_inv one_right, new_inv one_right, Sim.refl _⟩ ⟨rfl, rfl, rfl, rfl, trivial⟩ (by (repeat (first | exact Ent.refl _ | exact Ent.nil | refine Ent.take (by (repeat (first | exact Out.head | apply Out.tail)); (first | done | fail)) ?_ | refine Ent.drop1 ?_))) ?_
  rintro ⟨j, Sa, Sb⟩ G ⟨hj, ha, hb, hsim⟩
  simp only [ov] at hj ha hb hsim ⊢
  by_cases hlt : ¬ (j < l.length ∧ j < 60)
  · repeat' (first
      | refine Wc_seq ?_
      | refine thenQ_normal ?_
      | refine Wc_cond_t (h := ?_)
      | refine Wc_cond_f (h := ?_)
      | refine Wc_ret ?_
      | refine thenQ_ret ?_
      | refine Wc_block ?_
      | refine blkQ_normal ?_
      | refine blkQ_ret ?_
      | refine Wc_exit ?_
      | refine thenQ_exit ?_
      | refine blkQ_hit ?_
      | refine blkQ_miss rfl ?_
      | refine Wc_skip ?_
      | refine Wc_label ?_
      | refine loopQ_exit ?_
      | refine loopQ_ret ?_
      | refine loopQ_normal ?_
      | (refine Wc_region (id := 6) ?_; intro K hK; refine Wl_move (k := ?_); refine Wl_move (k := ?_); refine Wl_len_sl (k' := ?_); refine Wl_lss (k' := ?_); refine Wl_move (k := ?_); ((first | (refine Wl_guard (k := ?_); refine Wl_move (k := ?_)) | refine Wl_gno (k := ?_) | ((refine Wl_split (yes := (fun ht => ?_)) (no := (fun ht => ?_)) <;> (try simp at ht) <;> (try (exfalso; omega))) <;> (first | (refine Wl_guard (k := ?_); refine Wl_move (k := ?_)) | refine Wl_gno (k := ?_))))) <;> (((first | (refine Wl_guard (k := ?_); refine Wl_lss (k' := ?_)) | refine Wl_gno (k := ?_) | ((refine Wl_split (yes := (fun ht => ?_)) (no := (fun ht => ?_)) <;> (try simp at ht) <;> (try (exfalso; omega))) <;> (first | (refine Wl_guard (k := ?_); refine Wl_lss (k' := ?_)) | refine Wl_gno (k := ?_))))) <;> ((first | refine Wl_pick_t (k := ?_) | refine Wl_pick_f (k := ?_) | refine Wl_pick (k := ?_)); (refine Wl_nil (hK _ _ ?_); clear hK K))))
      | (refine Wc_region (id := 23) ?_; intro K hK; refine Wl_assign (k := ?_); (refine Wl_nil (hK _ _ ?_); clear hK K))
      | (refine Wc_cond (ht := (fun ht => ?_)) (hf := (fun ht => ?_)) <;> (try simp at ht) <;> (try (exfalso; omega))))
    all_goals exact ⟨Or.inr rfl, .bool true, [], Ent.nil, res1 rfl rfl, rfl, rfl⟩
  obtain ⟨hl1, hl2⟩ := Classical.not_not.1 hlt
  obtain ⟨p, rfl⟩ : ∃ q, a = some q := by
    cases a with
    | none => have := hr.nil rfl; omega
    | some q => exact ⟨q, rfl⟩
  obtain ⟨x, hx⟩ : ∃ x, l[j]? = some x := ⟨_, List.getElem?_eq_getElem hl1⟩
  have hxo := hl x (List.mem_of_getElem? hx)
  have hli := light_spec (B := B) x.r hxo.pl hxo.sl x.pa x.pc x.sa x.sc hxo.h1
  cases hL : lightV x.r with
  | false =>
    rw [hL] at hli
    repeat' (first
      | refine Wc_seq ?_
      | refine thenQ_normal ?_
      | refine Wc_cond_t (h := ?_)
      | refine Wc_cond_f (h := ?_)
      | refine Wc_ret ?_
      | refine thenQ_ret ?_
      | refine Wc_block ?_
      | refine blkQ_normal ?_
      | refine blkQ_ret ?_
      | refine Wc_exit ?_
      | refine thenQ_exit ?_
      | refine blkQ_hit ?_
      | refine blkQ_miss rfl ?_
      | refine Wc_skip ?_
      | refine Wc_label ?_
      | refine loopQ_exit ?_
      | refine loopQ_ret ?_
      | refine loopQ_normal ?_
      | (refine Wc_region (id := 6) ?_; intro K hK; refine Wl_move (k := ?_); refine Wl_move (k := ?_); refine Wl_len_sl (k' := ?_); refine Wl_lss (k' := ?_); refine Wl_move (k := ?_); ((first | (refine Wl_guard (k := ?_); refine Wl_move (k := ?_)) | refine Wl_gno (k := ?_) | ((refine Wl_split (yes := (fun ht => ?_)) (no := (fun ht => ?_)) <;> (try simp at ht) <;> (try (exfalso; omega))) <;> (first | (refine Wl_guard (k := ?_); refine Wl_move (k := ?_)) | refine Wl_gno (k := ?_))))) <;> (((first | (refine Wl_guard (k := ?_); refine Wl_lss (k' := ?_)) | refine Wl_gno (k := ?_) | ((refine Wl_split (yes := (fun ht => ?_)) (no := (fun ht => ?_)) <;> (try simp at ht) <;> (try (exfalso; omega))) <;> (first | (refine Wl_guard (k := ?_); refine Wl_lss (k' := ?_)) | refine Wl_gno (k := ?_))))) <;> ((first | refine Wl_pick_t (k := ?_) | refine Wl_pick_f (k := ?_) | refine Wl_pick (k := ?_)); (refine Wl_nil (hK _ _ ?_); clear hK K))))
      | (refine Wc_region (id := 8) ?_; intro K hK; refine Wl_move (k := ?_); refine Wl_move (k := ?_); ((refine Wl_index_any (k' := ?_))) <;> (((refine Wl_loadAggG (j := j * 16) (cs := x.c) (hq := by simp) (hr := hr.any) (hv := recsC_row hx) (k := ?_))) <;> (((refine Wl_call (hs := hli) (k := ?_); rintro v A' ⟨rfl, rfl⟩; simp only [List.cons_append, List.nil_append])) <;> (refine Wl_not (k' := ?_); (refine Wl_nil (hK _ _ ?_); clear hK K)))))
      | (refine Wc_region (id := 9) ?_; intro K hK; refine Wl_assign (k := ?_); (refine Wl_nil (hK _ _ ?_); clear hK K))
      | (refine Wc_cond (ht := (fun ht => ?_)) (hf := (fun ht => ?_)) <;> (try simp at ht) <;> (try (exfalso; omega))))
    all_goals exact ⟨Or.inr rfl, .bool true, [], Ent.nil, res1 rfl rfl, rfl, rfl⟩
  | true =>
    rw [hL] at hli
    have hro := hxo.light hL
    have hps := hro.ps
    have hss := hro.ss
    have hpl := plain_spec (B := B) x.r (by omega) (by omega) x.pa x.pc x.sa x.sc hxo.h1 hxo.h2
    have ha' := ha.apply hro (by omega) (by omega)
    obtain ⟨ea, hea⟩ : ∃ e, gchkV Sa x.r = e := ⟨_, rfl⟩
    repeat' (first
      | (refine Wc_cutS (k := 13) (α := Unit) (fun _ => [(0, .slice (some p) l.length c), (3, .pointer (some ⟨sta, 0, none⟩)), (5, .pointer (some ⟨stb, 0, none⟩)), (7, .int .i64 j), (8, .pointer (some ⟨r8, 0, none⟩)), (10, .int .i64 ea), (58, .bool false)]) (fun _ => [GtP sta (gapplyV Sa x.r), GtP stb Sb, cb r8 (x.r.c a1 c1 a2 c2) 42, own a1 x.r.sn.ps.length c1 5 (prC x.r.sn.ps) 67, own a2 x.r.sn.ss.length c2 4 (ssC x.r.sn.ss) 69]) (fun _ => True) ?_ (fun _ G2 _ => ?_); rotate_left; simp only [ov, RcG.c]; rotate_left)
      | refine Wc_seq ?_
      | refine thenQ_normal ?_
      | refine Wc_cond_t (h := ?_)
      | refine Wc_cond_f (h := ?_)
      | refine Wc_ret ?_
      | refine thenQ_ret ?_
      | refine Wc_block ?_
      | refine blkQ_normal ?_
      | refine blkQ_ret ?_
      | refine Wc_exit ?_
      | refine thenQ_exit ?_
      | refine blkQ_hit ?_
      | refine blkQ_miss rfl ?_
      | refine Wc_skip ?_
      | refine Wc_label ?_
      | refine loopQ_exit ?_
      | refine loopQ_ret ?_
      | refine loopQ_normal ?_
      | (refine Wc_region (id := 6) ?_; intro K hK; refine Wl_move (k := ?_); refine Wl_move (k := ?_); refine Wl_len_sl (k' := ?_); refine Wl_lss (k' := ?_); refine Wl_move (k := ?_); ((first | (refine Wl_guard (k := ?_); refine Wl_move (k := ?_)) | refine Wl_gno (k := ?_) | ((refine Wl_split (yes := (fun ht => ?_)) (no := (fun ht => ?_)) <;> (try simp at ht) <;> (try (exfalso; omega))) <;> (first | (refine Wl_guard (k := ?_); refine Wl_move (k := ?_)) | refine Wl_gno (k := ?_))))) <;> (((first | (refine Wl_guard (k := ?_); refine Wl_lss (k' := ?_)) | refine Wl_gno (k := ?_) | ((refine Wl_split (yes := (fun ht => ?_)) (no := (fun ht => ?_)) <;> (try simp at ht) <;> (try (exfalso; omega))) <;> (first | (refine Wl_guard (k := ?_); refine Wl_lss (k' := ?_)) | refine Wl_gno (k := ?_))))) <;> ((first | refine Wl_pick_t (k := ?_) | refine Wl_pick_f (k := ?_) | refine Wl_pick (k := ?_)); (refine Wl_nil (hK _ _ ?_); clear hK K))))
      | (refine Wc_region (id := 8) ?_; intro K hK; refine Wl_move (k := ?_); refine Wl_move (k := ?_); ((refine Wl_index_any (k' := ?_))) <;> (((refine Wl_loadAggG (j := j * 16) (cs := x.c) (hq := by simp) (hr := hr.any) (hv := recsC_row hx) (k := ?_))) <;> (((refine Wl_call (hs := hli) (k := ?_); rintro v A' ⟨rfl, rfl⟩; simp only [List.cons_append, List.nil_append])) <;> (refine Wl_not (k' := ?_); (refine Wl_nil (hK _ _ ?_); clear hK K)))))
      | (refine Wc_region (id := 10) ?_; intro K hK; refine Wl_move (k := ?_); refine Wl_move (k := ?_); ((refine Wl_index_any (k' := ?_))) <;> (((refine Wl_loadAggG (j := j * 16) (cs := x.c) (hq := by simp) (hr := hr.any) (hv := recsC_row hx) (k := ?_))) <;> (((refine Wl_call (hs := hpl) (k := ?_); rintro v A' ⟨a1, c1, a2, c2, rfl, rfl⟩; simp only [List.cons_append, List.nil_append]; simp only [RcG.c])) <;> (((refine Wl_alloc (k := ?_); intro r8)) <;> (refine Wl_storeR (ho' := rfl) (k := ?_); (refine Wl_nil (hK _ _ ?_); clear hK K))))))
      | (refine Wc_region (id := 11) ?_; intro K hK; refine Wl_move (k := ?_); ((refine Wl_call (hs := gsnapshot_spec sta Sa _ ha) (k := ?_); rintro v A' ⟨p1, q1, p2, q2, rfl, rfl⟩; simp only [List.cons_append, List.nil_append])) <;> (((refine Wl_alloc (k := ?_); intro r9)) <;> (refine Wl_storeR (ho' := rfl) (k := ?_); (refine Wl_nil (hK _ _ ?_); clear hK K))))
      | (refine Wc_region (id := 12) ?_; intro K hK; refine Wl_move (k := ?_); refine Wl_loadR (k := ?_); ((refine Wl_ownF (a := a1) (sz := 5) (ho := (by (repeat (first | exact Out.head | apply Out.tail)); (first | done | fail))) (h0 := by omega) (h := fun hf1 => ?_); refine Wl_ownF (a := a2) (sz := 4) (ho := (by (repeat (first | exact Out.head | apply Out.tail)); (first | done | fail))) (h0 := by omega) (h := fun hf2 => ?_); refine Wl_call (hs := gapply_spec [own a2 x.r.sn.ss.length c2 4 (ssC x.r.sn.ss) 69, own a1 x.r.sn.ps.length c1 5 (prC x.r.sn.ps) 67] sta _ Sa ha (by omega) x.r hro a1 c1 a2 c2 (hf1.rd (.tail .head)) (hf2.rd .head)) (k := ?_); rintro v A' ⟨rfl, rfl⟩; simp only [List.cons_append, List.nil_append]; rw [hea])) <;> (refine Wl_assign (k := ?_); (refine Wl_nil (hK _ _ ?_); clear hK K)))
      | (refine Wc_cond (ht := (fun ht => ?_)) (hf := (fun ht => ?_)) <;> (try simp at ht) <;> (try (exfalso; omega))))
    · by_cases h0 : ea = 0
      · subst h0
        repeat' (first
          | refine Wc_seq ?_
          | refine thenQ_normal ?_
          | refine Wc_cond_t (h := ?_)
          | refine Wc_cond_f (h := ?_)
          | refine Wc_ret ?_
          | refine thenQ_ret ?_
          | refine Wc_block ?_
          | refine blkQ_normal ?_
          | refine blkQ_ret ?_
          | refine Wc_exit ?_
          | refine thenQ_exit ?_
          | refine blkQ_hit ?_
          | refine blkQ_miss rfl ?_
          | refine Wc_skip ?_
          | refine Wc_label ?_
          | refine loopQ_exit ?_
          | refine loopQ_ret ?_
          | refine loopQ_normal ?_
          | ((refine Wc_tree (id := 13) (t := (.step 0 (.step 1 (.step 2 (.step 4 (.alt (.step 3 (.step 5 (.step 6 (.step 7 (.step 8 .done))))) (.step 5 (.step 3 (.step 6 (.step 7 (.step 8 .done))))))))))) (bad := [3, 5]) (hok := (by decide +kernel)) (h := ?_); intro K hK; repeat' (first | refine WlT_alt ?_ ?_ | (refine WlT_step (i := 0) rfl ?_; (refine Wl_move (k := ?_)) <;> (refine Wl_nil ?_)) | (refine WlT_step (i := 1) rfl ?_; (refine Wl_neq (k' := ?_)) <;> (refine Wl_nil ?_)) | (refine WlT_step (i := 2) rfl ?_; (refine Wl_move (k := ?_)) <;> (refine Wl_nil ?_)) | (refine WlT_step (i := 3) rfl ?_; ((first | (refine Wl_guard (k := ?_); refine Wl_loadR (k := ?_)) | refine Wl_gno (k := ?_) | ((refine Wl_split (yes := (fun ht => ?_)) (no := (fun ht => ?_)) <;> (try simp at ht) <;> (try (exfalso; omega))) <;> (first | (refine Wl_guard (k := ?_); refine Wl_loadR (k := ?_)) | refine Wl_gno (k := ?_))))) <;> (refine Wl_nil ?_)) | (refine WlT_step (i := 4) rfl ?_; ((first | (refine Wl_guard (k := ?_); refine Wl_move (k := ?_)) | refine Wl_gno (k := ?_) | ((refine Wl_split (yes := (fun ht => ?_)) (no := (fun ht => ?_)) <;> (try simp at ht) <;> (try (exfalso; omega))) <;> (first | (refine Wl_guard (k := ?_); refine Wl_move (k := ?_)) | refine Wl_gno (k := ?_))))) <;> (refine Wl_nil ?_)) | (refine WlT_step (i := 5) rfl ?_; (refine Wl_gno (k := ?_)) <;> (refine Wl_nil ?_)) | (refine WlT_step (i := 6) rfl ?_; (refine Wl_gno (k := ?_)) <;> (refine Wl_nil ?_)) | (refine WlT_step (i := 7) rfl ?_; ((first | (refine Wl_guard (k := ?_); refine Wl_not (k' := ?_)) | refine Wl_gno (k := ?_) | ((refine Wl_split (yes := (fun ht => ?_)) (no := (fun ht => ?_)) <;> (try simp at ht) <;> (try (exfalso; omega))) <;> (first | (refine Wl_guard (k := ?_); refine Wl_not (k' := ?_)) | refine Wl_gno (k := ?_))))) <;> (refine Wl_nil ?_)) | (refine WlT_step (i := 8) rfl ?_; ((first | refine Wl_pick_t (k := ?_) | refine Wl_pick_f (k := ?_) | refine Wl_pick (k := ?_))) <;> (refine Wl_nil ?_)) | (refine WlT_done (hK _ _ ?_); clear hK K))))
          | (refine Wc_cond (ht := (fun ht => ?_)) (hf := (fun ht => ?_)) <;> (try simp at ht) <;> (try (exfalso; omega))))
        all_goals exact ⟨(), trivial, ⟨rfl, rfl, rfl, rfl, rfl, rfl, rfl, trivial⟩, (by (repeat (first | exact Ent.refl _ | exact Ent.nil | refine Ent.take (by (repeat (first | exact Out.head | apply Out.tail)); (first | done | fail)) ?_ | refine Ent.drop1 ?_)); (first | done | fail))⟩
      · have hsame : gapplyV Sa x.r = Sa := by unfold gapplyV; rw [hea, if_pos h0]
        have hpn := G15.snap_len Sa
        have hwt := ha.wt
        have hsn : Sa.fold.snap.ss.length ≤ 16 := fop_few ha.fop
        rw [hsame]
        repeat' (first
          | refine Wc_seq ?_
          | refine thenQ_normal ?_
          | refine Wc_cond_t (h := ?_)
          | refine Wc_cond_f (h := ?_)
          | refine Wc_ret ?_
          | refine thenQ_ret ?_
          | refine Wc_block ?_
          | refine blkQ_normal ?_
          | refine blkQ_ret ?_
          | refine Wc_exit ?_
          | refine thenQ_exit ?_
          | refine blkQ_hit ?_
          | refine blkQ_miss rfl ?_
          | refine Wc_skip ?_
          | refine Wc_label ?_
          | refine loopQ_exit ?_
          | refine loopQ_ret ?_
          | refine loopQ_normal ?_
          | ((refine Wc_tree (id := 13) (t := (.step 0 (.step 1 (.step 2 (.step 4 (.alt (.step 3 (.step 5 (.step 6 (.step 7 (.step 8 .done))))) (.step 5 (.step 3 (.step 6 (.step 7 (.step 8 .done))))))))))) (bad := [3, 5]) (hok := (by decide +kernel)) (h := ?_); intro K hK; repeat' (first | refine WlT_alt ?_ ?_ | (refine WlT_step (i := 0) rfl ?_; (refine Wl_move (k := ?_)) <;> (refine Wl_nil ?_)) | (refine WlT_step (i := 1) rfl ?_; (refine Wl_neq (k' := ?_)) <;> (refine Wl_nil ?_)) | (refine WlT_step (i := 2) rfl ?_; (refine Wl_move (k := ?_)) <;> (refine Wl_nil ?_)) | (refine WlT_step (i := 3) rfl ?_; ((first | (refine Wl_guard (k := ?_); refine Wl_loadR (k := ?_)) | refine Wl_gno (k := ?_) | ((refine Wl_split (yes := (fun ht => ?_)) (no := (fun ht => ?_)) <;> (try simp at ht) <;> (try (exfalso; omega))) <;> (first | (refine Wl_guard (k := ?_); refine Wl_loadR (k := ?_)) | refine Wl_gno (k := ?_))))) <;> (refine Wl_nil ?_)) | (refine WlT_step (i := 4) rfl ?_; ((first | (refine Wl_guard (k := ?_); refine Wl_move (k := ?_)) | refine Wl_gno (k := ?_) | ((refine Wl_split (yes := (fun ht => ?_)) (no := (fun ht => ?_)) <;> (try simp at ht) <;> (try (exfalso; omega))) <;> (first | (refine Wl_guard (k := ?_); refine Wl_move (k := ?_)) | refine Wl_gno (k := ?_))))) <;> (refine Wl_nil ?_)) | (refine WlT_step (i := 5) rfl ?_; ((first | (refine Wl_guard (k := ?_); (refine Wl_call (hs := gsnapshot_spec sta Sa _ ha) (k := ?_); rintro v A' ⟨p3, q3, p4, q4, rfl, rfl⟩; simp only [List.cons_append, List.nil_append])) | refine Wl_gno (k := ?_) | ((refine Wl_split (yes := (fun ht => ?_)) (no := (fun ht => ?_)) <;> (try simp at ht) <;> (try (exfalso; omega))) <;> (first | (refine Wl_guard (k := ?_); (refine Wl_call (hs := gsnapshot_spec sta Sa _ ha) (k := ?_); rintro v A' ⟨p3, q3, p4, q4, rfl, rfl⟩; simp only [List.cons_append, List.nil_append])) | refine Wl_gno (k := ?_))))) <;> (refine Wl_nil ?_)) | (refine WlT_step (i := 6) rfl ?_; ((first | (refine Wl_guard (k := ?_); (refine Wl_ownF (a := p1) (sz := 5) (ho := (by (repeat (first | exact Out.head | apply Out.tail)); (first | done | fail))) (h0 := by omega) (h := fun g1 => ?_); refine Wl_ownF (a := p2) (sz := 4) (ho := (by (repeat (first | exact Out.head | apply Out.tail)); (first | done | fail))) (h0 := by omega) (h := fun g2 => ?_); refine Wl_ownF (a := p3) (sz := 5) (ho := (by (repeat (first | exact Out.head | apply Out.tail)); (first | done | fail))) (h0 := by omega) (h := fun g3 => ?_); refine Wl_ownF (a := p4) (sz := 4) (ho := (by (repeat (first | exact Out.head | apply Out.tail)); (first | done | fail))) (h0 := by omega) (h := fun g4 => ?_); refine Wl_call (hs := of_lst (A0 := [own p1 Sa.fold.snap.ps.length q1 5 (prC Sa.fold.snap.ps) 67, own p2 Sa.fold.snap.ss.length q2 4 (ssC Sa.fold.snap.ss) 69, own p3 Sa.fold.snap.ps.length q3 5 (prC Sa.fold.snap.ps) 67, own p4 Sa.fold.snap.ss.length q4 4 (ssC Sa.fold.snap.ss) 69]) (sameSnap_spec _ Sa.fold.snap (by omega) (by omega) p1 q1 p2 q2 p3 q3 p4 q4 (g1.rd (by (repeat (first | exact Out.head | apply Out.tail)); (first | done | fail))).lst (g2.rd (by (repeat (first | exact Out.head | apply Out.tail)); (first | done | fail))).lst (g3.rd (by (repeat (first | exact Out.head | apply Out.tail)); (first | done | fail))).lst (g4.rd (by (repeat (first | exact Out.head | apply Out.tail)); (first | done | fail))).lst)) (k := ?_); rintro v A' ⟨rfl, rfl⟩; simp only [List.cons_append, List.nil_append])) | refine Wl_gno (k := ?_) | ((refine Wl_split (yes := (fun ht => ?_)) (no := (fun ht => ?_)) <;> (try simp at ht) <;> (try (exfalso; omega))) <;> (first | (refine Wl_guard (k := ?_); (refine Wl_ownF (a := p1) (sz := 5) (ho := (by (repeat (first | exact Out.head | apply Out.tail)); (first | done | fail))) (h0 := by omega) (h := fun g1 => ?_); refine Wl_ownF (a := p2) (sz := 4) (ho := (by (repeat (first | exact Out.head | apply Out.tail)); (first | done | fail))) (h0 := by omega) (h := fun g2 => ?_); refine Wl_ownF (a := p3) (sz := 5) (ho := (by (repeat (first | exact Out.head | apply Out.tail)); (first | done | fail))) (h0 := by omega) (h := fun g3 => ?_); refine Wl_ownF (a := p4) (sz := 4) (ho := (by (repeat (first | exact Out.head | apply Out.tail)); (first | done | fail))) (h0 := by omega) (h := fun g4 => ?_); refine Wl_call (hs := of_lst (A0 := [own p1 Sa.fold.snap.ps.length q1 5 (prC Sa.fold.snap.ps) 67, own p2 Sa.fold.snap.ss.length q2 4 (ssC Sa.fold.snap.ss) 69, own p3 Sa.fold.snap.ps.length q3 5 (prC Sa.fold.snap.ps) 67, own p4 Sa.fold.snap.ss.length q4 4 (ssC Sa.fold.snap.ss) 69]) (sameSnap_spec _ Sa.fold.snap (by omega) (by omega) p1 q1 p2 q2 p3 q3 p4 q4 (g1.rd (by (repeat (first | exact Out.head | apply Out.tail)); (first | done | fail))).lst (g2.rd (by (repeat (first | exact Out.head | apply Out.tail)); (first | done | fail))).lst (g3.rd (by (repeat (first | exact Out.head | apply Out.tail)); (first | done | fail))).lst (g4.rd (by (repeat (first | exact Out.head | apply Out.tail)); (first | done | fail))).lst)) (k := ?_); rintro v A' ⟨rfl, rfl⟩; simp only [List.cons_append, List.nil_append])) | refine Wl_gno (k := ?_))))) <;> (refine Wl_nil ?_)) | (refine WlT_step (i := 7) rfl ?_; ((first | (refine Wl_guard (k := ?_); refine Wl_not (k' := ?_)) | refine Wl_gno (k := ?_) | ((refine Wl_split (yes := (fun ht => ?_)) (no := (fun ht => ?_)) <;> (try simp at ht) <;> (try (exfalso; omega))) <;> (first | (refine Wl_guard (k := ?_); refine Wl_not (k' := ?_)) | refine Wl_gno (k := ?_))))) <;> (refine Wl_nil ?_)) | (refine WlT_step (i := 8) rfl ?_; ((first | refine Wl_pick_t (k := ?_) | refine Wl_pick_f (k := ?_) | refine Wl_pick (k := ?_))) <;> (refine Wl_nil ?_)) | (refine WlT_done (hK _ _ ?_); clear hK K))))
          | (refine Wc_cond (ht := (fun ht => ?_)) (hf := (fun ht => ?_)) <;> (try simp at ht) <;> (try (exfalso; omega))))
        all_goals exact ⟨(), trivial, ⟨rfl, rfl, rfl, rfl, rfl, rfl, rfl, trivial⟩, (by (repeat (first | exact Ent.refl _ | exact Ent.nil | refine Ent.take (by (repeat (first | exact Out.head | apply Out.tail)); (first | done | fail)) ?_ | refine Ent.drop1 ?_)); (first | done | fail))⟩
    by_cases h5 : x.r.kind = 5
    · have hon := hsim.only ha hb x.r h5
      repeat' (first
        | refine Wc_seq ?_
        | refine thenQ_normal ?_
        | refine Wc_cond_t (h := ?_)
        | refine Wc_cond_f (h := ?_)
        | refine Wc_ret ?_
        | refine thenQ_ret ?_
        | refine Wc_block ?_
        | refine blkQ_normal ?_
        | refine blkQ_ret ?_
        | refine Wc_exit ?_
        | refine thenQ_exit ?_
        | refine blkQ_hit ?_
        | refine blkQ_miss rfl ?_
        | refine Wc_skip ?_
        | refine Wc_label ?_
        | refine loopQ_exit ?_
        | refine loopQ_ret ?_
        | refine loopQ_normal ?_
        | (refine Wc_region (id := 7) ?_; intro K hK; refine Wl_move (k := ?_); refine Wl_add (k' := ?_); refine Wl_assign (k := ?_); (refine Wl_nil (hK _ _ ?_); clear hK K))
        | (refine Wc_region (id := 15) ?_; intro K hK; refine Wl_fieldAddr (k := ?_); refine Wl_load (k := ?_); refine Wl_eql (k' := ?_); (refine Wl_nil (hK _ _ ?_); clear hK K))
        | (refine Wc_cond (ht := (fun ht => ?_)) (hf := (fun ht => ?_)) <;> (try simp at ht) <;> (try (exfalso; omega))))
      all_goals exact ⟨(j + 1, gapplyV Sa x.r, Sb), ⟨by omega, ha', hb.mono (by omega), hon⟩, by omega, ⟨rfl, rfl, rfl, int_succ j, trivial⟩, (by (repeat (first | exact Ent.refl _ | exact Ent.nil | refine Ent.take (by (repeat (first | exact Out.head | apply Out.tail)); (first | done | fail)) ?_ | refine Ent.drop1 ?_)); (first | done | fail))⟩
    have hb' := hb.apply hro (by omega) (by omega)
    have heb : gchkV Sb x.r = ea := by rw [← hsim.chk ha.ok hb.ok x.r, hea]
    repeat' (first
      | refine Wc_seq ?_
      | refine thenQ_normal ?_
      | refine Wc_cond_t (h := ?_)
      | refine Wc_cond_f (h := ?_)
      | refine Wc_ret ?_
      | refine thenQ_ret ?_
      | refine Wc_block ?_
      | refine blkQ_normal ?_
      | refine blkQ_ret ?_
      | refine Wc_exit ?_
      | refine thenQ_exit ?_
      | refine blkQ_hit ?_
      | refine blkQ_miss rfl ?_
      | refine Wc_skip ?_
      | refine Wc_label ?_
      | refine loopQ_exit ?_
      | refine loopQ_ret ?_
      | refine loopQ_normal ?_
      | (refine Wc_region (id := 15) ?_; intro K hK; refine Wl_fieldAddr (k := ?_); refine Wl_load (k := ?_); refine Wl_eql (k' := ?_); (refine Wl_nil (hK _ _ ?_); clear hK K))
      | (refine Wc_region (id := 16) ?_; intro K hK; refine Wl_move (k := ?_); refine Wl_loadR (k := ?_); ((refine Wl_ownF (a := a1) (sz := 5) (ho := (by (repeat (first | exact Out.head | apply Out.tail)); (first | done | fail))) (h0 := by omega) (h := fun hf1 => ?_); refine Wl_ownF (a := a2) (sz := 4) (ho := (by (repeat (first | exact Out.head | apply Out.tail)); (first | done | fail))) (h0 := by omega) (h := fun hf2 => ?_); refine Wl_call (hs := gapply_spec [own a2 x.r.sn.ss.length c2 4 (ssC x.r.sn.ss) 69, own a1 x.r.sn.ps.length c1 5 (prC x.r.sn.ps) 67] stb _ Sb hb (by omega) x.r hro a1 c1 a2 c2 (hf1.rd (.tail .head)) (hf2.rd .head)) (k := ?_); rintro v A' ⟨rfl, rfl⟩; simp only [List.cons_append, List.nil_append]; rw [heb])) <;> (refine Wl_assign (k := ?_); (refine Wl_nil (hK _ _ ?_); clear hK K)))
      | (refine Wc_region (id := 17) ?_; intro K hK; refine Wl_move (k := ?_); refine Wl_move (k := ?_); refine Wl_neq (k' := ?_); (refine Wl_nil (hK _ _ ?_); clear hK K))
      | (refine Wc_cond (ht := (fun ht => ?_)) (hf := (fun ht => ?_)) <;> (try simp at ht) <;> (try (exfalso; omega))))
    have hor := hsim.apply ha hb x.r h5
    obtain ⟨Ta, hTa⟩ : ∃ S, gapplyV Sa x.r = S := ⟨_, rfl⟩
    obtain ⟨Tb, hTb⟩ : ∃ S, gapplyV Sb x.r = S := ⟨_, rfl⟩
    rw [hTa] at ha' hor ⊢
    rw [hTb] at hb' hor ⊢
    rcases hor with hs | ⟨w1, w2, w3⟩
    rotate_left
    · repeat' (first
        | refine Wc_seq ?_
        | refine thenQ_normal ?_
        | refine Wc_cond_t (h := ?_)
        | refine Wc_cond_f (h := ?_)
        | refine Wc_ret ?_
        | refine thenQ_ret ?_
        | refine Wc_block ?_
        | refine blkQ_normal ?_
        | refine blkQ_ret ?_
        | refine Wc_exit ?_
        | refine thenQ_exit ?_
        | refine blkQ_hit ?_
        | refine blkQ_miss rfl ?_
        | refine Wc_skip ?_
        | refine Wc_label ?_
        | refine loopQ_exit ?_
        | refine loopQ_ret ?_
        | refine loopQ_normal ?_
        | (refine Wc_region (id := 19) ?_; intro K hK; refine Wl_move (k := ?_); ((refine Wl_call (hs := glast_spec sta Ta) (k := ?_); rintro v A' ⟨rfl, rfl⟩; simp only [List.cons_append, List.nil_append])) <;> (refine Wl_field (k' := ?_); refine Wl_move (k := ?_); ((refine Wl_call (hs := glast_spec stb Tb) (k := ?_); rintro v A' ⟨rfl, rfl⟩; simp only [List.cons_append, List.nil_append])) <;> (refine Wl_field (k' := ?_); refine Wl_lss (k' := ?_); refine Wl_move (k := ?_); ((first | (refine Wl_guard (k := ?_); refine Wl_move (k := ?_)) | refine Wl_gno (k := ?_) | ((refine Wl_split (yes := (fun ht => ?_)) (no := (fun ht => ?_)) <;> (try simp at ht) <;> (try (exfalso; omega))) <;> (first | (refine Wl_guard (k := ?_); refine Wl_move (k := ?_)) | refine Wl_gno (k := ?_))))) <;> (((first | (refine Wl_guard (k := ?_); (refine Wl_call (hs := glast_spec sta Ta) (k := ?_); rintro v A' ⟨rfl, rfl⟩; simp only [List.cons_append, List.nil_append])) | refine Wl_gno (k := ?_) | ((refine Wl_split (yes := (fun ht => ?_)) (no := (fun ht => ?_)) <;> (try simp at ht) <;> (try (exfalso; omega))) <;> (first | (refine Wl_guard (k := ?_); (refine Wl_call (hs := glast_spec sta Ta) (k := ?_); rintro v A' ⟨rfl, rfl⟩; simp only [List.cons_append, List.nil_append])) | refine Wl_gno (k := ?_))))) <;> (((first | (refine Wl_guard (k := ?_); refine Wl_build (k := ?_)) | refine Wl_gno (k := ?_) | ((refine Wl_split (yes := (fun ht => ?_)) (no := (fun ht => ?_)) <;> (try simp at ht) <;> (try (exfalso; omega))) <;> (first | (refine Wl_guard (k := ?_); refine Wl_build (k := ?_)) | refine Wl_gno (k := ?_))))) <;> (((first | (refine Wl_guard (k := ?_); (refine Wl_agg_eqlB (b := true) (hb := by rw [pos_ceq]; exact decide_eq_true ⟨w2, w3⟩) (k' := ?_))) | refine Wl_gno (k := ?_) | ((refine Wl_split (yes := (fun ht => ?_)) (no := (fun ht => ?_)) <;> (try simp at ht) <;> (try (exfalso; omega))) <;> (first | (refine Wl_guard (k := ?_); (refine Wl_agg_eqlB (b := true) (hb := by rw [pos_ceq]; exact decide_eq_true ⟨w2, w3⟩) (k' := ?_))) | refine Wl_gno (k := ?_))))) <;> ((first | refine Wl_pick_t (k := ?_) | refine Wl_pick_f (k := ?_) | refine Wl_pick (k := ?_)); (refine Wl_nil (hK _ _ ?_); clear hK K))))))))
        | (refine Wc_region (id := 20) ?_; intro K hK; refine Wl_assign (k := ?_); (refine Wl_nil (hK _ _ ?_); clear hK K))
        | (refine Wc_cond (ht := (fun ht => ?_)) (hf := (fun ht => ?_)) <;> (try simp at ht) <;> (try (exfalso; omega))))
      all_goals exact ⟨Or.inr rfl, .bool true, [], Ent.nil, res1 rfl rfl, rfl, rfl⟩
    have hfs := (hs.fold ha'.ok hb'.ok).symm
    have hfe : Tb.fold.e = Ta.fold.e := congrArg SnX.e hfs
    have hfi : Tb.fold.i = Ta.fold.i := congrArg SnX.i hfs
    have hcl := hs.cl
    have hpn := G15.snap_len Ta
    have hwt := ha'.wt
    have hsn : Ta.fold.snap.ss.length ≤ 16 := fop_few ha'.fop
    have hsa := gsnapshot_spec (B := B) sta Ta _ ha'
    have hsb := gsnapshot_spec (B := B) stb Tb _ hb'
    rw [hfs, hfe, hfi] at hsb
    have h64a := (rightT_out ha'.ok.tab).2.1
    have h64b := (rightT_out hb'.ok.tab).2.1
    have hta := gtable_spec (B := B) sta Ta h64a
    have htb := gtable_spec (B := B) stb Tb h64b
    rw [← hs.tab] at htb
    have hcb := gclosed_spec (B := B) stb Tb
    rw [← hcl] at hcb
    obtain ⟨cc, hcc⟩ : ∃ c, Ta.closed = c := ⟨_, rfl⟩
    have hca := gclosed_spec (B := B) sta Ta
    rw [hcc] at hca hcb
    repeat' (first
      | refine Wc_seq ?_
      | refine thenQ_normal ?_
      | refine Wc_cond_t (h := ?_)
      | refine Wc_cond_f (h := ?_)
      | refine Wc_ret ?_
      | refine thenQ_ret ?_
      | refine Wc_block ?_
      | refine blkQ_normal ?_
      | refine blkQ_ret ?_
      | refine Wc_exit ?_
      | refine thenQ_exit ?_
      | refine blkQ_hit ?_
      | refine blkQ_miss rfl ?_
      | refine Wc_skip ?_
      | refine Wc_label ?_
      | refine loopQ_exit ?_
      | refine loopQ_ret ?_
      | refine loopQ_normal ?_
      | (refine Wc_region (id := 7) ?_; intro K hK; refine Wl_move (k := ?_); refine Wl_add (k' := ?_); refine Wl_assign (k := ?_); (refine Wl_nil (hK _ _ ?_); clear hK K))
      | (refine Wc_region (id := 19) ?_; intro K hK; refine Wl_move (k := ?_); ((refine Wl_call (hs := glast_spec sta Ta) (k := ?_); rintro v A' ⟨rfl, rfl⟩; simp only [List.cons_append, List.nil_append])) <;> (refine Wl_field (k' := ?_); refine Wl_move (k := ?_); ((refine Wl_call (hs := glast_spec stb Tb) (k := ?_); rintro v A' ⟨rfl, rfl⟩; simp only [List.cons_append, List.nil_append])) <;> (refine Wl_field (k' := ?_); refine Wl_lss (k' := ?_); refine Wl_move (k := ?_); ((first | (refine Wl_guard (k := ?_); refine Wl_move (k := ?_)) | refine Wl_gno (k := ?_) | ((refine Wl_split (yes := (fun ht => ?_)) (no := (fun ht => ?_)) <;> (try simp at ht) <;> (try (exfalso; omega))) <;> (first | (refine Wl_guard (k := ?_); refine Wl_move (k := ?_)) | refine Wl_gno (k := ?_))))) <;> ((refine Wl_gno (k := ?_)) <;> (((first | (refine Wl_guard (k := ?_); refine Wl_build (k := ?_)) | refine Wl_gno (k := ?_) | ((refine Wl_split (yes := (fun ht => ?_)) (no := (fun ht => ?_)) <;> (try simp at ht) <;> (try (exfalso; omega))) <;> (first | (refine Wl_guard (k := ?_); refine Wl_build (k := ?_)) | refine Wl_gno (k := ?_))))) <;> (((first | (refine Wl_guard (k := ?_); refine Wl_agg_eql (k' := ?_)) | refine Wl_gno (k := ?_) | ((refine Wl_split (yes := (fun ht => ?_)) (no := (fun ht => ?_)) <;> (try simp at ht) <;> (try (exfalso; omega))) <;> (first | (refine Wl_guard (k := ?_); refine Wl_agg_eql (k' := ?_)) | refine Wl_gno (k := ?_))))) <;> ((first | refine Wl_pick_t (k := ?_) | refine Wl_pick_f (k := ?_) | refine Wl_pick (k := ?_)); (refine Wl_nil (hK _ _ ?_); clear hK K))))))))
      | (refine Wc_region (id := 21) ?_; intro K hK; refine Wl_move (k := ?_); ((refine Wl_call (hs := hsa) (k := ?_); rintro v A' ⟨p1, q1, p2, q2, rfl, rfl⟩; simp only [List.cons_append, List.nil_append])) <;> (refine Wl_move (k := ?_); ((refine Wl_call (hs := hsb) (k := ?_); rintro v A' ⟨p3, q3, p4, q4, rfl, rfl⟩; simp only [List.cons_append, List.nil_append])) <;> (((refine Wl_ownF (a := p1) (sz := 5) (ho := (by (repeat (first | exact Out.head | apply Out.tail)); (first | done | fail))) (h0 := by omega) (h := fun g1 => ?_); refine Wl_ownF (a := p2) (sz := 4) (ho := (by (repeat (first | exact Out.head | apply Out.tail)); (first | done | fail))) (h0 := by omega) (h := fun g2 => ?_); refine Wl_ownF (a := p3) (sz := 5) (ho := (by (repeat (first | exact Out.head | apply Out.tail)); (first | done | fail))) (h0 := by omega) (h := fun g3 => ?_); refine Wl_ownF (a := p4) (sz := 4) (ho := (by (repeat (first | exact Out.head | apply Out.tail)); (first | done | fail))) (h0 := by omega) (h := fun g4 => ?_); refine Wl_call (hs := of_lst (A0 := [own p1 Ta.fold.snap.ps.length q1 5 (prC Ta.fold.snap.ps) 67, own p2 Ta.fold.snap.ss.length q2 4 (ssC Ta.fold.snap.ss) 69, own p3 Ta.fold.snap.ps.length q3 5 (prC Ta.fold.snap.ps) 67, own p4 Ta.fold.snap.ss.length q4 4 (ssC Ta.fold.snap.ss) 69]) (sameSnap_spec _ Ta.fold.snap (by omega) (by omega) p1 q1 p2 q2 p3 q3 p4 q4 (g1.rd (by (repeat (first | exact Out.head | apply Out.tail)); (first | done | fail))).lst (g2.rd (by (repeat (first | exact Out.head | apply Out.tail)); (first | done | fail))).lst (g3.rd (by (repeat (first | exact Out.head | apply Out.tail)); (first | done | fail))).lst (g4.rd (by (repeat (first | exact Out.head | apply Out.tail)); (first | done | fail))).lst)) (k := ?_); rintro v A' ⟨rfl, rfl⟩; simp only [List.cons_append, List.nil_append])) <;> (refine Wl_not (k' := ?_); refine Wl_move (k := ?_); ((first | (refine Wl_guard (k := ?_); refine Wl_move (k := ?_)) | refine Wl_gno (k := ?_) | ((refine Wl_split (yes := (fun ht => ?_)) (no := (fun ht => ?_)) <;> (try simp at ht) <;> (try (exfalso; omega))) <;> (first | (refine Wl_guard (k := ?_); refine Wl_move (k := ?_)) | refine Wl_gno (k := ?_))))) <;> (((first | (refine Wl_guard (k := ?_); (refine Wl_call (hs := hca) (k := ?_); rintro v A' ⟨rfl, rfl⟩; simp only [List.cons_append, List.nil_append])) | refine Wl_gno (k := ?_) | ((refine Wl_split (yes := (fun ht => ?_)) (no := (fun ht => ?_)) <;> (try simp at ht) <;> (try (exfalso; omega))) <;> (first | (refine Wl_guard (k := ?_); (refine Wl_call (hs := hca) (k := ?_); rintro v A' ⟨rfl, rfl⟩; simp only [List.cons_append, List.nil_append])) | refine Wl_gno (k := ?_))))) <;> (((first | (refine Wl_guard (k := ?_); refine Wl_move (k := ?_)) | refine Wl_gno (k := ?_) | ((refine Wl_split (yes := (fun ht => ?_)) (no := (fun ht => ?_)) <;> (try simp at ht) <;> (try (exfalso; omega))) <;> (first | (refine Wl_guard (k := ?_); refine Wl_move (k := ?_)) | refine Wl_gno (k := ?_))))) <;> (((first | (refine Wl_guard (k := ?_); (refine Wl_call (hs := hcb) (k := ?_); rintro v A' ⟨rfl, rfl⟩; simp only [List.cons_append, List.nil_append])) | refine Wl_gno (k := ?_) | ((refine Wl_split (yes := (fun ht => ?_)) (no := (fun ht => ?_)) <;> (try simp at ht) <;> (try (exfalso; omega))) <;> (first | (refine Wl_guard (k := ?_); (refine Wl_call (hs := hcb) (k := ?_); rintro v A' ⟨rfl, rfl⟩; simp only [List.cons_append, List.nil_append])) | refine Wl_gno (k := ?_))))) <;> (((first | (refine Wl_guard (k := ?_); (refine Wl_bool_neq (hU := Try.underlying4) (k' := ?_); rw [beq_self_eq_true])) | refine Wl_gno (k := ?_) | ((refine Wl_split (yes := (fun ht => ?_)) (no := (fun ht => ?_)) <;> (try simp at ht) <;> (try (exfalso; omega))) <;> (first | (refine Wl_guard (k := ?_); (refine Wl_bool_neq (hU := Try.underlying4) (k' := ?_); rw [beq_self_eq_true])) | refine Wl_gno (k := ?_))))) <;> ((first | refine Wl_pick_t (k := ?_) | refine Wl_pick_f (k := ?_) | refine Wl_pick (k := ?_)); refine Wl_move (k := ?_); ((first | (refine Wl_guard (k := ?_); refine Wl_move (k := ?_)) | refine Wl_gno (k := ?_) | ((refine Wl_split (yes := (fun ht => ?_)) (no := (fun ht => ?_)) <;> (try simp at ht) <;> (try (exfalso; omega))) <;> (first | (refine Wl_guard (k := ?_); refine Wl_move (k := ?_)) | refine Wl_gno (k := ?_))))) <;> (((first | (refine Wl_guard (k := ?_); (refine Wl_call (hs := hta) (k := ?_); rintro v A' ⟨t1, u1, rfl, rfl⟩; simp only [List.cons_append, List.nil_append])) | refine Wl_gno (k := ?_) | ((refine Wl_split (yes := (fun ht => ?_)) (no := (fun ht => ?_)) <;> (try simp at ht) <;> (try (exfalso; omega))) <;> (first | (refine Wl_guard (k := ?_); (refine Wl_call (hs := hta) (k := ?_); rintro v A' ⟨t1, u1, rfl, rfl⟩; simp only [List.cons_append, List.nil_append])) | refine Wl_gno (k := ?_))))) <;> (((first | (refine Wl_guard (k := ?_); refine Wl_move (k := ?_)) | refine Wl_gno (k := ?_) | ((refine Wl_split (yes := (fun ht => ?_)) (no := (fun ht => ?_)) <;> (try simp at ht) <;> (try (exfalso; omega))) <;> (first | (refine Wl_guard (k := ?_); refine Wl_move (k := ?_)) | refine Wl_gno (k := ?_))))) <;> (((first | (refine Wl_guard (k := ?_); (refine Wl_call (hs := htb) (k := ?_); rintro v A' ⟨t2, u2, rfl, rfl⟩; simp only [List.cons_append, List.nil_append])) | refine Wl_gno (k := ?_) | ((refine Wl_split (yes := (fun ht => ?_)) (no := (fun ht => ?_)) <;> (try simp at ht) <;> (try (exfalso; omega))) <;> (first | (refine Wl_guard (k := ?_); (refine Wl_call (hs := htb) (k := ?_); rintro v A' ⟨t2, u2, rfl, rfl⟩; simp only [List.cons_append, List.nil_append])) | refine Wl_gno (k := ?_))))) <;> (((first | (refine Wl_guard (k := ?_); (refine Wl_ownF (a := t1) (sz := 3) (ho := (by (repeat (first | exact Out.head | apply Out.tail)); (first | done | fail))) (h0 := by omega) (h := fun g5 => ?_); refine Wl_ownF (a := t2) (sz := 3) (ho := (by (repeat (first | exact Out.head | apply Out.tail)); (first | done | fail))) (h0 := by omega) (h := fun g6 => ?_); refine Wl_call (hs := of_lst (A0 := [own t1 Ta.table.length u1 3 (epsC Ta.table) 29, own t2 Ta.table.length u2 3 (epsC Ta.table) 29]) (sameTable_spec _ Ta.table (by omega) t1 u1 t2 u2 (g5.rd (by (repeat (first | exact Out.head | apply Out.tail)); (first | done | fail))).lst (g6.rd (by (repeat (first | exact Out.head | apply Out.tail)); (first | done | fail))).lst)) (k := ?_); rintro v A' ⟨rfl, rfl⟩; simp only [List.cons_append, List.nil_append])) | refine Wl_gno (k := ?_) | ((refine Wl_split (yes := (fun ht => ?_)) (no := (fun ht => ?_)) <;> (try simp at ht) <;> (try (exfalso; omega))) <;> (first | (refine Wl_guard (k := ?_); (refine Wl_ownF (a := t1) (sz := 3) (ho := (by (repeat (first | exact Out.head | apply Out.tail)); (first | done | fail))) (h0 := by omega) (h := fun g5 => ?_); refine Wl_ownF (a := t2) (sz := 3) (ho := (by (repeat (first | exact Out.head | apply Out.tail)); (first | done | fail))) (h0 := by omega) (h := fun g6 => ?_); refine Wl_call (hs := of_lst (A0 := [own t1 Ta.table.length u1 3 (epsC Ta.table) 29, own t2 Ta.table.length u2 3 (epsC Ta.table) 29]) (sameTable_spec _ Ta.table (by omega) t1 u1 t2 u2 (g5.rd (by (repeat (first | exact Out.head | apply Out.tail)); (first | done | fail))).lst (g6.rd (by (repeat (first | exact Out.head | apply Out.tail)); (first | done | fail))).lst)) (k := ?_); rintro v A' ⟨rfl, rfl⟩; simp only [List.cons_append, List.nil_append])) | refine Wl_gno (k := ?_))))) <;> (((first | (refine Wl_guard (k := ?_); refine Wl_not (k' := ?_)) | refine Wl_gno (k := ?_) | ((refine Wl_split (yes := (fun ht => ?_)) (no := (fun ht => ?_)) <;> (try simp at ht) <;> (try (exfalso; omega))) <;> (first | (refine Wl_guard (k := ?_); refine Wl_not (k' := ?_)) | refine Wl_gno (k := ?_))))) <;> ((first | refine Wl_pick_t (k := ?_) | refine Wl_pick_f (k := ?_) | refine Wl_pick (k := ?_)); (refine Wl_nil (hK _ _ ?_); clear hK K))))))))))))))))
      | (refine Wc_cond (ht := (fun ht => ?_)) (hf := (fun ht => ?_)) <;> (try simp at ht) <;> (try (exfalso; omega))))
    all_goals exact ⟨(j + 1, Ta, Tb), ⟨by omega, ha', hb', hs⟩, by omega, ⟨rfl, rfl, rfl, int_succ j, trivial⟩, (by (repeat (first | exact Ent.refl _ | exact Ent.nil | refine Ent.take (by (repeat (first | exact Out.head | apply Out.tail)); (first | done | fail)) ?_ | refine Ent.drop1 ?_)); (first | done | fail))⟩
end specs
end Go.Proofs.Ytnoggejkkjngjaa
/- The rows of a slice of records that came in. No condition. -/
set_option linter.unusedVariables false
set_option maxRecDepth 100000
namespace Go.Proofs.Ytnoggejkkjngjaa
open Go Go.Sl Go.ChangeShapes Go.WideShapes Go.ChangeAt Go.RowKit

abbrev pI : List Value → Prop := fun cs => ∃ n, cs = [.int .i64 n] ∧ (Lit.int .i64 n).wf = true
abbrev pB : List Value → Prop := fun cs => ∃ b, cs = [.bool b]
abbrev pS : List Value → Prop := fun cs => ∃ s : ByteArray, cs = [.string s] ∧ s.size ≤ 140737488351232
abbrev pPos : List Value → Prop := Parts [pI, pI]
abbrev pVal : List Value → Prop := Parts [pPos, pB, pS]
abbrev pPair : List Value → Prop := Parts [pS, pVal]
abbrev pSeen : List Value → Prop := Parts [pI, pI, pPos]
abbrev pEnt : List Value → Prop := Parts [pPos, pI, pI, pS, pB, pS]
abbrev pEp : List Value → Prop := Parts [pI, pI, pB]
abbrev pSnap (W : World) (b1 b2 : Nat) : List Value → Prop := Parts [pPos, SlR Try.prog W 5 b1 pPair, SlR Try.prog W 4 b2 pSeen]
abbrev pRec (W : World) (b1 b2 : Nat) : List Value → Prop := Parts [pI, pEnt, pEp, pI, pSnap W b1 b2]
theorem rg_of {n : Int} (h : (Lit.int .i64 n).wf = true) : rg n := by
  simpa [rg, Lit.wf, IntKind.min, IntKind.max, IntKind.signed, IntKind.bits] using h
theorem pair_of {cs : List Value} (h : pPair cs) : ∃ p : PrX, cs = p.c ∧ rg p.v.a := by
  obtain ⟨_, _, rfl, ⟨k, rfl, _⟩, _, _, rfl, ⟨_, _, rfl, ⟨_, _, rfl, ⟨a, rfl, ha⟩, _, _, rfl, ⟨b, rfl, _⟩, rfl⟩, _, _, rfl, ⟨g, rfl⟩, _, _, rfl, ⟨s, rfl, _⟩, rfl⟩, rfl⟩ := h
  exact ⟨⟨k, ⟨a, b, g, s⟩⟩, rfl, rg_of ha⟩
theorem seen_of {cs : List Value} (h : pSeen cs) : ∃ p : SX, cs = p.c ∧ rg p.e := by
  obtain ⟨_, _, rfl, ⟨k, rfl, _⟩, _, _, rfl, ⟨r, rfl, _⟩, _, _, rfl, ⟨_, _, rfl, ⟨a, rfl, ha⟩, _, _, rfl, ⟨b, rfl, _⟩, rfl⟩, rfl⟩ := h
  exact ⟨⟨k, r, a, b⟩, rfl, rg_of ha⟩
theorem pairs_of : ∀ (rows : List (List Value)), (∀ r ∈ rows, pPair r ∧ r.length = 5) → ∃ l : List PrX, l.length = rows.length ∧ rows.flatten = prC l ∧ ∀ x ∈ l, rg x.v.a
  | [], _ => ⟨[], rfl, rfl, by simp⟩
  | r :: rows, h => by
    obtain ⟨l, h1, h2, h3⟩ := pairs_of rows (fun x hx => h x (List.mem_cons_of_mem _ hx))
    obtain ⟨e, he, hr⟩ := pair_of (h r (List.mem_cons_self ..)).1
    refine ⟨e :: l, by simp [h1], by simp [prC] at h2 ⊢; simp [h2, he], fun x hx => ?_⟩
    rcases List.mem_cons.1 hx with rfl | hx
    · exact hr
    · exact h3 x hx
theorem seens_of : ∀ (rows : List (List Value)), (∀ r ∈ rows, pSeen r ∧ r.length = 4) → ∃ l : List SX, l.length = rows.length ∧ rows.flatten = ssC l ∧ ∀ x ∈ l, rg x.e
  | [], _ => ⟨[], rfl, rfl, by simp⟩
  | r :: rows, h => by
    obtain ⟨l, h1, h2, h3⟩ := seens_of rows (fun x hx => h x (List.mem_cons_of_mem _ hx))
    obtain ⟨e, he, hr⟩ := seen_of (h r (List.mem_cons_self ..)).1
    refine ⟨e :: l, by simp [h1], by simp [ssC] at h2 ⊢; simp [h2, he], fun x hx => ?_⟩
    rcases List.mem_cons.1 hx with rfl | hx
    · exact hr
    · exact h3 x hx
theorem ent_of {cs : List Value} (h : pEnt cs) : ∃ x : EnX, cs = x.c ∧ x.ok ∧ rg x.i := by
  obtain ⟨_, _, rfl, ⟨_, _, rfl, ⟨a, rfl, _⟩, _, _, rfl, ⟨b, rfl, hb⟩, rfl⟩, _, _, rfl, ⟨s, rfl, hs⟩, _, _, rfl, ⟨r, rfl, _⟩, _, _, rfl, ⟨k, rfl, _⟩, _, _, rfl, ⟨d, rfl⟩, _, _, rfl, ⟨t, rfl, _⟩, rfl⟩ := h
  exact ⟨⟨a, b, s, r, k, d, t⟩, rfl, rg_of hs, rg_of hb⟩
theorem rec_of {W : World} {b1 b2 : Nat} {cs : List Value} (h : pRec W b1 b2 cs) : ∃ x : RI, cs = x.c ∧ x.ok (baseOf W) := by
  obtain ⟨_, _, rfl, ⟨kind, rfl, _⟩, _, _, rfl, h1, _, _, rfl, ⟨_, _, rfl, ⟨em, rfl, _⟩, _, _, rfl, ⟨ec, rfl, _⟩, _, _, rfl, ⟨ef, rfl⟩, rfl⟩, _, _, rfl, ⟨cf, rfl, _⟩, _, _, rfl, ⟨_, _, rfl, ⟨_, _, rfl, ⟨a, rfl, ha⟩, _, _, rfl, ⟨b, rfl, _⟩, rfl⟩, _, _, rfl, h2, _, _, rfl, h3, rfl⟩, rfl⟩ := h
  obtain ⟨x, rfl, hx, hxi⟩ := ent_of h1
  obtain ⟨pa, pm, pc, rfl, hm1, rows1, hl1, hr1, hd1⟩ := h2
  obtain ⟨sa, sm, sc, rfl, hm2, rows2, hl2, hr2, hd2⟩ := h3
  obtain ⟨ps, e1, e2, e3⟩ := pairs_of rows1 hr1
  obtain ⟨ss, g1, g2, g3⟩ := seens_of rows2 hr2
  obtain rfl : ps.length = pm := e1.trans hl1
  obtain rfl : ss.length = sm := g1.trans hl2
  rw [e2] at hd1
  rw [g2] at hd2
  exact ⟨⟨⟨kind, x, ⟨em, ec, ef⟩, cf, ⟨a, b, ps, ss⟩⟩, pa, pc, sa, sc⟩, rfl, ⟨hd1, hd2, hx, hxi, rg_of ha, hm1.1, hm2.1, e3, g3⟩⟩
theorem recs_of {W : World} {b1 b2 : Nat} : ∀ (rows : List (List Value)), (∀ r ∈ rows, pRec W b1 b2 r ∧ r.length = 16) → ∃ l : List RI, l.length = rows.length ∧ rows.flatten = recsC l ∧ ∀ x ∈ l, x.ok (baseOf W)
  | [], _ => ⟨[], rfl, rfl, by simp⟩
  | r :: rows, h => by
    obtain ⟨l, h1, h2, h3⟩ := recs_of rows (fun x hx => h x (List.mem_cons_of_mem _ hx))
    obtain ⟨e, he, hr⟩ := rec_of (h r (List.mem_cons_self ..)).1
    refine ⟨e :: l, by simp [h1], by simp [recsC] at h2 ⊢; simp [h2, he], fun x hx => ?_⟩
    rcases List.mem_cons.1 hx with rfl | hx
    · exact hr
    · exact h3 x hx
theorem recs_arg {W : World} {bt b1 b2 : Nat} {v : Value} (g : SlR Try.prog W 16 bt (pRec W b1 b2) [v]) :
    ∃ a c, ∃ l : List RI, v = .slice a l.length c ∧ l.length ≤ 9223372036854775807 ∧ (∀ x ∈ l, x.ok (baseOf W)) ∧ RdS Try.prog (baseOf W) [] 16 a l.length c (recsC l) := by
  obtain ⟨a, m, c, h1, hm, rows, hlen, hrows, hrd⟩ := g
  obtain ⟨l, hl, hfl, hs⟩ := recs_of rows hrows
  obtain rfl : l.length = m := hl.trans hlen
  rw [hfl] at hrd
  exact ⟨a, c, l, by simpa using h1, hm.1, hs, hrd⟩
end Go.Proofs.Ytnoggejkkjngjaa
