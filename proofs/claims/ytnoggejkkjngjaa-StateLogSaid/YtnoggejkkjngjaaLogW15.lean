/- Layer 15, StateLog: the walk. Conditions: none but the kinds' bounds. -/
import Derived.Test.YtnoggejkkjngjaaEnts15
import Derived.Test.YtnoggejkkjngjaaFenced15
set_option maxHeartbeats 8000000
set_option linter.unusedVariables false
set_option linter.unusedSimpArgs false
set_option maxRecDepth 100000
namespace Go.Proofs.Ytnoggejkkjngjaa
open Go Go.Sl
attribute [local irreducible] Go.Sl.Wl Go.Sl.Wc Go.Sl.thenQ Go.Sl.blkQ Go.Sl.loopQ Go.Sl.Fspec

def fI : ByteArray → ByteArray := fun k => k
theorem esC_cell {l : List EnX} {k r : Nat} {x : EnX} {v : Value} (h : l[k]? = some x) (hr : r < 7) (hv : x.c[r]? = some v) : (esC l)[k * 7 + r]? = some v := flatMap_cell (fun _ _ => rfl) h hr hv
theorem enx_ceq (x : EnX) : ceqL x.c x.c = true := ceqL_self _ [.i .i64, .i .i64, .i .i64, .i .i64, .s, .b, .s] rfl
theorem log_some {S : S15} (hS : S.ok) (fr most : Int) : ((fr < 1 ∨ (S.es.length : Int) < fr) → (S.some fr most).length = 0) ∧
    (¬ (fr < 1 ∨ (S.es.length : Int) < fr) → ((S.some fr most).length : Int) = max 0 (min most ((S.es.length : Int) - fr + 1))) ∧
    (((S.some fr most).length : Int) ≤ max 0 most) ∧
    (∀ k x, (S.some fr most)[k]? = some x → 1 ≤ fr ∧ S.es[fr.toNat - 1 + k]? = some x) := by
  have hi := S15.fold_i hS
  unfold S15.some
  by_cases hc : fr ≤ 0 ∨ S.fold.i < fr ∨ most < 1
  · rw [if_pos hc]
    refine ⟨fun _ => rfl, fun h => ?_, ?_, fun k x h => by simp at h⟩
    · simp only [List.length_nil]; omega
    · simp only [List.length_nil]; omega
  · rw [if_neg hc]
    have hl : ((S.es.drop (fr.toNat - 1)).take most.toNat).length = min most.toNat (S.es.length - (fr.toNat - 1)) := by simp
    refine ⟨fun h => by omega, fun _ => by rw [hl]; omega, by rw [hl]; omega, fun k x h => ⟨by omega, ?_⟩⟩
    rw [List.getElem?_take] at h
    split at h
    · rwa [List.getElem?_drop] at h
    · cases h
theorem look_log {ks : List ByteArray} {n i : Nat} (h : i < n) {S : S15} (hS : S.es = logE fI ks n) : lookV S.fold.L 16 (1 + ((i + 1 : Nat) : Int) % 3) ((i + 1 : Nat) : Int) = (2, 1, ((i + 1 : Nat) : Int)) ∨
    (lookV S.fold.L 16 (1 + ((i + 1 : Nat) : Int) % 3) ((i + 1 : Nat) : Int) = (3, 0, 0) ∧ i + 4 ≤ n) := by
  have hl : S.es.length = n := by rw [hS, logE_len]
  obtain ⟨j', h1, h2, h3, h4, h5⟩ := log_seen fI ks S n hS n (Nat.le_refl _) (i + 1) (by omega) (by omega)
  have hup : S.upto n = S.fold := by rw [← hl]; exact S15.upto_all S
  rw [hup] at h5
  unfold lookV
  rw [h5]
  simp only
  by_cases he : j' = i + 1
  · subst he
    rw [if_neg (by omega), if_neg (by omega)]; exact .inl rfl
  · rw [if_neg (by omega), if_pos (by omega)]; exact .inr ⟨rfl, by omega⟩
theorem get_log {ks : List ByteArray} {n i : Nat} (h : i < n) {S : S15} (hS : S.es = logE fI ks n) : ∃ j : Nat, i < j ∧ j ≤ n ∧ keyAt ks (j - 1) = keyAt ks i ∧ gX S.fold.t (keyAt ks i) = ⟨1, j, true, keyAt ks i⟩ := by
  have hl : S.es.length = n := by rw [hS, logE_len]
  have hlog : LogE S.es := by rw [hS]; exact logE_log fI ks n
  have hF := fold_log hlog
  obtain ⟨j, h1, h2, h3, h4⟩ := log_keys fI ks S n hS n (Nat.le_refl _) i h
  have hup : S.upto n = S.fold := by rw [← hl]; exact S15.upto_all S
  rw [hup] at h4
  exact ⟨j, h1, h2, h3, gX_get hF.ris h4⟩
section specs
variable {B : Base}
theorem log_spec (a : Option Addr) (m cc : Nat) (ks : List ByteArray) (hm : ks.length = m) (hmb : m ≤ 9223372036854775807) (hsrc : RdS Try.prog B [] 1 a m cc (ks.map Value.string)) (fr most : Int) (hfr : -9223372036854775808 ≤ fr ∧ fr ≤ 9223372036854775807) (hmo : -9223372036854775808 ≤ most ∧ most ≤ 9223372036854775807) :
    Fspec Try.prog B 5 #[.slice a m cc, .int .i64 fr, .int .i64 most] [] (fun v A' => v = .bool true ∧ A' = []) := by
  obtain ⟨n, hn⟩ : ∃ n, n = min m 60 := ⟨_, rfl⟩
  have hn60 : n ≤ 60 ∧ n ≤ m := by omega
  have hmin : min (m : Int) 60 = (n : Int) := by omega
  have hkeys : ∀ j, j < n → (ks.map Value.string)[j]? = some (.string (keyAt ks j)) := fun j hj => by
    have hjm : j < ks.length := by omega
    rw [List.getElem?_map, List.getElem?_eq_getElem hjm]; simp [keyAt, List.getElem?_eq_getElem hjm]
  refine spec_of (args := [_, _, _]) Try.func5 rfl rfl rfl ?_
  repeat' (first
    | refine Wc_seq ?_
    | refine thenQ_normal ?_
    | refine Wc_cond_t (h := ?_)
    | refine Wc_cond_f (h := ?_)
    | refine Wc_ret ?_
    | refine thenQ_ret ?_
    | refine Wc_block ?_
    | refine blkQ_normal ?_
    | refine blkQ_ret ?_
    | refine Wc_exit ?_
    | refine thenQ_exit ?_
    | refine blkQ_hit ?_
    | refine blkQ_miss rfl ?_
    | refine Wc_skip ?_
    | refine Wc_label ?_
    | refine loopQ_exit ?_
    | refine loopQ_ret ?_
    | refine loopQ_normal ?_
    | (refine Wc_region (id := 0) ?_; intro K hK; refine Wl_assign (k := ?_); (refine Wl_nil (hK _ _ ?_); clear hK K))
    | (refine Wc_region (id := 1) ?_; intro K hK; ((refine Wl_call (hs := awake15) (k := ?_); rintro v A' ⟨rfl, rfl⟩; simp only [List.cons_append, List.nil_append])) <;> (refine Wl_not (k' := ?_); (refine Wl_nil (hK _ _ ?_); clear hK K)))
    | (refine Wc_region (id := 2) ?_; intro K hK; refine Wl_assign (k := ?_); (refine Wl_nil (hK _ _ ?_); clear hK K))
    | (refine Wc_region (id := 3) ?_; intro K hK; refine Wl_build (k := ?_); ((refine Wl_lit1 (cs := epC ⟨1, 0, false⟩) (k := ?_); intro r16)) <;> (((refine Wl_call (hs := snew_spec [cb r16 (epsC oneT) 29] oneT (some ⟨r16, 0, none⟩) 1 (rds_cb .head rfl) (by decide)) (k := ?_); rintro v A' ⟨st, rfl, rfl⟩; simp only [List.cons_append, List.nil_append])) <;> (refine Wl_move (k := ?_); refine Wl_extract (k' := ?_); refine Wl_extract (k' := ?_); refine Wl_assign (k := ?_); refine Wl_assign (k := ?_); (refine Wl_nil (hK _ _ ?_); clear hK K))))
    | (refine Wc_region (id := 4) ?_; intro K hK; refine Wl_move (k := ?_); refine Wl_ptr_eq_nil (k' := ?_); refine Wl_move (k := ?_); ((first | (refine Wl_guard (k := ?_); refine Wl_move (k := ?_)) | refine Wl_gno (k := ?_) | ((refine Wl_split (yes := (fun ht => ?_)) (no := (fun ht => ?_)) <;> (try simp at ht) <;> (try (exfalso; omega))) <;> (first | (refine Wl_guard (k := ?_); refine Wl_move (k := ?_)) | refine Wl_gno (k := ?_))))) <;> (((first | (refine Wl_guard (k := ?_); refine Wl_neq (k' := ?_)) | refine Wl_gno (k := ?_) | ((refine Wl_split (yes := (fun ht => ?_)) (no := (fun ht => ?_)) <;> (try simp at ht) <;> (try (exfalso; omega))) <;> (first | (refine Wl_guard (k := ?_); refine Wl_neq (k' := ?_)) | refine Wl_gno (k := ?_))))) <;> ((first | refine Wl_pick_t (k := ?_) | refine Wl_pick_f (k := ?_) | refine Wl_pick (k := ?_)); (refine Wl_nil (hK _ _ ?_); clear hK K))))
    | (refine Wc_region (id := 5) ?_; intro K hK; refine Wl_assign (k := ?_); (refine Wl_nil (hK _ _ ?_); clear hK K))
    | (refine Wc_region (id := 6) ?_; intro K hK; refine Wl_move (k := ?_); refine Wl_len_sl (k' := ?_); ((refine Wl_min (k' := ?_); rw [hmin])) <;> (refine Wl_assign (k := ?_); (refine Wl_nil (hK _ _ ?_); clear hK K)))
    | (refine Wc_region (id := 7) ?_; intro K hK; refine Wl_assign (k := ?_); (refine Wl_nil (hK _ _ ?_); clear hK K))
    | (refine Wc_cond (ht := (fun ht => ?_)) (hf := (fun ht => ?_)) <;> (try simp at ht) <;> (try (exfalso; omega))))
  refine Wc_loop (α := Nat) (fun j => [(0, .slice a m cc), (1, .int .i64 fr), (2, .int .i64 most), (7, .pointer (some ⟨st, 0, none⟩)), (9, .int .i64 n), (10, .int .i64 ((j + 1 : Nat) : Int))]) (fun j => [StP st (logS fI ks j)])
    (fun j => j ≤ n) (fun j => n - j) 0 (by omega) ⟨rfl, rfl, rfl, rfl, rfl, rfl, trivial⟩ (by (repeat (first | exact Ent.refl _ | exact Ent.nil | refine Ent.take (by (repeat (first | exact Out.head | apply Out.tail)); (first | done | fail)) ?_ | refine Ent.drop1 ?_))) ?_
  intro j G hj
  simp only [ov]
  by_cases hlt : j < n
  · obtain ⟨p, rfl⟩ : ∃ p, a = some p := by
      cases a with
      | none => have := hsrc.nil rfl; omega
      | some p => exact ⟨p, rfl⟩
    have hkey := hkeys j hlt
    have hsub : ((j + 1 : Nat) : Int) - 1 = ((j : Nat) : Int) := by omega
    have hadd : ((j + 1 : Nat) : Int) + 1 = ((j + 1 + 1 : Nat) : Int) := by omega
    have hok : (logS fI ks j).ok := log_ok (by decide) fI ks j (by omega) false
    repeat' (first
      | refine Wc_seq ?_
      | refine thenQ_normal ?_
      | refine Wc_cond_t (h := ?_)
      | refine Wc_cond_f (h := ?_)
      | refine Wc_ret ?_
      | refine thenQ_ret ?_
      | refine Wc_block ?_
      | refine blkQ_normal ?_
      | refine blkQ_ret ?_
      | refine Wc_exit ?_
      | refine thenQ_exit ?_
      | refine blkQ_hit ?_
      | refine blkQ_miss rfl ?_
      | refine Wc_skip ?_
      | refine Wc_label ?_
      | refine loopQ_exit ?_
      | refine loopQ_ret ?_
      | refine loopQ_normal ?_
      | (refine Wc_region (id := 8) ?_; intro K hK; refine Wl_move (k := ?_); refine Wl_move (k := ?_); refine Wl_leq (k' := ?_); (refine Wl_nil (hK _ _ ?_); clear hK K))
      | (refine Wc_region (id := 9) ?_; intro K hK; refine Wl_move (k := ?_); ((refine Wl_add (k' := ?_); rw [hadd])) <;> (refine Wl_assign (k := ?_); (refine Wl_nil (hK _ _ ?_); clear hK K)))
      | (refine Wc_region (id := 10) ?_; intro K hK; refine Wl_move (k := ?_); refine Wl_move (k := ?_); ((refine Wl_sub (k' := ?_); rw [hsub])) <;> (((refine Wl_index_any (k' := ?_))) <;> (((refine Wl_loadG (v := .string (keyAt ks j)) (j := j) (hq := by simp) (hr := hsrc.any) (hv := hkey) (k := ?_))) <;> (refine Wl_len_str (k' := ?_); refine Wl_lss (k' := ?_); refine Wl_move (k := ?_); ((first | (refine Wl_guard (k := ?_); refine Wl_move (k := ?_)) | refine Wl_gno (k := ?_) | ((refine Wl_split (yes := (fun ht => ?_)) (no := (fun ht => ?_)) <;> (try simp at ht) <;> (try (exfalso; omega))) <;> (first | (refine Wl_guard (k := ?_); refine Wl_move (k := ?_)) | refine Wl_gno (k := ?_))))) <;> (((first | (refine Wl_guard (k := ?_); refine Wl_move (k := ?_)) | refine Wl_gno (k := ?_) | ((refine Wl_split (yes := (fun ht => ?_)) (no := (fun ht => ?_)) <;> (try simp at ht) <;> (try (exfalso; omega))) <;> (first | (refine Wl_guard (k := ?_); refine Wl_move (k := ?_)) | refine Wl_gno (k := ?_))))) <;> (((first | (refine Wl_guard (k := ?_); (refine Wl_sub (k' := ?_); rw [hsub])) | refine Wl_gno (k := ?_) | ((refine Wl_split (yes := (fun ht => ?_)) (no := (fun ht => ?_)) <;> (try simp at ht) <;> (try (exfalso; omega))) <;> (first | (refine Wl_guard (k := ?_); (refine Wl_sub (k' := ?_); rw [hsub])) | refine Wl_gno (k := ?_))))) <;> (((first | (refine Wl_guard (k := ?_); (refine Wl_index_any (k' := ?_))) | refine Wl_gno (k := ?_) | ((refine Wl_split (yes := (fun ht => ?_)) (no := (fun ht => ?_)) <;> (try simp at ht) <;> (try (exfalso; omega))) <;> (first | (refine Wl_guard (k := ?_); (refine Wl_index_any (k' := ?_))) | refine Wl_gno (k := ?_))))) <;> (((first | (refine Wl_guard (k := ?_); (refine Wl_loadG (v := .string (keyAt ks j)) (j := j) (hq := by simp) (hr := hsrc.any) (hv := hkey) (k := ?_))) | refine Wl_gno (k := ?_) | ((refine Wl_split (yes := (fun ht => ?_)) (no := (fun ht => ?_)) <;> (try simp at ht) <;> (try (exfalso; omega))) <;> (first | (refine Wl_guard (k := ?_); (refine Wl_loadG (v := .string (keyAt ks j)) (j := j) (hq := by simp) (hr := hsrc.any) (hv := hkey) (k := ?_))) | refine Wl_gno (k := ?_))))) <;> (((first | (refine Wl_guard (k := ?_); refine Wl_len_str (k' := ?_)) | refine Wl_gno (k := ?_) | ((refine Wl_split (yes := (fun ht => ?_)) (no := (fun ht => ?_)) <;> (try simp at ht) <;> (try (exfalso; omega))) <;> (first | (refine Wl_guard (k := ?_); refine Wl_len_str (k' := ?_)) | refine Wl_gno (k := ?_))))) <;> (((first | (refine Wl_guard (k := ?_); refine Wl_gtr (k' := ?_)) | refine Wl_gno (k := ?_) | ((refine Wl_split (yes := (fun ht => ?_)) (no := (fun ht => ?_)) <;> (try simp at ht) <;> (try (exfalso; omega))) <;> (first | (refine Wl_guard (k := ?_); refine Wl_gtr (k' := ?_)) | refine Wl_gno (k := ?_))))) <;> ((first | refine Wl_pick_t (k := ?_) | refine Wl_pick_f (k := ?_) | refine Wl_pick (k := ?_)); (refine Wl_nil (hK _ _ ?_); clear hK K))))))))))))
      | (refine Wc_region (id := 11) ?_; intro K hK; refine Wl_assign (k := ?_); (refine Wl_nil (hK _ _ ?_); clear hK K))
      | (refine Wc_draw (id := 12) (h := ?_); intro K hK; refine Wl_move (k := ?_); refine Wl_move (k := ?_); refine Wl_move (k := ?_); refine Wl_move (k := ?_); ((refine Wl_sub (k' := ?_); rw [hsub])) <;> (((refine Wl_index_any (k' := ?_))) <;> (((refine Wl_loadG (v := .string (keyAt ks j)) (j := j) (hq := by simp) (hr := hsrc.any) (hv := hkey) (k := ?_))) <;> (refine Wl_move (k := ?_); refine Wl_move (k := ?_); ((refine Wl_sub (k' := ?_); rw [hsub])) <;> (((refine Wl_index_any (k' := ?_))) <;> (((refine Wl_loadG (v := .string (keyAt ks j)) (j := j) (hq := by simp) (hr := hsrc.any) (hv := hkey) (k := ?_))) <;> (((refine Wl_call (hs := simple_spec ((j + 1 : Nat) : Int) (by omega) (keyAt ks j) (keyAt ks j)) (k := ?_); rintro v A' ⟨rfl, rfl⟩; simp only [List.cons_append, List.nil_append]; simp only [EnX.c])) <;> (refine Wl_build (k := ?_); ((refine Wl_call (hs := apply_spec st (logS fI ks j) hok (rcW (simX (j + 1) (keyAt ks j) (keyAt ks j))) (.inl rfl) (simX_ok ..) (by show _ ≤ ((j + 1 : Nat) : Int) ∧ ((j + 1 : Nat) : Int) ≤ _; omega)) (k := ?_); rintro v A' ⟨rfl, rfl⟩; simp only [List.cons_append, List.nil_append]; rw [show chkV (logS fI ks j) (rcW (simX (j + 1) (keyAt ks j) (keyAt ks j))) = 0 from chk_log ks fI j (by omega) (by omega) (by show (keyAt ks j).size ≤ 1024; omega), show applyV (logS fI ks j) (rcW (simX (j + 1) (keyAt ks j) (keyAt ks j))) = logS fI ks (j + 1) from apply_log ks fI j (by omega) (by omega) (by show (keyAt ks j).size ≤ 1024; omega)])) <;> (refine Wl_neq (k' := ?_); (refine Wl_nil (hK _ _ ?_); clear hK K))))))))))
      | (refine Wc_region (id := 13) ?_; intro K hK; refine Wl_assign (k := ?_); (refine Wl_nil (hK _ _ ?_); clear hK K))
      | (refine Wc_cond (ht := (fun ht => ?_)) (hf := (fun ht => ?_)) <;> (try simp at ht) <;> (try (exfalso; omega))))
    all_goals first
      | exact ⟨Or.inr rfl, .bool true, [], Ent.nil, res1 rfl rfl, rfl, rfl⟩
      | exact ⟨j + 1, by omega, by omega, ⟨rfl, rfl, rfl, rfl, rfl, rfl, trivial⟩, (by (repeat (first | exact Ent.refl _ | exact Ent.nil | refine Ent.take (by (repeat (first | exact Out.head | apply Out.tail)); (first | done | fail)) ?_ | refine Ent.drop1 ?_)); (first | done | fail))⟩
  obtain rfl : j = n := by omega
  have hok : (logS fI ks j).ok := log_ok (by decide) fI ks j (by omega) false
  have hes : (logS fI ks j).es = logE fI ks j := rfl
  have hel : (logS fI ks j).es.length = j := logE_len fI ks j
  have hfi := S15.fold_i hok
  rw [hel] at hfi
  generalize logS fI ks j = S at hok hes hel hfi ⊢
  obtain ⟨f1, f2, f3, f4⟩ := log_some hok fr most
  rw [hel] at f1 f2
  have hall : S.some 1 j = S.es := by
    unfold S15.some
    by_cases h0 : j = 0
    · rw [if_pos (by omega), List.eq_nil_of_length_eq_zero (hel.trans h0)]
    · rw [if_neg (by omega)]
      exact List.take_of_length_le (by simp; omega)
  obtain ⟨L2, hL2⟩ : ∃ L, S.some fr most = L := ⟨_, rfl⟩
  rw [hL2] at f1 f2 f3 f4
  have hrow : ∀ i, i < j → S.es[i]? = some (simX (i + 1) (keyAt ks i) (keyAt ks i)) := fun i hi => by rw [hes]; exact logE_get fI ks hi
  repeat' (first
    | refine Wc_seq ?_
    | refine thenQ_normal ?_
    | refine Wc_cond_t (h := ?_)
    | refine Wc_cond_f (h := ?_)
    | refine Wc_ret ?_
    | refine thenQ_ret ?_
    | refine Wc_block ?_
    | refine blkQ_normal ?_
    | refine blkQ_ret ?_
    | refine Wc_exit ?_
    | refine thenQ_exit ?_
    | refine blkQ_hit ?_
    | refine blkQ_miss rfl ?_
    | refine Wc_skip ?_
    | refine Wc_label ?_
    | refine loopQ_exit ?_
    | refine loopQ_ret ?_
    | refine loopQ_normal ?_
    | (refine Wc_region (id := 8) ?_; intro K hK; refine Wl_move (k := ?_); refine Wl_move (k := ?_); refine Wl_leq (k' := ?_); (refine Wl_nil (hK _ _ ?_); clear hK K))
    | (refine Wc_region (id := 14) ?_; intro K hK; refine Wl_move (k := ?_); refine Wl_move (k := ?_); ((refine Wl_call (hs := sentries_spec st S hok 1 j (by omega) (by omega)) (k := ?_); rintro v A' ⟨b1, c1, rfl, rfl⟩; simp only [List.cons_append, List.nil_append]; rw [hall, hel])) <;> (refine Wl_move (k := ?_); refine Wl_move (k := ?_); refine Wl_move (k := ?_); ((refine Wl_call (hs := sentries_spec st S hok fr most hfr hmo) (k := ?_); rintro v A' ⟨b2, c2, rfl, rfl⟩; simp only [List.cons_append, List.nil_append]; rw [hL2])) <;> (refine Wl_assign (k := ?_); refine Wl_assign (k := ?_); (refine Wl_nil (hK _ _ ?_); clear hK K))))
    | (refine Wc_region (id := 15) ?_; intro K hK; refine Wl_move (k := ?_); refine Wl_len_sl (k' := ?_); refine Wl_move (k := ?_); refine Wl_neq (k' := ?_); refine Wl_move (k := ?_); ((first | (refine Wl_guard (k := ?_); refine Wl_move (k := ?_)) | refine Wl_gno (k := ?_) | ((refine Wl_split (yes := (fun ht => ?_)) (no := (fun ht => ?_)) <;> (try simp at ht) <;> (try (exfalso; omega))) <;> (first | (refine Wl_guard (k := ?_); refine Wl_move (k := ?_)) | refine Wl_gno (k := ?_))))) <;> (((first | (refine Wl_guard (k := ?_); (refine Wl_call (hs := slast_spec st S) (k := ?_); rintro v A' ⟨rfl, rfl⟩; simp only [List.cons_append, List.nil_append]; rw [hfi])) | refine Wl_gno (k := ?_) | ((refine Wl_split (yes := (fun ht => ?_)) (no := (fun ht => ?_)) <;> (try simp at ht) <;> (try (exfalso; omega))) <;> (first | (refine Wl_guard (k := ?_); (refine Wl_call (hs := slast_spec st S) (k := ?_); rintro v A' ⟨rfl, rfl⟩; simp only [List.cons_append, List.nil_append]; rw [hfi])) | refine Wl_gno (k := ?_))))) <;> (((first | (refine Wl_guard (k := ?_); refine Wl_field (k' := ?_)) | refine Wl_gno (k := ?_) | ((refine Wl_split (yes := (fun ht => ?_)) (no := (fun ht => ?_)) <;> (try simp at ht) <;> (try (exfalso; omega))) <;> (first | (refine Wl_guard (k := ?_); refine Wl_field (k' := ?_)) | refine Wl_gno (k := ?_))))) <;> (((first | (refine Wl_guard (k := ?_); refine Wl_move (k := ?_)) | refine Wl_gno (k := ?_) | ((refine Wl_split (yes := (fun ht => ?_)) (no := (fun ht => ?_)) <;> (try simp at ht) <;> (try (exfalso; omega))) <;> (first | (refine Wl_guard (k := ?_); refine Wl_move (k := ?_)) | refine Wl_gno (k := ?_))))) <;> (((first | (refine Wl_guard (k := ?_); refine Wl_neq (k' := ?_)) | refine Wl_gno (k := ?_) | ((refine Wl_split (yes := (fun ht => ?_)) (no := (fun ht => ?_)) <;> (try simp at ht) <;> (try (exfalso; omega))) <;> (first | (refine Wl_guard (k := ?_); refine Wl_neq (k' := ?_)) | refine Wl_gno (k := ?_))))) <;> ((first | refine Wl_pick_t (k := ?_) | refine Wl_pick_f (k := ?_) | refine Wl_pick (k := ?_)); refine Wl_move (k := ?_); ((first | (refine Wl_guard (k := ?_); refine Wl_move (k := ?_)) | refine Wl_gno (k := ?_) | ((refine Wl_split (yes := (fun ht => ?_)) (no := (fun ht => ?_)) <;> (try simp at ht) <;> (try (exfalso; omega))) <;> (first | (refine Wl_guard (k := ?_); refine Wl_move (k := ?_)) | refine Wl_gno (k := ?_))))) <;> (((first | (refine Wl_guard (k := ?_); refine Wl_len_sl (k' := ?_)) | refine Wl_gno (k := ?_) | ((refine Wl_split (yes := (fun ht => ?_)) (no := (fun ht => ?_)) <;> (try simp at ht) <;> (try (exfalso; omega))) <;> (first | (refine Wl_guard (k := ?_); refine Wl_len_sl (k' := ?_)) | refine Wl_gno (k := ?_))))) <;> (((first | (refine Wl_guard (k := ?_); refine Wl_move (k := ?_)) | refine Wl_gno (k := ?_) | ((refine Wl_split (yes := (fun ht => ?_)) (no := (fun ht => ?_)) <;> (try simp at ht) <;> (try (exfalso; omega))) <;> (first | (refine Wl_guard (k := ?_); refine Wl_move (k := ?_)) | refine Wl_gno (k := ?_))))) <;> (((first | (refine Wl_guard (k := ?_); refine Wl_max (k' := ?_)) | refine Wl_gno (k := ?_) | ((refine Wl_split (yes := (fun ht => ?_)) (no := (fun ht => ?_)) <;> (try simp at ht) <;> (try (exfalso; omega))) <;> (first | (refine Wl_guard (k := ?_); refine Wl_max (k' := ?_)) | refine Wl_gno (k := ?_))))) <;> (((first | (refine Wl_guard (k := ?_); refine Wl_gtr (k' := ?_)) | refine Wl_gno (k := ?_) | ((refine Wl_split (yes := (fun ht => ?_)) (no := (fun ht => ?_)) <;> (try simp at ht) <;> (try (exfalso; omega))) <;> (first | (refine Wl_guard (k := ?_); refine Wl_gtr (k' := ?_)) | refine Wl_gno (k := ?_))))) <;> ((first | refine Wl_pick_t (k := ?_) | refine Wl_pick_f (k := ?_) | refine Wl_pick (k := ?_)); (refine Wl_nil (hK _ _ ?_); clear hK K))))))))))))
    | (refine Wc_region (id := 16) ?_; intro K hK; refine Wl_assign (k := ?_); (refine Wl_nil (hK _ _ ?_); clear hK K))
    | (refine Wc_region (id := 17) ?_; intro K hK; refine Wl_move (k := ?_); refine Wl_len_sl (k' := ?_); refine Wl_move (k := ?_); (refine Wl_nil (hK _ _ ?_); clear hK K))
    | (refine Wc_cond (ht := (fun ht => ?_)) (hf := (fun ht => ?_)) <;> (try simp at ht) <;> (try (exfalso; omega))))
  refine Wc_ownF (a := b1) (sz := 7) (ho := (by (repeat (first | exact Out.head | apply Out.tail)); (first | done | fail))) (h0 := by omega) (h := fun h1 => ?_)
  refine Wc_ownF (a := b2) (sz := 7) (ho := (by (repeat (first | exact Out.head | apply Out.tail)); (first | done | fail))) (h0 := by omega) (h := fun h2 => ?_)
  refine Wc_loop (α := Nat) (fun i => [(0, .slice a m cc), (1, .int .i64 fr), (2, .int .i64 most), (7, .pointer (some ⟨st, 0, none⟩)), (9, .int .i64 j), (11, .slice b1 j c1), (12, .slice b2 L2.length c2), (99, .int .i64 j), (100, .int .i64 i)])
    (fun i => [own b1 j c1 7 (esC S.es) 35, own b2 L2.length c2 7 (esC L2) 35, StP st S]) (fun i => i ≤ j) (fun i => j - i) 0 (by omega) ⟨rfl, rfl, rfl, rfl, rfl, rfl, rfl, rfl, rfl, trivial⟩ (by (repeat (first | exact Ent.refl _ | exact Ent.nil | refine Ent.take (by (repeat (first | exact Out.head | apply Out.tail)); (first | done | fail)) ?_ | refine Ent.drop1 ?_))) ?_
  intro i G2 hi
  simp only [ov]
  by_cases hij : i < j
  · obtain ⟨p, rfl⟩ : ∃ p, a = some p := by
      cases a with
      | none => have := hsrc.nil rfl; omega
      | some p => exact ⟨p, rfl⟩
    obtain ⟨q, rfl⟩ := h1.some (by omega)
    have hkey := hkeys i hij
    have hx := hrow i hij
    have hlk := look_log hij hes
    obtain ⟨lv, hlv⟩ : ∃ l, lookV S.fold.L 16 (1 + ((i + 1 : Nat) : Int) % 3) ((i + 1 : Nat) : Int) = l := ⟨_, rfl⟩
    have hsl := slook_spec (B := B) st S hok (1 + ((i + 1 : Nat) : Int) % 3) ((i + 1 : Nat) : Int) (by omega)
    rw [hlv] at hlk hsl
    rcases hlk with rfl | ⟨rfl, hi4⟩
    all_goals
      repeat' (first
        | refine Wc_seq ?_
        | refine thenQ_normal ?_
        | refine Wc_cond_t (h := ?_)
        | refine Wc_cond_f (h := ?_)
        | refine Wc_ret ?_
        | refine thenQ_ret ?_
        | refine Wc_block ?_
        | refine blkQ_normal ?_
        | refine blkQ_ret ?_
        | refine Wc_exit ?_
        | refine thenQ_exit ?_
        | refine blkQ_hit ?_
        | refine blkQ_miss rfl ?_
        | refine Wc_skip ?_
        | refine Wc_label ?_
        | refine loopQ_exit ?_
        | refine loopQ_ret ?_
        | refine loopQ_normal ?_
        | (refine Wc_region (id := 18) ?_; intro K hK; refine Wl_lss (k' := ?_); (refine Wl_nil (hK _ _ ?_); clear hK K))
        | (refine Wc_region (id := 19) ?_; intro K hK; refine Wl_move (k := ?_); refine Wl_assign (k := ?_); (refine Wl_nil (hK _ _ ?_); clear hK K))
        | (refine Wc_drawF (id := 20) (M := ([own (some q) j c1 7 (esC S.es) 35])) (Ls := [106, 112, 116, 118]) (hp := (Pick.perm (by (repeat (first | exact Pick.nil | apply Pick.cons (by (repeat (first | exact Out.head | apply Out.tail)); (first | done | fail)))); (first | done | fail)))) (h := ?_); intro K hK; refine Wl_move (k := ?_); refine Wl_move (k := ?_); ((refine Wl_index_any (k' := ?_))) <;> (((refine Wl_loadAggGF (j := i * 7) (cs := (simX (i + 1) (keyAt ks i) (keyAt ks i)).c) (hq := by simp) (hr := h1.rd (by (repeat (first | exact Out.head | apply Out.tail)); (first | done | fail))) (hv := esC_row hx) (k := ?_))) <;> (refine Wl_move (k := ?_); ((refine Wl_add (k' := ?_); rw [show ((i : Nat) : Int) + 1 = ((i + 1 : Nat) : Int) by omega])) <;> (refine Wl_move (k := ?_); refine Wl_move (k := ?_); ((refine Wl_index_any (k' := ?_))) <;> (((refine Wl_loadGF (v := .string (keyAt ks i)) (j := i) (hq := by simp) (hr := hsrc.any) (hv := hkey) (k := ?_))) <;> (refine Wl_move (k := ?_); refine Wl_move (k := ?_); ((refine Wl_index_any (k' := ?_))) <;> (((refine Wl_loadGF (v := .string (keyAt ks i)) (j := i) (hq := by simp) (hr := hsrc.any) (hv := hkey) (k := ?_))) <;> (((refine Wl_call (hs := simple_spec ((i + 1 : Nat) : Int) (by omega) (keyAt ks i) (keyAt ks i)) (k := ?_); rintro v A' ⟨rfl, rfl⟩; simp only [List.cons_append, List.nil_append])) <;> (((refine Wl_agg_neqB (b := true) (hb := enx_ceq _) (k' := ?_))) <;> ((refine Wl_nil (hK _ _ ?_); clear hK K; try simp only [List.cons_append, List.nil_append])))))))))))
        | (refine Wc_region (id := 21) ?_; intro K hK; refine Wl_assign (k := ?_); (refine Wl_nil (hK _ _ ?_); clear hK K))
        | ((refine Wc_tree (id := 22) (t := (.step 0 (.step 1 (.step 2 (.step 3 (.step 4 (.step 5 (.step 6 (.step 7 (.step 8 (.step 9 (.step 10 (.alt (.step 11 (.step 12 (.step 13 (.step 14 (.step 15 (.step 16 (.step 17 .done))))))) (.step 15 (.step 11 (.step 12 (.step 13 (.step 14 (.step 16 (.step 17 .done)))))))))))))))))))) (bad := [11, 15]) (hok := (by decide +kernel)) (h := ?_); intro K hK; repeat' (first | refine WlT_alt ?_ ?_ | (refine WlT_step (i := 0) rfl ?_; (refine Wl_move (k := ?_)) <;> (refine Wl_nil ?_)) | (refine WlT_step (i := 1) rfl ?_; (refine Wl_move (k := ?_)) <;> (refine Wl_nil ?_)) | (refine WlT_step (i := 2) rfl ?_; (refine Wl_move (k := ?_)) <;> (refine Wl_nil ?_)) | (refine WlT_step (i := 3) rfl ?_; ((refine Wl_index_any (k' := ?_))) <;> (refine Wl_nil ?_)) | (refine WlT_step (i := 4) rfl ?_; ((refine Wl_fieldAddrG (k := ?_))) <;> (refine Wl_nil ?_)) | (refine WlT_step (i := 5) rfl ?_; ((refine Wl_loadG (v := .int .i64 (1 + ((i + 1 : Nat) : Int) % 3)) (j := i * 7 + 2) (hq := by rw [Int.toNat_natCast]; exact addr_two _ _ _) (hr := h1.rd (by (repeat (first | exact Out.head | apply Out.tail)); (first | done | fail))) (hv := esC_cell (r := 2) hx (by omega) rfl) (k := ?_))) <;> (refine Wl_nil ?_)) | (refine WlT_step (i := 6) rfl ?_; (refine Wl_move (k := ?_)) <;> (refine Wl_nil ?_)) | (refine WlT_step (i := 7) rfl ?_; (refine Wl_move (k := ?_)) <;> (refine Wl_nil ?_)) | (refine WlT_step (i := 8) rfl ?_; ((refine Wl_index_any (k' := ?_))) <;> (refine Wl_nil ?_)) | (refine WlT_step (i := 9) rfl ?_; ((refine Wl_fieldAddrG (k := ?_))) <;> (refine Wl_nil ?_)) | (refine WlT_step (i := 10) rfl ?_; ((refine Wl_loadG (v := .int .i64 ((i + 1 : Nat) : Int)) (j := i * 7 + 3) (hq := by rw [Int.toNat_natCast]; exact addr_two _ _ _) (hr := h1.rd (by (repeat (first | exact Out.head | apply Out.tail)); (first | done | fail))) (hv := esC_cell (r := 3) hx (by omega) rfl) (k := ?_))) <;> (refine Wl_nil ?_)) | (refine WlT_step (i := 11) rfl ?_; ((refine Wl_call (hs := hsl) (k := ?_); rintro v A' ⟨rfl, rfl⟩; simp only [List.cons_append, List.nil_append])) <;> (refine Wl_nil ?_)) | (refine WlT_step (i := 12) rfl ?_; (refine Wl_move (k := ?_)) <;> (refine Wl_nil ?_)) | (refine WlT_step (i := 13) rfl ?_; (refine Wl_extract (k' := ?_)) <;> (refine Wl_nil ?_)) | (refine WlT_step (i := 14) rfl ?_; (refine Wl_extract (k' := ?_)) <;> (refine Wl_nil ?_)) | (refine WlT_step (i := 15) rfl ?_; ((refine Wl_alloc (k := ?_); intro r15)) <;> (refine Wl_nil ?_)) | (refine WlT_step (i := 16) rfl ?_; (refine Wl_assign (k := ?_)) <;> (refine Wl_nil ?_)) | (refine WlT_step (i := 17) rfl ?_; (refine Wl_storeR (ho' := rfl) (k := ?_)) <;> (refine Wl_nil ?_)) | (refine WlT_done (hK _ _ ?_); clear hK K))))
        | (refine Wc_region (id := 23) ?_; intro K hK; refine Wl_fieldAddr (k := ?_); refine Wl_load (k := ?_); refine Wl_gtr (k' := ?_); refine Wl_move (k := ?_); ((first | (refine Wl_guard (k := ?_); refine Wl_move (k := ?_)) | refine Wl_gno (k := ?_) | ((refine Wl_split (yes := (fun ht => ?_)) (no := (fun ht => ?_)) <;> (try simp at ht) <;> (try (exfalso; omega))) <;> (first | (refine Wl_guard (k := ?_); refine Wl_move (k := ?_)) | refine Wl_gno (k := ?_))))) <;> (((first | (refine Wl_guard (k := ?_); refine Wl_neq (k' := ?_)) | refine Wl_gno (k := ?_) | ((refine Wl_split (yes := (fun ht => ?_)) (no := (fun ht => ?_)) <;> (try simp at ht) <;> (try (exfalso; omega))) <;> (first | (refine Wl_guard (k := ?_); refine Wl_neq (k' := ?_)) | refine Wl_gno (k := ?_))))) <;> ((first | refine Wl_pick_t (k := ?_) | refine Wl_pick_f (k := ?_) | refine Wl_pick (k := ?_)); refine Wl_move (k := ?_); ((first | (refine Wl_guard (k := ?_); refine Wl_move (k := ?_)) | refine Wl_gno (k := ?_) | ((refine Wl_split (yes := (fun ht => ?_)) (no := (fun ht => ?_)) <;> (try simp at ht) <;> (try (exfalso; omega))) <;> (first | (refine Wl_guard (k := ?_); refine Wl_move (k := ?_)) | refine Wl_gno (k := ?_))))) <;> (((first | (refine Wl_guard (k := ?_); refine Wl_move (k := ?_)) | refine Wl_gno (k := ?_) | ((refine Wl_split (yes := (fun ht => ?_)) (no := (fun ht => ?_)) <;> (try simp at ht) <;> (try (exfalso; omega))) <;> (first | (refine Wl_guard (k := ?_); refine Wl_move (k := ?_)) | refine Wl_gno (k := ?_))))) <;> (((first | (refine Wl_guard (k := ?_); refine Wl_sub (k' := ?_)) | refine Wl_gno (k := ?_) | ((refine Wl_split (yes := (fun ht => ?_)) (no := (fun ht => ?_)) <;> (try simp at ht) <;> (try (exfalso; omega))) <;> (first | (refine Wl_guard (k := ?_); refine Wl_sub (k' := ?_)) | refine Wl_gno (k := ?_))))) <;> (((first | (refine Wl_guard (k := ?_); refine Wl_geq (k' := ?_)) | refine Wl_gno (k := ?_) | ((refine Wl_split (yes := (fun ht => ?_)) (no := (fun ht => ?_)) <;> (try simp at ht) <;> (try (exfalso; omega))) <;> (first | (refine Wl_guard (k := ?_); refine Wl_geq (k' := ?_)) | refine Wl_gno (k := ?_))))) <;> (((first | (refine Wl_guard (k := ?_); refine Wl_move (k := ?_)) | refine Wl_gno (k := ?_) | ((refine Wl_split (yes := (fun ht => ?_)) (no := (fun ht => ?_)) <;> (try simp at ht) <;> (try (exfalso; omega))) <;> (first | (refine Wl_guard (k := ?_); refine Wl_move (k := ?_)) | refine Wl_gno (k := ?_))))) <;> (((first | (refine Wl_guard (k := ?_); refine Wl_fieldAddr (k := ?_)) | refine Wl_gno (k := ?_) | ((refine Wl_split (yes := (fun ht => ?_)) (no := (fun ht => ?_)) <;> (try simp at ht) <;> (try (exfalso; omega))) <;> (first | (refine Wl_guard (k := ?_); refine Wl_fieldAddr (k := ?_)) | refine Wl_gno (k := ?_))))) <;> (((first | (refine Wl_guard (k := ?_); refine Wl_load (k := ?_)) | refine Wl_gno (k := ?_) | ((refine Wl_split (yes := (fun ht => ?_)) (no := (fun ht => ?_)) <;> (try simp at ht) <;> (try (exfalso; omega))) <;> (first | (refine Wl_guard (k := ?_); refine Wl_load (k := ?_)) | refine Wl_gno (k := ?_))))) <;> (((first | (refine Wl_guard (k := ?_); refine Wl_move (k := ?_)) | refine Wl_gno (k := ?_) | ((refine Wl_split (yes := (fun ht => ?_)) (no := (fun ht => ?_)) <;> (try simp at ht) <;> (try (exfalso; omega))) <;> (first | (refine Wl_guard (k := ?_); refine Wl_move (k := ?_)) | refine Wl_gno (k := ?_))))) <;> (((first | (refine Wl_guard (k := ?_); refine Wl_add (k' := ?_)) | refine Wl_gno (k := ?_) | ((refine Wl_split (yes := (fun ht => ?_)) (no := (fun ht => ?_)) <;> (try simp at ht) <;> (try (exfalso; omega))) <;> (first | (refine Wl_guard (k := ?_); refine Wl_add (k' := ?_)) | refine Wl_gno (k := ?_))))) <;> (((first | (refine Wl_guard (k := ?_); refine Wl_neq (k' := ?_)) | refine Wl_gno (k := ?_) | ((refine Wl_split (yes := (fun ht => ?_)) (no := (fun ht => ?_)) <;> (try simp at ht) <;> (try (exfalso; omega))) <;> (first | (refine Wl_guard (k := ?_); refine Wl_neq (k' := ?_)) | refine Wl_gno (k := ?_))))) <;> (((first | (refine Wl_guard (k := ?_); (first | refine Wl_pick_t (k := ?_) | refine Wl_pick_f (k := ?_) | refine Wl_pick (k := ?_))) | refine Wl_gno (k := ?_) | ((refine Wl_split (yes := (fun ht => ?_)) (no := (fun ht => ?_)) <;> (try simp at ht) <;> (try (exfalso; omega))) <;> (first | (refine Wl_guard (k := ?_); (first | refine Wl_pick_t (k := ?_) | refine Wl_pick_f (k := ?_) | refine Wl_pick (k := ?_))) | refine Wl_gno (k := ?_))))) <;> ((first | refine Wl_pick_t (k := ?_) | refine Wl_pick_f (k := ?_) | refine Wl_pick (k := ?_)); (refine Wl_nil (hK _ _ ?_); clear hK K)))))))))))))))
        | (refine Wc_region (id := 24) ?_; intro K hK; refine Wl_assign (k := ?_); (refine Wl_nil (hK _ _ ?_); clear hK K))
        | (refine Wc_region (id := 25) ?_; intro K hK; refine Wl_add (k' := ?_); refine Wl_move (k := ?_); (refine Wl_nil (hK _ _ ?_); clear hK K))
        | (refine Wc_cond (ht := (fun ht => ?_)) (hf := (fun ht => ?_)) <;> (try simp at ht) <;> (try (exfalso; omega))))
    all_goals exact ⟨i + 1, by omega, by omega, ⟨rfl, rfl, rfl, rfl, rfl, rfl, rfl, rfl, int_succ i, trivial⟩, (by (repeat (first | exact Ent.refl _ | exact Ent.nil | refine Ent.take (by (repeat (first | exact Out.head | apply Out.tail)); (first | done | fail)) ?_ | refine Ent.drop1 ?_)); (first | done | fail))⟩
  obtain rfl : i = j := by omega
  repeat' (first
    | refine Wc_seq ?_
    | refine thenQ_normal ?_
    | refine Wc_cond_t (h := ?_)
    | refine Wc_cond_f (h := ?_)
    | refine Wc_ret ?_
    | refine thenQ_ret ?_
    | refine Wc_block ?_
    | refine blkQ_normal ?_
    | refine blkQ_ret ?_
    | refine Wc_exit ?_
    | refine thenQ_exit ?_
    | refine blkQ_hit ?_
    | refine blkQ_miss rfl ?_
    | refine Wc_skip ?_
    | refine Wc_label ?_
    | refine loopQ_exit ?_
    | refine loopQ_ret ?_
    | refine loopQ_normal ?_
    | (refine Wc_region (id := 18) ?_; intro K hK; refine Wl_lss (k' := ?_); (refine Wl_nil (hK _ _ ?_); clear hK K))
    | (refine Wc_region (id := 26) ?_; intro K hK; refine Wl_move (k := ?_); refine Wl_len_sl (k' := ?_); refine Wl_move (k := ?_); (refine Wl_nil (hK _ _ ?_); clear hK K))
    | (refine Wc_cond (ht := (fun ht => ?_)) (hf := (fun ht => ?_)) <;> (try simp at ht) <;> (try (exfalso; omega))))
  refine Wc_loop (α := Nat) (fun k => [(0, .slice a m cc), (1, .int .i64 fr), (2, .int .i64 most), (7, .pointer (some ⟨st, 0, none⟩)), (9, .int .i64 i), (11, .slice b1 i c1), (12, .slice b2 L2.length c2), (156, .int .i64 L2.length), (157, .int .i64 k)])
    (fun k => [own b1 i c1 7 (esC S.es) 35, own b2 L2.length c2 7 (esC L2) 35, StP st S]) (fun k => k ≤ L2.length) (fun k => L2.length - k) 0 (by omega) ⟨rfl, rfl, rfl, rfl, rfl, rfl, rfl, rfl, rfl, trivial⟩ (by (repeat (first | exact Ent.refl _ | exact Ent.nil | refine Ent.take (by (repeat (first | exact Out.head | apply Out.tail)); (first | done | fail)) ?_ | refine Ent.drop1 ?_))) ?_
  intro k G3 hk
  simp only [ov]
  have hL2few : (L2.length : Int) ≤ i := by
    by_cases hc : fr < 1 ∨ (i : Int) < fr
    · have := f1 hc; omega
    · have := f2 hc; omega
  by_cases hkl : k < L2.length
  · obtain ⟨x, hx⟩ : ∃ x, L2[k]? = some x := ⟨_, List.getElem?_eq_getElem hkl⟩
    obtain ⟨g1, g2⟩ := f4 k x hx
    have hlt2 : fr.toNat - 1 + k < i := by
      rcases Nat.lt_or_ge (fr.toNat - 1 + k) i with h | h
      · exact h
      · rw [List.getElem?_eq_none (by omega)] at g2; cases g2
    obtain ⟨q, rfl⟩ := h1.some (by omega)
    obtain ⟨q2, rfl⟩ := h2.some (by omega)
    have e1 : fr - 1 + (k : Int) = ((fr.toNat - 1 + k : Nat) : Int) := by omega
    repeat' (first
      | refine Wc_seq ?_
      | refine thenQ_normal ?_
      | refine Wc_cond_t (h := ?_)
      | refine Wc_cond_f (h := ?_)
      | refine Wc_ret ?_
      | refine thenQ_ret ?_
      | refine Wc_block ?_
      | refine blkQ_normal ?_
      | refine blkQ_ret ?_
      | refine Wc_exit ?_
      | refine thenQ_exit ?_
      | refine blkQ_hit ?_
      | refine blkQ_miss rfl ?_
      | refine Wc_skip ?_
      | refine Wc_label ?_
      | refine loopQ_exit ?_
      | refine loopQ_ret ?_
      | refine loopQ_normal ?_
      | (refine Wc_region (id := 27) ?_; intro K hK; refine Wl_lss (k' := ?_); (refine Wl_nil (hK _ _ ?_); clear hK K))
      | (refine Wc_region (id := 28) ?_; intro K hK; refine Wl_move (k := ?_); refine Wl_assign (k := ?_); (refine Wl_nil (hK _ _ ?_); clear hK K))
      | (refine Wc_draw (id := 29) (h := ?_); intro K hK; refine Wl_move (k := ?_); refine Wl_move (k := ?_); ((refine Wl_index_any (k' := ?_))) <;> (((refine Wl_loadAggG (j := k * 7) (cs := x.c) (hq := by simp) (hr := h2.rd (by (repeat (first | exact Out.head | apply Out.tail)); (first | done | fail))) (hv := esC_row hx) (k := ?_))) <;> (refine Wl_move (k := ?_); refine Wl_move (k := ?_); refine Wl_sub (k' := ?_); refine Wl_move (k := ?_); ((refine Wl_add (k' := ?_); rw [e1])) <;> (((refine Wl_index_any (k' := ?_))) <;> (((refine Wl_loadAggG (j := (fr.toNat - 1 + k) * 7) (cs := x.c) (hq := by rw [Int.toNat_natCast]) (hr := h1.rd (by (repeat (first | exact Out.head | apply Out.tail)); (first | done | fail))) (hv := esC_row g2) (k := ?_))) <;> (((refine Wl_agg_neqB (b := true) (hb := enx_ceq _) (k' := ?_))) <;> ((refine Wl_nil (hK _ _ ?_); clear hK K))))))))
      | (refine Wc_region (id := 30) ?_; intro K hK; refine Wl_assign (k := ?_); (refine Wl_nil (hK _ _ ?_); clear hK K))
      | (refine Wc_region (id := 31) ?_; intro K hK; refine Wl_add (k' := ?_); refine Wl_move (k := ?_); (refine Wl_nil (hK _ _ ?_); clear hK K))
      | (refine Wc_cond (ht := (fun ht => ?_)) (hf := (fun ht => ?_)) <;> (try simp at ht) <;> (try (exfalso; omega))))
    all_goals exact ⟨k + 1, by omega, by omega, ⟨rfl, rfl, rfl, rfl, rfl, rfl, rfl, rfl, int_succ k, trivial⟩, (by (repeat (first | exact Ent.refl _ | exact Ent.nil | refine Ent.take (by (repeat (first | exact Out.head | apply Out.tail)); (first | done | fail)) ?_ | refine Ent.drop1 ?_)); (first | done | fail))⟩
  obtain rfl : k = L2.length := by omega
  repeat' (first
    | refine Wc_seq ?_
    | refine thenQ_normal ?_
    | refine Wc_cond_t (h := ?_)
    | refine Wc_cond_f (h := ?_)
    | refine Wc_ret ?_
    | refine thenQ_ret ?_
    | refine Wc_block ?_
    | refine blkQ_normal ?_
    | refine blkQ_ret ?_
    | refine Wc_exit ?_
    | refine thenQ_exit ?_
    | refine blkQ_hit ?_
    | refine blkQ_miss rfl ?_
    | refine Wc_skip ?_
    | refine Wc_label ?_
    | refine loopQ_exit ?_
    | refine loopQ_ret ?_
    | refine loopQ_normal ?_
    | (refine Wc_region (id := 27) ?_; intro K hK; refine Wl_lss (k' := ?_); (refine Wl_nil (hK _ _ ?_); clear hK K))
    | (refine Wc_region (id := 32) ?_; intro K hK; refine Wl_assign (k := ?_); (refine Wl_nil (hK _ _ ?_); clear hK K))
    | (refine Wc_cond (ht := (fun ht => ?_)) (hf := (fun ht => ?_)) <;> (try simp at ht) <;> (try (exfalso; omega))))
  refine Wc_loop (α := Nat) (fun k => [(0, .slice a m cc), (1, .int .i64 fr), (2, .int .i64 most), (7, .pointer (some ⟨st, 0, none⟩)), (9, .int .i64 i), (12, .slice b2 L2.length c2), (17, .int .i64 k)])
    (fun k => [StP st S]) (fun k => k ≤ i) (fun k => i - k) 0 (by omega) ⟨rfl, rfl, rfl, rfl, rfl, rfl, rfl, trivial⟩ (by (repeat (first | exact Ent.refl _ | exact Ent.nil | refine Ent.take (by (repeat (first | exact Out.head | apply Out.tail)); (first | done | fail)) ?_ | refine Ent.drop1 ?_))) ?_
  intro k G4 hk
  simp only [ov]
  by_cases hki : k < i
  · obtain ⟨p, rfl⟩ : ∃ p, a = some p := by
      cases a with
      | none => have := hsrc.nil rfl; omega
      | some p => exact ⟨p, rfl⟩
    have hkey := hkeys k hki
    obtain ⟨j', j1, j2, j3, j4⟩ := get_log hki hes
    have hkey2 := hkeys (j' - 1) (by omega)
    rw [j3] at hkey2
    have e1 : ((j' : Nat) : Int) - 1 = ((j' - 1 : Nat) : Int) := by omega
    repeat' (first
      | refine Wc_seq ?_
      | refine thenQ_normal ?_
      | refine Wc_cond_t (h := ?_)
      | refine Wc_cond_f (h := ?_)
      | refine Wc_ret ?_
      | refine thenQ_ret ?_
      | refine Wc_block ?_
      | refine blkQ_normal ?_
      | refine blkQ_ret ?_
      | refine Wc_exit ?_
      | refine thenQ_exit ?_
      | refine blkQ_hit ?_
      | refine blkQ_miss rfl ?_
      | refine Wc_skip ?_
      | refine Wc_label ?_
      | refine loopQ_exit ?_
      | refine loopQ_ret ?_
      | refine loopQ_normal ?_
      | (refine Wc_region (id := 33) ?_; intro K hK; refine Wl_move (k := ?_); refine Wl_move (k := ?_); refine Wl_lss (k' := ?_); (refine Wl_nil (hK _ _ ?_); clear hK K))
      | (refine Wc_region (id := 34) ?_; intro K hK; refine Wl_move (k := ?_); refine Wl_add (k' := ?_); refine Wl_assign (k := ?_); (refine Wl_nil (hK _ _ ?_); clear hK K))
      | (refine Wc_region (id := 35) ?_; intro K hK; refine Wl_move (k := ?_); refine Wl_move (k := ?_); refine Wl_move (k := ?_); ((refine Wl_index_any (k' := ?_))) <;> (((refine Wl_loadG (v := .string (keyAt ks k)) (j := k) (hq := by simp) (hr := hsrc.any) (hv := hkey) (k := ?_))) <;> (((refine Wl_call (hs := sget_spec st S (keyAt ks k)) (k := ?_); rintro v A' ⟨rfl, rfl⟩; simp only [List.cons_append, List.nil_append]; rw [j4]; simp only [VX.C])) <;> (((refine Wl_alloc (k := ?_); intro r18)) <;> (refine Wl_storeR (ho' := rfl) (k := ?_); (refine Wl_nil (hK _ _ ?_); clear hK K))))))
      | (refine Wc_draw (id := 36) (h := ?_); intro K hK; refine Wl_fieldAddr (k := ?_); refine Wl_load (k := ?_); refine Wl_not (k' := ?_); refine Wl_move (k := ?_); ((first | (refine Wl_guard (k := ?_); refine Wl_fieldAddr (k := ?_)) | refine Wl_gno (k := ?_) | ((refine Wl_split (yes := (fun ht => ?_)) (no := (fun ht => ?_)) <;> (try simp at ht) <;> (try (exfalso; omega))) <;> (first | (refine Wl_guard (k := ?_); refine Wl_fieldAddr (k := ?_)) | refine Wl_gno (k := ?_))))) <;> (((first | (refine Wl_guard (k := ?_); refine Wl_load (k := ?_)) | refine Wl_gno (k := ?_) | ((refine Wl_split (yes := (fun ht => ?_)) (no := (fun ht => ?_)) <;> (try simp at ht) <;> (try (exfalso; omega))) <;> (first | (refine Wl_guard (k := ?_); refine Wl_load (k := ?_)) | refine Wl_gno (k := ?_))))) <;> (((first | (refine Wl_guard (k := ?_); refine Wl_move (k := ?_)) | refine Wl_gno (k := ?_) | ((refine Wl_split (yes := (fun ht => ?_)) (no := (fun ht => ?_)) <;> (try simp at ht) <;> (try (exfalso; omega))) <;> (first | (refine Wl_guard (k := ?_); refine Wl_move (k := ?_)) | refine Wl_gno (k := ?_))))) <;> (((first | (refine Wl_guard (k := ?_); refine Wl_move (k := ?_)) | refine Wl_gno (k := ?_) | ((refine Wl_split (yes := (fun ht => ?_)) (no := (fun ht => ?_)) <;> (try simp at ht) <;> (try (exfalso; omega))) <;> (first | (refine Wl_guard (k := ?_); refine Wl_move (k := ?_)) | refine Wl_gno (k := ?_))))) <;> (((first | (refine Wl_guard (k := ?_); (refine Wl_index_any (k' := ?_))) | refine Wl_gno (k := ?_) | ((refine Wl_split (yes := (fun ht => ?_)) (no := (fun ht => ?_)) <;> (try simp at ht) <;> (try (exfalso; omega))) <;> (first | (refine Wl_guard (k := ?_); (refine Wl_index_any (k' := ?_))) | refine Wl_gno (k := ?_))))) <;> (((first | (refine Wl_guard (k := ?_); (refine Wl_loadG (v := .string (keyAt ks k)) (j := k) (hq := by simp) (hr := hsrc.any) (hv := hkey) (k := ?_))) | refine Wl_gno (k := ?_) | ((refine Wl_split (yes := (fun ht => ?_)) (no := (fun ht => ?_)) <;> (try simp at ht) <;> (try (exfalso; omega))) <;> (first | (refine Wl_guard (k := ?_); (refine Wl_loadG (v := .string (keyAt ks k)) (j := k) (hq := by simp) (hr := hsrc.any) (hv := hkey) (k := ?_))) | refine Wl_gno (k := ?_))))) <;> (((first | (refine Wl_guard (k := ?_); (refine Wl_str_neq (a := keyAt ks k) (b := keyAt ks k) (k' := ?_); rw [beq_self_eq_true])) | refine Wl_gno (k := ?_) | ((refine Wl_split (yes := (fun ht => ?_)) (no := (fun ht => ?_)) <;> (try simp at ht) <;> (try (exfalso; omega))) <;> (first | (refine Wl_guard (k := ?_); (refine Wl_str_neq (a := keyAt ks k) (b := keyAt ks k) (k' := ?_); rw [beq_self_eq_true])) | refine Wl_gno (k := ?_))))) <;> ((first | refine Wl_pick_t (k := ?_) | refine Wl_pick_f (k := ?_) | refine Wl_pick (k := ?_)); refine Wl_move (k := ?_); ((first | (refine Wl_guard (k := ?_); refine Wl_fieldAddr (k := ?_)) | refine Wl_gno (k := ?_) | ((refine Wl_split (yes := (fun ht => ?_)) (no := (fun ht => ?_)) <;> (try simp at ht) <;> (try (exfalso; omega))) <;> (first | (refine Wl_guard (k := ?_); refine Wl_fieldAddr (k := ?_)) | refine Wl_gno (k := ?_))))) <;> (((first | (refine Wl_guard (k := ?_); refine Wl_fieldAddr (k := ?_)) | refine Wl_gno (k := ?_) | ((refine Wl_split (yes := (fun ht => ?_)) (no := (fun ht => ?_)) <;> (try simp at ht) <;> (try (exfalso; omega))) <;> (first | (refine Wl_guard (k := ?_); refine Wl_fieldAddr (k := ?_)) | refine Wl_gno (k := ?_))))) <;> (((first | (refine Wl_guard (k := ?_); refine Wl_load (k := ?_)) | refine Wl_gno (k := ?_) | ((refine Wl_split (yes := (fun ht => ?_)) (no := (fun ht => ?_)) <;> (try simp at ht) <;> (try (exfalso; omega))) <;> (first | (refine Wl_guard (k := ?_); refine Wl_load (k := ?_)) | refine Wl_gno (k := ?_))))) <;> (((first | (refine Wl_guard (k := ?_); refine Wl_move (k := ?_)) | refine Wl_gno (k := ?_) | ((refine Wl_split (yes := (fun ht => ?_)) (no := (fun ht => ?_)) <;> (try simp at ht) <;> (try (exfalso; omega))) <;> (first | (refine Wl_guard (k := ?_); refine Wl_move (k := ?_)) | refine Wl_gno (k := ?_))))) <;> (((first | (refine Wl_guard (k := ?_); refine Wl_add (k' := ?_)) | refine Wl_gno (k := ?_) | ((refine Wl_split (yes := (fun ht => ?_)) (no := (fun ht => ?_)) <;> (try simp at ht) <;> (try (exfalso; omega))) <;> (first | (refine Wl_guard (k := ?_); refine Wl_add (k' := ?_)) | refine Wl_gno (k := ?_))))) <;> (((first | (refine Wl_guard (k := ?_); refine Wl_lss (k' := ?_)) | refine Wl_gno (k := ?_) | ((refine Wl_split (yes := (fun ht => ?_)) (no := (fun ht => ?_)) <;> (try simp at ht) <;> (try (exfalso; omega))) <;> (first | (refine Wl_guard (k := ?_); refine Wl_lss (k' := ?_)) | refine Wl_gno (k := ?_))))) <;> ((first | refine Wl_pick_t (k := ?_) | refine Wl_pick_f (k := ?_) | refine Wl_pick (k := ?_)); refine Wl_move (k := ?_); ((first | (refine Wl_guard (k := ?_); refine Wl_move (k := ?_)) | refine Wl_gno (k := ?_) | ((refine Wl_split (yes := (fun ht => ?_)) (no := (fun ht => ?_)) <;> (try simp at ht) <;> (try (exfalso; omega))) <;> (first | (refine Wl_guard (k := ?_); refine Wl_move (k := ?_)) | refine Wl_gno (k := ?_))))) <;> (((first | (refine Wl_guard (k := ?_); refine Wl_fieldAddr (k := ?_)) | refine Wl_gno (k := ?_) | ((refine Wl_split (yes := (fun ht => ?_)) (no := (fun ht => ?_)) <;> (try simp at ht) <;> (try (exfalso; omega))) <;> (first | (refine Wl_guard (k := ?_); refine Wl_fieldAddr (k := ?_)) | refine Wl_gno (k := ?_))))) <;> (((first | (refine Wl_guard (k := ?_); refine Wl_fieldAddr (k := ?_)) | refine Wl_gno (k := ?_) | ((refine Wl_split (yes := (fun ht => ?_)) (no := (fun ht => ?_)) <;> (try simp at ht) <;> (try (exfalso; omega))) <;> (first | (refine Wl_guard (k := ?_); refine Wl_fieldAddr (k := ?_)) | refine Wl_gno (k := ?_))))) <;> (((first | (refine Wl_guard (k := ?_); refine Wl_load (k := ?_)) | refine Wl_gno (k := ?_) | ((refine Wl_split (yes := (fun ht => ?_)) (no := (fun ht => ?_)) <;> (try simp at ht) <;> (try (exfalso; omega))) <;> (first | (refine Wl_guard (k := ?_); refine Wl_load (k := ?_)) | refine Wl_gno (k := ?_))))) <;> (((first | (refine Wl_guard (k := ?_); (refine Wl_sub (k' := ?_); rw [e1])) | refine Wl_gno (k := ?_) | ((refine Wl_split (yes := (fun ht => ?_)) (no := (fun ht => ?_)) <;> (try simp at ht) <;> (try (exfalso; omega))) <;> (first | (refine Wl_guard (k := ?_); (refine Wl_sub (k' := ?_); rw [e1])) | refine Wl_gno (k := ?_))))) <;> (((first | (refine Wl_guard (k := ?_); (refine Wl_index_any (k' := ?_))) | refine Wl_gno (k := ?_) | ((refine Wl_split (yes := (fun ht => ?_)) (no := (fun ht => ?_)) <;> (try simp at ht) <;> (try (exfalso; omega))) <;> (first | (refine Wl_guard (k := ?_); (refine Wl_index_any (k' := ?_))) | refine Wl_gno (k := ?_))))) <;> (((first | (refine Wl_guard (k := ?_); (refine Wl_loadG (v := .string (keyAt ks k)) (j := j' - 1) (hq := by simp) (hr := hsrc.any) (hv := hkey2) (k := ?_))) | refine Wl_gno (k := ?_) | ((refine Wl_split (yes := (fun ht => ?_)) (no := (fun ht => ?_)) <;> (try simp at ht) <;> (try (exfalso; omega))) <;> (first | (refine Wl_guard (k := ?_); (refine Wl_loadG (v := .string (keyAt ks k)) (j := j' - 1) (hq := by simp) (hr := hsrc.any) (hv := hkey2) (k := ?_))) | refine Wl_gno (k := ?_))))) <;> (((first | (refine Wl_guard (k := ?_); refine Wl_move (k := ?_)) | refine Wl_gno (k := ?_) | ((refine Wl_split (yes := (fun ht => ?_)) (no := (fun ht => ?_)) <;> (try simp at ht) <;> (try (exfalso; omega))) <;> (first | (refine Wl_guard (k := ?_); refine Wl_move (k := ?_)) | refine Wl_gno (k := ?_))))) <;> (((first | (refine Wl_guard (k := ?_); refine Wl_move (k := ?_)) | refine Wl_gno (k := ?_) | ((refine Wl_split (yes := (fun ht => ?_)) (no := (fun ht => ?_)) <;> (try simp at ht) <;> (try (exfalso; omega))) <;> (first | (refine Wl_guard (k := ?_); refine Wl_move (k := ?_)) | refine Wl_gno (k := ?_))))) <;> (((first | (refine Wl_guard (k := ?_); (refine Wl_index_any (k' := ?_))) | refine Wl_gno (k := ?_) | ((refine Wl_split (yes := (fun ht => ?_)) (no := (fun ht => ?_)) <;> (try simp at ht) <;> (try (exfalso; omega))) <;> (first | (refine Wl_guard (k := ?_); (refine Wl_index_any (k' := ?_))) | refine Wl_gno (k := ?_))))) <;> (((first | (refine Wl_guard (k := ?_); (refine Wl_loadG (v := .string (keyAt ks k)) (j := k) (hq := by simp) (hr := hsrc.any) (hv := hkey) (k := ?_))) | refine Wl_gno (k := ?_) | ((refine Wl_split (yes := (fun ht => ?_)) (no := (fun ht => ?_)) <;> (try simp at ht) <;> (try (exfalso; omega))) <;> (first | (refine Wl_guard (k := ?_); (refine Wl_loadG (v := .string (keyAt ks k)) (j := k) (hq := by simp) (hr := hsrc.any) (hv := hkey) (k := ?_))) | refine Wl_gno (k := ?_))))) <;> (((first | (refine Wl_guard (k := ?_); (refine Wl_str_neq (a := keyAt ks k) (b := keyAt ks k) (k' := ?_); rw [beq_self_eq_true])) | refine Wl_gno (k := ?_) | ((refine Wl_split (yes := (fun ht => ?_)) (no := (fun ht => ?_)) <;> (try simp at ht) <;> (try (exfalso; omega))) <;> (first | (refine Wl_guard (k := ?_); (refine Wl_str_neq (a := keyAt ks k) (b := keyAt ks k) (k' := ?_); rw [beq_self_eq_true])) | refine Wl_gno (k := ?_))))) <;> ((first | refine Wl_pick_t (k := ?_) | refine Wl_pick_f (k := ?_) | refine Wl_pick (k := ?_)); (refine Wl_nil (hK _ _ ?_); clear hK K)))))))))))))))))))))))))))
      | (refine Wc_region (id := 37) ?_; intro K hK; refine Wl_assign (k := ?_); (refine Wl_nil (hK _ _ ?_); clear hK K))
      | (refine Wc_cond (ht := (fun ht => ?_)) (hf := (fun ht => ?_)) <;> (try simp at ht) <;> (try (exfalso; omega))))
    all_goals exact ⟨k + 1, by omega, by omega, ⟨rfl, rfl, rfl, rfl, rfl, rfl, int_succ k, trivial⟩, (by (repeat (first | exact Ent.refl _ | exact Ent.nil | refine Ent.take (by (repeat (first | exact Out.head | apply Out.tail)); (first | done | fail)) ?_ | refine Ent.drop1 ?_)); (first | done | fail))⟩
  obtain rfl : k = i := by omega
  by_cases hc : fr < 1 ∨ (k : Int) < fr
  · have hz := f1 hc
    repeat' (first
      | refine Wc_seq ?_
      | refine thenQ_normal ?_
      | refine Wc_cond_t (h := ?_)
      | refine Wc_cond_f (h := ?_)
      | refine Wc_ret ?_
      | refine thenQ_ret ?_
      | refine Wc_block ?_
      | refine blkQ_normal ?_
      | refine blkQ_ret ?_
      | refine Wc_exit ?_
      | refine thenQ_exit ?_
      | refine blkQ_hit ?_
      | refine blkQ_miss rfl ?_
      | refine Wc_skip ?_
      | refine Wc_label ?_
      | refine loopQ_exit ?_
      | refine loopQ_ret ?_
      | refine loopQ_normal ?_
      | (refine Wc_region (id := 33) ?_; intro K hK; refine Wl_move (k := ?_); refine Wl_move (k := ?_); refine Wl_lss (k' := ?_); (refine Wl_nil (hK _ _ ?_); clear hK K))
      | (refine Wc_region (id := 38) ?_; intro K hK; refine Wl_move (k := ?_); refine Wl_lss (k' := ?_); refine Wl_move (k := ?_); ((first | (refine Wl_guard (k := ?_); refine Wl_move (k := ?_)) | refine Wl_gno (k := ?_) | ((refine Wl_split (yes := (fun ht => ?_)) (no := (fun ht => ?_)) <;> (try simp at ht) <;> (try (exfalso; omega))) <;> (first | (refine Wl_guard (k := ?_); refine Wl_move (k := ?_)) | refine Wl_gno (k := ?_))))) <;> (((first | (refine Wl_guard (k := ?_); refine Wl_move (k := ?_)) | refine Wl_gno (k := ?_) | ((refine Wl_split (yes := (fun ht => ?_)) (no := (fun ht => ?_)) <;> (try simp at ht) <;> (try (exfalso; omega))) <;> (first | (refine Wl_guard (k := ?_); refine Wl_move (k := ?_)) | refine Wl_gno (k := ?_))))) <;> (((first | (refine Wl_guard (k := ?_); refine Wl_gtr (k' := ?_)) | refine Wl_gno (k := ?_) | ((refine Wl_split (yes := (fun ht => ?_)) (no := (fun ht => ?_)) <;> (try simp at ht) <;> (try (exfalso; omega))) <;> (first | (refine Wl_guard (k := ?_); refine Wl_gtr (k' := ?_)) | refine Wl_gno (k := ?_))))) <;> ((first | refine Wl_pick_t (k := ?_) | refine Wl_pick_f (k := ?_) | refine Wl_pick (k := ?_)); (refine Wl_nil (hK _ _ ?_); clear hK K)))))
      | (refine Wc_region (id := 39) ?_; intro K hK; refine Wl_move (k := ?_); ((refine Wl_len_sl (k' := ?_); rw [hz])) <;> (refine Wl_eql (k' := ?_); refine Wl_assign (k := ?_); (refine Wl_nil (hK _ _ ?_); clear hK K)))
      | (refine Wc_cond (ht := (fun ht => ?_)) (hf := (fun ht => ?_)) <;> (try simp at ht) <;> (try (exfalso; omega))))
    all_goals exact ⟨Or.inr rfl, .bool true, [], Ent.nil, res1 rfl rfl, rfl, rfl⟩
  · have hz := f2 hc
    repeat' (first
      | refine Wc_seq ?_
      | refine thenQ_normal ?_
      | refine Wc_cond_t (h := ?_)
      | refine Wc_cond_f (h := ?_)
      | refine Wc_ret ?_
      | refine thenQ_ret ?_
      | refine Wc_block ?_
      | refine blkQ_normal ?_
      | refine blkQ_ret ?_
      | refine Wc_exit ?_
      | refine thenQ_exit ?_
      | refine blkQ_hit ?_
      | refine blkQ_miss rfl ?_
      | refine Wc_skip ?_
      | refine Wc_label ?_
      | refine loopQ_exit ?_
      | refine loopQ_ret ?_
      | refine loopQ_normal ?_
      | (refine Wc_region (id := 33) ?_; intro K hK; refine Wl_move (k := ?_); refine Wl_move (k := ?_); refine Wl_lss (k' := ?_); (refine Wl_nil (hK _ _ ?_); clear hK K))
      | (refine Wc_region (id := 38) ?_; intro K hK; refine Wl_move (k := ?_); refine Wl_lss (k' := ?_); refine Wl_move (k := ?_); ((first | (refine Wl_guard (k := ?_); refine Wl_move (k := ?_)) | refine Wl_gno (k := ?_) | ((refine Wl_split (yes := (fun ht => ?_)) (no := (fun ht => ?_)) <;> (try simp at ht) <;> (try (exfalso; omega))) <;> (first | (refine Wl_guard (k := ?_); refine Wl_move (k := ?_)) | refine Wl_gno (k := ?_))))) <;> (((first | (refine Wl_guard (k := ?_); refine Wl_move (k := ?_)) | refine Wl_gno (k := ?_) | ((refine Wl_split (yes := (fun ht => ?_)) (no := (fun ht => ?_)) <;> (try simp at ht) <;> (try (exfalso; omega))) <;> (first | (refine Wl_guard (k := ?_); refine Wl_move (k := ?_)) | refine Wl_gno (k := ?_))))) <;> (((first | (refine Wl_guard (k := ?_); refine Wl_gtr (k' := ?_)) | refine Wl_gno (k := ?_) | ((refine Wl_split (yes := (fun ht => ?_)) (no := (fun ht => ?_)) <;> (try simp at ht) <;> (try (exfalso; omega))) <;> (first | (refine Wl_guard (k := ?_); refine Wl_gtr (k' := ?_)) | refine Wl_gno (k := ?_))))) <;> ((first | refine Wl_pick_t (k := ?_) | refine Wl_pick_f (k := ?_) | refine Wl_pick (k := ?_)); (refine Wl_nil (hK _ _ ?_); clear hK K)))))
      | (refine Wc_region (id := 40) ?_; intro K hK; refine Wl_move (k := ?_); refine Wl_len_sl (k' := ?_); refine Wl_move (k := ?_); refine Wl_move (k := ?_); refine Wl_move (k := ?_); refine Wl_sub (k' := ?_); refine Wl_add (k' := ?_); refine Wl_min (k' := ?_); refine Wl_max (k' := ?_); ((refine Wl_eql (k' := ?_); rw [show decide ((L2.length : Int) = max 0 (min most ((k : Int) - fr + 1))) = true from decide_eq_true hz])) <;> (refine Wl_assign (k := ?_); (refine Wl_nil (hK _ _ ?_); clear hK K)))
      | (refine Wc_cond (ht := (fun ht => ?_)) (hf := (fun ht => ?_)) <;> (try simp at ht) <;> (try (exfalso; omega))))
    all_goals exact ⟨Or.inr rfl, .bool true, [], Ent.nil, res1 rfl rfl, rfl, rfl⟩
end specs
end Go.Proofs.Ytnoggejkkjngjaa
