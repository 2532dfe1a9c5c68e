/- The document's journal: opening; the next lap. Conditions: sizes far from the kind's edges. -/
import Derived.Test.YtdlpfeflndlpfaaRefJ3
set_option maxHeartbeats 8000000
set_option linter.unusedVariables false
set_option linter.unusedSimpArgs false
set_option maxRecDepth 100000
namespace Go.Proofs.Ytdlpfeflndlpfaa
open Go Go.Sl
attribute [local irreducible] Go.Sl.Wl Go.Sl.Wc Go.Sl.thenQ Go.Sl.blkQ Go.Sl.loopQ Go.Sl.Fspec

theorem num4_take (s : List UInt8) (h : s.length = 64) : numL (s.take 4) = num4 s := by
  rw [numL_num4 _ (by simp; omega)]
  unfold num4
  simp [List.getD_eq_getElem?_getD, List.getElem?_take]
theorem rowsR_half (S : Nat → List UInt8) (size base : Nat) : rowsR S size base (num4 (S base)) = (halfF S size base).1 := by
  unfold rowsR halfF; split <;> rfl
section specs
variable {B : Base}
theorem ropen_spec (a : Option Addr) (n c : Nat) (S : Nat → List UInt8) (hn4 : 4 ≤ n) (hn : n ≤ 10000) (h64 : ∀ i, i < n → (S i).length = 64) :
    Fspec Try.prog B 44 #[.slice a n c] [own a n c 1 (((List.range n).map S).map strV) 9]
      (fun v A' => ∃ a' c', v = .agg #[.slice a' (openN S (n / 2) 2).1.length c', .int .i64 (openN S (n / 2) 2).2.2, .int .i64 (openN S (n / 2) 2).2.1] ∧
        A' = [own a' (openN S (n / 2) 2).1.length c' 1 ((openN S (n / 2) 2).1.map strV) 9, own a n c 1 (((List.range n).map S).map strV) 9]) := by
  have hO0 : openN S (n / 2) 0 = ([], 0, -1) := rfl
  have hOs : ∀ h, openN S (n / 2) (h + 1) = if 0 < (halfF S (n / 2) (h * (n / 2))).1.length ∧ (openN S (n / 2) h).2.1 < num4 (S (h * (n / 2))) then ((halfF S (n / 2) (h * (n / 2))).1, num4 (S (h * (n / 2))), (h : Int)) else openN S (n / 2) h := fun _ => rfl
  generalize openN S (n / 2) = ON at *
  have hTg : ∀ i, i < n → ((List.range n).map S)[i]? = some (S i) := fun i hi => by rw [List.getElem?_map, List.getElem?_range hi]; rfl
  generalize (List.range n).map S = T at *
  refine spec_of (args := [_]) Try.func44 rfl rfl rfl ?_
  repeat' (first
    | refine Wc_seq ?_
    | refine thenQ_normal ?_
    | refine Wc_cond_t (h := ?_)
    | refine Wc_cond_f (h := ?_)
    | refine Wc_ret ?_
    | refine thenQ_ret ?_
    | refine Wc_block ?_
    | refine blkQ_normal ?_
    | refine blkQ_ret ?_
    | refine Wc_exit ?_
    | refine thenQ_exit ?_
    | refine blkQ_hit ?_
    | refine blkQ_miss rfl ?_
    | refine Wc_skip ?_
    | refine Wc_label ?_
    | refine loopQ_exit ?_
    | refine loopQ_ret ?_
    | refine loopQ_normal ?_
    | (refine Wc_region (id := 0) ?_; intro K hK; ((refine Wl_alloc (k := ?_); intro r)) <;> ((refine Wl_nil (hK _ _ ?_); clear hK K)))
    | (refine Wc_region (id := 1) ?_; intro K hK; refine Wl_move (k := ?_); refine Wl_len_sl (k' := ?_); ((refine Wl_quo (k' := ?_); rw [half2 n (by omega)])) <;> (refine Wl_assign (k := ?_); (refine Wl_nil (hK _ _ ?_); clear hK K)))
    | (refine Wc_region (id := 2) ?_; intro K hK; refine Wl_build (k := ?_); ((refine Wl_alloc (k := ?_); intro r_1)) <;> (refine Wl_storeR (ho' := rfl) (k := ?_); (refine Wl_nil (hK _ _ ?_); clear hK K)))
    | (refine Wc_region (id := 3) ?_; intro K hK; refine Wl_assign (k := ?_); (refine Wl_nil (hK _ _ ?_); clear hK K))
    | (refine Wc_cond (ht := (fun ht => ?_)) (hf := (fun ht => ?_)) <;> (try simp at ht) <;> (try (exfalso; omega))))
  refine Wc_ownF (a := a) (h := (fun hf => ?_))
  obtain ⟨p, rfl⟩ := hf.some (by omega)
  refine Wc_loop (α := Nat × Option Addr × Nat) (fun x => [(0, .slice (some p) n c), (2, .pointer (some ⟨r, 0, none⟩)), (3, .int .i64 (n / 2 : Nat)), (4, .pointer (some ⟨r_1, 0, none⟩)), (5, .int .i64 x.1)])
    (fun x => [cb r_1 [.slice x.2.1 (ON x.1).1.length x.2.2, .int .i64 (ON x.1).2.2, .int .i64 (ON x.1).2.1] 72, own x.2.1 (ON x.1).1.length x.2.2 1 ((ON x.1).1.map strV) 9, cb r [.slice none 0 0, .int .i64 0, .int .i64 0] 72, own (some p) n c 1 (T.map strV) 9])
    (fun x => x.1 ≤ 2) (fun x => 2 - x.1) (0, none, 0) (by simp) ⟨rfl, rfl, rfl, rfl, rfl, trivial⟩ ((own_nil 1 9 _).trans (by simp only [hO0, List.map_nil, List.length_nil]; (repeat (first | exact Ent.refl _ | exact Ent.nil | refine Ent.take (by (repeat (first | exact Out.head | apply Out.tail)); (first | done | fail)) ?_ | refine Ent.drop1 ?_)))) ?_
  rintro ⟨h, la, lc⟩ G h2
  simp only at h2
  simp only [ov]
  by_cases hlt : h < 2
  · obtain ⟨O, hO⟩ : ∃ O, ON h = O := ⟨_, rfl⟩
    rw [hO]
    have hst : ON (h + 1) = if 0 < (halfF S (n / 2) (h * (n / 2))).1.length ∧ O.2.1 < num4 (S (h * (n / 2))) then ((halfF S (n / 2) (h * (n / 2))).1, num4 (S (h * (n / 2))), (h : Int)) else O := by
      rw [hOs, hO]
    have hhn : h * (n / 2) + n / 2 ≤ n := by
      have : h = 0 ∨ h = 1 := by omega
      rcases this with rfl | rfl <;> omega
    have hrh := rowsR_half S (n / 2) (h * (n / 2))
    obtain ⟨R, hR⟩ : ∃ R, (halfF S (n / 2) (h * (n / 2))).1 = R := ⟨_, rfl⟩
    obtain ⟨s, hs⟩ : ∃ s, S (h * (n / 2)) = s := ⟨_, rfl⟩
    obtain ⟨b, hb⟩ : ∃ b, h * (n / 2) = b := ⟨_, rfl⟩
    have hs64 : s.length = 64 := by rw [← hs]; exact h64 _ (by omega)
    have hsz := bytes_size s
    rw [hR] at hrh hst
    rw [hs] at hrh hst
    rw [hb] at hhn hrh hs
    have hmul : ((h : Int) * ((n / 2 : Nat) : Int)) = (b : Int) := by rw [← Int.natCast_mul, hb]
    have hvb : (T.map strV)[b]? = some (strV s) := by rw [List.getElem?_map, hTg b (by omega), hs]; rfl
    have hlap := num4_lt s
    have hcut : (((T.map strV).drop (b * 1)).take ((b + n / 2 - b) * 1)) = ((T.drop b).take (n / 2)).map strV := by
      rw [Nat.mul_one, Nat.mul_one, Nat.add_sub_cancel_left, List.map_take, List.map_drop]
    have hrec := rrecords_spec (B := B) (own (some p) n c 1 (T.map strV) 9) (slAdd (some p) c b 1) (n / 2) (c - b) ((T.drop b).take (n / 2)) S b (num4 s) hlap
      (by have := (hf.rd (P := Try.prog) (B := B) (A := [own (some p) n c 1 (T.map strV) 9]) (M := []) (by (repeat (first | exact Out.head | apply Out.tail)); (first | done | fail))).cut (l := b) (h := b + n / 2) (by omega) (by omega); rw [hcut, Nat.add_sub_cancel_left] at this; exact this)
      (fun i hi => by rw [List.getElem?_take, if_pos hi, List.getElem?_drop]; exact hTg _ (by omega)) (fun i hi => h64 _ (by omega)) (by omega)
    rw [hrh] at hrec
    repeat' (first
      | refine Wc_seq ?_
      | refine thenQ_normal ?_
      | refine Wc_cond_t (h := ?_)
      | refine Wc_cond_f (h := ?_)
      | refine Wc_ret ?_
      | refine thenQ_ret ?_
      | refine Wc_block ?_
      | refine blkQ_normal ?_
      | refine blkQ_ret ?_
      | refine Wc_exit ?_
      | refine thenQ_exit ?_
      | refine blkQ_hit ?_
      | refine blkQ_miss rfl ?_
      | refine Wc_skip ?_
      | refine Wc_label ?_
      | refine loopQ_exit ?_
      | refine loopQ_ret ?_
      | refine loopQ_normal ?_
      | (refine Wc_region (id := 4) ?_; intro K hK; refine Wl_move (k := ?_); refine Wl_lss (k' := ?_); (refine Wl_nil (hK _ _ ?_); clear hK K))
      | (refine Wc_region (id := 5) ?_; intro K hK; refine Wl_move (k := ?_); refine Wl_add (k' := ?_); refine Wl_assign (k := ?_); (refine Wl_nil (hK _ _ ?_); clear hK K))
      | (refine Wc_region (id := 6) ?_; intro K hK; refine Wl_move (k := ?_); refine Wl_move (k := ?_); refine Wl_move (k := ?_); ((refine Wl_mul (hf := fits_i64 (by rw [hmul]; omega)) (k' := ?_); rw [hmul])) <;> (((refine Wl_index_any (k' := ?_))) <;> (((refine Wl_loadG (v := strV s) (j := b) (hq := by rw [Int.toNat_natCast, Nat.mul_one]) (hr := hf.rd (by (repeat (first | exact Out.head | apply Out.tail)); (first | done | fail))) (hv := hvb) (k := ?_))) <;> (((refine Wl_slice_str0 (s := bytesOf s) (h := 4) (hhi := ⟨_, rfl⟩) (hhc := by omega) (k' := ?_); rw [bytes_cut, List.drop_zero])) <;> (((refine Wl_call (hs := number_spec [] (s.take 4) (by simp; omega)) (k := ?_); rintro v A' ⟨rfl, rfl⟩; simp only [List.cons_append, List.nil_append]; rw [num4_take s hs64])) <;> (refine Wl_assign (k := ?_); (refine Wl_nil (hK _ _ ?_); clear hK K)))))))
      | (refine Wc_region (id := 7) ?_; intro K hK; refine Wl_move (k := ?_); refine Wl_move (k := ?_); refine Wl_move (k := ?_); ((refine Wl_mul (hf := fits_i64 (by rw [hmul]; omega)) (k' := ?_); rw [hmul])) <;> (refine Wl_move (k := ?_); refine Wl_move (k := ?_); ((refine Wl_mul (hf := fits_i64 (by rw [hmul]; omega)) (k' := ?_); rw [hmul])) <;> (refine Wl_move (k := ?_); ((refine Wl_add (k' := ?_); rw [show (b : Int) + ((n / 2 : Nat) : Int) = ((b + n / 2 : Nat) : Int) by omega])) <;> (((refine Wl_slice_any (l := b) (h := b + n / 2) (hlo := ⟨_, rfl⟩) (hhi := ⟨_, rfl⟩) (hhc := by have := hf.e2; omega) (k' := ?_); rw [Nat.add_sub_cancel_left])) <;> (refine Wl_move (k := ?_); ((refine Wl_call (hs := hrec) (k := ?_); rintro v A' ⟨ra, rc, rfl, rfl⟩; simp only [List.cons_append, List.nil_append])) <;> (refine Wl_assign (k := ?_); (refine Wl_nil (hK _ _ ?_); clear hK K)))))))
      | (refine Wc_region (id := 8) ?_; intro K hK; refine Wl_move (k := ?_); refine Wl_len_sl (k' := ?_); refine Wl_gtr (k' := ?_); refine Wl_move (k := ?_); ((first | (refine Wl_guard (k := ?_); refine Wl_move (k := ?_)) | refine Wl_gno (k := ?_) | ((refine Wl_split (yes := (fun ht => ?_)) (no := (fun ht => ?_)) <;> (try simp at ht) <;> (try (exfalso; omega))) <;> (first | (refine Wl_guard (k := ?_); refine Wl_move (k := ?_)) | refine Wl_gno (k := ?_))))) <;> (((first | (refine Wl_guard (k := ?_); refine Wl_fieldAddr (k := ?_)) | refine Wl_gno (k := ?_) | ((refine Wl_split (yes := (fun ht => ?_)) (no := (fun ht => ?_)) <;> (try simp at ht) <;> (try (exfalso; omega))) <;> (first | (refine Wl_guard (k := ?_); refine Wl_fieldAddr (k := ?_)) | refine Wl_gno (k := ?_))))) <;> (((first | (refine Wl_guard (k := ?_); refine Wl_load (k := ?_)) | refine Wl_gno (k := ?_) | ((refine Wl_split (yes := (fun ht => ?_)) (no := (fun ht => ?_)) <;> (try simp at ht) <;> (try (exfalso; omega))) <;> (first | (refine Wl_guard (k := ?_); refine Wl_load (k := ?_)) | refine Wl_gno (k := ?_))))) <;> (((first | (refine Wl_guard (k := ?_); refine Wl_gtr (k' := ?_)) | refine Wl_gno (k := ?_) | ((refine Wl_split (yes := (fun ht => ?_)) (no := (fun ht => ?_)) <;> (try simp at ht) <;> (try (exfalso; omega))) <;> (first | (refine Wl_guard (k := ?_); refine Wl_gtr (k' := ?_)) | refine Wl_gno (k := ?_))))) <;> ((first | refine Wl_pick_t (k := ?_) | refine Wl_pick_f (k := ?_) | refine Wl_pick (k := ?_)); (refine Wl_nil (hK _ _ ?_); clear hK K))))))
      | (refine Wc_region (id := 9) ?_; intro K hK; refine Wl_move (k := ?_); refine Wl_move (k := ?_); refine Wl_move (k := ?_); refine Wl_build (k := ?_); refine Wl_storeR (ho' := rfl) (k := ?_); (refine Wl_nil (hK _ _ ?_); clear hK K))
      | (refine Wc_cond (ht := (fun ht => ?_)) (hf := (fun ht => ?_)) <;> (try simp at ht) <;> (try (exfalso; omega))))
    · have hc : 0 < R.length ∧ O.2.1 < num4 s := ⟨by omega, by omega⟩
      rw [if_pos hc] at hst
      refine ⟨(h + 1, ra, rc), by simp only; omega, by simp only; omega, ⟨rfl, rfl, rfl, rfl, int_succ h, trivial⟩, ?_⟩
      simp only [hst]
      (repeat (first | exact Ent.refl _ | exact Ent.nil | refine Ent.take (by (repeat (first | exact Out.head | apply Out.tail)); (first | done | fail)) ?_ | refine Ent.drop1 ?_))
    · rw [if_neg (fun hc => by first | (have := hc.1; have := hc.2; omega) | (have h0 := hc.1; rw [ht] at h0; simp at h0))] at hst
      refine ⟨(h + 1, la, lc), by simp only; omega, by simp only; omega, ⟨rfl, rfl, rfl, rfl, int_succ h, trivial⟩, ?_⟩
      simp only [hst]
      (repeat (first | exact Ent.refl _ | exact Ent.nil | refine Ent.take (by (repeat (first | exact Out.head | apply Out.tail)); (first | done | fail)) ?_ | refine Ent.drop1 ?_))
    · rw [if_neg (fun hc => by first | (have := hc.1; have := hc.2; omega) | (have h0 := hc.1; rw [ht] at h0; simp at h0))] at hst
      refine ⟨(h + 1, la, lc), by simp only; omega, by simp only; omega, ⟨rfl, rfl, rfl, rfl, int_succ h, trivial⟩, ?_⟩
      simp only [hst]
      (repeat (first | exact Ent.refl _ | exact Ent.nil | refine Ent.take (by (repeat (first | exact Out.head | apply Out.tail)); (first | done | fail)) ?_ | refine Ent.drop1 ?_))
  · obtain rfl : h = 2 := by omega
    repeat' (first
      | refine Wc_seq ?_
      | refine thenQ_normal ?_
      | refine Wc_cond_t (h := ?_)
      | refine Wc_cond_f (h := ?_)
      | refine Wc_ret ?_
      | refine thenQ_ret ?_
      | refine Wc_block ?_
      | refine blkQ_normal ?_
      | refine blkQ_ret ?_
      | refine Wc_exit ?_
      | refine thenQ_exit ?_
      | refine blkQ_hit ?_
      | refine blkQ_miss rfl ?_
      | refine Wc_skip ?_
      | refine Wc_label ?_
      | refine loopQ_exit ?_
      | refine loopQ_ret ?_
      | refine loopQ_normal ?_
      | (refine Wc_region (id := 4) ?_; intro K hK; refine Wl_move (k := ?_); refine Wl_lss (k' := ?_); (refine Wl_nil (hK _ _ ?_); clear hK K))
      | (refine Wc_region (id := 10) ?_; intro K hK; refine Wl_loadR (k := ?_); refine Wl_storeR (ho' := rfl) (k := ?_); (refine Wl_nil (hK _ _ ?_); clear hK K))
      | (refine Wc_cond (ht := (fun ht => ?_)) (hf := (fun ht => ?_)) <;> (try simp at ht) <;> (try (exfalso; omega))))
    exact ⟨Or.inr rfl, _, [own la (ON 2).1.length lc 1 ((ON 2).1.map strV) 9, own (some p) n c 1 (T.map strV) 9], (by (repeat (first | exact Ent.refl _ | exact Ent.nil | refine Ent.take (by (repeat (first | exact Out.head | apply Out.tail)); (first | done | fail)) ?_ | refine Ent.drop1 ?_))), resG rfl (by (repeat (first | exact ResL.nil | apply ResL.tmp (by (repeat (first | exact Ev.here | exact Ev.const | exact Ev.arg rfl | apply Ev.there rfl | exact Ev.none rfl | exact Ev.func | exact Ev.var)); (first | done | fail)) | apply ResL.agg (by (repeat (first | exact Ev.here | exact Ev.const | exact Ev.arg rfl | apply Ev.there rfl | exact Ev.none rfl | exact Ev.func | exact Ev.var)); (first | done | fail)) (by (repeat (first | exact Rd.head | exact Rd.base (by assumption) | apply Rd.tail)); (first | done | fail)) (by (repeat (first | exact TakeR.nil | apply TakeR.take | apply TakeR.skip)); (first | done | fail)) | apply ResL.cell (by (repeat (first | exact Ev.here | exact Ev.const | exact Ev.arg rfl | apply Ev.there rfl | exact Ev.none rfl | exact Ev.func | exact Ev.var)); (first | done | fail)) (by (repeat (first | exact Rd.head | exact Rd.base (by assumption) | apply Rd.tail)); (first | done | fail)) rfl)); (first | done | fail)) rfl, la, lc, rfl, rfl⟩
theorem rnext_spec (a : Option Addr) (n c : Nat) (S : Nat → List UInt8) (hn4 : 4 ≤ n) (hn : n ≤ 10000) (h64 : ∀ i, i < n → (S i).length = 64) :
    Fspec Try.prog B 47 #[.slice a n c] [own a n c 1 (((List.range n).map S).map strV) 9]
      (fun v A' => v = .int .i64 (topN S (2 * (n / 2)) + 1 : Nat) ∧ A' = [own a n c 1 (((List.range n).map S).map strV) 9]) := by
  have hTg : ∀ i, i < n → ((List.range n).map S)[i]? = some (S i) := fun i hi => by rw [List.getElem?_map, List.getElem?_range hi]; rfl
  generalize (List.range n).map S = T at *
  refine spec_of (args := [_]) Try.func47 rfl rfl rfl ?_
  repeat' (first
    | refine Wc_seq ?_
    | refine thenQ_normal ?_
    | refine Wc_cond_t (h := ?_)
    | refine Wc_cond_f (h := ?_)
    | refine Wc_ret ?_
    | refine thenQ_ret ?_
    | refine Wc_block ?_
    | refine blkQ_normal ?_
    | refine blkQ_ret ?_
    | refine Wc_exit ?_
    | refine thenQ_exit ?_
    | refine blkQ_hit ?_
    | refine blkQ_miss rfl ?_
    | refine Wc_skip ?_
    | refine Wc_label ?_
    | refine loopQ_exit ?_
    | refine loopQ_ret ?_
    | refine loopQ_normal ?_
    | (refine Wc_region (id := 0) ?_; intro K hK; refine Wl_assign (k := ?_); (refine Wl_nil (hK _ _ ?_); clear hK K))
    | (refine Wc_region (id := 1) ?_; intro K hK; refine Wl_assign (k := ?_); (refine Wl_nil (hK _ _ ?_); clear hK K))
    | (refine Wc_region (id := 2) ?_; intro K hK; refine Wl_move (k := ?_); refine Wl_len_sl (k' := ?_); ((refine Wl_quo (k' := ?_); rw [half2 n (by omega)])) <;> (refine Wl_assign (k := ?_); (refine Wl_nil (hK _ _ ?_); clear hK K)))
    | (refine Wc_region (id := 3) ?_; intro K hK; refine Wl_assign (k := ?_); (refine Wl_nil (hK _ _ ?_); clear hK K))
    | (refine Wc_cond (ht := (fun ht => ?_)) (hf := (fun ht => ?_)) <;> (try simp at ht) <;> (try (exfalso; omega))))
  refine Wc_ownF (a := a) (h := (fun hf => ?_))
  obtain ⟨p, rfl⟩ := hf.some (by omega)
  refine Wc_loop (α := Nat) (fun i => [(0, .slice (some p) n c), (3, .int .i64 (topN S i)), (4, .int .i64 (n / 2 : Nat)), (5, .int .i64 i)]) (fun i => [own (some p) n c 1 (T.map strV) 9]) (fun i => i ≤ 2 * (n / 2)) (fun i => 2 * (n / 2) - i) 0 (by omega) ⟨rfl, rfl, rfl, rfl, trivial⟩ (Ent.refl _) ?_
  intro i G hi
  simp only [ov]
  have ht := topN_lt S i
  by_cases hlt : i < 2 * (n / 2)
  · obtain ⟨s, hs⟩ : ∃ s, S i = s := ⟨_, rfl⟩
    have hs64 : s.length = 64 := by rw [← hs]; exact h64 _ (by omega)
    have hsz := bytes_size s
    have htn : topN S (i + 1) = max (topN S i) (num4 (s.drop 60)) := by rw [← hs]; rfl
    have hvb : (T.map strV)[i]? = some (strV s) := by rw [List.getElem?_map, hTg i (by omega), hs]; rfl
    have hd4 : (s.drop 60).length = 4 := by simp; omega
    repeat' (first
      | refine Wc_seq ?_
      | refine thenQ_normal ?_
      | refine Wc_cond_t (h := ?_)
      | refine Wc_cond_f (h := ?_)
      | refine Wc_ret ?_
      | refine thenQ_ret ?_
      | refine Wc_block ?_
      | refine blkQ_normal ?_
      | refine blkQ_ret ?_
      | refine Wc_exit ?_
      | refine thenQ_exit ?_
      | refine blkQ_hit ?_
      | refine blkQ_miss rfl ?_
      | refine Wc_skip ?_
      | refine Wc_label ?_
      | refine loopQ_exit ?_
      | refine loopQ_ret ?_
      | refine loopQ_normal ?_
      | (refine Wc_region (id := 4) ?_; intro K hK; refine Wl_move (k := ?_); refine Wl_move (k := ?_); refine Wl_mul (k' := ?_); refine Wl_lss (k' := ?_); (refine Wl_nil (hK _ _ ?_); clear hK K))
      | (refine Wc_region (id := 5) ?_; intro K hK; refine Wl_move (k := ?_); refine Wl_add (k' := ?_); refine Wl_assign (k := ?_); (refine Wl_nil (hK _ _ ?_); clear hK K))
      | (refine Wc_region (id := 6) ?_; intro K hK; refine Wl_move (k := ?_); refine Wl_move (k := ?_); ((refine Wl_index_any (k' := ?_))) <;> (((refine Wl_loadG (v := strV s) (j := i) (hq := by rw [Int.toNat_natCast, Nat.mul_one]) (hr := hf.rd (by (repeat (first | exact Out.head | apply Out.tail)); (first | done | fail))) (hv := hvb) (k := ?_))) <;> (((refine Wl_slice_str (s := bytesOf s) (l := 60) (h := s.length) (hlo := ⟨_, rfl⟩) (hhi := hsz.symm) (hlh := by omega) (hhc := by omega) (k' := ?_); rw [bytes_cut, List.take_length])) <;> (((refine Wl_call (hs := number_spec [] (s.drop 60) (by omega)) (k := ?_); rintro v A' ⟨rfl, rfl⟩; simp only [List.cons_append, List.nil_append]; rw [numL_num4 _ hd4])) <;> (refine Wl_assign (k := ?_); (refine Wl_nil (hK _ _ ?_); clear hK K))))))
      | (refine Wc_region (id := 7) ?_; intro K hK; refine Wl_move (k := ?_); refine Wl_move (k := ?_); refine Wl_gtr (k' := ?_); (refine Wl_nil (hK _ _ ?_); clear hK K))
      | (refine Wc_region (id := 8) ?_; intro K hK; refine Wl_move (k := ?_); refine Wl_assign (k := ?_); (refine Wl_nil (hK _ _ ?_); clear hK K))
      | (refine Wc_cond (ht := (fun ht => ?_)) (hf := (fun ht => ?_)) <;> (try simp at ht) <;> (try (exfalso; omega))))
    · exact ⟨i + 1, by omega, by omega, ⟨rfl, by rw [htn]; exact congrArg (Value.int .i64) (by omega), rfl, int_succ i, trivial⟩, Ent.refl _⟩
    · exact ⟨i + 1, by omega, by omega, ⟨rfl, by rw [htn]; exact congrArg (Value.int .i64) (by omega), rfl, int_succ i, trivial⟩, Ent.refl _⟩
  · obtain rfl : i = 2 * (n / 2) := by omega
    repeat' (first
      | refine Wc_seq ?_
      | refine thenQ_normal ?_
      | refine Wc_cond_t (h := ?_)
      | refine Wc_cond_f (h := ?_)
      | refine Wc_ret ?_
      | refine thenQ_ret ?_
      | refine Wc_block ?_
      | refine blkQ_normal ?_
      | refine blkQ_ret ?_
      | refine Wc_exit ?_
      | refine thenQ_exit ?_
      | refine blkQ_hit ?_
      | refine blkQ_miss rfl ?_
      | refine Wc_skip ?_
      | refine Wc_label ?_
      | refine loopQ_exit ?_
      | refine loopQ_ret ?_
      | refine loopQ_normal ?_
      | (refine Wc_region (id := 4) ?_; intro K hK; refine Wl_move (k := ?_); refine Wl_move (k := ?_); refine Wl_mul (k' := ?_); refine Wl_lss (k' := ?_); (refine Wl_nil (hK _ _ ?_); clear hK K))
      | (refine Wc_region (id := 9) ?_; intro K hK; refine Wl_move (k := ?_); refine Wl_add (k' := ?_); refine Wl_assign (k := ?_); (refine Wl_nil (hK _ _ ?_); clear hK K))
      | (refine Wc_cond (ht := (fun ht => ?_)) (hf := (fun ht => ?_)) <;> (try simp at ht) <;> (try (exfalso; omega))))
    exact ⟨Or.inr rfl, _, _, Ent.refl _, res1 rfl rfl, rfl, rfl⟩
end specs
end Go.Proofs.Ytdlpfeflndlpfaa
