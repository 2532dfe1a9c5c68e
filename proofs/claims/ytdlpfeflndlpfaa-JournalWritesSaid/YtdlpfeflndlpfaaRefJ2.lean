/- The document's journal: a record's sectors. Conditions: sizes far from the kind's edges. -/
import Derived.Test.YtdlpfeflndlpfaaRefJ1
set_option maxHeartbeats 8000000
set_option linter.unusedVariables false
set_option linter.unusedSimpArgs false
set_option maxRecDepth 100000
namespace Go.Proofs.Ytdlpfeflndlpfaa
open Go Go.Sl
attribute [local irreducible] Go.Sl.Wl Go.Sl.Wc Go.Sl.thenQ Go.Sl.blkQ Go.Sl.loopQ Go.Sl.Fspec

/-- A record's sectors. -/
def secsL (lap number : Nat) (r : List UInt8) : List (List UInt8) := (List.range (partsN r.length)).map (secF lap number r)
theorem drop_chunk (r : List UInt8) (k : Nat) : (r.drop (k * 47)).drop (chunk r k).length = r.drop ((k + 1) * 47) := by
  rw [chunk_length, List.drop_drop]
  by_cases h : 47 ≤ r.length - k * 47
  · rw [Nat.min_eq_left h]; congr 1; omega
  · rw [List.drop_of_length_le (by omega), List.drop_of_length_le (by omega)]
def secP (lap number i n : Nat) (b : List UInt8) : List UInt8 := bL lap 4 ++ bL number 4 ++ bL i 2 ++ bL n 2 ++ bL b.length 1 ++ b
theorem secP_length (lap number i n : Nat) (b : List UInt8) : (secP lap number i n b).length = 13 + b.length := by simp [secP, bL_length]; omega
theorem secP_full (lap number i n : Nat) (b : List UInt8) : (secP lap number i n b ++ List.replicate (47 - b.length) 0) ++ bL lap 4 = secL lap number i n b := by
  simp [secP, secL, bL, be4, be2]
section specs
variable {B : Base}
theorem rsectors_spec (A0 : List Asn) (lap number : Nat) (rc : List UInt8) (hl : lap ≤ 9223372036854775807) (hn : number ≤ 9223372036854775807) (hr : rc.length ≤ 1000000) :
    Fspec Try.prog B 46 #[.int .i64 lap, .int .i64 number, .string (bytesOf rc)] A0
      (fun v A' => ∃ a c, v = .slice a (secsL lap number rc).length c ∧ A' = own a (secsL lap number rc).length c 1 ((secsL lap number rc).map strV) 9 :: A0) := by
  have hP : partsN rc.length = (rc.length - 1) / 47 + 1 := rfl
  have hbs := bytes_size rc
  refine spec_of (args := [_, _, _]) Try.func46 rfl rfl rfl ?_
  repeat' (first
    | refine Wc_seq ?_
    | refine thenQ_normal ?_
    | refine Wc_cond_t (h := ?_)
    | refine Wc_cond_f (h := ?_)
    | refine Wc_ret ?_
    | refine thenQ_ret ?_
    | refine Wc_block ?_
    | refine blkQ_normal ?_
    | refine blkQ_ret ?_
    | refine Wc_exit ?_
    | refine thenQ_exit ?_
    | refine blkQ_hit ?_
    | refine blkQ_miss rfl ?_
    | refine Wc_skip ?_
    | refine Wc_label ?_
    | refine loopQ_exit ?_
    | refine loopQ_ret ?_
    | refine loopQ_normal ?_
    | (refine Wc_region (id := 0) ?_; intro K hK; refine Wl_assign (k := ?_); (refine Wl_nil (hK _ _ ?_); clear hK K))
    | (refine Wc_region (id := 1) ?_; intro K hK; (refine Wl_lit0o (k := ?_); intro r); refine Wl_assign (k := ?_); (refine Wl_nil (hK _ _ ?_); clear hK K))
    | (refine Wc_region (id := 2) ?_; intro K hK; refine Wl_move (k := ?_); ((refine Wl_len_str (k' := ?_); rw [bytes_size])) <;> (((refine Wl_call (hs := rparts_spec B rc.length (by omega)) (k := ?_); rintro v A' ⟨rfl, rfl⟩; simp only [List.cons_append, List.nil_append])) <;> (refine Wl_assign (k := ?_); (refine Wl_nil (hK _ _ ?_); clear hK K))))
    | (refine Wc_region (id := 3) ?_; intro K hK; refine Wl_assign (k := ?_); (refine Wl_nil (hK _ _ ?_); clear hK K))
    | (refine Wc_cond (ht := (fun ht => ?_)) (hf := (fun ht => ?_)) <;> (try simp at ht) <;> (try (exfalso; omega))))
  refine Wc_loop (α := Nat × Option Addr × Nat) (fun x => [(0, .int .i64 lap), (1, .int .i64 number), (2, .string (bytesOf (rc.drop (x.1 * 47)))), (7, .slice x.2.1 x.1 x.2.2), (8, .int .i64 (partsN rc.length)), (9, .int .i64 (x.1 + 1 : Nat))])
    (fun x => own x.2.1 x.1 x.2.2 1 (((List.range x.1).map (secF lap number rc)).map strV) 9 :: A0) (fun x => x.1 ≤ partsN rc.length) (fun x => partsN rc.length - x.1) (0, some ⟨r, 0, none⟩, 0)
    (Nat.zero_le _) ⟨rfl, rfl, by simp; rfl, rfl, rfl, rfl, trivial⟩ (Ent.refl _) ?_
  rintro ⟨k, oa, oc⟩ G hk
  simp only at hk
  simp only [ov]
  by_cases hlt : k < partsN rc.length
  · have hcl := chunk_length rc k
    have hdl : (rc.drop (k * 47)).length = rc.length - k * 47 := List.length_drop
    have hsz := bytes_size (rc.drop (k * 47))
    have hbu : (chunk rc k).length ≤ 47 := by omega
    have hbsz := bytes_size (chunk rc k)
    repeat' (first
      | (refine Wc_cutR (k := 7) (α := Unit) (fun _ => [(0, .int .i64 lap), (1, .int .i64 number), (2, .string (bytesOf (rc.drop (k * 47)))), (7, .slice oa k oc), (8, .int .i64 (partsN rc.length)), (9, .int .i64 (k + 1 : Nat)), (10, .string (bytesOf (chunk rc k)))]) (fun _ => own oa k oc 1 (((List.range k).map (secF lap number rc)).map strV) 9 :: A0) (fun _ => True) ?_ ?_)
      | refine Wc_seq ?_
      | refine thenQ_normal ?_
      | refine Wc_cond_t (h := ?_)
      | refine Wc_cond_f (h := ?_)
      | refine Wc_ret ?_
      | refine thenQ_ret ?_
      | refine Wc_block ?_
      | refine blkQ_normal ?_
      | refine blkQ_ret ?_
      | refine Wc_exit ?_
      | refine thenQ_exit ?_
      | refine blkQ_hit ?_
      | refine blkQ_miss rfl ?_
      | refine Wc_skip ?_
      | refine Wc_label ?_
      | refine loopQ_exit ?_
      | refine loopQ_ret ?_
      | refine loopQ_normal ?_
      | (refine Wc_region (id := 4) ?_; intro K hK; refine Wl_move (k := ?_); refine Wl_move (k := ?_); refine Wl_leq (k' := ?_); (refine Wl_nil (hK _ _ ?_); clear hK K))
      | (refine Wc_region (id := 6) ?_; intro K hK; refine Wl_move (k := ?_); refine Wl_assign (k := ?_); (refine Wl_nil (hK _ _ ?_); clear hK K))
      | (refine Wc_region (id := 7) ?_; intro K hK; refine Wl_move (k := ?_); ((refine Wl_len_str (k' := ?_); rw [hsz, hdl])) <;> (refine Wl_gtr (k' := ?_); (refine Wl_nil (hK _ _ ?_); clear hK K)))
      | (refine Wc_region (id := 8) ?_; intro K hK; refine Wl_move (k := ?_); ((refine Wl_slice_str0 (h := 47) (hhc := by omega) (k' := ?_); rw [bytes_cut, List.drop_zero])) <;> (refine Wl_assign (k := ?_); (refine Wl_nil (hK _ _ ?_); clear hK K)))
      | (refine Wc_cond (ht := (fun ht => ?_)) (hf := (fun ht => ?_)) <;> (try simp at ht) <;> (try (exfalso; omega))))
    · exact ⟨(), trivial, ⟨rfl, rfl, rfl, rfl, rfl, rfl, rfl, trivial⟩, Ent.refl _⟩
    · have hc : chunk rc k = rc.drop (k * 47) := by unfold chunk; exact List.take_of_length_le (by omega)
      exact ⟨(), trivial, ⟨rfl, rfl, rfl, rfl, rfl, rfl, by rw [hc]; rfl, trivial⟩, Ent.refl _⟩
    intro _ G2 _
    simp only [ov]
    obtain ⟨Pp, hPp⟩ : ∃ Pp, secP lap number (k + 1) (partsN rc.length) (chunk rc k) = Pp := ⟨_, rfl⟩
    have hPl : Pp.length = 13 + (chunk rc k).length := by rw [← hPp]; exact secP_length _ _ _ _ _
    repeat' (first
      | refine Wc_seq ?_
      | refine thenQ_normal ?_
      | refine Wc_cond_t (h := ?_)
      | refine Wc_cond_f (h := ?_)
      | refine Wc_ret ?_
      | refine thenQ_ret ?_
      | refine Wc_block ?_
      | refine blkQ_normal ?_
      | refine blkQ_ret ?_
      | refine Wc_exit ?_
      | refine thenQ_exit ?_
      | refine blkQ_hit ?_
      | refine blkQ_miss rfl ?_
      | refine Wc_skip ?_
      | refine Wc_label ?_
      | refine loopQ_exit ?_
      | refine loopQ_ret ?_
      | refine loopQ_normal ?_
      | (refine Wc_region (id := 9) ?_; intro K hK; refine Wl_move (k := ?_); refine Wl_move (k := ?_); ((refine Wl_len_str (k' := ?_); rw [hbsz])) <;> (((refine Wl_slice_str (l := (chunk rc k).length) (h := (rc.drop (k * 47)).length) (hlo := ⟨_, rfl⟩) (hhi := hsz.symm) (hlh := by omega) (hhc := by omega) (k' := ?_); rw [bytes_cut, List.take_length, drop_chunk])) <;> (refine Wl_assign (k := ?_); (refine Wl_nil (hK _ _ ?_); clear hK K))))
      | (refine Wc_region (id := 10) ?_; intro K hK; refine Wl_move (k := ?_); ((refine Wl_call (hs := rbytes_spec _ lap 4 hl (by omega)) (k := ?_); rintro v A' ⟨rfl, rfl⟩; simp only [List.cons_append, List.nil_append])) <;> (refine Wl_move (k := ?_); ((refine Wl_call (hs := rbytes_spec _ number 4 hn (by omega)) (k := ?_); rintro v A' ⟨rfl, rfl⟩; simp only [List.cons_append, List.nil_append])) <;> (((refine Wl_str_add (hl := by simp only [bytes_size, bL_length]; omega) (k' := ?_); rw [bytes_app])) <;> (refine Wl_move (k := ?_); ((refine Wl_call (hs := rbytes_spec _ (k + 1) 2 (by omega) (by omega)) (k := ?_); rintro v A' ⟨rfl, rfl⟩; simp only [List.cons_append, List.nil_append])) <;> (((refine Wl_str_add (hl := by simp only [bytes_size, bL_length, List.length_append]; omega) (k' := ?_); rw [bytes_app])) <;> (refine Wl_move (k := ?_); ((refine Wl_call (hs := rbytes_spec _ (partsN rc.length) 2 (by omega) (by omega)) (k := ?_); rintro v A' ⟨rfl, rfl⟩; simp only [List.cons_append, List.nil_append])) <;> (((refine Wl_str_add (hl := by simp only [bytes_size, bL_length, List.length_append]; omega) (k' := ?_); rw [bytes_app])) <;> (refine Wl_move (k := ?_); ((refine Wl_len_str (k' := ?_); rw [hbsz])) <;> (((refine Wl_call (hs := rbytes_spec _ (chunk rc k).length 1 (by omega) (by omega)) (k := ?_); rintro v A' ⟨rfl, rfl⟩; simp only [List.cons_append, List.nil_append])) <;> (((refine Wl_str_add (hl := by simp only [bytes_size, bL_length, List.length_append]; omega) (k' := ?_); rw [bytes_app])) <;> (refine Wl_move (k := ?_); ((refine Wl_str_add (hl := by simp only [bytes_size, bL_length, List.length_append]; omega) (k' := ?_); rw [bytes_app, show bL lap 4 ++ bL number 4 ++ bL (k + 1) 2 ++ bL (partsN rc.length) 2 ++ bL (chunk rc k).length 1 ++ chunk rc k = Pp from hPp])) <;> (refine Wl_assign (k := ?_); (refine Wl_nil (hK _ _ ?_); clear hK K)))))))))))))
      | (refine Wc_cond (ht := (fun ht => ?_)) (hf := (fun ht => ?_)) <;> (try simp at ht) <;> (try (exfalso; omega))))
    refine Wc_loop (α := Nat) (fun p => [(0, .int .i64 lap), (1, .int .i64 number), (2, .string (bytesOf (rc.drop ((k + 1) * 47)))), (7, .slice oa k oc), (8, .int .i64 (partsN rc.length)), (9, .int .i64 (k + 1 : Nat)), (11, .string (bytesOf (Pp ++ List.replicate p 0)))])
      (fun p => own oa k oc 1 (((List.range k).map (secF lap number rc)).map strV) 9 :: A0) (fun p => p ≤ 47 - (chunk rc k).length) (fun p => 47 - (chunk rc k).length - p) 0 (Nat.zero_le _) ⟨rfl, rfl, rfl, rfl, rfl, rfl, by simp; rfl, trivial⟩ (Ent.refl _) ?_
    intro p G3 hp
    simp only [ov]
    have hps := bytes_size (Pp ++ List.replicate p (0 : UInt8))
    have hpl : (Pp ++ List.replicate p (0 : UInt8)).length = 13 + (chunk rc k).length + p := by simp [hPl]
    by_cases hpt : p < 47 - (chunk rc k).length
    · repeat' (first
        | refine Wc_seq ?_
        | refine thenQ_normal ?_
        | refine Wc_cond_t (h := ?_)
        | refine Wc_cond_f (h := ?_)
        | refine Wc_ret ?_
        | refine thenQ_ret ?_
        | refine Wc_block ?_
        | refine blkQ_normal ?_
        | refine blkQ_ret ?_
        | refine Wc_exit ?_
        | refine thenQ_exit ?_
        | refine blkQ_hit ?_
        | refine blkQ_miss rfl ?_
        | refine Wc_skip ?_
        | refine Wc_label ?_
        | refine loopQ_exit ?_
        | refine loopQ_ret ?_
        | refine loopQ_normal ?_
        | (refine Wc_region (id := 11) ?_; intro K hK; refine Wl_move (k := ?_); ((refine Wl_len_str (k' := ?_); rw [hps, hpl])) <;> (refine Wl_lss (k' := ?_); (refine Wl_nil (hK _ _ ?_); clear hK K)))
        | (refine Wc_region (id := 12) ?_; intro K hK; refine Wl_move (k := ?_); ((refine Wl_str_add (b := bytesOf [0]) (hl := by rw [hps, hpl, bytes_size]; simp; omega) (k' := ?_); rw [bytes_app, List.append_assoc, ← List.replicate_succ'])) <;> (refine Wl_assign (k := ?_); (refine Wl_nil (hK _ _ ?_); clear hK K)))
        | (refine Wc_cond (ht := (fun ht => ?_)) (hf := (fun ht => ?_)) <;> (try simp at ht) <;> (try (exfalso; omega))))
      exact ⟨p + 1, by omega, by omega, ⟨rfl, rfl, rfl, rfl, rfl, rfl, rfl, trivial⟩, Ent.refl _⟩
    · obtain rfl : p = 47 - (chunk rc k).length := by omega
      repeat' (first
        | refine Wc_seq ?_
        | refine thenQ_normal ?_
        | refine Wc_cond_t (h := ?_)
        | refine Wc_cond_f (h := ?_)
        | refine Wc_ret ?_
        | refine thenQ_ret ?_
        | refine Wc_block ?_
        | refine blkQ_normal ?_
        | refine blkQ_ret ?_
        | refine Wc_exit ?_
        | refine thenQ_exit ?_
        | refine blkQ_hit ?_
        | refine blkQ_miss rfl ?_
        | refine Wc_skip ?_
        | refine Wc_label ?_
        | refine loopQ_exit ?_
        | refine loopQ_ret ?_
        | refine loopQ_normal ?_
        | (refine Wc_region (id := 5) ?_; intro K hK; refine Wl_move (k := ?_); refine Wl_add (k' := ?_); refine Wl_assign (k := ?_); (refine Wl_nil (hK _ _ ?_); clear hK K))
        | (refine Wc_region (id := 11) ?_; intro K hK; refine Wl_move (k := ?_); ((refine Wl_len_str (k' := ?_); rw [hps, hpl])) <;> (refine Wl_lss (k' := ?_); (refine Wl_nil (hK _ _ ?_); clear hK K)))
        | (refine Wc_region (id := 13) ?_; intro K hK; refine Wl_move (k := ?_); refine Wl_move (k := ?_); refine Wl_move (k := ?_); ((refine Wl_call (hs := rbytes_spec _ lap 4 hl (by omega)) (k := ?_); rintro v A' ⟨rfl, rfl⟩; simp only [List.cons_append, List.nil_append])) <;> (((refine Wl_str_add (hl := by rw [hps, hpl, bytes_size, bL_length]; omega) (k' := ?_); rw [bytes_app, ← hPp, secP_full])) <;> ((refine Wl_lit1 (k := ?_); intro r); ((refine Wl_append1 (hvl := by rfl) (hvc := by rfl) (hbd := by omega) (k := ?_); intro oa' oc')) <;> (refine Wl_assign (k := ?_); (refine Wl_nil (hK _ _ ?_); clear hK K)))))
        | (refine Wc_cond (ht := (fun ht => ?_)) (hf := (fun ht => ?_)) <;> (try simp at ht) <;> (try (exfalso; omega))))
      refine ⟨(k + 1, oa', oc'), by simp only; omega, by simp only; omega, ⟨rfl, rfl, rfl, rfl, rfl, int_succ (k + 1), trivial⟩, ?_⟩
      simp only
      rw [List.range_succ, List.map_append, List.map_append]
      exact Ent.cons _ (Ent.drop _)
  · obtain rfl : k = partsN rc.length := by omega
    have hsl : (secsL lap number rc).length = partsN rc.length := by simp [secsL]
    repeat' (first
      | refine Wc_seq ?_
      | refine thenQ_normal ?_
      | refine Wc_cond_t (h := ?_)
      | refine Wc_cond_f (h := ?_)
      | refine Wc_ret ?_
      | refine thenQ_ret ?_
      | refine Wc_block ?_
      | refine blkQ_normal ?_
      | refine blkQ_ret ?_
      | refine Wc_exit ?_
      | refine thenQ_exit ?_
      | refine blkQ_hit ?_
      | refine blkQ_miss rfl ?_
      | refine Wc_skip ?_
      | refine Wc_label ?_
      | refine loopQ_exit ?_
      | refine loopQ_ret ?_
      | refine loopQ_normal ?_
      | (refine Wc_region (id := 4) ?_; intro K hK; refine Wl_move (k := ?_); refine Wl_move (k := ?_); refine Wl_leq (k' := ?_); (refine Wl_nil (hK _ _ ?_); clear hK K))
      | (refine Wc_region (id := 14) ?_; intro K hK; refine Wl_move (k := ?_); refine Wl_assign (k := ?_); (refine Wl_nil (hK _ _ ?_); clear hK K))
      | (refine Wc_cond (ht := (fun ht => ?_)) (hf := (fun ht => ?_)) <;> (try simp at ht) <;> (try (exfalso; omega))))
    exact ⟨Or.inr rfl, _, _, Ent.refl _, res1 rfl rfl, oa, oc, by rw [hsl]; rfl, by rw [hsl]; rfl⟩
end specs
end Go.Proofs.Ytdlpfeflndlpfaa
