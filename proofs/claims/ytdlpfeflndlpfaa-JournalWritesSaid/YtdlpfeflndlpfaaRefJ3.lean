/- The document's journal: the records of a half. Conditions: sizes far from the kind's edges. -/
import Derived.Test.YtdlpfeflndlpfaaRefJ2
import Derived.Test.YtdlpfeflndlpfaaPlainJ
set_option maxHeartbeats 8000000
set_option linter.unusedVariables false
set_option linter.unusedSimpArgs false
set_option maxRecDepth 100000
namespace Go.Proofs.Ytdlpfeflndlpfaa
open Go Go.Sl
attribute [local irreducible] Go.Sl.Wl Go.Sl.Wc Go.Sl.thenQ Go.Sl.blkQ Go.Sl.loopQ Go.Sl.Fspec

theorem numL_2 (s : List UInt8) (h : s.length = 64) : numL ((s.take 12).drop 10) = of10 s := by
  have e : (s.take 12).drop 10 = [s.getD 10 0, s.getD 11 0] := by
    apply List.ext_getElem?
    intro i
    rw [List.getElem?_drop, List.getElem?_take]
    match i with
    | 0 => simp [List.getD_eq_getElem?_getD, List.getElem?_eq_getElem (show 10 < s.length by omega)]
    | 1 => simp [List.getD_eq_getElem?_getD, List.getElem?_eq_getElem (show 11 < s.length by omega)]
    | i + 2 => rw [if_neg (by omega)]; simp
  rw [e]
  show 256 * (256 * 0 + (s.getD 10 0).toNat) + (s.getD 11 0).toNat = of10 s
  unfold of10; omega
theorem numL_1 (s : List UInt8) (h : s.length = 64) : numL ((s.take 13).drop 12) = by12 s := by
  have e : (s.take 13).drop 12 = [s.getD 12 0] := by
    apply List.ext_getElem?
    intro i
    rw [List.getElem?_drop, List.getElem?_take]
    match i with
    | 0 => simp [List.getD_eq_getElem?_getD, List.getElem?_eq_getElem (show 12 < s.length by omega)]
    | i + 1 => rw [if_neg (by omega)]; simp
  rw [e]
  show 256 * 0 + (s.getD 12 0).toNat = by12 s
  unfold by12; omega
theorem catP_len (S : Nat → List UInt8) (base at_ : Nat) : ∀ i, (catP S base at_ i).length ≤ 47 * i
  | 0 => by simp [catP]
  | i + 1 => by
    have := catP_len S base at_ i
    simp only [catP, List.length_append, List.length_take]; omega
theorem secsL_len (lap k : Nat) (r : List UInt8) : (secsL lap k r).length = partsN r.length := by simp [secsL]
theorem secsL_get (lap k : Nat) (r : List UInt8) (i : Nat) (h : i < partsN r.length) : (secsL lap k r)[i]? = some (secF lap k r i) := by
  unfold secsL
  rw [List.getElem?_map, List.getElem?_range h]; rfl
/-- The records of a half, as they are listed. -/
def rowsR (S : Nat → List UInt8) (size base lap : Nat) : List (List UInt8) := if 0 < lap then (recsF S size base lap size 0 []).1 else []
/-- So many parts are as they should be. -/
def okN (S : Nat → List UInt8) (base at_ lap k : Nat) (r : List UInt8) (i : Nat) : Bool := decide (∀ j, j < i → secF lap k r j = S (base + at_ + j))
theorem okN_succ (S : Nat → List UInt8) (base at_ lap k : Nat) (r : List UInt8) (i : Nat) : okN S base at_ lap k r (i + 1) = (okN S base at_ lap k r i && decide (secF lap k r i = S (base + at_ + i))) := by
  unfold okN
  rw [← Bool.decide_and]
  congr 1
  apply propext
  constructor
  · intro h; exact ⟨fun j hj => h j (by omega), h i (by omega)⟩
  · rintro ⟨h1, h2⟩ j hj
    by_cases e : j = i
    · rw [e]; exact h2
    · exact h1 j (by omega)
section specs
variable {B : Base}
theorem rrecords_spec (X : Asn) (a : Option Addr) (m c : Nat) (T : List (List UInt8)) (S : Nat → List UInt8) (base lap : Nat) (hlap : lap < 4294967296) (hT : RdS Try.prog B [X] 1 a m c (T.map strV))
    (hS : ∀ i, i < m → T[i]? = some (S (base + i))) (h64 : ∀ i, i < m → (S (base + i)).length = 64) (hm : m ≤ 10000) :
    Fspec Try.prog B 69 #[.slice a m c, .int .i64 lap] [X]
      (fun v A' => ∃ a' c', v = .slice a' (rowsR S m base lap).length c' ∧ A' = [own a' (rowsR S m base lap).length c' 1 ((rowsR S m base lap).map strV) 9, X]) := by
  obtain ⟨R, hR⟩ : ∃ R, rowsR S m base lap = R := ⟨_, rfl⟩
  rw [hR]
  refine spec_of (args := [_, _]) Try.func69 rfl rfl rfl ?_
  repeat' (first
    | refine Wc_seq ?_
    | refine thenQ_normal ?_
    | refine Wc_cond_t (h := ?_)
    | refine Wc_cond_f (h := ?_)
    | refine Wc_ret ?_
    | refine thenQ_ret ?_
    | refine Wc_block ?_
    | refine blkQ_normal ?_
    | refine blkQ_ret ?_
    | refine Wc_exit ?_
    | refine thenQ_exit ?_
    | refine blkQ_hit ?_
    | refine blkQ_miss rfl ?_
    | refine Wc_skip ?_
    | refine Wc_label ?_
    | refine loopQ_exit ?_
    | refine loopQ_ret ?_
    | refine loopQ_normal ?_
    | (refine Wc_region (id := 0) ?_; intro K hK; refine Wl_assign (k := ?_); (refine Wl_nil (hK _ _ ?_); clear hK K))
    | (refine Wc_region (id := 1) ?_; intro K hK; (refine Wl_lit0o (k := ?_); intro r); refine Wl_assign (k := ?_); (refine Wl_nil (hK _ _ ?_); clear hK K))
    | (refine Wc_region (id := 2) ?_; intro K hK; refine Wl_assign (k := ?_); (refine Wl_nil (hK _ _ ?_); clear hK K))
    | (refine Wc_cond (ht := (fun ht => ?_)) (hf := (fun ht => ?_)) <;> (try simp at ht) <;> (try (exfalso; omega))))
  unfold rowsR at hR
  by_cases hl0 : lap = 0
  · rw [if_neg (by omega)] at hR
    subst hR hl0
    refine Wc_loop0 ?_
    repeat' (first
      | refine Wc_seq ?_
      | refine thenQ_normal ?_
      | refine Wc_cond_t (h := ?_)
      | refine Wc_cond_f (h := ?_)
      | refine Wc_ret ?_
      | refine thenQ_ret ?_
      | refine Wc_block ?_
      | refine blkQ_normal ?_
      | refine blkQ_ret ?_
      | refine Wc_exit ?_
      | refine thenQ_exit ?_
      | refine blkQ_hit ?_
      | refine blkQ_miss rfl ?_
      | refine Wc_skip ?_
      | refine Wc_label ?_
      | refine loopQ_exit ?_
      | refine loopQ_ret ?_
      | refine loopQ_normal ?_
      | (refine Wc_region (id := 3) ?_; intro K hK; refine Wl_move (k := ?_); refine Wl_gtr (k' := ?_); refine Wl_move (k := ?_); ((first | (refine Wl_guard (k := ?_); refine Wl_move (k := ?_)) | refine Wl_gno (k := ?_) | ((refine Wl_split (yes := (fun ht => ?_)) (no := (fun ht => ?_)) <;> (try simp at ht) <;> (try (exfalso; omega))) <;> (first | (refine Wl_guard (k := ?_); refine Wl_move (k := ?_)) | refine Wl_gno (k := ?_))))) <;> (((first | (refine Wl_guard (k := ?_); refine Wl_move (k := ?_)) | refine Wl_gno (k := ?_) | ((refine Wl_split (yes := (fun ht => ?_)) (no := (fun ht => ?_)) <;> (try simp at ht) <;> (try (exfalso; omega))) <;> (first | (refine Wl_guard (k := ?_); refine Wl_move (k := ?_)) | refine Wl_gno (k := ?_))))) <;> (((first | (refine Wl_guard (k := ?_); refine Wl_len_sl (k' := ?_)) | refine Wl_gno (k := ?_) | ((refine Wl_split (yes := (fun ht => ?_)) (no := (fun ht => ?_)) <;> (try simp at ht) <;> (try (exfalso; omega))) <;> (first | (refine Wl_guard (k := ?_); refine Wl_len_sl (k' := ?_)) | refine Wl_gno (k := ?_))))) <;> (((first | (refine Wl_guard (k := ?_); refine Wl_lss (k' := ?_)) | refine Wl_gno (k := ?_) | ((refine Wl_split (yes := (fun ht => ?_)) (no := (fun ht => ?_)) <;> (try simp at ht) <;> (try (exfalso; omega))) <;> (first | (refine Wl_guard (k := ?_); refine Wl_lss (k' := ?_)) | refine Wl_gno (k := ?_))))) <;> ((first | refine Wl_pick_t (k := ?_) | refine Wl_pick_f (k := ?_) | refine Wl_pick (k := ?_)); (refine Wl_nil (hK _ _ ?_); clear hK K))))))
      | (refine Wc_region (id := 25) ?_; intro K hK; refine Wl_move (k := ?_); refine Wl_assign (k := ?_); (refine Wl_nil (hK _ _ ?_); clear hK K))
      | (refine Wc_cond (ht := (fun ht => ?_)) (hf := (fun ht => ?_)) <;> (try simp at ht) <;> (try (exfalso; omega))))
    exact ⟨Or.inr rfl, _, _, Ent.refl _, res1 rfl rfl, _, _, rfl, rfl⟩
  rw [if_pos (by omega)] at hR
  refine Wc_loop (α := Nat × List (List UInt8) × Option Addr × Nat) (fun x => [(0, .slice a m c), (1, .int .i64 lap), (5, .slice x.2.2.1 x.2.1.length x.2.2.2), (6, .int .i64 x.1)])
    (fun x => [own x.2.2.1 x.2.1.length x.2.2.2 1 (x.2.1.map strV) 9, X]) (fun x => x.1 ≤ m ∧ x.2.1.length ≤ x.1 ∧ ∃ fuel, m - x.1 ≤ fuel ∧ (recsF S m base lap fuel x.1 x.2.1).1 = R) (fun x => m - x.1) (0, [], some ⟨r, 0, none⟩, 0)
    ⟨by simp, by simp, m, by simp, hR⟩ ⟨rfl, rfl, rfl, rfl, trivial⟩ (Ent.refl _) ?_
  rintro ⟨at_, out, oa, oc⟩ G ⟨h1, h2, fuel, h3, h4⟩
  simp only at h1 h2 h3 h4
  simp only [ov]
  by_cases hlt : at_ < m
  · obtain ⟨b, rfl⟩ : ∃ b, a = some b := by
      cases a with
      | none => have := hT.nil rfl; omega
      | some p => exact ⟨p, rfl⟩
    have hv : ∀ i, i < m → (T.map strV)[i]? = some (strV (S (base + i))) := fun i hi => by rw [List.getElem?_map, hS i hi]; rfl
    obtain ⟨s, hs⟩ : ∃ s, S (base + at_) = s := ⟨_, rfl⟩
    have hs64 : s.length = 64 := by rw [← hs]; exact h64 at_ hlt
    have hsz := bytes_size s
    obtain ⟨n, hn⟩ : ∃ n, of10 s = n := ⟨_, rfl⟩
    have hno : ¬ RecOk S m base lap out.length at_ n → out = R := fun hq => by
      have hq' := recF_no (S := S) (size := m) (base := base) (lap := lap) (k := out.length) h1 (by rw [hs, hn]; exact hq) (m - at_ + 1)
      rw [← h4]
      cases fuel with
      | zero => rfl
      | succ f =>
        simp only [recsF] <;> (split <;> first | rfl | (rename_i r at' hr; exact absurd hr (hq' _ _)))
    have hyes : RecOk S m base lap out.length at_ n → ∃ f, m - (at_ + n) ≤ f ∧ (recsF S m base lap f (at_ + n) (out ++ [catP S base at_ n])).1 = R := fun hq => by
      have hq' := recF_yes (S := S) (size := m) (base := base) (lap := lap) (k := out.length) hlap h1 (by rw [hs, hn]; exact hq)
      rw [hs, hn] at hq'
      have h1n := hq.1
      cases fuel with
      | zero => omega
      | succ f => exact ⟨f, by omega, by rw [← h4]; simp only [recsF]; rw [hq']⟩
    repeat' (first
      | refine Wc_seq ?_
      | refine thenQ_normal ?_
      | refine Wc_cond_t (h := ?_)
      | refine Wc_cond_f (h := ?_)
      | refine Wc_ret ?_
      | refine thenQ_ret ?_
      | refine Wc_block ?_
      | refine blkQ_normal ?_
      | refine blkQ_ret ?_
      | refine Wc_exit ?_
      | refine thenQ_exit ?_
      | refine blkQ_hit ?_
      | refine blkQ_miss rfl ?_
      | refine Wc_skip ?_
      | refine Wc_label ?_
      | refine loopQ_exit ?_
      | refine loopQ_ret ?_
      | refine loopQ_normal ?_
      | (refine Wc_region (id := 3) ?_; intro K hK; refine Wl_move (k := ?_); refine Wl_gtr (k' := ?_); refine Wl_move (k := ?_); ((first | (refine Wl_guard (k := ?_); refine Wl_move (k := ?_)) | refine Wl_gno (k := ?_) | ((refine Wl_split (yes := (fun ht => ?_)) (no := (fun ht => ?_)) <;> (try simp at ht) <;> (try (exfalso; omega))) <;> (first | (refine Wl_guard (k := ?_); refine Wl_move (k := ?_)) | refine Wl_gno (k := ?_))))) <;> (((first | (refine Wl_guard (k := ?_); refine Wl_move (k := ?_)) | refine Wl_gno (k := ?_) | ((refine Wl_split (yes := (fun ht => ?_)) (no := (fun ht => ?_)) <;> (try simp at ht) <;> (try (exfalso; omega))) <;> (first | (refine Wl_guard (k := ?_); refine Wl_move (k := ?_)) | refine Wl_gno (k := ?_))))) <;> (((first | (refine Wl_guard (k := ?_); refine Wl_len_sl (k' := ?_)) | refine Wl_gno (k := ?_) | ((refine Wl_split (yes := (fun ht => ?_)) (no := (fun ht => ?_)) <;> (try simp at ht) <;> (try (exfalso; omega))) <;> (first | (refine Wl_guard (k := ?_); refine Wl_len_sl (k' := ?_)) | refine Wl_gno (k := ?_))))) <;> (((first | (refine Wl_guard (k := ?_); refine Wl_lss (k' := ?_)) | refine Wl_gno (k := ?_) | ((refine Wl_split (yes := (fun ht => ?_)) (no := (fun ht => ?_)) <;> (try simp at ht) <;> (try (exfalso; omega))) <;> (first | (refine Wl_guard (k := ?_); refine Wl_lss (k' := ?_)) | refine Wl_gno (k := ?_))))) <;> ((first | refine Wl_pick_t (k := ?_) | refine Wl_pick_f (k := ?_) | refine Wl_pick (k := ?_)); (refine Wl_nil (hK _ _ ?_); clear hK K))))))
      | (refine Wc_region (id := 4) ?_; intro K hK; refine Wl_move (k := ?_); refine Wl_move (k := ?_); ((refine Wl_index_any (k' := ?_))) <;> (((refine Wl_loadG (v := strV s) (j := at_) (hq := by rw [Int.toNat_natCast, Nat.mul_one]) (hr := hT.tail) (hv := by rw [hv at_ hlt, hs]) (k := ?_))) <;> (((refine Wl_slice_str (s := bytesOf s) (l := 10) (h := 12) (hlo := ⟨_, rfl⟩) (hhi := ⟨_, rfl⟩) (hlh := by omega) (hhc := by omega) (k' := ?_); rw [bytes_cut])) <;> (((refine Wl_call (hs := number_spec [] ((s.take 12).drop 10) (by simp; omega)) (k := ?_); rintro v A' ⟨rfl, rfl⟩; simp only [List.cons_append, List.nil_append]; rw [numL_2 s hs64, hn])) <;> (refine Wl_assign (k := ?_); (refine Wl_nil (hK _ _ ?_); clear hK K))))))
      | (refine Wc_region (id := 5) ?_; intro K hK; refine Wl_move (k := ?_); refine Wl_lss (k' := ?_); refine Wl_move (k := ?_); ((first | (refine Wl_guard (k := ?_); refine Wl_move (k := ?_)) | refine Wl_gno (k := ?_) | ((refine Wl_split (yes := (fun ht => ?_)) (no := (fun ht => ?_)) <;> (try simp at ht) <;> (try (exfalso; omega))) <;> (first | (refine Wl_guard (k := ?_); refine Wl_move (k := ?_)) | refine Wl_gno (k := ?_))))) <;> (((first | (refine Wl_guard (k := ?_); refine Wl_move (k := ?_)) | refine Wl_gno (k := ?_) | ((refine Wl_split (yes := (fun ht => ?_)) (no := (fun ht => ?_)) <;> (try simp at ht) <;> (try (exfalso; omega))) <;> (first | (refine Wl_guard (k := ?_); refine Wl_move (k := ?_)) | refine Wl_gno (k := ?_))))) <;> (((first | (refine Wl_guard (k := ?_); refine Wl_len_sl (k' := ?_)) | refine Wl_gno (k := ?_) | ((refine Wl_split (yes := (fun ht => ?_)) (no := (fun ht => ?_)) <;> (try simp at ht) <;> (try (exfalso; omega))) <;> (first | (refine Wl_guard (k := ?_); refine Wl_len_sl (k' := ?_)) | refine Wl_gno (k := ?_))))) <;> (((first | (refine Wl_guard (k := ?_); refine Wl_move (k := ?_)) | refine Wl_gno (k := ?_) | ((refine Wl_split (yes := (fun ht => ?_)) (no := (fun ht => ?_)) <;> (try simp at ht) <;> (try (exfalso; omega))) <;> (first | (refine Wl_guard (k := ?_); refine Wl_move (k := ?_)) | refine Wl_gno (k := ?_))))) <;> (((first | (refine Wl_guard (k := ?_); refine Wl_sub (k' := ?_)) | refine Wl_gno (k := ?_) | ((refine Wl_split (yes := (fun ht => ?_)) (no := (fun ht => ?_)) <;> (try simp at ht) <;> (try (exfalso; omega))) <;> (first | (refine Wl_guard (k := ?_); refine Wl_sub (k' := ?_)) | refine Wl_gno (k := ?_))))) <;> (((first | (refine Wl_guard (k := ?_); refine Wl_gtr (k' := ?_)) | refine Wl_gno (k := ?_) | ((refine Wl_split (yes := (fun ht => ?_)) (no := (fun ht => ?_)) <;> (try simp at ht) <;> (try (exfalso; omega))) <;> (first | (refine Wl_guard (k := ?_); refine Wl_gtr (k' := ?_)) | refine Wl_gno (k := ?_))))) <;> ((first | refine Wl_pick_t (k := ?_) | refine Wl_pick_f (k := ?_) | refine Wl_pick (k := ?_)); (refine Wl_nil (hK _ _ ?_); clear hK K))))))))
      | (refine Wc_region (id := 6) ?_; intro K hK; refine Wl_assign (k := ?_); (refine Wl_nil (hK _ _ ?_); clear hK K))
      | (refine Wc_region (id := 7) ?_; intro K hK; refine Wl_assign (k := ?_); (refine Wl_nil (hK _ _ ?_); clear hK K))
      | (refine Wc_region (id := 25) ?_; intro K hK; refine Wl_move (k := ?_); refine Wl_assign (k := ?_); (refine Wl_nil (hK _ _ ?_); clear hK K))
      | (refine Wc_cond (ht := (fun ht => ?_)) (hf := (fun ht => ?_)) <;> (try simp at ht) <;> (try (exfalso; omega))))
    all_goals first
      | (have hRe : out = R := hno (fun hq => by have := hq.1; have := hq.2.1; omega)
         subst hRe
         exact ⟨Or.inr rfl, _, _, Ent.refl _, res1 rfl rfl, oa, oc, rfl, rfl⟩)
      | skip
    have hnn : 1 ≤ n ∧ n ≤ m - at_ := by omega
    refine Wc_loop (α := Nat) (fun i => [(0, .slice (some b) m c), (1, .int .i64 lap), (5, .slice oa out.length oc), (6, .int .i64 at_), (7, .int .i64 n), (8, .string (bytesOf (catP S base at_ i))), (9, .int .i64 i)])
      (fun i => [own oa out.length oc 1 (out.map strV) 9, X]) (fun i => i ≤ n) (fun i => n - i) 0 (Nat.zero_le _) ⟨rfl, rfl, rfl, rfl, rfl, rfl, rfl, trivial⟩ (Ent.refl _) ?_
    intro i G2 hi
    simp only [ov]
    have hcl := catP_len S base at_ i
    have hcs := bytes_size (catP S base at_ i)
    by_cases hin : i < n
    · obtain ⟨t, htt⟩ : ∃ t, S (base + at_ + i) = t := ⟨_, rfl⟩
      have hta : S (base + (at_ + i)) = t := by rw [← Nat.add_assoc]; exact htt
      have ht64 : t.length = 64 := by rw [← hta]; exact h64 (at_ + i) (by omega)
      have htz := bytes_size t
      have hstep : catP S base at_ (i + 1) = catP S base at_ i ++ (t.drop 13).take (min 47 (by12 t)) := by rw [← htt]; rfl
      have hcut : (t.take (13 + min 47 (by12 t))).drop 13 = (t.drop 13).take (min 47 (by12 t)) := by rw [List.drop_take, Nat.add_sub_cancel_left]
      have hcl2 : ((t.drop 13).take (min 47 (by12 t))).length ≤ 47 := by rw [List.length_take]; omega
      repeat' (first
        | refine Wc_seq ?_
        | refine thenQ_normal ?_
        | refine Wc_cond_t (h := ?_)
        | refine Wc_cond_f (h := ?_)
        | refine Wc_ret ?_
        | refine thenQ_ret ?_
        | refine Wc_block ?_
        | refine blkQ_normal ?_
        | refine blkQ_ret ?_
        | refine Wc_exit ?_
        | refine thenQ_exit ?_
        | refine blkQ_hit ?_
        | refine blkQ_miss rfl ?_
        | refine Wc_skip ?_
        | refine Wc_label ?_
        | refine loopQ_exit ?_
        | refine loopQ_ret ?_
        | refine loopQ_normal ?_
        | (refine Wc_region (id := 8) ?_; intro K hK; refine Wl_move (k := ?_); refine Wl_move (k := ?_); refine Wl_lss (k' := ?_); (refine Wl_nil (hK _ _ ?_); clear hK K))
        | (refine Wc_region (id := 9) ?_; intro K hK; refine Wl_move (k := ?_); refine Wl_add (k' := ?_); refine Wl_assign (k := ?_); (refine Wl_nil (hK _ _ ?_); clear hK K))
        | (refine Wc_region (id := 10) ?_; intro K hK; refine Wl_move (k := ?_); refine Wl_move (k := ?_); refine Wl_move (k := ?_); refine Wl_add (k' := ?_); ((refine Wl_index_any (k' := ?_))) <;> (((refine Wl_loadG (v := strV t) (j := at_ + i) (hq := by rw [show ((at_ : Int) + (i : Int)) = ((at_ + i : Nat) : Int) by omega, Int.toNat_natCast, Nat.mul_one]) (hr := hT.tail) (hv := by rw [hv (at_ + i) (by omega), hta]) (k := ?_))) <;> (refine Wl_assign (k := ?_); (refine Wl_nil (hK _ _ ?_); clear hK K))))
        | (refine Wc_region (id := 11) ?_; intro K hK; refine Wl_move (k := ?_); ((refine Wl_slice_str (s := bytesOf t) (l := 12) (h := 13) (hlo := ⟨_, rfl⟩) (hhi := ⟨_, rfl⟩) (hlh := by omega) (hhc := by omega) (k' := ?_); rw [bytes_cut])) <;> (((refine Wl_call (hs := number_spec [] ((t.take 13).drop 12) (by simp; omega)) (k := ?_); rintro v A' ⟨rfl, rfl⟩; simp only [List.cons_append, List.nil_append]; rw [numL_1 t ht64])) <;> (refine Wl_assign (k := ?_); (refine Wl_nil (hK _ _ ?_); clear hK K))))
        | (refine Wc_region (id := 12) ?_; intro K hK; refine Wl_move (k := ?_); refine Wl_gtr (k' := ?_); (refine Wl_nil (hK _ _ ?_); clear hK K))
        | (refine Wc_region (id := 13) ?_; intro K hK; refine Wl_assign (k := ?_); (refine Wl_nil (hK _ _ ?_); clear hK K))
        | (refine Wc_region (id := 14) ?_; intro K hK; refine Wl_move (k := ?_); refine Wl_move (k := ?_); refine Wl_move (k := ?_); ((refine Wl_add (k' := ?_); first | rw [show (13 : Int) + (by12 t : Int) = ((13 + min 47 (by12 t) : Nat) : Int) by omega] | rw [show (13 : Int) + 47 = ((13 + min 47 (by12 t) : Nat) : Int) by omega])) <;> (((refine Wl_slice_str (s := bytesOf t) (l := 13) (h := 13 + min 47 (by12 t)) (hlo := ⟨_, rfl⟩) (hhi := ⟨_, rfl⟩) (hlh := by omega) (hhc := by omega) (k' := ?_); rw [bytes_cut, hcut])) <;> (((refine Wl_str_add (hl := by rw [hcs, bytes_size]; omega) (k' := ?_); rw [bytes_app, ← hstep])) <;> (refine Wl_assign (k := ?_); (refine Wl_nil (hK _ _ ?_); clear hK K)))))
        | (refine Wc_cond (ht := (fun ht => ?_)) (hf := (fun ht => ?_)) <;> (try simp at ht) <;> (try (exfalso; omega))))
      all_goals exact ⟨i + 1, by omega, by omega, ⟨rfl, rfl, rfl, rfl, rfl, rfl, int_succ i, trivial⟩, Ent.refl _⟩
    · obtain rfl : i = n := by omega
      obtain ⟨q, hq⟩ : ∃ q, catP S base at_ i = q := ⟨_, rfl⟩
      rw [hq] at hcl hcs hyes ⊢
      have hRO : RecOk S m base lap out.length at_ i ↔ partsN q.length = i ∧ okN S base at_ lap out.length q i = true := by
        unfold RecOk okN
        rw [hq, decide_eq_true_eq]
        exact ⟨fun h => h.2.2, fun h => ⟨hnn.1, hnn.2, h⟩⟩
      have hsl := secsL_len lap out.length q
      repeat' (first
        | refine Wc_seq ?_
        | refine thenQ_normal ?_
        | refine Wc_cond_t (h := ?_)
        | refine Wc_cond_f (h := ?_)
        | refine Wc_ret ?_
        | refine thenQ_ret ?_
        | refine Wc_block ?_
        | refine blkQ_normal ?_
        | refine blkQ_ret ?_
        | refine Wc_exit ?_
        | refine thenQ_exit ?_
        | refine blkQ_hit ?_
        | refine blkQ_miss rfl ?_
        | refine Wc_skip ?_
        | refine Wc_label ?_
        | refine loopQ_exit ?_
        | refine loopQ_ret ?_
        | refine loopQ_normal ?_
        | (refine Wc_region (id := 8) ?_; intro K hK; refine Wl_move (k := ?_); refine Wl_move (k := ?_); refine Wl_lss (k' := ?_); (refine Wl_nil (hK _ _ ?_); clear hK K))
        | (refine Wc_region (id := 15) ?_; intro K hK; refine Wl_move (k := ?_); refine Wl_move (k := ?_); refine Wl_len_sl (k' := ?_); refine Wl_move (k := ?_); ((refine Wl_call (hs := rsectors_spec [] lap out.length q (by omega) (by omega) (by omega)) (k := ?_); rintro v A' ⟨wa, wc, rfl, rfl⟩; simp only [List.cons_append, List.nil_append]; rw [hsl])) <;> (refine Wl_assign (k := ?_); (refine Wl_nil (hK _ _ ?_); clear hK K)))
        | (refine Wc_region (id := 16) ?_; intro K hK; refine Wl_move (k := ?_); refine Wl_len_sl (k' := ?_); refine Wl_move (k := ?_); refine Wl_neq (k' := ?_); (refine Wl_nil (hK _ _ ?_); clear hK K))
        | (refine Wc_region (id := 17) ?_; intro K hK; refine Wl_assign (k := ?_); (refine Wl_nil (hK _ _ ?_); clear hK K))
        | (refine Wc_region (id := 18) ?_; intro K hK; refine Wl_assign (k := ?_); (refine Wl_nil (hK _ _ ?_); clear hK K))
        | (refine Wc_region (id := 25) ?_; intro K hK; refine Wl_move (k := ?_); refine Wl_assign (k := ?_); (refine Wl_nil (hK _ _ ?_); clear hK K))
        | (refine Wc_cond (ht := (fun ht => ?_)) (hf := (fun ht => ?_)) <;> (try simp at ht) <;> (try (exfalso; omega))))
      all_goals first
        | (have hRe : out = R := hno (fun hx => by have := (hRO.1 hx).1; omega)
           subst hRe
           exact ⟨Or.inr rfl, _, [own oa out.length oc 1 (out.map strV) 9, X], (by (repeat (first | exact Ent.refl _ | exact Ent.nil | refine Ent.take (by (repeat (first | exact Out.head | apply Out.tail)); (first | done | fail)) ?_ | refine Ent.drop1 ?_))), res1 rfl rfl, oa, oc, rfl, rfl⟩)
        | skip
      have hpi : partsN q.length = i := by omega
      rw [hpi]
      refine Wc_ownF (a := wa) (h := (fun hf => ?_))
      obtain ⟨wp, rfl⟩ := hf.some (by omega)
      refine Wc_loop (α := Nat) (fun k => [(0, .slice (some b) m c), (1, .int .i64 lap), (5, .slice oa out.length oc), (6, .int .i64 at_), (7, .int .i64 i), (8, .string (bytesOf q)), (12, .slice (some wp) i wc), (13, .bool (okN S base at_ lap out.length q k)), (14, .int .i64 k)])
        (fun k => [own (some wp) i wc 1 ((secsL lap out.length q).map strV) 9, own oa out.length oc 1 (out.map strV) 9, X]) (fun k => k ≤ i) (fun k => i - k) 0 (Nat.zero_le _) ⟨rfl, rfl, rfl, rfl, rfl, rfl, rfl, by simp [okN]; rfl, rfl, trivial⟩ (by (repeat (first | exact Ent.refl _ | exact Ent.nil | refine Ent.take (by (repeat (first | exact Out.head | apply Out.tail)); (first | done | fail)) ?_ | refine Ent.drop1 ?_))) ?_
      intro k G3 hk
      simp only [ov]
      by_cases hki : k < i
      · have hks := okN_succ S base at_ lap out.length q k
        obtain ⟨t, htt⟩ : ∃ t, S (base + at_ + k) = t := ⟨_, rfl⟩
        have hta : S (base + (at_ + k)) = t := by rw [← Nat.add_assoc]; exact htt
        rw [htt] at hks
        have hwv : ((secsL lap out.length q).map strV)[k]? = some (strV (secF lap out.length q k)) := by rw [List.getElem?_map, secsL_get _ _ _ _ (by omega)]; rfl
        cases hok : okN S base at_ lap out.length q k with
        | true =>
          rw [hok, Bool.true_and] at hks
          repeat' (first
            | refine Wc_seq ?_
            | refine thenQ_normal ?_
            | refine Wc_cond_t (h := ?_)
            | refine Wc_cond_f (h := ?_)
            | refine Wc_ret ?_
            | refine thenQ_ret ?_
            | refine Wc_block ?_
            | refine blkQ_normal ?_
            | refine blkQ_ret ?_
            | refine Wc_exit ?_
            | refine thenQ_exit ?_
            | refine blkQ_hit ?_
            | refine blkQ_miss rfl ?_
            | refine Wc_skip ?_
            | refine Wc_label ?_
            | refine loopQ_exit ?_
            | refine loopQ_ret ?_
            | refine loopQ_normal ?_
            | (refine Wc_region (id := 19) ?_; intro K hK; refine Wl_move (k := ?_); refine Wl_move (k := ?_); refine Wl_lss (k' := ?_); (refine Wl_nil (hK _ _ ?_); clear hK K))
            | (refine Wc_region (id := 20) ?_; intro K hK; refine Wl_move (k := ?_); refine Wl_add (k' := ?_); refine Wl_assign (k := ?_); (refine Wl_nil (hK _ _ ?_); clear hK K))
            | (refine Wc_drawF (id := 21) (M := ([own (some wp) i wc 1 ((secsL lap out.length q).map strV) 9, X])) (Ls := [81, 87, 88]) (hp := (Pick.perm (by (repeat (first | exact Pick.nil | apply Pick.cons (by (repeat (first | exact Out.head | apply Out.tail)); (first | done | fail)))); (first | done | fail)))) (h := ?_); intro K hK; refine Wl_move (k := ?_); refine Wl_move (k := ?_); ((first | (refine Wl_guard (k := ?_); refine Wl_move (k := ?_)) | refine Wl_gno (k := ?_) | ((refine Wl_split (yes := (fun ht => ?_)) (no := (fun ht => ?_)) <;> (try simp at ht) <;> (try (exfalso; omega))) <;> (first | (refine Wl_guard (k := ?_); refine Wl_move (k := ?_)) | refine Wl_gno (k := ?_))))) <;> (((first | (refine Wl_guard (k := ?_); refine Wl_move (k := ?_)) | refine Wl_gno (k := ?_) | ((refine Wl_split (yes := (fun ht => ?_)) (no := (fun ht => ?_)) <;> (try simp at ht) <;> (try (exfalso; omega))) <;> (first | (refine Wl_guard (k := ?_); refine Wl_move (k := ?_)) | refine Wl_gno (k := ?_))))) <;> (((first | (refine Wl_guard (k := ?_); (refine Wl_index_any (k' := ?_))) | refine Wl_gno (k := ?_) | ((refine Wl_split (yes := (fun ht => ?_)) (no := (fun ht => ?_)) <;> (try simp at ht) <;> (try (exfalso; omega))) <;> (first | (refine Wl_guard (k := ?_); (refine Wl_index_any (k' := ?_))) | refine Wl_gno (k := ?_))))) <;> (((first | (refine Wl_guard (k := ?_); (refine Wl_loadGF (v := strV (secF lap out.length q k)) (j := k) (hq := by rw [Int.toNat_natCast, Nat.mul_one]) (hr := hf.rd (by (repeat (first | exact Out.head | apply Out.tail)); (first | done | fail))) (hv := hwv) (k := ?_))) | refine Wl_gno (k := ?_) | ((refine Wl_split (yes := (fun ht => ?_)) (no := (fun ht => ?_)) <;> (try simp at ht) <;> (try (exfalso; omega))) <;> (first | (refine Wl_guard (k := ?_); (refine Wl_loadGF (v := strV (secF lap out.length q k)) (j := k) (hq := by rw [Int.toNat_natCast, Nat.mul_one]) (hr := hf.rd (by (repeat (first | exact Out.head | apply Out.tail)); (first | done | fail))) (hv := hwv) (k := ?_))) | refine Wl_gno (k := ?_))))) <;> (((first | (refine Wl_guard (k := ?_); refine Wl_move (k := ?_)) | refine Wl_gno (k := ?_) | ((refine Wl_split (yes := (fun ht => ?_)) (no := (fun ht => ?_)) <;> (try simp at ht) <;> (try (exfalso; omega))) <;> (first | (refine Wl_guard (k := ?_); refine Wl_move (k := ?_)) | refine Wl_gno (k := ?_))))) <;> (((first | (refine Wl_guard (k := ?_); refine Wl_move (k := ?_)) | refine Wl_gno (k := ?_) | ((refine Wl_split (yes := (fun ht => ?_)) (no := (fun ht => ?_)) <;> (try simp at ht) <;> (try (exfalso; omega))) <;> (first | (refine Wl_guard (k := ?_); refine Wl_move (k := ?_)) | refine Wl_gno (k := ?_))))) <;> (((first | (refine Wl_guard (k := ?_); refine Wl_move (k := ?_)) | refine Wl_gno (k := ?_) | ((refine Wl_split (yes := (fun ht => ?_)) (no := (fun ht => ?_)) <;> (try simp at ht) <;> (try (exfalso; omega))) <;> (first | (refine Wl_guard (k := ?_); refine Wl_move (k := ?_)) | refine Wl_gno (k := ?_))))) <;> (((first | (refine Wl_guard (k := ?_); refine Wl_add (k' := ?_)) | refine Wl_gno (k := ?_) | ((refine Wl_split (yes := (fun ht => ?_)) (no := (fun ht => ?_)) <;> (try simp at ht) <;> (try (exfalso; omega))) <;> (first | (refine Wl_guard (k := ?_); refine Wl_add (k' := ?_)) | refine Wl_gno (k := ?_))))) <;> (((first | (refine Wl_guard (k := ?_); (refine Wl_index_any (k' := ?_))) | refine Wl_gno (k := ?_) | ((refine Wl_split (yes := (fun ht => ?_)) (no := (fun ht => ?_)) <;> (try simp at ht) <;> (try (exfalso; omega))) <;> (first | (refine Wl_guard (k := ?_); (refine Wl_index_any (k' := ?_))) | refine Wl_gno (k := ?_))))) <;> (((first | (refine Wl_guard (k := ?_); (refine Wl_loadGF (v := strV t) (j := at_ + k) (hq := by rw [show ((at_ : Int) + (k : Int)) = ((at_ + k : Nat) : Int) by omega, Int.toNat_natCast, Nat.mul_one]) (hr := hT.tail) (hv := by rw [hv (at_ + k) (by omega), hta]) (k := ?_))) | refine Wl_gno (k := ?_) | ((refine Wl_split (yes := (fun ht => ?_)) (no := (fun ht => ?_)) <;> (try simp at ht) <;> (try (exfalso; omega))) <;> (first | (refine Wl_guard (k := ?_); (refine Wl_loadGF (v := strV t) (j := at_ + k) (hq := by rw [show ((at_ : Int) + (k : Int)) = ((at_ + k : Nat) : Int) by omega, Int.toNat_natCast, Nat.mul_one]) (hr := hT.tail) (hv := by rw [hv (at_ + k) (by omega), hta]) (k := ?_))) | refine Wl_gno (k := ?_))))) <;> (((first | (refine Wl_guard (k := ?_); (refine Wl_str_eql (a := bytesOf (secF lap out.length q k)) (b := bytesOf t) (k' := ?_); rw [bytes_toList, bytes_toList, list_beq, ← hks])) | refine Wl_gno (k := ?_) | ((refine Wl_split (yes := (fun ht => ?_)) (no := (fun ht => ?_)) <;> (try simp at ht) <;> (try (exfalso; omega))) <;> (first | (refine Wl_guard (k := ?_); (refine Wl_str_eql (a := bytesOf (secF lap out.length q k)) (b := bytesOf t) (k' := ?_); rw [bytes_toList, bytes_toList, list_beq, ← hks])) | refine Wl_gno (k := ?_))))) <;> ((first | refine Wl_pick_t (k := ?_) | refine Wl_pick_f (k := ?_) | refine Wl_pick (k := ?_)); refine Wl_assign (k := ?_); (refine Wl_nil (hK _ _ ?_); clear hK K; try simp only [List.cons_append, List.nil_append])))))))))))))
            | (refine Wc_cond (ht := (fun ht => ?_)) (hf := (fun ht => ?_)) <;> (try simp at ht) <;> (try (exfalso; omega))))
          exact ⟨k + 1, by omega, by omega, ⟨rfl, rfl, rfl, rfl, rfl, rfl, rfl, rfl, int_succ k, trivial⟩, (by (repeat (first | exact Ent.refl _ | exact Ent.nil | refine Ent.take (by (repeat (first | exact Out.head | apply Out.tail)); (first | done | fail)) ?_ | refine Ent.drop1 ?_)))⟩
        | false =>
          rw [hok, Bool.false_and] at hks
          repeat' (first
            | refine Wc_seq ?_
            | refine thenQ_normal ?_
            | refine Wc_cond_t (h := ?_)
            | refine Wc_cond_f (h := ?_)
            | refine Wc_ret ?_
            | refine thenQ_ret ?_
            | refine Wc_block ?_
            | refine blkQ_normal ?_
            | refine blkQ_ret ?_
            | refine Wc_exit ?_
            | refine thenQ_exit ?_
            | refine blkQ_hit ?_
            | refine blkQ_miss rfl ?_
            | refine Wc_skip ?_
            | refine Wc_label ?_
            | refine loopQ_exit ?_
            | refine loopQ_ret ?_
            | refine loopQ_normal ?_
            | (refine Wc_region (id := 19) ?_; intro K hK; refine Wl_move (k := ?_); refine Wl_move (k := ?_); refine Wl_lss (k' := ?_); (refine Wl_nil (hK _ _ ?_); clear hK K))
            | (refine Wc_region (id := 20) ?_; intro K hK; refine Wl_move (k := ?_); refine Wl_add (k' := ?_); refine Wl_assign (k := ?_); (refine Wl_nil (hK _ _ ?_); clear hK K))
            | (refine Wc_drawF (id := 21) (M := ([own (some wp) i wc 1 ((secsL lap out.length q).map strV) 9, X])) (Ls := [81, 87, 88]) (hp := (Pick.perm (by (repeat (first | exact Pick.nil | apply Pick.cons (by (repeat (first | exact Out.head | apply Out.tail)); (first | done | fail)))); (first | done | fail)))) (h := ?_); intro K hK; refine Wl_move (k := ?_); refine Wl_move (k := ?_); ((first | (refine Wl_guard (k := ?_); refine Wl_move (k := ?_)) | refine Wl_gno (k := ?_) | ((refine Wl_split (yes := (fun ht => ?_)) (no := (fun ht => ?_)) <;> (try simp at ht) <;> (try (exfalso; omega))) <;> (first | (refine Wl_guard (k := ?_); refine Wl_move (k := ?_)) | refine Wl_gno (k := ?_))))) <;> (((first | (refine Wl_guard (k := ?_); refine Wl_move (k := ?_)) | refine Wl_gno (k := ?_) | ((refine Wl_split (yes := (fun ht => ?_)) (no := (fun ht => ?_)) <;> (try simp at ht) <;> (try (exfalso; omega))) <;> (first | (refine Wl_guard (k := ?_); refine Wl_move (k := ?_)) | refine Wl_gno (k := ?_))))) <;> (((first | (refine Wl_guard (k := ?_); refine Wl_index_sl (k' := ?_)) | refine Wl_gno (k := ?_) | ((refine Wl_split (yes := (fun ht => ?_)) (no := (fun ht => ?_)) <;> (try simp at ht) <;> (try (exfalso; omega))) <;> (first | (refine Wl_guard (k := ?_); refine Wl_index_sl (k' := ?_)) | refine Wl_gno (k := ?_))))) <;> (((first | (refine Wl_guard (k := ?_); refine Wl_loadF (k := ?_)) | refine Wl_gno (k := ?_) | ((refine Wl_split (yes := (fun ht => ?_)) (no := (fun ht => ?_)) <;> (try simp at ht) <;> (try (exfalso; omega))) <;> (first | (refine Wl_guard (k := ?_); refine Wl_loadF (k := ?_)) | refine Wl_gno (k := ?_))))) <;> (((first | (refine Wl_guard (k := ?_); refine Wl_move (k := ?_)) | refine Wl_gno (k := ?_) | ((refine Wl_split (yes := (fun ht => ?_)) (no := (fun ht => ?_)) <;> (try simp at ht) <;> (try (exfalso; omega))) <;> (first | (refine Wl_guard (k := ?_); refine Wl_move (k := ?_)) | refine Wl_gno (k := ?_))))) <;> (((first | (refine Wl_guard (k := ?_); refine Wl_move (k := ?_)) | refine Wl_gno (k := ?_) | ((refine Wl_split (yes := (fun ht => ?_)) (no := (fun ht => ?_)) <;> (try simp at ht) <;> (try (exfalso; omega))) <;> (first | (refine Wl_guard (k := ?_); refine Wl_move (k := ?_)) | refine Wl_gno (k := ?_))))) <;> (((first | (refine Wl_guard (k := ?_); refine Wl_move (k := ?_)) | refine Wl_gno (k := ?_) | ((refine Wl_split (yes := (fun ht => ?_)) (no := (fun ht => ?_)) <;> (try simp at ht) <;> (try (exfalso; omega))) <;> (first | (refine Wl_guard (k := ?_); refine Wl_move (k := ?_)) | refine Wl_gno (k := ?_))))) <;> (((first | (refine Wl_guard (k := ?_); refine Wl_add (k' := ?_)) | refine Wl_gno (k := ?_) | ((refine Wl_split (yes := (fun ht => ?_)) (no := (fun ht => ?_)) <;> (try simp at ht) <;> (try (exfalso; omega))) <;> (first | (refine Wl_guard (k := ?_); refine Wl_add (k' := ?_)) | refine Wl_gno (k := ?_))))) <;> (((first | (refine Wl_guard (k := ?_); refine Wl_index_sl (k' := ?_)) | refine Wl_gno (k := ?_) | ((refine Wl_split (yes := (fun ht => ?_)) (no := (fun ht => ?_)) <;> (try simp at ht) <;> (try (exfalso; omega))) <;> (first | (refine Wl_guard (k := ?_); refine Wl_index_sl (k' := ?_)) | refine Wl_gno (k := ?_))))) <;> (((first | (refine Wl_guard (k := ?_); refine Wl_loadF (k := ?_)) | refine Wl_gno (k := ?_) | ((refine Wl_split (yes := (fun ht => ?_)) (no := (fun ht => ?_)) <;> (try simp at ht) <;> (try (exfalso; omega))) <;> (first | (refine Wl_guard (k := ?_); refine Wl_loadF (k := ?_)) | refine Wl_gno (k := ?_))))) <;> (((first | (refine Wl_guard (k := ?_); refine Wl_str_eql (k' := ?_)) | refine Wl_gno (k := ?_) | ((refine Wl_split (yes := (fun ht => ?_)) (no := (fun ht => ?_)) <;> (try simp at ht) <;> (try (exfalso; omega))) <;> (first | (refine Wl_guard (k := ?_); refine Wl_str_eql (k' := ?_)) | refine Wl_gno (k := ?_))))) <;> ((first | refine Wl_pick_t (k := ?_) | refine Wl_pick_f (k := ?_) | refine Wl_pick (k := ?_)); refine Wl_assign (k := ?_); (refine Wl_nil (hK _ _ ?_); clear hK K; try simp only [List.cons_append, List.nil_append])))))))))))))
            | (refine Wc_cond (ht := (fun ht => ?_)) (hf := (fun ht => ?_)) <;> (try simp at ht) <;> (try (exfalso; omega))))
          exact ⟨k + 1, by omega, by omega, ⟨rfl, rfl, rfl, rfl, rfl, rfl, rfl, by rw [hks]; rfl, int_succ k, trivial⟩, (by (repeat (first | exact Ent.refl _ | exact Ent.nil | refine Ent.take (by (repeat (first | exact Out.head | apply Out.tail)); (first | done | fail)) ?_ | refine Ent.drop1 ?_)))⟩
      · obtain rfl : k = i := by omega
        cases hok : okN S base at_ lap out.length q k with
        | true =>
          obtain ⟨f, hf1, hf2⟩ := hyes (hRO.2 ⟨hpi, hok⟩)
          repeat' (first
            | refine Wc_seq ?_
            | refine thenQ_normal ?_
            | refine Wc_cond_t (h := ?_)
            | refine Wc_cond_f (h := ?_)
            | refine Wc_ret ?_
            | refine thenQ_ret ?_
            | refine Wc_block ?_
            | refine blkQ_normal ?_
            | refine blkQ_ret ?_
            | refine Wc_exit ?_
            | refine thenQ_exit ?_
            | refine blkQ_hit ?_
            | refine blkQ_miss rfl ?_
            | refine Wc_skip ?_
            | refine Wc_label ?_
            | refine loopQ_exit ?_
            | refine loopQ_ret ?_
            | refine loopQ_normal ?_
            | (refine Wc_region (id := 19) ?_; intro K hK; refine Wl_move (k := ?_); refine Wl_move (k := ?_); refine Wl_lss (k' := ?_); (refine Wl_nil (hK _ _ ?_); clear hK K))
            | (refine Wc_region (id := 22) ?_; intro K hK; refine Wl_move (k := ?_); refine Wl_not (k' := ?_); (refine Wl_nil (hK _ _ ?_); clear hK K))
            | (refine Wc_region (id := 23) ?_; intro K hK; refine Wl_move (k := ?_); refine Wl_move (k := ?_); (refine Wl_lit1 (k := ?_); intro r); ((refine Wl_append1 (hvl := by rfl) (hvc := by rfl) (hbd := by omega) (k := ?_); intro oa' oc')) <;> (refine Wl_assign (k := ?_); (refine Wl_nil (hK _ _ ?_); clear hK K)))
            | (refine Wc_region (id := 24) ?_; intro K hK; refine Wl_move (k := ?_); refine Wl_move (k := ?_); refine Wl_add (k' := ?_); refine Wl_assign (k := ?_); (refine Wl_nil (hK _ _ ?_); clear hK K))
            | (refine Wc_cond (ht := (fun ht => ?_)) (hf := (fun ht => ?_)) <;> (try simp at ht) <;> (try (exfalso; omega))))
          refine ⟨(at_ + k, out ++ [q], oa', oc'), ⟨by simp only; omega, by simp only [List.length_append, List.length_singleton]; omega, f, hf1, hf2⟩, by simp only; omega, ⟨rfl, rfl, by simp; rfl, by first | rfl | exact congrArg (Value.int .i64) (by omega), trivial⟩, ?_⟩
          simp only [List.length_append, List.length_singleton, List.map_append, List.map_cons, List.map_nil]
          (repeat (first | exact Ent.refl _ | exact Ent.nil | refine Ent.take (by (repeat (first | exact Out.head | apply Out.tail)); (first | done | fail)) ?_ | refine Ent.drop1 ?_))
        | false =>
          have hRe : out = R := hno (fun hx => by have := (hRO.1 hx).2; rw [hok] at this; cases this)
          subst hRe
          repeat' (first
            | refine Wc_seq ?_
            | refine thenQ_normal ?_
            | refine Wc_cond_t (h := ?_)
            | refine Wc_cond_f (h := ?_)
            | refine Wc_ret ?_
            | refine thenQ_ret ?_
            | refine Wc_block ?_
            | refine blkQ_normal ?_
            | refine blkQ_ret ?_
            | refine Wc_exit ?_
            | refine thenQ_exit ?_
            | refine blkQ_hit ?_
            | refine blkQ_miss rfl ?_
            | refine Wc_skip ?_
            | refine Wc_label ?_
            | refine loopQ_exit ?_
            | refine loopQ_ret ?_
            | refine loopQ_normal ?_
            | (refine Wc_region (id := 19) ?_; intro K hK; refine Wl_move (k := ?_); refine Wl_move (k := ?_); refine Wl_lss (k' := ?_); (refine Wl_nil (hK _ _ ?_); clear hK K))
            | (refine Wc_region (id := 22) ?_; intro K hK; refine Wl_move (k := ?_); refine Wl_not (k' := ?_); (refine Wl_nil (hK _ _ ?_); clear hK K))
            | (refine Wc_region (id := 25) ?_; intro K hK; refine Wl_move (k := ?_); refine Wl_assign (k := ?_); (refine Wl_nil (hK _ _ ?_); clear hK K))
            | (refine Wc_cond (ht := (fun ht => ?_)) (hf := (fun ht => ?_)) <;> (try simp at ht) <;> (try (exfalso; omega))))
          exact ⟨Or.inr rfl, _, [own oa out.length oc 1 (out.map strV) 9, X], (by (repeat (first | exact Ent.refl _ | exact Ent.nil | refine Ent.take (by (repeat (first | exact Out.head | apply Out.tail)); (first | done | fail)) ?_ | refine Ent.drop1 ?_))), res1 rfl rfl, oa, oc, rfl, rfl⟩
  · obtain rfl : at_ = m := by omega
    have hRe : out = R := by
      rw [← h4]
      cases fuel with
      | zero => rfl
      | succ f =>
        simp only [recsF]
        split
        · rename_i r at' hr
          rw [Nat.sub_self, recF_end (Nat.le_refl _)] at hr; cases hr
        · rfl
    subst hRe
    repeat' (first
      | refine Wc_seq ?_
      | refine thenQ_normal ?_
      | refine Wc_cond_t (h := ?_)
      | refine Wc_cond_f (h := ?_)
      | refine Wc_ret ?_
      | refine thenQ_ret ?_
      | refine Wc_block ?_
      | refine blkQ_normal ?_
      | refine blkQ_ret ?_
      | refine Wc_exit ?_
      | refine thenQ_exit ?_
      | refine blkQ_hit ?_
      | refine blkQ_miss rfl ?_
      | refine Wc_skip ?_
      | refine Wc_label ?_
      | refine loopQ_exit ?_
      | refine loopQ_ret ?_
      | refine loopQ_normal ?_
      | (refine Wc_region (id := 3) ?_; intro K hK; refine Wl_move (k := ?_); refine Wl_gtr (k' := ?_); refine Wl_move (k := ?_); ((first | (refine Wl_guard (k := ?_); refine Wl_move (k := ?_)) | refine Wl_gno (k := ?_) | ((refine Wl_split (yes := (fun ht => ?_)) (no := (fun ht => ?_)) <;> (try simp at ht) <;> (try (exfalso; omega))) <;> (first | (refine Wl_guard (k := ?_); refine Wl_move (k := ?_)) | refine Wl_gno (k := ?_))))) <;> (((first | (refine Wl_guard (k := ?_); refine Wl_move (k := ?_)) | refine Wl_gno (k := ?_) | ((refine Wl_split (yes := (fun ht => ?_)) (no := (fun ht => ?_)) <;> (try simp at ht) <;> (try (exfalso; omega))) <;> (first | (refine Wl_guard (k := ?_); refine Wl_move (k := ?_)) | refine Wl_gno (k := ?_))))) <;> (((first | (refine Wl_guard (k := ?_); refine Wl_len_sl (k' := ?_)) | refine Wl_gno (k := ?_) | ((refine Wl_split (yes := (fun ht => ?_)) (no := (fun ht => ?_)) <;> (try simp at ht) <;> (try (exfalso; omega))) <;> (first | (refine Wl_guard (k := ?_); refine Wl_len_sl (k' := ?_)) | refine Wl_gno (k := ?_))))) <;> (((first | (refine Wl_guard (k := ?_); refine Wl_lss (k' := ?_)) | refine Wl_gno (k := ?_) | ((refine Wl_split (yes := (fun ht => ?_)) (no := (fun ht => ?_)) <;> (try simp at ht) <;> (try (exfalso; omega))) <;> (first | (refine Wl_guard (k := ?_); refine Wl_lss (k' := ?_)) | refine Wl_gno (k := ?_))))) <;> ((first | refine Wl_pick_t (k := ?_) | refine Wl_pick_f (k := ?_) | refine Wl_pick (k := ?_)); (refine Wl_nil (hK _ _ ?_); clear hK K))))))
      | (refine Wc_region (id := 25) ?_; intro K hK; refine Wl_move (k := ?_); refine Wl_assign (k := ?_); (refine Wl_nil (hK _ _ ?_); clear hK K))
      | (refine Wc_cond (ht := (fun ht => ?_)) (hf := (fun ht => ?_)) <;> (try simp at ht) <;> (try (exfalso; omega))))
    exact ⟨Or.inr rfl, _, _, Ent.refl _, res1 rfl rfl, oa, oc, rfl, rfl⟩
end specs
end Go.Proofs.Ytdlpfeflndlpfaa
