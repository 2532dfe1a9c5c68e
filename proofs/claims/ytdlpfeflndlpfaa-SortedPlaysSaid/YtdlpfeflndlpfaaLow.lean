/- SortedLow: what it answers. -/
import Derived.Test.YtdlpfeflndlpfaaAwake05
set_option maxHeartbeats 8000000
set_option linter.unusedVariables false
set_option linter.unusedSimpArgs false
set_option maxRecDepth 100000
namespace Go.Proofs.Ytdlpfeflndlpfaa
open Go Go.Sl
attribute [local irreducible] Go.Sl.Wl Go.Sl.Wc Go.Sl.thenQ Go.Sl.blkQ Go.Sl.loopQ Go.Sl.Fspec

/-- A map that came about by at most so many changes. -/
structure LX (i : Nat) (t : Tree) : Prop where
  aa : t.AA
  few : t.size ≤ i
theorem LX.nil : LX 0 .nil := ⟨trivial, Nat.le_refl _⟩
theorem LX.set {i : Nat} {t : Tree} (h : LX i t) (k : ByteArray) (v : Int) : LX (i + 1) (t.set k v) := ⟨(Tree.set_AA k v t h.aa).aa, by have := Tree.size_set k v t; have := h.few; split at * <;> omega⟩
theorem LX.del {i : Nat} {t : Tree} (h : LX i t) (k : ByteArray) : LX i (t.del k) := ⟨(Tree.del_AA t k h.aa).aa, by have := Tree.size_del t k; have := h.few; omega⟩
theorem LX.mono {i j : Nat} {t : Tree} (h : LX i t) (hij : i ≤ j) : LX j t := ⟨h.aa, Nat.le_trans h.few hij⟩
theorem depth_0 {t : Tree} : (t.size = 0) ↔ (t.depth = 0) := by
  cases t with
  | nil => simp [Tree.size, Tree.depth]
  | node => simp only [Tree.size, Tree.depth]; omega
section specs
variable (B : Base)
theorem low_spec (a1 : Option Addr) (m1 c1 : Nat) (l1 : List ByteArray) (h1 : RdS Try.prog B [] 1 a1 m1 c1 (l1.map Value.string)) (hm1 : m1 ≤ 9223372036854775807)
    (a2 : Option Addr) (m2 c2 : Nat) (l2 : List ByteArray) (h2 : RdS Try.prog B [] 1 a2 m2 c2 (l2.map Value.string)) (hm2 : m2 ≤ 9223372036854775807) (many : Int) (hmany : 0 ≤ many ∧ many ≤ 65535) :
    Fspec Try.prog B 3 #[.slice a1 m1 c1, .slice a2 m2 c2, .int .u16 many] [] (fun v A' => v = .bool true ∧ A' = []) := by
  obtain ⟨R, hR, hR7⟩ : ∃ k : Nat, many.tmod 700 = (k : Int) ∧ k < 700 := ⟨(many % 700).toNat, by rw [Int.tmod_eq_emod_of_nonneg (by omega)]; omega, by omega⟩
  have hl1 : l1.length = m1 := by have := h1.len; simpa using this
  have hl2 : l2.length = m2 := by have := h2.len; simpa using this
  refine spec_of (args := [_, _, _]) Try.func3 rfl rfl rfl ?_
  repeat' (first
    | refine Wc_seq ?_
    | refine thenQ_normal ?_
    | refine Wc_cond_t (h := ?_)
    | refine Wc_cond_f (h := ?_)
    | refine Wc_ret ?_
    | refine thenQ_ret ?_
    | refine Wc_block ?_
    | refine blkQ_normal ?_
    | refine blkQ_ret ?_
    | refine Wc_exit ?_
    | refine thenQ_exit ?_
    | refine blkQ_hit ?_
    | refine blkQ_miss rfl ?_
    | refine Wc_skip ?_
    | refine Wc_label ?_
    | refine loopQ_exit ?_
    | refine loopQ_ret ?_
    | refine loopQ_normal ?_
    | (refine Wc_region (id := 0) ?_; intro K hK; refine Wl_assign (k := ?_); (refine Wl_nil (hK _ _ ?_); clear hK K))
    | (refine Wc_region (id := 1) ?_; intro K hK; ((refine Wl_call (hs := (awake05_spec B)) (k := ?_); rintro v A' ⟨rfl, rfl⟩; simp only [List.cons_append, List.nil_append])) <;> (refine Wl_not (k' := ?_); (refine Wl_nil (hK _ _ ?_); clear hK K)))
    | (refine Wc_region (id := 2) ?_; intro K hK; refine Wl_assign (k := ?_); (refine Wl_nil (hK _ _ ?_); clear hK K))
    | (refine Wc_region (id := 3) ?_; intro K hK; refine Wl_call (hs := (mnew_spec B)) (k := ?_); (rintro v A' ⟨p, rfl, rfl⟩ <;> (try simp only [List.cons_append, List.nil_append])); refine Wl_assign (k := ?_); (refine Wl_nil (hK _ _ ?_); clear hK K))
    | (refine Wc_region (id := 4) ?_; intro K hK; refine Wl_assign (k := ?_); (refine Wl_nil (hK _ _ ?_); clear hK K))
    | (refine Wc_cond (ht := (fun ht => ?_)) (hf := (fun ht => ?_)) <;> (try simp at ht) <;> (try (exfalso; omega))))
  refine Wc_loop (α := Nat × Tree) (fun x => [(0, .slice a1 m1 c1), (1, .slice a2 m2 c2), (2, .int .u16 many), (7, .pointer (some ⟨p, 0, none⟩)), (8, .int .i64 x.1)])
    (fun x => [MpA p x.2]) (fun x => x.1 ≤ R ∧ LX x.1 x.2) (fun x => R - x.1) (0, .nil) ⟨by omega, LX.nil⟩ ⟨rfl, rfl, rfl, rfl, rfl, trivial⟩ (by (repeat (first | exact Ent.refl _ | exact Ent.nil | refine Ent.take (by (repeat (first | exact Out.head | apply Out.tail)); (first | done | fail)) ?_ | refine Ent.drop1 ?_))) ?_
  rintro ⟨i, t⟩ G ⟨hi, hL⟩
  simp only at hi hL
  simp only [ov]
  have hfew := hL.few
  by_cases hi2 : i < R
  · obtain ⟨b1, hb1⟩ := u8_of (IntKind.i64.wrap ((i : Int).tdiv 128))
    obtain ⟨b2, hb2⟩ := u8_of ((i : Int).tmod 128)
    repeat' (first
      | refine Wc_seq ?_
      | refine thenQ_normal ?_
      | refine Wc_cond_t (h := ?_)
      | refine Wc_cond_f (h := ?_)
      | refine Wc_ret ?_
      | refine thenQ_ret ?_
      | refine Wc_block ?_
      | refine blkQ_normal ?_
      | refine blkQ_ret ?_
      | refine Wc_exit ?_
      | refine thenQ_exit ?_
      | refine blkQ_hit ?_
      | refine blkQ_miss rfl ?_
      | refine Wc_skip ?_
      | refine Wc_label ?_
      | refine loopQ_exit ?_
      | refine loopQ_ret ?_
      | refine loopQ_normal ?_
      | (refine Wc_region (id := 5) ?_; intro K hK; refine Wl_move (k := ?_); refine Wl_move (k := ?_); refine Wl_conv (k' := ?_); ((refine Wl_rem (k' := ?_); rw [hR])) <;> (refine Wl_lss (k' := ?_); (refine Wl_nil (hK _ _ ?_); clear hK K)))
      | (refine Wc_region (id := 6) ?_; intro K hK; refine Wl_move (k := ?_); refine Wl_add (k' := ?_); refine Wl_assign (k := ?_); (refine Wl_nil (hK _ _ ?_); clear hK K))
      | (refine Wc_region (id := 7) ?_; intro K hK; refine Wl_move (k := ?_); refine Wl_move (k := ?_); refine Wl_quo (k' := ?_); ((refine Wl_convW (k' := ?_); rw [hb1])) <;> (refine Wl_move (k := ?_); refine Wl_rem (k' := ?_); ((refine Wl_convW (k' := ?_); rw [hb2])) <;> (((refine Wl_lits (hv := (by rfl)) (k := ?_); intro r29)) <;> (((refine Wl_bytes_str (cs := [b1, b2]) (hsrc := (src_sl (b := r29) (by (repeat (first | exact Rd.head | exact Rd.base (by assumption) | apply Rd.tail)); (first | done | fail)) (by simp) rfl)) (hl := rfl) (k := ?_))) <;> (refine Wl_move (k := ?_); ((refine Wl_call (hs := (mset_spec B p t _ _ hL.aa (by omega))) (k := ?_); rintro v A' ⟨rfl, rfl⟩; simp only [List.cons_append, List.nil_append])) <;> ((refine Wl_nil (hK _ _ ?_); clear hK K)))))))
      | (refine Wc_cond (ht := (fun ht => ?_)) (hf := (fun ht => ?_)) <;> (try simp at ht) <;> (try (exfalso; omega))))
    refine ⟨(i + 1, t.set (bytesOf [b1, b2]) i), ⟨by simp only; omega, hL.set _ _⟩, by simp only; omega, ⟨rfl, rfl, rfl, rfl, int_succ' i, trivial⟩, ?_⟩
    (repeat (first | exact Ent.refl _ | exact Ent.nil | refine Ent.take (by (repeat (first | exact Out.head | apply Out.tail)); (first | done | fail)) ?_ | refine Ent.drop1 ?_))
  · obtain rfl : i = R := by omega
    repeat' (first
      | refine Wc_seq ?_
      | refine thenQ_normal ?_
      | refine Wc_cond_t (h := ?_)
      | refine Wc_cond_f (h := ?_)
      | refine Wc_ret ?_
      | refine thenQ_ret ?_
      | refine Wc_block ?_
      | refine blkQ_normal ?_
      | refine blkQ_ret ?_
      | refine Wc_exit ?_
      | refine thenQ_exit ?_
      | refine blkQ_hit ?_
      | refine blkQ_miss rfl ?_
      | refine Wc_skip ?_
      | refine Wc_label ?_
      | refine loopQ_exit ?_
      | refine loopQ_ret ?_
      | refine loopQ_normal ?_
      | (refine Wc_region (id := 5) ?_; intro K hK; refine Wl_move (k := ?_); refine Wl_move (k := ?_); refine Wl_conv (k' := ?_); ((refine Wl_rem (k' := ?_); rw [hR])) <;> (refine Wl_lss (k' := ?_); (refine Wl_nil (hK _ _ ?_); clear hK K)))
      | (refine Wc_region (id := 8) ?_; intro K hK; refine Wl_assign (k := ?_); (refine Wl_nil (hK _ _ ?_); clear hK K))
      | (refine Wc_cond (ht := (fun ht => ?_)) (hf := (fun ht => ?_)) <;> (try simp at ht) <;> (try (exfalso; omega))))
    refine Wc_loop (α := Nat × Tree) (fun x => [(0, .slice a1 m1 c1), (1, .slice a2 m2 c2), (2, .int .u16 many), (7, .pointer (some ⟨p, 0, none⟩)), (9, .int .i64 x.1)])
      (fun x => [MpA p x.2]) (fun x => x.1 ≤ m1 ∧ x.1 ≤ 500 ∧ LX (i + x.1) x.2) (fun x => m1 - x.1) (0, t) ⟨by omega, by omega, hL⟩ ⟨rfl, rfl, rfl, rfl, rfl, trivial⟩ (by (repeat (first | exact Ent.refl _ | exact Ent.nil | refine Ent.take (by (repeat (first | exact Out.head | apply Out.tail)); (first | done | fail)) ?_ | refine Ent.drop1 ?_))) ?_
    rintro ⟨j, t⟩ G ⟨hj, hj5, hL⟩
    simp only at hj hj5 hL
    simp only [ov]
    have hfew := hL.few
    by_cases hj2 : j < m1 ∧ j < 500
    · obtain ⟨q, hq⟩ : ∃ q, l1[j]? = some q := ⟨_, List.getElem?_eq_getElem (by omega)⟩
      obtain ⟨pp, rfl⟩ : ∃ p', a1 = some p' := by
        cases a1 with
        | none => have := h1.nil rfl; omega
        | some p' => exact ⟨p', rfl⟩
      have hqv : (l1.map Value.string)[j]? = some (.string q) := by rw [List.getElem?_map, hq]; rfl
      repeat' (first
        | refine Wc_seq ?_
        | refine thenQ_normal ?_
        | refine Wc_cond_t (h := ?_)
        | refine Wc_cond_f (h := ?_)
        | refine Wc_ret ?_
        | refine thenQ_ret ?_
        | refine Wc_block ?_
        | refine blkQ_normal ?_
        | refine blkQ_ret ?_
        | refine Wc_exit ?_
        | refine thenQ_exit ?_
        | refine blkQ_hit ?_
        | refine blkQ_miss rfl ?_
        | refine Wc_skip ?_
        | refine Wc_label ?_
        | refine loopQ_exit ?_
        | refine loopQ_ret ?_
        | refine loopQ_normal ?_
        | (refine Wc_region (id := 9) ?_; intro K hK; refine Wl_move (k := ?_); refine Wl_move (k := ?_); refine Wl_len_sl (k' := ?_); refine Wl_lss (k' := ?_); refine Wl_move (k := ?_); ((first | (refine Wl_guard (k := ?_); refine Wl_move (k := ?_)) | refine Wl_gno (k := ?_) | ((refine Wl_split (yes := (fun ht => ?_)) (no := (fun ht => ?_)) <;> (try simp at ht) <;> (try (exfalso; omega))) <;> (first | (refine Wl_guard (k := ?_); refine Wl_move (k := ?_)) | refine Wl_gno (k := ?_))))) <;> (((first | (refine Wl_guard (k := ?_); refine Wl_lss (k' := ?_)) | refine Wl_gno (k := ?_) | ((refine Wl_split (yes := (fun ht => ?_)) (no := (fun ht => ?_)) <;> (try simp at ht) <;> (try (exfalso; omega))) <;> (first | (refine Wl_guard (k := ?_); refine Wl_lss (k' := ?_)) | refine Wl_gno (k := ?_))))) <;> ((first | refine Wl_pick_t (k := ?_) | refine Wl_pick_f (k := ?_) | refine Wl_pick (k := ?_)); (refine Wl_nil (hK _ _ ?_); clear hK K))))
        | (refine Wc_region (id := 10) ?_; intro K hK; refine Wl_move (k := ?_); refine Wl_add (k' := ?_); refine Wl_assign (k := ?_); (refine Wl_nil (hK _ _ ?_); clear hK K))
        | (refine Wc_region (id := 11) ?_; intro K hK; refine Wl_move (k := ?_); refine Wl_move (k := ?_); refine Wl_move (k := ?_); ((refine Wl_index_any (k' := ?_))) <;> (((refine Wl_loadG (j := j) (v := .string q) (hq := (by rw [Int.toNat_natCast, Nat.mul_one])) (hr := h1.any) (hv := hqv) (k := ?_))) <;> (refine Wl_move (k := ?_); ((refine Wl_call (hs := (mset_spec B p t _ _ hL.aa (by omega))) (k := ?_); rintro v A' ⟨rfl, rfl⟩; simp only [List.cons_append, List.nil_append])) <;> ((refine Wl_nil (hK _ _ ?_); clear hK K)))))
        | (refine Wc_cond (ht := (fun ht => ?_)) (hf := (fun ht => ?_)) <;> (try simp at ht) <;> (try (exfalso; omega))))
      refine ⟨(j + 1, t.set q j), ⟨by simp only; omega, by simp only; omega, (hL.set _ _).mono (by omega)⟩, by simp only; omega, ⟨rfl, rfl, rfl, rfl, int_succ' j, trivial⟩, ?_⟩
      (repeat (first | exact Ent.refl _ | exact Ent.nil | refine Ent.take (by (repeat (first | exact Out.head | apply Out.tail)); (first | done | fail)) ?_ | refine Ent.drop1 ?_))
    · have hbd := hL.aa.bound
      repeat' (first
        | refine Wc_seq ?_
        | refine thenQ_normal ?_
        | refine Wc_cond_t (h := ?_)
        | refine Wc_cond_f (h := ?_)
        | refine Wc_ret ?_
        | refine thenQ_ret ?_
        | refine Wc_block ?_
        | refine blkQ_normal ?_
        | refine blkQ_ret ?_
        | refine Wc_exit ?_
        | refine thenQ_exit ?_
        | refine blkQ_hit ?_
        | refine blkQ_miss rfl ?_
        | refine Wc_skip ?_
        | refine Wc_label ?_
        | refine loopQ_exit ?_
        | refine loopQ_ret ?_
        | refine loopQ_normal ?_
        | (refine Wc_region (id := 9) ?_; intro K hK; refine Wl_move (k := ?_); refine Wl_move (k := ?_); refine Wl_len_sl (k' := ?_); refine Wl_lss (k' := ?_); refine Wl_move (k := ?_); ((first | (refine Wl_guard (k := ?_); refine Wl_move (k := ?_)) | refine Wl_gno (k := ?_) | ((refine Wl_split (yes := (fun ht => ?_)) (no := (fun ht => ?_)) <;> (try simp at ht) <;> (try (exfalso; omega))) <;> (first | (refine Wl_guard (k := ?_); refine Wl_move (k := ?_)) | refine Wl_gno (k := ?_))))) <;> (((first | (refine Wl_guard (k := ?_); refine Wl_lss (k' := ?_)) | refine Wl_gno (k := ?_) | ((refine Wl_split (yes := (fun ht => ?_)) (no := (fun ht => ?_)) <;> (try simp at ht) <;> (try (exfalso; omega))) <;> (first | (refine Wl_guard (k := ?_); refine Wl_lss (k' := ?_)) | refine Wl_gno (k := ?_))))) <;> ((first | refine Wl_pick_t (k := ?_) | refine Wl_pick_f (k := ?_) | refine Wl_pick (k := ?_)); (refine Wl_nil (hK _ _ ?_); clear hK K))))
        | (refine Wc_region (id := 12) ?_; intro K hK; refine Wl_move (k := ?_); ((refine Wl_call (hs := (mdepth_spec B p t (by omega))) (k := ?_); rintro v A' ⟨rfl, rfl⟩; simp only [List.cons_append, List.nil_append])) <;> (refine Wl_move (k := ?_); ((refine Wl_call (hs := (mlen_spec B p t)) (k := ?_); rintro v A' ⟨rfl, rfl⟩; simp only [List.cons_append, List.nil_append])) <;> (((refine Wl_call (hs := (bound_spec B t.size (by omega))) (k := ?_); rintro v A' ⟨rfl, rfl⟩; simp only [List.cons_append, List.nil_append])) <;> (refine Wl_gtr (k' := ?_); (refine Wl_nil (hK _ _ ?_); clear hK K)))))
        | (refine Wc_region (id := 13) ?_; intro K hK; refine Wl_assign (k := ?_); (refine Wl_nil (hK _ _ ?_); clear hK K))
        | (refine Wc_region (id := 14) ?_; intro K hK; refine Wl_assign (k := ?_); (refine Wl_nil (hK _ _ ?_); clear hK K))
        | (refine Wc_cond (ht := (fun ht => ?_)) (hf := (fun ht => ?_)) <;> (try simp at ht) <;> (try (exfalso; omega))))
      all_goals
        refine Wc_loop (α := Nat × Tree) (fun x => [(1, .slice a2 m2 c2), (2, .int .u16 many), (7, .pointer (some ⟨p, 0, none⟩)), (10, .int .i64 x.1)])
          (fun x => [MpA p x.2]) (fun x => x.1 ≤ m2 ∧ x.1 ≤ 500 ∧ LX (i + j) x.2) (fun x => m2 - x.1) (0, t) ⟨by omega, by omega, hL⟩ ⟨rfl, rfl, rfl, rfl, trivial⟩ (by (repeat (first | exact Ent.refl _ | exact Ent.nil | refine Ent.take (by (repeat (first | exact Out.head | apply Out.tail)); (first | done | fail)) ?_ | refine Ent.drop1 ?_))) ?_
        rintro ⟨q, t2⟩ G ⟨hq, hq5, hL2⟩
        simp only at hq hq5 hL2
        simp only [ov]
        have hfew2 := hL2.few
        by_cases hq2 : q < m2 ∧ q < 500
        · obtain ⟨y, hy⟩ : ∃ y, l2[q]? = some y := ⟨_, List.getElem?_eq_getElem (by omega)⟩
          obtain ⟨pp, rfl⟩ : ∃ p', a2 = some p' := by
            cases a2 with
            | none => have := h2.nil rfl; omega
            | some p' => exact ⟨p', rfl⟩
          have hyv : (l2.map Value.string)[q]? = some (.string y) := by rw [List.getElem?_map, hy]; rfl
          repeat' (first
            | refine Wc_seq ?_
            | refine thenQ_normal ?_
            | refine Wc_cond_t (h := ?_)
            | refine Wc_cond_f (h := ?_)
            | refine Wc_ret ?_
            | refine thenQ_ret ?_
            | refine Wc_block ?_
            | refine blkQ_normal ?_
            | refine blkQ_ret ?_
            | refine Wc_exit ?_
            | refine thenQ_exit ?_
            | refine blkQ_hit ?_
            | refine blkQ_miss rfl ?_
            | refine Wc_skip ?_
            | refine Wc_label ?_
            | refine loopQ_exit ?_
            | refine loopQ_ret ?_
            | refine loopQ_normal ?_
            | (refine Wc_region (id := 15) ?_; intro K hK; refine Wl_move (k := ?_); refine Wl_move (k := ?_); refine Wl_len_sl (k' := ?_); refine Wl_lss (k' := ?_); refine Wl_move (k := ?_); ((first | (refine Wl_guard (k := ?_); refine Wl_move (k := ?_)) | refine Wl_gno (k := ?_) | ((refine Wl_split (yes := (fun ht => ?_)) (no := (fun ht => ?_)) <;> (try simp at ht) <;> (try (exfalso; omega))) <;> (first | (refine Wl_guard (k := ?_); refine Wl_move (k := ?_)) | refine Wl_gno (k := ?_))))) <;> (((first | (refine Wl_guard (k := ?_); refine Wl_lss (k' := ?_)) | refine Wl_gno (k := ?_) | ((refine Wl_split (yes := (fun ht => ?_)) (no := (fun ht => ?_)) <;> (try simp at ht) <;> (try (exfalso; omega))) <;> (first | (refine Wl_guard (k := ?_); refine Wl_lss (k' := ?_)) | refine Wl_gno (k := ?_))))) <;> ((first | refine Wl_pick_t (k := ?_) | refine Wl_pick_f (k := ?_) | refine Wl_pick (k := ?_)); (refine Wl_nil (hK _ _ ?_); clear hK K))))
            | (refine Wc_region (id := 16) ?_; intro K hK; refine Wl_move (k := ?_); refine Wl_add (k' := ?_); refine Wl_assign (k := ?_); (refine Wl_nil (hK _ _ ?_); clear hK K))
            | (refine Wc_region (id := 17) ?_; intro K hK; refine Wl_move (k := ?_); refine Wl_move (k := ?_); refine Wl_move (k := ?_); ((refine Wl_index_any (k' := ?_))) <;> (((refine Wl_loadG (j := q) (v := .string y) (hq := (by rw [Int.toNat_natCast, Nat.mul_one])) (hr := h2.any) (hv := hyv) (k := ?_))) <;> (((refine Wl_call (hs := (mdel_spec B p t2 _ hL2.aa (by omega))) (k := ?_); rintro v A' ⟨rfl, rfl⟩; simp only [List.cons_append, List.nil_append])) <;> ((refine Wl_nil (hK _ _ ?_); clear hK K)))))
            | (refine Wc_cond (ht := (fun ht => ?_)) (hf := (fun ht => ?_)) <;> (try simp at ht) <;> (try (exfalso; omega))))
          refine ⟨(q + 1, t2.del y), ⟨by simp only; omega, by simp only; omega, hL2.del _⟩, by simp only; omega, ⟨rfl, rfl, rfl, int_succ' q, trivial⟩, ?_⟩
          (repeat (first | exact Ent.refl _ | exact Ent.nil | refine Ent.take (by (repeat (first | exact Out.head | apply Out.tail)); (first | done | fail)) ?_ | refine Ent.drop1 ?_))
        · repeat' (first
            | refine Wc_seq ?_
            | refine thenQ_normal ?_
            | refine Wc_cond_t (h := ?_)
            | refine Wc_cond_f (h := ?_)
            | refine Wc_ret ?_
            | refine thenQ_ret ?_
            | refine Wc_block ?_
            | refine blkQ_normal ?_
            | refine blkQ_ret ?_
            | refine Wc_exit ?_
            | refine thenQ_exit ?_
            | refine blkQ_hit ?_
            | refine blkQ_miss rfl ?_
            | refine Wc_skip ?_
            | refine Wc_label ?_
            | refine loopQ_exit ?_
            | refine loopQ_ret ?_
            | refine loopQ_normal ?_
            | (refine Wc_region (id := 15) ?_; intro K hK; refine Wl_move (k := ?_); refine Wl_move (k := ?_); refine Wl_len_sl (k' := ?_); refine Wl_lss (k' := ?_); refine Wl_move (k := ?_); ((first | (refine Wl_guard (k := ?_); refine Wl_move (k := ?_)) | refine Wl_gno (k := ?_) | ((refine Wl_split (yes := (fun ht => ?_)) (no := (fun ht => ?_)) <;> (try simp at ht) <;> (try (exfalso; omega))) <;> (first | (refine Wl_guard (k := ?_); refine Wl_move (k := ?_)) | refine Wl_gno (k := ?_))))) <;> (((first | (refine Wl_guard (k := ?_); refine Wl_lss (k' := ?_)) | refine Wl_gno (k := ?_) | ((refine Wl_split (yes := (fun ht => ?_)) (no := (fun ht => ?_)) <;> (try simp at ht) <;> (try (exfalso; omega))) <;> (first | (refine Wl_guard (k := ?_); refine Wl_lss (k' := ?_)) | refine Wl_gno (k := ?_))))) <;> ((first | refine Wl_pick_t (k := ?_) | refine Wl_pick_f (k := ?_) | refine Wl_pick (k := ?_)); (refine Wl_nil (hK _ _ ?_); clear hK K))))
            | (refine Wc_region (id := 18) ?_; intro K hK; refine Wl_assign (k := ?_); (refine Wl_nil (hK _ _ ?_); clear hK K))
            | (refine Wc_cond (ht := (fun ht => ?_)) (hf := (fun ht => ?_)) <;> (try simp at ht) <;> (try (exfalso; omega))))
          all_goals
            refine Wc_loop (α := Nat × Tree) (fun x => [(2, .int .u16 many), (7, .pointer (some ⟨p, 0, none⟩)), (11, .int .i64 x.1)])
              (fun x => [MpA p x.2]) (fun x => x.1 ≤ i + 1 ∧ LX (i + j) x.2) (fun x => i + 1 - x.1) (0, t2) ⟨by omega, hL2⟩ ⟨rfl, rfl, rfl, trivial⟩ (by (repeat (first | exact Ent.refl _ | exact Ent.nil | refine Ent.take (by (repeat (first | exact Out.head | apply Out.tail)); (first | done | fail)) ?_ | refine Ent.drop1 ?_))) ?_
            rintro ⟨u, t3⟩ G ⟨hu, hL3⟩
            simp only at hu hL3
            simp only [ov]
            have hfew3 := hL3.few
            by_cases hu2 : u < i
            · obtain ⟨b1, hb1⟩ := u8_of (IntKind.i64.wrap ((u : Int).tdiv 128))
              obtain ⟨b2, hb2⟩ := u8_of ((u : Int).tmod 128)
              repeat' (first
                | refine Wc_seq ?_
                | refine thenQ_normal ?_
                | refine Wc_cond_t (h := ?_)
                | refine Wc_cond_f (h := ?_)
                | refine Wc_ret ?_
                | refine thenQ_ret ?_
                | refine Wc_block ?_
                | refine blkQ_normal ?_
                | refine blkQ_ret ?_
                | refine Wc_exit ?_
                | refine thenQ_exit ?_
                | refine blkQ_hit ?_
                | refine blkQ_miss rfl ?_
                | refine Wc_skip ?_
                | refine Wc_label ?_
                | refine loopQ_exit ?_
                | refine loopQ_ret ?_
                | refine loopQ_normal ?_
                | (refine Wc_region (id := 19) ?_; intro K hK; refine Wl_move (k := ?_); refine Wl_move (k := ?_); refine Wl_conv (k' := ?_); ((refine Wl_rem (k' := ?_); rw [hR])) <;> (refine Wl_lss (k' := ?_); (refine Wl_nil (hK _ _ ?_); clear hK K)))
                | (refine Wc_region (id := 20) ?_; intro K hK; refine Wl_move (k := ?_); refine Wl_add (k' := ?_); refine Wl_assign (k := ?_); (refine Wl_nil (hK _ _ ?_); clear hK K))
                | (refine Wc_region (id := 21) ?_; intro K hK; refine Wl_move (k := ?_); refine Wl_move (k := ?_); refine Wl_quo (k' := ?_); ((refine Wl_convW (k' := ?_); rw [hb1])) <;> (refine Wl_move (k := ?_); refine Wl_rem (k' := ?_); ((refine Wl_convW (k' := ?_); rw [hb2])) <;> (((refine Wl_lits (hv := (by rfl)) (k := ?_); intro r86)) <;> (((refine Wl_bytes_str (cs := [b1, b2]) (hsrc := (src_sl (b := r86) (by (repeat (first | exact Rd.head | exact Rd.base (by assumption) | apply Rd.tail)); (first | done | fail)) (by simp) rfl)) (hl := rfl) (k := ?_))) <;> (((refine Wl_call (hs := (mdel_spec B p t3 _ hL3.aa (by omega))) (k := ?_); rintro v A' ⟨rfl, rfl⟩; simp only [List.cons_append, List.nil_append])) <;> ((refine Wl_nil (hK _ _ ?_); clear hK K)))))))
                | (refine Wc_cond (ht := (fun ht => ?_)) (hf := (fun ht => ?_)) <;> (try simp at ht) <;> (try (exfalso; omega))))
              refine ⟨(u + 2, t3.del (bytesOf [b1, b2])), ⟨by simp only; omega, hL3.del _⟩, by simp only; omega, ⟨rfl, rfl, congrArg (Value.int .i64) (by omega), trivial⟩, ?_⟩
              (repeat (first | exact Ent.refl _ | exact Ent.nil | refine Ent.take (by (repeat (first | exact Out.head | apply Out.tail)); (first | done | fail)) ?_ | refine Ent.drop1 ?_))
            · have hbd3 := hL3.aa.bound
              have hd0 := depth_0 (t := t3)
              repeat' (first
                | refine Wc_seq ?_
                | refine thenQ_normal ?_
                | refine Wc_cond_t (h := ?_)
                | refine Wc_cond_f (h := ?_)
                | refine Wc_ret ?_
                | refine thenQ_ret ?_
                | refine Wc_block ?_
                | refine blkQ_normal ?_
                | refine blkQ_ret ?_
                | refine Wc_exit ?_
                | refine thenQ_exit ?_
                | refine blkQ_hit ?_
                | refine blkQ_miss rfl ?_
                | refine Wc_skip ?_
                | refine Wc_label ?_
                | refine loopQ_exit ?_
                | refine loopQ_ret ?_
                | refine loopQ_normal ?_
                | (refine Wc_region (id := 19) ?_; intro K hK; refine Wl_move (k := ?_); refine Wl_move (k := ?_); refine Wl_conv (k' := ?_); ((refine Wl_rem (k' := ?_); rw [hR])) <;> (refine Wl_lss (k' := ?_); (refine Wl_nil (hK _ _ ?_); clear hK K)))
                | (refine Wc_region (id := 22) ?_; intro K hK; refine Wl_move (k := ?_); ((refine Wl_call (hs := (mdepth_spec B p t3 (by omega))) (k := ?_); rintro v A' ⟨rfl, rfl⟩; simp only [List.cons_append, List.nil_append])) <;> (refine Wl_move (k := ?_); ((refine Wl_call (hs := (mlen_spec B p t3)) (k := ?_); rintro v A' ⟨rfl, rfl⟩; simp only [List.cons_append, List.nil_append])) <;> (((refine Wl_call (hs := (bound_spec B t3.size (by omega))) (k := ?_); rintro v A' ⟨rfl, rfl⟩; simp only [List.cons_append, List.nil_append])) <;> (refine Wl_leq (k' := ?_); refine Wl_move (k := ?_); ((first | (refine Wl_guard (k := ?_); refine Wl_move (k := ?_)) | refine Wl_gno (k := ?_) | ((refine Wl_split (yes := (fun ht => ?_)) (no := (fun ht => ?_)) <;> (try simp at ht) <;> (try (exfalso; omega))) <;> (first | (refine Wl_guard (k := ?_); refine Wl_move (k := ?_)) | refine Wl_gno (k := ?_))))) <;> (((first | (refine Wl_guard (k := ?_); (refine Wl_call (hs := (mlen_spec B p t3)) (k := ?_); rintro v A' ⟨rfl, rfl⟩; simp only [List.cons_append, List.nil_append])) | refine Wl_gno (k := ?_) | ((refine Wl_split (yes := (fun ht => ?_)) (no := (fun ht => ?_)) <;> (try simp at ht) <;> (try (exfalso; omega))) <;> (first | (refine Wl_guard (k := ?_); (refine Wl_call (hs := (mlen_spec B p t3)) (k := ?_); rintro v A' ⟨rfl, rfl⟩; simp only [List.cons_append, List.nil_append])) | refine Wl_gno (k := ?_))))) <;> (((first | (refine Wl_guard (k := ?_); refine Wl_eql (k' := ?_)) | refine Wl_gno (k := ?_) | ((refine Wl_split (yes := (fun ht => ?_)) (no := (fun ht => ?_)) <;> (try simp at ht) <;> (try (exfalso; omega))) <;> (first | (refine Wl_guard (k := ?_); refine Wl_eql (k' := ?_)) | refine Wl_gno (k := ?_))))) <;> (((first | (refine Wl_guard (k := ?_); refine Wl_move (k := ?_)) | refine Wl_gno (k := ?_) | ((refine Wl_split (yes := (fun ht => ?_)) (no := (fun ht => ?_)) <;> (try simp at ht) <;> (try (exfalso; omega))) <;> (first | (refine Wl_guard (k := ?_); refine Wl_move (k := ?_)) | refine Wl_gno (k := ?_))))) <;> (((first | (refine Wl_guard (k := ?_); (refine Wl_call (hs := (mdepth_spec B p t3 (by omega))) (k := ?_); rintro v A' ⟨rfl, rfl⟩; simp only [List.cons_append, List.nil_append])) | refine Wl_gno (k := ?_) | ((refine Wl_split (yes := (fun ht => ?_)) (no := (fun ht => ?_)) <;> (try simp at ht) <;> (try (exfalso; omega))) <;> (first | (refine Wl_guard (k := ?_); (refine Wl_call (hs := (mdepth_spec B p t3 (by omega))) (k := ?_); rintro v A' ⟨rfl, rfl⟩; simp only [List.cons_append, List.nil_append])) | refine Wl_gno (k := ?_))))) <;> (((first | (refine Wl_guard (k := ?_); refine Wl_eql (k' := ?_)) | refine Wl_gno (k := ?_) | ((refine Wl_split (yes := (fun ht => ?_)) (no := (fun ht => ?_)) <;> (try simp at ht) <;> (try (exfalso; omega))) <;> (first | (refine Wl_guard (k := ?_); refine Wl_eql (k' := ?_)) | refine Wl_gno (k := ?_))))) <;> (((first | (refine Wl_guard (k := ?_); refine Wl_bool_eql (hU := Try.underlying4) (k' := ?_)) | refine Wl_gno (k := ?_) | ((refine Wl_split (yes := (fun ht => ?_)) (no := (fun ht => ?_)) <;> (try simp at ht) <;> (try (exfalso; omega))) <;> (first | (refine Wl_guard (k := ?_); refine Wl_bool_eql (hU := Try.underlying4) (k' := ?_)) | refine Wl_gno (k := ?_))))) <;> ((first | refine Wl_pick_t (k := ?_) | refine Wl_pick_f (k := ?_) | refine Wl_pick (k := ?_)); refine Wl_assign (k := ?_); (refine Wl_nil (hK _ _ ?_); clear hK K))))))))))))
                | (refine Wc_cond (ht := (fun ht => ?_)) (hf := (fun ht => ?_)) <;> (try simp at ht) <;> (try (exfalso; omega))))
              all_goals
                have e : decide ((t3.size : Int) = 0) = decide ((t3.depth : Int) = 0) := by congr 1; exact propext (by omega)
                refine ⟨Or.inr rfl, _, [], Ent.nil, res1 rfl rfl, congrArg Value.bool (?_ : (decide _ == decide _) = true), rfl⟩
                rw [e]; exact beq_self_eq_true _
end specs
end Go.Proofs.Ytdlpfeflndlpfaa
