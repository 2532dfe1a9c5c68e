/- The document's journal: numbers, bytes, sectors. Conditions: sizes far from the kind's edges. -/
import Derived.Test.YtdlpfeflndlpfaaParts13
set_option maxHeartbeats 8000000
set_option linter.unusedVariables false
set_option linter.unusedSimpArgs false
set_option maxRecDepth 100000
namespace Go.Proofs.Ytdlpfeflndlpfaa
open Go Go.Sl
attribute [local irreducible] Go.Sl.Wl Go.Sl.Wc Go.Sl.thenQ Go.Sl.blkQ Go.Sl.loopQ Go.Sl.Fspec

theorem bytes_app (a b : List UInt8) : bytesOf a ++ bytesOf b = bytesOf (a ++ b) := by
  apply ByteArray.ext
  simp [bytesOf, ByteArray.data_append]
theorem bytes_size (a : List UInt8) : (bytesOf a).size = a.length := by simp [bytesOf, ByteArray.size]
theorem bytes_get (a : List UInt8) (i : Nat) : (bytesOf a)[i]? = a[i]? := by
  by_cases h : i < a.length
  · rw [List.getElem?_eq_getElem h, getElem?_pos (bytesOf a) i (by rw [bytes_size]; exact h)]
    simp [bytesOf, ByteArray.getElem_eq_getElem_data]
  · rw [List.getElem?_eq_none (by omega), getElem?_neg (bytesOf a) i (by rw [bytes_size]; exact h)]
theorem bytes_cut (a : List UInt8) (i j : Nat) : (bytesOf a).extract i j = bytesOf ((a.take j).drop i) := by
  apply ByteArray.ext
  apply Array.ext'
  simp [bytesOf, ByteArray.data_extract, List.extract_eq_take_drop, List.drop_take]
def strV (l : List UInt8) : Value := .string (bytesOf l)
/-- A number of bytes, the highest first. -/
def numL (l : List UInt8) : Nat := l.foldl (fun n b => 256 * n + b.toNat) 0
theorem numL_snoc (l : List UInt8) (b : UInt8) : numL (l ++ [b]) = 256 * numL l + b.toNat := by simp [numL]
theorem numL_lt : ∀ k (l : List UInt8), l.length = k → k ≤ 4 → numL l < 256 ^ k
  | 0, l, h, _ => by
    have : l = [] := List.length_eq_zero_iff.1 h
    subst this; simp [numL]
  | k + 1, l, h, hk => by
    obtain ⟨m, b, rfl⟩ : ∃ m b, l = m ++ [b] := by
      rcases List.eq_nil_or_concat l with rfl | ⟨m, b, rfl⟩
      · simp at h
      · exact ⟨m, b, List.concat_eq_append⟩
    have := numL_lt k m (by simpa using h) (by omega)
    have hb := u8_lt b
    rw [numL_snoc]
    have : k = 0 ∨ k = 1 ∨ k = 2 ∨ k = 3 := by omega
    rcases this with rfl | rfl | rfl | rfl <;> omega
theorem numL_small (l : List UInt8) (h : l.length ≤ 4) : numL l < 4294967296 := by
  have h2 := numL_lt l.length l rfl h
  have : l.length = 0 ∨ l.length = 1 ∨ l.length = 2 ∨ l.length = 3 ∨ l.length = 4 := by omega
  rcases this with e | e | e | e | e <;> rw [e] at h2 <;> omega
theorem numL_num4 (l : List UInt8) (h : l.length = 4) : numL l = num4 l := by
  match l, h with
  | [a, b, c, d], _ =>
    have ha := u8_lt a; have hb := u8_lt b; have hc := u8_lt c; have hd := u8_lt d
    show 256 * (256 * (256 * (256 * 0 + a.toNat) + b.toNat) + c.toNat) + d.toNat = 16777216 * a.toNat + 65536 * b.toNat + 256 * c.toNat + d.toNat
    omega
def bL (n : Nat) : Nat → List UInt8
  | 0 => []
  | k + 1 => be n k :: bL n k
theorem bL_length (n : Nat) : ∀ k, (bL n k).length = k
  | 0 => rfl
  | k + 1 => by simp [bL, bL_length n k]
theorem bL_set (n k many : Nat) (h : k < many) : (List.replicate (many - k) (0 : UInt8) ++ bL n k).set (many - 1 - k) (be n k) = List.replicate (many - (k + 1)) 0 ++ bL n (k + 1) := by
  obtain ⟨q, rfl⟩ : ∃ q, many = k + 1 + q := ⟨many - (k + 1), by omega⟩
  rw [show k + 1 + q - k = q + 1 by omega, show k + 1 + q - 1 - k = q by omega, show k + 1 + q - (k + 1) = q by omega, List.replicate_succ', List.append_assoc, List.set_append_right _ _ (by simp)]
  simp [bL]
theorem byte_rem (n k : Nat) : IntKind.u8.wrap (((n / 256 ^ k : Nat) : Int).tmod 256) = ((be n k).toNat : Int) := by
  rw [IntKind.wrap_u8, be_toNat, Int.tmod_eq_emod_of_nonneg (Int.natCast_nonneg _)]
  push_cast; omega
theorem quo256 (n k : Nat) (h : n ≤ 9223372036854775807) : IntKind.i64.wrap (((n / 256 ^ k : Nat) : Int).tdiv 256) = ((n / 256 ^ (k + 1) : Nat) : Int) := by
  have h1 : n / 256 ^ k ≤ n := Nat.div_le_self _ _
  rw [Nat.pow_succ, ← Nat.div_div_eq_div_mul]
  generalize n / 256 ^ k = q at *
  rw [Int.tdiv_eq_ediv_of_nonneg (Int.natCast_nonneg _)]
  exact (fits_i64 (by omega)).trans (by omega)
section specs
variable {B : Base}
theorem number_spec (A0 : List Asn) (l : List UInt8) (hl : l.length ≤ 4) : Fspec Try.prog B 68 #[.string (bytesOf l)] A0 (fun v A' => v = .int .i64 (numL l) ∧ A' = A0) := by
  refine spec_of (args := [_]) Try.func68 rfl rfl rfl ?_
  repeat' (first
    | refine Wc_seq ?_
    | refine thenQ_normal ?_
    | refine Wc_cond_t (h := ?_)
    | refine Wc_cond_f (h := ?_)
    | refine Wc_ret ?_
    | refine thenQ_ret ?_
    | refine Wc_block ?_
    | refine blkQ_normal ?_
    | refine blkQ_ret ?_
    | refine Wc_exit ?_
    | refine thenQ_exit ?_
    | refine blkQ_hit ?_
    | refine blkQ_miss rfl ?_
    | refine Wc_skip ?_
    | refine Wc_label ?_
    | refine loopQ_exit ?_
    | refine loopQ_ret ?_
    | refine loopQ_normal ?_
    | (refine Wc_region (id := 0) ?_; intro K hK; refine Wl_assign (k := ?_); (refine Wl_nil (hK _ _ ?_); clear hK K))
    | (refine Wc_region (id := 1) ?_; intro K hK; refine Wl_assign (k := ?_); (refine Wl_nil (hK _ _ ?_); clear hK K))
    | (refine Wc_region (id := 2) ?_; intro K hK; refine Wl_assign (k := ?_); (refine Wl_nil (hK _ _ ?_); clear hK K))
    | (refine Wc_cond (ht := (fun ht => ?_)) (hf := (fun ht => ?_)) <;> (try simp at ht) <;> (try (exfalso; omega))))
  refine Wc_loop (α := Nat) (fun i => [(0, .string (bytesOf l)), (3, .int .i64 (numL (l.take i))), (4, .int .i64 i)]) (fun _ => A0) (fun i => i ≤ l.length) (fun i => l.length - i) 0 (Nat.zero_le _) ⟨rfl, rfl, rfl, trivial⟩ (Ent.refl _) ?_
  intro i G hi
  simp only [ov]
  have hsz := bytes_size l
  by_cases hlt : i < l.length
  · obtain ⟨b, hb⟩ : ∃ b, l[i]? = some b := ⟨_, List.getElem?_eq_getElem hlt⟩
    have ht : l.take (i + 1) = l.take i ++ [b] := by rw [List.take_add_one, hb]; rfl
    have h1 := numL_small (l.take i) (by simp; omega)
    have h2 := numL_snoc (l.take i) b
    have hbu := u8_lt b
    rw [← ht] at h2
    repeat' (first
      | refine Wc_seq ?_
      | refine thenQ_normal ?_
      | refine Wc_cond_t (h := ?_)
      | refine Wc_cond_f (h := ?_)
      | refine Wc_ret ?_
      | refine thenQ_ret ?_
      | refine Wc_block ?_
      | refine blkQ_normal ?_
      | refine blkQ_ret ?_
      | refine Wc_exit ?_
      | refine thenQ_exit ?_
      | refine blkQ_hit ?_
      | refine blkQ_miss rfl ?_
      | refine Wc_skip ?_
      | refine Wc_label ?_
      | refine loopQ_exit ?_
      | refine loopQ_ret ?_
      | refine loopQ_normal ?_
      | (refine Wc_region (id := 3) ?_; intro K hK; refine Wl_move (k := ?_); refine Wl_move (k := ?_); refine Wl_len_str (k' := ?_); refine Wl_lss (k' := ?_); (refine Wl_nil (hK _ _ ?_); clear hK K))
      | (refine Wc_region (id := 4) ?_; intro K hK; refine Wl_move (k := ?_); refine Wl_add (k' := ?_); refine Wl_assign (k := ?_); (refine Wl_nil (hK _ _ ?_); clear hK K))
      | (refine Wc_region (id := 5) ?_; intro K hK; refine Wl_move (k := ?_); refine Wl_mul (k' := ?_); refine Wl_move (k := ?_); refine Wl_move (k := ?_); ((refine Wl_index_str (c := b) (h0 := by omega) (hl := by rw [Int.toNat_natCast, bytes_get]; exact hb) (k' := ?_))) <;> (refine Wl_conv (k' := ?_); ((refine Wl_add (k' := ?_); rw [show (numL (l.take i) : Int) * 256 + (b.toNat : Int) = (numL (l.take (i + 1)) : Int) by omega])) <;> (refine Wl_assign (k := ?_); (refine Wl_nil (hK _ _ ?_); clear hK K))))
      | (refine Wc_region (id := 6) ?_; intro K hK; refine Wl_move (k := ?_); refine Wl_assign (k := ?_); (refine Wl_nil (hK _ _ ?_); clear hK K))
      | (refine Wc_cond (ht := (fun ht => ?_)) (hf := (fun ht => ?_)) <;> (try simp at ht) <;> (try (exfalso; omega))))
    exact ⟨i + 1, by omega, by omega, ⟨rfl, rfl, int_succ i, trivial⟩, Ent.refl _⟩
  · obtain rfl : i = l.length := by omega
    rw [List.take_length]
    repeat' (first
      | refine Wc_seq ?_
      | refine thenQ_normal ?_
      | refine Wc_cond_t (h := ?_)
      | refine Wc_cond_f (h := ?_)
      | refine Wc_ret ?_
      | refine thenQ_ret ?_
      | refine Wc_block ?_
      | refine blkQ_normal ?_
      | refine blkQ_ret ?_
      | refine Wc_exit ?_
      | refine thenQ_exit ?_
      | refine blkQ_hit ?_
      | refine blkQ_miss rfl ?_
      | refine Wc_skip ?_
      | refine Wc_label ?_
      | refine loopQ_exit ?_
      | refine loopQ_ret ?_
      | refine loopQ_normal ?_
      | (refine Wc_region (id := 3) ?_; intro K hK; refine Wl_move (k := ?_); refine Wl_move (k := ?_); refine Wl_len_str (k' := ?_); refine Wl_lss (k' := ?_); (refine Wl_nil (hK _ _ ?_); clear hK K))
      | (refine Wc_region (id := 6) ?_; intro K hK; refine Wl_move (k := ?_); refine Wl_assign (k := ?_); (refine Wl_nil (hK _ _ ?_); clear hK K))
      | (refine Wc_cond (ht := (fun ht => ?_)) (hf := (fun ht => ?_)) <;> (try simp at ht) <;> (try (exfalso; omega))))
    exact ⟨Or.inr rfl, _, A0, Ent.refl _, res1 rfl rfl, rfl, rfl⟩
theorem rbytes_spec (A0 : List Asn) (n many : Nat) (hn : n ≤ 9223372036854775807) (hm : many ≤ 8) : Fspec Try.prog B 71 #[.int .i64 n, .int .i64 many] A0 (fun v A' => v = .string (bytesOf (bL n many)) ∧ A' = A0) := by
  refine spec_of (args := [_, _]) Try.func71 rfl rfl rfl ?_
  repeat' (first
    | refine Wc_seq ?_
    | refine thenQ_normal ?_
    | refine Wc_cond_t (h := ?_)
    | refine Wc_cond_f (h := ?_)
    | refine Wc_ret ?_
    | refine thenQ_ret ?_
    | refine Wc_block ?_
    | refine blkQ_normal ?_
    | refine blkQ_ret ?_
    | refine Wc_exit ?_
    | refine thenQ_exit ?_
    | refine blkQ_hit ?_
    | refine blkQ_miss rfl ?_
    | refine Wc_skip ?_
    | refine Wc_label ?_
    | refine loopQ_exit ?_
    | refine loopQ_ret ?_
    | refine loopQ_normal ?_
    | (refine Wc_region (id := 0) ?_; intro K hK; refine Wl_assign (k := ?_); (refine Wl_nil (hK _ _ ?_); clear hK K))
    | (refine Wc_region (id := 1) ?_; intro K hK; refine Wl_move (k := ?_); ((refine Wl_makeSlice (hle := Nat.le_refl _) (hb := by omega) (hc := by omega) (k := ?_); intro r)) <;> (refine Wl_assign (k := ?_); (refine Wl_nil (hK _ _ ?_); clear hK K)))
    | (refine Wc_region (id := 2) ?_; intro K hK; refine Wl_move (k := ?_); refine Wl_sub (k' := ?_); refine Wl_assign (k := ?_); (refine Wl_nil (hK _ _ ?_); clear hK K))
    | (refine Wc_cond (ht := (fun ht => ?_)) (hf := (fun ht => ?_)) <;> (try simp at ht) <;> (try (exfalso; omega))))
  refine Wc_loop (α := Nat) (fun k => [(0, .int .i64 (n / 256 ^ k : Nat)), (1, .int .i64 many), (5, .slice (some ⟨r, 0, none⟩) many many), (6, .int .i64 ((many : Int) - 1 - k))])
    (fun k => cb r ((List.replicate (many - k) 0 ++ bL n k).map byteV) 5 :: A0) (fun k => k ≤ many) (fun k => many - k) 0 (Nat.zero_le _) ⟨by simp; rfl, rfl, rfl, by simp; rfl, trivial⟩ (by
      have e : cyc [.int .u8 0] (many * 1) = (List.replicate (many - 0) (0 : UInt8) ++ bL n 0).map byteV := by
        rw [show ([.int .u8 0] : List Value) = List.replicate 1 (byteV 0) from rfl, cyc_rep _ _ _ (by omega)]
        simp [bL]
      rw [e]; exact Ent.refl _) ?_
  intro k G hk
  simp only [ov]
  have hdl : n / 256 ^ k ≤ n := Nat.div_le_self _ _
  by_cases hlt : k < many
  · repeat' (first
      | refine Wc_seq ?_
      | refine thenQ_normal ?_
      | refine Wc_cond_t (h := ?_)
      | refine Wc_cond_f (h := ?_)
      | refine Wc_ret ?_
      | refine thenQ_ret ?_
      | refine Wc_block ?_
      | refine blkQ_normal ?_
      | refine blkQ_ret ?_
      | refine Wc_exit ?_
      | refine thenQ_exit ?_
      | refine blkQ_hit ?_
      | refine blkQ_miss rfl ?_
      | refine Wc_skip ?_
      | refine Wc_label ?_
      | refine loopQ_exit ?_
      | refine loopQ_ret ?_
      | refine loopQ_normal ?_
      | (refine Wc_region (id := 3) ?_; intro K hK; refine Wl_move (k := ?_); refine Wl_geq (k' := ?_); (refine Wl_nil (hK _ _ ?_); clear hK K))
      | (refine Wc_region (id := 4) ?_; intro K hK; refine Wl_move (k := ?_); refine Wl_sub (k' := ?_); refine Wl_assign (k := ?_); (refine Wl_nil (hK _ _ ?_); clear hK K))
      | (refine Wc_region (id := 5) ?_; intro K hK; refine Wl_move (k := ?_); refine Wl_move (k := ?_); refine Wl_move (k := ?_); refine Wl_rem (k' := ?_); ((refine Wl_convW (k' := ?_); rw [byte_rem n k])) <;> (refine Wl_index_sl (k' := ?_); ((refine Wl_store (l' := (List.replicate (many - (k + 1)) 0 ++ bL n (k + 1)).map byteV) (ho := rfl) (hs := by rw [← bL_set n k many hlt]; exact sat_map (by omega) (by simp [bL_length]; omega)) (k := ?_))) <;> ((refine Wl_nil (hK _ _ ?_); clear hK K))))
      | (refine Wc_region (id := 6) ?_; intro K hK; refine Wl_move (k := ?_); ((refine Wl_quo (k' := ?_); rw [quo256 n k hn])) <;> (refine Wl_assign (k := ?_); (refine Wl_nil (hK _ _ ?_); clear hK K)))
      | (refine Wc_region (id := 7) ?_; intro K hK; refine Wl_move (k := ?_))
      | (refine Wc_cond (ht := (fun ht => ?_)) (hf := (fun ht => ?_)) <;> (try simp at ht) <;> (try (exfalso; omega))))
    exact ⟨k + 1, by omega, by omega, ⟨rfl, rfl, rfl, by first | exact congrArg (Value.int .i64) (by omega) | rfl, trivial⟩, Ent.refl _⟩
  · obtain rfl : k = many := by omega
    repeat' (first
      | refine Wc_seq ?_
      | refine thenQ_normal ?_
      | refine Wc_cond_t (h := ?_)
      | refine Wc_cond_f (h := ?_)
      | refine Wc_ret ?_
      | refine thenQ_ret ?_
      | refine Wc_block ?_
      | refine blkQ_normal ?_
      | refine blkQ_ret ?_
      | refine Wc_exit ?_
      | refine thenQ_exit ?_
      | refine blkQ_hit ?_
      | refine blkQ_miss rfl ?_
      | refine Wc_skip ?_
      | refine Wc_label ?_
      | refine loopQ_exit ?_
      | refine loopQ_ret ?_
      | refine loopQ_normal ?_
      | (refine Wc_region (id := 3) ?_; intro K hK; refine Wl_move (k := ?_); refine Wl_geq (k' := ?_); (refine Wl_nil (hK _ _ ?_); clear hK K))
      | (refine Wc_region (id := 7) ?_; intro K hK; refine Wl_move (k := ?_); ((refine Wl_bytes_str (cs := bL n k) (hsrc := src_sl (b := r) (by (repeat (first | exact Rd.head | exact Rd.base (by assumption) | apply Rd.tail)); (first | done | fail)) (by simp [bL_length]) (by simp; exact List.take_of_length_le (by simp [bL_length]))) (hl := bL_length n k) (k := ?_))) <;> (refine Wl_assign (k := ?_); (refine Wl_nil (hK _ _ ?_); clear hK K)))
      | (refine Wc_cond (ht := (fun ht => ?_)) (hf := (fun ht => ?_)) <;> (try simp at ht) <;> (try (exfalso; omega))))
    exact ⟨Or.inr rfl, _, A0, (by (repeat (first | exact Ent.refl _ | exact Ent.nil | refine Ent.take (by (repeat (first | exact Out.head | apply Out.tail)); (first | done | fail)) ?_ | refine Ent.drop1 ?_))), res1 rfl rfl, rfl, rfl⟩
end specs
end Go.Proofs.Ytdlpfeflndlpfaa
