/- The law's comparison of texts. No condition. -/
import Derived.Test.YtdlpfeflndlpfaaTold
set_option maxHeartbeats 8000000
set_option linter.unusedVariables false
set_option linter.unusedSimpArgs false
set_option maxRecDepth 100000
namespace Go.Proofs.Ytdlpfeflndlpfaa
open Go Go.Sl
attribute [local irreducible] Go.Sl.Wl Go.Sl.Wc Go.Sl.thenQ Go.Sl.blkQ Go.Sl.loopQ Go.Sl.Fspec

section specs
variable {B : Base}
theorem bytes_eq {a b : ByteArray} : (a.toList == b.toList) = decide (a = b) := by
  by_cases h : a = b
  · subst h; simp
  · have : a.toList ≠ b.toList := fun e => h (by
      rw [ByteArray.toList_eq, ByteArray.toList_eq] at e
      exact ByteArray.ext (Array.toList_inj.1 e))
    simp [h, this]
theorem alike_spec (X : Asn) (a b : Option Addr) (m c m' c' : Nat) (ks us : List ByteArray) (ha : RdS Try.prog B [X] 1 a m c (ks.map Value.string)) (hb : RdS Try.prog B [X] 1 b m' c' (us.map Value.string)) (hm : m ≤ 9223372036854775807) :
    Fspec Try.prog B 23 #[.slice a m c, .slice b m' c'] [X] (fun v A' => v = .bool (decide (ks = us)) ∧ A' = [X]) := by
  have hka : ks.length = m := by simpa using ha.len
  have hkb : us.length = m' := by simpa using hb.len
  refine spec_of (args := [_, _]) Try.func23 rfl rfl rfl ?_
  repeat' (first
    | refine Wc_seq ?_
    | refine thenQ_normal ?_
    | refine Wc_cond_t rfl ?_
    | refine Wc_cond_f rfl ?_
    | refine Wc_ret ?_
    | refine thenQ_ret ?_
    | refine Wc_block ?_
    | refine blkQ_normal ?_
    | refine blkQ_ret ?_
    | refine Wc_exit ?_
    | refine thenQ_exit ?_
    | refine blkQ_hit ?_
    | refine blkQ_miss rfl ?_
    | refine Wc_skip ?_
    | refine Wc_label ?_
    | refine loopQ_exit ?_
    | refine loopQ_ret ?_
    | refine loopQ_normal ?_
    | (refine Wc_region (id := 0) ?_; intro K hK; refine Wl_assign rfl (by (repeat (first | exact Ev.here | exact Ev.const | exact Ev.arg rfl | apply Ev.there rfl | exact Ev.none rfl | exact Ev.func | exact Ev.var)); (first | done | fail)) ?_; (refine Wl_nil (hK _ _ ?_); clear hK K))
    | (refine Wc_region (id := 1) ?_; intro K hK; refine Wl_move rfl (by (repeat (first | exact Ev.here | exact Ev.const | exact Ev.arg rfl | apply Ev.there rfl | exact Ev.none rfl | exact Ev.func | exact Ev.var)); (first | done | fail)) ?_; refine Wl_len_sl rfl rfl ?_; refine Wl_move rfl (by (repeat (first | exact Ev.here | exact Ev.const | exact Ev.arg rfl | apply Ev.there rfl | exact Ev.none rfl | exact Ev.func | exact Ev.var)); (first | done | fail)) ?_; refine Wl_len_sl rfl rfl ?_; refine Wl_neq rfl rfl rfl ?_; (refine Wl_nil (hK _ _ ?_); clear hK K))
    | (refine Wc_region (id := 2) ?_; intro K hK; refine Wl_assign rfl (by (repeat (first | exact Ev.here | exact Ev.const | exact Ev.arg rfl | apply Ev.there rfl | exact Ev.none rfl | exact Ev.func | exact Ev.var)); (first | done | fail)) ?_; (refine Wl_nil (hK _ _ ?_); clear hK K))
    | (refine Wc_region (id := 3) ?_; intro K hK; refine Wl_move rfl (by (repeat (first | exact Ev.here | exact Ev.const | exact Ev.arg rfl | apply Ev.there rfl | exact Ev.none rfl | exact Ev.func | exact Ev.var)); (first | done | fail)) ?_; refine Wl_len_sl rfl rfl ?_; refine Wl_move rfl (by (repeat (first | exact Ev.here | exact Ev.const | exact Ev.arg rfl | apply Ev.there rfl | exact Ev.none rfl | exact Ev.func | exact Ev.var)); (first | done | fail)) ?_; (refine Wl_nil (hK _ _ ?_); clear hK K))
    | (refine Wc_cond rfl (fun ht => ?_) (fun ht => ?_) <;> (try simp at ht) <;> (try (exfalso; omega))))
  · have hne : ks ≠ us := fun e => by
      subst e
      have : m = m' := hka.symm.trans hkb
      omega
    exact ⟨Or.inr rfl, .bool false, [X], Ent.refl _, res1 rfl rfl, by rw [decide_eq_false hne], rfl⟩
  · have hmm : m = m' := by omega
    subst hmm
    refine Wc_loop (α := Nat) (fun k => [(0, .slice a m c), (1, .slice b m c'), (12, .int .i64 m), (13, .int .i64 k)]) (fun _ => [X]) (fun k => k ≤ m ∧ ks.take k = us.take k) (fun k => m - k) 0 ⟨by omega, by simp⟩ ⟨rfl, rfl, rfl, rfl, trivial⟩ (Ent.refl _) ?_
    rintro k G ⟨hk, heq⟩
    simp only [ov]
    repeat' (first
      | refine Wc_seq ?_
      | refine thenQ_normal ?_
      | refine Wc_cond_t rfl ?_
      | refine Wc_cond_f rfl ?_
      | refine Wc_ret ?_
      | refine thenQ_ret ?_
      | refine Wc_block ?_
      | refine blkQ_normal ?_
      | refine blkQ_ret ?_
      | refine Wc_exit ?_
      | refine thenQ_exit ?_
      | refine blkQ_hit ?_
      | refine blkQ_miss rfl ?_
      | refine Wc_skip ?_
      | refine Wc_label ?_
      | refine loopQ_exit ?_
      | refine loopQ_ret ?_
      | refine loopQ_normal ?_
      | (refine Wc_region (id := 4) ?_; intro K hK; refine Wl_lss rfl rfl rfl ?_; (refine Wl_nil (hK _ _ ?_); clear hK K))
      | (refine Wc_region (id := 5) ?_; intro K hK; refine Wl_move rfl (by (repeat (first | exact Ev.here | exact Ev.const | exact Ev.arg rfl | apply Ev.there rfl | exact Ev.none rfl | exact Ev.func | exact Ev.var)); (first | done | fail)) ?_; refine Wl_assign rfl (by (repeat (first | exact Ev.here | exact Ev.const | exact Ev.arg rfl | apply Ev.there rfl | exact Ev.none rfl | exact Ev.func | exact Ev.var)); (first | done | fail)) ?_; (refine Wl_nil (hK _ _ ?_); clear hK K))
      | (refine Wc_cond rfl (fun ht => ?_) (fun ht => ?_) <;> (try simp at ht) <;> (try (exfalso; omega))))
    · obtain ⟨p, rfl⟩ : ∃ p, a = some p := by
        cases a with
        | none => have := ha.nil rfl; omega
        | some p => exact ⟨p, rfl⟩
      obtain ⟨q, rfl⟩ : ∃ q, b = some q := by
        cases b with
        | none => have := hb.nil rfl; omega
        | some p => exact ⟨p, rfl⟩
      obtain ⟨x, hx⟩ : ∃ x, ks[k]? = some x := ⟨ks[k]'(by omega), List.getElem?_eq_getElem (by omega)⟩
      obtain ⟨y, hy⟩ : ∃ y, us[k]? = some y := ⟨us[k]'(by omega), List.getElem?_eq_getElem (by omega)⟩
      have htk : ks.take (k + 1) = us.take (k + 1) ↔ x = y := by
        rw [List.take_add_one, List.take_add_one, hx, hy, heq]
        simp
      repeat' (first
        | refine Wc_seq ?_
        | refine thenQ_normal ?_
        | refine Wc_cond_t rfl ?_
        | refine Wc_cond_f rfl ?_
        | refine Wc_ret ?_
        | refine thenQ_ret ?_
        | refine Wc_block ?_
        | refine blkQ_normal ?_
        | refine blkQ_ret ?_
        | refine Wc_exit ?_
        | refine thenQ_exit ?_
        | refine blkQ_hit ?_
        | refine blkQ_miss rfl ?_
        | refine Wc_skip ?_
        | refine Wc_label ?_
        | refine loopQ_exit ?_
        | refine loopQ_ret ?_
        | refine loopQ_normal ?_
        | (refine Wc_drawF (id := 6) ([X]) [19, 23, 24] (by rw [drawOk_some]; decide +kernel) (by kernel_rfl) (Pick.perm (by (repeat (first | exact Pick.nil | apply Pick.cons (by (repeat (first | exact Out.head | apply Out.tail)); (first | done | fail)))); (first | done | fail))) ?_; intro K hK; refine Wl_move rfl (by (repeat (first | exact Ev.here | exact Ev.const | exact Ev.arg rfl | apply Ev.there rfl | exact Ev.none rfl | exact Ev.func | exact Ev.var)); (first | done | fail)) ?_; refine Wl_move rfl (by (repeat (first | exact Ev.here | exact Ev.const | exact Ev.arg rfl | apply Ev.there rfl | exact Ev.none rfl | exact Ev.func | exact Ev.var)); (first | done | fail)) ?_; ((refine Wl_index_any rfl rfl rfl (by omega) (by omega) ?_)) <;> (((refine Wl_loadGF (v := .string x) (j := k) rfl rfl (by rw [Int.toNat_natCast, Nat.mul_one]) ha (by rw [List.getElem?_map, hx]; rfl) ?_)) <;> (refine Wl_move rfl (by (repeat (first | exact Ev.here | exact Ev.const | exact Ev.arg rfl | apply Ev.there rfl | exact Ev.none rfl | exact Ev.func | exact Ev.var)); (first | done | fail)) ?_; refine Wl_move rfl (by (repeat (first | exact Ev.here | exact Ev.const | exact Ev.arg rfl | apply Ev.there rfl | exact Ev.none rfl | exact Ev.func | exact Ev.var)); (first | done | fail)) ?_; ((refine Wl_index_any rfl rfl rfl (by omega) (by omega) ?_)) <;> (((refine Wl_loadGF (v := .string y) (j := k) rfl rfl (by rw [Int.toNat_natCast, Nat.mul_one]) hb (by rw [List.getElem?_map, hy]; rfl) ?_)) <;> (((refine Wl_str_neq rfl rfl rfl ?_; rw [bytes_eq])) <;> ((refine Wl_nil (hK _ _ ?_); clear hK K; try simp only [List.cons_append, List.nil_append])))))))
        | (refine Wc_region (id := 7) ?_; intro K hK; refine Wl_assign rfl (by (repeat (first | exact Ev.here | exact Ev.const | exact Ev.arg rfl | apply Ev.there rfl | exact Ev.none rfl | exact Ev.func | exact Ev.var)); (first | done | fail)) ?_; (refine Wl_nil (hK _ _ ?_); clear hK K))
        | (refine Wc_region (id := 8) ?_; intro K hK; refine Wl_add rfl rfl rfl (by first | exact fits_i64 (by omega) | exact fits_u8 (by omega) | exact fits_u64 (by omega) | exact fits_u32 (by omega)) ?_; refine Wl_move rfl (by (repeat (first | exact Ev.here | exact Ev.const | exact Ev.arg rfl | apply Ev.there rfl | exact Ev.none rfl | exact Ev.func | exact Ev.var)); (first | done | fail)) ?_; (refine Wl_nil (hK _ _ ?_); clear hK K))
        | (refine Wc_cond rfl (fun ht => ?_) (fun ht => ?_) <;> (try simp at ht) <;> (try (exfalso; omega))))
      · exact ⟨Or.inr rfl, .bool false, [X], Ent.refl _, res1 rfl rfl, by rw [decide_eq_false (fun e => ht (htk.1 (by rw [e])))], rfl⟩
      · exact ⟨k + 1, ⟨by omega, htk.2 ht⟩, by omega, ⟨rfl, rfl, rfl, int_succ' k, trivial⟩, Ent.refl _⟩
    · repeat' (first
        | refine Wc_seq ?_
        | refine thenQ_normal ?_
        | refine Wc_cond_t rfl ?_
        | refine Wc_cond_f rfl ?_
        | refine Wc_ret ?_
        | refine thenQ_ret ?_
        | refine Wc_block ?_
        | refine blkQ_normal ?_
        | refine blkQ_ret ?_
        | refine Wc_exit ?_
        | refine thenQ_exit ?_
        | refine blkQ_hit ?_
        | refine blkQ_miss rfl ?_
        | refine Wc_skip ?_
        | refine Wc_label ?_
        | refine loopQ_exit ?_
        | refine loopQ_ret ?_
        | refine loopQ_normal ?_
        | (refine Wc_region (id := 9) ?_; intro K hK; refine Wl_assign rfl (by (repeat (first | exact Ev.here | exact Ev.const | exact Ev.arg rfl | apply Ev.there rfl | exact Ev.none rfl | exact Ev.func | exact Ev.var)); (first | done | fail)) ?_; (refine Wl_nil (hK _ _ ?_); clear hK K))
        | (refine Wc_cond rfl (fun ht => ?_) (fun ht => ?_) <;> (try simp at ht) <;> (try (exfalso; omega))))
      have he : ks = us := by rwa [List.take_of_length_le (by omega), List.take_of_length_le (by omega)] at heq
      exact ⟨Or.inr rfl, .bool true, [X], Ent.refl _, res1 rfl rfl, by rw [decide_eq_true he], rfl⟩
end specs
end Go.Proofs.Ytdlpfeflndlpfaa
