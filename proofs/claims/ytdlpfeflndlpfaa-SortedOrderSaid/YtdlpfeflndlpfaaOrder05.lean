/- SortedOrder: what it answers. -/
import Derived.Test.YtdlpfeflndlpfaaSame05B
import Derived.Test.YtdlpfeflndlpfaaFrom
set_option maxHeartbeats 8000000
set_option linter.unusedVariables false
set_option linter.unusedSimpArgs false
set_option maxRecDepth 100000
namespace Go.Proofs.Ytdlpfeflndlpfaa
open Go Go.Sl
attribute [local irreducible] Go.Sl.Wl Go.Sl.Wc Go.Sl.thenQ Go.Sl.blkQ Go.Sl.loopQ Go.Sl.Fspec

theorem get_in {t : Tree} {l : KL} (h : Has t l) (k : ByteArray) : getV k (t.from k none) = match lget l k with
    | some v => .tuple #[.int .i64 v, .bool true]
    | none => .tuple #[.int .i64 0, .bool false] := by
  rw [Tree.from_in t k none (by rw [h.eq]; exact h.ris), h.eq, Option.or_none]
  exact lfrom_get h.ris
section specs
variable (B : Base)
theorem order_spec (a1 : Option Addr) (m1 c1 : Nat) (l1 : List ByteArray) (h1 : RdS Try.prog B [] 1 a1 m1 c1 (l1.map Value.string)) (hm1 : m1 ≤ 9223372036854775807)
    (a2 : Option Addr) (m2 c2 : Nat) (l2 : List ByteArray) (h2 : RdS Try.prog B [] 1 a2 m2 c2 (l2.map Value.string)) (hm2 : m2 ≤ 9223372036854775807) (hs1 : ∀ k ∈ l1, k.size ≤ 9223372036854775807) (hs2 : ∀ k ∈ l2, k.size ≤ 9223372036854775807) :
    Fspec Try.prog B 8 #[.slice a1 m1 c1, .slice a2 m2 c2] [] (fun v A' => v = .bool true ∧ A' = []) := by
  have hl1 : l1.length = m1 := by have := h1.len; simpa using this
  have hl2 : l2.length = m2 := by have := h2.len; simpa using this
  refine spec_of (args := [_, _]) Try.func8 rfl rfl rfl ?_
  by_cases hb : m1 ≤ 300 ∧ m2 ≤ 300
  · obtain ⟨hb1, hb2⟩ := hb
    have hszF := fillL_len l1 []
    have hszG := fillL_len l2 []
    simp only [List.length_nil] at hszF hszG
    repeat' (first
      | refine Wc_seq ?_
      | refine thenQ_normal ?_
      | refine Wc_cond_t rfl ?_
      | refine Wc_cond_f rfl ?_
      | refine Wc_ret ?_
      | refine thenQ_ret ?_
      | refine Wc_block ?_
      | refine blkQ_normal ?_
      | refine blkQ_ret ?_
      | refine Wc_exit ?_
      | refine thenQ_exit ?_
      | refine blkQ_hit ?_
      | refine blkQ_miss rfl ?_
      | refine Wc_skip ?_
      | refine Wc_label ?_
      | refine loopQ_exit ?_
      | refine loopQ_ret ?_
      | refine loopQ_normal ?_
      | (refine Wc_region (id := 0) ?_; intro K hK; refine Wl_assign rfl (by (repeat (first | exact Ev.here | exact Ev.const | exact Ev.arg rfl | apply Ev.there rfl | exact Ev.none rfl | exact Ev.func | exact Ev.var)); (first | done | fail)) ?_; (refine Wl_nil (hK _ _ ?_); clear hK K))
      | (refine Wc_region (id := 1) ?_; intro K hK; refine Wl_call rfl (by (repeat (first | exact EvL.nil | apply EvL.cons (by (repeat (first | exact Ev.here | exact Ev.const | exact Ev.arg rfl | apply Ev.there rfl | exact Ev.none rfl | exact Ev.func | exact Ev.var)); (first | done | fail)))); (first | done | fail)) (awake05_spec B) (by (repeat (first | exact Pick.nil | apply Pick.cons (by (repeat (first | exact Out.head | apply Out.tail)); (first | done | fail)))); (first | done | fail)) ?_; (rintro v A' ⟨rfl, rfl⟩ <;> (try simp only [List.cons_append, List.nil_append])); refine Wl_not rfl rfl ?_; (refine Wl_nil (hK _ _ ?_); clear hK K))
      | (refine Wc_region (id := 2) ?_; intro K hK; refine Wl_assign rfl (by (repeat (first | exact Ev.here | exact Ev.const | exact Ev.arg rfl | apply Ev.there rfl | exact Ev.none rfl | exact Ev.func | exact Ev.var)); (first | done | fail)) ?_; (refine Wl_nil (hK _ _ ?_); clear hK K))
      | (refine Wc_region (id := 3) ?_; intro K hK; refine Wl_move rfl (by (repeat (first | exact Ev.here | exact Ev.const | exact Ev.arg rfl | apply Ev.there rfl | exact Ev.none rfl | exact Ev.func | exact Ev.var)); (first | done | fail)) ?_; refine Wl_len_sl rfl rfl ?_; refine Wl_gtr rfl rfl rfl ?_; refine Wl_move rfl (by (repeat (first | exact Ev.here | exact Ev.const | exact Ev.arg rfl | apply Ev.there rfl | exact Ev.none rfl | exact Ev.func | exact Ev.var)); (first | done | fail)) ?_; ((first | (refine Wl_guard rfl ?_; refine Wl_move rfl (by (repeat (first | exact Ev.here | exact Ev.const | exact Ev.arg rfl | apply Ev.there rfl | exact Ev.none rfl | exact Ev.func | exact Ev.var)); (first | done | fail)) ?_) | refine Wl_guard_no rfl rfl rfl ?_ | refine Wl_guard_un rfl rfl ?_ | ((refine Wl_split rfl rfl (fun ht => ?_) (fun ht => ?_) <;> (try simp at ht) <;> (try (exfalso; omega))) <;> (first | (refine Wl_guard rfl ?_; refine Wl_move rfl (by (repeat (first | exact Ev.here | exact Ev.const | exact Ev.arg rfl | apply Ev.there rfl | exact Ev.none rfl | exact Ev.func | exact Ev.var)); (first | done | fail)) ?_) | refine Wl_guard_no rfl rfl rfl ?_ | refine Wl_guard_un rfl rfl ?_)))) <;> (((first | (refine Wl_guard rfl ?_; refine Wl_len_sl rfl rfl ?_) | refine Wl_guard_no rfl rfl rfl ?_ | refine Wl_guard_un rfl rfl ?_ | ((refine Wl_split rfl rfl (fun ht => ?_) (fun ht => ?_) <;> (try simp at ht) <;> (try (exfalso; omega))) <;> (first | (refine Wl_guard rfl ?_; refine Wl_len_sl rfl rfl ?_) | refine Wl_guard_no rfl rfl rfl ?_ | refine Wl_guard_un rfl rfl ?_)))) <;> (((first | (refine Wl_guard rfl ?_; refine Wl_gtr rfl rfl rfl ?_) | refine Wl_guard_no rfl rfl rfl ?_ | refine Wl_guard_un rfl rfl ?_ | ((refine Wl_split rfl rfl (fun ht => ?_) (fun ht => ?_) <;> (try simp at ht) <;> (try (exfalso; omega))) <;> (first | (refine Wl_guard rfl ?_; refine Wl_gtr rfl rfl rfl ?_) | refine Wl_guard_no rfl rfl rfl ?_ | refine Wl_guard_un rfl rfl ?_)))) <;> ((first | refine Wl_pick_t rfl rfl (by (repeat (first | exact Ev.here | exact Ev.const | exact Ev.arg rfl | apply Ev.there rfl | exact Ev.none rfl | exact Ev.func | exact Ev.var)); (first | done | fail)) ?_ | refine Wl_pick_f rfl rfl (by (repeat (first | exact Ev.here | exact Ev.const | exact Ev.arg rfl | apply Ev.there rfl | exact Ev.none rfl | exact Ev.func | exact Ev.var)); (first | done | fail)) ?_ | refine Wl_pick rfl rfl rfl ?_); (refine Wl_nil (hK _ _ ?_); clear hK K)))))
      | (refine Wc_region (id := 4) ?_; intro K hK; refine Wl_assign rfl (by (repeat (first | exact Ev.here | exact Ev.const | exact Ev.arg rfl | apply Ev.there rfl | exact Ev.none rfl | exact Ev.func | exact Ev.var)); (first | done | fail)) ?_; (refine Wl_nil (hK _ _ ?_); clear hK K))
      | (refine Wc_region (id := 5) ?_; intro K hK; refine Wl_move rfl (by (repeat (first | exact Ev.here | exact Ev.const | exact Ev.arg rfl | apply Ev.there rfl | exact Ev.none rfl | exact Ev.func | exact Ev.var)); (first | done | fail)) ?_; ((refine Wl_call rfl (by (repeat (first | exact EvL.nil | apply EvL.cons (by (repeat (first | exact Ev.here | exact Ev.const | exact Ev.arg rfl | apply Ev.there rfl | exact Ev.none rfl | exact Ev.func | exact Ev.var)); (first | done | fail)))); (first | done | fail)) (filled_spec a1 m1 c1 l1 h1 hb1 hs1) (by (repeat (first | exact Pick.nil | apply Pick.cons (by (repeat (first | exact Out.head | apply Out.tail)); (first | done | fail)))); (first | done | fail)) ?_; rintro v A' ⟨p, t, rfl, ht0, rfl⟩; simp only [List.cons_append, List.nil_append])) <;> (refine Wl_assign rfl (by (repeat (first | exact Ev.here | exact Ev.const | exact Ev.arg rfl | apply Ev.there rfl | exact Ev.none rfl | exact Ev.func | exact Ev.var)); (first | done | fail)) ?_; (refine Wl_nil (hK _ _ ?_); clear hK K)))
      | (refine Wc_region (id := 6) ?_; intro K hK; refine Wl_move rfl (by (repeat (first | exact Ev.here | exact Ev.const | exact Ev.arg rfl | apply Ev.there rfl | exact Ev.none rfl | exact Ev.func | exact Ev.var)); (first | done | fail)) ?_; ((refine Wl_call rfl (by (repeat (first | exact EvL.nil | apply EvL.cons (by (repeat (first | exact Ev.here | exact Ev.const | exact Ev.arg rfl | apply Ev.there rfl | exact Ev.none rfl | exact Ev.func | exact Ev.var)); (first | done | fail)))); (first | done | fail)) (filled_spec a2 m2 c2 l2 h2 hb2 hs2) (by (repeat (first | exact Pick.nil | apply Pick.cons (by (repeat (first | exact Out.head | apply Out.tail)); (first | done | fail)))); (first | done | fail)) ?_; rintro v A' ⟨q, t1, rfl, ht1, rfl⟩; simp only [List.cons_append, List.nil_append])) <;> (refine Wl_assign rfl (by (repeat (first | exact Ev.here | exact Ev.const | exact Ev.arg rfl | apply Ev.there rfl | exact Ev.none rfl | exact Ev.func | exact Ev.var)); (first | done | fail)) ?_; (refine Wl_nil (hK _ _ ?_); clear hK K)))
      | (refine Wc_region (id := 7) ?_; intro K hK; refine Wl_move rfl (by (repeat (first | exact Ev.here | exact Ev.const | exact Ev.arg rfl | apply Ev.there rfl | exact Ev.none rfl | exact Ev.func | exact Ev.var)); (first | done | fail)) ?_; refine Wl_len_sl rfl rfl ?_; refine Wl_sub rfl rfl rfl (by first | exact fits_i64 (by omega) | exact fits_u8 (by omega) | exact fits_u64 (by omega) | exact fits_u32 (by omega)) ?_; refine Wl_assign rfl (by (repeat (first | exact Ev.here | exact Ev.const | exact Ev.arg rfl | apply Ev.there rfl | exact Ev.none rfl | exact Ev.func | exact Ev.var)); (first | done | fail)) ?_; (refine Wl_nil (hK _ _ ?_); clear hK K))
      | (refine Wc_cond rfl (fun ht => ?_) (fun ht => ?_) <;> (try simp at ht) <;> (try (exfalso; omega))))
    have hsz0 : t.size ≤ 300 := by rw [ht0.size]; omega
    refine Wc_loop (α := Nat × Tree) (fun x => [(0, .slice a1 m1 c1), (1, .slice a2 m2 c2), (5, .pointer (some ⟨p, 0, none⟩)), (6, .pointer (some ⟨q, 0, none⟩)), (7, .int .i64 ((m1 : Int) - 1 - x.1))])
      (fun x => [MpA q x.2, MpA p t]) (fun x => x.1 ≤ m1 ∧ Has x.2 (fillL (fillL [] l2) (l1.reverse.take x.1))) (fun x => m1 - x.1) (0, t1) ⟨by omega, ht1⟩ ⟨rfl, rfl, rfl, rfl, congrArg (Value.int .i64) (by simp), trivial⟩ (by (repeat (first | exact Ent.refl _ | exact Ent.nil | refine Ent.take (by (repeat (first | exact Out.head | apply Out.tail)); (first | done | fail)) ?_ | refine Ent.drop1 ?_))) ?_
    rintro ⟨i, t2⟩ G ⟨hi, hL⟩
    simp only at hi hL
    simp only [ov]
    have hfew : t2.size ≤ 600 := by
      have h2 := fillL_len (l1.reverse.take i) (fillL [] l2)
      rw [hL.size]
      simp only [List.length_take, List.length_reverse] at h2; omega
    by_cases hi2 : i < m1
    · obtain ⟨x, hx⟩ : ∃ x, l1[m1 - 1 - i]? = some x := ⟨l1[m1 - 1 - i]'(by omega), List.getElem?_eq_getElem (by omega)⟩
      have hxr : l1.reverse[i]? = some x := by rw [List.getElem?_reverse (by omega), hl1]; exact hx
      have hxs := hs1 x (List.mem_of_getElem? hx)
      have hix : ((m1 : Int) - 1 - i).toNat = m1 - 1 - i := by omega
      obtain ⟨b1, rfl⟩ : ∃ b1, a1 = some b1 := by
        cases a1 with
        | none => have := h1.nil rfl; omega
        | some p => exact ⟨p, rfl⟩
      repeat' (first
        | refine Wc_seq ?_
        | refine thenQ_normal ?_
        | refine Wc_cond_t rfl ?_
        | refine Wc_cond_f rfl ?_
        | refine Wc_ret ?_
        | refine thenQ_ret ?_
        | refine Wc_block ?_
        | refine blkQ_normal ?_
        | refine blkQ_ret ?_
        | refine Wc_exit ?_
        | refine thenQ_exit ?_
        | refine blkQ_hit ?_
        | refine blkQ_miss rfl ?_
        | refine Wc_skip ?_
        | refine Wc_label ?_
        | refine loopQ_exit ?_
        | refine loopQ_ret ?_
        | refine loopQ_normal ?_
        | (refine Wc_region (id := 8) ?_; intro K hK; refine Wl_move rfl (by (repeat (first | exact Ev.here | exact Ev.const | exact Ev.arg rfl | apply Ev.there rfl | exact Ev.none rfl | exact Ev.func | exact Ev.var)); (first | done | fail)) ?_; refine Wl_geq rfl rfl rfl ?_; (refine Wl_nil (hK _ _ ?_); clear hK K))
        | (refine Wc_region (id := 9) ?_; intro K hK; refine Wl_move rfl (by (repeat (first | exact Ev.here | exact Ev.const | exact Ev.arg rfl | apply Ev.there rfl | exact Ev.none rfl | exact Ev.func | exact Ev.var)); (first | done | fail)) ?_; refine Wl_sub rfl rfl rfl (by first | exact fits_i64 (by omega) | exact fits_u8 (by omega) | exact fits_u64 (by omega) | exact fits_u32 (by omega)) ?_; refine Wl_assign rfl (by (repeat (first | exact Ev.here | exact Ev.const | exact Ev.arg rfl | apply Ev.there rfl | exact Ev.none rfl | exact Ev.func | exact Ev.var)); (first | done | fail)) ?_; (refine Wl_nil (hK _ _ ?_); clear hK K))
        | (refine Wc_drawF (id := 10) ([]) [36, 40, 41] (by rw [drawOk_some]; decide +kernel) (by kernel_rfl) (Pick.perm (by (repeat (first | exact Pick.nil | apply Pick.cons (by (repeat (first | exact Out.head | apply Out.tail)); (first | done | fail)))); (first | done | fail))) ?_; intro K hK; refine Wl_move rfl (by (repeat (first | exact Ev.here | exact Ev.const | exact Ev.arg rfl | apply Ev.there rfl | exact Ev.none rfl | exact Ev.func | exact Ev.var)); (first | done | fail)) ?_; refine Wl_move rfl (by (repeat (first | exact Ev.here | exact Ev.const | exact Ev.arg rfl | apply Ev.there rfl | exact Ev.none rfl | exact Ev.func | exact Ev.var)); (first | done | fail)) ?_; refine Wl_move rfl (by (repeat (first | exact Ev.here | exact Ev.const | exact Ev.arg rfl | apply Ev.there rfl | exact Ev.none rfl | exact Ev.func | exact Ev.var)); (first | done | fail)) ?_; ((refine Wl_index_any rfl rfl rfl (by omega) (by omega) ?_)) <;> (((refine Wl_loadGF (v := .string x) (j := m1 - 1 - i) rfl rfl (by rw [hix, Nat.mul_one]) h1 (by rw [List.getElem?_map, hx]; rfl) ?_)) <;> (refine Wl_move rfl (by (repeat (first | exact Ev.here | exact Ev.const | exact Ev.arg rfl | apply Ev.there rfl | exact Ev.none rfl | exact Ev.func | exact Ev.var)); (first | done | fail)) ?_; refine Wl_move rfl (by (repeat (first | exact Ev.here | exact Ev.const | exact Ev.arg rfl | apply Ev.there rfl | exact Ev.none rfl | exact Ev.func | exact Ev.var)); (first | done | fail)) ?_; ((refine Wl_index_any rfl rfl rfl (by omega) (by omega) ?_)) <;> (((refine Wl_loadGF (v := .string x) (j := m1 - 1 - i) rfl rfl (by rw [hix, Nat.mul_one]) h1 (by rw [List.getElem?_map, hx]; rfl) ?_)) <;> (refine Wl_len_str rfl rfl ?_; ((refine Wl_call rfl (by (repeat (first | exact EvL.nil | apply EvL.cons (by (repeat (first | exact Ev.here | exact Ev.const | exact Ev.arg rfl | apply Ev.there rfl | exact Ev.none rfl | exact Ev.func | exact Ev.var)); (first | done | fail)))); (first | done | fail)) (mset_spec B q t2 _ _ hL.aa (by omega)) (by (repeat (first | exact Pick.nil | apply Pick.cons (by (repeat (first | exact Out.head | apply Out.tail)); (first | done | fail)))); (first | done | fail)) ?_; rintro v A' ⟨rfl, rfl⟩; simp only [List.cons_append, List.nil_append])) <;> ((refine Wl_nil (hK _ _ ?_); clear hK K; try simp only [List.cons_append, List.nil_append])))))))
        | (refine Wc_cond rfl (fun ht => ?_) (fun ht => ?_) <;> (try simp at ht) <;> (try (exfalso; omega))))
      refine ⟨(i + 1, t2.set x x.size), ⟨by simp only; omega, ?_⟩, by simp only; omega, ⟨rfl, rfl, rfl, rfl, congrArg (Value.int .i64) (by simp only; omega), trivial⟩, by simp only; (repeat (first | exact Ent.refl _ | exact Ent.nil | refine Ent.take (by (repeat (first | exact Out.head | apply Out.tail)); (first | done | fail)) ?_ | refine Ent.drop1 ?_))⟩
      have h3 := hL.set x (x.size : Int)
      rw [← fillL_snoc] at h3
      have h4 : l1.reverse.take (i + 1) = l1.reverse.take i ++ [x] := by rw [List.take_add_one, hxr]; rfl
      show Has _ (fillL _ (l1.reverse.take (i + 1)))
      rw [h4]; exact h3
    · obtain rfl : i = m1 := by omega
      rw [List.take_of_length_le (by simp; omega)] at hL
      repeat' (first
        | refine Wc_seq ?_
        | refine thenQ_normal ?_
        | refine Wc_cond_t rfl ?_
        | refine Wc_cond_f rfl ?_
        | refine Wc_ret ?_
        | refine thenQ_ret ?_
        | refine Wc_block ?_
        | refine blkQ_normal ?_
        | refine blkQ_ret ?_
        | refine Wc_exit ?_
        | refine thenQ_exit ?_
        | refine blkQ_hit ?_
        | refine blkQ_miss rfl ?_
        | refine Wc_skip ?_
        | refine Wc_label ?_
        | refine loopQ_exit ?_
        | refine loopQ_ret ?_
        | refine loopQ_normal ?_
        | (refine Wc_region (id := 8) ?_; intro K hK; refine Wl_move rfl (by (repeat (first | exact Ev.here | exact Ev.const | exact Ev.arg rfl | apply Ev.there rfl | exact Ev.none rfl | exact Ev.func | exact Ev.var)); (first | done | fail)) ?_; refine Wl_geq rfl rfl rfl ?_; (refine Wl_nil (hK _ _ ?_); clear hK K))
        | (refine Wc_region (id := 11) ?_; intro K hK; refine Wl_move rfl (by (repeat (first | exact Ev.here | exact Ev.const | exact Ev.arg rfl | apply Ev.there rfl | exact Ev.none rfl | exact Ev.func | exact Ev.var)); (first | done | fail)) ?_; refine Wl_len_sl rfl rfl ?_; refine Wl_move rfl (by (repeat (first | exact Ev.here | exact Ev.const | exact Ev.arg rfl | apply Ev.there rfl | exact Ev.none rfl | exact Ev.func | exact Ev.var)); (first | done | fail)) ?_; (refine Wl_nil (hK _ _ ?_); clear hK K))
        | (refine Wc_cond rfl (fun ht => ?_) (fun ht => ?_) <;> (try simp at ht) <;> (try (exfalso; omega))))
      refine Wc_loop (α := Nat × Tree) (fun x => [(1, .slice a2 m2 c2), (5, .pointer (some ⟨p, 0, none⟩)), (6, .pointer (some ⟨q, 0, none⟩)), (44, .int .i64 m2), (45, .int .i64 x.1)])
        (fun x => [MpA q x.2, MpA p t]) (fun x => x.1 ≤ m2 ∧ Has x.2 (cutL (fillL [] l1) (fillL (fillL [] l2) l1.reverse) (l2.take x.1))) (fun x => m2 - x.1) (0, t2) ⟨by omega, hL⟩ ⟨rfl, rfl, rfl, rfl, rfl, trivial⟩ (by (repeat (first | exact Ent.refl _ | exact Ent.nil | refine Ent.take (by (repeat (first | exact Out.head | apply Out.tail)); (first | done | fail)) ?_ | refine Ent.drop1 ?_))) ?_
      clear hL hfew t2
      rintro ⟨j, t2⟩ G ⟨hj, hL⟩
      simp only at hj hL
      simp only [ov]
      have hfew : t2.size ≤ 600 := by
        have h2 := fillL_len l1.reverse (fillL [] l2)
        have h3 := cutL_len (fillL [] l1) (l2.take j) (fillL (fillL [] l2) l1.reverse)
        rw [hL.size]
        simp only [List.length_reverse] at h2; omega
      by_cases hj2 : j < m2
      · obtain ⟨x, hx⟩ : ∃ x, l2[j]? = some x := ⟨l2[j]'(by omega), List.getElem?_eq_getElem (by omega)⟩
        obtain ⟨b2, rfl⟩ : ∃ b2, a2 = some b2 := by
          cases a2 with
          | none => have := h2.nil rfl; omega
          | some p => exact ⟨p, rfl⟩
        have h4 : l2.take (j + 1) = l2.take j ++ [x] := by rw [List.take_add_one, hx]; rfl
        have hg := get_in ht0 x
        cases hgl : lget (fillL [] l1) x with
        | none =>
          rw [hgl] at hg
          repeat' (first
            | refine Wc_seq ?_
            | refine thenQ_normal ?_
            | refine Wc_cond_t rfl ?_
            | refine Wc_cond_f rfl ?_
            | refine Wc_ret ?_
            | refine thenQ_ret ?_
            | refine Wc_block ?_
            | refine blkQ_normal ?_
            | refine blkQ_ret ?_
            | refine Wc_exit ?_
            | refine thenQ_exit ?_
            | refine blkQ_hit ?_
            | refine blkQ_miss rfl ?_
            | refine Wc_skip ?_
            | refine Wc_label ?_
            | refine loopQ_exit ?_
            | refine loopQ_ret ?_
            | refine loopQ_normal ?_
            | (refine Wc_region (id := 12) ?_; intro K hK; refine Wl_lss rfl rfl rfl ?_; (refine Wl_nil (hK _ _ ?_); clear hK K))
            | (refine Wc_region (id := 13) ?_; intro K hK; refine Wl_move rfl (by (repeat (first | exact Ev.here | exact Ev.const | exact Ev.arg rfl | apply Ev.there rfl | exact Ev.none rfl | exact Ev.func | exact Ev.var)); (first | done | fail)) ?_; refine Wl_assign rfl (by (repeat (first | exact Ev.here | exact Ev.const | exact Ev.arg rfl | apply Ev.there rfl | exact Ev.none rfl | exact Ev.func | exact Ev.var)); (first | done | fail)) ?_; (refine Wl_nil (hK _ _ ?_); clear hK K))
            | (refine Wc_region (id := 14) ?_; intro K hK; refine Wl_move rfl (by (repeat (first | exact Ev.here | exact Ev.const | exact Ev.arg rfl | apply Ev.there rfl | exact Ev.none rfl | exact Ev.func | exact Ev.var)); (first | done | fail)) ?_; refine Wl_move rfl (by (repeat (first | exact Ev.here | exact Ev.const | exact Ev.arg rfl | apply Ev.there rfl | exact Ev.none rfl | exact Ev.func | exact Ev.var)); (first | done | fail)) ?_; refine Wl_move rfl (by (repeat (first | exact Ev.here | exact Ev.const | exact Ev.arg rfl | apply Ev.there rfl | exact Ev.none rfl | exact Ev.func | exact Ev.var)); (first | done | fail)) ?_; ((refine Wl_index_any rfl rfl rfl (by omega) (by omega) ?_)) <;> (((refine Wl_loadG (v := .string x) (j := j) (by decide) rfl rfl (by rw [Int.toNat_natCast, Nat.mul_one]) h2.any (by rw [List.getElem?_map, hx]; rfl) ?_)) <;> (((refine Wl_call rfl (by (repeat (first | exact EvL.nil | apply EvL.cons (by (repeat (first | exact Ev.here | exact Ev.const | exact Ev.arg rfl | apply Ev.there rfl | exact Ev.none rfl | exact Ev.func | exact Ev.var)); (first | done | fail)))); (first | done | fail)) (get_spec B p t x) (by (repeat (first | exact Pick.nil | apply Pick.cons (by (repeat (first | exact Out.head | apply Out.tail)); (first | done | fail)))); (first | done | fail)) ?_; rintro v A' ⟨rfl, rfl⟩; simp only [List.cons_append, List.nil_append]; rw [hg])) <;> (refine Wl_move rfl (by (repeat (first | exact Ev.here | exact Ev.const | exact Ev.arg rfl | apply Ev.there rfl | exact Ev.none rfl | exact Ev.func | exact Ev.var)); (first | done | fail)) ?_; refine Wl_extract rfl rfl rfl ?_; refine Wl_extract rfl rfl rfl ?_; refine Wl_assign rfl (by (repeat (first | exact Ev.here | exact Ev.const | exact Ev.arg rfl | apply Ev.there rfl | exact Ev.none rfl | exact Ev.func | exact Ev.var)); (first | done | fail)) ?_; refine Wl_assign rfl (by (repeat (first | exact Ev.here | exact Ev.const | exact Ev.arg rfl | apply Ev.there rfl | exact Ev.none rfl | exact Ev.func | exact Ev.var)); (first | done | fail)) ?_; (refine Wl_nil (hK _ _ ?_); clear hK K)))))
            | (refine Wc_region (id := 15) ?_; intro K hK; refine Wl_move rfl (by (repeat (first | exact Ev.here | exact Ev.const | exact Ev.arg rfl | apply Ev.there rfl | exact Ev.none rfl | exact Ev.func | exact Ev.var)); (first | done | fail)) ?_; refine Wl_not rfl rfl ?_; (refine Wl_nil (hK _ _ ?_); clear hK K))
            | (refine Wc_region (id := 16) ?_; intro K hK; refine Wl_move rfl (by (repeat (first | exact Ev.here | exact Ev.const | exact Ev.arg rfl | apply Ev.there rfl | exact Ev.none rfl | exact Ev.func | exact Ev.var)); (first | done | fail)) ?_; refine Wl_move rfl (by (repeat (first | exact Ev.here | exact Ev.const | exact Ev.arg rfl | apply Ev.there rfl | exact Ev.none rfl | exact Ev.func | exact Ev.var)); (first | done | fail)) ?_; refine Wl_move rfl (by (repeat (first | exact Ev.here | exact Ev.const | exact Ev.arg rfl | apply Ev.there rfl | exact Ev.none rfl | exact Ev.func | exact Ev.var)); (first | done | fail)) ?_; ((refine Wl_index_any rfl rfl rfl (by omega) (by omega) ?_)) <;> (((refine Wl_loadG (v := .string x) (j := j) (by decide) rfl rfl (by rw [Int.toNat_natCast, Nat.mul_one]) h2.any (by rw [List.getElem?_map, hx]; rfl) ?_)) <;> (((refine Wl_call rfl (by (repeat (first | exact EvL.nil | apply EvL.cons (by (repeat (first | exact Ev.here | exact Ev.const | exact Ev.arg rfl | apply Ev.there rfl | exact Ev.none rfl | exact Ev.func | exact Ev.var)); (first | done | fail)))); (first | done | fail)) (mdel_spec B q t2 _ hL.aa (by omega)) (by (repeat (first | exact Pick.nil | apply Pick.cons (by (repeat (first | exact Out.head | apply Out.tail)); (first | done | fail)))); (first | done | fail)) ?_; rintro v A' ⟨rfl, rfl⟩; simp only [List.cons_append, List.nil_append])) <;> ((refine Wl_nil (hK _ _ ?_); clear hK K)))))
            | (refine Wc_region (id := 17) ?_; intro K hK; refine Wl_add rfl rfl rfl (by first | exact fits_i64 (by omega) | exact fits_u8 (by omega) | exact fits_u64 (by omega) | exact fits_u32 (by omega)) ?_; refine Wl_move rfl (by (repeat (first | exact Ev.here | exact Ev.const | exact Ev.arg rfl | apply Ev.there rfl | exact Ev.none rfl | exact Ev.func | exact Ev.var)); (first | done | fail)) ?_; (refine Wl_nil (hK _ _ ?_); clear hK K))
            | (refine Wc_cond rfl (fun ht => ?_) (fun ht => ?_) <;> (try simp at ht) <;> (try (exfalso; omega))))
          refine ⟨(j + 1, t2.del x), ⟨by simp only; omega, ?_⟩, by simp only; omega, ⟨rfl, rfl, rfl, rfl, int_succ' j, trivial⟩, by simp only; (repeat (first | exact Ent.refl _ | exact Ent.nil | refine Ent.take (by (repeat (first | exact Out.head | apply Out.tail)); (first | done | fail)) ?_ | refine Ent.drop1 ?_))⟩
          show Has _ (cutL _ _ (l2.take (j + 1)))
          rw [h4, cutL_snoc, if_pos hgl]; exact hL.del x
        | some v0 =>
          rw [hgl] at hg
          repeat' (first
            | refine Wc_seq ?_
            | refine thenQ_normal ?_
            | refine Wc_cond_t rfl ?_
            | refine Wc_cond_f rfl ?_
            | refine Wc_ret ?_
            | refine thenQ_ret ?_
            | refine Wc_block ?_
            | refine blkQ_normal ?_
            | refine blkQ_ret ?_
            | refine Wc_exit ?_
            | refine thenQ_exit ?_
            | refine blkQ_hit ?_
            | refine blkQ_miss rfl ?_
            | refine Wc_skip ?_
            | refine Wc_label ?_
            | refine loopQ_exit ?_
            | refine loopQ_ret ?_
            | refine loopQ_normal ?_
            | (refine Wc_region (id := 12) ?_; intro K hK; refine Wl_lss rfl rfl rfl ?_; (refine Wl_nil (hK _ _ ?_); clear hK K))
            | (refine Wc_region (id := 13) ?_; intro K hK; refine Wl_move rfl (by (repeat (first | exact Ev.here | exact Ev.const | exact Ev.arg rfl | apply Ev.there rfl | exact Ev.none rfl | exact Ev.func | exact Ev.var)); (first | done | fail)) ?_; refine Wl_assign rfl (by (repeat (first | exact Ev.here | exact Ev.const | exact Ev.arg rfl | apply Ev.there rfl | exact Ev.none rfl | exact Ev.func | exact Ev.var)); (first | done | fail)) ?_; (refine Wl_nil (hK _ _ ?_); clear hK K))
            | (refine Wc_region (id := 14) ?_; intro K hK; refine Wl_move rfl (by (repeat (first | exact Ev.here | exact Ev.const | exact Ev.arg rfl | apply Ev.there rfl | exact Ev.none rfl | exact Ev.func | exact Ev.var)); (first | done | fail)) ?_; refine Wl_move rfl (by (repeat (first | exact Ev.here | exact Ev.const | exact Ev.arg rfl | apply Ev.there rfl | exact Ev.none rfl | exact Ev.func | exact Ev.var)); (first | done | fail)) ?_; refine Wl_move rfl (by (repeat (first | exact Ev.here | exact Ev.const | exact Ev.arg rfl | apply Ev.there rfl | exact Ev.none rfl | exact Ev.func | exact Ev.var)); (first | done | fail)) ?_; ((refine Wl_index_any rfl rfl rfl (by omega) (by omega) ?_)) <;> (((refine Wl_loadG (v := .string x) (j := j) (by decide) rfl rfl (by rw [Int.toNat_natCast, Nat.mul_one]) h2.any (by rw [List.getElem?_map, hx]; rfl) ?_)) <;> (((refine Wl_call rfl (by (repeat (first | exact EvL.nil | apply EvL.cons (by (repeat (first | exact Ev.here | exact Ev.const | exact Ev.arg rfl | apply Ev.there rfl | exact Ev.none rfl | exact Ev.func | exact Ev.var)); (first | done | fail)))); (first | done | fail)) (get_spec B p t x) (by (repeat (first | exact Pick.nil | apply Pick.cons (by (repeat (first | exact Out.head | apply Out.tail)); (first | done | fail)))); (first | done | fail)) ?_; rintro v A' ⟨rfl, rfl⟩; simp only [List.cons_append, List.nil_append]; rw [hg])) <;> (refine Wl_move rfl (by (repeat (first | exact Ev.here | exact Ev.const | exact Ev.arg rfl | apply Ev.there rfl | exact Ev.none rfl | exact Ev.func | exact Ev.var)); (first | done | fail)) ?_; refine Wl_extract rfl rfl rfl ?_; refine Wl_extract rfl rfl rfl ?_; refine Wl_assign rfl (by (repeat (first | exact Ev.here | exact Ev.const | exact Ev.arg rfl | apply Ev.there rfl | exact Ev.none rfl | exact Ev.func | exact Ev.var)); (first | done | fail)) ?_; refine Wl_assign rfl (by (repeat (first | exact Ev.here | exact Ev.const | exact Ev.arg rfl | apply Ev.there rfl | exact Ev.none rfl | exact Ev.func | exact Ev.var)); (first | done | fail)) ?_; (refine Wl_nil (hK _ _ ?_); clear hK K)))))
            | (refine Wc_region (id := 15) ?_; intro K hK; refine Wl_move rfl (by (repeat (first | exact Ev.here | exact Ev.const | exact Ev.arg rfl | apply Ev.there rfl | exact Ev.none rfl | exact Ev.func | exact Ev.var)); (first | done | fail)) ?_; refine Wl_not rfl rfl ?_; (refine Wl_nil (hK _ _ ?_); clear hK K))
            | (refine Wc_region (id := 16) ?_; intro K hK; refine Wl_move rfl (by (repeat (first | exact Ev.here | exact Ev.const | exact Ev.arg rfl | apply Ev.there rfl | exact Ev.none rfl | exact Ev.func | exact Ev.var)); (first | done | fail)) ?_; refine Wl_move rfl (by (repeat (first | exact Ev.here | exact Ev.const | exact Ev.arg rfl | apply Ev.there rfl | exact Ev.none rfl | exact Ev.func | exact Ev.var)); (first | done | fail)) ?_; refine Wl_move rfl (by (repeat (first | exact Ev.here | exact Ev.const | exact Ev.arg rfl | apply Ev.there rfl | exact Ev.none rfl | exact Ev.func | exact Ev.var)); (first | done | fail)) ?_; refine Wl_index_sl rfl rfl rfl (by omega) (by omega) ?_; refine Wl_load (by decide) rfl rfl (by (repeat (first | exact Rd.head | exact Rd.base (by assumption) | apply Rd.tail)); (first | done | fail)) rfl ?_)
            | (refine Wc_region (id := 17) ?_; intro K hK; refine Wl_add rfl rfl rfl (by first | exact fits_i64 (by omega) | exact fits_u8 (by omega) | exact fits_u64 (by omega) | exact fits_u32 (by omega)) ?_; refine Wl_move rfl (by (repeat (first | exact Ev.here | exact Ev.const | exact Ev.arg rfl | apply Ev.there rfl | exact Ev.none rfl | exact Ev.func | exact Ev.var)); (first | done | fail)) ?_; (refine Wl_nil (hK _ _ ?_); clear hK K))
            | (refine Wc_cond rfl (fun ht => ?_) (fun ht => ?_) <;> (try simp at ht) <;> (try (exfalso; omega))))
          refine ⟨(j + 1, t2), ⟨by simp only; omega, ?_⟩, by simp only; omega, ⟨rfl, rfl, rfl, rfl, int_succ' j, trivial⟩, by simp only; (repeat (first | exact Ent.refl _ | exact Ent.nil | refine Ent.take (by (repeat (first | exact Out.head | apply Out.tail)); (first | done | fail)) ?_ | refine Ent.drop1 ?_))⟩
          show Has _ (cutL _ _ (l2.take (j + 1)))
          rw [h4, cutL_snoc, if_neg (by rw [hgl]; simp)]; exact hL
      · obtain rfl : j = m2 := by omega
        rw [List.take_of_length_le (by omega), order_eq] at hL
        have hW : toldL t2.inorder = toldL t.inorder := by rw [hL.eq, ht0.eq]
        have hall : (toldL t.inorder).length = t.size := by rw [ht0.eq, toldL_all (AllSz.fill l1 AllSz.nil), ht0.size]; simp
        have hszE : t2.size = t.size := by rw [hL.size, ht0.size]
        generalize hW0 : toldL t.inorder = W at hW hall
        repeat' (first
          | refine Wc_seq ?_
          | refine thenQ_normal ?_
          | refine Wc_cond_t rfl ?_
          | refine Wc_cond_f rfl ?_
          | refine Wc_ret ?_
          | refine thenQ_ret ?_
          | refine Wc_block ?_
          | refine blkQ_normal ?_
          | refine blkQ_ret ?_
          | refine Wc_exit ?_
          | refine thenQ_exit ?_
          | refine blkQ_hit ?_
          | refine blkQ_miss rfl ?_
          | refine Wc_skip ?_
          | refine Wc_label ?_
          | refine loopQ_exit ?_
          | refine loopQ_ret ?_
          | refine loopQ_normal ?_
          | (refine Wc_region (id := 12) ?_; intro K hK; refine Wl_lss rfl rfl rfl ?_; (refine Wl_nil (hK _ _ ?_); clear hK K))
          | (refine Wc_region (id := 18) ?_; intro K hK; refine Wl_move rfl (by (repeat (first | exact Ev.here | exact Ev.const | exact Ev.arg rfl | apply Ev.there rfl | exact Ev.none rfl | exact Ev.func | exact Ev.var)); (first | done | fail)) ?_; ((refine Wl_call rfl (by (repeat (first | exact EvL.nil | apply EvL.cons (by (repeat (first | exact Ev.here | exact Ev.const | exact Ev.arg rfl | apply Ev.there rfl | exact Ev.none rfl | exact Ev.func | exact Ev.var)); (first | done | fail)))); (first | done | fail)) (told_spec p t (by rw [Tree.inorder_len]; omega)) (by (repeat (first | exact Pick.nil | apply Pick.cons (by (repeat (first | exact Out.head | apply Out.tail)); (first | done | fail)))); (first | done | fail)) ?_; rintro v A' ⟨xa, xc, rfl, rfl⟩; simp only [List.cons_append, List.nil_append]; rw [hW0])) <;> (refine Wl_move rfl (by (repeat (first | exact Ev.here | exact Ev.const | exact Ev.arg rfl | apply Ev.there rfl | exact Ev.none rfl | exact Ev.func | exact Ev.var)); (first | done | fail)) ?_; ((refine Wl_call rfl (by (repeat (first | exact EvL.nil | apply EvL.cons (by (repeat (first | exact Ev.here | exact Ev.const | exact Ev.arg rfl | apply Ev.there rfl | exact Ev.none rfl | exact Ev.func | exact Ev.var)); (first | done | fail)))); (first | done | fail)) (told_spec q t2 (by rw [Tree.inorder_len]; omega)) (by (repeat (first | exact Pick.nil | apply Pick.cons (by (repeat (first | exact Out.head | apply Out.tail)); (first | done | fail)))); (first | done | fail)) ?_; rintro v A' ⟨ya, yc, rfl, rfl⟩; simp only [List.cons_append, List.nil_append]; rw [hW])) <;> (((refine Wl_call rfl (by (repeat (first | exact EvL.nil | apply EvL.cons (by (repeat (first | exact Ev.here | exact Ev.const | exact Ev.arg rfl | apply Ev.there rfl | exact Ev.none rfl | exact Ev.func | exact Ev.var)); (first | done | fail)))); (first | done | fail)) (alike_same xa ya W.length xc W.length yc W (by omega)) (by (repeat (first | exact Pick.nil | apply Pick.cons (by (repeat (first | exact Out.head | apply Out.tail)); (first | done | fail)))); (first | done | fail)) ?_; rintro v A' ⟨rfl, rfl⟩; simp only [List.cons_append, List.nil_append])) <;> (refine Wl_move rfl (by (repeat (first | exact Ev.here | exact Ev.const | exact Ev.arg rfl | apply Ev.there rfl | exact Ev.none rfl | exact Ev.func | exact Ev.var)); (first | done | fail)) ?_; ((first | (refine Wl_guard rfl ?_; refine Wl_move rfl (by (repeat (first | exact Ev.here | exact Ev.const | exact Ev.arg rfl | apply Ev.there rfl | exact Ev.none rfl | exact Ev.func | exact Ev.var)); (first | done | fail)) ?_) | refine Wl_guard_no rfl rfl rfl ?_ | refine Wl_guard_un rfl rfl ?_ | ((refine Wl_split rfl rfl (fun ht => ?_) (fun ht => ?_) <;> (try simp at ht) <;> (try (exfalso; omega))) <;> (first | (refine Wl_guard rfl ?_; refine Wl_move rfl (by (repeat (first | exact Ev.here | exact Ev.const | exact Ev.arg rfl | apply Ev.there rfl | exact Ev.none rfl | exact Ev.func | exact Ev.var)); (first | done | fail)) ?_) | refine Wl_guard_no rfl rfl rfl ?_ | refine Wl_guard_un rfl rfl ?_)))) <;> (((first | (refine Wl_guard rfl ?_; (refine Wl_call rfl (by (repeat (first | exact EvL.nil | apply EvL.cons (by (repeat (first | exact Ev.here | exact Ev.const | exact Ev.arg rfl | apply Ev.there rfl | exact Ev.none rfl | exact Ev.func | exact Ev.var)); (first | done | fail)))); (first | done | fail)) (mlen_spec B p t) (by (repeat (first | exact Pick.nil | apply Pick.cons (by (repeat (first | exact Out.head | apply Out.tail)); (first | done | fail)))); (first | done | fail)) ?_; rintro v A' ⟨rfl, rfl⟩; simp only [List.cons_append, List.nil_append])) | refine Wl_guard_no rfl rfl rfl ?_ | refine Wl_guard_un rfl rfl ?_ | ((refine Wl_split rfl rfl (fun ht => ?_) (fun ht => ?_) <;> (try simp at ht) <;> (try (exfalso; omega))) <;> (first | (refine Wl_guard rfl ?_; (refine Wl_call rfl (by (repeat (first | exact EvL.nil | apply EvL.cons (by (repeat (first | exact Ev.here | exact Ev.const | exact Ev.arg rfl | apply Ev.there rfl | exact Ev.none rfl | exact Ev.func | exact Ev.var)); (first | done | fail)))); (first | done | fail)) (mlen_spec B p t) (by (repeat (first | exact Pick.nil | apply Pick.cons (by (repeat (first | exact Out.head | apply Out.tail)); (first | done | fail)))); (first | done | fail)) ?_; rintro v A' ⟨rfl, rfl⟩; simp only [List.cons_append, List.nil_append])) | refine Wl_guard_no rfl rfl rfl ?_ | refine Wl_guard_un rfl rfl ?_)))) <;> (((first | (refine Wl_guard rfl ?_; refine Wl_move rfl (by (repeat (first | exact Ev.here | exact Ev.const | exact Ev.arg rfl | apply Ev.there rfl | exact Ev.none rfl | exact Ev.func | exact Ev.var)); (first | done | fail)) ?_) | refine Wl_guard_no rfl rfl rfl ?_ | refine Wl_guard_un rfl rfl ?_ | ((refine Wl_split rfl rfl (fun ht => ?_) (fun ht => ?_) <;> (try simp at ht) <;> (try (exfalso; omega))) <;> (first | (refine Wl_guard rfl ?_; refine Wl_move rfl (by (repeat (first | exact Ev.here | exact Ev.const | exact Ev.arg rfl | apply Ev.there rfl | exact Ev.none rfl | exact Ev.func | exact Ev.var)); (first | done | fail)) ?_) | refine Wl_guard_no rfl rfl rfl ?_ | refine Wl_guard_un rfl rfl ?_)))) <;> (((first | (refine Wl_guard rfl ?_; (refine Wl_call rfl (by (repeat (first | exact EvL.nil | apply EvL.cons (by (repeat (first | exact Ev.here | exact Ev.const | exact Ev.arg rfl | apply Ev.there rfl | exact Ev.none rfl | exact Ev.func | exact Ev.var)); (first | done | fail)))); (first | done | fail)) (mlen_spec B q t2) (by (repeat (first | exact Pick.nil | apply Pick.cons (by (repeat (first | exact Out.head | apply Out.tail)); (first | done | fail)))); (first | done | fail)) ?_; rintro v A' ⟨rfl, rfl⟩; simp only [List.cons_append, List.nil_append]; rw [hszE])) | refine Wl_guard_no rfl rfl rfl ?_ | refine Wl_guard_un rfl rfl ?_ | ((refine Wl_split rfl rfl (fun ht => ?_) (fun ht => ?_) <;> (try simp at ht) <;> (try (exfalso; omega))) <;> (first | (refine Wl_guard rfl ?_; (refine Wl_call rfl (by (repeat (first | exact EvL.nil | apply EvL.cons (by (repeat (first | exact Ev.here | exact Ev.const | exact Ev.arg rfl | apply Ev.there rfl | exact Ev.none rfl | exact Ev.func | exact Ev.var)); (first | done | fail)))); (first | done | fail)) (mlen_spec B q t2) (by (repeat (first | exact Pick.nil | apply Pick.cons (by (repeat (first | exact Out.head | apply Out.tail)); (first | done | fail)))); (first | done | fail)) ?_; rintro v A' ⟨rfl, rfl⟩; simp only [List.cons_append, List.nil_append]; rw [hszE])) | refine Wl_guard_no rfl rfl rfl ?_ | refine Wl_guard_un rfl rfl ?_)))) <;> (((first | (refine Wl_guard rfl ?_; (refine Wl_eql rfl rfl rfl ?_; rw [show decide ((t.size : Int) = (t.size : Int)) = true from decide_eq_true rfl])) | refine Wl_guard_no rfl rfl rfl ?_ | refine Wl_guard_un rfl rfl ?_ | ((refine Wl_split rfl rfl (fun ht => ?_) (fun ht => ?_) <;> (try simp at ht) <;> (try (exfalso; omega))) <;> (first | (refine Wl_guard rfl ?_; (refine Wl_eql rfl rfl rfl ?_; rw [show decide ((t.size : Int) = (t.size : Int)) = true from decide_eq_true rfl])) | refine Wl_guard_no rfl rfl rfl ?_ | refine Wl_guard_un rfl rfl ?_)))) <;> ((first | refine Wl_pick_t rfl rfl (by (repeat (first | exact Ev.here | exact Ev.const | exact Ev.arg rfl | apply Ev.there rfl | exact Ev.none rfl | exact Ev.func | exact Ev.var)); (first | done | fail)) ?_ | refine Wl_pick_f rfl rfl (by (repeat (first | exact Ev.here | exact Ev.const | exact Ev.arg rfl | apply Ev.there rfl | exact Ev.none rfl | exact Ev.func | exact Ev.var)); (first | done | fail)) ?_ | refine Wl_pick rfl rfl rfl ?_); refine Wl_move rfl (by (repeat (first | exact Ev.here | exact Ev.const | exact Ev.arg rfl | apply Ev.there rfl | exact Ev.none rfl | exact Ev.func | exact Ev.var)); (first | done | fail)) ?_; ((first | (refine Wl_guard rfl ?_; refine Wl_move rfl (by (repeat (first | exact Ev.here | exact Ev.const | exact Ev.arg rfl | apply Ev.there rfl | exact Ev.none rfl | exact Ev.func | exact Ev.var)); (first | done | fail)) ?_) | refine Wl_guard_no rfl rfl rfl ?_ | refine Wl_guard_un rfl rfl ?_ | ((refine Wl_split rfl rfl (fun ht => ?_) (fun ht => ?_) <;> (try simp at ht) <;> (try (exfalso; omega))) <;> (first | (refine Wl_guard rfl ?_; refine Wl_move rfl (by (repeat (first | exact Ev.here | exact Ev.const | exact Ev.arg rfl | apply Ev.there rfl | exact Ev.none rfl | exact Ev.func | exact Ev.var)); (first | done | fail)) ?_) | refine Wl_guard_no rfl rfl rfl ?_ | refine Wl_guard_un rfl rfl ?_)))) <;> (((first | (refine Wl_guard rfl ?_; (refine Wl_call rfl (by (repeat (first | exact EvL.nil | apply EvL.cons (by (repeat (first | exact Ev.here | exact Ev.const | exact Ev.arg rfl | apply Ev.there rfl | exact Ev.none rfl | exact Ev.func | exact Ev.var)); (first | done | fail)))); (first | done | fail)) (told_spec p t (by rw [Tree.inorder_len]; omega)) (by (repeat (first | exact Pick.nil | apply Pick.cons (by (repeat (first | exact Out.head | apply Out.tail)); (first | done | fail)))); (first | done | fail)) ?_; rintro v A' ⟨za, zc, rfl, rfl⟩; simp only [List.cons_append, List.nil_append]; rw [hW0])) | refine Wl_guard_no rfl rfl rfl ?_ | refine Wl_guard_un rfl rfl ?_ | ((refine Wl_split rfl rfl (fun ht => ?_) (fun ht => ?_) <;> (try simp at ht) <;> (try (exfalso; omega))) <;> (first | (refine Wl_guard rfl ?_; (refine Wl_call rfl (by (repeat (first | exact EvL.nil | apply EvL.cons (by (repeat (first | exact Ev.here | exact Ev.const | exact Ev.arg rfl | apply Ev.there rfl | exact Ev.none rfl | exact Ev.func | exact Ev.var)); (first | done | fail)))); (first | done | fail)) (told_spec p t (by rw [Tree.inorder_len]; omega)) (by (repeat (first | exact Pick.nil | apply Pick.cons (by (repeat (first | exact Out.head | apply Out.tail)); (first | done | fail)))); (first | done | fail)) ?_; rintro v A' ⟨za, zc, rfl, rfl⟩; simp only [List.cons_append, List.nil_append]; rw [hW0])) | refine Wl_guard_no rfl rfl rfl ?_ | refine Wl_guard_un rfl rfl ?_)))) <;> (((first | (refine Wl_guard rfl ?_; refine Wl_len_sl rfl rfl ?_) | refine Wl_guard_no rfl rfl rfl ?_ | refine Wl_guard_un rfl rfl ?_ | ((refine Wl_split rfl rfl (fun ht => ?_) (fun ht => ?_) <;> (try simp at ht) <;> (try (exfalso; omega))) <;> (first | (refine Wl_guard rfl ?_; refine Wl_len_sl rfl rfl ?_) | refine Wl_guard_no rfl rfl rfl ?_ | refine Wl_guard_un rfl rfl ?_)))) <;> (((first | (refine Wl_guard rfl ?_; refine Wl_move rfl (by (repeat (first | exact Ev.here | exact Ev.const | exact Ev.arg rfl | apply Ev.there rfl | exact Ev.none rfl | exact Ev.func | exact Ev.var)); (first | done | fail)) ?_) | refine Wl_guard_no rfl rfl rfl ?_ | refine Wl_guard_un rfl rfl ?_ | ((refine Wl_split rfl rfl (fun ht => ?_) (fun ht => ?_) <;> (try simp at ht) <;> (try (exfalso; omega))) <;> (first | (refine Wl_guard rfl ?_; refine Wl_move rfl (by (repeat (first | exact Ev.here | exact Ev.const | exact Ev.arg rfl | apply Ev.there rfl | exact Ev.none rfl | exact Ev.func | exact Ev.var)); (first | done | fail)) ?_) | refine Wl_guard_no rfl rfl rfl ?_ | refine Wl_guard_un rfl rfl ?_)))) <;> (((first | (refine Wl_guard rfl ?_; (refine Wl_call rfl (by (repeat (first | exact EvL.nil | apply EvL.cons (by (repeat (first | exact Ev.here | exact Ev.const | exact Ev.arg rfl | apply Ev.there rfl | exact Ev.none rfl | exact Ev.func | exact Ev.var)); (first | done | fail)))); (first | done | fail)) (mlen_spec B p t) (by (repeat (first | exact Pick.nil | apply Pick.cons (by (repeat (first | exact Out.head | apply Out.tail)); (first | done | fail)))); (first | done | fail)) ?_; rintro v A' ⟨rfl, rfl⟩; simp only [List.cons_append, List.nil_append]; rw [← hall])) | refine Wl_guard_no rfl rfl rfl ?_ | refine Wl_guard_un rfl rfl ?_ | ((refine Wl_split rfl rfl (fun ht => ?_) (fun ht => ?_) <;> (try simp at ht) <;> (try (exfalso; omega))) <;> (first | (refine Wl_guard rfl ?_; (refine Wl_call rfl (by (repeat (first | exact EvL.nil | apply EvL.cons (by (repeat (first | exact Ev.here | exact Ev.const | exact Ev.arg rfl | apply Ev.there rfl | exact Ev.none rfl | exact Ev.func | exact Ev.var)); (first | done | fail)))); (first | done | fail)) (mlen_spec B p t) (by (repeat (first | exact Pick.nil | apply Pick.cons (by (repeat (first | exact Out.head | apply Out.tail)); (first | done | fail)))); (first | done | fail)) ?_; rintro v A' ⟨rfl, rfl⟩; simp only [List.cons_append, List.nil_append]; rw [← hall])) | refine Wl_guard_no rfl rfl rfl ?_ | refine Wl_guard_un rfl rfl ?_)))) <;> (((first | (refine Wl_guard rfl ?_; (refine Wl_eql rfl rfl rfl ?_; rw [show decide ((W.length : Int) = (W.length : Int)) = true from decide_eq_true rfl])) | refine Wl_guard_no rfl rfl rfl ?_ | refine Wl_guard_un rfl rfl ?_ | ((refine Wl_split rfl rfl (fun ht => ?_) (fun ht => ?_) <;> (try simp at ht) <;> (try (exfalso; omega))) <;> (first | (refine Wl_guard rfl ?_; (refine Wl_eql rfl rfl rfl ?_; rw [show decide ((W.length : Int) = (W.length : Int)) = true from decide_eq_true rfl])) | refine Wl_guard_no rfl rfl rfl ?_ | refine Wl_guard_un rfl rfl ?_)))) <;> ((first | refine Wl_pick_t rfl rfl (by (repeat (first | exact Ev.here | exact Ev.const | exact Ev.arg rfl | apply Ev.there rfl | exact Ev.none rfl | exact Ev.func | exact Ev.var)); (first | done | fail)) ?_ | refine Wl_pick_f rfl rfl (by (repeat (first | exact Ev.here | exact Ev.const | exact Ev.arg rfl | apply Ev.there rfl | exact Ev.none rfl | exact Ev.func | exact Ev.var)); (first | done | fail)) ?_ | refine Wl_pick rfl rfl rfl ?_); refine Wl_assign rfl (by (repeat (first | exact Ev.here | exact Ev.const | exact Ev.arg rfl | apply Ev.there rfl | exact Ev.none rfl | exact Ev.func | exact Ev.var)); (first | done | fail)) ?_; (refine Wl_nil (hK _ _ ?_); clear hK K))))))))))))))))
          | (refine Wc_cond rfl (fun ht => ?_) (fun ht => ?_) <;> (try simp at ht) <;> (try (exfalso; omega))))
        exact ⟨Or.inr rfl, .bool true, [], Ent.nil, res1 rfl rfl, rfl, rfl⟩
  · repeat' (first
      | refine Wc_seq ?_
      | refine thenQ_normal ?_
      | refine Wc_cond_t rfl ?_
      | refine Wc_cond_f rfl ?_
      | refine Wc_ret ?_
      | refine thenQ_ret ?_
      | refine Wc_block ?_
      | refine blkQ_normal ?_
      | refine blkQ_ret ?_
      | refine Wc_exit ?_
      | refine thenQ_exit ?_
      | refine blkQ_hit ?_
      | refine blkQ_miss rfl ?_
      | refine Wc_skip ?_
      | refine Wc_label ?_
      | refine loopQ_exit ?_
      | refine loopQ_ret ?_
      | refine loopQ_normal ?_
      | (refine Wc_region (id := 0) ?_; intro K hK; refine Wl_assign rfl (by (repeat (first | exact Ev.here | exact Ev.const | exact Ev.arg rfl | apply Ev.there rfl | exact Ev.none rfl | exact Ev.func | exact Ev.var)); (first | done | fail)) ?_; (refine Wl_nil (hK _ _ ?_); clear hK K))
      | (refine Wc_region (id := 1) ?_; intro K hK; refine Wl_call rfl (by (repeat (first | exact EvL.nil | apply EvL.cons (by (repeat (first | exact Ev.here | exact Ev.const | exact Ev.arg rfl | apply Ev.there rfl | exact Ev.none rfl | exact Ev.func | exact Ev.var)); (first | done | fail)))); (first | done | fail)) (awake05_spec B) (by (repeat (first | exact Pick.nil | apply Pick.cons (by (repeat (first | exact Out.head | apply Out.tail)); (first | done | fail)))); (first | done | fail)) ?_; (rintro v A' ⟨rfl, rfl⟩ <;> (try simp only [List.cons_append, List.nil_append])); refine Wl_not rfl rfl ?_; (refine Wl_nil (hK _ _ ?_); clear hK K))
      | (refine Wc_region (id := 2) ?_; intro K hK; refine Wl_assign rfl (by (repeat (first | exact Ev.here | exact Ev.const | exact Ev.arg rfl | apply Ev.there rfl | exact Ev.none rfl | exact Ev.func | exact Ev.var)); (first | done | fail)) ?_; (refine Wl_nil (hK _ _ ?_); clear hK K))
      | (refine Wc_region (id := 3) ?_; intro K hK; refine Wl_move rfl (by (repeat (first | exact Ev.here | exact Ev.const | exact Ev.arg rfl | apply Ev.there rfl | exact Ev.none rfl | exact Ev.func | exact Ev.var)); (first | done | fail)) ?_; refine Wl_len_sl rfl rfl ?_; refine Wl_gtr rfl rfl rfl ?_; refine Wl_move rfl (by (repeat (first | exact Ev.here | exact Ev.const | exact Ev.arg rfl | apply Ev.there rfl | exact Ev.none rfl | exact Ev.func | exact Ev.var)); (first | done | fail)) ?_; ((first | (refine Wl_guard rfl ?_; refine Wl_move rfl (by (repeat (first | exact Ev.here | exact Ev.const | exact Ev.arg rfl | apply Ev.there rfl | exact Ev.none rfl | exact Ev.func | exact Ev.var)); (first | done | fail)) ?_) | refine Wl_guard_no rfl rfl rfl ?_ | refine Wl_guard_un rfl rfl ?_ | ((refine Wl_split rfl rfl (fun ht => ?_) (fun ht => ?_) <;> (try simp at ht) <;> (try (exfalso; omega))) <;> (first | (refine Wl_guard rfl ?_; refine Wl_move rfl (by (repeat (first | exact Ev.here | exact Ev.const | exact Ev.arg rfl | apply Ev.there rfl | exact Ev.none rfl | exact Ev.func | exact Ev.var)); (first | done | fail)) ?_) | refine Wl_guard_no rfl rfl rfl ?_ | refine Wl_guard_un rfl rfl ?_)))) <;> (((first | (refine Wl_guard rfl ?_; refine Wl_len_sl rfl rfl ?_) | refine Wl_guard_no rfl rfl rfl ?_ | refine Wl_guard_un rfl rfl ?_ | ((refine Wl_split rfl rfl (fun ht => ?_) (fun ht => ?_) <;> (try simp at ht) <;> (try (exfalso; omega))) <;> (first | (refine Wl_guard rfl ?_; refine Wl_len_sl rfl rfl ?_) | refine Wl_guard_no rfl rfl rfl ?_ | refine Wl_guard_un rfl rfl ?_)))) <;> (((first | (refine Wl_guard rfl ?_; refine Wl_gtr rfl rfl rfl ?_) | refine Wl_guard_no rfl rfl rfl ?_ | refine Wl_guard_un rfl rfl ?_ | ((refine Wl_split rfl rfl (fun ht => ?_) (fun ht => ?_) <;> (try simp at ht) <;> (try (exfalso; omega))) <;> (first | (refine Wl_guard rfl ?_; refine Wl_gtr rfl rfl rfl ?_) | refine Wl_guard_no rfl rfl rfl ?_ | refine Wl_guard_un rfl rfl ?_)))) <;> ((first | refine Wl_pick_t rfl rfl (by (repeat (first | exact Ev.here | exact Ev.const | exact Ev.arg rfl | apply Ev.there rfl | exact Ev.none rfl | exact Ev.func | exact Ev.var)); (first | done | fail)) ?_ | refine Wl_pick_f rfl rfl (by (repeat (first | exact Ev.here | exact Ev.const | exact Ev.arg rfl | apply Ev.there rfl | exact Ev.none rfl | exact Ev.func | exact Ev.var)); (first | done | fail)) ?_ | refine Wl_pick rfl rfl rfl ?_); (refine Wl_nil (hK _ _ ?_); clear hK K)))))
      | (refine Wc_region (id := 4) ?_; intro K hK; refine Wl_assign rfl (by (repeat (first | exact Ev.here | exact Ev.const | exact Ev.arg rfl | apply Ev.there rfl | exact Ev.none rfl | exact Ev.func | exact Ev.var)); (first | done | fail)) ?_; (refine Wl_nil (hK _ _ ?_); clear hK K))
      | (refine Wc_cond rfl (fun ht => ?_) (fun ht => ?_) <;> (try simp at ht) <;> (try (exfalso; omega))))
    · exact ⟨Or.inr rfl, _, [], Ent.refl _, res1 rfl rfl, rfl, rfl⟩
    · exact ⟨Or.inr rfl, _, [], Ent.refl _, res1 rfl rfl, rfl, rfl⟩
end specs
end Go.Proofs.Ytdlpfeflndlpfaa
