/- Layer 12, the statements over Puts: what 'block' does. Conditions: none but the kinds' bounds. -/
import Derived.Test.YtjmmmfibmdlclaaLawA
import Derived.Test.YtjmmmfibmdlclaaPlainA
import Derived.Test.YtjmmmfibmdlclaaSg
set_option maxHeartbeats 8000000
set_option linter.unusedVariables false
set_option linter.unusedSimpArgs false
set_option maxRecDepth 100000
namespace Go.Proofs.Ytjmmmfibmdlclaa
open Go Go.Sl
attribute [local irreducible] Go.Sl.Wl Go.Sl.Wc Go.Sl.thenQ Go.Sl.blkQ Go.Sl.loopQ Go.Sl.Fspec

def blockL (f : UInt8) : List UInt8 := (List.range 64).map fun k => f + UInt8.ofNat k
theorem blockL_length (f : UInt8) : (blockL f).length = 64 := by simp [blockL]
theorem blockL_get (f : UInt8) (k : Nat) (h : k < 64) : (blockL f)[k]? = some (f + UInt8.ofNat k) := by simp [blockL, h]
theorem wrap_u8 (f : UInt8) (k : Nat) (h : k < 64) : Value.int .u8 (IntKind.u8.wrap ((f.toNat : Int) + (k : Int))) = byteV (f + UInt8.ofNat k) := by
  unfold byteV
  have h1 : (f + UInt8.ofNat k).toNat = (f.toNat + k) % 256 := by
    rw [UInt8.toNat_add, UInt8.toNat_ofNat']; omega
  rw [h1, IntKind.wrap_u8]
  congr 1

theorem fill_set {bl : List UInt8} {n k : Nat} {x : UInt8} (hl : bl.length = n) (h : bl[k]? = some x) : (bl.take k ++ List.replicate (n - k) 0).set k x = bl.take (k + 1) ++ List.replicate (n - (k + 1)) 0 := by
  have hk : k < n := by rcases Nat.lt_or_ge k bl.length with h' | h'; omega; rw [List.getElem?_eq_none h'] at h; cases h
  have ht : (bl.take k).length = k := by simp; omega
  rw [take_snoc' h, List.set_append_right _ _ (by omega), ht, Nat.sub_self, show n - k = (n - (k + 1)) + 1 by omega, List.replicate_succ, List.set_cons_zero]
  simp

theorem flatMap_row {α : Type} {f : α → List Value} {sz : Nat} : ∀ {l : List α} {j : Nat} {q : α}, (∀ x ∈ l, (f x).length = sz) → l[j]? = some q → ((l.flatMap f).drop (j * sz)).take sz = f q
  | x :: l, 0, q, h, hj => by
    simp at hj; subst hj
    rw [List.flatMap_cons, Nat.zero_mul, List.drop_zero, List.take_append_of_le_length (by rw [h x (List.mem_cons_self ..)]; omega), List.take_of_length_le (by rw [h x (List.mem_cons_self ..)]; omega)]
  | x :: l, j + 1, q, h, hj => by
    have hx := h x (List.mem_cons_self ..)
    have := flatMap_row (l := l) (j := j) (q := q) (fun y hy => h y (List.mem_cons_of_mem _ hy)) (by simpa using hj)
    rw [List.flatMap_cons, show (j + 1) * sz = (f x).length + j * sz by rw [hx, Nat.add_mul, Nat.one_mul]; omega, ← List.drop_drop, List.drop_left]
    exact this
theorem flatMap_cell {α : Type} {f : α → List Value} {sz : Nat} {l : List α} {j r : Nat} {q : α} {v : Value} (h : ∀ x ∈ l, (f x).length = sz) (hj : l[j]? = some q) (hr : r < sz) (hv : (f q)[r]? = some v) : (l.flatMap f)[j * sz + r]? = some v := by
  have h1 := flatMap_row h hj
  rw [← List.getElem?_drop, ← hv, ← h1, List.getElem?_take, if_pos hr]
structure PutX where
  at_ : Int
  fill : UInt8
  sync : Bool
def putC (q : PutX) : List Value := [.int .i64 q.at_, byteV q.fill, .bool q.sync]
theorem putC_len (l : List PutX) : ∀ x ∈ l, (putC x).length = 3 := fun _ _ => rfl
theorem rem_u64 (i : Int) (n : Nat) (h : 0 < n) (hn : n ≤ 9223372036854775807) : ∃ j : Nat, j < n ∧ (IntKind.u64.wrap i).tmod (n : Int) = j := by
  rw [IntKind.wrap_u64]
  have h0 : (0 : Int) ≤ i % 18446744073709551616 := by omega
  rw [Int.tmod_eq_emod_of_nonneg h0]
  have h1 := Int.emod_nonneg (i % 18446744073709551616) (show (n : Int) ≠ 0 by omega)
  have h2 := Int.emod_lt_of_pos (i % 18446744073709551616) (show (0 : Int) < n by omega)
  exact ⟨(i % 18446744073709551616 % n).toNat, by omega, by omega⟩

section specs
variable (B : Base)
theorem block_spec (i : Int) (f : UInt8) (s : Bool) :
    Fspec Try.prog B 18 #[.agg #[.int .i64 i, byteV f, .bool s]] [] (fun v A' => ∃ a c, v = .slice a 64 c ∧ A' = [own a 64 c 1 ((blockL f).map byteV) 5]) := by
  refine spec_of (args := [_]) Try.func18 rfl rfl rfl ?_
  repeat' (first
    | refine Wc_seq ?_
    | refine thenQ_normal ?_
    | refine Wc_cond_t rfl ?_
    | refine Wc_cond_f rfl ?_
    | refine Wc_ret ?_
    | refine thenQ_ret ?_
    | refine Wc_block ?_
    | refine blkQ_normal ?_
    | refine blkQ_ret ?_
    | refine Wc_exit ?_
    | refine thenQ_exit ?_
    | refine blkQ_hit ?_
    | refine blkQ_miss rfl ?_
    | refine Wc_skip ?_
    | refine Wc_label ?_
    | refine loopQ_exit ?_
    | refine loopQ_ret ?_
    | refine loopQ_normal ?_
    | (refine Wc_region (id := 0) ?_; intro K hK; ((refine Wl_boxAgg rfl (by (repeat (first | exact Ev.here | exact Ev.const | exact Ev.arg rfl | apply Ev.there rfl | exact Ev.none rfl | exact Ev.func | exact Ev.var)); (first | done | fail)) ?_; intro rx)) <;> (refine Wl_assign rfl (by (repeat (first | exact Ev.here | exact Ev.const | exact Ev.arg rfl | apply Ev.there rfl | exact Ev.none rfl | exact Ev.func | exact Ev.var)); (first | done | fail)) ?_; (refine Wl_nil (hK _ _ ?_); clear hK K)))
    | (refine Wc_region (id := 1) ?_; intro K hK; ((refine Wl_makeSlice (len := 64) (cap := 64) rfl rfl rfl (Nat.le_refl _) (by omega) (by omega) ?_; intro bk)) <;> (refine Wl_assign rfl (by (repeat (first | exact Ev.here | exact Ev.const | exact Ev.arg rfl | apply Ev.there rfl | exact Ev.none rfl | exact Ev.func | exact Ev.var)); (first | done | fail)) ?_; (refine Wl_nil (hK _ _ ?_); clear hK K)))
    | (refine Wc_region (id := 2) ?_; intro K hK; refine Wl_move rfl (by (repeat (first | exact Ev.here | exact Ev.const | exact Ev.arg rfl | apply Ev.there rfl | exact Ev.none rfl | exact Ev.func | exact Ev.var)); (first | done | fail)) ?_; refine Wl_len_sl rfl rfl ?_; refine Wl_move rfl (by (repeat (first | exact Ev.here | exact Ev.const | exact Ev.arg rfl | apply Ev.there rfl | exact Ev.none rfl | exact Ev.func | exact Ev.var)); (first | done | fail)) ?_; (refine Wl_nil (hK _ _ ?_); clear hK K))
    | (refine Wc_region (id := 3) ?_; intro K hK; refine Wl_lss rfl rfl rfl ?_; (refine Wl_nil (hK _ _ ?_); clear hK K))
    | (refine Wc_region (id := 4) ?_; intro K hK; refine Wl_move rfl (by (repeat (first | exact Ev.here | exact Ev.const | exact Ev.arg rfl | apply Ev.there rfl | exact Ev.none rfl | exact Ev.func | exact Ev.var)); (first | done | fail)) ?_; refine Wl_assign rfl (by (repeat (first | exact Ev.here | exact Ev.const | exact Ev.arg rfl | apply Ev.there rfl | exact Ev.none rfl | exact Ev.func | exact Ev.var)); (first | done | fail)) ?_; (refine Wl_nil (hK _ _ ?_); clear hK K))
    | (refine Wc_region (id := 5) ?_; intro K hK; refine Wl_move rfl (by (repeat (first | exact Ev.here | exact Ev.const | exact Ev.arg rfl | apply Ev.there rfl | exact Ev.none rfl | exact Ev.func | exact Ev.var)); (first | done | fail)) ?_; refine Wl_move rfl (by (repeat (first | exact Ev.here | exact Ev.const | exact Ev.arg rfl | apply Ev.there rfl | exact Ev.none rfl | exact Ev.func | exact Ev.var)); (first | done | fail)) ?_; refine Wl_fieldAddr rfl rfl rfl ?_; refine Wl_load (by decide) rfl rfl (by (repeat (first | exact Rd.head | exact Rd.base (by assumption) | apply Rd.tail)); (first | done | fail)) rfl ?_; refine Wl_move rfl (by (repeat (first | exact Ev.here | exact Ev.const | exact Ev.arg rfl | apply Ev.there rfl | exact Ev.none rfl | exact Ev.func | exact Ev.var)); (first | done | fail)) ?_; refine Wl_conv rfl rfl (by first | exact fits_i64 (by omega) | exact fits_u8 (by omega) | exact fits_u64 (by omega) | exact fits_u32 (by omega)) ?_; refine Wl_add rfl rfl rfl (by first | exact fits_i64 (by omega) | exact fits_u8 (by omega) | exact fits_u64 (by omega) | exact fits_u32 (by omega)) ?_; refine Wl_index_sl rfl rfl rfl (by omega) (by omega) ?_; refine Wl_store rfl (by (repeat (first | exact Ev.here | exact Ev.const | exact Ev.arg rfl | apply Ev.there rfl | exact Ev.none rfl | exact Ev.func | exact Ev.var)); (first | done | fail)) (by rfl) (by (repeat (first | exact Upd.head | apply Upd.tail)); (first | done | fail)) (by (repeat (first | exact SetAt.zero | apply SetAt.succ)); (first | done | fail)) rfl (by simp) ?_; (refine Wl_nil (hK _ _ ?_); clear hK K))
    | (refine Wc_region (id := 6) ?_; intro K hK; refine Wl_add rfl rfl rfl (by first | exact fits_i64 (by omega) | exact fits_u8 (by omega) | exact fits_u64 (by omega) | exact fits_u32 (by omega)) ?_; refine Wl_move rfl (by (repeat (first | exact Ev.here | exact Ev.const | exact Ev.arg rfl | apply Ev.there rfl | exact Ev.none rfl | exact Ev.func | exact Ev.var)); (first | done | fail)) ?_; (refine Wl_nil (hK _ _ ?_); clear hK K))
    | (refine Wc_region (id := 7) ?_; intro K hK; refine Wl_move rfl (by (repeat (first | exact Ev.here | exact Ev.const | exact Ev.arg rfl | apply Ev.there rfl | exact Ev.none rfl | exact Ev.func | exact Ev.var)); (first | done | fail)) ?_; refine Wl_assign rfl (by (repeat (first | exact Ev.here | exact Ev.const | exact Ev.arg rfl | apply Ev.there rfl | exact Ev.none rfl | exact Ev.func | exact Ev.var)); (first | done | fail)) ?_; (refine Wl_nil (hK _ _ ?_); clear hK K))
    | (refine Wc_cond rfl (fun ht => ?_) (fun ht => ?_) <;> (try simp at ht) <;> (try (exfalso; omega))))
  refine Wc_loop (α := Nat) (fun k => [(1, .pointer (some ⟨rx, 0, none⟩)), (3, .slice (some ⟨bk, 0, none⟩) 64 64), (7, .int .i64 64), (8, .int .i64 k)])
    (fun k => [cb bk (((blockL f).take k ++ List.replicate (64 - k) 0).map byteV) 5, cb rx [.int .i64 i, byteV f, .bool s] 41])
    (fun k => k ≤ 64) (fun k => 64 - k) 0 (by omega) ⟨rfl, rfl, rfl, rfl, trivial⟩ (Ent.refl _) ?_
  intro k G hk
  simp only [ov]
  by_cases hk2 : k < 64
  · have hset : (((blockL f).take k ++ List.replicate (64 - k) 0).map byteV).set (0 + (k : Int).toNat * 1) (byteV (f + UInt8.ofNat k)) = ((blockL f).take (k + 1) ++ List.replicate (64 - (k + 1)) 0).map byteV := by
      rw [← fill_set (blockL_length f) (blockL_get f k hk2), List.map_set]; simp
    repeat' (first
      | refine Wc_seq ?_
      | refine thenQ_normal ?_
      | refine Wc_cond_t rfl ?_
      | refine Wc_cond_f rfl ?_
      | refine Wc_ret ?_
      | refine thenQ_ret ?_
      | refine Wc_block ?_
      | refine blkQ_normal ?_
      | refine blkQ_ret ?_
      | refine Wc_exit ?_
      | refine thenQ_exit ?_
      | refine blkQ_hit ?_
      | refine blkQ_miss rfl ?_
      | refine Wc_skip ?_
      | refine Wc_label ?_
      | refine loopQ_exit ?_
      | refine loopQ_ret ?_
      | refine loopQ_normal ?_
      | (refine Wc_region (id := 0) ?_; intro K hK; (refine Wl_boxAgg rfl (by (repeat (first | exact Ev.here | exact Ev.const | exact Ev.arg rfl | apply Ev.there rfl | exact Ev.none rfl | exact Ev.func | exact Ev.var)); (first | done | fail)) ?_; intro r); refine Wl_assign rfl (by (repeat (first | exact Ev.here | exact Ev.const | exact Ev.arg rfl | apply Ev.there rfl | exact Ev.none rfl | exact Ev.func | exact Ev.var)); (first | done | fail)) ?_; (refine Wl_nil (hK _ _ ?_); clear hK K))
      | (refine Wc_region (id := 1) ?_; intro K hK; skip)
      | (refine Wc_region (id := 2) ?_; intro K hK; refine Wl_move rfl (by (repeat (first | exact Ev.here | exact Ev.const | exact Ev.arg rfl | apply Ev.there rfl | exact Ev.none rfl | exact Ev.func | exact Ev.var)); (first | done | fail)) ?_; refine Wl_len_sl rfl rfl ?_; refine Wl_move rfl (by (repeat (first | exact Ev.here | exact Ev.const | exact Ev.arg rfl | apply Ev.there rfl | exact Ev.none rfl | exact Ev.func | exact Ev.var)); (first | done | fail)) ?_; (refine Wl_nil (hK _ _ ?_); clear hK K))
      | (refine Wc_region (id := 3) ?_; intro K hK; refine Wl_lss rfl rfl rfl ?_; (refine Wl_nil (hK _ _ ?_); clear hK K))
      | (refine Wc_region (id := 4) ?_; intro K hK; refine Wl_move rfl (by (repeat (first | exact Ev.here | exact Ev.const | exact Ev.arg rfl | apply Ev.there rfl | exact Ev.none rfl | exact Ev.func | exact Ev.var)); (first | done | fail)) ?_; refine Wl_assign rfl (by (repeat (first | exact Ev.here | exact Ev.const | exact Ev.arg rfl | apply Ev.there rfl | exact Ev.none rfl | exact Ev.func | exact Ev.var)); (first | done | fail)) ?_; (refine Wl_nil (hK _ _ ?_); clear hK K))
      | (refine Wc_region (id := 5) ?_; intro K hK; refine Wl_move rfl (by (repeat (first | exact Ev.here | exact Ev.const | exact Ev.arg rfl | apply Ev.there rfl | exact Ev.none rfl | exact Ev.func | exact Ev.var)); (first | done | fail)) ?_; refine Wl_move rfl (by (repeat (first | exact Ev.here | exact Ev.const | exact Ev.arg rfl | apply Ev.there rfl | exact Ev.none rfl | exact Ev.func | exact Ev.var)); (first | done | fail)) ?_; refine Wl_fieldAddr rfl rfl rfl ?_; refine Wl_load (by decide) rfl rfl (by (repeat (first | exact Rd.head | exact Rd.base (by assumption) | apply Rd.tail)); (first | done | fail)) rfl ?_; refine Wl_move rfl (by (repeat (first | exact Ev.here | exact Ev.const | exact Ev.arg rfl | apply Ev.there rfl | exact Ev.none rfl | exact Ev.func | exact Ev.var)); (first | done | fail)) ?_; refine Wl_conv rfl rfl (by first | exact fits_i64 (by omega) | exact fits_u8 (by omega) | exact fits_u64 (by omega) | exact fits_u32 (by omega)) ?_; ((refine Wl_addW rfl rfl rfl ?_; rw [wrap_u8 f k hk2])) <;> (refine Wl_index_sl rfl rfl rfl (by omega) (by omega) ?_; ((refine Wl_store (l' := ((blockL f).take (k + 1) ++ List.replicate (64 - (k + 1)) 0).map byteV) rfl (by (repeat (first | exact Ev.here | exact Ev.const | exact Ev.arg rfl | apply Ev.there rfl | exact Ev.none rfl | exact Ev.func | exact Ev.var)); (first | done | fail)) (by rfl) (by (repeat (first | exact Upd.head | apply Upd.tail)); (first | done | fail)) (by rw [← hset]; exact SetAt.gen (by simp [blockL_length]; omega)) rfl (by simp) ?_)) <;> ((refine Wl_nil (hK _ _ ?_); clear hK K))))
      | (refine Wc_region (id := 6) ?_; intro K hK; refine Wl_add rfl rfl rfl (by first | exact fits_i64 (by omega) | exact fits_u8 (by omega) | exact fits_u64 (by omega) | exact fits_u32 (by omega)) ?_; refine Wl_move rfl (by (repeat (first | exact Ev.here | exact Ev.const | exact Ev.arg rfl | apply Ev.there rfl | exact Ev.none rfl | exact Ev.func | exact Ev.var)); (first | done | fail)) ?_; (refine Wl_nil (hK _ _ ?_); clear hK K))
      | (refine Wc_region (id := 7) ?_; intro K hK; refine Wl_move rfl (by (repeat (first | exact Ev.here | exact Ev.const | exact Ev.arg rfl | apply Ev.there rfl | exact Ev.none rfl | exact Ev.func | exact Ev.var)); (first | done | fail)) ?_; refine Wl_assign rfl (by (repeat (first | exact Ev.here | exact Ev.const | exact Ev.arg rfl | apply Ev.there rfl | exact Ev.none rfl | exact Ev.func | exact Ev.var)); (first | done | fail)) ?_; (refine Wl_nil (hK _ _ ?_); clear hK K))
      | (refine Wc_cond rfl (fun ht => ?_) (fun ht => ?_) <;> (try simp at ht) <;> (try (exfalso; omega))))
    refine ⟨k + 1, by omega, by omega, ⟨rfl, rfl, rfl, int_succ k, trivial⟩, ?_⟩
    (repeat (first | exact Ent.refl _ | exact Ent.nil | refine Ent.take (by (repeat (first | exact Out.head | apply Out.tail)); (first | done | fail)) ?_ | refine Ent.drop1 ?_))
  · have hk3 : k = 64 := by omega
    subst hk3
    repeat' (first
      | refine Wc_seq ?_
      | refine thenQ_normal ?_
      | refine Wc_cond_t rfl ?_
      | refine Wc_cond_f rfl ?_
      | refine Wc_ret ?_
      | refine thenQ_ret ?_
      | refine Wc_block ?_
      | refine blkQ_normal ?_
      | refine blkQ_ret ?_
      | refine Wc_exit ?_
      | refine thenQ_exit ?_
      | refine blkQ_hit ?_
      | refine blkQ_miss rfl ?_
      | refine Wc_skip ?_
      | refine Wc_label ?_
      | refine loopQ_exit ?_
      | refine loopQ_ret ?_
      | refine loopQ_normal ?_
      | (refine Wc_region (id := 0) ?_; intro K hK; (refine Wl_boxAgg rfl (by (repeat (first | exact Ev.here | exact Ev.const | exact Ev.arg rfl | apply Ev.there rfl | exact Ev.none rfl | exact Ev.func | exact Ev.var)); (first | done | fail)) ?_; intro r); refine Wl_assign rfl (by (repeat (first | exact Ev.here | exact Ev.const | exact Ev.arg rfl | apply Ev.there rfl | exact Ev.none rfl | exact Ev.func | exact Ev.var)); (first | done | fail)) ?_; (refine Wl_nil (hK _ _ ?_); clear hK K))
      | (refine Wc_region (id := 1) ?_; intro K hK; skip)
      | (refine Wc_region (id := 2) ?_; intro K hK; refine Wl_move rfl (by (repeat (first | exact Ev.here | exact Ev.const | exact Ev.arg rfl | apply Ev.there rfl | exact Ev.none rfl | exact Ev.func | exact Ev.var)); (first | done | fail)) ?_; refine Wl_len_sl rfl rfl ?_; refine Wl_move rfl (by (repeat (first | exact Ev.here | exact Ev.const | exact Ev.arg rfl | apply Ev.there rfl | exact Ev.none rfl | exact Ev.func | exact Ev.var)); (first | done | fail)) ?_; (refine Wl_nil (hK _ _ ?_); clear hK K))
      | (refine Wc_region (id := 3) ?_; intro K hK; refine Wl_lss rfl rfl rfl ?_; (refine Wl_nil (hK _ _ ?_); clear hK K))
      | (refine Wc_region (id := 4) ?_; intro K hK; refine Wl_move rfl (by (repeat (first | exact Ev.here | exact Ev.const | exact Ev.arg rfl | apply Ev.there rfl | exact Ev.none rfl | exact Ev.func | exact Ev.var)); (first | done | fail)) ?_; refine Wl_assign rfl (by (repeat (first | exact Ev.here | exact Ev.const | exact Ev.arg rfl | apply Ev.there rfl | exact Ev.none rfl | exact Ev.func | exact Ev.var)); (first | done | fail)) ?_; (refine Wl_nil (hK _ _ ?_); clear hK K))
      | (refine Wc_region (id := 5) ?_; intro K hK; refine Wl_move rfl (by (repeat (first | exact Ev.here | exact Ev.const | exact Ev.arg rfl | apply Ev.there rfl | exact Ev.none rfl | exact Ev.func | exact Ev.var)); (first | done | fail)) ?_; refine Wl_move rfl (by (repeat (first | exact Ev.here | exact Ev.const | exact Ev.arg rfl | apply Ev.there rfl | exact Ev.none rfl | exact Ev.func | exact Ev.var)); (first | done | fail)) ?_; refine Wl_fieldAddr rfl rfl rfl ?_; refine Wl_load (by decide) rfl rfl (by (repeat (first | exact Rd.head | exact Rd.base (by assumption) | apply Rd.tail)); (first | done | fail)) rfl ?_; refine Wl_move rfl (by (repeat (first | exact Ev.here | exact Ev.const | exact Ev.arg rfl | apply Ev.there rfl | exact Ev.none rfl | exact Ev.func | exact Ev.var)); (first | done | fail)) ?_; refine Wl_conv rfl rfl (by first | exact fits_i64 (by omega) | exact fits_u8 (by omega) | exact fits_u64 (by omega) | exact fits_u32 (by omega)) ?_; refine Wl_add rfl rfl rfl (by first | exact fits_i64 (by omega) | exact fits_u8 (by omega) | exact fits_u64 (by omega) | exact fits_u32 (by omega)) ?_; refine Wl_index_sl rfl rfl rfl (by omega) (by omega) ?_; refine Wl_store rfl (by (repeat (first | exact Ev.here | exact Ev.const | exact Ev.arg rfl | apply Ev.there rfl | exact Ev.none rfl | exact Ev.func | exact Ev.var)); (first | done | fail)) (by rfl) (by (repeat (first | exact Upd.head | apply Upd.tail)); (first | done | fail)) (by (repeat (first | exact SetAt.zero | apply SetAt.succ)); (first | done | fail)) rfl (by simp) ?_; (refine Wl_nil (hK _ _ ?_); clear hK K))
      | (refine Wc_region (id := 6) ?_; intro K hK; refine Wl_add rfl rfl rfl (by first | exact fits_i64 (by omega) | exact fits_u8 (by omega) | exact fits_u64 (by omega) | exact fits_u32 (by omega)) ?_; refine Wl_move rfl (by (repeat (first | exact Ev.here | exact Ev.const | exact Ev.arg rfl | apply Ev.there rfl | exact Ev.none rfl | exact Ev.func | exact Ev.var)); (first | done | fail)) ?_; (refine Wl_nil (hK _ _ ?_); clear hK K))
      | (refine Wc_region (id := 7) ?_; intro K hK; refine Wl_move rfl (by (repeat (first | exact Ev.here | exact Ev.const | exact Ev.arg rfl | apply Ev.there rfl | exact Ev.none rfl | exact Ev.func | exact Ev.var)); (first | done | fail)) ?_; refine Wl_assign rfl (by (repeat (first | exact Ev.here | exact Ev.const | exact Ev.arg rfl | apply Ev.there rfl | exact Ev.none rfl | exact Ev.func | exact Ev.var)); (first | done | fail)) ?_; (refine Wl_nil (hK _ _ ?_); clear hK K))
      | (refine Wc_cond rfl (fun ht => ?_) (fun ht => ?_) <;> (try simp at ht) <;> (try (exfalso; omega))))
    have hl := blockL_length f
    have hb : (blockL f).take 64 ++ List.replicate (64 - 64) 0 = blockL f := by rw [List.take_of_length_le (by omega)]; simp
    rw [hb]
    refine ⟨Or.inr rfl, _, [own (some ⟨bk, 0, none⟩) 64 64 1 ((blockL f).map byteV) 5], ?_, res1 rfl rfl, _, _, rfl, rfl⟩
    have h2 := own_shut bk 64 64 1 ((blockL f).map byteV) [] 5 [] (by simp [hl]) (by simp [hl])
    rw [List.append_nil] at h2
    refine Ent.trans ?_ h2
    (repeat (first | exact Ent.refl _ | exact Ent.nil | refine Ent.take (by (repeat (first | exact Out.head | apply Out.tail)); (first | done | fail)) ?_ | refine Ent.drop1 ?_))
end specs
end Go.Proofs.Ytjmmmfibmdlclaa
