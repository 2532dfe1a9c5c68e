/- Layer 13: the law's own helpers: sectors, texts, same, size. Conditions: lengths as the reach has them. -/
import Derived.Test.YtdlpfeflndlpfaaRefJ4
import Derived.Test.YtdlpfeflndlpfaaToldG13
import Derived.Test.YtdlpfeflndlpfaaLawA
set_option maxHeartbeats 8000000
set_option linter.unusedVariables false
set_option linter.unusedSimpArgs false
set_option maxRecDepth 100000
namespace Go.Proofs.Ytdlpfeflndlpfaa
open Go Go.Sl
attribute [local irreducible] Go.Sl.Wl Go.Sl.Wc Go.Sl.thenQ Go.Sl.blkQ Go.Sl.loopQ Go.Sl.Fspec

section specs
variable {B : Base}
def sizeN (n : Int) : Nat := 4 + (bitV .and .i64 n 31).toNat
theorem and31 (n : Int) : bitV .and .i64 n 31 = ((bitV .and .i64 n 31).toNat : Int) ∧ (bitV .and .i64 n 31).toNat ≤ 31 := by
  have h1 : (BitVec.ofInt 64 n &&& BitVec.ofInt 64 31).toNat ≤ 31 := by
    rw [BitVec.toNat_and]
    exact Nat.and_le_right
  have h2 : bitV .and .i64 n 31 = ((BitVec.ofInt 64 n &&& BitVec.ofInt 64 31).toNat : Int) := by
    unfold bitV
    show IntKind.i64.wrap ((BitVec.ofInt 64 n &&& BitVec.ofInt 64 31).toNat : Int) = _
    exact IntWalk.i64_in _ (by omega)
  rw [h2]; omega
theorem and63 (n : Int) : bitV .and .i64 n 63 = ((bitV .and .i64 n 63).toNat : Int) ∧ (bitV .and .i64 n 63).toNat ≤ 63 := by
  have h1 : (BitVec.ofInt 64 n &&& BitVec.ofInt 64 63).toNat ≤ 63 := by
    rw [BitVec.toNat_and]
    exact Nat.and_le_right
  have h2 : bitV .and .i64 n 63 = ((BitVec.ofInt 64 n &&& BitVec.ofInt 64 63).toNat : Int) := by
    unfold bitV
    show IntKind.i64.wrap ((BitVec.ofInt 64 n &&& BitVec.ofInt 64 63).toNat : Int) = _
    exact IntWalk.i64_in _ (by omega)
  rw [h2]; omega
theorem size_spec (n : Int) : Fspec Try.prog B 43 #[.int .i64 n] [] (fun v A' => v = .int .i64 (sizeN n) ∧ A' = []) := by
  have h := and31 n
  refine spec_of (args := [_]) Try.func43 rfl rfl rfl ?_
  repeat' (first
    | refine Wc_seq ?_
    | refine thenQ_normal ?_
    | refine Wc_cond_t (h := ?_)
    | refine Wc_cond_f (h := ?_)
    | refine Wc_ret ?_
    | refine thenQ_ret ?_
    | refine Wc_block ?_
    | refine blkQ_normal ?_
    | refine blkQ_ret ?_
    | refine Wc_exit ?_
    | refine thenQ_exit ?_
    | refine blkQ_hit ?_
    | refine blkQ_miss rfl ?_
    | refine Wc_skip ?_
    | refine Wc_label ?_
    | refine loopQ_exit ?_
    | refine loopQ_ret ?_
    | refine loopQ_normal ?_
    | (refine Wc_region (id := 0) ?_; intro K hK; refine Wl_assign (k := ?_); (refine Wl_nil (hK _ _ ?_); clear hK K))
    | (refine Wc_region (id := 1) ?_; intro K hK; refine Wl_move (k := ?_); ((refine Wl_and (k' := ?_); rw [h.1])) <;> (refine Wl_add (k' := ?_); refine Wl_assign (k := ?_); (refine Wl_nil (hK _ _ ?_); clear hK K)))
    | (refine Wc_cond (ht := (fun ht => ?_)) (hf := (fun ht => ?_)) <;> (try simp at ht) <;> (try (exfalso; omega))))
  exact ⟨Or.inr rfl, _, [], Ent.nil, res1 rfl rfl, by unfold sizeN; exact congrArg (Value.int .i64) (by omega), rfl⟩
def secsV (S : Nat → List UInt8) (n : Nat) : List Value := ((List.range n).map S).map strV
theorem sectors_spec (d n : Nat) (D : Dk) (hD : D.ok n) (hdn : D.down = false) (hn1 : n ≤ 10000) :
    Fspec Try.prog B 45 #[.pointer (some ⟨d, 0, none⟩)] [DiskP d n D]
      (fun v A' => ∃ a c, v = .slice a n c ∧ A' = [own a n c 1 (((List.range n).map D.seen).map strV) 9, DiskP d n D]) := by
  have hn := hD.n
  have hsl : ∀ i, i < n → (D.seen i).length = 64 := fun i hi => seen_length i D.pend _ (by rw [List.length_take, List.length_drop, hD.len]; omega) (fun q hq => (hD.pend q hq).2)
  refine spec_of (args := [_]) Try.func45 rfl rfl rfl ?_
  repeat' (first
    | refine Wc_seq ?_
    | refine thenQ_normal ?_
    | refine Wc_cond_t (h := ?_)
    | refine Wc_cond_f (h := ?_)
    | refine Wc_ret ?_
    | refine thenQ_ret ?_
    | refine Wc_block ?_
    | refine blkQ_normal ?_
    | refine blkQ_ret ?_
    | refine Wc_exit ?_
    | refine thenQ_exit ?_
    | refine blkQ_hit ?_
    | refine blkQ_miss rfl ?_
    | refine Wc_skip ?_
    | refine Wc_label ?_
    | refine loopQ_exit ?_
    | refine loopQ_ret ?_
    | refine loopQ_normal ?_
    | (refine Wc_region (id := 0) ?_; intro K hK; refine Wl_assign (k := ?_); (refine Wl_nil (hK _ _ ?_); clear hK K))
    | (refine Wc_region (id := 1) ?_; intro K hK; refine Wl_assign (k := ?_); (refine Wl_nil (hK _ _ ?_); clear hK K))
    | (refine Wc_region (id := 2) ?_; intro K hK; refine Wl_assign (k := ?_); (refine Wl_nil (hK _ _ ?_); clear hK K))
    | (refine Wc_cond (ht := (fun ht => ?_)) (hf := (fun ht => ?_)) <;> (try simp at ht) <;> (try (exfalso; omega))))
  refine Wc_loop (α := Nat × Option Addr × Nat) (fun x => [(0, .pointer (some ⟨d, 0, none⟩)), (3, .slice x.2.1 x.1 x.2.2), (4, .int .i64 x.1)])
    (fun x => [own x.2.1 x.1 x.2.2 1 (((List.range x.1).map D.seen).map strV) 9, DiskP d n D]) (fun x => x.1 ≤ n) (fun x => n - x.1) (0, none, 0) (by simp) ⟨rfl, rfl, rfl, trivial⟩ ((own_nil 1 9 _).trans (by (repeat (first | exact Ent.refl _ | exact Ent.nil | refine Ent.take (by (repeat (first | exact Out.head | apply Out.tail)); (first | done | fail)) ?_ | refine Ent.drop1 ?_)))) ?_
  rintro ⟨i, oa, oc⟩ G hi
  simp only at hi
  simp only [ov]
  by_cases hlt : i < n
  · obtain ⟨s, hs⟩ : ∃ s, D.seen i = s := ⟨_, rfl⟩
    have hs64 : s.length = 64 := by rw [← hs]; exact hsl _ hlt
    repeat' (first
      | refine Wc_seq ?_
      | refine thenQ_normal ?_
      | refine Wc_cond_t (h := ?_)
      | refine Wc_cond_f (h := ?_)
      | refine Wc_ret ?_
      | refine thenQ_ret ?_
      | refine Wc_block ?_
      | refine blkQ_normal ?_
      | refine blkQ_ret ?_
      | refine Wc_exit ?_
      | refine thenQ_exit ?_
      | refine blkQ_hit ?_
      | refine blkQ_miss rfl ?_
      | refine Wc_skip ?_
      | refine Wc_label ?_
      | refine loopQ_exit ?_
      | refine loopQ_ret ?_
      | refine loopQ_normal ?_
      | (refine Wc_region (id := 3) ?_; intro K hK; refine Wl_move (k := ?_); refine Wl_move (k := ?_); ((refine Wl_call (hs := len_ok B d n D) (k := ?_); rintro v A' ⟨rfl, rfl⟩; simp only [List.cons_append, List.nil_append])) <;> (refine Wl_lss (k' := ?_); (refine Wl_nil (hK _ _ ?_); clear hK K)))
      | (refine Wc_region (id := 5) ?_; intro K hK; refine Wl_move (k := ?_); refine Wl_move (k := ?_); ((refine Wl_call (hs := read_ok B d n i D hD hdn (by omega)) (k := ?_); rintro v A' ⟨sa, sc, rfl, rfl⟩; simp only [List.cons_append, List.nil_append]; rw [hs])) <;> (refine Wl_move (k := ?_); refine Wl_extract (k' := ?_); refine Wl_extract (k' := ?_); refine Wl_assign (k := ?_); refine Wl_assign (k := ?_); (refine Wl_nil (hK _ _ ?_); clear hK K)))
      | (refine Wc_cond (ht := (fun ht => ?_)) (hf := (fun ht => ?_)) <;> (try simp at ht) <;> (try (exfalso; omega))))
    refine Wc_ownF (a := sa) (h := (fun hf => ?_))
    repeat' (first
      | refine Wc_seq ?_
      | refine thenQ_normal ?_
      | refine Wc_cond_t (h := ?_)
      | refine Wc_cond_f (h := ?_)
      | refine Wc_ret ?_
      | refine thenQ_ret ?_
      | refine Wc_block ?_
      | refine blkQ_normal ?_
      | refine blkQ_ret ?_
      | refine Wc_exit ?_
      | refine thenQ_exit ?_
      | refine blkQ_hit ?_
      | refine blkQ_miss rfl ?_
      | refine Wc_skip ?_
      | refine Wc_label ?_
      | refine loopQ_exit ?_
      | refine loopQ_ret ?_
      | refine loopQ_normal ?_
      | (refine Wc_region (id := 4) ?_; intro K hK; refine Wl_move (k := ?_); refine Wl_add (k' := ?_); refine Wl_assign (k := ?_); (refine Wl_nil (hK _ _ ?_); clear hK K))
      | (refine Wc_region (id := 6) ?_; intro K hK; refine Wl_move (k := ?_); refine Wl_move (k := ?_); ((refine Wl_bytes_str (cs := s) (hsrc := (hf.rd (by (repeat (first | exact Out.head | apply Out.tail)); (first | done | fail))).src) (hl := hs64) (k := ?_))) <;> ((refine Wl_lit1 (k := ?_); intro r); ((refine Wl_append1 (hvl := by rfl) (hvc := by rfl) (hbd := by omega) (k := ?_); intro oa' oc')) <;> (refine Wl_assign (k := ?_); (refine Wl_nil (hK _ _ ?_); clear hK K))))
      | (refine Wc_cond (ht := (fun ht => ?_)) (hf := (fun ht => ?_)) <;> (try simp at ht) <;> (try (exfalso; omega))))
    refine ⟨(i + 1, oa', oc'), by simp only; omega, by simp only; omega, ⟨rfl, rfl, int_succ i, trivial⟩, ?_⟩
    simp only
    rw [List.range_succ, List.map_append, List.map_append]
    simp only [List.map_cons, List.map_nil, hs]
    (repeat (first | exact Ent.refl _ | exact Ent.nil | refine Ent.take (by (repeat (first | exact Out.head | apply Out.tail)); (first | done | fail)) ?_ | refine Ent.drop1 ?_))
  · obtain rfl : i = n := by omega
    repeat' (first
      | refine Wc_seq ?_
      | refine thenQ_normal ?_
      | refine Wc_cond_t (h := ?_)
      | refine Wc_cond_f (h := ?_)
      | refine Wc_ret ?_
      | refine thenQ_ret ?_
      | refine Wc_block ?_
      | refine blkQ_normal ?_
      | refine blkQ_ret ?_
      | refine Wc_exit ?_
      | refine thenQ_exit ?_
      | refine blkQ_hit ?_
      | refine blkQ_miss rfl ?_
      | refine Wc_skip ?_
      | refine Wc_label ?_
      | refine loopQ_exit ?_
      | refine loopQ_ret ?_
      | refine loopQ_normal ?_
      | (refine Wc_region (id := 3) ?_; intro K hK; refine Wl_move (k := ?_); refine Wl_move (k := ?_); ((refine Wl_call (hs := len_ok B d i D) (k := ?_); rintro v A' ⟨rfl, rfl⟩; simp only [List.cons_append, List.nil_append])) <;> (refine Wl_lss (k' := ?_); (refine Wl_nil (hK _ _ ?_); clear hK K)))
      | (refine Wc_region (id := 7) ?_; intro K hK; refine Wl_move (k := ?_); refine Wl_assign (k := ?_); (refine Wl_nil (hK _ _ ?_); clear hK K))
      | (refine Wc_cond (ht := (fun ht => ?_)) (hf := (fun ht => ?_)) <;> (try simp at ht) <;> (try (exfalso; omega))))
    exact ⟨Or.inr rfl, _, [own oa i oc 1 (((List.range i).map D.seen).map strV) 9, DiskP d i D], (by (repeat (first | exact Ent.refl _ | exact Ent.nil | refine Ent.take (by (repeat (first | exact Out.head | apply Out.tail)); (first | done | fail)) ?_ | refine Ent.drop1 ?_))), res1 rfl rfl, oa, oc, rfl, rfl⟩
theorem same13_spec (a b : Option Addr) (n c c' : Nat) (T : List (List UInt8)) (hl : T.length = n) (hn : n ≤ 9223372036854775807) :
    Fspec Try.prog B 52 #[.slice a n c, .slice b n c'] [own a n c 1 (T.map strV) 9, own b n c' 1 (T.map strV) 9]
      (fun v A' => v = .bool true ∧ A' = [own a n c 1 (T.map strV) 9, own b n c' 1 (T.map strV) 9]) := by
  refine spec_of (args := [_, _]) Try.func52 rfl rfl rfl ?_
  refine Wc_ownF (a := a) (h := (fun hf => ?_))
  refine Wc_ownF (a := b) (h := (fun hg => ?_))
  repeat' (first
    | refine Wc_seq ?_
    | refine thenQ_normal ?_
    | refine Wc_cond_t (h := ?_)
    | refine Wc_cond_f (h := ?_)
    | refine Wc_ret ?_
    | refine thenQ_ret ?_
    | refine Wc_block ?_
    | refine blkQ_normal ?_
    | refine blkQ_ret ?_
    | refine Wc_exit ?_
    | refine thenQ_exit ?_
    | refine blkQ_hit ?_
    | refine blkQ_miss rfl ?_
    | refine Wc_skip ?_
    | refine Wc_label ?_
    | refine loopQ_exit ?_
    | refine loopQ_ret ?_
    | refine loopQ_normal ?_
    | (refine Wc_region (id := 0) ?_; intro K hK; refine Wl_assign (k := ?_); (refine Wl_nil (hK _ _ ?_); clear hK K))
    | (refine Wc_region (id := 1) ?_; intro K hK; refine Wl_move (k := ?_); refine Wl_len_sl (k' := ?_); refine Wl_move (k := ?_); refine Wl_len_sl (k' := ?_); ((refine Wl_neq (k' := ?_); rw [decide_eq_false (not_not_intro rfl)])) <;> ((refine Wl_nil (hK _ _ ?_); clear hK K)))
    | (refine Wc_region (id := 2) ?_; intro K hK; refine Wl_assign (k := ?_); (refine Wl_nil (hK _ _ ?_); clear hK K))
    | (refine Wc_region (id := 3) ?_; intro K hK; refine Wl_move (k := ?_); refine Wl_len_sl (k' := ?_); refine Wl_move (k := ?_); (refine Wl_nil (hK _ _ ?_); clear hK K))
    | (refine Wc_cond (ht := (fun ht => ?_)) (hf := (fun ht => ?_)) <;> (try simp at ht) <;> (try (exfalso; omega))))
  refine Wc_loop (α := Nat) (fun i => [(0, .slice a n c), (1, .slice b n c'), (12, .int .i64 n), (13, .int .i64 i)]) (fun i => [own a n c 1 (T.map strV) 9, own b n c' 1 (T.map strV) 9]) (fun i => i ≤ n) (fun i => n - i) 0 (by omega) ⟨rfl, rfl, rfl, rfl, trivial⟩ (by (repeat (first | exact Ent.refl _ | exact Ent.nil | refine Ent.take (by (repeat (first | exact Out.head | apply Out.tail)); (first | done | fail)) ?_ | refine Ent.drop1 ?_))) ?_
  intro i G hi
  simp only [ov]
  by_cases hlt : i < n
  · obtain ⟨x, hx⟩ : ∃ x, T[i]? = some x := ⟨T[i]'(by omega), List.getElem?_eq_getElem (by omega)⟩
    have hv : (T.map strV)[i]? = some (strV x) := by rw [List.getElem?_map, hx]; rfl
    obtain ⟨p, rfl⟩ := hf.some (by omega)
    obtain ⟨q, rfl⟩ := hg.some (by omega)
    repeat' (first
      | refine Wc_seq ?_
      | refine thenQ_normal ?_
      | refine Wc_cond_t (h := ?_)
      | refine Wc_cond_f (h := ?_)
      | refine Wc_ret ?_
      | refine thenQ_ret ?_
      | refine Wc_block ?_
      | refine blkQ_normal ?_
      | refine blkQ_ret ?_
      | refine Wc_exit ?_
      | refine thenQ_exit ?_
      | refine blkQ_hit ?_
      | refine blkQ_miss rfl ?_
      | refine Wc_skip ?_
      | refine Wc_label ?_
      | refine loopQ_exit ?_
      | refine loopQ_ret ?_
      | refine loopQ_normal ?_
      | (refine Wc_region (id := 4) ?_; intro K hK; refine Wl_lss (k' := ?_); (refine Wl_nil (hK _ _ ?_); clear hK K))
      | (refine Wc_region (id := 5) ?_; intro K hK; refine Wl_move (k := ?_); refine Wl_assign (k := ?_); (refine Wl_nil (hK _ _ ?_); clear hK K))
      | (refine Wc_drawF (id := 6) (M := ([own (some p) n c 1 (T.map strV) 9, own (some q) n c' 1 (T.map strV) 9])) (Ls := [19, 23, 24]) (hp := (Pick.perm (by (repeat (first | exact Pick.nil | apply Pick.cons (by (repeat (first | exact Out.head | apply Out.tail)); (first | done | fail)))); (first | done | fail)))) (h := ?_); intro K hK; refine Wl_move (k := ?_); refine Wl_move (k := ?_); ((refine Wl_index_any (k' := ?_))) <;> (((refine Wl_loadGF (v := strV x) (j := i) (hq := by rw [Int.toNat_natCast, Nat.mul_one]) (hr := hf.rd (by (repeat (first | exact Out.head | apply Out.tail)); (first | done | fail))) (hv := hv) (k := ?_))) <;> (refine Wl_move (k := ?_); refine Wl_move (k := ?_); ((refine Wl_index_any (k' := ?_))) <;> (((refine Wl_loadGF (v := strV x) (j := i) (hq := by rw [Int.toNat_natCast, Nat.mul_one]) (hr := hg.rd (by (repeat (first | exact Out.head | apply Out.tail)); (first | done | fail))) (hv := hv) (k := ?_))) <;> (((refine Wl_str_neq (a := bytesOf x) (b := bytesOf x) (k' := ?_); rw [beq_self_eq_true])) <;> ((refine Wl_nil (hK _ _ ?_); clear hK K; try simp only [List.cons_append, List.nil_append])))))))
      | (refine Wc_region (id := 7) ?_; intro K hK; refine Wl_assign (k := ?_); (refine Wl_nil (hK _ _ ?_); clear hK K))
      | (refine Wc_region (id := 8) ?_; intro K hK; refine Wl_add (k' := ?_); refine Wl_move (k := ?_); (refine Wl_nil (hK _ _ ?_); clear hK K))
      | (refine Wc_cond (ht := (fun ht => ?_)) (hf := (fun ht => ?_)) <;> (try simp at ht) <;> (try (exfalso; omega))))
    exact ⟨i + 1, by omega, by omega, ⟨rfl, rfl, rfl, int_succ i, trivial⟩, (by (repeat (first | exact Ent.refl _ | exact Ent.nil | refine Ent.take (by (repeat (first | exact Out.head | apply Out.tail)); (first | done | fail)) ?_ | refine Ent.drop1 ?_)))⟩
  · obtain rfl : i = n := by omega
    repeat' (first
      | refine Wc_seq ?_
      | refine thenQ_normal ?_
      | refine Wc_cond_t (h := ?_)
      | refine Wc_cond_f (h := ?_)
      | refine Wc_ret ?_
      | refine thenQ_ret ?_
      | refine Wc_block ?_
      | refine blkQ_normal ?_
      | refine blkQ_ret ?_
      | refine Wc_exit ?_
      | refine thenQ_exit ?_
      | refine blkQ_hit ?_
      | refine blkQ_miss rfl ?_
      | refine Wc_skip ?_
      | refine Wc_label ?_
      | refine loopQ_exit ?_
      | refine loopQ_ret ?_
      | refine loopQ_normal ?_
      | (refine Wc_region (id := 4) ?_; intro K hK; refine Wl_lss (k' := ?_); (refine Wl_nil (hK _ _ ?_); clear hK K))
      | (refine Wc_region (id := 9) ?_; intro K hK; refine Wl_assign (k := ?_); (refine Wl_nil (hK _ _ ?_); clear hK K))
      | (refine Wc_cond (ht := (fun ht => ?_)) (hf := (fun ht => ?_)) <;> (try simp at ht) <;> (try (exfalso; omega))))
    exact ⟨Or.inr rfl, .bool true, _, Ent.refl _, res1 rfl rfl, rfl, rfl⟩
theorem texts_spec (a : Option Addr) (c : Nat) (xs : List RX) (hn : xs.length ≤ 10000) :
    Fspec Try.prog B 53 #[.slice a xs.length c] (RecsP a c xs)
      (fun v A' => ∃ a' c', v = .slice a' xs.length c' ∧ A' = [own a' xs.length c' 1 ((recsOf xs).map strV) 9, own a xs.length c 1 (xs.map rowV) 28, RowsP xs]) := by
  refine spec_of (args := [_]) Try.func53 rfl rfl rfl ?_
  simp only [RecsP]
  refine Wc_ownF (a := a) (h := (fun hf => ?_))
  repeat' (first
    | refine Wc_seq ?_
    | refine thenQ_normal ?_
    | refine Wc_cond_t (h := ?_)
    | refine Wc_cond_f (h := ?_)
    | refine Wc_ret ?_
    | refine thenQ_ret ?_
    | refine Wc_block ?_
    | refine blkQ_normal ?_
    | refine blkQ_ret ?_
    | refine Wc_exit ?_
    | refine thenQ_exit ?_
    | refine blkQ_hit ?_
    | refine blkQ_miss rfl ?_
    | refine Wc_skip ?_
    | refine Wc_label ?_
    | refine loopQ_exit ?_
    | refine loopQ_ret ?_
    | refine loopQ_normal ?_
    | (refine Wc_region (id := 0) ?_; intro K hK; refine Wl_assign (k := ?_); (refine Wl_nil (hK _ _ ?_); clear hK K))
    | (refine Wc_region (id := 1) ?_; intro K hK; refine Wl_assign (k := ?_); (refine Wl_nil (hK _ _ ?_); clear hK K))
    | (refine Wc_region (id := 2) ?_; intro K hK; refine Wl_move (k := ?_); refine Wl_len_sl (k' := ?_); refine Wl_move (k := ?_); (refine Wl_nil (hK _ _ ?_); clear hK K))
    | (refine Wc_cond (ht := (fun ht => ?_)) (hf := (fun ht => ?_)) <;> (try simp at ht) <;> (try (exfalso; omega))))
  refine Wc_loop (α := Nat × Option Addr × Nat) (fun x => [(0, .slice a xs.length c), (3, .slice x.2.1 x.1 x.2.2), (6, .int .i64 xs.length), (7, .int .i64 x.1)])
    (fun x => [own x.2.1 x.1 x.2.2 1 (((recsOf xs).take x.1).map strV) 9, own a xs.length c 1 (xs.map rowV) 28, RowsP xs]) (fun x => x.1 ≤ xs.length) (fun x => xs.length - x.1) (0, none, 0) (by simp) ⟨rfl, rfl, rfl, rfl, trivial⟩ ((own_nil 1 9 _).trans (by simp only [List.take_zero, List.map_nil]; (repeat (first | exact Ent.refl _ | exact Ent.nil | refine Ent.take (by (repeat (first | exact Out.head | apply Out.tail)); (first | done | fail)) ?_ | refine Ent.drop1 ?_)))) ?_
  rintro ⟨i, oa, oc⟩ G hi
  simp only at hi
  simp only [ov]
  by_cases hlt : i < xs.length
  · obtain ⟨x, hx⟩ : ∃ x, xs[i]? = some x := ⟨xs[i]'hlt, List.getElem?_eq_getElem hlt⟩
    have hv : (xs.map rowV)[i]? = some (rowV x) := by rw [List.getElem?_map, hx]; rfl
    have hrt : (recsOf xs).take (i + 1) = (recsOf xs).take i ++ [x.2.2] := by
      rw [List.take_add_one]
      simp [recsOf, hx]
    obtain ⟨p, rfl⟩ := hf.some (by omega)
    repeat' (first
      | refine Wc_seq ?_
      | refine thenQ_normal ?_
      | refine Wc_cond_t (h := ?_)
      | refine Wc_cond_f (h := ?_)
      | refine Wc_ret ?_
      | refine thenQ_ret ?_
      | refine Wc_block ?_
      | refine blkQ_normal ?_
      | refine blkQ_ret ?_
      | refine Wc_exit ?_
      | refine thenQ_exit ?_
      | refine blkQ_hit ?_
      | refine blkQ_miss rfl ?_
      | refine Wc_skip ?_
      | refine Wc_label ?_
      | refine loopQ_exit ?_
      | refine loopQ_ret ?_
      | refine loopQ_normal ?_
      | (refine Wc_region (id := 3) ?_; intro K hK; refine Wl_lss (k' := ?_); (refine Wl_nil (hK _ _ ?_); clear hK K))
      | (refine Wc_region (id := 4) ?_; intro K hK; refine Wl_move (k := ?_); refine Wl_assign (k := ?_); (refine Wl_nil (hK _ _ ?_); clear hK K))
      | (refine Wc_region (id := 5) ?_; intro K hK; refine Wl_move (k := ?_); refine Wl_move (k := ?_); refine Wl_move (k := ?_); ((refine Wl_index_any (k' := ?_))) <;> (((refine Wl_loadG (v := rowV x) (j := i) (hq := by rw [Int.toNat_natCast, Nat.mul_one]) (hr := hf.rd (by (repeat (first | exact Out.head | apply Out.tail)); (first | done | fail))) (hv := hv) (k := ?_); refine Wl_rowsF (xs := xs) (by (repeat (first | exact Out.head | apply Out.tail)); (first | done | fail)) (fun hall => ?_))) <;> (((refine Wl_bytes_str (cs := x.2.2) (hsrc := (row_rd (X := RowsP xs) (List.mem_of_getElem? hx) (hall x (List.mem_of_getElem? hx)) (Ent.refl _)).src.tail.tail) (hl := rfl) (k := ?_))) <;> ((refine Wl_lit1 (k := ?_); intro r); ((refine Wl_append1 (hvl := by rfl) (hvc := by rfl) (hbd := by omega) (k := ?_); intro oa' oc')) <;> (refine Wl_assign (k := ?_); (refine Wl_nil (hK _ _ ?_); clear hK K))))))
      | (refine Wc_region (id := 6) ?_; intro K hK; refine Wl_add (k' := ?_); refine Wl_move (k := ?_); (refine Wl_nil (hK _ _ ?_); clear hK K))
      | (refine Wc_cond (ht := (fun ht => ?_)) (hf := (fun ht => ?_)) <;> (try simp at ht) <;> (try (exfalso; omega))))
    refine ⟨(i + 1, oa', oc'), by simp only; omega, by simp only; omega, ⟨rfl, rfl, rfl, int_succ i, trivial⟩, ?_⟩
    simp only
    rw [hrt, List.map_append]
    (repeat (first | exact Ent.refl _ | exact Ent.nil | refine Ent.take (by (repeat (first | exact Out.head | apply Out.tail)); (first | done | fail)) ?_ | refine Ent.drop1 ?_))
  · obtain rfl : i = xs.length := by omega
    rw [List.take_of_length_le (by simp [recsOf])]
    repeat' (first
      | refine Wc_seq ?_
      | refine thenQ_normal ?_
      | refine Wc_cond_t (h := ?_)
      | refine Wc_cond_f (h := ?_)
      | refine Wc_ret ?_
      | refine thenQ_ret ?_
      | refine Wc_block ?_
      | refine blkQ_normal ?_
      | refine blkQ_ret ?_
      | refine Wc_exit ?_
      | refine thenQ_exit ?_
      | refine blkQ_hit ?_
      | refine blkQ_miss rfl ?_
      | refine Wc_skip ?_
      | refine Wc_label ?_
      | refine loopQ_exit ?_
      | refine loopQ_ret ?_
      | refine loopQ_normal ?_
      | (refine Wc_region (id := 3) ?_; intro K hK; refine Wl_lss (k' := ?_); (refine Wl_nil (hK _ _ ?_); clear hK K))
      | (refine Wc_region (id := 7) ?_; intro K hK; refine Wl_move (k := ?_); refine Wl_assign (k := ?_); (refine Wl_nil (hK _ _ ?_); clear hK K))
      | (refine Wc_cond (ht := (fun ht => ?_)) (hf := (fun ht => ?_)) <;> (try simp at ht) <;> (try (exfalso; omega))))
    exact ⟨Or.inr rfl, _, _, Ent.refl _, res1 rfl rfl, oa, oc, rfl, rfl⟩
end specs
end Go.Proofs.Ytdlpfeflndlpfaa
