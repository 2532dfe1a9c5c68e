/- Package pack: the Writer. Conditions: what is written is far from the kind's edges. -/
import Derived.Test.YtepeljbgekgjcaaPackP
import Derived.Test.YtepeljbgekgjcaaJour1
set_option maxHeartbeats 8000000
set_option linter.unusedVariables false
set_option linter.unusedSimpArgs false
set_option maxRecDepth 100000
namespace Go.Proofs.Ytepeljbgekgjcaa
open Go Go.Sl
attribute [local irreducible] Go.Sl.Wl Go.Sl.Wc Go.Sl.thenQ Go.Sl.blkQ Go.Sl.loopQ Go.Sl.Fspec

def WrL (p : Nat) (bs : List UInt8) (a : Option Addr) (c : Nat) : List Asn :=
  [cb p [.slice a bs.length c, .bool false] 122, own a bs.length c 1 (bs.map byteV) 5]
/-- A Writer that has written so far. -/
def WrP (p : Nat) (bs : List UInt8) : Asn := exN fun x : Option Addr × Nat => WrL p bs x.1 x.2
theorem fold_wr {p : Nat} {bs : List UInt8} {a : Option Addr} {c : Nat} {X A0 : List Asn} (h : Ent X (WrL p bs a c ++ A0)) : Ent X (WrP p bs :: A0) :=
  h.trans (Ent.exN_shut (f := fun x : Option Addr × Nat => WrL p bs x.1 x.2) (a, c) A0)
theorem low7 (n : Nat) : Value.int .u8 (((n : Int).tmod 128) + 128) = byteV (UInt8.ofNat (n % 128 + 128)) := by
  have : (UInt8.ofNat (n % 128 + 128)).toNat = n % 128 + 128 := by simp [UInt8.toNat_ofNat']; omega
  unfold byteV; rw [this]
  have : (n : Int).tmod 128 = ((n % 128 : Nat) : Int) := by rw [Int.tmod_eq_emod_of_nonneg (by omega)]; omega
  rw [this]; push_cast; rfl
theorem low7i (n : Nat) : (n : Int).tmod 128 = ((n % 128 : Nat) : Int) := by rw [Int.tmod_eq_emod_of_nonneg (by omega)]; omega
theorem byte_small (n : Nat) (h : n < 128) : Value.int .u8 (n : Int) = byteV (UInt8.ofNat n) := by
  have : (UInt8.ofNat n).toNat = n := by simp [UInt8.toNat_ofNat']; omega
  unfold byteV; rw [this]
theorem quo128 (n : Nat) (h : n ≤ 9007199254740992) : IntKind.i64.wrap ((n : Int).tdiv 128) = ((n / 128 : Nat) : Int) := by
  have : (n : Int).tdiv 128 = ((n / 128 : Nat) : Int) := by rw [Int.tdiv_eq_ediv_of_nonneg (by omega)]; omega
  rw [this]; exact IntWalk.i64_in _ (by omega)
section specs
variable {B : Base}
theorem add_spec (p : Nat) (bs l : List UInt8) (a : Option Addr) (m c : Nat) (A0 : List Asn) (h : RdS Try.prog B A0 1 a m c (l.map byteV)) (hm : bs.length + m ≤ 1000000000) :
    Fspec Try.prog B 57 #[.pointer (some ⟨p, 0, none⟩), .slice a m c] (WrP p bs :: A0) (fun v A' => v = .tuple #[] ∧ A' = WrP p (bs ++ l) :: A0) := by
  have hl : l.length = m := by have := h.len; simpa using this
  refine spec_of (args := [_, _]) Try.func57 rfl rfl rfl ?_
  refine Wc_exN (fun x => ?_)
  obtain ⟨wa, wc⟩ := x
  simp only [WrL]
  simp only [List.cons_append, List.nil_append]
  repeat' (first
    | refine Wc_seq ?_
    | refine thenQ_normal ?_
    | refine Wc_cond_t (h := ?_)
    | refine Wc_cond_f (h := ?_)
    | refine Wc_ret ?_
    | refine thenQ_ret ?_
    | refine Wc_block ?_
    | refine blkQ_normal ?_
    | refine blkQ_ret ?_
    | refine Wc_exit ?_
    | refine thenQ_exit ?_
    | refine blkQ_hit ?_
    | refine blkQ_miss rfl ?_
    | refine Wc_skip ?_
    | refine Wc_label ?_
    | refine loopQ_exit ?_
    | refine loopQ_ret ?_
    | refine loopQ_normal ?_
    | (refine Wc_region (id := 0) ?_; intro K hK; refine Wl_move (k := ?_); refine Wl_move (k := ?_); refine Wl_nilCheck (k := ?_); refine Wl_fieldAddr (k := ?_); refine Wl_load (k := ?_); refine Wl_move (k := ?_); ((refine Wl_appendR (hsrc := h.tail.tail) (hvc := byteV_all _) (hbd := by omega) (k := ?_); intro oa' oc')) <;> (refine Wl_nilCheck (k := ?_); refine Wl_fieldAddr (k := ?_); refine Wl_store (ho := rfl) (k := ?_); (refine Wl_nil (hK _ _ ?_); clear hK K)))
    | (refine Wc_cond (ht := (fun ht => ?_)) (hf := (fun ht => ?_)) <;> (try simp at ht) <;> (try (exfalso; omega))))
  refine ⟨by simp, _, WrP p (bs ++ l) :: A0, fold_wr (a := oa') (c := oc') ?_, res0 rfl, rfl, rfl⟩
  simp only [WrL, List.length_append, hl, List.map_append]
  simp only [List.cons_append, List.nil_append]
  (repeat (first | exact Ent.refl _ | exact Ent.nil | refine Ent.take (by (repeat (first | exact Out.head | apply Out.tail)); (first | done | fail)) ?_ | refine Ent.drop1 ?_))
theorem add1_spec (p : Nat) (bs : List UInt8) (b : UInt8) (r : Nat) (E : TypeId) (hm : bs.length + 1 ≤ 1000000000) :
    Fspec Try.prog B 57 #[.pointer (some ⟨p, 0, none⟩), .slice (some ⟨r, 0, none⟩) 1 1] [WrP p bs, cb r [byteV b] E] (fun v A' => v = .tuple #[] ∧ A' = [WrP p (bs ++ [b]), cb r [byteV b] E]) :=
  add_spec p bs [b] _ 1 1 [cb r [byteV b] E] (rds_sl Rd.head (by simp) (by simp) (by omega)) hm
theorem num_spec (p : Nat) (bs : List UInt8) (n : Nat) (hn : n ≤ 9007199254740992) (hm : bs.length + (encN n).length ≤ 1000000) :
    Fspec Try.prog B 40 #[.pointer (some ⟨p, 0, none⟩), .int .i64 n] [WrP p bs] (fun v A' => v = .tuple #[] ∧ A' = [WrP p (bs ++ encN n)]) := by
  refine spec_of (args := [_, _]) Try.func40 rfl rfl rfl ?_
  refine Wc_exN (fun x => ?_)
  obtain ⟨wa, wc⟩ := x
  simp only [WrL]
  simp only [List.cons_append, List.nil_append]
  repeat' (first
    | refine Wc_seq ?_
    | refine thenQ_normal ?_
    | refine Wc_cond_t (h := ?_)
    | refine Wc_cond_f (h := ?_)
    | refine Wc_ret ?_
    | refine thenQ_ret ?_
    | refine Wc_block ?_
    | refine blkQ_normal ?_
    | refine blkQ_ret ?_
    | refine Wc_exit ?_
    | refine thenQ_exit ?_
    | refine blkQ_hit ?_
    | refine blkQ_miss rfl ?_
    | refine Wc_skip ?_
    | refine Wc_label ?_
    | refine loopQ_exit ?_
    | refine loopQ_ret ?_
    | refine loopQ_normal ?_
    | (refine Wc_region (id := 0) ?_; intro K hK; refine Wl_move (k := ?_); refine Wl_ptr_eq_nil (k' := ?_); (refine Wl_nil (hK _ _ ?_); clear hK K))
    | (refine Wc_region (id := 1) ?_; intro K hK; refine Wl_move (k := ?_); refine Wl_lss (k' := ?_); refine Wl_move (k := ?_); ((first | (refine Wl_guard (k := ?_); refine Wl_move (k := ?_)) | refine Wl_gno (k := ?_) | ((refine Wl_split (yes := (fun ht => ?_)) (no := (fun ht => ?_)) <;> (try simp at ht) <;> (try (exfalso; omega))) <;> (first | (refine Wl_guard (k := ?_); refine Wl_move (k := ?_)) | refine Wl_gno (k := ?_))))) <;> (((first | (refine Wl_guard (k := ?_); refine Wl_gtr (k' := ?_)) | refine Wl_gno (k := ?_) | ((refine Wl_split (yes := (fun ht => ?_)) (no := (fun ht => ?_)) <;> (try simp at ht) <;> (try (exfalso; omega))) <;> (first | (refine Wl_guard (k := ?_); refine Wl_gtr (k' := ?_)) | refine Wl_gno (k := ?_))))) <;> ((first | refine Wl_pick_t (k := ?_) | refine Wl_pick_f (k := ?_) | refine Wl_pick (k := ?_)); (refine Wl_nil (hK _ _ ?_); clear hK K))))
    | (refine Wc_region (id := 2) ?_; intro K hK; refine Wl_move (k := ?_); refine Wl_nilCheck (k := ?_); refine Wl_fieldAddr (k := ?_); refine Wl_fieldAddr (k := ?_); refine Wl_store (ho := rfl) (k := ?_); (refine Wl_nil (hK _ _ ?_); clear hK K))
    | (refine Wc_region (id := 3) ?_; intro K hK; refine Wl_move (k := ?_); refine Wl_nilCheck (k := ?_); refine Wl_fieldAddr (k := ?_); refine Wl_fieldAddr (k := ?_); refine Wl_load (k := ?_); (refine Wl_nil (hK _ _ ?_); clear hK K))
    | (refine Wc_cond (ht := (fun ht => ?_)) (hf := (fun ht => ?_)) <;> (try simp at ht) <;> (try (exfalso; omega))))
  refine Wc_loop (α := List UInt8 × Nat) (fun g => [(0, .pointer (some ⟨p, 0, none⟩)), (1, .int .i64 g.2)]) (fun g => [WrP p g.1])
    (fun g => g.1 ++ encN g.2 = bs ++ encN n ∧ g.2 ≤ 9007199254740992) (fun g => g.2) (bs, n) ⟨rfl, hn⟩ ⟨rfl, rfl, trivial⟩ (fold_wr (a := wa) (c := wc) (Ent.refl _)) ?_
  rintro ⟨cs, i⟩ G ⟨h1, h2⟩
  simp only [ov] at h1 h2 ⊢
  have hlen := congrArg List.length h1
  have hpos := encN_pos i
  simp only [List.length_append] at hlen
  by_cases hi : 128 ≤ i
  · rw [encN_big hi] at h1
    repeat' (first
      | refine Wc_seq ?_
      | refine thenQ_normal ?_
      | refine Wc_cond_t (h := ?_)
      | refine Wc_cond_f (h := ?_)
      | refine Wc_ret ?_
      | refine thenQ_ret ?_
      | refine Wc_block ?_
      | refine blkQ_normal ?_
      | refine blkQ_ret ?_
      | refine Wc_exit ?_
      | refine thenQ_exit ?_
      | refine blkQ_hit ?_
      | refine blkQ_miss rfl ?_
      | refine Wc_skip ?_
      | refine Wc_label ?_
      | refine loopQ_exit ?_
      | refine loopQ_ret ?_
      | refine loopQ_normal ?_
      | (refine Wc_region (id := 4) ?_; intro K hK; refine Wl_move (k := ?_); refine Wl_geq (k' := ?_); (refine Wl_nil (hK _ _ ?_); clear hK K))
      | (refine Wc_region (id := 5) ?_; intro K hK; refine Wl_move (k := ?_); refine Wl_nilCheck (k := ?_); refine Wl_fieldAddr (k := ?_); refine Wl_move (k := ?_); ((refine Wl_rem (hb := by decide) (k' := ?_); rw [low7i])) <;> (refine Wl_conv (k' := ?_); ((refine Wl_add (k' := ?_); rw [← low7i, low7])) <;> (((refine Wl_lit1 (cs := [byteV (UInt8.ofNat (i % 128 + 128))]) (k := ?_); intro r)) <;> (((refine Wl_call (hs := add1_spec p cs (UInt8.ofNat (i % 128 + 128)) r _ (by omega)) (k := ?_); rintro v A' ⟨rfl, rfl⟩; simp only [List.cons_append, List.nil_append])) <;> ((refine Wl_nil (hK _ _ ?_); clear hK K))))))
      | (refine Wc_region (id := 6) ?_; intro K hK; refine Wl_move (k := ?_); ((refine Wl_quo (hb := by decide) (k' := ?_); rw [quo128 _ h2])) <;> (refine Wl_assign (k := ?_); (refine Wl_nil (hK _ _ ?_); clear hK K)))
      | (refine Wc_cond (ht := (fun ht => ?_)) (hf := (fun ht => ?_)) <;> (try simp at ht) <;> (try (exfalso; omega))))
    refine ⟨(cs ++ [UInt8.ofNat (i % 128 + 128)], i / 128), ⟨by simpa using h1, by show i / 128 ≤ _; omega⟩, by show i / 128 < i; omega, ⟨rfl, rfl, trivial⟩, ?_⟩
    (repeat (first | exact Ent.refl _ | exact Ent.nil | refine Ent.take (by (repeat (first | exact Out.head | apply Out.tail)); (first | done | fail)) ?_ | refine Ent.drop1 ?_))
  · rw [encN_small (by omega)] at h1
    repeat' (first
      | refine Wc_seq ?_
      | refine thenQ_normal ?_
      | refine Wc_cond_t (h := ?_)
      | refine Wc_cond_f (h := ?_)
      | refine Wc_ret ?_
      | refine thenQ_ret ?_
      | refine Wc_block ?_
      | refine blkQ_normal ?_
      | refine blkQ_ret ?_
      | refine Wc_exit ?_
      | refine thenQ_exit ?_
      | refine blkQ_hit ?_
      | refine blkQ_miss rfl ?_
      | refine Wc_skip ?_
      | refine Wc_label ?_
      | refine loopQ_exit ?_
      | refine loopQ_ret ?_
      | refine loopQ_normal ?_
      | (refine Wc_region (id := 4) ?_; intro K hK; refine Wl_move (k := ?_); refine Wl_geq (k' := ?_); (refine Wl_nil (hK _ _ ?_); clear hK K))
      | (refine Wc_region (id := 7) ?_; intro K hK; refine Wl_move (k := ?_); refine Wl_nilCheck (k := ?_); refine Wl_fieldAddr (k := ?_); refine Wl_move (k := ?_); ((refine Wl_conv (k' := ?_); rw [byte_small _ (by omega)])) <;> (((refine Wl_lit1 (cs := [byteV (UInt8.ofNat i)]) (k := ?_); intro r)) <;> (((refine Wl_call (hs := add1_spec p cs (UInt8.ofNat i) r _ (by omega)) (k := ?_); rintro v A' ⟨rfl, rfl⟩; simp only [List.cons_append, List.nil_append])) <;> ((refine Wl_nil (hK _ _ ?_); clear hK K)))))
      | (refine Wc_cond (ht := (fun ht => ?_)) (hf := (fun ht => ?_)) <;> (try simp at ht) <;> (try (exfalso; omega))))
    refine ⟨by simp, _, [WrP p (bs ++ encN n)], ?_, res0 rfl, rfl, rfl⟩
    rw [← h1]
    (repeat (first | exact Ent.refl _ | exact Ent.nil | refine Ent.take (by (repeat (first | exact Out.head | apply Out.tail)); (first | done | fail)) ?_ | refine Ent.drop1 ?_))
theorem flag_spec (p : Nat) (bs : List UInt8) (on : Bool) (hm : bs.length ≤ 1000000 - 1) :
    Fspec Try.prog B 41 #[.pointer (some ⟨p, 0, none⟩), .bool on] [WrP p bs] (fun v A' => v = .tuple #[] ∧ A' = [WrP p (bs ++ encN (if on then 1 else 0))]) := by
  have e1 : (encN 1).length = 1 := by rw [encN_small (by omega)]; rfl
  have e0 : (encN 0).length = 1 := by rw [encN_small (by omega)]; rfl
  refine spec_of (args := [_, _]) Try.func41 rfl rfl rfl ?_
  cases on
  · repeat' (first
      | refine Wc_seq ?_
      | refine thenQ_normal ?_
      | refine Wc_cond_t (h := ?_)
      | refine Wc_cond_f (h := ?_)
      | refine Wc_ret ?_
      | refine thenQ_ret ?_
      | refine Wc_block ?_
      | refine blkQ_normal ?_
      | refine blkQ_ret ?_
      | refine Wc_exit ?_
      | refine thenQ_exit ?_
      | refine blkQ_hit ?_
      | refine blkQ_miss rfl ?_
      | refine Wc_skip ?_
      | refine Wc_label ?_
      | refine loopQ_exit ?_
      | refine loopQ_ret ?_
      | refine loopQ_normal ?_
      | (refine Wc_region (id := 0) ?_; intro K hK; refine Wl_move (k := ?_); (refine Wl_nil (hK _ _ ?_); clear hK K))
      | (refine Wc_region (id := 1) ?_; intro K hK; refine Wl_move (k := ?_))
      | (refine Wc_region (id := 2) ?_; intro K hK; refine Wl_move (k := ?_); ((refine Wl_call (hs := num_spec p bs 0 (by omega) (by omega)) (k := ?_); rintro v A' ⟨rfl, rfl⟩; simp only [List.cons_append, List.nil_append])) <;> ((refine Wl_nil (hK _ _ ?_); clear hK K)))
      | (refine Wc_cond (ht := (fun ht => ?_)) (hf := (fun ht => ?_)) <;> (try simp at ht) <;> (try (exfalso; omega))))
    exact ⟨by simp, _, _, Ent.refl _, res0 rfl, rfl, rfl⟩
  · repeat' (first
      | refine Wc_seq ?_
      | refine thenQ_normal ?_
      | refine Wc_cond_t (h := ?_)
      | refine Wc_cond_f (h := ?_)
      | refine Wc_ret ?_
      | refine thenQ_ret ?_
      | refine Wc_block ?_
      | refine blkQ_normal ?_
      | refine blkQ_ret ?_
      | refine Wc_exit ?_
      | refine thenQ_exit ?_
      | refine blkQ_hit ?_
      | refine blkQ_miss rfl ?_
      | refine Wc_skip ?_
      | refine Wc_label ?_
      | refine loopQ_exit ?_
      | refine loopQ_ret ?_
      | refine loopQ_normal ?_
      | (refine Wc_region (id := 0) ?_; intro K hK; refine Wl_move (k := ?_); (refine Wl_nil (hK _ _ ?_); clear hK K))
      | (refine Wc_region (id := 1) ?_; intro K hK; refine Wl_move (k := ?_); ((refine Wl_call (hs := num_spec p bs 1 (by omega) (by omega)) (k := ?_); rintro v A' ⟨rfl, rfl⟩; simp only [List.cons_append, List.nil_append])) <;> ((refine Wl_nil (hK _ _ ?_); clear hK K)))
      | (refine Wc_region (id := 2) ?_; intro K hK; refine Wl_move (k := ?_))
      | (refine Wc_cond (ht := (fun ht => ?_)) (hf := (fun ht => ?_)) <;> (try simp at ht) <;> (try (exfalso; omega))))
    exact ⟨by simp, _, _, Ent.refl _, res0 rfl, rfl, rfl⟩
theorem wbytes_spec (p : Nat) (bs : List UInt8) (hm : bs.length ≤ 1000000) :
    Fspec Try.prog B 42 #[.pointer (some ⟨p, 0, none⟩)] [WrP p bs]
      (fun v A' => ∃ a c, v = .tuple #[.slice a bs.length c, .int .i64 0] ∧ A' = [own a bs.length c 1 (bs.map byteV) 5, WrP p bs]) := by
  refine spec_of (args := [_]) Try.func42 rfl rfl rfl ?_
  refine Wc_exN (fun x => ?_)
  obtain ⟨wa, wc⟩ := x
  simp only [WrL]
  simp only [List.cons_append, List.nil_append]
  refine Wc_ownF (a := wa) (sz := 1) (h0 := by omega) (h := fun hf => ?_)
  repeat' (first
    | refine Wc_seq ?_
    | refine thenQ_normal ?_
    | refine Wc_cond_t (h := ?_)
    | refine Wc_cond_f (h := ?_)
    | refine Wc_ret ?_
    | refine thenQ_ret ?_
    | refine Wc_block ?_
    | refine blkQ_normal ?_
    | refine blkQ_ret ?_
    | refine Wc_exit ?_
    | refine thenQ_exit ?_
    | refine blkQ_hit ?_
    | refine blkQ_miss rfl ?_
    | refine Wc_skip ?_
    | refine Wc_label ?_
    | refine loopQ_exit ?_
    | refine loopQ_ret ?_
    | refine loopQ_normal ?_
    | (refine Wc_region (id := 0) ?_; intro K hK; refine Wl_assign (k := ?_); refine Wl_assign (k := ?_); (refine Wl_nil (hK _ _ ?_); clear hK K))
    | (refine Wc_region (id := 1) ?_; intro K hK; refine Wl_move (k := ?_); refine Wl_ptr_eq_nil (k' := ?_); refine Wl_move (k := ?_); ((first | (refine Wl_guard (k := ?_); refine Wl_move (k := ?_)) | refine Wl_gno (k := ?_) | ((refine Wl_split (yes := (fun ht => ?_)) (no := (fun ht => ?_)) <;> (try simp at ht) <;> (try (exfalso; omega))) <;> (first | (refine Wl_guard (k := ?_); refine Wl_move (k := ?_)) | refine Wl_gno (k := ?_))))) <;> (((first | (refine Wl_guard (k := ?_); refine Wl_nilCheck (k := ?_)) | refine Wl_gno (k := ?_) | ((refine Wl_split (yes := (fun ht => ?_)) (no := (fun ht => ?_)) <;> (try simp at ht) <;> (try (exfalso; omega))) <;> (first | (refine Wl_guard (k := ?_); refine Wl_nilCheck (k := ?_)) | refine Wl_gno (k := ?_))))) <;> (((first | (refine Wl_guard (k := ?_); refine Wl_fieldAddr (k := ?_)) | refine Wl_gno (k := ?_) | ((refine Wl_split (yes := (fun ht => ?_)) (no := (fun ht => ?_)) <;> (try simp at ht) <;> (try (exfalso; omega))) <;> (first | (refine Wl_guard (k := ?_); refine Wl_fieldAddr (k := ?_)) | refine Wl_gno (k := ?_))))) <;> (((first | (refine Wl_guard (k := ?_); refine Wl_fieldAddr (k := ?_)) | refine Wl_gno (k := ?_) | ((refine Wl_split (yes := (fun ht => ?_)) (no := (fun ht => ?_)) <;> (try simp at ht) <;> (try (exfalso; omega))) <;> (first | (refine Wl_guard (k := ?_); refine Wl_fieldAddr (k := ?_)) | refine Wl_gno (k := ?_))))) <;> (((first | (refine Wl_guard (k := ?_); refine Wl_load (k := ?_)) | refine Wl_gno (k := ?_) | ((refine Wl_split (yes := (fun ht => ?_)) (no := (fun ht => ?_)) <;> (try simp at ht) <;> (try (exfalso; omega))) <;> (first | (refine Wl_guard (k := ?_); refine Wl_load (k := ?_)) | refine Wl_gno (k := ?_))))) <;> ((first | refine Wl_pick_t (k := ?_) | refine Wl_pick_f (k := ?_) | refine Wl_pick (k := ?_)); (refine Wl_nil (hK _ _ ?_); clear hK K)))))))
    | (refine Wc_region (id := 2) ?_; intro K hK; refine Wl_assign (k := ?_); refine Wl_assign (k := ?_); (refine Wl_nil (hK _ _ ?_); clear hK K))
    | (refine Wc_region (id := 3) ?_; intro K hK; (refine Wl_lit0o (k := ?_); intro r); refine Wl_move (k := ?_); refine Wl_nilCheck (k := ?_); refine Wl_fieldAddr (k := ?_); refine Wl_fieldAddr (k := ?_); refine Wl_load (k := ?_); ((refine Wl_appendR (hsrc := hf.rd (by (repeat (first | exact Out.head | apply Out.tail)); (first | done | fail))) (hvc := byteV_all _) (hbd := by omega) (k := ?_); intro oa' oc')) <;> (refine Wl_assign (k := ?_); refine Wl_assign (k := ?_); (refine Wl_nil (hK _ _ ?_); clear hK K)))
    | (refine Wc_cond (ht := (fun ht => ?_)) (hf := (fun ht => ?_)) <;> (try simp at ht) <;> (try (exfalso; omega))))
  refine ⟨Or.inr rfl, _, [own oa' bs.length oc' 1 (bs.map byteV) 5, WrP p bs], ?_, res2 rfl rfl rfl, oa', oc', congrArg (fun k => Value.tuple #[.slice oa' k oc', .int .i64 0]) (Nat.zero_add _), rfl⟩
  refine Ent.trans ?_ (Ent.perm (List.Perm.swap ..))
  refine fold_wr (a := wa) (c := wc) ?_
  simp only [WrL, Nat.zero_add]
  simp only [List.cons_append, List.nil_append]
  (repeat (first | exact Ent.refl _ | exact Ent.nil | refine Ent.take (by (repeat (first | exact Out.head | apply Out.tail)); (first | done | fail)) ?_ | refine Ent.drop1 ?_))
end specs
end Go.Proofs.Ytepeljbgekgjcaa
