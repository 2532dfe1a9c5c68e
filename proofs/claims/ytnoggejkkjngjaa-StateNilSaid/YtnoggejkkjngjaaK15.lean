/- Package pack: the Writer. Conditions: what is written is far from the kind's edges. -/
import Derived.Test.YtnoggejkkjngjaaK14
set_option maxHeartbeats 8000000
set_option linter.unusedVariables false
set_option linter.unusedSimpArgs false
set_option maxRecDepth 100000
namespace Go.Proofs.Ytnoggejkkjngjaa
open Go Go.Sl
attribute [local irreducible] Go.Sl.Wl Go.Sl.Wc Go.Sl.thenQ Go.Sl.blkQ Go.Sl.loopQ Go.Sl.Fspec

def WrL (p : Nat) (w : Wr) (a : Option Addr) (c : Nat) : List Asn :=
  [cb p [.slice a w.1.length c, .bool w.2] 98, own a w.1.length c 1 (w.1.map byteV) 5]
/-- A Writer that has written so far. -/
def WrP (p : Nat) (w : Wr) : Asn := exN fun x : Option Addr × Nat => WrL p w x.1 x.2
theorem fold_wr {p : Nat} {w : Wr} {a : Option Addr} {c : Nat} {X A0 : List Asn} (h : Ent X (WrL p w a c ++ A0)) : Ent X (WrP p w :: A0) :=
  h.trans (Ent.exN_shut (f := fun x : Option Addr × Nat => WrL p w x.1 x.2) (a, c) A0)
theorem byteV_all (l : List UInt8) : (l.map byteV).all isCell = true := by simp [byteV, isCell]
theorem low7 (n : Nat) : Value.int .u8 (((n : Int).tmod 128) + 128) = byteV (UInt8.ofNat (n % 128 + 128)) := by
  have : (UInt8.ofNat (n % 128 + 128)).toNat = n % 128 + 128 := by simp [UInt8.toNat_ofNat']; omega
  unfold byteV; rw [this]
  have : (n : Int).tmod 128 = ((n % 128 : Nat) : Int) := by rw [Int.tmod_eq_emod_of_nonneg (by omega)]; omega
  rw [this]; push_cast; rfl
theorem low7i (n : Nat) : (n : Int).tmod 128 = ((n % 128 : Nat) : Int) := by rw [Int.tmod_eq_emod_of_nonneg (by omega)]; omega
theorem byte_small (n : Nat) (h : n < 128) : Value.int .u8 (n : Int) = byteV (UInt8.ofNat n) := by
  have : (UInt8.ofNat n).toNat = n := by simp [UInt8.toNat_ofNat']; omega
  unfold byteV; rw [this]
theorem quo128 (n : Nat) (h : n ≤ 9007199254740992) : IntKind.i64.wrap ((n : Int).tdiv 128) = ((n / 128 : Nat) : Int) := by
  have : (n : Int).tdiv 128 = ((n / 128 : Nat) : Int) := by rw [Int.tdiv_eq_ediv_of_nonneg (by omega)]; omega
  rw [this]; exact IntWalk.i64_in _ (by omega)
section specs
variable {B : Base}
theorem add_spec (p : Nat) (w : Wr) (l : List UInt8) (a : Option Addr) (m c : Nat) (A0 : List Asn) (h : RdS Try.prog B A0 1 a m c (l.map byteV)) (hm : w.1.length + m ≤ 1000000000) :
    Fspec Try.prog B 68 #[.pointer (some ⟨p, 0, none⟩), .slice a m c] (WrP p w :: A0) (fun v A' => v = .tuple #[] ∧ A' = WrP p (w.1 ++ l, w.2) :: A0) := by
  have hl : l.length = m := by have := h.len; simpa using this
  obtain ⟨bs, bad⟩ := w
  refine spec_of (args := [_, _]) Try.func68 rfl rfl rfl ?_
  refine Wc_exN (fun x => ?_)
  obtain ⟨wa, wc⟩ := x
  simp only [WrL] at hm ⊢
  simp only [List.cons_append, List.nil_append]
  repeat' (first
    | refine Wc_seq ?_
    | refine thenQ_normal ?_
    | refine Wc_cond_t (h := ?_)
    | refine Wc_cond_f (h := ?_)
    | refine Wc_ret ?_
    | refine thenQ_ret ?_
    | refine Wc_block ?_
    | refine blkQ_normal ?_
    | refine blkQ_ret ?_
    | refine Wc_exit ?_
    | refine thenQ_exit ?_
    | refine blkQ_hit ?_
    | refine blkQ_miss rfl ?_
    | refine Wc_skip ?_
    | refine Wc_label ?_
    | refine loopQ_exit ?_
    | refine loopQ_ret ?_
    | refine loopQ_normal ?_
    | (refine Wc_region (id := 0) ?_; intro K hK; refine Wl_move (k := ?_); refine Wl_move (k := ?_); refine Wl_nilCheck (k := ?_); refine Wl_fieldAddr (k := ?_); refine Wl_load (k := ?_); refine Wl_move (k := ?_); ((refine Wl_appendR (hsrc := h.tail.tail) (hvc := byteV_all _) (hbd := by omega) (k := ?_); intro oa' oc')) <;> (refine Wl_nilCheck (k := ?_); refine Wl_fieldAddr (k := ?_); refine Wl_store (ho := rfl) (k := ?_); (refine Wl_nil (hK _ _ ?_); clear hK K)))
    | (refine Wc_cond (ht := (fun ht => ?_)) (hf := (fun ht => ?_)) <;> (try simp at ht) <;> (try (exfalso; omega))))
  refine ⟨by simp, _, WrP p (bs ++ l, bad) :: A0, fold_wr (a := oa') (c := oc') ?_, res0 rfl, rfl, rfl⟩
  simp only [WrL, List.length_append, hl, List.map_append]
  simp only [List.cons_append, List.nil_append]
  (repeat (first | exact Ent.refl _ | exact Ent.nil | refine Ent.take (by (repeat (first | exact Out.head | apply Out.tail)); (first | done | fail)) ?_ | refine Ent.drop1 ?_))
theorem add1_spec (p : Nat) (w : Wr) (b : UInt8) (r : Nat) (E : TypeId) (hm : w.1.length + 1 ≤ 1000000000) :
    Fspec Try.prog B 68 #[.pointer (some ⟨p, 0, none⟩), .slice (some ⟨r, 0, none⟩) 1 1] [WrP p w, cb r [byteV b] E] (fun v A' => v = .tuple #[] ∧ A' = [WrP p (w.1 ++ [b], w.2), cb r [byteV b] E]) :=
  add_spec p w [b] _ 1 1 [cb r [byteV b] E] (rds_sl Rd.head (by simp) (by simp) (by omega)) hm
theorem num_spec (p : Nat) (w : Wr) (n : Int) (hm : (wNum w n).1.length ≤ 900000000) :
    Fspec Try.prog B 50 #[.pointer (some ⟨p, 0, none⟩), .int .i64 n] [WrP p w] (fun v A' => v = .tuple #[] ∧ A' = [WrP p (wNum w n)]) := by
  refine spec_of (args := [_, _]) Try.func50 rfl rfl rfl ?_
  refine Wc_exN (fun x => ?_)
  obtain ⟨wa, wc⟩ := x
  obtain ⟨bs, bad⟩ := w
  simp only [WrL]
  simp only [List.cons_append, List.nil_append]
  by_cases hn : numOk n = false
  · have hno : ¬ (0 ≤ n ∧ n ≤ 9007199254740992) := by unfold numOk at hn; exact of_decide_eq_false hn
    have e : wNum (bs, bad) n = (bs, true) := by unfold wNum; rw [if_pos hn]
    rw [e]
    repeat' (first
      | refine Wc_seq ?_
      | refine thenQ_normal ?_
      | refine Wc_cond_t (h := ?_)
      | refine Wc_cond_f (h := ?_)
      | refine Wc_ret ?_
      | refine thenQ_ret ?_
      | refine Wc_block ?_
      | refine blkQ_normal ?_
      | refine blkQ_ret ?_
      | refine Wc_exit ?_
      | refine thenQ_exit ?_
      | refine blkQ_hit ?_
      | refine blkQ_miss rfl ?_
      | refine Wc_skip ?_
      | refine Wc_label ?_
      | refine loopQ_exit ?_
      | refine loopQ_ret ?_
      | refine loopQ_normal ?_
      | (refine Wc_region (id := 0) ?_; intro K hK; refine Wl_move (k := ?_); refine Wl_ptr_eq_nil (k' := ?_); (refine Wl_nil (hK _ _ ?_); clear hK K))
      | (refine Wc_region (id := 1) ?_; intro K hK; refine Wl_move (k := ?_); refine Wl_lss (k' := ?_); refine Wl_move (k := ?_); ((first | (refine Wl_guard (k := ?_); refine Wl_move (k := ?_)) | refine Wl_gno (k := ?_) | ((refine Wl_split (yes := (fun ht => ?_)) (no := (fun ht => ?_)) <;> (try simp at ht) <;> (try (exfalso; omega))) <;> (first | (refine Wl_guard (k := ?_); refine Wl_move (k := ?_)) | refine Wl_gno (k := ?_))))) <;> (((first | (refine Wl_guard (k := ?_); refine Wl_gtr (k' := ?_)) | refine Wl_gno (k := ?_) | ((refine Wl_split (yes := (fun ht => ?_)) (no := (fun ht => ?_)) <;> (try simp at ht) <;> (try (exfalso; omega))) <;> (first | (refine Wl_guard (k := ?_); refine Wl_gtr (k' := ?_)) | refine Wl_gno (k := ?_))))) <;> ((first | refine Wl_pick_t (k := ?_) | refine Wl_pick_f (k := ?_) | refine Wl_pick (k := ?_)); (refine Wl_nil (hK _ _ ?_); clear hK K))))
      | (refine Wc_region (id := 2) ?_; intro K hK; refine Wl_move (k := ?_); refine Wl_nilCheck (k := ?_); refine Wl_fieldAddr (k := ?_); refine Wl_fieldAddr (k := ?_); refine Wl_store (ho := rfl) (k := ?_); (refine Wl_nil (hK _ _ ?_); clear hK K))
      | (refine Wc_region (id := 3) ?_; intro K hK; refine Wl_move (k := ?_); refine Wl_nilCheck (k := ?_); refine Wl_fieldAddr (k := ?_); refine Wl_fieldAddr (k := ?_); refine Wl_load (k := ?_); (refine Wl_nil (hK _ _ ?_); clear hK K))
      | (refine Wc_cond (ht := (fun ht => ?_)) (hf := (fun ht => ?_)) <;> (try simp at ht) <;> (try (exfalso; omega))))
    all_goals exact ⟨by simp, _, [WrP p (bs, true)], fold_wr (A0 := []) (a := wa) (c := wc) (Ent.refl _), res0 rfl, rfl, rfl⟩
  have hok : 0 ≤ n ∧ n ≤ 9007199254740992 := by
    unfold numOk at hn
    simpa using hn
  cases bad with
  | true =>
    have e : wNum (bs, true) n = (bs, true) := by unfold wNum; rw [if_neg hn, if_pos rfl]
    rw [e]
    repeat' (first
      | refine Wc_seq ?_
      | refine thenQ_normal ?_
      | refine Wc_cond_t (h := ?_)
      | refine Wc_cond_f (h := ?_)
      | refine Wc_ret ?_
      | refine thenQ_ret ?_
      | refine Wc_block ?_
      | refine blkQ_normal ?_
      | refine blkQ_ret ?_
      | refine Wc_exit ?_
      | refine thenQ_exit ?_
      | refine blkQ_hit ?_
      | refine blkQ_miss rfl ?_
      | refine Wc_skip ?_
      | refine Wc_label ?_
      | refine loopQ_exit ?_
      | refine loopQ_ret ?_
      | refine loopQ_normal ?_
      | (refine Wc_region (id := 0) ?_; intro K hK; refine Wl_move (k := ?_); refine Wl_ptr_eq_nil (k' := ?_); (refine Wl_nil (hK _ _ ?_); clear hK K))
      | (refine Wc_region (id := 1) ?_; intro K hK; refine Wl_move (k := ?_); refine Wl_lss (k' := ?_); refine Wl_move (k := ?_); ((first | (refine Wl_guard (k := ?_); refine Wl_move (k := ?_)) | refine Wl_gno (k := ?_) | ((refine Wl_split (yes := (fun ht => ?_)) (no := (fun ht => ?_)) <;> (try simp at ht) <;> (try (exfalso; omega))) <;> (first | (refine Wl_guard (k := ?_); refine Wl_move (k := ?_)) | refine Wl_gno (k := ?_))))) <;> (((first | (refine Wl_guard (k := ?_); refine Wl_gtr (k' := ?_)) | refine Wl_gno (k := ?_) | ((refine Wl_split (yes := (fun ht => ?_)) (no := (fun ht => ?_)) <;> (try simp at ht) <;> (try (exfalso; omega))) <;> (first | (refine Wl_guard (k := ?_); refine Wl_gtr (k' := ?_)) | refine Wl_gno (k := ?_))))) <;> ((first | refine Wl_pick_t (k := ?_) | refine Wl_pick_f (k := ?_) | refine Wl_pick (k := ?_)); (refine Wl_nil (hK _ _ ?_); clear hK K))))
      | (refine Wc_region (id := 2) ?_; intro K hK; refine Wl_move (k := ?_); refine Wl_nilCheck (k := ?_); refine Wl_fieldAddr (k := ?_); refine Wl_fieldAddr (k := ?_); refine Wl_store (ho := rfl) (k := ?_); (refine Wl_nil (hK _ _ ?_); clear hK K))
      | (refine Wc_region (id := 3) ?_; intro K hK; refine Wl_move (k := ?_); refine Wl_nilCheck (k := ?_); refine Wl_fieldAddr (k := ?_); refine Wl_fieldAddr (k := ?_); refine Wl_load (k := ?_); (refine Wl_nil (hK _ _ ?_); clear hK K))
      | (refine Wc_cond (ht := (fun ht => ?_)) (hf := (fun ht => ?_)) <;> (try simp at ht) <;> (try (exfalso; omega))))
    all_goals exact ⟨by simp, _, [WrP p (bs, true)], fold_wr (A0 := []) (a := wa) (c := wc) (Ent.refl _), res0 rfl, rfl, rfl⟩
  | false =>
    obtain ⟨k, rfl⟩ := Int.eq_ofNat_of_zero_le hok.1
    have e : wNum (bs, false) k = (bs ++ encN k, false) := by unfold wNum; rw [if_neg hn, if_neg (by simp)]; rfl
    rw [e] at hm ⊢
    simp only [List.length_append] at hm
    repeat' (first
      | refine Wc_seq ?_
      | refine thenQ_normal ?_
      | refine Wc_cond_t (h := ?_)
      | refine Wc_cond_f (h := ?_)
      | refine Wc_ret ?_
      | refine thenQ_ret ?_
      | refine Wc_block ?_
      | refine blkQ_normal ?_
      | refine blkQ_ret ?_
      | refine Wc_exit ?_
      | refine thenQ_exit ?_
      | refine blkQ_hit ?_
      | refine blkQ_miss rfl ?_
      | refine Wc_skip ?_
      | refine Wc_label ?_
      | refine loopQ_exit ?_
      | refine loopQ_ret ?_
      | refine loopQ_normal ?_
      | (refine Wc_region (id := 0) ?_; intro K hK; refine Wl_move (k := ?_); refine Wl_ptr_eq_nil (k' := ?_); (refine Wl_nil (hK _ _ ?_); clear hK K))
      | (refine Wc_region (id := 1) ?_; intro K hK; refine Wl_move (k := ?_); refine Wl_lss (k' := ?_); refine Wl_move (k := ?_); ((first | (refine Wl_guard (k := ?_); refine Wl_move (k := ?_)) | refine Wl_gno (k := ?_) | ((refine Wl_split (yes := (fun ht => ?_)) (no := (fun ht => ?_)) <;> (try simp at ht) <;> (try (exfalso; omega))) <;> (first | (refine Wl_guard (k := ?_); refine Wl_move (k := ?_)) | refine Wl_gno (k := ?_))))) <;> (((first | (refine Wl_guard (k := ?_); refine Wl_gtr (k' := ?_)) | refine Wl_gno (k := ?_) | ((refine Wl_split (yes := (fun ht => ?_)) (no := (fun ht => ?_)) <;> (try simp at ht) <;> (try (exfalso; omega))) <;> (first | (refine Wl_guard (k := ?_); refine Wl_gtr (k' := ?_)) | refine Wl_gno (k := ?_))))) <;> ((first | refine Wl_pick_t (k := ?_) | refine Wl_pick_f (k := ?_) | refine Wl_pick (k := ?_)); (refine Wl_nil (hK _ _ ?_); clear hK K))))
      | (refine Wc_region (id := 2) ?_; intro K hK; refine Wl_move (k := ?_); refine Wl_nilCheck (k := ?_); refine Wl_fieldAddr (k := ?_); refine Wl_fieldAddr (k := ?_); refine Wl_store (ho := rfl) (k := ?_); (refine Wl_nil (hK _ _ ?_); clear hK K))
      | (refine Wc_region (id := 3) ?_; intro K hK; refine Wl_move (k := ?_); refine Wl_nilCheck (k := ?_); refine Wl_fieldAddr (k := ?_); refine Wl_fieldAddr (k := ?_); refine Wl_load (k := ?_); (refine Wl_nil (hK _ _ ?_); clear hK K))
      | (refine Wc_cond (ht := (fun ht => ?_)) (hf := (fun ht => ?_)) <;> (try simp at ht) <;> (try (exfalso; omega))))
    refine Wc_loop (α := List UInt8 × Nat) (fun g => [(0, .pointer (some ⟨p, 0, none⟩)), (1, .int .i64 g.2)]) (fun g => [WrP p (g.1, false)])
      (fun g => g.1 ++ encN g.2 = bs ++ encN k ∧ g.2 ≤ 9007199254740992) (fun g => g.2) (bs, k) ⟨rfl, by show k ≤ _; omega⟩ ⟨rfl, rfl, trivial⟩ (fold_wr (A0 := []) (a := wa) (c := wc) (Ent.refl _)) ?_
    rintro ⟨cs, i⟩ G ⟨h1, h2⟩
    simp only [ov] at h1 h2 ⊢
    have hlen := congrArg List.length h1
    have hpos := encN_pos i
    simp only [List.length_append] at hlen
    by_cases hi : 128 ≤ i
    · rw [encN_big hi] at h1
      repeat' (first
        | refine Wc_seq ?_
        | refine thenQ_normal ?_
        | refine Wc_cond_t (h := ?_)
        | refine Wc_cond_f (h := ?_)
        | refine Wc_ret ?_
        | refine thenQ_ret ?_
        | refine Wc_block ?_
        | refine blkQ_normal ?_
        | refine blkQ_ret ?_
        | refine Wc_exit ?_
        | refine thenQ_exit ?_
        | refine blkQ_hit ?_
        | refine blkQ_miss rfl ?_
        | refine Wc_skip ?_
        | refine Wc_label ?_
        | refine loopQ_exit ?_
        | refine loopQ_ret ?_
        | refine loopQ_normal ?_
        | (refine Wc_region (id := 4) ?_; intro K hK; refine Wl_move (k := ?_); refine Wl_geq (k' := ?_); (refine Wl_nil (hK _ _ ?_); clear hK K))
        | (refine Wc_region (id := 5) ?_; intro K hK; refine Wl_move (k := ?_); refine Wl_nilCheck (k := ?_); refine Wl_fieldAddr (k := ?_); refine Wl_move (k := ?_); ((refine Wl_rem (hb := by decide) (k' := ?_); rw [low7i])) <;> (refine Wl_conv (k' := ?_); ((refine Wl_add (k' := ?_); rw [← low7i, low7])) <;> (((refine Wl_lit1 (cs := [byteV (UInt8.ofNat (i % 128 + 128))]) (k := ?_); intro r)) <;> (((refine Wl_call (hs := add1_spec p (cs, false) (UInt8.ofNat (i % 128 + 128)) r _ (by show cs.length + 1 ≤ _; omega)) (k := ?_); rintro v A' ⟨rfl, rfl⟩; simp only [List.cons_append, List.nil_append])) <;> ((refine Wl_nil (hK _ _ ?_); clear hK K))))))
        | (refine Wc_region (id := 6) ?_; intro K hK; refine Wl_move (k := ?_); ((refine Wl_quo (hb := by decide) (k' := ?_); rw [quo128 _ h2])) <;> (refine Wl_assign (k := ?_); (refine Wl_nil (hK _ _ ?_); clear hK K)))
        | (refine Wc_cond (ht := (fun ht => ?_)) (hf := (fun ht => ?_)) <;> (try simp at ht) <;> (try (exfalso; omega))))
      refine ⟨(cs ++ [UInt8.ofNat (i % 128 + 128)], i / 128), ⟨by simpa using h1, by show i / 128 ≤ _; omega⟩, by show i / 128 < i; omega, ⟨rfl, rfl, trivial⟩, ?_⟩
      (repeat (first | exact Ent.refl _ | exact Ent.nil | refine Ent.take (by (repeat (first | exact Out.head | apply Out.tail)); (first | done | fail)) ?_ | refine Ent.drop1 ?_))
    · rw [encN_small (by omega)] at h1
      repeat' (first
        | refine Wc_seq ?_
        | refine thenQ_normal ?_
        | refine Wc_cond_t (h := ?_)
        | refine Wc_cond_f (h := ?_)
        | refine Wc_ret ?_
        | refine thenQ_ret ?_
        | refine Wc_block ?_
        | refine blkQ_normal ?_
        | refine blkQ_ret ?_
        | refine Wc_exit ?_
        | refine thenQ_exit ?_
        | refine blkQ_hit ?_
        | refine blkQ_miss rfl ?_
        | refine Wc_skip ?_
        | refine Wc_label ?_
        | refine loopQ_exit ?_
        | refine loopQ_ret ?_
        | refine loopQ_normal ?_
        | (refine Wc_region (id := 4) ?_; intro K hK; refine Wl_move (k := ?_); refine Wl_geq (k' := ?_); (refine Wl_nil (hK _ _ ?_); clear hK K))
        | (refine Wc_region (id := 7) ?_; intro K hK; refine Wl_move (k := ?_); refine Wl_nilCheck (k := ?_); refine Wl_fieldAddr (k := ?_); refine Wl_move (k := ?_); ((refine Wl_conv (k' := ?_); rw [byte_small _ (by omega)])) <;> (((refine Wl_lit1 (cs := [byteV (UInt8.ofNat i)]) (k := ?_); intro r)) <;> (((refine Wl_call (hs := add1_spec p (cs, false) (UInt8.ofNat i) r _ (by show cs.length + 1 ≤ _; omega)) (k := ?_); rintro v A' ⟨rfl, rfl⟩; simp only [List.cons_append, List.nil_append])) <;> ((refine Wl_nil (hK _ _ ?_); clear hK K)))))
        | (refine Wc_cond (ht := (fun ht => ?_)) (hf := (fun ht => ?_)) <;> (try simp at ht) <;> (try (exfalso; omega))))
      refine ⟨by simp, _, [WrP p (bs ++ encN k, false)], ?_, res0 rfl, rfl, rfl⟩
      rw [← h1]
      (repeat (first | exact Ent.refl _ | exact Ent.nil | refine Ent.take (by (repeat (first | exact Out.head | apply Out.tail)); (first | done | fail)) ?_ | refine Ent.drop1 ?_))
theorem flag_spec (p : Nat) (w : Wr) (on : Bool) (hm : (wFlag w on).1.length ≤ 900000000) :
    Fspec Try.prog B 52 #[.pointer (some ⟨p, 0, none⟩), .bool on] [WrP p w] (fun v A' => v = .tuple #[] ∧ A' = [WrP p (wFlag w on)]) := by
  refine spec_of (args := [_, _]) Try.func52 rfl rfl rfl ?_
  cases on
  · repeat' (first
      | refine Wc_seq ?_
      | refine thenQ_normal ?_
      | refine Wc_cond_t (h := ?_)
      | refine Wc_cond_f (h := ?_)
      | refine Wc_ret ?_
      | refine thenQ_ret ?_
      | refine Wc_block ?_
      | refine blkQ_normal ?_
      | refine blkQ_ret ?_
      | refine Wc_exit ?_
      | refine thenQ_exit ?_
      | refine blkQ_hit ?_
      | refine blkQ_miss rfl ?_
      | refine Wc_skip ?_
      | refine Wc_label ?_
      | refine loopQ_exit ?_
      | refine loopQ_ret ?_
      | refine loopQ_normal ?_
      | (refine Wc_region (id := 0) ?_; intro K hK; refine Wl_move (k := ?_); (refine Wl_nil (hK _ _ ?_); clear hK K))
      | (refine Wc_region (id := 1) ?_; intro K hK; refine Wl_move (k := ?_))
      | (refine Wc_region (id := 2) ?_; intro K hK; refine Wl_move (k := ?_); ((refine Wl_call (hs := num_spec p w 0 hm) (k := ?_); rintro v A' ⟨rfl, rfl⟩; simp only [List.cons_append, List.nil_append])) <;> ((refine Wl_nil (hK _ _ ?_); clear hK K)))
      | (refine Wc_cond (ht := (fun ht => ?_)) (hf := (fun ht => ?_)) <;> (try simp at ht) <;> (try (exfalso; omega))))
    exact ⟨by simp, _, [WrP p (wFlag w false)], Ent.refl _, res0 rfl, rfl, rfl⟩
  · repeat' (first
      | refine Wc_seq ?_
      | refine thenQ_normal ?_
      | refine Wc_cond_t (h := ?_)
      | refine Wc_cond_f (h := ?_)
      | refine Wc_ret ?_
      | refine thenQ_ret ?_
      | refine Wc_block ?_
      | refine blkQ_normal ?_
      | refine blkQ_ret ?_
      | refine Wc_exit ?_
      | refine thenQ_exit ?_
      | refine blkQ_hit ?_
      | refine blkQ_miss rfl ?_
      | refine Wc_skip ?_
      | refine Wc_label ?_
      | refine loopQ_exit ?_
      | refine loopQ_ret ?_
      | refine loopQ_normal ?_
      | (refine Wc_region (id := 0) ?_; intro K hK; refine Wl_move (k := ?_); (refine Wl_nil (hK _ _ ?_); clear hK K))
      | (refine Wc_region (id := 1) ?_; intro K hK; refine Wl_move (k := ?_); ((refine Wl_call (hs := num_spec p w 1 hm) (k := ?_); rintro v A' ⟨rfl, rfl⟩; simp only [List.cons_append, List.nil_append])) <;> ((refine Wl_nil (hK _ _ ?_); clear hK K)))
      | (refine Wc_region (id := 2) ?_; intro K hK; refine Wl_move (k := ?_))
      | (refine Wc_cond (ht := (fun ht => ?_)) (hf := (fun ht => ?_)) <;> (try simp at ht) <;> (try (exfalso; omega))))
    exact ⟨by simp, _, [WrP p (wFlag w true)], Ent.refl _, res0 rfl, rfl, rfl⟩
theorem wbytes_spec (p : Nat) (bs : List UInt8) (hm : bs.length ≤ 900000000) :
    Fspec Try.prog B 55 #[.pointer (some ⟨p, 0, none⟩)] [WrP p (bs, false)]
      (fun v A' => ∃ a c, v = .tuple #[.slice a bs.length c, .int .i64 0] ∧ A' = [own a bs.length c 1 (bs.map byteV) 5, WrP p (bs, false)]) := by
  refine spec_of (args := [_]) Try.func55 rfl rfl rfl ?_
  refine Wc_exN (fun x => ?_)
  obtain ⟨wa, wc⟩ := x
  simp only [WrL]
  simp only [List.cons_append, List.nil_append]
  refine Wc_ownF (a := wa) (sz := 1) (h0 := by omega) (h := fun hf => ?_)
  repeat' (first
    | refine Wc_seq ?_
    | refine thenQ_normal ?_
    | refine Wc_cond_t (h := ?_)
    | refine Wc_cond_f (h := ?_)
    | refine Wc_ret ?_
    | refine thenQ_ret ?_
    | refine Wc_block ?_
    | refine blkQ_normal ?_
    | refine blkQ_ret ?_
    | refine Wc_exit ?_
    | refine thenQ_exit ?_
    | refine blkQ_hit ?_
    | refine blkQ_miss rfl ?_
    | refine Wc_skip ?_
    | refine Wc_label ?_
    | refine loopQ_exit ?_
    | refine loopQ_ret ?_
    | refine loopQ_normal ?_
    | (refine Wc_region (id := 0) ?_; intro K hK; refine Wl_assign (k := ?_); refine Wl_assign (k := ?_); (refine Wl_nil (hK _ _ ?_); clear hK K))
    | (refine Wc_region (id := 1) ?_; intro K hK; refine Wl_move (k := ?_); refine Wl_ptr_eq_nil (k' := ?_); refine Wl_move (k := ?_); ((first | (refine Wl_guard (k := ?_); refine Wl_move (k := ?_)) | refine Wl_gno (k := ?_) | ((refine Wl_split (yes := (fun ht => ?_)) (no := (fun ht => ?_)) <;> (try simp at ht) <;> (try (exfalso; omega))) <;> (first | (refine Wl_guard (k := ?_); refine Wl_move (k := ?_)) | refine Wl_gno (k := ?_))))) <;> (((first | (refine Wl_guard (k := ?_); refine Wl_nilCheck (k := ?_)) | refine Wl_gno (k := ?_) | ((refine Wl_split (yes := (fun ht => ?_)) (no := (fun ht => ?_)) <;> (try simp at ht) <;> (try (exfalso; omega))) <;> (first | (refine Wl_guard (k := ?_); refine Wl_nilCheck (k := ?_)) | refine Wl_gno (k := ?_))))) <;> (((first | (refine Wl_guard (k := ?_); refine Wl_fieldAddr (k := ?_)) | refine Wl_gno (k := ?_) | ((refine Wl_split (yes := (fun ht => ?_)) (no := (fun ht => ?_)) <;> (try simp at ht) <;> (try (exfalso; omega))) <;> (first | (refine Wl_guard (k := ?_); refine Wl_fieldAddr (k := ?_)) | refine Wl_gno (k := ?_))))) <;> (((first | (refine Wl_guard (k := ?_); refine Wl_fieldAddr (k := ?_)) | refine Wl_gno (k := ?_) | ((refine Wl_split (yes := (fun ht => ?_)) (no := (fun ht => ?_)) <;> (try simp at ht) <;> (try (exfalso; omega))) <;> (first | (refine Wl_guard (k := ?_); refine Wl_fieldAddr (k := ?_)) | refine Wl_gno (k := ?_))))) <;> (((first | (refine Wl_guard (k := ?_); refine Wl_load (k := ?_)) | refine Wl_gno (k := ?_) | ((refine Wl_split (yes := (fun ht => ?_)) (no := (fun ht => ?_)) <;> (try simp at ht) <;> (try (exfalso; omega))) <;> (first | (refine Wl_guard (k := ?_); refine Wl_load (k := ?_)) | refine Wl_gno (k := ?_))))) <;> ((first | refine Wl_pick_t (k := ?_) | refine Wl_pick_f (k := ?_) | refine Wl_pick (k := ?_)); (refine Wl_nil (hK _ _ ?_); clear hK K)))))))
    | (refine Wc_region (id := 2) ?_; intro K hK; refine Wl_assign (k := ?_); refine Wl_assign (k := ?_); (refine Wl_nil (hK _ _ ?_); clear hK K))
    | (refine Wc_region (id := 3) ?_; intro K hK; (refine Wl_lit0o (k := ?_); intro r); refine Wl_move (k := ?_); refine Wl_nilCheck (k := ?_); refine Wl_fieldAddr (k := ?_); refine Wl_fieldAddr (k := ?_); refine Wl_load (k := ?_); ((refine Wl_appendR (hsrc := hf.rd (by (repeat (first | exact Out.head | apply Out.tail)); (first | done | fail))) (hvc := byteV_all _) (hbd := by omega) (k := ?_); intro oa' oc')) <;> (refine Wl_assign (k := ?_); refine Wl_assign (k := ?_); (refine Wl_nil (hK _ _ ?_); clear hK K)))
    | (refine Wc_cond (ht := (fun ht => ?_)) (hf := (fun ht => ?_)) <;> (try simp at ht) <;> (try (exfalso; omega))))
  refine ⟨Or.inr rfl, _, [own oa' bs.length oc' 1 (bs.map byteV) 5, WrP p (bs, false)], ?_, res2 rfl rfl rfl, oa', oc', congrArg (fun k => Value.tuple #[.slice oa' k oc', .int .i64 0]) (Nat.zero_add _), rfl⟩
  refine Ent.trans ?_ (Ent.perm (List.Perm.swap ..))
  refine fold_wr (a := wa) (c := wc) ?_
  simp only [WrL, Nat.zero_add]
  simp only [List.cons_append, List.nil_append]
  (repeat (first | exact Ent.refl _ | exact Ent.nil | refine Ent.take (by (repeat (first | exact Out.head | apply Out.tail)); (first | done | fail)) ?_ | refine Ent.drop1 ?_))
theorem text_spec (p : Nat) (w : Wr) (s : ByteArray) (hm : (wText w s).1.length ≤ 900000000) :
    Fspec Try.prog B 70 #[.pointer (some ⟨p, 0, none⟩), .string s] [WrP p w] (fun v A' => v = .tuple #[] ∧ A' = [WrP p (wText w s)]) := by
  have hn := wText_le w s
  refine spec_of (args := [_, _]) Try.func70 rfl rfl rfl ?_
  obtain ⟨⟨wb, wd⟩, hw2⟩ : ∃ x, wNum w s.size = x := ⟨_, rfl⟩
  have hns := num_spec (B := B) p w s.size (by omega)
  have hsz : s.data.toList.length = s.size := by rw [Array.length_toList]; rfl
  rw [hw2] at hns
  unfold wText at hm ⊢
  rw [hw2] at hm ⊢
  cases wd with
  | true =>
    rw [if_pos rfl]
    repeat' (first
      | refine Wc_seq ?_
      | refine thenQ_normal ?_
      | refine Wc_cond_t (h := ?_)
      | refine Wc_cond_f (h := ?_)
      | refine Wc_ret ?_
      | refine thenQ_ret ?_
      | refine Wc_block ?_
      | refine blkQ_normal ?_
      | refine blkQ_ret ?_
      | refine Wc_exit ?_
      | refine thenQ_exit ?_
      | refine blkQ_hit ?_
      | refine blkQ_miss rfl ?_
      | refine Wc_skip ?_
      | refine Wc_label ?_
      | refine loopQ_exit ?_
      | refine loopQ_ret ?_
      | refine loopQ_normal ?_
      | (refine Wc_region (id := 0) ?_; intro K hK; refine Wl_move (k := ?_); refine Wl_ptr_eq_nil (k' := ?_); (refine Wl_nil (hK _ _ ?_); clear hK K))
      | (refine Wc_region (id := 1) ?_; intro K hK; refine Wl_move (k := ?_); refine Wl_move (k := ?_); refine Wl_len_str (k' := ?_); ((refine Wl_call (hs := hns) (k := ?_); rintro v A' ⟨rfl, rfl⟩; simp only [List.cons_append, List.nil_append])) <;> ((refine Wl_nil (hK _ _ ?_); clear hK K)))
      | (refine Wc_cond (ht := (fun ht => ?_)) (hf := (fun ht => ?_)) <;> (try simp at ht) <;> (try (exfalso; omega))))
    refine Wc_exN (fun x => ?_)
    obtain ⟨wa, wc⟩ := x
    simp only [WrL]
    simp only [List.cons_append, List.nil_append]
    repeat' (first
      | refine Wc_seq ?_
      | refine thenQ_normal ?_
      | refine Wc_cond_t (h := ?_)
      | refine Wc_cond_f (h := ?_)
      | refine Wc_ret ?_
      | refine thenQ_ret ?_
      | refine Wc_block ?_
      | refine blkQ_normal ?_
      | refine blkQ_ret ?_
      | refine Wc_exit ?_
      | refine thenQ_exit ?_
      | refine blkQ_hit ?_
      | refine blkQ_miss rfl ?_
      | refine Wc_skip ?_
      | refine Wc_label ?_
      | refine loopQ_exit ?_
      | refine loopQ_ret ?_
      | refine loopQ_normal ?_
      | (refine Wc_region (id := 2) ?_; intro K hK; refine Wl_move (k := ?_); refine Wl_nilCheck (k := ?_); refine Wl_fieldAddr (k := ?_); refine Wl_fieldAddr (k := ?_); refine Wl_load (k := ?_); refine Wl_not (k' := ?_); (refine Wl_nil (hK _ _ ?_); clear hK K))
      | (refine Wc_cond (ht := (fun ht => ?_)) (hf := (fun ht => ?_)) <;> (try simp at ht) <;> (try (exfalso; omega))))
    all_goals exact ⟨by simp, _, [WrP p (wb, true)], fold_wr (A0 := []) (a := wa) (c := wc) (Ent.refl _), res0 rfl, rfl, rfl⟩
  | false =>
    rw [if_neg (by simp)] at hm ⊢
    simp only [List.length_append, hsz] at hm
    repeat' (first
      | refine Wc_seq ?_
      | refine thenQ_normal ?_
      | refine Wc_cond_t (h := ?_)
      | refine Wc_cond_f (h := ?_)
      | refine Wc_ret ?_
      | refine thenQ_ret ?_
      | refine Wc_block ?_
      | refine blkQ_normal ?_
      | refine blkQ_ret ?_
      | refine Wc_exit ?_
      | refine thenQ_exit ?_
      | refine blkQ_hit ?_
      | refine blkQ_miss rfl ?_
      | refine Wc_skip ?_
      | refine Wc_label ?_
      | refine loopQ_exit ?_
      | refine loopQ_ret ?_
      | refine loopQ_normal ?_
      | (refine Wc_region (id := 0) ?_; intro K hK; refine Wl_move (k := ?_); refine Wl_ptr_eq_nil (k' := ?_); (refine Wl_nil (hK _ _ ?_); clear hK K))
      | (refine Wc_region (id := 1) ?_; intro K hK; refine Wl_move (k := ?_); refine Wl_move (k := ?_); refine Wl_len_str (k' := ?_); ((refine Wl_call (hs := hns) (k := ?_); rintro v A' ⟨rfl, rfl⟩; simp only [List.cons_append, List.nil_append])) <;> ((refine Wl_nil (hK _ _ ?_); clear hK K)))
      | (refine Wc_cond (ht := (fun ht => ?_)) (hf := (fun ht => ?_)) <;> (try simp at ht) <;> (try (exfalso; omega))))
    refine Wc_exN (fun x => ?_)
    obtain ⟨wa, wc⟩ := x
    simp only [WrL]
    simp only [List.cons_append, List.nil_append]
    repeat' (first
      | refine Wc_seq ?_
      | refine thenQ_normal ?_
      | refine Wc_cond_t (h := ?_)
      | refine Wc_cond_f (h := ?_)
      | refine Wc_ret ?_
      | refine thenQ_ret ?_
      | refine Wc_block ?_
      | refine blkQ_normal ?_
      | refine blkQ_ret ?_
      | refine Wc_exit ?_
      | refine thenQ_exit ?_
      | refine blkQ_hit ?_
      | refine blkQ_miss rfl ?_
      | refine Wc_skip ?_
      | refine Wc_label ?_
      | refine loopQ_exit ?_
      | refine loopQ_ret ?_
      | refine loopQ_normal ?_
      | (refine Wc_region (id := 2) ?_; intro K hK; refine Wl_move (k := ?_); refine Wl_nilCheck (k := ?_); refine Wl_fieldAddr (k := ?_); refine Wl_fieldAddr (k := ?_); refine Wl_load (k := ?_); refine Wl_not (k' := ?_); (refine Wl_nil (hK _ _ ?_); clear hK K))
      | (refine Wc_regionW (id := 3) ([1000020]) ?_; intro K hK; refine Wl_move (k := ?_); refine Wl_nilCheck (k := ?_); refine Wl_fieldAddr (k := ?_); refine Wl_move (k := ?_); ((refine Wl_str_bytes (k := ?_); intro r cap zs hcap hzs)) <;> (((refine Wl_ent (A' := [WrP p (wb, false), pt r (.cells (s.data.toList.map byteV ++ zs).toArray 5 (cap, cap + 1))]) (fold_wr (A0 := [pt r (.cells (s.data.toList.map byteV ++ zs).toArray 5 (cap, cap + 1))]) (a := wa) (c := wc) (by simp only [WrL]; simp only [List.cons_append, List.nil_append]; (repeat (first | exact Ent.refl _ | exact Ent.nil | refine Ent.take (by (repeat (first | exact Out.head | apply Out.tail)); (first | done | fail)) ?_ | refine Ent.drop1 ?_)))) ?_; refine Wl_call (hs := add_spec p (wb, false) s.data.toList (some ⟨r, 0, none⟩) s.size cap [pt r (.cells (s.data.toList.map byteV ++ zs).toArray 5 (cap, cap + 1))] (rds_sl Rd.head (by simp [hsz]) (by rw [List.drop_zero, List.take_left' (by rw [List.length_map, hsz, Nat.mul_one])]) hcap) (by show wb.length + s.size ≤ _; omega)) (k := ?_); rintro v A' ⟨rfl, rfl⟩; simp only [List.cons_append, List.nil_append])) <;> ((refine Wl_nil (hK _ _ ?_); clear hK K))))
      | (refine Wc_cond (ht := (fun ht => ?_)) (hf := (fun ht => ?_)) <;> (try simp at ht) <;> (try (exfalso; omega))))
    exact ⟨by simp, _, [WrP p (wb ++ s.data.toList, false)], (by (repeat (first | exact Ent.refl _ | exact Ent.nil | refine Ent.take (by (repeat (first | exact Out.head | apply Out.tail)); (first | done | fail)) ?_ | refine Ent.drop1 ?_))), res0 rfl, rfl, rfl⟩
theorem putPos_spec (p : Nat) (w : Wr) (e i : Int) (hm : (wPos w e i).1.length ≤ 900000000) :
    Fspec Try.prog B 69 #[.pointer (some ⟨p, 0, none⟩), .agg #[.int .i64 e, .int .i64 i]] [WrP p w] (fun v A' => v = .tuple #[] ∧ A' = [WrP p (wPos w e i)]) := by
  have h1 := wNum_le (wNum w e) i
  unfold wPos at hm ⊢
  refine spec_of (args := [_, _]) Try.func69 rfl rfl rfl ?_
  repeat' (first
    | refine Wc_seq ?_
    | refine thenQ_normal ?_
    | refine Wc_cond_t (h := ?_)
    | refine Wc_cond_f (h := ?_)
    | refine Wc_ret ?_
    | refine thenQ_ret ?_
    | refine Wc_block ?_
    | refine blkQ_normal ?_
    | refine blkQ_ret ?_
    | refine Wc_exit ?_
    | refine thenQ_exit ?_
    | refine blkQ_hit ?_
    | refine blkQ_miss rfl ?_
    | refine Wc_skip ?_
    | refine Wc_label ?_
    | refine loopQ_exit ?_
    | refine loopQ_ret ?_
    | refine loopQ_normal ?_
    | (refine Wc_region (id := 0) ?_; intro K hK; ((refine Wl_boxAgg (k := ?_); intro r3)) <;> ((refine Wl_nil (hK _ _ ?_); clear hK K)))
    | (refine Wc_region (id := 1) ?_; intro K hK; refine Wl_move (k := ?_); refine Wl_fieldAddr (k := ?_); refine Wl_load (k := ?_); ((refine Wl_call (hs := num_spec p w e (by omega)) (k := ?_); rintro v A' ⟨rfl, rfl⟩; simp only [List.cons_append, List.nil_append])) <;> ((refine Wl_nil (hK _ _ ?_); clear hK K)))
    | (refine Wc_region (id := 2) ?_; intro K hK; refine Wl_move (k := ?_); refine Wl_fieldAddr (k := ?_); refine Wl_load (k := ?_); ((refine Wl_call (hs := num_spec p (wNum w e) i (by omega)) (k := ?_); rintro v A' ⟨rfl, rfl⟩; simp only [List.cons_append, List.nil_append])) <;> ((refine Wl_nil (hK _ _ ?_); clear hK K)))
    | (refine Wc_cond (ht := (fun ht => ?_)) (hf := (fun ht => ?_)) <;> (try simp at ht) <;> (try (exfalso; omega))))
  exact ⟨by simp, _, [WrP p (wNum (wNum w e) i)], (by (repeat (first | exact Ent.refl _ | exact Ent.nil | refine Ent.take (by (repeat (first | exact Out.head | apply Out.tail)); (first | done | fail)) ?_ | refine Ent.drop1 ?_))), res0 rfl, rfl, rfl⟩
theorem putEpoch_spec (p : Nat) (w : Wr) (e : Ep) (hm : (wEp w e).1.length ≤ 900000000) :
    Fspec Try.prog B 51 #[.pointer (some ⟨p, 0, none⟩), .agg (epC e).toArray] [WrP p w] (fun v A' => v = .tuple #[] ∧ A' = [WrP p (wEp w e)]) := by
  have h1 := wNum_le (wNum w e.master) e.cut
  have h2 := wFlag_le (wNum (wNum w e.master) e.cut) e.forced
  unfold wEp at hm ⊢
  refine spec_of (args := [_, _]) Try.func51 rfl rfl rfl ?_
  repeat' (first
    | refine Wc_seq ?_
    | refine thenQ_normal ?_
    | refine Wc_cond_t (h := ?_)
    | refine Wc_cond_f (h := ?_)
    | refine Wc_ret ?_
    | refine thenQ_ret ?_
    | refine Wc_block ?_
    | refine blkQ_normal ?_
    | refine blkQ_ret ?_
    | refine Wc_exit ?_
    | refine thenQ_exit ?_
    | refine blkQ_hit ?_
    | refine blkQ_miss rfl ?_
    | refine Wc_skip ?_
    | refine Wc_label ?_
    | refine loopQ_exit ?_
    | refine loopQ_ret ?_
    | refine loopQ_normal ?_
    | (refine Wc_region (id := 0) ?_; intro K hK; ((refine Wl_boxAgg (l := epC e) (k := ?_); intro r3; simp only [epC])) <;> ((refine Wl_nil (hK _ _ ?_); clear hK K)))
    | (refine Wc_region (id := 1) ?_; intro K hK; refine Wl_move (k := ?_); refine Wl_fieldAddr (k := ?_); refine Wl_load (k := ?_); ((refine Wl_call (hs := num_spec p w e.master (by omega)) (k := ?_); rintro v A' ⟨rfl, rfl⟩; simp only [List.cons_append, List.nil_append])) <;> ((refine Wl_nil (hK _ _ ?_); clear hK K)))
    | (refine Wc_region (id := 2) ?_; intro K hK; refine Wl_move (k := ?_); refine Wl_fieldAddr (k := ?_); refine Wl_load (k := ?_); ((refine Wl_call (hs := num_spec p (wNum w e.master) e.cut (by omega)) (k := ?_); rintro v A' ⟨rfl, rfl⟩; simp only [List.cons_append, List.nil_append])) <;> ((refine Wl_nil (hK _ _ ?_); clear hK K)))
    | (refine Wc_region (id := 3) ?_; intro K hK; refine Wl_move (k := ?_); refine Wl_fieldAddr (k := ?_); refine Wl_load (k := ?_); ((refine Wl_call (hs := flag_spec p (wNum (wNum w e.master) e.cut) e.forced hm) (k := ?_); rintro v A' ⟨rfl, rfl⟩; simp only [List.cons_append, List.nil_append])) <;> ((refine Wl_nil (hK _ _ ?_); clear hK K)))
    | (refine Wc_cond (ht := (fun ht => ?_)) (hf := (fun ht => ?_)) <;> (try simp at ht) <;> (try (exfalso; omega))))
  exact ⟨by simp, _, [WrP p (wFlag (wNum (wNum w e.master) e.cut) e.forced)], (by (repeat (first | exact Ent.refl _ | exact Ent.nil | refine Ent.take (by (repeat (first | exact Out.head | apply Out.tail)); (first | done | fail)) ?_ | refine Ent.drop1 ?_))), res0 rfl, rfl, rfl⟩
theorem putEntry_spec (p : Nat) (w : Wr) (x : EnX) (hm : (wEnt w x).1.length ≤ 900000000) :
    Fspec Try.prog B 54 #[.pointer (some ⟨p, 0, none⟩), .agg x.c.toArray] [WrP p w] (fun v A' => v = .tuple #[] ∧ A' = [WrP p (wEnt w x)]) := by
  obtain ⟨w1, e1⟩ : ∃ q, wPos w x.e x.i = q := ⟨_, rfl⟩
  obtain ⟨w2, e2⟩ : ∃ q, wNum w1 x.s = q := ⟨_, rfl⟩
  obtain ⟨w3, e3⟩ : ∃ q, wNum w2 x.r = q := ⟨_, rfl⟩
  obtain ⟨w4, e4⟩ : ∃ q, wText w3 x.key = q := ⟨_, rfl⟩
  obtain ⟨w5, e5⟩ : ∃ q, wFlag w4 x.del = q := ⟨_, rfl⟩
  have l2 := wNum_le w1 x.s
  have l3 := wNum_le w2 x.r
  have l4 := wText_le0 w3 x.key
  have l5 := wFlag_le w4 x.del
  have l6 := wText_le0 w5 x.tx
  have h1 := putPos_spec (B := B) p w x.e x.i
  have h2 := num_spec (B := B) p w1 x.s
  have h3 := num_spec (B := B) p w2 x.r
  have h4 := text_spec (B := B) p w3 x.key
  have h5 := flag_spec (B := B) p w4 x.del
  have h6 := text_spec (B := B) p w5 x.tx
  unfold wEnt at hm ⊢
  rw [e1, e2, e3, e4, e5] at hm ⊢
  rw [e2] at l2 h2
  rw [e3] at l3 h3
  rw [e4] at l4 h4
  rw [e5] at l5 h5
  rw [e1] at h1
  refine spec_of (args := [_, _]) Try.func54 rfl rfl rfl ?_
  repeat' (first
    | refine Wc_seq ?_
    | refine thenQ_normal ?_
    | refine Wc_cond_t (h := ?_)
    | refine Wc_cond_f (h := ?_)
    | refine Wc_ret ?_
    | refine thenQ_ret ?_
    | refine Wc_block ?_
    | refine blkQ_normal ?_
    | refine blkQ_ret ?_
    | refine Wc_exit ?_
    | refine thenQ_exit ?_
    | refine blkQ_hit ?_
    | refine blkQ_miss rfl ?_
    | refine Wc_skip ?_
    | refine Wc_label ?_
    | refine loopQ_exit ?_
    | refine loopQ_ret ?_
    | refine loopQ_normal ?_
    | (refine Wc_region (id := 0) ?_; intro K hK; ((refine Wl_boxAgg (l := x.c) (k := ?_); intro r3; simp only [EnX.c])) <;> ((refine Wl_nil (hK _ _ ?_); clear hK K)))
    | (refine Wc_region (id := 1) ?_; intro K hK; refine Wl_move (k := ?_); refine Wl_fieldAddr (k := ?_); refine Wl_loadR (k := ?_); ((refine Wl_call (hs := h1 (by omega)) (k := ?_); rintro v A' ⟨rfl, rfl⟩; simp only [List.cons_append, List.nil_append])) <;> ((refine Wl_nil (hK _ _ ?_); clear hK K)))
    | (refine Wc_region (id := 2) ?_; intro K hK; refine Wl_move (k := ?_); refine Wl_fieldAddr (k := ?_); refine Wl_load (k := ?_); ((refine Wl_call (hs := h2 (by omega)) (k := ?_); rintro v A' ⟨rfl, rfl⟩; simp only [List.cons_append, List.nil_append])) <;> ((refine Wl_nil (hK _ _ ?_); clear hK K)))
    | (refine Wc_region (id := 3) ?_; intro K hK; refine Wl_move (k := ?_); refine Wl_fieldAddr (k := ?_); refine Wl_load (k := ?_); ((refine Wl_call (hs := h3 (by omega)) (k := ?_); rintro v A' ⟨rfl, rfl⟩; simp only [List.cons_append, List.nil_append])) <;> ((refine Wl_nil (hK _ _ ?_); clear hK K)))
    | (refine Wc_region (id := 4) ?_; intro K hK; refine Wl_move (k := ?_); refine Wl_fieldAddr (k := ?_); refine Wl_load (k := ?_); ((refine Wl_call (hs := h4 (by omega)) (k := ?_); rintro v A' ⟨rfl, rfl⟩; simp only [List.cons_append, List.nil_append])) <;> ((refine Wl_nil (hK _ _ ?_); clear hK K)))
    | (refine Wc_region (id := 5) ?_; intro K hK; refine Wl_move (k := ?_); refine Wl_fieldAddr (k := ?_); refine Wl_load (k := ?_); ((refine Wl_call (hs := h5 (by omega)) (k := ?_); rintro v A' ⟨rfl, rfl⟩; simp only [List.cons_append, List.nil_append])) <;> ((refine Wl_nil (hK _ _ ?_); clear hK K)))
    | (refine Wc_region (id := 6) ?_; intro K hK; refine Wl_move (k := ?_); refine Wl_fieldAddr (k := ?_); refine Wl_load (k := ?_); ((refine Wl_call (hs := h6 (by omega)) (k := ?_); rintro v A' ⟨rfl, rfl⟩; simp only [List.cons_append, List.nil_append])) <;> ((refine Wl_nil (hK _ _ ?_); clear hK K)))
    | (refine Wc_cond (ht := (fun ht => ?_)) (hf := (fun ht => ?_)) <;> (try simp at ht) <;> (try (exfalso; omega))))
  exact ⟨by simp, _, [WrP p (wText w5 x.tx)], (by (repeat (first | exact Ent.refl _ | exact Ent.nil | refine Ent.take (by (repeat (first | exact Out.head | apply Out.tail)); (first | done | fail)) ?_ | refine Ent.drop1 ?_))), res0 rfl, rfl, rfl⟩
theorem putSnap1_spec (X : Asn) (p : Nat) (w : Wr) (b : SnX) (hps : b.ps.length ≤ 900000000) (hss : b.ss.length ≤ 900000000) (pa : Option Addr) (pc : Nat) (sa : Option Addr) (sc : Nat)
    (h1 : RdS Try.prog B [X] 5 pa b.ps.length pc (prC b.ps)) (h2 : RdS Try.prog B [X] 4 sa b.ss.length sc (ssC b.ss)) (hm : (wSnap w b).1.length ≤ 900000000) :
    Fspec Try.prog B 53 #[.pointer (some ⟨p, 0, none⟩), .agg #[.int .i64 b.e, .int .i64 b.i, .slice pa b.ps.length pc, .slice sa b.ss.length sc]] [WrP p w, X] (fun v A' => v = .tuple #[] ∧ A' = [WrP p (wSnap w b), X]) := by
  obtain ⟨w1, e1⟩ : ∃ q, wPos w b.e b.i = q := ⟨_, rfl⟩
  obtain ⟨w2, e2⟩ : ∃ q, wNum w1 (b.ps.length : Nat) = q := ⟨_, rfl⟩
  obtain ⟨w3, e3⟩ : ∃ q, b.ps.foldl wPr w2 = q := ⟨_, rfl⟩
  obtain ⟨w4, e4⟩ : ∃ q, wNum w3 (b.ss.length : Nat) = q := ⟨_, rfl⟩
  have l1 := wNum_le w1 (b.ps.length : Nat)
  have l2 := fold_le wPr_le b.ps w2
  have l3 := wNum_le w3 (b.ss.length : Nat)
  have l4 := fold_le wSs_le b.ss w4
  have k1 := fold_take_le wPr_le b.ps w2
  have k2 := fold_take_le wSs_le b.ss w4
  have g1 := putPos_spec (B := B) p w b.e b.i
  have g2 := num_spec (B := B) p w1 (b.ps.length : Nat)
  have g4 := num_spec (B := B) p w3 (b.ss.length : Nat)
  unfold wSnap at hm ⊢
  rw [e1, e2, e3, e4] at hm ⊢
  rw [e2] at l1 g2
  rw [e3] at l2 k1
  rw [e4] at l3 g4
  rw [e1] at g1
  refine spec_of (args := [_, _]) Try.func53 rfl rfl rfl ?_
  repeat' (first
    | refine Wc_seq ?_
    | refine thenQ_normal ?_
    | refine Wc_cond_t (h := ?_)
    | refine Wc_cond_f (h := ?_)
    | refine Wc_ret ?_
    | refine thenQ_ret ?_
    | refine Wc_block ?_
    | refine blkQ_normal ?_
    | refine blkQ_ret ?_
    | refine Wc_exit ?_
    | refine thenQ_exit ?_
    | refine blkQ_hit ?_
    | refine blkQ_miss rfl ?_
    | refine Wc_skip ?_
    | refine Wc_label ?_
    | refine loopQ_exit ?_
    | refine loopQ_ret ?_
    | refine loopQ_normal ?_
    | (refine Wc_region (id := 0) ?_; intro K hK; ((refine Wl_boxAgg (k := ?_); intro r3)) <;> ((refine Wl_nil (hK _ _ ?_); clear hK K)))
    | (refine Wc_region (id := 1) ?_; intro K hK; refine Wl_move (k := ?_); refine Wl_fieldAddr (k := ?_); refine Wl_loadR (k := ?_); ((refine Wl_call (hs := g1 (by omega)) (k := ?_); rintro v A' ⟨rfl, rfl⟩; simp only [List.cons_append, List.nil_append])) <;> ((refine Wl_nil (hK _ _ ?_); clear hK K)))
    | (refine Wc_region (id := 2) ?_; intro K hK; refine Wl_move (k := ?_); refine Wl_fieldAddr (k := ?_); refine Wl_load (k := ?_); refine Wl_len_sl (k' := ?_); ((refine Wl_call (hs := g2 (by omega)) (k := ?_); rintro v A' ⟨rfl, rfl⟩; simp only [List.cons_append, List.nil_append])) <;> ((refine Wl_nil (hK _ _ ?_); clear hK K)))
    | (refine Wc_region (id := 3) ?_; intro K hK; refine Wl_fieldAddr (k := ?_); refine Wl_load (k := ?_); refine Wl_len_sl (k' := ?_); refine Wl_move (k := ?_); (refine Wl_nil (hK _ _ ?_); clear hK K))
    | (refine Wc_cond (ht := (fun ht => ?_)) (hf := (fun ht => ?_)) <;> (try simp at ht) <;> (try (exfalso; omega))))
  refine Wc_loop (α := Nat) (fun j => [(0, .pointer (some ⟨p, 0, none⟩)), (3, .pointer (some ⟨r3, 0, none⟩)), (18, .slice pa b.ps.length pc), (19, .int .i64 b.ps.length), (20, .int .i64 j)])
    (fun j => [WrP p ((b.ps.take j).foldl wPr w2), cb r3 [.int .i64 b.e, .int .i64 b.i, .slice pa b.ps.length pc, .slice sa b.ss.length sc] 40, X]) (fun j => j ≤ b.ps.length) (fun j => b.ps.length - j) 0 (by omega) ⟨rfl, rfl, rfl, rfl, rfl, trivial⟩ (by (repeat (first | exact Ent.refl _ | exact Ent.nil | refine Ent.take (by (repeat (first | exact Out.head | apply Out.tail)); (first | done | fail)) ?_ | refine Ent.drop1 ?_))) ?_
  intro j G hj
  simp only [ov]
  by_cases hlt : j < b.ps.length
  · obtain ⟨q, rfl⟩ : ∃ q, pa = some q := by
      cases pa with
      | none => have := h1.nil rfl; omega
      | some q => exact ⟨q, rfl⟩
    obtain ⟨x, hx⟩ : ∃ x, b.ps[j]? = some x := ⟨_, List.getElem?_eq_getElem hlt⟩
    have hsx := fold_succ (f := wPr) hx w2
    have hk := k1 (j + 1)
    obtain ⟨v0, ev0⟩ : ∃ q, (b.ps.take j).foldl wPr w2 = q := ⟨_, rfl⟩
    rw [ev0] at hsx ⊢
    rw [hsx] at hk
    rw [show wPr v0 x = wText (wFlag (wPos (wText v0 x.k) x.v.a x.v.b) x.v.c) x.v.d from rfl] at hk hsx
    obtain ⟨v1, ev1⟩ : ∃ q, wText v0 x.k = q := ⟨_, rfl⟩
    obtain ⟨v2, ev2⟩ : ∃ q, wPos v1 x.v.a x.v.b = q := ⟨_, rfl⟩
    obtain ⟨v3, ev3⟩ : ∃ q, wFlag v2 x.v.c = q := ⟨_, rfl⟩
    have m2 := wPos_le v1 x.v.a x.v.b
    have m3 := wFlag_le v2 x.v.c
    have m4 := wText_le0 v3 x.v.d
    have f1 := text_spec (B := B) p v0 x.k
    have f2 := putPos_spec (B := B) p v1 x.v.a x.v.b
    have f3 := flag_spec (B := B) p v2 x.v.c
    have f4 := text_spec (B := B) p v3 x.v.d
    rw [ev1, ev2, ev3] at hk hsx
    rw [ev1] at f1
    rw [ev2] at m2 f2
    rw [ev3] at m3 f3
    repeat' (first
      | refine Wc_seq ?_
      | refine thenQ_normal ?_
      | refine Wc_cond_t (h := ?_)
      | refine Wc_cond_f (h := ?_)
      | refine Wc_ret ?_
      | refine thenQ_ret ?_
      | refine Wc_block ?_
      | refine blkQ_normal ?_
      | refine blkQ_ret ?_
      | refine Wc_exit ?_
      | refine thenQ_exit ?_
      | refine blkQ_hit ?_
      | refine blkQ_miss rfl ?_
      | refine Wc_skip ?_
      | refine Wc_label ?_
      | refine loopQ_exit ?_
      | refine loopQ_ret ?_
      | refine loopQ_normal ?_
      | (refine Wc_region (id := 4) ?_; intro K hK; refine Wl_lss (k' := ?_); (refine Wl_nil (hK _ _ ?_); clear hK K))
      | (refine Wc_region (id := 5) ?_; intro K hK; ((refine Wl_index_any (k' := ?_))) <;> (((refine Wl_loadAggG (j := j * 5) (cs := x.c) (hq := by simp) (hr := RdS.under (RdS.under h1)) (hv := prC_row hx) (k := ?_))) <;> (((refine Wl_alloc (k := ?_); intro r5)) <;> (refine Wl_storeR (ho' := rfl) (k := ?_); (refine Wl_nil (hK _ _ ?_); clear hK K)))))
      | (refine Wc_region (id := 6) ?_; intro K hK; refine Wl_move (k := ?_); refine Wl_fieldAddr (k := ?_); refine Wl_load (k := ?_); ((refine Wl_call (hs := f1 (by omega)) (k := ?_); rintro v A' ⟨rfl, rfl⟩; simp only [List.cons_append, List.nil_append])) <;> ((refine Wl_nil (hK _ _ ?_); clear hK K)))
      | (refine Wc_region (id := 7) ?_; intro K hK; refine Wl_move (k := ?_); refine Wl_fieldAddr (k := ?_); refine Wl_fieldAddr (k := ?_); refine Wl_loadR (k := ?_); ((refine Wl_call (hs := f2 (by omega)) (k := ?_); rintro v A' ⟨rfl, rfl⟩; simp only [List.cons_append, List.nil_append])) <;> ((refine Wl_nil (hK _ _ ?_); clear hK K)))
      | (refine Wc_region (id := 8) ?_; intro K hK; refine Wl_move (k := ?_); refine Wl_fieldAddr (k := ?_); refine Wl_fieldAddr (k := ?_); refine Wl_load (k := ?_); ((refine Wl_call (hs := f3 (by omega)) (k := ?_); rintro v A' ⟨rfl, rfl⟩; simp only [List.cons_append, List.nil_append])) <;> ((refine Wl_nil (hK _ _ ?_); clear hK K)))
      | (refine Wc_region (id := 9) ?_; intro K hK; refine Wl_move (k := ?_); refine Wl_fieldAddr (k := ?_); refine Wl_fieldAddr (k := ?_); refine Wl_load (k := ?_); ((refine Wl_call (hs := f4 (by omega)) (k := ?_); rintro v A' ⟨rfl, rfl⟩; simp only [List.cons_append, List.nil_append])) <;> ((refine Wl_nil (hK _ _ ?_); clear hK K)))
      | (refine Wc_region (id := 10) ?_; intro K hK; refine Wl_add (k' := ?_); refine Wl_move (k := ?_); (refine Wl_nil (hK _ _ ?_); clear hK K))
      | (refine Wc_cond (ht := (fun ht => ?_)) (hf := (fun ht => ?_)) <;> (try simp at ht) <;> (try (exfalso; omega))))
    exact ⟨j + 1, by omega, by omega, ⟨rfl, rfl, rfl, rfl, int_succ j, trivial⟩, by rw [hsx]; (repeat (first | exact Ent.refl _ | exact Ent.nil | refine Ent.take (by (repeat (first | exact Out.head | apply Out.tail)); (first | done | fail)) ?_ | refine Ent.drop1 ?_))⟩
  obtain rfl : j = b.ps.length := by omega
  rw [List.take_length, e3]
  repeat' (first
    | refine Wc_seq ?_
    | refine thenQ_normal ?_
    | refine Wc_cond_t (h := ?_)
    | refine Wc_cond_f (h := ?_)
    | refine Wc_ret ?_
    | refine thenQ_ret ?_
    | refine Wc_block ?_
    | refine blkQ_normal ?_
    | refine blkQ_ret ?_
    | refine Wc_exit ?_
    | refine thenQ_exit ?_
    | refine blkQ_hit ?_
    | refine blkQ_miss rfl ?_
    | refine Wc_skip ?_
    | refine Wc_label ?_
    | refine loopQ_exit ?_
    | refine loopQ_ret ?_
    | refine loopQ_normal ?_
    | (refine Wc_region (id := 4) ?_; intro K hK; refine Wl_lss (k' := ?_); (refine Wl_nil (hK _ _ ?_); clear hK K))
    | (refine Wc_region (id := 11) ?_; intro K hK; refine Wl_move (k := ?_); refine Wl_fieldAddr (k := ?_); refine Wl_load (k := ?_); refine Wl_len_sl (k' := ?_); ((refine Wl_call (hs := g4 (by omega)) (k := ?_); rintro v A' ⟨rfl, rfl⟩; simp only [List.cons_append, List.nil_append])) <;> ((refine Wl_nil (hK _ _ ?_); clear hK K)))
    | (refine Wc_region (id := 12) ?_; intro K hK; refine Wl_fieldAddr (k := ?_); refine Wl_load (k := ?_); refine Wl_len_sl (k' := ?_); refine Wl_move (k := ?_); (refine Wl_nil (hK _ _ ?_); clear hK K))
    | (refine Wc_cond (ht := (fun ht => ?_)) (hf := (fun ht => ?_)) <;> (try simp at ht) <;> (try (exfalso; omega))))
  refine Wc_loop (α := Nat) (fun j => [(0, .pointer (some ⟨p, 0, none⟩)), (3, .pointer (some ⟨r3, 0, none⟩)), (50, .slice sa b.ss.length sc), (51, .int .i64 b.ss.length), (52, .int .i64 j)])
    (fun j => [WrP p ((b.ss.take j).foldl wSs w4), cb r3 [.int .i64 b.e, .int .i64 b.i, .slice pa b.ps.length pc, .slice sa b.ss.length sc] 40, X]) (fun j => j ≤ b.ss.length) (fun j => b.ss.length - j) 0 (by omega) ⟨rfl, rfl, rfl, rfl, rfl, trivial⟩ (by (repeat (first | exact Ent.refl _ | exact Ent.nil | refine Ent.take (by (repeat (first | exact Out.head | apply Out.tail)); (first | done | fail)) ?_ | refine Ent.drop1 ?_))) ?_
  intro j G hj
  simp only [ov]
  by_cases hlt : j < b.ss.length
  · obtain ⟨q, rfl⟩ : ∃ q, sa = some q := by
      cases sa with
      | none => have := h2.nil rfl; omega
      | some q => exact ⟨q, rfl⟩
    obtain ⟨x, hx⟩ : ∃ x, b.ss[j]? = some x := ⟨_, List.getElem?_eq_getElem hlt⟩
    have hsx := fold_succ (f := wSs) hx w4
    have hk := k2 (j + 1)
    obtain ⟨v0, ev0⟩ : ∃ q, (b.ss.take j).foldl wSs w4 = q := ⟨_, rfl⟩
    rw [ev0] at hsx ⊢
    rw [hsx] at hk
    rw [show wSs v0 x = wPos (wNum (wNum v0 x.s) x.r) x.e x.i from rfl] at hk hsx
    obtain ⟨v1, ev1⟩ : ∃ q, wNum v0 x.s = q := ⟨_, rfl⟩
    obtain ⟨v2, ev2⟩ : ∃ q, wNum v1 x.r = q := ⟨_, rfl⟩
    have m2 := wNum_le v1 x.r
    have m3 := wPos_le v2 x.e x.i
    have f1 := num_spec (B := B) p v0 x.s
    have f2 := num_spec (B := B) p v1 x.r
    have f3 := putPos_spec (B := B) p v2 x.e x.i
    rw [ev1, ev2] at hk hsx
    rw [ev1] at f1
    rw [ev2] at m2 f2
    repeat' (first
      | refine Wc_seq ?_
      | refine thenQ_normal ?_
      | refine Wc_cond_t (h := ?_)
      | refine Wc_cond_f (h := ?_)
      | refine Wc_ret ?_
      | refine thenQ_ret ?_
      | refine Wc_block ?_
      | refine blkQ_normal ?_
      | refine blkQ_ret ?_
      | refine Wc_exit ?_
      | refine thenQ_exit ?_
      | refine blkQ_hit ?_
      | refine blkQ_miss rfl ?_
      | refine Wc_skip ?_
      | refine Wc_label ?_
      | refine loopQ_exit ?_
      | refine loopQ_ret ?_
      | refine loopQ_normal ?_
      | (refine Wc_region (id := 13) ?_; intro K hK; refine Wl_lss (k' := ?_); (refine Wl_nil (hK _ _ ?_); clear hK K))
      | (refine Wc_region (id := 14) ?_; intro K hK; ((refine Wl_index_any (k' := ?_))) <;> (((refine Wl_loadAggG (j := j * 4) (cs := x.c) (hq := by simp) (hr := RdS.under (RdS.under h2)) (hv := ssC_row hx) (k := ?_))) <;> (((refine Wl_alloc (k := ?_); intro r7)) <;> (refine Wl_storeR (ho' := rfl) (k := ?_); (refine Wl_nil (hK _ _ ?_); clear hK K)))))
      | (refine Wc_region (id := 15) ?_; intro K hK; refine Wl_move (k := ?_); refine Wl_fieldAddr (k := ?_); refine Wl_load (k := ?_); ((refine Wl_call (hs := f1 (by omega)) (k := ?_); rintro v A' ⟨rfl, rfl⟩; simp only [List.cons_append, List.nil_append])) <;> ((refine Wl_nil (hK _ _ ?_); clear hK K)))
      | (refine Wc_region (id := 16) ?_; intro K hK; refine Wl_move (k := ?_); refine Wl_fieldAddr (k := ?_); refine Wl_load (k := ?_); ((refine Wl_call (hs := f2 (by omega)) (k := ?_); rintro v A' ⟨rfl, rfl⟩; simp only [List.cons_append, List.nil_append])) <;> ((refine Wl_nil (hK _ _ ?_); clear hK K)))
      | (refine Wc_region (id := 17) ?_; intro K hK; refine Wl_move (k := ?_); refine Wl_fieldAddr (k := ?_); refine Wl_loadR (k := ?_); ((refine Wl_call (hs := f3 (by omega)) (k := ?_); rintro v A' ⟨rfl, rfl⟩; simp only [List.cons_append, List.nil_append])) <;> ((refine Wl_nil (hK _ _ ?_); clear hK K)))
      | (refine Wc_region (id := 18) ?_; intro K hK; refine Wl_add (k' := ?_); refine Wl_move (k := ?_); (refine Wl_nil (hK _ _ ?_); clear hK K))
      | (refine Wc_cond (ht := (fun ht => ?_)) (hf := (fun ht => ?_)) <;> (try simp at ht) <;> (try (exfalso; omega))))
    exact ⟨j + 1, by omega, by omega, ⟨rfl, rfl, rfl, rfl, int_succ j, trivial⟩, by rw [hsx]; (repeat (first | exact Ent.refl _ | exact Ent.nil | refine Ent.take (by (repeat (first | exact Out.head | apply Out.tail)); (first | done | fail)) ?_ | refine Ent.drop1 ?_))⟩
  obtain rfl : j = b.ss.length := by omega
  rw [List.take_length]
  repeat' (first
    | refine Wc_seq ?_
    | refine thenQ_normal ?_
    | refine Wc_cond_t (h := ?_)
    | refine Wc_cond_f (h := ?_)
    | refine Wc_ret ?_
    | refine thenQ_ret ?_
    | refine Wc_block ?_
    | refine blkQ_normal ?_
    | refine blkQ_ret ?_
    | refine Wc_exit ?_
    | refine thenQ_exit ?_
    | refine blkQ_hit ?_
    | refine blkQ_miss rfl ?_
    | refine Wc_skip ?_
    | refine Wc_label ?_
    | refine loopQ_exit ?_
    | refine loopQ_ret ?_
    | refine loopQ_normal ?_
    | (refine Wc_region (id := 13) ?_; intro K hK; refine Wl_lss (k' := ?_); (refine Wl_nil (hK _ _ ?_); clear hK K))
    | (refine Wc_cond (ht := (fun ht => ?_)) (hf := (fun ht => ?_)) <;> (try simp at ht) <;> (try (exfalso; omega))))
  exact ⟨by simp, _, [WrP p (b.ss.foldl wSs w4), X], (by (repeat (first | exact Ent.refl _ | exact Ent.nil | refine Ent.take (by (repeat (first | exact Out.head | apply Out.tail)); (first | done | fail)) ?_ | refine Ent.drop1 ?_))), res0 rfl, rfl, rfl⟩
end specs
end Go.Proofs.Ytnoggejkkjngjaa
/- Package state: a state's bytes; another state like it. Conditions: none but the kinds' bounds, and not too many rows. -/
set_option maxHeartbeats 8000000
set_option linter.unusedVariables false
set_option linter.unusedSimpArgs false
set_option maxRecDepth 100000
namespace Go.Proofs.Ytnoggejkkjngjaa
open Go Go.Sl
attribute [local irreducible] Go.Sl.Wl Go.Sl.Wc Go.Sl.thenQ Go.Sl.blkQ Go.Sl.loopQ Go.Sl.Fspec

/-! ### What is written stays good and small -/
theorem wNum_ok (w : Wr) {n : Int} (h : numOk n = true) : (wNum w n).2 = w.2 ∧ (wNum w n).1.length ≤ w.1.length + 9 := by
  have hn : 0 ≤ n ∧ n ≤ 9007199254740992 := by unfold numOk at h; exact of_decide_eq_true h
  unfold wNum
  rw [if_neg (by rw [h]; simp)]
  split
  · exact ⟨rfl, by omega⟩
  · rename_i hb
    have := encN_few n.toNat (by omega)
    refine ⟨by simpa using hb, ?_⟩
    simp only [List.length_append]; omega
theorem wFlag_ok (w : Wr) (b : Bool) : (wFlag w b).2 = w.2 ∧ (wFlag w b).1.length ≤ w.1.length + 9 := wNum_ok w (by cases b <;> decide)
theorem wText_ok (w : Wr) {s : ByteArray} (h : s.size ≤ 1000000) : (wText w s).2 = w.2 ∧ (wText w s).1.length ≤ w.1.length + 9 + s.size := by
  have h1 := wNum_ok w (n := s.size) (by unfold numOk; exact decide_eq_true (by omega))
  have hsz : s.data.toList.length = s.size := by rw [Array.length_toList]; rfl
  unfold wText
  split
  · exact ⟨h1.1, by omega⟩
  · rename_i hb
    refine ⟨by rw [← h1.1]; simpa using hb, ?_⟩
    simp only [List.length_append, hsz]; omega
theorem wPos_ok (w : Wr) {e i : Int} (h1 : numOk e = true) (h2 : numOk i = true) : (wPos w e i).2 = w.2 ∧ (wPos w e i).1.length ≤ w.1.length + 18 := by
  have a := wNum_ok w h1
  have b := wNum_ok (wNum w e) h2
  exact ⟨b.1.trans a.1, by have := a.2; have := b.2; show (wNum (wNum w e) i).1.length ≤ _; omega⟩
theorem fold_ok {α : Type} {f : Wr → α → Wr} {C : Nat} : ∀ (l : List α) (w : Wr), (∀ x ∈ l, ∀ w, (f w x).2 = w.2 ∧ (f w x).1.length ≤ w.1.length + C) → (l.foldl f w).2 = w.2 ∧ (l.foldl f w).1.length ≤ w.1.length + C * l.length
  | [], w, _ => ⟨rfl, by simp⟩
  | x :: l, w, h => by
    have h1 := h x (List.mem_cons_self ..) w
    have h2 := fold_ok l (f w x) (fun y hy => h y (List.mem_cons_of_mem _ hy))
    refine ⟨h2.1.trans h1.1, ?_⟩
    have := h1.2
    have := h2.2
    simp only [List.foldl_cons, List.length_cons, Nat.mul_add, Nat.mul_one]; omega
theorem num_pos {T : List Ep} {e i : Int} (h : onT T e i = true) : numOk e = true ∧ numOk i = true := by
  have := on_range h
  unfold numOk
  exact ⟨decide_eq_true (by omega), decide_eq_true (by omega)⟩
theorem numB_num {n : Int} (h : numB n = true) : numOk n = true := by
  unfold numB at h
  have := of_decide_eq_true h
  unfold numOk; exact decide_eq_true (by omega)
theorem wEp_ok (w : Wr) {e : Ep} (h : e.fair) : (wEp w e).2 = w.2 ∧ (wEp w e).1.length ≤ w.1.length + 27 := by
  unfold Ep.fair at h
  have a := wNum_ok w (n := e.master) (by unfold numOk; exact decide_eq_true (by omega))
  have b := wNum_ok (wNum w e.master) (n := e.cut) (by unfold numOk; exact decide_eq_true (by omega))
  have c := wFlag_ok (wNum (wNum w e.master) e.cut) e.forced
  exact ⟨c.1.trans (b.1.trans a.1), by have := a.2; have := b.2; have := c.2; show (wFlag (wNum (wNum w e.master) e.cut) e.forced).1.length ≤ _; omega⟩
theorem wEnt_ok (w : Wr) {T : List Ep} {x : EnX} (h : EntP T x) : (wEnt w x).2 = w.2 ∧ (wEnt w x).1.length ≤ w.1.length + 1200 := by
  have hn := num_pos h.on
  have a1 := wPos_ok w hn.1 hn.2
  have a2 := wNum_ok (wPos w x.e x.i) (numB_num h.ns)
  have a3 := wNum_ok (wNum (wPos w x.e x.i) x.s) (numB_num h.nr)
  have a4 := wText_ok (wNum (wNum (wPos w x.e x.i) x.s) x.r) (s := x.key) (by have := h.ks; omega)
  have a5 := wFlag_ok (wText (wNum (wNum (wPos w x.e x.i) x.s) x.r) x.key) x.del
  have a6 := wText_ok (wFlag (wText (wNum (wNum (wPos w x.e x.i) x.s) x.r) x.key) x.del) (s := x.tx) (by have := h.ts; omega)
  have := h.ks
  have := h.ts
  exact ⟨a6.1.trans (a5.1.trans (a4.1.trans (a3.1.trans (a2.1.trans a1.1)))), by
    have := a1.2; have := a2.2; have := a3.2; have := a4.2; have := a5.2; have := a6.2
    show (wText (wFlag (wText (wNum (wNum (wPos w x.e x.i) x.s) x.r) x.key) x.del) x.tx).1.length ≤ _; omega⟩
theorem wPr_ok (w : Wr) {T : List Ep} {ae ai : Int} {x : PrX} (h : prOk T ae ai x = true) : (wPr w x).2 = w.2 ∧ (wPr w x).1.length ≤ w.1.length + 1200 := by
  obtain ⟨h1, h2, _, h4⟩ := prOk_out h
  have hn := num_pos (below_out h4).1
  have a1 := wText_ok w (s := x.k) (by omega)
  have a2 := wPos_ok (wText w x.k) hn.1 hn.2
  have a3 := wFlag_ok (wPos (wText w x.k) x.v.a x.v.b) x.v.c
  have a4 := wText_ok (wFlag (wPos (wText w x.k) x.v.a x.v.b) x.v.c) (s := x.v.d) (by omega)
  exact ⟨a4.1.trans (a3.1.trans (a2.1.trans a1.1)), by
    have := a1.2; have := a2.2; have := a3.2; have := a4.2
    show (wText (wFlag (wPos (wText w x.k) x.v.a x.v.b) x.v.c) x.v.d).1.length ≤ _; omega⟩
theorem wSs_ok (w : Wr) {T : List Ep} {ae ai : Int} {x : SX} (h : ssOk T ae ai x = true) : (wSs w x).2 = w.2 ∧ (wSs w x).1.length ≤ w.1.length + 36 := by
  obtain ⟨h1, h2, h4⟩ := ssOk_out h
  have hn := num_pos (below_out h4).1
  have a1 := wNum_ok w (numB_num h1)
  have a2 := wNum_ok (wNum w x.s) (numB_num h2)
  have a3 := wPos_ok (wNum (wNum w x.s) x.r) hn.1 hn.2
  exact ⟨a3.1.trans (a2.1.trans a1.1), by
    have := a1.2; have := a2.2; have := a3.2
    show (wPos (wNum (wNum w x.s) x.r) x.e x.i).1.length ≤ _; omega⟩
theorem wSnap_ok (w : Wr) {T : List Ep} {b : SnX} (h : b = SnX.zero ∨ RightP T b) (hl : b.ps.length ≤ 100000) : (wSnap w b).2 = w.2 ∧ (wSnap w b).1.length ≤ w.1.length + 121000000 := by
  have hp : numOk b.e = true ∧ numOk b.i = true := by
    rcases h with rfl | h
    · exact ⟨by decide, by decide⟩
    · exact num_pos h.on
  have hs : b.ss.length ≤ 16 := by
    rcases h with rfl | h
    · simp [SnX.zero]
    · exact h.few
  have a1 := wPos_ok w hp.1 hp.2
  have a2 := wNum_ok (wPos w b.e b.i) (n := (b.ps.length : Nat)) (by unfold numOk; exact decide_eq_true (by omega))
  have a3 := fold_ok (f := wPr) (C := 1200) b.ps (wNum (wPos w b.e b.i) (b.ps.length : Nat)) (fun x hx w => by
    rcases h with rfl | h
    · simp [SnX.zero] at hx
    · exact wPr_ok w (h.prs x hx))
  have a4 := wNum_ok (b.ps.foldl wPr (wNum (wPos w b.e b.i) (b.ps.length : Nat))) (n := (b.ss.length : Nat)) (by unfold numOk; exact decide_eq_true (by omega))
  have a5 := fold_ok (f := wSs) (C := 36) b.ss (wNum (b.ps.foldl wPr (wNum (wPos w b.e b.i) (b.ps.length : Nat))) (b.ss.length : Nat)) (fun x hx w => by
    rcases h with rfl | h
    · simp [SnX.zero] at hx
    · exact wSs_ok w (h.sss x hx))
  unfold wSnap
  exact ⟨a5.1.trans (a4.1.trans (a3.1.trans (a2.1.trans a1.1))), by have := a1.2; have := a2.2; have := a3.2; have := a4.2; have := a5.2; omega⟩
theorem wState_ok {S : G15} {n : Nat} (h : S.inv n) : (wState S).2 = false ∧ (wState S).1.length ≤ 200000000 := by
  have htab := rightT_out h.ok.tab
  have hfew := h.ok.few
  have a1 := wNum_ok ([], false) (n := (S.table.length : Nat)) (by unfold numOk; exact decide_eq_true (by omega))
  have a2 := fold_ok (f := wEp) (C := 27) S.table (wNum ([], false) (S.table.length : Nat)) (fun x hx w => wEp_ok w (htab.2.2.1 x hx))
  have a3 := wFlag_ok (S.table.foldl wEp (wNum ([], false) (S.table.length : Nat))) S.closed
  have a4 := wSnap_ok (wFlag (S.table.foldl wEp (wNum ([], false) (S.table.length : Nat))) S.closed) h.bz h.ok.bps
  have a5 := wNum_ok (wSnap (wFlag (S.table.foldl wEp (wNum ([], false) (S.table.length : Nat))) S.closed) S.base) (n := (S.es.length : Nat)) (by unfold numOk; exact decide_eq_true (by omega))
  have a6 := fold_ok (f := wEnt) (C := 1200) S.es (wNum (wSnap (wFlag (S.table.foldl wEp (wNum ([], false) (S.table.length : Nat))) S.closed) S.base) (S.es.length : Nat)) (fun x hx w => wEnt_ok w (h.en x hx))
  unfold wState
  refine ⟨a6.1.trans (a5.1.trans (a4.1.trans (a3.1.trans (a2.1.trans a1.1)))), ?_⟩
  have := a1.2; have := a2.2; have := a3.2; have := a4.2; have := a5.2; have := a6.2
  simp only [List.length_nil] at *
  omega
def encS (S : G15) : List UInt8 := (wState S).1
section specs
variable {B : Base}
theorem putSnap_spec (A0 : List Asn) (p : Nat) (w : Wr) (b : SnX) (hps : b.ps.length ≤ 900000000) (hss : b.ss.length ≤ 900000000) (pa : Option Addr) (pc : Nat) (sa : Option Addr) (sc : Nat)
    (h1 : RdS Try.prog B A0 5 pa b.ps.length pc (prC b.ps)) (h2 : RdS Try.prog B A0 4 sa b.ss.length sc (ssC b.ss)) (hm : (wSnap w b).1.length ≤ 900000000) :
    Fspec Try.prog B 53 #[.pointer (some ⟨p, 0, none⟩), .agg #[.int .i64 b.e, .int .i64 b.i, .slice pa b.ps.length pc, .slice sa b.ss.length sc]] (WrP p w :: A0) (fun v A' => v = .tuple #[] ∧ A' = WrP p (wSnap w b) :: A0) := by
  have he : Ent [lst A0] A0 := by simpa using Ent.lst_open A0 []
  have hs : Ent A0 [lst A0] := by simpa using Ent.lst_shut A0 []
  refine ((putSnap1_spec (lst A0) p w b hps hss pa pc sa sc (RdS.ofEnt h1 he) (RdS.ofEnt h2 he) hm).ent (Ent.cons _ hs)).conv ?_
  rintro v A' ⟨rfl, rfl⟩
  exact ⟨_, Ent.cons _ he, rfl, rfl⟩
theorem gencode_spec (st : Nat) (S : G15) (n : Nat) (hS : S.inv n) :
    Fspec Try.prog B 33 #[.pointer (some ⟨st, 0, none⟩)] [GtP st S] (fun v A' => ∃ a c, v = .slice a (encS S).length c ∧ A' = [own a (encS S).length c 1 ((encS S).map byteV) 5, GtP st S]) := by
  have hok := wState_ok hS
  have htab := rightT_out hS.ok.tab
  have hfew := hS.ok.few
  have hbps := hS.ok.bps
  have hbss := hS.ok.bok.few
  obtain ⟨w1, e1⟩ : ∃ q, wNum ([], false) (S.table.length : Nat) = q := ⟨_, rfl⟩
  obtain ⟨w2, e2⟩ : ∃ q, S.table.foldl wEp w1 = q := ⟨_, rfl⟩
  obtain ⟨w3, e3⟩ : ∃ q, wFlag w2 S.closed = q := ⟨_, rfl⟩
  obtain ⟨w4, e4⟩ : ∃ q, wSnap w3 S.base = q := ⟨_, rfl⟩
  obtain ⟨w5, e5⟩ : ∃ q, wNum w4 (S.es.length : Nat) = q := ⟨_, rfl⟩
  obtain ⟨w6, e6⟩ : ∃ q, S.es.foldl wEnt w5 = q := ⟨_, rfl⟩
  have l2 := fold_le wEp_le S.table w1
  have l3 := wFlag_le w2 S.closed
  have l4 : w3.1.length ≤ (wSnap w3 S.base).1.length := by
    unfold wSnap
    exact Nat.le_trans (Nat.le_trans (Nat.le_trans (Nat.le_trans (wPos_le _ _ _) (wNum_le _ _)) (fold_le wPr_le _ _)) (wNum_le _ _)) (fold_le wSs_le _ _)
  have l5 := wNum_le w4 (S.es.length : Nat)
  have l6 := fold_le wEnt_le S.es w5
  have k1 := fold_take_le wEp_le S.table w1
  have k2 := fold_take_le wEnt_le S.es w5
  have hW : wState S = w6 := by unfold wState; rw [e1, e2, e3, e4, e5, e6]
  have hE : encS S = w6.1 := by unfold encS; rw [hW]
  rw [hW] at hok
  rw [hE]
  rw [e2] at l2 k1
  rw [e3] at l3
  rw [e4] at l4
  rw [e5] at l5
  rw [e6] at l6 k2
  obtain ⟨b6, d6⟩ := w6
  obtain rfl : d6 = false := hok.1
  have hb6 : b6.length ≤ 200000000 := hok.2
  have hb6' : (b6, false).1.length = b6.length := rfl
  refine spec_of (args := [_]) Try.func33 rfl rfl rfl ?_
  refine Wc_exN (fun q => ?_)
  obtain ⟨k, d, ta, tc, pa, pc, sa, sc, ea, ec⟩ := q
  have hfo : ∀ A0 : List Asn, Ent (GtL st S ⟨k, d, ta, tc, pa, pc, sa, sc, ea, ec⟩ ++ A0) (GtP st S :: A0) := fun A0 => gt_fold (A0 := A0) ⟨k, d, ta, tc, pa, pc, sa, sc, ea, ec⟩ (Ent.refl _)
  simp only [GtL, GtR] at hfo ⊢
  simp only [List.cons_append, List.nil_append] at hfo ⊢
  refine Wc_ownF (a := ta) (sz := 3) (ho := (by (repeat (first | exact Out.head | apply Out.tail)); (first | done | fail))) (h0 := by omega) (h := fun hft => ?_)
  refine Wc_ownF (a := pa) (sz := 5) (ho := (by (repeat (first | exact Out.head | apply Out.tail)); (first | done | fail))) (h0 := by omega) (h := fun hfp => ?_)
  refine Wc_ownF (a := sa) (sz := 4) (ho := (by (repeat (first | exact Out.head | apply Out.tail)); (first | done | fail))) (h0 := by omega) (h := fun hfs => ?_)
  refine Wc_ownF (a := ea) (sz := 7) (ho := (by (repeat (first | exact Out.head | apply Out.tail)); (first | done | fail))) (h0 := by omega) (h := fun hfe => ?_)
  repeat' (first
    | refine Wc_seq ?_
    | refine thenQ_normal ?_
    | refine Wc_cond_t (h := ?_)
    | refine Wc_cond_f (h := ?_)
    | refine Wc_ret ?_
    | refine thenQ_ret ?_
    | refine Wc_block ?_
    | refine blkQ_normal ?_
    | refine blkQ_ret ?_
    | refine Wc_exit ?_
    | refine thenQ_exit ?_
    | refine blkQ_hit ?_
    | refine blkQ_miss rfl ?_
    | refine Wc_skip ?_
    | refine Wc_label ?_
    | refine loopQ_exit ?_
    | refine loopQ_ret ?_
    | refine loopQ_normal ?_
    | (refine Wc_region (id := 0) ?_; intro K hK; refine Wl_assign (k := ?_); (refine Wl_nil (hK _ _ ?_); clear hK K))
    | (refine Wc_region (id := 1) ?_; intro K hK; refine Wl_move (k := ?_); refine Wl_ptr_eq_nil (k' := ?_); (refine Wl_nil (hK _ _ ?_); clear hK K))
    | (refine Wc_region (id := 2) ?_; intro K hK; refine Wl_assign (k := ?_); (refine Wl_nil (hK _ _ ?_); clear hK K))
    | (refine Wc_region (id := 3) ?_; intro K hK; refine Wl_build (k := ?_); ((refine Wl_boxAgg (k := ?_); intro rw)) <;> (refine Wl_assign (k := ?_); (refine Wl_nil (hK _ _ ?_); clear hK K)))
    | (refine Wc_region (id := 4) ?_; intro K hK; refine Wl_move (k := ?_); refine Wl_move (k := ?_); refine Wl_nilCheck (k := ?_); refine Wl_fieldAddr (k := ?_); refine Wl_load (k := ?_); refine Wl_len_sl (k' := ?_); ((refine Wl_ent (own_nil 1 5 _) ?_; refine Wl_take (y := cb rw [.slice none 0 0, .bool false] 98) (k := ?_); refine Wl_take (y := own none 0 0 1 [] 5) (k := ?_); refine Wl_ent (Ent.trans (Ent.perm (List.Perm.swap ..)) (fold_wr (w := ([], false)) (a := none) (c := 0) (Ent.refl _))) ?_; refine Wl_call (hs := num_spec rw ([], false) (S.table.length : Nat) (by rw [e1]; omega)) (k := ?_); rintro v A' ⟨rfl, rfl⟩; rw [e1]; simp only [List.cons_append, List.nil_append])) <;> ((refine Wl_nil (hK _ _ ?_); clear hK K)))
    | (refine Wc_region (id := 5) ?_; intro K hK; refine Wl_move (k := ?_); refine Wl_nilCheck (k := ?_); refine Wl_fieldAddr (k := ?_); refine Wl_load (k := ?_); refine Wl_len_sl (k' := ?_); refine Wl_move (k := ?_); (refine Wl_nil (hK _ _ ?_); clear hK K))
    | (refine Wc_cond (ht := (fun ht => ?_)) (hf := (fun ht => ?_)) <;> (try simp at ht) <;> (try (exfalso; omega))))
  refine Wc_loop (α := Nat) (fun j => [(0, .pointer (some ⟨st, 0, none⟩)), (3, .pointer (some ⟨rw, 0, none⟩)), (24, .slice ta S.table.length tc), (25, .int .i64 S.table.length), (26, .int .i64 j)])
    (fun j => WrP rw ((S.table.take j).foldl wEp w1) :: [cb st [.int .i64 S.fold.e, .int .i64 S.fold.i, .pointer (some ⟨k, 0, none⟩), .pointer (some ⟨d, 0, none⟩), .slice ta S.table.length tc, .int .i64 S.base.e, .int .i64 S.base.i, .slice pa S.base.ps.length pc, .slice sa S.base.ss.length sc, .slice ea S.es.length ec, .bool S.closed] 83, MpA k S.fold.t, DeP d 16 S.fold.L, own ta S.table.length tc 3 (epsC S.table) 29, own pa S.base.ps.length pc 5 (prC S.base.ps) 67, own sa S.base.ss.length sc 4 (ssC S.base.ss) 69, own ea S.es.length ec 7 (esC S.es) 35])
    (fun j => j ≤ S.table.length) (fun j => S.table.length - j) 0 (by omega) ⟨rfl, rfl, rfl, rfl, rfl, trivial⟩ (by (repeat (first | exact Ent.refl _ | exact Ent.nil | refine Ent.take (by (repeat (first | exact Out.head | apply Out.tail)); (first | done | fail)) ?_ | refine Ent.drop1 ?_))) ?_
  intro j G hj
  simp only [ov]
  by_cases hlt : j < S.table.length
  · obtain ⟨x, hx⟩ : ∃ x, S.table[j]? = some x := ⟨_, List.getElem?_eq_getElem hlt⟩
    obtain ⟨p, rfl⟩ := hft.some (by omega)
    have hsx := fold_succ (f := wEp) hx w1
    have hk := k1 (j + 1)
    rw [hsx] at hk
    repeat' (first
      | refine Wc_seq ?_
      | refine thenQ_normal ?_
      | refine Wc_cond_t (h := ?_)
      | refine Wc_cond_f (h := ?_)
      | refine Wc_ret ?_
      | refine thenQ_ret ?_
      | refine Wc_block ?_
      | refine blkQ_normal ?_
      | refine blkQ_ret ?_
      | refine Wc_exit ?_
      | refine thenQ_exit ?_
      | refine blkQ_hit ?_
      | refine blkQ_miss rfl ?_
      | refine Wc_skip ?_
      | refine Wc_label ?_
      | refine loopQ_exit ?_
      | refine loopQ_ret ?_
      | refine loopQ_normal ?_
      | (refine Wc_region (id := 6) ?_; intro K hK; refine Wl_lss (k' := ?_); (refine Wl_nil (hK _ _ ?_); clear hK K))
      | (refine Wc_region (id := 7) ?_; intro K hK; ((refine Wl_index_any (k' := ?_))) <;> (((refine Wl_loadAggG (j := j * 3) (cs := epC x) (hq := by simp) (hr := hft.rd (by (repeat (first | exact Out.head | apply Out.tail)); (first | done | fail))) (hv := epsC_row hx) (k := ?_))) <;> (((refine Wl_alloc (k := ?_); intro r5)) <;> (refine Wl_storeR (ho' := rfl) (k := ?_); (refine Wl_nil (hK _ _ ?_); clear hK K)))))
      | (refine Wc_region (id := 8) ?_; intro K hK; refine Wl_move (k := ?_); ((refine Wl_loadAgg (cs := epC x) (hv := by simp [epC]) (hc := rfl) (k := ?_))) <;> (((refine Wl_call (hs := putEpoch_spec rw ((S.table.take j).foldl wEp w1) x (by omega)) (k := ?_); rintro v A' ⟨rfl, rfl⟩; simp only [List.cons_append, List.nil_append])) <;> ((refine Wl_nil (hK _ _ ?_); clear hK K))))
      | (refine Wc_region (id := 9) ?_; intro K hK; refine Wl_add (k' := ?_); refine Wl_move (k := ?_); (refine Wl_nil (hK _ _ ?_); clear hK K))
      | (refine Wc_cond (ht := (fun ht => ?_)) (hf := (fun ht => ?_)) <;> (try simp at ht) <;> (try (exfalso; omega))))
    exact ⟨j + 1, by omega, by omega, ⟨rfl, rfl, rfl, rfl, int_succ j, trivial⟩, by rw [hsx]; (repeat (first | exact Ent.refl _ | exact Ent.nil | refine Ent.take (by (repeat (first | exact Out.head | apply Out.tail)); (first | done | fail)) ?_ | refine Ent.drop1 ?_))⟩
  obtain rfl : j = S.table.length := by omega
  rw [List.take_length, e2]
  repeat' (first
    | refine Wc_seq ?_
    | refine thenQ_normal ?_
    | refine Wc_cond_t (h := ?_)
    | refine Wc_cond_f (h := ?_)
    | refine Wc_ret ?_
    | refine thenQ_ret ?_
    | refine Wc_block ?_
    | refine blkQ_normal ?_
    | refine blkQ_ret ?_
    | refine Wc_exit ?_
    | refine thenQ_exit ?_
    | refine blkQ_hit ?_
    | refine blkQ_miss rfl ?_
    | refine Wc_skip ?_
    | refine Wc_label ?_
    | refine loopQ_exit ?_
    | refine loopQ_ret ?_
    | refine loopQ_normal ?_
    | (refine Wc_region (id := 6) ?_; intro K hK; refine Wl_lss (k' := ?_); (refine Wl_nil (hK _ _ ?_); clear hK K))
    | (refine Wc_region (id := 10) ?_; intro K hK; refine Wl_move (k := ?_); refine Wl_move (k := ?_); refine Wl_nilCheck (k := ?_); refine Wl_fieldAddr (k := ?_); refine Wl_load (k := ?_); ((refine Wl_call (hs := flag_spec rw w2 S.closed (by rw [e3]; omega)) (k := ?_); rintro v A' ⟨rfl, rfl⟩; rw [e3]; simp only [List.cons_append, List.nil_append])) <;> ((refine Wl_nil (hK _ _ ?_); clear hK K)))
    | (refine Wc_region (id := 11) ?_; intro K hK; refine Wl_move (k := ?_); refine Wl_move (k := ?_); refine Wl_nilCheck (k := ?_); refine Wl_fieldAddr (k := ?_); refine Wl_loadR (k := ?_); ((refine Wl_call (hs := putSnap_spec [own pa S.base.ps.length pc 5 (prC S.base.ps) 67, own sa S.base.ss.length sc 4 (ssC S.base.ss) 69] rw w3 S.base (by omega) (by omega) pa pc sa sc (hfp.rd .head) (hfs.rd (.tail .head)) (by rw [e4]; omega)) (k := ?_); rintro v A' ⟨rfl, rfl⟩; rw [e4]; simp only [List.cons_append, List.nil_append])) <;> ((refine Wl_nil (hK _ _ ?_); clear hK K)))
    | (refine Wc_region (id := 12) ?_; intro K hK; refine Wl_move (k := ?_); refine Wl_move (k := ?_); refine Wl_nilCheck (k := ?_); refine Wl_fieldAddr (k := ?_); refine Wl_load (k := ?_); refine Wl_len_sl (k' := ?_); ((refine Wl_call (hs := num_spec rw w4 (S.es.length : Nat) (by rw [e5]; omega)) (k := ?_); rintro v A' ⟨rfl, rfl⟩; rw [e5]; simp only [List.cons_append, List.nil_append])) <;> ((refine Wl_nil (hK _ _ ?_); clear hK K)))
    | (refine Wc_region (id := 13) ?_; intro K hK; refine Wl_move (k := ?_); refine Wl_nilCheck (k := ?_); refine Wl_fieldAddr (k := ?_); refine Wl_load (k := ?_); refine Wl_len_sl (k' := ?_); refine Wl_move (k := ?_); (refine Wl_nil (hK _ _ ?_); clear hK K))
    | (refine Wc_cond (ht := (fun ht => ?_)) (hf := (fun ht => ?_)) <;> (try simp at ht) <;> (try (exfalso; omega))))
  refine Wc_loop (α := Nat) (fun j => [(0, .pointer (some ⟨st, 0, none⟩)), (3, .pointer (some ⟨rw, 0, none⟩)), (56, .slice ea S.es.length ec), (57, .int .i64 S.es.length), (58, .int .i64 j)])
    (fun j => WrP rw ((S.es.take j).foldl wEnt w5) :: [cb st [.int .i64 S.fold.e, .int .i64 S.fold.i, .pointer (some ⟨k, 0, none⟩), .pointer (some ⟨d, 0, none⟩), .slice ta S.table.length tc, .int .i64 S.base.e, .int .i64 S.base.i, .slice pa S.base.ps.length pc, .slice sa S.base.ss.length sc, .slice ea S.es.length ec, .bool S.closed] 83, MpA k S.fold.t, DeP d 16 S.fold.L, own ta S.table.length tc 3 (epsC S.table) 29, own pa S.base.ps.length pc 5 (prC S.base.ps) 67, own sa S.base.ss.length sc 4 (ssC S.base.ss) 69, own ea S.es.length ec 7 (esC S.es) 35])
    (fun j => j ≤ S.es.length) (fun j => S.es.length - j) 0 (by omega) ⟨rfl, rfl, rfl, rfl, rfl, trivial⟩ (by (repeat (first | exact Ent.refl _ | exact Ent.nil | refine Ent.take (by (repeat (first | exact Out.head | apply Out.tail)); (first | done | fail)) ?_ | refine Ent.drop1 ?_))) ?_
  intro j G2 hj2
  simp only [ov]
  by_cases hlt : j < S.es.length
  · obtain ⟨x, hx⟩ : ∃ x, S.es[j]? = some x := ⟨_, List.getElem?_eq_getElem hlt⟩
    obtain ⟨p, rfl⟩ := hfe.some (by omega)
    have hsx := fold_succ (f := wEnt) hx w5
    have hk := k2 (j + 1)
    rw [hsx] at hk
    repeat' (first
      | refine Wc_seq ?_
      | refine thenQ_normal ?_
      | refine Wc_cond_t (h := ?_)
      | refine Wc_cond_f (h := ?_)
      | refine Wc_ret ?_
      | refine thenQ_ret ?_
      | refine Wc_block ?_
      | refine blkQ_normal ?_
      | refine blkQ_ret ?_
      | refine Wc_exit ?_
      | refine thenQ_exit ?_
      | refine blkQ_hit ?_
      | refine blkQ_miss rfl ?_
      | refine Wc_skip ?_
      | refine Wc_label ?_
      | refine loopQ_exit ?_
      | refine loopQ_ret ?_
      | refine loopQ_normal ?_
      | (refine Wc_region (id := 14) ?_; intro K hK; refine Wl_lss (k' := ?_); (refine Wl_nil (hK _ _ ?_); clear hK K))
      | (refine Wc_region (id := 15) ?_; intro K hK; ((refine Wl_index_any (k' := ?_))) <;> (((refine Wl_loadAggG (j := j * 7) (cs := x.c) (hq := by simp) (hr := hfe.rd (by (repeat (first | exact Out.head | apply Out.tail)); (first | done | fail))) (hv := esC_row hx) (k := ?_))) <;> (((refine Wl_alloc (k := ?_); intro r7)) <;> (refine Wl_storeR (ho' := rfl) (k := ?_); (refine Wl_nil (hK _ _ ?_); clear hK K)))))
      | (refine Wc_region (id := 16) ?_; intro K hK; refine Wl_move (k := ?_); ((refine Wl_loadAgg (cs := x.c) (hv := by simp [EnX.c]) (hc := rfl) (k := ?_))) <;> (((refine Wl_call (hs := putEntry_spec rw ((S.es.take j).foldl wEnt w5) x (by omega)) (k := ?_); rintro v A' ⟨rfl, rfl⟩; simp only [List.cons_append, List.nil_append])) <;> ((refine Wl_nil (hK _ _ ?_); clear hK K))))
      | (refine Wc_region (id := 17) ?_; intro K hK; refine Wl_add (k' := ?_); refine Wl_move (k := ?_); (refine Wl_nil (hK _ _ ?_); clear hK K))
      | (refine Wc_cond (ht := (fun ht => ?_)) (hf := (fun ht => ?_)) <;> (try simp at ht) <;> (try (exfalso; omega))))
    exact ⟨j + 1, by omega, by omega, ⟨rfl, rfl, rfl, rfl, int_succ j, trivial⟩, by rw [hsx]; (repeat (first | exact Ent.refl _ | exact Ent.nil | refine Ent.take (by (repeat (first | exact Out.head | apply Out.tail)); (first | done | fail)) ?_ | refine Ent.drop1 ?_))⟩
  obtain rfl : j = S.es.length := by omega
  rw [List.take_length, e6]
  repeat' (first
    | refine Wc_seq ?_
    | refine thenQ_normal ?_
    | refine Wc_cond_t (h := ?_)
    | refine Wc_cond_f (h := ?_)
    | refine Wc_ret ?_
    | refine thenQ_ret ?_
    | refine Wc_block ?_
    | refine blkQ_normal ?_
    | refine blkQ_ret ?_
    | refine Wc_exit ?_
    | refine thenQ_exit ?_
    | refine blkQ_hit ?_
    | refine blkQ_miss rfl ?_
    | refine Wc_skip ?_
    | refine Wc_label ?_
    | refine loopQ_exit ?_
    | refine loopQ_ret ?_
    | refine loopQ_normal ?_
    | (refine Wc_region (id := 14) ?_; intro K hK; refine Wl_lss (k' := ?_); (refine Wl_nil (hK _ _ ?_); clear hK K))
    | (refine Wc_region (id := 18) ?_; intro K hK; refine Wl_move (k := ?_); ((refine Wl_call (hs := wbytes_spec rw b6 (by omega)) (k := ?_); rintro v A' ⟨oa, oc, rfl, rfl⟩; simp only [List.cons_append, List.nil_append])) <;> (refine Wl_move (k := ?_); refine Wl_extract (k' := ?_); refine Wl_extract (k' := ?_); refine Wl_assign (k := ?_); refine Wl_assign (k := ?_); (refine Wl_nil (hK _ _ ?_); clear hK K)))
    | (refine Wc_region (id := 19) ?_; intro K hK; refine Wl_move (k := ?_); refine Wl_assign (k := ?_); (refine Wl_nil (hK _ _ ?_); clear hK K))
    | (refine Wc_cond (ht := (fun ht => ?_)) (hf := (fun ht => ?_)) <;> (try simp at ht) <;> (try (exfalso; omega))))
  refine ⟨Or.inr rfl, _, [own oa b6.length oc 1 (b6.map byteV) 5, GtP st S], ?_, res1 rfl rfl, oa, oc, rfl, rfl⟩
  refine Ent.trans ?_ ((hfo [own oa b6.length oc 1 (b6.map byteV) 5]).trans (Ent.perm (List.Perm.swap ..)))
  (repeat (first | exact Ent.refl _ | exact Ent.nil | refine Ent.take (by (repeat (first | exact Out.head | apply Out.tail)); (first | done | fail)) ?_ | refine Ent.drop1 ?_))
end specs
end Go.Proofs.Ytnoggejkkjngjaa
/- Package state: another state like it; a nil state. Conditions: none but the kinds' bounds, and not too many rows. -/
set_option maxHeartbeats 8000000
set_option linter.unusedVariables false
set_option linter.unusedSimpArgs false
set_option maxRecDepth 100000
namespace Go.Proofs.Ytnoggejkkjngjaa
open Go Go.Sl
attribute [local irreducible] Go.Sl.Wl Go.Sl.Wc Go.Sl.thenQ Go.Sl.blkQ Go.Sl.loopQ Go.Sl.Fspec

def RdH (B : Base) (A : List Asn) (b : Nat) (l : List Value) (E : TypeId) : Prop := ∀ w, Sat B w A → w.heap[b]? = some (.cells l.toArray E (0, 0))
theorem RdH.of {B : Base} {A : List Asn} {b : Nat} {l : List Value} {E : TypeId} (h : Rd B b l E (0, 0) A) : RdH B A b l E := fun w hs => h.heap hs
theorem RdH.rds {P : Program} {B : Base} {A : List Asn} {b m sz : Nat} {l : List Value} {E : TypeId} (h : RdH B A b l E) (hl : l.length = m * sz) : RdS P B A sz (some ⟨b, 0, none⟩) m m l :=
  ⟨hl, by simp, by omega, fun w hs => ⟨rfl, fun n hn => by
    have hmn : n * sz ≤ m * sz := Nat.mul_le_mul_right _ hn
    have := Go.Sl.run_loadCells P w (b := b) (off := 0) (n := n * sz) (h w hs) (by omega)
    rw [List.drop_zero] at this
    exact this⟩⟩
/-- A state's cells. -/
def StC (S : G15) (q : Gq) : List Value := [.int .i64 S.fold.e, .int .i64 S.fold.i, .pointer (some ⟨q.k, 0, none⟩), .pointer (some ⟨q.d, 0, none⟩), .slice q.ta S.table.length q.tc, .int .i64 S.base.e, .int .i64 S.base.i, .slice q.pa S.base.ps.length q.pc, .slice q.sa S.base.ss.length q.sc, .slice q.ea S.es.length q.ec, .bool S.closed]
section specs
variable {B : Base}
theorem gtableA_spec (A0 : List Asn) (st : Nat) (S : G15) (q : Gq) (h : RdH B A0 st (StC S q) 83) (hr : RdS Try.prog B A0 3 q.ta S.table.length q.tc (epsC S.table)) (h64 : S.table.length ≤ 64) :
    Fspec Try.prog B 24 #[.pointer (some ⟨st, 0, none⟩)] A0 (fun v A' => ∃ a c, v = .slice a S.table.length c ∧ A' = own a S.table.length c 3 (epsC S.table) 29 :: A0) := by
  have hRS : RdS Try.prog B A0 11 (some ⟨st, 0, none⟩) 1 1 (StC S q) := h.rds rfl
  refine spec_of (args := [_]) Try.func24 rfl rfl rfl ?_
  repeat' (first
    | refine Wc_seq ?_
    | refine thenQ_normal ?_
    | refine Wc_cond_t (h := ?_)
    | refine Wc_cond_f (h := ?_)
    | refine Wc_ret ?_
    | refine thenQ_ret ?_
    | refine Wc_block ?_
    | refine blkQ_normal ?_
    | refine blkQ_ret ?_
    | refine Wc_exit ?_
    | refine thenQ_exit ?_
    | refine blkQ_hit ?_
    | refine blkQ_miss rfl ?_
    | refine Wc_skip ?_
    | refine Wc_label ?_
    | refine loopQ_exit ?_
    | refine loopQ_ret ?_
    | refine loopQ_normal ?_
    | (refine Wc_region (id := 0) ?_; intro K hK; refine Wl_assign (k := ?_); (refine Wl_nil (hK _ _ ?_); clear hK K))
    | (refine Wc_region (id := 1) ?_; intro K hK; refine Wl_move (k := ?_); refine Wl_ptr_eq_nil (k' := ?_); (refine Wl_nil (hK _ _ ?_); clear hK K))
    | (refine Wc_region (id := 2) ?_; intro K hK; refine Wl_assign (k := ?_); (refine Wl_nil (hK _ _ ?_); clear hK K))
    | (refine Wc_region (id := 3) ?_; intro K hK; ((refine Wl_lit0o (k := ?_); intro r5)) <;> (refine Wl_move (k := ?_); refine Wl_nilCheck (k := ?_); refine Wl_fieldAddr (k := ?_); ((refine Wl_loadG (v := .slice q.ta S.table.length q.tc) (j := 4) (hq := rfl) (hr := RdS.under hRS) (k := ?_))) <;> (((refine Wl_appendR (hsrc := RdS.under hr) (hvc := epsC_all _) (hbd := by omega) (k := ?_); intro nb nc)) <;> (refine Wl_assign (k := ?_); (refine Wl_nil (hK _ _ ?_); clear hK K)))))
    | (refine Wc_cond (ht := (fun ht => ?_)) (hf := (fun ht => ?_)) <;> (try simp at ht) <;> (try (exfalso; omega))))
  refine ⟨Or.inr rfl, _, own nb S.table.length nc 3 (epsC S.table) 29 :: A0, ?_, res1 rfl rfl, nb, nc, congrArg (fun k => Value.slice nb k nc) (Nat.zero_add _), rfl⟩
  simp only [Nat.zero_add, List.nil_append]
  (repeat (first | exact Ent.refl _ | exact Ent.nil | refine Ent.take (by (repeat (first | exact Out.head | apply Out.tail)); (first | done | fail)) ?_ | refine Ent.drop1 ?_))
theorem gcopy_spec (st : Nat) (S : G15) (n : Nat) (hS : S.inv n) :
    Fspec Try.prog B 32 #[.pointer (some ⟨st, 0, none⟩)] [GtP st S] (fun v A' => ∃ c, v = .pointer (some ⟨c, 0, none⟩) ∧ A' = [GtP c S, GtP st S]) := by
  have htab := rightT_out hS.ok.tab
  have hfew := hS.ok.few
  have hbps := hS.ok.bps
  have hbss := hS.ok.bok.few
  refine spec_of (args := [_]) Try.func32 rfl rfl rfl ?_
  refine Wc_exN (fun q => ?_)
  obtain ⟨k, d, ta, tc, pa, pc, sa, sc, ea, ec⟩ := q
  have hfo : ∀ A0 : List Asn, Ent (GtL st S ⟨k, d, ta, tc, pa, pc, sa, sc, ea, ec⟩ ++ A0) (GtP st S :: A0) := fun A0 => gt_fold (A0 := A0) ⟨k, d, ta, tc, pa, pc, sa, sc, ea, ec⟩ (Ent.refl _)
  simp only [GtL, GtR] at hfo ⊢
  simp only [List.cons_append, List.nil_append] at hfo ⊢
  refine Wc_ownF (a := ta) (sz := 3) (ho := (by (repeat (first | exact Out.head | apply Out.tail)); (first | done | fail))) (h0 := by omega) (h := fun hft => ?_)
  refine Wc_ownF (a := pa) (sz := 5) (ho := (by (repeat (first | exact Out.head | apply Out.tail)); (first | done | fail))) (h0 := by omega) (h := fun hfp => ?_)
  refine Wc_ownF (a := sa) (sz := 4) (ho := (by (repeat (first | exact Out.head | apply Out.tail)); (first | done | fail))) (h0 := by omega) (h := fun hfs => ?_)
  refine Wc_ownF (a := ea) (sz := 7) (ho := (by (repeat (first | exact Out.head | apply Out.tail)); (first | done | fail))) (h0 := by omega) (h := fun hfe => ?_)
  obtain ⟨C, hC⟩ : ∃ C, C = StC S ⟨k, d, ta, tc, pa, pc, sa, sc, ea, ec⟩ := ⟨_, rfl⟩
  obtain ⟨M, hM⟩ : ∃ M, M = [cb st C 83, own ta S.table.length tc 3 (epsC S.table) 29, own pa S.base.ps.length pc 5 (prC S.base.ps) 67, own sa S.base.ss.length sc 4 (ssC S.base.ss) 69] := ⟨_, rfl⟩
  have hT := fun (B' : Base) (hB : ∀ w L, Sat B' w L → Sat B w M) => gtableA_spec (B := B') [] st S ⟨k, d, ta, tc, pa, pc, sa, sc, ea, ec⟩ (fun w hs => (RdH.of (B := B) (A := M) (E := 83) (by rw [hM, hC]; exact .head)) w (hB w _ hs)) ⟨hft.e1, hft.e3, hft.e2, fun w hs => (hft.rd (A := M) (by rw [hM]; exact (by (repeat (first | exact Out.head | apply Out.tail)); (first | done | fail)))).src w (hB w _ hs)⟩ htab.2.1
  have hP := fun (B' : Base) (hB : ∀ w L, Sat B' w L → Sat B w M) => copied_spec (B := B') [] S.base (by omega) (by omega) pa pc sa sc ⟨hfp.e1, hfp.e3, hfp.e2, fun w hs => (hfp.rd (A := M) (by rw [hM]; exact (by (repeat (first | exact Out.head | apply Out.tail)); (first | done | fail)))).src w (hB w _ hs)⟩ ⟨hfs.e1, hfs.e3, hfs.e2, fun w hs => (hfs.rd (A := M) (by rw [hM]; exact (by (repeat (first | exact Out.head | apply Out.tail)); (first | done | fail)))).src w (hB w _ hs)⟩
  simp only [StC] at hC
  rw [hC] at hM
  subst hM
  repeat' (first
    | (refine Wc_cutS (k := 3) (α := Option Addr × Nat × Option Addr × Nat × Option Addr × Nat × Option Addr × Nat × Nat) (fun x => [(3, .pointer (some ⟨x.2.2.2.2.2.2.2.2, 0, none⟩))]) (fun x => [GtP st S, cb x.2.2.2.2.2.2.2.2 [.int .i64 0, .int .i64 0, .pointer none, .pointer none, .slice x.1 S.table.length x.2.1, .int .i64 S.base.e, .int .i64 S.base.i, .slice x.2.2.1 S.base.ps.length x.2.2.2.1, .slice x.2.2.2.2.1 S.base.ss.length x.2.2.2.2.2.1, .slice x.2.2.2.2.2.2.1 S.es.length x.2.2.2.2.2.2.2.1, .bool S.closed] 83, own x.1 S.table.length x.2.1 3 (epsC S.table) 29, own x.2.2.1 S.base.ps.length x.2.2.2.1 5 (prC S.base.ps) 67, own x.2.2.2.2.1 S.base.ss.length x.2.2.2.2.2.1 4 (ssC S.base.ss) 69, own x.2.2.2.2.2.2.1 S.es.length x.2.2.2.2.2.2.2.1 7 (esC S.es) 35]) (fun _ => True) ?_ (fun x G _ => ?_); rotate_left; simp only [ov]; rotate_left)
    | refine Wc_seq ?_
    | refine thenQ_normal ?_
    | refine Wc_cond_t (h := ?_)
    | refine Wc_cond_f (h := ?_)
    | refine Wc_ret ?_
    | refine thenQ_ret ?_
    | refine Wc_block ?_
    | refine blkQ_normal ?_
    | refine blkQ_ret ?_
    | refine Wc_exit ?_
    | refine thenQ_exit ?_
    | refine blkQ_hit ?_
    | refine blkQ_miss rfl ?_
    | refine Wc_skip ?_
    | refine Wc_label ?_
    | refine loopQ_exit ?_
    | refine loopQ_ret ?_
    | refine loopQ_normal ?_
    | (refine Wc_region (id := 0) ?_; intro K hK; refine Wl_assign (k := ?_); (refine Wl_nil (hK _ _ ?_); clear hK K))
    | (refine Wc_region (id := 1) ?_; intro K hK; refine Wl_move (k := ?_); refine Wl_ptr_eq_nil (k' := ?_); (refine Wl_nil (hK _ _ ?_); clear hK K))
    | ((refine Wc_treeF (id := 3) (M := ([cb st [.int .i64 S.fold.e, .int .i64 S.fold.i, .pointer (some ⟨k, 0, none⟩), .pointer (some ⟨d, 0, none⟩), .slice ta S.table.length tc, .int .i64 S.base.e, .int .i64 S.base.i, .slice pa S.base.ps.length pc, .slice sa S.base.ss.length sc, .slice ea S.es.length ec, .bool S.closed] 83, own ta S.table.length tc 3 (epsC S.table) 29, own pa S.base.ps.length pc 5 (prC S.base.ps) 67, own sa S.base.ss.length sc 4 (ssC S.base.ss) 69])) (Ls := [11, 17, 22]) (t := (.step 0 (.step 2 (.step 3 (.step 4 (.step 5 (.step 8 (.step 9 (.step 10 (.step 11 (.step 13 (.step 14 (.step 15 (.step 16 (.alt (.step 1 (.alt (.step 6 (.step 7 (.step 12 (.step 17 (.step 18 (.step 19 .done)))))) (.step 7 (.step 6 (.step 12 (.step 17 (.step 18 (.step 19 .done)))))))) (.step 7 (.step 1 (.step 6 (.step 12 (.step 17 (.step 18 (.step 19 .done)))))))))))))))))))))) (bad := [1, 6, 7]) (hok := (by decide +kernel)) (hp := (Pick.perm (by (repeat (first | exact Pick.nil | apply Pick.cons (by (repeat (first | exact Out.head | apply Out.tail)); (first | done | fail)))); (first | done | fail)))) (h := ?_); intro K hK; repeat' (first | refine WlT_alt ?_ ?_ | (refine WlT_step (i := 0) rfl ?_; (refine Wl_move (k := ?_)) <;> (refine Wl_nil ?_)) | (refine WlT_step (i := 1) rfl ?_; ((refine Wl_callM (hs := hT) (hp := .nil) (k := ?_); rintro v A' ⟨t1, u1, rfl, rfl⟩; simp only [List.cons_append, List.nil_append])) <;> (refine Wl_nil ?_)) | (refine WlT_step (i := 2) rfl ?_; (refine Wl_move (k := ?_)) <;> (refine Wl_nil ?_)) | (refine WlT_step (i := 3) rfl ?_; (refine Wl_nilCheck (k := ?_)) <;> (refine Wl_nil ?_)) | (refine WlT_step (i := 4) rfl ?_; (refine Wl_fieldAddr (k := ?_)) <;> (refine Wl_nil ?_)) | (refine WlT_step (i := 5) rfl ?_; (refine Wl_loadRF (k := ?_)) <;> (refine Wl_nil ?_)) | (refine WlT_step (i := 6) rfl ?_; ((refine Wl_callM (hs := hP) (hp := .nil) (k := ?_); rintro v A' ⟨a1, c1, a2, c2, rfl, rfl⟩; simp only [List.cons_append, List.nil_append])) <;> (refine Wl_nil ?_)) | (refine WlT_step (i := 7) rfl ?_; ((refine Wl_lit0o (k := ?_); intro r13)) <;> (refine Wl_nil ?_)) | (refine WlT_step (i := 8) rfl ?_; (refine Wl_move (k := ?_)) <;> (refine Wl_nil ?_)) | (refine WlT_step (i := 9) rfl ?_; (refine Wl_nilCheck (k := ?_)) <;> (refine Wl_nil ?_)) | (refine WlT_step (i := 10) rfl ?_; (refine Wl_fieldAddr (k := ?_)) <;> (refine Wl_nil ?_)) | (refine WlT_step (i := 11) rfl ?_; (refine Wl_loadF (k := ?_)) <;> (refine Wl_nil ?_)) | (refine WlT_step (i := 12) rfl ?_; ((refine Wl_appendR (hsrc := hfe.rd (by (repeat (first | exact Out.head | apply Out.tail)); (first | done | fail))) (hvc := esC_all _) (hbd := by omega) (k := ?_); intro e1 d1; simp only [Nat.zero_add, List.nil_append])) <;> (refine Wl_nil ?_)) | (refine WlT_step (i := 13) rfl ?_; (refine Wl_move (k := ?_)) <;> (refine Wl_nil ?_)) | (refine WlT_step (i := 14) rfl ?_; (refine Wl_nilCheck (k := ?_)) <;> (refine Wl_nil ?_)) | (refine WlT_step (i := 15) rfl ?_; (refine Wl_fieldAddr (k := ?_)) <;> (refine Wl_nil ?_)) | (refine WlT_step (i := 16) rfl ?_; (refine Wl_loadF (k := ?_)) <;> (refine Wl_nil ?_)) | (refine WlT_step (i := 17) rfl ?_; (refine Wl_build (k := ?_)) <;> (refine Wl_nil ?_)) | (refine WlT_step (i := 18) rfl ?_; ((refine Wl_boxAgg (k := ?_); intro r24)) <;> (refine Wl_nil ?_)) | (refine WlT_step (i := 19) rfl ?_; (refine Wl_assign (k := ?_)) <;> (refine Wl_nil ?_)) | (refine WlT_done (hK _ _ ?_); clear hK K; try simp only [List.cons_append, List.nil_append]))))
    | (refine Wc_cond (ht := (fun ht => ?_)) (hf := (fun ht => ?_)) <;> (try simp at ht) <;> (try (exfalso; omega))))
  all_goals first | exact ⟨(t1, u1, a1, c1, a2, c2, e1, d1, r24), trivial, ⟨rfl, trivial⟩, Ent.trans (by (repeat (first | exact Ent.refl _ | exact Ent.nil | refine Ent.take (by (repeat (first | exact Out.head | apply Out.tail)); (first | done | fail)) ?_ | refine Ent.drop1 ?_)); (first | done | fail)) (hfo [cb r24 [.int .i64 0, .int .i64 0, .pointer none, .pointer none, .slice t1 S.table.length u1, .int .i64 S.base.e, .int .i64 S.base.i, .slice a1 S.base.ps.length c1, .slice a2 S.base.ss.length c2, .slice e1 S.es.length d1, .bool S.closed] 83, own t1 S.table.length u1 3 (epsC S.table) 29, own a1 S.base.ps.length c1 5 (prC S.base.ps) 67, own a2 S.base.ss.length c2 4 (ssC S.base.ss) 69, own e1 S.es.length d1 7 (esC S.es) 35])⟩ | skip
  obtain ⟨t1, u1, a1, c1, a2, c2, e1, d1, r24⟩ := x
  simp only
  have hag := gagain_spec (B := B) r24 S hS.ok 0 0 (.pointer none) (.pointer none) ⟨k, d, t1, u1, a1, c1, a2, c2, e1, d1⟩
  simp only [GtR] at hag
  repeat' (first
    | refine Wc_seq ?_
    | refine thenQ_normal ?_
    | refine Wc_cond_t (h := ?_)
    | refine Wc_cond_f (h := ?_)
    | refine Wc_ret ?_
    | refine thenQ_ret ?_
    | refine Wc_block ?_
    | refine blkQ_normal ?_
    | refine blkQ_ret ?_
    | refine Wc_exit ?_
    | refine thenQ_exit ?_
    | refine blkQ_hit ?_
    | refine blkQ_miss rfl ?_
    | refine Wc_skip ?_
    | refine Wc_label ?_
    | refine loopQ_exit ?_
    | refine loopQ_ret ?_
    | refine loopQ_normal ?_
    | (refine Wc_region (id := 4) ?_; intro K hK; refine Wl_move (k := ?_); ((refine Wl_call (hs := hag) (k := ?_); rintro v A' ⟨rfl, rfl⟩; simp only [List.cons_append, List.nil_append])) <;> ((refine Wl_nil (hK _ _ ?_); clear hK K)))
    | (refine Wc_region (id := 5) ?_; intro K hK; refine Wl_move (k := ?_); refine Wl_assign (k := ?_); (refine Wl_nil (hK _ _ ?_); clear hK K))
    | (refine Wc_cond (ht := (fun ht => ?_)) (hf := (fun ht => ?_)) <;> (try simp at ht) <;> (try (exfalso; omega))))
  exact ⟨Or.inr rfl, _, [GtP r24 S, GtP st S], (by (repeat (first | exact Ent.refl _ | exact Ent.nil | refine Ent.take (by (repeat (first | exact Out.head | apply Out.tail)); (first | done | fail)) ?_ | refine Ent.drop1 ?_))), res1 rfl rfl, r24, rfl, rfl⟩
/-! ### A nil state -/
theorem ntable_spec : Fspec Try.prog B 24 #[.pointer none] [] (fun v A' => v = .slice none 0 0 ∧ A' = []) := by
  refine spec_of (args := [_]) Try.func24 rfl rfl rfl ?_
  repeat' (first
    | refine Wc_seq ?_
    | refine thenQ_normal ?_
    | refine Wc_cond_t (h := ?_)
    | refine Wc_cond_f (h := ?_)
    | refine Wc_ret ?_
    | refine thenQ_ret ?_
    | refine Wc_block ?_
    | refine blkQ_normal ?_
    | refine blkQ_ret ?_
    | refine Wc_exit ?_
    | refine thenQ_exit ?_
    | refine blkQ_hit ?_
    | refine blkQ_miss rfl ?_
    | refine Wc_skip ?_
    | refine Wc_label ?_
    | refine loopQ_exit ?_
    | refine loopQ_ret ?_
    | refine loopQ_normal ?_
    | (refine Wc_region (id := 0) ?_; intro K hK; refine Wl_assign (k := ?_); (refine Wl_nil (hK _ _ ?_); clear hK K))
    | (refine Wc_region (id := 1) ?_; intro K hK; refine Wl_move (k := ?_); refine Wl_ptr_eq_nil (k' := ?_); (refine Wl_nil (hK _ _ ?_); clear hK K))
    | (refine Wc_region (id := 2) ?_; intro K hK; refine Wl_assign (k := ?_); (refine Wl_nil (hK _ _ ?_); clear hK K))
    | (refine Wc_region (id := 3) ?_; intro K hK; (refine Wl_lit0o (k := ?_); intro r); refine Wl_move (k := ?_); refine Wl_nilCheck (k := ?_); refine Wl_fieldAddr (k := ?_); refine Wl_load (k := ?_))
    | (refine Wc_cond (ht := (fun ht => ?_)) (hf := (fun ht => ?_)) <;> (try simp at ht) <;> (try (exfalso; omega))))
  exact ⟨Or.inr rfl, _, [], Ent.nil, res1 rfl rfl, rfl, rfl⟩
theorem nconfig_spec : Fspec Try.prog B 15 #[.pointer none] [] (fun v A' => v = .int .i64 0 ∧ A' = []) := by
  refine spec_of (args := [_]) Try.func15 rfl rfl rfl ?_
  repeat' (first
    | refine Wc_seq ?_
    | refine thenQ_normal ?_
    | refine Wc_cond_t (h := ?_)
    | refine Wc_cond_f (h := ?_)
    | refine Wc_ret ?_
    | refine thenQ_ret ?_
    | refine Wc_block ?_
    | refine blkQ_normal ?_
    | refine blkQ_ret ?_
    | refine Wc_exit ?_
    | refine thenQ_exit ?_
    | refine blkQ_hit ?_
    | refine blkQ_miss rfl ?_
    | refine Wc_skip ?_
    | refine Wc_label ?_
    | refine loopQ_exit ?_
    | refine loopQ_ret ?_
    | refine loopQ_normal ?_
    | (refine Wc_region (id := 0) ?_; intro K hK; refine Wl_assign (k := ?_); (refine Wl_nil (hK _ _ ?_); clear hK K))
    | (refine Wc_region (id := 1) ?_; intro K hK; refine Wl_move (k := ?_); refine Wl_ptr_eq_nil (k' := ?_); (refine Wl_nil (hK _ _ ?_); clear hK K))
    | (refine Wc_region (id := 2) ?_; intro K hK; refine Wl_assign (k := ?_); (refine Wl_nil (hK _ _ ?_); clear hK K))
    | (refine Wc_region (id := 3) ?_; intro K hK; refine Wl_move (k := ?_); refine Wl_nilCheck (k := ?_); refine Wl_fieldAddr (k := ?_); refine Wl_load (k := ?_); refine Wl_len_sl (k' := ?_); refine Wl_assign (k := ?_); (refine Wl_nil (hK _ _ ?_); clear hK K))
    | (refine Wc_cond (ht := (fun ht => ?_)) (hf := (fun ht => ?_)) <;> (try simp at ht) <;> (try (exfalso; omega))))
  exact ⟨Or.inr rfl, _, [], Ent.nil, res1 rfl rfl, rfl, rfl⟩
theorem nmaster_spec : Fspec Try.prog B 14 #[.pointer none] [] (fun v A' => v = .int .i64 0 ∧ A' = []) := by
  refine spec_of (args := [_]) Try.func14 rfl rfl rfl ?_
  repeat' (first
    | refine Wc_seq ?_
    | refine thenQ_normal ?_
    | refine Wc_cond_t (h := ?_)
    | refine Wc_cond_f (h := ?_)
    | refine Wc_ret ?_
    | refine thenQ_ret ?_
    | refine Wc_block ?_
    | refine blkQ_normal ?_
    | refine blkQ_ret ?_
    | refine Wc_exit ?_
    | refine thenQ_exit ?_
    | refine blkQ_hit ?_
    | refine blkQ_miss rfl ?_
    | refine Wc_skip ?_
    | refine Wc_label ?_
    | refine loopQ_exit ?_
    | refine loopQ_ret ?_
    | refine loopQ_normal ?_
    | (refine Wc_region (id := 0) ?_; intro K hK; refine Wl_assign (k := ?_); (refine Wl_nil (hK _ _ ?_); clear hK K))
    | (refine Wc_region (id := 1) ?_; intro K hK; refine Wl_move (k := ?_); refine Wl_ptr_eq_nil (k' := ?_); (refine Wl_nil (hK _ _ ?_); clear hK K))
    | (refine Wc_region (id := 2) ?_; intro K hK; refine Wl_assign (k := ?_); (refine Wl_nil (hK _ _ ?_); clear hK K))
    | (refine Wc_draw (id := 3) (h := ?_); intro K hK; refine Wl_move (k := ?_); refine Wl_nilCheck (k := ?_); refine Wl_fieldAddr (k := ?_); refine Wl_load (k := ?_); refine Wl_move (k := ?_); refine Wl_nilCheck (k := ?_); refine Wl_fieldAddr (k := ?_); refine Wl_load (k := ?_); refine Wl_len_sl (k' := ?_); refine Wl_sub (k' := ?_); refine Wl_index_sl (k' := ?_); refine Wl_fieldAddr (k := ?_); refine Wl_load (k := ?_); refine Wl_assign (k := ?_); (refine Wl_nil (hK _ _ ?_); clear hK K))
    | (refine Wc_cond (ht := (fun ht => ?_)) (hf := (fun ht => ?_)) <;> (try simp at ht) <;> (try (exfalso; omega))))
  exact ⟨Or.inr rfl, _, [], Ent.nil, res1 rfl rfl, rfl, rfl⟩
theorem nclosed_spec : Fspec Try.prog B 22 #[.pointer none] [] (fun v A' => v = .bool false ∧ A' = []) := by
  refine spec_of (args := [_]) Try.func22 rfl rfl rfl ?_
  repeat' (first
    | refine Wc_seq ?_
    | refine thenQ_normal ?_
    | refine Wc_cond_t (h := ?_)
    | refine Wc_cond_f (h := ?_)
    | refine Wc_ret ?_
    | refine thenQ_ret ?_
    | refine Wc_block ?_
    | refine blkQ_normal ?_
    | refine blkQ_ret ?_
    | refine Wc_exit ?_
    | refine thenQ_exit ?_
    | refine blkQ_hit ?_
    | refine blkQ_miss rfl ?_
    | refine Wc_skip ?_
    | refine Wc_label ?_
    | refine loopQ_exit ?_
    | refine loopQ_ret ?_
    | refine loopQ_normal ?_
    | (refine Wc_region (id := 0) ?_; intro K hK; refine Wl_assign (k := ?_); (refine Wl_nil (hK _ _ ?_); clear hK K))
    | (refine Wc_region (id := 1) ?_; intro K hK; refine Wl_move (k := ?_); refine Wl_ptr_neq_nil (k' := ?_); refine Wl_move (k := ?_); ((first | (refine Wl_guard (k := ?_); refine Wl_move (k := ?_)) | refine Wl_gno (k := ?_) | ((refine Wl_split (yes := (fun ht => ?_)) (no := (fun ht => ?_)) <;> (try simp at ht) <;> (try (exfalso; omega))) <;> (first | (refine Wl_guard (k := ?_); refine Wl_move (k := ?_)) | refine Wl_gno (k := ?_))))) <;> (((first | (refine Wl_guard (k := ?_); refine Wl_nilCheck (k := ?_)) | refine Wl_gno (k := ?_) | ((refine Wl_split (yes := (fun ht => ?_)) (no := (fun ht => ?_)) <;> (try simp at ht) <;> (try (exfalso; omega))) <;> (first | (refine Wl_guard (k := ?_); refine Wl_nilCheck (k := ?_)) | refine Wl_gno (k := ?_))))) <;> (((first | (refine Wl_guard (k := ?_); refine Wl_fieldAddr (k := ?_)) | refine Wl_gno (k := ?_) | ((refine Wl_split (yes := (fun ht => ?_)) (no := (fun ht => ?_)) <;> (try simp at ht) <;> (try (exfalso; omega))) <;> (first | (refine Wl_guard (k := ?_); refine Wl_fieldAddr (k := ?_)) | refine Wl_gno (k := ?_))))) <;> (((first | (refine Wl_guard (k := ?_); refine Wl_load (k := ?_)) | refine Wl_gno (k := ?_) | ((refine Wl_split (yes := (fun ht => ?_)) (no := (fun ht => ?_)) <;> (try simp at ht) <;> (try (exfalso; omega))) <;> (first | (refine Wl_guard (k := ?_); refine Wl_load (k := ?_)) | refine Wl_gno (k := ?_))))) <;> ((first | refine Wl_pick_t (k := ?_) | refine Wl_pick_f (k := ?_) | refine Wl_pick (k := ?_)); refine Wl_assign (k := ?_); (refine Wl_nil (hK _ _ ?_); clear hK K))))))
    | (refine Wc_cond (ht := (fun ht => ?_)) (hf := (fun ht => ?_)) <;> (try simp at ht) <;> (try (exfalso; omega))))
  exact ⟨Or.inr rfl, _, [], Ent.nil, res1 rfl rfl, rfl, rfl⟩
theorem nlast_spec : Fspec Try.prog B 13 #[.pointer none] [] (fun v A' => v = .agg #[.int .i64 0, .int .i64 0] ∧ A' = []) := by
  refine spec_of (args := [_]) Try.func13 rfl rfl rfl ?_
  repeat' (first
    | refine Wc_seq ?_
    | refine thenQ_normal ?_
    | refine Wc_cond_t (h := ?_)
    | refine Wc_cond_f (h := ?_)
    | refine Wc_ret ?_
    | refine thenQ_ret ?_
    | refine Wc_block ?_
    | refine blkQ_normal ?_
    | refine blkQ_ret ?_
    | refine Wc_exit ?_
    | refine thenQ_exit ?_
    | refine blkQ_hit ?_
    | refine blkQ_miss rfl ?_
    | refine Wc_skip ?_
    | refine Wc_label ?_
    | refine loopQ_exit ?_
    | refine loopQ_ret ?_
    | refine loopQ_normal ?_
    | (refine Wc_region (id := 0) ?_; intro K hK; ((refine Wl_alloc (k := ?_); intro r2)) <;> ((refine Wl_nil (hK _ _ ?_); clear hK K)))
    | (refine Wc_region (id := 1) ?_; intro K hK; refine Wl_move (k := ?_); refine Wl_ptr_eq_nil (k' := ?_); (refine Wl_nil (hK _ _ ?_); clear hK K))
    | (refine Wc_region (id := 2) ?_; intro K hK; refine Wl_build (k := ?_); refine Wl_storeR (ho' := rfl) (k := ?_); (refine Wl_nil (hK _ _ ?_); clear hK K))
    | (refine Wc_region (id := 3) ?_; intro K hK; refine Wl_move (k := ?_); refine Wl_nilCheck (k := ?_); refine Wl_fieldAddr (k := ?_); refine Wl_fieldAddr (k := ?_); refine Wl_loadR (k := ?_); refine Wl_storeR (ho' := rfl) (k := ?_); (refine Wl_nil (hK _ _ ?_); clear hK K))
    | (refine Wc_cond (ht := (fun ht => ?_)) (hf := (fun ht => ?_)) <;> (try simp at ht) <;> (try (exfalso; omega))))
  exact ⟨Or.inr rfl, _, [], Ent.nil, resG rfl (by (repeat (first | exact ResL.nil | apply ResL.tmp (by (repeat (first | exact Ev.here | exact Ev.const | exact Ev.arg rfl | apply Ev.there rfl | exact Ev.none rfl | exact Ev.func | exact Ev.var)); (first | done | fail)) | apply ResL.agg (by (repeat (first | exact Ev.here | exact Ev.const | exact Ev.arg rfl | apply Ev.there rfl | exact Ev.none rfl | exact Ev.func | exact Ev.var)); (first | done | fail)) (by (repeat (first | exact Rd.head | exact Rd.base (by assumption) | apply Rd.tail)); (first | done | fail)) (by (repeat (first | exact TakeR.nil | apply TakeR.take | apply TakeR.skip)); (first | done | fail)) | apply ResL.cell (by (repeat (first | exact Ev.here | exact Ev.const | exact Ev.arg rfl | apply Ev.there rfl | exact Ev.none rfl | exact Ev.func | exact Ev.var)); (first | done | fail)) (by (repeat (first | exact Rd.head | exact Rd.base (by assumption) | apply Rd.tail)); (first | done | fail)) rfl)); (first | done | fail)) rfl, rfl, rfl⟩
theorem nbase_spec : Fspec Try.prog B 27 #[.pointer none] [] (fun v A' => v = .agg #[.int .i64 0, .int .i64 0] ∧ A' = []) := by
  refine spec_of (args := [_]) Try.func27 rfl rfl rfl ?_
  repeat' (first
    | refine Wc_seq ?_
    | refine thenQ_normal ?_
    | refine Wc_cond_t (h := ?_)
    | refine Wc_cond_f (h := ?_)
    | refine Wc_ret ?_
    | refine thenQ_ret ?_
    | refine Wc_block ?_
    | refine blkQ_normal ?_
    | refine blkQ_ret ?_
    | refine Wc_exit ?_
    | refine thenQ_exit ?_
    | refine blkQ_hit ?_
    | refine blkQ_miss rfl ?_
    | refine Wc_skip ?_
    | refine Wc_label ?_
    | refine loopQ_exit ?_
    | refine loopQ_ret ?_
    | refine loopQ_normal ?_
    | (refine Wc_region (id := 0) ?_; intro K hK; ((refine Wl_alloc (k := ?_); intro r2)) <;> ((refine Wl_nil (hK _ _ ?_); clear hK K)))
    | (refine Wc_region (id := 1) ?_; intro K hK; refine Wl_move (k := ?_); refine Wl_ptr_eq_nil (k' := ?_); (refine Wl_nil (hK _ _ ?_); clear hK K))
    | (refine Wc_region (id := 2) ?_; intro K hK; refine Wl_build (k := ?_); refine Wl_storeR (ho' := rfl) (k := ?_); (refine Wl_nil (hK _ _ ?_); clear hK K))
    | (refine Wc_region (id := 3) ?_; intro K hK; refine Wl_move (k := ?_); refine Wl_nilCheck (k := ?_); refine Wl_fieldAddr (k := ?_); refine Wl_fieldAddr (k := ?_); refine Wl_loadR (k := ?_); refine Wl_storeR (ho' := rfl) (k := ?_); (refine Wl_nil (hK _ _ ?_); clear hK K))
    | (refine Wc_cond (ht := (fun ht => ?_)) (hf := (fun ht => ?_)) <;> (try simp at ht) <;> (try (exfalso; omega))))
  exact ⟨Or.inr rfl, _, [], Ent.nil, resG rfl (by (repeat (first | exact ResL.nil | apply ResL.tmp (by (repeat (first | exact Ev.here | exact Ev.const | exact Ev.arg rfl | apply Ev.there rfl | exact Ev.none rfl | exact Ev.func | exact Ev.var)); (first | done | fail)) | apply ResL.agg (by (repeat (first | exact Ev.here | exact Ev.const | exact Ev.arg rfl | apply Ev.there rfl | exact Ev.none rfl | exact Ev.func | exact Ev.var)); (first | done | fail)) (by (repeat (first | exact Rd.head | exact Rd.base (by assumption) | apply Rd.tail)); (first | done | fail)) (by (repeat (first | exact TakeR.nil | apply TakeR.take | apply TakeR.skip)); (first | done | fail)) | apply ResL.cell (by (repeat (first | exact Ev.here | exact Ev.const | exact Ev.arg rfl | apply Ev.there rfl | exact Ev.none rfl | exact Ev.func | exact Ev.var)); (first | done | fail)) (by (repeat (first | exact Rd.head | exact Rd.base (by assumption) | apply Rd.tail)); (first | done | fail)) rfl)); (first | done | fail)) rfl, rfl, rfl⟩
theorem nget_spec (key : ByteArray) : Fspec Try.prog B 16 #[.pointer none, .string key] [] (fun v A' => v = .agg VX.zero.C.toArray ∧ A' = []) := by
  refine spec_of (args := [_, _]) Try.func16 rfl rfl rfl ?_
  repeat' (first
    | refine Wc_seq ?_
    | refine thenQ_normal ?_
    | refine Wc_cond_t (h := ?_)
    | refine Wc_cond_f (h := ?_)
    | refine Wc_ret ?_
    | refine thenQ_ret ?_
    | refine Wc_block ?_
    | refine blkQ_normal ?_
    | refine blkQ_ret ?_
    | refine Wc_exit ?_
    | refine thenQ_exit ?_
    | refine blkQ_hit ?_
    | refine blkQ_miss rfl ?_
    | refine Wc_skip ?_
    | refine Wc_label ?_
    | refine loopQ_exit ?_
    | refine loopQ_ret ?_
    | refine loopQ_normal ?_
    | (refine Wc_region (id := 0) ?_; intro K hK; ((refine Wl_alloc (k := ?_); intro r4)) <;> ((refine Wl_nil (hK _ _ ?_); clear hK K)))
    | (refine Wc_region (id := 1) ?_; intro K hK; refine Wl_move (k := ?_); refine Wl_ptr_eq_nil (k' := ?_); (refine Wl_nil (hK _ _ ?_); clear hK K))
    | (refine Wc_region (id := 2) ?_; intro K hK; refine Wl_build (k := ?_); refine Wl_storeR (ho' := rfl) (k := ?_); (refine Wl_nil (hK _ _ ?_); clear hK K))
    | (refine Wc_region (id := 3) ?_; intro K hK; refine Wl_move (k := ?_); refine Wl_nilCheck (k := ?_); refine Wl_fieldAddr (k := ?_); refine Wl_fieldAddr (k := ?_); refine Wl_load (k := ?_); refine Wl_move (k := ?_))
    | (refine Wc_region (id := 4) ?_; intro K hK; refine Wl_loadR (k := ?_); refine Wl_storeR (ho' := rfl) (k := ?_); (refine Wl_nil (hK _ _ ?_); clear hK K))
    | (refine Wc_cond (ht := (fun ht => ?_)) (hf := (fun ht => ?_)) <;> (try simp at ht) <;> (try (exfalso; omega))))
  exact ⟨Or.inr rfl, _, [], Ent.nil, resG rfl (by (repeat (first | exact ResL.nil | apply ResL.tmp (by (repeat (first | exact Ev.here | exact Ev.const | exact Ev.arg rfl | apply Ev.there rfl | exact Ev.none rfl | exact Ev.func | exact Ev.var)); (first | done | fail)) | apply ResL.agg (by (repeat (first | exact Ev.here | exact Ev.const | exact Ev.arg rfl | apply Ev.there rfl | exact Ev.none rfl | exact Ev.func | exact Ev.var)); (first | done | fail)) (by (repeat (first | exact Rd.head | exact Rd.base (by assumption) | apply Rd.tail)); (first | done | fail)) (by (repeat (first | exact TakeR.nil | apply TakeR.take | apply TakeR.skip)); (first | done | fail)) | apply ResL.cell (by (repeat (first | exact Ev.here | exact Ev.const | exact Ev.arg rfl | apply Ev.there rfl | exact Ev.none rfl | exact Ev.func | exact Ev.var)); (first | done | fail)) (by (repeat (first | exact Rd.head | exact Rd.base (by assumption) | apply Rd.tail)); (first | done | fail)) rfl)); (first | done | fail)) rfl, rfl, rfl⟩
theorem nlook_spec (s r : Int) : Fspec Try.prog B 26 #[.pointer none, .int .i64 s, .int .i64 r] [] (fun v A' => v = .tuple #[.int .i64 4, .agg #[.int .i64 0, .int .i64 0]] ∧ A' = []) := by
  refine spec_of (args := [_, _, _]) Try.func26 rfl rfl rfl ?_
  repeat' (first
    | refine Wc_seq ?_
    | refine thenQ_normal ?_
    | refine Wc_cond_t (h := ?_)
    | refine Wc_cond_f (h := ?_)
    | refine Wc_ret ?_
    | refine thenQ_ret ?_
    | refine Wc_block ?_
    | refine blkQ_normal ?_
    | refine blkQ_ret ?_
    | refine Wc_exit ?_
    | refine thenQ_exit ?_
    | refine blkQ_hit ?_
    | refine blkQ_miss rfl ?_
    | refine Wc_skip ?_
    | refine Wc_label ?_
    | refine loopQ_exit ?_
    | refine loopQ_ret ?_
    | refine loopQ_normal ?_
    | (refine Wc_region (id := 0) ?_; intro K hK; refine Wl_assign (k := ?_); ((refine Wl_alloc (k := ?_); intro r7)) <;> ((refine Wl_nil (hK _ _ ?_); clear hK K)))
    | (refine Wc_region (id := 1) ?_; intro K hK; refine Wl_move (k := ?_); refine Wl_ptr_eq_nil (k' := ?_); (refine Wl_nil (hK _ _ ?_); clear hK K))
    | (refine Wc_region (id := 2) ?_; intro K hK; refine Wl_build (k := ?_); refine Wl_assign (k := ?_); refine Wl_storeR (ho' := rfl) (k := ?_); (refine Wl_nil (hK _ _ ?_); clear hK K))
    | (refine Wc_region (id := 3) ?_; intro K hK; refine Wl_move (k := ?_); refine Wl_nilCheck (k := ?_); refine Wl_fieldAddr (k := ?_); refine Wl_fieldAddr (k := ?_); refine Wl_load (k := ?_); refine Wl_move (k := ?_); refine Wl_move (k := ?_))
    | (refine Wc_cond (ht := (fun ht => ?_)) (hf := (fun ht => ?_)) <;> (try simp at ht) <;> (try (exfalso; omega))))
  exact ⟨Or.inr rfl, _, [], Ent.nil, resG rfl (by (repeat (first | exact ResL.nil | apply ResL.tmp (by (repeat (first | exact Ev.here | exact Ev.const | exact Ev.arg rfl | apply Ev.there rfl | exact Ev.none rfl | exact Ev.func | exact Ev.var)); (first | done | fail)) | apply ResL.agg (by (repeat (first | exact Ev.here | exact Ev.const | exact Ev.arg rfl | apply Ev.there rfl | exact Ev.none rfl | exact Ev.func | exact Ev.var)); (first | done | fail)) (by (repeat (first | exact Rd.head | exact Rd.base (by assumption) | apply Rd.tail)); (first | done | fail)) (by (repeat (first | exact TakeR.nil | apply TakeR.take | apply TakeR.skip)); (first | done | fail)) | apply ResL.cell (by (repeat (first | exact Ev.here | exact Ev.const | exact Ev.arg rfl | apply Ev.there rfl | exact Ev.none rfl | exact Ev.func | exact Ev.var)); (first | done | fail)) (by (repeat (first | exact Rd.head | exact Rd.base (by assumption) | apply Rd.tail)); (first | done | fail)) rfl)); (first | done | fail)) rfl, rfl, rfl⟩
theorem nentries_spec (fr most : Int) : Fspec Try.prog B 25 #[.pointer none, .int .i64 fr, .int .i64 most] [] (fun v A' => v = .slice none 0 0 ∧ A' = []) := by
  refine spec_of (args := [_, _, _]) Try.func25 rfl rfl rfl ?_
  repeat' (first
    | refine Wc_seq ?_
    | refine thenQ_normal ?_
    | refine Wc_cond_t (h := ?_)
    | refine Wc_cond_f (h := ?_)
    | refine Wc_ret ?_
    | refine thenQ_ret ?_
    | refine Wc_block ?_
    | refine blkQ_normal ?_
    | refine blkQ_ret ?_
    | refine Wc_exit ?_
    | refine thenQ_exit ?_
    | refine blkQ_hit ?_
    | refine blkQ_miss rfl ?_
    | refine Wc_skip ?_
    | refine Wc_label ?_
    | refine loopQ_exit ?_
    | refine loopQ_ret ?_
    | refine loopQ_normal ?_
    | (refine Wc_region (id := 0) ?_; intro K hK; refine Wl_assign (k := ?_); (refine Wl_nil (hK _ _ ?_); clear hK K))
    | (refine Wc_region (id := 1) ?_; intro K hK; refine Wl_move (k := ?_); refine Wl_ptr_eq_nil (k' := ?_); refine Wl_move (k := ?_); ((first | (refine Wl_guard (k := ?_); refine Wl_move (k := ?_)) | refine Wl_gno (k := ?_) | ((refine Wl_split (yes := (fun ht => ?_)) (no := (fun ht => ?_)) <;> (try simp at ht) <;> (try (exfalso; omega))) <;> (first | (refine Wl_guard (k := ?_); refine Wl_move (k := ?_)) | refine Wl_gno (k := ?_))))) <;> (((first | (refine Wl_guard (k := ?_); refine Wl_move (k := ?_)) | refine Wl_gno (k := ?_) | ((refine Wl_split (yes := (fun ht => ?_)) (no := (fun ht => ?_)) <;> (try simp at ht) <;> (try (exfalso; omega))) <;> (first | (refine Wl_guard (k := ?_); refine Wl_move (k := ?_)) | refine Wl_gno (k := ?_))))) <;> (((first | (refine Wl_guard (k := ?_); refine Wl_nilCheck (k := ?_)) | refine Wl_gno (k := ?_) | ((refine Wl_split (yes := (fun ht => ?_)) (no := (fun ht => ?_)) <;> (try simp at ht) <;> (try (exfalso; omega))) <;> (first | (refine Wl_guard (k := ?_); refine Wl_nilCheck (k := ?_)) | refine Wl_gno (k := ?_))))) <;> (((first | (refine Wl_guard (k := ?_); refine Wl_fieldAddr (k := ?_)) | refine Wl_gno (k := ?_) | ((refine Wl_split (yes := (fun ht => ?_)) (no := (fun ht => ?_)) <;> (try simp at ht) <;> (try (exfalso; omega))) <;> (first | (refine Wl_guard (k := ?_); refine Wl_fieldAddr (k := ?_)) | refine Wl_gno (k := ?_))))) <;> (((first | (refine Wl_guard (k := ?_); refine Wl_fieldAddr (k := ?_)) | refine Wl_gno (k := ?_) | ((refine Wl_split (yes := (fun ht => ?_)) (no := (fun ht => ?_)) <;> (try simp at ht) <;> (try (exfalso; omega))) <;> (first | (refine Wl_guard (k := ?_); refine Wl_fieldAddr (k := ?_)) | refine Wl_gno (k := ?_))))) <;> (((first | (refine Wl_guard (k := ?_); refine Wl_fieldAddr (k := ?_)) | refine Wl_gno (k := ?_) | ((refine Wl_split (yes := (fun ht => ?_)) (no := (fun ht => ?_)) <;> (try simp at ht) <;> (try (exfalso; omega))) <;> (first | (refine Wl_guard (k := ?_); refine Wl_fieldAddr (k := ?_)) | refine Wl_gno (k := ?_))))) <;> (((first | (refine Wl_guard (k := ?_); refine Wl_load (k := ?_)) | refine Wl_gno (k := ?_) | ((refine Wl_split (yes := (fun ht => ?_)) (no := (fun ht => ?_)) <;> (try simp at ht) <;> (try (exfalso; omega))) <;> (first | (refine Wl_guard (k := ?_); refine Wl_load (k := ?_)) | refine Wl_gno (k := ?_))))) <;> (((first | (refine Wl_guard (k := ?_); refine Wl_leq (k' := ?_)) | refine Wl_gno (k := ?_) | ((refine Wl_split (yes := (fun ht => ?_)) (no := (fun ht => ?_)) <;> (try simp at ht) <;> (try (exfalso; omega))) <;> (first | (refine Wl_guard (k := ?_); refine Wl_leq (k' := ?_)) | refine Wl_gno (k := ?_))))) <;> ((first | refine Wl_pick_t (k := ?_) | refine Wl_pick_f (k := ?_) | refine Wl_pick (k := ?_)); refine Wl_move (k := ?_); ((first | (refine Wl_guard (k := ?_); refine Wl_move (k := ?_)) | refine Wl_gno (k := ?_) | ((refine Wl_split (yes := (fun ht => ?_)) (no := (fun ht => ?_)) <;> (try simp at ht) <;> (try (exfalso; omega))) <;> (first | (refine Wl_guard (k := ?_); refine Wl_move (k := ?_)) | refine Wl_gno (k := ?_))))) <;> (((first | (refine Wl_guard (k := ?_); refine Wl_move (k := ?_)) | refine Wl_gno (k := ?_) | ((refine Wl_split (yes := (fun ht => ?_)) (no := (fun ht => ?_)) <;> (try simp at ht) <;> (try (exfalso; omega))) <;> (first | (refine Wl_guard (k := ?_); refine Wl_move (k := ?_)) | refine Wl_gno (k := ?_))))) <;> (((first | (refine Wl_guard (k := ?_); refine Wl_nilCheck (k := ?_)) | refine Wl_gno (k := ?_) | ((refine Wl_split (yes := (fun ht => ?_)) (no := (fun ht => ?_)) <;> (try simp at ht) <;> (try (exfalso; omega))) <;> (first | (refine Wl_guard (k := ?_); refine Wl_nilCheck (k := ?_)) | refine Wl_gno (k := ?_))))) <;> (((first | (refine Wl_guard (k := ?_); refine Wl_fieldAddr (k := ?_)) | refine Wl_gno (k := ?_) | ((refine Wl_split (yes := (fun ht => ?_)) (no := (fun ht => ?_)) <;> (try simp at ht) <;> (try (exfalso; omega))) <;> (first | (refine Wl_guard (k := ?_); refine Wl_fieldAddr (k := ?_)) | refine Wl_gno (k := ?_))))) <;> (((first | (refine Wl_guard (k := ?_); refine Wl_fieldAddr (k := ?_)) | refine Wl_gno (k := ?_) | ((refine Wl_split (yes := (fun ht => ?_)) (no := (fun ht => ?_)) <;> (try simp at ht) <;> (try (exfalso; omega))) <;> (first | (refine Wl_guard (k := ?_); refine Wl_fieldAddr (k := ?_)) | refine Wl_gno (k := ?_))))) <;> (((first | (refine Wl_guard (k := ?_); refine Wl_fieldAddr (k := ?_)) | refine Wl_gno (k := ?_) | ((refine Wl_split (yes := (fun ht => ?_)) (no := (fun ht => ?_)) <;> (try simp at ht) <;> (try (exfalso; omega))) <;> (first | (refine Wl_guard (k := ?_); refine Wl_fieldAddr (k := ?_)) | refine Wl_gno (k := ?_))))) <;> (((first | (refine Wl_guard (k := ?_); refine Wl_load (k := ?_)) | refine Wl_gno (k := ?_) | ((refine Wl_split (yes := (fun ht => ?_)) (no := (fun ht => ?_)) <;> (try simp at ht) <;> (try (exfalso; omega))) <;> (first | (refine Wl_guard (k := ?_); refine Wl_load (k := ?_)) | refine Wl_gno (k := ?_))))) <;> (((first | (refine Wl_guard (k := ?_); refine Wl_gtr (k' := ?_)) | refine Wl_gno (k := ?_) | ((refine Wl_split (yes := (fun ht => ?_)) (no := (fun ht => ?_)) <;> (try simp at ht) <;> (try (exfalso; omega))) <;> (first | (refine Wl_guard (k := ?_); refine Wl_gtr (k' := ?_)) | refine Wl_gno (k := ?_))))) <;> ((first | refine Wl_pick_t (k := ?_) | refine Wl_pick_f (k := ?_) | refine Wl_pick (k := ?_)); refine Wl_move (k := ?_); ((first | (refine Wl_guard (k := ?_); refine Wl_move (k := ?_)) | refine Wl_gno (k := ?_) | ((refine Wl_split (yes := (fun ht => ?_)) (no := (fun ht => ?_)) <;> (try simp at ht) <;> (try (exfalso; omega))) <;> (first | (refine Wl_guard (k := ?_); refine Wl_move (k := ?_)) | refine Wl_gno (k := ?_))))) <;> (((first | (refine Wl_guard (k := ?_); refine Wl_lss (k' := ?_)) | refine Wl_gno (k := ?_) | ((refine Wl_split (yes := (fun ht => ?_)) (no := (fun ht => ?_)) <;> (try simp at ht) <;> (try (exfalso; omega))) <;> (first | (refine Wl_guard (k := ?_); refine Wl_lss (k' := ?_)) | refine Wl_gno (k := ?_))))) <;> ((first | refine Wl_pick_t (k := ?_) | refine Wl_pick_f (k := ?_) | refine Wl_pick (k := ?_)); (refine Wl_nil (hK _ _ ?_); clear hK K))))))))))))))))))))
    | (refine Wc_region (id := 2) ?_; intro K hK; refine Wl_assign (k := ?_); (refine Wl_nil (hK _ _ ?_); clear hK K))
    | (refine Wc_draw (id := 3) (h := ?_); intro K hK; refine Wl_move (k := ?_); refine Wl_nilCheck (k := ?_); refine Wl_fieldAddr (k := ?_); refine Wl_load (k := ?_); refine Wl_move (k := ?_); refine Wl_move (k := ?_); refine Wl_nilCheck (k := ?_); refine Wl_fieldAddr (k := ?_); refine Wl_fieldAddr (k := ?_); refine Wl_fieldAddr (k := ?_); refine Wl_load (k := ?_); refine Wl_sub (k' := ?_); refine Wl_sub (k' := ?_))
    | (refine Wc_region (id := 4) ?_; intro K hK; (refine Wl_lit0o (k := ?_); intro r); refine Wl_move (k := ?_); refine Wl_move (k := ?_); refine Wl_move (k := ?_); refine Wl_len_sl (k' := ?_); refine Wl_min (k' := ?_); refine Wl_slice_sl0 (k' := ?_))
    | (refine Wc_cond (ht := (fun ht => ?_)) (hf := (fun ht => ?_)) <;> (try simp at ht) <;> (try (exfalso; omega))))
  all_goals exact ⟨Or.inr rfl, _, [], Ent.nil, res1 rfl rfl, rfl, rfl⟩
theorem ncopy_spec : Fspec Try.prog B 32 #[.pointer none] [] (fun v A' => v = .pointer none ∧ A' = []) := by
  refine spec_of (args := [_]) Try.func32 rfl rfl rfl ?_
  repeat' (first
    | refine Wc_seq ?_
    | refine thenQ_normal ?_
    | refine Wc_cond_t (h := ?_)
    | refine Wc_cond_f (h := ?_)
    | refine Wc_ret ?_
    | refine thenQ_ret ?_
    | refine Wc_block ?_
    | refine blkQ_normal ?_
    | refine blkQ_ret ?_
    | refine Wc_exit ?_
    | refine thenQ_exit ?_
    | refine blkQ_hit ?_
    | refine blkQ_miss rfl ?_
    | refine Wc_skip ?_
    | refine Wc_label ?_
    | refine loopQ_exit ?_
    | refine loopQ_ret ?_
    | refine loopQ_normal ?_
    | (refine Wc_region (id := 0) ?_; intro K hK; refine Wl_assign (k := ?_); (refine Wl_nil (hK _ _ ?_); clear hK K))
    | (refine Wc_region (id := 1) ?_; intro K hK; refine Wl_move (k := ?_); refine Wl_ptr_eq_nil (k' := ?_); (refine Wl_nil (hK _ _ ?_); clear hK K))
    | (refine Wc_region (id := 2) ?_; intro K hK; refine Wl_assign (k := ?_); (refine Wl_nil (hK _ _ ?_); clear hK K))
    | (refine Wc_draw (id := 3) (h := ?_); intro K hK; refine Wl_move (k := ?_))
    | (refine Wc_region (id := 4) ?_; intro K hK; refine Wl_move (k := ?_))
    | (refine Wc_region (id := 5) ?_; intro K hK; refine Wl_move (k := ?_); refine Wl_assign (k := ?_); (refine Wl_nil (hK _ _ ?_); clear hK K))
    | (refine Wc_cond (ht := (fun ht => ?_)) (hf := (fun ht => ?_)) <;> (try simp at ht) <;> (try (exfalso; omega))))
  exact ⟨Or.inr rfl, _, [], Ent.nil, res1 rfl rfl, rfl, rfl⟩
theorem nencode_spec : Fspec Try.prog B 33 #[.pointer none] [] (fun v A' => v = .slice none 0 0 ∧ A' = []) := by
  refine spec_of (args := [_]) Try.func33 rfl rfl rfl ?_
  repeat' (first
    | refine Wc_seq ?_
    | refine thenQ_normal ?_
    | refine Wc_cond_t (h := ?_)
    | refine Wc_cond_f (h := ?_)
    | refine Wc_ret ?_
    | refine thenQ_ret ?_
    | refine Wc_block ?_
    | refine blkQ_normal ?_
    | refine blkQ_ret ?_
    | refine Wc_exit ?_
    | refine thenQ_exit ?_
    | refine blkQ_hit ?_
    | refine blkQ_miss rfl ?_
    | refine Wc_skip ?_
    | refine Wc_label ?_
    | refine loopQ_exit ?_
    | refine loopQ_ret ?_
    | refine loopQ_normal ?_
    | (refine Wc_region (id := 0) ?_; intro K hK; refine Wl_assign (k := ?_); (refine Wl_nil (hK _ _ ?_); clear hK K))
    | (refine Wc_region (id := 1) ?_; intro K hK; refine Wl_move (k := ?_); refine Wl_ptr_eq_nil (k' := ?_); (refine Wl_nil (hK _ _ ?_); clear hK K))
    | (refine Wc_region (id := 2) ?_; intro K hK; refine Wl_assign (k := ?_); (refine Wl_nil (hK _ _ ?_); clear hK K))
    | (refine Wc_region (id := 3) ?_; intro K hK; refine Wl_build (k := ?_); (refine Wl_boxAgg (k := ?_); intro r); refine Wl_assign (k := ?_); (refine Wl_nil (hK _ _ ?_); clear hK K))
    | (refine Wc_region (id := 4) ?_; intro K hK; refine Wl_move (k := ?_); refine Wl_move (k := ?_); refine Wl_nilCheck (k := ?_); refine Wl_fieldAddr (k := ?_); refine Wl_load (k := ?_); refine Wl_len_sl (k' := ?_))
    | (refine Wc_region (id := 5) ?_; intro K hK; refine Wl_move (k := ?_); refine Wl_nilCheck (k := ?_); refine Wl_fieldAddr (k := ?_); refine Wl_load (k := ?_); refine Wl_len_sl (k' := ?_); refine Wl_move (k := ?_); (refine Wl_nil (hK _ _ ?_); clear hK K))
    | (refine Wc_region (id := 6) ?_; intro K hK; refine Wl_lss (k' := ?_); (refine Wl_nil (hK _ _ ?_); clear hK K))
    | (refine Wc_region (id := 7) ?_; intro K hK; refine Wl_index_sl (k' := ?_); refine Wl_loadR (k := ?_); (refine Wl_alloc (k := ?_); intro r); refine Wl_storeR (ho' := rfl) (k := ?_); (refine Wl_nil (hK _ _ ?_); clear hK K))
    | (refine Wc_region (id := 8) ?_; intro K hK; refine Wl_move (k := ?_); refine Wl_loadR (k := ?_))
    | (refine Wc_region (id := 9) ?_; intro K hK; refine Wl_add (k' := ?_); refine Wl_move (k := ?_); (refine Wl_nil (hK _ _ ?_); clear hK K))
    | (refine Wc_region (id := 10) ?_; intro K hK; refine Wl_move (k := ?_); refine Wl_move (k := ?_); refine Wl_nilCheck (k := ?_); refine Wl_fieldAddr (k := ?_); refine Wl_load (k := ?_))
    | (refine Wc_region (id := 11) ?_; intro K hK; refine Wl_move (k := ?_); refine Wl_move (k := ?_); refine Wl_nilCheck (k := ?_); refine Wl_fieldAddr (k := ?_); refine Wl_loadR (k := ?_))
    | (refine Wc_region (id := 12) ?_; intro K hK; refine Wl_move (k := ?_); refine Wl_move (k := ?_); refine Wl_nilCheck (k := ?_); refine Wl_fieldAddr (k := ?_); refine Wl_load (k := ?_); refine Wl_len_sl (k' := ?_))
    | (refine Wc_region (id := 13) ?_; intro K hK; refine Wl_move (k := ?_); refine Wl_nilCheck (k := ?_); refine Wl_fieldAddr (k := ?_); refine Wl_load (k := ?_); refine Wl_len_sl (k' := ?_); refine Wl_move (k := ?_); (refine Wl_nil (hK _ _ ?_); clear hK K))
    | (refine Wc_region (id := 14) ?_; intro K hK; refine Wl_lss (k' := ?_); (refine Wl_nil (hK _ _ ?_); clear hK K))
    | (refine Wc_region (id := 15) ?_; intro K hK; refine Wl_index_sl (k' := ?_); refine Wl_loadR (k := ?_); (refine Wl_alloc (k := ?_); intro r); refine Wl_storeR (ho' := rfl) (k := ?_); (refine Wl_nil (hK _ _ ?_); clear hK K))
    | (refine Wc_region (id := 16) ?_; intro K hK; refine Wl_move (k := ?_); refine Wl_loadR (k := ?_))
    | (refine Wc_region (id := 17) ?_; intro K hK; refine Wl_add (k' := ?_); refine Wl_move (k := ?_); (refine Wl_nil (hK _ _ ?_); clear hK K))
    | (refine Wc_region (id := 18) ?_; intro K hK; refine Wl_move (k := ?_))
    | (refine Wc_region (id := 19) ?_; intro K hK; refine Wl_move (k := ?_); refine Wl_assign (k := ?_); (refine Wl_nil (hK _ _ ?_); clear hK K))
    | (refine Wc_cond (ht := (fun ht => ?_)) (hf := (fun ht => ?_)) <;> (try simp at ht) <;> (try (exfalso; omega))))
  exact ⟨Or.inr rfl, _, [], Ent.nil, res1 rfl rfl, rfl, rfl⟩
theorem ncheck_spec (r : RcG) (pa : Option Addr) (pc : Nat) (sa : Option Addr) (sc : Nat) : Fspec Try.prog B 31 #[.pointer none, .agg (r.c pa pc sa sc).toArray] [] (fun v A' => v = .int .i64 1 ∧ A' = []) := by
  refine spec_of (args := [_, _]) Try.func31 rfl rfl rfl ?_
  simp only [RcG.c]
  repeat' (first
    | refine Wc_seq ?_
    | refine thenQ_normal ?_
    | refine Wc_cond_t (h := ?_)
    | refine Wc_cond_f (h := ?_)
    | refine Wc_ret ?_
    | refine thenQ_ret ?_
    | refine Wc_block ?_
    | refine blkQ_normal ?_
    | refine blkQ_ret ?_
    | refine Wc_exit ?_
    | refine thenQ_exit ?_
    | refine blkQ_hit ?_
    | refine blkQ_miss rfl ?_
    | refine Wc_skip ?_
    | refine Wc_label ?_
    | refine loopQ_exit ?_
    | refine loopQ_ret ?_
    | refine loopQ_normal ?_
    | (refine Wc_region (id := 0) ?_; intro K hK; ((refine Wl_boxAgg (k := ?_); intro r3)) <;> (refine Wl_assign (k := ?_); (refine Wl_nil (hK _ _ ?_); clear hK K)))
    | (refine Wc_region (id := 1) ?_; intro K hK; refine Wl_move (k := ?_); refine Wl_ptr_eq_nil (k' := ?_); (refine Wl_nil (hK _ _ ?_); clear hK K))
    | (refine Wc_region (id := 2) ?_; intro K hK; refine Wl_assign (k := ?_); (refine Wl_nil (hK _ _ ?_); clear hK K))
    | (refine Wc_region (id := 3) ?_; intro K hK; refine Wl_fieldAddr (k := ?_); refine Wl_load (k := ?_); (refine Wl_nil (hK _ _ ?_); clear hK K))
    | (refine Wc_region (id := 4) ?_; intro K hK; refine Wl_assign (k := ?_); (refine Wl_nil (hK _ _ ?_); clear hK K))
    | (refine Wc_region (id := 5) ?_; intro K hK; refine Wl_eql (k' := ?_); refine Wl_assign (k := ?_); (refine Wl_nil (hK _ _ ?_); clear hK K))
    | (refine Wc_region (id := 6) ?_; intro K hK; refine Wl_move (k := ?_); refine Wl_fieldAddr (k := ?_); refine Wl_loadR (k := ?_))
    | (refine Wc_region (id := 7) ?_; intro K hK; refine Wl_eql (k' := ?_); refine Wl_assign (k := ?_); (refine Wl_nil (hK _ _ ?_); clear hK K))
    | (refine Wc_draw (id := 8) (h := ?_); intro K hK; (refine Wl_lit0o (k := ?_); intro r); refine Wl_move (k := ?_); refine Wl_nilCheck (k := ?_); refine Wl_fieldAddr (k := ?_); refine Wl_load (k := ?_))
    | (refine Wc_region (id := 9) ?_; intro K hK; refine Wl_assign (k := ?_); (refine Wl_nil (hK _ _ ?_); clear hK K))
    | (refine Wc_region (id := 10) ?_; intro K hK; refine Wl_eql (k' := ?_); refine Wl_assign (k := ?_); (refine Wl_nil (hK _ _ ?_); clear hK K))
    | (refine Wc_draw (id := 11) (h := ?_); intro K hK; refine Wl_fieldAddr (k := ?_); refine Wl_load (k := ?_); refine Wl_move (k := ?_); refine Wl_nilCheck (k := ?_); refine Wl_fieldAddr (k := ?_); refine Wl_load (k := ?_); refine Wl_len_sl (k' := ?_); refine Wl_neq (k' := ?_); (refine Wl_nil (hK _ _ ?_); clear hK K))
    | (refine Wc_region (id := 12) ?_; intro K hK; refine Wl_assign (k := ?_); (refine Wl_nil (hK _ _ ?_); clear hK K))
    | (refine Wc_region (id := 13) ?_; intro K hK; refine Wl_eql (k' := ?_); refine Wl_assign (k := ?_); (refine Wl_nil (hK _ _ ?_); clear hK K))
    | (refine Wc_region (id := 14) ?_; intro K hK; refine Wl_eql (k' := ?_); refine Wl_assign (k := ?_); (refine Wl_nil (hK _ _ ?_); clear hK K))
    | (refine Wc_region (id := 15) ?_; intro K hK; refine Wl_move (k := ?_); refine Wl_nilCheck (k := ?_); refine Wl_fieldAddr (k := ?_); refine Wl_load (k := ?_); refine Wl_assign (k := ?_); (refine Wl_nil (hK _ _ ?_); clear hK K))
    | (refine Wc_region (id := 16) ?_; intro K hK; refine Wl_assign (k := ?_); (refine Wl_nil (hK _ _ ?_); clear hK K))
    | (refine Wc_region (id := 17) ?_; intro K hK; refine Wl_fieldAddr (k := ?_); refine Wl_load (k := ?_); refine Wl_eql (k' := ?_); refine Wl_assign (k := ?_); (refine Wl_nil (hK _ _ ?_); clear hK K))
    | (refine Wc_region (id := 18) ?_; intro K hK; refine Wl_move (k := ?_); refine Wl_fieldAddr (k := ?_); refine Wl_loadR (k := ?_))
    | (refine Wc_region (id := 19) ?_; intro K hK; refine Wl_assign (k := ?_); (refine Wl_nil (hK _ _ ?_); clear hK K))
    | (refine Wc_draw (id := 20) (h := ?_); intro K hK; refine Wl_fieldAddr (k := ?_); refine Wl_fieldAddr (k := ?_); refine Wl_fieldAddr (k := ?_); refine Wl_load (k := ?_); refine Wl_move (k := ?_); refine Wl_nilCheck (k := ?_); refine Wl_fieldAddr (k := ?_); refine Wl_fieldAddr (k := ?_); refine Wl_fieldAddr (k := ?_); refine Wl_load (k := ?_); refine Wl_leq (k' := ?_); refine Wl_assign (k := ?_); (refine Wl_nil (hK _ _ ?_); clear hK K))
    | (refine Wc_region (id := 21) ?_; intro K hK; refine Wl_assign (k := ?_); (refine Wl_nil (hK _ _ ?_); clear hK K))
    | (refine Wc_region (id := 22) ?_; intro K hK; refine Wl_assign (k := ?_); (refine Wl_nil (hK _ _ ?_); clear hK K))
    | (refine Wc_cond (ht := (fun ht => ?_)) (hf := (fun ht => ?_)) <;> (try simp at ht) <;> (try (exfalso; omega))))
  exact ⟨Or.inr rfl, _, [], Ent.nil, res1 rfl rfl, rfl, rfl⟩
theorem napply_spec (r : RcG) (pa : Option Addr) (pc : Nat) (sa : Option Addr) (sc : Nat) : Fspec Try.prog B 11 #[.pointer none, .agg (r.c pa pc sa sc).toArray] [] (fun v A' => v = .int .i64 1 ∧ A' = []) := by
  refine spec_of (args := [_, _]) Try.func11 rfl rfl rfl ?_
  repeat' (first
    | refine Wc_seq ?_
    | refine thenQ_normal ?_
    | refine Wc_cond_t (h := ?_)
    | refine Wc_cond_f (h := ?_)
    | refine Wc_ret ?_
    | refine thenQ_ret ?_
    | refine Wc_block ?_
    | refine blkQ_normal ?_
    | refine blkQ_ret ?_
    | refine Wc_exit ?_
    | refine thenQ_exit ?_
    | refine blkQ_hit ?_
    | refine blkQ_miss rfl ?_
    | refine Wc_skip ?_
    | refine Wc_label ?_
    | refine loopQ_exit ?_
    | refine loopQ_ret ?_
    | refine loopQ_normal ?_
    | (refine Wc_region (id := 0) ?_; intro K hK; ((refine Wl_boxAgg (l := r.c pa pc sa sc) (k := ?_); intro r3)) <;> (refine Wl_assign (k := ?_); (refine Wl_nil (hK _ _ ?_); clear hK K)))
    | (refine Wc_region (id := 1) ?_; intro K hK; refine Wl_move (k := ?_); ((refine Wl_loadAgg (cs := r.c pa pc sa sc) (hv := by simp [RcG.c]) (hc := rfl) (k := ?_))) <;> (((refine Wl_call (hs := ncheck_spec r pa pc sa sc) (k := ?_); rintro v A' ⟨rfl, rfl⟩; simp only [List.cons_append, List.nil_append])) <;> (refine Wl_assign (k := ?_); (refine Wl_nil (hK _ _ ?_); clear hK K))))
    | (refine Wc_region (id := 2) ?_; intro K hK; refine Wl_move (k := ?_); refine Wl_neq (k' := ?_); (refine Wl_nil (hK _ _ ?_); clear hK K))
    | (refine Wc_region (id := 3) ?_; intro K hK; refine Wl_move (k := ?_); refine Wl_assign (k := ?_); (refine Wl_nil (hK _ _ ?_); clear hK K))
    | (refine Wc_region (id := 4) ?_; intro K hK; refine Wl_fieldAddr (k := ?_); refine Wl_load (k := ?_); (refine Wl_nil (hK _ _ ?_); clear hK K))
    | (refine Wc_region (id := 5) ?_; intro K hK; refine Wl_eql (k' := ?_); refine Wl_assign (k := ?_); (refine Wl_nil (hK _ _ ?_); clear hK K))
    | (refine Wc_region (id := 6) ?_; intro K hK; refine Wl_eql (k' := ?_); refine Wl_assign (k := ?_); (refine Wl_nil (hK _ _ ?_); clear hK K))
    | (refine Wc_region (id := 7) ?_; intro K hK; refine Wl_eql (k' := ?_); refine Wl_assign (k := ?_); (refine Wl_nil (hK _ _ ?_); clear hK K))
    | (refine Wc_region (id := 8) ?_; intro K hK; refine Wl_eql (k' := ?_); refine Wl_assign (k := ?_); (refine Wl_nil (hK _ _ ?_); clear hK K))
    | (refine Wc_region (id := 9) ?_; intro K hK; refine Wl_eql (k' := ?_); refine Wl_assign (k := ?_); (refine Wl_nil (hK _ _ ?_); clear hK K))
    | (refine Wc_draw (id := 10) (h := ?_); intro K hK; refine Wl_move (k := ?_); refine Wl_move (k := ?_); refine Wl_nilCheck (k := ?_); refine Wl_fieldAddr (k := ?_); refine Wl_load (k := ?_); refine Wl_fieldAddr (k := ?_); refine Wl_loadR (k := ?_); (refine Wl_lit1a (hl := (by simp)) (k := ?_); intro r))
    | (refine Wc_draw (id := 11) (h := ?_); intro K hK; refine Wl_move (k := ?_); refine Wl_nilCheck (k := ?_); refine Wl_fieldAddr (k := ?_); refine Wl_fieldAddr (k := ?_); refine Wl_loadR (k := ?_))
    | (refine Wc_region (id := 12) ?_; intro K hK; refine Wl_move (k := ?_); refine Wl_fieldAddr (k := ?_); refine Wl_loadR (k := ?_))
    | (refine Wc_region (id := 13) ?_; intro K hK; refine Wl_move (k := ?_); refine Wl_nilCheck (k := ?_); refine Wl_fieldAddr (k := ?_); refine Wl_store (ho := rfl) (k := ?_); (refine Wl_nil (hK _ _ ?_); clear hK K))
    | (refine Wc_region (id := 14) ?_; intro K hK; refine Wl_move (k := ?_); refine Wl_nilCheck (k := ?_); refine Wl_fieldAddr (k := ?_))
    | (refine Wc_region (id := 15) ?_; intro K hK; refine Wl_move (k := ?_); refine Wl_move (k := ?_); refine Wl_fieldAddr (k := ?_); refine Wl_loadR (k := ?_))
    | (refine Wc_region (id := 16) ?_; intro K hK; refine Wl_move (k := ?_))
    | (refine Wc_region (id := 17) ?_; intro K hK; refine Wl_assign (k := ?_); (refine Wl_nil (hK _ _ ?_); clear hK K))
    | (refine Wc_cond (ht := (fun ht => ?_)) (hf := (fun ht => ?_)) <;> (try simp at ht) <;> (try (exfalso; omega))))
  exact ⟨Or.inr rfl, _, [], Ent.nil, res1 rfl rfl, rfl, rfl⟩
end specs
end Go.Proofs.Ytnoggejkkjngjaa
/- Layer 15, StateNil: the walk. Conditions: none but the kinds' bounds. -/
set_option maxHeartbeats 8000000
set_option linter.unusedVariables false
set_option linter.unusedSimpArgs false
set_option maxRecDepth 100000
namespace Go.Proofs.Ytnoggejkkjngjaa
open Go Go.Sl
attribute [local irreducible] Go.Sl.Wl Go.Sl.Wc Go.Sl.thenQ Go.Sl.blkQ Go.Sl.loopQ Go.Sl.Fspec

section specs
variable {B : Base}
theorem nil15_spec (l : List RI) (a : Option Addr) (c : Nat) (hlen : l.length ≤ 9223372036854775807) (hl : ∀ x ∈ l, x.ok B) (hr : RdS Try.prog B [] 16 a l.length c (recsC l)) (y : RI) (hy : y.ok B) (key : ByteArray) (qs qr qf qm : Int) :
    Fspec Try.prog B 8 #[.slice a l.length c, .agg y.c.toArray, .agg #[.string key, .int .i64 qs, .int .i64 qr, .int .i64 qf, .int .i64 qm]] [] (fun v A' => v = .bool true ∧ A' = []) := by
  refine spec_of (args := [_, _, _]) Try.func8 rfl rfl rfl ?_
  have hly := light_spec (B := B) y.r hy.pl hy.sl y.pa y.pc y.sa y.sc hy.h1
  simp only [RI.c]
  cases hLy : lightV y.r with
  | false =>
    rw [hLy] at hly
    repeat' (first
      | refine Wc_seq ?_
      | refine thenQ_normal ?_
      | refine Wc_cond_t (h := ?_)
      | refine Wc_cond_f (h := ?_)
      | refine Wc_ret ?_
      | refine thenQ_ret ?_
      | refine Wc_block ?_
      | refine blkQ_normal ?_
      | refine blkQ_ret ?_
      | refine Wc_exit ?_
      | refine thenQ_exit ?_
      | refine blkQ_hit ?_
      | refine blkQ_miss rfl ?_
      | refine Wc_skip ?_
      | refine Wc_label ?_
      | refine loopQ_exit ?_
      | refine loopQ_ret ?_
      | refine loopQ_normal ?_
      | (refine Wc_region (id := 0) ?_; intro K hK; ((refine Wl_boxAgg (l := y.r.c y.pa y.pc y.sa y.sc) (k := ?_); intro r4)) <;> (((refine Wl_boxAgg (k := ?_); intro r5)) <;> (refine Wl_assign (k := ?_); (refine Wl_nil (hK _ _ ?_); clear hK K))))
      | (refine Wc_region (id := 1) ?_; intro K hK; ((refine Wl_call (hs := awake15) (k := ?_); rintro v A' ⟨rfl, rfl⟩; simp only [List.cons_append, List.nil_append])) <;> (refine Wl_not (k' := ?_); (refine Wl_nil (hK _ _ ?_); clear hK K)))
      | (refine Wc_region (id := 2) ?_; intro K hK; refine Wl_assign (k := ?_); (refine Wl_nil (hK _ _ ?_); clear hK K))
      | (refine Wc_region (id := 3) ?_; intro K hK; ((refine Wl_loadAgg (cs := y.r.c y.pa y.pc y.sa y.sc) (hv := by simp [RcG.c]) (hc := rfl) (k := ?_))) <;> (((refine Wl_call (hs := hly) (k := ?_); rintro v A' ⟨rfl, rfl⟩; simp only [List.cons_append, List.nil_append])) <;> (refine Wl_not (k' := ?_); (refine Wl_nil (hK _ _ ?_); clear hK K))))
      | (refine Wc_region (id := 4) ?_; intro K hK; refine Wl_assign (k := ?_); (refine Wl_nil (hK _ _ ?_); clear hK K))
      | (refine Wc_cond (ht := (fun ht => ?_)) (hf := (fun ht => ?_)) <;> (try simp at ht) <;> (try (exfalso; omega))))
    all_goals exact ⟨Or.inr rfl, .bool true, [], Ent.nil, res1 rfl rfl, rfl, rfl⟩
  | true =>
    rw [hLy] at hly
    have hyo := hy.light hLy
    have hyp := (light_out hLy).1
    have hys := hyo.ss
    have hpy := plain_spec (B := B) y.r (by omega) (by omega) y.pa y.pc y.sa y.sc hy.h1 hy.h2
    repeat' (first
      | refine Wc_seq ?_
      | refine thenQ_normal ?_
      | refine Wc_cond_t (h := ?_)
      | refine Wc_cond_f (h := ?_)
      | refine Wc_ret ?_
      | refine thenQ_ret ?_
      | refine Wc_block ?_
      | refine blkQ_normal ?_
      | refine blkQ_ret ?_
      | refine Wc_exit ?_
      | refine thenQ_exit ?_
      | refine blkQ_hit ?_
      | refine blkQ_miss rfl ?_
      | refine Wc_skip ?_
      | refine Wc_label ?_
      | refine loopQ_exit ?_
      | refine loopQ_ret ?_
      | refine loopQ_normal ?_
      | (refine Wc_region (id := 0) ?_; intro K hK; ((refine Wl_boxAgg (l := y.r.c y.pa y.pc y.sa y.sc) (k := ?_); intro r4)) <;> (((refine Wl_boxAgg (k := ?_); intro r5)) <;> (refine Wl_assign (k := ?_); (refine Wl_nil (hK _ _ ?_); clear hK K))))
      | (refine Wc_region (id := 1) ?_; intro K hK; ((refine Wl_call (hs := awake15) (k := ?_); rintro v A' ⟨rfl, rfl⟩; simp only [List.cons_append, List.nil_append])) <;> (refine Wl_not (k' := ?_); (refine Wl_nil (hK _ _ ?_); clear hK K)))
      | (refine Wc_region (id := 2) ?_; intro K hK; refine Wl_assign (k := ?_); (refine Wl_nil (hK _ _ ?_); clear hK K))
      | (refine Wc_region (id := 3) ?_; intro K hK; ((refine Wl_loadAgg (cs := y.r.c y.pa y.pc y.sa y.sc) (hv := by simp [RcG.c]) (hc := rfl) (k := ?_))) <;> (((refine Wl_call (hs := hly) (k := ?_); rintro v A' ⟨rfl, rfl⟩; simp only [List.cons_append, List.nil_append])) <;> (refine Wl_not (k' := ?_); (refine Wl_nil (hK _ _ ?_); clear hK K))))
      | (refine Wc_region (id := 5) ?_; intro K hK; refine Wl_assign (k := ?_); (refine Wl_nil (hK _ _ ?_); clear hK K))
      | (refine Wc_region (id := 6) ?_; intro K hK; refine Wl_move (k := ?_); refine Wl_fieldAddr (k := ?_); refine Wl_load (k := ?_); refine Wl_fieldAddr (k := ?_); refine Wl_load (k := ?_); ((refine Wl_call (hs := nlook_spec qs qr) (k := ?_); rintro v A' ⟨rfl, rfl⟩; simp only [List.cons_append, List.nil_append])) <;> (refine Wl_move (k := ?_); refine Wl_extract (k' := ?_); refine Wl_extract (k' := ?_); ((refine Wl_alloc (k := ?_); intro r9)) <;> (refine Wl_assign (k := ?_); refine Wl_storeR (ho' := rfl) (k := ?_); (refine Wl_nil (hK _ _ ?_); clear hK K))))
      | (refine Wc_region (id := 7) ?_; intro K hK; refine Wl_move (k := ?_); ((refine Wl_loadAgg (cs := y.r.c y.pa y.pc y.sa y.sc) (hv := by simp [RcG.c]) (hc := rfl) (k := ?_))) <;> (((refine Wl_call (hs := hpy) (k := ?_); rintro v A' ⟨a1, c1, a2, c2, rfl, rfl⟩; simp only [List.cons_append, List.nil_append])) <;> (((refine Wl_call (hs := napply_spec y.r a1 c1 a2 c2) (k := ?_); rintro v A' ⟨rfl, rfl⟩; simp only [List.cons_append, List.nil_append])) <;> (refine Wl_neq (k' := ?_); refine Wl_move (k := ?_); ((first | (refine Wl_guard (k := ?_); refine Wl_move (k := ?_)) | refine Wl_gno (k := ?_) | ((refine Wl_split (yes := (fun ht => ?_)) (no := (fun ht => ?_)) <;> (try simp at ht) <;> (try (exfalso; omega))) <;> (first | (refine Wl_guard (k := ?_); refine Wl_move (k := ?_)) | refine Wl_gno (k := ?_))))) <;> (((first | (refine Wl_guard (k := ?_); (refine Wl_loadAgg (cs := y.r.c y.pa y.pc y.sa y.sc) (hv := by simp [RcG.c]) (hc := rfl) (k := ?_))) | refine Wl_gno (k := ?_) | ((refine Wl_split (yes := (fun ht => ?_)) (no := (fun ht => ?_)) <;> (try simp at ht) <;> (try (exfalso; omega))) <;> (first | (refine Wl_guard (k := ?_); (refine Wl_loadAgg (cs := y.r.c y.pa y.pc y.sa y.sc) (hv := by simp [RcG.c]) (hc := rfl) (k := ?_))) | refine Wl_gno (k := ?_))))) <;> (((first | (refine Wl_guard (k := ?_); (refine Wl_call (hs := hpy) (k := ?_); rintro v A' ⟨a3, c3, a4, c4, rfl, rfl⟩; simp only [List.cons_append, List.nil_append])) | refine Wl_gno (k := ?_) | ((refine Wl_split (yes := (fun ht => ?_)) (no := (fun ht => ?_)) <;> (try simp at ht) <;> (try (exfalso; omega))) <;> (first | (refine Wl_guard (k := ?_); (refine Wl_call (hs := hpy) (k := ?_); rintro v A' ⟨a3, c3, a4, c4, rfl, rfl⟩; simp only [List.cons_append, List.nil_append])) | refine Wl_gno (k := ?_))))) <;> (((first | (refine Wl_guard (k := ?_); (refine Wl_call (hs := ncheck_spec y.r a3 c3 a4 c4) (k := ?_); rintro v A' ⟨rfl, rfl⟩; simp only [List.cons_append, List.nil_append])) | refine Wl_gno (k := ?_) | ((refine Wl_split (yes := (fun ht => ?_)) (no := (fun ht => ?_)) <;> (try simp at ht) <;> (try (exfalso; omega))) <;> (first | (refine Wl_guard (k := ?_); (refine Wl_call (hs := ncheck_spec y.r a3 c3 a4 c4) (k := ?_); rintro v A' ⟨rfl, rfl⟩; simp only [List.cons_append, List.nil_append])) | refine Wl_gno (k := ?_))))) <;> (((first | (refine Wl_guard (k := ?_); refine Wl_neq (k' := ?_)) | refine Wl_gno (k := ?_) | ((refine Wl_split (yes := (fun ht => ?_)) (no := (fun ht => ?_)) <;> (try simp at ht) <;> (try (exfalso; omega))) <;> (first | (refine Wl_guard (k := ?_); refine Wl_neq (k' := ?_)) | refine Wl_gno (k := ?_))))) <;> ((first | refine Wl_pick_t (k := ?_) | refine Wl_pick_f (k := ?_) | refine Wl_pick (k := ?_)); refine Wl_move (k := ?_); ((first | (refine Wl_guard (k := ?_); refine Wl_move (k := ?_)) | refine Wl_gno (k := ?_) | ((refine Wl_split (yes := (fun ht => ?_)) (no := (fun ht => ?_)) <;> (try simp at ht) <;> (try (exfalso; omega))) <;> (first | (refine Wl_guard (k := ?_); refine Wl_move (k := ?_)) | refine Wl_gno (k := ?_))))) <;> (((first | (refine Wl_guard (k := ?_); (refine Wl_call (hs := ntable_spec) (k := ?_); rintro v A' ⟨rfl, rfl⟩; simp only [List.cons_append, List.nil_append])) | refine Wl_gno (k := ?_) | ((refine Wl_split (yes := (fun ht => ?_)) (no := (fun ht => ?_)) <;> (try simp at ht) <;> (try (exfalso; omega))) <;> (first | (refine Wl_guard (k := ?_); (refine Wl_call (hs := ntable_spec) (k := ?_); rintro v A' ⟨rfl, rfl⟩; simp only [List.cons_append, List.nil_append])) | refine Wl_gno (k := ?_))))) <;> (((first | (refine Wl_guard (k := ?_); refine Wl_len_sl (k' := ?_)) | refine Wl_gno (k := ?_) | ((refine Wl_split (yes := (fun ht => ?_)) (no := (fun ht => ?_)) <;> (try simp at ht) <;> (try (exfalso; omega))) <;> (first | (refine Wl_guard (k := ?_); refine Wl_len_sl (k' := ?_)) | refine Wl_gno (k := ?_))))) <;> (((first | (refine Wl_guard (k := ?_); refine Wl_neq (k' := ?_)) | refine Wl_gno (k := ?_) | ((refine Wl_split (yes := (fun ht => ?_)) (no := (fun ht => ?_)) <;> (try simp at ht) <;> (try (exfalso; omega))) <;> (first | (refine Wl_guard (k := ?_); refine Wl_neq (k' := ?_)) | refine Wl_gno (k := ?_))))) <;> ((first | refine Wl_pick_t (k := ?_) | refine Wl_pick_f (k := ?_) | refine Wl_pick (k := ?_)); refine Wl_move (k := ?_); ((first | (refine Wl_guard (k := ?_); refine Wl_move (k := ?_)) | refine Wl_gno (k := ?_) | ((refine Wl_split (yes := (fun ht => ?_)) (no := (fun ht => ?_)) <;> (try simp at ht) <;> (try (exfalso; omega))) <;> (first | (refine Wl_guard (k := ?_); refine Wl_move (k := ?_)) | refine Wl_gno (k := ?_))))) <;> (((first | (refine Wl_guard (k := ?_); (refine Wl_call (hs := nconfig_spec) (k := ?_); rintro v A' ⟨rfl, rfl⟩; simp only [List.cons_append, List.nil_append])) | refine Wl_gno (k := ?_) | ((refine Wl_split (yes := (fun ht => ?_)) (no := (fun ht => ?_)) <;> (try simp at ht) <;> (try (exfalso; omega))) <;> (first | (refine Wl_guard (k := ?_); (refine Wl_call (hs := nconfig_spec) (k := ?_); rintro v A' ⟨rfl, rfl⟩; simp only [List.cons_append, List.nil_append])) | refine Wl_gno (k := ?_))))) <;> (((first | (refine Wl_guard (k := ?_); refine Wl_neq (k' := ?_)) | refine Wl_gno (k := ?_) | ((refine Wl_split (yes := (fun ht => ?_)) (no := (fun ht => ?_)) <;> (try simp at ht) <;> (try (exfalso; omega))) <;> (first | (refine Wl_guard (k := ?_); refine Wl_neq (k' := ?_)) | refine Wl_gno (k := ?_))))) <;> ((first | refine Wl_pick_t (k := ?_) | refine Wl_pick_f (k := ?_) | refine Wl_pick (k := ?_)); refine Wl_move (k := ?_); ((first | (refine Wl_guard (k := ?_); refine Wl_move (k := ?_)) | refine Wl_gno (k := ?_) | ((refine Wl_split (yes := (fun ht => ?_)) (no := (fun ht => ?_)) <;> (try simp at ht) <;> (try (exfalso; omega))) <;> (first | (refine Wl_guard (k := ?_); refine Wl_move (k := ?_)) | refine Wl_gno (k := ?_))))) <;> (((first | (refine Wl_guard (k := ?_); (refine Wl_call (hs := nmaster_spec) (k := ?_); rintro v A' ⟨rfl, rfl⟩; simp only [List.cons_append, List.nil_append])) | refine Wl_gno (k := ?_) | ((refine Wl_split (yes := (fun ht => ?_)) (no := (fun ht => ?_)) <;> (try simp at ht) <;> (try (exfalso; omega))) <;> (first | (refine Wl_guard (k := ?_); (refine Wl_call (hs := nmaster_spec) (k := ?_); rintro v A' ⟨rfl, rfl⟩; simp only [List.cons_append, List.nil_append])) | refine Wl_gno (k := ?_))))) <;> (((first | (refine Wl_guard (k := ?_); refine Wl_neq (k' := ?_)) | refine Wl_gno (k := ?_) | ((refine Wl_split (yes := (fun ht => ?_)) (no := (fun ht => ?_)) <;> (try simp at ht) <;> (try (exfalso; omega))) <;> (first | (refine Wl_guard (k := ?_); refine Wl_neq (k' := ?_)) | refine Wl_gno (k := ?_))))) <;> ((first | refine Wl_pick_t (k := ?_) | refine Wl_pick_f (k := ?_) | refine Wl_pick (k := ?_)); refine Wl_move (k := ?_); ((first | (refine Wl_guard (k := ?_); refine Wl_move (k := ?_)) | refine Wl_gno (k := ?_) | ((refine Wl_split (yes := (fun ht => ?_)) (no := (fun ht => ?_)) <;> (try simp at ht) <;> (try (exfalso; omega))) <;> (first | (refine Wl_guard (k := ?_); refine Wl_move (k := ?_)) | refine Wl_gno (k := ?_))))) <;> (((first | (refine Wl_guard (k := ?_); (refine Wl_call (hs := nclosed_spec) (k := ?_); rintro v A' ⟨rfl, rfl⟩; simp only [List.cons_append, List.nil_append])) | refine Wl_gno (k := ?_) | ((refine Wl_split (yes := (fun ht => ?_)) (no := (fun ht => ?_)) <;> (try simp at ht) <;> (try (exfalso; omega))) <;> (first | (refine Wl_guard (k := ?_); (refine Wl_call (hs := nclosed_spec) (k := ?_); rintro v A' ⟨rfl, rfl⟩; simp only [List.cons_append, List.nil_append])) | refine Wl_gno (k := ?_))))) <;> ((first | refine Wl_pick_t (k := ?_) | refine Wl_pick_f (k := ?_) | refine Wl_pick (k := ?_)); refine Wl_move (k := ?_); ((first | (refine Wl_guard (k := ?_); refine Wl_move (k := ?_)) | refine Wl_gno (k := ?_) | ((refine Wl_split (yes := (fun ht => ?_)) (no := (fun ht => ?_)) <;> (try simp at ht) <;> (try (exfalso; omega))) <;> (first | (refine Wl_guard (k := ?_); refine Wl_move (k := ?_)) | refine Wl_gno (k := ?_))))) <;> (((first | (refine Wl_guard (k := ?_); (refine Wl_call (hs := nlast_spec) (k := ?_); rintro v A' ⟨rfl, rfl⟩; simp only [List.cons_append, List.nil_append])) | refine Wl_gno (k := ?_) | ((refine Wl_split (yes := (fun ht => ?_)) (no := (fun ht => ?_)) <;> (try simp at ht) <;> (try (exfalso; omega))) <;> (first | (refine Wl_guard (k := ?_); (refine Wl_call (hs := nlast_spec) (k := ?_); rintro v A' ⟨rfl, rfl⟩; simp only [List.cons_append, List.nil_append])) | refine Wl_gno (k := ?_))))) <;> (((first | (refine Wl_guard (k := ?_); refine Wl_build (k := ?_)) | refine Wl_gno (k := ?_) | ((refine Wl_split (yes := (fun ht => ?_)) (no := (fun ht => ?_)) <;> (try simp at ht) <;> (try (exfalso; omega))) <;> (first | (refine Wl_guard (k := ?_); refine Wl_build (k := ?_)) | refine Wl_gno (k := ?_))))) <;> (((first | (refine Wl_guard (k := ?_); (refine Wl_agg_neqB (b := true) (hb := rfl) (k' := ?_))) | refine Wl_gno (k := ?_) | ((refine Wl_split (yes := (fun ht => ?_)) (no := (fun ht => ?_)) <;> (try simp at ht) <;> (try (exfalso; omega))) <;> (first | (refine Wl_guard (k := ?_); (refine Wl_agg_neqB (b := true) (hb := rfl) (k' := ?_))) | refine Wl_gno (k := ?_))))) <;> ((first | refine Wl_pick_t (k := ?_) | refine Wl_pick_f (k := ?_) | refine Wl_pick (k := ?_)); refine Wl_move (k := ?_); ((first | (refine Wl_guard (k := ?_); refine Wl_move (k := ?_)) | refine Wl_gno (k := ?_) | ((refine Wl_split (yes := (fun ht => ?_)) (no := (fun ht => ?_)) <;> (try simp at ht) <;> (try (exfalso; omega))) <;> (first | (refine Wl_guard (k := ?_); refine Wl_move (k := ?_)) | refine Wl_gno (k := ?_))))) <;> (((first | (refine Wl_guard (k := ?_); (refine Wl_call (hs := nbase_spec) (k := ?_); rintro v A' ⟨rfl, rfl⟩; simp only [List.cons_append, List.nil_append])) | refine Wl_gno (k := ?_) | ((refine Wl_split (yes := (fun ht => ?_)) (no := (fun ht => ?_)) <;> (try simp at ht) <;> (try (exfalso; omega))) <;> (first | (refine Wl_guard (k := ?_); (refine Wl_call (hs := nbase_spec) (k := ?_); rintro v A' ⟨rfl, rfl⟩; simp only [List.cons_append, List.nil_append])) | refine Wl_gno (k := ?_))))) <;> (((first | (refine Wl_guard (k := ?_); refine Wl_build (k := ?_)) | refine Wl_gno (k := ?_) | ((refine Wl_split (yes := (fun ht => ?_)) (no := (fun ht => ?_)) <;> (try simp at ht) <;> (try (exfalso; omega))) <;> (first | (refine Wl_guard (k := ?_); refine Wl_build (k := ?_)) | refine Wl_gno (k := ?_))))) <;> (((first | (refine Wl_guard (k := ?_); (refine Wl_agg_neqB (b := true) (hb := rfl) (k' := ?_))) | refine Wl_gno (k := ?_) | ((refine Wl_split (yes := (fun ht => ?_)) (no := (fun ht => ?_)) <;> (try simp at ht) <;> (try (exfalso; omega))) <;> (first | (refine Wl_guard (k := ?_); (refine Wl_agg_neqB (b := true) (hb := rfl) (k' := ?_))) | refine Wl_gno (k := ?_))))) <;> ((first | refine Wl_pick_t (k := ?_) | refine Wl_pick_f (k := ?_) | refine Wl_pick (k := ?_)); refine Wl_move (k := ?_); ((first | (refine Wl_guard (k := ?_); refine Wl_move (k := ?_)) | refine Wl_gno (k := ?_) | ((refine Wl_split (yes := (fun ht => ?_)) (no := (fun ht => ?_)) <;> (try simp at ht) <;> (try (exfalso; omega))) <;> (first | (refine Wl_guard (k := ?_); refine Wl_move (k := ?_)) | refine Wl_gno (k := ?_))))) <;> (((first | (refine Wl_guard (k := ?_); refine Wl_fieldAddr (k := ?_)) | refine Wl_gno (k := ?_) | ((refine Wl_split (yes := (fun ht => ?_)) (no := (fun ht => ?_)) <;> (try simp at ht) <;> (try (exfalso; omega))) <;> (first | (refine Wl_guard (k := ?_); refine Wl_fieldAddr (k := ?_)) | refine Wl_gno (k := ?_))))) <;> (((first | (refine Wl_guard (k := ?_); refine Wl_load (k := ?_)) | refine Wl_gno (k := ?_) | ((refine Wl_split (yes := (fun ht => ?_)) (no := (fun ht => ?_)) <;> (try simp at ht) <;> (try (exfalso; omega))) <;> (first | (refine Wl_guard (k := ?_); refine Wl_load (k := ?_)) | refine Wl_gno (k := ?_))))) <;> (((first | (refine Wl_guard (k := ?_); (refine Wl_call (hs := nget_spec key) (k := ?_); rintro v A' ⟨rfl, rfl⟩; simp only [List.cons_append, List.nil_append]; simp only [VX.C, VX.zero])) | refine Wl_gno (k := ?_) | ((refine Wl_split (yes := (fun ht => ?_)) (no := (fun ht => ?_)) <;> (try simp at ht) <;> (try (exfalso; omega))) <;> (first | (refine Wl_guard (k := ?_); (refine Wl_call (hs := nget_spec key) (k := ?_); rintro v A' ⟨rfl, rfl⟩; simp only [List.cons_append, List.nil_append]; simp only [VX.C, VX.zero])) | refine Wl_gno (k := ?_))))) <;> (((first | (refine Wl_guard (k := ?_); refine Wl_build (k := ?_)) | refine Wl_gno (k := ?_) | ((refine Wl_split (yes := (fun ht => ?_)) (no := (fun ht => ?_)) <;> (try simp at ht) <;> (try (exfalso; omega))) <;> (first | (refine Wl_guard (k := ?_); refine Wl_build (k := ?_)) | refine Wl_gno (k := ?_))))) <;> (((first | (refine Wl_guard (k := ?_); (refine Wl_agg_neqB (b := true) (hb := rfl) (k' := ?_))) | refine Wl_gno (k := ?_) | ((refine Wl_split (yes := (fun ht => ?_)) (no := (fun ht => ?_)) <;> (try simp at ht) <;> (try (exfalso; omega))) <;> (first | (refine Wl_guard (k := ?_); (refine Wl_agg_neqB (b := true) (hb := rfl) (k' := ?_))) | refine Wl_gno (k := ?_))))) <;> ((first | refine Wl_pick_t (k := ?_) | refine Wl_pick_f (k := ?_) | refine Wl_pick (k := ?_)); refine Wl_move (k := ?_); ((first | (refine Wl_guard (k := ?_); refine Wl_move (k := ?_)) | refine Wl_gno (k := ?_) | ((refine Wl_split (yes := (fun ht => ?_)) (no := (fun ht => ?_)) <;> (try simp at ht) <;> (try (exfalso; omega))) <;> (first | (refine Wl_guard (k := ?_); refine Wl_move (k := ?_)) | refine Wl_gno (k := ?_))))) <;> (((first | (refine Wl_guard (k := ?_); refine Wl_neq (k' := ?_)) | refine Wl_gno (k := ?_) | ((refine Wl_split (yes := (fun ht => ?_)) (no := (fun ht => ?_)) <;> (try simp at ht) <;> (try (exfalso; omega))) <;> (first | (refine Wl_guard (k := ?_); refine Wl_neq (k' := ?_)) | refine Wl_gno (k := ?_))))) <;> ((first | refine Wl_pick_t (k := ?_) | refine Wl_pick_f (k := ?_) | refine Wl_pick (k := ?_)); refine Wl_move (k := ?_); ((first | (refine Wl_guard (k := ?_); refine Wl_loadR (k := ?_)) | refine Wl_gno (k := ?_) | ((refine Wl_split (yes := (fun ht => ?_)) (no := (fun ht => ?_)) <;> (try simp at ht) <;> (try (exfalso; omega))) <;> (first | (refine Wl_guard (k := ?_); refine Wl_loadR (k := ?_)) | refine Wl_gno (k := ?_))))) <;> (((first | (refine Wl_guard (k := ?_); refine Wl_build (k := ?_)) | refine Wl_gno (k := ?_) | ((refine Wl_split (yes := (fun ht => ?_)) (no := (fun ht => ?_)) <;> (try simp at ht) <;> (try (exfalso; omega))) <;> (first | (refine Wl_guard (k := ?_); refine Wl_build (k := ?_)) | refine Wl_gno (k := ?_))))) <;> (((first | (refine Wl_guard (k := ?_); (refine Wl_agg_neqB (b := true) (hb := rfl) (k' := ?_))) | refine Wl_gno (k := ?_) | ((refine Wl_split (yes := (fun ht => ?_)) (no := (fun ht => ?_)) <;> (try simp at ht) <;> (try (exfalso; omega))) <;> (first | (refine Wl_guard (k := ?_); (refine Wl_agg_neqB (b := true) (hb := rfl) (k' := ?_))) | refine Wl_gno (k := ?_))))) <;> ((first | refine Wl_pick_t (k := ?_) | refine Wl_pick_f (k := ?_) | refine Wl_pick (k := ?_)); refine Wl_move (k := ?_); ((first | (refine Wl_guard (k := ?_); refine Wl_move (k := ?_)) | refine Wl_gno (k := ?_) | ((refine Wl_split (yes := (fun ht => ?_)) (no := (fun ht => ?_)) <;> (try simp at ht) <;> (try (exfalso; omega))) <;> (first | (refine Wl_guard (k := ?_); refine Wl_move (k := ?_)) | refine Wl_gno (k := ?_))))) <;> (((first | (refine Wl_guard (k := ?_); refine Wl_fieldAddr (k := ?_)) | refine Wl_gno (k := ?_) | ((refine Wl_split (yes := (fun ht => ?_)) (no := (fun ht => ?_)) <;> (try simp at ht) <;> (try (exfalso; omega))) <;> (first | (refine Wl_guard (k := ?_); refine Wl_fieldAddr (k := ?_)) | refine Wl_gno (k := ?_))))) <;> (((first | (refine Wl_guard (k := ?_); refine Wl_load (k := ?_)) | refine Wl_gno (k := ?_) | ((refine Wl_split (yes := (fun ht => ?_)) (no := (fun ht => ?_)) <;> (try simp at ht) <;> (try (exfalso; omega))) <;> (first | (refine Wl_guard (k := ?_); refine Wl_load (k := ?_)) | refine Wl_gno (k := ?_))))) <;> (((first | (refine Wl_guard (k := ?_); refine Wl_fieldAddr (k := ?_)) | refine Wl_gno (k := ?_) | ((refine Wl_split (yes := (fun ht => ?_)) (no := (fun ht => ?_)) <;> (try simp at ht) <;> (try (exfalso; omega))) <;> (first | (refine Wl_guard (k := ?_); refine Wl_fieldAddr (k := ?_)) | refine Wl_gno (k := ?_))))) <;> (((first | (refine Wl_guard (k := ?_); refine Wl_load (k := ?_)) | refine Wl_gno (k := ?_) | ((refine Wl_split (yes := (fun ht => ?_)) (no := (fun ht => ?_)) <;> (try simp at ht) <;> (try (exfalso; omega))) <;> (first | (refine Wl_guard (k := ?_); refine Wl_load (k := ?_)) | refine Wl_gno (k := ?_))))) <;> (((first | (refine Wl_guard (k := ?_); (refine Wl_call (hs := nentries_spec qf qm) (k := ?_); rintro v A' ⟨rfl, rfl⟩; simp only [List.cons_append, List.nil_append])) | refine Wl_gno (k := ?_) | ((refine Wl_split (yes := (fun ht => ?_)) (no := (fun ht => ?_)) <;> (try simp at ht) <;> (try (exfalso; omega))) <;> (first | (refine Wl_guard (k := ?_); (refine Wl_call (hs := nentries_spec qf qm) (k := ?_); rintro v A' ⟨rfl, rfl⟩; simp only [List.cons_append, List.nil_append])) | refine Wl_gno (k := ?_))))) <;> (((first | (refine Wl_guard (k := ?_); refine Wl_len_sl (k' := ?_)) | refine Wl_gno (k := ?_) | ((refine Wl_split (yes := (fun ht => ?_)) (no := (fun ht => ?_)) <;> (try simp at ht) <;> (try (exfalso; omega))) <;> (first | (refine Wl_guard (k := ?_); refine Wl_len_sl (k' := ?_)) | refine Wl_gno (k := ?_))))) <;> (((first | (refine Wl_guard (k := ?_); refine Wl_neq (k' := ?_)) | refine Wl_gno (k := ?_) | ((refine Wl_split (yes := (fun ht => ?_)) (no := (fun ht => ?_)) <;> (try simp at ht) <;> (try (exfalso; omega))) <;> (first | (refine Wl_guard (k := ?_); refine Wl_neq (k' := ?_)) | refine Wl_gno (k := ?_))))) <;> ((first | refine Wl_pick_t (k := ?_) | refine Wl_pick_f (k := ?_) | refine Wl_pick (k := ?_)); refine Wl_move (k := ?_); ((first | (refine Wl_guard (k := ?_); refine Wl_move (k := ?_)) | refine Wl_gno (k := ?_) | ((refine Wl_split (yes := (fun ht => ?_)) (no := (fun ht => ?_)) <;> (try simp at ht) <;> (try (exfalso; omega))) <;> (first | (refine Wl_guard (k := ?_); refine Wl_move (k := ?_)) | refine Wl_gno (k := ?_))))) <;> (((first | (refine Wl_guard (k := ?_); (refine Wl_call (hs := ncopy_spec) (k := ?_); rintro v A' ⟨rfl, rfl⟩; simp only [List.cons_append, List.nil_append])) | refine Wl_gno (k := ?_) | ((refine Wl_split (yes := (fun ht => ?_)) (no := (fun ht => ?_)) <;> (try simp at ht) <;> (try (exfalso; omega))) <;> (first | (refine Wl_guard (k := ?_); (refine Wl_call (hs := ncopy_spec) (k := ?_); rintro v A' ⟨rfl, rfl⟩; simp only [List.cons_append, List.nil_append])) | refine Wl_gno (k := ?_))))) <;> (((first | (refine Wl_guard (k := ?_); refine Wl_ptr_neq_nil (k' := ?_)) | refine Wl_gno (k := ?_) | ((refine Wl_split (yes := (fun ht => ?_)) (no := (fun ht => ?_)) <;> (try simp at ht) <;> (try (exfalso; omega))) <;> (first | (refine Wl_guard (k := ?_); refine Wl_ptr_neq_nil (k' := ?_)) | refine Wl_gno (k := ?_))))) <;> ((first | refine Wl_pick_t (k := ?_) | refine Wl_pick_f (k := ?_) | refine Wl_pick (k := ?_)); refine Wl_move (k := ?_); ((first | (refine Wl_guard (k := ?_); refine Wl_move (k := ?_)) | refine Wl_gno (k := ?_) | ((refine Wl_split (yes := (fun ht => ?_)) (no := (fun ht => ?_)) <;> (try simp at ht) <;> (try (exfalso; omega))) <;> (first | (refine Wl_guard (k := ?_); refine Wl_move (k := ?_)) | refine Wl_gno (k := ?_))))) <;> (((first | (refine Wl_guard (k := ?_); (refine Wl_call (hs := nencode_spec) (k := ?_); rintro v A' ⟨rfl, rfl⟩; simp only [List.cons_append, List.nil_append])) | refine Wl_gno (k := ?_) | ((refine Wl_split (yes := (fun ht => ?_)) (no := (fun ht => ?_)) <;> (try simp at ht) <;> (try (exfalso; omega))) <;> (first | (refine Wl_guard (k := ?_); (refine Wl_call (hs := nencode_spec) (k := ?_); rintro v A' ⟨rfl, rfl⟩; simp only [List.cons_append, List.nil_append])) | refine Wl_gno (k := ?_))))) <;> (((first | (refine Wl_guard (k := ?_); refine Wl_len_sl (k' := ?_)) | refine Wl_gno (k := ?_) | ((refine Wl_split (yes := (fun ht => ?_)) (no := (fun ht => ?_)) <;> (try simp at ht) <;> (try (exfalso; omega))) <;> (first | (refine Wl_guard (k := ?_); refine Wl_len_sl (k' := ?_)) | refine Wl_gno (k := ?_))))) <;> (((first | (refine Wl_guard (k := ?_); refine Wl_neq (k' := ?_)) | refine Wl_gno (k := ?_) | ((refine Wl_split (yes := (fun ht => ?_)) (no := (fun ht => ?_)) <;> (try simp at ht) <;> (try (exfalso; omega))) <;> (first | (refine Wl_guard (k := ?_); refine Wl_neq (k' := ?_)) | refine Wl_gno (k := ?_))))) <;> ((first | refine Wl_pick_t (k := ?_) | refine Wl_pick_f (k := ?_) | refine Wl_pick (k := ?_)); (refine Wl_nil (hK _ _ ?_); clear hK K))))))))))))))))))))))))))))))))))))))))))))))))))))))))
      | (refine Wc_region (id := 9) ?_; intro K hK; ((refine Wl_call (hs := one_spec) (k := ?_); rintro v A' ⟨ra, rfl, rfl⟩; simp only [List.cons_append, List.nil_append])) <;> (((refine Wl_call (hs := gnew_spec [cb ra (epsC oneT) 29] oneT (some ⟨ra, 0, none⟩) 1 (rds_cb .head rfl) one_right) (k := ?_); rintro v A' ⟨sta, rfl, rfl⟩; simp only [List.cons_append, List.nil_append])) <;> (refine Wl_move (k := ?_); refine Wl_extract (k' := ?_); refine Wl_extract (k' := ?_); refine Wl_assign (k := ?_); refine Wl_assign (k := ?_); (refine Wl_nil (hK _ _ ?_); clear hK K))))
      | (refine Wc_region (id := 10) ?_; intro K hK; refine Wl_assign (k := ?_); (refine Wl_nil (hK _ _ ?_); clear hK K))
      | (refine Wc_cond (ht := (fun ht => ?_)) (hf := (fun ht => ?_)) <;> (try simp at ht) <;> (try (exfalso; omega))))
    refine Wc_loop (α := Nat × G15) (fun q => [(0, .slice a l.length c), (4, .pointer (some ⟨r4, 0, none⟩)), (10, .pointer (some ⟨sta, 0, none⟩)), (12, .int .i64 q.1)]) (fun q => [GtP sta q.2, cb r4 (y.r.c y.pa y.pc y.sa y.sc) 52])
      (fun q => q.1 ≤ min l.length 30 ∧ q.2.inv (1000 + q.1)) (fun q => 30 - q.1) (0, newG oneT) ⟨by omega, new_inv one_right⟩ ⟨rfl, rfl, rfl, rfl, trivial⟩ (by (repeat (first | exact Ent.refl _ | exact Ent.nil | refine Ent.take (by (repeat (first | exact Out.head | apply Out.tail)); (first | done | fail)) ?_ | refine Ent.drop1 ?_))) ?_
    rintro ⟨j, S⟩ G ⟨hj, ha⟩
    simp only [ov] at hj ha ⊢
    by_cases hlt : j < l.length ∧ j < 30
    · obtain ⟨hl1, hl2⟩ := hlt
      obtain ⟨p, rfl⟩ : ∃ q, a = some q := by
        cases a with
        | none => have := hr.nil rfl; omega
        | some q => exact ⟨q, rfl⟩
      obtain ⟨x, hx⟩ : ∃ x, l[j]? = some x := ⟨_, List.getElem?_eq_getElem hl1⟩
      have hxo := hl x (List.mem_of_getElem? hx)
      have hli := light_spec (B := B) x.r hxo.pl hxo.sl x.pa x.pc x.sa x.sc hxo.h1
      cases hL : lightV x.r with
      | false =>
        rw [hL] at hli
        repeat' (first
          | refine Wc_seq ?_
          | refine thenQ_normal ?_
          | refine Wc_cond_t (h := ?_)
          | refine Wc_cond_f (h := ?_)
          | refine Wc_ret ?_
          | refine thenQ_ret ?_
          | refine Wc_block ?_
          | refine blkQ_normal ?_
          | refine blkQ_ret ?_
          | refine Wc_exit ?_
          | refine thenQ_exit ?_
          | refine blkQ_hit ?_
          | refine blkQ_miss rfl ?_
          | refine Wc_skip ?_
          | refine Wc_label ?_
          | refine loopQ_exit ?_
          | refine loopQ_ret ?_
          | refine loopQ_normal ?_
          | (refine Wc_region (id := 11) ?_; intro K hK; refine Wl_move (k := ?_); refine Wl_move (k := ?_); refine Wl_len_sl (k' := ?_); refine Wl_lss (k' := ?_); refine Wl_move (k := ?_); ((first | (refine Wl_guard (k := ?_); refine Wl_move (k := ?_)) | refine Wl_gno (k := ?_) | ((refine Wl_split (yes := (fun ht => ?_)) (no := (fun ht => ?_)) <;> (try simp at ht) <;> (try (exfalso; omega))) <;> (first | (refine Wl_guard (k := ?_); refine Wl_move (k := ?_)) | refine Wl_gno (k := ?_))))) <;> (((first | (refine Wl_guard (k := ?_); refine Wl_lss (k' := ?_)) | refine Wl_gno (k := ?_) | ((refine Wl_split (yes := (fun ht => ?_)) (no := (fun ht => ?_)) <;> (try simp at ht) <;> (try (exfalso; omega))) <;> (first | (refine Wl_guard (k := ?_); refine Wl_lss (k' := ?_)) | refine Wl_gno (k := ?_))))) <;> ((first | refine Wl_pick_t (k := ?_) | refine Wl_pick_f (k := ?_) | refine Wl_pick (k := ?_)); (refine Wl_nil (hK _ _ ?_); clear hK K))))
          | (refine Wc_region (id := 13) ?_; intro K hK; refine Wl_move (k := ?_); refine Wl_move (k := ?_); ((refine Wl_index_any (k' := ?_))) <;> (((refine Wl_loadAggG (j := j * 16) (cs := x.c) (hq := by simp) (hr := hr.any) (hv := recsC_row hx) (k := ?_))) <;> (((refine Wl_call (hs := hli) (k := ?_); rintro v A' ⟨rfl, rfl⟩; simp only [List.cons_append, List.nil_append])) <;> (refine Wl_not (k' := ?_); (refine Wl_nil (hK _ _ ?_); clear hK K)))))
          | (refine Wc_region (id := 14) ?_; intro K hK; refine Wl_assign (k := ?_); (refine Wl_nil (hK _ _ ?_); clear hK K))
          | (refine Wc_cond (ht := (fun ht => ?_)) (hf := (fun ht => ?_)) <;> (try simp at ht) <;> (try (exfalso; omega))))
        all_goals exact ⟨Or.inr rfl, .bool true, [], Ent.nil, res1 rfl rfl, rfl, rfl⟩
      | true =>
        rw [hL] at hli
        have hro := hxo.light hL
        have hps := (light_out hL).1
        have hss := hro.ss
        have hpl := plain_spec (B := B) x.r (by omega) (by omega) x.pa x.pc x.sa x.sc hxo.h1 hxo.h2
        have ha' := ha.apply hro (by omega) (by omega)
        repeat' (first
          | refine Wc_seq ?_
          | refine thenQ_normal ?_
          | refine Wc_cond_t (h := ?_)
          | refine Wc_cond_f (h := ?_)
          | refine Wc_ret ?_
          | refine thenQ_ret ?_
          | refine Wc_block ?_
          | refine blkQ_normal ?_
          | refine blkQ_ret ?_
          | refine Wc_exit ?_
          | refine thenQ_exit ?_
          | refine blkQ_hit ?_
          | refine blkQ_miss rfl ?_
          | refine Wc_skip ?_
          | refine Wc_label ?_
          | refine loopQ_exit ?_
          | refine loopQ_ret ?_
          | refine loopQ_normal ?_
          | (refine Wc_region (id := 11) ?_; intro K hK; refine Wl_move (k := ?_); refine Wl_move (k := ?_); refine Wl_len_sl (k' := ?_); refine Wl_lss (k' := ?_); refine Wl_move (k := ?_); ((first | (refine Wl_guard (k := ?_); refine Wl_move (k := ?_)) | refine Wl_gno (k := ?_) | ((refine Wl_split (yes := (fun ht => ?_)) (no := (fun ht => ?_)) <;> (try simp at ht) <;> (try (exfalso; omega))) <;> (first | (refine Wl_guard (k := ?_); refine Wl_move (k := ?_)) | refine Wl_gno (k := ?_))))) <;> (((first | (refine Wl_guard (k := ?_); refine Wl_lss (k' := ?_)) | refine Wl_gno (k := ?_) | ((refine Wl_split (yes := (fun ht => ?_)) (no := (fun ht => ?_)) <;> (try simp at ht) <;> (try (exfalso; omega))) <;> (first | (refine Wl_guard (k := ?_); refine Wl_lss (k' := ?_)) | refine Wl_gno (k := ?_))))) <;> ((first | refine Wl_pick_t (k := ?_) | refine Wl_pick_f (k := ?_) | refine Wl_pick (k := ?_)); (refine Wl_nil (hK _ _ ?_); clear hK K))))
          | (refine Wc_region (id := 12) ?_; intro K hK; refine Wl_move (k := ?_); refine Wl_add (k' := ?_); refine Wl_assign (k := ?_); (refine Wl_nil (hK _ _ ?_); clear hK K))
          | (refine Wc_region (id := 13) ?_; intro K hK; refine Wl_move (k := ?_); refine Wl_move (k := ?_); ((refine Wl_index_any (k' := ?_))) <;> (((refine Wl_loadAggG (j := j * 16) (cs := x.c) (hq := by simp) (hr := hr.any) (hv := recsC_row hx) (k := ?_))) <;> (((refine Wl_call (hs := hli) (k := ?_); rintro v A' ⟨rfl, rfl⟩; simp only [List.cons_append, List.nil_append])) <;> (refine Wl_not (k' := ?_); (refine Wl_nil (hK _ _ ?_); clear hK K)))))
          | (refine Wc_region (id := 15) ?_; intro K hK; refine Wl_move (k := ?_); refine Wl_move (k := ?_); refine Wl_move (k := ?_); ((refine Wl_index_any (k' := ?_))) <;> (((refine Wl_loadAggG (j := j * 16) (cs := x.c) (hq := by simp) (hr := hr.any) (hv := recsC_row hx) (k := ?_))) <;> (((refine Wl_call (hs := hpl) (k := ?_); rintro v A' ⟨a1, c1, a2, c2, rfl, rfl⟩; simp only [List.cons_append, List.nil_append]; simp only [RcG.c])) <;> (((refine Wl_ownF (a := a1) (sz := 5) (ho := (by (repeat (first | exact Out.head | apply Out.tail)); (first | done | fail))) (h0 := by omega) (h := fun hf1 => ?_); refine Wl_ownF (a := a2) (sz := 4) (ho := (by (repeat (first | exact Out.head | apply Out.tail)); (first | done | fail))) (h0 := by omega) (h := fun hf2 => ?_); refine Wl_call (hs := gapply_spec [own a2 x.r.sn.ss.length c2 4 (ssC x.r.sn.ss) 69, own a1 x.r.sn.ps.length c1 5 (prC x.r.sn.ps) 67] sta _ S ha (by omega) x.r hro a1 c1 a2 c2 (hf1.rd (.tail .head)) (hf2.rd .head)) (k := ?_); rintro v A' ⟨rfl, rfl⟩; simp only [List.cons_append, List.nil_append])) <;> ((refine Wl_nil (hK _ _ ?_); clear hK K))))))
          | (refine Wc_cond (ht := (fun ht => ?_)) (hf := (fun ht => ?_)) <;> (try simp at ht) <;> (try (exfalso; omega))))
        all_goals exact ⟨(j + 1, gapplyV S x.r), ⟨by omega, ha'⟩, by omega, ⟨rfl, rfl, rfl, int_succ j, trivial⟩, (by (repeat (first | exact Ent.refl _ | exact Ent.nil | refine Ent.take (by (repeat (first | exact Out.head | apply Out.tail)); (first | done | fail)) ?_ | refine Ent.drop1 ?_)); (first | done | fail))⟩
    have hwt := ha.wt
    have hpn := G15.snap_len S
    have hsn : S.fold.snap.ss.length ≤ 16 := fop_few ha.fop
    have hen := gencode_spec (B := B) sta S _ ha
    have hb := (wState_ok ha).2
    have hb2 : (encS S).length ≤ 200000000 := hb
    have hc1 := ha.apply hyo (by omega) (by omega)
    have hc2 := hc1.apply (rcE_ok ⟨2, 0, false⟩) (by simp [rcE, SnX.zero]) (by omega)
    repeat' (first
      | (refine Wc_cutS (k := 11) (α := Unit) (fun _ => [(0, .slice a l.length c), (4, .pointer (some ⟨r4, 0, none⟩)), (10, .pointer (some ⟨sta, 0, none⟩)), (12, .int .i64 j), (123, .bool false)]) (fun _ => [GtP sta S, cb r4 (y.r.c y.pa y.pc y.sa y.sc) 52]) (fun _ => True) ?_ (fun _ G2 _ => ?_); rotate_left; simp only [ov]; rotate_left)
      | refine Wc_seq ?_
      | refine thenQ_normal ?_
      | refine Wc_cond_t (h := ?_)
      | refine Wc_cond_f (h := ?_)
      | refine Wc_ret ?_
      | refine thenQ_ret ?_
      | refine Wc_block ?_
      | refine blkQ_normal ?_
      | refine blkQ_ret ?_
      | refine Wc_exit ?_
      | refine thenQ_exit ?_
      | refine blkQ_hit ?_
      | refine blkQ_miss rfl ?_
      | refine Wc_skip ?_
      | refine Wc_label ?_
      | refine loopQ_exit ?_
      | refine loopQ_ret ?_
      | refine loopQ_normal ?_
      | (refine Wc_region (id := 11) ?_; intro K hK; refine Wl_move (k := ?_); refine Wl_move (k := ?_); refine Wl_len_sl (k' := ?_); refine Wl_lss (k' := ?_); refine Wl_move (k := ?_); ((first | (refine Wl_guard (k := ?_); refine Wl_move (k := ?_)) | refine Wl_gno (k := ?_) | ((refine Wl_split (yes := (fun ht => ?_)) (no := (fun ht => ?_)) <;> (try simp at ht) <;> (try (exfalso; omega))) <;> (first | (refine Wl_guard (k := ?_); refine Wl_move (k := ?_)) | refine Wl_gno (k := ?_))))) <;> (((first | (refine Wl_guard (k := ?_); refine Wl_lss (k' := ?_)) | refine Wl_gno (k := ?_) | ((refine Wl_split (yes := (fun ht => ?_)) (no := (fun ht => ?_)) <;> (try simp at ht) <;> (try (exfalso; omega))) <;> (first | (refine Wl_guard (k := ?_); refine Wl_lss (k' := ?_)) | refine Wl_gno (k := ?_))))) <;> ((first | refine Wl_pick_t (k := ?_) | refine Wl_pick_f (k := ?_) | refine Wl_pick (k := ?_)); (refine Wl_nil (hK _ _ ?_); clear hK K))))
      | (refine Wc_region (id := 16) ?_; intro K hK; refine Wl_move (k := ?_); ((refine Wl_call (hs := hen) (k := ?_); rintro v A' ⟨b1, d1, rfl, rfl⟩; simp only [List.cons_append, List.nil_append])) <;> (refine Wl_assign (k := ?_); (refine Wl_nil (hK _ _ ?_); clear hK K)))
      | (refine Wc_region (id := 17) ?_; intro K hK; refine Wl_move (k := ?_); ((refine Wl_call (hs := gcopy_spec sta S _ ha) (k := ?_); rintro v A' ⟨stc, rfl, rfl⟩; simp only [List.cons_append, List.nil_append])) <;> (refine Wl_assign (k := ?_); (refine Wl_nil (hK _ _ ?_); clear hK K)))
      | (refine Wc_cond (ht := (fun ht => ?_)) (hf := (fun ht => ?_)) <;> (try simp at ht) <;> (try (exfalso; omega))))
    all_goals first | exact ⟨(), trivial, ⟨rfl, rfl, rfl, rfl, (by first | rfl | exact congrArg Value.bool (decide_eq_false (by omega))), trivial⟩, (by (repeat (first | exact Ent.refl _ | exact Ent.nil | refine Ent.take (by (repeat (first | exact Out.head | apply Out.tail)); (first | done | fail)) ?_ | refine Ent.drop1 ?_)); (first | done | fail))⟩ | skip
    have hlb : ((encS S).map byteV).length = (encS S).length * 1 := by simp
    repeat' (first
      | refine Wc_seq ?_
      | refine thenQ_normal ?_
      | refine Wc_cond_t (h := ?_)
      | refine Wc_cond_f (h := ?_)
      | refine Wc_ret ?_
      | refine thenQ_ret ?_
      | refine Wc_block ?_
      | refine blkQ_normal ?_
      | refine blkQ_ret ?_
      | refine Wc_exit ?_
      | refine thenQ_exit ?_
      | refine blkQ_hit ?_
      | refine blkQ_miss rfl ?_
      | refine Wc_skip ?_
      | refine Wc_label ?_
      | refine loopQ_exit ?_
      | refine loopQ_ret ?_
      | refine loopQ_normal ?_
      | ((refine Wc_tree (id := 18) (t := (.step 0 (.step 1 (.step 2 (.step 3 (.step 6 (.alt (.step 4 (.step 5 (.step 7 (.step 8 (.step 9 .done))))) (.step 7 (.step 4 (.step 5 (.step 8 (.step 9 .done)))))))))))) (bad := [4, 7]) (hok := (by decide +kernel)) (h := ?_); intro K hK; repeat' (first | refine WlT_alt ?_ ?_ | (refine WlT_step (i := 0) rfl ?_; (refine Wl_move (k := ?_)) <;> (refine Wl_nil ?_)) | (refine WlT_step (i := 1) rfl ?_; (refine Wl_ptr_eq_nil (k' := ?_)) <;> (refine Wl_nil ?_)) | (refine WlT_step (i := 2) rfl ?_; (refine Wl_move (k := ?_)) <;> (refine Wl_nil ?_)) | (refine WlT_step (i := 3) rfl ?_; ((first | (refine Wl_guard (k := ?_); refine Wl_move (k := ?_)) | refine Wl_gno (k := ?_) | ((refine Wl_split (yes := (fun ht => ?_)) (no := (fun ht => ?_)) <;> (try simp at ht) <;> (try (exfalso; omega))) <;> (first | (refine Wl_guard (k := ?_); refine Wl_move (k := ?_)) | refine Wl_gno (k := ?_))))) <;> (refine Wl_nil ?_)) | (refine WlT_step (i := 4) rfl ?_; ((first | (refine Wl_guard (k := ?_); (refine Wl_call (hs := gencode_spec stc S _ ha) (k := ?_); rintro v A' ⟨b2, d2, rfl, rfl⟩; simp only [List.cons_append, List.nil_append])) | refine Wl_gno (k := ?_) | ((refine Wl_split (yes := (fun ht => ?_)) (no := (fun ht => ?_)) <;> (try simp at ht) <;> (try (exfalso; omega))) <;> (first | (refine Wl_guard (k := ?_); (refine Wl_call (hs := gencode_spec stc S _ ha) (k := ?_); rintro v A' ⟨b2, d2, rfl, rfl⟩; simp only [List.cons_append, List.nil_append])) | refine Wl_gno (k := ?_))))) <;> (refine Wl_nil ?_)) | (refine WlT_step (i := 5) rfl ?_; ((first | (refine Wl_guard (k := ?_); (refine Wl_bytes_str (cs := encS S) (hsrc := src_out (by (repeat (first | exact Out.head | apply Out.tail)); (first | done | fail)) hlb) (hl := rfl) (k := ?_))) | refine Wl_gno (k := ?_) | ((refine Wl_split (yes := (fun ht => ?_)) (no := (fun ht => ?_)) <;> (try simp at ht) <;> (try (exfalso; omega))) <;> (first | (refine Wl_guard (k := ?_); (refine Wl_bytes_str (cs := encS S) (hsrc := src_out (by (repeat (first | exact Out.head | apply Out.tail)); (first | done | fail)) hlb) (hl := rfl) (k := ?_))) | refine Wl_gno (k := ?_))))) <;> (refine Wl_nil ?_)) | (refine WlT_step (i := 6) rfl ?_; ((first | (refine Wl_guard (k := ?_); refine Wl_move (k := ?_)) | refine Wl_gno (k := ?_) | ((refine Wl_split (yes := (fun ht => ?_)) (no := (fun ht => ?_)) <;> (try simp at ht) <;> (try (exfalso; omega))) <;> (first | (refine Wl_guard (k := ?_); refine Wl_move (k := ?_)) | refine Wl_gno (k := ?_))))) <;> (refine Wl_nil ?_)) | (refine WlT_step (i := 7) rfl ?_; ((first | (refine Wl_guard (k := ?_); (refine Wl_bytes_str (cs := encS S) (hsrc := src_out (by (repeat (first | exact Out.head | apply Out.tail)); (first | done | fail)) hlb) (hl := rfl) (k := ?_))) | refine Wl_gno (k := ?_) | ((refine Wl_split (yes := (fun ht => ?_)) (no := (fun ht => ?_)) <;> (try simp at ht) <;> (try (exfalso; omega))) <;> (first | (refine Wl_guard (k := ?_); (refine Wl_bytes_str (cs := encS S) (hsrc := src_out (by (repeat (first | exact Out.head | apply Out.tail)); (first | done | fail)) hlb) (hl := rfl) (k := ?_))) | refine Wl_gno (k := ?_))))) <;> (refine Wl_nil ?_)) | (refine WlT_step (i := 8) rfl ?_; ((first | (refine Wl_guard (k := ?_); (refine Wl_str_neq (k' := ?_); rw [beq_self_eq_true])) | refine Wl_gno (k := ?_) | ((refine Wl_split (yes := (fun ht => ?_)) (no := (fun ht => ?_)) <;> (try simp at ht) <;> (try (exfalso; omega))) <;> (first | (refine Wl_guard (k := ?_); (refine Wl_str_neq (k' := ?_); rw [beq_self_eq_true])) | refine Wl_gno (k := ?_))))) <;> (refine Wl_nil ?_)) | (refine WlT_step (i := 9) rfl ?_; ((first | refine Wl_pick_t (k := ?_) | refine Wl_pick_f (k := ?_) | refine Wl_pick (k := ?_))) <;> (refine Wl_nil ?_)) | (refine WlT_done (hK _ _ ?_); clear hK K))))
      | (refine Wc_region (id := 20) ?_; intro K hK; refine Wl_move (k := ?_); ((refine Wl_loadAgg (cs := y.r.c y.pa y.pc y.sa y.sc) (hv := by simp [RcG.c]) (hc := rfl) (k := ?_))) <;> (((refine Wl_call (hs := hpy) (k := ?_); rintro v A' ⟨a5, c5, a6, c6, rfl, rfl⟩; simp only [List.cons_append, List.nil_append])) <;> (((refine Wl_ownF (a := a5) (sz := 5) (ho := (by (repeat (first | exact Out.head | apply Out.tail)); (first | done | fail))) (h0 := by omega) (h := fun hf1 => ?_); refine Wl_ownF (a := a6) (sz := 4) (ho := (by (repeat (first | exact Out.head | apply Out.tail)); (first | done | fail))) (h0 := by omega) (h := fun hf2 => ?_); refine Wl_call (hs := gapply_spec [own a6 y.r.sn.ss.length c6 4 (ssC y.r.sn.ss) 69, own a5 y.r.sn.ps.length c5 5 (prC y.r.sn.ps) 67] stc _ S ha (by omega) y.r hyo a5 c5 a6 c6 (hf1.rd (.tail .head)) (hf2.rd .head)) (k := ?_); rintro v A' ⟨rfl, rfl⟩; simp only [List.cons_append, List.nil_append])) <;> ((refine Wl_nil (hK _ _ ?_); clear hK K)))))
      | (refine Wc_region (id := 21) ?_; intro K hK; refine Wl_move (k := ?_); refine Wl_build (k := ?_); refine Wl_build (k := ?_); ((refine Wl_call (hs := gapply_spec [] stc _ (gapplyV S y.r) hc1 (by omega) (rcE ⟨2, 0, false⟩) (rcE_ok _) none 0 none 0 rds_nil rds_nil) (k := ?_); rintro v A' ⟨rfl, rfl⟩; simp only [List.cons_append, List.nil_append])) <;> ((refine Wl_nil (hK _ _ ?_); clear hK K)))
      | ((refine Wc_tree (id := 22) (t := (.step 0 (.step 3 (.alt (.step 1 (.step 2 (.step 4 (.step 5 (.step 6 (.step 7 (.step 10 (.step 8 (.step 9 (.step 11 (.step 12 (.step 13 (.step 14 (.step 15 .done)))))))))))))) (.step 4 (.step 1 (.step 2 (.step 5 (.step 6 (.step 7 (.step 10 (.step 8 (.step 9 (.step 11 (.step 12 (.step 13 (.step 14 (.step 15 .done)))))))))))))))))) (bad := [1, 4]) (hok := (by decide +kernel)) (h := ?_); intro K hK; repeat' (first | refine WlT_alt ?_ ?_ | (refine WlT_step (i := 0) rfl ?_; (refine Wl_move (k := ?_)) <;> (refine Wl_nil ?_)) | (refine WlT_step (i := 1) rfl ?_; ((refine Wl_call (hs := gencode_spec sta S _ ha) (k := ?_); rintro v A' ⟨b3, d3, rfl, rfl⟩; simp only [List.cons_append, List.nil_append])) <;> (refine Wl_nil ?_)) | (refine WlT_step (i := 2) rfl ?_; ((refine Wl_bytes_str (cs := encS S) (hsrc := src_out (by (repeat (first | exact Out.head | apply Out.tail)); (first | done | fail)) hlb) (hl := rfl) (k := ?_))) <;> (refine Wl_nil ?_)) | (refine WlT_step (i := 3) rfl ?_; (refine Wl_move (k := ?_)) <;> (refine Wl_nil ?_)) | (refine WlT_step (i := 4) rfl ?_; ((refine Wl_bytes_str (cs := encS S) (hsrc := src_out (by (repeat (first | exact Out.head | apply Out.tail)); (first | done | fail)) hlb) (hl := rfl) (k := ?_))) <;> (refine Wl_nil ?_)) | (refine WlT_step (i := 5) rfl ?_; ((refine Wl_str_eql (k' := ?_); rw [beq_self_eq_true])) <;> (refine Wl_nil ?_)) | (refine WlT_step (i := 6) rfl ?_; (refine Wl_move (k := ?_)) <;> (refine Wl_nil ?_)) | (refine WlT_step (i := 7) rfl ?_; ((first | (refine Wl_guard (k := ?_); refine Wl_move (k := ?_)) | refine Wl_gno (k := ?_) | ((refine Wl_split (yes := (fun ht => ?_)) (no := (fun ht => ?_)) <;> (try simp at ht) <;> (try (exfalso; omega))) <;> (first | (refine Wl_guard (k := ?_); refine Wl_move (k := ?_)) | refine Wl_gno (k := ?_))))) <;> (refine Wl_nil ?_)) | (refine WlT_step (i := 8) rfl ?_; ((first | (refine Wl_guard (k := ?_); (refine Wl_call (hs := gsnapshot_spec sta S _ ha) (k := ?_); rintro v A' ⟨p1, q1, p2, q2, rfl, rfl⟩; simp only [List.cons_append, List.nil_append])) | refine Wl_gno (k := ?_) | ((refine Wl_split (yes := (fun ht => ?_)) (no := (fun ht => ?_)) <;> (try simp at ht) <;> (try (exfalso; omega))) <;> (first | (refine Wl_guard (k := ?_); (refine Wl_call (hs := gsnapshot_spec sta S _ ha) (k := ?_); rintro v A' ⟨p1, q1, p2, q2, rfl, rfl⟩; simp only [List.cons_append, List.nil_append])) | refine Wl_gno (k := ?_))))) <;> (refine Wl_nil ?_)) | (refine WlT_step (i := 9) rfl ?_; ((first | (refine Wl_guard (k := ?_); refine Wl_field (k' := ?_)) | refine Wl_gno (k := ?_) | ((refine Wl_split (yes := (fun ht => ?_)) (no := (fun ht => ?_)) <;> (try simp at ht) <;> (try (exfalso; omega))) <;> (first | (refine Wl_guard (k := ?_); refine Wl_field (k' := ?_)) | refine Wl_gno (k := ?_))))) <;> (refine Wl_nil ?_)) | (refine WlT_step (i := 10) rfl ?_; ((first | (refine Wl_guard (k := ?_); refine Wl_move (k := ?_)) | refine Wl_gno (k := ?_) | ((refine Wl_split (yes := (fun ht => ?_)) (no := (fun ht => ?_)) <;> (try simp at ht) <;> (try (exfalso; omega))) <;> (first | (refine Wl_guard (k := ?_); refine Wl_move (k := ?_)) | refine Wl_gno (k := ?_))))) <;> (refine Wl_nil ?_)) | (refine WlT_step (i := 11) rfl ?_; ((first | (refine Wl_guard (k := ?_); (refine Wl_call (hs := gsnapshot_spec sta S _ ha) (k := ?_); rintro v A' ⟨p3, q3, p4, q4, rfl, rfl⟩; simp only [List.cons_append, List.nil_append])) | refine Wl_gno (k := ?_) | ((refine Wl_split (yes := (fun ht => ?_)) (no := (fun ht => ?_)) <;> (try simp at ht) <;> (try (exfalso; omega))) <;> (first | (refine Wl_guard (k := ?_); (refine Wl_call (hs := gsnapshot_spec sta S _ ha) (k := ?_); rintro v A' ⟨p3, q3, p4, q4, rfl, rfl⟩; simp only [List.cons_append, List.nil_append])) | refine Wl_gno (k := ?_))))) <;> (refine Wl_nil ?_)) | (refine WlT_step (i := 12) rfl ?_; ((first | (refine Wl_guard (k := ?_); refine Wl_field (k' := ?_)) | refine Wl_gno (k := ?_) | ((refine Wl_split (yes := (fun ht => ?_)) (no := (fun ht => ?_)) <;> (try simp at ht) <;> (try (exfalso; omega))) <;> (first | (refine Wl_guard (k := ?_); refine Wl_field (k' := ?_)) | refine Wl_gno (k := ?_))))) <;> (refine Wl_nil ?_)) | (refine WlT_step (i := 13) rfl ?_; ((first | (refine Wl_guard (k := ?_); (refine Wl_ownF (a := p2) (sz := 4) (ho := (by (repeat (first | exact Out.head | apply Out.tail)); (first | done | fail))) (h0 := by omega) (h := fun g2 => ?_); refine Wl_ownF (a := p4) (sz := 4) (ho := (by (repeat (first | exact Out.head | apply Out.tail)); (first | done | fail))) (h0 := by omega) (h := fun g4 => ?_); refine Wl_call (hs := of_lst (A0 := [own p2 S.fold.snap.ss.length q2 4 (ssC S.fold.snap.ss) 69, own p4 S.fold.snap.ss.length q4 4 (ssC S.fold.snap.ss) 69]) (sameSeen_spec _ S.fold.snap.ss (by omega) p2 q2 p4 q4 (g2.rd (by (repeat (first | exact Out.head | apply Out.tail)); (first | done | fail))).lst (g4.rd (by (repeat (first | exact Out.head | apply Out.tail)); (first | done | fail))).lst)) (k := ?_); rintro v A' ⟨rfl, rfl⟩; simp only [List.cons_append, List.nil_append])) | refine Wl_gno (k := ?_) | ((refine Wl_split (yes := (fun ht => ?_)) (no := (fun ht => ?_)) <;> (try simp at ht) <;> (try (exfalso; omega))) <;> (first | (refine Wl_guard (k := ?_); (refine Wl_ownF (a := p2) (sz := 4) (ho := (by (repeat (first | exact Out.head | apply Out.tail)); (first | done | fail))) (h0 := by omega) (h := fun g2 => ?_); refine Wl_ownF (a := p4) (sz := 4) (ho := (by (repeat (first | exact Out.head | apply Out.tail)); (first | done | fail))) (h0 := by omega) (h := fun g4 => ?_); refine Wl_call (hs := of_lst (A0 := [own p2 S.fold.snap.ss.length q2 4 (ssC S.fold.snap.ss) 69, own p4 S.fold.snap.ss.length q4 4 (ssC S.fold.snap.ss) 69]) (sameSeen_spec _ S.fold.snap.ss (by omega) p2 q2 p4 q4 (g2.rd (by (repeat (first | exact Out.head | apply Out.tail)); (first | done | fail))).lst (g4.rd (by (repeat (first | exact Out.head | apply Out.tail)); (first | done | fail))).lst)) (k := ?_); rintro v A' ⟨rfl, rfl⟩; simp only [List.cons_append, List.nil_append])) | refine Wl_gno (k := ?_))))) <;> (refine Wl_nil ?_)) | (refine WlT_step (i := 14) rfl ?_; ((first | refine Wl_pick_t (k := ?_) | refine Wl_pick_f (k := ?_) | refine Wl_pick (k := ?_))) <;> (refine Wl_nil ?_)) | (refine WlT_step (i := 15) rfl ?_; (refine Wl_assign (k := ?_)) <;> (refine Wl_nil ?_)) | (refine WlT_done (hK _ _ ?_); clear hK K))))
      | (refine Wc_cond (ht := (fun ht => ?_)) (hf := (fun ht => ?_)) <;> (try simp at ht) <;> (try (exfalso; omega))))
    all_goals exact ⟨Or.inr rfl, .bool true, [], Ent.nil, res1 rfl rfl, rfl, rfl⟩
end specs
end Go.Proofs.Ytnoggejkkjngjaa
/- The rows of a slice of records that came in. No condition. -/
set_option linter.unusedVariables false
set_option maxRecDepth 100000
namespace Go.Proofs.Ytnoggejkkjngjaa
open Go Go.Sl Go.ChangeShapes Go.WideShapes Go.ChangeAt Go.RowKit

abbrev pI : List Value → Prop := fun cs => ∃ n, cs = [.int .i64 n] ∧ (Lit.int .i64 n).wf = true
abbrev pB : List Value → Prop := fun cs => ∃ b, cs = [.bool b]
abbrev pS : List Value → Prop := fun cs => ∃ s : ByteArray, cs = [.string s] ∧ s.size ≤ 140737488351232
abbrev pPos : List Value → Prop := Parts [pI, pI]
abbrev pVal : List Value → Prop := Parts [pPos, pB, pS]
abbrev pPair : List Value → Prop := Parts [pS, pVal]
abbrev pSeen : List Value → Prop := Parts [pI, pI, pPos]
abbrev pEnt : List Value → Prop := Parts [pPos, pI, pI, pS, pB, pS]
abbrev pEp : List Value → Prop := Parts [pI, pI, pB]
abbrev pSnap (W : World) (b1 b2 : Nat) : List Value → Prop := Parts [pPos, SlR Try.prog W 5 b1 pPair, SlR Try.prog W 4 b2 pSeen]
abbrev pRec (W : World) (b1 b2 : Nat) : List Value → Prop := Parts [pI, pEnt, pEp, pI, pSnap W b1 b2]
theorem rg_of {n : Int} (h : (Lit.int .i64 n).wf = true) : rg n := by
  simpa [rg, Lit.wf, IntKind.min, IntKind.max, IntKind.signed, IntKind.bits] using h
theorem pair_of {cs : List Value} (h : pPair cs) : ∃ p : PrX, cs = p.c ∧ rg p.v.a := by
  obtain ⟨_, _, rfl, ⟨k, rfl, _⟩, _, _, rfl, ⟨_, _, rfl, ⟨_, _, rfl, ⟨a, rfl, ha⟩, _, _, rfl, ⟨b, rfl, _⟩, rfl⟩, _, _, rfl, ⟨g, rfl⟩, _, _, rfl, ⟨s, rfl, _⟩, rfl⟩, rfl⟩ := h
  exact ⟨⟨k, ⟨a, b, g, s⟩⟩, rfl, rg_of ha⟩
theorem seen_of {cs : List Value} (h : pSeen cs) : ∃ p : SX, cs = p.c ∧ rg p.e := by
  obtain ⟨_, _, rfl, ⟨k, rfl, _⟩, _, _, rfl, ⟨r, rfl, _⟩, _, _, rfl, ⟨_, _, rfl, ⟨a, rfl, ha⟩, _, _, rfl, ⟨b, rfl, _⟩, rfl⟩, rfl⟩ := h
  exact ⟨⟨k, r, a, b⟩, rfl, rg_of ha⟩
theorem pairs_of : ∀ (rows : List (List Value)), (∀ r ∈ rows, pPair r ∧ r.length = 5) → ∃ l : List PrX, l.length = rows.length ∧ rows.flatten = prC l ∧ ∀ x ∈ l, rg x.v.a
  | [], _ => ⟨[], rfl, rfl, by simp⟩
  | r :: rows, h => by
    obtain ⟨l, h1, h2, h3⟩ := pairs_of rows (fun x hx => h x (List.mem_cons_of_mem _ hx))
    obtain ⟨e, he, hr⟩ := pair_of (h r (List.mem_cons_self ..)).1
    refine ⟨e :: l, by simp [h1], by simp [prC] at h2 ⊢; simp [h2, he], fun x hx => ?_⟩
    rcases List.mem_cons.1 hx with rfl | hx
    · exact hr
    · exact h3 x hx
theorem seens_of : ∀ (rows : List (List Value)), (∀ r ∈ rows, pSeen r ∧ r.length = 4) → ∃ l : List SX, l.length = rows.length ∧ rows.flatten = ssC l ∧ ∀ x ∈ l, rg x.e
  | [], _ => ⟨[], rfl, rfl, by simp⟩
  | r :: rows, h => by
    obtain ⟨l, h1, h2, h3⟩ := seens_of rows (fun x hx => h x (List.mem_cons_of_mem _ hx))
    obtain ⟨e, he, hr⟩ := seen_of (h r (List.mem_cons_self ..)).1
    refine ⟨e :: l, by simp [h1], by simp [ssC] at h2 ⊢; simp [h2, he], fun x hx => ?_⟩
    rcases List.mem_cons.1 hx with rfl | hx
    · exact hr
    · exact h3 x hx
theorem ent_of {cs : List Value} (h : pEnt cs) : ∃ x : EnX, cs = x.c ∧ x.ok ∧ rg x.i := by
  obtain ⟨_, _, rfl, ⟨_, _, rfl, ⟨a, rfl, _⟩, _, _, rfl, ⟨b, rfl, hb⟩, rfl⟩, _, _, rfl, ⟨s, rfl, hs⟩, _, _, rfl, ⟨r, rfl, _⟩, _, _, rfl, ⟨k, rfl, _⟩, _, _, rfl, ⟨d, rfl⟩, _, _, rfl, ⟨t, rfl, _⟩, rfl⟩ := h
  exact ⟨⟨a, b, s, r, k, d, t⟩, rfl, rg_of hs, rg_of hb⟩
theorem rec_of {W : World} {b1 b2 : Nat} {cs : List Value} (h : pRec W b1 b2 cs) : ∃ x : RI, cs = x.c ∧ x.ok (baseOf W) := by
  obtain ⟨_, _, rfl, ⟨kind, rfl, _⟩, _, _, rfl, h1, _, _, rfl, ⟨_, _, rfl, ⟨em, rfl, _⟩, _, _, rfl, ⟨ec, rfl, _⟩, _, _, rfl, ⟨ef, rfl⟩, rfl⟩, _, _, rfl, ⟨cf, rfl, _⟩, _, _, rfl, ⟨_, _, rfl, ⟨_, _, rfl, ⟨a, rfl, ha⟩, _, _, rfl, ⟨b, rfl, _⟩, rfl⟩, _, _, rfl, h2, _, _, rfl, h3, rfl⟩, rfl⟩ := h
  obtain ⟨x, rfl, hx, hxi⟩ := ent_of h1
  obtain ⟨pa, pm, pc, rfl, hm1, rows1, hl1, hr1, hd1⟩ := h2
  obtain ⟨sa, sm, sc, rfl, hm2, rows2, hl2, hr2, hd2⟩ := h3
  obtain ⟨ps, e1, e2, e3⟩ := pairs_of rows1 hr1
  obtain ⟨ss, g1, g2, g3⟩ := seens_of rows2 hr2
  obtain rfl : ps.length = pm := e1.trans hl1
  obtain rfl : ss.length = sm := g1.trans hl2
  rw [e2] at hd1
  rw [g2] at hd2
  exact ⟨⟨⟨kind, x, ⟨em, ec, ef⟩, cf, ⟨a, b, ps, ss⟩⟩, pa, pc, sa, sc⟩, rfl, ⟨hd1, hd2, hx, hxi, rg_of ha, hm1.1, hm2.1, e3, g3⟩⟩
theorem recs_of {W : World} {b1 b2 : Nat} : ∀ (rows : List (List Value)), (∀ r ∈ rows, pRec W b1 b2 r ∧ r.length = 16) → ∃ l : List RI, l.length = rows.length ∧ rows.flatten = recsC l ∧ ∀ x ∈ l, x.ok (baseOf W)
  | [], _ => ⟨[], rfl, rfl, by simp⟩
  | r :: rows, h => by
    obtain ⟨l, h1, h2, h3⟩ := recs_of rows (fun x hx => h x (List.mem_cons_of_mem _ hx))
    obtain ⟨e, he, hr⟩ := rec_of (h r (List.mem_cons_self ..)).1
    refine ⟨e :: l, by simp [h1], by simp [recsC] at h2 ⊢; simp [h2, he], fun x hx => ?_⟩
    rcases List.mem_cons.1 hx with rfl | hx
    · exact hr
    · exact h3 x hx
theorem recs_arg {W : World} {bt b1 b2 : Nat} {v : Value} (g : SlR Try.prog W 16 bt (pRec W b1 b2) [v]) :
    ∃ a c, ∃ l : List RI, v = .slice a l.length c ∧ l.length ≤ 9223372036854775807 ∧ (∀ x ∈ l, x.ok (baseOf W)) ∧ RdS Try.prog (baseOf W) [] 16 a l.length c (recsC l) := by
  obtain ⟨a, m, c, h1, hm, rows, hlen, hrows, hrd⟩ := g
  obtain ⟨l, hl, hfl, hs⟩ := recs_of rows hrows
  obtain rfl : l.length = m := hl.trans hlen
  rw [hfl] at hrd
  exact ⟨a, c, l, by simpa using h1, hm.1, hs, hrd⟩
end Go.Proofs.Ytnoggejkkjngjaa
