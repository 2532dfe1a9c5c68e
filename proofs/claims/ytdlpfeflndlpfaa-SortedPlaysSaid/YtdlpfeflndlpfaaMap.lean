/- Package sorted: a map's own functions. Conditions: a map has not too many keys. -/
import Derived.Test.YtdlpfeflndlpfaaTreeP
import Derived.Test.YtdlpfeflndlpfaaOp
set_option maxHeartbeats 8000000
set_option linter.unusedVariables false
set_option linter.unusedSimpArgs false
set_option maxRecDepth 100000
namespace Go.Proofs.Ytdlpfeflndlpfaa
open Go Go.Sl
attribute [local irreducible] Go.Sl.Wl Go.Sl.Wc Go.Sl.thenQ Go.Sl.blkQ Go.Sl.loopQ Go.Sl.Fspec

def MpX (p : Nat) (t : Tree) (a : Option Addr) : List Asn := [cb p [.pointer a, .int .i64 t.size] 86, TrA t a]
def MpA (p : Nat) (t : Tree) : Asn := exN (MpX p t)
theorem mp_fold {p : Nat} {t : Tree} {X A0 : List Asn} (a : Option Addr) (h : Ent X (MpX p t a ++ A0)) : Ent X (MpA p t :: A0) := h.trans (Ent.exN_shut (f := MpX p t) a A0)
theorem u8_of (n : Int) : ∃ b : UInt8, Value.int .u8 (IntKind.u8.wrap n) = byteV b := by
  refine ⟨UInt8.ofNat (n % 256).toNat, ?_⟩
  unfold byteV
  rw [IntKind.wrap_u8]
  congr 1
  rw [UInt8.toNat_ofNat']
  omega
theorem int_succ' (k : Nat) : Value.int .i64 ((k : Int) + 1) = Value.int .i64 ((k + 1 : Nat) : Int) := by simp
theorem Tree.halves_fuel : ∀ (f n : Nat), n ≤ f → Tree.halves f n = Tree.halves n n
  | 0, n, h => by obtain rfl : n = 0 := (by omega); rfl
  | f + 1, 0, h => rfl
  | f + 1, n + 1, h => by
    simp only [Tree.halves]
    rw [if_neg (by omega), if_neg (by omega), Tree.halves_fuel f _ (by omega), Tree.halves_fuel n _ (by omega)]
section specs
variable (B : Base)
theorem mnew_spec : Fspec Try.prog B 14 #[] [] (fun v A' => ∃ p, v = .pointer (some ⟨p, 0, none⟩) ∧ A' = [MpA p .nil]) := by
  refine spec_of (args := []) Try.func14 rfl rfl rfl ?_
  repeat' (first
    | refine Wc_seq ?_
    | refine thenQ_normal ?_
    | refine Wc_cond_t (h := ?_)
    | refine Wc_cond_f (h := ?_)
    | refine Wc_ret ?_
    | refine thenQ_ret ?_
    | refine Wc_block ?_
    | refine blkQ_normal ?_
    | refine blkQ_ret ?_
    | refine Wc_exit ?_
    | refine thenQ_exit ?_
    | refine blkQ_hit ?_
    | refine blkQ_miss rfl ?_
    | refine Wc_skip ?_
    | refine Wc_label ?_
    | refine loopQ_exit ?_
    | refine loopQ_ret ?_
    | refine loopQ_normal ?_
    | (refine Wc_region (id := 0) ?_; intro K hK; refine Wl_assign (k := ?_); (refine Wl_nil (hK _ _ ?_); clear hK K))
    | (refine Wc_region (id := 1) ?_; intro K hK; refine Wl_build (k := ?_); (refine Wl_boxAgg (k := ?_); intro r); refine Wl_assign (k := ?_); (refine Wl_nil (hK _ _ ?_); clear hK K))
    | (refine Wc_cond (ht := (fun ht => ?_)) (hf := (fun ht => ?_)) <;> (try simp at ht) <;> (try (exfalso; omega))))
  exact ⟨Or.inr rfl, _, [MpA _ .nil], tr_nil.trans (mp_fold (A0 := []) none (by (repeat (first | exact Ent.refl _ | exact Ent.nil | refine Ent.take (by (repeat (first | exact Out.head | apply Out.tail)); (first | done | fail)) ?_ | refine Ent.drop1 ?_)))), res1 rfl rfl, _, rfl, rfl⟩
theorem mset_spec (p : Nat) (t : Tree) (k : ByteArray) (v : Int) (h : t.AA) (hs : t.size ≤ 1000000) :
    Fspec Try.prog B 15 #[.pointer (some ⟨p, 0, none⟩), .string k, .int .i64 v] [MpA p t] (fun w A' => w = .bool (t.news k) ∧ A' = [MpA p (t.set k v)]) := by
  have hz := Tree.size_set k v t
  refine spec_of (args := [_, _, _]) Try.func15 rfl rfl rfl ?_
  refine Wc_exN (fun a => ?_)
  simp only [MpX]
  simp only [List.cons_append, List.nil_append]
  repeat' (first
    | refine Wc_seq ?_
    | refine thenQ_normal ?_
    | refine Wc_cond_t (h := ?_)
    | refine Wc_cond_f (h := ?_)
    | refine Wc_ret ?_
    | refine thenQ_ret ?_
    | refine Wc_block ?_
    | refine blkQ_normal ?_
    | refine blkQ_ret ?_
    | refine Wc_exit ?_
    | refine thenQ_exit ?_
    | refine blkQ_hit ?_
    | refine blkQ_miss rfl ?_
    | refine Wc_skip ?_
    | refine Wc_label ?_
    | refine loopQ_exit ?_
    | refine loopQ_ret ?_
    | refine loopQ_normal ?_
    | (refine Wc_region (id := 0) ?_; intro K hK; refine Wl_assign (k := ?_); (refine Wl_nil (hK _ _ ?_); clear hK K))
    | (refine Wc_region (id := 1) ?_; intro K hK; refine Wl_move (k := ?_); refine Wl_ptr_eq_nil (k' := ?_); (refine Wl_nil (hK _ _ ?_); clear hK K))
    | (refine Wc_region (id := 2) ?_; intro K hK; refine Wl_assign (k := ?_); (refine Wl_nil (hK _ _ ?_); clear hK K))
    | (refine Wc_region (id := 3) ?_; intro K hK; refine Wl_move (k := ?_); refine Wl_nilCheck (k := ?_); refine Wl_fieldAddr (k := ?_); refine Wl_load (k := ?_); refine Wl_assign (k := ?_); (refine Wl_nil (hK _ _ ?_); clear hK K))
    | (refine Wc_region (id := 4) ?_; intro K hK; refine Wl_move (k := ?_); refine Wl_move (k := ?_); refine Wl_move (k := ?_); refine Wl_nilCheck (k := ?_); refine Wl_fieldAddr (k := ?_); refine Wl_load (k := ?_); refine Wl_move (k := ?_); refine Wl_move (k := ?_); ((refine Wl_call (hs := (set_spec B t a k v ((t.size : Int) + 1) t.size (.pointer a) p (by omega) (by omega) (h.LB_size.mono (by omega)) (by omega))) (k := ?_); rintro w A' ⟨a1, rfl, rfl⟩; simp only [List.cons_append, List.nil_append])) <;> (refine Wl_nilCheck (k := ?_); refine Wl_fieldAddr (k := ?_); refine Wl_store (ho := rfl) (k := ?_); (refine Wl_nil (hK _ _ ?_); clear hK K)))
    | (refine Wc_region (id := 5) ?_; intro K hK; refine Wl_move (k := ?_); refine Wl_nilCheck (k := ?_); refine Wl_fieldAddr (k := ?_); refine Wl_load (k := ?_); refine Wl_move (k := ?_); refine Wl_gtr (k' := ?_); refine Wl_assign (k := ?_); (refine Wl_nil (hK _ _ ?_); clear hK K))
    | (refine Wc_cond (ht := (fun ht => ?_)) (hf := (fun ht => ?_)) <;> (try simp at ht) <;> (try (exfalso; omega))))
  have hv : decide ((t.size : Int) < (t.size : Int) + (if t.news k then 1 else 0)) = t.news k := by cases t.news k <;> simp <;> omega
  have hc : (t.size : Int) + (if t.news k then 1 else 0) = ((t.set k v).size : Nat) := by rw [hz]; cases t.news k <;> simp
  refine ⟨Or.inr rfl, _, [MpA p _], mp_fold (A0 := []) a1 ?_, res1 rfl rfl, congrArg Value.bool hv, rfl⟩
  simp only [MpX, ← hc]
  (repeat (first | exact Ent.refl _ | exact Ent.nil | refine Ent.take (by (repeat (first | exact Out.head | apply Out.tail)); (first | done | fail)) ?_ | refine Ent.drop1 ?_))
theorem mdel_spec (p : Nat) (t : Tree) (k : ByteArray) (h : t.AA) (hs : t.size ≤ 1000000) :
    Fspec Try.prog B 19 #[.pointer (some ⟨p, 0, none⟩), .string k] [MpA p t] (fun w A' => w = .bool (decide (t.gone k = 1)) ∧ A' = [MpA p (t.del k)]) := by
  have hz := Tree.size_del t k
  have hg := Tree.gone_le t k
  refine spec_of (args := [_, _]) Try.func19 rfl rfl rfl ?_
  refine Wc_exN (fun a => ?_)
  simp only [MpX]
  simp only [List.cons_append, List.nil_append]
  repeat' (first
    | refine Wc_seq ?_
    | refine thenQ_normal ?_
    | refine Wc_cond_t (h := ?_)
    | refine Wc_cond_f (h := ?_)
    | refine Wc_ret ?_
    | refine thenQ_ret ?_
    | refine Wc_block ?_
    | refine blkQ_normal ?_
    | refine blkQ_ret ?_
    | refine Wc_exit ?_
    | refine thenQ_exit ?_
    | refine blkQ_hit ?_
    | refine blkQ_miss rfl ?_
    | refine Wc_skip ?_
    | refine Wc_label ?_
    | refine loopQ_exit ?_
    | refine loopQ_ret ?_
    | refine loopQ_normal ?_
    | (refine Wc_region (id := 0) ?_; intro K hK; refine Wl_assign (k := ?_); (refine Wl_nil (hK _ _ ?_); clear hK K))
    | (refine Wc_region (id := 1) ?_; intro K hK; refine Wl_move (k := ?_); refine Wl_ptr_eq_nil (k' := ?_); (refine Wl_nil (hK _ _ ?_); clear hK K))
    | (refine Wc_region (id := 2) ?_; intro K hK; refine Wl_assign (k := ?_); (refine Wl_nil (hK _ _ ?_); clear hK K))
    | (refine Wc_region (id := 3) ?_; intro K hK; refine Wl_move (k := ?_); refine Wl_nilCheck (k := ?_); refine Wl_fieldAddr (k := ?_); refine Wl_load (k := ?_); refine Wl_assign (k := ?_); (refine Wl_nil (hK _ _ ?_); clear hK K))
    | (refine Wc_region (id := 4) ?_; intro K hK; refine Wl_move (k := ?_); refine Wl_move (k := ?_); refine Wl_move (k := ?_); refine Wl_nilCheck (k := ?_); refine Wl_fieldAddr (k := ?_); refine Wl_load (k := ?_); refine Wl_move (k := ?_); ((refine Wl_call (hs := (del_spec B t a k (t.size : Int) t.size (.pointer a) p (by omega) h.LB_size (by omega))) (k := ?_); rintro w A' ⟨a1, rfl, rfl⟩; simp only [List.cons_append, List.nil_append])) <;> (refine Wl_nilCheck (k := ?_); refine Wl_fieldAddr (k := ?_); refine Wl_store (ho := rfl) (k := ?_); (refine Wl_nil (hK _ _ ?_); clear hK K)))
    | (refine Wc_region (id := 5) ?_; intro K hK; refine Wl_move (k := ?_); refine Wl_nilCheck (k := ?_); refine Wl_fieldAddr (k := ?_); refine Wl_load (k := ?_); refine Wl_move (k := ?_); refine Wl_lss (k' := ?_); refine Wl_assign (k := ?_); (refine Wl_nil (hK _ _ ?_); clear hK K))
    | (refine Wc_cond (ht := (fun ht => ?_)) (hf := (fun ht => ?_)) <;> (try simp at ht) <;> (try (exfalso; omega))))
  have hv : decide ((t.size : Int) - t.gone k < (t.size : Int)) = decide (t.gone k = 1) := by congr 1; exact propext ⟨fun _ => by omega, fun _ => by omega⟩
  have hc : (t.size : Int) - t.gone k = ((t.del k).size : Nat) := by omega
  refine ⟨Or.inr rfl, _, [MpA p _], mp_fold (A0 := []) a1 ?_, res1 rfl rfl, congrArg Value.bool hv, rfl⟩
  simp only [MpX, ← hc]
  (repeat (first | exact Ent.refl _ | exact Ent.nil | refine Ent.take (by (repeat (first | exact Out.head | apply Out.tail)); (first | done | fail)) ?_ | refine Ent.drop1 ?_))
theorem mlen_spec (p : Nat) (t : Tree) :
    Fspec Try.prog B 18 #[.pointer (some ⟨p, 0, none⟩)] [MpA p t] (fun w A' => w = .int .i64 t.size ∧ A' = [MpA p t]) := by
  refine spec_of (args := [_]) Try.func18 rfl rfl rfl ?_
  refine Wc_exN (fun a => ?_)
  simp only [MpX]
  simp only [List.cons_append, List.nil_append]
  repeat' (first
    | refine Wc_seq ?_
    | refine thenQ_normal ?_
    | refine Wc_cond_t (h := ?_)
    | refine Wc_cond_f (h := ?_)
    | refine Wc_ret ?_
    | refine thenQ_ret ?_
    | refine Wc_block ?_
    | refine blkQ_normal ?_
    | refine blkQ_ret ?_
    | refine Wc_exit ?_
    | refine thenQ_exit ?_
    | refine blkQ_hit ?_
    | refine blkQ_miss rfl ?_
    | refine Wc_skip ?_
    | refine Wc_label ?_
    | refine loopQ_exit ?_
    | refine loopQ_ret ?_
    | refine loopQ_normal ?_
    | (refine Wc_region (id := 0) ?_; intro K hK; refine Wl_assign (k := ?_); (refine Wl_nil (hK _ _ ?_); clear hK K))
    | (refine Wc_region (id := 1) ?_; intro K hK; refine Wl_move (k := ?_); refine Wl_ptr_eq_nil (k' := ?_); (refine Wl_nil (hK _ _ ?_); clear hK K))
    | (refine Wc_region (id := 2) ?_; intro K hK; refine Wl_assign (k := ?_); (refine Wl_nil (hK _ _ ?_); clear hK K))
    | (refine Wc_region (id := 3) ?_; intro K hK; refine Wl_move (k := ?_); refine Wl_nilCheck (k := ?_); refine Wl_fieldAddr (k := ?_); refine Wl_load (k := ?_); refine Wl_assign (k := ?_); (refine Wl_nil (hK _ _ ?_); clear hK K))
    | (refine Wc_cond (ht := (fun ht => ?_)) (hf := (fun ht => ?_)) <;> (try simp at ht) <;> (try (exfalso; omega))))
  exact ⟨Or.inr rfl, _, [MpA p t], mp_fold (A0 := []) a (Ent.refl _), res1 rfl rfl, rfl, rfl⟩
theorem mdepth_spec (p : Nat) (t : Tree) (hs : t.size ≤ 1000000) :
    Fspec Try.prog B 16 #[.pointer (some ⟨p, 0, none⟩)] [MpA p t] (fun w A' => w = .int .i64 t.depth ∧ A' = [MpA p t]) := by
  refine spec_of (args := [_]) Try.func16 rfl rfl rfl ?_
  refine Wc_exN (fun a => ?_)
  simp only [MpX]
  simp only [List.cons_append, List.nil_append]
  repeat' (first
    | refine Wc_seq ?_
    | refine thenQ_normal ?_
    | refine Wc_cond_t (h := ?_)
    | refine Wc_cond_f (h := ?_)
    | refine Wc_ret ?_
    | refine thenQ_ret ?_
    | refine Wc_block ?_
    | refine blkQ_normal ?_
    | refine blkQ_ret ?_
    | refine Wc_exit ?_
    | refine thenQ_exit ?_
    | refine blkQ_hit ?_
    | refine blkQ_miss rfl ?_
    | refine Wc_skip ?_
    | refine Wc_label ?_
    | refine loopQ_exit ?_
    | refine loopQ_ret ?_
    | refine loopQ_normal ?_
    | (refine Wc_region (id := 0) ?_; intro K hK; refine Wl_assign (k := ?_); (refine Wl_nil (hK _ _ ?_); clear hK K))
    | (refine Wc_region (id := 1) ?_; intro K hK; refine Wl_move (k := ?_); refine Wl_ptr_eq_nil (k' := ?_); (refine Wl_nil (hK _ _ ?_); clear hK K))
    | (refine Wc_region (id := 2) ?_; intro K hK; refine Wl_assign (k := ?_); (refine Wl_nil (hK _ _ ?_); clear hK K))
    | (refine Wc_region (id := 3) ?_; intro K hK; refine Wl_move (k := ?_); refine Wl_nilCheck (k := ?_); refine Wl_fieldAddr (k := ?_); refine Wl_load (k := ?_); ((refine Wl_call (hs := (depth_spec B t a (by omega))) (k := ?_); rintro w A' ⟨rfl, rfl⟩; simp only [List.cons_append, List.nil_append])) <;> (refine Wl_assign (k := ?_); (refine Wl_nil (hK _ _ ?_); clear hK K)))
    | (refine Wc_cond (ht := (fun ht => ?_)) (hf := (fun ht => ?_)) <;> (try simp at ht) <;> (try (exfalso; omega))))
  exact ⟨Or.inr rfl, _, [MpA p t], mp_fold (A0 := []) a (by simp only [MpX]; (repeat (first | exact Ent.refl _ | exact Ent.nil | refine Ent.take (by (repeat (first | exact Out.head | apply Out.tail)); (first | done | fail)) ?_ | refine Ent.drop1 ?_))), res1 rfl rfl, rfl, rfl⟩
theorem bound_spec (n : Nat) (hn : n ≤ 1000000) :
    Fspec Try.prog B 17 #[.int .i64 n] [] (fun w A' => w = .int .i64 (2 * Tree.halves (n + 1) (n + 1) : Nat) ∧ A' = []) := by
  refine spec_of (args := [_]) Try.func17 rfl rfl rfl ?_
  repeat' (first
    | refine Wc_seq ?_
    | refine thenQ_normal ?_
    | refine Wc_cond_t (h := ?_)
    | refine Wc_cond_f (h := ?_)
    | refine Wc_ret ?_
    | refine thenQ_ret ?_
    | refine Wc_block ?_
    | refine blkQ_normal ?_
    | refine blkQ_ret ?_
    | refine Wc_exit ?_
    | refine thenQ_exit ?_
    | refine blkQ_hit ?_
    | refine blkQ_miss rfl ?_
    | refine Wc_skip ?_
    | refine Wc_label ?_
    | refine loopQ_exit ?_
    | refine loopQ_ret ?_
    | refine loopQ_normal ?_
    | (refine Wc_region (id := 0) ?_; intro K hK; refine Wl_assign (k := ?_); (refine Wl_nil (hK _ _ ?_); clear hK K))
    | (refine Wc_region (id := 1) ?_; intro K hK; refine Wl_assign (k := ?_); (refine Wl_nil (hK _ _ ?_); clear hK K))
    | (refine Wc_region (id := 2) ?_; intro K hK; refine Wl_move (k := ?_); refine Wl_add (k' := ?_); refine Wl_assign (k := ?_); (refine Wl_nil (hK _ _ ?_); clear hK K))
    | (refine Wc_region (id := 3) ?_; intro K hK; refine Wl_move (k := ?_); refine Wl_gtr (k' := ?_); (refine Wl_nil (hK _ _ ?_); clear hK K))
    | (refine Wc_region (id := 4) ?_; intro K hK; refine Wl_move (k := ?_); refine Wl_quo (k' := ?_); refine Wl_assign (k := ?_); (refine Wl_nil (hK _ _ ?_); clear hK K))
    | (refine Wc_region (id := 5) ?_; intro K hK; refine Wl_move (k := ?_); refine Wl_add (k' := ?_); refine Wl_assign (k := ?_); (refine Wl_nil (hK _ _ ?_); clear hK K))
    | (refine Wc_region (id := 6) ?_; intro K hK; refine Wl_move (k := ?_); refine Wl_mul (k' := ?_); refine Wl_assign (k := ?_); (refine Wl_nil (hK _ _ ?_); clear hK K))
    | (refine Wc_cond (ht := (fun ht => ?_)) (hf := (fun ht => ?_)) <;> (try simp at ht) <;> (try (exfalso; omega))))
  refine Wc_loop (α := Nat × Nat) (fun x => [(3, .int .i64 x.1), (4, .int .i64 x.2)]) (fun x => []) (fun x => x.1 + Tree.halves x.2 x.2 = Tree.halves (n + 1) (n + 1) ∧ x.2 ≤ n + 1 ∧ x.1 + x.2 ≤ n + 1) (fun x => x.2) (0, n + 1) ⟨Nat.zero_add _, by simp only; omega, by simp only; omega⟩ ⟨rfl, rfl, trivial⟩ (Ent.refl _) ?_
  rintro ⟨d, q⟩ G ⟨h1, h2, h3⟩
  simp only at h1 h2 h3
  simp only [ov]
  by_cases hq : q = 0
  · subst hq
    have h0 : Tree.halves 0 0 = 0 := rfl
    repeat' (first
      | refine Wc_seq ?_
      | refine thenQ_normal ?_
      | refine Wc_cond_t (h := ?_)
      | refine Wc_cond_f (h := ?_)
      | refine Wc_ret ?_
      | refine thenQ_ret ?_
      | refine Wc_block ?_
      | refine blkQ_normal ?_
      | refine blkQ_ret ?_
      | refine Wc_exit ?_
      | refine thenQ_exit ?_
      | refine blkQ_hit ?_
      | refine blkQ_miss rfl ?_
      | refine Wc_skip ?_
      | refine Wc_label ?_
      | refine loopQ_exit ?_
      | refine loopQ_ret ?_
      | refine loopQ_normal ?_
      | (refine Wc_region (id := 3) ?_; intro K hK; refine Wl_move (k := ?_); refine Wl_gtr (k' := ?_); (refine Wl_nil (hK _ _ ?_); clear hK K))
      | (refine Wc_region (id := 6) ?_; intro K hK; refine Wl_move (k := ?_); refine Wl_mul (k' := ?_); refine Wl_assign (k := ?_); (refine Wl_nil (hK _ _ ?_); clear hK K))
      | (refine Wc_cond (ht := (fun ht => ?_)) (hf := (fun ht => ?_)) <;> (try simp at ht) <;> (try (exfalso; omega))))
    exact ⟨Or.inr rfl, _, [], Ent.nil, res1 rfl rfl, congrArg (Value.int .i64) (by omega), rfl⟩
  · have hh : Tree.halves q q = Tree.halves (q / 2) (q / 2) + 1 := by
      obtain ⟨m, rfl⟩ : ∃ m, q = m + 1 := ⟨q - 1, by omega⟩
      have : Tree.halves (m + 1) (m + 1) = Tree.halves m ((m + 1) / 2) + 1 := by simp only [Tree.halves]; rw [if_neg hq]
      rw [this, Tree.halves_fuel m ((m + 1) / 2) (by omega)]
    have hd : IntKind.i64.wrap (((q : Nat) : Int).tdiv 2) = ((q / 2 : Nat) : Int) := by
      rw [Int.tdiv_eq_ediv_of_nonneg (by omega)]
      exact (fits_i64 (by omega)).trans (by omega)
    repeat' (first
      | refine Wc_seq ?_
      | refine thenQ_normal ?_
      | refine Wc_cond_t (h := ?_)
      | refine Wc_cond_f (h := ?_)
      | refine Wc_ret ?_
      | refine thenQ_ret ?_
      | refine Wc_block ?_
      | refine blkQ_normal ?_
      | refine blkQ_ret ?_
      | refine Wc_exit ?_
      | refine thenQ_exit ?_
      | refine blkQ_hit ?_
      | refine blkQ_miss rfl ?_
      | refine Wc_skip ?_
      | refine Wc_label ?_
      | refine loopQ_exit ?_
      | refine loopQ_ret ?_
      | refine loopQ_normal ?_
      | (refine Wc_region (id := 3) ?_; intro K hK; refine Wl_move (k := ?_); refine Wl_gtr (k' := ?_); (refine Wl_nil (hK _ _ ?_); clear hK K))
      | (refine Wc_region (id := 4) ?_; intro K hK; refine Wl_move (k := ?_); ((refine Wl_quo (k' := ?_); rw [hd])) <;> (refine Wl_assign (k := ?_); (refine Wl_nil (hK _ _ ?_); clear hK K)))
      | (refine Wc_region (id := 5) ?_; intro K hK; refine Wl_move (k := ?_); refine Wl_add (k' := ?_); refine Wl_assign (k := ?_); (refine Wl_nil (hK _ _ ?_); clear hK K))
      | (refine Wc_cond (ht := (fun ht => ?_)) (hf := (fun ht => ?_)) <;> (try simp at ht) <;> (try (exfalso; omega))))
    exact ⟨(d + 1, q / 2), ⟨by simp only; omega, by simp only; omega, by simp only; omega⟩, by simp only; omega, ⟨int_succ' d, rfl, trivial⟩, Ent.nil⟩
end specs
end Go.Proofs.Ytdlpfeflndlpfaa
