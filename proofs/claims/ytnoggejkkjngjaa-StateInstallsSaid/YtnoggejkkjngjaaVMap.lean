/- Package sorted: a map's own functions. Conditions: a map has not too many keys. -/
import Derived.Test.YtnoggejkkjngjaaVTreeP
import Derived.Test.YtnoggejkkjngjaaOp
set_option maxHeartbeats 8000000
set_option linter.unusedVariables false
set_option linter.unusedSimpArgs false
set_option maxRecDepth 100000
namespace Go.Proofs.Ytnoggejkkjngjaa
open Go Go.Sl
attribute [local irreducible] Go.Sl.Wl Go.Sl.Wc Go.Sl.thenQ Go.Sl.blkQ Go.Sl.loopQ Go.Sl.Fspec

def MpX (p : Nat) (t : Tree) (a : Option Addr) : List Asn := [cb p [.pointer a, .int .i64 t.size] 131, TrA t a]
def MpA (p : Nat) (t : Tree) : Asn := exN (MpX p t)
theorem mp_fold {p : Nat} {t : Tree} {X A0 : List Asn} (a : Option Addr) (h : Ent X (MpX p t a ++ A0)) : Ent X (MpA p t :: A0) := h.trans (Ent.exN_shut (f := MpX p t) a A0)
theorem u8_of (n : Int) : ∃ b : UInt8, Value.int .u8 (IntKind.u8.wrap n) = byteV b := by
  refine ⟨UInt8.ofNat (n % 256).toNat, ?_⟩
  unfold byteV
  rw [IntKind.wrap_u8]
  congr 1
  rw [UInt8.toNat_ofNat']
  omega
theorem int_succ' (k : Nat) : Value.int .i64 ((k : Int) + 1) = Value.int .i64 ((k + 1 : Nat) : Int) := by simp
theorem Tree.halves_fuel : ∀ (f n : Nat), n ≤ f → Tree.halves f n = Tree.halves n n
  | 0, n, h => by obtain rfl : n = 0 := (by omega); rfl
  | f + 1, 0, h => rfl
  | f + 1, n + 1, h => by
    simp only [Tree.halves]
    rw [if_neg (by omega), if_neg (by omega), Tree.halves_fuel f _ (by omega), Tree.halves_fuel n _ (by omega)]
section specs
variable (B : Base)
theorem mnew_spec : Fspec Try.prog B 56 #[] [] (fun v A' => ∃ p, v = .pointer (some ⟨p, 0, none⟩) ∧ A' = [MpA p .nil]) := by
  refine spec_of (args := []) Try.func56 rfl rfl rfl ?_
  repeat' (first
    | refine Wc_seq ?_
    | refine thenQ_normal ?_
    | refine Wc_cond_t (h := ?_)
    | refine Wc_cond_f (h := ?_)
    | refine Wc_ret ?_
    | refine thenQ_ret ?_
    | refine Wc_block ?_
    | refine blkQ_normal ?_
    | refine blkQ_ret ?_
    | refine Wc_exit ?_
    | refine thenQ_exit ?_
    | refine blkQ_hit ?_
    | refine blkQ_miss rfl ?_
    | refine Wc_skip ?_
    | refine Wc_label ?_
    | refine loopQ_exit ?_
    | refine loopQ_ret ?_
    | refine loopQ_normal ?_
    | (refine Wc_region (id := 0) ?_; intro K hK; refine Wl_assign (k := ?_); (refine Wl_nil (hK _ _ ?_); clear hK K))
    | (refine Wc_region (id := 1) ?_; intro K hK; refine Wl_build (k := ?_); (refine Wl_boxAgg (k := ?_); intro r); refine Wl_assign (k := ?_); (refine Wl_nil (hK _ _ ?_); clear hK K))
    | (refine Wc_cond (ht := (fun ht => ?_)) (hf := (fun ht => ?_)) <;> (try simp at ht) <;> (try (exfalso; omega))))
  exact ⟨Or.inr rfl, _, [MpA _ .nil], tr_nil.trans (mp_fold (A0 := []) none (by (repeat (first | exact Ent.refl _ | exact Ent.nil | refine Ent.take (by (repeat (first | exact Out.head | apply Out.tail)); (first | done | fail)) ?_ | refine Ent.drop1 ?_)))), res1 rfl rfl, _, rfl, rfl⟩
theorem mset_spec (p : Nat) (t : Tree) (k : ByteArray) (v : VX) (h : t.AA) (hs : t.size ≤ 1000000) :
    Fspec Try.prog B 58 #[.pointer (some ⟨p, 0, none⟩), .string k, .agg #[.int .i64 v.a, .int .i64 v.b, .bool v.c, .string v.d]] [MpA p t] (fun w A' => w = .bool (t.news k) ∧ A' = [MpA p (t.set k v)]) := by
  have hz := Tree.size_set k v t
  refine spec_of (args := [_, _, _]) Try.func58 rfl rfl rfl ?_
  refine Wc_exN (fun a => ?_)
  simp only [MpX]
  simp only [List.cons_append, List.nil_append]
  repeat' (first
    | refine Wc_seq ?_
    | refine thenQ_normal ?_
    | refine Wc_cond_t (h := ?_)
    | refine Wc_cond_f (h := ?_)
    | refine Wc_ret ?_
    | refine thenQ_ret ?_
    | refine Wc_block ?_
    | refine blkQ_normal ?_
    | refine blkQ_ret ?_
    | refine Wc_exit ?_
    | refine thenQ_exit ?_
    | refine blkQ_hit ?_
    | refine blkQ_miss rfl ?_
    | refine Wc_skip ?_
    | refine Wc_label ?_
    | refine loopQ_exit ?_
    | refine loopQ_ret ?_
    | refine loopQ_normal ?_
    | (refine Wc_region (id := 0) ?_; intro K hK; (refine Wl_boxAgg (k := ?_); intro r); refine Wl_assign (k := ?_); (refine Wl_nil (hK _ _ ?_); clear hK K))
    | (refine Wc_region (id := 1) ?_; intro K hK; refine Wl_move (k := ?_); refine Wl_ptr_eq_nil (k' := ?_); (refine Wl_nil (hK _ _ ?_); clear hK K))
    | (refine Wc_region (id := 2) ?_; intro K hK; refine Wl_assign (k := ?_); (refine Wl_nil (hK _ _ ?_); clear hK K))
    | (refine Wc_region (id := 3) ?_; intro K hK; refine Wl_move (k := ?_); refine Wl_nilCheck (k := ?_); refine Wl_fieldAddr (k := ?_); refine Wl_load (k := ?_); refine Wl_assign (k := ?_); (refine Wl_nil (hK _ _ ?_); clear hK K))
    | (refine Wc_draw (id := 4) (h := ?_); intro K hK; refine Wl_move (k := ?_); refine Wl_move (k := ?_); refine Wl_move (k := ?_); refine Wl_nilCheck (k := ?_); refine Wl_fieldAddr (k := ?_); refine Wl_load (k := ?_); refine Wl_move (k := ?_); refine Wl_loadR (k := ?_); ((refine Wl_call (hs := (set_spec B t a k v ((t.size : Int) + 1) t.size (.pointer a) p (by omega) (by omega) (h.LB_size.mono (by omega)) (by omega))) (k := ?_); rintro w A' ⟨a1, rfl, rfl⟩; simp only [List.cons_append, List.nil_append])) <;> (refine Wl_nilCheck (k := ?_); refine Wl_fieldAddr (k := ?_); refine Wl_store (ho := rfl) (k := ?_); (refine Wl_nil (hK _ _ ?_); clear hK K)))
    | (refine Wc_region (id := 5) ?_; intro K hK; refine Wl_move (k := ?_); refine Wl_nilCheck (k := ?_); refine Wl_fieldAddr (k := ?_); refine Wl_load (k := ?_); refine Wl_move (k := ?_); refine Wl_gtr (k' := ?_); refine Wl_assign (k := ?_); (refine Wl_nil (hK _ _ ?_); clear hK K))
    | (refine Wc_cond (ht := (fun ht => ?_)) (hf := (fun ht => ?_)) <;> (try simp at ht) <;> (try (exfalso; omega))))
  have hv : decide ((t.size : Int) < (t.size : Int) + (if t.news k then 1 else 0)) = t.news k := by cases t.news k <;> simp <;> omega
  have hc : (t.size : Int) + (if t.news k then 1 else 0) = ((t.set k v).size : Nat) := by rw [hz]; cases t.news k <;> simp
  refine ⟨Or.inr rfl, _, [MpA p _], mp_fold (A0 := []) a1 ?_, res1 rfl rfl, congrArg Value.bool hv, rfl⟩
  simp only [MpX, ← hc]
  (repeat (first | exact Ent.refl _ | exact Ent.nil | refine Ent.take (by (repeat (first | exact Out.head | apply Out.tail)); (first | done | fail)) ?_ | refine Ent.drop1 ?_))
end specs
end Go.Proofs.Ytnoggejkkjngjaa
