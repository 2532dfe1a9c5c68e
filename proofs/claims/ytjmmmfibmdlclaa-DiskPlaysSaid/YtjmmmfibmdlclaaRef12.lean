/- The document's disk (meridianref12): what each of its functions does, told by the same states as package disk. -/
import Derived.Test.YtjmmmfibmdlclaaReads
set_option linter.unusedVariables false
set_option linter.unusedSimpArgs false
set_option maxRecDepth 100000
namespace Go.Proofs.Ytjmmmfibmdlclaa
open Go Go.Sl
attribute [local irreducible] Go.Sl.Wl Go.Sl.Wc Go.Sl.thenQ Go.Sl.blkQ Go.Sl.loopQ Go.Sl.Fspec

def strV (l : List UInt8) : Value := .string (bytesOf l)
def secs (f : Nat → List UInt8) (n : Nat) : List Value := (List.range n).map fun k => strV (f k)
theorem secs_len (f : Nat → List UInt8) (n : Nat) : (secs f n).length = n := by simp [secs]
theorem secs_get (f : Nat → List UInt8) (n i : Nat) (h : i < n) : (secs f n)[i]? = some (strV (f i)) := by simp [secs, h]
theorem secs_set (f : Nat → List UInt8) (n i : Nat) (b : List UInt8) : (secs f n).set i (strV b) = secs (fun k => if i = k then b else f k) n := by
  apply List.ext_getElem?
  intro k
  rw [List.getElem?_set]
  by_cases hk : k < n
  · rw [secs_get _ _ _ hk, secs_get _ _ _ hk, secs_len]
    by_cases e : i = k
    · subst e; simp [hk]
    · simp [e]
  · have h1 : ∀ f : Nat → List UInt8, (secs f n)[k]? = none := fun f => List.getElem?_eq_none (by rw [secs_len]; omega)
    rw [h1, h1, secs_len]
    split
    · rw [if_neg (by omega)]
    · rfl
theorem put_pend (D : Dk) (i : Nat) (b : List UInt8) : (D.put i b).pend = D.pend ++ [(i, b)] := rfl
theorem put_kept (D : Dk) (i : Nat) (b : List UInt8) : (D.put i b).kept = D.kept := rfl
theorem put_fuse (D : Dk) (i : Nat) (b : List UInt8) : (D.put i b).fuse = if 0 < D.fuse then D.fuse - 1 else D.fuse := rfl
theorem put_down (D : Dk) (i : Nat) (b : List UInt8) : (D.put i b).down = D.down := rfl
theorem put_steps (D : Dk) (i : Nat) (b : List UInt8) : (D.put i b).steps = D.steps + 1 := rfl
structure RfX where
  ka : Option Addr
  kc : Nat
  sa : Option Addr
  sc : Nat
  aa : Option Addr
  ac : Nat
  wa : Option Addr
  wc : Nat
def RefL (p n : Nat) (D : Dk) (x : RfX) : List Asn :=
  [cb p [.slice x.ka n x.kc, .slice x.sa n x.sc, .slice x.aa D.pend.length x.ac, .slice x.wa D.pend.length x.wc, .int .i64 D.fuse, .bool D.down, .int .i64 D.steps] 59,
   own x.ka n x.kc 1 (secs (sec D.kept) n) 9, own x.sa n x.sc 1 (secs D.seen n) 9,
   own x.aa D.pend.length x.ac 1 (D.pend.map fun q => .int .i64 q.1) 3, own x.wa D.pend.length x.wc 1 (D.pend.map fun q => strV q.2) 9]
def RefP (p n : Nat) (D : Dk) : Asn := exN (RefL p n D)
theorem fold_ref {p n : Nat} {D : Dk} {x : RfX} {X A0 : List Asn} (h : Ent X (RefL p n D x ++ A0)) : Ent X (RefP p n D :: A0) := h.trans (Ent.exN_shut (f := RefL p n D) x A0)

section specs
variable (B : Base)
theorem rstep_no (p : Nat) (x y z u : Value) (fuse steps : Int) (down : Bool) (h : down = true ∨ fuse = 0) :
    Fspec Try.prog B 42 #[.pointer (some ⟨p, 0, none⟩)] [cb p [x, y, z, u, .int .i64 fuse, .bool down, .int .i64 steps] 59]
      (fun v A' => v = .bool false ∧ A' = [cb p [x, y, z, u, .int .i64 fuse, .bool true, .int .i64 steps] 59]) := by
  refine spec_of (args := [_]) Try.func42 rfl rfl rfl ?_
  repeat' (first
    | refine Wc_seq ?_
    | refine thenQ_normal ?_
    | refine Wc_cond_t rfl ?_
    | refine Wc_cond_f rfl ?_
    | refine Wc_ret ?_
    | refine thenQ_ret ?_
    | refine Wc_block ?_
    | refine blkQ_normal ?_
    | refine blkQ_ret ?_
    | refine Wc_exit ?_
    | refine thenQ_exit ?_
    | refine blkQ_hit ?_
    | refine blkQ_miss rfl ?_
    | refine Wc_skip ?_
    | refine Wc_label ?_
    | refine loopQ_exit ?_
    | refine loopQ_ret ?_
    | refine loopQ_normal ?_
    | (refine Wc_region (id := 0) ?_; intro K hK; refine Wl_assign rfl (by repeat (first | exact Ev.here | exact Ev.const | exact Ev.arg rfl | apply Ev.there rfl | exact Ev.none rfl | exact Ev.func | exact Ev.var)) ?_; (refine Wl_nil (hK _ _ ?_); clear hK K))
    | (refine Wc_region (id := 1) ?_; intro K hK; refine Wl_move rfl (by repeat (first | exact Ev.here | exact Ev.const | exact Ev.arg rfl | apply Ev.there rfl | exact Ev.none rfl | exact Ev.func | exact Ev.var)) ?_; refine Wl_nilCheck rfl rfl ?_; refine Wl_fieldAddr rfl rfl rfl ?_; refine Wl_load (by decide) rfl rfl (by repeat (first | exact Rd.head | exact Rd.base (by assumption) | apply Rd.tail)) rfl ?_; refine Wl_eql rfl rfl rfl ?_; (refine Wl_nil (hK _ _ ?_); clear hK K))
    | (refine Wc_region (id := 2) ?_; intro K hK; refine Wl_move rfl (by repeat (first | exact Ev.here | exact Ev.const | exact Ev.arg rfl | apply Ev.there rfl | exact Ev.none rfl | exact Ev.func | exact Ev.var)) ?_; refine Wl_nilCheck rfl rfl ?_; refine Wl_fieldAddr rfl rfl rfl ?_; refine Wl_store rfl (by repeat (first | exact Ev.here | exact Ev.const | exact Ev.arg rfl | apply Ev.there rfl | exact Ev.none rfl | exact Ev.func | exact Ev.var)) (by rfl) (by repeat (first | exact Upd.head | apply Upd.tail)) (by repeat (first | exact SetAt.zero | apply SetAt.succ)) rfl (by simp) ?_; (refine Wl_nil (hK _ _ ?_); clear hK K))
    | (refine Wc_region (id := 3) ?_; intro K hK; refine Wl_move rfl (by repeat (first | exact Ev.here | exact Ev.const | exact Ev.arg rfl | apply Ev.there rfl | exact Ev.none rfl | exact Ev.func | exact Ev.var)) ?_; refine Wl_nilCheck rfl rfl ?_; refine Wl_fieldAddr rfl rfl rfl ?_; refine Wl_load (by decide) rfl rfl (by repeat (first | exact Rd.head | exact Rd.base (by assumption) | apply Rd.tail)) rfl ?_; (refine Wl_nil (hK _ _ ?_); clear hK K))
    | (refine Wc_region (id := 4) ?_; intro K hK; refine Wl_assign rfl (by repeat (first | exact Ev.here | exact Ev.const | exact Ev.arg rfl | apply Ev.there rfl | exact Ev.none rfl | exact Ev.func | exact Ev.var)) ?_; (refine Wl_nil (hK _ _ ?_); clear hK K))
    | (refine Wc_region (id := 5) ?_; intro K hK; refine Wl_move rfl (by repeat (first | exact Ev.here | exact Ev.const | exact Ev.arg rfl | apply Ev.there rfl | exact Ev.none rfl | exact Ev.func | exact Ev.var)) ?_; refine Wl_nilCheck rfl rfl ?_; refine Wl_fieldAddr rfl rfl rfl ?_; refine Wl_load (by decide) rfl rfl (by repeat (first | exact Rd.head | exact Rd.base (by assumption) | apply Rd.tail)) rfl ?_; refine Wl_gtr rfl rfl rfl ?_; (refine Wl_nil (hK _ _ ?_); clear hK K))
    | (refine Wc_region (id := 6) ?_; intro K hK; refine Wl_move rfl (by repeat (first | exact Ev.here | exact Ev.const | exact Ev.arg rfl | apply Ev.there rfl | exact Ev.none rfl | exact Ev.func | exact Ev.var)) ?_; refine Wl_nilCheck rfl rfl ?_; refine Wl_fieldAddr rfl rfl rfl ?_; refine Wl_load (by decide) rfl rfl (by repeat (first | exact Rd.head | exact Rd.base (by assumption) | apply Rd.tail)) rfl ?_; refine Wl_sub rfl rfl rfl (by first | exact fits_i64 (by omega) | exact fits_u8 (by omega) | exact fits_u64 (by omega) | exact fits_u32 (by omega)) ?_; refine Wl_nilCheck rfl rfl ?_; refine Wl_fieldAddr rfl rfl rfl ?_; refine Wl_store rfl (by repeat (first | exact Ev.here | exact Ev.const | exact Ev.arg rfl | apply Ev.there rfl | exact Ev.none rfl | exact Ev.func | exact Ev.var)) (by rfl) (by repeat (first | exact Upd.head | apply Upd.tail)) (by repeat (first | exact SetAt.zero | apply SetAt.succ)) rfl (by simp) ?_; (refine Wl_nil (hK _ _ ?_); clear hK K))
    | (refine Wc_region (id := 7) ?_; intro K hK; refine Wl_move rfl (by repeat (first | exact Ev.here | exact Ev.const | exact Ev.arg rfl | apply Ev.there rfl | exact Ev.none rfl | exact Ev.func | exact Ev.var)) ?_; refine Wl_nilCheck rfl rfl ?_; refine Wl_fieldAddr rfl rfl rfl ?_; refine Wl_load (by decide) rfl rfl (by repeat (first | exact Rd.head | exact Rd.base (by assumption) | apply Rd.tail)) rfl ?_; refine Wl_add rfl rfl rfl (by first | exact fits_i64 (by omega) | exact fits_u8 (by omega) | exact fits_u64 (by omega) | exact fits_u32 (by omega)) ?_; refine Wl_nilCheck rfl rfl ?_; refine Wl_fieldAddr rfl rfl rfl ?_; refine Wl_store rfl (by repeat (first | exact Ev.here | exact Ev.const | exact Ev.arg rfl | apply Ev.there rfl | exact Ev.none rfl | exact Ev.func | exact Ev.var)) (by rfl) (by repeat (first | exact Upd.head | apply Upd.tail)) (by repeat (first | exact SetAt.zero | apply SetAt.succ)) rfl (by simp) ?_; (refine Wl_nil (hK _ _ ?_); clear hK K))
    | (refine Wc_region (id := 8) ?_; intro K hK; refine Wl_assign rfl (by repeat (first | exact Ev.here | exact Ev.const | exact Ev.arg rfl | apply Ev.there rfl | exact Ev.none rfl | exact Ev.func | exact Ev.var)) ?_; (refine Wl_nil (hK _ _ ?_); clear hK K))
    | (refine Wc_cond rfl (fun ht => ?_) (fun ht => ?_) <;> (try simp at ht) <;> (try (exfalso; omega))))
  all_goals first | (refine ⟨Or.inr rfl, _, _, Ent.refl _, res1 rfl rfl, ?_⟩; exact ⟨rfl, rfl⟩) | (subst_vars; refine ⟨Or.inr rfl, _, _, Ent.refl _, res1 rfl rfl, ?_⟩; exact ⟨rfl, rfl⟩) | (exfalso; rcases h with h | h <;> simp_all)
theorem rstep_yes (p : Nat) (x y z u : Value) (fuse steps : Int) (hn : fuse ≠ 0) (hf : -1 ≤ fuse ∧ fuse ≤ 9223372036854775807) (hs : 0 ≤ steps ∧ steps ≤ 4611686018427387904) :
    Fspec Try.prog B 42 #[.pointer (some ⟨p, 0, none⟩)] [cb p [x, y, z, u, .int .i64 fuse, .bool false, .int .i64 steps] 59]
      (fun v A' => v = .bool true ∧ A' = [cb p [x, y, z, u, .int .i64 (if 0 < fuse then fuse - 1 else fuse), .bool false, .int .i64 (steps + 1)] 59]) := by
  refine spec_of (args := [_]) Try.func42 rfl rfl rfl ?_
  repeat' (first
    | refine Wc_seq ?_
    | refine thenQ_normal ?_
    | refine Wc_cond_t rfl ?_
    | refine Wc_cond_f rfl ?_
    | refine Wc_ret ?_
    | refine thenQ_ret ?_
    | refine Wc_block ?_
    | refine blkQ_normal ?_
    | refine blkQ_ret ?_
    | refine Wc_exit ?_
    | refine thenQ_exit ?_
    | refine blkQ_hit ?_
    | refine blkQ_miss rfl ?_
    | refine Wc_skip ?_
    | refine Wc_label ?_
    | refine loopQ_exit ?_
    | refine loopQ_ret ?_
    | refine loopQ_normal ?_
    | (refine Wc_region (id := 0) ?_; intro K hK; refine Wl_assign rfl (by repeat (first | exact Ev.here | exact Ev.const | exact Ev.arg rfl | apply Ev.there rfl | exact Ev.none rfl | exact Ev.func | exact Ev.var)) ?_; (refine Wl_nil (hK _ _ ?_); clear hK K))
    | (refine Wc_region (id := 1) ?_; intro K hK; refine Wl_move rfl (by repeat (first | exact Ev.here | exact Ev.const | exact Ev.arg rfl | apply Ev.there rfl | exact Ev.none rfl | exact Ev.func | exact Ev.var)) ?_; refine Wl_nilCheck rfl rfl ?_; refine Wl_fieldAddr rfl rfl rfl ?_; refine Wl_load (by decide) rfl rfl (by repeat (first | exact Rd.head | exact Rd.base (by assumption) | apply Rd.tail)) rfl ?_; refine Wl_eql rfl rfl rfl ?_; (refine Wl_nil (hK _ _ ?_); clear hK K))
    | (refine Wc_region (id := 2) ?_; intro K hK; refine Wl_move rfl (by repeat (first | exact Ev.here | exact Ev.const | exact Ev.arg rfl | apply Ev.there rfl | exact Ev.none rfl | exact Ev.func | exact Ev.var)) ?_; refine Wl_nilCheck rfl rfl ?_; refine Wl_fieldAddr rfl rfl rfl ?_; refine Wl_store rfl (by repeat (first | exact Ev.here | exact Ev.const | exact Ev.arg rfl | apply Ev.there rfl | exact Ev.none rfl | exact Ev.func | exact Ev.var)) (by rfl) (by repeat (first | exact Upd.head | apply Upd.tail)) (by repeat (first | exact SetAt.zero | apply SetAt.succ)) rfl (by simp) ?_; (refine Wl_nil (hK _ _ ?_); clear hK K))
    | (refine Wc_region (id := 3) ?_; intro K hK; refine Wl_move rfl (by repeat (first | exact Ev.here | exact Ev.const | exact Ev.arg rfl | apply Ev.there rfl | exact Ev.none rfl | exact Ev.func | exact Ev.var)) ?_; refine Wl_nilCheck rfl rfl ?_; refine Wl_fieldAddr rfl rfl rfl ?_; refine Wl_load (by decide) rfl rfl (by repeat (first | exact Rd.head | exact Rd.base (by assumption) | apply Rd.tail)) rfl ?_; (refine Wl_nil (hK _ _ ?_); clear hK K))
    | (refine Wc_region (id := 4) ?_; intro K hK; refine Wl_assign rfl (by repeat (first | exact Ev.here | exact Ev.const | exact Ev.arg rfl | apply Ev.there rfl | exact Ev.none rfl | exact Ev.func | exact Ev.var)) ?_; (refine Wl_nil (hK _ _ ?_); clear hK K))
    | (refine Wc_region (id := 5) ?_; intro K hK; refine Wl_move rfl (by repeat (first | exact Ev.here | exact Ev.const | exact Ev.arg rfl | apply Ev.there rfl | exact Ev.none rfl | exact Ev.func | exact Ev.var)) ?_; refine Wl_nilCheck rfl rfl ?_; refine Wl_fieldAddr rfl rfl rfl ?_; refine Wl_load (by decide) rfl rfl (by repeat (first | exact Rd.head | exact Rd.base (by assumption) | apply Rd.tail)) rfl ?_; refine Wl_gtr rfl rfl rfl ?_; (refine Wl_nil (hK _ _ ?_); clear hK K))
    | (refine Wc_region (id := 6) ?_; intro K hK; refine Wl_move rfl (by repeat (first | exact Ev.here | exact Ev.const | exact Ev.arg rfl | apply Ev.there rfl | exact Ev.none rfl | exact Ev.func | exact Ev.var)) ?_; refine Wl_nilCheck rfl rfl ?_; refine Wl_fieldAddr rfl rfl rfl ?_; refine Wl_load (by decide) rfl rfl (by repeat (first | exact Rd.head | exact Rd.base (by assumption) | apply Rd.tail)) rfl ?_; refine Wl_sub rfl rfl rfl (by first | exact fits_i64 (by omega) | exact fits_u8 (by omega) | exact fits_u64 (by omega) | exact fits_u32 (by omega)) ?_; refine Wl_nilCheck rfl rfl ?_; refine Wl_fieldAddr rfl rfl rfl ?_; refine Wl_store rfl (by repeat (first | exact Ev.here | exact Ev.const | exact Ev.arg rfl | apply Ev.there rfl | exact Ev.none rfl | exact Ev.func | exact Ev.var)) (by rfl) (by repeat (first | exact Upd.head | apply Upd.tail)) (by repeat (first | exact SetAt.zero | apply SetAt.succ)) rfl (by simp) ?_; (refine Wl_nil (hK _ _ ?_); clear hK K))
    | (refine Wc_region (id := 7) ?_; intro K hK; refine Wl_move rfl (by repeat (first | exact Ev.here | exact Ev.const | exact Ev.arg rfl | apply Ev.there rfl | exact Ev.none rfl | exact Ev.func | exact Ev.var)) ?_; refine Wl_nilCheck rfl rfl ?_; refine Wl_fieldAddr rfl rfl rfl ?_; refine Wl_load (by decide) rfl rfl (by repeat (first | exact Rd.head | exact Rd.base (by assumption) | apply Rd.tail)) rfl ?_; refine Wl_add rfl rfl rfl (by first | exact fits_i64 (by omega) | exact fits_u8 (by omega) | exact fits_u64 (by omega) | exact fits_u32 (by omega)) ?_; refine Wl_nilCheck rfl rfl ?_; refine Wl_fieldAddr rfl rfl rfl ?_; refine Wl_store rfl (by repeat (first | exact Ev.here | exact Ev.const | exact Ev.arg rfl | apply Ev.there rfl | exact Ev.none rfl | exact Ev.func | exact Ev.var)) (by rfl) (by repeat (first | exact Upd.head | apply Upd.tail)) (by repeat (first | exact SetAt.zero | apply SetAt.succ)) rfl (by simp) ?_; (refine Wl_nil (hK _ _ ?_); clear hK K))
    | (refine Wc_region (id := 8) ?_; intro K hK; refine Wl_assign rfl (by repeat (first | exact Ev.here | exact Ev.const | exact Ev.arg rfl | apply Ev.there rfl | exact Ev.none rfl | exact Ev.func | exact Ev.var)) ?_; (refine Wl_nil (hK _ _ ?_); clear hK K))
    | (refine Wc_cond rfl (fun ht => ?_) (fun ht => ?_) <;> (try simp at ht) <;> (try (exfalso; omega))))
  · refine ⟨Or.inr rfl, _, _, Ent.refl _, res1 rfl rfl, ?_⟩; exact ⟨rfl, by rw [if_pos (by assumption)]⟩
  · refine ⟨Or.inr rfl, _, _, Ent.refl _, res1 rfl rfl, ?_⟩; exact ⟨rfl, by rw [if_neg (by omega)]⟩
theorem rread_bad (p n : Nat) (i : Int) (D : Dk) (hi : i < 0 ∨ (n : Int) ≤ i) :
    Fspec Try.prog B 26 #[.pointer (some ⟨p, 0, none⟩), .int .i64 i] [RefP p n D]
      (fun v A' => v = .tuple #[strV [], .int .i64 1] ∧ A' = [RefP p n D]) := by
  refine spec_of (args := [_, _]) Try.func26 rfl rfl rfl ?_
  refine Wc_exN (fun x => ?_)
  simp only [RefL]
  simp only [List.cons_append, List.nil_append]
  repeat' (first
    | refine Wc_seq ?_
    | refine thenQ_normal ?_
    | refine Wc_cond_t rfl ?_
    | refine Wc_cond_f rfl ?_
    | refine Wc_ret ?_
    | refine thenQ_ret ?_
    | refine Wc_block ?_
    | refine blkQ_normal ?_
    | refine blkQ_ret ?_
    | refine Wc_exit ?_
    | refine thenQ_exit ?_
    | refine blkQ_hit ?_
    | refine blkQ_miss rfl ?_
    | refine Wc_skip ?_
    | refine Wc_label ?_
    | refine loopQ_exit ?_
    | refine loopQ_ret ?_
    | refine loopQ_normal ?_
    | (refine Wc_region (id := 0) ?_; intro K hK; refine Wl_assign rfl (by repeat (first | exact Ev.here | exact Ev.const | exact Ev.arg rfl | apply Ev.there rfl | exact Ev.none rfl | exact Ev.func | exact Ev.var)) ?_; refine Wl_assign rfl (by repeat (first | exact Ev.here | exact Ev.const | exact Ev.arg rfl | apply Ev.there rfl | exact Ev.none rfl | exact Ev.func | exact Ev.var)) ?_; (refine Wl_nil (hK _ _ ?_); clear hK K))
    | (refine Wc_region (id := 1) ?_; intro K hK; refine Wl_move rfl (by repeat (first | exact Ev.here | exact Ev.const | exact Ev.arg rfl | apply Ev.there rfl | exact Ev.none rfl | exact Ev.func | exact Ev.var)) ?_; refine Wl_lss rfl rfl rfl ?_; refine Wl_move rfl (by repeat (first | exact Ev.here | exact Ev.const | exact Ev.arg rfl | apply Ev.there rfl | exact Ev.none rfl | exact Ev.func | exact Ev.var)) ?_; ((first | (refine Wl_guard rfl ?_; refine Wl_move rfl (by repeat (first | exact Ev.here | exact Ev.const | exact Ev.arg rfl | apply Ev.there rfl | exact Ev.none rfl | exact Ev.func | exact Ev.var)) ?_) | refine Wl_guard_no rfl rfl rfl ?_ | refine Wl_guard_un rfl rfl ?_ | ((refine Wl_split rfl rfl (fun ht => ?_) (fun ht => ?_) <;> (try simp at ht) <;> (try (exfalso; omega))) <;> (first | (refine Wl_guard rfl ?_; refine Wl_move rfl (by repeat (first | exact Ev.here | exact Ev.const | exact Ev.arg rfl | apply Ev.there rfl | exact Ev.none rfl | exact Ev.func | exact Ev.var)) ?_) | refine Wl_guard_no rfl rfl rfl ?_ | refine Wl_guard_un rfl rfl ?_)))) <;> (((first | (refine Wl_guard rfl ?_; refine Wl_move rfl (by repeat (first | exact Ev.here | exact Ev.const | exact Ev.arg rfl | apply Ev.there rfl | exact Ev.none rfl | exact Ev.func | exact Ev.var)) ?_) | refine Wl_guard_no rfl rfl rfl ?_ | refine Wl_guard_un rfl rfl ?_ | ((refine Wl_split rfl rfl (fun ht => ?_) (fun ht => ?_) <;> (try simp at ht) <;> (try (exfalso; omega))) <;> (first | (refine Wl_guard rfl ?_; refine Wl_move rfl (by repeat (first | exact Ev.here | exact Ev.const | exact Ev.arg rfl | apply Ev.there rfl | exact Ev.none rfl | exact Ev.func | exact Ev.var)) ?_) | refine Wl_guard_no rfl rfl rfl ?_ | refine Wl_guard_un rfl rfl ?_)))) <;> (((first | (refine Wl_guard rfl ?_; refine Wl_nilCheck rfl rfl ?_) | refine Wl_guard_no rfl rfl rfl ?_ | refine Wl_guard_un rfl rfl ?_ | ((refine Wl_split rfl rfl (fun ht => ?_) (fun ht => ?_) <;> (try simp at ht) <;> (try (exfalso; omega))) <;> (first | (refine Wl_guard rfl ?_; refine Wl_nilCheck rfl rfl ?_) | refine Wl_guard_no rfl rfl rfl ?_ | refine Wl_guard_un rfl rfl ?_)))) <;> (((first | (refine Wl_guard rfl ?_; refine Wl_fieldAddr rfl rfl rfl ?_) | refine Wl_guard_no rfl rfl rfl ?_ | refine Wl_guard_un rfl rfl ?_ | ((refine Wl_split rfl rfl (fun ht => ?_) (fun ht => ?_) <;> (try simp at ht) <;> (try (exfalso; omega))) <;> (first | (refine Wl_guard rfl ?_; refine Wl_fieldAddr rfl rfl rfl ?_) | refine Wl_guard_no rfl rfl rfl ?_ | refine Wl_guard_un rfl rfl ?_)))) <;> (((first | (refine Wl_guard rfl ?_; refine Wl_load (by decide) rfl rfl (by repeat (first | exact Rd.head | exact Rd.base (by assumption) | apply Rd.tail)) rfl ?_) | refine Wl_guard_no rfl rfl rfl ?_ | refine Wl_guard_un rfl rfl ?_ | ((refine Wl_split rfl rfl (fun ht => ?_) (fun ht => ?_) <;> (try simp at ht) <;> (try (exfalso; omega))) <;> (first | (refine Wl_guard rfl ?_; refine Wl_load (by decide) rfl rfl (by repeat (first | exact Rd.head | exact Rd.base (by assumption) | apply Rd.tail)) rfl ?_) | refine Wl_guard_no rfl rfl rfl ?_ | refine Wl_guard_un rfl rfl ?_)))) <;> (((first | (refine Wl_guard rfl ?_; refine Wl_len_sl rfl rfl ?_) | refine Wl_guard_no rfl rfl rfl ?_ | refine Wl_guard_un rfl rfl ?_ | ((refine Wl_split rfl rfl (fun ht => ?_) (fun ht => ?_) <;> (try simp at ht) <;> (try (exfalso; omega))) <;> (first | (refine Wl_guard rfl ?_; refine Wl_len_sl rfl rfl ?_) | refine Wl_guard_no rfl rfl rfl ?_ | refine Wl_guard_un rfl rfl ?_)))) <;> (((first | (refine Wl_guard rfl ?_; refine Wl_geq rfl rfl rfl ?_) | refine Wl_guard_no rfl rfl rfl ?_ | refine Wl_guard_un rfl rfl ?_ | ((refine Wl_split rfl rfl (fun ht => ?_) (fun ht => ?_) <;> (try simp at ht) <;> (try (exfalso; omega))) <;> (first | (refine Wl_guard rfl ?_; refine Wl_geq rfl rfl rfl ?_) | refine Wl_guard_no rfl rfl rfl ?_ | refine Wl_guard_un rfl rfl ?_)))) <;> ((first | refine Wl_pick_t rfl rfl (by repeat (first | exact Ev.here | exact Ev.const | exact Ev.arg rfl | apply Ev.there rfl | exact Ev.none rfl | exact Ev.func | exact Ev.var)) ?_ | refine Wl_pick_f rfl rfl (by repeat (first | exact Ev.here | exact Ev.const | exact Ev.arg rfl | apply Ev.there rfl | exact Ev.none rfl | exact Ev.func | exact Ev.var)) ?_ | refine Wl_pick rfl rfl rfl ?_); (refine Wl_nil (hK _ _ ?_); clear hK K)))))))))
    | (refine Wc_region (id := 2) ?_; intro K hK; refine Wl_assign rfl (by repeat (first | exact Ev.here | exact Ev.const | exact Ev.arg rfl | apply Ev.there rfl | exact Ev.none rfl | exact Ev.func | exact Ev.var)) ?_; refine Wl_assign rfl (by repeat (first | exact Ev.here | exact Ev.const | exact Ev.arg rfl | apply Ev.there rfl | exact Ev.none rfl | exact Ev.func | exact Ev.var)) ?_; (refine Wl_nil (hK _ _ ?_); clear hK K))
    | (refine Wc_region (id := 3) ?_; intro K hK; refine Wl_move rfl (by repeat (first | exact Ev.here | exact Ev.const | exact Ev.arg rfl | apply Ev.there rfl | exact Ev.none rfl | exact Ev.func | exact Ev.var)) ?_; refine Wl_nilCheck rfl rfl ?_; refine Wl_fieldAddr rfl rfl rfl ?_; refine Wl_load (by decide) rfl rfl (by repeat (first | exact Rd.head | exact Rd.base (by assumption) | apply Rd.tail)) rfl ?_; (refine Wl_nil (hK _ _ ?_); clear hK K))
    | (refine Wc_region (id := 4) ?_; intro K hK; refine Wl_assign rfl (by repeat (first | exact Ev.here | exact Ev.const | exact Ev.arg rfl | apply Ev.there rfl | exact Ev.none rfl | exact Ev.func | exact Ev.var)) ?_; refine Wl_assign rfl (by repeat (first | exact Ev.here | exact Ev.const | exact Ev.arg rfl | apply Ev.there rfl | exact Ev.none rfl | exact Ev.func | exact Ev.var)) ?_; (refine Wl_nil (hK _ _ ?_); clear hK K))
    | (refine Wc_region (id := 5) ?_; intro K hK; refine Wl_move rfl (by repeat (first | exact Ev.here | exact Ev.const | exact Ev.arg rfl | apply Ev.there rfl | exact Ev.none rfl | exact Ev.func | exact Ev.var)) ?_; refine Wl_nilCheck rfl rfl ?_; refine Wl_fieldAddr rfl rfl rfl ?_; refine Wl_load (by decide) rfl rfl (by repeat (first | exact Rd.head | exact Rd.base (by assumption) | apply Rd.tail)) rfl ?_; refine Wl_move rfl (by repeat (first | exact Ev.here | exact Ev.const | exact Ev.arg rfl | apply Ev.there rfl | exact Ev.none rfl | exact Ev.func | exact Ev.var)) ?_; ((exfalso; omega)) <;> (refine Wl_load (by decide) rfl rfl (by repeat (first | exact Rd.head | exact Rd.base (by assumption) | apply Rd.tail)) rfl ?_; refine Wl_assign rfl (by repeat (first | exact Ev.here | exact Ev.const | exact Ev.arg rfl | apply Ev.there rfl | exact Ev.none rfl | exact Ev.func | exact Ev.var)) ?_; refine Wl_assign rfl (by repeat (first | exact Ev.here | exact Ev.const | exact Ev.arg rfl | apply Ev.there rfl | exact Ev.none rfl | exact Ev.func | exact Ev.var)) ?_; (refine Wl_nil (hK _ _ ?_); clear hK K)))
    | (refine Wc_cond rfl (fun ht => ?_) (fun ht => ?_) <;> (try simp at ht) <;> (try (exfalso; omega))))
  all_goals exact ⟨Or.inr rfl, _, [_], fold_ref (A0 := []) (Ent.refl _), res2 rfl rfl rfl, rfl, rfl⟩
theorem rread_down (p n : Nat) (i : Int) (D : Dk) (hi : 0 ≤ i ∧ i < n) (hd : D.down = true) :
    Fspec Try.prog B 26 #[.pointer (some ⟨p, 0, none⟩), .int .i64 i] [RefP p n D]
      (fun v A' => v = .tuple #[strV [], .int .i64 7] ∧ A' = [RefP p n D]) := by
  refine spec_of (args := [_, _]) Try.func26 rfl rfl rfl ?_
  refine Wc_exN (fun x => ?_)
  simp only [RefL, hd]
  simp only [List.cons_append, List.nil_append]
  repeat' (first
    | refine Wc_seq ?_
    | refine thenQ_normal ?_
    | refine Wc_cond_t rfl ?_
    | refine Wc_cond_f rfl ?_
    | refine Wc_ret ?_
    | refine thenQ_ret ?_
    | refine Wc_block ?_
    | refine blkQ_normal ?_
    | refine blkQ_ret ?_
    | refine Wc_exit ?_
    | refine thenQ_exit ?_
    | refine blkQ_hit ?_
    | refine blkQ_miss rfl ?_
    | refine Wc_skip ?_
    | refine Wc_label ?_
    | refine loopQ_exit ?_
    | refine loopQ_ret ?_
    | refine loopQ_normal ?_
    | (refine Wc_region (id := 0) ?_; intro K hK; refine Wl_assign rfl (by repeat (first | exact Ev.here | exact Ev.const | exact Ev.arg rfl | apply Ev.there rfl | exact Ev.none rfl | exact Ev.func | exact Ev.var)) ?_; refine Wl_assign rfl (by repeat (first | exact Ev.here | exact Ev.const | exact Ev.arg rfl | apply Ev.there rfl | exact Ev.none rfl | exact Ev.func | exact Ev.var)) ?_; (refine Wl_nil (hK _ _ ?_); clear hK K))
    | (refine Wc_region (id := 1) ?_; intro K hK; refine Wl_move rfl (by repeat (first | exact Ev.here | exact Ev.const | exact Ev.arg rfl | apply Ev.there rfl | exact Ev.none rfl | exact Ev.func | exact Ev.var)) ?_; refine Wl_lss rfl rfl rfl ?_; refine Wl_move rfl (by repeat (first | exact Ev.here | exact Ev.const | exact Ev.arg rfl | apply Ev.there rfl | exact Ev.none rfl | exact Ev.func | exact Ev.var)) ?_; ((first | (refine Wl_guard rfl ?_; refine Wl_move rfl (by repeat (first | exact Ev.here | exact Ev.const | exact Ev.arg rfl | apply Ev.there rfl | exact Ev.none rfl | exact Ev.func | exact Ev.var)) ?_) | refine Wl_guard_no rfl rfl rfl ?_ | refine Wl_guard_un rfl rfl ?_ | ((refine Wl_split rfl rfl (fun ht => ?_) (fun ht => ?_) <;> (try simp at ht) <;> (try (exfalso; omega))) <;> (first | (refine Wl_guard rfl ?_; refine Wl_move rfl (by repeat (first | exact Ev.here | exact Ev.const | exact Ev.arg rfl | apply Ev.there rfl | exact Ev.none rfl | exact Ev.func | exact Ev.var)) ?_) | refine Wl_guard_no rfl rfl rfl ?_ | refine Wl_guard_un rfl rfl ?_)))) <;> (((first | (refine Wl_guard rfl ?_; refine Wl_move rfl (by repeat (first | exact Ev.here | exact Ev.const | exact Ev.arg rfl | apply Ev.there rfl | exact Ev.none rfl | exact Ev.func | exact Ev.var)) ?_) | refine Wl_guard_no rfl rfl rfl ?_ | refine Wl_guard_un rfl rfl ?_ | ((refine Wl_split rfl rfl (fun ht => ?_) (fun ht => ?_) <;> (try simp at ht) <;> (try (exfalso; omega))) <;> (first | (refine Wl_guard rfl ?_; refine Wl_move rfl (by repeat (first | exact Ev.here | exact Ev.const | exact Ev.arg rfl | apply Ev.there rfl | exact Ev.none rfl | exact Ev.func | exact Ev.var)) ?_) | refine Wl_guard_no rfl rfl rfl ?_ | refine Wl_guard_un rfl rfl ?_)))) <;> (((first | (refine Wl_guard rfl ?_; refine Wl_nilCheck rfl rfl ?_) | refine Wl_guard_no rfl rfl rfl ?_ | refine Wl_guard_un rfl rfl ?_ | ((refine Wl_split rfl rfl (fun ht => ?_) (fun ht => ?_) <;> (try simp at ht) <;> (try (exfalso; omega))) <;> (first | (refine Wl_guard rfl ?_; refine Wl_nilCheck rfl rfl ?_) | refine Wl_guard_no rfl rfl rfl ?_ | refine Wl_guard_un rfl rfl ?_)))) <;> (((first | (refine Wl_guard rfl ?_; refine Wl_fieldAddr rfl rfl rfl ?_) | refine Wl_guard_no rfl rfl rfl ?_ | refine Wl_guard_un rfl rfl ?_ | ((refine Wl_split rfl rfl (fun ht => ?_) (fun ht => ?_) <;> (try simp at ht) <;> (try (exfalso; omega))) <;> (first | (refine Wl_guard rfl ?_; refine Wl_fieldAddr rfl rfl rfl ?_) | refine Wl_guard_no rfl rfl rfl ?_ | refine Wl_guard_un rfl rfl ?_)))) <;> (((first | (refine Wl_guard rfl ?_; refine Wl_load (by decide) rfl rfl (by repeat (first | exact Rd.head | exact Rd.base (by assumption) | apply Rd.tail)) rfl ?_) | refine Wl_guard_no rfl rfl rfl ?_ | refine Wl_guard_un rfl rfl ?_ | ((refine Wl_split rfl rfl (fun ht => ?_) (fun ht => ?_) <;> (try simp at ht) <;> (try (exfalso; omega))) <;> (first | (refine Wl_guard rfl ?_; refine Wl_load (by decide) rfl rfl (by repeat (first | exact Rd.head | exact Rd.base (by assumption) | apply Rd.tail)) rfl ?_) | refine Wl_guard_no rfl rfl rfl ?_ | refine Wl_guard_un rfl rfl ?_)))) <;> (((first | (refine Wl_guard rfl ?_; refine Wl_len_sl rfl rfl ?_) | refine Wl_guard_no rfl rfl rfl ?_ | refine Wl_guard_un rfl rfl ?_ | ((refine Wl_split rfl rfl (fun ht => ?_) (fun ht => ?_) <;> (try simp at ht) <;> (try (exfalso; omega))) <;> (first | (refine Wl_guard rfl ?_; refine Wl_len_sl rfl rfl ?_) | refine Wl_guard_no rfl rfl rfl ?_ | refine Wl_guard_un rfl rfl ?_)))) <;> (((first | (refine Wl_guard rfl ?_; refine Wl_geq rfl rfl rfl ?_) | refine Wl_guard_no rfl rfl rfl ?_ | refine Wl_guard_un rfl rfl ?_ | ((refine Wl_split rfl rfl (fun ht => ?_) (fun ht => ?_) <;> (try simp at ht) <;> (try (exfalso; omega))) <;> (first | (refine Wl_guard rfl ?_; refine Wl_geq rfl rfl rfl ?_) | refine Wl_guard_no rfl rfl rfl ?_ | refine Wl_guard_un rfl rfl ?_)))) <;> ((first | refine Wl_pick_t rfl rfl (by repeat (first | exact Ev.here | exact Ev.const | exact Ev.arg rfl | apply Ev.there rfl | exact Ev.none rfl | exact Ev.func | exact Ev.var)) ?_ | refine Wl_pick_f rfl rfl (by repeat (first | exact Ev.here | exact Ev.const | exact Ev.arg rfl | apply Ev.there rfl | exact Ev.none rfl | exact Ev.func | exact Ev.var)) ?_ | refine Wl_pick rfl rfl rfl ?_); (refine Wl_nil (hK _ _ ?_); clear hK K)))))))))
    | (refine Wc_region (id := 2) ?_; intro K hK; refine Wl_assign rfl (by repeat (first | exact Ev.here | exact Ev.const | exact Ev.arg rfl | apply Ev.there rfl | exact Ev.none rfl | exact Ev.func | exact Ev.var)) ?_; refine Wl_assign rfl (by repeat (first | exact Ev.here | exact Ev.const | exact Ev.arg rfl | apply Ev.there rfl | exact Ev.none rfl | exact Ev.func | exact Ev.var)) ?_; (refine Wl_nil (hK _ _ ?_); clear hK K))
    | (refine Wc_region (id := 3) ?_; intro K hK; refine Wl_move rfl (by repeat (first | exact Ev.here | exact Ev.const | exact Ev.arg rfl | apply Ev.there rfl | exact Ev.none rfl | exact Ev.func | exact Ev.var)) ?_; refine Wl_nilCheck rfl rfl ?_; refine Wl_fieldAddr rfl rfl rfl ?_; refine Wl_load (by decide) rfl rfl (by repeat (first | exact Rd.head | exact Rd.base (by assumption) | apply Rd.tail)) rfl ?_; (refine Wl_nil (hK _ _ ?_); clear hK K))
    | (refine Wc_region (id := 4) ?_; intro K hK; refine Wl_assign rfl (by repeat (first | exact Ev.here | exact Ev.const | exact Ev.arg rfl | apply Ev.there rfl | exact Ev.none rfl | exact Ev.func | exact Ev.var)) ?_; refine Wl_assign rfl (by repeat (first | exact Ev.here | exact Ev.const | exact Ev.arg rfl | apply Ev.there rfl | exact Ev.none rfl | exact Ev.func | exact Ev.var)) ?_; (refine Wl_nil (hK _ _ ?_); clear hK K))
    | (refine Wc_region (id := 5) ?_; intro K hK; refine Wl_move rfl (by repeat (first | exact Ev.here | exact Ev.const | exact Ev.arg rfl | apply Ev.there rfl | exact Ev.none rfl | exact Ev.func | exact Ev.var)) ?_; refine Wl_nilCheck rfl rfl ?_; refine Wl_fieldAddr rfl rfl rfl ?_; refine Wl_load (by decide) rfl rfl (by repeat (first | exact Rd.head | exact Rd.base (by assumption) | apply Rd.tail)) rfl ?_; refine Wl_move rfl (by repeat (first | exact Ev.here | exact Ev.const | exact Ev.arg rfl | apply Ev.there rfl | exact Ev.none rfl | exact Ev.func | exact Ev.var)) ?_; ((skip)) <;> (refine Wl_load (by decide) rfl rfl (by repeat (first | exact Rd.head | exact Rd.base (by assumption) | apply Rd.tail)) rfl ?_; refine Wl_assign rfl (by repeat (first | exact Ev.here | exact Ev.const | exact Ev.arg rfl | apply Ev.there rfl | exact Ev.none rfl | exact Ev.func | exact Ev.var)) ?_; refine Wl_assign rfl (by repeat (first | exact Ev.here | exact Ev.const | exact Ev.arg rfl | apply Ev.there rfl | exact Ev.none rfl | exact Ev.func | exact Ev.var)) ?_; (refine Wl_nil (hK _ _ ?_); clear hK K)))
    | (refine Wc_cond rfl (fun ht => ?_) (fun ht => ?_) <;> (try simp at ht) <;> (try (exfalso; omega))))
  refine ⟨Or.inr rfl, _, [_], fold_ref (A0 := []) (D := D) (x := x) ?_, res2 rfl rfl rfl, rfl, rfl⟩
  simp only [RefL, hd]
  exact Ent.refl _
theorem rread_ok (p n i : Nat) (D : Dk) (hd : D.down = false) (hi : i < n) :
    Fspec Try.prog B 26 #[.pointer (some ⟨p, 0, none⟩), .int .i64 i] [RefP p n D]
      (fun v A' => v = .tuple #[strV (D.seen i), .int .i64 0] ∧ A' = [RefP p n D]) := by
  refine spec_of (args := [_, _]) Try.func26 rfl rfl rfl ?_
  refine Wc_exN (fun x => ?_)
  obtain ⟨ka, kc, sa, sc, aa, ac, wa, wc⟩ := x
  simp only [RefL, hd]
  simp only [List.cons_append, List.nil_append]
  refine Wc_take (y := own sa _ _ _ _ _) (by repeat (first | exact Out.head | apply Out.tail)) (Wc_own (fun _ h => by omega) ?_)
  intro rs ss e1 e2 e3
  subst e1
  have hg : (secs D.seen n ++ ss)[i]? = some (strV (D.seen i)) := by rw [List.getElem?_append_left (by rw [secs_len]; exact hi), secs_get _ _ _ hi]
  repeat' (first
    | refine Wc_seq ?_
    | refine thenQ_normal ?_
    | refine Wc_cond_t rfl ?_
    | refine Wc_cond_f rfl ?_
    | refine Wc_ret ?_
    | refine thenQ_ret ?_
    | refine Wc_block ?_
    | refine blkQ_normal ?_
    | refine blkQ_ret ?_
    | refine Wc_exit ?_
    | refine thenQ_exit ?_
    | refine blkQ_hit ?_
    | refine blkQ_miss rfl ?_
    | refine Wc_skip ?_
    | refine Wc_label ?_
    | refine loopQ_exit ?_
    | refine loopQ_ret ?_
    | refine loopQ_normal ?_
    | (refine Wc_region (id := 0) ?_; intro K hK; refine Wl_assign rfl (by repeat (first | exact Ev.here | exact Ev.const | exact Ev.arg rfl | apply Ev.there rfl | exact Ev.none rfl | exact Ev.func | exact Ev.var)) ?_; refine Wl_assign rfl (by repeat (first | exact Ev.here | exact Ev.const | exact Ev.arg rfl | apply Ev.there rfl | exact Ev.none rfl | exact Ev.func | exact Ev.var)) ?_; (refine Wl_nil (hK _ _ ?_); clear hK K))
    | (refine Wc_region (id := 1) ?_; intro K hK; refine Wl_move rfl (by repeat (first | exact Ev.here | exact Ev.const | exact Ev.arg rfl | apply Ev.there rfl | exact Ev.none rfl | exact Ev.func | exact Ev.var)) ?_; refine Wl_lss rfl rfl rfl ?_; refine Wl_move rfl (by repeat (first | exact Ev.here | exact Ev.const | exact Ev.arg rfl | apply Ev.there rfl | exact Ev.none rfl | exact Ev.func | exact Ev.var)) ?_; ((first | (refine Wl_guard rfl ?_; refine Wl_move rfl (by repeat (first | exact Ev.here | exact Ev.const | exact Ev.arg rfl | apply Ev.there rfl | exact Ev.none rfl | exact Ev.func | exact Ev.var)) ?_) | refine Wl_guard_no rfl rfl rfl ?_ | refine Wl_guard_un rfl rfl ?_ | ((refine Wl_split rfl rfl (fun ht => ?_) (fun ht => ?_) <;> (try simp at ht) <;> (try (exfalso; omega))) <;> (first | (refine Wl_guard rfl ?_; refine Wl_move rfl (by repeat (first | exact Ev.here | exact Ev.const | exact Ev.arg rfl | apply Ev.there rfl | exact Ev.none rfl | exact Ev.func | exact Ev.var)) ?_) | refine Wl_guard_no rfl rfl rfl ?_ | refine Wl_guard_un rfl rfl ?_)))) <;> (((first | (refine Wl_guard rfl ?_; refine Wl_move rfl (by repeat (first | exact Ev.here | exact Ev.const | exact Ev.arg rfl | apply Ev.there rfl | exact Ev.none rfl | exact Ev.func | exact Ev.var)) ?_) | refine Wl_guard_no rfl rfl rfl ?_ | refine Wl_guard_un rfl rfl ?_ | ((refine Wl_split rfl rfl (fun ht => ?_) (fun ht => ?_) <;> (try simp at ht) <;> (try (exfalso; omega))) <;> (first | (refine Wl_guard rfl ?_; refine Wl_move rfl (by repeat (first | exact Ev.here | exact Ev.const | exact Ev.arg rfl | apply Ev.there rfl | exact Ev.none rfl | exact Ev.func | exact Ev.var)) ?_) | refine Wl_guard_no rfl rfl rfl ?_ | refine Wl_guard_un rfl rfl ?_)))) <;> (((first | (refine Wl_guard rfl ?_; refine Wl_nilCheck rfl rfl ?_) | refine Wl_guard_no rfl rfl rfl ?_ | refine Wl_guard_un rfl rfl ?_ | ((refine Wl_split rfl rfl (fun ht => ?_) (fun ht => ?_) <;> (try simp at ht) <;> (try (exfalso; omega))) <;> (first | (refine Wl_guard rfl ?_; refine Wl_nilCheck rfl rfl ?_) | refine Wl_guard_no rfl rfl rfl ?_ | refine Wl_guard_un rfl rfl ?_)))) <;> (((first | (refine Wl_guard rfl ?_; refine Wl_fieldAddr rfl rfl rfl ?_) | refine Wl_guard_no rfl rfl rfl ?_ | refine Wl_guard_un rfl rfl ?_ | ((refine Wl_split rfl rfl (fun ht => ?_) (fun ht => ?_) <;> (try simp at ht) <;> (try (exfalso; omega))) <;> (first | (refine Wl_guard rfl ?_; refine Wl_fieldAddr rfl rfl rfl ?_) | refine Wl_guard_no rfl rfl rfl ?_ | refine Wl_guard_un rfl rfl ?_)))) <;> (((first | (refine Wl_guard rfl ?_; refine Wl_load (by decide) rfl rfl (by repeat (first | exact Rd.head | exact Rd.base (by assumption) | apply Rd.tail)) rfl ?_) | refine Wl_guard_no rfl rfl rfl ?_ | refine Wl_guard_un rfl rfl ?_ | ((refine Wl_split rfl rfl (fun ht => ?_) (fun ht => ?_) <;> (try simp at ht) <;> (try (exfalso; omega))) <;> (first | (refine Wl_guard rfl ?_; refine Wl_load (by decide) rfl rfl (by repeat (first | exact Rd.head | exact Rd.base (by assumption) | apply Rd.tail)) rfl ?_) | refine Wl_guard_no rfl rfl rfl ?_ | refine Wl_guard_un rfl rfl ?_)))) <;> (((first | (refine Wl_guard rfl ?_; refine Wl_len_sl rfl rfl ?_) | refine Wl_guard_no rfl rfl rfl ?_ | refine Wl_guard_un rfl rfl ?_ | ((refine Wl_split rfl rfl (fun ht => ?_) (fun ht => ?_) <;> (try simp at ht) <;> (try (exfalso; omega))) <;> (first | (refine Wl_guard rfl ?_; refine Wl_len_sl rfl rfl ?_) | refine Wl_guard_no rfl rfl rfl ?_ | refine Wl_guard_un rfl rfl ?_)))) <;> (((first | (refine Wl_guard rfl ?_; refine Wl_geq rfl rfl rfl ?_) | refine Wl_guard_no rfl rfl rfl ?_ | refine Wl_guard_un rfl rfl ?_ | ((refine Wl_split rfl rfl (fun ht => ?_) (fun ht => ?_) <;> (try simp at ht) <;> (try (exfalso; omega))) <;> (first | (refine Wl_guard rfl ?_; refine Wl_geq rfl rfl rfl ?_) | refine Wl_guard_no rfl rfl rfl ?_ | refine Wl_guard_un rfl rfl ?_)))) <;> ((first | refine Wl_pick_t rfl rfl (by repeat (first | exact Ev.here | exact Ev.const | exact Ev.arg rfl | apply Ev.there rfl | exact Ev.none rfl | exact Ev.func | exact Ev.var)) ?_ | refine Wl_pick_f rfl rfl (by repeat (first | exact Ev.here | exact Ev.const | exact Ev.arg rfl | apply Ev.there rfl | exact Ev.none rfl | exact Ev.func | exact Ev.var)) ?_ | refine Wl_pick rfl rfl rfl ?_); (refine Wl_nil (hK _ _ ?_); clear hK K)))))))))
    | (refine Wc_region (id := 2) ?_; intro K hK; refine Wl_assign rfl (by repeat (first | exact Ev.here | exact Ev.const | exact Ev.arg rfl | apply Ev.there rfl | exact Ev.none rfl | exact Ev.func | exact Ev.var)) ?_; refine Wl_assign rfl (by repeat (first | exact Ev.here | exact Ev.const | exact Ev.arg rfl | apply Ev.there rfl | exact Ev.none rfl | exact Ev.func | exact Ev.var)) ?_; (refine Wl_nil (hK _ _ ?_); clear hK K))
    | (refine Wc_region (id := 3) ?_; intro K hK; refine Wl_move rfl (by repeat (first | exact Ev.here | exact Ev.const | exact Ev.arg rfl | apply Ev.there rfl | exact Ev.none rfl | exact Ev.func | exact Ev.var)) ?_; refine Wl_nilCheck rfl rfl ?_; refine Wl_fieldAddr rfl rfl rfl ?_; refine Wl_load (by decide) rfl rfl (by repeat (first | exact Rd.head | exact Rd.base (by assumption) | apply Rd.tail)) rfl ?_; (refine Wl_nil (hK _ _ ?_); clear hK K))
    | (refine Wc_region (id := 4) ?_; intro K hK; refine Wl_assign rfl (by repeat (first | exact Ev.here | exact Ev.const | exact Ev.arg rfl | apply Ev.there rfl | exact Ev.none rfl | exact Ev.func | exact Ev.var)) ?_; refine Wl_assign rfl (by repeat (first | exact Ev.here | exact Ev.const | exact Ev.arg rfl | apply Ev.there rfl | exact Ev.none rfl | exact Ev.func | exact Ev.var)) ?_; (refine Wl_nil (hK _ _ ?_); clear hK K))
    | (refine Wc_region (id := 5) ?_; intro K hK; refine Wl_move rfl (by repeat (first | exact Ev.here | exact Ev.const | exact Ev.arg rfl | apply Ev.there rfl | exact Ev.none rfl | exact Ev.func | exact Ev.var)) ?_; refine Wl_nilCheck rfl rfl ?_; refine Wl_fieldAddr rfl rfl rfl ?_; refine Wl_load (by decide) rfl rfl (by repeat (first | exact Rd.head | exact Rd.base (by assumption) | apply Rd.tail)) rfl ?_; refine Wl_move rfl (by repeat (first | exact Ev.here | exact Ev.const | exact Ev.arg rfl | apply Ev.there rfl | exact Ev.none rfl | exact Ev.func | exact Ev.var)) ?_; refine Wl_index_sl rfl rfl rfl (by omega) (by omega) ?_; ((refine Wl_load (v := strV (D.seen i)) (by decide) rfl rfl (by repeat (first | exact Rd.head | exact Rd.base (by assumption) | apply Rd.tail)) (by simpa using hg) ?_)) <;> (refine Wl_assign rfl (by repeat (first | exact Ev.here | exact Ev.const | exact Ev.arg rfl | apply Ev.there rfl | exact Ev.none rfl | exact Ev.func | exact Ev.var)) ?_; refine Wl_assign rfl (by repeat (first | exact Ev.here | exact Ev.const | exact Ev.arg rfl | apply Ev.there rfl | exact Ev.none rfl | exact Ev.func | exact Ev.var)) ?_; (refine Wl_nil (hK _ _ ?_); clear hK K)))
    | (refine Wc_cond rfl (fun ht => ?_) (fun ht => ?_) <;> (try simp at ht) <;> (try (exfalso; omega))))
  refine ⟨Or.inr rfl, _, [_], fold_ref (A0 := []) (D := D) (x := ⟨ka, kc, some ⟨rs, 0, none⟩, sc, aa, ac, wa, wc⟩) ?_, res2 rfl rfl rfl, rfl, rfl⟩
  simp only [RefL, hd]
  refine Ent.trans (own_shut rs n sc 1 (secs D.seen n) ss 9 _ e2 e3) ?_
  simp only [List.cons_append, List.nil_append]
  (repeat (first | exact Ent.refl _ | exact Ent.nil | refine Ent.take (by repeat (first | exact Out.head | apply Out.tail)) ?_ | refine Ent.drop1 ?_))
theorem rwrite_ok (p n i : Nat) (D : Dk) (h : D.ok n) (hd : D.down = false) (hf : D.fuse ≠ 0) (hi : i < n) (bs : List UInt8) (hl : bs.length = 64) :
    Fspec Try.prog B 24 #[.pointer (some ⟨p, 0, none⟩), .int .i64 i, strV bs] [RefP p n D]
      (fun v A' => v = .int .i64 0 ∧ A' = [RefP p n (D.put i bs)]) := by
  have hfu := h.fuse; have hst := h.steps; have hn := h.n; have hfew := h.few
  have hsz : (bytesOf bs).size = 64 := by simp [bytesOf, ByteArray.size, hl]
  refine spec_of (args := [_, _, _]) Try.func24 rfl rfl rfl ?_
  refine Wc_exN (fun x => ?_)
  obtain ⟨ka, kc, sa, sc, aa, ac, wa, wc⟩ := x
  simp only [RefL, hd]
  simp only [List.cons_append, List.nil_append]
  refine Wc_take (y := own sa _ _ _ _ _) (by repeat (first | exact Out.head | apply Out.tail)) (Wc_own (fun _ h => by omega) ?_)
  intro rs ss e1 e2 e3
  subst e1
  have hset : (secs D.seen n ++ ss).set (0 + (i : Int).toNat * 1) (strV bs) = secs (D.put i bs).seen n ++ ss := by
    have e : (D.put i bs).seen = fun k => if i = k then bs else D.seen k := by funext k; exact seen_put D i k bs
    rw [e, ← secs_set, List.set_append_left _ _ (by rw [secs_len]; simpa using hi)]; simp
  repeat' (first
    | refine Wc_seq ?_
    | refine thenQ_normal ?_
    | refine Wc_cond_t rfl ?_
    | refine Wc_cond_f rfl ?_
    | refine Wc_ret ?_
    | refine thenQ_ret ?_
    | refine Wc_block ?_
    | refine blkQ_normal ?_
    | refine blkQ_ret ?_
    | refine Wc_exit ?_
    | refine thenQ_exit ?_
    | refine blkQ_hit ?_
    | refine blkQ_miss rfl ?_
    | refine Wc_skip ?_
    | refine Wc_label ?_
    | refine loopQ_exit ?_
    | refine loopQ_ret ?_
    | refine loopQ_normal ?_
    | (refine Wc_region (id := 0) ?_; intro K hK; refine Wl_assign rfl (by repeat (first | exact Ev.here | exact Ev.const | exact Ev.arg rfl | apply Ev.there rfl | exact Ev.none rfl | exact Ev.func | exact Ev.var)) ?_; (refine Wl_nil (hK _ _ ?_); clear hK K))
    | (refine Wc_region (id := 1) ?_; intro K hK; refine Wl_move rfl (by repeat (first | exact Ev.here | exact Ev.const | exact Ev.arg rfl | apply Ev.there rfl | exact Ev.none rfl | exact Ev.func | exact Ev.var)) ?_; refine Wl_lss rfl rfl rfl ?_; refine Wl_move rfl (by repeat (first | exact Ev.here | exact Ev.const | exact Ev.arg rfl | apply Ev.there rfl | exact Ev.none rfl | exact Ev.func | exact Ev.var)) ?_; ((first | (refine Wl_guard rfl ?_; refine Wl_move rfl (by repeat (first | exact Ev.here | exact Ev.const | exact Ev.arg rfl | apply Ev.there rfl | exact Ev.none rfl | exact Ev.func | exact Ev.var)) ?_) | refine Wl_guard_no rfl rfl rfl ?_ | refine Wl_guard_un rfl rfl ?_ | ((refine Wl_split rfl rfl (fun ht => ?_) (fun ht => ?_) <;> (try simp at ht) <;> (try (exfalso; omega))) <;> (first | (refine Wl_guard rfl ?_; refine Wl_move rfl (by repeat (first | exact Ev.here | exact Ev.const | exact Ev.arg rfl | apply Ev.there rfl | exact Ev.none rfl | exact Ev.func | exact Ev.var)) ?_) | refine Wl_guard_no rfl rfl rfl ?_ | refine Wl_guard_un rfl rfl ?_)))) <;> (((first | (refine Wl_guard rfl ?_; refine Wl_move rfl (by repeat (first | exact Ev.here | exact Ev.const | exact Ev.arg rfl | apply Ev.there rfl | exact Ev.none rfl | exact Ev.func | exact Ev.var)) ?_) | refine Wl_guard_no rfl rfl rfl ?_ | refine Wl_guard_un rfl rfl ?_ | ((refine Wl_split rfl rfl (fun ht => ?_) (fun ht => ?_) <;> (try simp at ht) <;> (try (exfalso; omega))) <;> (first | (refine Wl_guard rfl ?_; refine Wl_move rfl (by repeat (first | exact Ev.here | exact Ev.const | exact Ev.arg rfl | apply Ev.there rfl | exact Ev.none rfl | exact Ev.func | exact Ev.var)) ?_) | refine Wl_guard_no rfl rfl rfl ?_ | refine Wl_guard_un rfl rfl ?_)))) <;> (((first | (refine Wl_guard rfl ?_; refine Wl_nilCheck rfl rfl ?_) | refine Wl_guard_no rfl rfl rfl ?_ | refine Wl_guard_un rfl rfl ?_ | ((refine Wl_split rfl rfl (fun ht => ?_) (fun ht => ?_) <;> (try simp at ht) <;> (try (exfalso; omega))) <;> (first | (refine Wl_guard rfl ?_; refine Wl_nilCheck rfl rfl ?_) | refine Wl_guard_no rfl rfl rfl ?_ | refine Wl_guard_un rfl rfl ?_)))) <;> (((first | (refine Wl_guard rfl ?_; refine Wl_fieldAddr rfl rfl rfl ?_) | refine Wl_guard_no rfl rfl rfl ?_ | refine Wl_guard_un rfl rfl ?_ | ((refine Wl_split rfl rfl (fun ht => ?_) (fun ht => ?_) <;> (try simp at ht) <;> (try (exfalso; omega))) <;> (first | (refine Wl_guard rfl ?_; refine Wl_fieldAddr rfl rfl rfl ?_) | refine Wl_guard_no rfl rfl rfl ?_ | refine Wl_guard_un rfl rfl ?_)))) <;> (((first | (refine Wl_guard rfl ?_; refine Wl_load (by decide) rfl rfl (by repeat (first | exact Rd.head | exact Rd.base (by assumption) | apply Rd.tail)) rfl ?_) | refine Wl_guard_no rfl rfl rfl ?_ | refine Wl_guard_un rfl rfl ?_ | ((refine Wl_split rfl rfl (fun ht => ?_) (fun ht => ?_) <;> (try simp at ht) <;> (try (exfalso; omega))) <;> (first | (refine Wl_guard rfl ?_; refine Wl_load (by decide) rfl rfl (by repeat (first | exact Rd.head | exact Rd.base (by assumption) | apply Rd.tail)) rfl ?_) | refine Wl_guard_no rfl rfl rfl ?_ | refine Wl_guard_un rfl rfl ?_)))) <;> (((first | (refine Wl_guard rfl ?_; refine Wl_len_sl rfl rfl ?_) | refine Wl_guard_no rfl rfl rfl ?_ | refine Wl_guard_un rfl rfl ?_ | ((refine Wl_split rfl rfl (fun ht => ?_) (fun ht => ?_) <;> (try simp at ht) <;> (try (exfalso; omega))) <;> (first | (refine Wl_guard rfl ?_; refine Wl_len_sl rfl rfl ?_) | refine Wl_guard_no rfl rfl rfl ?_ | refine Wl_guard_un rfl rfl ?_)))) <;> (((first | (refine Wl_guard rfl ?_; refine Wl_geq rfl rfl rfl ?_) | refine Wl_guard_no rfl rfl rfl ?_ | refine Wl_guard_un rfl rfl ?_ | ((refine Wl_split rfl rfl (fun ht => ?_) (fun ht => ?_) <;> (try simp at ht) <;> (try (exfalso; omega))) <;> (first | (refine Wl_guard rfl ?_; refine Wl_geq rfl rfl rfl ?_) | refine Wl_guard_no rfl rfl rfl ?_ | refine Wl_guard_un rfl rfl ?_)))) <;> ((first | refine Wl_pick_t rfl rfl (by repeat (first | exact Ev.here | exact Ev.const | exact Ev.arg rfl | apply Ev.there rfl | exact Ev.none rfl | exact Ev.func | exact Ev.var)) ?_ | refine Wl_pick_f rfl rfl (by repeat (first | exact Ev.here | exact Ev.const | exact Ev.arg rfl | apply Ev.there rfl | exact Ev.none rfl | exact Ev.func | exact Ev.var)) ?_ | refine Wl_pick rfl rfl rfl ?_); refine Wl_move rfl (by repeat (first | exact Ev.here | exact Ev.const | exact Ev.arg rfl | apply Ev.there rfl | exact Ev.none rfl | exact Ev.func | exact Ev.var)) ?_; ((first | (refine Wl_guard rfl ?_; refine Wl_move rfl (by repeat (first | exact Ev.here | exact Ev.const | exact Ev.arg rfl | apply Ev.there rfl | exact Ev.none rfl | exact Ev.func | exact Ev.var)) ?_) | refine Wl_guard_no rfl rfl rfl ?_ | refine Wl_guard_un rfl rfl ?_ | ((refine Wl_split rfl rfl (fun ht => ?_) (fun ht => ?_) <;> (try simp at ht) <;> (try (exfalso; omega))) <;> (first | (refine Wl_guard rfl ?_; refine Wl_move rfl (by repeat (first | exact Ev.here | exact Ev.const | exact Ev.arg rfl | apply Ev.there rfl | exact Ev.none rfl | exact Ev.func | exact Ev.var)) ?_) | refine Wl_guard_no rfl rfl rfl ?_ | refine Wl_guard_un rfl rfl ?_)))) <;> (((first | (refine Wl_guard rfl ?_; (refine Wl_len_str rfl rfl ?_; rw [hsz])) | refine Wl_guard_no rfl rfl rfl ?_ | refine Wl_guard_un rfl rfl ?_ | ((refine Wl_split rfl rfl (fun ht => ?_) (fun ht => ?_) <;> (try simp at ht) <;> (try (exfalso; omega))) <;> (first | (refine Wl_guard rfl ?_; (refine Wl_len_str rfl rfl ?_; rw [hsz])) | refine Wl_guard_no rfl rfl rfl ?_ | refine Wl_guard_un rfl rfl ?_)))) <;> (((first | (refine Wl_guard rfl ?_; refine Wl_neq rfl rfl rfl ?_) | refine Wl_guard_no rfl rfl rfl ?_ | refine Wl_guard_un rfl rfl ?_ | ((refine Wl_split rfl rfl (fun ht => ?_) (fun ht => ?_) <;> (try simp at ht) <;> (try (exfalso; omega))) <;> (first | (refine Wl_guard rfl ?_; refine Wl_neq rfl rfl rfl ?_) | refine Wl_guard_no rfl rfl rfl ?_ | refine Wl_guard_un rfl rfl ?_)))) <;> ((first | refine Wl_pick_t rfl rfl (by repeat (first | exact Ev.here | exact Ev.const | exact Ev.arg rfl | apply Ev.there rfl | exact Ev.none rfl | exact Ev.func | exact Ev.var)) ?_ | refine Wl_pick_f rfl rfl (by repeat (first | exact Ev.here | exact Ev.const | exact Ev.arg rfl | apply Ev.there rfl | exact Ev.none rfl | exact Ev.func | exact Ev.var)) ?_ | refine Wl_pick rfl rfl rfl ?_); (refine Wl_nil (hK _ _ ?_); clear hK K))))))))))))
    | (refine Wc_region (id := 2) ?_; intro K hK; refine Wl_assign rfl (by repeat (first | exact Ev.here | exact Ev.const | exact Ev.arg rfl | apply Ev.there rfl | exact Ev.none rfl | exact Ev.func | exact Ev.var)) ?_; (refine Wl_nil (hK _ _ ?_); clear hK K))
    | (refine Wc_region (id := 3) ?_; intro K hK; refine Wl_move rfl (by repeat (first | exact Ev.here | exact Ev.const | exact Ev.arg rfl | apply Ev.there rfl | exact Ev.none rfl | exact Ev.func | exact Ev.var)) ?_; ((refine Wl_call rfl (by repeat (first | exact EvL.nil | apply EvL.cons (by repeat (first | exact Ev.here | exact Ev.const | exact Ev.arg rfl | apply Ev.there rfl | exact Ev.none rfl | exact Ev.func | exact Ev.var)))) (rstep_yes B p _ _ _ _ _ _ hf hfu hst) (Pick.cons (Out.tail Out.head) Pick.nil) ?_; rintro v A' ⟨rfl, rfl⟩; simp only [List.cons_append, List.nil_append])) <;> (refine Wl_not rfl rfl ?_; (refine Wl_nil (hK _ _ ?_); clear hK K)))
    | (refine Wc_region (id := 4) ?_; intro K hK; refine Wl_assign rfl (by repeat (first | exact Ev.here | exact Ev.const | exact Ev.arg rfl | apply Ev.there rfl | exact Ev.none rfl | exact Ev.func | exact Ev.var)) ?_; (refine Wl_nil (hK _ _ ?_); clear hK K))
    | (refine Wc_region (id := 5) ?_; intro K hK; refine Wl_move rfl (by repeat (first | exact Ev.here | exact Ev.const | exact Ev.arg rfl | apply Ev.there rfl | exact Ev.none rfl | exact Ev.func | exact Ev.var)) ?_; refine Wl_move rfl (by repeat (first | exact Ev.here | exact Ev.const | exact Ev.arg rfl | apply Ev.there rfl | exact Ev.none rfl | exact Ev.func | exact Ev.var)) ?_; refine Wl_nilCheck rfl rfl ?_; refine Wl_fieldAddr rfl rfl rfl ?_; refine Wl_load (by decide) rfl rfl (by repeat (first | exact Rd.head | exact Rd.base (by assumption) | apply Rd.tail)) rfl ?_; refine Wl_move rfl (by repeat (first | exact Ev.here | exact Ev.const | exact Ev.arg rfl | apply Ev.there rfl | exact Ev.none rfl | exact Ev.func | exact Ev.var)) ?_; (refine Wl_lit1 rfl (by repeat (first | exact Ev.here | exact Ev.const | exact Ev.arg rfl | apply Ev.there rfl | exact Ev.none rfl | exact Ev.func | exact Ev.var)) (by rfl) (by rfl) (by omega) ?_; intro r); ((refine Wl_append1 (sz := 1) rfl rfl (by repeat (first | exact Ev.here | exact Ev.const | exact Ev.arg rfl | apply Ev.there rfl | exact Ev.none rfl | exact Ev.func | exact Ev.var)) (by rfl) (by omega) (by repeat (first | exact Out.head | apply Out.tail)) (by repeat (first | exact Rd.head | exact Rd.base (by assumption) | apply Rd.tail)) (by rfl) (by rfl) (by omega) ?_; intro aa' ac')) <;> (refine Wl_nilCheck rfl rfl ?_; refine Wl_fieldAddr rfl rfl rfl ?_; refine Wl_store rfl (by repeat (first | exact Ev.here | exact Ev.const | exact Ev.arg rfl | apply Ev.there rfl | exact Ev.none rfl | exact Ev.func | exact Ev.var)) (by rfl) (by repeat (first | exact Upd.head | apply Upd.tail)) (by repeat (first | exact SetAt.zero | apply SetAt.succ)) rfl (by simp) ?_; (refine Wl_nil (hK _ _ ?_); clear hK K)))
    | (refine Wc_region (id := 6) ?_; intro K hK; refine Wl_move rfl (by repeat (first | exact Ev.here | exact Ev.const | exact Ev.arg rfl | apply Ev.there rfl | exact Ev.none rfl | exact Ev.func | exact Ev.var)) ?_; refine Wl_move rfl (by repeat (first | exact Ev.here | exact Ev.const | exact Ev.arg rfl | apply Ev.there rfl | exact Ev.none rfl | exact Ev.func | exact Ev.var)) ?_; refine Wl_nilCheck rfl rfl ?_; refine Wl_fieldAddr rfl rfl rfl ?_; refine Wl_load (by decide) rfl rfl (by repeat (first | exact Rd.head | exact Rd.base (by assumption) | apply Rd.tail)) rfl ?_; refine Wl_move rfl (by repeat (first | exact Ev.here | exact Ev.const | exact Ev.arg rfl | apply Ev.there rfl | exact Ev.none rfl | exact Ev.func | exact Ev.var)) ?_; (refine Wl_lit1 rfl (by repeat (first | exact Ev.here | exact Ev.const | exact Ev.arg rfl | apply Ev.there rfl | exact Ev.none rfl | exact Ev.func | exact Ev.var)) (by rfl) (by rfl) (by omega) ?_; intro r); ((refine Wl_append1 (sz := 1) rfl rfl (by repeat (first | exact Ev.here | exact Ev.const | exact Ev.arg rfl | apply Ev.there rfl | exact Ev.none rfl | exact Ev.func | exact Ev.var)) (by rfl) (by omega) (by repeat (first | exact Out.head | apply Out.tail)) (by repeat (first | exact Rd.head | exact Rd.base (by assumption) | apply Rd.tail)) (by rfl) (by rfl) (by omega) ?_; intro wa' wc')) <;> (refine Wl_nilCheck rfl rfl ?_; refine Wl_fieldAddr rfl rfl rfl ?_; refine Wl_store rfl (by repeat (first | exact Ev.here | exact Ev.const | exact Ev.arg rfl | apply Ev.there rfl | exact Ev.none rfl | exact Ev.func | exact Ev.var)) (by rfl) (by repeat (first | exact Upd.head | apply Upd.tail)) (by repeat (first | exact SetAt.zero | apply SetAt.succ)) rfl (by simp) ?_; (refine Wl_nil (hK _ _ ?_); clear hK K)))
    | (refine Wc_region (id := 7) ?_; intro K hK; refine Wl_move rfl (by repeat (first | exact Ev.here | exact Ev.const | exact Ev.arg rfl | apply Ev.there rfl | exact Ev.none rfl | exact Ev.func | exact Ev.var)) ?_; refine Wl_nilCheck rfl rfl ?_; refine Wl_fieldAddr rfl rfl rfl ?_; refine Wl_load (by decide) rfl rfl (by repeat (first | exact Rd.head | exact Rd.base (by assumption) | apply Rd.tail)) rfl ?_; refine Wl_move rfl (by repeat (first | exact Ev.here | exact Ev.const | exact Ev.arg rfl | apply Ev.there rfl | exact Ev.none rfl | exact Ev.func | exact Ev.var)) ?_; refine Wl_move rfl (by repeat (first | exact Ev.here | exact Ev.const | exact Ev.arg rfl | apply Ev.there rfl | exact Ev.none rfl | exact Ev.func | exact Ev.var)) ?_; refine Wl_index_sl rfl rfl rfl (by omega) (by omega) ?_; ((refine Wl_store (l' := secs (D.put i bs).seen n ++ ss) rfl (by repeat (first | exact Ev.here | exact Ev.const | exact Ev.arg rfl | apply Ev.there rfl | exact Ev.none rfl | exact Ev.func | exact Ev.var)) (by rfl) (by repeat (first | exact Upd.head | apply Upd.tail)) (by rw [← hset]; exact SetAt.gen (by simp [secs_len]; omega)) rfl (by simp) ?_)) <;> ((refine Wl_nil (hK _ _ ?_); clear hK K)))
    | (refine Wc_region (id := 8) ?_; intro K hK; refine Wl_assign rfl (by repeat (first | exact Ev.here | exact Ev.const | exact Ev.arg rfl | apply Ev.there rfl | exact Ev.none rfl | exact Ev.func | exact Ev.var)) ?_; (refine Wl_nil (hK _ _ ?_); clear hK K))
    | (refine Wc_cond rfl (fun ht => ?_) (fun ht => ?_) <;> (try simp at ht) <;> (try (exfalso; omega))))
  refine ⟨Or.inr rfl, _, [_], fold_ref (A0 := []) (D := D.put i bs) (x := ⟨ka, kc, some ⟨rs, 0, none⟩, sc, aa', ac', wa', wc'⟩) ?_, res1 rfl rfl, rfl, rfl⟩
  simp only [RefL, put_pend, put_kept, put_fuse, put_down, put_steps, hd, List.length_append, List.length_singleton, List.map_append, List.map_cons, List.map_nil]
  refine Ent.trans (Ent.take (y := cb rs (secs (D.put i bs).seen n ++ ss) 9) (by repeat (first | exact Out.head | apply Out.tail)) (Ent.refl _)) (Ent.trans (own_shut rs n sc 1 (secs (D.put i bs).seen n) ss 9 _ (by rw [secs_len]; omega) (by rw [← e3]; simp [secs_len])) ?_)
  simp only [List.cons_append, List.nil_append]
  (repeat (first | exact Ent.refl _ | exact Ent.nil | refine Ent.take (by repeat (first | exact Out.head | apply Out.tail)) ?_ | refine Ent.drop1 ?_))
theorem rwrite_down (p n : Nat) (i : Int) (D : Dk) (hd : D.down = true ∨ D.fuse = 0) (hi : 0 ≤ i ∧ i < n) (bs : List UInt8) (hl : bs.length = 64) :
    Fspec Try.prog B 24 #[.pointer (some ⟨p, 0, none⟩), .int .i64 i, strV bs] [RefP p n D]
      (fun v A' => v = .int .i64 7 ∧ A' = [RefP p n D.dead]) := by
  have hsz : (bytesOf bs).size = 64 := by simp [bytesOf, ByteArray.size, hl]
  refine spec_of (args := [_, _, _]) Try.func24 rfl rfl rfl ?_
  refine Wc_exN (fun x => ?_)
  simp only [RefL]
  simp only [List.cons_append, List.nil_append]
  repeat' (first
    | refine Wc_seq ?_
    | refine thenQ_normal ?_
    | refine Wc_cond_t rfl ?_
    | refine Wc_cond_f rfl ?_
    | refine Wc_ret ?_
    | refine thenQ_ret ?_
    | refine Wc_block ?_
    | refine blkQ_normal ?_
    | refine blkQ_ret ?_
    | refine Wc_exit ?_
    | refine thenQ_exit ?_
    | refine blkQ_hit ?_
    | refine blkQ_miss rfl ?_
    | refine Wc_skip ?_
    | refine Wc_label ?_
    | refine loopQ_exit ?_
    | refine loopQ_ret ?_
    | refine loopQ_normal ?_
    | (refine Wc_region (id := 0) ?_; intro K hK; refine Wl_assign rfl (by repeat (first | exact Ev.here | exact Ev.const | exact Ev.arg rfl | apply Ev.there rfl | exact Ev.none rfl | exact Ev.func | exact Ev.var)) ?_; (refine Wl_nil (hK _ _ ?_); clear hK K))
    | (refine Wc_region (id := 1) ?_; intro K hK; refine Wl_move rfl (by repeat (first | exact Ev.here | exact Ev.const | exact Ev.arg rfl | apply Ev.there rfl | exact Ev.none rfl | exact Ev.func | exact Ev.var)) ?_; refine Wl_lss rfl rfl rfl ?_; refine Wl_move rfl (by repeat (first | exact Ev.here | exact Ev.const | exact Ev.arg rfl | apply Ev.there rfl | exact Ev.none rfl | exact Ev.func | exact Ev.var)) ?_; ((first | (refine Wl_guard rfl ?_; refine Wl_move rfl (by repeat (first | exact Ev.here | exact Ev.const | exact Ev.arg rfl | apply Ev.there rfl | exact Ev.none rfl | exact Ev.func | exact Ev.var)) ?_) | refine Wl_guard_no rfl rfl rfl ?_ | refine Wl_guard_un rfl rfl ?_ | ((refine Wl_split rfl rfl (fun ht => ?_) (fun ht => ?_) <;> (try simp at ht) <;> (try (exfalso; omega))) <;> (first | (refine Wl_guard rfl ?_; refine Wl_move rfl (by repeat (first | exact Ev.here | exact Ev.const | exact Ev.arg rfl | apply Ev.there rfl | exact Ev.none rfl | exact Ev.func | exact Ev.var)) ?_) | refine Wl_guard_no rfl rfl rfl ?_ | refine Wl_guard_un rfl rfl ?_)))) <;> (((first | (refine Wl_guard rfl ?_; refine Wl_move rfl (by repeat (first | exact Ev.here | exact Ev.const | exact Ev.arg rfl | apply Ev.there rfl | exact Ev.none rfl | exact Ev.func | exact Ev.var)) ?_) | refine Wl_guard_no rfl rfl rfl ?_ | refine Wl_guard_un rfl rfl ?_ | ((refine Wl_split rfl rfl (fun ht => ?_) (fun ht => ?_) <;> (try simp at ht) <;> (try (exfalso; omega))) <;> (first | (refine Wl_guard rfl ?_; refine Wl_move rfl (by repeat (first | exact Ev.here | exact Ev.const | exact Ev.arg rfl | apply Ev.there rfl | exact Ev.none rfl | exact Ev.func | exact Ev.var)) ?_) | refine Wl_guard_no rfl rfl rfl ?_ | refine Wl_guard_un rfl rfl ?_)))) <;> (((first | (refine Wl_guard rfl ?_; refine Wl_nilCheck rfl rfl ?_) | refine Wl_guard_no rfl rfl rfl ?_ | refine Wl_guard_un rfl rfl ?_ | ((refine Wl_split rfl rfl (fun ht => ?_) (fun ht => ?_) <;> (try simp at ht) <;> (try (exfalso; omega))) <;> (first | (refine Wl_guard rfl ?_; refine Wl_nilCheck rfl rfl ?_) | refine Wl_guard_no rfl rfl rfl ?_ | refine Wl_guard_un rfl rfl ?_)))) <;> (((first | (refine Wl_guard rfl ?_; refine Wl_fieldAddr rfl rfl rfl ?_) | refine Wl_guard_no rfl rfl rfl ?_ | refine Wl_guard_un rfl rfl ?_ | ((refine Wl_split rfl rfl (fun ht => ?_) (fun ht => ?_) <;> (try simp at ht) <;> (try (exfalso; omega))) <;> (first | (refine Wl_guard rfl ?_; refine Wl_fieldAddr rfl rfl rfl ?_) | refine Wl_guard_no rfl rfl rfl ?_ | refine Wl_guard_un rfl rfl ?_)))) <;> (((first | (refine Wl_guard rfl ?_; refine Wl_load (by decide) rfl rfl (by repeat (first | exact Rd.head | exact Rd.base (by assumption) | apply Rd.tail)) rfl ?_) | refine Wl_guard_no rfl rfl rfl ?_ | refine Wl_guard_un rfl rfl ?_ | ((refine Wl_split rfl rfl (fun ht => ?_) (fun ht => ?_) <;> (try simp at ht) <;> (try (exfalso; omega))) <;> (first | (refine Wl_guard rfl ?_; refine Wl_load (by decide) rfl rfl (by repeat (first | exact Rd.head | exact Rd.base (by assumption) | apply Rd.tail)) rfl ?_) | refine Wl_guard_no rfl rfl rfl ?_ | refine Wl_guard_un rfl rfl ?_)))) <;> (((first | (refine Wl_guard rfl ?_; refine Wl_len_sl rfl rfl ?_) | refine Wl_guard_no rfl rfl rfl ?_ | refine Wl_guard_un rfl rfl ?_ | ((refine Wl_split rfl rfl (fun ht => ?_) (fun ht => ?_) <;> (try simp at ht) <;> (try (exfalso; omega))) <;> (first | (refine Wl_guard rfl ?_; refine Wl_len_sl rfl rfl ?_) | refine Wl_guard_no rfl rfl rfl ?_ | refine Wl_guard_un rfl rfl ?_)))) <;> (((first | (refine Wl_guard rfl ?_; refine Wl_geq rfl rfl rfl ?_) | refine Wl_guard_no rfl rfl rfl ?_ | refine Wl_guard_un rfl rfl ?_ | ((refine Wl_split rfl rfl (fun ht => ?_) (fun ht => ?_) <;> (try simp at ht) <;> (try (exfalso; omega))) <;> (first | (refine Wl_guard rfl ?_; refine Wl_geq rfl rfl rfl ?_) | refine Wl_guard_no rfl rfl rfl ?_ | refine Wl_guard_un rfl rfl ?_)))) <;> ((first | refine Wl_pick_t rfl rfl (by repeat (first | exact Ev.here | exact Ev.const | exact Ev.arg rfl | apply Ev.there rfl | exact Ev.none rfl | exact Ev.func | exact Ev.var)) ?_ | refine Wl_pick_f rfl rfl (by repeat (first | exact Ev.here | exact Ev.const | exact Ev.arg rfl | apply Ev.there rfl | exact Ev.none rfl | exact Ev.func | exact Ev.var)) ?_ | refine Wl_pick rfl rfl rfl ?_); refine Wl_move rfl (by repeat (first | exact Ev.here | exact Ev.const | exact Ev.arg rfl | apply Ev.there rfl | exact Ev.none rfl | exact Ev.func | exact Ev.var)) ?_; ((first | (refine Wl_guard rfl ?_; refine Wl_move rfl (by repeat (first | exact Ev.here | exact Ev.const | exact Ev.arg rfl | apply Ev.there rfl | exact Ev.none rfl | exact Ev.func | exact Ev.var)) ?_) | refine Wl_guard_no rfl rfl rfl ?_ | refine Wl_guard_un rfl rfl ?_ | ((refine Wl_split rfl rfl (fun ht => ?_) (fun ht => ?_) <;> (try simp at ht) <;> (try (exfalso; omega))) <;> (first | (refine Wl_guard rfl ?_; refine Wl_move rfl (by repeat (first | exact Ev.here | exact Ev.const | exact Ev.arg rfl | apply Ev.there rfl | exact Ev.none rfl | exact Ev.func | exact Ev.var)) ?_) | refine Wl_guard_no rfl rfl rfl ?_ | refine Wl_guard_un rfl rfl ?_)))) <;> (((first | (refine Wl_guard rfl ?_; (refine Wl_len_str rfl rfl ?_; rw [hsz])) | refine Wl_guard_no rfl rfl rfl ?_ | refine Wl_guard_un rfl rfl ?_ | ((refine Wl_split rfl rfl (fun ht => ?_) (fun ht => ?_) <;> (try simp at ht) <;> (try (exfalso; omega))) <;> (first | (refine Wl_guard rfl ?_; (refine Wl_len_str rfl rfl ?_; rw [hsz])) | refine Wl_guard_no rfl rfl rfl ?_ | refine Wl_guard_un rfl rfl ?_)))) <;> (((first | (refine Wl_guard rfl ?_; refine Wl_neq rfl rfl rfl ?_) | refine Wl_guard_no rfl rfl rfl ?_ | refine Wl_guard_un rfl rfl ?_ | ((refine Wl_split rfl rfl (fun ht => ?_) (fun ht => ?_) <;> (try simp at ht) <;> (try (exfalso; omega))) <;> (first | (refine Wl_guard rfl ?_; refine Wl_neq rfl rfl rfl ?_) | refine Wl_guard_no rfl rfl rfl ?_ | refine Wl_guard_un rfl rfl ?_)))) <;> ((first | refine Wl_pick_t rfl rfl (by repeat (first | exact Ev.here | exact Ev.const | exact Ev.arg rfl | apply Ev.there rfl | exact Ev.none rfl | exact Ev.func | exact Ev.var)) ?_ | refine Wl_pick_f rfl rfl (by repeat (first | exact Ev.here | exact Ev.const | exact Ev.arg rfl | apply Ev.there rfl | exact Ev.none rfl | exact Ev.func | exact Ev.var)) ?_ | refine Wl_pick rfl rfl rfl ?_); (refine Wl_nil (hK _ _ ?_); clear hK K))))))))))))
    | (refine Wc_region (id := 2) ?_; intro K hK; refine Wl_assign rfl (by repeat (first | exact Ev.here | exact Ev.const | exact Ev.arg rfl | apply Ev.there rfl | exact Ev.none rfl | exact Ev.func | exact Ev.var)) ?_; (refine Wl_nil (hK _ _ ?_); clear hK K))
    | (refine Wc_region (id := 3) ?_; intro K hK; refine Wl_move rfl (by repeat (first | exact Ev.here | exact Ev.const | exact Ev.arg rfl | apply Ev.there rfl | exact Ev.none rfl | exact Ev.func | exact Ev.var)) ?_; ((refine Wl_call rfl (by repeat (first | exact EvL.nil | apply EvL.cons (by repeat (first | exact Ev.here | exact Ev.const | exact Ev.arg rfl | apply Ev.there rfl | exact Ev.none rfl | exact Ev.func | exact Ev.var)))) (rstep_no B p _ _ _ _ _ _ _ hd) (Pick.cons Out.head Pick.nil) ?_; rintro v A' ⟨rfl, rfl⟩; simp only [List.cons_append, List.nil_append])) <;> (refine Wl_not rfl rfl ?_; (refine Wl_nil (hK _ _ ?_); clear hK K)))
    | (refine Wc_region (id := 4) ?_; intro K hK; refine Wl_assign rfl (by repeat (first | exact Ev.here | exact Ev.const | exact Ev.arg rfl | apply Ev.there rfl | exact Ev.none rfl | exact Ev.func | exact Ev.var)) ?_; (refine Wl_nil (hK _ _ ?_); clear hK K))
    | (refine Wc_region (id := 5) ?_; intro K hK; refine Wl_move rfl (by repeat (first | exact Ev.here | exact Ev.const | exact Ev.arg rfl | apply Ev.there rfl | exact Ev.none rfl | exact Ev.func | exact Ev.var)) ?_; refine Wl_move rfl (by repeat (first | exact Ev.here | exact Ev.const | exact Ev.arg rfl | apply Ev.there rfl | exact Ev.none rfl | exact Ev.func | exact Ev.var)) ?_; refine Wl_nilCheck rfl rfl ?_; refine Wl_fieldAddr rfl rfl rfl ?_; refine Wl_load (by decide) rfl rfl (by repeat (first | exact Rd.head | exact Rd.base (by assumption) | apply Rd.tail)) rfl ?_; refine Wl_move rfl (by repeat (first | exact Ev.here | exact Ev.const | exact Ev.arg rfl | apply Ev.there rfl | exact Ev.none rfl | exact Ev.func | exact Ev.var)) ?_; (refine Wl_lit1 rfl (by repeat (first | exact Ev.here | exact Ev.const | exact Ev.arg rfl | apply Ev.there rfl | exact Ev.none rfl | exact Ev.func | exact Ev.var)) (by rfl) (by rfl) (by omega) ?_; intro r))
    | (refine Wc_region (id := 6) ?_; intro K hK; refine Wl_move rfl (by repeat (first | exact Ev.here | exact Ev.const | exact Ev.arg rfl | apply Ev.there rfl | exact Ev.none rfl | exact Ev.func | exact Ev.var)) ?_; refine Wl_move rfl (by repeat (first | exact Ev.here | exact Ev.const | exact Ev.arg rfl | apply Ev.there rfl | exact Ev.none rfl | exact Ev.func | exact Ev.var)) ?_; refine Wl_nilCheck rfl rfl ?_; refine Wl_fieldAddr rfl rfl rfl ?_; refine Wl_load (by decide) rfl rfl (by repeat (first | exact Rd.head | exact Rd.base (by assumption) | apply Rd.tail)) rfl ?_; refine Wl_move rfl (by repeat (first | exact Ev.here | exact Ev.const | exact Ev.arg rfl | apply Ev.there rfl | exact Ev.none rfl | exact Ev.func | exact Ev.var)) ?_; (refine Wl_lit1 rfl (by repeat (first | exact Ev.here | exact Ev.const | exact Ev.arg rfl | apply Ev.there rfl | exact Ev.none rfl | exact Ev.func | exact Ev.var)) (by rfl) (by rfl) (by omega) ?_; intro r))
    | (refine Wc_region (id := 7) ?_; intro K hK; refine Wl_move rfl (by repeat (first | exact Ev.here | exact Ev.const | exact Ev.arg rfl | apply Ev.there rfl | exact Ev.none rfl | exact Ev.func | exact Ev.var)) ?_; refine Wl_nilCheck rfl rfl ?_; refine Wl_fieldAddr rfl rfl rfl ?_; refine Wl_load (by decide) rfl rfl (by repeat (first | exact Rd.head | exact Rd.base (by assumption) | apply Rd.tail)) rfl ?_; refine Wl_move rfl (by repeat (first | exact Ev.here | exact Ev.const | exact Ev.arg rfl | apply Ev.there rfl | exact Ev.none rfl | exact Ev.func | exact Ev.var)) ?_; refine Wl_move rfl (by repeat (first | exact Ev.here | exact Ev.const | exact Ev.arg rfl | apply Ev.there rfl | exact Ev.none rfl | exact Ev.func | exact Ev.var)) ?_; refine Wl_index_sl rfl rfl rfl (by omega) (by omega) ?_; refine Wl_store rfl (by repeat (first | exact Ev.here | exact Ev.const | exact Ev.arg rfl | apply Ev.there rfl | exact Ev.none rfl | exact Ev.func | exact Ev.var)) (by rfl) (by repeat (first | exact Upd.head | apply Upd.tail)) (by repeat (first | exact SetAt.zero | apply SetAt.succ)) rfl (by simp) ?_; (refine Wl_nil (hK _ _ ?_); clear hK K))
    | (refine Wc_region (id := 8) ?_; intro K hK; refine Wl_assign rfl (by repeat (first | exact Ev.here | exact Ev.const | exact Ev.arg rfl | apply Ev.there rfl | exact Ev.none rfl | exact Ev.func | exact Ev.var)) ?_; (refine Wl_nil (hK _ _ ?_); clear hK K))
    | (refine Wc_cond rfl (fun ht => ?_) (fun ht => ?_) <;> (try simp at ht) <;> (try (exfalso; omega))))
  refine ⟨Or.inr rfl, _, [_], fold_ref (A0 := []) (D := D.dead) (x := x) ?_, res1 rfl rfl, rfl, rfl⟩
  simp only [RefL, Dk.dead]
  exact Ent.refl _
theorem rwrite_bad (p n : Nat) (i : Int) (D : Dk) (bs : List UInt8) (hi : i < 0 ∨ (n : Int) ≤ i ∨ bs.length ≠ 64) :
    Fspec Try.prog B 24 #[.pointer (some ⟨p, 0, none⟩), .int .i64 i, strV bs] [RefP p n D]
      (fun v A' => v = .int .i64 1 ∧ A' = [RefP p n D]) := by
  have hsz : (bytesOf bs).size = bs.length := by simp [bytesOf, ByteArray.size]
  refine spec_of (args := [_, _, _]) Try.func24 rfl rfl rfl ?_
  refine Wc_exN (fun x => ?_)
  simp only [RefL]
  simp only [List.cons_append, List.nil_append]
  repeat' (first
    | refine Wc_seq ?_
    | refine thenQ_normal ?_
    | refine Wc_cond_t rfl ?_
    | refine Wc_cond_f rfl ?_
    | refine Wc_ret ?_
    | refine thenQ_ret ?_
    | refine Wc_block ?_
    | refine blkQ_normal ?_
    | refine blkQ_ret ?_
    | refine Wc_exit ?_
    | refine thenQ_exit ?_
    | refine blkQ_hit ?_
    | refine blkQ_miss rfl ?_
    | refine Wc_skip ?_
    | refine Wc_label ?_
    | refine loopQ_exit ?_
    | refine loopQ_ret ?_
    | refine loopQ_normal ?_
    | (refine Wc_region (id := 0) ?_; intro K hK; refine Wl_assign rfl (by repeat (first | exact Ev.here | exact Ev.const | exact Ev.arg rfl | apply Ev.there rfl | exact Ev.none rfl | exact Ev.func | exact Ev.var)) ?_; (refine Wl_nil (hK _ _ ?_); clear hK K))
    | (refine Wc_region (id := 1) ?_; intro K hK; refine Wl_move rfl (by repeat (first | exact Ev.here | exact Ev.const | exact Ev.arg rfl | apply Ev.there rfl | exact Ev.none rfl | exact Ev.func | exact Ev.var)) ?_; refine Wl_lss rfl rfl rfl ?_; refine Wl_move rfl (by repeat (first | exact Ev.here | exact Ev.const | exact Ev.arg rfl | apply Ev.there rfl | exact Ev.none rfl | exact Ev.func | exact Ev.var)) ?_; ((first | (refine Wl_guard rfl ?_; refine Wl_move rfl (by repeat (first | exact Ev.here | exact Ev.const | exact Ev.arg rfl | apply Ev.there rfl | exact Ev.none rfl | exact Ev.func | exact Ev.var)) ?_) | refine Wl_guard_no rfl rfl rfl ?_ | refine Wl_guard_un rfl rfl ?_ | ((refine Wl_split rfl rfl (fun ht => ?_) (fun ht => ?_) <;> (try simp at ht) <;> (try (exfalso; omega))) <;> (first | (refine Wl_guard rfl ?_; refine Wl_move rfl (by repeat (first | exact Ev.here | exact Ev.const | exact Ev.arg rfl | apply Ev.there rfl | exact Ev.none rfl | exact Ev.func | exact Ev.var)) ?_) | refine Wl_guard_no rfl rfl rfl ?_ | refine Wl_guard_un rfl rfl ?_)))) <;> (((first | (refine Wl_guard rfl ?_; refine Wl_move rfl (by repeat (first | exact Ev.here | exact Ev.const | exact Ev.arg rfl | apply Ev.there rfl | exact Ev.none rfl | exact Ev.func | exact Ev.var)) ?_) | refine Wl_guard_no rfl rfl rfl ?_ | refine Wl_guard_un rfl rfl ?_ | ((refine Wl_split rfl rfl (fun ht => ?_) (fun ht => ?_) <;> (try simp at ht) <;> (try (exfalso; omega))) <;> (first | (refine Wl_guard rfl ?_; refine Wl_move rfl (by repeat (first | exact Ev.here | exact Ev.const | exact Ev.arg rfl | apply Ev.there rfl | exact Ev.none rfl | exact Ev.func | exact Ev.var)) ?_) | refine Wl_guard_no rfl rfl rfl ?_ | refine Wl_guard_un rfl rfl ?_)))) <;> (((first | (refine Wl_guard rfl ?_; refine Wl_nilCheck rfl rfl ?_) | refine Wl_guard_no rfl rfl rfl ?_ | refine Wl_guard_un rfl rfl ?_ | ((refine Wl_split rfl rfl (fun ht => ?_) (fun ht => ?_) <;> (try simp at ht) <;> (try (exfalso; omega))) <;> (first | (refine Wl_guard rfl ?_; refine Wl_nilCheck rfl rfl ?_) | refine Wl_guard_no rfl rfl rfl ?_ | refine Wl_guard_un rfl rfl ?_)))) <;> (((first | (refine Wl_guard rfl ?_; refine Wl_fieldAddr rfl rfl rfl ?_) | refine Wl_guard_no rfl rfl rfl ?_ | refine Wl_guard_un rfl rfl ?_ | ((refine Wl_split rfl rfl (fun ht => ?_) (fun ht => ?_) <;> (try simp at ht) <;> (try (exfalso; omega))) <;> (first | (refine Wl_guard rfl ?_; refine Wl_fieldAddr rfl rfl rfl ?_) | refine Wl_guard_no rfl rfl rfl ?_ | refine Wl_guard_un rfl rfl ?_)))) <;> (((first | (refine Wl_guard rfl ?_; refine Wl_load (by decide) rfl rfl (by repeat (first | exact Rd.head | exact Rd.base (by assumption) | apply Rd.tail)) rfl ?_) | refine Wl_guard_no rfl rfl rfl ?_ | refine Wl_guard_un rfl rfl ?_ | ((refine Wl_split rfl rfl (fun ht => ?_) (fun ht => ?_) <;> (try simp at ht) <;> (try (exfalso; omega))) <;> (first | (refine Wl_guard rfl ?_; refine Wl_load (by decide) rfl rfl (by repeat (first | exact Rd.head | exact Rd.base (by assumption) | apply Rd.tail)) rfl ?_) | refine Wl_guard_no rfl rfl rfl ?_ | refine Wl_guard_un rfl rfl ?_)))) <;> (((first | (refine Wl_guard rfl ?_; refine Wl_len_sl rfl rfl ?_) | refine Wl_guard_no rfl rfl rfl ?_ | refine Wl_guard_un rfl rfl ?_ | ((refine Wl_split rfl rfl (fun ht => ?_) (fun ht => ?_) <;> (try simp at ht) <;> (try (exfalso; omega))) <;> (first | (refine Wl_guard rfl ?_; refine Wl_len_sl rfl rfl ?_) | refine Wl_guard_no rfl rfl rfl ?_ | refine Wl_guard_un rfl rfl ?_)))) <;> (((first | (refine Wl_guard rfl ?_; refine Wl_geq rfl rfl rfl ?_) | refine Wl_guard_no rfl rfl rfl ?_ | refine Wl_guard_un rfl rfl ?_ | ((refine Wl_split rfl rfl (fun ht => ?_) (fun ht => ?_) <;> (try simp at ht) <;> (try (exfalso; omega))) <;> (first | (refine Wl_guard rfl ?_; refine Wl_geq rfl rfl rfl ?_) | refine Wl_guard_no rfl rfl rfl ?_ | refine Wl_guard_un rfl rfl ?_)))) <;> ((first | refine Wl_pick_t rfl rfl (by repeat (first | exact Ev.here | exact Ev.const | exact Ev.arg rfl | apply Ev.there rfl | exact Ev.none rfl | exact Ev.func | exact Ev.var)) ?_ | refine Wl_pick_f rfl rfl (by repeat (first | exact Ev.here | exact Ev.const | exact Ev.arg rfl | apply Ev.there rfl | exact Ev.none rfl | exact Ev.func | exact Ev.var)) ?_ | refine Wl_pick rfl rfl rfl ?_); refine Wl_move rfl (by repeat (first | exact Ev.here | exact Ev.const | exact Ev.arg rfl | apply Ev.there rfl | exact Ev.none rfl | exact Ev.func | exact Ev.var)) ?_; ((first | (refine Wl_guard rfl ?_; refine Wl_move rfl (by repeat (first | exact Ev.here | exact Ev.const | exact Ev.arg rfl | apply Ev.there rfl | exact Ev.none rfl | exact Ev.func | exact Ev.var)) ?_) | refine Wl_guard_no rfl rfl rfl ?_ | refine Wl_guard_un rfl rfl ?_ | ((refine Wl_split rfl rfl (fun ht => ?_) (fun ht => ?_) <;> (try simp at ht) <;> (try (exfalso; omega))) <;> (first | (refine Wl_guard rfl ?_; refine Wl_move rfl (by repeat (first | exact Ev.here | exact Ev.const | exact Ev.arg rfl | apply Ev.there rfl | exact Ev.none rfl | exact Ev.func | exact Ev.var)) ?_) | refine Wl_guard_no rfl rfl rfl ?_ | refine Wl_guard_un rfl rfl ?_)))) <;> (((first | (refine Wl_guard rfl ?_; (refine Wl_len_str rfl rfl ?_; rw [hsz])) | refine Wl_guard_no rfl rfl rfl ?_ | refine Wl_guard_un rfl rfl ?_ | ((refine Wl_split rfl rfl (fun ht => ?_) (fun ht => ?_) <;> (try simp at ht) <;> (try (exfalso; omega))) <;> (first | (refine Wl_guard rfl ?_; (refine Wl_len_str rfl rfl ?_; rw [hsz])) | refine Wl_guard_no rfl rfl rfl ?_ | refine Wl_guard_un rfl rfl ?_)))) <;> (((first | (refine Wl_guard rfl ?_; refine Wl_neq rfl rfl rfl ?_) | refine Wl_guard_no rfl rfl rfl ?_ | refine Wl_guard_un rfl rfl ?_ | ((refine Wl_split rfl rfl (fun ht => ?_) (fun ht => ?_) <;> (try simp at ht) <;> (try (exfalso; omega))) <;> (first | (refine Wl_guard rfl ?_; refine Wl_neq rfl rfl rfl ?_) | refine Wl_guard_no rfl rfl rfl ?_ | refine Wl_guard_un rfl rfl ?_)))) <;> ((first | refine Wl_pick_t rfl rfl (by repeat (first | exact Ev.here | exact Ev.const | exact Ev.arg rfl | apply Ev.there rfl | exact Ev.none rfl | exact Ev.func | exact Ev.var)) ?_ | refine Wl_pick_f rfl rfl (by repeat (first | exact Ev.here | exact Ev.const | exact Ev.arg rfl | apply Ev.there rfl | exact Ev.none rfl | exact Ev.func | exact Ev.var)) ?_ | refine Wl_pick rfl rfl rfl ?_); (refine Wl_nil (hK _ _ ?_); clear hK K))))))))))))
    | (refine Wc_region (id := 2) ?_; intro K hK; refine Wl_assign rfl (by repeat (first | exact Ev.here | exact Ev.const | exact Ev.arg rfl | apply Ev.there rfl | exact Ev.none rfl | exact Ev.func | exact Ev.var)) ?_; (refine Wl_nil (hK _ _ ?_); clear hK K))
    | (refine Wc_region (id := 3) ?_; intro K hK; refine Wl_move rfl (by repeat (first | exact Ev.here | exact Ev.const | exact Ev.arg rfl | apply Ev.there rfl | exact Ev.none rfl | exact Ev.func | exact Ev.var)) ?_; ((exfalso; omega)) <;> (refine Wl_not rfl rfl ?_; (refine Wl_nil (hK _ _ ?_); clear hK K)))
    | (refine Wc_region (id := 4) ?_; intro K hK; refine Wl_assign rfl (by repeat (first | exact Ev.here | exact Ev.const | exact Ev.arg rfl | apply Ev.there rfl | exact Ev.none rfl | exact Ev.func | exact Ev.var)) ?_; (refine Wl_nil (hK _ _ ?_); clear hK K))
    | (refine Wc_region (id := 5) ?_; intro K hK; refine Wl_move rfl (by repeat (first | exact Ev.here | exact Ev.const | exact Ev.arg rfl | apply Ev.there rfl | exact Ev.none rfl | exact Ev.func | exact Ev.var)) ?_; refine Wl_move rfl (by repeat (first | exact Ev.here | exact Ev.const | exact Ev.arg rfl | apply Ev.there rfl | exact Ev.none rfl | exact Ev.func | exact Ev.var)) ?_; refine Wl_nilCheck rfl rfl ?_; refine Wl_fieldAddr rfl rfl rfl ?_; refine Wl_load (by decide) rfl rfl (by repeat (first | exact Rd.head | exact Rd.base (by assumption) | apply Rd.tail)) rfl ?_; refine Wl_move rfl (by repeat (first | exact Ev.here | exact Ev.const | exact Ev.arg rfl | apply Ev.there rfl | exact Ev.none rfl | exact Ev.func | exact Ev.var)) ?_; (refine Wl_lit1 rfl (by repeat (first | exact Ev.here | exact Ev.const | exact Ev.arg rfl | apply Ev.there rfl | exact Ev.none rfl | exact Ev.func | exact Ev.var)) (by rfl) (by rfl) (by omega) ?_; intro r))
    | (refine Wc_region (id := 6) ?_; intro K hK; refine Wl_move rfl (by repeat (first | exact Ev.here | exact Ev.const | exact Ev.arg rfl | apply Ev.there rfl | exact Ev.none rfl | exact Ev.func | exact Ev.var)) ?_; refine Wl_move rfl (by repeat (first | exact Ev.here | exact Ev.const | exact Ev.arg rfl | apply Ev.there rfl | exact Ev.none rfl | exact Ev.func | exact Ev.var)) ?_; refine Wl_nilCheck rfl rfl ?_; refine Wl_fieldAddr rfl rfl rfl ?_; refine Wl_load (by decide) rfl rfl (by repeat (first | exact Rd.head | exact Rd.base (by assumption) | apply Rd.tail)) rfl ?_; refine Wl_move rfl (by repeat (first | exact Ev.here | exact Ev.const | exact Ev.arg rfl | apply Ev.there rfl | exact Ev.none rfl | exact Ev.func | exact Ev.var)) ?_; (refine Wl_lit1 rfl (by repeat (first | exact Ev.here | exact Ev.const | exact Ev.arg rfl | apply Ev.there rfl | exact Ev.none rfl | exact Ev.func | exact Ev.var)) (by rfl) (by rfl) (by omega) ?_; intro r))
    | (refine Wc_region (id := 7) ?_; intro K hK; refine Wl_move rfl (by repeat (first | exact Ev.here | exact Ev.const | exact Ev.arg rfl | apply Ev.there rfl | exact Ev.none rfl | exact Ev.func | exact Ev.var)) ?_; refine Wl_nilCheck rfl rfl ?_; refine Wl_fieldAddr rfl rfl rfl ?_; refine Wl_load (by decide) rfl rfl (by repeat (first | exact Rd.head | exact Rd.base (by assumption) | apply Rd.tail)) rfl ?_; refine Wl_move rfl (by repeat (first | exact Ev.here | exact Ev.const | exact Ev.arg rfl | apply Ev.there rfl | exact Ev.none rfl | exact Ev.func | exact Ev.var)) ?_; refine Wl_move rfl (by repeat (first | exact Ev.here | exact Ev.const | exact Ev.arg rfl | apply Ev.there rfl | exact Ev.none rfl | exact Ev.func | exact Ev.var)) ?_; refine Wl_index_sl rfl rfl rfl (by omega) (by omega) ?_; refine Wl_store rfl (by repeat (first | exact Ev.here | exact Ev.const | exact Ev.arg rfl | apply Ev.there rfl | exact Ev.none rfl | exact Ev.func | exact Ev.var)) (by rfl) (by repeat (first | exact Upd.head | apply Upd.tail)) (by repeat (first | exact SetAt.zero | apply SetAt.succ)) rfl (by simp) ?_; (refine Wl_nil (hK _ _ ?_); clear hK K))
    | (refine Wc_region (id := 8) ?_; intro K hK; refine Wl_assign rfl (by repeat (first | exact Ev.here | exact Ev.const | exact Ev.arg rfl | apply Ev.there rfl | exact Ev.none rfl | exact Ev.func | exact Ev.var)) ?_; (refine Wl_nil (hK _ _ ?_); clear hK K))
    | (refine Wc_cond rfl (fun ht => ?_) (fun ht => ?_) <;> (try simp at ht) <;> (try (exfalso; omega))))
  all_goals exact ⟨Or.inr rfl, _, [_], fold_ref (A0 := []) (Ent.refl _), res1 rfl rfl, rfl, rfl⟩
theorem rsync_down (p n : Nat) (D : Dk) (hd : D.down = true ∨ D.fuse = 0) :
    Fspec Try.prog B 25 #[.pointer (some ⟨p, 0, none⟩)] [RefP p n D]
      (fun v A' => v = .int .i64 7 ∧ A' = [RefP p n D.dead]) := by
  refine spec_of (args := [_]) Try.func25 rfl rfl rfl ?_
  refine Wc_exN (fun x => ?_)
  simp only [RefL]
  simp only [List.cons_append, List.nil_append]
  repeat' (first
    | refine Wc_seq ?_
    | refine thenQ_normal ?_
    | refine Wc_cond_t rfl ?_
    | refine Wc_cond_f rfl ?_
    | refine Wc_ret ?_
    | refine thenQ_ret ?_
    | refine Wc_block ?_
    | refine blkQ_normal ?_
    | refine blkQ_ret ?_
    | refine Wc_exit ?_
    | refine thenQ_exit ?_
    | refine blkQ_hit ?_
    | refine blkQ_miss rfl ?_
    | refine Wc_skip ?_
    | refine Wc_label ?_
    | refine loopQ_exit ?_
    | refine loopQ_ret ?_
    | refine loopQ_normal ?_
    | (refine Wc_region (id := 0) ?_; intro K hK; refine Wl_assign rfl (by repeat (first | exact Ev.here | exact Ev.const | exact Ev.arg rfl | apply Ev.there rfl | exact Ev.none rfl | exact Ev.func | exact Ev.var)) ?_; (refine Wl_nil (hK _ _ ?_); clear hK K))
    | (refine Wc_region (id := 1) ?_; intro K hK; refine Wl_move rfl (by repeat (first | exact Ev.here | exact Ev.const | exact Ev.arg rfl | apply Ev.there rfl | exact Ev.none rfl | exact Ev.func | exact Ev.var)) ?_; ((refine Wl_call rfl (by repeat (first | exact EvL.nil | apply EvL.cons (by repeat (first | exact Ev.here | exact Ev.const | exact Ev.arg rfl | apply Ev.there rfl | exact Ev.none rfl | exact Ev.func | exact Ev.var)))) (rstep_no B p _ _ _ _ _ _ _ hd) (Pick.cons Out.head Pick.nil) ?_; rintro v A' ⟨rfl, rfl⟩; simp only [List.cons_append, List.nil_append])) <;> (refine Wl_not rfl rfl ?_; (refine Wl_nil (hK _ _ ?_); clear hK K)))
    | (refine Wc_region (id := 2) ?_; intro K hK; refine Wl_assign rfl (by repeat (first | exact Ev.here | exact Ev.const | exact Ev.arg rfl | apply Ev.there rfl | exact Ev.none rfl | exact Ev.func | exact Ev.var)) ?_; (refine Wl_nil (hK _ _ ?_); clear hK K))
    | (refine Wc_region (id := 3) ?_; intro K hK; refine Wl_move rfl (by repeat (first | exact Ev.here | exact Ev.const | exact Ev.arg rfl | apply Ev.there rfl | exact Ev.none rfl | exact Ev.func | exact Ev.var)) ?_; (refine Wl_lit0o rfl ?_; intro r); refine Wl_move rfl (by repeat (first | exact Ev.here | exact Ev.const | exact Ev.arg rfl | apply Ev.there rfl | exact Ev.none rfl | exact Ev.func | exact Ev.var)) ?_; refine Wl_nilCheck rfl rfl ?_; refine Wl_fieldAddr rfl rfl rfl ?_; refine Wl_load (by decide) rfl rfl (by repeat (first | exact Rd.head | exact Rd.base (by assumption) | apply Rd.tail)) rfl ?_)
    | (refine Wc_region (id := 4) ?_; intro K hK; refine Wl_move rfl (by repeat (first | exact Ev.here | exact Ev.const | exact Ev.arg rfl | apply Ev.there rfl | exact Ev.none rfl | exact Ev.func | exact Ev.var)) ?_; refine Wl_move rfl (by repeat (first | exact Ev.here | exact Ev.const | exact Ev.arg rfl | apply Ev.there rfl | exact Ev.none rfl | exact Ev.func | exact Ev.var)) ?_; refine Wl_nilCheck rfl rfl ?_; refine Wl_fieldAddr rfl rfl rfl ?_; refine Wl_store rfl (by repeat (first | exact Ev.here | exact Ev.const | exact Ev.arg rfl | apply Ev.there rfl | exact Ev.none rfl | exact Ev.func | exact Ev.var)) (by rfl) (by repeat (first | exact Upd.head | apply Upd.tail)) (by repeat (first | exact SetAt.zero | apply SetAt.succ)) rfl (by simp) ?_; refine Wl_nilCheck rfl rfl ?_; refine Wl_fieldAddr rfl rfl rfl ?_; refine Wl_store rfl (by repeat (first | exact Ev.here | exact Ev.const | exact Ev.arg rfl | apply Ev.there rfl | exact Ev.none rfl | exact Ev.func | exact Ev.var)) (by rfl) (by repeat (first | exact Upd.head | apply Upd.tail)) (by repeat (first | exact SetAt.zero | apply SetAt.succ)) rfl (by simp) ?_; (refine Wl_nil (hK _ _ ?_); clear hK K))
    | (refine Wc_region (id := 5) ?_; intro K hK; refine Wl_assign rfl (by repeat (first | exact Ev.here | exact Ev.const | exact Ev.arg rfl | apply Ev.there rfl | exact Ev.none rfl | exact Ev.func | exact Ev.var)) ?_; (refine Wl_nil (hK _ _ ?_); clear hK K))
    | (refine Wc_cond rfl (fun ht => ?_) (fun ht => ?_) <;> (try simp at ht) <;> (try (exfalso; omega))))
  refine ⟨Or.inr rfl, _, [_], fold_ref (A0 := []) (D := D.dead) (x := x) ?_, res1 rfl rfl, rfl, rfl⟩
  simp only [RefL, Dk.dead]
  exact Ent.refl _
theorem secs_sync {D : Dk} {n : Nat} (h : D.ok n) : secs (sec D.sync.kept) n = secs D.seen n ∧ secs D.sync.seen n = secs D.seen n := by
  have h1 : sec D.sync.kept = D.seen := by funext k; exact seen_sync h k
  have h2 : D.sync.seen = D.seen := by funext k; exact seen_sync h k
  rw [h1, h2]; exact ⟨rfl, rfl⟩
theorem strV_all (f : Nat → List UInt8) (n : Nat) : (secs f n).all isCell = true := by simp [secs, strV, isCell]
theorem rsync_ok (p n : Nat) (D : Dk) (h : D.ok n) (hd : D.down = false) (hf : D.fuse ≠ 0) :
    Fspec Try.prog B 25 #[.pointer (some ⟨p, 0, none⟩)] [RefP p n D]
      (fun v A' => v = .int .i64 0 ∧ A' = [RefP p n D.sync]) := by
  have hfu := h.fuse; have hst := h.steps; have hn := h.n; have hfew := h.few
  obtain ⟨hk1, hk2⟩ := secs_sync h
  refine spec_of (args := [_]) Try.func25 rfl rfl rfl ?_
  refine Wc_exN (fun x => ?_)
  obtain ⟨ka, kc, sa, sc, aa, ac, wa, wc⟩ := x
  simp only [RefL, hd]
  simp only [List.cons_append, List.nil_append]
  repeat' (first
    | refine Wc_seq ?_
    | refine thenQ_normal ?_
    | refine Wc_cond_t rfl ?_
    | refine Wc_cond_f rfl ?_
    | refine Wc_ret ?_
    | refine thenQ_ret ?_
    | refine Wc_block ?_
    | refine blkQ_normal ?_
    | refine blkQ_ret ?_
    | refine Wc_exit ?_
    | refine thenQ_exit ?_
    | refine blkQ_hit ?_
    | refine blkQ_miss rfl ?_
    | refine Wc_skip ?_
    | refine Wc_label ?_
    | refine loopQ_exit ?_
    | refine loopQ_ret ?_
    | refine loopQ_normal ?_
    | (refine Wc_region (id := 0) ?_; intro K hK; refine Wl_assign rfl (by repeat (first | exact Ev.here | exact Ev.const | exact Ev.arg rfl | apply Ev.there rfl | exact Ev.none rfl | exact Ev.func | exact Ev.var)) ?_; (refine Wl_nil (hK _ _ ?_); clear hK K))
    | (refine Wc_region (id := 1) ?_; intro K hK; refine Wl_move rfl (by repeat (first | exact Ev.here | exact Ev.const | exact Ev.arg rfl | apply Ev.there rfl | exact Ev.none rfl | exact Ev.func | exact Ev.var)) ?_; ((refine Wl_call rfl (by repeat (first | exact EvL.nil | apply EvL.cons (by repeat (first | exact Ev.here | exact Ev.const | exact Ev.arg rfl | apply Ev.there rfl | exact Ev.none rfl | exact Ev.func | exact Ev.var)))) (rstep_yes B p _ _ _ _ _ _ hf hfu hst) (Pick.cons Out.head Pick.nil) ?_; rintro v A' ⟨rfl, rfl⟩; simp only [List.cons_append, List.nil_append])) <;> (refine Wl_not rfl rfl ?_; (refine Wl_nil (hK _ _ ?_); clear hK K)))
    | (refine Wc_region (id := 2) ?_; intro K hK; refine Wl_assign rfl (by repeat (first | exact Ev.here | exact Ev.const | exact Ev.arg rfl | apply Ev.there rfl | exact Ev.none rfl | exact Ev.func | exact Ev.var)) ?_; (refine Wl_nil (hK _ _ ?_); clear hK K))
    | (refine Wc_region (id := 3) ?_; intro K hK; refine Wl_move rfl (by repeat (first | exact Ev.here | exact Ev.const | exact Ev.arg rfl | apply Ev.there rfl | exact Ev.none rfl | exact Ev.func | exact Ev.var)) ?_; (refine Wl_lit0o rfl ?_; intro r); refine Wl_move rfl (by repeat (first | exact Ev.here | exact Ev.const | exact Ev.arg rfl | apply Ev.there rfl | exact Ev.none rfl | exact Ev.func | exact Ev.var)) ?_; refine Wl_nilCheck rfl rfl ?_; refine Wl_fieldAddr rfl rfl rfl ?_; refine Wl_load (by decide) rfl rfl (by repeat (first | exact Rd.head | exact Rd.base (by assumption) | apply Rd.tail)) rfl ?_; ((refine Wl_appendV (sz := 1) (m := n) (vs := secs D.seen n) rfl rfl (by repeat (first | exact Ev.here | exact Ev.const | exact Ev.arg rfl | apply Ev.there rfl | exact Ev.none rfl | exact Ev.func | exact Ev.var)) (by rfl) (by omega) (by repeat (first | exact Out.head | apply Out.tail)) (src_out (by repeat (first | exact Out.head | apply Out.tail)) (by rw [secs_len]; omega)) (by rw [secs_len]; omega) (strV_all _ _) (by omega) ?_; intro ka' kc')) <;> (refine Wl_nilCheck rfl rfl ?_; refine Wl_fieldAddr rfl rfl rfl ?_; refine Wl_store rfl (by repeat (first | exact Ev.here | exact Ev.const | exact Ev.arg rfl | apply Ev.there rfl | exact Ev.none rfl | exact Ev.func | exact Ev.var)) (by rfl) (by repeat (first | exact Upd.head | apply Upd.tail)) (by repeat (first | exact SetAt.zero | apply SetAt.succ)) rfl (by simp) ?_; (refine Wl_nil (hK _ _ ?_); clear hK K)))
    | (refine Wc_region (id := 4) ?_; intro K hK; refine Wl_move rfl (by repeat (first | exact Ev.here | exact Ev.const | exact Ev.arg rfl | apply Ev.there rfl | exact Ev.none rfl | exact Ev.func | exact Ev.var)) ?_; refine Wl_move rfl (by repeat (first | exact Ev.here | exact Ev.const | exact Ev.arg rfl | apply Ev.there rfl | exact Ev.none rfl | exact Ev.func | exact Ev.var)) ?_; refine Wl_nilCheck rfl rfl ?_; refine Wl_fieldAddr rfl rfl rfl ?_; refine Wl_store rfl (by repeat (first | exact Ev.here | exact Ev.const | exact Ev.arg rfl | apply Ev.there rfl | exact Ev.none rfl | exact Ev.func | exact Ev.var)) (by rfl) (by repeat (first | exact Upd.head | apply Upd.tail)) (by repeat (first | exact SetAt.zero | apply SetAt.succ)) rfl (by simp) ?_; refine Wl_nilCheck rfl rfl ?_; refine Wl_fieldAddr rfl rfl rfl ?_; refine Wl_store rfl (by repeat (first | exact Ev.here | exact Ev.const | exact Ev.arg rfl | apply Ev.there rfl | exact Ev.none rfl | exact Ev.func | exact Ev.var)) (by rfl) (by repeat (first | exact Upd.head | apply Upd.tail)) (by repeat (first | exact SetAt.zero | apply SetAt.succ)) rfl (by simp) ?_; (refine Wl_nil (hK _ _ ?_); clear hK K))
    | (refine Wc_region (id := 5) ?_; intro K hK; refine Wl_assign rfl (by repeat (first | exact Ev.here | exact Ev.const | exact Ev.arg rfl | apply Ev.there rfl | exact Ev.none rfl | exact Ev.func | exact Ev.var)) ?_; (refine Wl_nil (hK _ _ ?_); clear hK K))
    | (refine Wc_cond rfl (fun ht => ?_) (fun ht => ?_) <;> (try simp at ht) <;> (try (exfalso; omega))))
  rw [Nat.zero_add, List.nil_append]
  refine ⟨Or.inr rfl, _, [_], fold_ref (A0 := []) (D := D.sync) (x := ⟨ka', kc', sa, sc, none, 0, none, 0⟩) ?_, res1 rfl rfl, rfl, rfl⟩
  simp only [RefL, hk1, hk2]
  refine Ent.trans (Ent.trans (own_nil 1 3 _) (own_nil 1 9 _)) ?_
  show Ent _ ([cb p [.slice ka' n kc', .slice sa n sc, .slice none 0 0, .slice none 0 0, .int .i64 (if 0 < D.fuse then D.fuse - 1 else D.fuse), .bool D.down, .int .i64 (D.steps + 1)] 59, _, _, own none 0 0 1 [] 3, own none 0 0 1 [] 9] ++ [])
  rw [hd]
  simp only [List.cons_append, List.nil_append]
  (repeat (first | exact Ent.refl _ | exact Ent.nil | refine Ent.take (by repeat (first | exact Out.head | apply Out.tail)) ?_ | refine Ent.drop1 ?_))
theorem bytes_app (a b : List UInt8) : bytesOf a ++ bytesOf b = bytesOf (a ++ b) := by
  apply ByteArray.ext
  simp [bytesOf, ByteArray.data_append]
theorem blank_succ (k : Nat) : bytesOf (List.replicate k 0) ++ ⟨#[0]⟩ = bytesOf (List.replicate (k + 1) 0) := by
  rw [List.replicate_succ', ← bytes_app]; rfl
theorem bytes_size (l : List UInt8) : (bytesOf l).size = l.length := by simp [bytesOf, ByteArray.size]
theorem secs_const {f : Nat → List UInt8} {n : Nat} {c : List UInt8} (h : ∀ k, k < n → f k = c) : secs f n = List.replicate n (strV c) := by
  apply List.ext_getElem?
  intro k
  by_cases hk : k < n
  · rw [secs_get _ _ _ hk, h k hk]; simp [hk]
  · rw [List.getElem?_eq_none (by rw [secs_len]; omega), List.getElem?_eq_none (by simp; omega)]
theorem rnew_spec (n : Nat) (h : 1 ≤ n ∧ n ≤ 4096) :
    Fspec Try.prog B 23 #[.int .i64 n] [] (fun v A' => ∃ p, v = .pointer (some ⟨p, 0, none⟩) ∧ A' = [RefP p n (Dk.new n)]) := by
  have hs1 : secs (sec (Dk.new n).kept) n = List.replicate n (strV (List.replicate 64 0)) := secs_const fun k hk => seen_new n k hk
  have hs2 : secs (Dk.new n).seen n = List.replicate n (strV (List.replicate 64 0)) := secs_const fun k hk => seen_new n k hk
  refine spec_of (args := [_]) Try.func23 rfl rfl rfl ?_
  repeat' (first
    | refine Wc_seq ?_
    | refine thenQ_normal ?_
    | refine Wc_cond_t rfl ?_
    | refine Wc_cond_f rfl ?_
    | refine Wc_ret ?_
    | refine thenQ_ret ?_
    | refine Wc_block ?_
    | refine blkQ_normal ?_
    | refine blkQ_ret ?_
    | refine Wc_exit ?_
    | refine thenQ_exit ?_
    | refine blkQ_hit ?_
    | refine blkQ_miss rfl ?_
    | refine Wc_skip ?_
    | refine Wc_label ?_
    | refine loopQ_exit ?_
    | refine loopQ_ret ?_
    | refine loopQ_normal ?_
    | (refine Wc_region (id := 0) ?_; intro K hK; refine Wl_assign rfl (by repeat (first | exact Ev.here | exact Ev.const | exact Ev.arg rfl | apply Ev.there rfl | exact Ev.none rfl | exact Ev.func | exact Ev.var)) ?_; (refine Wl_nil (hK _ _ ?_); clear hK K))
    | (refine Wc_region (id := 1) ?_; intro K hK; refine Wl_build rfl (by repeat (first | exact EvL.nil | apply EvL.cons (by repeat (first | exact Ev.here | exact Ev.const | exact Ev.arg rfl | apply Ev.there rfl | exact Ev.none rfl | exact Ev.func | exact Ev.var)))) (by simp [bld, setL, Value.cells] <;> rfl) ?_; ((refine Wl_boxAgg rfl (by repeat (first | exact Ev.here | exact Ev.const | exact Ev.arg rfl | apply Ev.there rfl | exact Ev.none rfl | exact Ev.func | exact Ev.var)) ?_; intro p)) <;> (refine Wl_assign rfl (by repeat (first | exact Ev.here | exact Ev.const | exact Ev.arg rfl | apply Ev.there rfl | exact Ev.none rfl | exact Ev.func | exact Ev.var)) ?_; (refine Wl_nil (hK _ _ ?_); clear hK K)))
    | (refine Wc_region (id := 2) ?_; intro K hK; refine Wl_assign rfl (by repeat (first | exact Ev.here | exact Ev.const | exact Ev.arg rfl | apply Ev.there rfl | exact Ev.none rfl | exact Ev.func | exact Ev.var)) ?_; (refine Wl_nil (hK _ _ ?_); clear hK K))
    | (refine Wc_region (id := 3) ?_; intro K hK; refine Wl_move rfl (by repeat (first | exact Ev.here | exact Ev.const | exact Ev.arg rfl | apply Ev.there rfl | exact Ev.none rfl | exact Ev.func | exact Ev.var)) ?_; refine Wl_len_str rfl rfl ?_; refine Wl_lss rfl rfl rfl ?_; (refine Wl_nil (hK _ _ ?_); clear hK K))
    | (refine Wc_region (id := 4) ?_; intro K hK; refine Wl_move rfl (by repeat (first | exact Ev.here | exact Ev.const | exact Ev.arg rfl | apply Ev.there rfl | exact Ev.none rfl | exact Ev.func | exact Ev.var)) ?_)
    | (refine Wc_region (id := 5) ?_; intro K hK; refine Wl_assign rfl (by repeat (first | exact Ev.here | exact Ev.const | exact Ev.arg rfl | apply Ev.there rfl | exact Ev.none rfl | exact Ev.func | exact Ev.var)) ?_; (refine Wl_nil (hK _ _ ?_); clear hK K))
    | (refine Wc_region (id := 6) ?_; intro K hK; refine Wl_move rfl (by repeat (first | exact Ev.here | exact Ev.const | exact Ev.arg rfl | apply Ev.there rfl | exact Ev.none rfl | exact Ev.func | exact Ev.var)) ?_; refine Wl_move rfl (by repeat (first | exact Ev.here | exact Ev.const | exact Ev.arg rfl | apply Ev.there rfl | exact Ev.none rfl | exact Ev.func | exact Ev.var)) ?_; refine Wl_lss rfl rfl rfl ?_; (refine Wl_nil (hK _ _ ?_); clear hK K))
    | (refine Wc_region (id := 7) ?_; intro K hK; refine Wl_move rfl (by repeat (first | exact Ev.here | exact Ev.const | exact Ev.arg rfl | apply Ev.there rfl | exact Ev.none rfl | exact Ev.func | exact Ev.var)) ?_; refine Wl_add rfl rfl rfl (by first | exact fits_i64 (by omega) | exact fits_u8 (by omega) | exact fits_u64 (by omega) | exact fits_u32 (by omega)) ?_; refine Wl_assign rfl (by repeat (first | exact Ev.here | exact Ev.const | exact Ev.arg rfl | apply Ev.there rfl | exact Ev.none rfl | exact Ev.func | exact Ev.var)) ?_; (refine Wl_nil (hK _ _ ?_); clear hK K))
    | (refine Wc_region (id := 8) ?_; intro K hK; refine Wl_move rfl (by repeat (first | exact Ev.here | exact Ev.const | exact Ev.arg rfl | apply Ev.there rfl | exact Ev.none rfl | exact Ev.func | exact Ev.var)) ?_; refine Wl_move rfl (by repeat (first | exact Ev.here | exact Ev.const | exact Ev.arg rfl | apply Ev.there rfl | exact Ev.none rfl | exact Ev.func | exact Ev.var)) ?_; refine Wl_nilCheck rfl rfl ?_; refine Wl_fieldAddr rfl rfl rfl ?_; refine Wl_load (by decide) rfl rfl (by repeat (first | exact Rd.head | exact Rd.base (by assumption) | apply Rd.tail)) rfl ?_; refine Wl_move rfl (by repeat (first | exact Ev.here | exact Ev.const | exact Ev.arg rfl | apply Ev.there rfl | exact Ev.none rfl | exact Ev.func | exact Ev.var)) ?_; (refine Wl_lit1 rfl (by repeat (first | exact Ev.here | exact Ev.const | exact Ev.arg rfl | apply Ev.there rfl | exact Ev.none rfl | exact Ev.func | exact Ev.var)) (by rfl) (by rfl) (by omega) ?_; intro r))
    | (refine Wc_region (id := 9) ?_; intro K hK; refine Wl_move rfl (by repeat (first | exact Ev.here | exact Ev.const | exact Ev.arg rfl | apply Ev.there rfl | exact Ev.none rfl | exact Ev.func | exact Ev.var)) ?_; refine Wl_move rfl (by repeat (first | exact Ev.here | exact Ev.const | exact Ev.arg rfl | apply Ev.there rfl | exact Ev.none rfl | exact Ev.func | exact Ev.var)) ?_; refine Wl_nilCheck rfl rfl ?_; refine Wl_fieldAddr rfl rfl rfl ?_; refine Wl_load (by decide) rfl rfl (by repeat (first | exact Rd.head | exact Rd.base (by assumption) | apply Rd.tail)) rfl ?_; refine Wl_move rfl (by repeat (first | exact Ev.here | exact Ev.const | exact Ev.arg rfl | apply Ev.there rfl | exact Ev.none rfl | exact Ev.func | exact Ev.var)) ?_; (refine Wl_lit1 rfl (by repeat (first | exact Ev.here | exact Ev.const | exact Ev.arg rfl | apply Ev.there rfl | exact Ev.none rfl | exact Ev.func | exact Ev.var)) (by rfl) (by rfl) (by omega) ?_; intro r))
    | (refine Wc_region (id := 10) ?_; intro K hK; refine Wl_move rfl (by repeat (first | exact Ev.here | exact Ev.const | exact Ev.arg rfl | apply Ev.there rfl | exact Ev.none rfl | exact Ev.func | exact Ev.var)) ?_; refine Wl_assign rfl (by repeat (first | exact Ev.here | exact Ev.const | exact Ev.arg rfl | apply Ev.there rfl | exact Ev.none rfl | exact Ev.func | exact Ev.var)) ?_; (refine Wl_nil (hK _ _ ?_); clear hK K))
    | (refine Wc_cond rfl (fun ht => ?_) (fun ht => ?_) <;> (try simp at ht) <;> (try (exfalso; omega))))
  refine Wc_loop (α := Nat) (fun k => [(0, .int .i64 n), (3, .pointer (some ⟨p, 0, none⟩)), (4, strV (List.replicate k 0))])
    (fun k => [cb p [.slice none 0 0, .slice none 0 0, .slice none 0 0, .slice none 0 0, .int .i64 (-1), .bool false, .int .i64 0] 59])
    (fun k => k ≤ 64) (fun k => 64 - k) 0 (by omega) ⟨rfl, rfl, rfl, trivial⟩ (Ent.refl _) ?_
  intro k G hk
  simp only [ov]
  by_cases hk2 : k < 64
  · repeat' (first
      | refine Wc_seq ?_
      | refine thenQ_normal ?_
      | refine Wc_cond_t rfl ?_
      | refine Wc_cond_f rfl ?_
      | refine Wc_ret ?_
      | refine thenQ_ret ?_
      | refine Wc_block ?_
      | refine blkQ_normal ?_
      | refine blkQ_ret ?_
      | refine Wc_exit ?_
      | refine thenQ_exit ?_
      | refine blkQ_hit ?_
      | refine blkQ_miss rfl ?_
      | refine Wc_skip ?_
      | refine Wc_label ?_
      | refine loopQ_exit ?_
      | refine loopQ_ret ?_
      | refine loopQ_normal ?_
      | (refine Wc_region (id := 0) ?_; intro K hK; refine Wl_assign rfl (by repeat (first | exact Ev.here | exact Ev.const | exact Ev.arg rfl | apply Ev.there rfl | exact Ev.none rfl | exact Ev.func | exact Ev.var)) ?_; (refine Wl_nil (hK _ _ ?_); clear hK K))
      | (refine Wc_region (id := 1) ?_; intro K hK; refine Wl_build rfl (by repeat (first | exact EvL.nil | apply EvL.cons (by repeat (first | exact Ev.here | exact Ev.const | exact Ev.arg rfl | apply Ev.there rfl | exact Ev.none rfl | exact Ev.func | exact Ev.var)))) (by simp [bld, setL, Value.cells] <;> rfl) ?_; (refine Wl_boxAgg rfl (by repeat (first | exact Ev.here | exact Ev.const | exact Ev.arg rfl | apply Ev.there rfl | exact Ev.none rfl | exact Ev.func | exact Ev.var)) ?_; intro r); refine Wl_assign rfl (by repeat (first | exact Ev.here | exact Ev.const | exact Ev.arg rfl | apply Ev.there rfl | exact Ev.none rfl | exact Ev.func | exact Ev.var)) ?_; (refine Wl_nil (hK _ _ ?_); clear hK K))
      | (refine Wc_region (id := 2) ?_; intro K hK; refine Wl_assign rfl (by repeat (first | exact Ev.here | exact Ev.const | exact Ev.arg rfl | apply Ev.there rfl | exact Ev.none rfl | exact Ev.func | exact Ev.var)) ?_; (refine Wl_nil (hK _ _ ?_); clear hK K))
      | (refine Wc_region (id := 3) ?_; intro K hK; refine Wl_move rfl (by repeat (first | exact Ev.here | exact Ev.const | exact Ev.arg rfl | apply Ev.there rfl | exact Ev.none rfl | exact Ev.func | exact Ev.var)) ?_; ((refine Wl_len_str rfl rfl ?_; rw [bytes_size, List.length_replicate])) <;> (refine Wl_lss rfl rfl rfl ?_; (refine Wl_nil (hK _ _ ?_); clear hK K)))
      | (refine Wc_region (id := 4) ?_; intro K hK; refine Wl_move rfl (by repeat (first | exact Ev.here | exact Ev.const | exact Ev.arg rfl | apply Ev.there rfl | exact Ev.none rfl | exact Ev.func | exact Ev.var)) ?_; ((refine Wl_str_add rfl rfl rfl (by rw [bytes_size, List.length_replicate]; show ((k + 1 : Nat) : Int) ≤ _; omega) ?_; rw [blank_succ])) <;> (refine Wl_assign rfl (by repeat (first | exact Ev.here | exact Ev.const | exact Ev.arg rfl | apply Ev.there rfl | exact Ev.none rfl | exact Ev.func | exact Ev.var)) ?_; (refine Wl_nil (hK _ _ ?_); clear hK K)))
      | (refine Wc_region (id := 5) ?_; intro K hK; refine Wl_assign rfl (by repeat (first | exact Ev.here | exact Ev.const | exact Ev.arg rfl | apply Ev.there rfl | exact Ev.none rfl | exact Ev.func | exact Ev.var)) ?_; (refine Wl_nil (hK _ _ ?_); clear hK K))
      | (refine Wc_region (id := 6) ?_; intro K hK; refine Wl_move rfl (by repeat (first | exact Ev.here | exact Ev.const | exact Ev.arg rfl | apply Ev.there rfl | exact Ev.none rfl | exact Ev.func | exact Ev.var)) ?_; refine Wl_move rfl (by repeat (first | exact Ev.here | exact Ev.const | exact Ev.arg rfl | apply Ev.there rfl | exact Ev.none rfl | exact Ev.func | exact Ev.var)) ?_; refine Wl_lss rfl rfl rfl ?_; (refine Wl_nil (hK _ _ ?_); clear hK K))
      | (refine Wc_region (id := 7) ?_; intro K hK; refine Wl_move rfl (by repeat (first | exact Ev.here | exact Ev.const | exact Ev.arg rfl | apply Ev.there rfl | exact Ev.none rfl | exact Ev.func | exact Ev.var)) ?_; refine Wl_add rfl rfl rfl (by first | exact fits_i64 (by omega) | exact fits_u8 (by omega) | exact fits_u64 (by omega) | exact fits_u32 (by omega)) ?_; refine Wl_assign rfl (by repeat (first | exact Ev.here | exact Ev.const | exact Ev.arg rfl | apply Ev.there rfl | exact Ev.none rfl | exact Ev.func | exact Ev.var)) ?_; (refine Wl_nil (hK _ _ ?_); clear hK K))
      | (refine Wc_region (id := 8) ?_; intro K hK; refine Wl_move rfl (by repeat (first | exact Ev.here | exact Ev.const | exact Ev.arg rfl | apply Ev.there rfl | exact Ev.none rfl | exact Ev.func | exact Ev.var)) ?_; refine Wl_move rfl (by repeat (first | exact Ev.here | exact Ev.const | exact Ev.arg rfl | apply Ev.there rfl | exact Ev.none rfl | exact Ev.func | exact Ev.var)) ?_; refine Wl_nilCheck rfl rfl ?_; refine Wl_fieldAddr rfl rfl rfl ?_; refine Wl_load (by decide) rfl rfl (by repeat (first | exact Rd.head | exact Rd.base (by assumption) | apply Rd.tail)) rfl ?_; refine Wl_move rfl (by repeat (first | exact Ev.here | exact Ev.const | exact Ev.arg rfl | apply Ev.there rfl | exact Ev.none rfl | exact Ev.func | exact Ev.var)) ?_; (refine Wl_lit1 rfl (by repeat (first | exact Ev.here | exact Ev.const | exact Ev.arg rfl | apply Ev.there rfl | exact Ev.none rfl | exact Ev.func | exact Ev.var)) (by rfl) (by rfl) (by omega) ?_; intro r))
      | (refine Wc_region (id := 9) ?_; intro K hK; refine Wl_move rfl (by repeat (first | exact Ev.here | exact Ev.const | exact Ev.arg rfl | apply Ev.there rfl | exact Ev.none rfl | exact Ev.func | exact Ev.var)) ?_; refine Wl_move rfl (by repeat (first | exact Ev.here | exact Ev.const | exact Ev.arg rfl | apply Ev.there rfl | exact Ev.none rfl | exact Ev.func | exact Ev.var)) ?_; refine Wl_nilCheck rfl rfl ?_; refine Wl_fieldAddr rfl rfl rfl ?_; refine Wl_load (by decide) rfl rfl (by repeat (first | exact Rd.head | exact Rd.base (by assumption) | apply Rd.tail)) rfl ?_; refine Wl_move rfl (by repeat (first | exact Ev.here | exact Ev.const | exact Ev.arg rfl | apply Ev.there rfl | exact Ev.none rfl | exact Ev.func | exact Ev.var)) ?_; (refine Wl_lit1 rfl (by repeat (first | exact Ev.here | exact Ev.const | exact Ev.arg rfl | apply Ev.there rfl | exact Ev.none rfl | exact Ev.func | exact Ev.var)) (by rfl) (by rfl) (by omega) ?_; intro r))
      | (refine Wc_region (id := 10) ?_; intro K hK; refine Wl_move rfl (by repeat (first | exact Ev.here | exact Ev.const | exact Ev.arg rfl | apply Ev.there rfl | exact Ev.none rfl | exact Ev.func | exact Ev.var)) ?_; refine Wl_assign rfl (by repeat (first | exact Ev.here | exact Ev.const | exact Ev.arg rfl | apply Ev.there rfl | exact Ev.none rfl | exact Ev.func | exact Ev.var)) ?_; (refine Wl_nil (hK _ _ ?_); clear hK K))
      | (refine Wc_cond rfl (fun ht => ?_) (fun ht => ?_) <;> (try simp at ht) <;> (try (exfalso; omega))))
    refine ⟨k + 1, by omega, by omega, ⟨rfl, rfl, rfl, trivial⟩, ?_⟩
    (repeat (first | exact Ent.refl _ | exact Ent.nil | refine Ent.take (by repeat (first | exact Out.head | apply Out.tail)) ?_ | refine Ent.drop1 ?_))
  · have hk3 : k = 64 := by omega
    subst hk3
    repeat' (first
      | refine Wc_seq ?_
      | refine thenQ_normal ?_
      | refine Wc_cond_t rfl ?_
      | refine Wc_cond_f rfl ?_
      | refine Wc_ret ?_
      | refine thenQ_ret ?_
      | refine Wc_block ?_
      | refine blkQ_normal ?_
      | refine blkQ_ret ?_
      | refine Wc_exit ?_
      | refine thenQ_exit ?_
      | refine blkQ_hit ?_
      | refine blkQ_miss rfl ?_
      | refine Wc_skip ?_
      | refine Wc_label ?_
      | refine loopQ_exit ?_
      | refine loopQ_ret ?_
      | refine loopQ_normal ?_
      | (refine Wc_region (id := 0) ?_; intro K hK; refine Wl_assign rfl (by repeat (first | exact Ev.here | exact Ev.const | exact Ev.arg rfl | apply Ev.there rfl | exact Ev.none rfl | exact Ev.func | exact Ev.var)) ?_; (refine Wl_nil (hK _ _ ?_); clear hK K))
      | (refine Wc_region (id := 1) ?_; intro K hK; refine Wl_build rfl (by repeat (first | exact EvL.nil | apply EvL.cons (by repeat (first | exact Ev.here | exact Ev.const | exact Ev.arg rfl | apply Ev.there rfl | exact Ev.none rfl | exact Ev.func | exact Ev.var)))) (by simp [bld, setL, Value.cells] <;> rfl) ?_; (refine Wl_boxAgg rfl (by repeat (first | exact Ev.here | exact Ev.const | exact Ev.arg rfl | apply Ev.there rfl | exact Ev.none rfl | exact Ev.func | exact Ev.var)) ?_; intro r); refine Wl_assign rfl (by repeat (first | exact Ev.here | exact Ev.const | exact Ev.arg rfl | apply Ev.there rfl | exact Ev.none rfl | exact Ev.func | exact Ev.var)) ?_; (refine Wl_nil (hK _ _ ?_); clear hK K))
      | (refine Wc_region (id := 2) ?_; intro K hK; refine Wl_assign rfl (by repeat (first | exact Ev.here | exact Ev.const | exact Ev.arg rfl | apply Ev.there rfl | exact Ev.none rfl | exact Ev.func | exact Ev.var)) ?_; (refine Wl_nil (hK _ _ ?_); clear hK K))
      | (refine Wc_region (id := 3) ?_; intro K hK; refine Wl_move rfl (by repeat (first | exact Ev.here | exact Ev.const | exact Ev.arg rfl | apply Ev.there rfl | exact Ev.none rfl | exact Ev.func | exact Ev.var)) ?_; ((refine Wl_len_str rfl rfl ?_; rw [bytes_size, List.length_replicate])) <;> (refine Wl_lss rfl rfl rfl ?_; (refine Wl_nil (hK _ _ ?_); clear hK K)))
      | (refine Wc_region (id := 4) ?_; intro K hK; refine Wl_move rfl (by repeat (first | exact Ev.here | exact Ev.const | exact Ev.arg rfl | apply Ev.there rfl | exact Ev.none rfl | exact Ev.func | exact Ev.var)) ?_; ((skip)) <;> (refine Wl_assign rfl (by repeat (first | exact Ev.here | exact Ev.const | exact Ev.arg rfl | apply Ev.there rfl | exact Ev.none rfl | exact Ev.func | exact Ev.var)) ?_; (refine Wl_nil (hK _ _ ?_); clear hK K)))
      | (refine Wc_region (id := 5) ?_; intro K hK; refine Wl_assign rfl (by repeat (first | exact Ev.here | exact Ev.const | exact Ev.arg rfl | apply Ev.there rfl | exact Ev.none rfl | exact Ev.func | exact Ev.var)) ?_; (refine Wl_nil (hK _ _ ?_); clear hK K))
      | (refine Wc_region (id := 6) ?_; intro K hK; refine Wl_move rfl (by repeat (first | exact Ev.here | exact Ev.const | exact Ev.arg rfl | apply Ev.there rfl | exact Ev.none rfl | exact Ev.func | exact Ev.var)) ?_; refine Wl_move rfl (by repeat (first | exact Ev.here | exact Ev.const | exact Ev.arg rfl | apply Ev.there rfl | exact Ev.none rfl | exact Ev.func | exact Ev.var)) ?_; refine Wl_lss rfl rfl rfl ?_; (refine Wl_nil (hK _ _ ?_); clear hK K))
      | (refine Wc_region (id := 7) ?_; intro K hK; refine Wl_move rfl (by repeat (first | exact Ev.here | exact Ev.const | exact Ev.arg rfl | apply Ev.there rfl | exact Ev.none rfl | exact Ev.func | exact Ev.var)) ?_; refine Wl_add rfl rfl rfl (by first | exact fits_i64 (by omega) | exact fits_u8 (by omega) | exact fits_u64 (by omega) | exact fits_u32 (by omega)) ?_; refine Wl_assign rfl (by repeat (first | exact Ev.here | exact Ev.const | exact Ev.arg rfl | apply Ev.there rfl | exact Ev.none rfl | exact Ev.func | exact Ev.var)) ?_; (refine Wl_nil (hK _ _ ?_); clear hK K))
      | (refine Wc_region (id := 8) ?_; intro K hK; refine Wl_move rfl (by repeat (first | exact Ev.here | exact Ev.const | exact Ev.arg rfl | apply Ev.there rfl | exact Ev.none rfl | exact Ev.func | exact Ev.var)) ?_; refine Wl_move rfl (by repeat (first | exact Ev.here | exact Ev.const | exact Ev.arg rfl | apply Ev.there rfl | exact Ev.none rfl | exact Ev.func | exact Ev.var)) ?_; refine Wl_nilCheck rfl rfl ?_; refine Wl_fieldAddr rfl rfl rfl ?_; refine Wl_load (by decide) rfl rfl (by repeat (first | exact Rd.head | exact Rd.base (by assumption) | apply Rd.tail)) rfl ?_; refine Wl_move rfl (by repeat (first | exact Ev.here | exact Ev.const | exact Ev.arg rfl | apply Ev.there rfl | exact Ev.none rfl | exact Ev.func | exact Ev.var)) ?_; (refine Wl_lit1 rfl (by repeat (first | exact Ev.here | exact Ev.const | exact Ev.arg rfl | apply Ev.there rfl | exact Ev.none rfl | exact Ev.func | exact Ev.var)) (by rfl) (by rfl) (by omega) ?_; intro r))
      | (refine Wc_region (id := 9) ?_; intro K hK; refine Wl_move rfl (by repeat (first | exact Ev.here | exact Ev.const | exact Ev.arg rfl | apply Ev.there rfl | exact Ev.none rfl | exact Ev.func | exact Ev.var)) ?_; refine Wl_move rfl (by repeat (first | exact Ev.here | exact Ev.const | exact Ev.arg rfl | apply Ev.there rfl | exact Ev.none rfl | exact Ev.func | exact Ev.var)) ?_; refine Wl_nilCheck rfl rfl ?_; refine Wl_fieldAddr rfl rfl rfl ?_; refine Wl_load (by decide) rfl rfl (by repeat (first | exact Rd.head | exact Rd.base (by assumption) | apply Rd.tail)) rfl ?_; refine Wl_move rfl (by repeat (first | exact Ev.here | exact Ev.const | exact Ev.arg rfl | apply Ev.there rfl | exact Ev.none rfl | exact Ev.func | exact Ev.var)) ?_; (refine Wl_lit1 rfl (by repeat (first | exact Ev.here | exact Ev.const | exact Ev.arg rfl | apply Ev.there rfl | exact Ev.none rfl | exact Ev.func | exact Ev.var)) (by rfl) (by rfl) (by omega) ?_; intro r))
      | (refine Wc_region (id := 10) ?_; intro K hK; refine Wl_move rfl (by repeat (first | exact Ev.here | exact Ev.const | exact Ev.arg rfl | apply Ev.there rfl | exact Ev.none rfl | exact Ev.func | exact Ev.var)) ?_; refine Wl_assign rfl (by repeat (first | exact Ev.here | exact Ev.const | exact Ev.arg rfl | apply Ev.there rfl | exact Ev.none rfl | exact Ev.func | exact Ev.var)) ?_; (refine Wl_nil (hK _ _ ?_); clear hK K))
      | (refine Wc_cond rfl (fun ht => ?_) (fun ht => ?_) <;> (try simp at ht) <;> (try (exfalso; omega))))
    refine Wc_loop (α := Nat × Option Addr × Nat × Option Addr × Nat) (fun x => [(0, .int .i64 n), (3, .pointer (some ⟨p, 0, none⟩)), (4, strV (List.replicate 64 0)), (5, .int .i64 x.1)])
      (fun x => [cb p [.slice x.2.1 x.1 x.2.2.1, .slice x.2.2.2.1 x.1 x.2.2.2.2, .slice none 0 0, .slice none 0 0, .int .i64 (-1), .bool false, .int .i64 0] 59,
        own x.2.1 x.1 x.2.2.1 1 (List.replicate x.1 (strV (List.replicate 64 0))) 9, own x.2.2.2.1 x.1 x.2.2.2.2 1 (List.replicate x.1 (strV (List.replicate 64 0))) 9])
      (fun x => x.1 ≤ n) (fun x => n - x.1) (0, none, 0, none, 0) (by simp only; omega) ⟨rfl, rfl, rfl, rfl, trivial⟩ (Ent.trans (Ent.trans (own_nil 1 9 _) (own_nil 1 9 _)) (by (repeat (first | exact Ent.refl _ | exact Ent.nil | refine Ent.take (by repeat (first | exact Out.head | apply Out.tail)) ?_ | refine Ent.drop1 ?_)))) ?_
    rintro ⟨i, ka, kc, sa, sc⟩ G hi
    simp only at hi
    simp only [ov]
    by_cases hi2 : i < n
    · repeat' (first
        | refine Wc_seq ?_
        | refine thenQ_normal ?_
        | refine Wc_cond_t rfl ?_
        | refine Wc_cond_f rfl ?_
        | refine Wc_ret ?_
        | refine thenQ_ret ?_
        | refine Wc_block ?_
        | refine blkQ_normal ?_
        | refine blkQ_ret ?_
        | refine Wc_exit ?_
        | refine thenQ_exit ?_
        | refine blkQ_hit ?_
        | refine blkQ_miss rfl ?_
        | refine Wc_skip ?_
        | refine Wc_label ?_
        | refine loopQ_exit ?_
        | refine loopQ_ret ?_
        | refine loopQ_normal ?_
        | (refine Wc_region (id := 0) ?_; intro K hK; refine Wl_assign rfl (by repeat (first | exact Ev.here | exact Ev.const | exact Ev.arg rfl | apply Ev.there rfl | exact Ev.none rfl | exact Ev.func | exact Ev.var)) ?_; (refine Wl_nil (hK _ _ ?_); clear hK K))
        | (refine Wc_region (id := 1) ?_; intro K hK; refine Wl_build rfl (by repeat (first | exact EvL.nil | apply EvL.cons (by repeat (first | exact Ev.here | exact Ev.const | exact Ev.arg rfl | apply Ev.there rfl | exact Ev.none rfl | exact Ev.func | exact Ev.var)))) (by simp [bld, setL, Value.cells] <;> rfl) ?_; (refine Wl_boxAgg rfl (by repeat (first | exact Ev.here | exact Ev.const | exact Ev.arg rfl | apply Ev.there rfl | exact Ev.none rfl | exact Ev.func | exact Ev.var)) ?_; intro r); refine Wl_assign rfl (by repeat (first | exact Ev.here | exact Ev.const | exact Ev.arg rfl | apply Ev.there rfl | exact Ev.none rfl | exact Ev.func | exact Ev.var)) ?_; (refine Wl_nil (hK _ _ ?_); clear hK K))
        | (refine Wc_region (id := 2) ?_; intro K hK; refine Wl_assign rfl (by repeat (first | exact Ev.here | exact Ev.const | exact Ev.arg rfl | apply Ev.there rfl | exact Ev.none rfl | exact Ev.func | exact Ev.var)) ?_; (refine Wl_nil (hK _ _ ?_); clear hK K))
        | (refine Wc_region (id := 3) ?_; intro K hK; refine Wl_move rfl (by repeat (first | exact Ev.here | exact Ev.const | exact Ev.arg rfl | apply Ev.there rfl | exact Ev.none rfl | exact Ev.func | exact Ev.var)) ?_; refine Wl_len_str rfl rfl ?_; refine Wl_lss rfl rfl rfl ?_; (refine Wl_nil (hK _ _ ?_); clear hK K))
        | (refine Wc_region (id := 4) ?_; intro K hK; refine Wl_move rfl (by repeat (first | exact Ev.here | exact Ev.const | exact Ev.arg rfl | apply Ev.there rfl | exact Ev.none rfl | exact Ev.func | exact Ev.var)) ?_)
        | (refine Wc_region (id := 5) ?_; intro K hK; refine Wl_assign rfl (by repeat (first | exact Ev.here | exact Ev.const | exact Ev.arg rfl | apply Ev.there rfl | exact Ev.none rfl | exact Ev.func | exact Ev.var)) ?_; (refine Wl_nil (hK _ _ ?_); clear hK K))
        | (refine Wc_region (id := 6) ?_; intro K hK; refine Wl_move rfl (by repeat (first | exact Ev.here | exact Ev.const | exact Ev.arg rfl | apply Ev.there rfl | exact Ev.none rfl | exact Ev.func | exact Ev.var)) ?_; refine Wl_move rfl (by repeat (first | exact Ev.here | exact Ev.const | exact Ev.arg rfl | apply Ev.there rfl | exact Ev.none rfl | exact Ev.func | exact Ev.var)) ?_; refine Wl_lss rfl rfl rfl ?_; (refine Wl_nil (hK _ _ ?_); clear hK K))
        | (refine Wc_region (id := 7) ?_; intro K hK; refine Wl_move rfl (by repeat (first | exact Ev.here | exact Ev.const | exact Ev.arg rfl | apply Ev.there rfl | exact Ev.none rfl | exact Ev.func | exact Ev.var)) ?_; refine Wl_add rfl rfl rfl (by first | exact fits_i64 (by omega) | exact fits_u8 (by omega) | exact fits_u64 (by omega) | exact fits_u32 (by omega)) ?_; refine Wl_assign rfl (by repeat (first | exact Ev.here | exact Ev.const | exact Ev.arg rfl | apply Ev.there rfl | exact Ev.none rfl | exact Ev.func | exact Ev.var)) ?_; (refine Wl_nil (hK _ _ ?_); clear hK K))
        | (refine Wc_region (id := 8) ?_; intro K hK; refine Wl_move rfl (by repeat (first | exact Ev.here | exact Ev.const | exact Ev.arg rfl | apply Ev.there rfl | exact Ev.none rfl | exact Ev.func | exact Ev.var)) ?_; refine Wl_move rfl (by repeat (first | exact Ev.here | exact Ev.const | exact Ev.arg rfl | apply Ev.there rfl | exact Ev.none rfl | exact Ev.func | exact Ev.var)) ?_; refine Wl_nilCheck rfl rfl ?_; refine Wl_fieldAddr rfl rfl rfl ?_; refine Wl_load (by decide) rfl rfl (by repeat (first | exact Rd.head | exact Rd.base (by assumption) | apply Rd.tail)) rfl ?_; refine Wl_move rfl (by repeat (first | exact Ev.here | exact Ev.const | exact Ev.arg rfl | apply Ev.there rfl | exact Ev.none rfl | exact Ev.func | exact Ev.var)) ?_; (refine Wl_lit1 rfl (by repeat (first | exact Ev.here | exact Ev.const | exact Ev.arg rfl | apply Ev.there rfl | exact Ev.none rfl | exact Ev.func | exact Ev.var)) (by rfl) (by rfl) (by omega) ?_; intro r); ((refine Wl_append1 (sz := 1) rfl rfl (by repeat (first | exact Ev.here | exact Ev.const | exact Ev.arg rfl | apply Ev.there rfl | exact Ev.none rfl | exact Ev.func | exact Ev.var)) (by rfl) (by omega) (by repeat (first | exact Out.head | apply Out.tail)) (by repeat (first | exact Rd.head | exact Rd.base (by assumption) | apply Rd.tail)) (by rfl) (by rfl) (by omega) ?_; intro ka' kc')) <;> (refine Wl_nilCheck rfl rfl ?_; refine Wl_fieldAddr rfl rfl rfl ?_; refine Wl_store rfl (by repeat (first | exact Ev.here | exact Ev.const | exact Ev.arg rfl | apply Ev.there rfl | exact Ev.none rfl | exact Ev.func | exact Ev.var)) (by rfl) (by repeat (first | exact Upd.head | apply Upd.tail)) (by repeat (first | exact SetAt.zero | apply SetAt.succ)) rfl (by simp) ?_; (refine Wl_nil (hK _ _ ?_); clear hK K)))
        | (refine Wc_region (id := 9) ?_; intro K hK; refine Wl_move rfl (by repeat (first | exact Ev.here | exact Ev.const | exact Ev.arg rfl | apply Ev.there rfl | exact Ev.none rfl | exact Ev.func | exact Ev.var)) ?_; refine Wl_move rfl (by repeat (first | exact Ev.here | exact Ev.const | exact Ev.arg rfl | apply Ev.there rfl | exact Ev.none rfl | exact Ev.func | exact Ev.var)) ?_; refine Wl_nilCheck rfl rfl ?_; refine Wl_fieldAddr rfl rfl rfl ?_; refine Wl_load (by decide) rfl rfl (by repeat (first | exact Rd.head | exact Rd.base (by assumption) | apply Rd.tail)) rfl ?_; refine Wl_move rfl (by repeat (first | exact Ev.here | exact Ev.const | exact Ev.arg rfl | apply Ev.there rfl | exact Ev.none rfl | exact Ev.func | exact Ev.var)) ?_; (refine Wl_lit1 rfl (by repeat (first | exact Ev.here | exact Ev.const | exact Ev.arg rfl | apply Ev.there rfl | exact Ev.none rfl | exact Ev.func | exact Ev.var)) (by rfl) (by rfl) (by omega) ?_; intro r); ((refine Wl_append1 (sz := 1) rfl rfl (by repeat (first | exact Ev.here | exact Ev.const | exact Ev.arg rfl | apply Ev.there rfl | exact Ev.none rfl | exact Ev.func | exact Ev.var)) (by rfl) (by omega) (by repeat (first | exact Out.head | apply Out.tail)) (by repeat (first | exact Rd.head | exact Rd.base (by assumption) | apply Rd.tail)) (by rfl) (by rfl) (by omega) ?_; intro sa' sc')) <;> (refine Wl_nilCheck rfl rfl ?_; refine Wl_fieldAddr rfl rfl rfl ?_; refine Wl_store rfl (by repeat (first | exact Ev.here | exact Ev.const | exact Ev.arg rfl | apply Ev.there rfl | exact Ev.none rfl | exact Ev.func | exact Ev.var)) (by rfl) (by repeat (first | exact Upd.head | apply Upd.tail)) (by repeat (first | exact SetAt.zero | apply SetAt.succ)) rfl (by simp) ?_; (refine Wl_nil (hK _ _ ?_); clear hK K)))
        | (refine Wc_region (id := 10) ?_; intro K hK; refine Wl_move rfl (by repeat (first | exact Ev.here | exact Ev.const | exact Ev.arg rfl | apply Ev.there rfl | exact Ev.none rfl | exact Ev.func | exact Ev.var)) ?_; refine Wl_assign rfl (by repeat (first | exact Ev.here | exact Ev.const | exact Ev.arg rfl | apply Ev.there rfl | exact Ev.none rfl | exact Ev.func | exact Ev.var)) ?_; (refine Wl_nil (hK _ _ ?_); clear hK K))
        | (refine Wc_cond rfl (fun ht => ?_) (fun ht => ?_) <;> (try simp at ht) <;> (try (exfalso; omega))))
      have e : List.replicate (i + 1) (strV (List.replicate 64 0)) = List.replicate i (strV (List.replicate 64 0)) ++ [strV (List.replicate 64 0)] := List.replicate_succ'
      refine ⟨(i + 1, ka', kc', sa', sc'), by simp only; omega, by simp only; omega, ⟨rfl, rfl, rfl, int_succ i, trivial⟩, ?_⟩
      simp only
      rw [e]
      (repeat (first | exact Ent.refl _ | exact Ent.nil | refine Ent.take (by repeat (first | exact Out.head | apply Out.tail)) ?_ | refine Ent.drop1 ?_))
    · have hi3 : i = n := by omega
      subst hi3
      repeat' (first
        | refine Wc_seq ?_
        | refine thenQ_normal ?_
        | refine Wc_cond_t rfl ?_
        | refine Wc_cond_f rfl ?_
        | refine Wc_ret ?_
        | refine thenQ_ret ?_
        | refine Wc_block ?_
        | refine blkQ_normal ?_
        | refine blkQ_ret ?_
        | refine Wc_exit ?_
        | refine thenQ_exit ?_
        | refine blkQ_hit ?_
        | refine blkQ_miss rfl ?_
        | refine Wc_skip ?_
        | refine Wc_label ?_
        | refine loopQ_exit ?_
        | refine loopQ_ret ?_
        | refine loopQ_normal ?_
        | (refine Wc_region (id := 0) ?_; intro K hK; refine Wl_assign rfl (by repeat (first | exact Ev.here | exact Ev.const | exact Ev.arg rfl | apply Ev.there rfl | exact Ev.none rfl | exact Ev.func | exact Ev.var)) ?_; (refine Wl_nil (hK _ _ ?_); clear hK K))
        | (refine Wc_region (id := 1) ?_; intro K hK; refine Wl_build rfl (by repeat (first | exact EvL.nil | apply EvL.cons (by repeat (first | exact Ev.here | exact Ev.const | exact Ev.arg rfl | apply Ev.there rfl | exact Ev.none rfl | exact Ev.func | exact Ev.var)))) (by simp [bld, setL, Value.cells] <;> rfl) ?_; (refine Wl_boxAgg rfl (by repeat (first | exact Ev.here | exact Ev.const | exact Ev.arg rfl | apply Ev.there rfl | exact Ev.none rfl | exact Ev.func | exact Ev.var)) ?_; intro r); refine Wl_assign rfl (by repeat (first | exact Ev.here | exact Ev.const | exact Ev.arg rfl | apply Ev.there rfl | exact Ev.none rfl | exact Ev.func | exact Ev.var)) ?_; (refine Wl_nil (hK _ _ ?_); clear hK K))
        | (refine Wc_region (id := 2) ?_; intro K hK; refine Wl_assign rfl (by repeat (first | exact Ev.here | exact Ev.const | exact Ev.arg rfl | apply Ev.there rfl | exact Ev.none rfl | exact Ev.func | exact Ev.var)) ?_; (refine Wl_nil (hK _ _ ?_); clear hK K))
        | (refine Wc_region (id := 3) ?_; intro K hK; refine Wl_move rfl (by repeat (first | exact Ev.here | exact Ev.const | exact Ev.arg rfl | apply Ev.there rfl | exact Ev.none rfl | exact Ev.func | exact Ev.var)) ?_; refine Wl_len_str rfl rfl ?_; refine Wl_lss rfl rfl rfl ?_; (refine Wl_nil (hK _ _ ?_); clear hK K))
        | (refine Wc_region (id := 4) ?_; intro K hK; refine Wl_move rfl (by repeat (first | exact Ev.here | exact Ev.const | exact Ev.arg rfl | apply Ev.there rfl | exact Ev.none rfl | exact Ev.func | exact Ev.var)) ?_)
        | (refine Wc_region (id := 5) ?_; intro K hK; refine Wl_assign rfl (by repeat (first | exact Ev.here | exact Ev.const | exact Ev.arg rfl | apply Ev.there rfl | exact Ev.none rfl | exact Ev.func | exact Ev.var)) ?_; (refine Wl_nil (hK _ _ ?_); clear hK K))
        | (refine Wc_region (id := 6) ?_; intro K hK; refine Wl_move rfl (by repeat (first | exact Ev.here | exact Ev.const | exact Ev.arg rfl | apply Ev.there rfl | exact Ev.none rfl | exact Ev.func | exact Ev.var)) ?_; refine Wl_move rfl (by repeat (first | exact Ev.here | exact Ev.const | exact Ev.arg rfl | apply Ev.there rfl | exact Ev.none rfl | exact Ev.func | exact Ev.var)) ?_; refine Wl_lss rfl rfl rfl ?_; (refine Wl_nil (hK _ _ ?_); clear hK K))
        | (refine Wc_region (id := 7) ?_; intro K hK; refine Wl_move rfl (by repeat (first | exact Ev.here | exact Ev.const | exact Ev.arg rfl | apply Ev.there rfl | exact Ev.none rfl | exact Ev.func | exact Ev.var)) ?_; refine Wl_add rfl rfl rfl (by first | exact fits_i64 (by omega) | exact fits_u8 (by omega) | exact fits_u64 (by omega) | exact fits_u32 (by omega)) ?_; refine Wl_assign rfl (by repeat (first | exact Ev.here | exact Ev.const | exact Ev.arg rfl | apply Ev.there rfl | exact Ev.none rfl | exact Ev.func | exact Ev.var)) ?_; (refine Wl_nil (hK _ _ ?_); clear hK K))
        | (refine Wc_region (id := 8) ?_; intro K hK; refine Wl_move rfl (by repeat (first | exact Ev.here | exact Ev.const | exact Ev.arg rfl | apply Ev.there rfl | exact Ev.none rfl | exact Ev.func | exact Ev.var)) ?_; refine Wl_move rfl (by repeat (first | exact Ev.here | exact Ev.const | exact Ev.arg rfl | apply Ev.there rfl | exact Ev.none rfl | exact Ev.func | exact Ev.var)) ?_; refine Wl_nilCheck rfl rfl ?_; refine Wl_fieldAddr rfl rfl rfl ?_; refine Wl_load (by decide) rfl rfl (by repeat (first | exact Rd.head | exact Rd.base (by assumption) | apply Rd.tail)) rfl ?_; refine Wl_move rfl (by repeat (first | exact Ev.here | exact Ev.const | exact Ev.arg rfl | apply Ev.there rfl | exact Ev.none rfl | exact Ev.func | exact Ev.var)) ?_; (refine Wl_lit1 rfl (by repeat (first | exact Ev.here | exact Ev.const | exact Ev.arg rfl | apply Ev.there rfl | exact Ev.none rfl | exact Ev.func | exact Ev.var)) (by rfl) (by rfl) (by omega) ?_; intro r); ((skip)) <;> (refine Wl_nilCheck rfl rfl ?_; refine Wl_fieldAddr rfl rfl rfl ?_; refine Wl_store rfl (by repeat (first | exact Ev.here | exact Ev.const | exact Ev.arg rfl | apply Ev.there rfl | exact Ev.none rfl | exact Ev.func | exact Ev.var)) (by rfl) (by repeat (first | exact Upd.head | apply Upd.tail)) (by repeat (first | exact SetAt.zero | apply SetAt.succ)) rfl (by simp) ?_; (refine Wl_nil (hK _ _ ?_); clear hK K)))
        | (refine Wc_region (id := 9) ?_; intro K hK; refine Wl_move rfl (by repeat (first | exact Ev.here | exact Ev.const | exact Ev.arg rfl | apply Ev.there rfl | exact Ev.none rfl | exact Ev.func | exact Ev.var)) ?_; refine Wl_move rfl (by repeat (first | exact Ev.here | exact Ev.const | exact Ev.arg rfl | apply Ev.there rfl | exact Ev.none rfl | exact Ev.func | exact Ev.var)) ?_; refine Wl_nilCheck rfl rfl ?_; refine Wl_fieldAddr rfl rfl rfl ?_; refine Wl_load (by decide) rfl rfl (by repeat (first | exact Rd.head | exact Rd.base (by assumption) | apply Rd.tail)) rfl ?_; refine Wl_move rfl (by repeat (first | exact Ev.here | exact Ev.const | exact Ev.arg rfl | apply Ev.there rfl | exact Ev.none rfl | exact Ev.func | exact Ev.var)) ?_; (refine Wl_lit1 rfl (by repeat (first | exact Ev.here | exact Ev.const | exact Ev.arg rfl | apply Ev.there rfl | exact Ev.none rfl | exact Ev.func | exact Ev.var)) (by rfl) (by rfl) (by omega) ?_; intro r))
        | (refine Wc_region (id := 10) ?_; intro K hK; refine Wl_move rfl (by repeat (first | exact Ev.here | exact Ev.const | exact Ev.arg rfl | apply Ev.there rfl | exact Ev.none rfl | exact Ev.func | exact Ev.var)) ?_; refine Wl_assign rfl (by repeat (first | exact Ev.here | exact Ev.const | exact Ev.arg rfl | apply Ev.there rfl | exact Ev.none rfl | exact Ev.func | exact Ev.var)) ?_; (refine Wl_nil (hK _ _ ?_); clear hK K))
        | (refine Wc_cond rfl (fun ht => ?_) (fun ht => ?_) <;> (try simp at ht) <;> (try (exfalso; omega))))
      refine ⟨Or.inr rfl, _, [_], fold_ref (A0 := []) (D := Dk.new i) (x := ⟨ka, kc, sa, sc, none, 0, none, 0⟩) ?_, res1 rfl rfl, _, rfl, rfl⟩
      simp only [RefL, hs1, hs2]
      refine Ent.trans (Ent.trans (own_nil 1 3 _) (own_nil 1 9 _)) ?_
      simp only [List.cons_append, List.nil_append]
      (repeat (first | exact Ent.refl _ | exact Ent.nil | refine Ent.take (by repeat (first | exact Out.head | apply Out.tail)) ?_ | refine Ent.drop1 ?_))
end specs
end Go.Proofs.Ytjmmmfibmdlclaa
