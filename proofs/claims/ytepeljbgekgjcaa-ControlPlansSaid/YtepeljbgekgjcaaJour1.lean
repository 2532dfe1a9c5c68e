/- Package journal: parts, sectors, numbers. Conditions: sizes far from the kind's edges. -/
import Derived.Test.YtepeljbgekgjcaaBytes
import Derived.Test.YtepeljbgekgjcaaDisk2
import Derived.Test.YtepeljbgekgjcaaSr
set_option maxHeartbeats 8000000
set_option linter.unusedVariables false
set_option linter.unusedSimpArgs false
set_option maxRecDepth 100000
namespace Go.Proofs.Ytepeljbgekgjcaa
open Go Go.Sl
attribute [local irreducible] Go.Sl.Wl Go.Sl.Wc Go.Sl.thenQ Go.Sl.blkQ Go.Sl.loopQ Go.Sl.Fspec

theorem store_run {a : Addr} {x y : Int} {w : World} (hc : w.cell? a = some (.int .u32 x)) (hz : w.frozen? a = false) :
    (callFunc 51 #[.pointer (some a), .int .u32 y]).run Try.prog w = .ok (.value (.tuple #[])) (w.setCell a (.int .u32 y)) :=
  run_call_store Try.func51 (by kernel_rfl) (by kernel_rfl) (by kernel_rfl) (by kernel_rfl) hc hz
theorem load32_run {a : Addr} {x : Int} {w : World} (hc : w.cell? a = some (.int .u32 x)) :
    (callFunc 45 #[.pointer (some a)]).run Try.prog w = .ok (.value (.int .u32 x)) w :=
  run_call_load Try.func45 (by kernel_rfl) (by kernel_rfl) (by kernel_rfl) .u32 (by kernel_rfl) hc
def b32 (b : Bool) : Int := if b = true then 1 else 0
theorem setL_sec (lap number part of : Nat) (b : List UInt8) (h : b.length ≤ 47) : setL ((secH lap number part of b.length).map byteV) (0 + 13 * 1) ((b.map byteV).take (b.length * 1)) = (secL lap number part of b).map byteV := by
  have hl : (secH lap number part of b.length).length = 64 := by simp [secH, secI_length]
  rw [List.take_of_length_le (by simp), setL_eq _ _ _ (by simp [hl]; omega), ← secH_copy _ _ _ _ _ h]
  simp
theorem list_beq (l u : List UInt8) : (l == u) = decide (l = u) := by by_cases e : l = u <;> simp [e]
section specs
variable {B : Base}
theorem b32_spec (b : Bool) : Fspec Try.prog B 52 #[.bool b] [] (fun v A' => v = .int .u32 (b32 b) ∧ A' = []) := by
  refine spec_of (args := [_]) Try.func52 rfl rfl rfl ?_
  cases b
  all_goals
    repeat' (first
      | refine Wc_seq ?_
      | refine thenQ_normal ?_
      | refine Wc_cond_t (h := ?_)
      | refine Wc_cond_f (h := ?_)
      | refine Wc_ret ?_
      | refine thenQ_ret ?_
      | refine Wc_block ?_
      | refine blkQ_normal ?_
      | refine blkQ_ret ?_
      | refine Wc_exit ?_
      | refine thenQ_exit ?_
      | refine blkQ_hit ?_
      | refine blkQ_miss rfl ?_
      | refine Wc_skip ?_
      | refine Wc_label ?_
      | refine loopQ_exit ?_
      | refine loopQ_ret ?_
      | refine loopQ_normal ?_
      | (refine Wc_region (id := 0) ?_; intro K hK; refine Wl_assign (k := ?_); (refine Wl_nil (hK _ _ ?_); clear hK K))
      | (refine Wc_region (id := 1) ?_; intro K hK; refine Wl_move (k := ?_); (refine Wl_nil (hK _ _ ?_); clear hK K))
      | (refine Wc_region (id := 2) ?_; intro K hK; refine Wl_assign (k := ?_); (refine Wl_nil (hK _ _ ?_); clear hK K))
      | (refine Wc_region (id := 3) ?_; intro K hK; refine Wl_assign (k := ?_); (refine Wl_nil (hK _ _ ?_); clear hK K))
      | (refine Wc_cond (ht := (fun ht => ?_)) (hf := (fun ht => ?_)) <;> (try simp at ht) <;> (try (exfalso; omega))))
    exact ⟨Or.inr rfl, _, [], Ent.nil, res1 rfl rfl, rfl, rfl⟩
theorem bload_spec (p off : Nat) (l : List Value) (E : TypeId) (b : Bool) (hx : l[off]? = some (.int .u32 (b32 b))) :
    Fspec Try.prog B 27 #[.pointer (some ⟨p, off, none⟩)] [cb p l E] (fun v A' => v = .bool b ∧ A' = [cb p l E]) := by
  have hrun : ∀ w R, Sat B w (R :: [cb p l E]) → ∃ w', (callFunc 45 #[.pointer (some ⟨p, off, none⟩)]).run Try.prog w = .ok (.value (.int .u32 (b32 b))) w' ∧ Sat B w' (R :: [cb p l E]) := fun w R hs => by
    have hh := (hs.get (List.mem_cons_of_mem R (List.mem_cons_self ..))).2
    exact ⟨_, load32_run (cell_of_heap hh hx), hs⟩
  refine spec_of (args := [_]) Try.func27 rfl rfl rfl ?_
  repeat' (first
    | refine Wc_seq ?_
    | refine thenQ_normal ?_
    | refine Wc_cond_t (h := ?_)
    | refine Wc_cond_f (h := ?_)
    | refine Wc_ret ?_
    | refine thenQ_ret ?_
    | refine Wc_block ?_
    | refine blkQ_normal ?_
    | refine blkQ_ret ?_
    | refine Wc_exit ?_
    | refine thenQ_exit ?_
    | refine blkQ_hit ?_
    | refine blkQ_miss rfl ?_
    | refine Wc_skip ?_
    | refine Wc_label ?_
    | refine loopQ_exit ?_
    | refine loopQ_ret ?_
    | refine loopQ_normal ?_
    | (refine Wc_region (id := 0) ?_; intro K hK; refine Wl_assign (k := ?_); (refine Wl_nil (hK _ _ ?_); clear hK K))
    | (refine Wc_region (id := 1) ?_; intro K hK; refine Wl_move (k := ?_); refine Wl_nilCheck (k := ?_); refine Wl_fieldAddr (k := ?_); ((refine Wl_callX (hrun := hrun) (k := ?_))) <;> (((refine Wl_neq (k' := ?_); rw [show decide (b32 b ≠ 0) = b by cases b <;> rfl])) <;> (refine Wl_assign (k := ?_); (refine Wl_nil (hK _ _ ?_); clear hK K))))
    | (refine Wc_cond (ht := (fun ht => ?_)) (hf := (fun ht => ?_)) <;> (try simp at ht) <;> (try (exfalso; omega))))
  refine ⟨Or.inr rfl, _, _, Ent.refl _, res1 rfl rfl, ?_⟩; exact ⟨rfl, rfl⟩
theorem bstore_spec (p off : Nat) (l l' : List Value) (E : TypeId) (b b0 : Bool) (hx : l[off]? = some (.int .u32 (b32 b0))) (hl : SetAt l off (.int .u32 (b32 b)) l') :
    Fspec Try.prog B 36 #[.pointer (some ⟨p, off, none⟩), .bool b] [cb p l E] (fun v A' => v = .tuple #[] ∧ A' = [cb p l' E]) := by
  have hrun : ∀ w R, Sat B w (R :: [cb p l E]) → ∃ w', (callFunc 51 #[.pointer (some ⟨p, off, none⟩), .int .u32 (b32 b)]).run Try.prog w = .ok (.value (.tuple #[])) w' ∧ Sat B w' (R :: [cb p l' E]) := fun w R hs => by
    have hh := (hs.get (List.mem_cons_of_mem R (List.mem_cons_self ..))).2
    obtain ⟨hlt, rfl⟩ := hl.out
    have hc := cell_of_heap hh hx
    have hz : w.frozen? ⟨p, off, none⟩ = false := by simp [World.frozen?, hh]
    exact ⟨_, store_run hc hz, Upd.head.sat (Io.refl w : Io w (w.setCell _ _)) (setCell_size _).symm (fun x hx => setCell_ne _ hx) (setCell_heap _ hh) hs⟩
  refine spec_of (args := [_, _]) Try.func36 rfl rfl rfl ?_
  repeat' (first
    | refine Wc_seq ?_
    | refine thenQ_normal ?_
    | refine Wc_cond_t (h := ?_)
    | refine Wc_cond_f (h := ?_)
    | refine Wc_ret ?_
    | refine thenQ_ret ?_
    | refine Wc_block ?_
    | refine blkQ_normal ?_
    | refine blkQ_ret ?_
    | refine Wc_exit ?_
    | refine thenQ_exit ?_
    | refine blkQ_hit ?_
    | refine blkQ_miss rfl ?_
    | refine Wc_skip ?_
    | refine Wc_label ?_
    | refine loopQ_exit ?_
    | refine loopQ_ret ?_
    | refine loopQ_normal ?_
    | (refine Wc_drawF (id := 0) (M := ([])) (Ls := []) (hp := (Pick.perm (by (repeat (first | exact Pick.nil | apply Pick.cons (by (repeat (first | exact Out.head | apply Out.tail)); (first | done | fail)))); (first | done | fail)))) (h := ?_); intro K hK; refine Wl_move (k := ?_); refine Wl_nilCheck (k := ?_); refine Wl_fieldAddr (k := ?_); refine Wl_move (k := ?_); ((refine Wl_call (hs := (b32_spec b)) (k := ?_); rintro v A' ⟨rfl, rfl⟩; simp only [List.cons_append, List.nil_append])) <;> (((refine Wl_callX (hrun := hrun) (k := ?_))) <;> ((refine Wl_nil (hK _ _ ?_); clear hK K; try simp only [List.cons_append, List.nil_append]))))
    | (refine Wc_cond (ht := (fun ht => ?_)) (hf := (fun ht => ?_)) <;> (try simp at ht) <;> (try (exfalso; omega))))
  exact ⟨by simp, _, _, Ent.refl _, res0 rfl, rfl, rfl⟩
theorem parts_spec (n : Nat) (h : n ≤ 9223372036854775807) : Fspec Try.prog B 38 #[.int .i64 n] [] (fun v A' => v = .int .i64 (partsN n) ∧ A' = []) := by
  refine spec_of (args := [_]) Try.func38 rfl rfl rfl ?_
  repeat' (first
    | refine Wc_seq ?_
    | refine thenQ_normal ?_
    | refine Wc_cond_t (h := ?_)
    | refine Wc_cond_f (h := ?_)
    | refine Wc_ret ?_
    | refine thenQ_ret ?_
    | refine Wc_block ?_
    | refine blkQ_normal ?_
    | refine blkQ_ret ?_
    | refine Wc_exit ?_
    | refine thenQ_exit ?_
    | refine blkQ_hit ?_
    | refine blkQ_miss rfl ?_
    | refine Wc_skip ?_
    | refine Wc_label ?_
    | refine loopQ_exit ?_
    | refine loopQ_ret ?_
    | refine loopQ_normal ?_
    | (refine Wc_region (id := 0) ?_; intro K hK; refine Wl_assign (k := ?_); (refine Wl_nil (hK _ _ ?_); clear hK K))
    | (refine Wc_region (id := 1) ?_; intro K hK; refine Wl_move (k := ?_); refine Wl_lss (k' := ?_); (refine Wl_nil (hK _ _ ?_); clear hK K))
    | (refine Wc_region (id := 2) ?_; intro K hK; refine Wl_assign (k := ?_); (refine Wl_nil (hK _ _ ?_); clear hK K))
    | (refine Wc_region (id := 3) ?_; intro K hK; refine Wl_move (k := ?_); refine Wl_sub (k' := ?_); ((refine Wl_quo (k' := ?_); rw [quo47 n h])) <;> (refine Wl_add (k' := ?_); refine Wl_max (k' := ?_); refine Wl_assign (k := ?_); (refine Wl_nil (hK _ _ ?_); clear hK K)))
    | (refine Wc_cond (ht := (fun ht => ?_)) (hf := (fun ht => ?_)) <;> (try simp at ht) <;> (try (exfalso; omega))))
  exact ⟨Or.inr rfl, _, [], Ent.nil, res1 rfl rfl, congrArg (Value.int .i64) (by unfold partsN; omega), rfl⟩
theorem parts_neg (n : Int) (h : n < 0) : Fspec Try.prog B 38 #[.int .i64 n] [] (fun v A' => v = .int .i64 0 ∧ A' = []) := by
  refine spec_of (args := [_]) Try.func38 rfl rfl rfl ?_
  repeat' (first
    | refine Wc_seq ?_
    | refine thenQ_normal ?_
    | refine Wc_cond_t (h := ?_)
    | refine Wc_cond_f (h := ?_)
    | refine Wc_ret ?_
    | refine thenQ_ret ?_
    | refine Wc_block ?_
    | refine blkQ_normal ?_
    | refine blkQ_ret ?_
    | refine Wc_exit ?_
    | refine thenQ_exit ?_
    | refine blkQ_hit ?_
    | refine blkQ_miss rfl ?_
    | refine Wc_skip ?_
    | refine Wc_label ?_
    | refine loopQ_exit ?_
    | refine loopQ_ret ?_
    | refine loopQ_normal ?_
    | (refine Wc_region (id := 0) ?_; intro K hK; refine Wl_assign (k := ?_); (refine Wl_nil (hK _ _ ?_); clear hK K))
    | (refine Wc_region (id := 1) ?_; intro K hK; refine Wl_move (k := ?_); refine Wl_lss (k' := ?_); (refine Wl_nil (hK _ _ ?_); clear hK K))
    | (refine Wc_region (id := 2) ?_; intro K hK; refine Wl_assign (k := ?_); (refine Wl_nil (hK _ _ ?_); clear hK K))
    | (refine Wc_cond (ht := (fun ht => ?_)) (hf := (fun ht => ?_)) <;> (try simp at ht) <;> (try (exfalso; omega))))
  exact ⟨Or.inr rfl, _, [], Ent.nil, res1 rfl rfl, rfl, rfl⟩
theorem number4_spec (A0 : List Asn) (a : Option Addr) (m c : Nat) (b0 b1 b2 b3 : UInt8) (r : List UInt8) (h : RdS Try.prog B A0 1 a m c ((b0 :: b1 :: b2 :: b3 :: r).map byteV)) :
    Fspec Try.prog B 47 #[.slice a m c] A0 (fun v A' => v = .int .i64 (num4 (b0 :: b1 :: b2 :: b3 :: r)) ∧ A' = A0) := by
  have h0 := u8_lt b0; have h1 := u8_lt b1; have h2 := u8_lt b2; have h3 := u8_lt b3
  have hm : 4 ≤ m := by have := h.len; simp at this; omega
  obtain ⟨p, rfl⟩ : ∃ p, a = some p := by
    cases a with
    | none => have := h.nil rfl; omega
    | some p => exact ⟨p, rfl⟩
  refine spec_of (args := [_]) Try.func47 rfl rfl rfl ?_
  repeat' (first
    | refine Wc_seq ?_
    | refine thenQ_normal ?_
    | refine Wc_cond_t (h := ?_)
    | refine Wc_cond_f (h := ?_)
    | refine Wc_ret ?_
    | refine thenQ_ret ?_
    | refine Wc_block ?_
    | refine blkQ_normal ?_
    | refine blkQ_ret ?_
    | refine Wc_exit ?_
    | refine thenQ_exit ?_
    | refine blkQ_hit ?_
    | refine blkQ_miss rfl ?_
    | refine Wc_skip ?_
    | refine Wc_label ?_
    | refine loopQ_exit ?_
    | refine loopQ_ret ?_
    | refine loopQ_normal ?_
    | (refine Wc_region (id := 0) ?_; intro K hK; refine Wl_assign (k := ?_); (refine Wl_nil (hK _ _ ?_); clear hK K))
    | (refine Wc_draw (id := 1) (h := ?_); intro K hK; refine Wl_move (k := ?_); ((refine Wl_index_any (k' := ?_))) <;> (((refine Wl_loadG (v := byteV b0) (j := 0) (hq := rfl) (hr := h) (k := ?_))) <;> (refine Wl_conv (k' := ?_); refine Wl_shl (k' := ?_); refine Wl_move (k := ?_); ((refine Wl_index_any (k' := ?_))) <;> (((refine Wl_loadG (v := byteV b1) (j := 1) (hq := rfl) (hr := h) (k := ?_))) <;> (refine Wl_conv (k' := ?_); refine Wl_shl (k' := ?_); refine Wl_or (k' := ?_); refine Wl_move (k := ?_); ((refine Wl_index_any (k' := ?_))) <;> (((refine Wl_loadG (v := byteV b2) (j := 2) (hq := rfl) (hr := h) (k := ?_))) <;> (refine Wl_conv (k' := ?_); refine Wl_shl (k' := ?_); refine Wl_or (k' := ?_); refine Wl_move (k := ?_); ((refine Wl_index_any (k' := ?_))) <;> (((refine Wl_loadG (v := byteV b3) (j := 3) (hq := rfl) (hr := h) (k := ?_))) <;> (refine Wl_conv (k' := ?_); ((refine Wl_or (k' := ?_); rw [num4_or b0 b1 b2 b3 r])) <;> (refine Wl_assign (k := ?_); (refine Wl_nil (hK _ _ ?_); clear hK K)))))))))))
    | (refine Wc_cond (ht := (fun ht => ?_)) (hf := (fun ht => ?_)) <;> (try simp at ht) <;> (try (exfalso; omega))))
  exact ⟨Or.inr rfl, _, A0, Ent.refl _, res1 rfl rfl, rfl, rfl⟩
theorem jsame_spec (A0 : List Asn) (a b : Option Addr) (m c n c' : Nat) (l u : List UInt8) (h1 : RdS Try.prog B A0 1 a m c (l.map byteV)) (h2 : RdS Try.prog B A0 1 b n c' (u.map byteV)) :
    Fspec Try.prog B 58 #[.slice a m c, .slice b n c'] A0 (fun v A' => v = .bool (decide (l = u)) ∧ A' = A0) := by
  refine spec_of (args := [_, _]) Try.func58 rfl rfl rfl ?_
  repeat' (first
    | refine Wc_seq ?_
    | refine thenQ_normal ?_
    | refine Wc_cond_t (h := ?_)
    | refine Wc_cond_f (h := ?_)
    | refine Wc_ret ?_
    | refine thenQ_ret ?_
    | refine Wc_block ?_
    | refine blkQ_normal ?_
    | refine blkQ_ret ?_
    | refine Wc_exit ?_
    | refine thenQ_exit ?_
    | refine blkQ_hit ?_
    | refine blkQ_miss rfl ?_
    | refine Wc_skip ?_
    | refine Wc_label ?_
    | refine loopQ_exit ?_
    | refine loopQ_ret ?_
    | refine loopQ_normal ?_
    | (refine Wc_region (id := 0) ?_; intro K hK; refine Wl_assign (k := ?_); (refine Wl_nil (hK _ _ ?_); clear hK K))
    | (refine Wc_region (id := 1) ?_; intro K hK; refine Wl_move (k := ?_); ((refine Wl_bytes_str (cs := l) (hsrc := h1.src) (hl := by have := h1.len; simpa using this) (k := ?_))) <;> (refine Wl_move (k := ?_); ((refine Wl_bytes_str (cs := u) (hsrc := h2.src) (hl := by have := h2.len; simpa using this) (k := ?_))) <;> (((refine Wl_str_eql (k' := ?_); rw [bytes_toList, bytes_toList, list_beq])) <;> (refine Wl_assign (k := ?_); (refine Wl_nil (hK _ _ ?_); clear hK K)))))
    | (refine Wc_cond (ht := (fun ht => ?_)) (hf := (fun ht => ?_)) <;> (try simp at ht) <;> (try (exfalso; omega))))
  exact ⟨Or.inr rfl, _, A0, Ent.refl _, res1 rfl rfl, rfl, rfl⟩
theorem sector_spec (A0 : List Asn) (lap number part of : Nat) (a : Option Addr) (m c : Nat) (b : List UInt8) (h : RdS Try.prog B A0 1 a m c (b.map byteV)) (hm : m ≤ 47) :
    Fspec Try.prog B 55 #[.int .i64 lap, .int .i64 number, .int .i64 part, .int .i64 of, .slice a m c] A0
      (fun v A' => ∃ r, v = .slice (some ⟨r, 0, none⟩) 64 64 ∧ A' = cb r ((secL lap number part of b).map byteV) 101 :: A0) := by
  refine spec_of (args := [_, _, _, _, _]) Try.func55 rfl rfl rfl ?_
  repeat' (first
    | refine Wc_seq ?_
    | refine thenQ_normal ?_
    | refine Wc_cond_t (h := ?_)
    | refine Wc_cond_f (h := ?_)
    | refine Wc_ret ?_
    | refine thenQ_ret ?_
    | refine Wc_block ?_
    | refine blkQ_normal ?_
    | refine blkQ_ret ?_
    | refine Wc_exit ?_
    | refine thenQ_exit ?_
    | refine blkQ_hit ?_
    | refine blkQ_miss rfl ?_
    | refine Wc_skip ?_
    | refine Wc_label ?_
    | refine loopQ_exit ?_
    | refine loopQ_ret ?_
    | refine loopQ_normal ?_
    | (refine Wc_region (id := 0) ?_; intro K hK; refine Wl_assign (k := ?_); (refine Wl_nil (hK _ _ ?_); clear hK K))
    | (refine Wc_region (id := 1) ?_; intro K hK; (refine Wl_alloc (k := ?_); intro r); (refine Wl_nil (hK _ _ ?_); clear hK K))
    | (refine Wc_region (id := 2) ?_; intro K hK; refine Wl_assign (k := ?_); (refine Wl_nil (hK _ _ ?_); clear hK K))
    | (refine Wc_cond (ht := (fun ht => ?_)) (hf := (fun ht => ?_)) <;> (try simp at ht) <;> (try (exfalso; omega))))
  have hz : cb r zr64_intu80 101 = cb r ((secI lap number 0).map byteV) 101 := by
    congr 2
  rw [hz]
  refine Wc_loop (α := Nat) (fun i => [(0, .int .i64 lap), (1, .int .i64 number), (2, .int .i64 part), (3, .int .i64 of), (4, .slice a m c), (10, .slice none 0 0), (11, .pointer (some ⟨r, 0, none⟩)), (12, .int .i64 i)])
    (fun i => cb r ((secI lap number i).map byteV) 101 :: A0) (fun i => i ≤ 4) (fun i => 4 - i) 0 (by omega) ⟨rfl, rfl, rfl, rfl, rfl, rfl, rfl, rfl, trivial⟩ (Ent.refl _) ?_
  intro i G hi
  simp only [ov]
  by_cases hlt : i < 4
  · have hl := secI_length lap number i
    repeat' (first
      | refine Wc_seq ?_
      | refine thenQ_normal ?_
      | refine Wc_cond_t (h := ?_)
      | refine Wc_cond_f (h := ?_)
      | refine Wc_ret ?_
      | refine thenQ_ret ?_
      | refine Wc_block ?_
      | refine blkQ_normal ?_
      | refine blkQ_ret ?_
      | refine Wc_exit ?_
      | refine thenQ_exit ?_
      | refine blkQ_hit ?_
      | refine blkQ_miss rfl ?_
      | refine Wc_skip ?_
      | refine Wc_label ?_
      | refine loopQ_exit ?_
      | refine loopQ_ret ?_
      | refine loopQ_normal ?_
      | (refine Wc_region (id := 3) ?_; intro K hK; refine Wl_move (k := ?_); refine Wl_lss (k' := ?_); (refine Wl_nil (hK _ _ ?_); clear hK K))
      | (refine Wc_region (id := 4) ?_; intro K hK; refine Wl_move (k := ?_); refine Wl_add (k' := ?_); refine Wl_assign (k := ?_); (refine Wl_nil (hK _ _ ?_); clear hK K))
      | (refine Wc_drawF (id := 5) (M := ([])) (Ls := [27, 33, 39]) (hp := (Pick.perm (by (repeat (first | exact Pick.nil | apply Pick.cons (by (repeat (first | exact Out.head | apply Out.tail)); (first | done | fail)))); (first | done | fail)))) (h := ?_); intro K hK; refine Wl_move (k := ?_); refine Wl_move (k := ?_); refine Wl_add (k' := ?_); refine Wl_move (k := ?_); refine Wl_add (k' := ?_); refine Wl_move (k := ?_); refine Wl_move (k := ?_); refine Wl_mul (k' := ?_); refine Wl_sub (k' := ?_); refine Wl_shr (k' := ?_); ((refine Wl_convW (k' := ?_); rw [shr_be lap i hlt])) <;> (refine Wl_move (k := ?_); refine Wl_move (k := ?_); refine Wl_mul (k' := ?_); refine Wl_sub (k' := ?_); refine Wl_shr (k' := ?_); ((refine Wl_convW (k' := ?_); rw [shr_be lap i hlt])) <;> (refine Wl_move (k := ?_); refine Wl_move (k := ?_); refine Wl_mul (k' := ?_); refine Wl_sub (k' := ?_); refine Wl_shr (k' := ?_); ((refine Wl_convW (k' := ?_); rw [shr_be number i hlt])) <;> (refine Wl_index_arr (k' := ?_); ((refine Wl_store (l' := ((secI lap number i).set i (be lap (3 - i))).map byteV) (ho := rfl) (hs := sat_map (by simp) (by rw [hl]; omega)) (k := ?_))) <;> (refine Wl_index_arr (k' := ?_); ((refine Wl_store (l' := (((secI lap number i).set i (be lap (3 - i))).set (60 + i) (be lap (3 - i))).map byteV) (ho := rfl) (hs := sat_map (by omega) (by simp [hl]; omega)) (k := ?_))) <;> (refine Wl_index_arr (k' := ?_); ((refine Wl_store (l' := (secI lap number (i + 1)).map byteV) (ho := rfl) (hs := sat_map (by omega) (by simp [hl]; omega)) (k := ?_))) <;> ((refine Wl_nil (hK _ _ ?_); clear hK K; try simp only [List.cons_append, List.nil_append]))))))))
      | (refine Wc_cond (ht := (fun ht => ?_)) (hf := (fun ht => ?_)) <;> (try simp at ht) <;> (try (exfalso; omega))))
    exact ⟨i + 1, by omega, by omega, ⟨rfl, rfl, rfl, rfl, rfl, rfl, rfl, int_succ i, trivial⟩, Ent.refl _⟩
  · obtain rfl : i = 4 := by omega
    have hb : b.length = m := by have := h.len; simpa using this
    have hl := secI_length lap number 4
    subst hb
    repeat' (first
      | refine Wc_seq ?_
      | refine thenQ_normal ?_
      | refine Wc_cond_t (h := ?_)
      | refine Wc_cond_f (h := ?_)
      | refine Wc_ret ?_
      | refine thenQ_ret ?_
      | refine Wc_block ?_
      | refine blkQ_normal ?_
      | refine blkQ_ret ?_
      | refine Wc_exit ?_
      | refine thenQ_exit ?_
      | refine blkQ_hit ?_
      | refine blkQ_miss rfl ?_
      | refine Wc_skip ?_
      | refine Wc_label ?_
      | refine loopQ_exit ?_
      | refine loopQ_ret ?_
      | refine loopQ_normal ?_
      | (refine Wc_region (id := 3) ?_; intro K hK; refine Wl_move (k := ?_); refine Wl_lss (k' := ?_); (refine Wl_nil (hK _ _ ?_); clear hK K))
      | (refine Wc_region (id := 6) ?_; intro K hK; refine Wl_move (k := ?_); refine Wl_shr (k' := ?_); ((refine Wl_convW (k' := ?_); rw [shr8_be part])) <;> (refine Wl_move (k := ?_); ((refine Wl_convW (k' := ?_); rw [be0 part])) <;> (refine Wl_move (k := ?_); refine Wl_shr (k' := ?_); ((refine Wl_convW (k' := ?_); rw [shr8_be of])) <;> (refine Wl_move (k := ?_); ((refine Wl_convW (k' := ?_); rw [be0 of])) <;> (refine Wl_move (k := ?_); refine Wl_len_sl (k' := ?_); ((refine Wl_convW (k' := ?_); rw [be0 b.length])) <;> (refine Wl_index_arr (k' := ?_); ((refine Wl_store (l' := ((secI lap number 4).set 8 (be part 1)).map byteV) (ho := rfl) (hs := sat_map rfl (by rw [hl]; omega)) (k := ?_))) <;> (refine Wl_index_arr (k' := ?_); ((refine Wl_store (l' := (((secI lap number 4).set 8 (be part 1)).set 9 (be part 0)).map byteV) (ho := rfl) (hs := sat_map rfl (by simp [hl])) (k := ?_))) <;> (refine Wl_index_arr (k' := ?_); ((refine Wl_store (l' := ((((secI lap number 4).set 8 (be part 1)).set 9 (be part 0)).set 10 (be of 1)).map byteV) (ho := rfl) (hs := sat_map rfl (by simp [hl])) (k := ?_))) <;> (refine Wl_index_arr (k' := ?_); ((refine Wl_store (l' := (((((secI lap number 4).set 8 (be part 1)).set 9 (be part 0)).set 10 (be of 1)).set 11 (be of 0)).map byteV) (ho := rfl) (hs := sat_map rfl (by simp [hl])) (k := ?_))) <;> (refine Wl_index_arr (k' := ?_); ((refine Wl_store (l' := (secH lap number part of b.length).map byteV) (ho := rfl) (hs := sat_map rfl (by simp [hl])) (k := ?_))) <;> ((refine Wl_nil (hK _ _ ?_); clear hK K))))))))))))
      | (refine Wc_region (id := 7) ?_; intro K hK; ((refine Wl_slice_arr (l := 13) (h := 60) (hlo := ⟨_, rfl⟩) (hhi := ⟨_, rfl⟩) (hlh := by omega) (hhc := by omega) (k' := ?_); rw [if_neg (by omega)])) <;> (refine Wl_move (k := ?_); ((refine Wl_copy (m := b.length) (n := b.length) (vs := b.map byteV) (l' := (secL lap number part of b).map byteV) (hn := Nat.min_eq_left (by omega)) (hsrc := h.src.tail) (hvl := by simp) (hvc := byteV_all _) (ho := by simp [secH, hl]; omega) (hst := setL_sec lap number part of b hm) (ho' := rfl) (hz := rfl) (k := ?_))) <;> ((refine Wl_nil (hK _ _ ?_); clear hK K))))
      | (refine Wc_region (id := 8) ?_; intro K hK; refine Wl_slice_arr0 (k' := ?_); refine Wl_assign (k := ?_); (refine Wl_nil (hK _ _ ?_); clear hK K))
      | (refine Wc_cond (ht := (fun ht => ?_)) (hf := (fun ht => ?_)) <;> (try simp at ht) <;> (try (exfalso; omega))))
    exact ⟨Or.inr rfl, _, _, Ent.refl _, res1 rfl rfl, r, rfl, rfl⟩
end specs
end Go.Proofs.Ytepeljbgekgjcaa
