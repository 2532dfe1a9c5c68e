/- The law's own functions that range over a map. Conditions: sizes are bounded. -/
import Derived.Test.YtdlpfeflndlpfaaWalk05
set_option maxHeartbeats 8000000
set_option linter.unusedVariables false
set_option linter.unusedSimpArgs false
set_option maxRecDepth 100000
namespace Go.Proofs.Ytdlpfeflndlpfaa
open Go Go.Sl
attribute [local irreducible] Go.Sl.Wl Go.Sl.Wc Go.Sl.thenQ Go.Sl.blkQ Go.Sl.loopQ Go.Sl.Fspec

def toldL (xs : List (ByteArray × Int)) : List ByteArray := (xs.filter fun x => decide (x.2 = (x.1.size : Int))).map (·.1)
theorem toldL_yes {xs : List (ByteArray × Int)} {x : ByteArray × Int} (h : x.2 = (x.1.size : Int)) : toldL (xs ++ [x]) = toldL xs ++ [x.1] := by
  unfold toldL
  rw [List.filter_append, List.map_append]
  simp [h]
theorem toldL_no {xs : List (ByteArray × Int)} {x : ByteArray × Int} (h : ¬ x.2 = (x.1.size : Int)) : toldL (xs ++ [x]) = toldL xs := by
  unfold toldL
  rw [List.filter_append, List.map_append]
  simp [h]
theorem toldL_len (xs : List (ByteArray × Int)) : (toldL xs).length ≤ xs.length := by
  unfold toldL; rw [List.length_map]; exact List.length_filter_le _ _
def TdI (r : Nat) (ks : List ByteArray) (y : Option Addr × Nat) : List Asn :=
  [cb r [.slice y.1 ks.length y.2] 22, own y.1 ks.length y.2 1 (ks.map Value.string) 9]
theorem Ent_foldTd {r c : Nat} {a : Option Addr} {ks : List ByteArray} {n : Nat} {vs : List Value} {A A1 A2 L : List Asn}
    (h1 : Out (cb r [.slice a n c] 22) A A1) (h2 : Out (own a n c 1 vs 9) A1 A2) (hn : n = ks.length) (hv : vs = ks.map Value.string) (h : Ent (exN (TdI r ks) :: A2) L) : Ent A L := by
  subst hn hv
  exact ((Ent.perm (h1.perm.trans (h2.perm.cons _))).trans (Ent.exN_shut (f := TdI r ks) (a, c) A2)).trans h
section specs
variable {B : Base}
theorem told_spec (p : Nat) (t : Tree) (hn : t.inorder.length ≤ 1000000) :
    Fspec Try.prog B 21 #[.pointer (some ⟨p, 0, none⟩)] [MpA p t] (fun v A' => ∃ a c, v = .slice a (toldL t.inorder).length c ∧ A' = [MpA p t, own a (toldL t.inorder).length c 1 ((toldL t.inorder).map Value.string) 9]) := by
  refine spec_of (args := [_]) Try.func21 rfl rfl rfl ?_
  repeat' (first
    | refine Wc_seq ?_
    | refine thenQ_normal ?_
    | refine Wc_cond_t (h := ?_)
    | refine Wc_cond_f (h := ?_)
    | refine Wc_ret ?_
    | refine thenQ_ret ?_
    | refine Wc_block ?_
    | refine blkQ_normal ?_
    | refine blkQ_ret ?_
    | refine Wc_exit ?_
    | refine thenQ_exit ?_
    | refine blkQ_hit ?_
    | refine blkQ_miss rfl ?_
    | refine Wc_skip ?_
    | refine Wc_label ?_
    | refine loopQ_exit ?_
    | refine loopQ_ret ?_
    | refine loopQ_normal ?_
    | (refine Wc_region (id := 0) ?_; intro K hK; refine Wl_assign (k := ?_); (refine Wl_nil (hK _ _ ?_); clear hK K))
    | (refine Wc_region (id := 1) ?_; intro K hK; (refine Wl_alloc (k := ?_); intro r); (refine Wl_nil (hK _ _ ?_); clear hK K))
    | (refine Wc_region (id := 2) ?_; intro K hK; refine Wl_move (k := ?_); ((refine Wl_call (hs := (mall_spec (B := B) _ _ rfl)) (k := ?_); rintro v A' ⟨ra, rfl, rfl⟩; simp only [List.cons_append, List.nil_append])) <;> ((refine Wl_nil (hK _ _ ?_); clear hK K)))
    | (refine Wc_region (id := 7) ?_; intro K hK; refine Wl_load (k := ?_); refine Wl_assign (k := ?_); (refine Wl_nil (hK _ _ ?_); clear hK K))
    | (refine Wc_cond (ht := (fun ht => ?_)) (hf := (fun ht => ?_)) <;> (try simp at ht) <;> (try (exfalso; omega))))
  obtain ⟨r0, hr0⟩ : ∃ r0, r0 = r := ⟨_, rfl⟩
  subst hr0
  refine Wc_rangeFunc (vs := []) (enc := encP) (xs := t.inorder) (S := [cb ra [.pointer (some ⟨p, 0, none⟩)] 25, MpA p t]) (I := (fun pre => [exN (TdI r0 (toldL pre))])) (Ix := (fun _ _ => [pur False])) (hA := ?_) (hseq := (all_seq ra p t)) (hps := (by decide)) (hlen := (fun _ => rfl)) (round := ?_) (hdone := ?_) (hjump := (fun c pre x rest hx => ?_))
  · refine Ent.trans (own_nil 1 9 _) (Ent_foldTd (ks := []) (r := r0) (c := 0) (a := none) (by (repeat (first | exact Out.head | apply Out.tail)); (first | done | fail)) (by (repeat (first | exact Out.head | apply Out.tail)); (first | done | fail)) rfl rfl ?_)
    exact Ent.perm (List.perm_append_comm (l₁ := [_]))
  · rintro pre ⟨k, n⟩ rest hx
    have hlen := toldL_len pre
    have hlt : pre.length ≤ 1000000 := by rw [hx] at hn; simp at hn; omega
    unfold Round
    simp only [encP, List.zip_cons_cons, List.zip_nil_right, ups, List.cons_append, List.nil_append]
    repeat' (first
      | refine Wc_seq ?_
      | refine thenQ_normal ?_
      | refine Wc_cond_t (h := ?_)
      | refine Wc_cond_f (h := ?_)
      | refine Wc_ret ?_
      | refine thenQ_ret ?_
      | refine Wc_block ?_
      | refine blkQ_normal ?_
      | refine blkQ_ret ?_
      | refine Wc_exit ?_
      | refine thenQ_exit ?_
      | refine blkQ_hit ?_
      | refine blkQ_miss rfl ?_
      | refine Wc_skip ?_
      | refine Wc_label ?_
      | refine loopQ_exit ?_
      | refine loopQ_ret ?_
      | refine loopQ_normal ?_
      | (refine Wc_region (id := 3) ?_; intro K hK; refine Wl_assign (k := ?_); (refine Wl_nil (hK _ _ ?_); clear hK K))
      | (refine Wc_region (id := 4) ?_; intro K hK; refine Wl_assign (k := ?_); (refine Wl_nil (hK _ _ ?_); clear hK K))
      | (refine Wc_cond (ht := (fun ht => ?_)) (hf := (fun ht => ?_)) <;> (try simp at ht) <;> (try (exfalso; omega))))
    refine ⟨rfl, ?_⟩
    refine Wc_take (y := exN (TdI r0 (toldL pre))) (k := (Wc_exN (fun y => ?_)))
    simp only [TdI, List.cons_append, List.nil_append]
    repeat' (first
      | refine Wc_seq ?_
      | refine thenQ_normal ?_
      | refine Wc_cond_t (h := ?_)
      | refine Wc_cond_f (h := ?_)
      | refine Wc_ret ?_
      | refine thenQ_ret ?_
      | refine Wc_block ?_
      | refine blkQ_normal ?_
      | refine blkQ_ret ?_
      | refine Wc_exit ?_
      | refine thenQ_exit ?_
      | refine blkQ_hit ?_
      | refine blkQ_miss rfl ?_
      | refine Wc_skip ?_
      | refine Wc_label ?_
      | refine loopQ_exit ?_
      | refine loopQ_ret ?_
      | refine loopQ_normal ?_
      | (refine Wc_region (id := 5) ?_; intro K hK; refine Wl_move (k := ?_); refine Wl_move (k := ?_); refine Wl_len_str (k' := ?_); refine Wl_eql (k' := ?_); (refine Wl_nil (hK _ _ ?_); clear hK K))
      | (refine Wc_region (id := 6) ?_; intro K hK; refine Wl_load (k := ?_); refine Wl_move (k := ?_); (refine Wl_lit1 (k := ?_); intro r); ((refine Wl_append1 (sz := 1) (hvl := (by rfl)) (hvc := (by rfl)) (hbd := (by omega)) (k := ?_); intro ka' kc')) <;> (refine Wl_store (ho := rfl) (k := ?_); (refine Wl_nil (hK _ _ ?_); clear hK K)))
      | (refine Wc_cond (ht := (fun ht => ?_)) (hf := (fun ht => ?_)) <;> (try simp at ht) <;> (try (exfalso; omega))))
    · refine .inl ⟨rfl, Ent_foldTd (r := r0) (ks := toldL (pre ++ [(k, n)])) (by (repeat (first | exact Out.head | apply Out.tail)); (first | done | fail)) (by (repeat (first | exact Out.head | apply Out.tail)); (first | done | fail)) (by rw [toldL_yes ht]; simp) (by rw [toldL_yes ht]; simp) ?_⟩
      (repeat (first | exact Ent.refl _ | exact Ent.nil | refine Ent.take (by (repeat (first | exact Out.head | apply Out.tail)); (first | done | fail)) ?_ | refine Ent.drop1 ?_))
    · refine .inl ⟨rfl, Ent_foldTd (r := r0) (ks := toldL (pre ++ [(k, n)])) (by (repeat (first | exact Out.head | apply Out.tail)); (first | done | fail)) (by (repeat (first | exact Out.head | apply Out.tail)); (first | done | fail)) (by rw [toldL_no ht]) (by rw [toldL_no ht]) ?_⟩
      (repeat (first | exact Ent.refl _ | exact Ent.nil | refine Ent.take (by (repeat (first | exact Out.head | apply Out.tail)); (first | done | fail)) ?_ | refine Ent.drop1 ?_))
  · refine blkQ_normal (thenQ_normal ?_)
    simp only [List.cons_append, List.nil_append]
    refine Wc_take (y := exN (TdI r0 (toldL t.inorder))) (k := (Wc_exN (fun y => ?_)))
    simp only [TdI, List.cons_append, List.nil_append]
    repeat' (first
      | refine Wc_seq ?_
      | refine thenQ_normal ?_
      | refine Wc_cond_t (h := ?_)
      | refine Wc_cond_f (h := ?_)
      | refine Wc_ret ?_
      | refine thenQ_ret ?_
      | refine Wc_block ?_
      | refine blkQ_normal ?_
      | refine blkQ_ret ?_
      | refine Wc_exit ?_
      | refine thenQ_exit ?_
      | refine blkQ_hit ?_
      | refine blkQ_miss rfl ?_
      | refine Wc_skip ?_
      | refine Wc_label ?_
      | refine loopQ_exit ?_
      | refine loopQ_ret ?_
      | refine loopQ_normal ?_
      | (refine Wc_region (id := 7) ?_; intro K hK; refine Wl_load (k := ?_); refine Wl_assign (k := ?_); (refine Wl_nil (hK _ _ ?_); clear hK K))
      | (refine Wc_cond (ht := (fun ht => ?_)) (hf := (fun ht => ?_)) <;> (try simp at ht) <;> (try (exfalso; omega))))
    exact ⟨Or.inr rfl, _, [MpA p t, own y.1 (toldL t.inorder).length y.2 1 ((toldL t.inorder).map Value.string) 9], (by (repeat (first | exact Ent.refl _ | exact Ent.nil | refine Ent.take (by (repeat (first | exact Out.head | apply Out.tail)); (first | done | fail)) ?_ | refine Ent.drop1 ?_))), res1 rfl rfl, y.1, y.2, rfl, rfl⟩
  · simp only [List.cons_append, List.nil_append]
    refine Wc_take (y := pur False) (k := (Wc_pur (fun h => h.elim)))
end specs
end Go.Proofs.Ytdlpfeflndlpfaa
