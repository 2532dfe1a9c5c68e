/- The law's own: a map's pairs up to so many; comparing lists of pairs. Conditions: few pairs. -/
import Derived.Test.YtdlpfeflndlpfaaRef05
import Derived.Test.YtdlpfeflndlpfaaTold
set_option maxHeartbeats 8000000
set_option linter.unusedVariables false
set_option linter.unusedSimpArgs false
set_option maxRecDepth 100000
namespace Go.Proofs.Ytdlpfeflndlpfaa
open Go Go.Sl
attribute [local irreducible] Go.Sl.Wl Go.Sl.Wc Go.Sl.thenQ Go.Sl.blkQ Go.Sl.loopQ Go.Sl.Fspec

section specs
variable {B : Base}
theorem same_true (X : Asn) (a b : Option Addr) (n c c' : Nat) (l : KL) (h1 : RdS Try.prog B [X] 2 a n c (pcs l)) (h2 : RdS Try.prog B [X] 2 b n c' (pcs l)) (hn : n ≤ 1000000) :
    Fspec Try.prog B 30 #[.slice a n c, .slice b n c'] [X] (fun v A' => v = .bool true ∧ A' = [X]) := by
  refine spec_of (args := [_, _]) Try.func30 rfl rfl rfl ?_
  have hl : l.length = n := by have := h1.len; rw [pcs_len] at this; omega
  repeat' (first
    | refine Wc_seq ?_
    | refine thenQ_normal ?_
    | refine Wc_cond_t (h := ?_)
    | refine Wc_cond_f (h := ?_)
    | refine Wc_ret ?_
    | refine thenQ_ret ?_
    | refine Wc_block ?_
    | refine blkQ_normal ?_
    | refine blkQ_ret ?_
    | refine Wc_exit ?_
    | refine thenQ_exit ?_
    | refine blkQ_hit ?_
    | refine blkQ_miss rfl ?_
    | refine Wc_skip ?_
    | refine Wc_label ?_
    | refine loopQ_exit ?_
    | refine loopQ_ret ?_
    | refine loopQ_normal ?_
    | (refine Wc_region (id := 0) ?_; intro K hK; refine Wl_assign (k := ?_); (refine Wl_nil (hK _ _ ?_); clear hK K))
    | (refine Wc_region (id := 1) ?_; intro K hK; refine Wl_move (k := ?_); refine Wl_len_sl (k' := ?_); refine Wl_move (k := ?_); refine Wl_len_sl (k' := ?_); refine Wl_neq (k' := ?_); (refine Wl_nil (hK _ _ ?_); clear hK K))
    | (refine Wc_region (id := 2) ?_; intro K hK; refine Wl_assign (k := ?_); (refine Wl_nil (hK _ _ ?_); clear hK K))
    | (refine Wc_region (id := 3) ?_; intro K hK; refine Wl_move (k := ?_); refine Wl_len_sl (k' := ?_); refine Wl_move (k := ?_); (refine Wl_nil (hK _ _ ?_); clear hK K))
    | (refine Wc_cond (ht := (fun ht => ?_)) (hf := (fun ht => ?_)) <;> (try simp at ht) <;> (try (exfalso; omega))))
  refine Wc_loop (α := Nat) (fun i => [(0, .slice a n c), (1, .slice b n c'), (12, .int .i64 n), (13, .int .i64 i)]) (fun i => [X]) (fun i => i ≤ n) (fun i => n - i) 0 (by omega) ⟨rfl, rfl, rfl, rfl, trivial⟩ (Ent.refl _) ?_
  intro i G hi
  simp only [ov]
  by_cases hlt : i < n
  · obtain ⟨x, hx⟩ : ∃ x, l[i]? = some x := ⟨l[i]'(by omega), List.getElem?_eq_getElem (by omega)⟩
    obtain ⟨p, rfl⟩ : ∃ p, a = some p := by
      cases a with
      | none => have := h1.nil rfl; omega
      | some p => exact ⟨p, rfl⟩
    obtain ⟨q, rfl⟩ : ∃ q, b = some q := by
      cases b with
      | none => have := h2.nil rfl; omega
      | some p => exact ⟨p, rfl⟩
    repeat' (first
      | refine Wc_seq ?_
      | refine thenQ_normal ?_
      | refine Wc_cond_t (h := ?_)
      | refine Wc_cond_f (h := ?_)
      | refine Wc_ret ?_
      | refine thenQ_ret ?_
      | refine Wc_block ?_
      | refine blkQ_normal ?_
      | refine blkQ_ret ?_
      | refine Wc_exit ?_
      | refine thenQ_exit ?_
      | refine blkQ_hit ?_
      | refine blkQ_miss rfl ?_
      | refine Wc_skip ?_
      | refine Wc_label ?_
      | refine loopQ_exit ?_
      | refine loopQ_ret ?_
      | refine loopQ_normal ?_
      | (refine Wc_region (id := 4) ?_; intro K hK; refine Wl_lss (k' := ?_); (refine Wl_nil (hK _ _ ?_); clear hK K))
      | (refine Wc_region (id := 5) ?_; intro K hK; refine Wl_move (k := ?_); refine Wl_assign (k := ?_); (refine Wl_nil (hK _ _ ?_); clear hK K))
      | (refine Wc_drawF (id := 6) (M := ([X])) (Ls := [19, 23, 24]) (hp := (Pick.perm (by (repeat (first | exact Pick.nil | apply Pick.cons (by (repeat (first | exact Out.head | apply Out.tail)); (first | done | fail)))); (first | done | fail)))) (h := ?_); intro K hK; refine Wl_move (k := ?_); refine Wl_move (k := ?_); ((refine Wl_index_any (k' := ?_))) <;> (((refine Wl_loadAggGF (j := i * 2) (cs := [.string x.1, .int .i64 x.2]) (hq := by simp) (hr := h1) (hv := pcs_cut hx) (k := ?_))) <;> (refine Wl_move (k := ?_); refine Wl_move (k := ?_); ((refine Wl_index_any (k' := ?_))) <;> (((refine Wl_loadAggGF (j := i * 2) (cs := [.string x.1, .int .i64 x.2]) (hq := by simp) (hr := h2) (hv := pcs_cut hx) (k := ?_))) <;> (((refine Wl_agg_neqB (b := true) (hb := ceqL_self _ [.s, .i .i64] rfl) (k' := ?_))) <;> ((refine Wl_nil (hK _ _ ?_); clear hK K; try simp only [List.cons_append, List.nil_append])))))))
      | (refine Wc_region (id := 7) ?_; intro K hK; refine Wl_assign (k := ?_); (refine Wl_nil (hK _ _ ?_); clear hK K))
      | (refine Wc_region (id := 8) ?_; intro K hK; refine Wl_add (k' := ?_); refine Wl_move (k := ?_); (refine Wl_nil (hK _ _ ?_); clear hK K))
      | (refine Wc_cond (ht := (fun ht => ?_)) (hf := (fun ht => ?_)) <;> (try simp at ht) <;> (try (exfalso; omega))))
    exact ⟨i + 1, by omega, by omega, ⟨rfl, rfl, rfl, int_succ' i, trivial⟩, Ent.refl _⟩
  · obtain rfl : i = n := by omega
    repeat' (first
      | refine Wc_seq ?_
      | refine thenQ_normal ?_
      | refine Wc_cond_t (h := ?_)
      | refine Wc_cond_f (h := ?_)
      | refine Wc_ret ?_
      | refine thenQ_ret ?_
      | refine Wc_block ?_
      | refine blkQ_normal ?_
      | refine blkQ_ret ?_
      | refine Wc_exit ?_
      | refine thenQ_exit ?_
      | refine blkQ_hit ?_
      | refine blkQ_miss rfl ?_
      | refine Wc_skip ?_
      | refine Wc_label ?_
      | refine loopQ_exit ?_
      | refine loopQ_ret ?_
      | refine loopQ_normal ?_
      | (refine Wc_region (id := 4) ?_; intro K hK; refine Wl_lss (k' := ?_); (refine Wl_nil (hK _ _ ?_); clear hK K))
      | (refine Wc_region (id := 9) ?_; intro K hK; refine Wl_assign (k := ?_); (refine Wl_nil (hK _ _ ?_); clear hK K))
      | (refine Wc_cond (ht := (fun ht => ?_)) (hf := (fun ht => ?_)) <;> (try simp at ht) <;> (try (exfalso; omega))))
    exact ⟨Or.inr rfl, .bool true, [X], Ent.refl _, res1 rfl rfl, rfl, rfl⟩

def AlI (r : Nat) (l : KL) (y : Option Addr × Nat) : List Asn := [cb r [.slice y.1 l.length y.2] 38, own y.1 l.length y.2 2 (pcs l) 48]
theorem Ent_foldAl {r n c : Nat} {a : Option Addr} {l : KL} {cs : List Value} {A A1 A2 L : List Asn}
    (h1 : Out (cb r [.slice a n c] 38) A A1) (h2 : Out (own a n c 2 cs 48) A1 A2) (hn : n = l.length) (hv : cs = pcs l) (h : Ent (exN (AlI r l) :: A2) L) : Ent A L := by
  subst hn hv
  exact ((Ent.perm (h1.perm.trans (h2.perm.cons _))).trans (Ent.exN_shut (f := AlI r l) (a, c) A2)).trans h
theorem all_spec (p : Nat) (t : Tree) (k : Nat) (hn : t.inorder.length ≤ 1000000) (hk : k ≤ 1000000) :
    Fspec Try.prog B 31 #[.pointer (some ⟨p, 0, none⟩), .int .i64 k] [MpA p t] (fun v A' => ∃ a c, v = .slice a (t.inorder.take k).length c ∧ A' = [MpA p t, own a (t.inorder.take k).length c 2 (pcs (t.inorder.take k)) 48]) := by
  refine spec_of (args := [_, _]) Try.func31 rfl rfl rfl ?_
  repeat' (first
    | refine Wc_seq ?_
    | refine thenQ_normal ?_
    | refine Wc_cond_t (h := ?_)
    | refine Wc_cond_f (h := ?_)
    | refine Wc_ret ?_
    | refine thenQ_ret ?_
    | refine Wc_block ?_
    | refine blkQ_normal ?_
    | refine blkQ_ret ?_
    | refine Wc_exit ?_
    | refine thenQ_exit ?_
    | refine blkQ_hit ?_
    | refine blkQ_miss rfl ?_
    | refine Wc_skip ?_
    | refine Wc_label ?_
    | refine loopQ_exit ?_
    | refine loopQ_ret ?_
    | refine loopQ_normal ?_
    | (refine Wc_region (id := 0) ?_; intro K hK; (refine Wl_box (k := ?_); intro r); refine Wl_assign (k := ?_); (refine Wl_nil (hK _ _ ?_); clear hK K))
    | (refine Wc_region (id := 1) ?_; intro K hK; (refine Wl_alloc (k := ?_); intro r); (refine Wl_nil (hK _ _ ?_); clear hK K))
    | (refine Wc_region (id := 2) ?_; intro K hK; refine Wl_move (k := ?_); ((refine Wl_call (hs := (mall_spec (B := B) _ _ rfl)) (k := ?_); rintro v A' ⟨ra, rfl, rfl⟩; simp only [List.cons_append, List.nil_append])) <;> ((refine Wl_nil (hK _ _ ?_); clear hK K)))
    | (refine Wc_cond (ht := (fun ht => ?_)) (hf := (fun ht => ?_)) <;> (try simp at ht) <;> (try (exfalso; omega))))
  obtain ⟨r0, hr0⟩ : ∃ r0, r0 = r := ⟨_, rfl⟩
  subst hr0
  obtain ⟨rm, hrm⟩ : ∃ rm, rm = r := ⟨_, rfl⟩
  subst hrm
  refine Wc_rangeFunc (vs := []) encP t.inorder [cb ra [.pointer (some ⟨p, 0, none⟩)] 25, MpA p t] (fun pre => [pur (pre.length ≤ k), cb rm [.int .i64 k] 3, exN (AlI r0 pre)])
    (fun c pre => [pur (c = .exit 0 ∧ pre.length = k + 1), cb rm [.int .i64 k] 3, exN (AlI r0 (pre.take k))]) rfl ?_ (all_seq ra p t) (by decide) (fun _ => rfl) ?_ ?_ (fun c pre x rest hx => ?_)
  · refine Ent.trans (own_nil 2 48 _) (Ent_foldAl (l := []) (r := r0) (c := 0) (a := none) (by (repeat (first | exact Out.head | apply Out.tail)); (first | done | fail)) (by (repeat (first | exact Out.head | apply Out.tail)); (first | done | fail)) rfl rfl ?_)
    refine Ent.trans (Ent.pur_in (φ := ([] : KL).length ≤ k) (by simp) _) ?_
    simp only [List.cons_append, List.nil_append]
    (repeat (first | exact Ent.refl _ | exact Ent.nil | refine Ent.take (by (repeat (first | exact Out.head | apply Out.tail)); (first | done | fail)) ?_ | refine Ent.drop1 ?_))
  · rintro pre ⟨q, n⟩ rest hx
    have hlt : pre.length ≤ 1000000 := by rw [hx] at hn; simp at hn; omega
    unfold Round
    simp only [encP, List.zip_cons_cons, List.zip_nil_right, ups, List.cons_append, List.nil_append]
    refine Wc_take (y := pur (pre.length ≤ k)) (h := (by (repeat (first | exact Out.head | apply Out.tail)); (first | done | fail))) (k := Wc_pur (fun hle => ?_))
    repeat' (first
      | refine Wc_seq ?_
      | refine thenQ_normal ?_
      | refine Wc_cond_t (h := ?_)
      | refine Wc_cond_f (h := ?_)
      | refine Wc_ret ?_
      | refine thenQ_ret ?_
      | refine Wc_block ?_
      | refine blkQ_normal ?_
      | refine blkQ_ret ?_
      | refine Wc_exit ?_
      | refine thenQ_exit ?_
      | refine blkQ_hit ?_
      | refine blkQ_miss rfl ?_
      | refine Wc_skip ?_
      | refine Wc_label ?_
      | refine loopQ_exit ?_
      | refine loopQ_ret ?_
      | refine loopQ_normal ?_
      | (refine Wc_region (id := 3) ?_; intro K hK; refine Wl_assign (k := ?_); (refine Wl_nil (hK _ _ ?_); clear hK K))
      | (refine Wc_region (id := 4) ?_; intro K hK; refine Wl_assign (k := ?_); (refine Wl_nil (hK _ _ ?_); clear hK K))
      | (refine Wc_cond (ht := (fun ht => ?_)) (hf := (fun ht => ?_)) <;> (try simp at ht) <;> (try (exfalso; omega))))
    refine ⟨rfl, ?_⟩
    refine Wc_take (y := exN (AlI r0 pre)) (k := (Wc_exN (fun y => ?_)))
    simp only [AlI, List.cons_append, List.nil_append]
    repeat' (first
      | refine Wc_seq ?_
      | refine thenQ_normal ?_
      | refine Wc_cond_t (h := ?_)
      | refine Wc_cond_f (h := ?_)
      | refine Wc_ret ?_
      | refine thenQ_ret ?_
      | refine Wc_block ?_
      | refine blkQ_normal ?_
      | refine blkQ_ret ?_
      | refine Wc_exit ?_
      | refine thenQ_exit ?_
      | refine blkQ_hit ?_
      | refine blkQ_miss rfl ?_
      | refine Wc_skip ?_
      | refine Wc_label ?_
      | refine loopQ_exit ?_
      | refine loopQ_ret ?_
      | refine loopQ_normal ?_
      | (refine Wc_region (id := 5) ?_; intro K hK; refine Wl_load (k := ?_); refine Wl_len_sl (k' := ?_); refine Wl_load (k := ?_); refine Wl_geq (k' := ?_); (refine Wl_nil (hK _ _ ?_); clear hK K))
      | (refine Wc_region (id := 6) ?_; intro K hK; refine Wl_load (k := ?_); refine Wl_move (k := ?_); refine Wl_move (k := ?_); refine Wl_build (k := ?_); (refine Wl_lit1a (hl := (by simp)) (k := ?_); intro r); ((refine Wl_append1 (hvl := by rfl) (hvc := by rfl) (hbd := by omega) (k := ?_); intro ka' kc')) <;> (refine Wl_store (ho := rfl) (k := ?_); (refine Wl_nil (hK _ _ ?_); clear hK K)))
      | (refine Wc_cond (ht := (fun ht => ?_)) (hf := (fun ht => ?_)) <;> (try simp at ht) <;> (try (exfalso; omega))))
    · refine .inr ⟨.exit 0, rfl, Ent_foldAl (r := r0) (l := (pre ++ [(q, n)]).take k) (by (repeat (first | exact Out.head | apply Out.tail)); (first | done | fail)) (by (repeat (first | exact Out.head | apply Out.tail)); (first | done | fail)) ?_ ?_ ?_⟩
      · rw [List.take_append_of_le_length (by omega), List.take_of_length_le (by omega)]
      · rw [List.take_append_of_le_length (by omega), List.take_of_length_le (by omega)]
      · refine Ent.trans (Ent.pur_in (φ := (Code.exit 0 = Code.exit 0 ∧ (pre ++ [(q, n)]).length = k + 1)) ⟨rfl, by simp; omega⟩ _) ?_
        (repeat (first | exact Ent.refl _ | exact Ent.nil | refine Ent.take (by (repeat (first | exact Out.head | apply Out.tail)); (first | done | fail)) ?_ | refine Ent.drop1 ?_))
    · refine .inl ⟨rfl, Ent_foldAl (r := r0) (l := pre ++ [(q, n)]) (by (repeat (first | exact Out.head | apply Out.tail)); (first | done | fail)) (by (repeat (first | exact Out.head | apply Out.tail)); (first | done | fail)) (by simp) (by rw [pcs_app]; rfl) ?_⟩
      refine Ent.trans (Ent.pur_in (φ := (pre ++ [(q, n)]).length ≤ k) (by simp; omega) _) ?_
      (repeat (first | exact Ent.refl _ | exact Ent.nil | refine Ent.take (by (repeat (first | exact Out.head | apply Out.tail)); (first | done | fail)) ?_ | refine Ent.drop1 ?_))
  · refine blkQ_normal (thenQ_normal ?_)
    simp only [List.cons_append, List.nil_append]
    refine Wc_take (y := pur (t.inorder.length ≤ k)) (h := (by (repeat (first | exact Out.head | apply Out.tail)); (first | done | fail))) (k := Wc_pur (fun hle => ?_))
    refine Wc_take (y := exN (AlI r0 t.inorder)) (k := (Wc_exN (fun y => ?_)))
    simp only [AlI, List.cons_append, List.nil_append]
    rw [List.take_of_length_le hle]
    repeat' (first
      | refine Wc_seq ?_
      | refine thenQ_normal ?_
      | refine Wc_cond_t (h := ?_)
      | refine Wc_cond_f (h := ?_)
      | refine Wc_ret ?_
      | refine thenQ_ret ?_
      | refine Wc_block ?_
      | refine blkQ_normal ?_
      | refine blkQ_ret ?_
      | refine Wc_exit ?_
      | refine thenQ_exit ?_
      | refine blkQ_hit ?_
      | refine blkQ_miss rfl ?_
      | refine Wc_skip ?_
      | refine Wc_label ?_
      | refine loopQ_exit ?_
      | refine loopQ_ret ?_
      | refine loopQ_normal ?_
      | (refine Wc_region (id := 7) ?_; intro K hK; refine Wl_load (k := ?_); refine Wl_assign (k := ?_); (refine Wl_nil (hK _ _ ?_); clear hK K))
      | (refine Wc_cond (ht := (fun ht => ?_)) (hf := (fun ht => ?_)) <;> (try simp at ht) <;> (try (exfalso; omega))))
    exact ⟨Or.inr rfl, _, [MpA p t, own y.1 t.inorder.length y.2 2 (pcs t.inorder) 48], (by (repeat (first | exact Ent.refl _ | exact Ent.nil | refine Ent.take (by (repeat (first | exact Out.head | apply Out.tail)); (first | done | fail)) ?_ | refine Ent.drop1 ?_))), res1 rfl rfl, y.1, y.2, rfl, rfl⟩
  · simp only [List.cons_append, List.nil_append]
    refine Wc_take (y := pur (c = .exit 0 ∧ (pre ++ [x]).length = k + 1)) (h := (by (repeat (first | exact Out.head | apply Out.tail)); (first | done | fail))) (k := Wc_pur (fun hle => ?_))
    obtain ⟨rfl, hle⟩ := hle
    have e : t.inorder.take k = (pre ++ [x]).take k := by
      rw [hx, show pre ++ x :: rest = (pre ++ [x]) ++ rest by simp, List.take_append_of_le_length (by omega)]
    rw [e]
    refine Wc_take (y := exN (AlI r0 ((pre ++ [x]).take k))) (k := (Wc_exN (fun y => ?_)))
    simp only [AlI, List.cons_append, List.nil_append]
    generalize (pre ++ [x]).take k = W
    repeat' (first
      | refine Wc_seq ?_
      | refine thenQ_normal ?_
      | refine Wc_cond_t (h := ?_)
      | refine Wc_cond_f (h := ?_)
      | refine Wc_ret ?_
      | refine thenQ_ret ?_
      | refine Wc_block ?_
      | refine blkQ_normal ?_
      | refine blkQ_ret ?_
      | refine Wc_exit ?_
      | refine thenQ_exit ?_
      | refine blkQ_hit ?_
      | refine blkQ_miss rfl ?_
      | refine Wc_skip ?_
      | refine Wc_label ?_
      | refine loopQ_exit ?_
      | refine loopQ_ret ?_
      | refine loopQ_normal ?_
      | (refine Wc_region (id := 7) ?_; intro K hK; refine Wl_load (k := ?_); refine Wl_assign (k := ?_); (refine Wl_nil (hK _ _ ?_); clear hK K))
      | (refine Wc_cond (ht := (fun ht => ?_)) (hf := (fun ht => ?_)) <;> (try simp at ht) <;> (try (exfalso; omega))))
    exact ⟨Or.inr rfl, _, [MpA p t, own y.1 W.length y.2 2 (pcs W) 48], (by (repeat (first | exact Ent.refl _ | exact Ent.nil | refine Ent.take (by (repeat (first | exact Out.head | apply Out.tail)); (first | done | fail)) ?_ | refine Ent.drop1 ?_))), res1 rfl rfl, y.1, y.2, rfl, rfl⟩
theorem all_nil (k : Nat) (hk : k ≤ 1000000) :
    Fspec Try.prog B 31 #[.pointer none, .int .i64 k] [] (fun v A' => v = .slice none 0 0 ∧ A' = []) := by
  refine spec_of (args := [_, _]) Try.func31 rfl rfl rfl ?_
  repeat' (first
    | refine Wc_seq ?_
    | refine thenQ_normal ?_
    | refine Wc_cond_t (h := ?_)
    | refine Wc_cond_f (h := ?_)
    | refine Wc_ret ?_
    | refine thenQ_ret ?_
    | refine Wc_block ?_
    | refine blkQ_normal ?_
    | refine blkQ_ret ?_
    | refine Wc_exit ?_
    | refine thenQ_exit ?_
    | refine blkQ_hit ?_
    | refine blkQ_miss rfl ?_
    | refine Wc_skip ?_
    | refine Wc_label ?_
    | refine loopQ_exit ?_
    | refine loopQ_ret ?_
    | refine loopQ_normal ?_
    | (refine Wc_region (id := 0) ?_; intro K hK; (refine Wl_box (k := ?_); intro r); refine Wl_assign (k := ?_); (refine Wl_nil (hK _ _ ?_); clear hK K))
    | (refine Wc_region (id := 1) ?_; intro K hK; (refine Wl_alloc (k := ?_); intro r); (refine Wl_nil (hK _ _ ?_); clear hK K))
    | (refine Wc_region (id := 2) ?_; intro K hK; refine Wl_move (k := ?_); ((refine Wl_call (hs := (mall_spec (B := B) _ none rfl)) (k := ?_); rintro v A' ⟨ra, rfl, rfl⟩; simp only [List.cons_append, List.nil_append])) <;> ((refine Wl_nil (hK _ _ ?_); clear hK K)))
    | (refine Wc_cond (ht := (fun ht => ?_)) (hf := (fun ht => ?_)) <;> (try simp at ht) <;> (try (exfalso; omega))))
  obtain ⟨r0, hr0⟩ : ∃ r0, r0 = r := ⟨_, rfl⟩
  subst hr0
  refine Wc_rangeFunc (vs := []) (enc := encP) (xs := []) (S := [cb ra [.pointer none] 25]) (I := (fun pre => [cb r0 [.slice none 0 0] 38])) (Ix := (fun c pre => [pur False])) (hA := ?_) (hseq := (all_seq_nil ra)) (hps := (by decide)) (hlen := (fun _ => rfl)) (round := ?_) (hdone := ?_) (hjump := (fun c pre x rest hx => ?_))
  · simp only [List.cons_append, List.nil_append]
    (repeat (first | exact Ent.refl _ | exact Ent.nil | refine Ent.take (by (repeat (first | exact Out.head | apply Out.tail)); (first | done | fail)) ?_ | refine Ent.drop1 ?_))
  · intro pre x rest hx
    cases pre <;> cases hx
  · refine blkQ_normal (thenQ_normal ?_)
    simp only [List.cons_append, List.nil_append]
    repeat' (first
      | refine Wc_seq ?_
      | refine thenQ_normal ?_
      | refine Wc_cond_t (h := ?_)
      | refine Wc_cond_f (h := ?_)
      | refine Wc_ret ?_
      | refine thenQ_ret ?_
      | refine Wc_block ?_
      | refine blkQ_normal ?_
      | refine blkQ_ret ?_
      | refine Wc_exit ?_
      | refine thenQ_exit ?_
      | refine blkQ_hit ?_
      | refine blkQ_miss rfl ?_
      | refine Wc_skip ?_
      | refine Wc_label ?_
      | refine loopQ_exit ?_
      | refine loopQ_ret ?_
      | refine loopQ_normal ?_
      | (refine Wc_region (id := 7) ?_; intro K hK; refine Wl_load (k := ?_); refine Wl_assign (k := ?_); (refine Wl_nil (hK _ _ ?_); clear hK K))
      | (refine Wc_cond (ht := (fun ht => ?_)) (hf := (fun ht => ?_)) <;> (try simp at ht) <;> (try (exfalso; omega))))
    exact ⟨Or.inr rfl, _, [], Ent.nil, res1 rfl rfl, rfl, rfl⟩
  · cases pre <;> cases hx
end specs
end Go.Proofs.Ytdlpfeflndlpfaa
