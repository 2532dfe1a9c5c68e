/- The law's filled: a map of texts and their lengths. Conditions: there are at most 300. -/
import Derived.Test.YtdlpfeflndlpfaaOrd05B
import Derived.Test.YtdlpfeflndlpfaaLow
set_option maxHeartbeats 8000000
set_option linter.unusedVariables false
set_option linter.unusedSimpArgs false
set_option maxRecDepth 100000
namespace Go.Proofs.Ytdlpfeflndlpfaa
open Go Go.Sl
attribute [local irreducible] Go.Sl.Wl Go.Sl.Wc Go.Sl.thenQ Go.Sl.blkQ Go.Sl.loopQ Go.Sl.Fspec

/-- What a tree holds. -/
structure Has (t : Tree) (l : KL) : Prop where
  aa : t.AA
  ris : Ris l
  eq : t.inorder = l
theorem Has.nil : Has .nil [] := ⟨trivial, List.Pairwise.nil, rfl⟩
theorem Has.set {t : Tree} {l : KL} (h : Has t l) (k : ByteArray) (v : Int) : Has (t.set k v) (lset l k v) :=
  ⟨(Tree.set_AA k v t h.aa).aa, h.ris.set, by rw [Tree.inorder_set k v t (by rw [h.eq]; exact h.ris), h.eq]⟩
theorem Has.del {t : Tree} {l : KL} (h : Has t l) (k : ByteArray) : Has (t.del k) (ldel l k) :=
  ⟨(Tree.del_AA t k h.aa).aa, h.ris.del, by rw [Tree.inorder_del t k (by rw [h.eq]; exact h.ris), h.eq]⟩
theorem Has.size {t : Tree} {l : KL} (h : Has t l) : t.size = l.length := by rw [← h.eq, Tree.inorder_len]
theorem lset_len {k : ByteArray} {v : Int} : ∀ {l : KL}, (lset l k v).length ≤ l.length + 1
  | [] => by simp [lset]
  | (q, w) :: l => by
    have := lset_len (k := k) (v := v) (l := l)
    simp only [lset]
    split
    · simp
    · split <;> simp <;> omega
theorem ldel_len {k : ByteArray} {l : KL} : (ldel l k).length ≤ l.length := ldel_sub.length_le
def fillL (l : KL) (ks : List ByteArray) : KL := ks.foldl (fun l k => lset l k k.size) l
theorem fillL_len : ∀ (ks : List ByteArray) (l : KL), (fillL l ks).length ≤ l.length + ks.length
  | [], l => by simp [fillL]
  | k :: ks, l => by
    have h1 := fillL_len ks (lset l k k.size)
    have h2 := lset_len (k := k) (v := k.size) (l := l)
    simp only [fillL, List.foldl_cons, List.length_cons] at h1 ⊢
    omega
theorem fillL_snoc (ks : List ByteArray) (l : KL) (k : ByteArray) : fillL l (ks ++ [k]) = lset (fillL l ks) k k.size := by simp [fillL]
section specs
variable {B : Base}
theorem filled_spec (a : Option Addr) (m c : Nat) (ks : List ByteArray) (h1 : RdS Try.prog B [] 1 a m c (ks.map Value.string)) (hm : m ≤ 300) (hks : ∀ k ∈ ks, k.size ≤ 9223372036854775807) :
    Fspec Try.prog B 20 #[.slice a m c] [] (fun v A' => ∃ p t, v = .pointer (some ⟨p, 0, none⟩) ∧ Has t (fillL [] ks) ∧ A' = [MpA p t]) := by
  have hka : ks.length = m := by simpa using h1.len
  refine spec_of (args := [_]) Try.func20 rfl rfl rfl ?_
  repeat' (first
    | refine Wc_seq ?_
    | refine thenQ_normal ?_
    | refine Wc_cond_t (h := ?_)
    | refine Wc_cond_f (h := ?_)
    | refine Wc_ret ?_
    | refine thenQ_ret ?_
    | refine Wc_block ?_
    | refine blkQ_normal ?_
    | refine blkQ_ret ?_
    | refine Wc_exit ?_
    | refine thenQ_exit ?_
    | refine blkQ_hit ?_
    | refine blkQ_miss rfl ?_
    | refine Wc_skip ?_
    | refine Wc_label ?_
    | refine loopQ_exit ?_
    | refine loopQ_ret ?_
    | refine loopQ_normal ?_
    | (refine Wc_region (id := 0) ?_; intro K hK; refine Wl_assign (k := ?_); (refine Wl_nil (hK _ _ ?_); clear hK K))
    | (refine Wc_region (id := 1) ?_; intro K hK; ((refine Wl_call (hs := (mnew_spec B)) (k := ?_); rintro v A' ⟨p, rfl, rfl⟩; simp only [List.cons_append, List.nil_append])) <;> (refine Wl_assign (k := ?_); (refine Wl_nil (hK _ _ ?_); clear hK K)))
    | (refine Wc_region (id := 2) ?_; intro K hK; refine Wl_move (k := ?_); refine Wl_len_sl (k' := ?_); refine Wl_move (k := ?_); (refine Wl_nil (hK _ _ ?_); clear hK K))
    | (refine Wc_cond (ht := (fun ht => ?_)) (hf := (fun ht => ?_)) <;> (try simp at ht) <;> (try (exfalso; omega))))
  refine Wc_loop (α := Nat × Tree) (fun x => [(0, .slice a m c), (3, .pointer (some ⟨p, 0, none⟩)), (7, .int .i64 m), (8, .int .i64 x.1)])
    (fun x => [MpA p x.2]) (fun x => x.1 ≤ m ∧ Has x.2 (fillL [] (ks.take x.1))) (fun x => m - x.1) (0, .nil) ⟨by omega, Has.nil⟩ ⟨rfl, rfl, rfl, rfl, trivial⟩ (by (repeat (first | exact Ent.refl _ | exact Ent.nil | refine Ent.take (by (repeat (first | exact Out.head | apply Out.tail)); (first | done | fail)) ?_ | refine Ent.drop1 ?_))) ?_
  rintro ⟨i, t⟩ G ⟨hi, hL⟩
  simp only at hi hL
  simp only [ov]
  have hfew : t.size ≤ 300 := by
    have h2 := fillL_len (ks.take i) []
    rw [hL.size]
    simp at h2; omega
  by_cases hi2 : i < m
  · obtain ⟨q, rfl⟩ : ∃ q, a = some q := by
      cases a with
      | none => have := h1.nil rfl; omega
      | some p => exact ⟨p, rfl⟩
    obtain ⟨x, hx⟩ : ∃ x, ks[i]? = some x := ⟨ks[i]'(by omega), List.getElem?_eq_getElem (by omega)⟩
    have hxs := hks x (List.mem_of_getElem? hx)
    repeat' (first
      | refine Wc_seq ?_
      | refine thenQ_normal ?_
      | refine Wc_cond_t (h := ?_)
      | refine Wc_cond_f (h := ?_)
      | refine Wc_ret ?_
      | refine thenQ_ret ?_
      | refine Wc_block ?_
      | refine blkQ_normal ?_
      | refine blkQ_ret ?_
      | refine Wc_exit ?_
      | refine thenQ_exit ?_
      | refine blkQ_hit ?_
      | refine blkQ_miss rfl ?_
      | refine Wc_skip ?_
      | refine Wc_label ?_
      | refine loopQ_exit ?_
      | refine loopQ_ret ?_
      | refine loopQ_normal ?_
      | (refine Wc_region (id := 3) ?_; intro K hK; refine Wl_lss (k' := ?_); (refine Wl_nil (hK _ _ ?_); clear hK K))
      | (refine Wc_region (id := 4) ?_; intro K hK; refine Wl_move (k := ?_); refine Wl_assign (k := ?_); (refine Wl_nil (hK _ _ ?_); clear hK K))
      | (refine Wc_drawF (id := 5) (M := ([])) (Ls := [15, 19, 20]) (hp := (Pick.perm (by (repeat (first | exact Pick.nil | apply Pick.cons (by (repeat (first | exact Out.head | apply Out.tail)); (first | done | fail)))); (first | done | fail)))) (h := ?_); intro K hK; refine Wl_move (k := ?_); refine Wl_move (k := ?_); refine Wl_move (k := ?_); ((refine Wl_index_any (k' := ?_))) <;> (((refine Wl_loadGF (v := .string x) (j := i) (hq := (by rw [Int.toNat_natCast, Nat.mul_one])) (hr := h1) (hv := (by rw [List.getElem?_map, hx]; rfl)) (k := ?_))) <;> (refine Wl_move (k := ?_); refine Wl_move (k := ?_); ((refine Wl_index_any (k' := ?_))) <;> (((refine Wl_loadGF (v := .string x) (j := i) (hq := (by rw [Int.toNat_natCast, Nat.mul_one])) (hr := h1) (hv := (by rw [List.getElem?_map, hx]; rfl)) (k := ?_))) <;> (refine Wl_len_str (k' := ?_); ((refine Wl_call (hs := (mset_spec B p t _ _ hL.aa (by omega))) (k := ?_); rintro v A' ⟨rfl, rfl⟩; simp only [List.cons_append, List.nil_append])) <;> ((refine Wl_nil (hK _ _ ?_); clear hK K; try simp only [List.cons_append, List.nil_append])))))))
      | (refine Wc_region (id := 6) ?_; intro K hK; refine Wl_add (k' := ?_); refine Wl_move (k := ?_); (refine Wl_nil (hK _ _ ?_); clear hK K))
      | (refine Wc_cond (ht := (fun ht => ?_)) (hf := (fun ht => ?_)) <;> (try simp at ht) <;> (try (exfalso; omega))))
    refine ⟨(i + 1, t.set x x.size), ⟨by simp only; omega, ?_⟩, by simp only; omega, ⟨rfl, rfl, rfl, int_succ' i, trivial⟩, Ent.refl _⟩
    have h3 := hL.set x (x.size : Int)
    rw [← fillL_snoc] at h3
    have h4 : ks.take (i + 1) = ks.take i ++ [x] := by rw [List.take_add_one, hx]; rfl
    show Has _ (fillL [] (ks.take (i + 1)))
    rw [h4]; exact h3
  · obtain rfl : i = m := by omega
    repeat' (first
      | refine Wc_seq ?_
      | refine thenQ_normal ?_
      | refine Wc_cond_t (h := ?_)
      | refine Wc_cond_f (h := ?_)
      | refine Wc_ret ?_
      | refine thenQ_ret ?_
      | refine Wc_block ?_
      | refine blkQ_normal ?_
      | refine blkQ_ret ?_
      | refine Wc_exit ?_
      | refine thenQ_exit ?_
      | refine blkQ_hit ?_
      | refine blkQ_miss rfl ?_
      | refine Wc_skip ?_
      | refine Wc_label ?_
      | refine loopQ_exit ?_
      | refine loopQ_ret ?_
      | refine loopQ_normal ?_
      | (refine Wc_region (id := 3) ?_; intro K hK; refine Wl_lss (k' := ?_); (refine Wl_nil (hK _ _ ?_); clear hK K))
      | (refine Wc_region (id := 7) ?_; intro K hK; refine Wl_move (k := ?_); refine Wl_assign (k := ?_); (refine Wl_nil (hK _ _ ?_); clear hK K))
      | (refine Wc_cond (ht := (fun ht => ?_)) (hf := (fun ht => ?_)) <;> (try simp at ht) <;> (try (exfalso; omega))))
    rw [List.take_of_length_le (by omega)] at hL
    exact ⟨Or.inr rfl, _, [MpA p t], Ent.refl _, res1 rfl rfl, p, t, rfl, hL, rfl⟩
end specs
end Go.Proofs.Ytdlpfeflndlpfaa
