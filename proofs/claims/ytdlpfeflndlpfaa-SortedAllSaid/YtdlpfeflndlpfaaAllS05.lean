/- SortedAll: what it answers. -/
import Derived.Test.YtdlpfeflndlpfaaNil05
import Derived.Test.YtdlpfeflndlpfaaRows05
import Derived.Test.YtdlpfeflndlpfaaSy
set_option maxHeartbeats 8000000
set_option linter.unusedVariables false
set_option linter.unusedSimpArgs false
set_option maxRecDepth 100000
namespace Go.Proofs.Ytdlpfeflndlpfaa
open Go Go.Sl
attribute [local irreducible] Go.Sl.Wl Go.Sl.Wc Go.Sl.thenQ Go.Sl.blkQ Go.Sl.loopQ Go.Sl.Fspec

/-- The keys are set, each with its place. -/
def putL : KL → List ByteArray → Nat → KL
  | l, [], _ => l
  | l, k :: ks, i => putL (lset l k i) ks (i + 1)
theorem putL_snoc : ∀ (ks : List ByteArray) (l : KL) (k : ByteArray) (i : Nat), putL l (ks ++ [k]) i = lset (putL l ks i) k ((i + ks.length : Nat) : Int)
  | [], l, k, i => by simp [putL]
  | q :: ks, l, k, i => by
    simp only [List.cons_append, putL]
    rw [putL_snoc ks _ k (i + 1)]
    simp only [List.length_cons]
    congr 2; omega
theorem putL_len : ∀ (ks : List ByteArray) (l : KL) (i : Nat), (putL l ks i).length ≤ l.length + ks.length
  | [], l, i => by simp [putL]
  | q :: ks, l, i => by
    have h1 := putL_len ks (lset l q i) (i + 1)
    have h2 := lset_len (k := q) (v := i) (l := l)
    simp only [putL, List.length_cons]; omega
def outL (l : KL) (ks : List ByteArray) : KL := ks.foldl ldel l
theorem outL_snoc (l : KL) (ks : List ByteArray) (k : ByteArray) : outL l (ks ++ [k]) = ldel (outL l ks) k := by simp [outL]
theorem outL_len : ∀ (ks : List ByteArray) (l : KL), (outL l ks).length ≤ l.length
  | [], l => by simp [outL]
  | q :: ks, l => by
    have h1 := outL_len ks (ldel l q)
    have h2 := ldel_len (k := q) (l := l)
    simp only [outL, List.foldl_cons] at h1 ⊢; omega
theorem lget_mem : ∀ {l : KL} {x : ByteArray × Int}, Ris l → x ∈ l → lget l x.1 = some x.2
  | [], x, _, h => by cases h
  | (q, w) :: l, x, hr, h => by
    obtain ⟨h1, h2⟩ := List.pairwise_cons.1 hr
    rcases List.mem_cons.1 h with rfl | h
    · simp [lget, klt_irrefl]
    · have hq : klt q x.1 = true := h1 x h
      simp only [lget, hq, klt_asymm hq]
      simpa using lget_mem h2 h
theorem lfrom_mem : ∀ {l : KL} {x : ByteArray × Int}, Ris l → x ∈ l → lfrom l x.1 = some x
  | [], x, _, h => by cases h
  | (q, w) :: l, x, hr, h => by
    obtain ⟨h1, h2⟩ := List.pairwise_cons.1 hr
    rcases List.mem_cons.1 h with rfl | h
    · simp [lfrom, List.find?, klt_irrefl]
    · have hq : klt q x.1 = true := h1 x h
      have := lfrom_mem h2 h
      simp only [lfrom, List.find?, hq] at this ⊢
      simpa using this
def lastK (l : KL) : ByteArray := match l.getLast? with
  | some x => x.1
  | none => ByteArray.empty
theorem lastK_snoc (l : KL) (x : ByteArray × Int) : lastK (l ++ [x]) = x.1 := by simp [lastK]
theorem lastK_lt {pre rest : KL} {x : ByteArray × Int} (h : Ris (pre ++ x :: rest)) (hp : 0 < pre.length) : klt (lastK pre) x.1 = true := by
  obtain ⟨h1, h2, h3, h4⟩ := Ris.app.1 (show Ris (pre ++ (x.1, x.2) :: rest) from h)
  unfold lastK
  cases hg : pre.getLast? with
  | none => rw [List.getLast?_eq_none_iff] at hg; subst hg; simp at hp
  | some y => exact h3 y (List.mem_of_getLast? hg)
section specs
variable (B : Base)
theorem alls_spec (a1 : Option Addr) (m1 c1 : Nat) (l1 : List ByteArray) (h1 : RdS Try.prog B [] 1 a1 m1 c1 (l1.map Value.string)) (hm1 : m1 ≤ 9223372036854775807)
    (a2 : Option Addr) (m2 c2 : Nat) (l2 : List ByteArray) (h2 : RdS Try.prog B [] 1 a2 m2 c2 (l2.map Value.string)) (hm2 : m2 ≤ 9223372036854775807) :
    Fspec Try.prog B 6 #[.slice a1 m1 c1, .slice a2 m2 c2] [] (fun v A' => v = .bool true ∧ A' = []) := by
  have hl1 : l1.length = m1 := by have := h1.len; simpa using this
  have hl2 : l2.length = m2 := by have := h2.len; simpa using this
  refine spec_of (args := [_, _]) Try.func6 rfl rfl rfl ?_
  repeat' (first
    | refine Wc_seq ?_
    | refine thenQ_normal ?_
    | refine Wc_cond_t (h := ?_)
    | refine Wc_cond_f (h := ?_)
    | refine Wc_ret ?_
    | refine thenQ_ret ?_
    | refine Wc_block ?_
    | refine blkQ_normal ?_
    | refine blkQ_ret ?_
    | refine Wc_exit ?_
    | refine thenQ_exit ?_
    | refine blkQ_hit ?_
    | refine blkQ_miss rfl ?_
    | refine Wc_skip ?_
    | refine Wc_label ?_
    | refine loopQ_exit ?_
    | refine loopQ_ret ?_
    | refine loopQ_normal ?_
    | (refine Wc_region (id := 0) ?_; intro K hK; (refine Wl_alloc (k := ?_); intro r); (refine Wl_nil (hK _ _ ?_); clear hK K))
    | (refine Wc_region (id := 1) ?_; intro K hK; ((refine Wl_call (hs := (awake05_spec B)) (k := ?_); rintro v A' ⟨rfl, rfl⟩; simp only [List.cons_append, List.nil_append])) <;> (refine Wl_not (k' := ?_); (refine Wl_nil (hK _ _ ?_); clear hK K)))
    | (refine Wc_region (id := 2) ?_; intro K hK; refine Wl_store (ho := rfl) (k := ?_); (refine Wl_nil (hK _ _ ?_); clear hK K))
    | (refine Wc_region (id := 3) ?_; intro K hK; ((refine Wl_call (hs := (mnew_spec B)) (k := ?_); rintro v A' ⟨p, rfl, rfl⟩; simp only [List.cons_append, List.nil_append])) <;> ((refine Wl_alloc (k := ?_); intro r); refine Wl_store (ho := rfl) (k := ?_); (refine Wl_nil (hK _ _ ?_); clear hK K)))
    | (refine Wc_region (id := 4) ?_; intro K hK; refine Wl_assign (k := ?_); (refine Wl_nil (hK _ _ ?_); clear hK K))
    | (refine Wc_cond (ht := (fun ht => ?_)) (hf := (fun ht => ?_)) <;> (try simp at ht) <;> (try (exfalso; omega))))
  obtain ⟨rm, hrm⟩ : ∃ rm, rm = r := ⟨_, rfl⟩
  subst hrm
  obtain ⟨rr, hrr⟩ : ∃ rr, rr = r := ⟨_, rfl⟩
  subst hrr
  refine Wc_loop (α := Nat × Tree) (fun x => [(0, .slice a1 m1 c1), (1, .slice a2 m2 c2), (4, .pointer (some ⟨rr, 0, none⟩)), (5, .pointer (some ⟨rm, 0, none⟩)), (6, .int .i64 x.1)])
    (fun x => [MpA p x.2, cb rm [.pointer (some ⟨p, 0, none⟩)] 25, cb rr [.bool false] 4]) (fun x => x.1 ≤ m1 ∧ x.1 ≤ 500 ∧ Has x.2 (putL [] (l1.take x.1) 0)) (fun x => m1 - x.1) (0, .nil) ⟨by omega, by simp, Has.nil⟩ ⟨rfl, rfl, rfl, rfl, rfl, trivial⟩ (by (repeat (first | exact Ent.refl _ | exact Ent.nil | refine Ent.take (by (repeat (first | exact Out.head | apply Out.tail)); (first | done | fail)) ?_ | refine Ent.drop1 ?_))) ?_
  rintro ⟨i, t⟩ G ⟨hi, hi5, hL⟩
  simp only at hi hi5 hL
  simp only [ov]
  have hfew : t.size ≤ 500 := by
    have h2 := putL_len (l1.take i) [] 0
    rw [hL.size]
    simp only [List.length_take, List.length_nil] at h2; omega
  by_cases hi2 : i < m1 ∧ i < 500
  · obtain ⟨hi2, hi6⟩ := hi2
    obtain ⟨x, hx⟩ : ∃ x, l1[i]? = some x := ⟨l1[i]'(by omega), List.getElem?_eq_getElem (by omega)⟩
    obtain ⟨b1, rfl⟩ : ∃ b1, a1 = some b1 := by
      cases a1 with
      | none => have := h1.nil rfl; omega
      | some p => exact ⟨p, rfl⟩
    repeat' (first
      | refine Wc_seq ?_
      | refine thenQ_normal ?_
      | refine Wc_cond_t (h := ?_)
      | refine Wc_cond_f (h := ?_)
      | refine Wc_ret ?_
      | refine thenQ_ret ?_
      | refine Wc_block ?_
      | refine blkQ_normal ?_
      | refine blkQ_ret ?_
      | refine Wc_exit ?_
      | refine thenQ_exit ?_
      | refine blkQ_hit ?_
      | refine blkQ_miss rfl ?_
      | refine Wc_skip ?_
      | refine Wc_label ?_
      | refine loopQ_exit ?_
      | refine loopQ_ret ?_
      | refine loopQ_normal ?_
      | (refine Wc_region (id := 5) ?_; intro K hK; refine Wl_move (k := ?_); refine Wl_move (k := ?_); refine Wl_len_sl (k' := ?_); refine Wl_lss (k' := ?_); refine Wl_move (k := ?_); ((first | (refine Wl_guard (k := ?_); refine Wl_move (k := ?_)) | refine Wl_gno (k := ?_) | ((refine Wl_split (yes := (fun ht => ?_)) (no := (fun ht => ?_)) <;> (try simp at ht) <;> (try (exfalso; omega))) <;> (first | (refine Wl_guard (k := ?_); refine Wl_move (k := ?_)) | refine Wl_gno (k := ?_))))) <;> (((first | (refine Wl_guard (k := ?_); refine Wl_lss (k' := ?_)) | refine Wl_gno (k := ?_) | ((refine Wl_split (yes := (fun ht => ?_)) (no := (fun ht => ?_)) <;> (try simp at ht) <;> (try (exfalso; omega))) <;> (first | (refine Wl_guard (k := ?_); refine Wl_lss (k' := ?_)) | refine Wl_gno (k := ?_))))) <;> ((first | refine Wl_pick_t (k := ?_) | refine Wl_pick_f (k := ?_) | refine Wl_pick (k := ?_)); (refine Wl_nil (hK _ _ ?_); clear hK K))))
      | (refine Wc_region (id := 6) ?_; intro K hK; refine Wl_move (k := ?_); refine Wl_add (k' := ?_); refine Wl_assign (k := ?_); (refine Wl_nil (hK _ _ ?_); clear hK K))
      | (refine Wc_drawF (id := 7) (M := ([cb rm [.pointer (some ⟨p, 0, none⟩)] 25])) (Ls := [30, 34]) (hp := (Pick.perm (by (repeat (first | exact Pick.nil | apply Pick.cons (by (repeat (first | exact Out.head | apply Out.tail)); (first | done | fail)))); (first | done | fail)))) (h := ?_); intro K hK; refine Wl_loadF (k := ?_); refine Wl_move (k := ?_); refine Wl_move (k := ?_); ((refine Wl_index_any (k' := ?_))) <;> (((refine Wl_loadGF (v := .string x) (j := i) (hq := by rw [Int.toNat_natCast, Nat.mul_one]) (hr := h1.any) (hv := by rw [List.getElem?_map, hx]; rfl) (k := ?_))) <;> (refine Wl_move (k := ?_); ((refine Wl_call (hs := (mset_spec B p t _ _ hL.aa (by omega))) (k := ?_); rintro v A' ⟨rfl, rfl⟩; simp only [List.cons_append, List.nil_append])) <;> ((refine Wl_nil (hK _ _ ?_); clear hK K; try simp only [List.cons_append, List.nil_append])))))
      | (refine Wc_cond (ht := (fun ht => ?_)) (hf := (fun ht => ?_)) <;> (try simp at ht) <;> (try (exfalso; omega))))
    refine ⟨(i + 1, t.set x i), ⟨by simp only; omega, by simp only; omega, ?_⟩, by simp only; omega, ⟨rfl, rfl, rfl, rfl, int_succ' i, trivial⟩, by simp only; (repeat (first | exact Ent.refl _ | exact Ent.nil | refine Ent.take (by (repeat (first | exact Out.head | apply Out.tail)); (first | done | fail)) ?_ | refine Ent.drop1 ?_))⟩
    have h3 := hL.set x (i : Int)
    have h4 : l1.take (i + 1) = l1.take i ++ [x] := by rw [List.take_add_one, hx]; rfl
    show Has _ (putL [] (l1.take (i + 1)) 0)
    rw [h4, putL_snoc, List.length_take, Nat.min_eq_left (by omega), Nat.zero_add]; exact h3
  · generalize hLL : putL [] (l1.take i) 0 = LL at hL
    clear hLL
    repeat' (first
      | refine Wc_seq ?_
      | refine thenQ_normal ?_
      | refine Wc_cond_t (h := ?_)
      | refine Wc_cond_f (h := ?_)
      | refine Wc_ret ?_
      | refine thenQ_ret ?_
      | refine Wc_block ?_
      | refine blkQ_normal ?_
      | refine blkQ_ret ?_
      | refine Wc_exit ?_
      | refine thenQ_exit ?_
      | refine blkQ_hit ?_
      | refine blkQ_miss rfl ?_
      | refine Wc_skip ?_
      | refine Wc_label ?_
      | refine loopQ_exit ?_
      | refine loopQ_ret ?_
      | refine loopQ_normal ?_
      | (refine Wc_region (id := 5) ?_; intro K hK; refine Wl_move (k := ?_); refine Wl_move (k := ?_); refine Wl_len_sl (k' := ?_); refine Wl_lss (k' := ?_); refine Wl_move (k := ?_); ((first | (refine Wl_guard (k := ?_); refine Wl_move (k := ?_)) | refine Wl_gno (k := ?_) | ((refine Wl_split (yes := (fun ht => ?_)) (no := (fun ht => ?_)) <;> (try simp at ht) <;> (try (exfalso; omega))) <;> (first | (refine Wl_guard (k := ?_); refine Wl_move (k := ?_)) | refine Wl_gno (k := ?_))))) <;> (((first | (refine Wl_guard (k := ?_); refine Wl_lss (k' := ?_)) | refine Wl_gno (k := ?_) | ((refine Wl_split (yes := (fun ht => ?_)) (no := (fun ht => ?_)) <;> (try simp at ht) <;> (try (exfalso; omega))) <;> (first | (refine Wl_guard (k := ?_); refine Wl_lss (k' := ?_)) | refine Wl_gno (k := ?_))))) <;> ((first | refine Wl_pick_t (k := ?_) | refine Wl_pick_f (k := ?_) | refine Wl_pick (k := ?_)); (refine Wl_nil (hK _ _ ?_); clear hK K))))
      | (refine Wc_region (id := 8) ?_; intro K hK; refine Wl_assign (k := ?_); (refine Wl_nil (hK _ _ ?_); clear hK K))
      | (refine Wc_cond (ht := (fun ht => ?_)) (hf := (fun ht => ?_)) <;> (try simp at ht) <;> (try (exfalso; omega))))
    all_goals
      have hLLs : LL.length ≤ 500 := by have := hL.size; omega
      clear hi hi5 hi2
      refine Wc_loop (α := Nat × Tree) (fun x => [(1, .slice a2 m2 c2), (4, .pointer (some ⟨rr, 0, none⟩)), (5, .pointer (some ⟨rm, 0, none⟩)), (7, .int .i64 x.1)])
        (fun x => [MpA p x.2, cb rm [.pointer (some ⟨p, 0, none⟩)] 25, cb rr [.bool false] 4]) (fun x => x.1 ≤ m2 ∧ x.1 ≤ 500 ∧ Has x.2 (outL LL (l2.take x.1))) (fun x => m2 - x.1) (0, t) ⟨by omega, by simp, hL⟩ ⟨rfl, rfl, rfl, rfl, trivial⟩ (by (repeat (first | exact Ent.refl _ | exact Ent.nil | refine Ent.take (by (repeat (first | exact Out.head | apply Out.tail)); (first | done | fail)) ?_ | refine Ent.drop1 ?_))) ?_
      rintro ⟨j, t2⟩ G2 ⟨hj, hj5, hL2⟩
      simp only at hj hj5 hL2
      simp only [ov]
      have hfew2 : t2.size ≤ 500 := by
        have h2 := outL_len (l2.take j) LL
        rw [hL2.size]; omega
      by_cases hj2 : j < m2 ∧ j < 500
      · obtain ⟨hj2, hj6⟩ := hj2
        obtain ⟨x, hx⟩ : ∃ x, l2[j]? = some x := ⟨l2[j]'(by omega), List.getElem?_eq_getElem (by omega)⟩
        obtain ⟨b2, rfl⟩ : ∃ b2, a2 = some b2 := by
          cases a2 with
          | none => have := h2.nil rfl; omega
          | some p => exact ⟨p, rfl⟩
        repeat' (first
          | refine Wc_seq ?_
          | refine thenQ_normal ?_
          | refine Wc_cond_t (h := ?_)
          | refine Wc_cond_f (h := ?_)
          | refine Wc_ret ?_
          | refine thenQ_ret ?_
          | refine Wc_block ?_
          | refine blkQ_normal ?_
          | refine blkQ_ret ?_
          | refine Wc_exit ?_
          | refine thenQ_exit ?_
          | refine blkQ_hit ?_
          | refine blkQ_miss rfl ?_
          | refine Wc_skip ?_
          | refine Wc_label ?_
          | refine loopQ_exit ?_
          | refine loopQ_ret ?_
          | refine loopQ_normal ?_
          | (refine Wc_region (id := 9) ?_; intro K hK; refine Wl_move (k := ?_); refine Wl_move (k := ?_); refine Wl_len_sl (k' := ?_); refine Wl_lss (k' := ?_); refine Wl_move (k := ?_); ((first | (refine Wl_guard (k := ?_); refine Wl_move (k := ?_)) | refine Wl_gno (k := ?_) | ((refine Wl_split (yes := (fun ht => ?_)) (no := (fun ht => ?_)) <;> (try simp at ht) <;> (try (exfalso; omega))) <;> (first | (refine Wl_guard (k := ?_); refine Wl_move (k := ?_)) | refine Wl_gno (k := ?_))))) <;> (((first | (refine Wl_guard (k := ?_); refine Wl_lss (k' := ?_)) | refine Wl_gno (k := ?_) | ((refine Wl_split (yes := (fun ht => ?_)) (no := (fun ht => ?_)) <;> (try simp at ht) <;> (try (exfalso; omega))) <;> (first | (refine Wl_guard (k := ?_); refine Wl_lss (k' := ?_)) | refine Wl_gno (k := ?_))))) <;> ((first | refine Wl_pick_t (k := ?_) | refine Wl_pick_f (k := ?_) | refine Wl_pick (k := ?_)); (refine Wl_nil (hK _ _ ?_); clear hK K))))
          | (refine Wc_region (id := 10) ?_; intro K hK; refine Wl_move (k := ?_); refine Wl_add (k' := ?_); refine Wl_assign (k := ?_); (refine Wl_nil (hK _ _ ?_); clear hK K))
          | (refine Wc_drawF (id := 11) (M := ([cb rm [.pointer (some ⟨p, 0, none⟩)] 25])) (Ls := [47, 51]) (hp := (Pick.perm (by (repeat (first | exact Pick.nil | apply Pick.cons (by (repeat (first | exact Out.head | apply Out.tail)); (first | done | fail)))); (first | done | fail)))) (h := ?_); intro K hK; refine Wl_loadF (k := ?_); refine Wl_move (k := ?_); refine Wl_move (k := ?_); ((refine Wl_index_any (k' := ?_))) <;> (((refine Wl_loadGF (v := .string x) (j := j) (hq := by rw [Int.toNat_natCast, Nat.mul_one]) (hr := h2.any) (hv := by rw [List.getElem?_map, hx]; rfl) (k := ?_))) <;> (((refine Wl_call (hs := (mdel_spec B p t2 _ hL2.aa (by omega))) (k := ?_); rintro v A' ⟨rfl, rfl⟩; simp only [List.cons_append, List.nil_append])) <;> ((refine Wl_nil (hK _ _ ?_); clear hK K; try simp only [List.cons_append, List.nil_append])))))
          | (refine Wc_cond (ht := (fun ht => ?_)) (hf := (fun ht => ?_)) <;> (try simp at ht) <;> (try (exfalso; omega))))
        refine ⟨(j + 1, t2.del x), ⟨by simp only; omega, by simp only; omega, ?_⟩, by simp only; omega, ⟨rfl, rfl, rfl, int_succ' j, trivial⟩, by simp only; (repeat (first | exact Ent.refl _ | exact Ent.nil | refine Ent.take (by (repeat (first | exact Out.head | apply Out.tail)); (first | done | fail)) ?_ | refine Ent.drop1 ?_))⟩
        have h4 : l2.take (j + 1) = l2.take j ++ [x] := by rw [List.take_add_one, hx]; rfl
        show Has _ (outL LL (l2.take (j + 1)))
        rw [h4, outL_snoc]; exact hL2.del x
      · generalize outL LL (l2.take j) = L3 at hL2
        repeat' (first
          | refine Wc_seq ?_
          | refine thenQ_normal ?_
          | refine Wc_cond_t (h := ?_)
          | refine Wc_cond_f (h := ?_)
          | refine Wc_ret ?_
          | refine thenQ_ret ?_
          | refine Wc_block ?_
          | refine blkQ_normal ?_
          | refine blkQ_ret ?_
          | refine Wc_exit ?_
          | refine thenQ_exit ?_
          | refine blkQ_hit ?_
          | refine blkQ_miss rfl ?_
          | refine Wc_skip ?_
          | refine Wc_label ?_
          | refine loopQ_exit ?_
          | refine loopQ_ret ?_
          | refine loopQ_normal ?_
          | (refine Wc_region (id := 9) ?_; intro K hK; refine Wl_move (k := ?_); refine Wl_move (k := ?_); refine Wl_len_sl (k' := ?_); refine Wl_lss (k' := ?_); refine Wl_move (k := ?_); ((first | (refine Wl_guard (k := ?_); refine Wl_move (k := ?_)) | refine Wl_gno (k := ?_) | ((refine Wl_split (yes := (fun ht => ?_)) (no := (fun ht => ?_)) <;> (try simp at ht) <;> (try (exfalso; omega))) <;> (first | (refine Wl_guard (k := ?_); refine Wl_move (k := ?_)) | refine Wl_gno (k := ?_))))) <;> (((first | (refine Wl_guard (k := ?_); refine Wl_lss (k' := ?_)) | refine Wl_gno (k := ?_) | ((refine Wl_split (yes := (fun ht => ?_)) (no := (fun ht => ?_)) <;> (try simp at ht) <;> (try (exfalso; omega))) <;> (first | (refine Wl_guard (k := ?_); refine Wl_lss (k' := ?_)) | refine Wl_gno (k := ?_))))) <;> ((first | refine Wl_pick_t (k := ?_) | refine Wl_pick_f (k := ?_) | refine Wl_pick (k := ?_)); (refine Wl_nil (hK _ _ ?_); clear hK K))))
          | (refine Wc_region (id := 12) ?_; intro K hK; (refine Wl_alloc (k := ?_); intro r); (refine Wl_alloc (k := ?_); intro r); refine Wl_store (ho := rfl) (k := ?_); refine Wl_store (ho := rfl) (k := ?_); (refine Wl_nil (hK _ _ ?_); clear hK K))
          | (refine Wc_region (id := 13) ?_; intro K hK; refine Wl_load (k := ?_); ((refine Wl_call (hs := (mall_spec (B := B) _ _ rfl)) (k := ?_); rintro v A' ⟨ra, rfl, rfl⟩; simp only [List.cons_append, List.nil_append])) <;> ((refine Wl_nil (hK _ _ ?_); clear hK K)))
          | (refine Wc_cond (ht := (fun ht => ?_)) (hf := (fun ht => ?_)) <;> (try simp at ht) <;> (try (exfalso; omega))))
        all_goals
          obtain ⟨rn, hrn⟩ : ∃ rn, rn = r := ⟨_, rfl⟩
          subst hrn
          obtain ⟨rl, hrl⟩ : ∃ rl, rl = r := ⟨_, rfl⟩
          subst hrl
          refine Wc_rangeFunc (vs := []) encP t2.inorder [cb ra [.pointer (some ⟨p, 0, none⟩)] 25, MpA p t2]
            (fun pre => [cb rl [.string (lastK pre)] 9, cb rn [.int .i64 pre.length] 3, cb rm [.pointer (some ⟨p, 0, none⟩)] 25, cb rr [.bool false] 4]) (fun c pre => [pur False]) rfl (by (repeat (first | exact Ent.refl _ | exact Ent.nil | refine Ent.take (by (repeat (first | exact Out.head | apply Out.tail)); (first | done | fail)) ?_ | refine Ent.drop1 ?_))) (all_seq ra p t2) (by decide) (fun _ => rfl) ?_ ?_ (fun c pre x rest hx => ?_)
          · rintro pre ⟨q, n⟩ rest hx
            have hmem : (q, n) ∈ L3 := by rw [← hL2.eq, hx]; simp
            have hg := get_in0 hL2 q
            rw [lget_mem hL2.ris hmem] at hg
            have hf : t2.from q none = some (q, n) := by
              rw [Tree.from_in t2 q none (by rw [hL2.eq]; exact hL2.ris), hL2.eq, lfrom_mem hL2.ris hmem]; rfl
            have hpl : pre.length ≤ 500 := by
              have := hL2.size
              have h3 := congrArg List.length hx
              rw [Tree.inorder_len] at h3; simp at h3; omega
            have hlast : 0 < pre.length → (Op.bytesLess q.toList (lastK pre).toList || q.toList == (lastK pre).toList) = false := fun h0 => by
              have h1 := lastK_lt (x := (q, n)) (by rw [← hx, hL2.eq]; exact hL2.ris) h0
              have h2 : Op.bytesLess q.toList (lastK pre).toList = false := klt_asymm h1
              rw [h2, kle]; simpa using fun e : q = lastK pre => klt_ne h1 e.symm
            unfold Round
            simp only [encP, List.zip_cons_cons, List.zip_nil_right, ups, List.cons_append, List.nil_append]
            repeat' (first
              | refine Wc_seq ?_
              | refine thenQ_normal ?_
              | refine Wc_cond_t (h := ?_)
              | refine Wc_cond_f (h := ?_)
              | refine Wc_ret ?_
              | refine thenQ_ret ?_
              | refine Wc_block ?_
              | refine blkQ_normal ?_
              | refine blkQ_ret ?_
              | refine Wc_exit ?_
              | refine thenQ_exit ?_
              | refine blkQ_hit ?_
              | refine blkQ_miss rfl ?_
              | refine Wc_skip ?_
              | refine Wc_label ?_
              | refine loopQ_exit ?_
              | refine loopQ_ret ?_
              | refine loopQ_normal ?_
              | (refine Wc_region (id := 14) ?_; intro K hK; refine Wl_assign (k := ?_); (refine Wl_nil (hK _ _ ?_); clear hK K))
              | (refine Wc_region (id := 15) ?_; intro K hK; refine Wl_assign (k := ?_); (refine Wl_nil (hK _ _ ?_); clear hK K))
              | (refine Wc_cond (ht := (fun ht => ?_)) (hf := (fun ht => ?_)) <;> (try simp at ht) <;> (try (exfalso; omega))))
            refine ⟨rfl, ?_⟩
            repeat' (first
              | refine Wc_seq ?_
              | refine thenQ_normal ?_
              | refine Wc_cond_t (h := ?_)
              | refine Wc_cond_f (h := ?_)
              | refine Wc_ret ?_
              | refine thenQ_ret ?_
              | refine Wc_block ?_
              | refine blkQ_normal ?_
              | refine blkQ_ret ?_
              | refine Wc_exit ?_
              | refine thenQ_exit ?_
              | refine blkQ_hit ?_
              | refine blkQ_miss rfl ?_
              | refine Wc_skip ?_
              | refine Wc_label ?_
              | refine loopQ_exit ?_
              | refine loopQ_ret ?_
              | refine loopQ_normal ?_
              | (refine Wc_region (id := 16) ?_; intro K hK; refine Wl_load (k := ?_); refine Wl_move (k := ?_); ((refine Wl_call (hs := (get_spec B p t2 q)) (k := ?_); rintro v A' ⟨rfl, rfl⟩; simp only [List.cons_append, List.nil_append]; rw [hg]; simp only [lgetV])) <;> (refine Wl_move (k := ?_); refine Wl_extract (k' := ?_); refine Wl_extract (k' := ?_); refine Wl_assign (k := ?_); refine Wl_assign (k := ?_); (refine Wl_nil (hK _ _ ?_); clear hK K)))
              | (refine Wc_region (id := 17) ?_; intro K hK; refine Wl_load (k := ?_); refine Wl_move (k := ?_); ((refine Wl_call (hs := (from_spec B p t2 q)) (k := ?_); rintro v A' ⟨rfl, rfl⟩; simp only [List.cons_append, List.nil_append]; rw [hf]; simp only [fromV])) <;> (refine Wl_move (k := ?_); refine Wl_extract (k' := ?_); refine Wl_extract (k' := ?_); refine Wl_extract (k' := ?_); refine Wl_assign (k := ?_); refine Wl_assign (k := ?_); refine Wl_assign (k := ?_); (refine Wl_nil (hK _ _ ?_); clear hK K)))
              | (refine Wc_region (id := 18) ?_; intro K hK; refine Wl_load (k := ?_); refine Wl_gtr (k' := ?_); refine Wl_move (k := ?_); ((first | (refine Wl_guard (k := ?_); refine Wl_move (k := ?_)) | refine Wl_gno (k := ?_) | ((refine Wl_split (yes := (fun ht => ?_)) (no := (fun ht => ?_)) <;> (try simp at ht) <;> (try (exfalso; omega))) <;> (first | (refine Wl_guard (k := ?_); refine Wl_move (k := ?_)) | refine Wl_gno (k := ?_))))) <;> (((first | (refine Wl_guard (k := ?_); refine Wl_load (k := ?_)) | refine Wl_gno (k := ?_) | ((refine Wl_split (yes := (fun ht => ?_)) (no := (fun ht => ?_)) <;> (try simp at ht) <;> (try (exfalso; omega))) <;> (first | (refine Wl_guard (k := ?_); refine Wl_load (k := ?_)) | refine Wl_gno (k := ?_))))) <;> (((first | (refine Wl_guard (k := ?_); (refine Wl_str_leq (k' := ?_); rw [hlast (by omega)])) | refine Wl_gno (k := ?_) | ((refine Wl_split (yes := (fun ht => ?_)) (no := (fun ht => ?_)) <;> (try simp at ht) <;> (try (exfalso; omega))) <;> (first | (refine Wl_guard (k := ?_); (refine Wl_str_leq (k' := ?_); rw [hlast (by omega)])) | refine Wl_gno (k := ?_))))) <;> ((first | refine Wl_pick_t (k := ?_) | refine Wl_pick_f (k := ?_) | refine Wl_pick (k := ?_)); refine Wl_move (k := ?_); ((first | (refine Wl_guard (k := ?_); refine Wl_move (k := ?_)) | refine Wl_gno (k := ?_) | ((refine Wl_split (yes := (fun ht => ?_)) (no := (fun ht => ?_)) <;> (try simp at ht) <;> (try (exfalso; omega))) <;> (first | (refine Wl_guard (k := ?_); refine Wl_move (k := ?_)) | refine Wl_gno (k := ?_))))) <;> (((first | (refine Wl_guard (k := ?_); refine Wl_not (k' := ?_)) | refine Wl_gno (k := ?_) | ((refine Wl_split (yes := (fun ht => ?_)) (no := (fun ht => ?_)) <;> (try simp at ht) <;> (try (exfalso; omega))) <;> (first | (refine Wl_guard (k := ?_); refine Wl_not (k' := ?_)) | refine Wl_gno (k := ?_))))) <;> ((first | refine Wl_pick_t (k := ?_) | refine Wl_pick_f (k := ?_) | refine Wl_pick (k := ?_)); refine Wl_move (k := ?_); ((first | (refine Wl_guard (k := ?_); refine Wl_move (k := ?_)) | refine Wl_gno (k := ?_) | ((refine Wl_split (yes := (fun ht => ?_)) (no := (fun ht => ?_)) <;> (try simp at ht) <;> (try (exfalso; omega))) <;> (first | (refine Wl_guard (k := ?_); refine Wl_move (k := ?_)) | refine Wl_gno (k := ?_))))) <;> (((first | (refine Wl_guard (k := ?_); refine Wl_move (k := ?_)) | refine Wl_gno (k := ?_) | ((refine Wl_split (yes := (fun ht => ?_)) (no := (fun ht => ?_)) <;> (try simp at ht) <;> (try (exfalso; omega))) <;> (first | (refine Wl_guard (k := ?_); refine Wl_move (k := ?_)) | refine Wl_gno (k := ?_))))) <;> (((first | (refine Wl_guard (k := ?_); (refine Wl_neq (k' := ?_); rw [decide_eq_false (not_not_intro rfl)])) | refine Wl_gno (k := ?_) | ((refine Wl_split (yes := (fun ht => ?_)) (no := (fun ht => ?_)) <;> (try simp at ht) <;> (try (exfalso; omega))) <;> (first | (refine Wl_guard (k := ?_); (refine Wl_neq (k' := ?_); rw [decide_eq_false (not_not_intro rfl)])) | refine Wl_gno (k := ?_))))) <;> ((first | refine Wl_pick_t (k := ?_) | refine Wl_pick_f (k := ?_) | refine Wl_pick (k := ?_)); refine Wl_move (k := ?_); ((first | (refine Wl_guard (k := ?_); refine Wl_move (k := ?_)) | refine Wl_gno (k := ?_) | ((refine Wl_split (yes := (fun ht => ?_)) (no := (fun ht => ?_)) <;> (try simp at ht) <;> (try (exfalso; omega))) <;> (first | (refine Wl_guard (k := ?_); refine Wl_move (k := ?_)) | refine Wl_gno (k := ?_))))) <;> (((first | (refine Wl_guard (k := ?_); refine Wl_not (k' := ?_)) | refine Wl_gno (k := ?_) | ((refine Wl_split (yes := (fun ht => ?_)) (no := (fun ht => ?_)) <;> (try simp at ht) <;> (try (exfalso; omega))) <;> (first | (refine Wl_guard (k := ?_); refine Wl_not (k' := ?_)) | refine Wl_gno (k := ?_))))) <;> ((first | refine Wl_pick_t (k := ?_) | refine Wl_pick_f (k := ?_) | refine Wl_pick (k := ?_)); refine Wl_move (k := ?_); ((first | (refine Wl_guard (k := ?_); refine Wl_move (k := ?_)) | refine Wl_gno (k := ?_) | ((refine Wl_split (yes := (fun ht => ?_)) (no := (fun ht => ?_)) <;> (try simp at ht) <;> (try (exfalso; omega))) <;> (first | (refine Wl_guard (k := ?_); refine Wl_move (k := ?_)) | refine Wl_gno (k := ?_))))) <;> (((first | (refine Wl_guard (k := ?_); refine Wl_move (k := ?_)) | refine Wl_gno (k := ?_) | ((refine Wl_split (yes := (fun ht => ?_)) (no := (fun ht => ?_)) <;> (try simp at ht) <;> (try (exfalso; omega))) <;> (first | (refine Wl_guard (k := ?_); refine Wl_move (k := ?_)) | refine Wl_gno (k := ?_))))) <;> (((first | (refine Wl_guard (k := ?_); (refine Wl_str_neq (k' := ?_); rw [kle, decide_eq_true rfl])) | refine Wl_gno (k := ?_) | ((refine Wl_split (yes := (fun ht => ?_)) (no := (fun ht => ?_)) <;> (try simp at ht) <;> (try (exfalso; omega))) <;> (first | (refine Wl_guard (k := ?_); (refine Wl_str_neq (k' := ?_); rw [kle, decide_eq_true rfl])) | refine Wl_gno (k := ?_))))) <;> ((first | refine Wl_pick_t (k := ?_) | refine Wl_pick_f (k := ?_) | refine Wl_pick (k := ?_)); refine Wl_move (k := ?_); ((first | (refine Wl_guard (k := ?_); refine Wl_move (k := ?_)) | refine Wl_gno (k := ?_) | ((refine Wl_split (yes := (fun ht => ?_)) (no := (fun ht => ?_)) <;> (try simp at ht) <;> (try (exfalso; omega))) <;> (first | (refine Wl_guard (k := ?_); refine Wl_move (k := ?_)) | refine Wl_gno (k := ?_))))) <;> (((first | (refine Wl_guard (k := ?_); refine Wl_move (k := ?_)) | refine Wl_gno (k := ?_) | ((refine Wl_split (yes := (fun ht => ?_)) (no := (fun ht => ?_)) <;> (try simp at ht) <;> (try (exfalso; omega))) <;> (first | (refine Wl_guard (k := ?_); refine Wl_move (k := ?_)) | refine Wl_gno (k := ?_))))) <;> (((first | (refine Wl_guard (k := ?_); (refine Wl_neq (k' := ?_); rw [decide_eq_false (not_not_intro rfl)])) | refine Wl_gno (k := ?_) | ((refine Wl_split (yes := (fun ht => ?_)) (no := (fun ht => ?_)) <;> (try simp at ht) <;> (try (exfalso; omega))) <;> (first | (refine Wl_guard (k := ?_); (refine Wl_neq (k' := ?_); rw [decide_eq_false (not_not_intro rfl)])) | refine Wl_gno (k := ?_))))) <;> ((first | refine Wl_pick_t (k := ?_) | refine Wl_pick_f (k := ?_) | refine Wl_pick (k := ?_)); (refine Wl_nil (hK _ _ ?_); clear hK K))))))))))))))))))
              | (refine Wc_region (id := 19) ?_; intro K hK; refine Wl_store (ho := rfl) (k := ?_); (refine Wl_nil (hK _ _ ?_); clear hK K))
              | ((refine Wc_drawAll (id := 20) (h := ?_); intro K hK; repeat' (first | (refine Wany_step (js := [0, 1]) (by decide +kernel) rfl (Wjs_cons rfl ?_ (Wjs_cons rfl ?_ (Wjs_nil)))) | (refine Wany_step (js := [0, 2]) (by decide +kernel) rfl (Wjs_cons rfl ?_ (Wjs_cons rfl ?_ (Wjs_nil)))) | (refine Wany_step (js := [0]) (by decide +kernel) rfl (Wjs_cons rfl ?_ (Wjs_nil))) | (refine Wany_step (js := [3]) (by decide +kernel) rfl (Wjs_cons rfl ?_ (Wjs_nil))) | (refine Wany_step (js := [4]) (by decide +kernel) rfl (Wjs_cons rfl ?_ (Wjs_nil))) | (refine Wany_step (js := [2, 3]) (by decide +kernel) rfl (Wjs_cons rfl ?_ (Wjs_cons rfl ?_ (Wjs_nil)))) | (refine Wany_step (js := [2]) (by decide +kernel) rfl (Wjs_cons rfl ?_ (Wjs_nil))) | (refine Wany_step (js := [1, 3]) (by decide +kernel) rfl (Wjs_cons rfl ?_ (Wjs_cons rfl ?_ (Wjs_nil)))) | (refine Wany_step (js := [1]) (by decide +kernel) rfl (Wjs_cons rfl ?_ (Wjs_nil))) | (refine Wany_done (by decide +kernel) (hK _ _ ?_); clear hK K) | refine Wl_nil ?_ | (refine Wl_move (k := ?_)) | (refine Wl_load (k := ?_)) | (refine Wl_add (k' := ?_)) | (refine Wl_store (ho := rfl) (k := ?_)))))
              | (refine Wc_cond (ht := (fun ht => ?_)) (hf := (fun ht => ?_)) <;> (try simp at ht) <;> (try (exfalso; omega))))
            all_goals
              refine .inl ⟨rfl, ?_⟩
              rw [lastK_snoc, List.length_append]
              (repeat (first | exact Ent.refl _ | exact Ent.nil | refine Ent.take (by (repeat (first | exact Out.head | apply Out.tail)); (first | done | fail)) ?_ | refine Ent.drop1 ?_))
          · refine blkQ_normal (thenQ_normal ?_)
            simp only [List.cons_append, List.nil_append]
            rw [Tree.inorder_len]
            repeat' (first
              | refine Wc_seq ?_
              | refine thenQ_normal ?_
              | refine Wc_cond_t (h := ?_)
              | refine Wc_cond_f (h := ?_)
              | refine Wc_ret ?_
              | refine thenQ_ret ?_
              | refine Wc_block ?_
              | refine blkQ_normal ?_
              | refine blkQ_ret ?_
              | refine Wc_exit ?_
              | refine thenQ_exit ?_
              | refine blkQ_hit ?_
              | refine blkQ_miss rfl ?_
              | refine Wc_skip ?_
              | refine Wc_label ?_
              | refine loopQ_exit ?_
              | refine loopQ_ret ?_
              | refine loopQ_normal ?_
              | (refine Wc_drawF (id := 21) (M := ([cb rn [.int .i64 t2.size] 3, cb rm [.pointer (some ⟨p, 0, none⟩)] 25])) (Ls := [103, 104, 106]) (hp := (Pick.perm (by (repeat (first | exact Pick.nil | apply Pick.cons (by (repeat (first | exact Out.head | apply Out.tail)); (first | done | fail)))); (first | done | fail)))) (h := ?_); intro K hK; refine Wl_loadF (k := ?_); refine Wl_loadF (k := ?_); ((refine Wl_call (hs := (mlen_spec B p t2)) (k := ?_); rintro v A' ⟨rfl, rfl⟩; simp only [List.cons_append, List.nil_append])) <;> (((refine Wl_eql (k' := ?_); rw [decide_eq_true rfl])) <;> (refine Wl_store (ho := rfl) (k := ?_); (refine Wl_nil (hK _ _ ?_); clear hK K; try simp only [List.cons_append, List.nil_append]))))
              | (refine Wc_cond (ht := (fun ht => ?_)) (hf := (fun ht => ?_)) <;> (try simp at ht) <;> (try (exfalso; omega))))
            exact ⟨Or.inr rfl, .bool true, [], Ent.nil, resG (rs := [.cell 4 4]) rfl (.cell (l := [.bool true]) (off := 0) (by (repeat (first | exact Ev.here | exact Ev.const | exact Ev.arg rfl | apply Ev.there rfl | exact Ev.none rfl | exact Ev.func | exact Ev.var)); (first | done | fail)) (by (repeat (first | exact Rd.head | exact Rd.base (by assumption) | apply Rd.tail)); (first | done | fail)) rfl .nil) rfl, rfl, rfl⟩
          · simp only [List.cons_append, List.nil_append]
            refine Wc_take (y := pur False) (k := (Wc_pur (fun h => h.elim)))
end specs
end Go.Proofs.Ytdlpfeflndlpfaa
