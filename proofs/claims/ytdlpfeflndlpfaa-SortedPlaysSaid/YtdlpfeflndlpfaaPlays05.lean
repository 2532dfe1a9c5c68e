/- SortedPlays: what it answers. -/
import Derived.Test.YtdlpfeflndlpfaaNil05
set_option maxHeartbeats 8000000
set_option linter.unusedVariables false
set_option linter.unusedSimpArgs false
set_option maxRecDepth 100000
namespace Go.Proofs.Ytdlpfeflndlpfaa
open Go Go.Sl
attribute [local irreducible] Go.Sl.Wl Go.Sl.Wc Go.Sl.thenQ Go.Sl.blkQ Go.Sl.loopQ Go.Sl.Fspec

def lop (l : KL) (o : Int × ByteArray × Int) : KL := if o.1 = 0 then lset l o.2.1 o.2.2 else if o.1 = 1 then ldel l o.2.1 else l
theorem news_in0 {t : Tree} {l : KL} (h : Has t l) (k : ByteArray) : t.news k = (lget l k).isNone := by
  rw [Tree.news_in k t (by rw [h.eq]; exact h.ris), h.eq]
theorem from_in0 {t : Tree} {l : KL} (h : Has t l) (k : ByteArray) : t.from k none = lfrom l k := by
  rw [Tree.from_in t k none (by rw [h.eq]; exact h.ris), h.eq, Option.or_none]
theorem ldel_len2 {k : ByteArray} : ∀ {l : KL}, (ldel l k).length + (if (lget l k).isSome = true then 1 else 0) = l.length
  | [] => by simp [ldel, lget]
  | (q, w) :: l => by
    have ih := ldel_len2 (k := k) (l := l)
    simp only [ldel, lget]
    split
    · simp
    · split
      · simp only [List.length_cons]; omega
      · simp
theorem gone_in0 {t : Tree} {l : KL} (h : Has t l) (k : ByteArray) : decide (t.gone k = 1) = (lget l k).isSome := by
  have h1 := Tree.size_del t k
  have h2 := Tree.gone_le t k
  have h3 := (h.del k).size
  have h4 := h.size
  have h5 := ldel_len2 (k := k) (l := l)
  cases hs : (lget l k).isSome with
  | true => rw [hs] at h5; simp at h5; exact decide_eq_true (by omega)
  | false => rw [hs] at h5; simp at h5; exact decide_eq_false (by omega)
theorem lgetV_eq (v : Option Int) : lgetV v = .tuple [.int .i64 (v.getD 0), .bool v.isSome].toArray := by cases v <;> rfl
def kvOf (x : Option (ByteArray × Int)) : ByteArray × Int := x.getD (ByteArray.empty, 0)
theorem fromV_eq (x : Option (ByteArray × Int)) : fromV x = .tuple [.string (kvOf x).1, .int .i64 (kvOf x).2, .bool x.isSome].toArray := by cases x <;> rfl
theorem lfromV_eq (x : Option (ByteArray × Int)) : lfromV x = .tuple [.agg [.string (kvOf x).1, .int .i64 (kvOf x).2].toArray, .bool x.isSome].toArray := by cases x <;> rfl
abbrev OpP := Int × ByteArray × Int
def opP (o : OpP) : List Value := [.int .i64 o.1, .string o.2.1, .int .i64 o.2.2]
theorem opP_row : ∀ {l : List OpP} {j : Nat} {q : OpP}, l[j]? = some q → ((l.flatMap opP).drop (j * 3)).take 3 = opP q
  | [], j, q, h => by simp at h
  | x :: l, 0, q, h => by
    have : x = q := by simpa using h
    subst this; rfl
  | x :: l, j + 1, q, h => by
    have := opP_row (l := l) (j := j) (q := q) (by simpa using h)
    rw [List.flatMap_cons, show (j + 1) * 3 = j * 3 + 3 by omega]
    exact this
section specs
variable (B : Base)
theorem plays_spec (a : Option Addr) (m c : Nat) (os : List OpP) (h1 : RdS Try.prog B [] 3 a m c (os.flatMap opP)) (hos : os.length = m) (hm : m ≤ 9223372036854775807) :
    Fspec Try.prog B 5 #[.slice a m c] [] (fun v A' => v = .bool true ∧ A' = []) := by
  refine spec_of (args := [_]) Try.func5 rfl rfl rfl ?_
  repeat' (first
    | refine Wc_seq ?_
    | refine thenQ_normal ?_
    | refine Wc_cond_t (h := ?_)
    | refine Wc_cond_f (h := ?_)
    | refine Wc_ret ?_
    | refine thenQ_ret ?_
    | refine Wc_block ?_
    | refine blkQ_normal ?_
    | refine blkQ_ret ?_
    | refine Wc_exit ?_
    | refine thenQ_exit ?_
    | refine blkQ_hit ?_
    | refine blkQ_miss rfl ?_
    | refine Wc_skip ?_
    | refine Wc_label ?_
    | refine loopQ_exit ?_
    | refine loopQ_ret ?_
    | refine loopQ_normal ?_
    | (refine Wc_region (id := 0) ?_; intro K hK; refine Wl_assign (k := ?_); (refine Wl_nil (hK _ _ ?_); clear hK K))
    | (refine Wc_region (id := 1) ?_; intro K hK; ((refine Wl_call (hs := (awake05_spec B)) (k := ?_); rintro v A' ⟨rfl, rfl⟩; simp only [List.cons_append, List.nil_append])) <;> (refine Wl_not (k' := ?_); (refine Wl_nil (hK _ _ ?_); clear hK K)))
    | (refine Wc_region (id := 2) ?_; intro K hK; refine Wl_assign (k := ?_); (refine Wl_nil (hK _ _ ?_); clear hK K))
    | (refine Wc_region (id := 3) ?_; intro K hK; ((refine Wl_call (hs := (mnew_spec B)) (k := ?_); rintro v A' ⟨p, rfl, rfl⟩; simp only [List.cons_append, List.nil_append])) <;> (refine Wl_build (k := ?_); (refine Wl_boxAgg (k := ?_); intro r); refine Wl_assign (k := ?_); refine Wl_assign (k := ?_); (refine Wl_nil (hK _ _ ?_); clear hK K)))
    | (refine Wc_region (id := 4) ?_; intro K hK; refine Wl_assign (k := ?_); (refine Wl_nil (hK _ _ ?_); clear hK K))
    | (refine Wc_cond (ht := (fun ht => ?_)) (hf := (fun ht => ?_)) <;> (try simp at ht) <;> (try (exfalso; omega))))
  obtain ⟨rw0, hrw⟩ : ∃ rw0, rw0 = r := ⟨_, rfl⟩
  subst hrw
  refine Wc_loop (α := Nat × Nat × Tree × KL) (fun x => [(0, .slice a m c), (3, .pointer (some ⟨x.2.1, 0, none⟩)), (4, .pointer (some ⟨rw0, 0, none⟩)), (5, .int .i64 x.1)])
    (fun x => [MpA x.2.1 x.2.2.1, RmA rw0 x.2.2.2]) (fun x => x.1 ≤ m ∧ x.1 ≤ 300 ∧ Has x.2.2.1 x.2.2.2 ∧ x.2.2.2.length ≤ x.1) (fun x => m - x.1) (0, p, .nil, []) ⟨by omega, by simp, Has.nil, by simp⟩ ⟨rfl, rfl, rfl, rfl, trivial⟩ ?_ ?_
  · refine Ent.trans (own_nil 2 48 _) ?_
    refine Ent.trans (rm_in (r := rw0) (n := 0) (c := 0) (a := none) (cs := []) (l := []) (by (repeat (first | exact Out.head | apply Out.tail)); (first | done | fail)) (by (repeat (first | exact Out.head | apply Out.tail)); (first | done | fail)) rfl rfl) ?_
    (repeat (first | exact Ent.refl _ | exact Ent.nil | refine Ent.take (by (repeat (first | exact Out.head | apply Out.tail)); (first | done | fail)) ?_ | refine Ent.drop1 ?_))
  rintro ⟨i, p, t, l⟩ G ⟨hi, hi3, hL, hll⟩
  simp only at hi hi3 hL hll
  simp only [ov]
  have hsz := hL.size
  by_cases hi2 : i < m ∧ i < 300
  · obtain ⟨hi2, hi6⟩ := hi2
    obtain ⟨x, hx⟩ : ∃ x, os[i]? = some x := ⟨os[i]'(by omega), List.getElem?_eq_getElem (by omega)⟩
    obtain ⟨b, rfl⟩ : ∃ b, a = some b := by
      cases a with
      | none => have := h1.nil rfl; omega
      | some p => exact ⟨p, rfl⟩
    obtain ⟨oK, k, oN⟩ := x
    have hrow := opP_row hx
    simp only [opP] at hrow
    repeat' (first
      | (refine Wc_cutR (k := 8) (α := Nat × Tree × KL) (fun y => [(0, .slice (some b) m c), (3, .pointer (some ⟨y.1, 0, none⟩)), (4, .pointer (some ⟨rw0, 0, none⟩)), (5, .int .i64 i), (6, .pointer (some ⟨r, 0, none⟩))]) (fun y => [MpA y.1 y.2.1, RmA rw0 y.2.2, cb r [.int .i64 oK, .string k, .int .i64 oN] 42]) (fun y => Has y.2.1 y.2.2 ∧ y.2.2.length ≤ i + 1) ?_ ?_)
      | refine Wc_seq ?_
      | refine thenQ_normal ?_
      | refine Wc_cond_t (h := ?_)
      | refine Wc_cond_f (h := ?_)
      | refine Wc_ret ?_
      | refine thenQ_ret ?_
      | refine Wc_block ?_
      | refine blkQ_normal ?_
      | refine blkQ_ret ?_
      | refine Wc_exit ?_
      | refine thenQ_exit ?_
      | refine blkQ_hit ?_
      | refine blkQ_miss rfl ?_
      | refine Wc_skip ?_
      | refine Wc_label ?_
      | refine loopQ_exit ?_
      | refine loopQ_ret ?_
      | refine loopQ_normal ?_
      | (refine Wc_region (id := 5) ?_; intro K hK; refine Wl_move (k := ?_); refine Wl_move (k := ?_); refine Wl_len_sl (k' := ?_); refine Wl_lss (k' := ?_); refine Wl_move (k := ?_); ((first | (refine Wl_guard (k := ?_); refine Wl_move (k := ?_)) | refine Wl_gno (k := ?_) | ((refine Wl_split (yes := (fun ht => ?_)) (no := (fun ht => ?_)) <;> (try simp at ht) <;> (try (exfalso; omega))) <;> (first | (refine Wl_guard (k := ?_); refine Wl_move (k := ?_)) | refine Wl_gno (k := ?_))))) <;> (((first | (refine Wl_guard (k := ?_); refine Wl_lss (k' := ?_)) | refine Wl_gno (k := ?_) | ((refine Wl_split (yes := (fun ht => ?_)) (no := (fun ht => ?_)) <;> (try simp at ht) <;> (try (exfalso; omega))) <;> (first | (refine Wl_guard (k := ?_); refine Wl_lss (k' := ?_)) | refine Wl_gno (k := ?_))))) <;> ((first | refine Wl_pick_t (k := ?_) | refine Wl_pick_f (k := ?_) | refine Wl_pick (k := ?_)); (refine Wl_nil (hK _ _ ?_); clear hK K))))
      | (refine Wc_region (id := 7) ?_; intro K hK; refine Wl_move (k := ?_); refine Wl_move (k := ?_); ((refine Wl_index_any (k' := ?_))) <;> (((refine Wl_loadAggG (j := i * 3) (cs := [.int .i64 oK, .string k, .int .i64 oN]) (hq := by simp) (hr := h1.any) (hv := hrow) (k := ?_))) <;> ((refine Wl_alloc (k := ?_); intro r); refine Wl_storeR (ho' := rfl) (k := ?_); (refine Wl_nil (hK _ _ ?_); clear hK K))))
      | (refine Wc_cond (ht := (fun ht => ?_)) (hf := (fun ht => ?_)) <;> (try simp at ht) <;> (try (exfalso; omega))))
    · repeat' (first
        | refine Wc_seq ?_
        | refine thenQ_normal ?_
        | refine Wc_cond_t (h := ?_)
        | refine Wc_cond_f (h := ?_)
        | refine Wc_ret ?_
        | refine thenQ_ret ?_
        | refine Wc_block ?_
        | refine blkQ_normal ?_
        | refine blkQ_ret ?_
        | refine Wc_exit ?_
        | refine thenQ_exit ?_
        | refine blkQ_hit ?_
        | refine blkQ_miss rfl ?_
        | refine Wc_skip ?_
        | refine Wc_label ?_
        | refine loopQ_exit ?_
        | refine loopQ_ret ?_
        | refine loopQ_normal ?_
        | (refine Wc_region (id := 8) ?_; intro K hK; refine Wl_fieldAddr (k := ?_); refine Wl_load (k := ?_); (refine Wl_nil (hK _ _ ?_); clear hK K))
        | (refine Wc_region (id := 9) ?_; intro K hK; refine Wl_eql (k' := ?_); refine Wl_assign (k := ?_); (refine Wl_nil (hK _ _ ?_); clear hK K))
        | (refine Wc_drawF (id := 10) (M := ([cb r [.int .i64 oK, .string k, .int .i64 oN] 42])) (Ls := [43, 45, 49, 51, 53]) (hp := (Pick.perm (by (repeat (first | exact Pick.nil | apply Pick.cons (by (repeat (first | exact Out.head | apply Out.tail)); (first | done | fail)))); (first | done | fail)))) (h := ?_); intro K hK; refine Wl_move (k := ?_); refine Wl_fieldAddr (k := ?_); refine Wl_loadF (k := ?_); refine Wl_fieldAddr (k := ?_); refine Wl_loadF (k := ?_); ((refine Wl_call (hs := (mset_spec B p t k oN hL.aa (by omega))) (k := ?_); rintro v A' ⟨rfl, rfl⟩; simp only [List.cons_append, List.nil_append]; rw [news_in0 hL])) <;> (refine Wl_move (k := ?_); refine Wl_fieldAddr (k := ?_); refine Wl_loadF (k := ?_); refine Wl_fieldAddr (k := ?_); refine Wl_loadF (k := ?_); ((refine Wl_call (hs := (rset_spec B rw0 l k oN (by omega))) (k := ?_); rintro v A' ⟨rfl, rfl⟩; simp only [List.cons_append, List.nil_append])) <;> (((refine Wl_bool_neq (hU := Try.underlying4) (k' := ?_); rw [beq_self_eq_true])) <;> ((refine Wl_nil (hK _ _ ?_); clear hK K; try simp only [List.cons_append, List.nil_append])))))
        | (refine Wc_region (id := 11) ?_; intro K hK; refine Wl_assign (k := ?_); (refine Wl_nil (hK _ _ ?_); clear hK K))
        | (refine Wc_region (id := 12) ?_; intro K hK; refine Wl_eql (k' := ?_); refine Wl_assign (k := ?_); (refine Wl_nil (hK _ _ ?_); clear hK K))
        | (refine Wc_drawF (id := 13) (M := ([cb r [.int .i64 oK, .string k, .int .i64 oN] 42])) (Ls := [58, 62, 64]) (hp := (Pick.perm (by (repeat (first | exact Pick.nil | apply Pick.cons (by (repeat (first | exact Out.head | apply Out.tail)); (first | done | fail)))); (first | done | fail)))) (h := ?_); intro K hK; refine Wl_move (k := ?_); refine Wl_fieldAddr (k := ?_); refine Wl_loadF (k := ?_); ((refine Wl_call (hs := (mdel_spec B p t k hL.aa (by omega))) (k := ?_); rintro v A' ⟨rfl, rfl⟩; simp only [List.cons_append, List.nil_append]; rw [gone_in0 hL])) <;> (refine Wl_move (k := ?_); refine Wl_fieldAddr (k := ?_); refine Wl_loadF (k := ?_); ((refine Wl_call (hs := (rdel_spec B rw0 l k (by omega))) (k := ?_); rintro v A' ⟨rfl, rfl⟩; simp only [List.cons_append, List.nil_append])) <;> (((refine Wl_bool_neq (hU := Try.underlying4) (k' := ?_); rw [beq_self_eq_true])) <;> ((refine Wl_nil (hK _ _ ?_); clear hK K; try simp only [List.cons_append, List.nil_append])))))
        | (refine Wc_region (id := 14) ?_; intro K hK; refine Wl_assign (k := ?_); (refine Wl_nil (hK _ _ ?_); clear hK K))
        | (refine Wc_region (id := 15) ?_; intro K hK; refine Wl_eql (k' := ?_); refine Wl_assign (k := ?_); (refine Wl_nil (hK _ _ ?_); clear hK K))
        | (refine Wc_region (id := 16) ?_; intro K hK; refine Wl_move (k := ?_); ((refine Wl_call (hs := (mcopy_spec p t)) (k := ?_); rintro v A' ⟨q, rfl, rfl⟩; simp only [List.cons_append, List.nil_append])) <;> (refine Wl_assign (k := ?_); (refine Wl_nil (hK _ _ ?_); clear hK K)))
        | (refine Wc_region (id := 17) ?_; intro K hK; refine Wl_eql (k' := ?_); refine Wl_assign (k := ?_); (refine Wl_nil (hK _ _ ?_); clear hK K))
        | (refine Wc_region (id := 18) ?_; intro K hK; refine Wl_move (k := ?_); ((refine Wl_call (hs := (mcopy_spec p t)) (k := ?_); rintro v A' ⟨q, rfl, rfl⟩; simp only [List.cons_append, List.nil_append])) <;> (refine Wl_assign (k := ?_); (refine Wl_nil (hK _ _ ?_); clear hK K)))
        | (refine Wc_region (id := 19) ?_; intro K hK; refine Wl_move (k := ?_); refine Wl_fieldAddr (k := ?_); refine Wl_load (k := ?_); refine Wl_fieldAddr (k := ?_); refine Wl_load (k := ?_); ((refine Wl_call (hs := (mset_spec B q t k oN hL.aa (by omega))) (k := ?_); rintro v A' ⟨rfl, rfl⟩; simp only [List.cons_append, List.nil_append])) <;> ((refine Wl_nil (hK _ _ ?_); clear hK K)))
        | (refine Wc_region (id := 20) ?_; intro K hK; refine Wl_move (k := ?_); ((refine Wl_call (hs := (mdel_spec B q (t.set k oN) ⟨#[97]⟩ (hL.set k oN).aa (by have := (hL.set k oN).size; have := lset_len (k := k) (v := oN) (l := l); omega))) (k := ?_); rintro v A' ⟨rfl, rfl⟩; simp only [List.cons_append, List.nil_append])) <;> ((refine Wl_nil (hK _ _ ?_); clear hK K)))
        | (refine Wc_cond (ht := (fun ht => ?_)) (hf := (fun ht => ?_)) <;> (try simp at ht) <;> (try (exfalso; omega))))
      · exact ⟨(p, t.set k oN, lset l k oN), ⟨hL.set _ _, by have := lset_len (k := k) (v := oN) (l := l); simp only; omega⟩, ⟨rfl, rfl, rfl, rfl, rfl, trivial⟩, (by (repeat (first | exact Ent.refl _ | exact Ent.nil | refine Ent.take (by (repeat (first | exact Out.head | apply Out.tail)); (first | done | fail)) ?_ | refine Ent.drop1 ?_)))⟩
      · exact ⟨(p, t.del k, ldel l k), ⟨hL.del _, by have := ldel_len (k := k) (l := l); simp only; omega⟩, ⟨rfl, rfl, rfl, rfl, rfl, trivial⟩, (by (repeat (first | exact Ent.refl _ | exact Ent.nil | refine Ent.take (by (repeat (first | exact Out.head | apply Out.tail)); (first | done | fail)) ?_ | refine Ent.drop1 ?_)))⟩
      · exact ⟨(q, t, l), ⟨hL, by simp only; omega⟩, ⟨rfl, rfl, rfl, rfl, rfl, trivial⟩, (by (repeat (first | exact Ent.refl _ | exact Ent.nil | refine Ent.take (by (repeat (first | exact Out.head | apply Out.tail)); (first | done | fail)) ?_ | refine Ent.drop1 ?_)))⟩
      · exact ⟨(p, t, l), ⟨hL, by simp only; omega⟩, ⟨rfl, rfl, rfl, rfl, rfl, trivial⟩, (by (repeat (first | exact Ent.refl _ | exact Ent.nil | refine Ent.take (by (repeat (first | exact Out.head | apply Out.tail)); (first | done | fail)) ?_ | refine Ent.drop1 ?_)))⟩
      · exact ⟨(p, t, l), ⟨hL, by simp only; omega⟩, ⟨rfl, rfl, rfl, rfl, rfl, trivial⟩, (by (repeat (first | exact Ent.refl _ | exact Ent.nil | refine Ent.take (by (repeat (first | exact Out.head | apply Out.tail)); (first | done | fail)) ?_ | refine Ent.drop1 ?_)))⟩
    · clear hL hll hsz t l p
      rintro ⟨p, t, l⟩ G ⟨hL, hll⟩
      simp only at hL hll
      simp only [ov]
      have hsz := hL.size
      have hg := get_in0 hL k
      rw [lgetV_eq] at hg
      have hfr := from_in0 hL k
      have hn : decide ((l.length : Int) ≠ (l.length : Int)) = false := decide_eq_false (not_not_intro rfl)
      repeat' (first
        | refine Wc_seq ?_
        | refine thenQ_normal ?_
        | refine Wc_cond_t (h := ?_)
        | refine Wc_cond_f (h := ?_)
        | refine Wc_ret ?_
        | refine thenQ_ret ?_
        | refine Wc_block ?_
        | refine blkQ_normal ?_
        | refine blkQ_ret ?_
        | refine Wc_exit ?_
        | refine thenQ_exit ?_
        | refine blkQ_hit ?_
        | refine blkQ_miss rfl ?_
        | refine Wc_skip ?_
        | refine Wc_label ?_
        | refine loopQ_exit ?_
        | refine loopQ_ret ?_
        | refine loopQ_normal ?_
        | (refine Wc_region (id := 21) ?_; intro K hK; refine Wl_move (k := ?_); refine Wl_fieldAddr (k := ?_); refine Wl_load (k := ?_); ((refine Wl_call (hs := (get_spec B p t k)) (k := ?_); rintro v A' ⟨rfl, rfl⟩; simp only [List.cons_append, List.nil_append]; rw [hg])) <;> (refine Wl_move (k := ?_); refine Wl_extract (k' := ?_); refine Wl_extract (k' := ?_); refine Wl_assign (k := ?_); refine Wl_assign (k := ?_); (refine Wl_nil (hK _ _ ?_); clear hK K)))
        | (refine Wc_region (id := 22) ?_; intro K hK; refine Wl_move (k := ?_); refine Wl_fieldAddr (k := ?_); refine Wl_load (k := ?_); ((refine Wl_call (hs := (rget_spec B rw0 l k (by omega))) (k := ?_); rintro v A' ⟨rfl, rfl⟩; simp only [List.cons_append, List.nil_append]; rw [lgetV_eq])) <;> (refine Wl_move (k := ?_); refine Wl_extract (k' := ?_); refine Wl_extract (k' := ?_); refine Wl_assign (k := ?_); refine Wl_assign (k := ?_); (refine Wl_nil (hK _ _ ?_); clear hK K)))
        | (refine Wc_region (id := 23) ?_; intro K hK; refine Wl_move (k := ?_); refine Wl_fieldAddr (k := ?_); refine Wl_load (k := ?_); ((refine Wl_call (hs := (from_spec B p t k)) (k := ?_); rintro v A' ⟨rfl, rfl⟩; simp only [List.cons_append, List.nil_append]; rw [hfr, fromV_eq])) <;> (refine Wl_move (k := ?_); refine Wl_extract (k' := ?_); refine Wl_extract (k' := ?_); refine Wl_extract (k' := ?_); refine Wl_assign (k := ?_); refine Wl_assign (k := ?_); refine Wl_assign (k := ?_); (refine Wl_nil (hK _ _ ?_); clear hK K)))
        | (refine Wc_region (id := 24) ?_; intro K hK; refine Wl_move (k := ?_); refine Wl_fieldAddr (k := ?_); refine Wl_load (k := ?_); ((refine Wl_call (hs := (rfrom_spec B rw0 l k (by omega))) (k := ?_); rintro v A' ⟨rfl, rfl⟩; simp only [List.cons_append, List.nil_append]; rw [lfromV_eq])) <;> (refine Wl_move (k := ?_); refine Wl_extract (k' := ?_); refine Wl_extract (k' := ?_); (refine Wl_alloc (k := ?_); intro r); refine Wl_storeR (ho' := rfl) (k := ?_); refine Wl_assign (k := ?_); (refine Wl_nil (hK _ _ ?_); clear hK K)))
        | (refine Wc_cond (ht := (fun ht => ?_)) (hf := (fun ht => ?_)) <;> (try simp at ht) <;> (try (exfalso; omega))))
      refine Wc_take (y := RmA rw0 l) (h := (by (repeat (first | exact Out.head | apply Out.tail)); (first | done | fail))) (k := Wc_exN (fun y => ?_))
      simp only [RmX]
      simp only [List.cons_append, List.nil_append]
      repeat' (first
        | refine Wc_seq ?_
        | refine thenQ_normal ?_
        | refine Wc_cond_t (h := ?_)
        | refine Wc_cond_f (h := ?_)
        | refine Wc_ret ?_
        | refine thenQ_ret ?_
        | refine Wc_block ?_
        | refine blkQ_normal ?_
        | refine blkQ_ret ?_
        | refine Wc_exit ?_
        | refine thenQ_exit ?_
        | refine blkQ_hit ?_
        | refine blkQ_miss rfl ?_
        | refine Wc_skip ?_
        | refine Wc_label ?_
        | refine loopQ_exit ?_
        | refine loopQ_ret ?_
        | refine loopQ_normal ?_
        | (refine Wc_region (id := 6) ?_; intro K hK; refine Wl_move (k := ?_); refine Wl_add (k' := ?_); refine Wl_assign (k := ?_); (refine Wl_nil (hK _ _ ?_); clear hK K))
        | (refine Wc_drawF (id := 25) (M := ([cb rw0 [.slice y.1 l.length y.2] 40, cb r [.string (kvOf (lfrom l k)).1, .int .i64 (kvOf (lfrom l k)).2] 48])) (Ls := [112, 116, 121, 122, 127, 128, 133, 141, 142, 143]) (hp := (Pick.perm (by (repeat (first | exact Pick.nil | apply Pick.cons (by (repeat (first | exact Out.head | apply Out.tail)); (first | done | fail)))); (first | done | fail)))) (h := ?_); intro K hK; refine Wl_move (k := ?_); refine Wl_move (k := ?_); ((refine Wl_neq (k' := ?_); rw [decide_eq_false (not_not_intro rfl)])) <;> (refine Wl_move (k := ?_); ((first | (refine Wl_guard (k := ?_); refine Wl_move (k := ?_)) | refine Wl_gno (k := ?_) | ((refine Wl_split (yes := (fun ht => ?_)) (no := (fun ht => ?_)) <;> (try simp at ht) <;> (try (exfalso; omega))) <;> (first | (refine Wl_guard (k := ?_); refine Wl_move (k := ?_)) | refine Wl_gno (k := ?_))))) <;> (((first | (refine Wl_guard (k := ?_); refine Wl_move (k := ?_)) | refine Wl_gno (k := ?_) | ((refine Wl_split (yes := (fun ht => ?_)) (no := (fun ht => ?_)) <;> (try simp at ht) <;> (try (exfalso; omega))) <;> (first | (refine Wl_guard (k := ?_); refine Wl_move (k := ?_)) | refine Wl_gno (k := ?_))))) <;> (((first | (refine Wl_guard (k := ?_); (refine Wl_bool_neq (hU := Try.underlying4) (k' := ?_); rw [beq_self_eq_true])) | refine Wl_gno (k := ?_) | ((refine Wl_split (yes := (fun ht => ?_)) (no := (fun ht => ?_)) <;> (try simp at ht) <;> (try (exfalso; omega))) <;> (first | (refine Wl_guard (k := ?_); (refine Wl_bool_neq (hU := Try.underlying4) (k' := ?_); rw [beq_self_eq_true])) | refine Wl_gno (k := ?_))))) <;> ((first | refine Wl_pick_t (k := ?_) | refine Wl_pick_f (k := ?_) | refine Wl_pick (k := ?_)); refine Wl_move (k := ?_); ((first | (refine Wl_guard (k := ?_); refine Wl_move (k := ?_)) | refine Wl_gno (k := ?_) | ((refine Wl_split (yes := (fun ht => ?_)) (no := (fun ht => ?_)) <;> (try simp at ht) <;> (try (exfalso; omega))) <;> (first | (refine Wl_guard (k := ?_); refine Wl_move (k := ?_)) | refine Wl_gno (k := ?_))))) <;> (((first | (refine Wl_guard (k := ?_); refine Wl_fieldAddr (k := ?_)) | refine Wl_gno (k := ?_) | ((refine Wl_split (yes := (fun ht => ?_)) (no := (fun ht => ?_)) <;> (try simp at ht) <;> (try (exfalso; omega))) <;> (first | (refine Wl_guard (k := ?_); refine Wl_fieldAddr (k := ?_)) | refine Wl_gno (k := ?_))))) <;> (((first | (refine Wl_guard (k := ?_); refine Wl_loadF (k := ?_)) | refine Wl_gno (k := ?_) | ((refine Wl_split (yes := (fun ht => ?_)) (no := (fun ht => ?_)) <;> (try simp at ht) <;> (try (exfalso; omega))) <;> (first | (refine Wl_guard (k := ?_); refine Wl_loadF (k := ?_)) | refine Wl_gno (k := ?_))))) <;> (((first | (refine Wl_guard (k := ?_); (refine Wl_str_neq (k' := ?_); rw [kle, decide_eq_true rfl])) | refine Wl_gno (k := ?_) | ((refine Wl_split (yes := (fun ht => ?_)) (no := (fun ht => ?_)) <;> (try simp at ht) <;> (try (exfalso; omega))) <;> (first | (refine Wl_guard (k := ?_); (refine Wl_str_neq (k' := ?_); rw [kle, decide_eq_true rfl])) | refine Wl_gno (k := ?_))))) <;> ((first | refine Wl_pick_t (k := ?_) | refine Wl_pick_f (k := ?_) | refine Wl_pick (k := ?_)); refine Wl_move (k := ?_); ((first | (refine Wl_guard (k := ?_); refine Wl_move (k := ?_)) | refine Wl_gno (k := ?_) | ((refine Wl_split (yes := (fun ht => ?_)) (no := (fun ht => ?_)) <;> (try simp at ht) <;> (try (exfalso; omega))) <;> (first | (refine Wl_guard (k := ?_); refine Wl_move (k := ?_)) | refine Wl_gno (k := ?_))))) <;> (((first | (refine Wl_guard (k := ?_); refine Wl_fieldAddr (k := ?_)) | refine Wl_gno (k := ?_) | ((refine Wl_split (yes := (fun ht => ?_)) (no := (fun ht => ?_)) <;> (try simp at ht) <;> (try (exfalso; omega))) <;> (first | (refine Wl_guard (k := ?_); refine Wl_fieldAddr (k := ?_)) | refine Wl_gno (k := ?_))))) <;> (((first | (refine Wl_guard (k := ?_); refine Wl_loadF (k := ?_)) | refine Wl_gno (k := ?_) | ((refine Wl_split (yes := (fun ht => ?_)) (no := (fun ht => ?_)) <;> (try simp at ht) <;> (try (exfalso; omega))) <;> (first | (refine Wl_guard (k := ?_); refine Wl_loadF (k := ?_)) | refine Wl_gno (k := ?_))))) <;> (((first | (refine Wl_guard (k := ?_); (refine Wl_neq (k' := ?_); rw [decide_eq_false (not_not_intro rfl)])) | refine Wl_gno (k := ?_) | ((refine Wl_split (yes := (fun ht => ?_)) (no := (fun ht => ?_)) <;> (try simp at ht) <;> (try (exfalso; omega))) <;> (first | (refine Wl_guard (k := ?_); (refine Wl_neq (k' := ?_); rw [decide_eq_false (not_not_intro rfl)])) | refine Wl_gno (k := ?_))))) <;> ((first | refine Wl_pick_t (k := ?_) | refine Wl_pick_f (k := ?_) | refine Wl_pick (k := ?_)); refine Wl_move (k := ?_); ((first | (refine Wl_guard (k := ?_); refine Wl_move (k := ?_)) | refine Wl_gno (k := ?_) | ((refine Wl_split (yes := (fun ht => ?_)) (no := (fun ht => ?_)) <;> (try simp at ht) <;> (try (exfalso; omega))) <;> (first | (refine Wl_guard (k := ?_); refine Wl_move (k := ?_)) | refine Wl_gno (k := ?_))))) <;> (((first | (refine Wl_guard (k := ?_); refine Wl_move (k := ?_)) | refine Wl_gno (k := ?_) | ((refine Wl_split (yes := (fun ht => ?_)) (no := (fun ht => ?_)) <;> (try simp at ht) <;> (try (exfalso; omega))) <;> (first | (refine Wl_guard (k := ?_); refine Wl_move (k := ?_)) | refine Wl_gno (k := ?_))))) <;> (((first | (refine Wl_guard (k := ?_); (refine Wl_bool_neq (hU := Try.underlying4) (k' := ?_); rw [beq_self_eq_true])) | refine Wl_gno (k := ?_) | ((refine Wl_split (yes := (fun ht => ?_)) (no := (fun ht => ?_)) <;> (try simp at ht) <;> (try (exfalso; omega))) <;> (first | (refine Wl_guard (k := ?_); (refine Wl_bool_neq (hU := Try.underlying4) (k' := ?_); rw [beq_self_eq_true])) | refine Wl_gno (k := ?_))))) <;> ((first | refine Wl_pick_t (k := ?_) | refine Wl_pick_f (k := ?_) | refine Wl_pick (k := ?_)); refine Wl_move (k := ?_); ((first | (refine Wl_guard (k := ?_); refine Wl_move (k := ?_)) | refine Wl_gno (k := ?_) | ((refine Wl_split (yes := (fun ht => ?_)) (no := (fun ht => ?_)) <;> (try simp at ht) <;> (try (exfalso; omega))) <;> (first | (refine Wl_guard (k := ?_); refine Wl_move (k := ?_)) | refine Wl_gno (k := ?_))))) <;> (((first | (refine Wl_guard (k := ?_); (refine Wl_call (hs := (mlen_spec B p t)) (k := ?_); rintro v A' ⟨rfl, rfl⟩; simp only [List.cons_append, List.nil_append]; rw [hsz])) | refine Wl_gno (k := ?_) | ((refine Wl_split (yes := (fun ht => ?_)) (no := (fun ht => ?_)) <;> (try simp at ht) <;> (try (exfalso; omega))) <;> (first | (refine Wl_guard (k := ?_); (refine Wl_call (hs := (mlen_spec B p t)) (k := ?_); rintro v A' ⟨rfl, rfl⟩; simp only [List.cons_append, List.nil_append]; rw [hsz])) | refine Wl_gno (k := ?_))))) <;> (((first | (refine Wl_guard (k := ?_); refine Wl_move (k := ?_)) | refine Wl_gno (k := ?_) | ((refine Wl_split (yes := (fun ht => ?_)) (no := (fun ht => ?_)) <;> (try simp at ht) <;> (try (exfalso; omega))) <;> (first | (refine Wl_guard (k := ?_); refine Wl_move (k := ?_)) | refine Wl_gno (k := ?_))))) <;> (((first | (refine Wl_guard (k := ?_); refine Wl_nilCheck (k := ?_)) | refine Wl_gno (k := ?_) | ((refine Wl_split (yes := (fun ht => ?_)) (no := (fun ht => ?_)) <;> (try simp at ht) <;> (try (exfalso; omega))) <;> (first | (refine Wl_guard (k := ?_); refine Wl_nilCheck (k := ?_)) | refine Wl_gno (k := ?_))))) <;> (((first | (refine Wl_guard (k := ?_); refine Wl_fieldAddr (k := ?_)) | refine Wl_gno (k := ?_) | ((refine Wl_split (yes := (fun ht => ?_)) (no := (fun ht => ?_)) <;> (try simp at ht) <;> (try (exfalso; omega))) <;> (first | (refine Wl_guard (k := ?_); refine Wl_fieldAddr (k := ?_)) | refine Wl_gno (k := ?_))))) <;> (((first | (refine Wl_guard (k := ?_); refine Wl_loadF (k := ?_)) | refine Wl_gno (k := ?_) | ((refine Wl_split (yes := (fun ht => ?_)) (no := (fun ht => ?_)) <;> (try simp at ht) <;> (try (exfalso; omega))) <;> (first | (refine Wl_guard (k := ?_); refine Wl_loadF (k := ?_)) | refine Wl_gno (k := ?_))))) <;> (((first | (refine Wl_guard (k := ?_); refine Wl_len_sl (k' := ?_)) | refine Wl_gno (k := ?_) | ((refine Wl_split (yes := (fun ht => ?_)) (no := (fun ht => ?_)) <;> (try simp at ht) <;> (try (exfalso; omega))) <;> (first | (refine Wl_guard (k := ?_); refine Wl_len_sl (k' := ?_)) | refine Wl_gno (k := ?_))))) <;> (((first | (refine Wl_guard (k := ?_); (refine Wl_neq (k' := ?_); rw [hn])) | refine Wl_gno (k := ?_) | ((refine Wl_split (yes := (fun ht => ?_)) (no := (fun ht => ?_)) <;> (try simp at ht) <;> (try (exfalso; omega))) <;> (first | (refine Wl_guard (k := ?_); (refine Wl_neq (k' := ?_); rw [hn])) | refine Wl_gno (k := ?_))))) <;> ((first | refine Wl_pick_t (k := ?_) | refine Wl_pick_f (k := ?_) | refine Wl_pick (k := ?_)); (refine Wl_nil (hK _ _ ?_); clear hK K; try simp only [List.cons_append, List.nil_append])))))))))))))))))))))))))
        | (refine Wc_cond (ht := (fun ht => ?_)) (hf := (fun ht => ?_)) <;> (try simp at ht) <;> (try (exfalso; omega))))
      refine ⟨(i + 1, p, t, l), ⟨by simp only; omega, by simp only; omega, hL, hll⟩, by simp only; omega, ⟨rfl, rfl, rfl, int_succ' i, trivial⟩, ?_⟩
      refine (rm_in (r := rw0) (by (repeat (first | exact Out.head | apply Out.tail)); (first | done | fail)) (by (repeat (first | exact Out.head | apply Out.tail)); (first | done | fail)) rfl rfl).trans ?_
      simp only
      (repeat (first | exact Ent.refl _ | exact Ent.nil | refine Ent.take (by (repeat (first | exact Out.head | apply Out.tail)); (first | done | fail)) ?_ | refine Ent.drop1 ?_))
  · have hio : t.inorder = l := hL.eq
    repeat' (first
      | refine Wc_seq ?_
      | refine thenQ_normal ?_
      | refine Wc_cond_t (h := ?_)
      | refine Wc_cond_f (h := ?_)
      | refine Wc_ret ?_
      | refine thenQ_ret ?_
      | refine Wc_block ?_
      | refine blkQ_normal ?_
      | refine blkQ_ret ?_
      | refine Wc_exit ?_
      | refine thenQ_exit ?_
      | refine blkQ_hit ?_
      | refine blkQ_miss rfl ?_
      | refine Wc_skip ?_
      | refine Wc_label ?_
      | refine loopQ_exit ?_
      | refine loopQ_ret ?_
      | refine loopQ_normal ?_
      | (refine Wc_region (id := 5) ?_; intro K hK; refine Wl_move (k := ?_); refine Wl_move (k := ?_); refine Wl_len_sl (k' := ?_); refine Wl_lss (k' := ?_); refine Wl_move (k := ?_); ((first | (refine Wl_guard (k := ?_); refine Wl_move (k := ?_)) | refine Wl_gno (k := ?_) | ((refine Wl_split (yes := (fun ht => ?_)) (no := (fun ht => ?_)) <;> (try simp at ht) <;> (try (exfalso; omega))) <;> (first | (refine Wl_guard (k := ?_); refine Wl_move (k := ?_)) | refine Wl_gno (k := ?_))))) <;> (((first | (refine Wl_guard (k := ?_); refine Wl_lss (k' := ?_)) | refine Wl_gno (k := ?_) | ((refine Wl_split (yes := (fun ht => ?_)) (no := (fun ht => ?_)) <;> (try simp at ht) <;> (try (exfalso; omega))) <;> (first | (refine Wl_guard (k := ?_); refine Wl_lss (k' := ?_)) | refine Wl_gno (k := ?_))))) <;> ((first | refine Wl_pick_t (k := ?_) | refine Wl_pick_f (k := ?_) | refine Wl_pick (k := ?_)); (refine Wl_nil (hK _ _ ?_); clear hK K))))
      | (refine Wc_cond (ht := (fun ht => ?_)) (hf := (fun ht => ?_)) <;> (try simp at ht) <;> (try (exfalso; omega))))
    all_goals
      refine Wc_take (y := RmA rw0 l) (h := (by (repeat (first | exact Out.head | apply Out.tail)); (first | done | fail))) (k := Wc_exN (fun y => ?_))
      obtain ⟨ya, yc⟩ := y
      simp only [RmX]
      simp only [List.cons_append, List.nil_append]
      refine Wc_ownF (a := ya) (h := (fun hf => ?_))
      have hmin : (min (l.length : Int) 3) = ((min l.length 3 : Nat) : Int) := by omega
      have htk : (l.take (min l.length 3)).length = min l.length 3 := by rw [List.length_take]; omega
      repeat' (first
        | refine Wc_seq ?_
        | refine thenQ_normal ?_
        | refine Wc_cond_t (h := ?_)
        | refine Wc_cond_f (h := ?_)
        | refine Wc_ret ?_
        | refine thenQ_ret ?_
        | refine Wc_block ?_
        | refine blkQ_normal ?_
        | refine blkQ_ret ?_
        | refine Wc_exit ?_
        | refine thenQ_exit ?_
        | refine blkQ_hit ?_
        | refine blkQ_miss rfl ?_
        | refine Wc_skip ?_
        | refine Wc_label ?_
        | refine loopQ_exit ?_
        | refine loopQ_ret ?_
        | refine loopQ_normal ?_
        | (refine Wc_region (id := 27) ?_; intro K hK; refine Wl_move (k := ?_); refine Wl_nilCheck (k := ?_); refine Wl_fieldAddr (k := ?_); refine Wl_load (k := ?_); refine Wl_len_sl (k' := ?_); ((refine Wl_min (k' := ?_); rw [hmin])) <;> (refine Wl_assign (k := ?_); (refine Wl_nil (hK _ _ ?_); clear hK K)))
        | (refine Wc_drawF (id := 28) (M := ([cb rw0 [.slice ya l.length yc] 40, own ya l.length yc 2 (pcs l) 48])) (Ls := [156, 165]) (hp := (Pick.perm (by (repeat (first | exact Pick.nil | apply Pick.cons (by (repeat (first | exact Out.head | apply Out.tail)); (first | done | fail)))); (first | done | fail)))) (h := ?_); intro K hK; refine Wl_move (k := ?_); ((refine Wl_call (hs := (all_spec p t 1000 (by rw [hio]; omega) (by omega))) (k := ?_); rintro v A' ⟨a1, c1, rfl, rfl⟩; simp only [List.cons_append, List.nil_append]; rw [hio, List.take_of_length_le (by omega)]; refine Wl_ownF (a := a1) (h := (fun hf1 => ?_)))) <;> (refine Wl_move (k := ?_); refine Wl_nilCheck (k := ?_); refine Wl_fieldAddr (k := ?_); refine Wl_loadF (k := ?_); ((refine Wl_callM (hs := fun B' hB => same_true (B := B') (own a1 l.length c1 2 (pcs l) 48) a1 ya l.length c1 yc l (hf1.rd (M := []) (by (repeat (first | exact Out.head | apply Out.tail)); (first | done | fail))) ⟨hf.e1, hf.e3, hf.e2, fun w hs => (hf.rd (A := [cb rw0 [.slice ya l.length yc] 40, own ya l.length yc 2 (pcs l) 48]) (by (repeat (first | exact Out.head | apply Out.tail)); (first | done | fail))).src w (hB w _ hs)⟩ (by omega)) (k := ?_); rintro v A' ⟨rfl, rfl⟩; simp only [List.cons_append, List.nil_append])) <;> (refine Wl_move (k := ?_); ((first | (refine Wl_guard (k := ?_); refine Wl_move (k := ?_)) | refine Wl_gno (k := ?_) | ((refine Wl_split (yes := (fun ht => ?_)) (no := (fun ht => ?_)) <;> (try simp at ht) <;> (try (exfalso; omega))) <;> (first | (refine Wl_guard (k := ?_); refine Wl_move (k := ?_)) | refine Wl_gno (k := ?_))))) <;> (((first | (refine Wl_guard (k := ?_); refine Wl_move (k := ?_)) | refine Wl_gno (k := ?_) | ((refine Wl_split (yes := (fun ht => ?_)) (no := (fun ht => ?_)) <;> (try simp at ht) <;> (try (exfalso; omega))) <;> (first | (refine Wl_guard (k := ?_); refine Wl_move (k := ?_)) | refine Wl_gno (k := ?_))))) <;> (((first | (refine Wl_guard (k := ?_); (refine Wl_call (hs := (all_spec p t (min l.length 3) (by rw [hio]; omega) (by omega))) (k := ?_); rintro v A' ⟨a2, c2, rfl, rfl⟩; simp only [List.cons_append, List.nil_append]; rw [hio, htk]; refine Wl_ownF (a := a2) (h := (fun hf2 => ?_)))) | refine Wl_gno (k := ?_) | ((refine Wl_split (yes := (fun ht => ?_)) (no := (fun ht => ?_)) <;> (try simp at ht) <;> (try (exfalso; omega))) <;> (first | (refine Wl_guard (k := ?_); (refine Wl_call (hs := (all_spec p t (min l.length 3) (by rw [hio]; omega) (by omega))) (k := ?_); rintro v A' ⟨a2, c2, rfl, rfl⟩; simp only [List.cons_append, List.nil_append]; rw [hio, htk]; refine Wl_ownF (a := a2) (h := (fun hf2 => ?_)))) | refine Wl_gno (k := ?_))))) <;> (((first | (refine Wl_guard (k := ?_); refine Wl_move (k := ?_)) | refine Wl_gno (k := ?_) | ((refine Wl_split (yes := (fun ht => ?_)) (no := (fun ht => ?_)) <;> (try simp at ht) <;> (try (exfalso; omega))) <;> (first | (refine Wl_guard (k := ?_); refine Wl_move (k := ?_)) | refine Wl_gno (k := ?_))))) <;> (((first | (refine Wl_guard (k := ?_); refine Wl_nilCheck (k := ?_)) | refine Wl_gno (k := ?_) | ((refine Wl_split (yes := (fun ht => ?_)) (no := (fun ht => ?_)) <;> (try simp at ht) <;> (try (exfalso; omega))) <;> (first | (refine Wl_guard (k := ?_); refine Wl_nilCheck (k := ?_)) | refine Wl_gno (k := ?_))))) <;> (((first | (refine Wl_guard (k := ?_); refine Wl_fieldAddr (k := ?_)) | refine Wl_gno (k := ?_) | ((refine Wl_split (yes := (fun ht => ?_)) (no := (fun ht => ?_)) <;> (try simp at ht) <;> (try (exfalso; omega))) <;> (first | (refine Wl_guard (k := ?_); refine Wl_fieldAddr (k := ?_)) | refine Wl_gno (k := ?_))))) <;> (((first | (refine Wl_guard (k := ?_); refine Wl_loadF (k := ?_)) | refine Wl_gno (k := ?_) | ((refine Wl_split (yes := (fun ht => ?_)) (no := (fun ht => ?_)) <;> (try simp at ht) <;> (try (exfalso; omega))) <;> (first | (refine Wl_guard (k := ?_); refine Wl_loadF (k := ?_)) | refine Wl_gno (k := ?_))))) <;> (((first | (refine Wl_guard (k := ?_); refine Wl_move (k := ?_)) | refine Wl_gno (k := ?_) | ((refine Wl_split (yes := (fun ht => ?_)) (no := (fun ht => ?_)) <;> (try simp at ht) <;> (try (exfalso; omega))) <;> (first | (refine Wl_guard (k := ?_); refine Wl_move (k := ?_)) | refine Wl_gno (k := ?_))))) <;> (((first | (refine Wl_guard (k := ?_); (refine Wl_slice_any0 (h := min l.length 3) (hhc := by have := hf.e2; omega) (k' := ?_))) | refine Wl_gno (k := ?_) | ((refine Wl_split (yes := (fun ht => ?_)) (no := (fun ht => ?_)) <;> (try simp at ht) <;> (try (exfalso; omega))) <;> (first | (refine Wl_guard (k := ?_); (refine Wl_slice_any0 (h := min l.length 3) (hhc := by have := hf.e2; omega) (k' := ?_))) | refine Wl_gno (k := ?_))))) <;> (((first | (refine Wl_guard (k := ?_); (refine Wl_callM (hs := fun B' hB => same_true (B := B') (own a2 (min l.length 3) c2 2 (pcs (l.take (min l.length 3))) 48) a2 ya (min l.length 3) c2 yc (l.take (min l.length 3)) (hf2.rd (M := []) (by (repeat (first | exact Out.head | apply Out.tail)); (first | done | fail))) (by rw [← pcs_take]; exact RdS.take ⟨hf.e1, hf.e3, hf.e2, fun w hs => (hf.rd (A := [cb rw0 [.slice ya l.length yc] 40, own ya l.length yc 2 (pcs l) 48]) (by (repeat (first | exact Out.head | apply Out.tail)); (first | done | fail))).src w (hB w _ hs)⟩ (by omega)) (by omega)) (k := ?_); rintro v A' ⟨rfl, rfl⟩; simp only [List.cons_append, List.nil_append])) | refine Wl_gno (k := ?_) | ((refine Wl_split (yes := (fun ht => ?_)) (no := (fun ht => ?_)) <;> (try simp at ht) <;> (try (exfalso; omega))) <;> (first | (refine Wl_guard (k := ?_); (refine Wl_callM (hs := fun B' hB => same_true (B := B') (own a2 (min l.length 3) c2 2 (pcs (l.take (min l.length 3))) 48) a2 ya (min l.length 3) c2 yc (l.take (min l.length 3)) (hf2.rd (M := []) (by (repeat (first | exact Out.head | apply Out.tail)); (first | done | fail))) (by rw [← pcs_take]; exact RdS.take ⟨hf.e1, hf.e3, hf.e2, fun w hs => (hf.rd (A := [cb rw0 [.slice ya l.length yc] 40, own ya l.length yc 2 (pcs l) 48]) (by (repeat (first | exact Out.head | apply Out.tail)); (first | done | fail))).src w (hB w _ hs)⟩ (by omega)) (by omega)) (k := ?_); rintro v A' ⟨rfl, rfl⟩; simp only [List.cons_append, List.nil_append])) | refine Wl_gno (k := ?_))))) <;> ((first | refine Wl_pick_t (k := ?_) | refine Wl_pick_f (k := ?_) | refine Wl_pick (k := ?_)); refine Wl_assign (k := ?_); (refine Wl_nil (hK _ _ ?_); clear hK K; try simp only [List.cons_append, List.nil_append]))))))))))))))
        | (refine Wc_cond (ht := (fun ht => ?_)) (hf := (fun ht => ?_)) <;> (try simp at ht) <;> (try (exfalso; omega))))
      exact ⟨Or.inr rfl, .bool true, [], Ent.nil, res1 rfl rfl, rfl, rfl⟩
end specs
end Go.Proofs.Ytdlpfeflndlpfaa
