/- Layer 13: the law's comparison of lists of bytes. No condition. -/
import Derived.Test.YtdlpfeflndlpfaaSpec13
set_option maxHeartbeats 8000000
set_option linter.unusedVariables false
set_option linter.unusedSimpArgs false
set_option maxRecDepth 100000
namespace Go.Proofs.Ytdlpfeflndlpfaa
open Go Go.Sl
attribute [local irreducible] Go.Sl.Wl Go.Sl.Wc Go.Sl.thenQ Go.Sl.blkQ Go.Sl.loopQ Go.Sl.Fspec

abbrev SV := Option Addr × Nat × Nat
def slV (x : SV) : Value := .slice x.1 x.2.1 x.2.2
section specs
variable {B : Base}
theorem told_true (X : Asn) (a b : Option Addr) (n c c' : Nat) (va vb : List SV) (l : List (List UInt8)) (ha : RdS Try.prog B [X] 1 a n c (va.map slV)) (hb : RdS Try.prog B [X] 1 b n c' (vb.map slV)) (hl : l.length = n) (hn : n ≤ 9223372036854775807)
    (ga : ∀ (i : Nat) (x : SV) r, va[i]? = some x → l[i]? = some r → RdS Try.prog B [X] 1 x.1 x.2.1 x.2.2 (r.map byteV)) (gb : ∀ (i : Nat) (x : SV) r, vb[i]? = some x → l[i]? = some r → RdS Try.prog B [X] 1 x.1 x.2.1 x.2.2 (r.map byteV)) :
    Fspec Try.prog B 42 #[.slice a n c, .slice b n c'] [X] (fun v A' => v = .bool true ∧ A' = [X]) := by
  have hla : va.length = n := by have := ha.len; simpa using this
  have hlb : vb.length = n := by have := hb.len; simpa using this
  refine spec_of (args := [_, _]) Try.func42 rfl rfl rfl ?_
  repeat' (first
    | refine Wc_seq ?_
    | refine thenQ_normal ?_
    | refine Wc_cond_t (h := ?_)
    | refine Wc_cond_f (h := ?_)
    | refine Wc_ret ?_
    | refine thenQ_ret ?_
    | refine Wc_block ?_
    | refine blkQ_normal ?_
    | refine blkQ_ret ?_
    | refine Wc_exit ?_
    | refine thenQ_exit ?_
    | refine blkQ_hit ?_
    | refine blkQ_miss rfl ?_
    | refine Wc_skip ?_
    | refine Wc_label ?_
    | refine loopQ_exit ?_
    | refine loopQ_ret ?_
    | refine loopQ_normal ?_
    | (refine Wc_region (id := 0) ?_; intro K hK; refine Wl_assign (k := ?_); (refine Wl_nil (hK _ _ ?_); clear hK K))
    | (refine Wc_region (id := 1) ?_; intro K hK; refine Wl_move (k := ?_); refine Wl_len_sl (k' := ?_); refine Wl_move (k := ?_); refine Wl_len_sl (k' := ?_); ((refine Wl_neq (k' := ?_); rw [decide_eq_false (not_not_intro rfl)])) <;> ((refine Wl_nil (hK _ _ ?_); clear hK K)))
    | (refine Wc_region (id := 2) ?_; intro K hK; refine Wl_assign (k := ?_); (refine Wl_nil (hK _ _ ?_); clear hK K))
    | (refine Wc_region (id := 3) ?_; intro K hK; refine Wl_move (k := ?_); refine Wl_len_sl (k' := ?_); refine Wl_move (k := ?_); (refine Wl_nil (hK _ _ ?_); clear hK K))
    | (refine Wc_cond (ht := (fun ht => ?_)) (hf := (fun ht => ?_)) <;> (try simp at ht) <;> (try (exfalso; omega))))
  refine Wc_loop (α := Nat) (fun i => [(0, .slice a n c), (1, .slice b n c'), (12, .int .i64 n), (13, .int .i64 i)]) (fun i => [X]) (fun i => i ≤ n) (fun i => n - i) 0 (by omega) ⟨rfl, rfl, rfl, rfl, trivial⟩ (Ent.refl _) ?_
  intro i G hi
  simp only [ov]
  by_cases hlt : i < n
  · obtain ⟨x, hx⟩ : ∃ x, va[i]? = some x := ⟨va[i]'(by omega), List.getElem?_eq_getElem (by omega)⟩
    obtain ⟨y, hy⟩ : ∃ y, vb[i]? = some y := ⟨vb[i]'(by omega), List.getElem?_eq_getElem (by omega)⟩
    obtain ⟨r, hr⟩ : ∃ r, l[i]? = some r := ⟨l[i]'(by omega), List.getElem?_eq_getElem (by omega)⟩
    have g1 := ga i x r hx hr; have g2 := gb i y r hy hr
    obtain ⟨p, rfl⟩ : ∃ p, a = some p := by
      cases a with
      | none => have := ha.nil rfl; omega
      | some p => exact ⟨p, rfl⟩
    obtain ⟨q, rfl⟩ : ∃ q, b = some q := by
      cases b with
      | none => have := hb.nil rfl; omega
      | some p => exact ⟨p, rfl⟩
    have hrl1 : r.length = x.2.1 := by have := g1.len; simpa using this
    have hrl2 : r.length = y.2.1 := by have := g2.len; simpa using this
    repeat' (first
      | refine Wc_seq ?_
      | refine thenQ_normal ?_
      | refine Wc_cond_t (h := ?_)
      | refine Wc_cond_f (h := ?_)
      | refine Wc_ret ?_
      | refine thenQ_ret ?_
      | refine Wc_block ?_
      | refine blkQ_normal ?_
      | refine blkQ_ret ?_
      | refine Wc_exit ?_
      | refine thenQ_exit ?_
      | refine blkQ_hit ?_
      | refine blkQ_miss rfl ?_
      | refine Wc_skip ?_
      | refine Wc_label ?_
      | refine loopQ_exit ?_
      | refine loopQ_ret ?_
      | refine loopQ_normal ?_
      | (refine Wc_region (id := 4) ?_; intro K hK; refine Wl_lss (k' := ?_); (refine Wl_nil (hK _ _ ?_); clear hK K))
      | (refine Wc_region (id := 5) ?_; intro K hK; refine Wl_move (k := ?_); refine Wl_assign (k := ?_); (refine Wl_nil (hK _ _ ?_); clear hK K))
      | (refine Wc_drawF (id := 6) (M := ([X])) (Ls := [19, 20, 24, 25, 26]) (hp := (Pick.perm (by (repeat (first | exact Pick.nil | apply Pick.cons (by (repeat (first | exact Out.head | apply Out.tail)); (first | done | fail)))); (first | done | fail)))) (h := ?_); intro K hK; refine Wl_move (k := ?_); refine Wl_move (k := ?_); ((refine Wl_index_any (k' := ?_))) <;> (((refine Wl_loadGF (v := slV x) (j := i) (hq := by rw [Int.toNat_natCast, Nat.mul_one]) (hr := ha) (hv := by rw [List.getElem?_map, hx]; rfl) (k := ?_))) <;> (((refine Wl_bytes_strF (cs := r) (hsrc := g1.src) (hl := hrl1) (k := ?_))) <;> (refine Wl_move (k := ?_); refine Wl_move (k := ?_); ((refine Wl_index_any (k' := ?_))) <;> (((refine Wl_loadGF (v := slV y) (j := i) (hq := by rw [Int.toNat_natCast, Nat.mul_one]) (hr := hb) (hv := by rw [List.getElem?_map, hy]; rfl) (k := ?_))) <;> (((refine Wl_bytes_strF (cs := r) (hsrc := g2.src) (hl := hrl2) (k := ?_))) <;> (((refine Wl_str_neq (k' := ?_); rw [beq_self_eq_true])) <;> ((refine Wl_nil (hK _ _ ?_); clear hK K; try simp only [List.cons_append, List.nil_append])))))))))
      | (refine Wc_region (id := 7) ?_; intro K hK; refine Wl_assign (k := ?_); (refine Wl_nil (hK _ _ ?_); clear hK K))
      | (refine Wc_region (id := 8) ?_; intro K hK; refine Wl_add (k' := ?_); refine Wl_move (k := ?_); (refine Wl_nil (hK _ _ ?_); clear hK K))
      | (refine Wc_cond (ht := (fun ht => ?_)) (hf := (fun ht => ?_)) <;> (try simp at ht) <;> (try (exfalso; omega))))
    exact ⟨i + 1, by omega, by omega, ⟨rfl, rfl, rfl, int_succ i, trivial⟩, Ent.refl _⟩
  · obtain rfl : i = n := by omega
    repeat' (first
      | refine Wc_seq ?_
      | refine thenQ_normal ?_
      | refine Wc_cond_t (h := ?_)
      | refine Wc_cond_f (h := ?_)
      | refine Wc_ret ?_
      | refine thenQ_ret ?_
      | refine Wc_block ?_
      | refine blkQ_normal ?_
      | refine blkQ_ret ?_
      | refine Wc_exit ?_
      | refine thenQ_exit ?_
      | refine blkQ_hit ?_
      | refine blkQ_miss rfl ?_
      | refine Wc_skip ?_
      | refine Wc_label ?_
      | refine loopQ_exit ?_
      | refine loopQ_ret ?_
      | refine loopQ_normal ?_
      | (refine Wc_region (id := 4) ?_; intro K hK; refine Wl_lss (k' := ?_); (refine Wl_nil (hK _ _ ?_); clear hK K))
      | (refine Wc_region (id := 9) ?_; intro K hK; refine Wl_assign (k := ?_); (refine Wl_nil (hK _ _ ?_); clear hK K))
      | (refine Wc_cond (ht := (fun ht => ?_)) (hf := (fun ht => ?_)) <;> (try simp at ht) <;> (try (exfalso; omega))))
    exact ⟨Or.inr rfl, .bool true, [X], Ent.refl _, res1 rfl rfl, rfl, rfl⟩
end specs
/-- Rows that are owned can be read. -/
theorem Wl_rowsF {P : Program} {B : Base} {N : Nat} {fm : Fm} {ops l : List Oper} {F : Fr} {A M : List Asn} {K : Fr → List Asn → Prop} {xs : List RX} (ho : Out (RowsP xs) A M)
    (h : (∀ x ∈ xs, OwnF x.1 x.2.2.length x.2.1 1 (x.2.2.map byteV)) → Wl P B N fm ops l F A K) : Wl P B N fm ops l F A K := by
  unfold Wl at h ⊢
  intro R hE ac w hr hs
  refine h (fun x hx => ?_) R hE ac w hr hs
  have h1 : Sat B w (xs.map rowA ++ R :: M) := ((hs.perm (ho.perm.cons R)).perm (.swap ..)).ent (Ent.lst_open (xs.map rowA) (R :: M))
  obtain ⟨s, t, rfl⟩ := List.append_of_mem hx
  refine own_ownF (B := B) (w := w) (E := 5) (L := s.map rowA ++ (t.map rowA ++ R :: M)) (by omega) (h1.perm ?_)
  rw [List.map_append, List.map_cons, List.append_assoc]
  exact List.perm_middle
theorem row_rd {P : Program} {B : Base} {xs : List RX} {x : RX} {X : Asn} (hx : x ∈ xs) (hf : OwnF x.1 x.2.2.length x.2.1 1 (x.2.2.map byteV)) (hX : Ent [X] [RowsP xs]) : RdS P B [X] 1 x.1 x.2.2.length x.2.1 (x.2.2.map byteV) := by
  obtain ⟨s, t, rfl⟩ := List.append_of_mem hx
  refine ⟨hf.e1, hf.e3, hf.e2, (src_own (A := s.map rowA ++ t.map rowA) (E := 5) hf.e1).weak fun w hs => ?_⟩
  have h1 := hs.ent (hX.trans (Ent.lst_open ((s ++ x :: t).map rowA) []))
  refine h1.perm ?_
  rw [List.append_nil, List.map_append, List.map_cons]
  exact List.perm_middle
end Go.Proofs.Ytdlpfeflndlpfaa
