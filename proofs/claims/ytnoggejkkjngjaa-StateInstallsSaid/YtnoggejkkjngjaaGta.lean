/- Package state: what a snapshot comes to. Conditions: none but the kinds' bounds, and not too many rows. -/
import Derived.Test.YtnoggejkkjngjaaSta
set_option maxHeartbeats 8000000
set_option linter.unusedVariables false
set_option linter.unusedSimpArgs false
set_option maxRecDepth 100000
namespace Go.Proofs.Ytnoggejkkjngjaa
open Go Go.Sl
attribute [local irreducible] Go.Sl.Wl Go.Sl.Wc Go.Sl.thenQ Go.Sl.blkQ Go.Sl.loopQ Go.Sl.Fspec

/-- A snapshot. -/
structure SnX where
  e : Int
  i : Int
  ps : List PrX
  ss : List SX
def prC (l : List PrX) : List Value := l.flatMap PrX.c
def ssC (l : List SX) : List Value := l.flatMap SX.c
theorem prC_len (l : List PrX) : (prC l).length = l.length * 5 := by
  induction l with
  | nil => rfl
  | cons x l ih => simp only [prC] at ih; simp [prC, PrX.c, VX.C, ih]; omega
theorem ssC_len (l : List SX) : (ssC l).length = l.length * 4 := by
  induction l with
  | nil => rfl
  | cons x l ih => simp only [ssC] at ih; simp [ssC, SX.c, ih]; omega
theorem prC_row {l : List PrX} {k : Nat} {x : PrX} (h : l[k]? = some x) : ((prC l).drop (k * 5)).take 5 = x.c := flatMap_row (fun _ _ => rfl) h
theorem ssC_row {l : List SX} {k : Nat} {x : SX} (h : l[k]? = some x) : ((ssC l).drop (k * 4)).take 4 = x.c := flatMap_row (fun _ _ => rfl) h
theorem ssC_cell {l : List SX} {k r : Nat} {x : SX} {v : Value} (h : l[k]? = some x) (hr : r < 4) (hv : x.c[r]? = some v) : (ssC l)[k * 4 + r]? = some v := flatMap_cell (fun _ _ => rfl) h hr hv
theorem prC_all (l : List PrX) : (prC l).all isCell = true := by
  induction l with
  | nil => rfl
  | cons x l ih => simp only [prC] at ih; simp [prC, PrX.c, VX.C, ih, isCell]
theorem ssC_all (l : List SX) : (ssC l).all isCell = true := by
  induction l with
  | nil => rfl
  | cons x l ih => simp only [ssC] at ih; simp [ssC, SX.c, ih, isCell]
def setAll (ps : List PrX) : Tree := ps.foldl (fun t p => t.set p.k p.v) .nil
def FoX.of (b : SnX) : FoX := ⟨b.e, b.i, setAll b.ps, b.ss⟩
structure SnX.ok (b : SnX) : Prop where
  ris : RisS b.ss
  few : b.ss.length ≤ 16
  ses : ∀ x ∈ b.ss, x.ok
theorem setAll_aux : ∀ (ps : List PrX) (t : Tree), t.AA → (ps.foldl (fun t p => t.set p.k p.v) t).AA ∧ (ps.foldl (fun t p => t.set p.k p.v) t).size ≤ t.size + ps.length
  | [], t, h => ⟨h, Nat.le_refl _⟩
  | p :: ps, t, h => by
    have h1 := (Tree.set_AA p.k p.v t h).aa
    have h2 := Tree.size_set p.k p.v t
    obtain ⟨h3, h4⟩ := setAll_aux ps (t.set p.k p.v) h1
    refine ⟨h3, Nat.le_trans h4 ?_⟩
    simp only [List.length_cons]
    split at h2 <;> omega
theorem setAll_AA (ps : List PrX) : (setAll ps).AA ∧ (setAll ps).size ≤ ps.length := by
  have := setAll_aux ps .nil trivial
  refine ⟨this.1, ?_⟩
  have h := this.2
  simp only [Tree.size, Nat.zero_add] at h
  exact h
theorem setAll_succ {ps : List PrX} {k : Nat} {x : PrX} (h : ps[k]? = some x) : setAll (ps.take (k + 1)) = (setAll (ps.take k)).set x.k x.v := by
  obtain ⟨hk, rfl⟩ := List.getElem?_eq_some_iff.1 h
  unfold setAll
  rw [List.take_succ_eq_append_getElem hk, List.foldl_append]; rfl
theorem FoX.of_ok {b : SnX} (h : b.ok) : (FoX.of b).ok b.ps.length := ⟨(setAll_AA b.ps).1, (setAll_AA b.ps).2, h.ris⟩
theorem dput_last {x : SX} : ∀ {l : List SX}, (∀ y ∈ l, y.s < x.s) → dput l x = l ++ [x]
  | [], _ => rfl
  | y :: l, h => by
    have hy := h y (List.mem_cons_self ..)
    unfold dput
    rw [if_neg (by omega), if_pos hy, dput_last fun z hz => h z (List.mem_cons_of_mem _ hz)]; rfl
theorem ris_take {l : List SX} (h : RisS l) {k : Nat} {x : SX} (hx : l[k]? = some x) : ∀ y ∈ l.take k, y.s < x.s := by
  intro y hy
  obtain ⟨j, hj⟩ := List.getElem?_of_mem hy
  rw [List.getElem?_take] at hj
  split at hj
  · rename_i hjk
    obtain ⟨h1, e1⟩ := List.getElem?_eq_some_iff.1 hj
    obtain ⟨h2, e2⟩ := List.getElem?_eq_some_iff.1 hx
    have := List.pairwise_iff_getElem.1 h j k h1 h2 hjk
    rw [e1, e2] at this; exact this
  · cases hj
theorem ris_sub {l : List SX} (h : RisS l) (k : Nat) : RisS (l.take k) := List.Pairwise.sublist (List.take_sublist ..) h
theorem RdS.ofEnt {P : Program} {B : Base} {A A' : List Asn} {sz m c : Nat} {a : Option Addr} {vs : List Value} (h : RdS P B A' sz a m c vs) (he : Ent A A') : RdS P B A sz a m c vs :=
  ⟨h.len, h.nil, h.cap, h.src.weak fun w hs => hs.ent he⟩
theorem Out_mid : ∀ (M : List Asn) (a : Asn) (A0 : List Asn), Out a (M ++ a :: A0) (M ++ A0)
  | [], _, _ => .head
  | _ :: M, a, A0 => .tail (Out_mid M a A0)
theorem Pick_mid (M : List Asn) : ∀ A0 : List Asn, Pick (M ++ A0) A0 M
  | [] => by rw [List.append_nil]; exact .nil
  | a :: A0 => .cons (Out_mid M a A0) (Pick_mid M A0)
theorem of_perm (D : Asn) (A0 : List Asn) (a b c d : Asn) : ((D :: A0) ++ [a, b, c, d]).Perm (a :: b :: c :: d :: D :: A0) := List.perm_append_comm (l₁ := D :: A0) (l₂ := [a, b, c, d])
section specs
variable {B : Base}
theorem load_spec (A0 : List Asn) (p : Nat) (L l : List SX) (hr : RisS l) (h16 : l.length ≤ 16) (hses : ∀ x ∈ l, x.ok) (a : Option Addr) (c : Nat) (h : RdS Try.prog B A0 4 a l.length c (ssC l)) :
    Fspec Try.prog B 78 #[.pointer (some ⟨p, 0, none⟩), .slice a l.length c] (DeP p 16 L :: A0) (fun v A' => v = .bool true ∧ A' = DeP p 16 l :: A0) := by
  have hKd := Go.Maps.int_keyed (P := Try.prog) Try.underlying3
  refine spec_of (args := [_, _]) Try.func78 rfl rfl rfl ?_
  refine Wc_exN (fun rm => ?_)
  simp only [DeX]
  simp only [List.cons_append, List.nil_append]
  repeat' (first
    | refine Wc_seq ?_
    | refine thenQ_normal ?_
    | refine Wc_cond_t (h := ?_)
    | refine Wc_cond_f (h := ?_)
    | refine Wc_ret ?_
    | refine thenQ_ret ?_
    | refine Wc_block ?_
    | refine blkQ_normal ?_
    | refine blkQ_ret ?_
    | refine Wc_exit ?_
    | refine thenQ_exit ?_
    | refine blkQ_hit ?_
    | refine blkQ_miss rfl ?_
    | refine Wc_skip ?_
    | refine Wc_label ?_
    | refine loopQ_exit ?_
    | refine loopQ_ret ?_
    | refine loopQ_normal ?_
    | (refine Wc_region (id := 0) ?_; intro K hK; refine Wl_assign (k := ?_); (refine Wl_nil (hK _ _ ?_); clear hK K))
    | (refine Wc_region (id := 1) ?_; intro K hK; refine Wl_move (k := ?_); refine Wl_ptr_eq_nil (k' := ?_); refine Wl_move (k := ?_); ((first | (refine Wl_guard (k := ?_); refine Wl_move (k := ?_)) | refine Wl_gno (k := ?_) | ((refine Wl_split (yes := (fun ht => ?_)) (no := (fun ht => ?_)) <;> (try simp at ht) <;> (try (exfalso; omega))) <;> (first | (refine Wl_guard (k := ?_); refine Wl_move (k := ?_)) | refine Wl_gno (k := ?_))))) <;> (((first | (refine Wl_guard (k := ?_); refine Wl_len_sl (k' := ?_)) | refine Wl_gno (k := ?_) | ((refine Wl_split (yes := (fun ht => ?_)) (no := (fun ht => ?_)) <;> (try simp at ht) <;> (try (exfalso; omega))) <;> (first | (refine Wl_guard (k := ?_); refine Wl_len_sl (k' := ?_)) | refine Wl_gno (k := ?_))))) <;> (((first | (refine Wl_guard (k := ?_); refine Wl_move (k := ?_)) | refine Wl_gno (k := ?_) | ((refine Wl_split (yes := (fun ht => ?_)) (no := (fun ht => ?_)) <;> (try simp at ht) <;> (try (exfalso; omega))) <;> (first | (refine Wl_guard (k := ?_); refine Wl_move (k := ?_)) | refine Wl_gno (k := ?_))))) <;> (((first | (refine Wl_guard (k := ?_); refine Wl_nilCheck (k := ?_)) | refine Wl_gno (k := ?_) | ((refine Wl_split (yes := (fun ht => ?_)) (no := (fun ht => ?_)) <;> (try simp at ht) <;> (try (exfalso; omega))) <;> (first | (refine Wl_guard (k := ?_); refine Wl_nilCheck (k := ?_)) | refine Wl_gno (k := ?_))))) <;> (((first | (refine Wl_guard (k := ?_); refine Wl_fieldAddr (k := ?_)) | refine Wl_gno (k := ?_) | ((refine Wl_split (yes := (fun ht => ?_)) (no := (fun ht => ?_)) <;> (try simp at ht) <;> (try (exfalso; omega))) <;> (first | (refine Wl_guard (k := ?_); refine Wl_fieldAddr (k := ?_)) | refine Wl_gno (k := ?_))))) <;> (((first | (refine Wl_guard (k := ?_); refine Wl_load (k := ?_)) | refine Wl_gno (k := ?_) | ((refine Wl_split (yes := (fun ht => ?_)) (no := (fun ht => ?_)) <;> (try simp at ht) <;> (try (exfalso; omega))) <;> (first | (refine Wl_guard (k := ?_); refine Wl_load (k := ?_)) | refine Wl_gno (k := ?_))))) <;> (((first | (refine Wl_guard (k := ?_); refine Wl_max (k' := ?_)) | refine Wl_gno (k := ?_) | ((refine Wl_split (yes := (fun ht => ?_)) (no := (fun ht => ?_)) <;> (try simp at ht) <;> (try (exfalso; omega))) <;> (first | (refine Wl_guard (k := ?_); refine Wl_max (k' := ?_)) | refine Wl_gno (k := ?_))))) <;> (((first | (refine Wl_guard (k := ?_); refine Wl_gtr (k' := ?_)) | refine Wl_gno (k := ?_) | ((refine Wl_split (yes := (fun ht => ?_)) (no := (fun ht => ?_)) <;> (try simp at ht) <;> (try (exfalso; omega))) <;> (first | (refine Wl_guard (k := ?_); refine Wl_gtr (k' := ?_)) | refine Wl_gno (k := ?_))))) <;> ((first | refine Wl_pick_t (k := ?_) | refine Wl_pick_f (k := ?_) | refine Wl_pick (k := ?_)); (refine Wl_nil (hK _ _ ?_); clear hK K))))))))))
    | (refine Wc_region (id := 2) ?_; intro K hK; refine Wl_assign (k := ?_); (refine Wl_nil (hK _ _ ?_); clear hK K))
    | (refine Wc_region (id := 3) ?_; intro K hK; refine Wl_move (k := ?_); refine Wl_len_sl (k' := ?_); refine Wl_move (k := ?_); (refine Wl_nil (hK _ _ ?_); clear hK K))
    | (refine Wc_cond (ht := (fun ht => ?_)) (hf := (fun ht => ?_)) <;> (try simp at ht) <;> (try (exfalso; omega))))
  refine Wc_loop (α := Nat) (fun k => [(0, .pointer (some ⟨p, 0, none⟩)), (1, .slice a l.length c), (21, .int .i64 l.length), (22, .int .i64 k)]) (fun _ => cb p [.int .i64 16, .map (some rm)] 123 :: mpA Try.prog 3 rm (fS L) :: A0) (fun k => k ≤ l.length) (fun k => l.length - k) 0 (by omega) ⟨rfl, rfl, rfl, rfl, trivial⟩ (Ent.refl _) ?_
  intro k G hk
  simp only [ov]
  by_cases hlt : k < l.length
  · obtain ⟨q, rfl⟩ : ∃ q, a = some q := by
      cases a with
      | none => have := h.nil rfl; omega
      | some q => exact ⟨q, rfl⟩
    obtain ⟨x, hx⟩ : ∃ x, l[k]? = some x := ⟨_, List.getElem?_eq_getElem hlt⟩
    by_cases h0 : k = 0
    · repeat' (first
        | refine Wc_seq ?_
        | refine thenQ_normal ?_
        | refine Wc_cond_t (h := ?_)
        | refine Wc_cond_f (h := ?_)
        | refine Wc_ret ?_
        | refine thenQ_ret ?_
        | refine Wc_block ?_
        | refine blkQ_normal ?_
        | refine blkQ_ret ?_
        | refine Wc_exit ?_
        | refine thenQ_exit ?_
        | refine blkQ_hit ?_
        | refine blkQ_miss rfl ?_
        | refine Wc_skip ?_
        | refine Wc_label ?_
        | refine loopQ_exit ?_
        | refine loopQ_ret ?_
        | refine loopQ_normal ?_
        | (refine Wc_region (id := 4) ?_; intro K hK; refine Wl_lss (k' := ?_); (refine Wl_nil (hK _ _ ?_); clear hK K))
        | (refine Wc_region (id := 5) ?_; intro K hK; refine Wl_move (k := ?_); refine Wl_assign (k := ?_); (refine Wl_nil (hK _ _ ?_); clear hK K))
        | (refine Wc_draw (id := 6) (h := ?_); intro K hK; refine Wl_move (k := ?_); refine Wl_gtr (k' := ?_); refine Wl_move (k := ?_); ((first | (refine Wl_guard (k := ?_); refine Wl_move (k := ?_)) | refine Wl_gno (k := ?_) | ((refine Wl_split (yes := (fun ht => ?_)) (no := (fun ht => ?_)) <;> (try simp at ht) <;> (try (exfalso; omega))) <;> (first | (refine Wl_guard (k := ?_); refine Wl_move (k := ?_)) | refine Wl_gno (k := ?_))))) <;> (((first | (refine Wl_guard (k := ?_); refine Wl_move (k := ?_)) | refine Wl_gno (k := ?_) | ((refine Wl_split (yes := (fun ht => ?_)) (no := (fun ht => ?_)) <;> (try simp at ht) <;> (try (exfalso; omega))) <;> (first | (refine Wl_guard (k := ?_); refine Wl_move (k := ?_)) | refine Wl_gno (k := ?_))))) <;> (((first | (refine Wl_guard (k := ?_); refine Wl_index_sl (k' := ?_)) | refine Wl_gno (k := ?_) | ((refine Wl_split (yes := (fun ht => ?_)) (no := (fun ht => ?_)) <;> (try simp at ht) <;> (try (exfalso; omega))) <;> (first | (refine Wl_guard (k := ?_); refine Wl_index_sl (k' := ?_)) | refine Wl_gno (k := ?_))))) <;> (((first | (refine Wl_guard (k := ?_); refine Wl_fieldAddr (k := ?_)) | refine Wl_gno (k := ?_) | ((refine Wl_split (yes := (fun ht => ?_)) (no := (fun ht => ?_)) <;> (try simp at ht) <;> (try (exfalso; omega))) <;> (first | (refine Wl_guard (k := ?_); refine Wl_fieldAddr (k := ?_)) | refine Wl_gno (k := ?_))))) <;> (((first | (refine Wl_guard (k := ?_); refine Wl_load (k := ?_)) | refine Wl_gno (k := ?_) | ((refine Wl_split (yes := (fun ht => ?_)) (no := (fun ht => ?_)) <;> (try simp at ht) <;> (try (exfalso; omega))) <;> (first | (refine Wl_guard (k := ?_); refine Wl_load (k := ?_)) | refine Wl_gno (k := ?_))))) <;> (((first | (refine Wl_guard (k := ?_); refine Wl_move (k := ?_)) | refine Wl_gno (k := ?_) | ((refine Wl_split (yes := (fun ht => ?_)) (no := (fun ht => ?_)) <;> (try simp at ht) <;> (try (exfalso; omega))) <;> (first | (refine Wl_guard (k := ?_); refine Wl_move (k := ?_)) | refine Wl_gno (k := ?_))))) <;> (((first | (refine Wl_guard (k := ?_); refine Wl_move (k := ?_)) | refine Wl_gno (k := ?_) | ((refine Wl_split (yes := (fun ht => ?_)) (no := (fun ht => ?_)) <;> (try simp at ht) <;> (try (exfalso; omega))) <;> (first | (refine Wl_guard (k := ?_); refine Wl_move (k := ?_)) | refine Wl_gno (k := ?_))))) <;> (((first | (refine Wl_guard (k := ?_); refine Wl_sub (k' := ?_)) | refine Wl_gno (k := ?_) | ((refine Wl_split (yes := (fun ht => ?_)) (no := (fun ht => ?_)) <;> (try simp at ht) <;> (try (exfalso; omega))) <;> (first | (refine Wl_guard (k := ?_); refine Wl_sub (k' := ?_)) | refine Wl_gno (k := ?_))))) <;> (((first | (refine Wl_guard (k := ?_); refine Wl_index_sl (k' := ?_)) | refine Wl_gno (k := ?_) | ((refine Wl_split (yes := (fun ht => ?_)) (no := (fun ht => ?_)) <;> (try simp at ht) <;> (try (exfalso; omega))) <;> (first | (refine Wl_guard (k := ?_); refine Wl_index_sl (k' := ?_)) | refine Wl_gno (k := ?_))))) <;> (((first | (refine Wl_guard (k := ?_); refine Wl_fieldAddr (k := ?_)) | refine Wl_gno (k := ?_) | ((refine Wl_split (yes := (fun ht => ?_)) (no := (fun ht => ?_)) <;> (try simp at ht) <;> (try (exfalso; omega))) <;> (first | (refine Wl_guard (k := ?_); refine Wl_fieldAddr (k := ?_)) | refine Wl_gno (k := ?_))))) <;> (((first | (refine Wl_guard (k := ?_); refine Wl_load (k := ?_)) | refine Wl_gno (k := ?_) | ((refine Wl_split (yes := (fun ht => ?_)) (no := (fun ht => ?_)) <;> (try simp at ht) <;> (try (exfalso; omega))) <;> (first | (refine Wl_guard (k := ?_); refine Wl_load (k := ?_)) | refine Wl_gno (k := ?_))))) <;> (((first | (refine Wl_guard (k := ?_); refine Wl_leq (k' := ?_)) | refine Wl_gno (k := ?_) | ((refine Wl_split (yes := (fun ht => ?_)) (no := (fun ht => ?_)) <;> (try simp at ht) <;> (try (exfalso; omega))) <;> (first | (refine Wl_guard (k := ?_); refine Wl_leq (k' := ?_)) | refine Wl_gno (k := ?_))))) <;> ((first | refine Wl_pick_t (k := ?_) | refine Wl_pick_f (k := ?_) | refine Wl_pick (k := ?_)); (refine Wl_nil (hK _ _ ?_); clear hK K))))))))))))))
        | (refine Wc_region (id := 7) ?_; intro K hK; refine Wl_assign (k := ?_); (refine Wl_nil (hK _ _ ?_); clear hK K))
        | (refine Wc_region (id := 8) ?_; intro K hK; refine Wl_add (k' := ?_); refine Wl_move (k := ?_); (refine Wl_nil (hK _ _ ?_); clear hK K))
        | (refine Wc_cond (ht := (fun ht => ?_)) (hf := (fun ht => ?_)) <;> (try simp at ht) <;> (try (exfalso; omega))))
      exact ⟨k + 1, by omega, by omega, ⟨rfl, rfl, rfl, int_succ k, trivial⟩, Ent.refl _⟩
    · obtain ⟨y, hy⟩ : ∃ y, l[k - 1]? = some y := ⟨_, List.getElem?_eq_getElem (by omega)⟩
      have hyx : y.s < x.s := ris_take hr hx y (List.mem_of_getElem? (i := k - 1) (by rw [List.getElem?_take, if_pos (by omega), hy]))
      have e1 : ((k : Nat) : Int) - 1 = ((k - 1 : Nat) : Int) := by omega
      repeat' (first
        | refine Wc_seq ?_
        | refine thenQ_normal ?_
        | refine Wc_cond_t (h := ?_)
        | refine Wc_cond_f (h := ?_)
        | refine Wc_ret ?_
        | refine thenQ_ret ?_
        | refine Wc_block ?_
        | refine blkQ_normal ?_
        | refine blkQ_ret ?_
        | refine Wc_exit ?_
        | refine thenQ_exit ?_
        | refine blkQ_hit ?_
        | refine blkQ_miss rfl ?_
        | refine Wc_skip ?_
        | refine Wc_label ?_
        | refine loopQ_exit ?_
        | refine loopQ_ret ?_
        | refine loopQ_normal ?_
        | (refine Wc_region (id := 4) ?_; intro K hK; refine Wl_lss (k' := ?_); (refine Wl_nil (hK _ _ ?_); clear hK K))
        | (refine Wc_region (id := 5) ?_; intro K hK; refine Wl_move (k := ?_); refine Wl_assign (k := ?_); (refine Wl_nil (hK _ _ ?_); clear hK K))
        | (refine Wc_draw (id := 6) (h := ?_); intro K hK; refine Wl_move (k := ?_); refine Wl_gtr (k' := ?_); refine Wl_move (k := ?_); ((first | (refine Wl_guard (k := ?_); refine Wl_move (k := ?_)) | refine Wl_gno (k := ?_) | ((refine Wl_split (yes := (fun ht => ?_)) (no := (fun ht => ?_)) <;> (try simp at ht) <;> (try (exfalso; omega))) <;> (first | (refine Wl_guard (k := ?_); refine Wl_move (k := ?_)) | refine Wl_gno (k := ?_))))) <;> (((first | (refine Wl_guard (k := ?_); refine Wl_move (k := ?_)) | refine Wl_gno (k := ?_) | ((refine Wl_split (yes := (fun ht => ?_)) (no := (fun ht => ?_)) <;> (try simp at ht) <;> (try (exfalso; omega))) <;> (first | (refine Wl_guard (k := ?_); refine Wl_move (k := ?_)) | refine Wl_gno (k := ?_))))) <;> (((first | (refine Wl_guard (k := ?_); (refine Wl_index_any (k' := ?_))) | refine Wl_gno (k := ?_) | ((refine Wl_split (yes := (fun ht => ?_)) (no := (fun ht => ?_)) <;> (try simp at ht) <;> (try (exfalso; omega))) <;> (first | (refine Wl_guard (k := ?_); (refine Wl_index_any (k' := ?_))) | refine Wl_gno (k := ?_))))) <;> (((first | (refine Wl_guard (k := ?_); (refine Wl_fieldAddrG (k := ?_))) | refine Wl_gno (k := ?_) | ((refine Wl_split (yes := (fun ht => ?_)) (no := (fun ht => ?_)) <;> (try simp at ht) <;> (try (exfalso; omega))) <;> (first | (refine Wl_guard (k := ?_); (refine Wl_fieldAddrG (k := ?_))) | refine Wl_gno (k := ?_))))) <;> (((first | (refine Wl_guard (k := ?_); (refine Wl_loadG (v := .int .i64 x.s) (j := k * 4) (hq := by simp [Addr.add]) (hr := RdS.under (RdS.under h)) (hv := by simpa using ssC_cell (r := 0) hx (by omega) rfl) (k := ?_))) | refine Wl_gno (k := ?_) | ((refine Wl_split (yes := (fun ht => ?_)) (no := (fun ht => ?_)) <;> (try simp at ht) <;> (try (exfalso; omega))) <;> (first | (refine Wl_guard (k := ?_); (refine Wl_loadG (v := .int .i64 x.s) (j := k * 4) (hq := by simp [Addr.add]) (hr := RdS.under (RdS.under h)) (hv := by simpa using ssC_cell (r := 0) hx (by omega) rfl) (k := ?_))) | refine Wl_gno (k := ?_))))) <;> (((first | (refine Wl_guard (k := ?_); refine Wl_move (k := ?_)) | refine Wl_gno (k := ?_) | ((refine Wl_split (yes := (fun ht => ?_)) (no := (fun ht => ?_)) <;> (try simp at ht) <;> (try (exfalso; omega))) <;> (first | (refine Wl_guard (k := ?_); refine Wl_move (k := ?_)) | refine Wl_gno (k := ?_))))) <;> (((first | (refine Wl_guard (k := ?_); refine Wl_move (k := ?_)) | refine Wl_gno (k := ?_) | ((refine Wl_split (yes := (fun ht => ?_)) (no := (fun ht => ?_)) <;> (try simp at ht) <;> (try (exfalso; omega))) <;> (first | (refine Wl_guard (k := ?_); refine Wl_move (k := ?_)) | refine Wl_gno (k := ?_))))) <;> (((first | (refine Wl_guard (k := ?_); (refine Wl_sub (k' := ?_); rw [e1])) | refine Wl_gno (k := ?_) | ((refine Wl_split (yes := (fun ht => ?_)) (no := (fun ht => ?_)) <;> (try simp at ht) <;> (try (exfalso; omega))) <;> (first | (refine Wl_guard (k := ?_); (refine Wl_sub (k' := ?_); rw [e1])) | refine Wl_gno (k := ?_))))) <;> (((first | (refine Wl_guard (k := ?_); (refine Wl_index_any (k' := ?_))) | refine Wl_gno (k := ?_) | ((refine Wl_split (yes := (fun ht => ?_)) (no := (fun ht => ?_)) <;> (try simp at ht) <;> (try (exfalso; omega))) <;> (first | (refine Wl_guard (k := ?_); (refine Wl_index_any (k' := ?_))) | refine Wl_gno (k := ?_))))) <;> (((first | (refine Wl_guard (k := ?_); (refine Wl_fieldAddrG (k := ?_))) | refine Wl_gno (k := ?_) | ((refine Wl_split (yes := (fun ht => ?_)) (no := (fun ht => ?_)) <;> (try simp at ht) <;> (try (exfalso; omega))) <;> (first | (refine Wl_guard (k := ?_); (refine Wl_fieldAddrG (k := ?_))) | refine Wl_gno (k := ?_))))) <;> (((first | (refine Wl_guard (k := ?_); (refine Wl_loadG (v := .int .i64 y.s) (j := (k - 1) * 4) (hq := by simp [Addr.add]) (hr := RdS.under (RdS.under h)) (hv := by simpa using ssC_cell (r := 0) hy (by omega) rfl) (k := ?_))) | refine Wl_gno (k := ?_) | ((refine Wl_split (yes := (fun ht => ?_)) (no := (fun ht => ?_)) <;> (try simp at ht) <;> (try (exfalso; omega))) <;> (first | (refine Wl_guard (k := ?_); (refine Wl_loadG (v := .int .i64 y.s) (j := (k - 1) * 4) (hq := by simp [Addr.add]) (hr := RdS.under (RdS.under h)) (hv := by simpa using ssC_cell (r := 0) hy (by omega) rfl) (k := ?_))) | refine Wl_gno (k := ?_))))) <;> (((first | (refine Wl_guard (k := ?_); refine Wl_leq (k' := ?_)) | refine Wl_gno (k := ?_) | ((refine Wl_split (yes := (fun ht => ?_)) (no := (fun ht => ?_)) <;> (try simp at ht) <;> (try (exfalso; omega))) <;> (first | (refine Wl_guard (k := ?_); refine Wl_leq (k' := ?_)) | refine Wl_gno (k := ?_))))) <;> ((first | refine Wl_pick_t (k := ?_) | refine Wl_pick_f (k := ?_) | refine Wl_pick (k := ?_)); (refine Wl_nil (hK _ _ ?_); clear hK K))))))))))))))
        | (refine Wc_region (id := 7) ?_; intro K hK; refine Wl_assign (k := ?_); (refine Wl_nil (hK _ _ ?_); clear hK K))
        | (refine Wc_region (id := 8) ?_; intro K hK; refine Wl_add (k' := ?_); refine Wl_move (k := ?_); (refine Wl_nil (hK _ _ ?_); clear hK K))
        | (refine Wc_cond (ht := (fun ht => ?_)) (hf := (fun ht => ?_)) <;> (try simp at ht) <;> (try (exfalso; omega))))
      all_goals exact ⟨k + 1, by omega, by omega, ⟨rfl, rfl, rfl, int_succ k, trivial⟩, Ent.refl _⟩
  obtain rfl : k = l.length := by omega
  repeat' (first
    | refine Wc_seq ?_
    | refine thenQ_normal ?_
    | refine Wc_cond_t (h := ?_)
    | refine Wc_cond_f (h := ?_)
    | refine Wc_ret ?_
    | refine thenQ_ret ?_
    | refine Wc_block ?_
    | refine blkQ_normal ?_
    | refine blkQ_ret ?_
    | refine Wc_exit ?_
    | refine thenQ_exit ?_
    | refine blkQ_hit ?_
    | refine blkQ_miss rfl ?_
    | refine Wc_skip ?_
    | refine Wc_label ?_
    | refine loopQ_exit ?_
    | refine loopQ_ret ?_
    | refine loopQ_normal ?_
    | (refine Wc_region (id := 4) ?_; intro K hK; refine Wl_lss (k' := ?_); (refine Wl_nil (hK _ _ ?_); clear hK K))
    | (refine Wc_region (id := 9) ?_; intro K hK; refine Wl_move (k := ?_); refine Wl_nilCheck (k := ?_); refine Wl_fieldAddr (k := ?_); refine Wl_load (k := ?_); ((refine Wl_clear (k' := ?_))) <;> ((refine Wl_nil (hK _ _ ?_); clear hK K)))
    | (refine Wc_region (id := 10) ?_; intro K hK; refine Wl_move (k := ?_); refine Wl_len_sl (k' := ?_); refine Wl_move (k := ?_); (refine Wl_nil (hK _ _ ?_); clear hK K))
    | (refine Wc_cond (ht := (fun ht => ?_)) (hf := (fun ht => ?_)) <;> (try simp at ht) <;> (try (exfalso; omega))))
  refine Wc_loop (α := Nat) (fun k => [(0, .pointer (some ⟨p, 0, none⟩)), (46, .slice a l.length c), (47, .int .i64 l.length), (48, .int .i64 k)]) (fun k => mpA Try.prog 3 rm (fS (l.take k)) :: cb p [.int .i64 16, .map (some rm)] 123 :: A0) (fun k => k ≤ l.length) (fun k => l.length - k) 0 (by omega) ⟨rfl, rfl, rfl, rfl, trivial⟩ (by rw [List.take_zero, fS_nil]; exact Ent.refl _) ?_
  intro k G2 hk2
  simp only [ov]
  by_cases hlt : k < l.length
  · obtain ⟨q, rfl⟩ : ∃ q, a = some q := by
      cases a with
      | none => have := h.nil rfl; omega
      | some q => exact ⟨q, rfl⟩
    obtain ⟨x, hx⟩ : ∃ x, l[k]? = some x := ⟨_, List.getElem?_eq_getElem hlt⟩
    have hxo := hses x (List.mem_of_getElem? hx)
    have hkey : keyOf Try.prog 3 (.int .i64 x.s) = some (.int .i64 x.s) := Go.Maps.keyOf_int_mk Try.underlying3 (wf_int hxo)
    have hput : dput (l.take k) x = l.take (k + 1) := by
      rw [dput_last (ris_take hr hx)]
      obtain ⟨hk3, rfl⟩ := List.getElem?_eq_some_iff.1 hx
      rw [List.take_succ_eq_append_getElem hk3]
    repeat' (first
      | refine Wc_seq ?_
      | refine thenQ_normal ?_
      | refine Wc_cond_t (h := ?_)
      | refine Wc_cond_f (h := ?_)
      | refine Wc_ret ?_
      | refine thenQ_ret ?_
      | refine Wc_block ?_
      | refine blkQ_normal ?_
      | refine blkQ_ret ?_
      | refine Wc_exit ?_
      | refine thenQ_exit ?_
      | refine blkQ_hit ?_
      | refine blkQ_miss rfl ?_
      | refine Wc_skip ?_
      | refine Wc_label ?_
      | refine loopQ_exit ?_
      | refine loopQ_ret ?_
      | refine loopQ_normal ?_
      | (refine Wc_region (id := 11) ?_; intro K hK; refine Wl_lss (k' := ?_); (refine Wl_nil (hK _ _ ?_); clear hK K))
      | (refine Wc_region (id := 12) ?_; intro K hK; ((refine Wl_index_any (k' := ?_))) <;> (((refine Wl_loadAggG (j := k * 4) (cs := x.c) (hq := by simp) (hr := RdS.under (RdS.under h)) (hv := ssC_row hx) (k := ?_))) <;> (((refine Wl_alloc (k := ?_); intro r7)) <;> (refine Wl_storeR (ho' := rfl) (k := ?_); (refine Wl_nil (hK _ _ ?_); clear hK K)))))
      | (refine Wc_draw (id := 13) (h := ?_); intro K hK; refine Wl_move (k := ?_); refine Wl_nilCheck (k := ?_); refine Wl_fieldAddr (k := ?_); refine Wl_load (k := ?_); refine Wl_fieldAddr (k := ?_); refine Wl_load (k := ?_); refine Wl_fieldAddr (k := ?_); refine Wl_load (k := ?_); refine Wl_fieldAddr (k := ?_); refine Wl_loadR (k := ?_); refine Wl_build (k := ?_); ((refine Wl_mapUpdate (val := x.l) (hK := hKd) (hk := hkey) (k := ?_); rw [fS_put (ris_sub hr k), hput])) <;> ((refine Wl_nil (hK _ _ ?_); clear hK K)))
      | (refine Wc_region (id := 14) ?_; intro K hK; refine Wl_add (k' := ?_); refine Wl_move (k := ?_); (refine Wl_nil (hK _ _ ?_); clear hK K))
      | (refine Wc_cond (ht := (fun ht => ?_)) (hf := (fun ht => ?_)) <;> (try simp at ht) <;> (try (exfalso; omega))))
    exact ⟨k + 1, by omega, by omega, ⟨rfl, rfl, rfl, int_succ k, trivial⟩, by (repeat (first | exact Ent.refl _ | exact Ent.nil | refine Ent.take (by (repeat (first | exact Out.head | apply Out.tail)); (first | done | fail)) ?_ | refine Ent.drop1 ?_))⟩
  obtain rfl : k = l.length := by omega
  repeat' (first
    | refine Wc_seq ?_
    | refine thenQ_normal ?_
    | refine Wc_cond_t (h := ?_)
    | refine Wc_cond_f (h := ?_)
    | refine Wc_ret ?_
    | refine thenQ_ret ?_
    | refine Wc_block ?_
    | refine blkQ_normal ?_
    | refine blkQ_ret ?_
    | refine Wc_exit ?_
    | refine thenQ_exit ?_
    | refine blkQ_hit ?_
    | refine blkQ_miss rfl ?_
    | refine Wc_skip ?_
    | refine Wc_label ?_
    | refine loopQ_exit ?_
    | refine loopQ_ret ?_
    | refine loopQ_normal ?_
    | (refine Wc_region (id := 11) ?_; intro K hK; refine Wl_lss (k' := ?_); (refine Wl_nil (hK _ _ ?_); clear hK K))
    | (refine Wc_region (id := 15) ?_; intro K hK; refine Wl_assign (k := ?_); (refine Wl_nil (hK _ _ ?_); clear hK K))
    | (refine Wc_cond (ht := (fun ht => ?_)) (hf := (fun ht => ?_)) <;> (try simp at ht) <;> (try (exfalso; omega))))
  refine ⟨Or.inr rfl, _, DeP p 16 l :: A0, ?_, res1 rfl rfl, rfl, rfl⟩
  rw [List.take_length]
  exact de_fold (A0 := A0) rm (by simp only [DeX]; simp only [List.cons_append, List.nil_append]; exact Ent.perm (List.Perm.swap ..))
/-- A snapshot's fold. -/
theorem of_spec (A0 : List Asn) (b : SnX) (hb : b.ok) (hps : b.ps.length ≤ 900000) (pa : Option Addr) (pc : Nat) (sa : Option Addr) (sc : Nat) (h1 : RdS Try.prog B A0 5 pa b.ps.length pc (prC b.ps)) (h2 : RdS Try.prog B A0 4 sa b.ss.length sc (ssC b.ss)) :
    Fspec Try.prog B 62 #[.agg #[.int .i64 b.e, .int .i64 b.i, .slice pa b.ps.length pc, .slice sa b.ss.length sc]] A0
      (fun v A' => ∃ k d, v = .agg #[.int .i64 b.e, .int .i64 b.i, .pointer (some ⟨k, 0, none⟩), .pointer (some ⟨d, 0, none⟩)] ∧ A' = MpA k (FoX.of b).t :: DeP d 16 (FoX.of b).L :: A0) := by
  refine spec_of (args := [_]) Try.func62 rfl rfl rfl ?_
  repeat' (first
    | refine Wc_seq ?_
    | refine thenQ_normal ?_
    | refine Wc_cond_t (h := ?_)
    | refine Wc_cond_f (h := ?_)
    | refine Wc_ret ?_
    | refine thenQ_ret ?_
    | refine Wc_block ?_
    | refine blkQ_normal ?_
    | refine blkQ_ret ?_
    | refine Wc_exit ?_
    | refine thenQ_exit ?_
    | refine blkQ_hit ?_
    | refine blkQ_miss rfl ?_
    | refine Wc_skip ?_
    | refine Wc_label ?_
    | refine loopQ_exit ?_
    | refine loopQ_ret ?_
    | refine loopQ_normal ?_
    | (refine Wc_region (id := 0) ?_; intro K hK; ((refine Wl_boxAgg (k := ?_); intro r1)) <;> (((refine Wl_alloc (k := ?_); intro r2)) <;> ((refine Wl_nil (hK _ _ ?_); clear hK K))))
    | (refine Wc_region (id := 1) ?_; intro K hK; ((refine Wl_call (hs := blank_spec) (hp := .nil) (k := ?_); rintro v A' ⟨k, d, rfl, rfl⟩; simp only [List.cons_append, List.nil_append])) <;> (((refine Wl_alloc (k := ?_); intro r3)) <;> (refine Wl_storeR (ho' := rfl) (k := ?_); (refine Wl_nil (hK _ _ ?_); clear hK K))))
    | (refine Wc_region (id := 2) ?_; intro K hK; refine Wl_fieldAddr (k := ?_); refine Wl_loadR (k := ?_); refine Wl_fieldAddr (k := ?_); refine Wl_storeR (ho' := rfl) (k := ?_); (refine Wl_nil (hK _ _ ?_); clear hK K))
    | (refine Wc_region (id := 3) ?_; intro K hK; refine Wl_fieldAddr (k := ?_); refine Wl_load (k := ?_); refine Wl_len_sl (k' := ?_); refine Wl_move (k := ?_); (refine Wl_nil (hK _ _ ?_); clear hK K))
    | (refine Wc_cond (ht := (fun ht => ?_)) (hf := (fun ht => ?_)) <;> (try simp at ht) <;> (try (exfalso; omega))))
  refine Wc_loop (α := Nat) (fun j => [(1, .pointer (some ⟨r1, 0, none⟩)), (2, .pointer (some ⟨r2, 0, none⟩)), (3, .pointer (some ⟨r3, 0, none⟩)), (11, .slice pa b.ps.length pc), (12, .int .i64 b.ps.length), (13, .int .i64 j)])
    (fun j => MpA k (setAll (b.ps.take j)) :: cb r1 [.int .i64 b.e, .int .i64 b.i, .slice pa b.ps.length pc, .slice sa b.ss.length sc] 40 :: cb r2 [.int .i64 0, .int .i64 0, .pointer none, .pointer none] 80 :: cb r3 [.int .i64 b.e, .int .i64 b.i, .pointer (some ⟨k, 0, none⟩), .pointer (some ⟨d, 0, none⟩)] 80 :: DeP d 16 [] :: A0) (fun j => j ≤ b.ps.length) (fun j => b.ps.length - j) 0 (by omega) ⟨rfl, rfl, rfl, rfl, rfl, rfl, trivial⟩ (by (repeat (first | exact Ent.refl _ | exact Ent.nil | refine Ent.take (by (repeat (first | exact Out.head | apply Out.tail)); (first | done | fail)) ?_ | refine Ent.drop1 ?_))) ?_
  intro j G hj
  simp only [ov]
  by_cases hlt : j < b.ps.length
  · obtain ⟨q, rfl⟩ : ∃ q, pa = some q := by
      cases pa with
      | none => have := h1.nil rfl; omega
      | some q => exact ⟨q, rfl⟩
    obtain ⟨x, hx⟩ : ∃ x, b.ps[j]? = some x := ⟨_, List.getElem?_eq_getElem hlt⟩
    have hs := setAll_succ hx
    have hA := setAll_AA (b.ps.take j)
    have hsz : (setAll (b.ps.take j)).size ≤ 1000000 := Nat.le_trans hA.2 (by simp; omega)
    repeat' (first
      | refine Wc_seq ?_
      | refine thenQ_normal ?_
      | refine Wc_cond_t (h := ?_)
      | refine Wc_cond_f (h := ?_)
      | refine Wc_ret ?_
      | refine thenQ_ret ?_
      | refine Wc_block ?_
      | refine blkQ_normal ?_
      | refine blkQ_ret ?_
      | refine Wc_exit ?_
      | refine thenQ_exit ?_
      | refine blkQ_hit ?_
      | refine blkQ_miss rfl ?_
      | refine Wc_skip ?_
      | refine Wc_label ?_
      | refine loopQ_exit ?_
      | refine loopQ_ret ?_
      | refine loopQ_normal ?_
      | (refine Wc_region (id := 4) ?_; intro K hK; refine Wl_lss (k' := ?_); (refine Wl_nil (hK _ _ ?_); clear hK K))
      | (refine Wc_region (id := 5) ?_; intro K hK; ((refine Wl_index_any (k' := ?_))) <;> (((refine Wl_loadAggG (j := j * 5) (cs := x.c) (hq := by simp) (hr := RdS.ofEnt h1 (Ent.trans (Ent.drop _) (Ent.trans (Ent.drop _) (Ent.trans (Ent.drop _) (Ent.trans (Ent.drop _) (Ent.drop _)))))) (hv := prC_row hx) (k := ?_))) <;> (((refine Wl_alloc (k := ?_); intro r5)) <;> (refine Wl_storeR (ho' := rfl) (k := ?_); (refine Wl_nil (hK _ _ ?_); clear hK K)))))
      | (refine Wc_region (id := 6) ?_; intro K hK; refine Wl_fieldAddr (k := ?_); refine Wl_load (k := ?_); refine Wl_fieldAddr (k := ?_); refine Wl_load (k := ?_); refine Wl_fieldAddr (k := ?_); refine Wl_loadR (k := ?_); ((refine Wl_call (hs := mset_spec B k (setAll (b.ps.take j)) x.k x.v hA.1 hsz) (k := ?_); rintro v A' ⟨rfl, rfl⟩; simp only [List.cons_append, List.nil_append]; rw [← hs])) <;> ((refine Wl_nil (hK _ _ ?_); clear hK K)))
      | (refine Wc_region (id := 7) ?_; intro K hK; refine Wl_add (k' := ?_); refine Wl_move (k := ?_); (refine Wl_nil (hK _ _ ?_); clear hK K))
      | (refine Wc_cond (ht := (fun ht => ?_)) (hf := (fun ht => ?_)) <;> (try simp at ht) <;> (try (exfalso; omega))))
    exact ⟨j + 1, by omega, by omega, ⟨rfl, rfl, rfl, rfl, rfl, int_succ j, trivial⟩, by (repeat (first | exact Ent.refl _ | exact Ent.nil | refine Ent.take (by (repeat (first | exact Out.head | apply Out.tail)); (first | done | fail)) ?_ | refine Ent.drop1 ?_))⟩
  obtain rfl : j = b.ps.length := by omega
  rw [List.take_length]
  have hld := load_spec (B := B) A0 d [] b.ss hb.ris hb.few hb.ses sa sc h2
  repeat' (first
    | refine Wc_seq ?_
    | refine thenQ_normal ?_
    | refine Wc_cond_t (h := ?_)
    | refine Wc_cond_f (h := ?_)
    | refine Wc_ret ?_
    | refine thenQ_ret ?_
    | refine Wc_block ?_
    | refine blkQ_normal ?_
    | refine blkQ_ret ?_
    | refine Wc_exit ?_
    | refine thenQ_exit ?_
    | refine blkQ_hit ?_
    | refine blkQ_miss rfl ?_
    | refine Wc_skip ?_
    | refine Wc_label ?_
    | refine loopQ_exit ?_
    | refine loopQ_ret ?_
    | refine loopQ_normal ?_
    | (refine Wc_region (id := 4) ?_; intro K hK; refine Wl_lss (k' := ?_); (refine Wl_nil (hK _ _ ?_); clear hK K))
    | (refine Wc_region (id := 8) ?_; intro K hK; refine Wl_fieldAddr (k := ?_); refine Wl_load (k := ?_); refine Wl_fieldAddr (k := ?_); refine Wl_load (k := ?_); ((refine Wl_take (y := DeP d 16 []) (k := ?_); refine Wl_call (hs := hld) (hp := .cons .head (Pick_mid [_, _, _, _] A0)) (k := ?_); rintro v A' ⟨rfl, rfl⟩; refine Wl_ent (Ent.perm (of_perm _ A0 _ _ _ _)) ?_)) <;> ((refine Wl_nil (hK _ _ ?_); clear hK K)))
    | (refine Wc_region (id := 9) ?_; intro K hK; refine Wl_loadR (k := ?_); refine Wl_storeR (ho' := rfl) (k := ?_); (refine Wl_nil (hK _ _ ?_); clear hK K))
    | (refine Wc_cond (ht := (fun ht => ?_)) (hf := (fun ht => ?_)) <;> (try simp at ht) <;> (try (exfalso; omega))))
  exact ⟨Or.inr rfl, _, MpA k (FoX.of b).t :: DeP d 16 (FoX.of b).L :: A0, by (repeat (first | exact Ent.refl _ | exact Ent.nil | refine Ent.take (by (repeat (first | exact Out.head | apply Out.tail)); (first | done | fail)) ?_ | refine Ent.drop1 ?_)), resG rfl (by (repeat (first | exact ResL.nil | apply ResL.tmp (by (repeat (first | exact Ev.here | exact Ev.const | exact Ev.arg rfl | apply Ev.there rfl | exact Ev.none rfl | exact Ev.func | exact Ev.var)); (first | done | fail)) | apply ResL.agg (by (repeat (first | exact Ev.here | exact Ev.const | exact Ev.arg rfl | apply Ev.there rfl | exact Ev.none rfl | exact Ev.func | exact Ev.var)); (first | done | fail)) (by (repeat (first | exact Rd.head | exact Rd.base (by assumption) | apply Rd.tail)); (first | done | fail)) (by (repeat (first | exact TakeR.nil | apply TakeR.take | apply TakeR.skip)); (first | done | fail)) | apply ResL.cell (by (repeat (first | exact Ev.here | exact Ev.const | exact Ev.arg rfl | apply Ev.there rfl | exact Ev.none rfl | exact Ev.func | exact Ev.var)); (first | done | fail)) (by (repeat (first | exact Rd.head | exact Rd.base (by assumption) | apply Rd.tail)); (first | done | fail)) rfl)); (first | done | fail)) rfl, k, d, rfl, rfl⟩
end specs
end Go.Proofs.Ytnoggejkkjngjaa
