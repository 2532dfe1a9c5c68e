/- Layer 15, StateFenced: the walk. Conditions: none but the kinds' bounds. -/
import Derived.Test.YtnoggejkkjngjaaAwake15
set_option maxHeartbeats 8000000
set_option linter.unusedVariables false
set_option linter.unusedSimpArgs false
set_option maxRecDepth 100000
namespace Go.Proofs.Ytnoggejkkjngjaa
open Go Go.Sl
attribute [local irreducible] Go.Sl.Wl Go.Sl.Wc Go.Sl.thenQ Go.Sl.blkQ Go.Sl.loopQ Go.Sl.Fspec

def fX : ByteArray → ByteArray := fun _ => tX
def fenT (c : Nat) : List Ep := [⟨1, 0, false⟩, ⟨2, c, true⟩]
def fenS (ks : List ByteArray) (c : Nat) : S15 := ⟨fenT c, logE fX ks c, false⟩
def fenX (c : Nat) (e : Int) : EnX := ⟨e, (c : Int) + 1, 1 + ((c : Int) + 1) % 3, 1000, ⟨#[107]⟩, false, tY⟩
theorem chk_log (ks : List ByteArray) (f : ByteArray → ByteArray) (j : Nat) (hj : j < 512) (hk : 1 ≤ (keyAt ks j).size ∧ (keyAt ks j).size ≤ 64) (ht : (f (keyAt ks j)).size ≤ 1024) : chkV (logS f ks j) (rcW (simX (j + 1) (keyAt ks j) (f (keyAt ks j)))) = 0 := by
  have hl := logE_len f ks j
  show (if (1 : Int) = 1 then _ else _) = (0 : Int)
  rw [if_pos rfl]
  refine cw_log (log_ok (by decide) f ks j (by omega) false) (logE_log f ks j) rfl (by show (logE f ks j).length < 512; omega) _ ?_ ?_ ?_ ?_ rfl hk ht
  · show ((j + 1 : Nat) : Int) = (((logE f ks j).length + 1 : Nat) : Int); rw [hl]
  · show atT oneT ((j + 1 : Nat) : Int) = _
    exact at_one (by omega)
  · show 1 ≤ 1 + ((j + 1 : Nat) : Int) % 3 ∧ 1 + ((j + 1 : Nat) : Int) % 3 ≤ 3; omega
  · show (((logE f ks j).length : Nat) : Int) < ((j + 1 : Nat) : Int) ∧ ((j + 1 : Nat) : Int) ≤ 1000000; omega
theorem apply_log (ks : List ByteArray) (f : ByteArray → ByteArray) (j : Nat) (hj : j < 512) (hk : 1 ≤ (keyAt ks j).size ∧ (keyAt ks j).size ≤ 64) (ht : (f (keyAt ks j)).size ≤ 1024) : applyV (logS f ks j) (rcW (simX (j + 1) (keyAt ks j) (f (keyAt ks j)))) = logS f ks (j + 1) := by
  unfold applyV
  rw [chk_log ks f j hj hk ht]; rfl
theorem chk_cut (ks : List ByteArray) (n c : Nat) (hc : c ≤ 512) : chkV (logS fX ks n) (rcE ⟨2, c, true⟩) = 0 := by
  show (if (2 : Int) = 1 then _ else if rightT (fenT c) = true then (0 : Int) else 1) = 0
  rw [if_neg (by decide)]; exact if_pos (two_right hc)
theorem apply_cut (ks : List ByteArray) (n c : Nat) (hn : n ≤ 60) (hc : c ≤ n) : applyV (logS fX ks n) (rcE ⟨2, c, true⟩) = fenS ks c := by
  have hS : (logS fX ks n).ok := log_ok (by decide) fX ks n (by omega) false
  have hi := S15.fold_i hS
  have hl : (logS fX ks n).es.length = n := logE_len fX ks n
  unfold applyV
  rw [chk_cut ks n c (by omega)]
  show adoptV (logS fX ks n) ⟨2, c, true⟩ = fenS ks c
  unfold adoptV
  split
  · rename_i h
    have h' : (logS fX ks n).fold.i ≤ (c : Int) := h
    have : c = n := by omega
    subst this; rfl
  · show S15.mk (fenT c) ((logE fX ks n).take c) false = _
    rw [logE_take fX ks hc]; rfl
theorem fen_ok (ks : List ByteArray) (c : Nat) (hc : c ≤ 60) : (fenS ks c).ok := log_ok (two_right (by omega)) fX ks c (by omega) false
theorem fen_i (ks : List ByteArray) (c : Nat) (hc : c ≤ 60) : (fenS ks c).fold.i = c := by
  rw [S15.fold_i (fen_ok ks c hc)]
  show (((logE fX ks c).length : Nat) : Int) = c
  rw [logE_len]
theorem fen_get (ks : List ByteArray) (c : Nat) (k : ByteArray) : (gX (fenS ks c).fold.t k).b ≤ c := by
  have hf := fold_log (S := fenS ks c) (logE_log fX ks c)
  have hl : (fenS ks c).es.length = c := logE_len fX ks c
  rw [hl] at hf
  rcases gX_val hf.ris k with h | ⟨x, hx, h⟩
  · rw [h]; simp [VX.zero]
  · rw [← h]; exact (hf.vals x hx).2
theorem fen_no (ks : List ByteArray) (c : Nat) (hc : c ≤ 60) : chkV (fenS ks c) (rcW (fenX c 1)) = 8 := by
  have hi := fen_i ks c hc
  show (if (1 : Int) = 1 then cwV (fenS ks c) (fenX c 1) else _) = (8 : Int)
  rw [if_pos rfl]
  have hat : atT (fenS ks c).table (fenX c 1).i = (2, (c : Int) + 1) := at_two (by show (1 : Int) ≤ (c : Int) + 1 ∧ (c : Int) + 1 ≤ 512; omega) (two_right (by omega)) (by show (c : Int) < (c : Int) + 1; omega)
  unfold cwV
  rw [hat, if_neg (by simp [fenS]), if_neg (by rw [hi]; simp [fenX]), if_neg (by simp [fenX]; omega), if_pos (by simp [fenX])]
theorem fen_yes (ks : List ByteArray) (c : Nat) (hc : c ≤ 60) : chkV (fenS ks c) (rcW (fenX c 2)) = 0 := by
  have hl : (fenS ks c).es.length = c := logE_len fX ks c
  show (if (1 : Int) = 1 then cwV (fenS ks c) (fenX c 2) else _) = (0 : Int)
  rw [if_pos rfl]
  refine cw_log (fen_ok ks c hc) (logE_log fX ks c) rfl (by omega) _ ?_ ?_ ?_ ?_ rfl (by show 1 ≤ ByteArray.size ⟨#[107]⟩ ∧ ByteArray.size ⟨#[107]⟩ ≤ 64; decide) (by show tY.size ≤ 1024; decide)
  · rw [hl]; rfl
  · exact at_two (by show (1 : Int) ≤ (c : Int) + 1 ∧ (c : Int) + 1 ≤ 512; omega) (two_right (by omega)) (by show (c : Int) < (c : Int) + 1; omega)
  · show 1 ≤ 1 + ((c : Int) + 1) % 3 ∧ 1 + ((c : Int) + 1) % 3 ≤ 3; omega
  · rw [hl]; show (c : Int) < 1000 ∧ (1000 : Int) ≤ 1000000; omega
theorem fen_end (ks : List ByteArray) (c : Nat) : (applyV (fenS ks c) (rcW (fenX c 1))) = fenS ks c ∨ True := .inr trivial
theorem fenX_ok (c : Nat) (hc : c ≤ 60) (e : Int) : (fenX c e).ok := by
  unfold EnX.ok SX.ok
  simp only [EnX.se, fenX]; omega
theorem simX_ok (j : Nat) (key tx : ByteArray) : (simX j key tx).ok := by
  unfold EnX.ok SX.ok
  simp only [EnX.se, simX]; omega
theorem last_text (ks : List ByteArray) (c : Nat) : (gX (writeV (fenS ks c) (fenX c 2)).fold.t ⟨#[107]⟩).d = tY := by
  have hf := fold_log (S := fenS ks c) (logE_log fX ks c)
  rw [fold_write]
  show (gX ((fenS ks c).fold.t.set ⟨#[107]⟩ (fenX c 2).v) ⟨#[107]⟩).d = tY
  rw [gX_set hf.ris]; rfl
section specs
variable {B : Base}
theorem fenced_spec (a : Option Addr) (m cc : Nat) (ks : List ByteArray) (hm : ks.length = m) (hmb : m ≤ 9223372036854775807) (hsrc : RdS Try.prog B [] 1 a m cc (ks.map Value.string)) (cut : Int) :
    Fspec Try.prog B 3 #[.slice a m cc, .int .i64 cut] [] (fun v A' => v = .bool true ∧ A' = []) := by
  obtain ⟨n, hn⟩ : ∃ n, n = min m 60 := ⟨_, rfl⟩
  have hn60 : n ≤ 60 ∧ n ≤ m := by omega
  have hmin : min (m : Int) 60 = (n : Int) := by omega
  have htx : ∀ k, (fX k).size ≤ 1024 := fun k => by show tX.size ≤ 1024; decide
  refine spec_of (args := [_, _]) Try.func3 rfl rfl rfl ?_
  repeat' (first
    | refine Wc_seq ?_
    | refine thenQ_normal ?_
    | refine Wc_cond_t (h := ?_)
    | refine Wc_cond_f (h := ?_)
    | refine Wc_ret ?_
    | refine thenQ_ret ?_
    | refine Wc_block ?_
    | refine blkQ_normal ?_
    | refine blkQ_ret ?_
    | refine Wc_exit ?_
    | refine thenQ_exit ?_
    | refine blkQ_hit ?_
    | refine blkQ_miss rfl ?_
    | refine Wc_skip ?_
    | refine Wc_label ?_
    | refine loopQ_exit ?_
    | refine loopQ_ret ?_
    | refine loopQ_normal ?_
    | (refine Wc_region (id := 0) ?_; intro K hK; refine Wl_assign (k := ?_); (refine Wl_nil (hK _ _ ?_); clear hK K))
    | (refine Wc_region (id := 1) ?_; intro K hK; ((refine Wl_call (hs := awake15) (k := ?_); rintro v A' ⟨rfl, rfl⟩; simp only [List.cons_append, List.nil_append])) <;> (refine Wl_not (k' := ?_); (refine Wl_nil (hK _ _ ?_); clear hK K)))
    | (refine Wc_region (id := 2) ?_; intro K hK; refine Wl_assign (k := ?_); (refine Wl_nil (hK _ _ ?_); clear hK K))
    | (refine Wc_region (id := 3) ?_; intro K hK; refine Wl_build (k := ?_); ((refine Wl_lit1 (cs := epC ⟨1, 0, false⟩) (k := ?_); intro r16)) <;> (((refine Wl_call (hs := snew_spec [cb r16 (epsC oneT) 29] oneT (some ⟨r16, 0, none⟩) 1 (rds_cb .head rfl) (by decide)) (k := ?_); rintro v A' ⟨st, rfl, rfl⟩; simp only [List.cons_append, List.nil_append])) <;> (refine Wl_move (k := ?_); refine Wl_extract (k' := ?_); refine Wl_extract (k' := ?_); refine Wl_assign (k := ?_); refine Wl_assign (k := ?_); (refine Wl_nil (hK _ _ ?_); clear hK K))))
    | (refine Wc_region (id := 4) ?_; intro K hK; refine Wl_move (k := ?_); refine Wl_len_sl (k' := ?_); ((refine Wl_min (k' := ?_); rw [hmin])) <;> (refine Wl_assign (k := ?_); (refine Wl_nil (hK _ _ ?_); clear hK K)))
    | (refine Wc_region (id := 5) ?_; intro K hK; refine Wl_assign (k := ?_); (refine Wl_nil (hK _ _ ?_); clear hK K))
    | (refine Wc_cond (ht := (fun ht => ?_)) (hf := (fun ht => ?_)) <;> (try simp at ht) <;> (try (exfalso; omega))))
  refine Wc_loop (α := Nat) (fun j => [(0, .slice a m cc), (1, .int .i64 cut), (5, .pointer (some ⟨st, 0, none⟩)), (7, .int .i64 n), (8, .int .i64 ((j + 1 : Nat) : Int))]) (fun j => [StP st (logS fX ks j)])
    (fun j => j ≤ n) (fun j => n - j) 0 (by omega) ⟨rfl, rfl, rfl, rfl, rfl, trivial⟩ (by (repeat (first | exact Ent.refl _ | exact Ent.nil | refine Ent.take (by (repeat (first | exact Out.head | apply Out.tail)); (first | done | fail)) ?_ | refine Ent.drop1 ?_))) ?_
  intro j G hj
  simp only [ov]
  by_cases hlt : j < n
  · obtain ⟨p, rfl⟩ : ∃ p, a = some p := by
      cases a with
      | none => have := hsrc.nil rfl; omega
      | some p => exact ⟨p, rfl⟩
    have hjm : j < ks.length := by omega
    have hkey : (ks.map Value.string)[j]? = some (.string (keyAt ks j)) := by
      rw [List.getElem?_map, List.getElem?_eq_getElem hjm]; simp [keyAt, List.getElem?_eq_getElem hjm]
    have hsub : ((j + 1 : Nat) : Int) - 1 = ((j : Nat) : Int) := by omega
    have hadd : ((j + 1 : Nat) : Int) + 1 = ((j + 1 + 1 : Nat) : Int) := by omega
    have hok : (logS fX ks j).ok := log_ok (by decide) fX ks j (by omega) false
    repeat' (first
      | refine Wc_seq ?_
      | refine thenQ_normal ?_
      | refine Wc_cond_t (h := ?_)
      | refine Wc_cond_f (h := ?_)
      | refine Wc_ret ?_
      | refine thenQ_ret ?_
      | refine Wc_block ?_
      | refine blkQ_normal ?_
      | refine blkQ_ret ?_
      | refine Wc_exit ?_
      | refine thenQ_exit ?_
      | refine blkQ_hit ?_
      | refine blkQ_miss rfl ?_
      | refine Wc_skip ?_
      | refine Wc_label ?_
      | refine loopQ_exit ?_
      | refine loopQ_ret ?_
      | refine loopQ_normal ?_
      | (refine Wc_region (id := 6) ?_; intro K hK; refine Wl_move (k := ?_); refine Wl_move (k := ?_); refine Wl_leq (k' := ?_); (refine Wl_nil (hK _ _ ?_); clear hK K))
      | (refine Wc_region (id := 7) ?_; intro K hK; refine Wl_move (k := ?_); ((refine Wl_add (k' := ?_); rw [hadd])) <;> (refine Wl_assign (k := ?_); (refine Wl_nil (hK _ _ ?_); clear hK K)))
      | (refine Wc_region (id := 8) ?_; intro K hK; refine Wl_move (k := ?_); refine Wl_move (k := ?_); ((refine Wl_sub (k' := ?_); rw [hsub])) <;> (((refine Wl_index_any (k' := ?_))) <;> (((refine Wl_loadG (v := .string (keyAt ks j)) (j := j) (hq := by simp) (hr := hsrc.any) (hv := hkey) (k := ?_))) <;> (refine Wl_len_str (k' := ?_); refine Wl_lss (k' := ?_); refine Wl_move (k := ?_); ((first | (refine Wl_guard (k := ?_); refine Wl_move (k := ?_)) | refine Wl_gno (k := ?_) | ((refine Wl_split (yes := (fun ht => ?_)) (no := (fun ht => ?_)) <;> (try simp at ht) <;> (try (exfalso; omega))) <;> (first | (refine Wl_guard (k := ?_); refine Wl_move (k := ?_)) | refine Wl_gno (k := ?_))))) <;> (((first | (refine Wl_guard (k := ?_); refine Wl_move (k := ?_)) | refine Wl_gno (k := ?_) | ((refine Wl_split (yes := (fun ht => ?_)) (no := (fun ht => ?_)) <;> (try simp at ht) <;> (try (exfalso; omega))) <;> (first | (refine Wl_guard (k := ?_); refine Wl_move (k := ?_)) | refine Wl_gno (k := ?_))))) <;> (((first | (refine Wl_guard (k := ?_); (refine Wl_sub (k' := ?_); rw [hsub])) | refine Wl_gno (k := ?_) | ((refine Wl_split (yes := (fun ht => ?_)) (no := (fun ht => ?_)) <;> (try simp at ht) <;> (try (exfalso; omega))) <;> (first | (refine Wl_guard (k := ?_); (refine Wl_sub (k' := ?_); rw [hsub])) | refine Wl_gno (k := ?_))))) <;> (((first | (refine Wl_guard (k := ?_); (refine Wl_index_any (k' := ?_))) | refine Wl_gno (k := ?_) | ((refine Wl_split (yes := (fun ht => ?_)) (no := (fun ht => ?_)) <;> (try simp at ht) <;> (try (exfalso; omega))) <;> (first | (refine Wl_guard (k := ?_); (refine Wl_index_any (k' := ?_))) | refine Wl_gno (k := ?_))))) <;> (((first | (refine Wl_guard (k := ?_); (refine Wl_loadG (v := .string (keyAt ks j)) (j := j) (hq := by simp) (hr := hsrc.any) (hv := hkey) (k := ?_))) | refine Wl_gno (k := ?_) | ((refine Wl_split (yes := (fun ht => ?_)) (no := (fun ht => ?_)) <;> (try simp at ht) <;> (try (exfalso; omega))) <;> (first | (refine Wl_guard (k := ?_); (refine Wl_loadG (v := .string (keyAt ks j)) (j := j) (hq := by simp) (hr := hsrc.any) (hv := hkey) (k := ?_))) | refine Wl_gno (k := ?_))))) <;> (((first | (refine Wl_guard (k := ?_); refine Wl_len_str (k' := ?_)) | refine Wl_gno (k := ?_) | ((refine Wl_split (yes := (fun ht => ?_)) (no := (fun ht => ?_)) <;> (try simp at ht) <;> (try (exfalso; omega))) <;> (first | (refine Wl_guard (k := ?_); refine Wl_len_str (k' := ?_)) | refine Wl_gno (k := ?_))))) <;> (((first | (refine Wl_guard (k := ?_); refine Wl_gtr (k' := ?_)) | refine Wl_gno (k := ?_) | ((refine Wl_split (yes := (fun ht => ?_)) (no := (fun ht => ?_)) <;> (try simp at ht) <;> (try (exfalso; omega))) <;> (first | (refine Wl_guard (k := ?_); refine Wl_gtr (k' := ?_)) | refine Wl_gno (k := ?_))))) <;> ((first | refine Wl_pick_t (k := ?_) | refine Wl_pick_f (k := ?_) | refine Wl_pick (k := ?_)); (refine Wl_nil (hK _ _ ?_); clear hK K))))))))))))
      | (refine Wc_region (id := 9) ?_; intro K hK; refine Wl_assign (k := ?_); (refine Wl_nil (hK _ _ ?_); clear hK K))
      | (refine Wc_region (id := 10) ?_; intro K hK; refine Wl_move (k := ?_); refine Wl_move (k := ?_); refine Wl_move (k := ?_); refine Wl_move (k := ?_); ((refine Wl_sub (k' := ?_); rw [hsub])) <;> (((refine Wl_index_any (k' := ?_))) <;> (((refine Wl_loadG (v := .string (keyAt ks j)) (j := j) (hq := by simp) (hr := hsrc.any) (hv := hkey) (k := ?_))) <;> (((refine Wl_call (hs := simple_spec ((j + 1 : Nat) : Int) (by omega) (keyAt ks j) tX) (k := ?_); rintro v A' ⟨rfl, rfl⟩; simp only [List.cons_append, List.nil_append]; simp only [EnX.c])) <;> (refine Wl_build (k := ?_); ((refine Wl_call (hs := apply_spec st (logS fX ks j) hok (rcW (simX (j + 1) (keyAt ks j) tX)) (.inl rfl) (simX_ok ..) (by show _ ≤ ((j + 1 : Nat) : Int) ∧ ((j + 1 : Nat) : Int) ≤ _; omega)) (k := ?_); rintro v A' ⟨rfl, rfl⟩; simp only [List.cons_append, List.nil_append]; rw [show chkV (logS fX ks j) (rcW (simX (j + 1) (keyAt ks j) tX)) = 0 from chk_log ks fX j (by omega) (by omega) (htx _), show applyV (logS fX ks j) (rcW (simX (j + 1) (keyAt ks j) tX)) = logS fX ks (j + 1) from apply_log ks fX j (by omega) (by omega) (htx _)])) <;> (refine Wl_neq (k' := ?_); (refine Wl_nil (hK _ _ ?_); clear hK K)))))))
      | (refine Wc_region (id := 11) ?_; intro K hK; refine Wl_assign (k := ?_); (refine Wl_nil (hK _ _ ?_); clear hK K))
      | (refine Wc_cond (ht := (fun ht => ?_)) (hf := (fun ht => ?_)) <;> (try simp at ht) <;> (try (exfalso; omega))))
    all_goals first
      | exact ⟨Or.inr rfl, .bool true, [], Ent.nil, res1 rfl rfl, rfl, rfl⟩
      | exact ⟨j + 1, by omega, by omega, ⟨rfl, rfl, rfl, rfl, rfl, trivial⟩, (by (repeat (first | exact Ent.refl _ | exact Ent.nil | refine Ent.take (by (repeat (first | exact Out.head | apply Out.tail)); (first | done | fail)) ?_ | refine Ent.drop1 ?_)); (first | done | fail))⟩
  obtain rfl : j = n := by omega
  by_cases hcut : cut < 0 ∨ (j : Int) < cut
  · repeat' (first
      | refine Wc_seq ?_
      | refine thenQ_normal ?_
      | refine Wc_cond_t (h := ?_)
      | refine Wc_cond_f (h := ?_)
      | refine Wc_ret ?_
      | refine thenQ_ret ?_
      | refine Wc_block ?_
      | refine blkQ_normal ?_
      | refine blkQ_ret ?_
      | refine Wc_exit ?_
      | refine thenQ_exit ?_
      | refine blkQ_hit ?_
      | refine blkQ_miss rfl ?_
      | refine Wc_skip ?_
      | refine Wc_label ?_
      | refine loopQ_exit ?_
      | refine loopQ_ret ?_
      | refine loopQ_normal ?_
      | (refine Wc_region (id := 6) ?_; intro K hK; refine Wl_move (k := ?_); refine Wl_move (k := ?_); refine Wl_leq (k' := ?_); (refine Wl_nil (hK _ _ ?_); clear hK K))
      | (refine Wc_region (id := 12) ?_; intro K hK; refine Wl_move (k := ?_); refine Wl_lss (k' := ?_); refine Wl_move (k := ?_); ((first | (refine Wl_guard (k := ?_); refine Wl_move (k := ?_)) | refine Wl_gno (k := ?_) | ((refine Wl_split (yes := (fun ht => ?_)) (no := (fun ht => ?_)) <;> (try simp at ht) <;> (try (exfalso; omega))) <;> (first | (refine Wl_guard (k := ?_); refine Wl_move (k := ?_)) | refine Wl_gno (k := ?_))))) <;> (((first | (refine Wl_guard (k := ?_); refine Wl_move (k := ?_)) | refine Wl_gno (k := ?_) | ((refine Wl_split (yes := (fun ht => ?_)) (no := (fun ht => ?_)) <;> (try simp at ht) <;> (try (exfalso; omega))) <;> (first | (refine Wl_guard (k := ?_); refine Wl_move (k := ?_)) | refine Wl_gno (k := ?_))))) <;> (((first | (refine Wl_guard (k := ?_); refine Wl_gtr (k' := ?_)) | refine Wl_gno (k := ?_) | ((refine Wl_split (yes := (fun ht => ?_)) (no := (fun ht => ?_)) <;> (try simp at ht) <;> (try (exfalso; omega))) <;> (first | (refine Wl_guard (k := ?_); refine Wl_gtr (k' := ?_)) | refine Wl_gno (k := ?_))))) <;> ((first | refine Wl_pick_t (k := ?_) | refine Wl_pick_f (k := ?_) | refine Wl_pick (k := ?_)); (refine Wl_nil (hK _ _ ?_); clear hK K)))))
      | (refine Wc_region (id := 13) ?_; intro K hK; refine Wl_assign (k := ?_); (refine Wl_nil (hK _ _ ?_); clear hK K))
      | (refine Wc_cond (ht := (fun ht => ?_)) (hf := (fun ht => ?_)) <;> (try simp at ht) <;> (try (exfalso; omega))))
    all_goals exact ⟨Or.inr rfl, .bool true, [], Ent.nil, res1 rfl rfl, rfl, rfl⟩
  obtain ⟨c, rfl⟩ := Int.eq_ofNat_of_zero_le (show 0 ≤ cut by omega)
  have hcj : c ≤ j := by omega
  have hok : (logS fX ks j).ok := log_ok (by decide) fX ks j (by omega) false
  repeat' (first
    | refine Wc_seq ?_
    | refine thenQ_normal ?_
    | refine Wc_cond_t (h := ?_)
    | refine Wc_cond_f (h := ?_)
    | refine Wc_ret ?_
    | refine thenQ_ret ?_
    | refine Wc_block ?_
    | refine blkQ_normal ?_
    | refine blkQ_ret ?_
    | refine Wc_exit ?_
    | refine thenQ_exit ?_
    | refine blkQ_hit ?_
    | refine blkQ_miss rfl ?_
    | refine Wc_skip ?_
    | refine Wc_label ?_
    | refine loopQ_exit ?_
    | refine loopQ_ret ?_
    | refine loopQ_normal ?_
    | (refine Wc_region (id := 6) ?_; intro K hK; refine Wl_move (k := ?_); refine Wl_move (k := ?_); refine Wl_leq (k' := ?_); (refine Wl_nil (hK _ _ ?_); clear hK K))
    | (refine Wc_region (id := 12) ?_; intro K hK; refine Wl_move (k := ?_); refine Wl_lss (k' := ?_); refine Wl_move (k := ?_); ((first | (refine Wl_guard (k := ?_); refine Wl_move (k := ?_)) | refine Wl_gno (k := ?_) | ((refine Wl_split (yes := (fun ht => ?_)) (no := (fun ht => ?_)) <;> (try simp at ht) <;> (try (exfalso; omega))) <;> (first | (refine Wl_guard (k := ?_); refine Wl_move (k := ?_)) | refine Wl_gno (k := ?_))))) <;> (((first | (refine Wl_guard (k := ?_); refine Wl_move (k := ?_)) | refine Wl_gno (k := ?_) | ((refine Wl_split (yes := (fun ht => ?_)) (no := (fun ht => ?_)) <;> (try simp at ht) <;> (try (exfalso; omega))) <;> (first | (refine Wl_guard (k := ?_); refine Wl_move (k := ?_)) | refine Wl_gno (k := ?_))))) <;> (((first | (refine Wl_guard (k := ?_); refine Wl_gtr (k' := ?_)) | refine Wl_gno (k := ?_) | ((refine Wl_split (yes := (fun ht => ?_)) (no := (fun ht => ?_)) <;> (try simp at ht) <;> (try (exfalso; omega))) <;> (first | (refine Wl_guard (k := ?_); refine Wl_gtr (k' := ?_)) | refine Wl_gno (k := ?_))))) <;> ((first | refine Wl_pick_t (k := ?_) | refine Wl_pick_f (k := ?_) | refine Wl_pick (k := ?_)); (refine Wl_nil (hK _ _ ?_); clear hK K)))))
    | (refine Wc_region (id := 14) ?_; intro K hK; refine Wl_move (k := ?_); refine Wl_move (k := ?_); refine Wl_build (k := ?_); refine Wl_build (k := ?_); ((refine Wl_call (hs := apply_spec st (logS fX ks j) hok (rcE ⟨2, c, true⟩) (.inr rfl) enZ_ok (by show _ ≤ (0 : Int) ∧ (0 : Int) ≤ _; omega)) (k := ?_); rintro v A' ⟨rfl, rfl⟩; simp only [List.cons_append, List.nil_append]; rw [chk_cut ks j c (by omega), apply_cut ks j c (by omega) hcj])) <;> (refine Wl_neq (k' := ?_); (refine Wl_nil (hK _ _ ?_); clear hK K)))
    | (refine Wc_region (id := 15) ?_; intro K hK; refine Wl_assign (k := ?_); (refine Wl_nil (hK _ _ ?_); clear hK K))
    | (refine Wc_region (id := 16) ?_; intro K hK; refine Wl_move (k := ?_); ((refine Wl_call (hs := slast_spec st (fenS ks c)) (k := ?_); rintro v A' ⟨rfl, rfl⟩; simp only [List.cons_append, List.nil_append]; rw [fen_i ks c (by omega)])) <;> (refine Wl_field (k' := ?_); refine Wl_move (k := ?_); refine Wl_neq (k' := ?_); refine Wl_move (k := ?_); ((first | (refine Wl_guard (k := ?_); refine Wl_move (k := ?_)) | refine Wl_gno (k := ?_) | ((refine Wl_split (yes := (fun ht => ?_)) (no := (fun ht => ?_)) <;> (try simp at ht) <;> (try (exfalso; omega))) <;> (first | (refine Wl_guard (k := ?_); refine Wl_move (k := ?_)) | refine Wl_gno (k := ?_))))) <;> (((first | (refine Wl_guard (k := ?_); (refine Wl_call (hs := smaster_spec st (fenS ks c) (by show (2 : Nat) ≤ 64; omega) ⟨2, c, true⟩ rfl) (k := ?_); rintro v A' ⟨rfl, rfl⟩; simp only [List.cons_append, List.nil_append])) | refine Wl_gno (k := ?_) | ((refine Wl_split (yes := (fun ht => ?_)) (no := (fun ht => ?_)) <;> (try simp at ht) <;> (try (exfalso; omega))) <;> (first | (refine Wl_guard (k := ?_); (refine Wl_call (hs := smaster_spec st (fenS ks c) (by show (2 : Nat) ≤ 64; omega) ⟨2, c, true⟩ rfl) (k := ?_); rintro v A' ⟨rfl, rfl⟩; simp only [List.cons_append, List.nil_append])) | refine Wl_gno (k := ?_))))) <;> (((first | (refine Wl_guard (k := ?_); refine Wl_neq (k' := ?_)) | refine Wl_gno (k := ?_) | ((refine Wl_split (yes := (fun ht => ?_)) (no := (fun ht => ?_)) <;> (try simp at ht) <;> (try (exfalso; omega))) <;> (first | (refine Wl_guard (k := ?_); refine Wl_neq (k' := ?_)) | refine Wl_gno (k := ?_))))) <;> ((first | refine Wl_pick_t (k := ?_) | refine Wl_pick_f (k := ?_) | refine Wl_pick (k := ?_)); refine Wl_move (k := ?_); ((first | (refine Wl_guard (k := ?_); refine Wl_move (k := ?_)) | refine Wl_gno (k := ?_) | ((refine Wl_split (yes := (fun ht => ?_)) (no := (fun ht => ?_)) <;> (try simp at ht) <;> (try (exfalso; omega))) <;> (first | (refine Wl_guard (k := ?_); refine Wl_move (k := ?_)) | refine Wl_gno (k := ?_))))) <;> (((first | (refine Wl_guard (k := ?_); (refine Wl_call (hs := sconfig_spec st (fenS ks c)) (k := ?_); rintro v A' ⟨rfl, rfl⟩; simp only [List.cons_append, List.nil_append]; rw [show (((fenS ks c).table.length : Nat) : Int) = 2 from rfl])) | refine Wl_gno (k := ?_) | ((refine Wl_split (yes := (fun ht => ?_)) (no := (fun ht => ?_)) <;> (try simp at ht) <;> (try (exfalso; omega))) <;> (first | (refine Wl_guard (k := ?_); (refine Wl_call (hs := sconfig_spec st (fenS ks c)) (k := ?_); rintro v A' ⟨rfl, rfl⟩; simp only [List.cons_append, List.nil_append]; rw [show (((fenS ks c).table.length : Nat) : Int) = 2 from rfl])) | refine Wl_gno (k := ?_))))) <;> (((first | (refine Wl_guard (k := ?_); refine Wl_neq (k' := ?_)) | refine Wl_gno (k := ?_) | ((refine Wl_split (yes := (fun ht => ?_)) (no := (fun ht => ?_)) <;> (try simp at ht) <;> (try (exfalso; omega))) <;> (first | (refine Wl_guard (k := ?_); refine Wl_neq (k' := ?_)) | refine Wl_gno (k := ?_))))) <;> ((first | refine Wl_pick_t (k := ?_) | refine Wl_pick_f (k := ?_) | refine Wl_pick (k := ?_)); (refine Wl_nil (hK _ _ ?_); clear hK K)))))))))
    | (refine Wc_region (id := 17) ?_; intro K hK; refine Wl_assign (k := ?_); (refine Wl_nil (hK _ _ ?_); clear hK K))
    | (refine Wc_region (id := 18) ?_; intro K hK; refine Wl_move (k := ?_); refine Wl_assign (k := ?_); (refine Wl_nil (hK _ _ ?_); clear hK K))
    | (refine Wc_cond (ht := (fun ht => ?_)) (hf := (fun ht => ?_)) <;> (try simp at ht) <;> (try (exfalso; omega))))
  refine Wc_loop (α := Nat) (fun i => [(0, .slice a m cc), (1, .int .i64 (c : Nat)), (5, .pointer (some ⟨st, 0, none⟩)), (7, .int .i64 j), (9, .int .i64 (i : Nat))]) (fun i => [StP st (fenS ks c)])
    (fun i => i ≤ j) (fun i => j - i) c hcj ⟨rfl, rfl, rfl, rfl, rfl, trivial⟩ (by (repeat (first | exact Ent.refl _ | exact Ent.nil | refine Ent.take (by (repeat (first | exact Out.head | apply Out.tail)); (first | done | fail)) ?_ | refine Ent.drop1 ?_))) ?_
  intro i G2 hi
  simp only [ov]
  by_cases hij : i < j
  · obtain ⟨p, rfl⟩ : ∃ p, a = some p := by
      cases a with
      | none => have := hsrc.nil rfl; omega
      | some p => exact ⟨p, rfl⟩
    have him : i < ks.length := by omega
    have hkey : (ks.map Value.string)[i]? = some (.string (keyAt ks i)) := by
      rw [List.getElem?_map, List.getElem?_eq_getElem him]; simp [keyAt, List.getElem?_eq_getElem him]
    have hg := fen_get ks c (keyAt ks i)
    repeat' (first
      | refine Wc_seq ?_
      | refine thenQ_normal ?_
      | refine Wc_cond_t (h := ?_)
      | refine Wc_cond_f (h := ?_)
      | refine Wc_ret ?_
      | refine thenQ_ret ?_
      | refine Wc_block ?_
      | refine blkQ_normal ?_
      | refine blkQ_ret ?_
      | refine Wc_exit ?_
      | refine thenQ_exit ?_
      | refine blkQ_hit ?_
      | refine blkQ_miss rfl ?_
      | refine Wc_skip ?_
      | refine Wc_label ?_
      | refine loopQ_exit ?_
      | refine loopQ_ret ?_
      | refine loopQ_normal ?_
      | (refine Wc_region (id := 19) ?_; intro K hK; refine Wl_move (k := ?_); refine Wl_move (k := ?_); refine Wl_lss (k' := ?_); (refine Wl_nil (hK _ _ ?_); clear hK K))
      | (refine Wc_region (id := 20) ?_; intro K hK; refine Wl_move (k := ?_); refine Wl_add (k' := ?_); refine Wl_assign (k := ?_); (refine Wl_nil (hK _ _ ?_); clear hK K))
      | (refine Wc_region (id := 21) ?_; intro K hK; refine Wl_move (k := ?_); refine Wl_move (k := ?_); refine Wl_move (k := ?_); ((refine Wl_index_any (k' := ?_))) <;> (((refine Wl_loadG (v := .string (keyAt ks i)) (j := i) (hq := by simp) (hr := hsrc.any) (hv := hkey) (k := ?_))) <;> (((refine Wl_call (hs := sget_spec st (fenS ks c) (keyAt ks i)) (k := ?_); rintro v A' ⟨rfl, rfl⟩; simp only [List.cons_append, List.nil_append]; simp only [VX.C])) <;> (((refine Wl_alloc (k := ?_); intro r10)) <;> (refine Wl_storeR (ho' := rfl) (k := ?_); (refine Wl_nil (hK _ _ ?_); clear hK K))))))
      | (refine Wc_region (id := 22) ?_; intro K hK; refine Wl_fieldAddr (k := ?_); refine Wl_fieldAddr (k := ?_); refine Wl_load (k := ?_); refine Wl_move (k := ?_); refine Wl_gtr (k' := ?_); (refine Wl_nil (hK _ _ ?_); clear hK K))
      | (refine Wc_region (id := 23) ?_; intro K hK; refine Wl_assign (k := ?_); (refine Wl_nil (hK _ _ ?_); clear hK K))
      | (refine Wc_cond (ht := (fun ht => ?_)) (hf := (fun ht => ?_)) <;> (try simp at ht) <;> (try (exfalso; omega))))
    all_goals exact ⟨i + 1, by omega, by omega, ⟨rfl, rfl, rfl, rfl, int_succ i, trivial⟩, (by (repeat (first | exact Ent.refl _ | exact Ent.nil | refine Ent.take (by (repeat (first | exact Out.head | apply Out.tail)); (first | done | fail)) ?_ | refine Ent.drop1 ?_)); (first | done | fail))⟩
  have hok2 := fen_ok ks c (by omega)
  have hno := fen_no ks c (by omega)
  have hyes := fen_yes ks c (by omega)
  have ha1 : applyV (fenS ks c) (rcW (fenX c 1)) = fenS ks c := by unfold applyV; rw [hno]; rfl
  have ha2 : applyV (fenS ks c) (rcW (fenX c 2)) = writeV (fenS ks c) (fenX c 2) := by unfold applyV; rw [hyes]; rfl
  have hlt := last_text ks c
  have hfe : (writeV (fenS ks c) (fenX c 2)).fold.e = 2 := by rw [fold_write]; rfl
  have hfi : (writeV (fenS ks c) (fenX c 2)).fold.i = (c : Int) + 1 := by rw [fold_write]; rfl
  repeat' (first
    | refine Wc_seq ?_
    | refine thenQ_normal ?_
    | refine Wc_cond_t (h := ?_)
    | refine Wc_cond_f (h := ?_)
    | refine Wc_ret ?_
    | refine thenQ_ret ?_
    | refine Wc_block ?_
    | refine blkQ_normal ?_
    | refine blkQ_ret ?_
    | refine Wc_exit ?_
    | refine thenQ_exit ?_
    | refine blkQ_hit ?_
    | refine blkQ_miss rfl ?_
    | refine Wc_skip ?_
    | refine Wc_label ?_
    | refine loopQ_exit ?_
    | refine loopQ_ret ?_
    | refine loopQ_normal ?_
    | (refine Wc_region (id := 19) ?_; intro K hK; refine Wl_move (k := ?_); refine Wl_move (k := ?_); refine Wl_lss (k' := ?_); (refine Wl_nil (hK _ _ ?_); clear hK K))
    | (refine Wc_region (id := 24) ?_; intro K hK; refine Wl_move (k := ?_); refine Wl_add (k' := ?_); ((refine Wl_call (hs := simple_spec ((c : Int) + 1) (by omega) ⟨#[107]⟩ tY) (k := ?_); rintro v A' ⟨rfl, rfl⟩; simp only [List.cons_append, List.nil_append]; simp only [EnX.c])) <;> (((refine Wl_alloc (k := ?_); intro r11)) <;> (refine Wl_storeR (ho' := rfl) (k := ?_); (refine Wl_nil (hK _ _ ?_); clear hK K))))
    | (refine Wc_region (id := 25) ?_; intro K hK; refine Wl_fieldAddr (k := ?_); refine Wl_store (ho := rfl) (k := ?_); (refine Wl_nil (hK _ _ ?_); clear hK K))
    | (refine Wc_region (id := 26) ?_; intro K hK; refine Wl_move (k := ?_); refine Wl_loadR (k := ?_); refine Wl_build (k := ?_); ((refine Wl_call (hs := apply_spec st (fenS ks c) hok2 (rcW (fenX c 1)) (.inl rfl) (fenX_ok c (by omega) 1) (by show _ ≤ (c : Int) + 1 ∧ (c : Int) + 1 ≤ _; omega)) (k := ?_); rintro v A' ⟨rfl, rfl⟩; simp only [List.cons_append, List.nil_append]; rw [hno, ha1])) <;> (refine Wl_neq (k' := ?_); (refine Wl_nil (hK _ _ ?_); clear hK K)))
    | (refine Wc_region (id := 27) ?_; intro K hK; refine Wl_assign (k := ?_); (refine Wl_nil (hK _ _ ?_); clear hK K))
    | (refine Wc_region (id := 28) ?_; intro K hK; refine Wl_fieldAddr (k := ?_); refine Wl_fieldAddr (k := ?_); refine Wl_store (ho := rfl) (k := ?_); (refine Wl_nil (hK _ _ ?_); clear hK K))
    | (refine Wc_drawF (id := 29) (M := ([cb r11 (fenX c 2).c 35])) (Ls := [112, 115, 120, 126, 127]) (hp := (Pick.perm (by (repeat (first | exact Pick.nil | apply Pick.cons (by (repeat (first | exact Out.head | apply Out.tail)); (first | done | fail)))); (first | done | fail)))) (h := ?_); intro K hK; refine Wl_move (k := ?_); refine Wl_loadRF (k := ?_); refine Wl_build (k := ?_); ((refine Wl_call (hs := apply_spec st (fenS ks c) hok2 (rcW (fenX c 2)) (.inl rfl) (fenX_ok c (by omega) 2) (by show _ ≤ (c : Int) + 1 ∧ (c : Int) + 1 ≤ _; omega)) (k := ?_); rintro v A' ⟨rfl, rfl⟩; simp only [List.cons_append, List.nil_append]; rw [hyes, ha2])) <;> (refine Wl_eql (k' := ?_); refine Wl_move (k := ?_); ((first | (refine Wl_guard (k := ?_); refine Wl_move (k := ?_)) | refine Wl_gno (k := ?_) | ((refine Wl_split (yes := (fun ht => ?_)) (no := (fun ht => ?_)) <;> (try simp at ht) <;> (try (exfalso; omega))) <;> (first | (refine Wl_guard (k := ?_); refine Wl_move (k := ?_)) | refine Wl_gno (k := ?_))))) <;> (((first | (refine Wl_guard (k := ?_); (refine Wl_call (hs := sget_spec st (writeV (fenS ks c) (fenX c 2)) ⟨#[107]⟩) (k := ?_); rintro v A' ⟨rfl, rfl⟩; simp only [List.cons_append, List.nil_append]; simp only [VX.C]; rw [hlt])) | refine Wl_gno (k := ?_) | ((refine Wl_split (yes := (fun ht => ?_)) (no := (fun ht => ?_)) <;> (try simp at ht) <;> (try (exfalso; omega))) <;> (first | (refine Wl_guard (k := ?_); (refine Wl_call (hs := sget_spec st (writeV (fenS ks c) (fenX c 2)) ⟨#[107]⟩) (k := ?_); rintro v A' ⟨rfl, rfl⟩; simp only [List.cons_append, List.nil_append]; simp only [VX.C]; rw [hlt])) | refine Wl_gno (k := ?_))))) <;> (((first | (refine Wl_guard (k := ?_); refine Wl_field (k' := ?_)) | refine Wl_gno (k := ?_) | ((refine Wl_split (yes := (fun ht => ?_)) (no := (fun ht => ?_)) <;> (try simp at ht) <;> (try (exfalso; omega))) <;> (first | (refine Wl_guard (k := ?_); refine Wl_field (k' := ?_)) | refine Wl_gno (k := ?_))))) <;> (((first | (refine Wl_guard (k := ?_); (refine Wl_str_eql (a := tY) (b := tY) (k' := ?_); rw [beq_self_eq_true])) | refine Wl_gno (k := ?_) | ((refine Wl_split (yes := (fun ht => ?_)) (no := (fun ht => ?_)) <;> (try simp at ht) <;> (try (exfalso; omega))) <;> (first | (refine Wl_guard (k := ?_); (refine Wl_str_eql (a := tY) (b := tY) (k' := ?_); rw [beq_self_eq_true])) | refine Wl_gno (k := ?_))))) <;> ((first | refine Wl_pick_t (k := ?_) | refine Wl_pick_f (k := ?_) | refine Wl_pick (k := ?_)); refine Wl_move (k := ?_); ((first | (refine Wl_guard (k := ?_); refine Wl_move (k := ?_)) | refine Wl_gno (k := ?_) | ((refine Wl_split (yes := (fun ht => ?_)) (no := (fun ht => ?_)) <;> (try simp at ht) <;> (try (exfalso; omega))) <;> (first | (refine Wl_guard (k := ?_); refine Wl_move (k := ?_)) | refine Wl_gno (k := ?_))))) <;> (((first | (refine Wl_guard (k := ?_); (refine Wl_call (hs := slast_spec st (writeV (fenS ks c) (fenX c 2))) (k := ?_); rintro v A' ⟨rfl, rfl⟩; simp only [List.cons_append, List.nil_append]; rw [hfe, hfi])) | refine Wl_gno (k := ?_) | ((refine Wl_split (yes := (fun ht => ?_)) (no := (fun ht => ?_)) <;> (try simp at ht) <;> (try (exfalso; omega))) <;> (first | (refine Wl_guard (k := ?_); (refine Wl_call (hs := slast_spec st (writeV (fenS ks c) (fenX c 2))) (k := ?_); rintro v A' ⟨rfl, rfl⟩; simp only [List.cons_append, List.nil_append]; rw [hfe, hfi])) | refine Wl_gno (k := ?_))))) <;> (((first | (refine Wl_guard (k := ?_); refine Wl_fieldAddr (k := ?_)) | refine Wl_gno (k := ?_) | ((refine Wl_split (yes := (fun ht => ?_)) (no := (fun ht => ?_)) <;> (try simp at ht) <;> (try (exfalso; omega))) <;> (first | (refine Wl_guard (k := ?_); refine Wl_fieldAddr (k := ?_)) | refine Wl_gno (k := ?_))))) <;> (((first | (refine Wl_guard (k := ?_); refine Wl_loadRF (k := ?_)) | refine Wl_gno (k := ?_) | ((refine Wl_split (yes := (fun ht => ?_)) (no := (fun ht => ?_)) <;> (try simp at ht) <;> (try (exfalso; omega))) <;> (first | (refine Wl_guard (k := ?_); refine Wl_loadRF (k := ?_)) | refine Wl_gno (k := ?_))))) <;> (((first | (refine Wl_guard (k := ?_); (refine Wl_agg_eqlB (b := true) (hb := by rw [pos_ceq]; exact decide_eq_true ⟨rfl, rfl⟩) (k' := ?_))) | refine Wl_gno (k := ?_) | ((refine Wl_split (yes := (fun ht => ?_)) (no := (fun ht => ?_)) <;> (try simp at ht) <;> (try (exfalso; omega))) <;> (first | (refine Wl_guard (k := ?_); (refine Wl_agg_eqlB (b := true) (hb := by rw [pos_ceq]; exact decide_eq_true ⟨rfl, rfl⟩) (k' := ?_))) | refine Wl_gno (k := ?_))))) <;> ((first | refine Wl_pick_t (k := ?_) | refine Wl_pick_f (k := ?_) | refine Wl_pick (k := ?_)); refine Wl_assign (k := ?_); (refine Wl_nil (hK _ _ ?_); clear hK K; try simp only [List.cons_append, List.nil_append]))))))))))))
    | (refine Wc_cond (ht := (fun ht => ?_)) (hf := (fun ht => ?_)) <;> (try simp at ht) <;> (try (exfalso; omega))))
  all_goals exact ⟨Or.inr rfl, .bool true, [], Ent.nil, res1 rfl rfl, rfl, rfl⟩
end specs
end Go.Proofs.Ytnoggejkkjngjaa
