/- SortedCopies: what it answers. -/
import Derived.Test.YtdlpfeflndlpfaaFilled
import Derived.Test.YtdlpfeflndlpfaaAlikeO
import Derived.Test.YtdlpfeflndlpfaaTold
set_option maxHeartbeats 8000000
set_option linter.unusedVariables false
set_option linter.unusedSimpArgs false
set_option maxRecDepth 100000
namespace Go.Proofs.Ytdlpfeflndlpfaa
open Go Go.Sl
attribute [local irreducible] Go.Sl.Wl Go.Sl.Wc Go.Sl.thenQ Go.Sl.blkQ Go.Sl.loopQ Go.Sl.Fspec

def delL (l : KL) (ks : List ByteArray) : KL := ks.foldl (fun l k => ldel l k) l
theorem delL_snoc (ks : List ByteArray) (l : KL) (k : ByteArray) : delL l (ks ++ [k]) = ldel (delL l ks) k := by simp [delL]
theorem delL_len : ∀ (ks : List ByteArray) (l : KL), (delL l ks).length ≤ l.length
  | [], _ => Nat.le_refl _
  | k :: ks, l => Nat.le_trans (delL_len ks (ldel l k)) ldel_len
theorem delL_all : ∀ (l : KL), delL l (l.map (·.1)) = []
  | [] => rfl
  | (q, w) :: l => by
    show delL (ldel ((q, w) :: l) q) (l.map (·.1)) = []
    have : ldel ((q, w) :: l) q = l := by simp [ldel, klt_irrefl]
    rw [this]; exact delL_all l
def AllSz (l : KL) : Prop := ∀ x ∈ l, x.2 = (x.1.size : Int)
theorem AllSz.set {k : ByteArray} : ∀ {l : KL}, AllSz l → AllSz (lset l k k.size)
  | [], _ => by intro x hx; simp [lset] at hx; subst hx; rfl
  | (q, w) :: l, h => by
    have h1 : AllSz l := fun x hx => h x (List.mem_cons_of_mem _ hx)
    have h2 := h (q, w) (List.mem_cons_self ..)
    simp only [lset]
    split
    · intro x hx
      rcases List.mem_cons.1 hx with rfl | hx
      · rfl
      · exact h x hx
    · split
      · intro x hx
        rcases List.mem_cons.1 hx with rfl | hx
        · exact h2
        · exact AllSz.set h1 x hx
      · rename_i hk hg
        have he : k = q := Classical.byContradiction fun hne => hg (klt_total (by simpa using hk) hne)
        intro x hx
        rcases List.mem_cons.1 hx with rfl | hx
        · rw [he]
        · exact h1 x hx
theorem AllSz.fill : ∀ (ks : List ByteArray) {l : KL}, AllSz l → AllSz (fillL l ks)
  | [], _, h => h
  | _ :: ks, _, h => AllSz.fill ks h.set
theorem toldL_all {l : KL} (h : AllSz l) : toldL l = l.map (·.1) := by
  unfold toldL
  congr 1
  rw [List.filter_eq_self]
  intro x hx; simpa using h x hx
section specs
variable (B : Base)
theorem copies_spec (a1 : Option Addr) (m1 c1 : Nat) (l1 : List ByteArray) (h1 : RdS Try.prog B [] 1 a1 m1 c1 (l1.map Value.string)) (hm1 : m1 ≤ 9223372036854775807)
    (a2 : Option Addr) (m2 c2 : Nat) (l2 : List ByteArray) (h2 : RdS Try.prog B [] 1 a2 m2 c2 (l2.map Value.string)) (hm2 : m2 ≤ 9223372036854775807) (hs1 : ∀ k ∈ l1, k.size ≤ 9223372036854775807) (hs2 : ∀ k ∈ l2, k.size ≤ 9223372036854775807) :
    Fspec Try.prog B 4 #[.slice a1 m1 c1, .slice a2 m2 c2] [] (fun v A' => v = .bool true ∧ A' = []) := by
  have hl1 : l1.length = m1 := by have := h1.len; simpa using this
  have hl2 : l2.length = m2 := by have := h2.len; simpa using this
  refine spec_of (args := [_, _]) Try.func4 rfl rfl rfl ?_
  by_cases hb : m1 ≤ 300 ∧ m2 ≤ 300
  · obtain ⟨hb1, hb2⟩ := hb
    have hszF := fillL_len l1 []
    simp only [List.length_nil] at hszF
    repeat' (first
      | refine Wc_seq ?_
      | refine thenQ_normal ?_
      | refine Wc_cond_t rfl ?_
      | refine Wc_cond_f rfl ?_
      | refine Wc_ret ?_
      | refine thenQ_ret ?_
      | refine Wc_block ?_
      | refine blkQ_normal ?_
      | refine blkQ_ret ?_
      | refine Wc_exit ?_
      | refine thenQ_exit ?_
      | refine blkQ_hit ?_
      | refine blkQ_miss rfl ?_
      | refine Wc_skip ?_
      | refine Wc_label ?_
      | refine loopQ_exit ?_
      | refine loopQ_ret ?_
      | refine loopQ_normal ?_
      | (refine Wc_region (id := 0) ?_; intro K hK; refine Wl_assign rfl (by (repeat (first | exact Ev.here | exact Ev.const | exact Ev.arg rfl | apply Ev.there rfl | exact Ev.none rfl | exact Ev.func | exact Ev.var)); (first | done | fail)) ?_; (refine Wl_nil (hK _ _ ?_); clear hK K))
      | (refine Wc_region (id := 1) ?_; intro K hK; refine Wl_call rfl (by (repeat (first | exact EvL.nil | apply EvL.cons (by (repeat (first | exact Ev.here | exact Ev.const | exact Ev.arg rfl | apply Ev.there rfl | exact Ev.none rfl | exact Ev.func | exact Ev.var)); (first | done | fail)))); (first | done | fail)) (awake05_spec B) (by (repeat (first | exact Pick.nil | apply Pick.cons (by (repeat (first | exact Out.head | apply Out.tail)); (first | done | fail)))); (first | done | fail)) ?_; (rintro v A' ⟨rfl, rfl⟩ <;> (try simp only [List.cons_append, List.nil_append])); refine Wl_not rfl rfl ?_; (refine Wl_nil (hK _ _ ?_); clear hK K))
      | (refine Wc_region (id := 2) ?_; intro K hK; refine Wl_assign rfl (by (repeat (first | exact Ev.here | exact Ev.const | exact Ev.arg rfl | apply Ev.there rfl | exact Ev.none rfl | exact Ev.func | exact Ev.var)); (first | done | fail)) ?_; (refine Wl_nil (hK _ _ ?_); clear hK K))
      | (refine Wc_region (id := 3) ?_; intro K hK; refine Wl_move rfl (by (repeat (first | exact Ev.here | exact Ev.const | exact Ev.arg rfl | apply Ev.there rfl | exact Ev.none rfl | exact Ev.func | exact Ev.var)); (first | done | fail)) ?_; refine Wl_len_sl rfl rfl ?_; refine Wl_gtr rfl rfl rfl ?_; refine Wl_move rfl (by (repeat (first | exact Ev.here | exact Ev.const | exact Ev.arg rfl | apply Ev.there rfl | exact Ev.none rfl | exact Ev.func | exact Ev.var)); (first | done | fail)) ?_; ((first | (refine Wl_guard rfl ?_; refine Wl_move rfl (by (repeat (first | exact Ev.here | exact Ev.const | exact Ev.arg rfl | apply Ev.there rfl | exact Ev.none rfl | exact Ev.func | exact Ev.var)); (first | done | fail)) ?_) | refine Wl_guard_no rfl rfl rfl ?_ | refine Wl_guard_un rfl rfl ?_ | ((refine Wl_split rfl rfl (fun ht => ?_) (fun ht => ?_) <;> (try simp at ht) <;> (try (exfalso; omega))) <;> (first | (refine Wl_guard rfl ?_; refine Wl_move rfl (by (repeat (first | exact Ev.here | exact Ev.const | exact Ev.arg rfl | apply Ev.there rfl | exact Ev.none rfl | exact Ev.func | exact Ev.var)); (first | done | fail)) ?_) | refine Wl_guard_no rfl rfl rfl ?_ | refine Wl_guard_un rfl rfl ?_)))) <;> (((first | (refine Wl_guard rfl ?_; refine Wl_len_sl rfl rfl ?_) | refine Wl_guard_no rfl rfl rfl ?_ | refine Wl_guard_un rfl rfl ?_ | ((refine Wl_split rfl rfl (fun ht => ?_) (fun ht => ?_) <;> (try simp at ht) <;> (try (exfalso; omega))) <;> (first | (refine Wl_guard rfl ?_; refine Wl_len_sl rfl rfl ?_) | refine Wl_guard_no rfl rfl rfl ?_ | refine Wl_guard_un rfl rfl ?_)))) <;> (((first | (refine Wl_guard rfl ?_; refine Wl_gtr rfl rfl rfl ?_) | refine Wl_guard_no rfl rfl rfl ?_ | refine Wl_guard_un rfl rfl ?_ | ((refine Wl_split rfl rfl (fun ht => ?_) (fun ht => ?_) <;> (try simp at ht) <;> (try (exfalso; omega))) <;> (first | (refine Wl_guard rfl ?_; refine Wl_gtr rfl rfl rfl ?_) | refine Wl_guard_no rfl rfl rfl ?_ | refine Wl_guard_un rfl rfl ?_)))) <;> ((first | refine Wl_pick_t rfl rfl (by (repeat (first | exact Ev.here | exact Ev.const | exact Ev.arg rfl | apply Ev.there rfl | exact Ev.none rfl | exact Ev.func | exact Ev.var)); (first | done | fail)) ?_ | refine Wl_pick_f rfl rfl (by (repeat (first | exact Ev.here | exact Ev.const | exact Ev.arg rfl | apply Ev.there rfl | exact Ev.none rfl | exact Ev.func | exact Ev.var)); (first | done | fail)) ?_ | refine Wl_pick rfl rfl rfl ?_); (refine Wl_nil (hK _ _ ?_); clear hK K)))))
      | (refine Wc_region (id := 4) ?_; intro K hK; refine Wl_assign rfl (by (repeat (first | exact Ev.here | exact Ev.const | exact Ev.arg rfl | apply Ev.there rfl | exact Ev.none rfl | exact Ev.func | exact Ev.var)); (first | done | fail)) ?_; (refine Wl_nil (hK _ _ ?_); clear hK K))
      | (refine Wc_region (id := 5) ?_; intro K hK; refine Wl_move rfl (by (repeat (first | exact Ev.here | exact Ev.const | exact Ev.arg rfl | apply Ev.there rfl | exact Ev.none rfl | exact Ev.func | exact Ev.var)); (first | done | fail)) ?_; ((refine Wl_call rfl (by (repeat (first | exact EvL.nil | apply EvL.cons (by (repeat (first | exact Ev.here | exact Ev.const | exact Ev.arg rfl | apply Ev.there rfl | exact Ev.none rfl | exact Ev.func | exact Ev.var)); (first | done | fail)))); (first | done | fail)) (filled_spec a1 m1 c1 l1 h1 hb1 hs1) (by (repeat (first | exact Pick.nil | apply Pick.cons (by (repeat (first | exact Out.head | apply Out.tail)); (first | done | fail)))); (first | done | fail)) ?_; rintro v A' ⟨p, t, rfl, ht0, rfl⟩; simp only [List.cons_append, List.nil_append])) <;> (refine Wl_assign rfl (by (repeat (first | exact Ev.here | exact Ev.const | exact Ev.arg rfl | apply Ev.there rfl | exact Ev.none rfl | exact Ev.func | exact Ev.var)); (first | done | fail)) ?_; (refine Wl_nil (hK _ _ ?_); clear hK K)))
      | (refine Wc_region (id := 6) ?_; intro K hK; refine Wl_move rfl (by (repeat (first | exact Ev.here | exact Ev.const | exact Ev.arg rfl | apply Ev.there rfl | exact Ev.none rfl | exact Ev.func | exact Ev.var)); (first | done | fail)) ?_; ((refine Wl_call rfl (by (repeat (first | exact EvL.nil | apply EvL.cons (by (repeat (first | exact Ev.here | exact Ev.const | exact Ev.arg rfl | apply Ev.there rfl | exact Ev.none rfl | exact Ev.func | exact Ev.var)); (first | done | fail)))); (first | done | fail)) (told_spec p t (by rw [ht0.eq]; omega)) (by (repeat (first | exact Pick.nil | apply Pick.cons (by (repeat (first | exact Out.head | apply Out.tail)); (first | done | fail)))); (first | done | fail)) ?_; rintro v A' ⟨wa, wc, rfl, rfl⟩; simp only [List.cons_append, List.nil_append])) <;> (refine Wl_assign rfl (by (repeat (first | exact Ev.here | exact Ev.const | exact Ev.arg rfl | apply Ev.there rfl | exact Ev.none rfl | exact Ev.func | exact Ev.var)); (first | done | fail)) ?_; (refine Wl_nil (hK _ _ ?_); clear hK K)))
      | (refine Wc_region (id := 7) ?_; intro K hK; refine Wl_move rfl (by (repeat (first | exact Ev.here | exact Ev.const | exact Ev.arg rfl | apply Ev.there rfl | exact Ev.none rfl | exact Ev.func | exact Ev.var)); (first | done | fail)) ?_; ((refine Wl_call rfl (by (repeat (first | exact EvL.nil | apply EvL.cons (by (repeat (first | exact Ev.here | exact Ev.const | exact Ev.arg rfl | apply Ev.there rfl | exact Ev.none rfl | exact Ev.func | exact Ev.var)); (first | done | fail)))); (first | done | fail)) (mcopy_spec p t) (by (repeat (first | exact Pick.nil | apply Pick.cons (by (repeat (first | exact Out.head | apply Out.tail)); (first | done | fail)))); (first | done | fail)) ?_; rintro v A' ⟨q, rfl, rfl⟩; simp only [List.cons_append, List.nil_append])) <;> (refine Wl_assign rfl (by (repeat (first | exact Ev.here | exact Ev.const | exact Ev.arg rfl | apply Ev.there rfl | exact Ev.none rfl | exact Ev.func | exact Ev.var)); (first | done | fail)) ?_; (refine Wl_nil (hK _ _ ?_); clear hK K)))
      | (refine Wc_region (id := 8) ?_; intro K hK; refine Wl_move rfl (by (repeat (first | exact Ev.here | exact Ev.const | exact Ev.arg rfl | apply Ev.there rfl | exact Ev.none rfl | exact Ev.func | exact Ev.var)); (first | done | fail)) ?_; refine Wl_len_sl rfl rfl ?_; refine Wl_move rfl (by (repeat (first | exact Ev.here | exact Ev.const | exact Ev.arg rfl | apply Ev.there rfl | exact Ev.none rfl | exact Ev.func | exact Ev.var)); (first | done | fail)) ?_; (refine Wl_nil (hK _ _ ?_); clear hK K))
      | (refine Wc_cond rfl (fun ht => ?_) (fun ht => ?_) <;> (try simp at ht) <;> (try (exfalso; omega))))
    have hsz0 : t.size ≤ 300 := by rw [ht0.size]; omega
    have hL1 : AllSz (fillL [] l1) := AllSz.fill l1 (fun x hx => by simp at hx)
    generalize hW : toldL t.inorder = W
    have hWl : W.length ≤ 300 := by have := toldL_len t.inorder; rw [hW, ht0.eq] at this; omega
    have hWk : W = (fillL [] l1).map (·.1) := by rw [← hW, ht0.eq, toldL_all hL1]
    refine Wc_loop (α := Nat × Tree) (fun x => [(0, .slice a1 m1 c1), (1, .slice a2 m2 c2), (5, .pointer (some ⟨p, 0, none⟩)), (6, .slice wa W.length wc), (7, .pointer (some ⟨q, 0, none⟩)), (29, .int .i64 m2), (30, .int .i64 x.1)])
      (fun x => [MpA q x.2, MpA p t, own wa W.length wc 1 (W.map Value.string) 9]) (fun x => x.1 ≤ m2 ∧ Has x.2 (fillL (fillL [] l1) (l2.take x.1))) (fun x => m2 - x.1) (0, t) ⟨by omega, ht0⟩ ⟨rfl, rfl, rfl, rfl, rfl, rfl, rfl, trivial⟩ (by (repeat (first | exact Ent.refl _ | exact Ent.nil | refine Ent.take (by (repeat (first | exact Out.head | apply Out.tail)); (first | done | fail)) ?_ | refine Ent.drop1 ?_))) ?_
    rintro ⟨i, t2⟩ G ⟨hi, hL⟩
    simp only at hi hL
    simp only [ov]
    have hfew : t2.size ≤ 600 := by
      have h2 := fillL_len (l2.take i) (fillL [] l1)
      rw [hL.size]
      simp only [List.length_take] at h2; omega
    by_cases hi2 : i < m2
    · obtain ⟨x, hx⟩ : ∃ x, l2[i]? = some x := ⟨l2[i]'(by omega), List.getElem?_eq_getElem (by omega)⟩
      have hxs := hs2 x (List.mem_of_getElem? hx)
      obtain ⟨b2, rfl⟩ : ∃ b2, a2 = some b2 := by
        cases a2 with
        | none => have := h2.nil rfl; omega
        | some p => exact ⟨p, rfl⟩
      repeat' (first
        | refine Wc_seq ?_
        | refine thenQ_normal ?_
        | refine Wc_cond_t rfl ?_
        | refine Wc_cond_f rfl ?_
        | refine Wc_ret ?_
        | refine thenQ_ret ?_
        | refine Wc_block ?_
        | refine blkQ_normal ?_
        | refine blkQ_ret ?_
        | refine Wc_exit ?_
        | refine thenQ_exit ?_
        | refine blkQ_hit ?_
        | refine blkQ_miss rfl ?_
        | refine Wc_skip ?_
        | refine Wc_label ?_
        | refine loopQ_exit ?_
        | refine loopQ_ret ?_
        | refine loopQ_normal ?_
        | (refine Wc_region (id := 9) ?_; intro K hK; refine Wl_lss rfl rfl rfl ?_; (refine Wl_nil (hK _ _ ?_); clear hK K))
        | (refine Wc_region (id := 10) ?_; intro K hK; refine Wl_move rfl (by (repeat (first | exact Ev.here | exact Ev.const | exact Ev.arg rfl | apply Ev.there rfl | exact Ev.none rfl | exact Ev.func | exact Ev.var)); (first | done | fail)) ?_; refine Wl_assign rfl (by (repeat (first | exact Ev.here | exact Ev.const | exact Ev.arg rfl | apply Ev.there rfl | exact Ev.none rfl | exact Ev.func | exact Ev.var)); (first | done | fail)) ?_; (refine Wl_nil (hK _ _ ?_); clear hK K))
        | (refine Wc_drawF (id := 11) ([]) [37, 41, 42] (by rw [drawOk_some]; decide +kernel) (by kernel_rfl) (Pick.perm (by (repeat (first | exact Pick.nil | apply Pick.cons (by (repeat (first | exact Out.head | apply Out.tail)); (first | done | fail)))); (first | done | fail))) ?_; intro K hK; refine Wl_move rfl (by (repeat (first | exact Ev.here | exact Ev.const | exact Ev.arg rfl | apply Ev.there rfl | exact Ev.none rfl | exact Ev.func | exact Ev.var)); (first | done | fail)) ?_; refine Wl_move rfl (by (repeat (first | exact Ev.here | exact Ev.const | exact Ev.arg rfl | apply Ev.there rfl | exact Ev.none rfl | exact Ev.func | exact Ev.var)); (first | done | fail)) ?_; refine Wl_move rfl (by (repeat (first | exact Ev.here | exact Ev.const | exact Ev.arg rfl | apply Ev.there rfl | exact Ev.none rfl | exact Ev.func | exact Ev.var)); (first | done | fail)) ?_; ((refine Wl_index_any rfl rfl rfl (by omega) (by omega) ?_)) <;> (((refine Wl_loadGF (v := .string x) (j := i) rfl rfl (by rw [Int.toNat_natCast, Nat.mul_one]) h2 (by rw [List.getElem?_map, hx]; rfl) ?_)) <;> (refine Wl_move rfl (by (repeat (first | exact Ev.here | exact Ev.const | exact Ev.arg rfl | apply Ev.there rfl | exact Ev.none rfl | exact Ev.func | exact Ev.var)); (first | done | fail)) ?_; refine Wl_move rfl (by (repeat (first | exact Ev.here | exact Ev.const | exact Ev.arg rfl | apply Ev.there rfl | exact Ev.none rfl | exact Ev.func | exact Ev.var)); (first | done | fail)) ?_; ((refine Wl_index_any rfl rfl rfl (by omega) (by omega) ?_)) <;> (((refine Wl_loadGF (v := .string x) (j := i) rfl rfl (by rw [Int.toNat_natCast, Nat.mul_one]) h2 (by rw [List.getElem?_map, hx]; rfl) ?_)) <;> (refine Wl_len_str rfl rfl ?_; ((refine Wl_call rfl (by (repeat (first | exact EvL.nil | apply EvL.cons (by (repeat (first | exact Ev.here | exact Ev.const | exact Ev.arg rfl | apply Ev.there rfl | exact Ev.none rfl | exact Ev.func | exact Ev.var)); (first | done | fail)))); (first | done | fail)) (mset_spec B q t2 _ _ hL.aa (by omega)) (by (repeat (first | exact Pick.nil | apply Pick.cons (by (repeat (first | exact Out.head | apply Out.tail)); (first | done | fail)))); (first | done | fail)) ?_; rintro v A' ⟨rfl, rfl⟩; simp only [List.cons_append, List.nil_append])) <;> ((refine Wl_nil (hK _ _ ?_); clear hK K; try simp only [List.cons_append, List.nil_append])))))))
        | (refine Wc_region (id := 12) ?_; intro K hK; refine Wl_add rfl rfl rfl (by first | exact fits_i64 (by omega) | exact fits_u8 (by omega) | exact fits_u64 (by omega) | exact fits_u32 (by omega)) ?_; refine Wl_move rfl (by (repeat (first | exact Ev.here | exact Ev.const | exact Ev.arg rfl | apply Ev.there rfl | exact Ev.none rfl | exact Ev.func | exact Ev.var)); (first | done | fail)) ?_; (refine Wl_nil (hK _ _ ?_); clear hK K))
        | (refine Wc_cond rfl (fun ht => ?_) (fun ht => ?_) <;> (try simp at ht) <;> (try (exfalso; omega))))
      refine ⟨(i + 1, t2.set x x.size), ⟨by simp only; omega, ?_⟩, by simp only; omega, ⟨rfl, rfl, rfl, rfl, rfl, rfl, int_succ' i, trivial⟩, by simp only; (repeat (first | exact Ent.refl _ | exact Ent.nil | refine Ent.take (by (repeat (first | exact Out.head | apply Out.tail)); (first | done | fail)) ?_ | refine Ent.drop1 ?_))⟩
      have h3 := hL.set x (x.size : Int)
      rw [← fillL_snoc] at h3
      have h4 : l2.take (i + 1) = l2.take i ++ [x] := by rw [List.take_add_one, hx]; rfl
      show Has _ (fillL _ (l2.take (i + 1)))
      rw [h4]; exact h3
    · obtain rfl : i = m2 := by omega
      rw [List.take_of_length_le (by omega)] at hL
      repeat' (first
        | refine Wc_seq ?_
        | refine thenQ_normal ?_
        | refine Wc_cond_t rfl ?_
        | refine Wc_cond_f rfl ?_
        | refine Wc_ret ?_
        | refine thenQ_ret ?_
        | refine Wc_block ?_
        | refine blkQ_normal ?_
        | refine blkQ_ret ?_
        | refine Wc_exit ?_
        | refine thenQ_exit ?_
        | refine blkQ_hit ?_
        | refine blkQ_miss rfl ?_
        | refine Wc_skip ?_
        | refine Wc_label ?_
        | refine loopQ_exit ?_
        | refine loopQ_ret ?_
        | refine loopQ_normal ?_
        | (refine Wc_region (id := 9) ?_; intro K hK; refine Wl_lss rfl rfl rfl ?_; (refine Wl_nil (hK _ _ ?_); clear hK K))
        | (refine Wc_region (id := 13) ?_; intro K hK; refine Wl_move rfl (by (repeat (first | exact Ev.here | exact Ev.const | exact Ev.arg rfl | apply Ev.there rfl | exact Ev.none rfl | exact Ev.func | exact Ev.var)); (first | done | fail)) ?_; refine Wl_len_sl rfl rfl ?_; refine Wl_move rfl (by (repeat (first | exact Ev.here | exact Ev.const | exact Ev.arg rfl | apply Ev.there rfl | exact Ev.none rfl | exact Ev.func | exact Ev.var)); (first | done | fail)) ?_; (refine Wl_nil (hK _ _ ?_); clear hK K))
        | (refine Wc_cond rfl (fun ht => ?_) (fun ht => ?_) <;> (try simp at ht) <;> (try (exfalso; omega))))
      refine Wc_loop (α := Nat × Tree) (fun x => [(0, .slice a1 m1 c1), (5, .pointer (some ⟨p, 0, none⟩)), (6, .slice wa W.length wc), (7, .pointer (some ⟨q, 0, none⟩)), (46, .int .i64 m1), (47, .int .i64 x.1)])
        (fun x => [MpA q x.2, MpA p t, own wa W.length wc 1 (W.map Value.string) 9]) (fun x => x.1 ≤ m1 ∧ Has x.2 (delL (fillL (fillL [] l1) l2) (l1.take x.1))) (fun x => m1 - x.1) (0, t2) ⟨by omega, hL⟩ ⟨rfl, rfl, rfl, rfl, rfl, rfl, trivial⟩ (by (repeat (first | exact Ent.refl _ | exact Ent.nil | refine Ent.take (by (repeat (first | exact Out.head | apply Out.tail)); (first | done | fail)) ?_ | refine Ent.drop1 ?_))) ?_
      clear hL hfew t2
      rintro ⟨j, t2⟩ G ⟨hj, hL⟩
      simp only at hj hL
      simp only [ov]
      have hfew : t2.size ≤ 600 := by
        have h2 := fillL_len l2 (fillL [] l1)
        have h3 := delL_len (l1.take j) (fillL (fillL [] l1) l2)
        rw [hL.size]; omega
      by_cases hj2 : j < m1
      · obtain ⟨x, hx⟩ : ∃ x, l1[j]? = some x := ⟨l1[j]'(by omega), List.getElem?_eq_getElem (by omega)⟩
        obtain ⟨b1, rfl⟩ : ∃ b1, a1 = some b1 := by
          cases a1 with
          | none => have := h1.nil rfl; omega
          | some p => exact ⟨p, rfl⟩
        repeat' (first
          | refine Wc_seq ?_
          | refine thenQ_normal ?_
          | refine Wc_cond_t rfl ?_
          | refine Wc_cond_f rfl ?_
          | refine Wc_ret ?_
          | refine thenQ_ret ?_
          | refine Wc_block ?_
          | refine blkQ_normal ?_
          | refine blkQ_ret ?_
          | refine Wc_exit ?_
          | refine thenQ_exit ?_
          | refine blkQ_hit ?_
          | refine blkQ_miss rfl ?_
          | refine Wc_skip ?_
          | refine Wc_label ?_
          | refine loopQ_exit ?_
          | refine loopQ_ret ?_
          | refine loopQ_normal ?_
          | (refine Wc_region (id := 14) ?_; intro K hK; refine Wl_lss rfl rfl rfl ?_; (refine Wl_nil (hK _ _ ?_); clear hK K))
          | (refine Wc_region (id := 15) ?_; intro K hK; refine Wl_move rfl (by (repeat (first | exact Ev.here | exact Ev.const | exact Ev.arg rfl | apply Ev.there rfl | exact Ev.none rfl | exact Ev.func | exact Ev.var)); (first | done | fail)) ?_; refine Wl_assign rfl (by (repeat (first | exact Ev.here | exact Ev.const | exact Ev.arg rfl | apply Ev.there rfl | exact Ev.none rfl | exact Ev.func | exact Ev.var)); (first | done | fail)) ?_; (refine Wl_nil (hK _ _ ?_); clear hK K))
          | (refine Wc_region (id := 16) ?_; intro K hK; refine Wl_move rfl (by (repeat (first | exact Ev.here | exact Ev.const | exact Ev.arg rfl | apply Ev.there rfl | exact Ev.none rfl | exact Ev.func | exact Ev.var)); (first | done | fail)) ?_; refine Wl_move rfl (by (repeat (first | exact Ev.here | exact Ev.const | exact Ev.arg rfl | apply Ev.there rfl | exact Ev.none rfl | exact Ev.func | exact Ev.var)); (first | done | fail)) ?_; refine Wl_move rfl (by (repeat (first | exact Ev.here | exact Ev.const | exact Ev.arg rfl | apply Ev.there rfl | exact Ev.none rfl | exact Ev.func | exact Ev.var)); (first | done | fail)) ?_; ((refine Wl_index_any rfl rfl rfl (by omega) (by omega) ?_)) <;> (((refine Wl_loadG (v := .string x) (j := j) (by decide) rfl rfl (by rw [Int.toNat_natCast, Nat.mul_one]) h1.any (by rw [List.getElem?_map, hx]; rfl) ?_)) <;> (((refine Wl_call rfl (by (repeat (first | exact EvL.nil | apply EvL.cons (by (repeat (first | exact Ev.here | exact Ev.const | exact Ev.arg rfl | apply Ev.there rfl | exact Ev.none rfl | exact Ev.func | exact Ev.var)); (first | done | fail)))); (first | done | fail)) (mdel_spec B q t2 _ hL.aa (by omega)) (by (repeat (first | exact Pick.nil | apply Pick.cons (by (repeat (first | exact Out.head | apply Out.tail)); (first | done | fail)))); (first | done | fail)) ?_; rintro v A' ⟨rfl, rfl⟩; simp only [List.cons_append, List.nil_append])) <;> ((refine Wl_nil (hK _ _ ?_); clear hK K)))))
          | (refine Wc_region (id := 17) ?_; intro K hK; refine Wl_add rfl rfl rfl (by first | exact fits_i64 (by omega) | exact fits_u8 (by omega) | exact fits_u64 (by omega) | exact fits_u32 (by omega)) ?_; refine Wl_move rfl (by (repeat (first | exact Ev.here | exact Ev.const | exact Ev.arg rfl | apply Ev.there rfl | exact Ev.none rfl | exact Ev.func | exact Ev.var)); (first | done | fail)) ?_; (refine Wl_nil (hK _ _ ?_); clear hK K))
          | (refine Wc_cond rfl (fun ht => ?_) (fun ht => ?_) <;> (try simp at ht) <;> (try (exfalso; omega))))
        refine ⟨(j + 1, t2.del x), ⟨by simp only; omega, ?_⟩, by simp only; omega, ⟨rfl, rfl, rfl, rfl, rfl, int_succ' j, trivial⟩, by simp only; (repeat (first | exact Ent.refl _ | exact Ent.nil | refine Ent.take (by (repeat (first | exact Out.head | apply Out.tail)); (first | done | fail)) ?_ | refine Ent.drop1 ?_))⟩
        have h3 := hL.del x
        rw [← delL_snoc] at h3
        have h4 : l1.take (j + 1) = l1.take j ++ [x] := by rw [List.take_add_one, hx]; rfl
        show Has _ (delL _ (l1.take (j + 1)))
        rw [h4]; exact h3
      · obtain rfl : j = m1 := by omega
        repeat' (first
          | refine Wc_seq ?_
          | refine thenQ_normal ?_
          | refine Wc_cond_t rfl ?_
          | refine Wc_cond_f rfl ?_
          | refine Wc_ret ?_
          | refine thenQ_ret ?_
          | refine Wc_block ?_
          | refine blkQ_normal ?_
          | refine blkQ_ret ?_
          | refine Wc_exit ?_
          | refine thenQ_exit ?_
          | refine blkQ_hit ?_
          | refine blkQ_miss rfl ?_
          | refine Wc_skip ?_
          | refine Wc_label ?_
          | refine loopQ_exit ?_
          | refine loopQ_ret ?_
          | refine loopQ_normal ?_
          | (refine Wc_region (id := 14) ?_; intro K hK; refine Wl_lss rfl rfl rfl ?_; (refine Wl_nil (hK _ _ ?_); clear hK K))
          | (refine Wc_region (id := 18) ?_; intro K hK; refine Wl_move rfl (by (repeat (first | exact Ev.here | exact Ev.const | exact Ev.arg rfl | apply Ev.there rfl | exact Ev.none rfl | exact Ev.func | exact Ev.var)); (first | done | fail)) ?_; ((refine Wl_call rfl (by (repeat (first | exact EvL.nil | apply EvL.cons (by (repeat (first | exact Ev.here | exact Ev.const | exact Ev.arg rfl | apply Ev.there rfl | exact Ev.none rfl | exact Ev.func | exact Ev.var)); (first | done | fail)))); (first | done | fail)) (told_spec p t (by rw [ht0.eq]; omega)) (by (repeat (first | exact Pick.nil | apply Pick.cons (by (repeat (first | exact Out.head | apply Out.tail)); (first | done | fail)))); (first | done | fail)) ?_; rintro v A' ⟨xa, xc, rfl, rfl⟩; simp only [List.cons_append, List.nil_append]; rw [hW])) <;> (refine Wl_move rfl (by (repeat (first | exact Ev.here | exact Ev.const | exact Ev.arg rfl | apply Ev.there rfl | exact Ev.none rfl | exact Ev.func | exact Ev.var)); (first | done | fail)) ?_; ((refine Wl_call rfl (by (repeat (first | exact EvL.nil | apply EvL.cons (by (repeat (first | exact Ev.here | exact Ev.const | exact Ev.arg rfl | apply Ev.there rfl | exact Ev.none rfl | exact Ev.func | exact Ev.var)); (first | done | fail)))); (first | done | fail)) (alike_same xa wa W.length xc W.length wc W (by omega)) (by (repeat (first | exact Pick.nil | apply Pick.cons (by (repeat (first | exact Out.head | apply Out.tail)); (first | done | fail)))); (first | done | fail)) ?_; rintro v A' ⟨rfl, rfl⟩; simp only [List.cons_append, List.nil_append])) <;> (refine Wl_not rfl rfl ?_; (refine Wl_nil (hK _ _ ?_); clear hK K))))
          | (refine Wc_region (id := 19) ?_; intro K hK; refine Wl_assign rfl (by (repeat (first | exact Ev.here | exact Ev.const | exact Ev.arg rfl | apply Ev.there rfl | exact Ev.none rfl | exact Ev.func | exact Ev.var)); (first | done | fail)) ?_; (refine Wl_nil (hK _ _ ?_); clear hK K))
          | (refine Wc_region (id := 20) ?_; intro K hK; refine Wl_move rfl (by (repeat (first | exact Ev.here | exact Ev.const | exact Ev.arg rfl | apply Ev.there rfl | exact Ev.none rfl | exact Ev.func | exact Ev.var)); (first | done | fail)) ?_; ((refine Wl_call rfl (by (repeat (first | exact EvL.nil | apply EvL.cons (by (repeat (first | exact Ev.here | exact Ev.const | exact Ev.arg rfl | apply Ev.there rfl | exact Ev.none rfl | exact Ev.func | exact Ev.var)); (first | done | fail)))); (first | done | fail)) (told_spec q t2 (by rw [Tree.inorder_len]; omega)) (by (repeat (first | exact Pick.nil | apply Pick.cons (by (repeat (first | exact Out.head | apply Out.tail)); (first | done | fail)))); (first | done | fail)) ?_; rintro v A' ⟨la, lc, rfl, rfl⟩; simp only [List.cons_append, List.nil_append])) <;> (refine Wl_assign rfl (by (repeat (first | exact Ev.here | exact Ev.const | exact Ev.arg rfl | apply Ev.there rfl | exact Ev.none rfl | exact Ev.func | exact Ev.var)); (first | done | fail)) ?_; (refine Wl_nil (hK _ _ ?_); clear hK K)))
          | (refine Wc_region (id := 21) ?_; intro K hK; refine Wl_move rfl (by (repeat (first | exact Ev.here | exact Ev.const | exact Ev.arg rfl | apply Ev.there rfl | exact Ev.none rfl | exact Ev.func | exact Ev.var)); (first | done | fail)) ?_; refine Wl_len_sl rfl rfl ?_; refine Wl_move rfl (by (repeat (first | exact Ev.here | exact Ev.const | exact Ev.arg rfl | apply Ev.there rfl | exact Ev.none rfl | exact Ev.func | exact Ev.var)); (first | done | fail)) ?_; (refine Wl_nil (hK _ _ ?_); clear hK K))
          | (refine Wc_cond rfl (fun ht => ?_) (fun ht => ?_) <;> (try simp at ht) <;> (try (exfalso; omega))))
        have hV : (toldL t2.inorder).length ≤ 600 := by have := toldL_len t2.inorder; rw [Tree.inorder_len] at this; omega
        generalize hV2 : toldL t2.inorder = V at hV
        refine Wc_loop (α := Nat × Tree) (fun x => [(5, .pointer (some ⟨p, 0, none⟩)), (6, .slice wa W.length wc), (7, .pointer (some ⟨q, 0, none⟩)), (10, .slice la V.length lc), (65, .int .i64 W.length), (66, .int .i64 x.1)])
          (fun x => [own wa W.length wc 1 (W.map Value.string) 9, MpA p x.2, MpA q t2, own la V.length lc 1 (V.map Value.string) 9]) (fun x => x.1 ≤ W.length ∧ Has x.2 (delL (fillL [] l1) (W.take x.1))) (fun x => W.length - x.1) (0, t) ⟨by omega, ht0⟩ ⟨rfl, rfl, rfl, rfl, rfl, rfl, trivial⟩ (by (repeat (first | exact Ent.refl _ | exact Ent.nil | refine Ent.take (by (repeat (first | exact Out.head | apply Out.tail)); (first | done | fail)) ?_ | refine Ent.drop1 ?_))) ?_
        rintro ⟨i2, t3⟩ G ⟨hi3, hL3⟩
        simp only at hi3 hL3
        simp only [ov]
        have hfew3 : t3.size ≤ 600 := by
          have h3 := delL_len (W.take i2) (fillL [] l1)
          rw [hL3.size]; omega
        refine Wc_ownFacts (fun e1 e2 e3 => ?_)
        by_cases hi4 : i2 < W.length
        · obtain ⟨x, hx⟩ : ∃ x, W[i2]? = some x := ⟨W[i2]'(by omega), List.getElem?_eq_getElem (by omega)⟩
          obtain ⟨b1, rfl⟩ : ∃ b1, wa = some b1 := by
            cases wa with
            | none => have := e3 rfl; omega
            | some p => exact ⟨p, rfl⟩
          repeat' (first
            | refine Wc_seq ?_
            | refine thenQ_normal ?_
            | refine Wc_cond_t rfl ?_
            | refine Wc_cond_f rfl ?_
            | refine Wc_ret ?_
            | refine thenQ_ret ?_
            | refine Wc_block ?_
            | refine blkQ_normal ?_
            | refine blkQ_ret ?_
            | refine Wc_exit ?_
            | refine thenQ_exit ?_
            | refine blkQ_hit ?_
            | refine blkQ_miss rfl ?_
            | refine Wc_skip ?_
            | refine Wc_label ?_
            | refine loopQ_exit ?_
            | refine loopQ_ret ?_
            | refine loopQ_normal ?_
            | (refine Wc_region (id := 22) ?_; intro K hK; refine Wl_lss rfl rfl rfl ?_; (refine Wl_nil (hK _ _ ?_); clear hK K))
            | (refine Wc_region (id := 23) ?_; intro K hK; refine Wl_move rfl (by (repeat (first | exact Ev.here | exact Ev.const | exact Ev.arg rfl | apply Ev.there rfl | exact Ev.none rfl | exact Ev.func | exact Ev.var)); (first | done | fail)) ?_; refine Wl_assign rfl (by (repeat (first | exact Ev.here | exact Ev.const | exact Ev.arg rfl | apply Ev.there rfl | exact Ev.none rfl | exact Ev.func | exact Ev.var)); (first | done | fail)) ?_; (refine Wl_nil (hK _ _ ?_); clear hK K))
            | (refine Wc_region (id := 24) ?_; intro K hK; refine Wl_move rfl (by (repeat (first | exact Ev.here | exact Ev.const | exact Ev.arg rfl | apply Ev.there rfl | exact Ev.none rfl | exact Ev.func | exact Ev.var)); (first | done | fail)) ?_; refine Wl_move rfl (by (repeat (first | exact Ev.here | exact Ev.const | exact Ev.arg rfl | apply Ev.there rfl | exact Ev.none rfl | exact Ev.func | exact Ev.var)); (first | done | fail)) ?_; refine Wl_move rfl (by (repeat (first | exact Ev.here | exact Ev.const | exact Ev.arg rfl | apply Ev.there rfl | exact Ev.none rfl | exact Ev.func | exact Ev.var)); (first | done | fail)) ?_; ((refine Wl_index_any rfl rfl rfl (by omega) (by omega) ?_)) <;> (((refine Wl_loadG (v := .string x) (j := i2) (by decide) rfl rfl (by rw [Int.toNat_natCast, Nat.mul_one]) (⟨e1, e3, by omega, src_own e1⟩ : RdS _ _ _ 1 (some b1) W.length wc (W.map Value.string)) (by rw [List.getElem?_map, hx]; rfl) ?_)) <;> (((refine Wl_call rfl (by (repeat (first | exact EvL.nil | apply EvL.cons (by (repeat (first | exact Ev.here | exact Ev.const | exact Ev.arg rfl | apply Ev.there rfl | exact Ev.none rfl | exact Ev.func | exact Ev.var)); (first | done | fail)))); (first | done | fail)) (mdel_spec B p t3 _ hL3.aa (by omega)) (by (repeat (first | exact Pick.nil | apply Pick.cons (by (repeat (first | exact Out.head | apply Out.tail)); (first | done | fail)))); (first | done | fail)) ?_; rintro v A' ⟨rfl, rfl⟩; simp only [List.cons_append, List.nil_append])) <;> ((refine Wl_nil (hK _ _ ?_); clear hK K)))))
            | (refine Wc_region (id := 25) ?_; intro K hK; refine Wl_add rfl rfl rfl (by first | exact fits_i64 (by omega) | exact fits_u8 (by omega) | exact fits_u64 (by omega) | exact fits_u32 (by omega)) ?_; refine Wl_move rfl (by (repeat (first | exact Ev.here | exact Ev.const | exact Ev.arg rfl | apply Ev.there rfl | exact Ev.none rfl | exact Ev.func | exact Ev.var)); (first | done | fail)) ?_; (refine Wl_nil (hK _ _ ?_); clear hK K))
            | (refine Wc_cond rfl (fun ht => ?_) (fun ht => ?_) <;> (try simp at ht) <;> (try (exfalso; omega))))
          refine ⟨(i2 + 1, t3.del x), ⟨by simp only; omega, ?_⟩, by simp only; omega, ⟨rfl, rfl, rfl, rfl, rfl, int_succ' i2, trivial⟩, by simp only; (repeat (first | exact Ent.refl _ | exact Ent.nil | refine Ent.take (by (repeat (first | exact Out.head | apply Out.tail)); (first | done | fail)) ?_ | refine Ent.drop1 ?_))⟩
          have h3 := hL3.del x
          rw [← delL_snoc] at h3
          have h4 : W.take (i2 + 1) = W.take i2 ++ [x] := by rw [List.take_add_one, hx]; rfl
          show Has _ (delL _ (W.take (i2 + 1)))
          rw [h4]; exact h3
        · have hz : t3.size = 0 := by
            rw [hL3.size, List.take_of_length_le (by omega), hWk, delL_all]; rfl
          obtain rfl : i2 = W.length := by omega
          repeat' (first
            | refine Wc_seq ?_
            | refine thenQ_normal ?_
            | refine Wc_cond_t rfl ?_
            | refine Wc_cond_f rfl ?_
            | refine Wc_ret ?_
            | refine thenQ_ret ?_
            | refine Wc_block ?_
            | refine blkQ_normal ?_
            | refine blkQ_ret ?_
            | refine Wc_exit ?_
            | refine thenQ_exit ?_
            | refine blkQ_hit ?_
            | refine blkQ_miss rfl ?_
            | refine Wc_skip ?_
            | refine Wc_label ?_
            | refine loopQ_exit ?_
            | refine loopQ_ret ?_
            | refine loopQ_normal ?_
            | (refine Wc_region (id := 22) ?_; intro K hK; refine Wl_lss rfl rfl rfl ?_; (refine Wl_nil (hK _ _ ?_); clear hK K))
            | (refine Wc_region (id := 26) ?_; intro K hK; refine Wl_move rfl (by (repeat (first | exact Ev.here | exact Ev.const | exact Ev.arg rfl | apply Ev.there rfl | exact Ev.none rfl | exact Ev.func | exact Ev.var)); (first | done | fail)) ?_; ((refine Wl_call rfl (by (repeat (first | exact EvL.nil | apply EvL.cons (by (repeat (first | exact Ev.here | exact Ev.const | exact Ev.arg rfl | apply Ev.there rfl | exact Ev.none rfl | exact Ev.func | exact Ev.var)); (first | done | fail)))); (first | done | fail)) (mlen_spec B p t3) (by (repeat (first | exact Pick.nil | apply Pick.cons (by (repeat (first | exact Out.head | apply Out.tail)); (first | done | fail)))); (first | done | fail)) ?_; rintro v A' ⟨rfl, rfl⟩; simp only [List.cons_append, List.nil_append]; rw [hz])) <;> (refine Wl_eql rfl rfl rfl ?_; refine Wl_move rfl (by (repeat (first | exact Ev.here | exact Ev.const | exact Ev.arg rfl | apply Ev.there rfl | exact Ev.none rfl | exact Ev.func | exact Ev.var)); (first | done | fail)) ?_; ((first | (refine Wl_guard rfl ?_; refine Wl_move rfl (by (repeat (first | exact Ev.here | exact Ev.const | exact Ev.arg rfl | apply Ev.there rfl | exact Ev.none rfl | exact Ev.func | exact Ev.var)); (first | done | fail)) ?_) | refine Wl_guard_no rfl rfl rfl ?_ | refine Wl_guard_un rfl rfl ?_ | ((refine Wl_split rfl rfl (fun ht => ?_) (fun ht => ?_) <;> (try simp at ht) <;> (try (exfalso; omega))) <;> (first | (refine Wl_guard rfl ?_; refine Wl_move rfl (by (repeat (first | exact Ev.here | exact Ev.const | exact Ev.arg rfl | apply Ev.there rfl | exact Ev.none rfl | exact Ev.func | exact Ev.var)); (first | done | fail)) ?_) | refine Wl_guard_no rfl rfl rfl ?_ | refine Wl_guard_un rfl rfl ?_)))) <;> (((first | (refine Wl_guard rfl ?_; (refine Wl_call rfl (by (repeat (first | exact EvL.nil | apply EvL.cons (by (repeat (first | exact Ev.here | exact Ev.const | exact Ev.arg rfl | apply Ev.there rfl | exact Ev.none rfl | exact Ev.func | exact Ev.var)); (first | done | fail)))); (first | done | fail)) (told_spec q t2 (by rw [Tree.inorder_len]; omega)) (by (repeat (first | exact Pick.nil | apply Pick.cons (by (repeat (first | exact Out.head | apply Out.tail)); (first | done | fail)))); (first | done | fail)) ?_; rintro v A' ⟨ya, yc, rfl, rfl⟩; simp only [List.cons_append, List.nil_append]; rw [hV2])) | refine Wl_guard_no rfl rfl rfl ?_ | refine Wl_guard_un rfl rfl ?_ | ((refine Wl_split rfl rfl (fun ht => ?_) (fun ht => ?_) <;> (try simp at ht) <;> (try (exfalso; omega))) <;> (first | (refine Wl_guard rfl ?_; (refine Wl_call rfl (by (repeat (first | exact EvL.nil | apply EvL.cons (by (repeat (first | exact Ev.here | exact Ev.const | exact Ev.arg rfl | apply Ev.there rfl | exact Ev.none rfl | exact Ev.func | exact Ev.var)); (first | done | fail)))); (first | done | fail)) (told_spec q t2 (by rw [Tree.inorder_len]; omega)) (by (repeat (first | exact Pick.nil | apply Pick.cons (by (repeat (first | exact Out.head | apply Out.tail)); (first | done | fail)))); (first | done | fail)) ?_; rintro v A' ⟨ya, yc, rfl, rfl⟩; simp only [List.cons_append, List.nil_append]; rw [hV2])) | refine Wl_guard_no rfl rfl rfl ?_ | refine Wl_guard_un rfl rfl ?_)))) <;> (((first | (refine Wl_guard rfl ?_; refine Wl_move rfl (by (repeat (first | exact Ev.here | exact Ev.const | exact Ev.arg rfl | apply Ev.there rfl | exact Ev.none rfl | exact Ev.func | exact Ev.var)); (first | done | fail)) ?_) | refine Wl_guard_no rfl rfl rfl ?_ | refine Wl_guard_un rfl rfl ?_ | ((refine Wl_split rfl rfl (fun ht => ?_) (fun ht => ?_) <;> (try simp at ht) <;> (try (exfalso; omega))) <;> (first | (refine Wl_guard rfl ?_; refine Wl_move rfl (by (repeat (first | exact Ev.here | exact Ev.const | exact Ev.arg rfl | apply Ev.there rfl | exact Ev.none rfl | exact Ev.func | exact Ev.var)); (first | done | fail)) ?_) | refine Wl_guard_no rfl rfl rfl ?_ | refine Wl_guard_un rfl rfl ?_)))) <;> (((first | (refine Wl_guard rfl ?_; (refine Wl_call rfl (by (repeat (first | exact EvL.nil | apply EvL.cons (by (repeat (first | exact Ev.here | exact Ev.const | exact Ev.arg rfl | apply Ev.there rfl | exact Ev.none rfl | exact Ev.func | exact Ev.var)); (first | done | fail)))); (first | done | fail)) (alike_same ya la V.length yc V.length lc V (by omega)) (by (repeat (first | exact Pick.nil | apply Pick.cons (by (repeat (first | exact Out.head | apply Out.tail)); (first | done | fail)))); (first | done | fail)) ?_; rintro v A' ⟨rfl, rfl⟩; simp only [List.cons_append, List.nil_append])) | refine Wl_guard_no rfl rfl rfl ?_ | refine Wl_guard_un rfl rfl ?_ | ((refine Wl_split rfl rfl (fun ht => ?_) (fun ht => ?_) <;> (try simp at ht) <;> (try (exfalso; omega))) <;> (first | (refine Wl_guard rfl ?_; (refine Wl_call rfl (by (repeat (first | exact EvL.nil | apply EvL.cons (by (repeat (first | exact Ev.here | exact Ev.const | exact Ev.arg rfl | apply Ev.there rfl | exact Ev.none rfl | exact Ev.func | exact Ev.var)); (first | done | fail)))); (first | done | fail)) (alike_same ya la V.length yc V.length lc V (by omega)) (by (repeat (first | exact Pick.nil | apply Pick.cons (by (repeat (first | exact Out.head | apply Out.tail)); (first | done | fail)))); (first | done | fail)) ?_; rintro v A' ⟨rfl, rfl⟩; simp only [List.cons_append, List.nil_append])) | refine Wl_guard_no rfl rfl rfl ?_ | refine Wl_guard_un rfl rfl ?_)))) <;> ((first | refine Wl_pick_t rfl rfl (by (repeat (first | exact Ev.here | exact Ev.const | exact Ev.arg rfl | apply Ev.there rfl | exact Ev.none rfl | exact Ev.func | exact Ev.var)); (first | done | fail)) ?_ | refine Wl_pick_f rfl rfl (by (repeat (first | exact Ev.here | exact Ev.const | exact Ev.arg rfl | apply Ev.there rfl | exact Ev.none rfl | exact Ev.func | exact Ev.var)); (first | done | fail)) ?_ | refine Wl_pick rfl rfl rfl ?_); refine Wl_assign rfl (by (repeat (first | exact Ev.here | exact Ev.const | exact Ev.arg rfl | apply Ev.there rfl | exact Ev.none rfl | exact Ev.func | exact Ev.var)); (first | done | fail)) ?_; (refine Wl_nil (hK _ _ ?_); clear hK K)))))))
            | (refine Wc_cond rfl (fun ht => ?_) (fun ht => ?_) <;> (try simp at ht) <;> (try (exfalso; omega))))
          exact ⟨Or.inr rfl, .bool true, [], Ent.nil, res1 rfl rfl, rfl, rfl⟩
  · repeat' (first
      | refine Wc_seq ?_
      | refine thenQ_normal ?_
      | refine Wc_cond_t rfl ?_
      | refine Wc_cond_f rfl ?_
      | refine Wc_ret ?_
      | refine thenQ_ret ?_
      | refine Wc_block ?_
      | refine blkQ_normal ?_
      | refine blkQ_ret ?_
      | refine Wc_exit ?_
      | refine thenQ_exit ?_
      | refine blkQ_hit ?_
      | refine blkQ_miss rfl ?_
      | refine Wc_skip ?_
      | refine Wc_label ?_
      | refine loopQ_exit ?_
      | refine loopQ_ret ?_
      | refine loopQ_normal ?_
      | (refine Wc_region (id := 0) ?_; intro K hK; refine Wl_assign rfl (by (repeat (first | exact Ev.here | exact Ev.const | exact Ev.arg rfl | apply Ev.there rfl | exact Ev.none rfl | exact Ev.func | exact Ev.var)); (first | done | fail)) ?_; (refine Wl_nil (hK _ _ ?_); clear hK K))
      | (refine Wc_region (id := 1) ?_; intro K hK; refine Wl_call rfl (by (repeat (first | exact EvL.nil | apply EvL.cons (by (repeat (first | exact Ev.here | exact Ev.const | exact Ev.arg rfl | apply Ev.there rfl | exact Ev.none rfl | exact Ev.func | exact Ev.var)); (first | done | fail)))); (first | done | fail)) (awake05_spec B) (by (repeat (first | exact Pick.nil | apply Pick.cons (by (repeat (first | exact Out.head | apply Out.tail)); (first | done | fail)))); (first | done | fail)) ?_; (rintro v A' ⟨rfl, rfl⟩ <;> (try simp only [List.cons_append, List.nil_append])); refine Wl_not rfl rfl ?_; (refine Wl_nil (hK _ _ ?_); clear hK K))
      | (refine Wc_region (id := 2) ?_; intro K hK; refine Wl_assign rfl (by (repeat (first | exact Ev.here | exact Ev.const | exact Ev.arg rfl | apply Ev.there rfl | exact Ev.none rfl | exact Ev.func | exact Ev.var)); (first | done | fail)) ?_; (refine Wl_nil (hK _ _ ?_); clear hK K))
      | (refine Wc_region (id := 3) ?_; intro K hK; refine Wl_move rfl (by (repeat (first | exact Ev.here | exact Ev.const | exact Ev.arg rfl | apply Ev.there rfl | exact Ev.none rfl | exact Ev.func | exact Ev.var)); (first | done | fail)) ?_; refine Wl_len_sl rfl rfl ?_; refine Wl_gtr rfl rfl rfl ?_; refine Wl_move rfl (by (repeat (first | exact Ev.here | exact Ev.const | exact Ev.arg rfl | apply Ev.there rfl | exact Ev.none rfl | exact Ev.func | exact Ev.var)); (first | done | fail)) ?_; ((first | (refine Wl_guard rfl ?_; refine Wl_move rfl (by (repeat (first | exact Ev.here | exact Ev.const | exact Ev.arg rfl | apply Ev.there rfl | exact Ev.none rfl | exact Ev.func | exact Ev.var)); (first | done | fail)) ?_) | refine Wl_guard_no rfl rfl rfl ?_ | refine Wl_guard_un rfl rfl ?_ | ((refine Wl_split rfl rfl (fun ht => ?_) (fun ht => ?_) <;> (try simp at ht) <;> (try (exfalso; omega))) <;> (first | (refine Wl_guard rfl ?_; refine Wl_move rfl (by (repeat (first | exact Ev.here | exact Ev.const | exact Ev.arg rfl | apply Ev.there rfl | exact Ev.none rfl | exact Ev.func | exact Ev.var)); (first | done | fail)) ?_) | refine Wl_guard_no rfl rfl rfl ?_ | refine Wl_guard_un rfl rfl ?_)))) <;> (((first | (refine Wl_guard rfl ?_; refine Wl_len_sl rfl rfl ?_) | refine Wl_guard_no rfl rfl rfl ?_ | refine Wl_guard_un rfl rfl ?_ | ((refine Wl_split rfl rfl (fun ht => ?_) (fun ht => ?_) <;> (try simp at ht) <;> (try (exfalso; omega))) <;> (first | (refine Wl_guard rfl ?_; refine Wl_len_sl rfl rfl ?_) | refine Wl_guard_no rfl rfl rfl ?_ | refine Wl_guard_un rfl rfl ?_)))) <;> (((first | (refine Wl_guard rfl ?_; refine Wl_gtr rfl rfl rfl ?_) | refine Wl_guard_no rfl rfl rfl ?_ | refine Wl_guard_un rfl rfl ?_ | ((refine Wl_split rfl rfl (fun ht => ?_) (fun ht => ?_) <;> (try simp at ht) <;> (try (exfalso; omega))) <;> (first | (refine Wl_guard rfl ?_; refine Wl_gtr rfl rfl rfl ?_) | refine Wl_guard_no rfl rfl rfl ?_ | refine Wl_guard_un rfl rfl ?_)))) <;> ((first | refine Wl_pick_t rfl rfl (by (repeat (first | exact Ev.here | exact Ev.const | exact Ev.arg rfl | apply Ev.there rfl | exact Ev.none rfl | exact Ev.func | exact Ev.var)); (first | done | fail)) ?_ | refine Wl_pick_f rfl rfl (by (repeat (first | exact Ev.here | exact Ev.const | exact Ev.arg rfl | apply Ev.there rfl | exact Ev.none rfl | exact Ev.func | exact Ev.var)); (first | done | fail)) ?_ | refine Wl_pick rfl rfl rfl ?_); (refine Wl_nil (hK _ _ ?_); clear hK K)))))
      | (refine Wc_region (id := 4) ?_; intro K hK; refine Wl_assign rfl (by (repeat (first | exact Ev.here | exact Ev.const | exact Ev.arg rfl | apply Ev.there rfl | exact Ev.none rfl | exact Ev.func | exact Ev.var)); (first | done | fail)) ?_; (refine Wl_nil (hK _ _ ?_); clear hK K))
      | (refine Wc_cond rfl (fun ht => ?_) (fun ht => ?_) <;> (try simp at ht) <;> (try (exfalso; omega))))
    · exact ⟨Or.inr rfl, _, [], Ent.refl _, res1 rfl rfl, rfl, rfl⟩
    · exact ⟨Or.inr rfl, _, [], Ent.refl _, res1 rfl rfl, rfl, rfl⟩
end specs
end Go.Proofs.Ytdlpfeflndlpfaa
