/- Package disk, the rest: Crash, Fuse, what is told. Conditions as in XDisk. -/
import Derived.Test.YtepeljbgekgjcaaDisk
set_option maxHeartbeats 8000000
set_option linter.unusedVariables false
set_option linter.unusedSimpArgs false
set_option maxRecDepth 100000
namespace Go.Proofs.Ytepeljbgekgjcaa
open Go Go.Sl
attribute [local irreducible] Go.Sl.Wl Go.Sl.Wc Go.Sl.thenQ Go.Sl.blkQ Go.Sl.loopQ Go.Sl.Fspec

def crash1 (K : List UInt8) (q : Nat × List UInt8) (n : Nat) : List UInt8 := K.take (64 * q.1) ++ (q.2.take n ++ K.drop (64 * q.1 + n))
def nOf (ch : List UInt8) (k : Nat) : Nat := match ch[k]? with | some c => c.toNat % 65 | none => 0
def crashF (ch : List UInt8) (K : List UInt8) (l : List (Nat × List UInt8)) : List UInt8 := l.zipIdx.foldl (fun K x => crash1 K x.1 (nOf ch x.2)) K
def Dk.crash (D : Dk) (ch : List UInt8) : Dk := { D with kept := crashF ch D.kept D.pend, pend := [], down := false, fuse := -1 }
def Dk.fused (D : Dk) (k : Int) : Dk := { D with fuse := max k (-1) }
theorem nOf_le (ch : List UInt8) (k : Nat) : nOf ch k ≤ 64 := by
  unfold nOf; split <;> omega
theorem crashF_snoc (ch K : List UInt8) (l : List (Nat × List UInt8)) (q : Nat × List UInt8) : crashF ch K (l ++ [q]) = crash1 (crashF ch K l) q (nOf ch l.length) := by
  simp [crashF, List.zipIdx_append]
theorem crash1_length (K : List UInt8) (q : Nat × List UInt8) (m n : Nat) (h : K.length = 64 * n) (h1 : q.1 < n) (h2 : q.2.length = 64) (hm : m ≤ 64) : (crash1 K q m).length = 64 * n := by
  simp [crash1, h2]; omega
theorem crashF_length (n : Nat) (ch : List UInt8) (K : List UInt8) (hK : K.length = 64 * n) (l : List (Nat × List UInt8)) (hl : ∀ q ∈ l, q.1 < n ∧ q.2.length = 64) : (crashF ch K l).length = 64 * n := by
  unfold crashF
  suffices H : ∀ (l : List (Nat × List UInt8)) (j : Nat) (K : List UInt8), K.length = 64 * n → (∀ q ∈ l, q.1 < n ∧ q.2.length = 64) → ((l.zipIdx j).foldl (fun K x => crash1 K x.1 (nOf ch x.2)) K).length = 64 * n from H l 0 K hK hl
  intro l
  induction l with
  | nil => exact fun _ _ h _ => h
  | cons q l ih =>
    intro j K h hl
    rw [List.zipIdx_cons, List.foldl_cons]
    have hq := hl q (List.mem_cons_self ..)
    exact ih _ _ (crash1_length K q _ n h hq.1 hq.2 (nOf_le ch j)) (fun x hx => hl x (List.mem_cons_of_mem _ hx))
theorem Dk.crash_ok {D : Dk} {n : Nat} {ch : List UInt8} (h : D.ok n) : (D.crash ch).ok n :=
  ⟨crashF_length n ch _ h.len _ h.pend, by simp [Dk.crash], by simp [Dk.crash], by simp [Dk.crash], h.steps, h.n⟩
theorem Dk.fused_ok {D : Dk} {n : Nat} {k : Int} (h : D.ok n) (hk : k ≤ 9223372036854775807) : (D.fused k).ok n := ⟨h.len, h.pend, h.few, by simp only [Dk.fused]; omega, h.steps, h.n⟩
theorem byteV_take (l : List UInt8) (n : Nat) : ((l.map byteV).take n).all isCell = true := by rw [← List.map_take]; exact byteV_all _
theorem setL_crash (K : List UInt8) (q : Nat × List UInt8) (m n : Nat) (h : K.length = 64 * n) (h1 : q.1 < n) (h2 : q.2.length = 64) (hm : m ≤ 64) :
    setL (K.map byteV) (q.1 * 64) ((q.2.map byteV).take m) = (crash1 K q m).map byteV := by
  rw [setL_eq _ _ _ (by simp [h, h2]; omega)]
  have : min m 64 = m := by omega
  simp [crash1, h2, Nat.mul_comm, this]

section specs
variable (B : Base)
theorem crash_ok (p n : Nat) (D : Dk) (h : D.ok n) (a : Option Addr) (m c : Nat) (ch : List UInt8) (A0 : List Asn) (hsrc : RdS Try.prog B A0 1 a m c (ch.map byteV)) (hm : m ≤ 9223372036854775807) :
    Fspec Try.prog B 18 #[.pointer (some ⟨p, 0, none⟩), .slice a m c] (DiskP p n D :: A0)
      (fun v A' => v = .tuple #[] ∧ A' = DiskP p n (D.crash ch) :: A0) := by
  have hfew := h.few; have hn := h.n
  have hcl : ch.length = m := by have := hsrc.len; simpa using this
  refine spec_of (args := [_, _]) Try.func18 rfl rfl rfl ?_
  refine Wc_exN (fun x => ?_)
  obtain ⟨bk, pa, pc⟩ := x
  simp only [DiskL]
  simp only [List.cons_append, List.nil_append]
  repeat' (first
    | refine Wc_seq ?_
    | refine thenQ_normal ?_
    | refine Wc_cond_t (h := ?_)
    | refine Wc_cond_f (h := ?_)
    | refine Wc_ret ?_
    | refine thenQ_ret ?_
    | refine Wc_block ?_
    | refine blkQ_normal ?_
    | refine blkQ_ret ?_
    | refine Wc_exit ?_
    | refine thenQ_exit ?_
    | refine blkQ_hit ?_
    | refine blkQ_miss rfl ?_
    | refine Wc_skip ?_
    | refine Wc_label ?_
    | refine loopQ_exit ?_
    | refine loopQ_ret ?_
    | refine loopQ_normal ?_
    | (refine Wc_region (id := 0) ?_; intro K hK; refine Wl_move (k := ?_); refine Wl_ptr_eq_nil (k' := ?_); (refine Wl_nil (hK _ _ ?_); clear hK K))
    | (refine Wc_region (id := 1) ?_; intro K hK; refine Wl_move (k := ?_); refine Wl_nilCheck (k := ?_); refine Wl_fieldAddr (k := ?_); refine Wl_load (k := ?_); refine Wl_len_sl (k' := ?_); refine Wl_move (k := ?_); (refine Wl_nil (hK _ _ ?_); clear hK K))
    | (refine Wc_region (id := 2) ?_; intro K hK; refine Wl_lss (k' := ?_); (refine Wl_nil (hK _ _ ?_); clear hK K))
    | (refine Wc_region (id := 3) ?_; intro K hK; refine Wl_move (k := ?_); refine Wl_index_sl (k' := ?_); refine Wl_loadR (k := ?_); (refine Wl_alloc (k := ?_); intro r); refine Wl_assign (k := ?_); refine Wl_storeR (ho' := rfl) (k := ?_); (refine Wl_nil (hK _ _ ?_); clear hK K))
    | (refine Wc_region (id := 4) ?_; intro K hK; refine Wl_assign (k := ?_); (refine Wl_nil (hK _ _ ?_); clear hK K))
    | (refine Wc_region (id := 5) ?_; intro K hK; refine Wl_move (k := ?_); refine Wl_move (k := ?_); refine Wl_len_sl (k' := ?_); refine Wl_lss (k' := ?_); (refine Wl_nil (hK _ _ ?_); clear hK K))
    | (refine Wc_region (id := 6) ?_; intro K hK; refine Wl_move (k := ?_); refine Wl_move (k := ?_); refine Wl_index_sl (k' := ?_); refine Wl_load (k := ?_); refine Wl_conv (k' := ?_); refine Wl_rem (k' := ?_); refine Wl_assign (k := ?_); (refine Wl_nil (hK _ _ ?_); clear hK K))
    | (refine Wc_draw (id := 7) (h := ?_); intro K hK; refine Wl_move (k := ?_); refine Wl_nilCheck (k := ?_); refine Wl_fieldAddr (k := ?_); refine Wl_load (k := ?_); refine Wl_fieldAddr (k := ?_); refine Wl_load (k := ?_); refine Wl_index_sl (k' := ?_); refine Wl_move (k := ?_); refine Wl_slice_arr0 (k' := ?_); refine Wl_fieldAddr (k := ?_); refine Wl_move (k := ?_); refine Wl_slice_arr0 (k' := ?_))
    | (refine Wc_region (id := 8) ?_; intro K hK; refine Wl_add (k' := ?_); refine Wl_move (k := ?_); (refine Wl_nil (hK _ _ ?_); clear hK K))
    | (refine Wc_region (id := 9) ?_; intro K hK; refine Wl_move (k := ?_); refine Wl_move (k := ?_); refine Wl_move (k := ?_); refine Wl_nilCheck (k := ?_); refine Wl_fieldAddr (k := ?_); refine Wl_store (ho := rfl) (k := ?_); refine Wl_nilCheck (k := ?_); refine Wl_fieldAddr (k := ?_); refine Wl_store (ho := rfl) (k := ?_); refine Wl_nilCheck (k := ?_); refine Wl_fieldAddr (k := ?_); refine Wl_store (ho := rfl) (k := ?_); (refine Wl_nil (hK _ _ ?_); clear hK K))
    | (refine Wc_cond (ht := (fun ht => ?_)) (hf := (fun ht => ?_)) <;> (try simp at ht) <;> (try (exfalso; omega))))
  refine Wc_take (y := own pa _ _ _ _ _) (k := (Wc_own ?_ ?_))
  · intro e1 e2 e3 e4
    have e5 : D.pend = [] := List.length_eq_zero_iff.1 e2
    subst e1 e3
    rw [e2]
    refine Wc_loop0 ?_
    repeat' (first
      | refine Wc_seq ?_
      | refine thenQ_normal ?_
      | refine Wc_cond_t (h := ?_)
      | refine Wc_cond_f (h := ?_)
      | refine Wc_ret ?_
      | refine thenQ_ret ?_
      | refine Wc_block ?_
      | refine blkQ_normal ?_
      | refine blkQ_ret ?_
      | refine Wc_exit ?_
      | refine thenQ_exit ?_
      | refine blkQ_hit ?_
      | refine blkQ_miss rfl ?_
      | refine Wc_skip ?_
      | refine Wc_label ?_
      | refine loopQ_exit ?_
      | refine loopQ_ret ?_
      | refine loopQ_normal ?_
      | (refine Wc_region (id := 0) ?_; intro K hK; refine Wl_move (k := ?_); refine Wl_ptr_eq_nil (k' := ?_); (refine Wl_nil (hK _ _ ?_); clear hK K))
      | (refine Wc_region (id := 1) ?_; intro K hK; refine Wl_move (k := ?_); refine Wl_nilCheck (k := ?_); refine Wl_fieldAddr (k := ?_); refine Wl_load (k := ?_); refine Wl_len_sl (k' := ?_); refine Wl_move (k := ?_); (refine Wl_nil (hK _ _ ?_); clear hK K))
      | (refine Wc_region (id := 2) ?_; intro K hK; refine Wl_lss (k' := ?_); (refine Wl_nil (hK _ _ ?_); clear hK K))
      | (refine Wc_region (id := 3) ?_; intro K hK; refine Wl_move (k := ?_); refine Wl_index_sl (k' := ?_); refine Wl_loadR (k := ?_); (refine Wl_alloc (k := ?_); intro r); refine Wl_assign (k := ?_); refine Wl_storeR (ho' := rfl) (k := ?_); (refine Wl_nil (hK _ _ ?_); clear hK K))
      | (refine Wc_region (id := 4) ?_; intro K hK; refine Wl_assign (k := ?_); (refine Wl_nil (hK _ _ ?_); clear hK K))
      | (refine Wc_region (id := 5) ?_; intro K hK; refine Wl_move (k := ?_); refine Wl_move (k := ?_); refine Wl_len_sl (k' := ?_); refine Wl_lss (k' := ?_); (refine Wl_nil (hK _ _ ?_); clear hK K))
      | (refine Wc_region (id := 6) ?_; intro K hK; refine Wl_move (k := ?_); refine Wl_move (k := ?_); refine Wl_index_sl (k' := ?_); ((skip)) <;> (refine Wl_conv (k' := ?_); refine Wl_rem (k' := ?_); refine Wl_assign (k := ?_); (refine Wl_nil (hK _ _ ?_); clear hK K)))
      | (refine Wc_draw (id := 7) (h := ?_); intro K hK; refine Wl_move (k := ?_); refine Wl_nilCheck (k := ?_); refine Wl_fieldAddr (k := ?_); refine Wl_load (k := ?_); refine Wl_fieldAddr (k := ?_); refine Wl_load (k := ?_); refine Wl_index_sl (k' := ?_); refine Wl_move (k := ?_); refine Wl_slice_arr0 (k' := ?_); refine Wl_fieldAddr (k := ?_); refine Wl_move (k := ?_); refine Wl_slice_arr0 (k' := ?_))
      | (refine Wc_region (id := 8) ?_; intro K hK; refine Wl_add (k' := ?_); refine Wl_move (k := ?_); (refine Wl_nil (hK _ _ ?_); clear hK K))
      | (refine Wc_region (id := 9) ?_; intro K hK; refine Wl_move (k := ?_); refine Wl_move (k := ?_); refine Wl_move (k := ?_); refine Wl_nilCheck (k := ?_); refine Wl_fieldAddr (k := ?_); refine Wl_store (ho := rfl) (k := ?_); refine Wl_nilCheck (k := ?_); refine Wl_fieldAddr (k := ?_); refine Wl_store (ho := rfl) (k := ?_); refine Wl_nilCheck (k := ?_); refine Wl_fieldAddr (k := ?_); refine Wl_store (ho := rfl) (k := ?_); (refine Wl_nil (hK _ _ ?_); clear hK K))
      | (refine Wc_cond (ht := (fun ht => ?_)) (hf := (fun ht => ?_)) <;> (try simp at ht) <;> (try (exfalso; omega))))
    refine ⟨Or.inl rfl, _, _ :: A0, fold_disk (D := D.crash ch) (bk := bk) (pa := none) (pc := 0) ?_, res0 rfl, rfl, rfl⟩
    simp only [DiskL, Dk.crash, e5, crashF, List.zipIdx_nil, List.foldl_nil, List.length_nil]
    simp only [List.cons_append, List.nil_append]
    refine Ent.trans ?_ (Ent.perm (((List.perm_append_comm (l₁ := [own _ _ _ _ _ _]) (l₂ := [_, _]))).append_right A0))
    exact own_nil 65 104 _
  · intro rp spare e1 e2 e3
    subst e1
    refine Wc_loop (α := Nat) (fun k => [(0, .pointer (some ⟨p, 0, none⟩)), (1, .slice a m c), (12, .slice (some ⟨rp, 0, none⟩) D.pend.length pc), (13, .int .i64 D.pend.length), (14, .int .i64 k)])
      (fun k => cb rp (pcells D.pend ++ spare) 104 :: cb p [.slice (some ⟨bk, 0, none⟩) n n, .slice (some ⟨rp, 0, none⟩) D.pend.length pc,
        .int .i64 D.fuse, .bool D.down, .int .i64 D.steps] 77 :: cb bk ((crashF ch D.kept (D.pend.take k)).map byteV) 102 :: A0)
      (fun k => k ≤ D.pend.length) (fun k => D.pend.length - k) 0 (by omega) ⟨rfl, rfl, rfl, rfl, rfl, trivial⟩ (by (repeat (first | exact Ent.refl _ | exact Ent.nil | refine Ent.take (by (repeat (first | exact Out.head | apply Out.tail)); (first | done | fail)) ?_ | refine Ent.drop1 ?_))) ?_
    intro k G hk
    simp only [ov]
    by_cases hk2 : k < D.pend.length
    · obtain ⟨q, hq⟩ : ∃ q, D.pend[k]? = some q := ⟨_, List.getElem?_eq_getElem hk2⟩
      have hqm := h.pend q (List.mem_of_getElem? hq)
      have hq1 := hqm.1; have hq2 := hqm.2
      have hpl := pcells_length D.pend (fun x hx => (h.pend x hx).2)
      have hkl := crashF_length n ch D.kept h.len (D.pend.take k) (fun x hx => h.pend x (List.mem_of_mem_take hx))
      have hnl := nOf_le ch k
      have htk : (D.pend.take k).length = k := by simp; omega
      have hcp : setL ((crashF ch D.kept (D.pend.take k)).map byteV) (0 + (q.1 : Int).toNat * 64) (((q.2.map byteV).take (nOf ch k)).take (nOf ch k * 1)) = (crashF ch D.kept (D.pend.take (k + 1))).map byteV := by
        rw [take_snoc' hq, crashF_snoc, htk, Nat.mul_one, List.take_take, Nat.min_self]
        simpa using setL_crash _ q (nOf ch k) n hkl hq1 hq2 hnl
      by_cases hck : k < m
      · obtain ⟨cc, hcc⟩ : ∃ x, ch[k]? = some x := ⟨_, List.getElem?_eq_getElem (by omega)⟩
        have hno : nOf ch k = cc.toNat % 65 := by simp [nOf, hcc]
        have hc8 : cc.toNat < 256 := cc.toNat_lt
        have hm65 : ((cc.toNat : Int)).tmod 65 = ((nOf ch k : Nat) : Int) := by rw [hno, Int.tmod_eq_emod_of_nonneg (by omega)]; omega
        cases a with
        | none => have := hsrc.nil rfl; omega
        | some pa =>
          clear hno
          repeat' (first
            | refine Wc_seq ?_
            | refine thenQ_normal ?_
            | refine Wc_cond_t (h := ?_)
            | refine Wc_cond_f (h := ?_)
            | refine Wc_ret ?_
            | refine thenQ_ret ?_
            | refine Wc_block ?_
            | refine blkQ_normal ?_
            | refine blkQ_ret ?_
            | refine Wc_exit ?_
            | refine thenQ_exit ?_
            | refine blkQ_hit ?_
            | refine blkQ_miss rfl ?_
            | refine Wc_skip ?_
            | refine Wc_label ?_
            | refine loopQ_exit ?_
            | refine loopQ_ret ?_
            | refine loopQ_normal ?_
            | (refine Wc_region (id := 0) ?_; intro K hK; refine Wl_move (k := ?_); refine Wl_ptr_eq_nil (k' := ?_); (refine Wl_nil (hK _ _ ?_); clear hK K))
            | (refine Wc_region (id := 1) ?_; intro K hK; refine Wl_move (k := ?_); refine Wl_nilCheck (k := ?_); refine Wl_fieldAddr (k := ?_); refine Wl_load (k := ?_); refine Wl_len_sl (k' := ?_); refine Wl_move (k := ?_); (refine Wl_nil (hK _ _ ?_); clear hK K))
            | (refine Wc_region (id := 2) ?_; intro K hK; refine Wl_lss (k' := ?_); (refine Wl_nil (hK _ _ ?_); clear hK K))
            | (refine Wc_region (id := 3) ?_; intro K hK; refine Wl_move (k := ?_); refine Wl_index_sl (k' := ?_); ((refine Wl_loadAgg (cs := .int .i64 q.1 :: q.2.map byteV) (hv := (by simp [hpl]; omega)) (hc := (by simpa using pcells_get D.pend k q spare (fun x hx => (h.pend x hx).2) hq)) (k := ?_))) <;> (((refine Wl_alloc (k := ?_); intro r5)) <;> (refine Wl_assign (k := ?_); ((refine Wl_storeRow (hv := (cell_all _ _)) (hl := (by simp [hq2])) (ho := (by simp)) (hs := (setL_all _ _ (by simp [hq2]))) (ho' := rfl) (k := ?_))) <;> ((refine Wl_nil (hK _ _ ?_); clear hK K)))))
            | (refine Wc_region (id := 4) ?_; intro K hK; refine Wl_assign (k := ?_); (refine Wl_nil (hK _ _ ?_); clear hK K))
            | (refine Wc_region (id := 5) ?_; intro K hK; refine Wl_move (k := ?_); refine Wl_move (k := ?_); refine Wl_len_sl (k' := ?_); refine Wl_lss (k' := ?_); (refine Wl_nil (hK _ _ ?_); clear hK K))
            | (refine Wc_region (id := 6) ?_; intro K hK; refine Wl_move (k := ?_); refine Wl_move (k := ?_); ((refine Wl_index_any (k' := ?_))) <;> (((refine Wl_load_any (m := m) (c := c) (i := k) (v := byteV cc) (vs := ch.map byteV) (hr := (by repeat (first | exact hsrc | apply RdS.tail))) (hi := hck) (hv := (by simp [hcc])) (k := ?_))) <;> (refine Wl_conv (k' := ?_); ((refine Wl_rem (k' := ?_); rw [hm65])) <;> (refine Wl_assign (k := ?_); (refine Wl_nil (hK _ _ ?_); clear hK K)))))
            | (refine Wc_draw (id := 7) (h := ?_); intro K hK; refine Wl_move (k := ?_); refine Wl_nilCheck (k := ?_); refine Wl_fieldAddr (k := ?_); refine Wl_load (k := ?_); refine Wl_fieldAddr (k := ?_); refine Wl_load (k := ?_); refine Wl_index_sl (k' := ?_); refine Wl_move (k := ?_); refine Wl_slice_arr0 (k' := ?_); refine Wl_fieldAddr (k := ?_); refine Wl_move (k := ?_); refine Wl_slice_arr0 (k' := ?_); ((refine Wl_copy (m := nOf ch k) (n := nOf ch k) (vs := (q.2.map byteV).take (nOf ch k)) (hn := (by simp [Nat.min])) (hsrc := (src_sl (b := r5) (by (repeat (first | exact Rd.head | exact Rd.base (by assumption) | apply Rd.tail)); (first | done | fail)) (by simp [hq2]; omega) (by simp))) (hvl := (by simp [hq2]; omega)) (hvc := (byteV_take _ _)) (ho := (by simp [hkl]; omega)) (hst := hcp) (ho' := rfl) (k := ?_))) <;> ((refine Wl_nil (hK _ _ ?_); clear hK K)))
            | (refine Wc_region (id := 8) ?_; intro K hK; refine Wl_add (k' := ?_); refine Wl_move (k := ?_); (refine Wl_nil (hK _ _ ?_); clear hK K))
            | (refine Wc_region (id := 9) ?_; intro K hK; refine Wl_move (k := ?_); refine Wl_move (k := ?_); refine Wl_move (k := ?_); refine Wl_nilCheck (k := ?_); refine Wl_fieldAddr (k := ?_); refine Wl_store (ho := rfl) (k := ?_); refine Wl_nilCheck (k := ?_); refine Wl_fieldAddr (k := ?_); refine Wl_store (ho := rfl) (k := ?_); refine Wl_nilCheck (k := ?_); refine Wl_fieldAddr (k := ?_); refine Wl_store (ho := rfl) (k := ?_); (refine Wl_nil (hK _ _ ?_); clear hK K))
            | (refine Wc_cond (ht := (fun ht => ?_)) (hf := (fun ht => ?_)) <;> (try simp at ht) <;> (try (exfalso; omega))))
          refine ⟨k + 1, by omega, by omega, ⟨rfl, rfl, rfl, rfl, int_succ k, trivial⟩, ?_⟩
          (repeat (first | exact Ent.refl _ | exact Ent.nil | refine Ent.take (by (repeat (first | exact Out.head | apply Out.tail)); (first | done | fail)) ?_ | refine Ent.drop1 ?_))
      · have hno : nOf ch k = 0 := by simp [nOf, List.getElem?_eq_none (show ch.length ≤ k by omega)]
        rw [hno] at hcp
        clear hno
        repeat' (first
          | refine Wc_seq ?_
          | refine thenQ_normal ?_
          | refine Wc_cond_t (h := ?_)
          | refine Wc_cond_f (h := ?_)
          | refine Wc_ret ?_
          | refine thenQ_ret ?_
          | refine Wc_block ?_
          | refine blkQ_normal ?_
          | refine blkQ_ret ?_
          | refine Wc_exit ?_
          | refine thenQ_exit ?_
          | refine blkQ_hit ?_
          | refine blkQ_miss rfl ?_
          | refine Wc_skip ?_
          | refine Wc_label ?_
          | refine loopQ_exit ?_
          | refine loopQ_ret ?_
          | refine loopQ_normal ?_
          | (refine Wc_region (id := 0) ?_; intro K hK; refine Wl_move (k := ?_); refine Wl_ptr_eq_nil (k' := ?_); (refine Wl_nil (hK _ _ ?_); clear hK K))
          | (refine Wc_region (id := 1) ?_; intro K hK; refine Wl_move (k := ?_); refine Wl_nilCheck (k := ?_); refine Wl_fieldAddr (k := ?_); refine Wl_load (k := ?_); refine Wl_len_sl (k' := ?_); refine Wl_move (k := ?_); (refine Wl_nil (hK _ _ ?_); clear hK K))
          | (refine Wc_region (id := 2) ?_; intro K hK; refine Wl_lss (k' := ?_); (refine Wl_nil (hK _ _ ?_); clear hK K))
          | (refine Wc_region (id := 3) ?_; intro K hK; refine Wl_move (k := ?_); refine Wl_index_sl (k' := ?_); ((refine Wl_loadAgg (cs := .int .i64 q.1 :: q.2.map byteV) (hv := (by simp [hpl]; omega)) (hc := (by simpa using pcells_get D.pend k q spare (fun x hx => (h.pend x hx).2) hq)) (k := ?_))) <;> (((refine Wl_alloc (k := ?_); intro r5)) <;> (refine Wl_assign (k := ?_); ((refine Wl_storeRow (hv := (cell_all _ _)) (hl := (by simp [hq2])) (ho := (by simp)) (hs := (setL_all _ _ (by simp [hq2]))) (ho' := rfl) (k := ?_))) <;> ((refine Wl_nil (hK _ _ ?_); clear hK K)))))
          | (refine Wc_region (id := 4) ?_; intro K hK; refine Wl_assign (k := ?_); (refine Wl_nil (hK _ _ ?_); clear hK K))
          | (refine Wc_region (id := 5) ?_; intro K hK; refine Wl_move (k := ?_); refine Wl_move (k := ?_); refine Wl_len_sl (k' := ?_); refine Wl_lss (k' := ?_); (refine Wl_nil (hK _ _ ?_); clear hK K))
          | (refine Wc_region (id := 6) ?_; intro K hK; refine Wl_move (k := ?_); refine Wl_move (k := ?_); refine Wl_index_sl (k' := ?_); refine Wl_load (k := ?_); refine Wl_conv (k' := ?_); refine Wl_rem (k' := ?_); refine Wl_assign (k := ?_); (refine Wl_nil (hK _ _ ?_); clear hK K))
          | (refine Wc_draw (id := 7) (h := ?_); intro K hK; refine Wl_move (k := ?_); refine Wl_nilCheck (k := ?_); refine Wl_fieldAddr (k := ?_); refine Wl_load (k := ?_); refine Wl_fieldAddr (k := ?_); refine Wl_load (k := ?_); refine Wl_index_sl (k' := ?_); refine Wl_move (k := ?_); ((refine Wl_slice_arr0 (h := 0) (k' := ?_))) <;> (refine Wl_fieldAddr (k := ?_); refine Wl_move (k := ?_); ((refine Wl_slice_arr0 (h := 0) (k' := ?_))) <;> (((refine Wl_copy (m := 0) (n := 0) (vs := (q.2.map byteV).take 0) (hn := (by rfl)) (hsrc := (src_sl (b := r5) (by (repeat (first | exact Rd.head | exact Rd.base (by assumption) | apply Rd.tail)); (first | done | fail)) (by simp) (by simp))) (hvl := (by simp)) (hvc := (byteV_take _ _)) (ho := (by simp [hkl]; omega)) (hst := hcp) (ho' := rfl) (k := ?_))) <;> ((refine Wl_nil (hK _ _ ?_); clear hK K)))))
          | (refine Wc_region (id := 8) ?_; intro K hK; refine Wl_add (k' := ?_); refine Wl_move (k := ?_); (refine Wl_nil (hK _ _ ?_); clear hK K))
          | (refine Wc_region (id := 9) ?_; intro K hK; refine Wl_move (k := ?_); refine Wl_move (k := ?_); refine Wl_move (k := ?_); refine Wl_nilCheck (k := ?_); refine Wl_fieldAddr (k := ?_); refine Wl_store (ho := rfl) (k := ?_); refine Wl_nilCheck (k := ?_); refine Wl_fieldAddr (k := ?_); refine Wl_store (ho := rfl) (k := ?_); refine Wl_nilCheck (k := ?_); refine Wl_fieldAddr (k := ?_); refine Wl_store (ho := rfl) (k := ?_); (refine Wl_nil (hK _ _ ?_); clear hK K))
          | (refine Wc_cond (ht := (fun ht => ?_)) (hf := (fun ht => ?_)) <;> (try simp at ht) <;> (try (exfalso; omega))))
        refine ⟨k + 1, by omega, by omega, ⟨rfl, rfl, rfl, rfl, int_succ k, trivial⟩, ?_⟩
        (repeat (first | exact Ent.refl _ | exact Ent.nil | refine Ent.take (by (repeat (first | exact Out.head | apply Out.tail)); (first | done | fail)) ?_ | refine Ent.drop1 ?_))
    · have hk3 : k = D.pend.length := by omega
      subst hk3
      repeat' (first
        | refine Wc_seq ?_
        | refine thenQ_normal ?_
        | refine Wc_cond_t (h := ?_)
        | refine Wc_cond_f (h := ?_)
        | refine Wc_ret ?_
        | refine thenQ_ret ?_
        | refine Wc_block ?_
        | refine blkQ_normal ?_
        | refine blkQ_ret ?_
        | refine Wc_exit ?_
        | refine thenQ_exit ?_
        | refine blkQ_hit ?_
        | refine blkQ_miss rfl ?_
        | refine Wc_skip ?_
        | refine Wc_label ?_
        | refine loopQ_exit ?_
        | refine loopQ_ret ?_
        | refine loopQ_normal ?_
        | (refine Wc_region (id := 0) ?_; intro K hK; refine Wl_move (k := ?_); refine Wl_ptr_eq_nil (k' := ?_); (refine Wl_nil (hK _ _ ?_); clear hK K))
        | (refine Wc_region (id := 1) ?_; intro K hK; refine Wl_move (k := ?_); refine Wl_nilCheck (k := ?_); refine Wl_fieldAddr (k := ?_); refine Wl_load (k := ?_); refine Wl_len_sl (k' := ?_); refine Wl_move (k := ?_); (refine Wl_nil (hK _ _ ?_); clear hK K))
        | (refine Wc_region (id := 2) ?_; intro K hK; refine Wl_lss (k' := ?_); (refine Wl_nil (hK _ _ ?_); clear hK K))
        | (refine Wc_region (id := 3) ?_; intro K hK; refine Wl_move (k := ?_); ((skip)) <;> (refine Wl_loadR (k := ?_); (refine Wl_alloc (k := ?_); intro r); refine Wl_assign (k := ?_); refine Wl_storeR (ho' := rfl) (k := ?_); (refine Wl_nil (hK _ _ ?_); clear hK K)))
        | (refine Wc_region (id := 4) ?_; intro K hK; refine Wl_assign (k := ?_); (refine Wl_nil (hK _ _ ?_); clear hK K))
        | (refine Wc_region (id := 5) ?_; intro K hK; refine Wl_move (k := ?_); refine Wl_move (k := ?_); refine Wl_len_sl (k' := ?_); refine Wl_lss (k' := ?_); (refine Wl_nil (hK _ _ ?_); clear hK K))
        | (refine Wc_region (id := 6) ?_; intro K hK; refine Wl_move (k := ?_); refine Wl_move (k := ?_); refine Wl_index_sl (k' := ?_); refine Wl_load (k := ?_); refine Wl_conv (k' := ?_); refine Wl_rem (k' := ?_); refine Wl_assign (k := ?_); (refine Wl_nil (hK _ _ ?_); clear hK K))
        | (refine Wc_draw (id := 7) (h := ?_); intro K hK; refine Wl_move (k := ?_); refine Wl_nilCheck (k := ?_); refine Wl_fieldAddr (k := ?_); refine Wl_load (k := ?_); refine Wl_fieldAddr (k := ?_); refine Wl_load (k := ?_); refine Wl_index_sl (k' := ?_); refine Wl_move (k := ?_); refine Wl_slice_arr0 (k' := ?_); refine Wl_fieldAddr (k := ?_); refine Wl_move (k := ?_); refine Wl_slice_arr0 (k' := ?_))
        | (refine Wc_region (id := 8) ?_; intro K hK; refine Wl_add (k' := ?_); refine Wl_move (k := ?_); (refine Wl_nil (hK _ _ ?_); clear hK K))
        | (refine Wc_region (id := 9) ?_; intro K hK; refine Wl_move (k := ?_); refine Wl_move (k := ?_); refine Wl_move (k := ?_); refine Wl_nilCheck (k := ?_); refine Wl_fieldAddr (k := ?_); refine Wl_store (ho := rfl) (k := ?_); refine Wl_nilCheck (k := ?_); refine Wl_fieldAddr (k := ?_); refine Wl_store (ho := rfl) (k := ?_); refine Wl_nilCheck (k := ?_); refine Wl_fieldAddr (k := ?_); refine Wl_store (ho := rfl) (k := ?_); (refine Wl_nil (hK _ _ ?_); clear hK K))
        | (refine Wc_cond (ht := (fun ht => ?_)) (hf := (fun ht => ?_)) <;> (try simp at ht) <;> (try (exfalso; omega))))
      refine ⟨Or.inl rfl, _, _ :: A0, fold_disk (D := D.crash ch) (bk := bk) (pa := none) (pc := 0) ?_, res0 rfl, rfl, rfl⟩
      simp only [DiskL, Dk.crash, List.length_nil, List.take_length]
      simp only [List.cons_append, List.nil_append]
      refine Ent.trans ?_ (Ent.perm (((List.perm_append_comm (l₁ := [own _ _ _ _ _ _]) (l₂ := [_, _]))).append_right A0))
      refine Ent.trans ?_ (own_nil 65 104 _)
      (repeat (first | exact Ent.refl _ | exact Ent.nil | refine Ent.take (by (repeat (first | exact Out.head | apply Out.tail)); (first | done | fail)) ?_ | refine Ent.drop1 ?_))
theorem fuse_ok (p n : Nat) (k : Int) (D : Dk) :
    Fspec Try.prog B 14 #[.pointer (some ⟨p, 0, none⟩), .int .i64 k] [DiskP p n D]
      (fun v A' => v = .tuple #[] ∧ A' = [DiskP p n (D.fused k)]) := by
  refine spec_of (args := [_, _]) Try.func14 rfl rfl rfl ?_
  refine Wc_exN (fun x => ?_)
  obtain ⟨bk, pa, pc⟩ := x
  simp only [DiskL]
  simp only [List.cons_append, List.nil_append]
  repeat' (first
    | refine Wc_seq ?_
    | refine thenQ_normal ?_
    | refine Wc_cond_t (h := ?_)
    | refine Wc_cond_f (h := ?_)
    | refine Wc_ret ?_
    | refine thenQ_ret ?_
    | refine Wc_block ?_
    | refine blkQ_normal ?_
    | refine blkQ_ret ?_
    | refine Wc_exit ?_
    | refine thenQ_exit ?_
    | refine blkQ_hit ?_
    | refine blkQ_miss rfl ?_
    | refine Wc_skip ?_
    | refine Wc_label ?_
    | refine loopQ_exit ?_
    | refine loopQ_ret ?_
    | refine loopQ_normal ?_
    | (refine Wc_region (id := 0) ?_; intro K hK; refine Wl_move (k := ?_); refine Wl_ptr_neq_nil (k' := ?_); (refine Wl_nil (hK _ _ ?_); clear hK K))
    | (refine Wc_region (id := 1) ?_; intro K hK; refine Wl_move (k := ?_); refine Wl_move (k := ?_); refine Wl_max (k' := ?_); refine Wl_nilCheck (k := ?_); refine Wl_fieldAddr (k := ?_); refine Wl_store (ho := rfl) (k := ?_); (refine Wl_nil (hK _ _ ?_); clear hK K))
    | (refine Wc_cond (ht := (fun ht => ?_)) (hf := (fun ht => ?_)) <;> (try simp at ht) <;> (try (exfalso; omega))))
  refine ⟨Or.inl rfl, _, [_], fold_disk (A0 := []) (D := D.fused k) (bk := bk) (pa := pa) (pc := pc) (Ent.refl _), res0 rfl, rfl, rfl⟩
theorem len_ok (p n : Nat) (D : Dk) :
    Fspec Try.prog B 28 #[.pointer (some ⟨p, 0, none⟩)] [DiskP p n D] (fun v A' => v = .int .i64 n ∧ A' = [DiskP p n D]) := by
  refine spec_of (args := [_]) Try.func28 rfl rfl rfl ?_
  refine Wc_exN (fun x => ?_)
  obtain ⟨bk, pa, pc⟩ := x
  simp only [DiskL]
  simp only [List.cons_append, List.nil_append]
  repeat' (first
    | refine Wc_seq ?_
    | refine thenQ_normal ?_
    | refine Wc_cond_t (h := ?_)
    | refine Wc_cond_f (h := ?_)
    | refine Wc_ret ?_
    | refine thenQ_ret ?_
    | refine Wc_block ?_
    | refine blkQ_normal ?_
    | refine blkQ_ret ?_
    | refine Wc_exit ?_
    | refine thenQ_exit ?_
    | refine blkQ_hit ?_
    | refine blkQ_miss rfl ?_
    | refine Wc_skip ?_
    | refine Wc_label ?_
    | refine loopQ_exit ?_
    | refine loopQ_ret ?_
    | refine loopQ_normal ?_
    | (refine Wc_region (id := 0) ?_; intro K hK; refine Wl_assign (k := ?_); (refine Wl_nil (hK _ _ ?_); clear hK K))
    | (refine Wc_region (id := 1) ?_; intro K hK; refine Wl_move (k := ?_); refine Wl_ptr_eq_nil (k' := ?_); (refine Wl_nil (hK _ _ ?_); clear hK K))
    | (refine Wc_region (id := 2) ?_; intro K hK; refine Wl_assign (k := ?_); (refine Wl_nil (hK _ _ ?_); clear hK K))
    | (refine Wc_region (id := 3) ?_; intro K hK; refine Wl_move (k := ?_); refine Wl_nilCheck (k := ?_); refine Wl_fieldAddr (k := ?_); refine Wl_load (k := ?_); refine Wl_len_sl (k' := ?_); refine Wl_assign (k := ?_); (refine Wl_nil (hK _ _ ?_); clear hK K))
    | (refine Wc_cond (ht := (fun ht => ?_)) (hf := (fun ht => ?_)) <;> (try simp at ht) <;> (try (exfalso; omega))))
  exact ⟨Or.inr rfl, _, [_], fold_disk (A0 := []) (Ent.refl _), res1 rfl rfl, rfl, rfl⟩
theorem len_nil : Fspec Try.prog B 28 #[.pointer none] [] (fun v A' => v = .int .i64 0 ∧ A' = []) := by
  refine spec_of (args := [_]) Try.func28 rfl rfl rfl ?_
  repeat' (first
    | refine Wc_seq ?_
    | refine thenQ_normal ?_
    | refine Wc_cond_t (h := ?_)
    | refine Wc_cond_f (h := ?_)
    | refine Wc_ret ?_
    | refine thenQ_ret ?_
    | refine Wc_block ?_
    | refine blkQ_normal ?_
    | refine blkQ_ret ?_
    | refine Wc_exit ?_
    | refine thenQ_exit ?_
    | refine blkQ_hit ?_
    | refine blkQ_miss rfl ?_
    | refine Wc_skip ?_
    | refine Wc_label ?_
    | refine loopQ_exit ?_
    | refine loopQ_ret ?_
    | refine loopQ_normal ?_
    | (refine Wc_region (id := 0) ?_; intro K hK; refine Wl_assign (k := ?_); (refine Wl_nil (hK _ _ ?_); clear hK K))
    | (refine Wc_region (id := 1) ?_; intro K hK; refine Wl_move (k := ?_); refine Wl_ptr_eq_nil (k' := ?_); (refine Wl_nil (hK _ _ ?_); clear hK K))
    | (refine Wc_region (id := 2) ?_; intro K hK; refine Wl_assign (k := ?_); (refine Wl_nil (hK _ _ ?_); clear hK K))
    | (refine Wc_region (id := 3) ?_; intro K hK; refine Wl_move (k := ?_); refine Wl_nilCheck (k := ?_); refine Wl_fieldAddr (k := ?_); refine Wl_load (k := ?_); refine Wl_len_sl (k' := ?_); refine Wl_assign (k := ?_); (refine Wl_nil (hK _ _ ?_); clear hK K))
    | (refine Wc_cond (ht := (fun ht => ?_)) (hf := (fun ht => ?_)) <;> (try simp at ht) <;> (try (exfalso; omega))))
  refine ⟨Or.inr rfl, _, _, Ent.refl _, res1 rfl rfl, ?_⟩; exact ⟨rfl, rfl⟩
theorem down_ok (p n : Nat) (D : Dk) :
    Fspec Try.prog B 29 #[.pointer (some ⟨p, 0, none⟩)] [DiskP p n D] (fun v A' => v = .bool D.down ∧ A' = [DiskP p n D]) := by
  refine spec_of (args := [_]) Try.func29 rfl rfl rfl ?_
  refine Wc_exN (fun x => ?_)
  obtain ⟨bk, pa, pc⟩ := x
  simp only [DiskL]
  simp only [List.cons_append, List.nil_append]
  repeat' (first
    | refine Wc_seq ?_
    | refine thenQ_normal ?_
    | refine Wc_cond_t (h := ?_)
    | refine Wc_cond_f (h := ?_)
    | refine Wc_ret ?_
    | refine thenQ_ret ?_
    | refine Wc_block ?_
    | refine blkQ_normal ?_
    | refine blkQ_ret ?_
    | refine Wc_exit ?_
    | refine thenQ_exit ?_
    | refine blkQ_hit ?_
    | refine blkQ_miss rfl ?_
    | refine Wc_skip ?_
    | refine Wc_label ?_
    | refine loopQ_exit ?_
    | refine loopQ_ret ?_
    | refine loopQ_normal ?_
    | (refine Wc_region (id := 0) ?_; intro K hK; refine Wl_assign (k := ?_); (refine Wl_nil (hK _ _ ?_); clear hK K))
    | (refine Wc_region (id := 1) ?_; intro K hK; refine Wl_move (k := ?_); refine Wl_ptr_eq_nil (k' := ?_); refine Wl_move (k := ?_); ((first | (refine Wl_guard (k := ?_); refine Wl_move (k := ?_)) | refine Wl_gno (k := ?_) | ((refine Wl_split (yes := (fun ht => ?_)) (no := (fun ht => ?_)) <;> (try simp at ht) <;> (try (exfalso; omega))) <;> (first | (refine Wl_guard (k := ?_); refine Wl_move (k := ?_)) | refine Wl_gno (k := ?_))))) <;> (((first | (refine Wl_guard (k := ?_); refine Wl_nilCheck (k := ?_)) | refine Wl_gno (k := ?_) | ((refine Wl_split (yes := (fun ht => ?_)) (no := (fun ht => ?_)) <;> (try simp at ht) <;> (try (exfalso; omega))) <;> (first | (refine Wl_guard (k := ?_); refine Wl_nilCheck (k := ?_)) | refine Wl_gno (k := ?_))))) <;> (((first | (refine Wl_guard (k := ?_); refine Wl_fieldAddr (k := ?_)) | refine Wl_gno (k := ?_) | ((refine Wl_split (yes := (fun ht => ?_)) (no := (fun ht => ?_)) <;> (try simp at ht) <;> (try (exfalso; omega))) <;> (first | (refine Wl_guard (k := ?_); refine Wl_fieldAddr (k := ?_)) | refine Wl_gno (k := ?_))))) <;> (((first | (refine Wl_guard (k := ?_); refine Wl_load (k := ?_)) | refine Wl_gno (k := ?_) | ((refine Wl_split (yes := (fun ht => ?_)) (no := (fun ht => ?_)) <;> (try simp at ht) <;> (try (exfalso; omega))) <;> (first | (refine Wl_guard (k := ?_); refine Wl_load (k := ?_)) | refine Wl_gno (k := ?_))))) <;> ((first | refine Wl_pick_t (k := ?_) | refine Wl_pick_f (k := ?_) | refine Wl_pick (k := ?_)); refine Wl_assign (k := ?_); (refine Wl_nil (hK _ _ ?_); clear hK K))))))
    | (refine Wc_cond (ht := (fun ht => ?_)) (hf := (fun ht => ?_)) <;> (try simp at ht) <;> (try (exfalso; omega))))
  all_goals exact ⟨Or.inr rfl, _, [_], fold_disk (A0 := []) (Ent.refl _), res1 rfl rfl, rfl, rfl⟩
theorem down_nil : Fspec Try.prog B 29 #[.pointer none] [] (fun v A' => v = .bool true ∧ A' = []) := by
  refine spec_of (args := [_]) Try.func29 rfl rfl rfl ?_
  repeat' (first
    | refine Wc_seq ?_
    | refine thenQ_normal ?_
    | refine Wc_cond_t (h := ?_)
    | refine Wc_cond_f (h := ?_)
    | refine Wc_ret ?_
    | refine thenQ_ret ?_
    | refine Wc_block ?_
    | refine blkQ_normal ?_
    | refine blkQ_ret ?_
    | refine Wc_exit ?_
    | refine thenQ_exit ?_
    | refine blkQ_hit ?_
    | refine blkQ_miss rfl ?_
    | refine Wc_skip ?_
    | refine Wc_label ?_
    | refine loopQ_exit ?_
    | refine loopQ_ret ?_
    | refine loopQ_normal ?_
    | (refine Wc_region (id := 0) ?_; intro K hK; refine Wl_assign (k := ?_); (refine Wl_nil (hK _ _ ?_); clear hK K))
    | (refine Wc_region (id := 1) ?_; intro K hK; refine Wl_move (k := ?_); refine Wl_ptr_eq_nil (k' := ?_); refine Wl_move (k := ?_); ((first | (refine Wl_guard (k := ?_); refine Wl_move (k := ?_)) | refine Wl_gno (k := ?_) | ((refine Wl_split (yes := (fun ht => ?_)) (no := (fun ht => ?_)) <;> (try simp at ht) <;> (try (exfalso; omega))) <;> (first | (refine Wl_guard (k := ?_); refine Wl_move (k := ?_)) | refine Wl_gno (k := ?_))))) <;> (((first | (refine Wl_guard (k := ?_); refine Wl_nilCheck (k := ?_)) | refine Wl_gno (k := ?_) | ((refine Wl_split (yes := (fun ht => ?_)) (no := (fun ht => ?_)) <;> (try simp at ht) <;> (try (exfalso; omega))) <;> (first | (refine Wl_guard (k := ?_); refine Wl_nilCheck (k := ?_)) | refine Wl_gno (k := ?_))))) <;> (((first | (refine Wl_guard (k := ?_); refine Wl_fieldAddr (k := ?_)) | refine Wl_gno (k := ?_) | ((refine Wl_split (yes := (fun ht => ?_)) (no := (fun ht => ?_)) <;> (try simp at ht) <;> (try (exfalso; omega))) <;> (first | (refine Wl_guard (k := ?_); refine Wl_fieldAddr (k := ?_)) | refine Wl_gno (k := ?_))))) <;> (((first | (refine Wl_guard (k := ?_); refine Wl_load (k := ?_)) | refine Wl_gno (k := ?_) | ((refine Wl_split (yes := (fun ht => ?_)) (no := (fun ht => ?_)) <;> (try simp at ht) <;> (try (exfalso; omega))) <;> (first | (refine Wl_guard (k := ?_); refine Wl_load (k := ?_)) | refine Wl_gno (k := ?_))))) <;> ((first | refine Wl_pick_t (k := ?_) | refine Wl_pick_f (k := ?_) | refine Wl_pick (k := ?_)); refine Wl_assign (k := ?_); (refine Wl_nil (hK _ _ ?_); clear hK K))))))
    | (refine Wc_cond (ht := (fun ht => ?_)) (hf := (fun ht => ?_)) <;> (try simp at ht) <;> (try (exfalso; omega))))
  refine ⟨Or.inr rfl, _, _, Ent.refl _, res1 rfl rfl, ?_⟩; exact ⟨rfl, rfl⟩
theorem read_bad (p n : Nat) (i : Int) (D : Dk) (hi : i < 0 ∨ (n : Int) ≤ i) :
    Fspec Try.prog B 46 #[.pointer (some ⟨p, 0, none⟩), .int .i64 i] [DiskP p n D]
      (fun v A' => v = .tuple #[.slice none 0 0, .int .i64 1] ∧ A' = [DiskP p n D]) := by
  refine spec_of (args := [_, _]) Try.func46 rfl rfl rfl ?_
  refine Wc_exN (fun x => ?_)
  obtain ⟨bk, pa, pc⟩ := x
  simp only [DiskL]
  simp only [List.cons_append, List.nil_append]
  repeat' (first
    | refine Wc_seq ?_
    | refine thenQ_normal ?_
    | refine Wc_cond_t (h := ?_)
    | refine Wc_cond_f (h := ?_)
    | refine Wc_ret ?_
    | refine thenQ_ret ?_
    | refine Wc_block ?_
    | refine blkQ_normal ?_
    | refine blkQ_ret ?_
    | refine Wc_exit ?_
    | refine thenQ_exit ?_
    | refine blkQ_hit ?_
    | refine blkQ_miss rfl ?_
    | refine Wc_skip ?_
    | refine Wc_label ?_
    | refine loopQ_exit ?_
    | refine loopQ_ret ?_
    | refine loopQ_normal ?_
    | (refine Wc_region (id := 0) ?_; intro K hK; refine Wl_assign (k := ?_); refine Wl_assign (k := ?_); (refine Wl_nil (hK _ _ ?_); clear hK K))
    | (refine Wc_region (id := 1) ?_; intro K hK; refine Wl_move (k := ?_); refine Wl_ptr_eq_nil (k' := ?_); refine Wl_move (k := ?_); ((first | (refine Wl_guard (k := ?_); refine Wl_move (k := ?_)) | refine Wl_gno (k := ?_) | ((refine Wl_split (yes := (fun ht => ?_)) (no := (fun ht => ?_)) <;> (try simp at ht) <;> (try (exfalso; omega))) <;> (first | (refine Wl_guard (k := ?_); refine Wl_move (k := ?_)) | refine Wl_gno (k := ?_))))) <;> (((first | (refine Wl_guard (k := ?_); refine Wl_lss (k' := ?_)) | refine Wl_gno (k := ?_) | ((refine Wl_split (yes := (fun ht => ?_)) (no := (fun ht => ?_)) <;> (try simp at ht) <;> (try (exfalso; omega))) <;> (first | (refine Wl_guard (k := ?_); refine Wl_lss (k' := ?_)) | refine Wl_gno (k := ?_))))) <;> ((first | refine Wl_pick_t (k := ?_) | refine Wl_pick_f (k := ?_) | refine Wl_pick (k := ?_)); refine Wl_move (k := ?_); ((first | (refine Wl_guard (k := ?_); refine Wl_move (k := ?_)) | refine Wl_gno (k := ?_) | ((refine Wl_split (yes := (fun ht => ?_)) (no := (fun ht => ?_)) <;> (try simp at ht) <;> (try (exfalso; omega))) <;> (first | (refine Wl_guard (k := ?_); refine Wl_move (k := ?_)) | refine Wl_gno (k := ?_))))) <;> (((first | (refine Wl_guard (k := ?_); refine Wl_move (k := ?_)) | refine Wl_gno (k := ?_) | ((refine Wl_split (yes := (fun ht => ?_)) (no := (fun ht => ?_)) <;> (try simp at ht) <;> (try (exfalso; omega))) <;> (first | (refine Wl_guard (k := ?_); refine Wl_move (k := ?_)) | refine Wl_gno (k := ?_))))) <;> (((first | (refine Wl_guard (k := ?_); refine Wl_nilCheck (k := ?_)) | refine Wl_gno (k := ?_) | ((refine Wl_split (yes := (fun ht => ?_)) (no := (fun ht => ?_)) <;> (try simp at ht) <;> (try (exfalso; omega))) <;> (first | (refine Wl_guard (k := ?_); refine Wl_nilCheck (k := ?_)) | refine Wl_gno (k := ?_))))) <;> (((first | (refine Wl_guard (k := ?_); refine Wl_fieldAddr (k := ?_)) | refine Wl_gno (k := ?_) | ((refine Wl_split (yes := (fun ht => ?_)) (no := (fun ht => ?_)) <;> (try simp at ht) <;> (try (exfalso; omega))) <;> (first | (refine Wl_guard (k := ?_); refine Wl_fieldAddr (k := ?_)) | refine Wl_gno (k := ?_))))) <;> (((first | (refine Wl_guard (k := ?_); refine Wl_load (k := ?_)) | refine Wl_gno (k := ?_) | ((refine Wl_split (yes := (fun ht => ?_)) (no := (fun ht => ?_)) <;> (try simp at ht) <;> (try (exfalso; omega))) <;> (first | (refine Wl_guard (k := ?_); refine Wl_load (k := ?_)) | refine Wl_gno (k := ?_))))) <;> (((first | (refine Wl_guard (k := ?_); refine Wl_len_sl (k' := ?_)) | refine Wl_gno (k := ?_) | ((refine Wl_split (yes := (fun ht => ?_)) (no := (fun ht => ?_)) <;> (try simp at ht) <;> (try (exfalso; omega))) <;> (first | (refine Wl_guard (k := ?_); refine Wl_len_sl (k' := ?_)) | refine Wl_gno (k := ?_))))) <;> (((first | (refine Wl_guard (k := ?_); refine Wl_geq (k' := ?_)) | refine Wl_gno (k := ?_) | ((refine Wl_split (yes := (fun ht => ?_)) (no := (fun ht => ?_)) <;> (try simp at ht) <;> (try (exfalso; omega))) <;> (first | (refine Wl_guard (k := ?_); refine Wl_geq (k' := ?_)) | refine Wl_gno (k := ?_))))) <;> ((first | refine Wl_pick_t (k := ?_) | refine Wl_pick_f (k := ?_) | refine Wl_pick (k := ?_)); (refine Wl_nil (hK _ _ ?_); clear hK K)))))))))))
    | (refine Wc_region (id := 2) ?_; intro K hK; refine Wl_assign (k := ?_); refine Wl_assign (k := ?_); (refine Wl_nil (hK _ _ ?_); clear hK K))
    | (refine Wc_region (id := 3) ?_; intro K hK; refine Wl_move (k := ?_); refine Wl_nilCheck (k := ?_); refine Wl_fieldAddr (k := ?_); refine Wl_load (k := ?_); (refine Wl_nil (hK _ _ ?_); clear hK K))
    | (refine Wc_region (id := 4) ?_; intro K hK; refine Wl_assign (k := ?_); refine Wl_assign (k := ?_); (refine Wl_nil (hK _ _ ?_); clear hK K))
    | (refine Wc_region (id := 5) ?_; intro K hK; refine Wl_move (k := ?_); refine Wl_nilCheck (k := ?_); refine Wl_fieldAddr (k := ?_); refine Wl_load (k := ?_); refine Wl_move (k := ?_); refine Wl_index_sl (k' := ?_); ((exfalso; omega)) <;> ((refine Wl_alloc (k := ?_); intro r); refine Wl_storeR (ho' := rfl) (k := ?_); (refine Wl_nil (hK _ _ ?_); clear hK K)))
    | (refine Wc_region (id := 6) ?_; intro K hK; refine Wl_move (k := ?_); refine Wl_nilCheck (k := ?_); refine Wl_fieldAddr (k := ?_); refine Wl_load (k := ?_); refine Wl_len_sl (k' := ?_); refine Wl_move (k := ?_); (refine Wl_nil (hK _ _ ?_); clear hK K))
    | (refine Wc_region (id := 7) ?_; intro K hK; refine Wl_lss (k' := ?_); (refine Wl_nil (hK _ _ ?_); clear hK K))
    | (refine Wc_region (id := 8) ?_; intro K hK; refine Wl_index_sl (k' := ?_); refine Wl_loadR (k := ?_); (refine Wl_alloc (k := ?_); intro r); refine Wl_storeR (ho' := rfl) (k := ?_); (refine Wl_nil (hK _ _ ?_); clear hK K))
    | (refine Wc_region (id := 9) ?_; intro K hK; refine Wl_fieldAddr (k := ?_); refine Wl_load (k := ?_); refine Wl_move (k := ?_); refine Wl_eql (k' := ?_); (refine Wl_nil (hK _ _ ?_); clear hK K))
    | (refine Wc_region (id := 10) ?_; intro K hK; refine Wl_fieldAddr (k := ?_); refine Wl_loadR (k := ?_); refine Wl_storeR (ho' := rfl) (k := ?_); (refine Wl_nil (hK _ _ ?_); clear hK K))
    | (refine Wc_region (id := 11) ?_; intro K hK; refine Wl_add (k' := ?_); refine Wl_move (k := ?_); (refine Wl_nil (hK _ _ ?_); clear hK K))
    | (refine Wc_region (id := 12) ?_; intro K hK; (refine Wl_lit0o (k := ?_); intro r); refine Wl_slice_arr0 (k' := ?_))
    | (refine Wc_cond (ht := (fun ht => ?_)) (hf := (fun ht => ?_)) <;> (try simp at ht) <;> (try (exfalso; omega))))
  all_goals exact ⟨Or.inr rfl, _, [_], fold_disk (A0 := []) (Ent.refl _), res2 rfl rfl rfl, rfl, rfl⟩
theorem read_down (p n : Nat) (i : Int) (D : Dk) (hi : 0 ≤ i ∧ i < n) (hd : D.down = true) :
    Fspec Try.prog B 46 #[.pointer (some ⟨p, 0, none⟩), .int .i64 i] [DiskP p n D]
      (fun v A' => v = .tuple #[.slice none 0 0, .int .i64 7] ∧ A' = [DiskP p n D]) := by
  refine spec_of (args := [_, _]) Try.func46 rfl rfl rfl ?_
  refine Wc_exN (fun x => ?_)
  obtain ⟨bk, pa, pc⟩ := x
  simp only [DiskL, hd]
  simp only [List.cons_append, List.nil_append]
  repeat' (first
    | refine Wc_seq ?_
    | refine thenQ_normal ?_
    | refine Wc_cond_t (h := ?_)
    | refine Wc_cond_f (h := ?_)
    | refine Wc_ret ?_
    | refine thenQ_ret ?_
    | refine Wc_block ?_
    | refine blkQ_normal ?_
    | refine blkQ_ret ?_
    | refine Wc_exit ?_
    | refine thenQ_exit ?_
    | refine blkQ_hit ?_
    | refine blkQ_miss rfl ?_
    | refine Wc_skip ?_
    | refine Wc_label ?_
    | refine loopQ_exit ?_
    | refine loopQ_ret ?_
    | refine loopQ_normal ?_
    | (refine Wc_region (id := 0) ?_; intro K hK; refine Wl_assign (k := ?_); refine Wl_assign (k := ?_); (refine Wl_nil (hK _ _ ?_); clear hK K))
    | (refine Wc_region (id := 1) ?_; intro K hK; refine Wl_move (k := ?_); refine Wl_ptr_eq_nil (k' := ?_); refine Wl_move (k := ?_); ((first | (refine Wl_guard (k := ?_); refine Wl_move (k := ?_)) | refine Wl_gno (k := ?_) | ((refine Wl_split (yes := (fun ht => ?_)) (no := (fun ht => ?_)) <;> (try simp at ht) <;> (try (exfalso; omega))) <;> (first | (refine Wl_guard (k := ?_); refine Wl_move (k := ?_)) | refine Wl_gno (k := ?_))))) <;> (((first | (refine Wl_guard (k := ?_); refine Wl_lss (k' := ?_)) | refine Wl_gno (k := ?_) | ((refine Wl_split (yes := (fun ht => ?_)) (no := (fun ht => ?_)) <;> (try simp at ht) <;> (try (exfalso; omega))) <;> (first | (refine Wl_guard (k := ?_); refine Wl_lss (k' := ?_)) | refine Wl_gno (k := ?_))))) <;> ((first | refine Wl_pick_t (k := ?_) | refine Wl_pick_f (k := ?_) | refine Wl_pick (k := ?_)); refine Wl_move (k := ?_); ((first | (refine Wl_guard (k := ?_); refine Wl_move (k := ?_)) | refine Wl_gno (k := ?_) | ((refine Wl_split (yes := (fun ht => ?_)) (no := (fun ht => ?_)) <;> (try simp at ht) <;> (try (exfalso; omega))) <;> (first | (refine Wl_guard (k := ?_); refine Wl_move (k := ?_)) | refine Wl_gno (k := ?_))))) <;> (((first | (refine Wl_guard (k := ?_); refine Wl_move (k := ?_)) | refine Wl_gno (k := ?_) | ((refine Wl_split (yes := (fun ht => ?_)) (no := (fun ht => ?_)) <;> (try simp at ht) <;> (try (exfalso; omega))) <;> (first | (refine Wl_guard (k := ?_); refine Wl_move (k := ?_)) | refine Wl_gno (k := ?_))))) <;> (((first | (refine Wl_guard (k := ?_); refine Wl_nilCheck (k := ?_)) | refine Wl_gno (k := ?_) | ((refine Wl_split (yes := (fun ht => ?_)) (no := (fun ht => ?_)) <;> (try simp at ht) <;> (try (exfalso; omega))) <;> (first | (refine Wl_guard (k := ?_); refine Wl_nilCheck (k := ?_)) | refine Wl_gno (k := ?_))))) <;> (((first | (refine Wl_guard (k := ?_); refine Wl_fieldAddr (k := ?_)) | refine Wl_gno (k := ?_) | ((refine Wl_split (yes := (fun ht => ?_)) (no := (fun ht => ?_)) <;> (try simp at ht) <;> (try (exfalso; omega))) <;> (first | (refine Wl_guard (k := ?_); refine Wl_fieldAddr (k := ?_)) | refine Wl_gno (k := ?_))))) <;> (((first | (refine Wl_guard (k := ?_); refine Wl_load (k := ?_)) | refine Wl_gno (k := ?_) | ((refine Wl_split (yes := (fun ht => ?_)) (no := (fun ht => ?_)) <;> (try simp at ht) <;> (try (exfalso; omega))) <;> (first | (refine Wl_guard (k := ?_); refine Wl_load (k := ?_)) | refine Wl_gno (k := ?_))))) <;> (((first | (refine Wl_guard (k := ?_); refine Wl_len_sl (k' := ?_)) | refine Wl_gno (k := ?_) | ((refine Wl_split (yes := (fun ht => ?_)) (no := (fun ht => ?_)) <;> (try simp at ht) <;> (try (exfalso; omega))) <;> (first | (refine Wl_guard (k := ?_); refine Wl_len_sl (k' := ?_)) | refine Wl_gno (k := ?_))))) <;> (((first | (refine Wl_guard (k := ?_); refine Wl_geq (k' := ?_)) | refine Wl_gno (k := ?_) | ((refine Wl_split (yes := (fun ht => ?_)) (no := (fun ht => ?_)) <;> (try simp at ht) <;> (try (exfalso; omega))) <;> (first | (refine Wl_guard (k := ?_); refine Wl_geq (k' := ?_)) | refine Wl_gno (k := ?_))))) <;> ((first | refine Wl_pick_t (k := ?_) | refine Wl_pick_f (k := ?_) | refine Wl_pick (k := ?_)); (refine Wl_nil (hK _ _ ?_); clear hK K)))))))))))
    | (refine Wc_region (id := 2) ?_; intro K hK; refine Wl_assign (k := ?_); refine Wl_assign (k := ?_); (refine Wl_nil (hK _ _ ?_); clear hK K))
    | (refine Wc_region (id := 3) ?_; intro K hK; refine Wl_move (k := ?_); refine Wl_nilCheck (k := ?_); refine Wl_fieldAddr (k := ?_); refine Wl_load (k := ?_); (refine Wl_nil (hK _ _ ?_); clear hK K))
    | (refine Wc_region (id := 4) ?_; intro K hK; refine Wl_assign (k := ?_); refine Wl_assign (k := ?_); (refine Wl_nil (hK _ _ ?_); clear hK K))
    | (refine Wc_region (id := 5) ?_; intro K hK; refine Wl_move (k := ?_); refine Wl_nilCheck (k := ?_); refine Wl_fieldAddr (k := ?_); refine Wl_load (k := ?_); refine Wl_move (k := ?_); refine Wl_index_sl (k' := ?_); ((skip)) <;> ((refine Wl_alloc (k := ?_); intro r); refine Wl_storeR (ho' := rfl) (k := ?_); (refine Wl_nil (hK _ _ ?_); clear hK K)))
    | (refine Wc_region (id := 6) ?_; intro K hK; refine Wl_move (k := ?_); refine Wl_nilCheck (k := ?_); refine Wl_fieldAddr (k := ?_); refine Wl_load (k := ?_); refine Wl_len_sl (k' := ?_); refine Wl_move (k := ?_); (refine Wl_nil (hK _ _ ?_); clear hK K))
    | (refine Wc_region (id := 7) ?_; intro K hK; refine Wl_lss (k' := ?_); (refine Wl_nil (hK _ _ ?_); clear hK K))
    | (refine Wc_region (id := 8) ?_; intro K hK; refine Wl_index_sl (k' := ?_); refine Wl_loadR (k := ?_); (refine Wl_alloc (k := ?_); intro r); refine Wl_storeR (ho' := rfl) (k := ?_); (refine Wl_nil (hK _ _ ?_); clear hK K))
    | (refine Wc_region (id := 9) ?_; intro K hK; refine Wl_fieldAddr (k := ?_); refine Wl_load (k := ?_); refine Wl_move (k := ?_); refine Wl_eql (k' := ?_); (refine Wl_nil (hK _ _ ?_); clear hK K))
    | (refine Wc_region (id := 10) ?_; intro K hK; refine Wl_fieldAddr (k := ?_); refine Wl_loadR (k := ?_); refine Wl_storeR (ho' := rfl) (k := ?_); (refine Wl_nil (hK _ _ ?_); clear hK K))
    | (refine Wc_region (id := 11) ?_; intro K hK; refine Wl_add (k' := ?_); refine Wl_move (k := ?_); (refine Wl_nil (hK _ _ ?_); clear hK K))
    | (refine Wc_region (id := 12) ?_; intro K hK; (refine Wl_lit0o (k := ?_); intro r); refine Wl_slice_arr0 (k' := ?_))
    | (refine Wc_cond (ht := (fun ht => ?_)) (hf := (fun ht => ?_)) <;> (try simp at ht) <;> (try (exfalso; omega))))
  refine ⟨Or.inr rfl, _, [_], fold_disk (A0 := []) (D := D) (bk := bk) (pa := pa) (pc := pc) ?_, res2 rfl rfl rfl, rfl, rfl⟩
  simp only [DiskL, hd]
  exact Ent.refl _
end specs
end Go.Proofs.Ytepeljbgekgjcaa
