/- Package state: states: the fold anew, an epoch. Conditions: none but the kinds' bounds, and not too many entries. -/
import Derived.Test.YtnoggejkkjngjaaGtb
set_option maxHeartbeats 8000000
set_option linter.unusedVariables false
set_option linter.unusedSimpArgs false
set_option maxRecDepth 100000
namespace Go.Proofs.Ytnoggejkkjngjaa
open Go Go.Sl
attribute [local irreducible] Go.Sl.Wl Go.Sl.Wc Go.Sl.thenQ Go.Sl.blkQ Go.Sl.loopQ Go.Sl.Fspec

theorem FoX.e_put (f : FoX) (x : EnX) : (f.put x).e = x.e := rfl
/-- The entries of an epoch's beginning. -/
def SnX.zero : SnX := ⟨0, 0, [], []⟩
def gadoptV (S : G15) (e : Ep) : G15 := if S.fold.i ≤ e.cut then { S with table := S.table ++ [e], closed := false } else if S.base.i ≤ e.cut then { table := S.table ++ [e], base := S.base, es := S.es.take (e.cut - S.base.i).toNat, closed := false } else { table := S.table ++ [e], base := SnX.zero, es := [], closed := false }
def gwriteV (S : G15) (x : EnX) : G15 := { S with es := S.es ++ [x] }
theorem gfold_write (S : G15) (x : EnX) : (gwriteV S x).fold = S.fold.put x := by unfold G15.fold gwriteV; simp [List.foldl_append]
theorem own_take {a : Option Addr} {len cap sz k : Nat} {cs : List Value} {E : TypeId} (hk : k ≤ len) (L : List Asn) : Ent (own a len cap sz cs E :: L) (own a k cap sz (cs.take (k * sz)) E :: L) := fun m U hs => by
  rcases own_open hs with ⟨rfl, rfl, rfl, rfl, h⟩ | ⟨r, spare, rfl, h1, h2, h⟩
  · obtain rfl : k = 0 := by omega
    simpa using own_nil sz E L m U h
  · have hle : k * sz ≤ len * sz := Nat.mul_le_mul_right _ hk
    have e : cs ++ spare = cs.take (k * sz) ++ (cs.drop (k * sz) ++ spare) := by rw [← List.append_assoc, List.take_append_drop]
    rw [e] at h h2
    exact own_shut r k cap sz _ _ E L (by simp; omega) h2 m U h
theorem esC_take (l : List EnX) (k : Nat) : (esC l).take (k * 7) = esC (l.take k) := by
  by_cases h : k ≤ l.length
  · have e : esC l = esC (l.take k) ++ esC (l.drop k) := by rw [← esC_app, List.take_append_drop]
    have hl : (esC (l.take k)).length = k * 7 := by rw [esC_len]; simp; omega
    rw [e, ← hl, List.take_left]
  · rw [List.take_of_length_le (by rw [esC_len]; omega), List.take_of_length_le (l := l) (by omega)]
theorem G15.ok.take {S : G15} (h : S.ok) (e : Ep) (hT : rightT (S.table ++ [e]) = true) (k : Nat) : (G15.mk (S.table ++ [e]) S.base (S.es.take k) false).ok := by
  refine ⟨hT, ?_, ?_, h.bok, h.bps, h.bi, ?_⟩
  · have := h.few; simp; omega
  · intro j x hx
    have hx' : (S.es.take k)[j]? = some x := hx
    rw [List.getElem?_take] at hx'
    split at hx'
    · exact h.idx j x hx'
    · cases hx'
  · intro x hx; exact h.ens x (List.mem_of_mem_take hx)
theorem SnX.zero_ok : SnX.zero.ok := ⟨by simp [SnX.zero, RisS], by simp [SnX.zero], by simp [SnX.zero]⟩
theorem wiped_ok {T : List Ep} (hT : rightT T = true) : (G15.mk T SnX.zero [] false).ok :=
  ⟨hT, by simp, by simp, SnX.zero_ok, by simp [SnX.zero], by simp [SnX.zero], by simp⟩
theorem gadopt_ok {S : G15} (h : S.ok) (e : Ep) (hT : rightT (S.table ++ [e]) = true) : (gadoptV S e).ok := by
  unfold gadoptV
  split
  · exact ⟨hT, h.few, h.idx, h.bok, h.bps, h.bi, h.ens⟩
  · split
    · exact h.take e hT _
    · exact wiped_ok hT
section specs
variable {B : Base}
theorem gagain_spec (st : Nat) (S : G15) (hS : S.ok) (a0 a1 : Int) (v0 v1 : Value) (q : Gq) :
    Fspec Try.prog B 41 #[.pointer (some ⟨st, 0, none⟩)]
      [cb st (.int .i64 a0 :: .int .i64 a1 :: v0 :: v1 :: GtR S q.ta q.tc q.pa q.pc q.sa q.sc q.ea q.ec) 83, own q.ta S.table.length q.tc 3 (epsC S.table) 29, own q.pa S.base.ps.length q.pc 5 (prC S.base.ps) 67, own q.sa S.base.ss.length q.sc 4 (ssC S.base.ss) 69, own q.ea S.es.length q.ec 7 (esC S.es) 35]
      (fun v A' => v = .tuple #[] ∧ A' = [GtP st S]) := by
  have hfew := hS.few
  obtain ⟨qk, qd, ta, tc, pa, pc, sa, sc, ea, ec⟩ := q
  simp only
  refine spec_of (args := [_]) Try.func41 rfl rfl rfl ?_
  refine Wc_ownF (a := ea) (sz := 7) (ho := (by (repeat (first | exact Out.head | apply Out.tail)); (first | done | fail))) (h0 := by omega) (h := fun hfe => ?_)
  refine Wc_ownF (a := pa) (sz := 5) (ho := (by (repeat (first | exact Out.head | apply Out.tail)); (first | done | fail))) (h0 := by omega) (h := fun hfp => ?_)
  refine Wc_ownF (a := sa) (sz := 4) (ho := (by (repeat (first | exact Out.head | apply Out.tail)); (first | done | fail))) (h0 := by omega) (h := fun hfs => ?_)
  have hbps := hS.bps
  have hof := of_spec (B := B) [own pa S.base.ps.length pc 5 (prC S.base.ps) 67, own sa S.base.ss.length sc 4 (ssC S.base.ss) 69] S.base hS.bok (by omega) pa pc sa sc (hfp.rd .head) (hfs.rd (.tail .head))
  simp only [GtR]
  repeat' (first
    | refine Wc_seq ?_
    | refine thenQ_normal ?_
    | refine Wc_cond_t (h := ?_)
    | refine Wc_cond_f (h := ?_)
    | refine Wc_ret ?_
    | refine thenQ_ret ?_
    | refine Wc_block ?_
    | refine blkQ_normal ?_
    | refine blkQ_ret ?_
    | refine Wc_exit ?_
    | refine thenQ_exit ?_
    | refine blkQ_hit ?_
    | refine blkQ_miss rfl ?_
    | refine Wc_skip ?_
    | refine Wc_label ?_
    | refine loopQ_exit ?_
    | refine loopQ_ret ?_
    | refine loopQ_normal ?_
    | (refine Wc_region (id := 0) ?_; intro K hK; refine Wl_move (k := ?_); refine Wl_move (k := ?_); refine Wl_nilCheck (k := ?_); refine Wl_fieldAddr (k := ?_); refine Wl_loadR (k := ?_); ((refine Wl_call (hs := hof) (k := ?_); rintro v A' ⟨k, d, rfl, rfl⟩; simp only [List.cons_append, List.nil_append])) <;> (refine Wl_nilCheck (k := ?_); refine Wl_fieldAddr (k := ?_); refine Wl_storeR (ho' := rfl) (k := ?_); (refine Wl_nil (hK _ _ ?_); clear hK K)))
    | (refine Wc_region (id := 1) ?_; intro K hK; refine Wl_move (k := ?_); refine Wl_nilCheck (k := ?_); refine Wl_fieldAddr (k := ?_); refine Wl_load (k := ?_); refine Wl_len_sl (k' := ?_); refine Wl_move (k := ?_); (refine Wl_nil (hK _ _ ?_); clear hK K))
    | (refine Wc_cond (ht := (fun ht => ?_)) (hf := (fun ht => ?_)) <;> (try simp at ht) <;> (try (exfalso; omega))))
  refine Wc_loop (α := Nat) (fun j => [(0, .pointer (some ⟨st, 0, none⟩)), (15, .slice ea S.es.length ec), (16, .int .i64 S.es.length), (17, .int .i64 j)])
    (fun j => [cb st (.int .i64 (S.upto j).e :: .int .i64 (S.upto j).i :: .pointer (some ⟨k, 0, none⟩) :: .pointer (some ⟨d, 0, none⟩) :: GtR S ta tc pa pc sa sc ea ec) 83, MpA k (S.upto j).t, DeP d 16 (S.upto j).L,
      own ta S.table.length tc 3 (epsC S.table) 29, own pa S.base.ps.length pc 5 (prC S.base.ps) 67, own sa S.base.ss.length sc 4 (ssC S.base.ss) 69, own ea S.es.length ec 7 (esC S.es) 35]) (fun j => j ≤ S.es.length) (fun j => S.es.length - j) 0 (by omega) ⟨rfl, rfl, rfl, rfl, trivial⟩ (by (repeat (first | exact Ent.refl _ | exact Ent.nil | refine Ent.take (by (repeat (first | exact Out.head | apply Out.tail)); (first | done | fail)) ?_ | refine Ent.drop1 ?_))) ?_
  intro j G hj
  simp only [ov]
  by_cases hlt : j < S.es.length
  · obtain ⟨x, hx⟩ : ∃ x, S.es[j]? = some x := ⟨_, List.getElem?_eq_getElem hlt⟩
    obtain ⟨p, rfl⟩ := hfe.some (by omega)
    have hup := G15.upto_succ hx
    repeat' (first
      | refine Wc_seq ?_
      | refine thenQ_normal ?_
      | refine Wc_cond_t (h := ?_)
      | refine Wc_cond_f (h := ?_)
      | refine Wc_ret ?_
      | refine thenQ_ret ?_
      | refine Wc_block ?_
      | refine blkQ_normal ?_
      | refine blkQ_ret ?_
      | refine Wc_exit ?_
      | refine thenQ_exit ?_
      | refine blkQ_hit ?_
      | refine blkQ_miss rfl ?_
      | refine Wc_skip ?_
      | refine Wc_label ?_
      | refine loopQ_exit ?_
      | refine loopQ_ret ?_
      | refine loopQ_normal ?_
      | (refine Wc_region (id := 2) ?_; intro K hK; refine Wl_lss (k' := ?_); (refine Wl_nil (hK _ _ ?_); clear hK K))
      | (refine Wc_region (id := 3) ?_; intro K hK; ((refine Wl_index_any (k' := ?_))) <;> (((refine Wl_loadAggG (j := j * 7) (cs := x.c) (hq := by simp) (hr := hfe.rd (by (repeat (first | exact Out.head | apply Out.tail)); (first | done | fail))) (hv := esC_row hx) (k := ?_))) <;> (((refine Wl_alloc (k := ?_); intro r3)) <;> (refine Wl_storeR (ho' := rfl) (k := ?_); (refine Wl_nil (hK _ _ ?_); clear hK K)))))
      | (refine Wc_draw (id := 4) (h := ?_); intro K hK; refine Wl_move (k := ?_); refine Wl_nilCheck (k := ?_); refine Wl_fieldAddr (k := ?_); ((refine Wl_loadAgg (cs := x.c) (hv := by simp [EnX.c]) (hc := rfl) (k := ?_))) <;> (((refine Wl_call (hs := put_spec st k d (S.upto j) ((G15.upto_ok hS j).mono (by omega)) x (hS.ens x (List.mem_of_getElem? hx)) (GtR S ta tc pa pc sa sc (some p) ec) 83) (k := ?_); rintro v A' ⟨rfl, rfl⟩; simp only [List.cons_append, List.nil_append])) <;> ((refine Wl_nil (hK _ _ ?_); clear hK K))))
      | (refine Wc_region (id := 5) ?_; intro K hK; refine Wl_add (k' := ?_); refine Wl_move (k := ?_); (refine Wl_nil (hK _ _ ?_); clear hK K))
      | (refine Wc_cond (ht := (fun ht => ?_)) (hf := (fun ht => ?_)) <;> (try simp at ht) <;> (try (exfalso; omega))))
    exact ⟨j + 1, by omega, by omega, ⟨rfl, rfl, rfl, int_succ j, trivial⟩, by rw [hup]; (repeat (first | exact Ent.refl _ | exact Ent.nil | refine Ent.take (by (repeat (first | exact Out.head | apply Out.tail)); (first | done | fail)) ?_ | refine Ent.drop1 ?_))⟩
  · obtain rfl : j = S.es.length := by omega
    have hall := G15.upto_all S
    repeat' (first
      | refine Wc_seq ?_
      | refine thenQ_normal ?_
      | refine Wc_cond_t (h := ?_)
      | refine Wc_cond_f (h := ?_)
      | refine Wc_ret ?_
      | refine thenQ_ret ?_
      | refine Wc_block ?_
      | refine blkQ_normal ?_
      | refine blkQ_ret ?_
      | refine Wc_exit ?_
      | refine thenQ_exit ?_
      | refine blkQ_hit ?_
      | refine blkQ_miss rfl ?_
      | refine Wc_skip ?_
      | refine Wc_label ?_
      | refine loopQ_exit ?_
      | refine loopQ_ret ?_
      | refine loopQ_normal ?_
      | (refine Wc_region (id := 2) ?_; intro K hK; refine Wl_lss (k' := ?_); (refine Wl_nil (hK _ _ ?_); clear hK K))
      | (refine Wc_cond (ht := (fun ht => ?_)) (hf := (fun ht => ?_)) <;> (try simp at ht) <;> (try (exfalso; omega))))
    exact ⟨by simp, _, [GtP st S], gt_fold (A0 := []) ⟨k, d, ta, tc, pa, pc, sa, sc, ea, ec⟩ (by simp only [GtL]; rw [hall]; simp only [List.cons_append, List.nil_append]; (repeat (first | exact Ent.refl _ | exact Ent.nil | refine Ent.take (by (repeat (first | exact Out.head | apply Out.tail)); (first | done | fail)) ?_ | refine Ent.drop1 ?_))), res0 rfl, rfl, rfl⟩
theorem gadopt_spec (st : Nat) (S : G15) (hS : S.ok) (e : Ep) (hT : rightT (S.table ++ [e]) = true) :
    Fspec Try.prog B 38 #[.pointer (some ⟨st, 0, none⟩), .agg #[.int .i64 e.master, .int .i64 e.cut, .bool e.forced]] [GtP st S] (fun v A' => v = .tuple #[] ∧ A' = [GtP st (gadoptV S e)]) := by
  have hfew := hS.few
  have hi := G15.fold_i hS
  have hbi := hS.bi
  have hr := rightT_out hT
  have hlen1 : S.table.length + 1 = (S.table ++ [e]).length := by simp
  have hts : epsC S.table ++ [.int .i64 e.master, .int .i64 e.cut, .bool e.forced] = epsC (S.table ++ [e]) := by simp [epsC, epC]
  have h64 : (S.table ++ [e]).length ≤ 64 := hr.2.1
  have hfair := hr.2.2.1 e (by simp)
  unfold Ep.fair at hfair
  refine spec_of (args := [_, _]) Try.func38 rfl rfl rfl ?_
  refine Wc_exN (fun q => ?_)
  obtain ⟨k, d, ta, tc, pa, pc, sa, sc, ea, ec⟩ := q
  simp only [GtL, GtR]
  simp only [List.cons_append, List.nil_append]
  unfold gadoptV
  by_cases hc : S.fold.i ≤ e.cut
  · rw [if_pos hc]
    repeat' (first
      | refine Wc_seq ?_
      | refine thenQ_normal ?_
      | refine Wc_cond_t (h := ?_)
      | refine Wc_cond_f (h := ?_)
      | refine Wc_ret ?_
      | refine thenQ_ret ?_
      | refine Wc_block ?_
      | refine blkQ_normal ?_
      | refine blkQ_ret ?_
      | refine Wc_exit ?_
      | refine thenQ_exit ?_
      | refine blkQ_hit ?_
      | refine blkQ_miss rfl ?_
      | refine Wc_skip ?_
      | refine Wc_label ?_
      | refine loopQ_exit ?_
      | refine loopQ_ret ?_
      | refine loopQ_normal ?_
      | (refine Wc_region (id := 0) ?_; intro K hK; ((refine Wl_boxAgg (k := ?_); intro r3)) <;> ((refine Wl_nil (hK _ _ ?_); clear hK K)))
      | (refine Wc_draw (id := 1) (h := ?_); intro K hK; refine Wl_move (k := ?_); refine Wl_move (k := ?_); refine Wl_nilCheck (k := ?_); refine Wl_fieldAddr (k := ?_); refine Wl_load (k := ?_); refine Wl_loadR (k := ?_); ((refine Wl_lit1 (cs := [.int .i64 e.master, .int .i64 e.cut, .bool e.forced]) (k := ?_); intro r10)) <;> (((refine Wl_append1 (hvl := by rfl) (hvc := by rfl) (hbd := by omega) (k := ?_); intro nb nc; rw [hlen1, hts])) <;> (refine Wl_nilCheck (k := ?_); refine Wl_fieldAddr (k := ?_); refine Wl_store (ho := rfl) (k := ?_); (refine Wl_nil (hK _ _ ?_); clear hK K))))
      | (refine Wc_region (id := 2) ?_; intro K hK; refine Wl_move (k := ?_); refine Wl_nilCheck (k := ?_); refine Wl_fieldAddr (k := ?_); refine Wl_store (ho := rfl) (k := ?_); (refine Wl_nil (hK _ _ ?_); clear hK K))
      | (refine Wc_draw (id := 3) (h := ?_); intro K hK; refine Wl_move (k := ?_); refine Wl_nilCheck (k := ?_); refine Wl_fieldAddr (k := ?_); refine Wl_fieldAddr (k := ?_); refine Wl_fieldAddr (k := ?_); refine Wl_load (k := ?_); refine Wl_fieldAddr (k := ?_); refine Wl_load (k := ?_); refine Wl_leq (k' := ?_); (refine Wl_nil (hK _ _ ?_); clear hK K))
      | (refine Wc_draw (id := 4) (h := ?_); intro K hK; refine Wl_move (k := ?_); refine Wl_nilCheck (k := ?_); refine Wl_fieldAddr (k := ?_); refine Wl_fieldAddr (k := ?_); refine Wl_fieldAddr (k := ?_); refine Wl_load (k := ?_); refine Wl_fieldAddr (k := ?_); refine Wl_load (k := ?_); refine Wl_leq (k' := ?_); (refine Wl_nil (hK _ _ ?_); clear hK K))
      | (refine Wc_draw (id := 5) (h := ?_); intro K hK; refine Wl_move (k := ?_); refine Wl_move (k := ?_); refine Wl_nilCheck (k := ?_); refine Wl_fieldAddr (k := ?_); refine Wl_load (k := ?_); refine Wl_fieldAddr (k := ?_); refine Wl_load (k := ?_); refine Wl_move (k := ?_); refine Wl_nilCheck (k := ?_); refine Wl_fieldAddr (k := ?_); refine Wl_fieldAddr (k := ?_); refine Wl_fieldAddr (k := ?_); refine Wl_load (k := ?_); refine Wl_sub (k' := ?_); refine Wl_slice_sl0 (k' := ?_); refine Wl_nilCheck (k := ?_); refine Wl_fieldAddr (k := ?_); refine Wl_store (ho := rfl) (k := ?_); (refine Wl_nil (hK _ _ ?_); clear hK K))
      | (refine Wc_region (id := 6) ?_; intro K hK; refine Wl_move (k := ?_); refine Wl_move (k := ?_); refine Wl_build (k := ?_); refine Wl_nilCheck (k := ?_); refine Wl_fieldAddr (k := ?_); refine Wl_storeR (ho' := rfl) (k := ?_); refine Wl_nilCheck (k := ?_); refine Wl_fieldAddr (k := ?_); refine Wl_store (ho := rfl) (k := ?_); (refine Wl_nil (hK _ _ ?_); clear hK K))
      | (refine Wc_region (id := 7) ?_; intro K hK; refine Wl_move (k := ?_))
      | (refine Wc_cond (ht := (fun ht => ?_)) (hf := (fun ht => ?_)) <;> (try simp at ht) <;> (try (exfalso; omega))))
    exact ⟨by simp, _, [GtP st { S with table := S.table ++ [e], closed := false }], gt_fold (A0 := []) ⟨k, d, nb, nc, pa, pc, sa, sc, ea, ec⟩ (by simp only [GtL, GtR]; simp only [List.cons_append, List.nil_append]; exact (by (repeat (first | exact Ent.refl _ | exact Ent.nil | refine Ent.take (by (repeat (first | exact Out.head | apply Out.tail)); (first | done | fail)) ?_ | refine Ent.drop1 ?_)))), res0 rfl, rfl, rfl⟩
  · rw [if_neg hc]
    by_cases hb : S.base.i ≤ e.cut
    · rw [if_pos hb]
      obtain ⟨c, hcut⟩ : ∃ c : Nat, c = (e.cut - S.base.i).toNat := ⟨_, rfl⟩
      have hci : e.cut - S.base.i = ((c : Nat) : Int) := by omega
      have hle : c ≤ S.es.length := by omega
      have hok := hS.take e hT c
      have hlt : (S.es.take c).length = c := by simp; omega
      rw [← hcut]
      repeat' (first
        | refine Wc_seq ?_
        | refine thenQ_normal ?_
        | refine Wc_cond_t (h := ?_)
        | refine Wc_cond_f (h := ?_)
        | refine Wc_ret ?_
        | refine thenQ_ret ?_
        | refine Wc_block ?_
        | refine blkQ_normal ?_
        | refine blkQ_ret ?_
        | refine Wc_exit ?_
        | refine thenQ_exit ?_
        | refine blkQ_hit ?_
        | refine blkQ_miss rfl ?_
        | refine Wc_skip ?_
        | refine Wc_label ?_
        | refine loopQ_exit ?_
        | refine loopQ_ret ?_
        | refine loopQ_normal ?_
        | (refine Wc_region (id := 0) ?_; intro K hK; ((refine Wl_boxAgg (k := ?_); intro r3)) <;> ((refine Wl_nil (hK _ _ ?_); clear hK K)))
        | (refine Wc_draw (id := 1) (h := ?_); intro K hK; refine Wl_move (k := ?_); refine Wl_move (k := ?_); refine Wl_nilCheck (k := ?_); refine Wl_fieldAddr (k := ?_); refine Wl_load (k := ?_); refine Wl_loadR (k := ?_); ((refine Wl_lit1 (cs := [.int .i64 e.master, .int .i64 e.cut, .bool e.forced]) (k := ?_); intro r10)) <;> (((refine Wl_append1 (hvl := by rfl) (hvc := by rfl) (hbd := by omega) (k := ?_); intro nb nc; rw [hlen1, hts])) <;> (refine Wl_nilCheck (k := ?_); refine Wl_fieldAddr (k := ?_); refine Wl_store (ho := rfl) (k := ?_); (refine Wl_nil (hK _ _ ?_); clear hK K))))
        | (refine Wc_region (id := 2) ?_; intro K hK; refine Wl_move (k := ?_); refine Wl_nilCheck (k := ?_); refine Wl_fieldAddr (k := ?_); refine Wl_store (ho := rfl) (k := ?_); (refine Wl_nil (hK _ _ ?_); clear hK K))
        | (refine Wc_draw (id := 3) (h := ?_); intro K hK; refine Wl_move (k := ?_); refine Wl_nilCheck (k := ?_); refine Wl_fieldAddr (k := ?_); refine Wl_fieldAddr (k := ?_); refine Wl_fieldAddr (k := ?_); refine Wl_load (k := ?_); refine Wl_fieldAddr (k := ?_); refine Wl_load (k := ?_); refine Wl_leq (k' := ?_); (refine Wl_nil (hK _ _ ?_); clear hK K))
        | (refine Wc_draw (id := 4) (h := ?_); intro K hK; refine Wl_move (k := ?_); refine Wl_nilCheck (k := ?_); refine Wl_fieldAddr (k := ?_); refine Wl_fieldAddr (k := ?_); refine Wl_fieldAddr (k := ?_); refine Wl_load (k := ?_); refine Wl_fieldAddr (k := ?_); refine Wl_load (k := ?_); refine Wl_leq (k' := ?_); (refine Wl_nil (hK _ _ ?_); clear hK K))
        | (refine Wc_draw (id := 5) (h := ?_); intro K hK; refine Wl_move (k := ?_); refine Wl_move (k := ?_); refine Wl_nilCheck (k := ?_); refine Wl_fieldAddr (k := ?_); refine Wl_load (k := ?_); refine Wl_fieldAddr (k := ?_); refine Wl_load (k := ?_); refine Wl_move (k := ?_); refine Wl_nilCheck (k := ?_); refine Wl_fieldAddr (k := ?_); refine Wl_fieldAddr (k := ?_); refine Wl_fieldAddr (k := ?_); refine Wl_load (k := ?_); ((refine Wl_ownF (a := ea) (sz := 7) (h0 := by omega) (h := fun hfe => ?_); refine Wl_sub (k' := ?_); rw [hci])) <;> (((refine Wl_slice_any0 (h := c) (hhi := ⟨_, rfl⟩) (hhc := by have := hfe.e2; omega) (k' := ?_))) <;> (refine Wl_nilCheck (k := ?_); refine Wl_fieldAddr (k := ?_); refine Wl_store (ho := rfl) (k := ?_); (refine Wl_nil (hK _ _ ?_); clear hK K))))
        | (refine Wc_region (id := 6) ?_; intro K hK; refine Wl_move (k := ?_); refine Wl_move (k := ?_); refine Wl_build (k := ?_); refine Wl_nilCheck (k := ?_); refine Wl_fieldAddr (k := ?_); refine Wl_storeR (ho' := rfl) (k := ?_); refine Wl_nilCheck (k := ?_); refine Wl_fieldAddr (k := ?_); refine Wl_store (ho := rfl) (k := ?_); (refine Wl_nil (hK _ _ ?_); clear hK K))
        | (refine Wc_region (id := 7) ?_; intro K hK; refine Wl_move (k := ?_); ((refine Wl_take (y := own ea S.es.length ec 7 (esC S.es) 35) (k := ?_); refine Wl_ent (own_take (k := c) hle _) ?_; rw [esC_take]; refine Wl_call (hs := by have := gagain_spec (B := B) st (G15.mk (S.table ++ [e]) S.base (S.es.take c) false) hok S.fold.e S.fold.i (.pointer (some ⟨k, 0, none⟩)) (.pointer (some ⟨d, 0, none⟩)) ⟨k, d, nb, nc, pa, pc, sa, sc, ea, ec⟩; simp only [GtR, hlt] at this; exact this) (k := ?_); rintro v A' ⟨rfl, rfl⟩; simp only [List.cons_append, List.nil_append])) <;> ((refine Wl_nil (hK _ _ ?_); clear hK K)))
        | (refine Wc_cond (ht := (fun ht => ?_)) (hf := (fun ht => ?_)) <;> (try simp at ht) <;> (try (exfalso; omega))))
      exact ⟨by simp, _, [GtP st _], (by (repeat (first | exact Ent.refl _ | exact Ent.nil | refine Ent.take (by (repeat (first | exact Out.head | apply Out.tail)); (first | done | fail)) ?_ | refine Ent.drop1 ?_))), res0 rfl, rfl, rfl⟩
    · rw [if_neg hb]
      repeat' (first
        | refine Wc_seq ?_
        | refine thenQ_normal ?_
        | refine Wc_cond_t (h := ?_)
        | refine Wc_cond_f (h := ?_)
        | refine Wc_ret ?_
        | refine thenQ_ret ?_
        | refine Wc_block ?_
        | refine blkQ_normal ?_
        | refine blkQ_ret ?_
        | refine Wc_exit ?_
        | refine thenQ_exit ?_
        | refine blkQ_hit ?_
        | refine blkQ_miss rfl ?_
        | refine Wc_skip ?_
        | refine Wc_label ?_
        | refine loopQ_exit ?_
        | refine loopQ_ret ?_
        | refine loopQ_normal ?_
        | (refine Wc_region (id := 0) ?_; intro K hK; ((refine Wl_boxAgg (k := ?_); intro r3)) <;> ((refine Wl_nil (hK _ _ ?_); clear hK K)))
        | (refine Wc_draw (id := 1) (h := ?_); intro K hK; refine Wl_move (k := ?_); refine Wl_move (k := ?_); refine Wl_nilCheck (k := ?_); refine Wl_fieldAddr (k := ?_); refine Wl_load (k := ?_); refine Wl_loadR (k := ?_); ((refine Wl_lit1 (cs := [.int .i64 e.master, .int .i64 e.cut, .bool e.forced]) (k := ?_); intro r10)) <;> (((refine Wl_append1 (hvl := by rfl) (hvc := by rfl) (hbd := by omega) (k := ?_); intro nb nc; rw [hlen1, hts])) <;> (refine Wl_nilCheck (k := ?_); refine Wl_fieldAddr (k := ?_); refine Wl_store (ho := rfl) (k := ?_); (refine Wl_nil (hK _ _ ?_); clear hK K))))
        | (refine Wc_region (id := 2) ?_; intro K hK; refine Wl_move (k := ?_); refine Wl_nilCheck (k := ?_); refine Wl_fieldAddr (k := ?_); refine Wl_store (ho := rfl) (k := ?_); (refine Wl_nil (hK _ _ ?_); clear hK K))
        | (refine Wc_draw (id := 3) (h := ?_); intro K hK; refine Wl_move (k := ?_); refine Wl_nilCheck (k := ?_); refine Wl_fieldAddr (k := ?_); refine Wl_fieldAddr (k := ?_); refine Wl_fieldAddr (k := ?_); refine Wl_load (k := ?_); refine Wl_fieldAddr (k := ?_); refine Wl_load (k := ?_); refine Wl_leq (k' := ?_); (refine Wl_nil (hK _ _ ?_); clear hK K))
        | (refine Wc_draw (id := 4) (h := ?_); intro K hK; refine Wl_move (k := ?_); refine Wl_nilCheck (k := ?_); refine Wl_fieldAddr (k := ?_); refine Wl_fieldAddr (k := ?_); refine Wl_fieldAddr (k := ?_); refine Wl_load (k := ?_); refine Wl_fieldAddr (k := ?_); refine Wl_load (k := ?_); refine Wl_leq (k' := ?_); (refine Wl_nil (hK _ _ ?_); clear hK K))
        | (refine Wc_draw (id := 5) (h := ?_); intro K hK; refine Wl_move (k := ?_); refine Wl_move (k := ?_); refine Wl_nilCheck (k := ?_); refine Wl_fieldAddr (k := ?_); refine Wl_load (k := ?_); refine Wl_fieldAddr (k := ?_); refine Wl_load (k := ?_); refine Wl_move (k := ?_); refine Wl_nilCheck (k := ?_); refine Wl_fieldAddr (k := ?_); refine Wl_fieldAddr (k := ?_); refine Wl_fieldAddr (k := ?_); refine Wl_load (k := ?_); refine Wl_sub (k' := ?_); refine Wl_slice_sl0 (k' := ?_); refine Wl_nilCheck (k := ?_); refine Wl_fieldAddr (k := ?_); refine Wl_store (ho := rfl) (k := ?_); (refine Wl_nil (hK _ _ ?_); clear hK K))
        | (refine Wc_region (id := 6) ?_; intro K hK; refine Wl_move (k := ?_); refine Wl_move (k := ?_); refine Wl_build (k := ?_); refine Wl_nilCheck (k := ?_); refine Wl_fieldAddr (k := ?_); refine Wl_storeR (ho' := rfl) (k := ?_); refine Wl_nilCheck (k := ?_); refine Wl_fieldAddr (k := ?_); refine Wl_store (ho := rfl) (k := ?_); (refine Wl_nil (hK _ _ ?_); clear hK K))
        | (refine Wc_region (id := 7) ?_; intro K hK; refine Wl_move (k := ?_); ((refine Wl_ent (own_nil 7 35 _) ?_; refine Wl_ent (own_nil 4 69 _) ?_; refine Wl_ent (own_nil 5 67 _) ?_; refine Wl_call (hs := gagain_spec (B := B) st (G15.mk (S.table ++ [e]) SnX.zero [] false) (wiped_ok hT) S.fold.e S.fold.i (.pointer (some ⟨k, 0, none⟩)) (.pointer (some ⟨d, 0, none⟩)) ⟨k, d, nb, nc, none, 0, none, 0, none, 0⟩) (k := ?_); rintro v A' ⟨rfl, rfl⟩; simp only [List.cons_append, List.nil_append])) <;> ((refine Wl_nil (hK _ _ ?_); clear hK K)))
        | (refine Wc_cond (ht := (fun ht => ?_)) (hf := (fun ht => ?_)) <;> (try simp at ht) <;> (try (exfalso; omega))))
      exact ⟨by simp, _, [GtP st _], (by (repeat (first | exact Ent.refl _ | exact Ent.nil | refine Ent.take (by (repeat (first | exact Out.head | apply Out.tail)); (first | done | fail)) ?_ | refine Ent.drop1 ?_))), res0 rfl, rfl, rfl⟩
end specs
end Go.Proofs.Ytnoggejkkjngjaa
