/- Package state: states: what is written, what stands against an entry. Conditions: none but the kinds' bounds, and not too many entries. -/
import Derived.Test.YtnoggejkkjngjaaGta
set_option maxHeartbeats 8000000
set_option linter.unusedVariables false
set_option linter.unusedSimpArgs false
set_option maxRecDepth 100000
namespace Go.Proofs.Ytnoggejkkjngjaa
open Go Go.Sl
attribute [local irreducible] Go.Sl.Wl Go.Sl.Wc Go.Sl.thenQ Go.Sl.blkQ Go.Sl.loopQ Go.Sl.Fspec

/-- A state: epochs, a snapshot, entries behind it. -/
structure G15 where
  table : List Ep
  base : SnX
  es : List EnX
  closed : Bool
def G15.upto (S : G15) (k : Nat) : FoX := (S.es.take k).foldl FoX.put (FoX.of S.base)
def G15.fold (S : G15) : FoX := S.es.foldl FoX.put (FoX.of S.base)
structure G15.ok (S : G15) : Prop where
  tab : rightT S.table = true
  few : S.es.length ≤ 600
  idx : ∀ (k : Nat) (x : EnX), S.es[k]? = some x → x.i = S.base.i + ((k + 1 : Nat) : Int)
  bok : S.base.ok
  bps : S.base.ps.length ≤ 100000
  bi : 0 ≤ S.base.i ∧ S.base.i ≤ 512
  ens : ∀ x ∈ S.es, x.ok
theorem foldl_ok : ∀ (l : List EnX) (f : FoX) (n : Nat), f.ok n → (l.foldl FoX.put f).ok (n + l.length)
  | [], _, _, h => h
  | x :: l, f, n, h => by
    have := foldl_ok l (f.put x) (n + 1) (h.put x)
    rw [List.length_cons, show n + (l.length + 1) = n + 1 + l.length by omega]
    exact this
theorem G15.fold_ok {S : G15} (h : S.ok) : S.fold.ok 100600 := (foldl_ok S.es (FoX.of S.base) S.base.ps.length (FoX.of_ok h.bok)).mono (by have := h.few; have := h.bps; omega)
theorem G15.upto_ok {S : G15} (h : S.ok) (k : Nat) : (S.upto k).ok 100600 := (foldl_ok (S.es.take k) (FoX.of S.base) S.base.ps.length (FoX.of_ok h.bok)).mono (by have := h.few; have := h.bps; simp; omega)
theorem G15.upto_succ {S : G15} {k : Nat} {x : EnX} (h : S.es[k]? = some x) : S.upto (k + 1) = (S.upto k).put x := by
  unfold G15.upto
  obtain ⟨hk, rfl⟩ := List.getElem?_eq_some_iff.1 h
  rw [List.take_succ_eq_append_getElem hk, List.foldl_append]; rfl
theorem G15.upto_all (S : G15) : S.upto S.es.length = S.fold := by unfold G15.upto G15.fold; rw [List.take_length]
theorem G15.upto_i {S : G15} (hS : S.ok) : ∀ k : Nat, k ≤ S.es.length → (S.upto k).i = S.base.i + (k : Int)
  | 0, _ => by show S.base.i = _; simp
  | k + 1, h => by
    obtain ⟨x, hx⟩ : ∃ x, S.es[k]? = some x := ⟨_, List.getElem?_eq_getElem (by omega)⟩
    rw [G15.upto_succ hx]; exact hS.idx k x hx
theorem G15.fold_i {S : G15} (hS : S.ok) : S.fold.i = S.base.i + (S.es.length : Int) := by rw [← G15.upto_all]; exact G15.upto_i hS _ (Nat.le_refl _)
def esC (l : List EnX) : List Value := l.flatMap EnX.c
theorem esC_len (l : List EnX) : (esC l).length = l.length * 7 := by
  induction l with
  | nil => rfl
  | cons x l ih => simp only [esC] at ih; simp [esC, EnX.c, ih]; omega
theorem esC_row {l : List EnX} {k : Nat} {x : EnX} (h : l[k]? = some x) : ((esC l).drop (k * 7)).take 7 = x.c := flatMap_row (fun _ _ => rfl) h
theorem esC_all (l : List EnX) : (esC l).all isCell = true := by
  induction l with
  | nil => rfl
  | cons x l ih => simp only [esC] at ih; simp [esC, EnX.c, ih, isCell]
theorem esC_app (l m : List EnX) : esC (l ++ m) = esC l ++ esC m := by simp [esC]
def GtR (S : G15) (ta : Option Addr) (tc : Nat) (pa : Option Addr) (pc : Nat) (sa : Option Addr) (sc : Nat) (ea : Option Addr) (ec : Nat) : List Value := [.slice ta S.table.length tc, .int .i64 S.base.e, .int .i64 S.base.i, .slice pa S.base.ps.length pc, .slice sa S.base.ss.length sc, .slice ea S.es.length ec, .bool S.closed]
structure Gq where
  k : Nat
  d : Nat
  ta : Option Addr
  tc : Nat
  pa : Option Addr
  pc : Nat
  sa : Option Addr
  sc : Nat
  ea : Option Addr
  ec : Nat
def GtL (st : Nat) (S : G15) (q : Gq) : List Asn :=
  [cb st (.int .i64 S.fold.e :: .int .i64 S.fold.i :: .pointer (some ⟨q.k, 0, none⟩) :: .pointer (some ⟨q.d, 0, none⟩) :: GtR S q.ta q.tc q.pa q.pc q.sa q.sc q.ea q.ec) 83, MpA q.k S.fold.t, DeP q.d 16 S.fold.L,
   own q.ta S.table.length q.tc 3 (epsC S.table) 29, own q.pa S.base.ps.length q.pc 5 (prC S.base.ps) 67, own q.sa S.base.ss.length q.sc 4 (ssC S.base.ss) 69, own q.ea S.es.length q.ec 7 (esC S.es) 35]
def GtP (st : Nat) (S : G15) : Asn := exN (GtL st S)
theorem gt_fold {st : Nat} {S : G15} {X A0 : List Asn} (q : Gq) (h : Ent X (GtL st S q ++ A0)) : Ent X (GtP st S :: A0) := h.trans (Ent.exN_shut (f := GtL st S) q A0)
def numB (n : Int) : Bool := decide (1 ≤ n ∧ n ≤ 9007199254740992)
/-- What stands against an entry. -/
def gcwV (S : G15) (x : EnX) : Int :=
  if S.closed = true then 10 else if x.i ≠ S.fold.i + 1 then 9 else if 512 < x.i then 5 else
  if ¬ (x.e = (atT S.table x.i).1 ∧ x.i = (atT S.table x.i).2) then 8 else
  if numB x.s = false ∨ numB x.r = false ∨ (x.del = true ∧ x.tx.toList ≠ []) then 1 else
  if x.key.size < 1 ∨ 64 < x.key.size ∨ 1024 < x.tx.size then 3 else
  if (lookV S.fold.L 16 x.s x.r).1 = 2 ∨ (lookV S.fold.L 16 x.s x.r).1 = 3 then 13 else if (lookV S.fold.L 16 x.s x.r).1 = 4 then 4 else 0
section specs
variable {B : Base}
theorem number_spec (n : Int) : Fspec Try.prog B 65 #[.int .i64 n] [] (fun v A' => v = .bool (numB n) ∧ A' = []) := by
  refine spec_of (args := [_]) Try.func65 rfl rfl rfl ?_
  repeat' (first
    | refine Wc_seq ?_
    | refine thenQ_normal ?_
    | refine Wc_cond_t (h := ?_)
    | refine Wc_cond_f (h := ?_)
    | refine Wc_ret ?_
    | refine thenQ_ret ?_
    | refine Wc_block ?_
    | refine blkQ_normal ?_
    | refine blkQ_ret ?_
    | refine Wc_exit ?_
    | refine thenQ_exit ?_
    | refine blkQ_hit ?_
    | refine blkQ_miss rfl ?_
    | refine Wc_skip ?_
    | refine Wc_label ?_
    | refine loopQ_exit ?_
    | refine loopQ_ret ?_
    | refine loopQ_normal ?_
    | (refine Wc_region (id := 0) ?_; intro K hK; refine Wl_assign (k := ?_); (refine Wl_nil (hK _ _ ?_); clear hK K))
    | (refine Wc_region (id := 1) ?_; intro K hK; refine Wl_move (k := ?_); refine Wl_geq (k' := ?_); refine Wl_move (k := ?_); ((first | (refine Wl_guard (k := ?_); refine Wl_move (k := ?_)) | refine Wl_gno (k := ?_) | ((refine Wl_split (yes := (fun ht => ?_)) (no := (fun ht => ?_)) <;> (try simp at ht) <;> (try (exfalso; omega))) <;> (first | (refine Wl_guard (k := ?_); refine Wl_move (k := ?_)) | refine Wl_gno (k := ?_))))) <;> (((first | (refine Wl_guard (k := ?_); refine Wl_leq (k' := ?_)) | refine Wl_gno (k := ?_) | ((refine Wl_split (yes := (fun ht => ?_)) (no := (fun ht => ?_)) <;> (try simp at ht) <;> (try (exfalso; omega))) <;> (first | (refine Wl_guard (k := ?_); refine Wl_leq (k' := ?_)) | refine Wl_gno (k := ?_))))) <;> ((first | refine Wl_pick_t (k := ?_) | refine Wl_pick_f (k := ?_) | refine Wl_pick (k := ?_)); refine Wl_assign (k := ?_); (refine Wl_nil (hK _ _ ?_); clear hK K))))
    | (refine Wc_cond (ht := (fun ht => ?_)) (hf := (fun ht => ?_)) <;> (try simp at ht) <;> (try (exfalso; omega))))
  all_goals exact ⟨Or.inr rfl, _, [], Ent.nil, res1 rfl rfl, congrArg Value.bool (by unfold numB; first | (symm; exact decide_eq_false (by omega)) | exact decide_eq_decide.2 (by omega)), rfl⟩
theorem look_range (L : List SX) (lim s r : Int) : (lookV L lim s r).1 = 1 ∨ (lookV L lim s r).1 = 2 ∨ (lookV L lim s r).1 = 3 ∨ (lookV L lim s r).1 = 4 := by
  unfold lookV
  split
  · split <;> simp
  · split
    · simp
    · split <;> simp
theorem pos_ceq (a b c d : Int) : ceqL [.int .i64 a, .int .i64 b] [.int .i64 c, .int .i64 d] = decide (a = c ∧ b = d) := by
  simp [ceqL, ceq, Bool.beq_eq_decide_eq]
theorem gcheckWrite_spec (st : Nat) (S : G15) (hS : S.ok) (x : EnX) (hx : x.ok) (hi : -9223372036854775808 ≤ x.i ∧ x.i ≤ 9223372036854775807) :
    Fspec Try.prog B 48 #[.pointer (some ⟨st, 0, none⟩), .agg x.c.toArray] [GtP st S] (fun v A' => v = .int .i64 (gcwV S x) ∧ A' = [GtP st S]) := by
  have hfo := G15.fold_ok hS
  have hidx := G15.fold_i hS
  have hbi := hS.bi
  have hfew := hS.few
  have htab := rightT_out hS.tab
  refine spec_of (args := [_, _]) Try.func48 rfl rfl rfl ?_
  refine Wc_exN (fun q => ?_)
  simp only [GtL]
  simp only [List.cons_append, List.nil_append]
  refine Wc_ownF (a := q.ta) (sz := 3) (ho := (by (repeat (first | exact Out.head | apply Out.tail)); (first | done | fail))) (h0 := by omega) (h := fun hft => ?_)
  have hat := at_spec (B := B) [own q.ta S.table.length q.tc 3 (epsC S.table) 29] S.table q.ta q.tc (hft.rd .head) (by omega) x.i
  obtain ⟨a1, ha1⟩ : ∃ a, (atT S.table x.i).1 = a := ⟨_, rfl⟩
  obtain ⟨a2, ha2⟩ : ∃ a, (atT S.table x.i).2 = a := ⟨_, rfl⟩
  rw [ha1, ha2] at hat
  obtain ⟨b8, hb8⟩ : ∃ b, ceqL [.int .i64 x.e, .int .i64 x.i] [.int .i64 a1, .int .i64 a2] = b := ⟨_, rfl⟩
  have hb8' : b8 = decide (x.e = a1 ∧ x.i = a2) := by rw [← hb8, pos_ceq]
  obtain ⟨n1, hn1⟩ : ∃ b, numB x.s = b := ⟨_, rfl⟩
  obtain ⟨n2, hn2⟩ : ∃ b, numB x.r = b := ⟨_, rfl⟩
  obtain ⟨lk, hlk⟩ : ∃ k, (lookV S.fold.L 16 x.s x.r).1 = k := ⟨_, rfl⟩
  have hlr := look_range S.fold.L 16 x.s x.r
  rw [hlk] at hlr
  have hnum1 := number_spec (B := B) x.s
  have hnum2 := number_spec (B := B) x.r
  rw [hn1] at hnum1
  rw [hn2] at hnum2
  simp only [GtR]
  repeat' (first
    | refine Wc_seq ?_
    | refine thenQ_normal ?_
    | refine Wc_cond_t (h := ?_)
    | refine Wc_cond_f (h := ?_)
    | refine Wc_ret ?_
    | refine thenQ_ret ?_
    | refine Wc_block ?_
    | refine blkQ_normal ?_
    | refine blkQ_ret ?_
    | refine Wc_exit ?_
    | refine thenQ_exit ?_
    | refine blkQ_hit ?_
    | refine blkQ_miss rfl ?_
    | refine Wc_skip ?_
    | refine Wc_label ?_
    | refine loopQ_exit ?_
    | refine loopQ_ret ?_
    | refine loopQ_normal ?_
    | (refine Wc_region (id := 0) ?_; intro K hK; ((refine Wl_boxAgg (l := x.c) (k := ?_); intro r3; simp only [EnX.c])) <;> (refine Wl_assign (k := ?_); (refine Wl_nil (hK _ _ ?_); clear hK K)))
    | (refine Wc_region (id := 1) ?_; intro K hK; refine Wl_move (k := ?_); refine Wl_nilCheck (k := ?_); refine Wl_fieldAddr (k := ?_); refine Wl_load (k := ?_); refine Wl_assign (k := ?_); (refine Wl_nil (hK _ _ ?_); clear hK K))
    | (refine Wc_region (id := 2) ?_; intro K hK; refine Wl_assign (k := ?_); (refine Wl_nil (hK _ _ ?_); clear hK K))
    | (refine Wc_draw (id := 3) (h := ?_); intro K hK; refine Wl_fieldAddr (k := ?_); refine Wl_fieldAddr (k := ?_); refine Wl_load (k := ?_); refine Wl_move (k := ?_); refine Wl_nilCheck (k := ?_); refine Wl_fieldAddr (k := ?_); refine Wl_fieldAddr (k := ?_); refine Wl_fieldAddr (k := ?_); refine Wl_load (k := ?_); refine Wl_add (k' := ?_); refine Wl_neq (k' := ?_); refine Wl_assign (k := ?_); (refine Wl_nil (hK _ _ ?_); clear hK K))
    | (refine Wc_region (id := 4) ?_; intro K hK; refine Wl_assign (k := ?_); (refine Wl_nil (hK _ _ ?_); clear hK K))
    | (refine Wc_region (id := 5) ?_; intro K hK; refine Wl_fieldAddr (k := ?_); refine Wl_fieldAddr (k := ?_); refine Wl_load (k := ?_); refine Wl_gtr (k' := ?_); refine Wl_assign (k := ?_); (refine Wl_nil (hK _ _ ?_); clear hK K))
    | (refine Wc_region (id := 6) ?_; intro K hK; refine Wl_assign (k := ?_); (refine Wl_nil (hK _ _ ?_); clear hK K))
    | ((refine Wc_treeF (id := 7) (M := ([cb r3 x.c 35, cb st (.int .i64 S.fold.e :: .int .i64 S.fold.i :: .pointer (some ⟨q.k, 0, none⟩) :: .pointer (some ⟨q.d, 0, none⟩) :: GtR S q.ta q.tc q.pa q.pc q.sa q.sc q.ea q.ec) 83])) (Ls := [31, 35, 38, 40]) (t := (.step 0 (.step 1 (.step 2 (.step 3 (.step 4 (.step 5 (.step 6 (.step 7 (.step 8 (.step 9 (.step 10 (.step 11 .done))))))))))))) (bad := []) (hok := (by decide +kernel)) (hp := (Pick.perm (by (repeat (first | exact Pick.nil | apply Pick.cons (by (repeat (first | exact Out.head | apply Out.tail)); (first | done | fail)))); (first | done | fail)))) (h := ?_); intro K hK; repeat' (first | refine WlT_alt ?_ ?_ | (refine WlT_step (i := 0) rfl ?_; (refine Wl_fieldAddr (k := ?_)) <;> (refine Wl_nil ?_)) | (refine WlT_step (i := 1) rfl ?_; (refine Wl_loadRF (k := ?_)) <;> (refine Wl_nil ?_)) | (refine WlT_step (i := 2) rfl ?_; (refine Wl_move (k := ?_)) <;> (refine Wl_nil ?_)) | (refine WlT_step (i := 3) rfl ?_; (refine Wl_nilCheck (k := ?_)) <;> (refine Wl_nil ?_)) | (refine WlT_step (i := 4) rfl ?_; (refine Wl_fieldAddr (k := ?_)) <;> (refine Wl_nil ?_)) | (refine WlT_step (i := 5) rfl ?_; (refine Wl_loadF (k := ?_)) <;> (refine Wl_nil ?_)) | (refine WlT_step (i := 6) rfl ?_; (refine Wl_fieldAddr (k := ?_)) <;> (refine Wl_nil ?_)) | (refine WlT_step (i := 7) rfl ?_; (refine Wl_fieldAddr (k := ?_)) <;> (refine Wl_nil ?_)) | (refine WlT_step (i := 8) rfl ?_; (refine Wl_loadF (k := ?_)) <;> (refine Wl_nil ?_)) | (refine WlT_step (i := 9) rfl ?_; ((refine Wl_call (hs := hat) (k := ?_); rintro v A' ⟨rfl, rfl⟩; simp only [List.cons_append, List.nil_append])) <;> (refine Wl_nil ?_)) | (refine WlT_step (i := 10) rfl ?_; ((refine Wl_agg_neqB (hb := hb8) (k' := ?_))) <;> (refine Wl_nil ?_)) | (refine WlT_step (i := 11) rfl ?_; (refine Wl_assign (k := ?_)) <;> (refine Wl_nil ?_)) | (refine WlT_done (hK _ _ ?_); clear hK K; try simp only [List.cons_append, List.nil_append]))))
    | (refine Wc_region (id := 8) ?_; intro K hK; refine Wl_assign (k := ?_); (refine Wl_nil (hK _ _ ?_); clear hK K))
    | (refine Wc_region (id := 9) ?_; intro K hK; refine Wl_fieldAddr (k := ?_); refine Wl_load (k := ?_); ((refine Wl_call (hs := hnum1) (k := ?_); rintro v A' ⟨rfl, rfl⟩; simp only [List.cons_append, List.nil_append])) <;> (refine Wl_not (k' := ?_); refine Wl_move (k := ?_); ((first | (refine Wl_guard (k := ?_); refine Wl_fieldAddr (k := ?_)) | refine Wl_gno (k := ?_) | ((refine Wl_split (yes := (fun ht => ?_)) (no := (fun ht => ?_)) <;> (try simp at ht) <;> (try (exfalso; omega))) <;> (first | (refine Wl_guard (k := ?_); refine Wl_fieldAddr (k := ?_)) | refine Wl_gno (k := ?_))))) <;> (((first | (refine Wl_guard (k := ?_); refine Wl_load (k := ?_)) | refine Wl_gno (k := ?_) | ((refine Wl_split (yes := (fun ht => ?_)) (no := (fun ht => ?_)) <;> (try simp at ht) <;> (try (exfalso; omega))) <;> (first | (refine Wl_guard (k := ?_); refine Wl_load (k := ?_)) | refine Wl_gno (k := ?_))))) <;> (((first | (refine Wl_guard (k := ?_); (refine Wl_call (hs := hnum2) (k := ?_); rintro v A' ⟨rfl, rfl⟩; simp only [List.cons_append, List.nil_append])) | refine Wl_gno (k := ?_) | ((refine Wl_split (yes := (fun ht => ?_)) (no := (fun ht => ?_)) <;> (try simp at ht) <;> (try (exfalso; omega))) <;> (first | (refine Wl_guard (k := ?_); (refine Wl_call (hs := hnum2) (k := ?_); rintro v A' ⟨rfl, rfl⟩; simp only [List.cons_append, List.nil_append])) | refine Wl_gno (k := ?_))))) <;> (((first | (refine Wl_guard (k := ?_); refine Wl_not (k' := ?_)) | refine Wl_gno (k := ?_) | ((refine Wl_split (yes := (fun ht => ?_)) (no := (fun ht => ?_)) <;> (try simp at ht) <;> (try (exfalso; omega))) <;> (first | (refine Wl_guard (k := ?_); refine Wl_not (k' := ?_)) | refine Wl_gno (k := ?_))))) <;> ((first | refine Wl_pick_t (k := ?_) | refine Wl_pick_f (k := ?_) | refine Wl_pick (k := ?_)); refine Wl_move (k := ?_); ((first | (refine Wl_guard (k := ?_); refine Wl_fieldAddr (k := ?_)) | refine Wl_gno (k := ?_) | ((refine Wl_split (yes := (fun ht => ?_)) (no := (fun ht => ?_)) <;> (try simp at ht) <;> (try (exfalso; omega))) <;> (first | (refine Wl_guard (k := ?_); refine Wl_fieldAddr (k := ?_)) | refine Wl_gno (k := ?_))))) <;> (((first | (refine Wl_guard (k := ?_); refine Wl_load (k := ?_)) | refine Wl_gno (k := ?_) | ((refine Wl_split (yes := (fun ht => ?_)) (no := (fun ht => ?_)) <;> (try simp at ht) <;> (try (exfalso; omega))) <;> (first | (refine Wl_guard (k := ?_); refine Wl_load (k := ?_)) | refine Wl_gno (k := ?_))))) <;> (((first | (refine Wl_guard (k := ?_); refine Wl_move (k := ?_)) | refine Wl_gno (k := ?_) | ((refine Wl_split (yes := (fun ht => ?_)) (no := (fun ht => ?_)) <;> (try simp at ht) <;> (try (exfalso; omega))) <;> (first | (refine Wl_guard (k := ?_); refine Wl_move (k := ?_)) | refine Wl_gno (k := ?_))))) <;> (((first | (refine Wl_guard (k := ?_); refine Wl_fieldAddr (k := ?_)) | refine Wl_gno (k := ?_) | ((refine Wl_split (yes := (fun ht => ?_)) (no := (fun ht => ?_)) <;> (try simp at ht) <;> (try (exfalso; omega))) <;> (first | (refine Wl_guard (k := ?_); refine Wl_fieldAddr (k := ?_)) | refine Wl_gno (k := ?_))))) <;> (((first | (refine Wl_guard (k := ?_); refine Wl_load (k := ?_)) | refine Wl_gno (k := ?_) | ((refine Wl_split (yes := (fun ht => ?_)) (no := (fun ht => ?_)) <;> (try simp at ht) <;> (try (exfalso; omega))) <;> (first | (refine Wl_guard (k := ?_); refine Wl_load (k := ?_)) | refine Wl_gno (k := ?_))))) <;> (((first | (refine Wl_guard (k := ?_); refine Wl_str_neq (k' := ?_)) | refine Wl_gno (k := ?_) | ((refine Wl_split (yes := (fun ht => ?_)) (no := (fun ht => ?_)) <;> (try simp at ht) <;> (try (exfalso; omega))) <;> (first | (refine Wl_guard (k := ?_); refine Wl_str_neq (k' := ?_)) | refine Wl_gno (k := ?_))))) <;> (((first | (refine Wl_guard (k := ?_); (first | refine Wl_pick_t (k := ?_) | refine Wl_pick_f (k := ?_) | refine Wl_pick (k := ?_))) | refine Wl_gno (k := ?_) | ((refine Wl_split (yes := (fun ht => ?_)) (no := (fun ht => ?_)) <;> (try simp at ht) <;> (try (exfalso; omega))) <;> (first | (refine Wl_guard (k := ?_); (first | refine Wl_pick_t (k := ?_) | refine Wl_pick_f (k := ?_) | refine Wl_pick (k := ?_))) | refine Wl_gno (k := ?_))))) <;> ((first | refine Wl_pick_t (k := ?_) | refine Wl_pick_f (k := ?_) | refine Wl_pick (k := ?_)); refine Wl_assign (k := ?_); (refine Wl_nil (hK _ _ ?_); clear hK K))))))))))))))
    | (refine Wc_region (id := 10) ?_; intro K hK; refine Wl_assign (k := ?_); (refine Wl_nil (hK _ _ ?_); clear hK K))
    | (refine Wc_region (id := 11) ?_; intro K hK; refine Wl_fieldAddr (k := ?_); refine Wl_load (k := ?_); refine Wl_len_str (k' := ?_); refine Wl_lss (k' := ?_); refine Wl_move (k := ?_); ((first | (refine Wl_guard (k := ?_); refine Wl_fieldAddr (k := ?_)) | refine Wl_gno (k := ?_) | ((refine Wl_split (yes := (fun ht => ?_)) (no := (fun ht => ?_)) <;> (try simp at ht) <;> (try (exfalso; omega))) <;> (first | (refine Wl_guard (k := ?_); refine Wl_fieldAddr (k := ?_)) | refine Wl_gno (k := ?_))))) <;> (((first | (refine Wl_guard (k := ?_); refine Wl_load (k := ?_)) | refine Wl_gno (k := ?_) | ((refine Wl_split (yes := (fun ht => ?_)) (no := (fun ht => ?_)) <;> (try simp at ht) <;> (try (exfalso; omega))) <;> (first | (refine Wl_guard (k := ?_); refine Wl_load (k := ?_)) | refine Wl_gno (k := ?_))))) <;> (((first | (refine Wl_guard (k := ?_); refine Wl_len_str (k' := ?_)) | refine Wl_gno (k := ?_) | ((refine Wl_split (yes := (fun ht => ?_)) (no := (fun ht => ?_)) <;> (try simp at ht) <;> (try (exfalso; omega))) <;> (first | (refine Wl_guard (k := ?_); refine Wl_len_str (k' := ?_)) | refine Wl_gno (k := ?_))))) <;> (((first | (refine Wl_guard (k := ?_); refine Wl_gtr (k' := ?_)) | refine Wl_gno (k := ?_) | ((refine Wl_split (yes := (fun ht => ?_)) (no := (fun ht => ?_)) <;> (try simp at ht) <;> (try (exfalso; omega))) <;> (first | (refine Wl_guard (k := ?_); refine Wl_gtr (k' := ?_)) | refine Wl_gno (k := ?_))))) <;> ((first | refine Wl_pick_t (k := ?_) | refine Wl_pick_f (k := ?_) | refine Wl_pick (k := ?_)); refine Wl_move (k := ?_); ((first | (refine Wl_guard (k := ?_); refine Wl_fieldAddr (k := ?_)) | refine Wl_gno (k := ?_) | ((refine Wl_split (yes := (fun ht => ?_)) (no := (fun ht => ?_)) <;> (try simp at ht) <;> (try (exfalso; omega))) <;> (first | (refine Wl_guard (k := ?_); refine Wl_fieldAddr (k := ?_)) | refine Wl_gno (k := ?_))))) <;> (((first | (refine Wl_guard (k := ?_); refine Wl_load (k := ?_)) | refine Wl_gno (k := ?_) | ((refine Wl_split (yes := (fun ht => ?_)) (no := (fun ht => ?_)) <;> (try simp at ht) <;> (try (exfalso; omega))) <;> (first | (refine Wl_guard (k := ?_); refine Wl_load (k := ?_)) | refine Wl_gno (k := ?_))))) <;> (((first | (refine Wl_guard (k := ?_); refine Wl_len_str (k' := ?_)) | refine Wl_gno (k := ?_) | ((refine Wl_split (yes := (fun ht => ?_)) (no := (fun ht => ?_)) <;> (try simp at ht) <;> (try (exfalso; omega))) <;> (first | (refine Wl_guard (k := ?_); refine Wl_len_str (k' := ?_)) | refine Wl_gno (k := ?_))))) <;> (((first | (refine Wl_guard (k := ?_); refine Wl_gtr (k' := ?_)) | refine Wl_gno (k := ?_) | ((refine Wl_split (yes := (fun ht => ?_)) (no := (fun ht => ?_)) <;> (try simp at ht) <;> (try (exfalso; omega))) <;> (first | (refine Wl_guard (k := ?_); refine Wl_gtr (k' := ?_)) | refine Wl_gno (k := ?_))))) <;> ((first | refine Wl_pick_t (k := ?_) | refine Wl_pick_f (k := ?_) | refine Wl_pick (k := ?_)); refine Wl_assign (k := ?_); (refine Wl_nil (hK _ _ ?_); clear hK K))))))))))
    | (refine Wc_region (id := 12) ?_; intro K hK; refine Wl_assign (k := ?_); (refine Wl_nil (hK _ _ ?_); clear hK K))
    | ((refine Wc_tree (id := 13) (t := (.step 0 (.step 1 (.step 2 (.step 3 (.step 4 (.step 5 (.step 6 (.step 7 (.step 8 (.alt (.step 9 (.step 10 (.step 11 (.step 12 (.step 13 (.step 14 (.step 15 .done))))))) (.step 13 (.step 9 (.step 10 (.step 11 (.step 12 (.step 14 (.step 15 .done)))))))))))))))))) (bad := [9, 13]) (hok := (by decide +kernel)) (h := ?_); intro K hK; repeat' (first | refine WlT_alt ?_ ?_ | (refine WlT_step (i := 0) rfl ?_; (refine Wl_move (k := ?_)) <;> (refine Wl_nil ?_)) | (refine WlT_step (i := 1) rfl ?_; (refine Wl_nilCheck (k := ?_)) <;> (refine Wl_nil ?_)) | (refine WlT_step (i := 2) rfl ?_; (refine Wl_fieldAddr (k := ?_)) <;> (refine Wl_nil ?_)) | (refine WlT_step (i := 3) rfl ?_; (refine Wl_fieldAddr (k := ?_)) <;> (refine Wl_nil ?_)) | (refine WlT_step (i := 4) rfl ?_; (refine Wl_load (k := ?_)) <;> (refine Wl_nil ?_)) | (refine WlT_step (i := 5) rfl ?_; (refine Wl_fieldAddr (k := ?_)) <;> (refine Wl_nil ?_)) | (refine WlT_step (i := 6) rfl ?_; (refine Wl_load (k := ?_)) <;> (refine Wl_nil ?_)) | (refine WlT_step (i := 7) rfl ?_; (refine Wl_fieldAddr (k := ?_)) <;> (refine Wl_nil ?_)) | (refine WlT_step (i := 8) rfl ?_; (refine Wl_load (k := ?_)) <;> (refine Wl_nil ?_)) | (refine WlT_step (i := 9) rfl ?_; ((refine Wl_call (hs := look_spec q.d 16 S.fold.L hfo.ris x.s x.r hx) (k := ?_); rintro v A' ⟨rfl, rfl⟩; simp only [List.cons_append, List.nil_append]; rw [hlk])) <;> (refine Wl_nil ?_)) | (refine WlT_step (i := 10) rfl ?_; (refine Wl_move (k := ?_)) <;> (refine Wl_nil ?_)) | (refine WlT_step (i := 11) rfl ?_; (refine Wl_extract (k' := ?_)) <;> (refine Wl_nil ?_)) | (refine WlT_step (i := 12) rfl ?_; (refine Wl_extract (k' := ?_)) <;> (refine Wl_nil ?_)) | (refine WlT_step (i := 13) rfl ?_; ((refine Wl_alloc (k := ?_); intro r6)) <;> (refine Wl_nil ?_)) | (refine WlT_step (i := 14) rfl ?_; (refine Wl_assign (k := ?_)) <;> (refine Wl_nil ?_)) | (refine WlT_step (i := 15) rfl ?_; (refine Wl_storeR (ho' := rfl) (k := ?_)) <;> (refine Wl_nil ?_)) | (refine WlT_done (hK _ _ ?_); clear hK K))))
    | (refine Wc_region (id := 14) ?_; intro K hK; refine Wl_move (k := ?_); (refine Wl_nil (hK _ _ ?_); clear hK K))
    | (refine Wc_region (id := 15) ?_; intro K hK; refine Wl_eql (k' := ?_); refine Wl_assign (k := ?_); (refine Wl_nil (hK _ _ ?_); clear hK K))
    | (refine Wc_region (id := 16) ?_; intro K hK; refine Wl_eql (k' := ?_); refine Wl_assign (k := ?_); (refine Wl_nil (hK _ _ ?_); clear hK K))
    | (refine Wc_region (id := 17) ?_; intro K hK; refine Wl_assign (k := ?_); (refine Wl_nil (hK _ _ ?_); clear hK K))
    | (refine Wc_region (id := 18) ?_; intro K hK; refine Wl_eql (k' := ?_); refine Wl_assign (k := ?_); (refine Wl_nil (hK _ _ ?_); clear hK K))
    | (refine Wc_region (id := 19) ?_; intro K hK; refine Wl_assign (k := ?_); (refine Wl_nil (hK _ _ ?_); clear hK K))
    | (refine Wc_region (id := 20) ?_; intro K hK; refine Wl_assign (k := ?_); (refine Wl_nil (hK _ _ ?_); clear hK K))
    | (refine Wc_cond (ht := (fun ht => ?_)) (hf := (fun ht => ?_)) <;> (try simp at ht) <;> (try (exfalso; omega))))
  all_goals
    refine ⟨Or.inr rfl, _, [GtP st S], gt_fold (A0 := []) q (by simp only [GtL, GtR]; simp only [List.cons_append, List.nil_append]; (repeat (first | exact Ent.refl _ | exact Ent.nil | refine Ent.take (by (repeat (first | exact Out.head | apply Out.tail)); (first | done | fail)) ?_ | refine Ent.drop1 ?_))), res1 rfl rfl, congrArg (Value.int .i64) ?_, rfl⟩
    clear hat hnum1 hnum2 hft hfo htab hS hb8
    unfold gcwV
    rw [hn1, hn2, hlk, ha1, ha2]
    clear hn1 hn2 hlk ha1 ha2
    (repeat' split) <;> first | rfl | (exfalso; omega) | (exfalso; simp_all; done) | (exfalso; simp_all; omega)
end specs
end Go.Proofs.Ytnoggejkkjngjaa
