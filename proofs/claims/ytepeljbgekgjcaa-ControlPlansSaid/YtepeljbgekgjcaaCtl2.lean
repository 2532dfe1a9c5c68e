/- Package control: keep, Plan, Table, Ask, Out. Conditions: the table is right, the journal is started, the disk has power. -/
import Derived.Test.YtepeljbgekgjcaaCtl1
import Derived.Test.YtepeljbgekgjcaaJour8
set_option maxHeartbeats 8000000
set_option linter.unusedVariables false
set_option linter.unusedSimpArgs false
set_option maxRecDepth 100000
namespace Go.Proofs.Ytepeljbgekgjcaa
open Go Go.Sl
attribute [local irreducible] Go.Sl.Wl Go.Sl.Wc Go.Sl.thenQ Go.Sl.blkQ Go.Sl.loopQ Go.Sl.Fspec

/-- What the journal makes of a record: it is appended, or begins the next lap. -/
def putV (J : Jn) (D : Dk) (rc : List UInt8) : Int × Jn × Dk := if J.size - J.at_ < partsN rc.length then startV J D rc else appendV J J.half.toNat D rc
/-- The controller behind a 'keep'. -/
def Ct.kept (C : Ct) (e : Int) (t : List Ep) (kind target : Nat) : Ct :=
  if e = 0 then { C with table := t, kind := kind, target := target } else if e = 7 then { C with over := true } else C
/-- A journal that goes on. -/
structure JReady (J : Jn) (D : Dk) (n : Nat) : Prop where
  ok : D.ok n
  down : D.down = false
  size : J.size = n / 2
  over : J.over = false
  started : J.started = true
  half : J.half = 0 ∨ J.half = 1
  at_ : J.at_ ≤ J.size
  number : J.number ≤ 4000000000
  pend : D.pend.length + n ≤ 999999
  steps : D.steps + n ≤ 4611686018427387902
theorem startV_5 {J : Jn} {D : Dk} {rc : List UInt8} : (startV J D rc).1 = 0 ∨ (startV J D rc).1 = 5 ∨ (startV J D rc).1 = 7 := by
  unfold startV
  by_cases h1 : J.size < partsN rc.length ∨ 2147483647 < topN D.seen (2 * J.size) + 1
  · rw [if_pos h1]; exact .inr (.inl rfl)
  · rw [if_neg h1]
    by_cases h2 : (putD (secF (topN D.seen (2 * J.size) + 1) 0 rc) ((if J.half = 0 then 1 else 0) * J.size + 0) D (partsN rc.length)).2 = true
    · rw [if_pos h2]; exact .inl rfl
    · rw [if_neg h2]; exact .inr (.inr rfl)
theorem appendV_5 {J : Jn} {h : Nat} {D : Dk} {rc : List UInt8} (hp : ¬ J.size - J.at_ < partsN rc.length) : (appendV J h D rc).1 = 0 ∨ (appendV J h D rc).1 = 7 := by
  unfold appendV; rw [if_neg hp]; split
  · exact .inl rfl
  · exact .inr rfl
theorem ctC_over {a : Option Addr} {cap j : Nat} {C : Ct} : SetAt (CtC a cap j C) 25 (.int .u32 (b32 true)) (CtC a cap j { C with over := true }) := by
  simp only [CtC, knownC, repC, List.cons_append, List.nil_append]
  repeat (first | exact SetAt.zero | apply SetAt.succ)
section specs
variable {B : Base}
theorem keep_spec (c : Nat) (a : Option Addr) (cap j d n : Nat) (C : Ct) (J : Jn) (D : Dk) (hC : C.over = false) (hJ : JReady J D n) (b : Option Addr) (bc : Nat) (t : List Ep) (kind target : Nat) (X : Asn)
    (hR : RdS Try.prog B [X] 3 b t.length bc (epsC t)) (hl : t.length ≤ 64) (ht : ∀ e ∈ t, e.fair) (hk : kind ≤ 1000) (hg : target ≤ 1000) :
    Fspec Try.prog B 23 #[.pointer (some ⟨c, 0, none⟩), .agg #[.slice b t.length bc, .int .i64 kind, .int .i64 target]]
      [cb c (CtC a cap j C) 95, cb j (JC d J) 107, DiskP d n D, X]
      (fun v A' => v = .int .i64 (putV J D (encK t kind target)).1 ∧
        A' = [cb c (if (putV J D (encK t kind target)).1 = 0 then CtC b bc j (C.kept 0 t kind target) else CtC a cap j (C.kept (putV J D (encK t kind target)).1 t kind target)) 95,
          cb j (JC d (putV J D (encK t kind target)).2.1) 107, DiskP d n (putV J D (encK t kind target)).2.2, X]) := by
  obtain ⟨hf, hhf, hf1⟩ : ∃ hf : Nat, J.half = (hf : Int) ∧ hf ≤ 1 := by
    rcases hJ.half with h | h
    · exact ⟨0, h, by omega⟩
    · exact ⟨1, h, by omega⟩
  have hft : J.half.toNat = hf := by omega
  have hlen := encK_len (t := t) (kind := kind) (target := target) (fun e he => fair_enc (ht e he)) (by omega) (by omega) (by omega)
  obtain ⟨rc, hrc⟩ : ∃ rc, encK t kind target = rc := ⟨_, rfl⟩
  rw [hrc] at hlen
  have hkb := kbytes_spec (B := B) [X] t kind target b bc hR hl ht (by omega) (by omega)
  rw [hrc] at hkb ⊢
  obtain ⟨V, hV⟩ : ∃ V, putV J D rc = V := ⟨_, rfl⟩
  rw [hV]
  unfold putV at hV
  rw [hft] at hV
  refine spec_of (args := [_, _]) Try.func23 rfl rfl rfl ?_
  by_cases hp : J.size - J.at_ < partsN rc.length
  · rw [if_pos hp] at hV
    have hav : appendV J hf D rc = (5, J, D) := by unfold appendV; rw [if_pos hp]
    have h5 := startV_5 (J := J) (D := D) (rc := rc)
    obtain ⟨e, J', D'⟩ := V
    rw [hV] at h5
    simp only at h5 ⊢
    rcases h5 with rfl | rfl | rfl
    all_goals
      repeat' (first
        | refine Wc_seq ?_
        | refine thenQ_normal ?_
        | refine Wc_cond_t (h := ?_)
        | refine Wc_cond_f (h := ?_)
        | refine Wc_ret ?_
        | refine thenQ_ret ?_
        | refine Wc_block ?_
        | refine blkQ_normal ?_
        | refine blkQ_ret ?_
        | refine Wc_exit ?_
        | refine thenQ_exit ?_
        | refine blkQ_hit ?_
        | refine blkQ_miss rfl ?_
        | refine Wc_skip ?_
        | refine Wc_label ?_
        | refine loopQ_exit ?_
        | refine loopQ_ret ?_
        | refine loopQ_normal ?_
        | (refine Wc_region (id := 0) ?_; intro K hK; ((refine Wl_boxAgg (l := [.slice b t.length bc, .int .i64 kind, .int .i64 target]) (k := ?_); intro kr)) <;> (refine Wl_assign (k := ?_); (refine Wl_nil (hK _ _ ?_); clear hK K)))
        | (refine Wc_drawF (id := 1) (M := ([cb c (CtC a cap j C) 95, cb kr [.slice b t.length bc, .int .i64 kind, .int .i64 target] 83])) (Ls := [9, 10]) (hp := (Pick.perm (by (repeat (first | exact Pick.nil | apply Pick.cons (by (repeat (first | exact Out.head | apply Out.tail)); (first | done | fail)))); (first | done | fail)))) (h := ?_); intro K hK; refine Wl_move (k := ?_); refine Wl_nilCheck (k := ?_); refine Wl_fieldAddr (k := ?_); refine Wl_loadF (k := ?_); refine Wl_loadRF (k := ?_); ((refine Wl_call (hs := hkb) (k := ?_); rintro v A' ⟨ob, oc, rfl, rfl⟩; simp only [List.cons_append, List.nil_append]; refine Wl_ownF (a := ob) (sz := 1) (h0 := by omega) (h := fun hfb => ?_))) <;> (((refine Wl_call (hs := append_spec j d n J D hJ.ok hJ.over hJ.down hJ.started hf hhf hf1 hJ.size hJ.at_ hJ.number (own ob rc.length oc 1 (rc.map byteV) 5) ob rc.length oc rc (hfb.rd (M := []) (by (repeat (first | exact Out.head | apply Out.tail)); (first | done | fail))) (by omega) hJ.pend hJ.steps) (k := ?_); rintro v A' ⟨rfl, rfl⟩; simp only [List.cons_append, List.nil_append]; rw [hav])) <;> (refine Wl_assign (k := ?_); (refine Wl_nil (hK _ _ ?_); clear hK K; try simp only [List.cons_append, List.nil_append]))))
        | (refine Wc_region (id := 2) ?_; intro K hK; refine Wl_move (k := ?_); refine Wl_eql (k' := ?_); (refine Wl_nil (hK _ _ ?_); clear hK K))
        | (refine Wc_drawF (id := 3) (M := ([cb c (CtC a cap j C) 95, cb kr [.slice b t.length bc, .int .i64 kind, .int .i64 target] 83])) (Ls := [18, 19]) (hp := (Pick.perm (by (repeat (first | exact Pick.nil | apply Pick.cons (by (repeat (first | exact Out.head | apply Out.tail)); (first | done | fail)))); (first | done | fail)))) (h := ?_); intro K hK; refine Wl_move (k := ?_); refine Wl_nilCheck (k := ?_); refine Wl_fieldAddr (k := ?_); refine Wl_loadF (k := ?_); refine Wl_loadRF (k := ?_); ((refine Wl_call (hs := hkb) (k := ?_); rintro v A' ⟨ob2, oc2, rfl, rfl⟩; simp only [List.cons_append, List.nil_append]; refine Wl_ownF (a := ob2) (sz := 1) (h0 := by omega) (h := fun hfb => ?_))) <;> (((refine Wl_call (hs := start_spec j d n J D hJ.ok hJ.over hJ.down hJ.size (own ob2 rc.length oc2 1 (rc.map byteV) 5) ob2 rc.length oc2 rc (hfb.rd (M := []) (by (repeat (first | exact Out.head | apply Out.tail)); (first | done | fail))) (by omega) hJ.pend hJ.steps) (k := ?_); rintro v A' ⟨rfl, rfl⟩; simp only [List.cons_append, List.nil_append]; rw [hV])) <;> (refine Wl_assign (k := ?_); (refine Wl_nil (hK _ _ ?_); clear hK K; try simp only [List.cons_append, List.nil_append]))))
        | (refine Wc_region (id := 4) ?_; intro K hK; refine Wl_move (k := ?_); refine Wl_eql (k' := ?_); (refine Wl_nil (hK _ _ ?_); clear hK K))
        | (refine Wc_region (id := 5) ?_; intro K hK; refine Wl_move (k := ?_); refine Wl_nilCheck (k := ?_); refine Wl_fieldAddr (k := ?_); ((refine Wl_call (hs := bstore_spec c 25 (CtC a cap j C) (CtC a cap j { C with over := true }) 95 true C.over rfl ctC_over) (k := ?_); rintro v A' ⟨rfl, rfl⟩; simp only [List.cons_append, List.nil_append])) <;> ((refine Wl_nil (hK _ _ ?_); clear hK K)))
        | (refine Wc_region (id := 6) ?_; intro K hK; refine Wl_move (k := ?_); refine Wl_eql (k' := ?_); (refine Wl_nil (hK _ _ ?_); clear hK K))
        | (refine Wc_region (id := 7) ?_; intro K hK; refine Wl_move (k := ?_); refine Wl_loadR (k := ?_); refine Wl_nilCheck (k := ?_); refine Wl_fieldAddr (k := ?_); ((refine Wl_storeRow (l' := CtC b bc j (C.kept 0 t kind target)) (cs := [.slice b t.length bc, .int .i64 kind, .int .i64 target]) (hv := rfl) (hl := rfl) (ho := by simp [known_len]) (hs := rfl) (ho' := rfl) (hz := rfl) (k := ?_))) <;> ((refine Wl_nil (hK _ _ ?_); clear hK K)))
        | (refine Wc_region (id := 8) ?_; intro K hK; refine Wl_move (k := ?_); refine Wl_assign (k := ?_); (refine Wl_nil (hK _ _ ?_); clear hK K))
        | (refine Wc_cond (ht := (fun ht => ?_)) (hf := (fun ht => ?_)) <;> (try simp at ht) <;> (try (exfalso; omega))))
      first
        | exact ⟨Or.inr rfl, _, [cb c (CtC b bc j (C.kept 0 t kind target)) 95, cb j (JC d J') 107, DiskP d n D', X], (by (repeat (first | exact Ent.refl _ | exact Ent.nil | refine Ent.take (by (repeat (first | exact Out.head | apply Out.tail)); (first | done | fail)) ?_ | refine Ent.drop1 ?_))), res1 rfl rfl, rfl, rfl⟩
        | exact ⟨Or.inr rfl, _, [cb c (CtC a cap j C) 95, cb j (JC d J') 107, DiskP d n D', X], (by (repeat (first | exact Ent.refl _ | exact Ent.nil | refine Ent.take (by (repeat (first | exact Out.head | apply Out.tail)); (first | done | fail)) ?_ | refine Ent.drop1 ?_))), res1 rfl rfl, rfl, rfl⟩
        | exact ⟨Or.inr rfl, _, [cb c (CtC a cap j { C with over := true }) 95, cb j (JC d J') 107, DiskP d n D', X], (by (repeat (first | exact Ent.refl _ | exact Ent.nil | refine Ent.take (by (repeat (first | exact Out.head | apply Out.tail)); (first | done | fail)) ?_ | refine Ent.drop1 ?_))), res1 rfl rfl, rfl, rfl⟩
  · rw [if_neg hp] at hV
    have h5 := appendV_5 (J := J) (D := D) (rc := rc) (h := hf) hp
    obtain ⟨e, J', D'⟩ := V
    rw [hV] at h5
    simp only at h5 ⊢
    rcases h5 with rfl | rfl
    all_goals
      repeat' (first
        | refine Wc_seq ?_
        | refine thenQ_normal ?_
        | refine Wc_cond_t (h := ?_)
        | refine Wc_cond_f (h := ?_)
        | refine Wc_ret ?_
        | refine thenQ_ret ?_
        | refine Wc_block ?_
        | refine blkQ_normal ?_
        | refine blkQ_ret ?_
        | refine Wc_exit ?_
        | refine thenQ_exit ?_
        | refine blkQ_hit ?_
        | refine blkQ_miss rfl ?_
        | refine Wc_skip ?_
        | refine Wc_label ?_
        | refine loopQ_exit ?_
        | refine loopQ_ret ?_
        | refine loopQ_normal ?_
        | (refine Wc_region (id := 0) ?_; intro K hK; ((refine Wl_boxAgg (l := [.slice b t.length bc, .int .i64 kind, .int .i64 target]) (k := ?_); intro kr)) <;> (refine Wl_assign (k := ?_); (refine Wl_nil (hK _ _ ?_); clear hK K)))
        | (refine Wc_drawF (id := 1) (M := ([cb c (CtC a cap j C) 95, cb kr [.slice b t.length bc, .int .i64 kind, .int .i64 target] 83])) (Ls := [9, 10]) (hp := (Pick.perm (by (repeat (first | exact Pick.nil | apply Pick.cons (by (repeat (first | exact Out.head | apply Out.tail)); (first | done | fail)))); (first | done | fail)))) (h := ?_); intro K hK; refine Wl_move (k := ?_); refine Wl_nilCheck (k := ?_); refine Wl_fieldAddr (k := ?_); refine Wl_loadF (k := ?_); refine Wl_loadRF (k := ?_); ((refine Wl_call (hs := hkb) (k := ?_); rintro v A' ⟨ob, oc, rfl, rfl⟩; simp only [List.cons_append, List.nil_append]; refine Wl_ownF (a := ob) (sz := 1) (h0 := by omega) (h := fun hfb => ?_))) <;> (((refine Wl_call (hs := append_spec j d n J D hJ.ok hJ.over hJ.down hJ.started hf hhf hf1 hJ.size hJ.at_ hJ.number (own ob rc.length oc 1 (rc.map byteV) 5) ob rc.length oc rc (hfb.rd (M := []) (by (repeat (first | exact Out.head | apply Out.tail)); (first | done | fail))) (by omega) hJ.pend hJ.steps) (k := ?_); rintro v A' ⟨rfl, rfl⟩; simp only [List.cons_append, List.nil_append]; rw [hV])) <;> (refine Wl_assign (k := ?_); (refine Wl_nil (hK _ _ ?_); clear hK K; try simp only [List.cons_append, List.nil_append]))))
        | (refine Wc_region (id := 2) ?_; intro K hK; refine Wl_move (k := ?_); refine Wl_eql (k' := ?_); (refine Wl_nil (hK _ _ ?_); clear hK K))
        | (refine Wc_draw (id := 3) (h := ?_); intro K hK; refine Wl_move (k := ?_); refine Wl_nilCheck (k := ?_); refine Wl_fieldAddr (k := ?_); refine Wl_load (k := ?_); refine Wl_loadR (k := ?_))
        | (refine Wc_region (id := 4) ?_; intro K hK; refine Wl_move (k := ?_); refine Wl_eql (k' := ?_); (refine Wl_nil (hK _ _ ?_); clear hK K))
        | (refine Wc_region (id := 5) ?_; intro K hK; refine Wl_move (k := ?_); refine Wl_nilCheck (k := ?_); refine Wl_fieldAddr (k := ?_); ((refine Wl_call (hs := bstore_spec c 25 (CtC a cap j C) (CtC a cap j { C with over := true }) 95 true C.over rfl ctC_over) (k := ?_); rintro v A' ⟨rfl, rfl⟩; simp only [List.cons_append, List.nil_append])) <;> ((refine Wl_nil (hK _ _ ?_); clear hK K)))
        | (refine Wc_region (id := 6) ?_; intro K hK; refine Wl_move (k := ?_); refine Wl_eql (k' := ?_); (refine Wl_nil (hK _ _ ?_); clear hK K))
        | (refine Wc_region (id := 7) ?_; intro K hK; refine Wl_move (k := ?_); refine Wl_loadR (k := ?_); refine Wl_nilCheck (k := ?_); refine Wl_fieldAddr (k := ?_); ((refine Wl_storeRow (l' := CtC b bc j (C.kept 0 t kind target)) (cs := [.slice b t.length bc, .int .i64 kind, .int .i64 target]) (hv := rfl) (hl := rfl) (ho := by simp [known_len]) (hs := rfl) (ho' := rfl) (hz := rfl) (k := ?_))) <;> ((refine Wl_nil (hK _ _ ?_); clear hK K)))
        | (refine Wc_region (id := 8) ?_; intro K hK; refine Wl_move (k := ?_); refine Wl_assign (k := ?_); (refine Wl_nil (hK _ _ ?_); clear hK K))
        | (refine Wc_cond (ht := (fun ht => ?_)) (hf := (fun ht => ?_)) <;> (try simp at ht) <;> (try (exfalso; omega))))
      first
        | exact ⟨Or.inr rfl, _, [cb c (CtC b bc j (C.kept 0 t kind target)) 95, cb j (JC d J') 107, DiskP d n D', X], (by (repeat (first | exact Ent.refl _ | exact Ent.nil | refine Ent.take (by (repeat (first | exact Out.head | apply Out.tail)); (first | done | fail)) ?_ | refine Ent.drop1 ?_))), res1 rfl rfl, rfl, rfl⟩
        | exact ⟨Or.inr rfl, _, [cb c (CtC a cap j C) 95, cb j (JC d J') 107, DiskP d n D', X], (by (repeat (first | exact Ent.refl _ | exact Ent.nil | refine Ent.take (by (repeat (first | exact Out.head | apply Out.tail)); (first | done | fail)) ?_ | refine Ent.drop1 ?_))), res1 rfl rfl, rfl, rfl⟩
        | exact ⟨Or.inr rfl, _, [cb c (CtC a cap j { C with over := true }) 95, cb j (JC d J') 107, DiskP d n D', X], (by (repeat (first | exact Ent.refl _ | exact Ent.nil | refine Ent.take (by (repeat (first | exact Out.head | apply Out.tail)); (first | done | fail)) ?_ | refine Ent.drop1 ?_))), res1 rfl rfl, rfl, rfl⟩

/-- A controller with its journal and its disk. -/
def CtL (c d n : Nat) (C : Ct) (J : Jn) (D : Dk) (a : Option Addr) (cap j : Nat) : List Asn :=
  [cb c (CtC a cap j C) 95, own a C.table.length cap 3 (epsC C.table) 40, cb j (JC d J) 107, DiskP d n D]
def CtP (c d n : Nat) (C : Ct) (J : Jn) (D : Dk) : Asn := exN fun x : Option Addr × Nat × Nat => CtL c d n C J D x.1 x.2.1 x.2.2
theorem fold_ct {c d n : Nat} {C : Ct} {J : Jn} {D : Dk} {a : Option Addr} {cap j : Nat} {X A0 : List Asn} (h : Ent X (CtL c d n C J D a cap j ++ A0)) : Ent X (CtP c d n C J D :: A0) :=
  h.trans (Ent.exN_shut (f := fun x : Option Addr × Nat × Nat => CtL c d n C J D x.1 x.2.1 x.2.2) (a, cap, j) A0)
/-- A keep on the whole. -/
def keepV (C : Ct) (J : Jn) (D : Dk) (t : List Ep) (kind target : Nat) : Int × Ct × Jn × Dk :=
  ((putV J D (encK t kind target)).1, C.kept (putV J D (encK t kind target)).1 t kind target, (putV J D (encK t kind target)).2.1, (putV J D (encK t kind target)).2.2)
/-- What Ask tells and leaves. -/
def askV (C : Ct) (J : Jn) (D : Dk) (kind target : Int) : Int × Ct × Jn × Dk :=
  if C.over = true then (7, C, J, D)
  else if (kind ≠ 1 ∧ kind ≠ 2) ∨ target < 1 ∨ (C.regions : Int) < target then (1, C, J, D)
  else if C.kind ≠ 0 ∧ kind ≠ 2 then (4, C, J, D)
  else if 64 ≤ C.table.length then (15, C, J, D)
  else keepV C J D C.table kind.toNat target.toNat
theorem plan_spec (c : Nat) (a : Option Addr) (cap j : Nat) (C : Ct) :
    Fspec Try.prog B 13 #[.pointer (some ⟨c, 0, none⟩)] [cb c (CtC a cap j C) 95] (fun v A' => v = .agg #[.int .i64 C.kind, .int .i64 C.target] ∧ A' = [cb c (CtC a cap j C) 95]) := by
  refine spec_of (args := [_]) Try.func13 rfl rfl rfl ?_
  repeat' (first
    | refine Wc_seq ?_
    | refine thenQ_normal ?_
    | refine Wc_cond_t (h := ?_)
    | refine Wc_cond_f (h := ?_)
    | refine Wc_ret ?_
    | refine thenQ_ret ?_
    | refine Wc_block ?_
    | refine blkQ_normal ?_
    | refine blkQ_ret ?_
    | refine Wc_exit ?_
    | refine thenQ_exit ?_
    | refine blkQ_hit ?_
    | refine blkQ_miss rfl ?_
    | refine Wc_skip ?_
    | refine Wc_label ?_
    | refine loopQ_exit ?_
    | refine loopQ_ret ?_
    | refine loopQ_normal ?_
    | (refine Wc_region (id := 0) ?_; intro K hK; (refine Wl_alloc (k := ?_); intro r); (refine Wl_nil (hK _ _ ?_); clear hK K))
    | (refine Wc_region (id := 1) ?_; intro K hK; refine Wl_move (k := ?_); refine Wl_ptr_eq_nil (k' := ?_); (refine Wl_nil (hK _ _ ?_); clear hK K))
    | (refine Wc_region (id := 2) ?_; intro K hK; refine Wl_build (k := ?_); refine Wl_storeR (ho' := rfl) (k := ?_); (refine Wl_nil (hK _ _ ?_); clear hK K))
    | (refine Wc_region (id := 3) ?_; intro K hK; refine Wl_move (k := ?_); refine Wl_nilCheck (k := ?_); refine Wl_fieldAddr (k := ?_); refine Wl_fieldAddr (k := ?_); ((refine Wl_loadAgg (cs := [.int .i64 C.kind, .int .i64 C.target]) (hv := by simp [known_len]) (hc := rfl) (k := ?_))) <;> (refine Wl_storeR (ho' := rfl) (k := ?_); (refine Wl_nil (hK _ _ ?_); clear hK K)))
    | (refine Wc_cond (ht := (fun ht => ?_)) (hf := (fun ht => ?_)) <;> (try simp at ht) <;> (try (exfalso; omega))))
  exact ⟨Or.inr rfl, _, [cb c (CtC a cap j C) 95], (by (repeat (first | exact Ent.refl _ | exact Ent.nil | refine Ent.take (by (repeat (first | exact Out.head | apply Out.tail)); (first | done | fail)) ?_ | refine Ent.drop1 ?_))), resG rfl (by (repeat (first | exact ResL.nil | apply ResL.tmp (by (repeat (first | exact Ev.here | exact Ev.const | exact Ev.arg rfl | apply Ev.there rfl | exact Ev.none rfl | exact Ev.func | exact Ev.var)); (first | done | fail)) | apply ResL.agg (by (repeat (first | exact Ev.here | exact Ev.const | exact Ev.arg rfl | apply Ev.there rfl | exact Ev.none rfl | exact Ev.func | exact Ev.var)); (first | done | fail)) (by (repeat (first | exact Rd.head | exact Rd.base (by assumption) | apply Rd.tail)); (first | done | fail)) (by (repeat (first | exact TakeR.nil | apply TakeR.take | apply TakeR.skip)); (first | done | fail)) | apply ResL.cell (by (repeat (first | exact Ev.here | exact Ev.const | exact Ev.arg rfl | apply Ev.there rfl | exact Ev.none rfl | exact Ev.func | exact Ev.var)); (first | done | fail)) (by (repeat (first | exact Rd.head | exact Rd.base (by assumption) | apply Rd.tail)); (first | done | fail)) rfl)); (first | done | fail)) rfl, rfl, rfl⟩
theorem table_spec (c : Nat) (a : Option Addr) (cap j : Nat) (C : Ct) (hl : C.table.length ≤ 64) :
    Fspec Try.prog B 8 #[.pointer (some ⟨c, 0, none⟩)] (CtK c a cap j C)
      (fun v A' => ∃ b bc, v = .slice b C.table.length bc ∧ A' = own b C.table.length bc 3 (epsC C.table) 40 :: CtK c a cap j C) := by
  refine spec_of (args := [_]) Try.func8 rfl rfl rfl ?_
  refine Wc_ownF (a := a) (sz := 3) (ho := .tail .head) (h0 := by omega) (h := fun hf => ?_)
  simp only [CtK]
  repeat' (first
    | refine Wc_seq ?_
    | refine thenQ_normal ?_
    | refine Wc_cond_t (h := ?_)
    | refine Wc_cond_f (h := ?_)
    | refine Wc_ret ?_
    | refine thenQ_ret ?_
    | refine Wc_block ?_
    | refine blkQ_normal ?_
    | refine blkQ_ret ?_
    | refine Wc_exit ?_
    | refine thenQ_exit ?_
    | refine blkQ_hit ?_
    | refine blkQ_miss rfl ?_
    | refine Wc_skip ?_
    | refine Wc_label ?_
    | refine loopQ_exit ?_
    | refine loopQ_ret ?_
    | refine loopQ_normal ?_
    | (refine Wc_region (id := 0) ?_; intro K hK; refine Wl_assign (k := ?_); (refine Wl_nil (hK _ _ ?_); clear hK K))
    | (refine Wc_region (id := 1) ?_; intro K hK; refine Wl_move (k := ?_); refine Wl_ptr_eq_nil (k' := ?_); (refine Wl_nil (hK _ _ ?_); clear hK K))
    | (refine Wc_region (id := 2) ?_; intro K hK; refine Wl_assign (k := ?_); (refine Wl_nil (hK _ _ ?_); clear hK K))
    | (refine Wc_region (id := 3) ?_; intro K hK; (refine Wl_lit0o (k := ?_); intro r); refine Wl_move (k := ?_); refine Wl_nilCheck (k := ?_); refine Wl_fieldAddr (k := ?_); refine Wl_fieldAddr (k := ?_); refine Wl_load (k := ?_); ((refine Wl_appendR (hsrc := hf.rd (by (repeat (first | exact Out.head | apply Out.tail)); (first | done | fail))) (hvc := epsC_all _) (hbd := by omega) (k := ?_); intro oa' oc')) <;> (refine Wl_assign (k := ?_); (refine Wl_nil (hK _ _ ?_); clear hK K)))
    | (refine Wc_cond (ht := (fun ht => ?_)) (hf := (fun ht => ?_)) <;> (try simp at ht) <;> (try (exfalso; omega))))
  refine ⟨Or.inr rfl, _, own oa' C.table.length oc' 3 (epsC C.table) 40 :: CtK c a cap j C, ?_, res1 rfl rfl, oa', oc', congrArg (fun k => Value.slice oa' k oc') (Nat.zero_add _), rfl⟩
  simp only [CtK, Nat.zero_add, List.nil_append]
  (repeat (first | exact Ent.refl _ | exact Ent.nil | refine Ent.take (by (repeat (first | exact Out.head | apply Out.tail)); (first | done | fail)) ?_ | refine Ent.drop1 ?_))
end specs
end Go.Proofs.Ytepeljbgekgjcaa
