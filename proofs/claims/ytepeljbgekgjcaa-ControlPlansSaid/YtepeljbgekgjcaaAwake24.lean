/- Layer 24: a controller that is up; the document's example. Conditions: few operations. -/
import Derived.Test.YtepeljbgekgjcaaLaw24
set_option maxHeartbeats 8000000
set_option linter.unusedVariables false
set_option linter.unusedSimpArgs false
set_option maxRecDepth 100000
namespace Go.Proofs.Ytepeljbgekgjcaa
open Go Go.Sl
attribute [local irreducible] Go.Sl.Wl Go.Sl.Wc Go.Sl.thenQ Go.Sl.blkQ Go.Sl.loopQ Go.Sl.Fspec

/-- A report as cells. -/
def msgRp (from_ config : Int) (closed : Bool) (ep ix : Int) : List Value := [.int .i64 5, .int .i64 from_, .int .i64 config, .slice none 0 0, .int .i64 0, .int .i64 0, .int .i64 0, .int .i64 0, .slice none 0 0, .slice none 0 0, .slice none 0 0, .int .i64 ep, .int .i64 ix, .bool closed, .int .i64 0, .int .i64 0, .string ByteArray.empty, .bool false, .string ByteArray.empty, .int .i64 0, .int .i64 0, .int .i64 0, .int .i64 0, .int .i64 0, .bool false, .string ByteArray.empty]
theorem msgRp_ok (from_ config : Int) (closed : Bool) (ep ix : Int) : MsgR (msgRp from_ config closed ep ix) 5 from_ config closed ep ix := ⟨rfl, rfl, rfl, rfl, rfl, rfl⟩
theorem new_few (first : Nat) (h : 1 ≤ first ∧ first ≤ 4) : (encK [⟨first, 0, false⟩] ((0 : Nat) : Int) ((0 : Nat) : Int)).length ≤ 606 :=
  enc_few (Ct.new_ok first 4 h (by omega)).right (by omega) (by omega)
def aw0 : Ct := ⟨[⟨1, 0, false⟩], 1, 2, 2, fun _ => Rp.zero, false⟩
def aw1 : Ct := aw0.told 1 true 1 5
def aw2 : Ct := aw1.told 2 false 1 5
def aw3 : Ct := aw2.told 2 true 1 5
def awT : List Ep := [⟨1, 0, false⟩, ⟨2, 5, false⟩]
def aw4 : Ct := (aw3.kept 0 awT 0 0).fresh
theorem aw_ask {J : Jn} {D : Dk} (h : CK 256 1 (Ct.new 1 2) J D) : ∃ J' D', askV (Ct.new 1 2) J D 1 2 = (0, aw0, J', D') ∧ CK 256 2 aw0 J' D' := by
  obtain ⟨J', D', hp, hj⟩ := h.jk.put (by omega) (by omega) (encK [⟨1, 0, false⟩] ((1 : Nat) : Int) ((2 : Nat) : Int)) (enc_few (t := [⟨1, 0, false⟩]) rfl (by omega) (by omega))
  have hk : askV (Ct.new 1 2) J D 1 2 = keepV (Ct.new 1 2) J D [⟨1, 0, false⟩] 1 2 := rfl
  refine ⟨J', D', ?_, ⟨⟨rfl, by decide, by decide, by decide, by decide, ?_⟩, rfl, hj⟩⟩
  · rw [hk]; unfold keepV; rw [hp]; rfl
  · intro e he; simp [aw0] at he; subst he; decide
theorem aw_take1 (J : Jn) (D : Dk) : takeV aw0 J D 5 1 1 true 1 5 = (true, aw1, J, D) := rfl
theorem aw_take2 (J : Jn) (D : Dk) : takeV aw1 J D 5 2 1 false 1 5 = (true, aw2, J, D) := rfl
theorem aw_take3 {J : Jn} {D : Dk} (h : JK 256 2 J D) : ∃ J' D', takeV aw2 J D 5 2 1 true 1 5 = (true, aw4, J', D') := by
  obtain ⟨J', D', hp, hj⟩ := h.put (by omega) (by omega) (encK awT ((0 : Nat) : Int) ((0 : Nat) : Int)) (enc_few (t := awT) rfl (by omega) (by omega))
  have hk : takeV aw2 J D 5 2 1 true 1 5 = (true, if (keepV aw3 J D awT 0 0).1 = 0 then (aw3.kept 0 awT 0 0).fresh else aw3.kept (keepV aw3 J D awT 0 0).1 awT 0 0, (keepV aw3 J D awT 0 0).2.2) := rfl
  have hkv : keepV aw3 J D awT 0 0 = (0, aw3.kept 0 awT 0 0, J', D') := by unfold keepV; rw [hp]
  exact ⟨J', D', by rw [hk]; simp only [hkv, if_true]; rfl⟩
section specs
variable {B : Base}
theorem copen_fresh (d n first regions : Nat) (h32 : 32 ≤ n) (hn : n ≤ 4096) (h1 : 1 ≤ first ∧ first ≤ regions) (h2 : regions ≤ 4) :
    Fspec Try.prog B 7 #[.pointer (some ⟨d, 0, none⟩), .int .i64 first, .int .i64 regions] [DiskP d n (Dk.new n)]
      (fun v A' => ∃ c J D, v = .tuple #[.pointer (some ⟨c, 0, none⟩), .int .i64 0] ∧ CK n 1 (Ct.new first regions) J D ∧ A' = [CtP c d n (Ct.new first regions) J D]) := by
  obtain ⟨J', D', hS, hj⟩ := JK.new h32 hn (encK [⟨first, 0, false⟩] ((0 : Nat) : Int) ((0 : Nat) : Int)) (new_few first (by omega))
  refine (copen_new d n (Dk.new n) (Dk.new_ok n (by omega)) (by omega) rfl (open_new h32) first regions h1 h2 J' D' hS (by simp [Dk.new]; omega) (by simp [Dk.new]; omega)).conv ?_
  rintro v A' ⟨c, rfl, rfl⟩
  exact ⟨_, Ent.refl _, c, J', D', rfl, ⟨Ct.new_ok first regions h1 h2, rfl, hj⟩, rfl⟩
theorem ask_up (c d n k : Nat) (C : Ct) (J : Jn) (D : Dk) (h : CK n k C J D) (h32 : 32 ≤ n) (hk : k ≤ 1000) (kind target : Int) :
    Fspec Try.prog B 9 #[.pointer (some ⟨c, 0, none⟩), .int .i64 kind, .int .i64 target] [CtP c d n C J D]
      (fun v A' => ∃ e C' J' D', v = .int .i64 e ∧ CK n (k + 1) C' J' D' ∧ C'.table = C.table ∧ C'.known = C.known ∧ C'.regions = C.regions ∧ ((e = 0 ∧ (C'.kind : Int) = kind ∧ (C'.target : Int) = target) ∨ (e ≠ 0 ∧ C' = C)) ∧ A' = [CtP c d n C' J' D']) := by
  obtain ⟨e, C', J', D', hA, h1, h2, h3, h4, h5⟩ := h.ask h32 hk kind target
  refine (ask_spec c d n C J D h.ok (fun _ => h.jk.ready hk) kind target).conv ?_
  rintro v A' ⟨rfl, rfl⟩
  rw [hA]
  exact ⟨_, Ent.refl _, e, C', J', D', rfl, h1, h2, h3, h4, h5, rfl⟩
theorem take_up (c d n k : Nat) (C : Ct) (J : Jn) (D : Dk) (s : Nat → Sm) (h : CK n k C J D) (hS : SimI C s) (h32 : 32 ≤ n) (hk : k ≤ 1000) (r : Nat) :
    Fspec Try.prog B 11 #[.pointer (some ⟨c, 0, none⟩), .agg (msgRp r (s r).config (s r).closed (s r).config (s r).last).toArray] [CtP c d n C J D]
      (fun v A' => ∃ b C' J' D', v = .bool b ∧ CK n (k + 1) C' J' D' ∧ C'.regions = C.regions ∧ SimI C' s ∧ (C'.table = C.table ∨ ∃ e, C'.table = C.table ++ [e] ∧ Fits C s e) ∧ A' = [CtP c d n C' J' D']) := by
  obtain ⟨b, C', J', D', hA, h1, h2, h3, h4⟩ := hS.take h h32 hk r
  refine (take_spec c d n C J D h.ok (fun _ => h.jk.ready hk) (msgRp r (s r).config (s r).closed (s r).config (s r).last) 5 r (s r).config (s r).closed (s r).config (s r).last (msgRp_ok ..)).conv ?_
  rintro v A' ⟨rfl, rfl⟩
  rw [hA]
  exact ⟨_, Ent.refl _, b, C', J', D', rfl, h1, h2, h3, h4, rfl⟩
theorem table_up (c d n : Nat) (C : Ct) (J : Jn) (D : Dk) (hl : C.table.length ≤ 64) :
    Fspec Try.prog B 8 #[.pointer (some ⟨c, 0, none⟩)] [CtP c d n C J D]
      (fun v A' => ∃ b bc, v = .slice b C.table.length bc ∧ A' = [own b C.table.length bc 3 (epsC C.table) 40, CtP c d n C J D]) := by
  refine spec_of (args := [_]) Try.func8 rfl rfl rfl ?_
  refine Wc_exN (fun x => ?_)
  obtain ⟨a, cap, j⟩ := x
  simp only [CtL]
  simp only [List.cons_append, List.nil_append]
  refine Wc_ownF (a := a) (sz := 3) (ho := .tail .head) (h0 := by omega) (h := fun hf => ?_)
  repeat' (first
    | refine Wc_seq ?_
    | refine thenQ_normal ?_
    | refine Wc_cond_t (h := ?_)
    | refine Wc_cond_f (h := ?_)
    | refine Wc_ret ?_
    | refine thenQ_ret ?_
    | refine Wc_block ?_
    | refine blkQ_normal ?_
    | refine blkQ_ret ?_
    | refine Wc_exit ?_
    | refine thenQ_exit ?_
    | refine blkQ_hit ?_
    | refine blkQ_miss rfl ?_
    | refine Wc_skip ?_
    | refine Wc_label ?_
    | refine loopQ_exit ?_
    | refine loopQ_ret ?_
    | refine loopQ_normal ?_
    | (refine Wc_region (id := 0) ?_; intro K hK; refine Wl_assign (k := ?_); (refine Wl_nil (hK _ _ ?_); clear hK K))
    | (refine Wc_region (id := 1) ?_; intro K hK; refine Wl_move (k := ?_); refine Wl_ptr_eq_nil (k' := ?_); (refine Wl_nil (hK _ _ ?_); clear hK K))
    | (refine Wc_region (id := 2) ?_; intro K hK; refine Wl_assign (k := ?_); (refine Wl_nil (hK _ _ ?_); clear hK K))
    | (refine Wc_region (id := 3) ?_; intro K hK; (refine Wl_lit0o (k := ?_); intro r); refine Wl_move (k := ?_); refine Wl_nilCheck (k := ?_); refine Wl_fieldAddr (k := ?_); refine Wl_fieldAddr (k := ?_); refine Wl_load (k := ?_); ((refine Wl_appendR (hsrc := hf.rd (by (repeat (first | exact Out.head | apply Out.tail)); (first | done | fail))) (hvc := epsC_all _) (hbd := by omega) (k := ?_); intro oa' oc')) <;> (refine Wl_assign (k := ?_); (refine Wl_nil (hK _ _ ?_); clear hK K)))
    | (refine Wc_cond (ht := (fun ht => ?_)) (hf := (fun ht => ?_)) <;> (try simp at ht) <;> (try (exfalso; omega))))
  refine ⟨Or.inr rfl, _, [own oa' C.table.length oc' 3 (epsC C.table) 40, CtP c d n C J D], ?_, res1 rfl rfl, oa', oc', congrArg (fun k => Value.slice oa' k oc') (Nat.zero_add _), rfl⟩
  refine Ent.trans (fold_ct (A0 := [own oa' C.table.length oc' 3 (epsC C.table) 40]) (a := a) (cap := cap) (j := j) ?_) (by (repeat (first | exact Ent.refl _ | exact Ent.nil | refine Ent.take (by (repeat (first | exact Out.head | apply Out.tail)); (first | done | fail)) ?_ | refine Ent.drop1 ?_)))
  simp only [CtL, Nat.zero_add, List.nil_append]
  simp only [List.cons_append, List.nil_append]
  (repeat (first | exact Ent.refl _ | exact Ent.nil | refine Ent.take (by (repeat (first | exact Out.head | apply Out.tail)); (first | done | fail)) ?_ | refine Ent.drop1 ?_))
theorem plan_up (c d n : Nat) (C : Ct) (J : Jn) (D : Dk) :
    Fspec Try.prog B 13 #[.pointer (some ⟨c, 0, none⟩)] [CtP c d n C J D] (fun v A' => v = .agg #[.int .i64 C.kind, .int .i64 C.target] ∧ A' = [CtP c d n C J D]) := by
  refine spec_of (args := [_]) Try.func13 rfl rfl rfl ?_
  refine Wc_exN (fun x => ?_)
  obtain ⟨a, cap, j⟩ := x
  simp only [CtL]
  simp only [List.cons_append, List.nil_append]
  repeat' (first
    | refine Wc_seq ?_
    | refine thenQ_normal ?_
    | refine Wc_cond_t (h := ?_)
    | refine Wc_cond_f (h := ?_)
    | refine Wc_ret ?_
    | refine thenQ_ret ?_
    | refine Wc_block ?_
    | refine blkQ_normal ?_
    | refine blkQ_ret ?_
    | refine Wc_exit ?_
    | refine thenQ_exit ?_
    | refine blkQ_hit ?_
    | refine blkQ_miss rfl ?_
    | refine Wc_skip ?_
    | refine Wc_label ?_
    | refine loopQ_exit ?_
    | refine loopQ_ret ?_
    | refine loopQ_normal ?_
    | (refine Wc_region (id := 0) ?_; intro K hK; (refine Wl_alloc (k := ?_); intro r); (refine Wl_nil (hK _ _ ?_); clear hK K))
    | (refine Wc_region (id := 1) ?_; intro K hK; refine Wl_move (k := ?_); refine Wl_ptr_eq_nil (k' := ?_); (refine Wl_nil (hK _ _ ?_); clear hK K))
    | (refine Wc_region (id := 2) ?_; intro K hK; refine Wl_build (k := ?_); refine Wl_storeR (ho' := rfl) (k := ?_); (refine Wl_nil (hK _ _ ?_); clear hK K))
    | (refine Wc_region (id := 3) ?_; intro K hK; refine Wl_move (k := ?_); refine Wl_nilCheck (k := ?_); refine Wl_fieldAddr (k := ?_); refine Wl_fieldAddr (k := ?_); ((refine Wl_loadAgg (cs := [.int .i64 C.kind, .int .i64 C.target]) (hv := by simp [known_len]) (hc := rfl) (k := ?_))) <;> (refine Wl_storeR (ho' := rfl) (k := ?_); (refine Wl_nil (hK _ _ ?_); clear hK K)))
    | (refine Wc_cond (ht := (fun ht => ?_)) (hf := (fun ht => ?_)) <;> (try simp at ht) <;> (try (exfalso; omega))))
  refine ⟨Or.inr rfl, _, [CtP c d n C J D], ?_, resG rfl (by (repeat (first | exact ResL.nil | apply ResL.tmp (by (repeat (first | exact Ev.here | exact Ev.const | exact Ev.arg rfl | apply Ev.there rfl | exact Ev.none rfl | exact Ev.func | exact Ev.var)); (first | done | fail)) | apply ResL.agg (by (repeat (first | exact Ev.here | exact Ev.const | exact Ev.arg rfl | apply Ev.there rfl | exact Ev.none rfl | exact Ev.func | exact Ev.var)); (first | done | fail)) (by (repeat (first | exact Rd.head | exact Rd.base (by assumption) | apply Rd.tail)); (first | done | fail)) (by (repeat (first | exact TakeR.nil | apply TakeR.take | apply TakeR.skip)); (first | done | fail)) | apply ResL.cell (by (repeat (first | exact Ev.here | exact Ev.const | exact Ev.arg rfl | apply Ev.there rfl | exact Ev.none rfl | exact Ev.func | exact Ev.var)); (first | done | fail)) (by (repeat (first | exact Rd.head | exact Rd.base (by assumption) | apply Rd.tail)); (first | done | fail)) rfl)); (first | done | fail)) rfl, rfl, rfl⟩
  refine fold_ct (a := a) (cap := cap) (j := j) ?_
  simp only [CtL]
  simp only [List.cons_append, List.nil_append]
  (repeat (first | exact Ent.refl _ | exact Ent.nil | refine Ent.take (by (repeat (first | exact Out.head | apply Out.tail)); (first | done | fail)) ?_ | refine Ent.drop1 ?_))
theorem awake24 : Fspec Try.prog B 5 #[] [] (fun v A' => v = .bool true ∧ A' = []) := by
  refine spec_of (args := []) Try.func5 rfl rfl rfl ?_
  repeat' (first
    | refine Wc_seq ?_
    | refine thenQ_normal ?_
    | refine Wc_cond_t (h := ?_)
    | refine Wc_cond_f (h := ?_)
    | refine Wc_ret ?_
    | refine thenQ_ret ?_
    | refine Wc_block ?_
    | refine blkQ_normal ?_
    | refine blkQ_ret ?_
    | refine Wc_exit ?_
    | refine thenQ_exit ?_
    | refine blkQ_hit ?_
    | refine blkQ_miss rfl ?_
    | refine Wc_skip ?_
    | refine Wc_label ?_
    | refine loopQ_exit ?_
    | refine loopQ_ret ?_
    | refine loopQ_normal ?_
    | (refine Wc_region (id := 0) ?_; intro K hK; refine Wl_assign (k := ?_); (refine Wl_nil (hK _ _ ?_); clear hK K))
    | (refine Wc_region (id := 1) ?_; intro K hK; ((refine Wl_call (hs := new_spec B 256 (by omega)) (k := ?_); rintro v A' ⟨d, rfl, rfl⟩; simp only [List.cons_append, List.nil_append])) <;> (refine Wl_move (k := ?_); refine Wl_extract (k' := ?_); refine Wl_extract (k' := ?_); refine Wl_assign (k := ?_); refine Wl_assign (k := ?_); (refine Wl_nil (hK _ _ ?_); clear hK K)))
    | (refine Wc_region (id := 2) ?_; intro K hK; refine Wl_move (k := ?_); ((refine Wl_call (hs := copen_fresh d 256 1 2 (by omega) (by omega) (by omega) (by omega)) (k := ?_); rintro v A' ⟨c, J0, D0, rfl, hK0, rfl⟩; simp only [List.cons_append, List.nil_append])) <;> (refine Wl_move (k := ?_); refine Wl_extract (k' := ?_); refine Wl_extract (k' := ?_); refine Wl_assign (k := ?_); refine Wl_assign (k := ?_); (refine Wl_nil (hK _ _ ?_); clear hK K)))
    | (refine Wc_cond (ht := (fun ht => ?_)) (hf := (fun ht => ?_)) <;> (try simp at ht) <;> (try (exfalso; omega))))
  obtain ⟨J1, D1, hA, hK1⟩ := aw_ask hK0
  have hK1j := hK1.jk
  have ok1 : aw1.ok := hK1.ok.told 1 true 1 5
  have ok2 : aw2.ok := ok1.told 2 false 1 5
  obtain ⟨J2, D2, hT3⟩ := aw_take3 hK1.jk
  have sh1 : aw0.shut 1 = true := rfl
  have sh2 : aw2.shut 2 = true := rfl
  have hr := fun (h : aw0.over = false) => hK1.jk.ready (by omega)
  repeat' (first
    | refine Wc_seq ?_
    | refine thenQ_normal ?_
    | refine Wc_cond_t (h := ?_)
    | refine Wc_cond_f (h := ?_)
    | refine Wc_ret ?_
    | refine thenQ_ret ?_
    | refine Wc_block ?_
    | refine blkQ_normal ?_
    | refine blkQ_ret ?_
    | refine Wc_exit ?_
    | refine thenQ_exit ?_
    | refine blkQ_hit ?_
    | refine blkQ_miss rfl ?_
    | refine Wc_skip ?_
    | refine Wc_label ?_
    | refine loopQ_exit ?_
    | refine loopQ_ret ?_
    | refine loopQ_normal ?_
    | (refine Wc_region (id := 3) ?_; intro K hK; refine Wl_move (k := ?_); refine Wl_ptr_eq_nil (k' := ?_); refine Wl_move (k := ?_); ((first | (refine Wl_guard (k := ?_); refine Wl_move (k := ?_)) | refine Wl_gno (k := ?_) | ((refine Wl_split (yes := (fun ht => ?_)) (no := (fun ht => ?_)) <;> (try simp at ht) <;> (try (exfalso; omega))) <;> (first | (refine Wl_guard (k := ?_); refine Wl_move (k := ?_)) | refine Wl_gno (k := ?_))))) <;> (((first | (refine Wl_guard (k := ?_); refine Wl_neq (k' := ?_)) | refine Wl_gno (k := ?_) | ((refine Wl_split (yes := (fun ht => ?_)) (no := (fun ht => ?_)) <;> (try simp at ht) <;> (try (exfalso; omega))) <;> (first | (refine Wl_guard (k := ?_); refine Wl_neq (k' := ?_)) | refine Wl_gno (k := ?_))))) <;> ((first | refine Wl_pick_t (k := ?_) | refine Wl_pick_f (k := ?_) | refine Wl_pick (k := ?_)); refine Wl_move (k := ?_); ((first | (refine Wl_guard (k := ?_); refine Wl_move (k := ?_)) | refine Wl_gno (k := ?_) | ((refine Wl_split (yes := (fun ht => ?_)) (no := (fun ht => ?_)) <;> (try simp at ht) <;> (try (exfalso; omega))) <;> (first | (refine Wl_guard (k := ?_); refine Wl_move (k := ?_)) | refine Wl_gno (k := ?_))))) <;> (((first | (refine Wl_guard (k := ?_); (refine Wl_call (hs := ask_spec c d 256 (Ct.new 1 2) J0 D0 hK0.ok (fun _ => hK0.jk.ready (by omega)) 1 2) (k := ?_); rintro v A' ⟨rfl, rfl⟩; simp only [List.cons_append, List.nil_append]; rw [hA])) | refine Wl_gno (k := ?_) | ((refine Wl_split (yes := (fun ht => ?_)) (no := (fun ht => ?_)) <;> (try simp at ht) <;> (try (exfalso; omega))) <;> (first | (refine Wl_guard (k := ?_); (refine Wl_call (hs := ask_spec c d 256 (Ct.new 1 2) J0 D0 hK0.ok (fun _ => hK0.jk.ready (by omega)) 1 2) (k := ?_); rintro v A' ⟨rfl, rfl⟩; simp only [List.cons_append, List.nil_append]; rw [hA])) | refine Wl_gno (k := ?_))))) <;> (((first | (refine Wl_guard (k := ?_); refine Wl_neq (k' := ?_)) | refine Wl_gno (k := ?_) | ((refine Wl_split (yes := (fun ht => ?_)) (no := (fun ht => ?_)) <;> (try simp at ht) <;> (try (exfalso; omega))) <;> (first | (refine Wl_guard (k := ?_); refine Wl_neq (k' := ?_)) | refine Wl_gno (k := ?_))))) <;> ((first | refine Wl_pick_t (k := ?_) | refine Wl_pick_f (k := ?_) | refine Wl_pick (k := ?_)); (refine Wl_nil (hK _ _ ?_); clear hK K)))))))
    | (refine Wc_region (id := 4) ?_; intro K hK; refine Wl_assign (k := ?_); (refine Wl_nil (hK _ _ ?_); clear hK K))
    | (refine Wc_region (id := 5) ?_; intro K hK; refine Wl_move (k := ?_); ((refine Wl_call (hs := out_spec c d 256 aw0 J1 D1 hK1.ok rfl 1 (by decide)) (k := ?_); rintro v A' ⟨b1, bc1, tb1, tc1, rfl, rfl⟩; simp only [List.cons_append, List.nil_append]; rw [sh1]; simp only [if_true])) <;> (refine Wl_assign (k := ?_); (refine Wl_nil (hK _ _ ?_); clear hK K)))
    | (refine Wc_region (id := 6) ?_; intro K hK; refine Wl_build (k := ?_); ((refine Wl_alloc (k := ?_); intro pr)) <;> (refine Wl_storeR (ho' := rfl) (k := ?_); (refine Wl_nil (hK _ _ ?_); clear hK K)))
    | (refine Wc_region (id := 7) ?_; intro K hK; refine Wl_move (k := ?_); refine Wl_loadR (k := ?_); refine Wl_build (k := ?_); ((refine Wl_call (hs := take_spec c d 256 aw0 J1 D1 hK1.ok hr (msgRp 1 1 true 1 5) 5 1 1 true 1 5 (msgRp_ok ..)) (k := ?_); rintro v A' ⟨rfl, rfl⟩; simp only [List.cons_append, List.nil_append]; rw [aw_take1])) <;> ((refine Wl_nil (hK _ _ ?_); clear hK K)))
    | (refine Wc_region (id := 8) ?_; intro K hK; refine Wl_move (k := ?_); refine Wl_loadR (k := ?_); refine Wl_build (k := ?_); ((refine Wl_call (hs := take_spec c d 256 aw1 J1 D1 ok1 hr (msgRp 2 1 false 1 5) 5 2 1 false 1 5 (msgRp_ok ..)) (k := ?_); rintro v A' ⟨rfl, rfl⟩; simp only [List.cons_append, List.nil_append]; rw [aw_take2])) <;> ((refine Wl_nil (hK _ _ ?_); clear hK K)))
    | (refine Wc_region (id := 9) ?_; intro K hK; refine Wl_move (k := ?_); ((refine Wl_call (hs := out_spec c d 256 aw2 J1 D1 ok2 rfl 2 (by decide)) (k := ?_); rintro v A' ⟨b2, bc2, tb2, tc2, rfl, rfl⟩; simp only [List.cons_append, List.nil_append]; rw [sh2]; simp only [if_true])) <;> (refine Wl_assign (k := ?_); (refine Wl_nil (hK _ _ ?_); clear hK K)))
    | (refine Wc_region (id := 10) ?_; intro K hK; refine Wl_move (k := ?_); refine Wl_loadR (k := ?_); refine Wl_build (k := ?_); ((refine Wl_call (hs := take_spec c d 256 aw2 J1 D1 ok2 hr (msgRp 2 1 true 1 5) 5 2 1 true 1 5 (msgRp_ok ..)) (k := ?_); rintro v A' ⟨rfl, rfl⟩; simp only [List.cons_append, List.nil_append]; rw [hT3])) <;> (refine Wl_assign (k := ?_); (refine Wl_nil (hK _ _ ?_); clear hK K)))
    | (refine Wc_region (id := 11) ?_; intro K hK; refine Wl_move (k := ?_); ((refine Wl_call (hs := table_up c d 256 aw4 J2 D2 (by decide)) (k := ?_); rintro v A' ⟨tb, tc, rfl, rfl⟩; simp only [List.cons_append, List.nil_append])) <;> (refine Wl_assign (k := ?_); (refine Wl_nil (hK _ _ ?_); clear hK K)))
    | (refine Wc_cond (ht := (fun ht => ?_)) (hf := (fun ht => ?_)) <;> (try simp at ht) <;> (try (exfalso; omega))))
  refine Wc_ownF (a := tb) (sz := 3) (ho := by (repeat (first | exact Out.head | apply Out.tail)); done) (h0 := by omega) (h := fun hf => ?_)
  obtain ⟨q, rfl⟩ := hf.some (by decide)
  repeat' (first
    | refine Wc_seq ?_
    | refine thenQ_normal ?_
    | refine Wc_cond_t (h := ?_)
    | refine Wc_cond_f (h := ?_)
    | refine Wc_ret ?_
    | refine thenQ_ret ?_
    | refine Wc_block ?_
    | refine blkQ_normal ?_
    | refine blkQ_ret ?_
    | refine Wc_exit ?_
    | refine thenQ_exit ?_
    | refine blkQ_hit ?_
    | refine blkQ_miss rfl ?_
    | refine Wc_skip ?_
    | refine Wc_label ?_
    | refine loopQ_exit ?_
    | refine loopQ_ret ?_
    | refine loopQ_normal ?_
    | (refine Wc_region (id := 12) ?_; intro K hK; refine Wl_move (k := ?_); refine Wl_len_sl (k' := ?_); refine Wl_eql (k' := ?_); refine Wl_move (k := ?_); ((first | (refine Wl_guard (k := ?_); refine Wl_move (k := ?_)) | refine Wl_gno (k := ?_) | ((refine Wl_split (yes := (fun ht => ?_)) (no := (fun ht => ?_)) <;> (try simp at ht) <;> (try (exfalso; omega))) <;> (first | (refine Wl_guard (k := ?_); refine Wl_move (k := ?_)) | refine Wl_gno (k := ?_))))) <;> (((first | (refine Wl_guard (k := ?_); refine Wl_len_sl (k' := ?_)) | refine Wl_gno (k := ?_) | ((refine Wl_split (yes := (fun ht => ?_)) (no := (fun ht => ?_)) <;> (try simp at ht) <;> (try (exfalso; omega))) <;> (first | (refine Wl_guard (k := ?_); refine Wl_len_sl (k' := ?_)) | refine Wl_gno (k := ?_))))) <;> (((first | (refine Wl_guard (k := ?_); refine Wl_eql (k' := ?_)) | refine Wl_gno (k := ?_) | ((refine Wl_split (yes := (fun ht => ?_)) (no := (fun ht => ?_)) <;> (try simp at ht) <;> (try (exfalso; omega))) <;> (first | (refine Wl_guard (k := ?_); refine Wl_eql (k' := ?_)) | refine Wl_gno (k := ?_))))) <;> ((first | refine Wl_pick_t (k := ?_) | refine Wl_pick_f (k := ?_) | refine Wl_pick (k := ?_)); refine Wl_move (k := ?_); ((first | (refine Wl_guard (k := ?_); refine Wl_move (k := ?_)) | refine Wl_gno (k := ?_) | ((refine Wl_split (yes := (fun ht => ?_)) (no := (fun ht => ?_)) <;> (try simp at ht) <;> (try (exfalso; omega))) <;> (first | (refine Wl_guard (k := ?_); refine Wl_move (k := ?_)) | refine Wl_gno (k := ?_))))) <;> ((first | refine Wl_pick_t (k := ?_) | refine Wl_pick_f (k := ?_) | refine Wl_pick (k := ?_)); refine Wl_move (k := ?_); ((first | (refine Wl_guard (k := ?_); refine Wl_move (k := ?_)) | refine Wl_gno (k := ?_) | ((refine Wl_split (yes := (fun ht => ?_)) (no := (fun ht => ?_)) <;> (try simp at ht) <;> (try (exfalso; omega))) <;> (first | (refine Wl_guard (k := ?_); refine Wl_move (k := ?_)) | refine Wl_gno (k := ?_))))) <;> (((first | (refine Wl_guard (k := ?_); (refine Wl_len_sl (k' := ?_); rw [show ((aw4.table.length : Nat) : Int) = 2 from rfl])) | refine Wl_gno (k := ?_) | ((refine Wl_split (yes := (fun ht => ?_)) (no := (fun ht => ?_)) <;> (try simp at ht) <;> (try (exfalso; omega))) <;> (first | (refine Wl_guard (k := ?_); (refine Wl_len_sl (k' := ?_); rw [show ((aw4.table.length : Nat) : Int) = 2 from rfl])) | refine Wl_gno (k := ?_))))) <;> (((first | (refine Wl_guard (k := ?_); refine Wl_eql (k' := ?_)) | refine Wl_gno (k := ?_) | ((refine Wl_split (yes := (fun ht => ?_)) (no := (fun ht => ?_)) <;> (try simp at ht) <;> (try (exfalso; omega))) <;> (first | (refine Wl_guard (k := ?_); refine Wl_eql (k' := ?_)) | refine Wl_gno (k := ?_))))) <;> ((first | refine Wl_pick_t (k := ?_) | refine Wl_pick_f (k := ?_) | refine Wl_pick (k := ?_)); refine Wl_move (k := ?_); ((first | (refine Wl_guard (k := ?_); refine Wl_move (k := ?_)) | refine Wl_gno (k := ?_) | ((refine Wl_split (yes := (fun ht => ?_)) (no := (fun ht => ?_)) <;> (try simp at ht) <;> (try (exfalso; omega))) <;> (first | (refine Wl_guard (k := ?_); refine Wl_move (k := ?_)) | refine Wl_gno (k := ?_))))) <;> (((first | (refine Wl_guard (k := ?_); (refine Wl_index_any (hl := by decide) (k' := ?_))) | refine Wl_gno (k := ?_) | ((refine Wl_split (yes := (fun ht => ?_)) (no := (fun ht => ?_)) <;> (try simp at ht) <;> (try (exfalso; omega))) <;> (first | (refine Wl_guard (k := ?_); (refine Wl_index_any (hl := by decide) (k' := ?_))) | refine Wl_gno (k := ?_))))) <;> (((first | (refine Wl_guard (k := ?_); (refine Wl_loadAggG (j := 3) (cs := epC ⟨2, 5, false⟩) (hq := rfl) (hr := hf.rd (by (repeat (first | exact Out.head | apply Out.tail)); (first | done | fail))) (hv := rfl) (k := ?_))) | refine Wl_gno (k := ?_) | ((refine Wl_split (yes := (fun ht => ?_)) (no := (fun ht => ?_)) <;> (try simp at ht) <;> (try (exfalso; omega))) <;> (first | (refine Wl_guard (k := ?_); (refine Wl_loadAggG (j := 3) (cs := epC ⟨2, 5, false⟩) (hq := rfl) (hr := hf.rd (by (repeat (first | exact Out.head | apply Out.tail)); (first | done | fail))) (hv := rfl) (k := ?_))) | refine Wl_gno (k := ?_))))) <;> (((first | (refine Wl_guard (k := ?_); refine Wl_build (k := ?_)) | refine Wl_gno (k := ?_) | ((refine Wl_split (yes := (fun ht => ?_)) (no := (fun ht => ?_)) <;> (try simp at ht) <;> (try (exfalso; omega))) <;> (first | (refine Wl_guard (k := ?_); refine Wl_build (k := ?_)) | refine Wl_gno (k := ?_))))) <;> (((first | (refine Wl_guard (k := ?_); (refine Wl_agg_eqlB (b := true) (hb := rfl) (k' := ?_))) | refine Wl_gno (k := ?_) | ((refine Wl_split (yes := (fun ht => ?_)) (no := (fun ht => ?_)) <;> (try simp at ht) <;> (try (exfalso; omega))) <;> (first | (refine Wl_guard (k := ?_); (refine Wl_agg_eqlB (b := true) (hb := rfl) (k' := ?_))) | refine Wl_gno (k := ?_))))) <;> ((first | refine Wl_pick_t (k := ?_) | refine Wl_pick_f (k := ?_) | refine Wl_pick (k := ?_)); refine Wl_move (k := ?_); ((first | (refine Wl_guard (k := ?_); refine Wl_move (k := ?_)) | refine Wl_gno (k := ?_) | ((refine Wl_split (yes := (fun ht => ?_)) (no := (fun ht => ?_)) <;> (try simp at ht) <;> (try (exfalso; omega))) <;> (first | (refine Wl_guard (k := ?_); refine Wl_move (k := ?_)) | refine Wl_gno (k := ?_))))) <;> (((first | (refine Wl_guard (k := ?_); (refine Wl_call (hs := plan_up c d 256 aw4 J2 D2) (k := ?_); rintro v A' ⟨rfl, rfl⟩; simp only [List.cons_append, List.nil_append])) | refine Wl_gno (k := ?_) | ((refine Wl_split (yes := (fun ht => ?_)) (no := (fun ht => ?_)) <;> (try simp at ht) <;> (try (exfalso; omega))) <;> (first | (refine Wl_guard (k := ?_); (refine Wl_call (hs := plan_up c d 256 aw4 J2 D2) (k := ?_); rintro v A' ⟨rfl, rfl⟩; simp only [List.cons_append, List.nil_append])) | refine Wl_gno (k := ?_))))) <;> (((first | (refine Wl_guard (k := ?_); refine Wl_build (k := ?_)) | refine Wl_gno (k := ?_) | ((refine Wl_split (yes := (fun ht => ?_)) (no := (fun ht => ?_)) <;> (try simp at ht) <;> (try (exfalso; omega))) <;> (first | (refine Wl_guard (k := ?_); refine Wl_build (k := ?_)) | refine Wl_gno (k := ?_))))) <;> (((first | (refine Wl_guard (k := ?_); (refine Wl_agg_eqlB (b := true) (hb := rfl) (k' := ?_))) | refine Wl_gno (k := ?_) | ((refine Wl_split (yes := (fun ht => ?_)) (no := (fun ht => ?_)) <;> (try simp at ht) <;> (try (exfalso; omega))) <;> (first | (refine Wl_guard (k := ?_); (refine Wl_agg_eqlB (b := true) (hb := rfl) (k' := ?_))) | refine Wl_gno (k := ?_))))) <;> ((first | refine Wl_pick_t (k := ?_) | refine Wl_pick_f (k := ?_) | refine Wl_pick (k := ?_)); refine Wl_assign (k := ?_); (refine Wl_nil (hK _ _ ?_); clear hK K))))))))))))))))))
    | (refine Wc_cond (ht := (fun ht => ?_)) (hf := (fun ht => ?_)) <;> (try simp at ht) <;> (try (exfalso; omega))))
  exact ⟨Or.inr rfl, .bool true, [], Ent.nil, res1 rfl rfl, rfl, rfl⟩
end specs
end Go.Proofs.Ytepeljbgekgjcaa
