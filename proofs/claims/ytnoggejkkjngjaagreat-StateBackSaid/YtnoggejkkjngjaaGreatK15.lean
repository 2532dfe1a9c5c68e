/- Layer 15: records that came in. No condition. -/
import Derived.Test.YtnoggejkkjngjaaGreatK14
set_option maxHeartbeats 8000000
set_option linter.unusedVariables false
set_option linter.unusedSimpArgs false
set_option maxRecDepth 100000
namespace Go.Proofs.YtnoggejkkjngjaaGreat
open Go Go.Sl
attribute [local irreducible] Go.Sl.Wl Go.Sl.Wc Go.Sl.thenQ Go.Sl.blkQ Go.Sl.loopQ Go.Sl.Fspec

/-- A record that came in, and where its rows are. -/
structure RI where
  r : RcG
  pa : Option Addr
  pc : Nat
  sa : Option Addr
  sc : Nat
def RI.c (x : RI) : List Value := x.r.c x.pa x.pc x.sa x.sc
structure RI.ok (B : Base) (x : RI) : Prop where
  h1 : RdS Tryz.prog B [] 5 x.pa x.r.sn.ps.length x.pc (prC x.r.sn.ps)
  h2 : RdS Tryz.prog B [] 4 x.sa x.r.sn.ss.length x.sc (ssC x.r.sn.ss)
  xo : x.r.x.ok
  xi : rg x.r.x.i
  se : rg x.r.sn.e
  pl : x.r.sn.ps.length ≤ 9223372036854775807
  sl : x.r.sn.ss.length ≤ 9223372036854775807
  pr : ∀ y ∈ x.r.sn.ps, rg y.v.a
  sr : ∀ y ∈ x.r.sn.ss, rg y.e
theorem RI.ok.light {B : Base} {x : RI} (h : x.ok B) (hl : lightV x.r = true) : x.r.ok := by
  obtain ⟨l1, l2, _⟩ := light_out hl
  exact ⟨h.xo, h.xi, h.se, by omega, l2, h.pr, h.sr⟩
def recsC (l : List RI) : List Value := l.flatMap RI.c
theorem recsC_row {l : List RI} {k : Nat} {x : RI} (h : l[k]? = some x) : ((recsC l).drop (k * 16)).take 16 = x.c := flatMap_row (fun _ _ => rfl) h
end Go.Proofs.YtnoggejkkjngjaaGreat
/- Layer 15: all that a state tells. Conditions: none but the kinds' bounds. -/
set_option maxHeartbeats 8000000
set_option linter.unusedVariables false
set_option linter.unusedSimpArgs false
set_option maxRecDepth 100000
namespace Go.Proofs.YtnoggejkkjngjaaGreat
open Go Go.Sl
attribute [local irreducible] Go.Sl.Wl Go.Sl.Wc Go.Sl.thenQ Go.Sl.blkQ Go.Sl.loopQ Go.Sl.Fspec

theorem some_all {S : G15} (h : S.ok) : S.some (S.base.i + 1) 600 = S.es := by
  have hi := G15.fold_i h
  have hf := h.few
  unfold G15.some
  by_cases h0 : S.es = []
  · rw [if_pos (by rw [hi, h0]; simp; omega), h0]
  · have hp : 0 < S.es.length := List.length_pos_iff.2 h0
    rw [if_neg (by omega), show (S.base.i + 1 - S.base.i - 1).toNat = 0 by omega, List.drop_zero, List.take_of_length_le (by omega)]
section specs
variable {B : Base}
theorem sameEntries_spec (X : Asn) (l : List EnX) (hl : l.length ≤ 1000000) (a : Option Addr) (c : Nat) (b : Option Addr) (d : Nat) (h1 : RdS Tryz.prog B [X] 7 a l.length c (esC l)) (h2 : RdS Tryz.prog B [X] 7 b l.length d (esC l)) :
    Fspec Tryz.prog B 47 #[.slice a l.length c, .slice b l.length d] [X] (fun v A' => v = .bool true ∧ A' = [X]) := by
  refine spec_of (args := [_, _]) Tryz.func47 rfl rfl rfl ?_
  repeat' (first
    | refine zh ?_
    | refine zK ?_
    | refine zS (h := ?_)
    | refine zU (h := ?_)
    | refine zi ?_
    | refine zR ?_
    | refine za ?_
    | refine zN ?_
    | refine zY ?_
    | refine zd ?_
    | refine zO ?_
    | refine zZ ?_
    | refine zQ rfl ?_
    | refine ze ?_
    | refine zX ?_
    | refine zP ?_
    | refine zT ?_
    | refine zL ?_
    | (refine zE (id := 0) ?_; intro K hK; refine zI (k := ?_); (refine zF (hK _ _ ?_); clear hK K))
    | (refine zE (id := 1) ?_; intro K hK; refine zD (k := ?_); refine zk (k' := ?_); refine zD (k := ?_); refine zk (k' := ?_); refine yB (k' := ?_); (refine zF (hK _ _ ?_); clear hK K))
    | (refine zE (id := 2) ?_; intro K hK; refine zI (k := ?_); (refine zF (hK _ _ ?_); clear hK K))
    | (refine zE (id := 3) ?_; intro K hK; refine zI (k := ?_); (refine zF (hK _ _ ?_); clear hK K))
    | (refine zc (ht := (fun ht => ?_)) (hf := (fun ht => ?_)) <;> (try simp at ht) <;> (try (exfalso; omega))))
  refine yG (α := Nat) (fun j => [(0, .slice a l.length c), (1, .slice b l.length d), (5, .int .i64 j)]) (fun _ => [X]) (fun j => j ≤ l.length) (fun j => l.length - j) 0 (by omega) ⟨rfl, rfl, rfl, trivial⟩ (Ent.refl _) ?_
  intro j G hj
  simp only [ov]
  by_cases hlt : j < l.length
  · obtain ⟨p, rfl⟩ : ∃ q, a = some q := by
      cases a with
      | none => have := h1.nil rfl; omega
      | some q => exact ⟨q, rfl⟩
    obtain ⟨q, rfl⟩ : ∃ q, b = some q := by
      cases b with
      | none => have := h2.nil rfl; omega
      | some q => exact ⟨q, rfl⟩
    obtain ⟨x, hx⟩ : ∃ x, l[j]? = some x := ⟨_, List.getElem?_eq_getElem hlt⟩
    repeat' (first
      | refine zh ?_
      | refine zK ?_
      | refine zS (h := ?_)
      | refine zU (h := ?_)
      | refine zi ?_
      | refine zR ?_
      | refine za ?_
      | refine zN ?_
      | refine zY ?_
      | refine zd ?_
      | refine zO ?_
      | refine zZ ?_
      | refine zQ rfl ?_
      | refine ze ?_
      | refine zX ?_
      | refine zP ?_
      | refine zT ?_
      | refine zL ?_
      | (refine zE (id := 4) ?_; intro K hK; refine zD (k := ?_); refine zD (k := ?_); refine zk (k' := ?_); refine z2 (k' := ?_); (refine zF (hK _ _ ?_); clear hK K))
      | (refine zE (id := 5) ?_; intro K hK; refine zD (k := ?_); refine zm (k' := ?_); refine zI (k := ?_); (refine zF (hK _ _ ?_); clear hK K))
      | (refine z3 (id := 6) (h := ?_); intro K hK; refine zD (k := ?_); refine zD (k := ?_); ((refine zo (k' := ?_))) <;> (((refine z8 (j := j * 7) (cs := x.c) (hq := by simp) (hr := h1) (hv := esC_row hx) (k := ?_))) <;> (refine zD (k := ?_); refine zD (k := ?_); ((refine zo (k' := ?_))) <;> (((refine z8 (j := j * 7) (cs := x.c) (hq := by simp) (hr := h2) (hv := esC_row hx) (k := ?_))) <;> (((refine yM (b := true) (hb := ceqL_self _ [.i .i64, .i .i64, .i .i64, .i .i64, .s, .b, .s] rfl) (k' := ?_))) <;> ((refine zF (hK _ _ ?_); clear hK K)))))))
      | (refine zE (id := 7) ?_; intro K hK; refine zI (k := ?_); (refine zF (hK _ _ ?_); clear hK K))
      | (refine zc (ht := (fun ht => ?_)) (hf := (fun ht => ?_)) <;> (try simp at ht) <;> (try (exfalso; omega))))
    exact ⟨j + 1, by omega, by omega, ⟨rfl, rfl, int_succ j, trivial⟩, Ent.refl _⟩
  obtain rfl : j = l.length := by omega
  repeat' (first
    | refine zh ?_
    | refine zK ?_
    | refine zS (h := ?_)
    | refine zU (h := ?_)
    | refine zi ?_
    | refine zR ?_
    | refine za ?_
    | refine zN ?_
    | refine zY ?_
    | refine zd ?_
    | refine zO ?_
    | refine zZ ?_
    | refine zQ rfl ?_
    | refine ze ?_
    | refine zX ?_
    | refine zP ?_
    | refine zT ?_
    | refine zL ?_
    | (refine zE (id := 4) ?_; intro K hK; refine zD (k := ?_); refine zD (k := ?_); refine zk (k' := ?_); refine z2 (k' := ?_); (refine zF (hK _ _ ?_); clear hK K))
    | (refine zE (id := 8) ?_; intro K hK; refine zI (k := ?_); (refine zF (hK _ _ ?_); clear hK K))
    | (refine zc (ht := (fun ht => ?_)) (hf := (fun ht => ?_)) <;> (try simp at ht) <;> (try (exfalso; omega))))
  exact ⟨Or.inr rfl, _, [X], Ent.refl _, res1 rfl rfl, rfl, rfl⟩
theorem told15_spec (st : Nat) (S : G15) (n : Nat) (hS : S.inv n) :
    Fspec Tryz.prog B 26 #[.pointer (some ⟨st, 0, none⟩)] [GtP st S] (fun v A' => ∃ a c a2 c2, v = .agg #[.slice a S.table.length c, .int .i64 0, .int .i64 0, .slice none 0 0, .slice none 0 0, .slice a2 S.es.length c2, .bool S.closed] ∧
      A' = [own a S.table.length c 3 (epsC S.table) 45, own a2 S.es.length c2 7 (esC S.es) 43, GtP st S]) := by
  have htab := rightT_out hS.ok.tab
  have hbi := hS.ok.bi
  have hes := some_all hS.ok
  have hen := gentries_spec (B := B) st S hS.ok (S.base.i + 1) 600 (by omega) (by omega)
  rw [hes] at hen
  refine spec_of (args := [_]) Tryz.func26 rfl rfl rfl ?_
  repeat' (first
    | refine zh ?_
    | refine zK ?_
    | refine zS (h := ?_)
    | refine zU (h := ?_)
    | refine zi ?_
    | refine zR ?_
    | refine za ?_
    | refine zN ?_
    | refine zY ?_
    | refine zd ?_
    | refine zO ?_
    | refine zZ ?_
    | refine zQ rfl ?_
    | refine ze ?_
    | refine zX ?_
    | refine zP ?_
    | refine zT ?_
    | refine zL ?_
    | (refine zE (id := 0) ?_; intro K hK; ((refine zy (k := ?_); intro r2)) <;> ((refine zF (hK _ _ ?_); clear hK K)))
    | (refine zE (id := 1) ?_; intro K hK; refine zD (k := ?_); ((refine zb (hs := gtable_spec st S htab.2.1) (k := ?_); rintro v A' ⟨a, c, rfl, rfl⟩; simp only [List.cons_append, List.nil_append])) <;> (refine zD (k := ?_); ((refine zb (hs := gclosed_spec st S) (k := ?_); rintro v A' ⟨rfl, rfl⟩; simp only [List.cons_append, List.nil_append])) <;> (refine zt (k := ?_); ((refine zy (k := ?_); intro r3)) <;> (refine zl (ho' := rfl) (k := ?_); (refine zF (hK _ _ ?_); clear hK K)))))
    | (refine zE (id := 2) ?_; intro K hK; refine zD (k := ?_); refine zD (k := ?_); ((refine zb (hs := gbase_spec st S) (k := ?_); rintro v A' ⟨rfl, rfl⟩; simp only [List.cons_append, List.nil_append])) <;> (refine yi (k' := ?_); refine zm (k' := ?_); ((refine zb (hs := hen) (k := ?_); rintro v A' ⟨a2, c2, rfl, rfl⟩; simp only [List.cons_append, List.nil_append])) <;> (refine zB (k := ?_); refine zr (ho := rfl) (k := ?_); (refine zF (hK _ _ ?_); clear hK K))))
    | (refine zE (id := 3) ?_; intro K hK; refine zn (k := ?_); refine zl (ho' := rfl) (k := ?_); (refine zF (hK _ _ ?_); clear hK K))
    | (refine zc (ht := (fun ht => ?_)) (hf := (fun ht => ?_)) <;> (try simp at ht) <;> (try (exfalso; omega))))
  exact ⟨Or.inr rfl, _, [own a S.table.length c 3 (epsC S.table) 45, own a2 S.es.length c2 7 (esC S.es) 43, GtP st S], (by (repeat (first | exact Ent.refl _ | exact Ent.nil | refine Ent.take (by (repeat (first | exact Out.head | apply Out.tail)); (first | done | fail)) ?_ | refine Ent.drop1 ?_)); (first | done | fail)), resG rfl (by (repeat (first | exact ResL.nil | apply ResL.tmp (by (repeat (first | exact Ev.here | exact Ev.const | exact Ev.arg rfl | apply Ev.there rfl | exact Ev.none rfl | exact Ev.func | exact Ev.var)); (first | done | fail)) | apply ResL.agg (by (repeat (first | exact Ev.here | exact Ev.const | exact Ev.arg rfl | apply Ev.there rfl | exact Ev.none rfl | exact Ev.func | exact Ev.var)); (first | done | fail)) (by (repeat (first | exact Rd.head | exact Rd.base (by assumption) | apply Rd.tail)); (first | done | fail)) (by (repeat (first | exact TakeR.nil | apply TakeR.take | apply TakeR.skip)); (first | done | fail)) | apply ResL.cell (by (repeat (first | exact Ev.here | exact Ev.const | exact Ev.arg rfl | apply Ev.there rfl | exact Ev.none rfl | exact Ev.func | exact Ev.var)); (first | done | fail)) (by (repeat (first | exact Rd.head | exact Rd.base (by assumption) | apply Rd.tail)); (first | done | fail)) rfl)); (first | done | fail)) rfl, a, c, a2, c2, rfl, rfl⟩
theorem same15_spec (X : Asn) (S : G15) (n : Nat) (hS : S.inv n) (a : Option Addr) (c : Nat) (b : Option Addr) (d : Nat) (a2 : Option Addr) (c2 : Nat) (b2 : Option Addr) (d2 : Nat)
    (h1 : RdS Tryz.prog B [X] 3 a S.table.length c (epsC S.table)) (h2 : RdS Tryz.prog B [X] 7 b S.es.length d (esC S.es)) (h3 : RdS Tryz.prog B [X] 3 a2 S.table.length c2 (epsC S.table)) (h4 : RdS Tryz.prog B [X] 7 b2 S.es.length d2 (esC S.es)) :
    Fspec Tryz.prog B 25 #[.agg #[.slice a S.table.length c, .int .i64 0, .int .i64 0, .slice none 0 0, .slice none 0 0, .slice b S.es.length d, .bool S.closed], .agg #[.slice a2 S.table.length c2, .int .i64 0, .int .i64 0, .slice none 0 0, .slice none 0 0, .slice b2 S.es.length d2, .bool S.closed]] [X] (fun v A' => v = .bool true ∧ A' = [X]) := by
  have htab := rightT_out hS.ok.tab
  have hfew := hS.ok.few
  have hsn := sameSnap_spec (B := B) X SnX.zero (by simp [SnX.zero]) (by simp [SnX.zero]) none 0 none 0 none 0 none 0 rds_nil rds_nil rds_nil rds_nil
  obtain ⟨cc, hcc⟩ : ∃ x, S.closed = x := ⟨_, rfl⟩
  rw [hcc]
  refine spec_of (args := [_, _]) Tryz.func25 rfl rfl rfl ?_
  repeat' (first
    | refine zh ?_
    | refine zK ?_
    | refine zS (h := ?_)
    | refine zU (h := ?_)
    | refine zi ?_
    | refine zR ?_
    | refine za ?_
    | refine zN ?_
    | refine zY ?_
    | refine zd ?_
    | refine zO ?_
    | refine zZ ?_
    | refine zQ rfl ?_
    | refine ze ?_
    | refine zX ?_
    | refine zP ?_
    | refine zT ?_
    | refine zL ?_
    | (refine zE (id := 0) ?_; intro K hK; ((refine zw (k := ?_); intro r2)) <;> (((refine zw (k := ?_); intro r3)) <;> (refine zI (k := ?_); (refine zF (hK _ _ ?_); clear hK K))))
    | (refine zE (id := 1) ?_; intro K hK; refine zB (k := ?_); refine zM (k := ?_); refine zB (k := ?_); refine zM (k := ?_); ((refine zb (hs := sameTable_spec X S.table (by omega) a c a2 c2 h1 h3) (k := ?_); rintro v A' ⟨rfl, rfl⟩; simp only [List.cons_append, List.nil_append])) <;> (refine zD (k := ?_); ((first | (refine zA (k := ?_); refine zB (k := ?_)) | refine zC (k := ?_) | ((refine zG (yes := (fun ht => ?_)) (no := (fun ht => ?_)) <;> (try simp at ht) <;> (try (exfalso; omega))) <;> (first | (refine zA (k := ?_); refine zB (k := ?_)) | refine zC (k := ?_))))) <;> (((first | (refine zA (k := ?_); refine zM (k := ?_)) | refine zC (k := ?_) | ((refine zG (yes := (fun ht => ?_)) (no := (fun ht => ?_)) <;> (try simp at ht) <;> (try (exfalso; omega))) <;> (first | (refine zA (k := ?_); refine zM (k := ?_)) | refine zC (k := ?_))))) <;> (((first | (refine zA (k := ?_); refine zB (k := ?_)) | refine zC (k := ?_) | ((refine zG (yes := (fun ht => ?_)) (no := (fun ht => ?_)) <;> (try simp at ht) <;> (try (exfalso; omega))) <;> (first | (refine zA (k := ?_); refine zB (k := ?_)) | refine zC (k := ?_))))) <;> (((first | (refine zA (k := ?_); refine zM (k := ?_)) | refine zC (k := ?_) | ((refine zG (yes := (fun ht => ?_)) (no := (fun ht => ?_)) <;> (try simp at ht) <;> (try (exfalso; omega))) <;> (first | (refine zA (k := ?_); refine zM (k := ?_)) | refine zC (k := ?_))))) <;> (((first | (refine zA (k := ?_); (refine yo (hU := Tryz.underlying4) (k' := ?_); rw [beq_self_eq_true])) | refine zC (k := ?_) | ((refine zG (yes := (fun ht => ?_)) (no := (fun ht => ?_)) <;> (try simp at ht) <;> (try (exfalso; omega))) <;> (first | (refine zA (k := ?_); (refine yo (hU := Tryz.underlying4) (k' := ?_); rw [beq_self_eq_true])) | refine zC (k := ?_))))) <;> ((first | refine zV (k := ?_) | refine zW (k := ?_) | refine zg (k := ?_)); refine zD (k := ?_); ((first | (refine zA (k := ?_); refine zB (k := ?_)) | refine zC (k := ?_) | ((refine zG (yes := (fun ht => ?_)) (no := (fun ht => ?_)) <;> (try simp at ht) <;> (try (exfalso; omega))) <;> (first | (refine zA (k := ?_); refine zB (k := ?_)) | refine zC (k := ?_))))) <;> (((first | (refine zA (k := ?_); refine zn (k := ?_)) | refine zC (k := ?_) | ((refine zG (yes := (fun ht => ?_)) (no := (fun ht => ?_)) <;> (try simp at ht) <;> (try (exfalso; omega))) <;> (first | (refine zA (k := ?_); refine zn (k := ?_)) | refine zC (k := ?_))))) <;> (((first | (refine zA (k := ?_); refine zB (k := ?_)) | refine zC (k := ?_) | ((refine zG (yes := (fun ht => ?_)) (no := (fun ht => ?_)) <;> (try simp at ht) <;> (try (exfalso; omega))) <;> (first | (refine zA (k := ?_); refine zB (k := ?_)) | refine zC (k := ?_))))) <;> (((first | (refine zA (k := ?_); refine zn (k := ?_)) | refine zC (k := ?_) | ((refine zG (yes := (fun ht => ?_)) (no := (fun ht => ?_)) <;> (try simp at ht) <;> (try (exfalso; omega))) <;> (first | (refine zA (k := ?_); refine zn (k := ?_)) | refine zC (k := ?_))))) <;> (((first | (refine zA (k := ?_); (refine zb (hs := hsn) (k := ?_); rintro v A' ⟨rfl, rfl⟩; simp only [List.cons_append, List.nil_append])) | refine zC (k := ?_) | ((refine zG (yes := (fun ht => ?_)) (no := (fun ht => ?_)) <;> (try simp at ht) <;> (try (exfalso; omega))) <;> (first | (refine zA (k := ?_); (refine zb (hs := hsn) (k := ?_); rintro v A' ⟨rfl, rfl⟩; simp only [List.cons_append, List.nil_append])) | refine zC (k := ?_))))) <;> ((first | refine zV (k := ?_) | refine zW (k := ?_) | refine zg (k := ?_)); refine zD (k := ?_); ((first | (refine zA (k := ?_); refine zB (k := ?_)) | refine zC (k := ?_) | ((refine zG (yes := (fun ht => ?_)) (no := (fun ht => ?_)) <;> (try simp at ht) <;> (try (exfalso; omega))) <;> (first | (refine zA (k := ?_); refine zB (k := ?_)) | refine zC (k := ?_))))) <;> (((first | (refine zA (k := ?_); refine zM (k := ?_)) | refine zC (k := ?_) | ((refine zG (yes := (fun ht => ?_)) (no := (fun ht => ?_)) <;> (try simp at ht) <;> (try (exfalso; omega))) <;> (first | (refine zA (k := ?_); refine zM (k := ?_)) | refine zC (k := ?_))))) <;> (((first | (refine zA (k := ?_); refine zB (k := ?_)) | refine zC (k := ?_) | ((refine zG (yes := (fun ht => ?_)) (no := (fun ht => ?_)) <;> (try simp at ht) <;> (try (exfalso; omega))) <;> (first | (refine zA (k := ?_); refine zB (k := ?_)) | refine zC (k := ?_))))) <;> (((first | (refine zA (k := ?_); refine zM (k := ?_)) | refine zC (k := ?_) | ((refine zG (yes := (fun ht => ?_)) (no := (fun ht => ?_)) <;> (try simp at ht) <;> (try (exfalso; omega))) <;> (first | (refine zA (k := ?_); refine zM (k := ?_)) | refine zC (k := ?_))))) <;> (((first | (refine zA (k := ?_); (refine zb (hs := sameEntries_spec X S.es (by omega) b d b2 d2 h2 h4) (k := ?_); rintro v A' ⟨rfl, rfl⟩; simp only [List.cons_append, List.nil_append])) | refine zC (k := ?_) | ((refine zG (yes := (fun ht => ?_)) (no := (fun ht => ?_)) <;> (try simp at ht) <;> (try (exfalso; omega))) <;> (first | (refine zA (k := ?_); (refine zb (hs := sameEntries_spec X S.es (by omega) b d b2 d2 h2 h4) (k := ?_); rintro v A' ⟨rfl, rfl⟩; simp only [List.cons_append, List.nil_append])) | refine zC (k := ?_))))) <;> ((first | refine zV (k := ?_) | refine zW (k := ?_) | refine zg (k := ?_)); refine zI (k := ?_); (refine zF (hK _ _ ?_); clear hK K))))))))))))))))))
    | (refine zc (ht := (fun ht => ?_)) (hf := (fun ht => ?_)) <;> (try simp at ht) <;> (try (exfalso; omega))))
  all_goals exact ⟨Or.inr rfl, _, [X], (by (repeat (first | exact Ent.refl _ | exact Ent.nil | refine Ent.take (by (repeat (first | exact Out.head | apply Out.tail)); (first | done | fail)) ?_ | refine Ent.drop1 ?_)); (first | done | fail)), res1 rfl rfl, rfl, rfl⟩
end specs
end Go.Proofs.YtnoggejkkjngjaaGreat
/- What package pack writes, the plain law. No program in sight. -/
set_option maxHeartbeats 8000000
set_option linter.unusedVariables false
set_option linter.unusedSimpArgs false
set_option maxRecDepth 100000
namespace Go.Proofs.YtnoggejkkjngjaaGreat
open Go Go.Sl
attribute [local irreducible] Go.Sl.Wl Go.Sl.Wc Go.Sl.thenQ Go.Sl.blkQ Go.Sl.loopQ Go.Sl.Fspec

/-- A number, seven bits a byte, the lowest first. -/
def encN (n : Nat) : List UInt8 := if n < 128 then [UInt8.ofNat n] else UInt8.ofNat (n % 128 + 128) :: encN (n / 128)
termination_by n
decreasing_by omega
theorem encN_small {n : Nat} (h : n < 128) : encN n = [UInt8.ofNat n] := by rw [encN, if_pos h]
theorem encN_big {n : Nat} (h : 128 ≤ n) : encN n = UInt8.ofNat (n % 128 + 128) :: encN (n / 128) := by rw [encN, if_neg (by omega)]
theorem encN_pos (n : Nat) : 0 < (encN n).length := by
  by_cases h1 : n < 128
  · rw [encN_small h1]; simp
  · rw [encN_big (by omega)]; simp
theorem encN_few (n : Nat) (h : n ≤ 9007199254740992) : (encN n).length ≤ 9 := by
  have step : ∀ (k m : Nat), m < 128 ^ (k + 1) → (encN m).length ≤ k + 1 := by
    intro k
    induction k with
    | zero => intro m hm; rw [encN_small (by simpa using hm)]; simp
    | succ k ih =>
      intro m hm
      by_cases h1 : m < 128
      · rw [encN_small h1]; simp
      · rw [encN_big (by omega)]
        have : m / 128 < 128 ^ (k + 1) := Nat.div_lt_of_lt_mul (by rw [Nat.pow_succ] at hm; rw [Nat.mul_comm]; exact hm)
        have := ih (m / 128) this
        simp only [List.length_cons]; omega
  exact step 8 n (by omega)
/-- What a Writer has: its bytes, whether it is spoilt. -/
abbrev Wr := List UInt8 × Bool
def numOk (n : Int) : Bool := decide (0 ≤ n ∧ n ≤ 9007199254740992)
def wNum (w : Wr) (n : Int) : Wr := if numOk n = false then (w.1, true) else if w.2 = true then w else (w.1 ++ encN n.toNat, false)
def wFlag (w : Wr) (on : Bool) : Wr := wNum w (if on = true then 1 else 0)
def wText (w : Wr) (s : ByteArray) : Wr := if (wNum w s.size).2 = true then wNum w s.size else ((wNum w s.size).1 ++ s.data.toList, false)
def wPos (w : Wr) (e i : Int) : Wr := wNum (wNum w e) i
def wEp (w : Wr) (e : Ep) : Wr := wFlag (wNum (wNum w e.master) e.cut) e.forced
def wEnt (w : Wr) (x : EnX) : Wr := wText (wFlag (wText (wNum (wNum (wPos w x.e x.i) x.s) x.r) x.key) x.del) x.tx
def wPr (w : Wr) (x : PrX) : Wr := wText (wFlag (wPos (wText w x.k) x.v.a x.v.b) x.v.c) x.v.d
def wSs (w : Wr) (x : SX) : Wr := wPos (wNum (wNum w x.s) x.r) x.e x.i
def wSnap (w : Wr) (b : SnX) : Wr := b.ss.foldl wSs (wNum (b.ps.foldl wPr (wNum (wPos w b.e b.i) (b.ps.length : Nat))) (b.ss.length : Nat))
def wState (S : G15) : Wr := S.es.foldl wEnt (wNum (wSnap (wFlag (S.table.foldl wEp (wNum ([], false) (S.table.length : Nat))) S.closed) S.base) (S.es.length : Nat))
theorem wNum_le (w : Wr) (n : Int) : w.1.length ≤ (wNum w n).1.length := by
  unfold wNum; split
  · exact Nat.le_refl _
  · split
    · exact Nat.le_refl _
    · simp
theorem wFlag_le (w : Wr) (b : Bool) : w.1.length ≤ (wFlag w b).1.length := wNum_le w _
theorem wText_le (w : Wr) (s : ByteArray) : (wNum w s.size).1.length ≤ (wText w s).1.length := by
  unfold wText; split
  · exact Nat.le_refl _
  · simp
theorem wText_le0 (w : Wr) (s : ByteArray) : w.1.length ≤ (wText w s).1.length := Nat.le_trans (wNum_le w _) (wText_le w s)
theorem wPos_le (w : Wr) (e i : Int) : w.1.length ≤ (wPos w e i).1.length := Nat.le_trans (wNum_le w e) (wNum_le _ i)
theorem wEp_le (w : Wr) (e : Ep) : w.1.length ≤ (wEp w e).1.length := Nat.le_trans (Nat.le_trans (wNum_le w _) (wNum_le _ _)) (wFlag_le _ _)
theorem wEnt_le (w : Wr) (x : EnX) : w.1.length ≤ (wEnt w x).1.length :=
  Nat.le_trans (wPos_le w x.e x.i) (Nat.le_trans (wNum_le _ _) (Nat.le_trans (wNum_le _ _) (Nat.le_trans (wText_le0 _ _) (Nat.le_trans (wFlag_le _ _) (wText_le0 _ _)))))
theorem wPr_le (w : Wr) (x : PrX) : w.1.length ≤ (wPr w x).1.length :=
  Nat.le_trans (wText_le0 w x.k) (Nat.le_trans (wPos_le _ _ _) (Nat.le_trans (wFlag_le _ _) (wText_le0 _ _)))
theorem wSs_le (w : Wr) (x : SX) : w.1.length ≤ (wSs w x).1.length := Nat.le_trans (wNum_le w _) (Nat.le_trans (wNum_le _ _) (wPos_le _ _ _))
theorem fold_le {α : Type} {f : Wr → α → Wr} (hf : ∀ w x, w.1.length ≤ (f w x).1.length) : ∀ (l : List α) (w : Wr), w.1.length ≤ (l.foldl f w).1.length
  | [], _ => Nat.le_refl _
  | x :: l, w => Nat.le_trans (hf w x) (fold_le hf l (f w x))
theorem fold_take_le {α : Type} {f : Wr → α → Wr} (hf : ∀ w x, w.1.length ≤ (f w x).1.length) (l : List α) (w : Wr) (k : Nat) : ((l.take k).foldl f w).1.length ≤ (l.foldl f w).1.length := by
  conv => rhs; rw [← List.take_append_drop k l, List.foldl_append]
  exact fold_le hf _ _
theorem fold_succ {α : Type} {f : Wr → α → Wr} {l : List α} {k : Nat} {x : α} (h : l[k]? = some x) (w : Wr) : (l.take (k + 1)).foldl f w = f ((l.take k).foldl f w) x := by
  obtain ⟨hk, rfl⟩ := List.getElem?_eq_some_iff.1 h
  rw [List.take_succ_eq_append_getElem hk, List.foldl_append]; rfl
end Go.Proofs.YtnoggejkkjngjaaGreat
/- Package pack: the Writer. Conditions: what is written is far from the kind's edges. -/
set_option maxHeartbeats 8000000
set_option linter.unusedVariables false
set_option linter.unusedSimpArgs false
set_option maxRecDepth 100000
namespace Go.Proofs.YtnoggejkkjngjaaGreat
open Go Go.Sl
attribute [local irreducible] Go.Sl.Wl Go.Sl.Wc Go.Sl.thenQ Go.Sl.blkQ Go.Sl.loopQ Go.Sl.Fspec

def WrL (p : Nat) (w : Wr) (a : Option Addr) (c : Nat) : List Asn :=
  [cb p [.slice a w.1.length c, .bool w.2] 103, own a w.1.length c 1 (w.1.map byteV) 5]
/-- A Writer that has written so far. -/
def WrP (p : Nat) (w : Wr) : Asn := exN fun x : Option Addr × Nat => WrL p w x.1 x.2
theorem fold_wr {p : Nat} {w : Wr} {a : Option Addr} {c : Nat} {X A0 : List Asn} (h : Ent X (WrL p w a c ++ A0)) : Ent X (WrP p w :: A0) :=
  h.trans (Ent.exN_shut (f := fun x : Option Addr × Nat => WrL p w x.1 x.2) (a, c) A0)
theorem byteV_all (l : List UInt8) : (l.map byteV).all isCell = true := by simp [byteV, isCell]
theorem low7 (n : Nat) : Value.int .u8 (((n : Int).tmod 128) + 128) = byteV (UInt8.ofNat (n % 128 + 128)) := by
  have : (UInt8.ofNat (n % 128 + 128)).toNat = n % 128 + 128 := by simp [UInt8.toNat_ofNat']; omega
  unfold byteV; rw [this]
  have : (n : Int).tmod 128 = ((n % 128 : Nat) : Int) := by rw [Int.tmod_eq_emod_of_nonneg (by omega)]; omega
  rw [this]; push_cast; rfl
theorem low7i (n : Nat) : (n : Int).tmod 128 = ((n % 128 : Nat) : Int) := by rw [Int.tmod_eq_emod_of_nonneg (by omega)]; omega
theorem byte_small (n : Nat) (h : n < 128) : Value.int .u8 (n : Int) = byteV (UInt8.ofNat n) := by
  have : (UInt8.ofNat n).toNat = n := by simp [UInt8.toNat_ofNat']; omega
  unfold byteV; rw [this]
theorem quo128 (n : Nat) (h : n ≤ 9007199254740992) : IntKind.i64.wrap ((n : Int).tdiv 128) = ((n / 128 : Nat) : Int) := by
  have : (n : Int).tdiv 128 = ((n / 128 : Nat) : Int) := by rw [Int.tdiv_eq_ediv_of_nonneg (by omega)]; omega
  rw [this]; exact IntWalk.i64_in _ (by omega)
section specs
variable {B : Base}
theorem add_spec (p : Nat) (w : Wr) (l : List UInt8) (a : Option Addr) (m c : Nat) (A0 : List Asn) (h : RdS Tryz.prog B A0 1 a m c (l.map byteV)) (hm : w.1.length + m ≤ 1000000000) :
    Fspec Tryz.prog B 94 #[.pointer (some ⟨p, 0, none⟩), .slice a m c] (WrP p w :: A0) (fun v A' => v = .tuple #[] ∧ A' = WrP p (w.1 ++ l, w.2) :: A0) := by
  have hl : l.length = m := by have := h.len; simpa using this
  obtain ⟨bs, bad⟩ := w
  refine spec_of (args := [_, _]) Tryz.func94 rfl rfl rfl ?_
  refine yE (fun x => ?_)
  obtain ⟨wa, wc⟩ := x
  simp only [WrL] at hm ⊢
  simp only [List.cons_append, List.nil_append]
  repeat' (first
    | refine zh ?_
    | refine zK ?_
    | refine zS (h := ?_)
    | refine zU (h := ?_)
    | refine zi ?_
    | refine zR ?_
    | refine za ?_
    | refine zN ?_
    | refine zY ?_
    | refine zd ?_
    | refine zO ?_
    | refine zZ ?_
    | refine zQ rfl ?_
    | refine ze ?_
    | refine zX ?_
    | refine zP ?_
    | refine zT ?_
    | refine zL ?_
    | (refine zE (id := 0) ?_; intro K hK; refine zD (k := ?_); refine zD (k := ?_); refine zJ (k := ?_); refine zB (k := ?_); refine zM (k := ?_); refine zD (k := ?_); ((refine yL (hsrc := h.tail.tail) (hvc := byteV_all _) (hbd := by omega) (k := ?_); intro oa' oc')) <;> (refine zJ (k := ?_); refine zB (k := ?_); refine zr (ho := rfl) (k := ?_); (refine zF (hK _ _ ?_); clear hK K)))
    | (refine zc (ht := (fun ht => ?_)) (hf := (fun ht => ?_)) <;> (try simp at ht) <;> (try (exfalso; omega))))
  refine ⟨by simp, _, WrP p (bs ++ l, bad) :: A0, fold_wr (a := oa') (c := oc') ?_, res0 rfl, rfl, rfl⟩
  simp only [WrL, List.length_append, hl, List.map_append]
  simp only [List.cons_append, List.nil_append]
  (repeat (first | exact Ent.refl _ | exact Ent.nil | refine Ent.take (by (repeat (first | exact Out.head | apply Out.tail)); (first | done | fail)) ?_ | refine Ent.drop1 ?_))
theorem add1_spec (p : Nat) (w : Wr) (b : UInt8) (r : Nat) (E : TypeId) (hm : w.1.length + 1 ≤ 1000000000) :
    Fspec Tryz.prog B 94 #[.pointer (some ⟨p, 0, none⟩), .slice (some ⟨r, 0, none⟩) 1 1] [WrP p w, cb r [byteV b] E] (fun v A' => v = .tuple #[] ∧ A' = [WrP p (w.1 ++ [b], w.2), cb r [byteV b] E]) :=
  add_spec p w [b] _ 1 1 [cb r [byteV b] E] (rds_sl Rd.head (by simp) (by simp) (by omega)) hm
theorem num_spec (p : Nat) (w : Wr) (n : Int) (hm : (wNum w n).1.length ≤ 900000000) :
    Fspec Tryz.prog B 58 #[.pointer (some ⟨p, 0, none⟩), .int .i64 n] [WrP p w] (fun v A' => v = .tuple #[] ∧ A' = [WrP p (wNum w n)]) := by
  refine spec_of (args := [_, _]) Tryz.func58 rfl rfl rfl ?_
  refine yE (fun x => ?_)
  obtain ⟨wa, wc⟩ := x
  obtain ⟨bs, bad⟩ := w
  simp only [WrL]
  simp only [List.cons_append, List.nil_append]
  by_cases hn : numOk n = false
  · have hno : ¬ (0 ≤ n ∧ n ≤ 9007199254740992) := by unfold numOk at hn; exact of_decide_eq_false hn
    have e : wNum (bs, bad) n = (bs, true) := by unfold wNum; rw [if_pos hn]
    rw [e]
    repeat' (first
      | refine zh ?_
      | refine zK ?_
      | refine zS (h := ?_)
      | refine zU (h := ?_)
      | refine zi ?_
      | refine zR ?_
      | refine za ?_
      | refine zN ?_
      | refine zY ?_
      | refine zd ?_
      | refine zO ?_
      | refine zZ ?_
      | refine zQ rfl ?_
      | refine ze ?_
      | refine zX ?_
      | refine zP ?_
      | refine zT ?_
      | refine zL ?_
      | (refine zE (id := 0) ?_; intro K hK; refine zD (k := ?_); refine zf (k' := ?_); (refine zF (hK _ _ ?_); clear hK K))
      | (refine zE (id := 1) ?_; intro K hK; refine zD (k := ?_); refine z2 (k' := ?_); refine zD (k := ?_); ((first | (refine zA (k := ?_); refine zD (k := ?_)) | refine zC (k := ?_) | ((refine zG (yes := (fun ht => ?_)) (no := (fun ht => ?_)) <;> (try simp at ht) <;> (try (exfalso; omega))) <;> (first | (refine zA (k := ?_); refine zD (k := ?_)) | refine zC (k := ?_))))) <;> (((first | (refine zA (k := ?_); refine zz (k' := ?_)) | refine zC (k := ?_) | ((refine zG (yes := (fun ht => ?_)) (no := (fun ht => ?_)) <;> (try simp at ht) <;> (try (exfalso; omega))) <;> (first | (refine zA (k := ?_); refine zz (k' := ?_)) | refine zC (k := ?_))))) <;> ((first | refine zV (k := ?_) | refine zW (k := ?_) | refine zg (k := ?_)); (refine zF (hK _ _ ?_); clear hK K))))
      | (refine zE (id := 2) ?_; intro K hK; refine zD (k := ?_); refine zJ (k := ?_); refine zB (k := ?_); refine zB (k := ?_); refine zr (ho := rfl) (k := ?_); (refine zF (hK _ _ ?_); clear hK K))
      | (refine zE (id := 3) ?_; intro K hK; refine zD (k := ?_); refine zJ (k := ?_); refine zB (k := ?_); refine zB (k := ?_); refine zM (k := ?_); (refine zF (hK _ _ ?_); clear hK K))
      | (refine zc (ht := (fun ht => ?_)) (hf := (fun ht => ?_)) <;> (try simp at ht) <;> (try (exfalso; omega))))
    all_goals exact ⟨by simp, _, [WrP p (bs, true)], fold_wr (A0 := []) (a := wa) (c := wc) (Ent.refl _), res0 rfl, rfl, rfl⟩
  have hok : 0 ≤ n ∧ n ≤ 9007199254740992 := by
    unfold numOk at hn
    simpa using hn
  cases bad with
  | true =>
    have e : wNum (bs, true) n = (bs, true) := by unfold wNum; rw [if_neg hn, if_pos rfl]
    rw [e]
    repeat' (first
      | refine zh ?_
      | refine zK ?_
      | refine zS (h := ?_)
      | refine zU (h := ?_)
      | refine zi ?_
      | refine zR ?_
      | refine za ?_
      | refine zN ?_
      | refine zY ?_
      | refine zd ?_
      | refine zO ?_
      | refine zZ ?_
      | refine zQ rfl ?_
      | refine ze ?_
      | refine zX ?_
      | refine zP ?_
      | refine zT ?_
      | refine zL ?_
      | (refine zE (id := 0) ?_; intro K hK; refine zD (k := ?_); refine zf (k' := ?_); (refine zF (hK _ _ ?_); clear hK K))
      | (refine zE (id := 1) ?_; intro K hK; refine zD (k := ?_); refine z2 (k' := ?_); refine zD (k := ?_); ((first | (refine zA (k := ?_); refine zD (k := ?_)) | refine zC (k := ?_) | ((refine zG (yes := (fun ht => ?_)) (no := (fun ht => ?_)) <;> (try simp at ht) <;> (try (exfalso; omega))) <;> (first | (refine zA (k := ?_); refine zD (k := ?_)) | refine zC (k := ?_))))) <;> (((first | (refine zA (k := ?_); refine zz (k' := ?_)) | refine zC (k := ?_) | ((refine zG (yes := (fun ht => ?_)) (no := (fun ht => ?_)) <;> (try simp at ht) <;> (try (exfalso; omega))) <;> (first | (refine zA (k := ?_); refine zz (k' := ?_)) | refine zC (k := ?_))))) <;> ((first | refine zV (k := ?_) | refine zW (k := ?_) | refine zg (k := ?_)); (refine zF (hK _ _ ?_); clear hK K))))
      | (refine zE (id := 2) ?_; intro K hK; refine zD (k := ?_); refine zJ (k := ?_); refine zB (k := ?_); refine zB (k := ?_); refine zr (ho := rfl) (k := ?_); (refine zF (hK _ _ ?_); clear hK K))
      | (refine zE (id := 3) ?_; intro K hK; refine zD (k := ?_); refine zJ (k := ?_); refine zB (k := ?_); refine zB (k := ?_); refine zM (k := ?_); (refine zF (hK _ _ ?_); clear hK K))
      | (refine zc (ht := (fun ht => ?_)) (hf := (fun ht => ?_)) <;> (try simp at ht) <;> (try (exfalso; omega))))
    all_goals exact ⟨by simp, _, [WrP p (bs, true)], fold_wr (A0 := []) (a := wa) (c := wc) (Ent.refl _), res0 rfl, rfl, rfl⟩
  | false =>
    obtain ⟨k, rfl⟩ := Int.eq_ofNat_of_zero_le hok.1
    have e : wNum (bs, false) k = (bs ++ encN k, false) := by unfold wNum; rw [if_neg hn, if_neg (by simp)]; rfl
    rw [e] at hm ⊢
    simp only [List.length_append] at hm
    repeat' (first
      | refine zh ?_
      | refine zK ?_
      | refine zS (h := ?_)
      | refine zU (h := ?_)
      | refine zi ?_
      | refine zR ?_
      | refine za ?_
      | refine zN ?_
      | refine zY ?_
      | refine zd ?_
      | refine zO ?_
      | refine zZ ?_
      | refine zQ rfl ?_
      | refine ze ?_
      | refine zX ?_
      | refine zP ?_
      | refine zT ?_
      | refine zL ?_
      | (refine zE (id := 0) ?_; intro K hK; refine zD (k := ?_); refine zf (k' := ?_); (refine zF (hK _ _ ?_); clear hK K))
      | (refine zE (id := 1) ?_; intro K hK; refine zD (k := ?_); refine z2 (k' := ?_); refine zD (k := ?_); ((first | (refine zA (k := ?_); refine zD (k := ?_)) | refine zC (k := ?_) | ((refine zG (yes := (fun ht => ?_)) (no := (fun ht => ?_)) <;> (try simp at ht) <;> (try (exfalso; omega))) <;> (first | (refine zA (k := ?_); refine zD (k := ?_)) | refine zC (k := ?_))))) <;> (((first | (refine zA (k := ?_); refine zz (k' := ?_)) | refine zC (k := ?_) | ((refine zG (yes := (fun ht => ?_)) (no := (fun ht => ?_)) <;> (try simp at ht) <;> (try (exfalso; omega))) <;> (first | (refine zA (k := ?_); refine zz (k' := ?_)) | refine zC (k := ?_))))) <;> ((first | refine zV (k := ?_) | refine zW (k := ?_) | refine zg (k := ?_)); (refine zF (hK _ _ ?_); clear hK K))))
      | (refine zE (id := 2) ?_; intro K hK; refine zD (k := ?_); refine zJ (k := ?_); refine zB (k := ?_); refine zB (k := ?_); refine zr (ho := rfl) (k := ?_); (refine zF (hK _ _ ?_); clear hK K))
      | (refine zE (id := 3) ?_; intro K hK; refine zD (k := ?_); refine zJ (k := ?_); refine zB (k := ?_); refine zB (k := ?_); refine zM (k := ?_); (refine zF (hK _ _ ?_); clear hK K))
      | (refine zc (ht := (fun ht => ?_)) (hf := (fun ht => ?_)) <;> (try simp at ht) <;> (try (exfalso; omega))))
    refine yG (α := List UInt8 × Nat) (fun g => [(0, .pointer (some ⟨p, 0, none⟩)), (1, .int .i64 g.2)]) (fun g => [WrP p (g.1, false)])
      (fun g => g.1 ++ encN g.2 = bs ++ encN k ∧ g.2 ≤ 9007199254740992) (fun g => g.2) (bs, k) ⟨rfl, by show k ≤ _; omega⟩ ⟨rfl, rfl, trivial⟩ (fold_wr (A0 := []) (a := wa) (c := wc) (Ent.refl _)) ?_
    rintro ⟨cs, i⟩ G ⟨h1, h2⟩
    simp only [ov] at h1 h2 ⊢
    have hlen := congrArg List.length h1
    have hpos := encN_pos i
    simp only [List.length_append] at hlen
    by_cases hi : 128 ≤ i
    · rw [encN_big hi] at h1
      repeat' (first
        | refine zh ?_
        | refine zK ?_
        | refine zS (h := ?_)
        | refine zU (h := ?_)
        | refine zi ?_
        | refine zR ?_
        | refine za ?_
        | refine zN ?_
        | refine zY ?_
        | refine zd ?_
        | refine zO ?_
        | refine zZ ?_
        | refine zQ rfl ?_
        | refine ze ?_
        | refine zX ?_
        | refine zP ?_
        | refine zT ?_
        | refine zL ?_
        | (refine zE (id := 4) ?_; intro K hK; refine zD (k := ?_); refine yX (k' := ?_); (refine zF (hK _ _ ?_); clear hK K))
        | (refine zE (id := 5) ?_; intro K hK; refine zD (k := ?_); refine zJ (k := ?_); refine zB (k := ?_); refine zD (k := ?_); ((refine xZ (hb := by decide) (k' := ?_); rw [low7i])) <;> (refine ym (k' := ?_); ((refine zm (k' := ?_); rw [← low7i, low7])) <;> (((refine yT (cs := [byteV (UInt8.ofNat (i % 128 + 128))]) (k := ?_); intro r)) <;> (((refine zb (hs := add1_spec p (cs, false) (UInt8.ofNat (i % 128 + 128)) r _ (by show cs.length + 1 ≤ _; omega)) (k := ?_); rintro v A' ⟨rfl, rfl⟩; simp only [List.cons_append, List.nil_append])) <;> ((refine zF (hK _ _ ?_); clear hK K))))))
        | (refine zE (id := 6) ?_; intro K hK; refine zD (k := ?_); ((refine xW (hb := by decide) (k' := ?_); rw [quo128 _ h2])) <;> (refine zI (k := ?_); (refine zF (hK _ _ ?_); clear hK K)))
        | (refine zc (ht := (fun ht => ?_)) (hf := (fun ht => ?_)) <;> (try simp at ht) <;> (try (exfalso; omega))))
      refine ⟨(cs ++ [UInt8.ofNat (i % 128 + 128)], i / 128), ⟨by simpa using h1, by show i / 128 ≤ _; omega⟩, by show i / 128 < i; omega, ⟨rfl, rfl, trivial⟩, ?_⟩
      (repeat (first | exact Ent.refl _ | exact Ent.nil | refine Ent.take (by (repeat (first | exact Out.head | apply Out.tail)); (first | done | fail)) ?_ | refine Ent.drop1 ?_))
    · rw [encN_small (by omega)] at h1
      repeat' (first
        | refine zh ?_
        | refine zK ?_
        | refine zS (h := ?_)
        | refine zU (h := ?_)
        | refine zi ?_
        | refine zR ?_
        | refine za ?_
        | refine zN ?_
        | refine zY ?_
        | refine zd ?_
        | refine zO ?_
        | refine zZ ?_
        | refine zQ rfl ?_
        | refine ze ?_
        | refine zX ?_
        | refine zP ?_
        | refine zT ?_
        | refine zL ?_
        | (refine zE (id := 4) ?_; intro K hK; refine zD (k := ?_); refine yX (k' := ?_); (refine zF (hK _ _ ?_); clear hK K))
        | (refine zE (id := 7) ?_; intro K hK; refine zD (k := ?_); refine zJ (k := ?_); refine zB (k := ?_); refine zD (k := ?_); ((refine ym (k' := ?_); rw [byte_small _ (by omega)])) <;> (((refine yT (cs := [byteV (UInt8.ofNat i)]) (k := ?_); intro r)) <;> (((refine zb (hs := add1_spec p (cs, false) (UInt8.ofNat i) r _ (by show cs.length + 1 ≤ _; omega)) (k := ?_); rintro v A' ⟨rfl, rfl⟩; simp only [List.cons_append, List.nil_append])) <;> ((refine zF (hK _ _ ?_); clear hK K)))))
        | (refine zc (ht := (fun ht => ?_)) (hf := (fun ht => ?_)) <;> (try simp at ht) <;> (try (exfalso; omega))))
      refine ⟨by simp, _, [WrP p (bs ++ encN k, false)], ?_, res0 rfl, rfl, rfl⟩
      rw [← h1]
      (repeat (first | exact Ent.refl _ | exact Ent.nil | refine Ent.take (by (repeat (first | exact Out.head | apply Out.tail)); (first | done | fail)) ?_ | refine Ent.drop1 ?_))
theorem flag_spec (p : Nat) (w : Wr) (on : Bool) (hm : (wFlag w on).1.length ≤ 900000000) :
    Fspec Tryz.prog B 72 #[.pointer (some ⟨p, 0, none⟩), .bool on] [WrP p w] (fun v A' => v = .tuple #[] ∧ A' = [WrP p (wFlag w on)]) := by
  refine spec_of (args := [_, _]) Tryz.func72 rfl rfl rfl ?_
  cases on
  · repeat' (first
      | refine zh ?_
      | refine zK ?_
      | refine zS (h := ?_)
      | refine zU (h := ?_)
      | refine zi ?_
      | refine zR ?_
      | refine za ?_
      | refine zN ?_
      | refine zY ?_
      | refine zd ?_
      | refine zO ?_
      | refine zZ ?_
      | refine zQ rfl ?_
      | refine ze ?_
      | refine zX ?_
      | refine zP ?_
      | refine zT ?_
      | refine zL ?_
      | (refine zE (id := 0) ?_; intro K hK; refine zD (k := ?_); (refine zF (hK _ _ ?_); clear hK K))
      | (refine zE (id := 1) ?_; intro K hK; refine zD (k := ?_))
      | (refine zE (id := 2) ?_; intro K hK; refine zD (k := ?_); ((refine zb (hs := num_spec p w 0 hm) (k := ?_); rintro v A' ⟨rfl, rfl⟩; simp only [List.cons_append, List.nil_append])) <;> ((refine zF (hK _ _ ?_); clear hK K)))
      | (refine zc (ht := (fun ht => ?_)) (hf := (fun ht => ?_)) <;> (try simp at ht) <;> (try (exfalso; omega))))
    exact ⟨by simp, _, [WrP p (wFlag w false)], Ent.refl _, res0 rfl, rfl, rfl⟩
  · repeat' (first
      | refine zh ?_
      | refine zK ?_
      | refine zS (h := ?_)
      | refine zU (h := ?_)
      | refine zi ?_
      | refine zR ?_
      | refine za ?_
      | refine zN ?_
      | refine zY ?_
      | refine zd ?_
      | refine zO ?_
      | refine zZ ?_
      | refine zQ rfl ?_
      | refine ze ?_
      | refine zX ?_
      | refine zP ?_
      | refine zT ?_
      | refine zL ?_
      | (refine zE (id := 0) ?_; intro K hK; refine zD (k := ?_); (refine zF (hK _ _ ?_); clear hK K))
      | (refine zE (id := 1) ?_; intro K hK; refine zD (k := ?_); ((refine zb (hs := num_spec p w 1 hm) (k := ?_); rintro v A' ⟨rfl, rfl⟩; simp only [List.cons_append, List.nil_append])) <;> ((refine zF (hK _ _ ?_); clear hK K)))
      | (refine zE (id := 2) ?_; intro K hK; refine zD (k := ?_))
      | (refine zc (ht := (fun ht => ?_)) (hf := (fun ht => ?_)) <;> (try simp at ht) <;> (try (exfalso; omega))))
    exact ⟨by simp, _, [WrP p (wFlag w true)], Ent.refl _, res0 rfl, rfl, rfl⟩
theorem wbytes_spec (p : Nat) (bs : List UInt8) (hm : bs.length ≤ 900000000) :
    Fspec Tryz.prog B 62 #[.pointer (some ⟨p, 0, none⟩)] [WrP p (bs, false)]
      (fun v A' => ∃ a c, v = .tuple #[.slice a bs.length c, .int .i64 0] ∧ A' = [own a bs.length c 1 (bs.map byteV) 5, WrP p (bs, false)]) := by
  refine spec_of (args := [_]) Tryz.func62 rfl rfl rfl ?_
  refine yE (fun x => ?_)
  obtain ⟨wa, wc⟩ := x
  simp only [WrL]
  simp only [List.cons_append, List.nil_append]
  refine yP (a := wa) (sz := 1) (h0 := by omega) (h := fun hf => ?_)
  repeat' (first
    | refine zh ?_
    | refine zK ?_
    | refine zS (h := ?_)
    | refine zU (h := ?_)
    | refine zi ?_
    | refine zR ?_
    | refine za ?_
    | refine zN ?_
    | refine zY ?_
    | refine zd ?_
    | refine zO ?_
    | refine zZ ?_
    | refine zQ rfl ?_
    | refine ze ?_
    | refine zX ?_
    | refine zP ?_
    | refine zT ?_
    | refine zL ?_
    | (refine zE (id := 0) ?_; intro K hK; refine zI (k := ?_); refine zI (k := ?_); (refine zF (hK _ _ ?_); clear hK K))
    | (refine zE (id := 1) ?_; intro K hK; refine zD (k := ?_); refine zf (k' := ?_); refine zD (k := ?_); ((first | (refine zA (k := ?_); refine zD (k := ?_)) | refine zC (k := ?_) | ((refine zG (yes := (fun ht => ?_)) (no := (fun ht => ?_)) <;> (try simp at ht) <;> (try (exfalso; omega))) <;> (first | (refine zA (k := ?_); refine zD (k := ?_)) | refine zC (k := ?_))))) <;> (((first | (refine zA (k := ?_); refine zJ (k := ?_)) | refine zC (k := ?_) | ((refine zG (yes := (fun ht => ?_)) (no := (fun ht => ?_)) <;> (try simp at ht) <;> (try (exfalso; omega))) <;> (first | (refine zA (k := ?_); refine zJ (k := ?_)) | refine zC (k := ?_))))) <;> (((first | (refine zA (k := ?_); refine zB (k := ?_)) | refine zC (k := ?_) | ((refine zG (yes := (fun ht => ?_)) (no := (fun ht => ?_)) <;> (try simp at ht) <;> (try (exfalso; omega))) <;> (first | (refine zA (k := ?_); refine zB (k := ?_)) | refine zC (k := ?_))))) <;> (((first | (refine zA (k := ?_); refine zB (k := ?_)) | refine zC (k := ?_) | ((refine zG (yes := (fun ht => ?_)) (no := (fun ht => ?_)) <;> (try simp at ht) <;> (try (exfalso; omega))) <;> (first | (refine zA (k := ?_); refine zB (k := ?_)) | refine zC (k := ?_))))) <;> (((first | (refine zA (k := ?_); refine zM (k := ?_)) | refine zC (k := ?_) | ((refine zG (yes := (fun ht => ?_)) (no := (fun ht => ?_)) <;> (try simp at ht) <;> (try (exfalso; omega))) <;> (first | (refine zA (k := ?_); refine zM (k := ?_)) | refine zC (k := ?_))))) <;> ((first | refine zV (k := ?_) | refine zW (k := ?_) | refine zg (k := ?_)); (refine zF (hK _ _ ?_); clear hK K)))))))
    | (refine zE (id := 2) ?_; intro K hK; refine zI (k := ?_); refine zI (k := ?_); (refine zF (hK _ _ ?_); clear hK K))
    | (refine zE (id := 3) ?_; intro K hK; (refine yR (k := ?_); intro r); refine zD (k := ?_); refine zJ (k := ?_); refine zB (k := ?_); refine zB (k := ?_); refine zM (k := ?_); ((refine yL (hsrc := hf.rd (by (repeat (first | exact Out.head | apply Out.tail)); (first | done | fail))) (hvc := byteV_all _) (hbd := by omega) (k := ?_); intro oa' oc')) <;> (refine zI (k := ?_); refine zI (k := ?_); (refine zF (hK _ _ ?_); clear hK K)))
    | (refine zc (ht := (fun ht => ?_)) (hf := (fun ht => ?_)) <;> (try simp at ht) <;> (try (exfalso; omega))))
  refine ⟨Or.inr rfl, _, [own oa' bs.length oc' 1 (bs.map byteV) 5, WrP p (bs, false)], ?_, res2 rfl rfl rfl, oa', oc', congrArg (fun k => Value.tuple #[.slice oa' k oc', .int .i64 0]) (Nat.zero_add _), rfl⟩
  refine Ent.trans ?_ (Ent.perm (List.Perm.swap ..))
  refine fold_wr (a := wa) (c := wc) ?_
  simp only [WrL, Nat.zero_add]
  simp only [List.cons_append, List.nil_append]
  (repeat (first | exact Ent.refl _ | exact Ent.nil | refine Ent.take (by (repeat (first | exact Out.head | apply Out.tail)); (first | done | fail)) ?_ | refine Ent.drop1 ?_))
theorem text_spec (p : Nat) (w : Wr) (s : ByteArray) (hm : (wText w s).1.length ≤ 900000000) :
    Fspec Tryz.prog B 96 #[.pointer (some ⟨p, 0, none⟩), .string s] [WrP p w] (fun v A' => v = .tuple #[] ∧ A' = [WrP p (wText w s)]) := by
  have hn := wText_le w s
  refine spec_of (args := [_, _]) Tryz.func96 rfl rfl rfl ?_
  obtain ⟨⟨wb, wd⟩, hw2⟩ : ∃ x, wNum w s.size = x := ⟨_, rfl⟩
  have hns := num_spec (B := B) p w s.size (by omega)
  have hsz : s.data.toList.length = s.size := by rw [Array.length_toList]; rfl
  rw [hw2] at hns
  unfold wText at hm ⊢
  rw [hw2] at hm ⊢
  cases wd with
  | true =>
    rw [if_pos rfl]
    repeat' (first
      | refine zh ?_
      | refine zK ?_
      | refine zS (h := ?_)
      | refine zU (h := ?_)
      | refine zi ?_
      | refine zR ?_
      | refine za ?_
      | refine zN ?_
      | refine zY ?_
      | refine zd ?_
      | refine zO ?_
      | refine zZ ?_
      | refine zQ rfl ?_
      | refine ze ?_
      | refine zX ?_
      | refine zP ?_
      | refine zT ?_
      | refine zL ?_
      | (refine zE (id := 0) ?_; intro K hK; refine zD (k := ?_); refine zf (k' := ?_); (refine zF (hK _ _ ?_); clear hK K))
      | (refine zE (id := 1) ?_; intro K hK; refine zD (k := ?_); refine zD (k := ?_); refine zj (k' := ?_); ((refine zb (hs := hns) (k := ?_); rintro v A' ⟨rfl, rfl⟩; simp only [List.cons_append, List.nil_append])) <;> ((refine zF (hK _ _ ?_); clear hK K)))
      | (refine zc (ht := (fun ht => ?_)) (hf := (fun ht => ?_)) <;> (try simp at ht) <;> (try (exfalso; omega))))
    refine yE (fun x => ?_)
    obtain ⟨wa, wc⟩ := x
    simp only [WrL]
    simp only [List.cons_append, List.nil_append]
    repeat' (first
      | refine zh ?_
      | refine zK ?_
      | refine zS (h := ?_)
      | refine zU (h := ?_)
      | refine zi ?_
      | refine zR ?_
      | refine za ?_
      | refine zN ?_
      | refine zY ?_
      | refine zd ?_
      | refine zO ?_
      | refine zZ ?_
      | refine zQ rfl ?_
      | refine ze ?_
      | refine zX ?_
      | refine zP ?_
      | refine zT ?_
      | refine zL ?_
      | (refine zE (id := 2) ?_; intro K hK; refine zD (k := ?_); refine zJ (k := ?_); refine zB (k := ?_); refine zB (k := ?_); refine zM (k := ?_); refine z6 (k' := ?_); (refine zF (hK _ _ ?_); clear hK K))
      | (refine zc (ht := (fun ht => ?_)) (hf := (fun ht => ?_)) <;> (try simp at ht) <;> (try (exfalso; omega))))
    all_goals exact ⟨by simp, _, [WrP p (wb, true)], fold_wr (A0 := []) (a := wa) (c := wc) (Ent.refl _), res0 rfl, rfl, rfl⟩
  | false =>
    rw [if_neg (by simp)] at hm ⊢
    simp only [List.length_append, hsz] at hm
    repeat' (first
      | refine zh ?_
      | refine zK ?_
      | refine zS (h := ?_)
      | refine zU (h := ?_)
      | refine zi ?_
      | refine zR ?_
      | refine za ?_
      | refine zN ?_
      | refine zY ?_
      | refine zd ?_
      | refine zO ?_
      | refine zZ ?_
      | refine zQ rfl ?_
      | refine ze ?_
      | refine zX ?_
      | refine zP ?_
      | refine zT ?_
      | refine zL ?_
      | (refine zE (id := 0) ?_; intro K hK; refine zD (k := ?_); refine zf (k' := ?_); (refine zF (hK _ _ ?_); clear hK K))
      | (refine zE (id := 1) ?_; intro K hK; refine zD (k := ?_); refine zD (k := ?_); refine zj (k' := ?_); ((refine zb (hs := hns) (k := ?_); rintro v A' ⟨rfl, rfl⟩; simp only [List.cons_append, List.nil_append])) <;> ((refine zF (hK _ _ ?_); clear hK K)))
      | (refine zc (ht := (fun ht => ?_)) (hf := (fun ht => ?_)) <;> (try simp at ht) <;> (try (exfalso; omega))))
    refine yE (fun x => ?_)
    obtain ⟨wa, wc⟩ := x
    simp only [WrL]
    simp only [List.cons_append, List.nil_append]
    repeat' (first
      | refine zh ?_
      | refine zK ?_
      | refine zS (h := ?_)
      | refine zU (h := ?_)
      | refine zi ?_
      | refine zR ?_
      | refine za ?_
      | refine zN ?_
      | refine zY ?_
      | refine zd ?_
      | refine zO ?_
      | refine zZ ?_
      | refine zQ rfl ?_
      | refine ze ?_
      | refine zX ?_
      | refine zP ?_
      | refine zT ?_
      | refine zL ?_
      | (refine zE (id := 2) ?_; intro K hK; refine zD (k := ?_); refine zJ (k := ?_); refine zB (k := ?_); refine zB (k := ?_); refine zM (k := ?_); refine z6 (k' := ?_); (refine zF (hK _ _ ?_); clear hK K))
      | (refine xG (id := 3) ([1000020]) ?_; intro K hK; refine zD (k := ?_); refine zJ (k := ?_); refine zB (k := ?_); refine zD (k := ?_); ((refine yz (k := ?_); intro r cap zs hcap hzs)) <;> (((refine yF (A' := [WrP p (wb, false), pt r (.cells (s.data.toList.map byteV ++ zs).toArray 5 (cap, cap + 1))]) (fold_wr (A0 := [pt r (.cells (s.data.toList.map byteV ++ zs).toArray 5 (cap, cap + 1))]) (a := wa) (c := wc) (by simp only [WrL]; simp only [List.cons_append, List.nil_append]; (repeat (first | exact Ent.refl _ | exact Ent.nil | refine Ent.take (by (repeat (first | exact Out.head | apply Out.tail)); (first | done | fail)) ?_ | refine Ent.drop1 ?_)))) ?_; refine zb (hs := add_spec p (wb, false) s.data.toList (some ⟨r, 0, none⟩) s.size cap [pt r (.cells (s.data.toList.map byteV ++ zs).toArray 5 (cap, cap + 1))] (rds_sl Rd.head (by simp [hsz]) (by rw [List.drop_zero, List.take_left' (by rw [List.length_map, hsz, Nat.mul_one])]) hcap) (by show wb.length + s.size ≤ _; omega)) (k := ?_); rintro v A' ⟨rfl, rfl⟩; simp only [List.cons_append, List.nil_append])) <;> ((refine zF (hK _ _ ?_); clear hK K))))
      | (refine zc (ht := (fun ht => ?_)) (hf := (fun ht => ?_)) <;> (try simp at ht) <;> (try (exfalso; omega))))
    exact ⟨by simp, _, [WrP p (wb ++ s.data.toList, false)], (by (repeat (first | exact Ent.refl _ | exact Ent.nil | refine Ent.take (by (repeat (first | exact Out.head | apply Out.tail)); (first | done | fail)) ?_ | refine Ent.drop1 ?_))), res0 rfl, rfl, rfl⟩
theorem putPos_spec (p : Nat) (w : Wr) (e i : Int) (hm : (wPos w e i).1.length ≤ 900000000) :
    Fspec Tryz.prog B 95 #[.pointer (some ⟨p, 0, none⟩), .agg #[.int .i64 e, .int .i64 i]] [WrP p w] (fun v A' => v = .tuple #[] ∧ A' = [WrP p (wPos w e i)]) := by
  have h1 := wNum_le (wNum w e) i
  unfold wPos at hm ⊢
  refine spec_of (args := [_, _]) Tryz.func95 rfl rfl rfl ?_
  repeat' (first
    | refine zh ?_
    | refine zK ?_
    | refine zS (h := ?_)
    | refine zU (h := ?_)
    | refine zi ?_
    | refine zR ?_
    | refine za ?_
    | refine zN ?_
    | refine zY ?_
    | refine zd ?_
    | refine zO ?_
    | refine zZ ?_
    | refine zQ rfl ?_
    | refine ze ?_
    | refine zX ?_
    | refine zP ?_
    | refine zT ?_
    | refine zL ?_
    | (refine zE (id := 0) ?_; intro K hK; ((refine zw (k := ?_); intro r3)) <;> ((refine zF (hK _ _ ?_); clear hK K)))
    | (refine zE (id := 1) ?_; intro K hK; refine zD (k := ?_); refine zB (k := ?_); refine zM (k := ?_); ((refine zb (hs := num_spec p w e (by omega)) (k := ?_); rintro v A' ⟨rfl, rfl⟩; simp only [List.cons_append, List.nil_append])) <;> ((refine zF (hK _ _ ?_); clear hK K)))
    | (refine zE (id := 2) ?_; intro K hK; refine zD (k := ?_); refine zB (k := ?_); refine zM (k := ?_); ((refine zb (hs := num_spec p (wNum w e) i (by omega)) (k := ?_); rintro v A' ⟨rfl, rfl⟩; simp only [List.cons_append, List.nil_append])) <;> ((refine zF (hK _ _ ?_); clear hK K)))
    | (refine zc (ht := (fun ht => ?_)) (hf := (fun ht => ?_)) <;> (try simp at ht) <;> (try (exfalso; omega))))
  exact ⟨by simp, _, [WrP p (wNum (wNum w e) i)], (by (repeat (first | exact Ent.refl _ | exact Ent.nil | refine Ent.take (by (repeat (first | exact Out.head | apply Out.tail)); (first | done | fail)) ?_ | refine Ent.drop1 ?_))), res0 rfl, rfl, rfl⟩
theorem putEpoch_spec (p : Nat) (w : Wr) (e : Ep) (hm : (wEp w e).1.length ≤ 900000000) :
    Fspec Tryz.prog B 60 #[.pointer (some ⟨p, 0, none⟩), .agg (epC e).toArray] [WrP p w] (fun v A' => v = .tuple #[] ∧ A' = [WrP p (wEp w e)]) := by
  have h1 := wNum_le (wNum w e.master) e.cut
  have h2 := wFlag_le (wNum (wNum w e.master) e.cut) e.forced
  unfold wEp at hm ⊢
  refine spec_of (args := [_, _]) Tryz.func60 rfl rfl rfl ?_
  repeat' (first
    | refine zh ?_
    | refine zK ?_
    | refine zS (h := ?_)
    | refine zU (h := ?_)
    | refine zi ?_
    | refine zR ?_
    | refine za ?_
    | refine zN ?_
    | refine zY ?_
    | refine zd ?_
    | refine zO ?_
    | refine zZ ?_
    | refine zQ rfl ?_
    | refine ze ?_
    | refine zX ?_
    | refine zP ?_
    | refine zT ?_
    | refine zL ?_
    | (refine zE (id := 0) ?_; intro K hK; ((refine zw (l := epC e) (k := ?_); intro r3; simp only [epC])) <;> ((refine zF (hK _ _ ?_); clear hK K)))
    | (refine zE (id := 1) ?_; intro K hK; refine zD (k := ?_); refine zB (k := ?_); refine zM (k := ?_); ((refine zb (hs := num_spec p w e.master (by omega)) (k := ?_); rintro v A' ⟨rfl, rfl⟩; simp only [List.cons_append, List.nil_append])) <;> ((refine zF (hK _ _ ?_); clear hK K)))
    | (refine zE (id := 2) ?_; intro K hK; refine zD (k := ?_); refine zB (k := ?_); refine zM (k := ?_); ((refine zb (hs := num_spec p (wNum w e.master) e.cut (by omega)) (k := ?_); rintro v A' ⟨rfl, rfl⟩; simp only [List.cons_append, List.nil_append])) <;> ((refine zF (hK _ _ ?_); clear hK K)))
    | (refine zE (id := 3) ?_; intro K hK; refine zD (k := ?_); refine zB (k := ?_); refine zM (k := ?_); ((refine zb (hs := flag_spec p (wNum (wNum w e.master) e.cut) e.forced hm) (k := ?_); rintro v A' ⟨rfl, rfl⟩; simp only [List.cons_append, List.nil_append])) <;> ((refine zF (hK _ _ ?_); clear hK K)))
    | (refine zc (ht := (fun ht => ?_)) (hf := (fun ht => ?_)) <;> (try simp at ht) <;> (try (exfalso; omega))))
  exact ⟨by simp, _, [WrP p (wFlag (wNum (wNum w e.master) e.cut) e.forced)], (by (repeat (first | exact Ent.refl _ | exact Ent.nil | refine Ent.take (by (repeat (first | exact Out.head | apply Out.tail)); (first | done | fail)) ?_ | refine Ent.drop1 ?_))), res0 rfl, rfl, rfl⟩
theorem putEntry_spec (p : Nat) (w : Wr) (x : EnX) (hm : (wEnt w x).1.length ≤ 900000000) :
    Fspec Tryz.prog B 59 #[.pointer (some ⟨p, 0, none⟩), .agg x.c.toArray] [WrP p w] (fun v A' => v = .tuple #[] ∧ A' = [WrP p (wEnt w x)]) := by
  obtain ⟨w1, e1⟩ : ∃ q, wPos w x.e x.i = q := ⟨_, rfl⟩
  obtain ⟨w2, e2⟩ : ∃ q, wNum w1 x.s = q := ⟨_, rfl⟩
  obtain ⟨w3, e3⟩ : ∃ q, wNum w2 x.r = q := ⟨_, rfl⟩
  obtain ⟨w4, e4⟩ : ∃ q, wText w3 x.key = q := ⟨_, rfl⟩
  obtain ⟨w5, e5⟩ : ∃ q, wFlag w4 x.del = q := ⟨_, rfl⟩
  have l2 := wNum_le w1 x.s
  have l3 := wNum_le w2 x.r
  have l4 := wText_le0 w3 x.key
  have l5 := wFlag_le w4 x.del
  have l6 := wText_le0 w5 x.tx
  have h1 := putPos_spec (B := B) p w x.e x.i
  have h2 := num_spec (B := B) p w1 x.s
  have h3 := num_spec (B := B) p w2 x.r
  have h4 := text_spec (B := B) p w3 x.key
  have h5 := flag_spec (B := B) p w4 x.del
  have h6 := text_spec (B := B) p w5 x.tx
  unfold wEnt at hm ⊢
  rw [e1, e2, e3, e4, e5] at hm ⊢
  rw [e2] at l2 h2
  rw [e3] at l3 h3
  rw [e4] at l4 h4
  rw [e5] at l5 h5
  rw [e1] at h1
  refine spec_of (args := [_, _]) Tryz.func59 rfl rfl rfl ?_
  repeat' (first
    | refine zh ?_
    | refine zK ?_
    | refine zS (h := ?_)
    | refine zU (h := ?_)
    | refine zi ?_
    | refine zR ?_
    | refine za ?_
    | refine zN ?_
    | refine zY ?_
    | refine zd ?_
    | refine zO ?_
    | refine zZ ?_
    | refine zQ rfl ?_
    | refine ze ?_
    | refine zX ?_
    | refine zP ?_
    | refine zT ?_
    | refine zL ?_
    | (refine zE (id := 0) ?_; intro K hK; ((refine zw (l := x.c) (k := ?_); intro r3; simp only [EnX.c])) <;> ((refine zF (hK _ _ ?_); clear hK K)))
    | (refine zE (id := 1) ?_; intro K hK; refine zD (k := ?_); refine zB (k := ?_); refine zn (k := ?_); ((refine zb (hs := h1 (by omega)) (k := ?_); rintro v A' ⟨rfl, rfl⟩; simp only [List.cons_append, List.nil_append])) <;> ((refine zF (hK _ _ ?_); clear hK K)))
    | (refine zE (id := 2) ?_; intro K hK; refine zD (k := ?_); refine zB (k := ?_); refine zM (k := ?_); ((refine zb (hs := h2 (by omega)) (k := ?_); rintro v A' ⟨rfl, rfl⟩; simp only [List.cons_append, List.nil_append])) <;> ((refine zF (hK _ _ ?_); clear hK K)))
    | (refine zE (id := 3) ?_; intro K hK; refine zD (k := ?_); refine zB (k := ?_); refine zM (k := ?_); ((refine zb (hs := h3 (by omega)) (k := ?_); rintro v A' ⟨rfl, rfl⟩; simp only [List.cons_append, List.nil_append])) <;> ((refine zF (hK _ _ ?_); clear hK K)))
    | (refine zE (id := 4) ?_; intro K hK; refine zD (k := ?_); refine zB (k := ?_); refine zM (k := ?_); ((refine zb (hs := h4 (by omega)) (k := ?_); rintro v A' ⟨rfl, rfl⟩; simp only [List.cons_append, List.nil_append])) <;> ((refine zF (hK _ _ ?_); clear hK K)))
    | (refine zE (id := 5) ?_; intro K hK; refine zD (k := ?_); refine zB (k := ?_); refine zM (k := ?_); ((refine zb (hs := h5 (by omega)) (k := ?_); rintro v A' ⟨rfl, rfl⟩; simp only [List.cons_append, List.nil_append])) <;> ((refine zF (hK _ _ ?_); clear hK K)))
    | (refine zE (id := 6) ?_; intro K hK; refine zD (k := ?_); refine zB (k := ?_); refine zM (k := ?_); ((refine zb (hs := h6 (by omega)) (k := ?_); rintro v A' ⟨rfl, rfl⟩; simp only [List.cons_append, List.nil_append])) <;> ((refine zF (hK _ _ ?_); clear hK K)))
    | (refine zc (ht := (fun ht => ?_)) (hf := (fun ht => ?_)) <;> (try simp at ht) <;> (try (exfalso; omega))))
  exact ⟨by simp, _, [WrP p (wText w5 x.tx)], (by (repeat (first | exact Ent.refl _ | exact Ent.nil | refine Ent.take (by (repeat (first | exact Out.head | apply Out.tail)); (first | done | fail)) ?_ | refine Ent.drop1 ?_))), res0 rfl, rfl, rfl⟩
theorem putSnap1_spec (X : Asn) (p : Nat) (w : Wr) (b : SnX) (hps : b.ps.length ≤ 900000000) (hss : b.ss.length ≤ 900000000) (pa : Option Addr) (pc : Nat) (sa : Option Addr) (sc : Nat)
    (h1 : RdS Tryz.prog B [X] 5 pa b.ps.length pc (prC b.ps)) (h2 : RdS Tryz.prog B [X] 4 sa b.ss.length sc (ssC b.ss)) (hm : (wSnap w b).1.length ≤ 900000000) :
    Fspec Tryz.prog B 61 #[.pointer (some ⟨p, 0, none⟩), .agg #[.int .i64 b.e, .int .i64 b.i, .slice pa b.ps.length pc, .slice sa b.ss.length sc]] [WrP p w, X] (fun v A' => v = .tuple #[] ∧ A' = [WrP p (wSnap w b), X]) := by
  obtain ⟨w1, e1⟩ : ∃ q, wPos w b.e b.i = q := ⟨_, rfl⟩
  obtain ⟨w2, e2⟩ : ∃ q, wNum w1 (b.ps.length : Nat) = q := ⟨_, rfl⟩
  obtain ⟨w3, e3⟩ : ∃ q, b.ps.foldl wPr w2 = q := ⟨_, rfl⟩
  obtain ⟨w4, e4⟩ : ∃ q, wNum w3 (b.ss.length : Nat) = q := ⟨_, rfl⟩
  have l1 := wNum_le w1 (b.ps.length : Nat)
  have l2 := fold_le wPr_le b.ps w2
  have l3 := wNum_le w3 (b.ss.length : Nat)
  have l4 := fold_le wSs_le b.ss w4
  have k1 := fold_take_le wPr_le b.ps w2
  have k2 := fold_take_le wSs_le b.ss w4
  have g1 := putPos_spec (B := B) p w b.e b.i
  have g2 := num_spec (B := B) p w1 (b.ps.length : Nat)
  have g4 := num_spec (B := B) p w3 (b.ss.length : Nat)
  unfold wSnap at hm ⊢
  rw [e1, e2, e3, e4] at hm ⊢
  rw [e2] at l1 g2
  rw [e3] at l2 k1
  rw [e4] at l3 g4
  rw [e1] at g1
  refine spec_of (args := [_, _]) Tryz.func61 rfl rfl rfl ?_
  repeat' (first
    | refine zh ?_
    | refine zK ?_
    | refine zS (h := ?_)
    | refine zU (h := ?_)
    | refine zi ?_
    | refine zR ?_
    | refine za ?_
    | refine zN ?_
    | refine zY ?_
    | refine zd ?_
    | refine zO ?_
    | refine zZ ?_
    | refine zQ rfl ?_
    | refine ze ?_
    | refine zX ?_
    | refine zP ?_
    | refine zT ?_
    | refine zL ?_
    | (refine zE (id := 0) ?_; intro K hK; ((refine zw (k := ?_); intro r3)) <;> ((refine zF (hK _ _ ?_); clear hK K)))
    | (refine zE (id := 1) ?_; intro K hK; refine zD (k := ?_); refine zB (k := ?_); refine zn (k := ?_); ((refine zb (hs := g1 (by omega)) (k := ?_); rintro v A' ⟨rfl, rfl⟩; simp only [List.cons_append, List.nil_append])) <;> ((refine zF (hK _ _ ?_); clear hK K)))
    | (refine zE (id := 2) ?_; intro K hK; refine zD (k := ?_); refine zB (k := ?_); refine zM (k := ?_); refine zk (k' := ?_); ((refine zb (hs := g2 (by omega)) (k := ?_); rintro v A' ⟨rfl, rfl⟩; simp only [List.cons_append, List.nil_append])) <;> ((refine zF (hK _ _ ?_); clear hK K)))
    | (refine zE (id := 3) ?_; intro K hK; refine zB (k := ?_); refine zM (k := ?_); refine zk (k' := ?_); refine zD (k := ?_); (refine zF (hK _ _ ?_); clear hK K))
    | (refine zc (ht := (fun ht => ?_)) (hf := (fun ht => ?_)) <;> (try simp at ht) <;> (try (exfalso; omega))))
  refine yG (α := Nat) (fun j => [(0, .pointer (some ⟨p, 0, none⟩)), (3, .pointer (some ⟨r3, 0, none⟩)), (18, .slice pa b.ps.length pc), (19, .int .i64 b.ps.length), (20, .int .i64 j)])
    (fun j => [WrP p ((b.ps.take j).foldl wPr w2), cb r3 [.int .i64 b.e, .int .i64 b.i, .slice pa b.ps.length pc, .slice sa b.ss.length sc] 37, X]) (fun j => j ≤ b.ps.length) (fun j => b.ps.length - j) 0 (by omega) ⟨rfl, rfl, rfl, rfl, rfl, trivial⟩ (by (repeat (first | exact Ent.refl _ | exact Ent.nil | refine Ent.take (by (repeat (first | exact Out.head | apply Out.tail)); (first | done | fail)) ?_ | refine Ent.drop1 ?_))) ?_
  intro j G hj
  simp only [ov]
  by_cases hlt : j < b.ps.length
  · obtain ⟨q, rfl⟩ : ∃ q, pa = some q := by
      cases pa with
      | none => have := h1.nil rfl; omega
      | some q => exact ⟨q, rfl⟩
    obtain ⟨x, hx⟩ : ∃ x, b.ps[j]? = some x := ⟨_, List.getElem?_eq_getElem hlt⟩
    have hsx := fold_succ (f := wPr) hx w2
    have hk := k1 (j + 1)
    obtain ⟨v0, ev0⟩ : ∃ q, (b.ps.take j).foldl wPr w2 = q := ⟨_, rfl⟩
    rw [ev0] at hsx ⊢
    rw [hsx] at hk
    rw [show wPr v0 x = wText (wFlag (wPos (wText v0 x.k) x.v.a x.v.b) x.v.c) x.v.d from rfl] at hk hsx
    obtain ⟨v1, ev1⟩ : ∃ q, wText v0 x.k = q := ⟨_, rfl⟩
    obtain ⟨v2, ev2⟩ : ∃ q, wPos v1 x.v.a x.v.b = q := ⟨_, rfl⟩
    obtain ⟨v3, ev3⟩ : ∃ q, wFlag v2 x.v.c = q := ⟨_, rfl⟩
    have m2 := wPos_le v1 x.v.a x.v.b
    have m3 := wFlag_le v2 x.v.c
    have m4 := wText_le0 v3 x.v.d
    have f1 := text_spec (B := B) p v0 x.k
    have f2 := putPos_spec (B := B) p v1 x.v.a x.v.b
    have f3 := flag_spec (B := B) p v2 x.v.c
    have f4 := text_spec (B := B) p v3 x.v.d
    rw [ev1, ev2, ev3] at hk hsx
    rw [ev1] at f1
    rw [ev2] at m2 f2
    rw [ev3] at m3 f3
    repeat' (first
      | refine zh ?_
      | refine zK ?_
      | refine zS (h := ?_)
      | refine zU (h := ?_)
      | refine zi ?_
      | refine zR ?_
      | refine za ?_
      | refine zN ?_
      | refine zY ?_
      | refine zd ?_
      | refine zO ?_
      | refine zZ ?_
      | refine zQ rfl ?_
      | refine ze ?_
      | refine zX ?_
      | refine zP ?_
      | refine zT ?_
      | refine zL ?_
      | (refine zE (id := 4) ?_; intro K hK; refine z2 (k' := ?_); (refine zF (hK _ _ ?_); clear hK K))
      | (refine zE (id := 5) ?_; intro K hK; ((refine zo (k' := ?_))) <;> (((refine z8 (j := j * 5) (cs := x.c) (hq := by simp) (hr := RdS.under (RdS.under h1)) (hv := prC_row hx) (k := ?_))) <;> (((refine zy (k := ?_); intro r5)) <;> (refine zl (ho' := rfl) (k := ?_); (refine zF (hK _ _ ?_); clear hK K)))))
      | (refine zE (id := 6) ?_; intro K hK; refine zD (k := ?_); refine zB (k := ?_); refine zM (k := ?_); ((refine zb (hs := f1 (by omega)) (k := ?_); rintro v A' ⟨rfl, rfl⟩; simp only [List.cons_append, List.nil_append])) <;> ((refine zF (hK _ _ ?_); clear hK K)))
      | (refine zE (id := 7) ?_; intro K hK; refine zD (k := ?_); refine zB (k := ?_); refine zB (k := ?_); refine zn (k := ?_); ((refine zb (hs := f2 (by omega)) (k := ?_); rintro v A' ⟨rfl, rfl⟩; simp only [List.cons_append, List.nil_append])) <;> ((refine zF (hK _ _ ?_); clear hK K)))
      | (refine zE (id := 8) ?_; intro K hK; refine zD (k := ?_); refine zB (k := ?_); refine zB (k := ?_); refine zM (k := ?_); ((refine zb (hs := f3 (by omega)) (k := ?_); rintro v A' ⟨rfl, rfl⟩; simp only [List.cons_append, List.nil_append])) <;> ((refine zF (hK _ _ ?_); clear hK K)))
      | (refine zE (id := 9) ?_; intro K hK; refine zD (k := ?_); refine zB (k := ?_); refine zB (k := ?_); refine zM (k := ?_); ((refine zb (hs := f4 (by omega)) (k := ?_); rintro v A' ⟨rfl, rfl⟩; simp only [List.cons_append, List.nil_append])) <;> ((refine zF (hK _ _ ?_); clear hK K)))
      | (refine zE (id := 10) ?_; intro K hK; refine zm (k' := ?_); refine zD (k := ?_); (refine zF (hK _ _ ?_); clear hK K))
      | (refine zc (ht := (fun ht => ?_)) (hf := (fun ht => ?_)) <;> (try simp at ht) <;> (try (exfalso; omega))))
    exact ⟨j + 1, by omega, by omega, ⟨rfl, rfl, rfl, rfl, int_succ j, trivial⟩, by rw [hsx]; (repeat (first | exact Ent.refl _ | exact Ent.nil | refine Ent.take (by (repeat (first | exact Out.head | apply Out.tail)); (first | done | fail)) ?_ | refine Ent.drop1 ?_))⟩
  obtain rfl : j = b.ps.length := by omega
  rw [List.take_length, e3]
  repeat' (first
    | refine zh ?_
    | refine zK ?_
    | refine zS (h := ?_)
    | refine zU (h := ?_)
    | refine zi ?_
    | refine zR ?_
    | refine za ?_
    | refine zN ?_
    | refine zY ?_
    | refine zd ?_
    | refine zO ?_
    | refine zZ ?_
    | refine zQ rfl ?_
    | refine ze ?_
    | refine zX ?_
    | refine zP ?_
    | refine zT ?_
    | refine zL ?_
    | (refine zE (id := 4) ?_; intro K hK; refine z2 (k' := ?_); (refine zF (hK _ _ ?_); clear hK K))
    | (refine zE (id := 11) ?_; intro K hK; refine zD (k := ?_); refine zB (k := ?_); refine zM (k := ?_); refine zk (k' := ?_); ((refine zb (hs := g4 (by omega)) (k := ?_); rintro v A' ⟨rfl, rfl⟩; simp only [List.cons_append, List.nil_append])) <;> ((refine zF (hK _ _ ?_); clear hK K)))
    | (refine zE (id := 12) ?_; intro K hK; refine zB (k := ?_); refine zM (k := ?_); refine zk (k' := ?_); refine zD (k := ?_); (refine zF (hK _ _ ?_); clear hK K))
    | (refine zc (ht := (fun ht => ?_)) (hf := (fun ht => ?_)) <;> (try simp at ht) <;> (try (exfalso; omega))))
  refine yG (α := Nat) (fun j => [(0, .pointer (some ⟨p, 0, none⟩)), (3, .pointer (some ⟨r3, 0, none⟩)), (50, .slice sa b.ss.length sc), (51, .int .i64 b.ss.length), (52, .int .i64 j)])
    (fun j => [WrP p ((b.ss.take j).foldl wSs w4), cb r3 [.int .i64 b.e, .int .i64 b.i, .slice pa b.ps.length pc, .slice sa b.ss.length sc] 37, X]) (fun j => j ≤ b.ss.length) (fun j => b.ss.length - j) 0 (by omega) ⟨rfl, rfl, rfl, rfl, rfl, trivial⟩ (by (repeat (first | exact Ent.refl _ | exact Ent.nil | refine Ent.take (by (repeat (first | exact Out.head | apply Out.tail)); (first | done | fail)) ?_ | refine Ent.drop1 ?_))) ?_
  intro j G hj
  simp only [ov]
  by_cases hlt : j < b.ss.length
  · obtain ⟨q, rfl⟩ : ∃ q, sa = some q := by
      cases sa with
      | none => have := h2.nil rfl; omega
      | some q => exact ⟨q, rfl⟩
    obtain ⟨x, hx⟩ : ∃ x, b.ss[j]? = some x := ⟨_, List.getElem?_eq_getElem hlt⟩
    have hsx := fold_succ (f := wSs) hx w4
    have hk := k2 (j + 1)
    obtain ⟨v0, ev0⟩ : ∃ q, (b.ss.take j).foldl wSs w4 = q := ⟨_, rfl⟩
    rw [ev0] at hsx ⊢
    rw [hsx] at hk
    rw [show wSs v0 x = wPos (wNum (wNum v0 x.s) x.r) x.e x.i from rfl] at hk hsx
    obtain ⟨v1, ev1⟩ : ∃ q, wNum v0 x.s = q := ⟨_, rfl⟩
    obtain ⟨v2, ev2⟩ : ∃ q, wNum v1 x.r = q := ⟨_, rfl⟩
    have m2 := wNum_le v1 x.r
    have m3 := wPos_le v2 x.e x.i
    have f1 := num_spec (B := B) p v0 x.s
    have f2 := num_spec (B := B) p v1 x.r
    have f3 := putPos_spec (B := B) p v2 x.e x.i
    rw [ev1, ev2] at hk hsx
    rw [ev1] at f1
    rw [ev2] at m2 f2
    repeat' (first
      | refine zh ?_
      | refine zK ?_
      | refine zS (h := ?_)
      | refine zU (h := ?_)
      | refine zi ?_
      | refine zR ?_
      | refine za ?_
      | refine zN ?_
      | refine zY ?_
      | refine zd ?_
      | refine zO ?_
      | refine zZ ?_
      | refine zQ rfl ?_
      | refine ze ?_
      | refine zX ?_
      | refine zP ?_
      | refine zT ?_
      | refine zL ?_
      | (refine zE (id := 13) ?_; intro K hK; refine z2 (k' := ?_); (refine zF (hK _ _ ?_); clear hK K))
      | (refine zE (id := 14) ?_; intro K hK; ((refine zo (k' := ?_))) <;> (((refine z8 (j := j * 4) (cs := x.c) (hq := by simp) (hr := RdS.under (RdS.under h2)) (hv := ssC_row hx) (k := ?_))) <;> (((refine zy (k := ?_); intro r7)) <;> (refine zl (ho' := rfl) (k := ?_); (refine zF (hK _ _ ?_); clear hK K)))))
      | (refine zE (id := 15) ?_; intro K hK; refine zD (k := ?_); refine zB (k := ?_); refine zM (k := ?_); ((refine zb (hs := f1 (by omega)) (k := ?_); rintro v A' ⟨rfl, rfl⟩; simp only [List.cons_append, List.nil_append])) <;> ((refine zF (hK _ _ ?_); clear hK K)))
      | (refine zE (id := 16) ?_; intro K hK; refine zD (k := ?_); refine zB (k := ?_); refine zM (k := ?_); ((refine zb (hs := f2 (by omega)) (k := ?_); rintro v A' ⟨rfl, rfl⟩; simp only [List.cons_append, List.nil_append])) <;> ((refine zF (hK _ _ ?_); clear hK K)))
      | (refine zE (id := 17) ?_; intro K hK; refine zD (k := ?_); refine zB (k := ?_); refine zn (k := ?_); ((refine zb (hs := f3 (by omega)) (k := ?_); rintro v A' ⟨rfl, rfl⟩; simp only [List.cons_append, List.nil_append])) <;> ((refine zF (hK _ _ ?_); clear hK K)))
      | (refine zE (id := 18) ?_; intro K hK; refine zm (k' := ?_); refine zD (k := ?_); (refine zF (hK _ _ ?_); clear hK K))
      | (refine zc (ht := (fun ht => ?_)) (hf := (fun ht => ?_)) <;> (try simp at ht) <;> (try (exfalso; omega))))
    exact ⟨j + 1, by omega, by omega, ⟨rfl, rfl, rfl, rfl, int_succ j, trivial⟩, by rw [hsx]; (repeat (first | exact Ent.refl _ | exact Ent.nil | refine Ent.take (by (repeat (first | exact Out.head | apply Out.tail)); (first | done | fail)) ?_ | refine Ent.drop1 ?_))⟩
  obtain rfl : j = b.ss.length := by omega
  rw [List.take_length]
  repeat' (first
    | refine zh ?_
    | refine zK ?_
    | refine zS (h := ?_)
    | refine zU (h := ?_)
    | refine zi ?_
    | refine zR ?_
    | refine za ?_
    | refine zN ?_
    | refine zY ?_
    | refine zd ?_
    | refine zO ?_
    | refine zZ ?_
    | refine zQ rfl ?_
    | refine ze ?_
    | refine zX ?_
    | refine zP ?_
    | refine zT ?_
    | refine zL ?_
    | (refine zE (id := 13) ?_; intro K hK; refine z2 (k' := ?_); (refine zF (hK _ _ ?_); clear hK K))
    | (refine zc (ht := (fun ht => ?_)) (hf := (fun ht => ?_)) <;> (try simp at ht) <;> (try (exfalso; omega))))
  exact ⟨by simp, _, [WrP p (b.ss.foldl wSs w4), X], (by (repeat (first | exact Ent.refl _ | exact Ent.nil | refine Ent.take (by (repeat (first | exact Out.head | apply Out.tail)); (first | done | fail)) ?_ | refine Ent.drop1 ?_))), res0 rfl, rfl, rfl⟩
end specs
end Go.Proofs.YtnoggejkkjngjaaGreat
/- Package pack: the Reader, whatever bytes it reads. Conditions: the bytes are few. -/
set_option maxHeartbeats 8000000
set_option linter.unusedVariables false
set_option linter.unusedSimpArgs false
set_option maxRecDepth 100000
namespace Go.Proofs.YtnoggejkkjngjaaGreat
open Go Go.Sl
attribute [local irreducible] Go.Sl.Wl Go.Sl.Wc Go.Sl.thenQ Go.Sl.blkQ Go.Sl.loopQ Go.Sl.Fspec

/-- What a Reader has: the bytes ahead, whether it is spoilt. -/
abbrev Rr := List UInt8 × Bool
def rNext : Rr → Option UInt8 × Rr
  | (b :: l, false) => (some b, (l, false))
  | (l, _) => (none, (l, true))
def rNumL : Nat → Nat → Nat → Rr → Nat × Rr
  | 0, _, _, r => (0, (r.1, true))
  | f + 1, i, acc, r => match rNext r with
    | (none, r2) => (0, r2)
    | (some b, r2) => if b.toNat < 128 then (if (b.toNat = 0 ∧ 0 < i) ∨ 9007199254740992 < acc + b.toNat * 128 ^ i then (0, (r2.1, true)) else (acc + b.toNat * 128 ^ i, r2)) else rNumL f (i + 1) (acc + b.toNat % 128 * 128 ^ i) r2
def rNum (r : Rr) : Nat × Rr := rNumL 8 0 0 r
def rFlag (r : Rr) : Bool × Rr := match rNext r with
  | (none, r2) => (false, r2)
  | (some b, r2) => (decide (b.toNat = 1), (r2.1, decide (1 < b.toNat)))
def rText (r : Rr) (most : Int) : List UInt8 × Rr :=
  if (rNum r).2.2 = true ∨ most < ((rNum r).1 : Int) ∨ (rNum r).2.1.length < (rNum r).1 then ([], ((rNum r).2.1, true)) else ((rNum r).2.1.take (rNum r).1, ((rNum r).2.1.drop (rNum r).1, false))
def rCount (r : Rr) (most : Int) : Nat × Rr := if most < ((rNum r).1 : Int) then (0, ((rNum r).2.1, true)) else rNum r
theorem rNext_le (r : Rr) : (rNext r).2.1.length ≤ r.1.length := by
  unfold rNext; split <;> simp
theorem rNumL_le : ∀ (f i acc : Nat) (r : Rr), (rNumL f i acc r).2.1.length ≤ r.1.length
  | 0, _, _, r => Nat.le_refl _
  | f + 1, i, acc, r => by
    have h := rNext_le r
    unfold rNumL
    split
    · rename_i r2 e; rw [e] at h; exact h
    · rename_i b r2 e; rw [e] at h
      split
      · split
        · exact h
        · exact h
      · exact Nat.le_trans (rNumL_le f _ _ r2) h
theorem rNum_le (r : Rr) : (rNum r).2.1.length ≤ r.1.length := rNumL_le 8 0 0 r
theorem rFlag_le (r : Rr) : (rFlag r).2.1.length ≤ r.1.length := by
  have h := rNext_le r
  unfold rFlag
  split
  · rename_i r2 e; rw [e] at h; exact h
  · rename_i b r2 e; rw [e] at h; exact h
theorem rText_le (r : Rr) (m : Int) : (rText r m).2.1.length ≤ r.1.length := by
  have h := rNum_le r
  unfold rText
  split
  · exact h
  · simp only [List.length_drop]; omega
theorem rCount_le (r : Rr) (m : Int) : (rCount r m).2.1.length ≤ r.1.length := by
  have h := rNum_le r
  unfold rCount; split
  · exact h
  · exact h
theorem rds_sub {P : Program} {B : Base} {X : Asn} {A M : List Asn} {sz m c : Nat} {a : Option Addr} {vs : List Value} (h : RdS P B [X] sz a m c vs) (ho : Out X A M) : RdS P B A sz a m c vs :=
  ⟨h.len, h.nil, h.cap, h.src.weak fun w hs => (hs.perm ho.perm).ent (Ent.nil.cons X)⟩
/-- A Reader with so many bytes before it, which lie in 'X'. -/
def RdrP (B : Base) (X : Asn) (p : Nat) (r : Rr) : Asn :=
  exN fun x : { x : Option Addr × Nat // RdS Tryz.prog B [X] 1 x.1 r.1.length x.2 (r.1.map byteV) } => [cb p [.slice x.1.1 r.1.length x.1.2, .bool r.2] 145]
theorem fold_rdr {B : Base} {X : Asn} {p : Nat} {r : Rr} {a : Option Addr} {c : Nat} {Y A0 : List Asn} (hr : RdS Tryz.prog B [X] 1 a r.1.length c (r.1.map byteV)) (h : Ent Y (cb p [.slice a r.1.length c, .bool r.2] 145 :: A0)) : Ent Y (RdrP B X p r :: A0) :=
  h.trans (Ent.exN_shut (f := fun x : { x : Option Addr × Nat // RdS Tryz.prog B [X] 1 x.1 r.1.length x.2 (r.1.map byteV) } => [cb p [.slice x.1.1 r.1.length x.1.2, .bool r.2] 145]) ⟨(a, c), hr⟩ A0)
theorem and127F : ∀ k : Fin 256, bitV .and .u8 ((k.val : Nat) : Int) 127 = ((k.val % 128 : Nat) : Int) := by decide +kernel
theorem and127 (b : UInt8) : bitV .and .u8 (b.toNat : Int) 127 = ((b.toNat % 128 : Nat) : Int) := and127F ⟨b.toNat, b.toNat_lt⟩
theorem u8_lt (b : UInt8) : b.toNat < 256 := b.toNat_lt
def nextV : Option UInt8 → Value
  | none => .tuple #[.int .u8 0, .bool false]
  | some b => .tuple #[.int .u8 b.toNat, .bool true]
section specs
variable {B : Base}
theorem next_spec (X : Asn) (p : Nat) (r : Rr) (hl : r.1.length ≤ 1000000000) :
    Fspec Tryz.prog B 100 #[.pointer (some ⟨p, 0, none⟩)] [RdrP B X p r, X] (fun v A' => v = nextV (rNext r).1 ∧ A' = [RdrP B X p (rNext r).2, X]) := by
  refine spec_of (args := [_]) Tryz.func100 rfl rfl rfl ?_
  refine yE (fun x => ?_)
  obtain ⟨⟨a, c⟩, hr⟩ := x
  obtain ⟨l, bad⟩ := r
  simp only at hr hl ⊢
  simp only [List.cons_append, List.nil_append]
  cases bad with
  | true =>
    have e : rNext (l, true) = (none, (l, true)) := by unfold rNext; split <;> simp_all
    rw [e]
    repeat' (first
      | refine zh ?_
      | refine zK ?_
      | refine zS (h := ?_)
      | refine zU (h := ?_)
      | refine zi ?_
      | refine zR ?_
      | refine za ?_
      | refine zN ?_
      | refine zY ?_
      | refine zd ?_
      | refine zO ?_
      | refine zZ ?_
      | refine zQ rfl ?_
      | refine ze ?_
      | refine zX ?_
      | refine zP ?_
      | refine zT ?_
      | refine zL ?_
      | (refine zE (id := 0) ?_; intro K hK; refine zI (k := ?_); refine zI (k := ?_); (refine zF (hK _ _ ?_); clear hK K))
      | (refine zE (id := 1) ?_; intro K hK; refine zD (k := ?_); refine zJ (k := ?_); refine zB (k := ?_); refine zM (k := ?_); refine zD (k := ?_); ((first | (refine zA (k := ?_); refine zD (k := ?_)) | refine zC (k := ?_) | ((refine zG (yes := (fun ht => ?_)) (no := (fun ht => ?_)) <;> (try simp at ht) <;> (try (exfalso; omega))) <;> (first | (refine zA (k := ?_); refine zD (k := ?_)) | refine zC (k := ?_))))) <;> (((first | (refine zA (k := ?_); refine zJ (k := ?_)) | refine zC (k := ?_) | ((refine zG (yes := (fun ht => ?_)) (no := (fun ht => ?_)) <;> (try simp at ht) <;> (try (exfalso; omega))) <;> (first | (refine zA (k := ?_); refine zJ (k := ?_)) | refine zC (k := ?_))))) <;> (((first | (refine zA (k := ?_); refine zB (k := ?_)) | refine zC (k := ?_) | ((refine zG (yes := (fun ht => ?_)) (no := (fun ht => ?_)) <;> (try simp at ht) <;> (try (exfalso; omega))) <;> (first | (refine zA (k := ?_); refine zB (k := ?_)) | refine zC (k := ?_))))) <;> (((first | (refine zA (k := ?_); refine zM (k := ?_)) | refine zC (k := ?_) | ((refine zG (yes := (fun ht => ?_)) (no := (fun ht => ?_)) <;> (try simp at ht) <;> (try (exfalso; omega))) <;> (first | (refine zA (k := ?_); refine zM (k := ?_)) | refine zC (k := ?_))))) <;> (((first | (refine zA (k := ?_); refine zk (k' := ?_)) | refine zC (k := ?_) | ((refine zG (yes := (fun ht => ?_)) (no := (fun ht => ?_)) <;> (try simp at ht) <;> (try (exfalso; omega))) <;> (first | (refine zA (k := ?_); refine zk (k' := ?_)) | refine zC (k := ?_))))) <;> (((first | (refine zA (k := ?_); refine z5 (k' := ?_)) | refine zC (k := ?_) | ((refine zG (yes := (fun ht => ?_)) (no := (fun ht => ?_)) <;> (try simp at ht) <;> (try (exfalso; omega))) <;> (first | (refine zA (k := ?_); refine z5 (k' := ?_)) | refine zC (k := ?_))))) <;> ((first | refine zV (k := ?_) | refine zW (k := ?_) | refine zg (k := ?_)); (refine zF (hK _ _ ?_); clear hK K))))))))
      | (refine zE (id := 2) ?_; intro K hK; refine zD (k := ?_); refine zJ (k := ?_); refine zB (k := ?_); refine zr (ho := rfl) (k := ?_); (refine zF (hK _ _ ?_); clear hK K))
      | (refine zE (id := 3) ?_; intro K hK; refine zI (k := ?_); refine zI (k := ?_); (refine zF (hK _ _ ?_); clear hK K))
      | (refine zc (ht := (fun ht => ?_)) (hf := (fun ht => ?_)) <;> (try simp at ht) <;> (try (exfalso; omega))))
    all_goals exact ⟨Or.inr rfl, _, [RdrP B X p (l, true), X], fold_rdr (r := (l, true)) hr (by (repeat (first | exact Ent.refl _ | exact Ent.nil | refine Ent.take (by (repeat (first | exact Out.head | apply Out.tail)); (first | done | fail)) ?_ | refine Ent.drop1 ?_)); (first | done | fail)), res2 rfl rfl rfl, rfl, rfl⟩
  | false =>
    cases l with
    | nil =>
      have e : rNext ([], false) = (none, ([], true)) := rfl
      rw [e]
      repeat' (first
        | refine zh ?_
        | refine zK ?_
        | refine zS (h := ?_)
        | refine zU (h := ?_)
        | refine zi ?_
        | refine zR ?_
        | refine za ?_
        | refine zN ?_
        | refine zY ?_
        | refine zd ?_
        | refine zO ?_
        | refine zZ ?_
        | refine zQ rfl ?_
        | refine ze ?_
        | refine zX ?_
        | refine zP ?_
        | refine zT ?_
        | refine zL ?_
        | (refine zE (id := 0) ?_; intro K hK; refine zI (k := ?_); refine zI (k := ?_); (refine zF (hK _ _ ?_); clear hK K))
        | (refine zE (id := 1) ?_; intro K hK; refine zD (k := ?_); refine zJ (k := ?_); refine zB (k := ?_); refine zM (k := ?_); refine zD (k := ?_); ((first | (refine zA (k := ?_); refine zD (k := ?_)) | refine zC (k := ?_) | ((refine zG (yes := (fun ht => ?_)) (no := (fun ht => ?_)) <;> (try simp at ht) <;> (try (exfalso; omega))) <;> (first | (refine zA (k := ?_); refine zD (k := ?_)) | refine zC (k := ?_))))) <;> (((first | (refine zA (k := ?_); refine zJ (k := ?_)) | refine zC (k := ?_) | ((refine zG (yes := (fun ht => ?_)) (no := (fun ht => ?_)) <;> (try simp at ht) <;> (try (exfalso; omega))) <;> (first | (refine zA (k := ?_); refine zJ (k := ?_)) | refine zC (k := ?_))))) <;> (((first | (refine zA (k := ?_); refine zB (k := ?_)) | refine zC (k := ?_) | ((refine zG (yes := (fun ht => ?_)) (no := (fun ht => ?_)) <;> (try simp at ht) <;> (try (exfalso; omega))) <;> (first | (refine zA (k := ?_); refine zB (k := ?_)) | refine zC (k := ?_))))) <;> (((first | (refine zA (k := ?_); refine zM (k := ?_)) | refine zC (k := ?_) | ((refine zG (yes := (fun ht => ?_)) (no := (fun ht => ?_)) <;> (try simp at ht) <;> (try (exfalso; omega))) <;> (first | (refine zA (k := ?_); refine zM (k := ?_)) | refine zC (k := ?_))))) <;> (((first | (refine zA (k := ?_); refine zk (k' := ?_)) | refine zC (k := ?_) | ((refine zG (yes := (fun ht => ?_)) (no := (fun ht => ?_)) <;> (try simp at ht) <;> (try (exfalso; omega))) <;> (first | (refine zA (k := ?_); refine zk (k' := ?_)) | refine zC (k := ?_))))) <;> (((first | (refine zA (k := ?_); refine z5 (k' := ?_)) | refine zC (k := ?_) | ((refine zG (yes := (fun ht => ?_)) (no := (fun ht => ?_)) <;> (try simp at ht) <;> (try (exfalso; omega))) <;> (first | (refine zA (k := ?_); refine z5 (k' := ?_)) | refine zC (k := ?_))))) <;> ((first | refine zV (k := ?_) | refine zW (k := ?_) | refine zg (k := ?_)); (refine zF (hK _ _ ?_); clear hK K))))))))
        | (refine zE (id := 2) ?_; intro K hK; refine zD (k := ?_); refine zJ (k := ?_); refine zB (k := ?_); refine zr (ho := rfl) (k := ?_); (refine zF (hK _ _ ?_); clear hK K))
        | (refine zE (id := 3) ?_; intro K hK; refine zI (k := ?_); refine zI (k := ?_); (refine zF (hK _ _ ?_); clear hK K))
        | (refine zc (ht := (fun ht => ?_)) (hf := (fun ht => ?_)) <;> (try simp at ht) <;> (try (exfalso; omega))))
      all_goals exact ⟨Or.inr rfl, _, [RdrP B X p ([], true), X], fold_rdr (r := ([], true)) hr (by (repeat (first | exact Ent.refl _ | exact Ent.nil | refine Ent.take (by (repeat (first | exact Out.head | apply Out.tail)); (first | done | fail)) ?_ | refine Ent.drop1 ?_)); (first | done | fail)), res2 rfl rfl rfl, rfl, rfl⟩
    | cons b l =>
      have e : rNext (b :: l, false) = (some b, (l, false)) := rfl
      rw [e]
      obtain ⟨q, rfl⟩ : ∃ q, a = some q := by
        cases a with
        | none => have := hr.nil rfl; simp at this
        | some q => exact ⟨q, rfl⟩
      have hcap := hr.cap
      simp only [List.length_cons] at hcap
      have hcut := hr.cut (l := 1) (h := (b :: l).length) (by simp) (Nat.le_refl _)
      have e1 : (((b :: l).map byteV).drop (1 * 1)).take (((b :: l).length - 1) * 1) = l.map byteV := by
        simp only [List.map_cons, Nat.one_mul, List.drop_succ_cons, List.drop_zero, Nat.mul_one]
        exact List.take_of_length_le (by simp)
      have e2 : (b :: l).length - 1 = l.length := by simp
      rw [e1, e2] at hcut
      repeat' (first
        | refine zh ?_
        | refine zK ?_
        | refine zS (h := ?_)
        | refine zU (h := ?_)
        | refine zi ?_
        | refine zR ?_
        | refine za ?_
        | refine zN ?_
        | refine zY ?_
        | refine zd ?_
        | refine zO ?_
        | refine zZ ?_
        | refine zQ rfl ?_
        | refine ze ?_
        | refine zX ?_
        | refine zP ?_
        | refine zT ?_
        | refine zL ?_
        | (refine zE (id := 0) ?_; intro K hK; refine zI (k := ?_); refine zI (k := ?_); (refine zF (hK _ _ ?_); clear hK K))
        | (refine zE (id := 1) ?_; intro K hK; refine zD (k := ?_); refine zJ (k := ?_); refine zB (k := ?_); refine zM (k := ?_); refine zD (k := ?_); ((first | (refine zA (k := ?_); refine zD (k := ?_)) | refine zC (k := ?_) | ((refine zG (yes := (fun ht => ?_)) (no := (fun ht => ?_)) <;> (try simp at ht) <;> (try (exfalso; omega))) <;> (first | (refine zA (k := ?_); refine zD (k := ?_)) | refine zC (k := ?_))))) <;> (((first | (refine zA (k := ?_); refine zJ (k := ?_)) | refine zC (k := ?_) | ((refine zG (yes := (fun ht => ?_)) (no := (fun ht => ?_)) <;> (try simp at ht) <;> (try (exfalso; omega))) <;> (first | (refine zA (k := ?_); refine zJ (k := ?_)) | refine zC (k := ?_))))) <;> (((first | (refine zA (k := ?_); refine zB (k := ?_)) | refine zC (k := ?_) | ((refine zG (yes := (fun ht => ?_)) (no := (fun ht => ?_)) <;> (try simp at ht) <;> (try (exfalso; omega))) <;> (first | (refine zA (k := ?_); refine zB (k := ?_)) | refine zC (k := ?_))))) <;> (((first | (refine zA (k := ?_); refine zM (k := ?_)) | refine zC (k := ?_) | ((refine zG (yes := (fun ht => ?_)) (no := (fun ht => ?_)) <;> (try simp at ht) <;> (try (exfalso; omega))) <;> (first | (refine zA (k := ?_); refine zM (k := ?_)) | refine zC (k := ?_))))) <;> (((first | (refine zA (k := ?_); refine zk (k' := ?_)) | refine zC (k := ?_) | ((refine zG (yes := (fun ht => ?_)) (no := (fun ht => ?_)) <;> (try simp at ht) <;> (try (exfalso; omega))) <;> (first | (refine zA (k := ?_); refine zk (k' := ?_)) | refine zC (k := ?_))))) <;> (((first | (refine zA (k := ?_); refine z5 (k' := ?_)) | refine zC (k := ?_) | ((refine zG (yes := (fun ht => ?_)) (no := (fun ht => ?_)) <;> (try simp at ht) <;> (try (exfalso; omega))) <;> (first | (refine zA (k := ?_); refine z5 (k' := ?_)) | refine zC (k := ?_))))) <;> ((first | refine zV (k := ?_) | refine zW (k := ?_) | refine zg (k := ?_)); (refine zF (hK _ _ ?_); clear hK K))))))))
        | (refine zE (id := 4) ?_; intro K hK; refine zD (k := ?_); refine zJ (k := ?_); refine zB (k := ?_); refine zM (k := ?_); ((refine zo (hl := by simp) (k' := ?_))) <;> (((refine z4 (v := byteV b) (j := 0) (hq := rfl) (hr := rds_sub hr (by (repeat (first | exact Out.head | apply Out.tail)); (first | done | fail))) (hv := rfl) (k := ?_))) <;> (refine zI (k := ?_); (refine zF (hK _ _ ?_); clear hK K))))
        | (refine zE (id := 5) ?_; intro K hK; refine zD (k := ?_); refine zD (k := ?_); refine zJ (k := ?_); refine zB (k := ?_); refine zM (k := ?_); ((refine yY (l := 1) (h := (b :: l).length) (hlo := ⟨_, rfl⟩) (hlh := by simp) (hhc := by simpa using hcap) (k' := ?_); rw [e2])) <;> (refine zJ (k := ?_); refine zB (k := ?_); refine zr (ho := rfl) (k := ?_); (refine zF (hK _ _ ?_); clear hK K)))
        | (refine zE (id := 6) ?_; intro K hK; refine zD (k := ?_); refine zI (k := ?_); refine zI (k := ?_); (refine zF (hK _ _ ?_); clear hK K))
        | (refine zc (ht := (fun ht => ?_)) (hf := (fun ht => ?_)) <;> (try simp at ht) <;> (try (exfalso; omega))))
      exact ⟨Or.inr rfl, _, [RdrP B X p (l, false), X], fold_rdr (r := (l, false)) hcut (Ent.refl _), res2 rfl rfl rfl, rfl, rfl⟩
theorem number_spec' (X : Asn) (p : Nat) (r : Rr) (hl : r.1.length ≤ 1000000000) :
    Fspec Tryz.prog B 97 #[.pointer (some ⟨p, 0, none⟩)] [RdrP B X p r, X] (fun v A' => v = .int .i64 (rNum r).1 ∧ A' = [RdrP B X p (rNum r).2, X]) := by
  refine spec_of (args := [_]) Tryz.func97 rfl rfl rfl ?_
  repeat' (first
    | refine zh ?_
    | refine zK ?_
    | refine zS (h := ?_)
    | refine zU (h := ?_)
    | refine zi ?_
    | refine zR ?_
    | refine za ?_
    | refine zN ?_
    | refine zY ?_
    | refine zd ?_
    | refine zO ?_
    | refine zZ ?_
    | refine zQ rfl ?_
    | refine ze ?_
    | refine zX ?_
    | refine zP ?_
    | refine zT ?_
    | refine zL ?_
    | (refine zE (id := 0) ?_; intro K hK; refine zI (k := ?_); (refine zF (hK _ _ ?_); clear hK K))
    | (refine zE (id := 1) ?_; intro K hK; refine zI (k := ?_); refine zI (k := ?_); (refine zF (hK _ _ ?_); clear hK K))
    | (refine zE (id := 2) ?_; intro K hK; refine zI (k := ?_); (refine zF (hK _ _ ?_); clear hK K))
    | (refine zc (ht := (fun ht => ?_)) (hf := (fun ht => ?_)) <;> (try simp at ht) <;> (try (exfalso; omega))))
  refine yG (α := Nat × Nat × Rr) (fun g => [(0, .pointer (some ⟨p, 0, none⟩)), (3, .int .i64 (g.2.1 : Nat)), (4, .int .i64 ((128 ^ g.1 : Nat) : Int)), (5, .int .i64 (g.1 : Nat))])
    (fun g => [RdrP B X p g.2.2, X]) (fun g => g.1 ≤ 8 ∧ rNumL (8 - g.1) g.1 g.2.1 g.2.2 = rNum r ∧ g.2.1 < 128 ^ g.1 ∧ g.2.2.1.length ≤ 1000000000) (fun g => 8 - g.1) (0, 0, r) ⟨by omega, rfl, by simp, hl⟩ ⟨rfl, rfl, rfl, rfl, trivial⟩ (Ent.refl _) ?_
  rintro ⟨i, acc, s⟩ G ⟨h1, h2, h3, h4⟩
  simp only [ov] at h1 h2 h3 h4 ⊢
  by_cases hi8 : i = 8
  · subst hi8
    have e : rNum r = (0, (s.1, true)) := by rw [← h2]; rfl
    rw [e]
    repeat' (first
      | refine zh ?_
      | refine zK ?_
      | refine zS (h := ?_)
      | refine zU (h := ?_)
      | refine zi ?_
      | refine zR ?_
      | refine za ?_
      | refine zN ?_
      | refine zY ?_
      | refine zd ?_
      | refine zO ?_
      | refine zZ ?_
      | refine zQ rfl ?_
      | refine ze ?_
      | refine zX ?_
      | refine zP ?_
      | refine zT ?_
      | refine zL ?_
      | (refine zE (id := 3) ?_; intro K hK; refine zD (k := ?_); refine z2 (k' := ?_); (refine zF (hK _ _ ?_); clear hK K))
      | (refine zc (ht := (fun ht => ?_)) (hf := (fun ht => ?_)) <;> (try simp at ht) <;> (try (exfalso; omega))))
    refine yE (fun x => ?_)
    obtain ⟨⟨a, c⟩, hr⟩ := x
    simp only at hr ⊢
    simp only [List.cons_append, List.nil_append]
    repeat' (first
      | refine zh ?_
      | refine zK ?_
      | refine zS (h := ?_)
      | refine zU (h := ?_)
      | refine zi ?_
      | refine zR ?_
      | refine za ?_
      | refine zN ?_
      | refine zY ?_
      | refine zd ?_
      | refine zO ?_
      | refine zZ ?_
      | refine zQ rfl ?_
      | refine ze ?_
      | refine zX ?_
      | refine zP ?_
      | refine zT ?_
      | refine zL ?_
      | (refine zE (id := 13) ?_; intro K hK; refine zD (k := ?_); refine zJ (k := ?_); refine zB (k := ?_); refine zr (ho := rfl) (k := ?_); (refine zF (hK _ _ ?_); clear hK K))
      | (refine zE (id := 14) ?_; intro K hK; refine zI (k := ?_); (refine zF (hK _ _ ?_); clear hK K))
      | (refine zc (ht := (fun ht => ?_)) (hf := (fun ht => ?_)) <;> (try simp at ht) <;> (try (exfalso; omega))))
    exact ⟨Or.inr rfl, _, [RdrP B X p (s.1, true), X], fold_rdr (r := (s.1, true)) hr (by (repeat (first | exact Ent.refl _ | exact Ent.nil | refine Ent.take (by (repeat (first | exact Out.head | apply Out.tail)); (first | done | fail)) ?_ | refine Ent.drop1 ?_))), res1 rfl rfl, rfl, rfl⟩
  have hi : i < 8 := by omega
  have hpow : 128 ^ i ≤ 562949953421312 := by
    have : i = 0 ∨ i = 1 ∨ i = 2 ∨ i = 3 ∨ i = 4 ∨ i = 5 ∨ i = 6 ∨ i = 7 := by omega
    rcases this with rfl | rfl | rfl | rfl | rfl | rfl | rfl | rfl <;> decide
  have hpos : 1 ≤ 128 ^ i := Nat.pow_pos (by omega)
  rw [show 8 - i = (7 - i) + 1 by omega] at h2
  have hn := rNext_le s
  have hns := next_spec (B := B) X p s h4
  unfold rNumL at h2
  cases hnx : rNext s with
  | mk o s2 =>
    rw [hnx] at hn hns h2
    simp only at hn hns h2
    cases o with
    | none =>
      simp only at h2
      rw [← h2]
      repeat' (first
        | refine zh ?_
        | refine zK ?_
        | refine zS (h := ?_)
        | refine zU (h := ?_)
        | refine zi ?_
        | refine zR ?_
        | refine za ?_
        | refine zN ?_
        | refine zY ?_
        | refine zd ?_
        | refine zO ?_
        | refine zZ ?_
        | refine zQ rfl ?_
        | refine ze ?_
        | refine zX ?_
        | refine zP ?_
        | refine zT ?_
        | refine zL ?_
        | (refine zE (id := 3) ?_; intro K hK; refine zD (k := ?_); refine z2 (k' := ?_); (refine zF (hK _ _ ?_); clear hK K))
        | (refine zE (id := 5) ?_; intro K hK; refine zD (k := ?_); ((refine zb (hs := hns) (k := ?_); rintro v A' ⟨rfl, rfl⟩; simp only [List.cons_append, List.nil_append]; simp only [nextV])) <;> (refine zD (k := ?_); refine zx (k' := ?_); refine zx (k' := ?_); refine zI (k := ?_); refine zI (k := ?_); (refine zF (hK _ _ ?_); clear hK K)))
        | (refine zE (id := 6) ?_; intro K hK; refine zD (k := ?_); refine z6 (k' := ?_); (refine zF (hK _ _ ?_); clear hK K))
        | (refine zE (id := 7) ?_; intro K hK; refine zI (k := ?_); (refine zF (hK _ _ ?_); clear hK K))
        | (refine zc (ht := (fun ht => ?_)) (hf := (fun ht => ?_)) <;> (try simp at ht) <;> (try (exfalso; omega))))
      all_goals exact ⟨Or.inr rfl, _, [RdrP B X p s2, X], Ent.refl _, res1 rfl rfl, rfl, rfl⟩
    | some b =>
      simp only at h2
      have hb := u8_lt b
      obtain ⟨by_, hby⟩ : ∃ by_, 128 ^ i = by_ := ⟨_, rfl⟩
      have hpow2 : 128 ^ (i + 1) = by_ * 128 := by rw [Nat.pow_succ, hby]
      have hm : b.toNat % 128 * by_ ≤ 127 * by_ := Nat.mul_le_mul_right _ (by omega)
      rw [hby] at h2 h3 hpow hpos ⊢
      by_cases h128 : b.toNat < 128
      · rw [if_pos h128] at h2
        have hmod : b.toNat % 128 = b.toNat := Nat.mod_eq_of_lt h128
        rw [hmod] at hm
        by_cases hbad : (b.toNat = 0 ∧ 0 < i) ∨ 9007199254740992 < acc + b.toNat * by_
        · rw [if_pos hbad] at h2
          rw [← h2]
          repeat' (first
            | refine zh ?_
            | refine zK ?_
            | refine zS (h := ?_)
            | refine zU (h := ?_)
            | refine zi ?_
            | refine zR ?_
            | refine za ?_
            | refine zN ?_
            | refine zY ?_
            | refine zd ?_
            | refine zO ?_
            | refine zZ ?_
            | refine zQ rfl ?_
            | refine ze ?_
            | refine zX ?_
            | refine zP ?_
            | refine zT ?_
            | refine zL ?_
            | (refine zE (id := 3) ?_; intro K hK; refine zD (k := ?_); refine z2 (k' := ?_); (refine zF (hK _ _ ?_); clear hK K))
            | (refine zE (id := 5) ?_; intro K hK; refine zD (k := ?_); ((refine zb (hs := hns) (k := ?_); rintro v A' ⟨rfl, rfl⟩; simp only [List.cons_append, List.nil_append]; simp only [nextV])) <;> (refine zD (k := ?_); refine zx (k' := ?_); refine zx (k' := ?_); refine zI (k := ?_); refine zI (k := ?_); (refine zF (hK _ _ ?_); clear hK K)))
            | (refine zE (id := 6) ?_; intro K hK; refine zD (k := ?_); refine z6 (k' := ?_); (refine zF (hK _ _ ?_); clear hK K))
            | (refine zE (id := 8) ?_; intro K hK; refine zD (k := ?_); refine zD (k := ?_); ((refine xK (k' := ?_); rw [and127, hmod])) <;> (refine ym (k' := ?_); refine zD (k := ?_); ((refine xB (hf := fits_i64 (by rw [← Int.natCast_mul]; omega)) (k' := ?_); rw [← Int.natCast_mul])) <;> (((refine zm (hf := fits_i64 (by omega)) (k' := ?_); rw [show ((acc : Nat) : Int) + ((b.toNat * by_ : Nat) : Int) = ((acc + b.toNat * by_ : Nat) : Int) by omega])) <;> (refine zI (k := ?_); (refine zF (hK _ _ ?_); clear hK K)))))
            | (refine zE (id := 9) ?_; intro K hK; refine zD (k := ?_); refine z2 (k' := ?_); (refine zF (hK _ _ ?_); clear hK K))
            | (refine zE (id := 10) ?_; intro K hK; refine zD (k := ?_); refine z5 (k' := ?_); refine zD (k := ?_); ((first | (refine zA (k := ?_); refine zD (k := ?_)) | refine zC (k := ?_) | ((refine zG (yes := (fun ht => ?_)) (no := (fun ht => ?_)) <;> (try simp at ht) <;> (try (exfalso; omega))) <;> (first | (refine zA (k := ?_); refine zD (k := ?_)) | refine zC (k := ?_))))) <;> (((first | (refine zA (k := ?_); refine zz (k' := ?_)) | refine zC (k := ?_) | ((refine zG (yes := (fun ht => ?_)) (no := (fun ht => ?_)) <;> (try simp at ht) <;> (try (exfalso; omega))) <;> (first | (refine zA (k := ?_); refine zz (k' := ?_)) | refine zC (k := ?_))))) <;> ((first | refine zV (k := ?_) | refine zW (k := ?_) | refine zg (k := ?_)); refine zD (k := ?_); ((first | (refine zA (k := ?_); refine zD (k := ?_)) | refine zC (k := ?_) | ((refine zG (yes := (fun ht => ?_)) (no := (fun ht => ?_)) <;> (try simp at ht) <;> (try (exfalso; omega))) <;> (first | (refine zA (k := ?_); refine zD (k := ?_)) | refine zC (k := ?_))))) <;> (((first | (refine zA (k := ?_); refine zz (k' := ?_)) | refine zC (k := ?_) | ((refine zG (yes := (fun ht => ?_)) (no := (fun ht => ?_)) <;> (try simp at ht) <;> (try (exfalso; omega))) <;> (first | (refine zA (k := ?_); refine zz (k' := ?_)) | refine zC (k := ?_))))) <;> ((first | refine zV (k := ?_) | refine zW (k := ?_) | refine zg (k := ?_)); (refine zF (hK _ _ ?_); clear hK K))))))
            | (refine zc (ht := (fun ht => ?_)) (hf := (fun ht => ?_)) <;> (try simp at ht) <;> (try (exfalso; omega))))
          all_goals try (exfalso; omega)
          all_goals
            refine yE (fun x => ?_)
            obtain ⟨⟨a, c⟩, hr⟩ := x
            simp only at hr ⊢
            simp only [List.cons_append, List.nil_append]
          all_goals (
            repeat' (first
              | refine zh ?_
              | refine zK ?_
              | refine zS (h := ?_)
              | refine zU (h := ?_)
              | refine zi ?_
              | refine zR ?_
              | refine za ?_
              | refine zN ?_
              | refine zY ?_
              | refine zd ?_
              | refine zO ?_
              | refine zZ ?_
              | refine zQ rfl ?_
              | refine ze ?_
              | refine zX ?_
              | refine zP ?_
              | refine zT ?_
              | refine zL ?_
              | (refine zE (id := 13) ?_; intro K hK; refine zD (k := ?_); refine zJ (k := ?_); refine zB (k := ?_); refine zr (ho := rfl) (k := ?_); (refine zF (hK _ _ ?_); clear hK K))
              | (refine zE (id := 14) ?_; intro K hK; refine zI (k := ?_); (refine zF (hK _ _ ?_); clear hK K))
              | (refine zc (ht := (fun ht => ?_)) (hf := (fun ht => ?_)) <;> (try simp at ht) <;> (try (exfalso; omega))))
            exact ⟨Or.inr rfl, _, [RdrP B X p (s2.1, true), X], fold_rdr (r := (s2.1, true)) hr (by (repeat (first | exact Ent.refl _ | exact Ent.nil | refine Ent.take (by (repeat (first | exact Out.head | apply Out.tail)); (first | done | fail)) ?_ | refine Ent.drop1 ?_))), res1 rfl rfl, rfl, rfl⟩)
        · rw [if_neg hbad] at h2
          rw [← h2]
          repeat' (first
            | refine zh ?_
            | refine zK ?_
            | refine zS (h := ?_)
            | refine zU (h := ?_)
            | refine zi ?_
            | refine zR ?_
            | refine za ?_
            | refine zN ?_
            | refine zY ?_
            | refine zd ?_
            | refine zO ?_
            | refine zZ ?_
            | refine zQ rfl ?_
            | refine ze ?_
            | refine zX ?_
            | refine zP ?_
            | refine zT ?_
            | refine zL ?_
            | (refine zE (id := 3) ?_; intro K hK; refine zD (k := ?_); refine z2 (k' := ?_); (refine zF (hK _ _ ?_); clear hK K))
            | (refine zE (id := 5) ?_; intro K hK; refine zD (k := ?_); ((refine zb (hs := hns) (k := ?_); rintro v A' ⟨rfl, rfl⟩; simp only [List.cons_append, List.nil_append]; simp only [nextV])) <;> (refine zD (k := ?_); refine zx (k' := ?_); refine zx (k' := ?_); refine zI (k := ?_); refine zI (k := ?_); (refine zF (hK _ _ ?_); clear hK K)))
            | (refine zE (id := 6) ?_; intro K hK; refine zD (k := ?_); refine z6 (k' := ?_); (refine zF (hK _ _ ?_); clear hK K))
            | (refine zE (id := 8) ?_; intro K hK; refine zD (k := ?_); refine zD (k := ?_); ((refine xK (k' := ?_); rw [and127, hmod])) <;> (refine ym (k' := ?_); refine zD (k := ?_); ((refine xB (hf := fits_i64 (by rw [← Int.natCast_mul]; omega)) (k' := ?_); rw [← Int.natCast_mul])) <;> (((refine zm (hf := fits_i64 (by omega)) (k' := ?_); rw [show ((acc : Nat) : Int) + ((b.toNat * by_ : Nat) : Int) = ((acc + b.toNat * by_ : Nat) : Int) by omega])) <;> (refine zI (k := ?_); (refine zF (hK _ _ ?_); clear hK K)))))
            | (refine zE (id := 9) ?_; intro K hK; refine zD (k := ?_); refine z2 (k' := ?_); (refine zF (hK _ _ ?_); clear hK K))
            | (refine zE (id := 10) ?_; intro K hK; refine zD (k := ?_); refine z5 (k' := ?_); refine zD (k := ?_); ((first | (refine zA (k := ?_); refine zD (k := ?_)) | refine zC (k := ?_) | ((refine zG (yes := (fun ht => ?_)) (no := (fun ht => ?_)) <;> (try simp at ht) <;> (try (exfalso; omega))) <;> (first | (refine zA (k := ?_); refine zD (k := ?_)) | refine zC (k := ?_))))) <;> (((first | (refine zA (k := ?_); refine zz (k' := ?_)) | refine zC (k := ?_) | ((refine zG (yes := (fun ht => ?_)) (no := (fun ht => ?_)) <;> (try simp at ht) <;> (try (exfalso; omega))) <;> (first | (refine zA (k := ?_); refine zz (k' := ?_)) | refine zC (k := ?_))))) <;> ((first | refine zV (k := ?_) | refine zW (k := ?_) | refine zg (k := ?_)); refine zD (k := ?_); ((first | (refine zA (k := ?_); refine zD (k := ?_)) | refine zC (k := ?_) | ((refine zG (yes := (fun ht => ?_)) (no := (fun ht => ?_)) <;> (try simp at ht) <;> (try (exfalso; omega))) <;> (first | (refine zA (k := ?_); refine zD (k := ?_)) | refine zC (k := ?_))))) <;> (((first | (refine zA (k := ?_); refine zz (k' := ?_)) | refine zC (k := ?_) | ((refine zG (yes := (fun ht => ?_)) (no := (fun ht => ?_)) <;> (try simp at ht) <;> (try (exfalso; omega))) <;> (first | (refine zA (k := ?_); refine zz (k' := ?_)) | refine zC (k := ?_))))) <;> ((first | refine zV (k := ?_) | refine zW (k := ?_) | refine zg (k := ?_)); (refine zF (hK _ _ ?_); clear hK K))))))
            | (refine zE (id := 11) ?_; intro K hK; refine zD (k := ?_); refine zI (k := ?_); (refine zF (hK _ _ ?_); clear hK K))
            | (refine zc (ht := (fun ht => ?_)) (hf := (fun ht => ?_)) <;> (try simp at ht) <;> (try (exfalso; omega))))
          all_goals first
            | exact ⟨Or.inr rfl, _, [RdrP B X p s2, X], Ent.refl _, res1 rfl rfl, rfl, rfl⟩
            | (exfalso; omega)
      · rw [if_neg h128] at h2
        repeat' (first
          | refine zh ?_
          | refine zK ?_
          | refine zS (h := ?_)
          | refine zU (h := ?_)
          | refine zi ?_
          | refine zR ?_
          | refine za ?_
          | refine zN ?_
          | refine zY ?_
          | refine zd ?_
          | refine zO ?_
          | refine zZ ?_
          | refine zQ rfl ?_
          | refine ze ?_
          | refine zX ?_
          | refine zP ?_
          | refine zT ?_
          | refine zL ?_
          | (refine zE (id := 3) ?_; intro K hK; refine zD (k := ?_); refine z2 (k' := ?_); (refine zF (hK _ _ ?_); clear hK K))
          | (refine zE (id := 4) ?_; intro K hK; refine zD (k := ?_); refine zm (k' := ?_); refine zI (k := ?_); (refine zF (hK _ _ ?_); clear hK K))
          | (refine zE (id := 5) ?_; intro K hK; refine zD (k := ?_); ((refine zb (hs := hns) (k := ?_); rintro v A' ⟨rfl, rfl⟩; simp only [List.cons_append, List.nil_append]; simp only [nextV])) <;> (refine zD (k := ?_); refine zx (k' := ?_); refine zx (k' := ?_); refine zI (k := ?_); refine zI (k := ?_); (refine zF (hK _ _ ?_); clear hK K)))
          | (refine zE (id := 6) ?_; intro K hK; refine zD (k := ?_); refine z6 (k' := ?_); (refine zF (hK _ _ ?_); clear hK K))
          | (refine zE (id := 8) ?_; intro K hK; refine zD (k := ?_); refine zD (k := ?_); ((refine xK (k' := ?_); rw [and127])) <;> (refine ym (k' := ?_); refine zD (k := ?_); ((refine xB (hf := fits_i64 (by rw [← Int.natCast_mul]; omega)) (k' := ?_); rw [← Int.natCast_mul])) <;> (((refine zm (hf := fits_i64 (by omega)) (k' := ?_); rw [show ((acc : Nat) : Int) + ((b.toNat % 128 * by_ : Nat) : Int) = ((acc + b.toNat % 128 * by_ : Nat) : Int) by omega])) <;> (refine zI (k := ?_); (refine zF (hK _ _ ?_); clear hK K)))))
          | (refine zE (id := 9) ?_; intro K hK; refine zD (k := ?_); refine z2 (k' := ?_); (refine zF (hK _ _ ?_); clear hK K))
          | (refine zE (id := 12) ?_; intro K hK; refine zD (k := ?_); ((refine xB (hf := fits_i64 (by omega)) (k' := ?_); rw [show ((by_ : Nat) : Int) * 128 = ((128 ^ (i + 1) : Nat) : Int) by rw [hpow2]; omega])) <;> (refine zI (k := ?_); (refine zF (hK _ _ ?_); clear hK K)))
          | (refine zc (ht := (fun ht => ?_)) (hf := (fun ht => ?_)) <;> (try simp at ht) <;> (try (exfalso; omega))))
        exact ⟨(i + 1, acc + b.toNat % 128 * by_, s2), ⟨by show i + 1 ≤ 8; omega, by show rNumL (8 - (i + 1)) (i + 1) _ s2 = _; rw [← h2, show 8 - (i + 1) = 7 - i by omega], by show acc + _ < 128 ^ (i + 1); rw [hpow2]; omega, by show s2.1.length ≤ _; omega⟩, by show 8 - (i + 1) < 8 - i; omega, ⟨rfl, rfl, rfl, int_succ i, trivial⟩, Ent.refl _⟩
theorem rnum_spec (X : Asn) (p : Nat) (r : Rr) (hl : r.1.length ≤ 1000000000) :
    Fspec Tryz.prog B 65 #[.pointer (some ⟨p, 0, none⟩)] [RdrP B X p r, X] (fun v A' => v = .int .i64 (rNum r).1 ∧ A' = [RdrP B X p (rNum r).2, X]) := by
  refine spec_of (args := [_]) Tryz.func65 rfl rfl rfl ?_
  repeat' (first
    | refine zh ?_
    | refine zK ?_
    | refine zS (h := ?_)
    | refine zU (h := ?_)
    | refine zi ?_
    | refine zR ?_
    | refine za ?_
    | refine zN ?_
    | refine zY ?_
    | refine zd ?_
    | refine zO ?_
    | refine zZ ?_
    | refine zQ rfl ?_
    | refine ze ?_
    | refine zX ?_
    | refine zP ?_
    | refine zT ?_
    | refine zL ?_
    | (refine zE (id := 0) ?_; intro K hK; refine zI (k := ?_); (refine zF (hK _ _ ?_); clear hK K))
    | (refine zE (id := 1) ?_; intro K hK; refine zD (k := ?_); refine zf (k' := ?_); (refine zF (hK _ _ ?_); clear hK K))
    | (refine zE (id := 2) ?_; intro K hK; refine zI (k := ?_); (refine zF (hK _ _ ?_); clear hK K))
    | (refine zE (id := 3) ?_; intro K hK; refine zD (k := ?_); refine zJ (k := ?_); refine zB (k := ?_); ((refine zb (hs := number_spec' X p r hl) (k := ?_); rintro v A' ⟨rfl, rfl⟩; simp only [List.cons_append, List.nil_append])) <;> (refine zI (k := ?_); (refine zF (hK _ _ ?_); clear hK K)))
    | (refine zc (ht := (fun ht => ?_)) (hf := (fun ht => ?_)) <;> (try simp at ht) <;> (try (exfalso; omega))))
  exact ⟨Or.inr rfl, _, [RdrP B X p (rNum r).2, X], Ent.refl _, res1 rfl rfl, rfl, rfl⟩
theorem rcount_spec (X : Asn) (p : Nat) (r : Rr) (most : Int) (hl : r.1.length ≤ 1000000000) :
    Fspec Tryz.prog B 70 #[.pointer (some ⟨p, 0, none⟩), .int .i64 most] [RdrP B X p r, X] (fun v A' => v = .int .i64 (rCount r most).1 ∧ A' = [RdrP B X p (rCount r most).2, X]) := by
  refine spec_of (args := [_, _]) Tryz.func70 rfl rfl rfl ?_
  unfold rCount
  by_cases h : most < ((rNum r).1 : Int)
  · rw [if_pos h]
    repeat' (first
      | refine zh ?_
      | refine zK ?_
      | refine zS (h := ?_)
      | refine zU (h := ?_)
      | refine zi ?_
      | refine zR ?_
      | refine za ?_
      | refine zN ?_
      | refine zY ?_
      | refine zd ?_
      | refine zO ?_
      | refine zZ ?_
      | refine zQ rfl ?_
      | refine ze ?_
      | refine zX ?_
      | refine zP ?_
      | refine zT ?_
      | refine zL ?_
      | (refine zE (id := 0) ?_; intro K hK; refine zI (k := ?_); (refine zF (hK _ _ ?_); clear hK K))
      | (refine zE (id := 1) ?_; intro K hK; refine zD (k := ?_); ((refine zb (hs := rnum_spec X p r hl) (k := ?_); rintro v A' ⟨rfl, rfl⟩; simp only [List.cons_append, List.nil_append])) <;> (refine zI (k := ?_); (refine zF (hK _ _ ?_); clear hK K)))
      | (refine zE (id := 2) ?_; intro K hK; refine zD (k := ?_); refine yC (k' := ?_); refine zD (k := ?_); ((first | (refine zA (k := ?_); refine zD (k := ?_)) | refine zC (k := ?_) | ((refine zG (yes := (fun ht => ?_)) (no := (fun ht => ?_)) <;> (try simp at ht) <;> (try (exfalso; omega))) <;> (first | (refine zA (k := ?_); refine zD (k := ?_)) | refine zC (k := ?_))))) <;> (((first | (refine zA (k := ?_); refine zD (k := ?_)) | refine zC (k := ?_) | ((refine zG (yes := (fun ht => ?_)) (no := (fun ht => ?_)) <;> (try simp at ht) <;> (try (exfalso; omega))) <;> (first | (refine zA (k := ?_); refine zD (k := ?_)) | refine zC (k := ?_))))) <;> (((first | (refine zA (k := ?_); refine zz (k' := ?_)) | refine zC (k := ?_) | ((refine zG (yes := (fun ht => ?_)) (no := (fun ht => ?_)) <;> (try simp at ht) <;> (try (exfalso; omega))) <;> (first | (refine zA (k := ?_); refine zz (k' := ?_)) | refine zC (k := ?_))))) <;> ((first | refine zV (k := ?_) | refine zW (k := ?_) | refine zg (k := ?_)); (refine zF (hK _ _ ?_); clear hK K)))))
      | (refine zc (ht := (fun ht => ?_)) (hf := (fun ht => ?_)) <;> (try simp at ht) <;> (try (exfalso; omega))))
    refine yE (fun x => ?_)
    obtain ⟨⟨a, c⟩, hr⟩ := x
    simp only at hr ⊢
    simp only [List.cons_append, List.nil_append]
    repeat' (first
      | refine zh ?_
      | refine zK ?_
      | refine zS (h := ?_)
      | refine zU (h := ?_)
      | refine zi ?_
      | refine zR ?_
      | refine za ?_
      | refine zN ?_
      | refine zY ?_
      | refine zd ?_
      | refine zO ?_
      | refine zZ ?_
      | refine zQ rfl ?_
      | refine ze ?_
      | refine zX ?_
      | refine zP ?_
      | refine zT ?_
      | refine zL ?_
      | (refine zE (id := 3) ?_; intro K hK; refine zD (k := ?_); refine zJ (k := ?_); refine zB (k := ?_); refine zB (k := ?_); refine zr (ho := rfl) (k := ?_); (refine zF (hK _ _ ?_); clear hK K))
      | (refine zE (id := 4) ?_; intro K hK; refine zI (k := ?_); (refine zF (hK _ _ ?_); clear hK K))
      | (refine zc (ht := (fun ht => ?_)) (hf := (fun ht => ?_)) <;> (try simp at ht) <;> (try (exfalso; omega))))
    exact ⟨Or.inr rfl, _, [RdrP B X p ((rNum r).2.1, true), X], fold_rdr (r := ((rNum r).2.1, true)) hr (by (repeat (first | exact Ent.refl _ | exact Ent.nil | refine Ent.take (by (repeat (first | exact Out.head | apply Out.tail)); (first | done | fail)) ?_ | refine Ent.drop1 ?_))), res1 rfl rfl, rfl, rfl⟩
  · rw [if_neg h]
    repeat' (first
      | refine zh ?_
      | refine zK ?_
      | refine zS (h := ?_)
      | refine zU (h := ?_)
      | refine zi ?_
      | refine zR ?_
      | refine za ?_
      | refine zN ?_
      | refine zY ?_
      | refine zd ?_
      | refine zO ?_
      | refine zZ ?_
      | refine zQ rfl ?_
      | refine ze ?_
      | refine zX ?_
      | refine zP ?_
      | refine zT ?_
      | refine zL ?_
      | (refine zE (id := 0) ?_; intro K hK; refine zI (k := ?_); (refine zF (hK _ _ ?_); clear hK K))
      | (refine zE (id := 1) ?_; intro K hK; refine zD (k := ?_); ((refine zb (hs := rnum_spec X p r hl) (k := ?_); rintro v A' ⟨rfl, rfl⟩; simp only [List.cons_append, List.nil_append])) <;> (refine zI (k := ?_); (refine zF (hK _ _ ?_); clear hK K)))
      | (refine zE (id := 2) ?_; intro K hK; refine zD (k := ?_); refine yC (k' := ?_); refine zD (k := ?_); ((first | (refine zA (k := ?_); refine zD (k := ?_)) | refine zC (k := ?_) | ((refine zG (yes := (fun ht => ?_)) (no := (fun ht => ?_)) <;> (try simp at ht) <;> (try (exfalso; omega))) <;> (first | (refine zA (k := ?_); refine zD (k := ?_)) | refine zC (k := ?_))))) <;> (((first | (refine zA (k := ?_); refine zD (k := ?_)) | refine zC (k := ?_) | ((refine zG (yes := (fun ht => ?_)) (no := (fun ht => ?_)) <;> (try simp at ht) <;> (try (exfalso; omega))) <;> (first | (refine zA (k := ?_); refine zD (k := ?_)) | refine zC (k := ?_))))) <;> (((first | (refine zA (k := ?_); refine zz (k' := ?_)) | refine zC (k := ?_) | ((refine zG (yes := (fun ht => ?_)) (no := (fun ht => ?_)) <;> (try simp at ht) <;> (try (exfalso; omega))) <;> (first | (refine zA (k := ?_); refine zz (k' := ?_)) | refine zC (k := ?_))))) <;> ((first | refine zV (k := ?_) | refine zW (k := ?_) | refine zg (k := ?_)); (refine zF (hK _ _ ?_); clear hK K)))))
      | (refine zE (id := 3) ?_; intro K hK; refine zD (k := ?_); refine zJ (k := ?_); refine zB (k := ?_); refine zB (k := ?_); refine zr (ho := rfl) (k := ?_); (refine zF (hK _ _ ?_); clear hK K))
      | (refine zE (id := 4) ?_; intro K hK; refine zI (k := ?_); (refine zF (hK _ _ ?_); clear hK K))
      | (refine zE (id := 5) ?_; intro K hK; refine zD (k := ?_); refine zI (k := ?_); (refine zF (hK _ _ ?_); clear hK K))
      | (refine zc (ht := (fun ht => ?_)) (hf := (fun ht => ?_)) <;> (try simp at ht) <;> (try (exfalso; omega))))
    exact ⟨Or.inr rfl, _, [RdrP B X p (rNum r).2, X], Ent.refl _, res1 rfl rfl, rfl, rfl⟩
theorem rflag_spec (X : Asn) (p : Nat) (r : Rr) (hl : r.1.length ≤ 1000000000) :
    Fspec Tryz.prog B 71 #[.pointer (some ⟨p, 0, none⟩)] [RdrP B X p r, X] (fun v A' => v = .bool (rFlag r).1 ∧ A' = [RdrP B X p (rFlag r).2, X]) := by
  have hns := next_spec (B := B) X p r hl
  refine spec_of (args := [_]) Tryz.func71 rfl rfl rfl ?_
  unfold rFlag
  cases hnx : rNext r with
  | mk o s2 =>
    have hbad : o = none → s2.2 = true := fun h => by
      subst h
      unfold rNext at hnx
      split at hnx
      · simp at hnx
      · have := (Prod.mk.inj hnx).2
        rw [← this]
    have hgood : ∀ b, o = some b → s2.2 = false := fun b h => by
      subst h
      unfold rNext at hnx
      split at hnx
      · have := (Prod.mk.inj hnx).2
        rw [← this]
      · simp at hnx
    rw [hnx] at hns
    simp only at hns
    obtain ⟨l2, d2⟩ := s2
    cases o with
    | none =>
      obtain rfl : d2 = true := hbad rfl
      simp only
      repeat' (first
        | refine zh ?_
        | refine zK ?_
        | refine zS (h := ?_)
        | refine zU (h := ?_)
        | refine zi ?_
        | refine zR ?_
        | refine za ?_
        | refine zN ?_
        | refine zY ?_
        | refine zd ?_
        | refine zO ?_
        | refine zZ ?_
        | refine zQ rfl ?_
        | refine ze ?_
        | refine zX ?_
        | refine zP ?_
        | refine zT ?_
        | refine zL ?_
        | (refine zE (id := 0) ?_; intro K hK; refine zI (k := ?_); (refine zF (hK _ _ ?_); clear hK K))
        | (refine zE (id := 1) ?_; intro K hK; refine zD (k := ?_); refine zf (k' := ?_); (refine zF (hK _ _ ?_); clear hK K))
        | (refine zE (id := 2) ?_; intro K hK; refine zI (k := ?_); (refine zF (hK _ _ ?_); clear hK K))
        | (refine zE (id := 3) ?_; intro K hK; refine zD (k := ?_); refine zJ (k := ?_); refine zB (k := ?_); ((refine zb (hs := hns) (k := ?_); rintro v A' ⟨rfl, rfl⟩; simp only [List.cons_append, List.nil_append]; simp only [nextV])) <;> (refine zD (k := ?_); refine zx (k' := ?_); refine zx (k' := ?_); refine zI (k := ?_); refine zI (k := ?_); (refine zF (hK _ _ ?_); clear hK K)))
        | (refine zc (ht := (fun ht => ?_)) (hf := (fun ht => ?_)) <;> (try simp at ht) <;> (try (exfalso; omega))))
      refine yE (fun x => ?_)
      obtain ⟨⟨a, c⟩, hr⟩ := x
      simp only at hr ⊢
      simp only [List.cons_append, List.nil_append]
      repeat' (first
        | refine zh ?_
        | refine zK ?_
        | refine zS (h := ?_)
        | refine zU (h := ?_)
        | refine zi ?_
        | refine zR ?_
        | refine za ?_
        | refine zN ?_
        | refine zY ?_
        | refine zd ?_
        | refine zO ?_
        | refine zZ ?_
        | refine zQ rfl ?_
        | refine ze ?_
        | refine zX ?_
        | refine zP ?_
        | refine zT ?_
        | refine zL ?_
        | (refine zE (id := 4) ?_; intro K hK; refine zD (k := ?_); refine zD (k := ?_); refine zJ (k := ?_); refine zB (k := ?_); refine zB (k := ?_); refine zM (k := ?_); refine zD (k := ?_); ((first | (refine zA (k := ?_); refine zD (k := ?_)) | refine zC (k := ?_) | ((refine zG (yes := (fun ht => ?_)) (no := (fun ht => ?_)) <;> (try simp at ht) <;> (try (exfalso; omega))) <;> (first | (refine zA (k := ?_); refine zD (k := ?_)) | refine zC (k := ?_))))) <;> (((first | (refine zA (k := ?_); refine zz (k' := ?_)) | refine zC (k := ?_) | ((refine zG (yes := (fun ht => ?_)) (no := (fun ht => ?_)) <;> (try simp at ht) <;> (try (exfalso; omega))) <;> (first | (refine zA (k := ?_); refine zz (k' := ?_)) | refine zC (k := ?_))))) <;> ((first | refine zV (k := ?_) | refine zW (k := ?_) | refine zg (k := ?_)); refine zJ (k := ?_); refine zB (k := ?_); refine zB (k := ?_); refine zr (ho := rfl) (k := ?_); (refine zF (hK _ _ ?_); clear hK K))))
        | (refine zE (id := 5) ?_; intro K hK; refine zD (k := ?_); refine zD (k := ?_); ((first | (refine zA (k := ?_); refine zD (k := ?_)) | refine zC (k := ?_) | ((refine zG (yes := (fun ht => ?_)) (no := (fun ht => ?_)) <;> (try simp at ht) <;> (try (exfalso; omega))) <;> (first | (refine zA (k := ?_); refine zD (k := ?_)) | refine zC (k := ?_))))) <;> (((first | (refine zA (k := ?_); refine z5 (k' := ?_)) | refine zC (k := ?_) | ((refine zG (yes := (fun ht => ?_)) (no := (fun ht => ?_)) <;> (try simp at ht) <;> (try (exfalso; omega))) <;> (first | (refine zA (k := ?_); refine z5 (k' := ?_)) | refine zC (k := ?_))))) <;> ((first | refine zV (k := ?_) | refine zW (k := ?_) | refine zg (k := ?_)); refine zI (k := ?_); (refine zF (hK _ _ ?_); clear hK K))))
        | (refine zc (ht := (fun ht => ?_)) (hf := (fun ht => ?_)) <;> (try simp at ht) <;> (try (exfalso; omega))))
      all_goals exact ⟨Or.inr rfl, _, [RdrP B X p (l2, true), X], fold_rdr (r := (l2, true)) hr (by (repeat (first | exact Ent.refl _ | exact Ent.nil | refine Ent.take (by (repeat (first | exact Out.head | apply Out.tail)); (first | done | fail)) ?_ | refine Ent.drop1 ?_))), res1 rfl rfl, rfl, rfl⟩
    | some b =>
      obtain rfl : d2 = false := hgood b rfl
      simp only
      repeat' (first
        | refine zh ?_
        | refine zK ?_
        | refine zS (h := ?_)
        | refine zU (h := ?_)
        | refine zi ?_
        | refine zR ?_
        | refine za ?_
        | refine zN ?_
        | refine zY ?_
        | refine zd ?_
        | refine zO ?_
        | refine zZ ?_
        | refine zQ rfl ?_
        | refine ze ?_
        | refine zX ?_
        | refine zP ?_
        | refine zT ?_
        | refine zL ?_
        | (refine zE (id := 0) ?_; intro K hK; refine zI (k := ?_); (refine zF (hK _ _ ?_); clear hK K))
        | (refine zE (id := 1) ?_; intro K hK; refine zD (k := ?_); refine zf (k' := ?_); (refine zF (hK _ _ ?_); clear hK K))
        | (refine zE (id := 2) ?_; intro K hK; refine zI (k := ?_); (refine zF (hK _ _ ?_); clear hK K))
        | (refine zE (id := 3) ?_; intro K hK; refine zD (k := ?_); refine zJ (k := ?_); refine zB (k := ?_); ((refine zb (hs := hns) (k := ?_); rintro v A' ⟨rfl, rfl⟩; simp only [List.cons_append, List.nil_append]; simp only [nextV])) <;> (refine zD (k := ?_); refine zx (k' := ?_); refine zx (k' := ?_); refine zI (k := ?_); refine zI (k := ?_); (refine zF (hK _ _ ?_); clear hK K)))
        | (refine zc (ht := (fun ht => ?_)) (hf := (fun ht => ?_)) <;> (try simp at ht) <;> (try (exfalso; omega))))
      refine yE (fun x => ?_)
      obtain ⟨⟨a, c⟩, hr⟩ := x
      simp only at hr ⊢
      simp only [List.cons_append, List.nil_append]
      have e1 : decide ((1 : Int) < (b.toNat : Int)) = decide (1 < b.toNat) := decide_eq_decide.2 (by omega)
      have e2 : decide ((b.toNat : Int) = 1) = decide (b.toNat = 1) := decide_eq_decide.2 (by omega)
      repeat' (first
        | refine zh ?_
        | refine zK ?_
        | refine zS (h := ?_)
        | refine zU (h := ?_)
        | refine zi ?_
        | refine zR ?_
        | refine za ?_
        | refine zN ?_
        | refine zY ?_
        | refine zd ?_
        | refine zO ?_
        | refine zZ ?_
        | refine zQ rfl ?_
        | refine ze ?_
        | refine zX ?_
        | refine zP ?_
        | refine zT ?_
        | refine zL ?_
        | (refine zE (id := 4) ?_; intro K hK; refine zD (k := ?_); refine zD (k := ?_); refine zJ (k := ?_); refine zB (k := ?_); refine zB (k := ?_); refine zM (k := ?_); refine zD (k := ?_); ((first | (refine zA (k := ?_); refine zD (k := ?_)) | refine zC (k := ?_) | ((refine zG (yes := (fun ht => ?_)) (no := (fun ht => ?_)) <;> (try simp at ht) <;> (try (exfalso; omega))) <;> (first | (refine zA (k := ?_); refine zD (k := ?_)) | refine zC (k := ?_))))) <;> (((first | (refine zA (k := ?_); (refine zz (k' := ?_); rw [e1])) | refine zC (k := ?_) | ((refine zG (yes := (fun ht => ?_)) (no := (fun ht => ?_)) <;> (try simp at ht) <;> (try (exfalso; omega))) <;> (first | (refine zA (k := ?_); (refine zz (k' := ?_); rw [e1])) | refine zC (k := ?_))))) <;> ((first | refine zV (k := ?_) | refine zW (k := ?_) | refine zg (k := ?_)); refine zJ (k := ?_); refine zB (k := ?_); refine zB (k := ?_); refine zr (ho := rfl) (k := ?_); (refine zF (hK _ _ ?_); clear hK K))))
        | (refine zE (id := 5) ?_; intro K hK; refine zD (k := ?_); refine zD (k := ?_); ((first | (refine zA (k := ?_); refine zD (k := ?_)) | refine zC (k := ?_) | ((refine zG (yes := (fun ht => ?_)) (no := (fun ht => ?_)) <;> (try simp at ht) <;> (try (exfalso; omega))) <;> (first | (refine zA (k := ?_); refine zD (k := ?_)) | refine zC (k := ?_))))) <;> (((first | (refine zA (k := ?_); (refine z5 (k' := ?_); rw [e2])) | refine zC (k := ?_) | ((refine zG (yes := (fun ht => ?_)) (no := (fun ht => ?_)) <;> (try simp at ht) <;> (try (exfalso; omega))) <;> (first | (refine zA (k := ?_); (refine z5 (k' := ?_); rw [e2])) | refine zC (k := ?_))))) <;> ((first | refine zV (k := ?_) | refine zW (k := ?_) | refine zg (k := ?_)); refine zI (k := ?_); (refine zF (hK _ _ ?_); clear hK K))))
        | (refine zc (ht := (fun ht => ?_)) (hf := (fun ht => ?_)) <;> (try simp at ht) <;> (try (exfalso; omega))))
      all_goals exact ⟨Or.inr rfl, _, [RdrP B X p (l2, decide (1 < b.toNat)), X], fold_rdr (r := (l2, decide (1 < b.toNat))) hr (by (repeat (first | exact Ent.refl _ | exact Ent.nil | refine Ent.take (by (repeat (first | exact Out.head | apply Out.tail)); (first | done | fail)) ?_ | refine Ent.drop1 ?_))), res1 rfl rfl, rfl, rfl⟩
theorem rtext_spec (X : Asn) (p : Nat) (r : Rr) (most : Int) (hl : r.1.length ≤ 1000000000) :
    Fspec Tryz.prog B 99 #[.pointer (some ⟨p, 0, none⟩), .int .i64 most] [RdrP B X p r, X] (fun v A' => v = .string (bytesOf (rText r most).1) ∧ A' = [RdrP B X p (rText r most).2, X]) := by
  have hns := number_spec' (B := B) X p r hl
  have hle := rNum_le r
  refine spec_of (args := [_, _]) Tryz.func99 rfl rfl rfl ?_
  unfold rText
  obtain ⟨⟨n, l2, bad⟩, hn⟩ : ∃ q, rNum r = q := ⟨_, rfl⟩
  rw [hn] at hns hle ⊢
  simp only at hns hle ⊢
  by_cases hb : bad = true ∨ most < (n : Int) ∨ l2.length < n
  · rw [if_pos hb]
    repeat' (first
      | refine zh ?_
      | refine zK ?_
      | refine zS (h := ?_)
      | refine zU (h := ?_)
      | refine zi ?_
      | refine zR ?_
      | refine za ?_
      | refine zN ?_
      | refine zY ?_
      | refine zd ?_
      | refine zO ?_
      | refine zZ ?_
      | refine zQ rfl ?_
      | refine ze ?_
      | refine zX ?_
      | refine zP ?_
      | refine zT ?_
      | refine zL ?_
      | (refine zE (id := 0) ?_; intro K hK; refine zI (k := ?_); (refine zF (hK _ _ ?_); clear hK K))
      | (refine zE (id := 1) ?_; intro K hK; refine zD (k := ?_); refine zf (k' := ?_); (refine zF (hK _ _ ?_); clear hK K))
      | (refine zE (id := 2) ?_; intro K hK; refine zI (k := ?_); (refine zF (hK _ _ ?_); clear hK K))
      | (refine zE (id := 3) ?_; intro K hK; refine zD (k := ?_); refine zJ (k := ?_); refine zB (k := ?_); ((refine zb (hs := hns) (k := ?_); rintro v A' ⟨rfl, rfl⟩; simp only [List.cons_append, List.nil_append])) <;> (refine zI (k := ?_); (refine zF (hK _ _ ?_); clear hK K)))
      | (refine zc (ht := (fun ht => ?_)) (hf := (fun ht => ?_)) <;> (try simp at ht) <;> (try (exfalso; omega))))
    refine yE (fun x => ?_)
    obtain ⟨⟨a, c⟩, hr⟩ := x
    simp only at hr ⊢
    simp only [List.cons_append, List.nil_append]
    repeat' (first
      | refine zh ?_
      | refine zK ?_
      | refine zS (h := ?_)
      | refine zU (h := ?_)
      | refine zi ?_
      | refine zR ?_
      | refine za ?_
      | refine zN ?_
      | refine zY ?_
      | refine zd ?_
      | refine zO ?_
      | refine zZ ?_
      | refine zQ rfl ?_
      | refine ze ?_
      | refine zX ?_
      | refine zP ?_
      | refine zT ?_
      | refine zL ?_
      | (refine zE (id := 4) ?_; intro K hK; refine zD (k := ?_); refine zJ (k := ?_); refine zB (k := ?_); refine zB (k := ?_); refine zM (k := ?_); refine zD (k := ?_); ((first | (refine zA (k := ?_); refine zD (k := ?_)) | refine zC (k := ?_) | ((refine zG (yes := (fun ht => ?_)) (no := (fun ht => ?_)) <;> (try simp at ht) <;> (try (exfalso; omega))) <;> (first | (refine zA (k := ?_); refine zD (k := ?_)) | refine zC (k := ?_))))) <;> (((first | (refine zA (k := ?_); refine zD (k := ?_)) | refine zC (k := ?_) | ((refine zG (yes := (fun ht => ?_)) (no := (fun ht => ?_)) <;> (try simp at ht) <;> (try (exfalso; omega))) <;> (first | (refine zA (k := ?_); refine zD (k := ?_)) | refine zC (k := ?_))))) <;> (((first | (refine zA (k := ?_); refine zz (k' := ?_)) | refine zC (k := ?_) | ((refine zG (yes := (fun ht => ?_)) (no := (fun ht => ?_)) <;> (try simp at ht) <;> (try (exfalso; omega))) <;> (first | (refine zA (k := ?_); refine zz (k' := ?_)) | refine zC (k := ?_))))) <;> ((first | refine zV (k := ?_) | refine zW (k := ?_) | refine zg (k := ?_)); refine zD (k := ?_); ((first | (refine zA (k := ?_); refine zD (k := ?_)) | refine zC (k := ?_) | ((refine zG (yes := (fun ht => ?_)) (no := (fun ht => ?_)) <;> (try simp at ht) <;> (try (exfalso; omega))) <;> (first | (refine zA (k := ?_); refine zD (k := ?_)) | refine zC (k := ?_))))) <;> (((first | (refine zA (k := ?_); refine zD (k := ?_)) | refine zC (k := ?_) | ((refine zG (yes := (fun ht => ?_)) (no := (fun ht => ?_)) <;> (try simp at ht) <;> (try (exfalso; omega))) <;> (first | (refine zA (k := ?_); refine zD (k := ?_)) | refine zC (k := ?_))))) <;> (((first | (refine zA (k := ?_); refine zJ (k := ?_)) | refine zC (k := ?_) | ((refine zG (yes := (fun ht => ?_)) (no := (fun ht => ?_)) <;> (try simp at ht) <;> (try (exfalso; omega))) <;> (first | (refine zA (k := ?_); refine zJ (k := ?_)) | refine zC (k := ?_))))) <;> (((first | (refine zA (k := ?_); refine zB (k := ?_)) | refine zC (k := ?_) | ((refine zG (yes := (fun ht => ?_)) (no := (fun ht => ?_)) <;> (try simp at ht) <;> (try (exfalso; omega))) <;> (first | (refine zA (k := ?_); refine zB (k := ?_)) | refine zC (k := ?_))))) <;> (((first | (refine zA (k := ?_); refine zB (k := ?_)) | refine zC (k := ?_) | ((refine zG (yes := (fun ht => ?_)) (no := (fun ht => ?_)) <;> (try simp at ht) <;> (try (exfalso; omega))) <;> (first | (refine zA (k := ?_); refine zB (k := ?_)) | refine zC (k := ?_))))) <;> (((first | (refine zA (k := ?_); refine zM (k := ?_)) | refine zC (k := ?_) | ((refine zG (yes := (fun ht => ?_)) (no := (fun ht => ?_)) <;> (try simp at ht) <;> (try (exfalso; omega))) <;> (first | (refine zA (k := ?_); refine zM (k := ?_)) | refine zC (k := ?_))))) <;> (((first | (refine zA (k := ?_); refine zk (k' := ?_)) | refine zC (k := ?_) | ((refine zG (yes := (fun ht => ?_)) (no := (fun ht => ?_)) <;> (try simp at ht) <;> (try (exfalso; omega))) <;> (first | (refine zA (k := ?_); refine zk (k' := ?_)) | refine zC (k := ?_))))) <;> (((first | (refine zA (k := ?_); refine zz (k' := ?_)) | refine zC (k := ?_) | ((refine zG (yes := (fun ht => ?_)) (no := (fun ht => ?_)) <;> (try simp at ht) <;> (try (exfalso; omega))) <;> (first | (refine zA (k := ?_); refine zz (k' := ?_)) | refine zC (k := ?_))))) <;> ((first | refine zV (k := ?_) | refine zW (k := ?_) | refine zg (k := ?_)); (refine zF (hK _ _ ?_); clear hK K)))))))))))))
      | (refine zE (id := 5) ?_; intro K hK; refine zD (k := ?_); refine zJ (k := ?_); refine zB (k := ?_); refine zB (k := ?_); refine zr (ho := rfl) (k := ?_); (refine zF (hK _ _ ?_); clear hK K))
      | (refine zE (id := 6) ?_; intro K hK; refine zI (k := ?_); (refine zF (hK _ _ ?_); clear hK K))
      | (refine zc (ht := (fun ht => ?_)) (hf := (fun ht => ?_)) <;> (try simp at ht) <;> (try (exfalso; omega))))
    all_goals first
      | exact ⟨Or.inr rfl, _, [RdrP B X p (l2, true), X], fold_rdr (r := (l2, true)) hr (by (repeat (first | exact Ent.refl _ | exact Ent.nil | refine Ent.take (by (repeat (first | exact Out.head | apply Out.tail)); (first | done | fail)) ?_ | refine Ent.drop1 ?_)); (first | done | fail)), res1 rfl rfl, rfl, rfl⟩
      | (exfalso; rcases hb with hb | hb | hb <;> first | omega | (simp_all; done))
  · rw [if_neg hb]
    have hb1 : bad = false := by cases bad with | false => rfl | true => exact absurd (.inl rfl) hb
    subst hb1
    have hb2 : (n : Int) ≤ most := by
      rcases Int.lt_or_le most n with h | h
      · exact absurd (.inr (.inl h)) hb
      · exact h
    have hb3 : n ≤ l2.length := by
      rcases Nat.lt_or_ge l2.length n with h | h
      · exact absurd (.inr (.inr h)) hb
      · exact h
    repeat' (first
      | refine zh ?_
      | refine zK ?_
      | refine zS (h := ?_)
      | refine zU (h := ?_)
      | refine zi ?_
      | refine zR ?_
      | refine za ?_
      | refine zN ?_
      | refine zY ?_
      | refine zd ?_
      | refine zO ?_
      | refine zZ ?_
      | refine zQ rfl ?_
      | refine ze ?_
      | refine zX ?_
      | refine zP ?_
      | refine zT ?_
      | refine zL ?_
      | (refine zE (id := 0) ?_; intro K hK; refine zI (k := ?_); (refine zF (hK _ _ ?_); clear hK K))
      | (refine zE (id := 1) ?_; intro K hK; refine zD (k := ?_); refine zf (k' := ?_); (refine zF (hK _ _ ?_); clear hK K))
      | (refine zE (id := 2) ?_; intro K hK; refine zI (k := ?_); (refine zF (hK _ _ ?_); clear hK K))
      | (refine zE (id := 3) ?_; intro K hK; refine zD (k := ?_); refine zJ (k := ?_); refine zB (k := ?_); ((refine zb (hs := hns) (k := ?_); rintro v A' ⟨rfl, rfl⟩; simp only [List.cons_append, List.nil_append])) <;> (refine zI (k := ?_); (refine zF (hK _ _ ?_); clear hK K)))
      | (refine zc (ht := (fun ht => ?_)) (hf := (fun ht => ?_)) <;> (try simp at ht) <;> (try (exfalso; omega))))
    refine yE (fun x => ?_)
    obtain ⟨⟨a, c⟩, hr⟩ := x
    simp only at hr ⊢
    simp only [List.cons_append, List.nil_append]
    have hcap := hr.cap
    have htk : RdS Tryz.prog B [X] 1 a n c ((l2.take n).map byteV) := by
      have := hr.take hb3
      rwa [Nat.mul_one, ← List.map_take] at this
    have hcut : RdS Tryz.prog B [X] 1 (slAdd a c n 1) (l2.drop n).length (c - n) ((l2.drop n).map byteV) := by
      have := hr.cut (l := n) (h := l2.length) hb3 (Nat.le_refl _)
      rw [Nat.mul_one, Nat.mul_one, ← List.map_drop, List.take_of_length_le (by simp)] at this
      rw [List.length_drop]; exact this
    repeat' (first
      | refine zh ?_
      | refine zK ?_
      | refine zS (h := ?_)
      | refine zU (h := ?_)
      | refine zi ?_
      | refine zR ?_
      | refine za ?_
      | refine zN ?_
      | refine zY ?_
      | refine zd ?_
      | refine zO ?_
      | refine zZ ?_
      | refine zQ rfl ?_
      | refine ze ?_
      | refine zX ?_
      | refine zP ?_
      | refine zT ?_
      | refine zL ?_
      | (refine zE (id := 4) ?_; intro K hK; refine zD (k := ?_); refine zJ (k := ?_); refine zB (k := ?_); refine zB (k := ?_); refine zM (k := ?_); refine zD (k := ?_); ((first | (refine zA (k := ?_); refine zD (k := ?_)) | refine zC (k := ?_) | ((refine zG (yes := (fun ht => ?_)) (no := (fun ht => ?_)) <;> (try simp at ht) <;> (try (exfalso; omega))) <;> (first | (refine zA (k := ?_); refine zD (k := ?_)) | refine zC (k := ?_))))) <;> (((first | (refine zA (k := ?_); refine zD (k := ?_)) | refine zC (k := ?_) | ((refine zG (yes := (fun ht => ?_)) (no := (fun ht => ?_)) <;> (try simp at ht) <;> (try (exfalso; omega))) <;> (first | (refine zA (k := ?_); refine zD (k := ?_)) | refine zC (k := ?_))))) <;> (((first | (refine zA (k := ?_); refine zz (k' := ?_)) | refine zC (k := ?_) | ((refine zG (yes := (fun ht => ?_)) (no := (fun ht => ?_)) <;> (try simp at ht) <;> (try (exfalso; omega))) <;> (first | (refine zA (k := ?_); refine zz (k' := ?_)) | refine zC (k := ?_))))) <;> ((first | refine zV (k := ?_) | refine zW (k := ?_) | refine zg (k := ?_)); refine zD (k := ?_); ((first | (refine zA (k := ?_); refine zD (k := ?_)) | refine zC (k := ?_) | ((refine zG (yes := (fun ht => ?_)) (no := (fun ht => ?_)) <;> (try simp at ht) <;> (try (exfalso; omega))) <;> (first | (refine zA (k := ?_); refine zD (k := ?_)) | refine zC (k := ?_))))) <;> (((first | (refine zA (k := ?_); refine zD (k := ?_)) | refine zC (k := ?_) | ((refine zG (yes := (fun ht => ?_)) (no := (fun ht => ?_)) <;> (try simp at ht) <;> (try (exfalso; omega))) <;> (first | (refine zA (k := ?_); refine zD (k := ?_)) | refine zC (k := ?_))))) <;> (((first | (refine zA (k := ?_); refine zJ (k := ?_)) | refine zC (k := ?_) | ((refine zG (yes := (fun ht => ?_)) (no := (fun ht => ?_)) <;> (try simp at ht) <;> (try (exfalso; omega))) <;> (first | (refine zA (k := ?_); refine zJ (k := ?_)) | refine zC (k := ?_))))) <;> (((first | (refine zA (k := ?_); refine zB (k := ?_)) | refine zC (k := ?_) | ((refine zG (yes := (fun ht => ?_)) (no := (fun ht => ?_)) <;> (try simp at ht) <;> (try (exfalso; omega))) <;> (first | (refine zA (k := ?_); refine zB (k := ?_)) | refine zC (k := ?_))))) <;> (((first | (refine zA (k := ?_); refine zB (k := ?_)) | refine zC (k := ?_) | ((refine zG (yes := (fun ht => ?_)) (no := (fun ht => ?_)) <;> (try simp at ht) <;> (try (exfalso; omega))) <;> (first | (refine zA (k := ?_); refine zB (k := ?_)) | refine zC (k := ?_))))) <;> (((first | (refine zA (k := ?_); refine zM (k := ?_)) | refine zC (k := ?_) | ((refine zG (yes := (fun ht => ?_)) (no := (fun ht => ?_)) <;> (try simp at ht) <;> (try (exfalso; omega))) <;> (first | (refine zA (k := ?_); refine zM (k := ?_)) | refine zC (k := ?_))))) <;> (((first | (refine zA (k := ?_); refine zk (k' := ?_)) | refine zC (k := ?_) | ((refine zG (yes := (fun ht => ?_)) (no := (fun ht => ?_)) <;> (try simp at ht) <;> (try (exfalso; omega))) <;> (first | (refine zA (k := ?_); refine zk (k' := ?_)) | refine zC (k := ?_))))) <;> (((first | (refine zA (k := ?_); refine zz (k' := ?_)) | refine zC (k := ?_) | ((refine zG (yes := (fun ht => ?_)) (no := (fun ht => ?_)) <;> (try simp at ht) <;> (try (exfalso; omega))) <;> (first | (refine zA (k := ?_); refine zz (k' := ?_)) | refine zC (k := ?_))))) <;> ((first | refine zV (k := ?_) | refine zW (k := ?_) | refine zg (k := ?_)); (refine zF (hK _ _ ?_); clear hK K)))))))))))))
      | (refine zE (id := 7) ?_; intro K hK; refine zD (k := ?_); refine zJ (k := ?_); refine zB (k := ?_); refine zB (k := ?_); refine zM (k := ?_); refine zD (k := ?_); ((refine yb (h := n) (hhi := ⟨_, rfl⟩) (hhc := by omega) (k' := ?_))) <;> (((refine yU (cs := l2.take n) (hsrc := (rds_sub htk (by (repeat (first | exact Out.head | apply Out.tail)); (first | done | fail))).src) (hl := by rw [List.length_take]; omega) (k := ?_))) <;> (refine zI (k := ?_); (refine zF (hK _ _ ?_); clear hK K))))
      | (refine zE (id := 8) ?_; intro K hK; refine zD (k := ?_); refine zD (k := ?_); refine zJ (k := ?_); refine zB (k := ?_); refine zB (k := ?_); refine zM (k := ?_); refine zD (k := ?_); ((refine yY (l := n) (h := l2.length) (hlo := ⟨_, rfl⟩) (hhi := rfl) (hlh := by omega) (hhc := hcap) (k' := ?_); rw [← List.length_drop])) <;> (refine zJ (k := ?_); refine zB (k := ?_); refine zB (k := ?_); refine zr (ho := rfl) (k := ?_); (refine zF (hK _ _ ?_); clear hK K)))
      | (refine zE (id := 9) ?_; intro K hK; refine zD (k := ?_); refine zI (k := ?_); (refine zF (hK _ _ ?_); clear hK K))
      | (refine zc (ht := (fun ht => ?_)) (hf := (fun ht => ?_)) <;> (try simp at ht) <;> (try (exfalso; omega))))
    all_goals first
      | exact ⟨Or.inr rfl, _, [RdrP B X p (l2.drop n, false), X], fold_rdr (r := (l2.drop n, false)) hcut (by (repeat (first | exact Ent.refl _ | exact Ent.nil | refine Ent.take (by (repeat (first | exact Out.head | apply Out.tail)); (first | done | fail)) ?_ | refine Ent.drop1 ?_)); (first | done | fail)), res1 rfl rfl, rfl, rfl⟩
      | (exfalso; omega)
theorem rend_spec (X : Asn) (p : Nat) (r : Rr) :
    Fspec Tryz.prog B 69 #[.pointer (some ⟨p, 0, none⟩)] [RdrP B X p r, X] (fun v A' => v = .int .i64 (if r.2 = true ∨ 0 < r.1.length then 2 else 0) ∧ A' = [RdrP B X p r, X]) := by
  refine spec_of (args := [_]) Tryz.func69 rfl rfl rfl ?_
  refine yE (fun x => ?_)
  obtain ⟨⟨a, c⟩, hr⟩ := x
  obtain ⟨l, bad⟩ := r
  simp only at hr ⊢
  simp only [List.cons_append, List.nil_append]
  by_cases hb : bad = true ∨ 0 < l.length
  · rw [if_pos hb]
    repeat' (first
      | refine zh ?_
      | refine zK ?_
      | refine zS (h := ?_)
      | refine zU (h := ?_)
      | refine zi ?_
      | refine zR ?_
      | refine za ?_
      | refine zN ?_
      | refine zY ?_
      | refine zd ?_
      | refine zO ?_
      | refine zZ ?_
      | refine zQ rfl ?_
      | refine ze ?_
      | refine zX ?_
      | refine zP ?_
      | refine zT ?_
      | refine zL ?_
      | (refine zE (id := 0) ?_; intro K hK; refine zI (k := ?_); (refine zF (hK _ _ ?_); clear hK K))
      | (refine zE (id := 1) ?_; intro K hK; refine zD (k := ?_); refine zf (k' := ?_); refine zD (k := ?_); ((first | (refine zA (k := ?_); refine zD (k := ?_)) | refine zC (k := ?_) | ((refine zG (yes := (fun ht => ?_)) (no := (fun ht => ?_)) <;> (try simp at ht) <;> (try (exfalso; omega))) <;> (first | (refine zA (k := ?_); refine zD (k := ?_)) | refine zC (k := ?_))))) <;> (((first | (refine zA (k := ?_); refine zJ (k := ?_)) | refine zC (k := ?_) | ((refine zG (yes := (fun ht => ?_)) (no := (fun ht => ?_)) <;> (try simp at ht) <;> (try (exfalso; omega))) <;> (first | (refine zA (k := ?_); refine zJ (k := ?_)) | refine zC (k := ?_))))) <;> (((first | (refine zA (k := ?_); refine zB (k := ?_)) | refine zC (k := ?_) | ((refine zG (yes := (fun ht => ?_)) (no := (fun ht => ?_)) <;> (try simp at ht) <;> (try (exfalso; omega))) <;> (first | (refine zA (k := ?_); refine zB (k := ?_)) | refine zC (k := ?_))))) <;> (((first | (refine zA (k := ?_); refine zB (k := ?_)) | refine zC (k := ?_) | ((refine zG (yes := (fun ht => ?_)) (no := (fun ht => ?_)) <;> (try simp at ht) <;> (try (exfalso; omega))) <;> (first | (refine zA (k := ?_); refine zB (k := ?_)) | refine zC (k := ?_))))) <;> (((first | (refine zA (k := ?_); refine zM (k := ?_)) | refine zC (k := ?_) | ((refine zG (yes := (fun ht => ?_)) (no := (fun ht => ?_)) <;> (try simp at ht) <;> (try (exfalso; omega))) <;> (first | (refine zA (k := ?_); refine zM (k := ?_)) | refine zC (k := ?_))))) <;> ((first | refine zV (k := ?_) | refine zW (k := ?_) | refine zg (k := ?_)); refine zD (k := ?_); ((first | (refine zA (k := ?_); refine zD (k := ?_)) | refine zC (k := ?_) | ((refine zG (yes := (fun ht => ?_)) (no := (fun ht => ?_)) <;> (try simp at ht) <;> (try (exfalso; omega))) <;> (first | (refine zA (k := ?_); refine zD (k := ?_)) | refine zC (k := ?_))))) <;> (((first | (refine zA (k := ?_); refine zJ (k := ?_)) | refine zC (k := ?_) | ((refine zG (yes := (fun ht => ?_)) (no := (fun ht => ?_)) <;> (try simp at ht) <;> (try (exfalso; omega))) <;> (first | (refine zA (k := ?_); refine zJ (k := ?_)) | refine zC (k := ?_))))) <;> (((first | (refine zA (k := ?_); refine zB (k := ?_)) | refine zC (k := ?_) | ((refine zG (yes := (fun ht => ?_)) (no := (fun ht => ?_)) <;> (try simp at ht) <;> (try (exfalso; omega))) <;> (first | (refine zA (k := ?_); refine zB (k := ?_)) | refine zC (k := ?_))))) <;> (((first | (refine zA (k := ?_); refine zB (k := ?_)) | refine zC (k := ?_) | ((refine zG (yes := (fun ht => ?_)) (no := (fun ht => ?_)) <;> (try simp at ht) <;> (try (exfalso; omega))) <;> (first | (refine zA (k := ?_); refine zB (k := ?_)) | refine zC (k := ?_))))) <;> (((first | (refine zA (k := ?_); refine zM (k := ?_)) | refine zC (k := ?_) | ((refine zG (yes := (fun ht => ?_)) (no := (fun ht => ?_)) <;> (try simp at ht) <;> (try (exfalso; omega))) <;> (first | (refine zA (k := ?_); refine zM (k := ?_)) | refine zC (k := ?_))))) <;> (((first | (refine zA (k := ?_); refine zk (k' := ?_)) | refine zC (k := ?_) | ((refine zG (yes := (fun ht => ?_)) (no := (fun ht => ?_)) <;> (try simp at ht) <;> (try (exfalso; omega))) <;> (first | (refine zA (k := ?_); refine zk (k' := ?_)) | refine zC (k := ?_))))) <;> (((first | (refine zA (k := ?_); refine zz (k' := ?_)) | refine zC (k := ?_) | ((refine zG (yes := (fun ht => ?_)) (no := (fun ht => ?_)) <;> (try simp at ht) <;> (try (exfalso; omega))) <;> (first | (refine zA (k := ?_); refine zz (k' := ?_)) | refine zC (k := ?_))))) <;> ((first | refine zV (k := ?_) | refine zW (k := ?_) | refine zg (k := ?_)); (refine zF (hK _ _ ?_); clear hK K))))))))))))))
      | (refine zE (id := 2) ?_; intro K hK; refine zI (k := ?_); (refine zF (hK _ _ ?_); clear hK K))
      | (refine zc (ht := (fun ht => ?_)) (hf := (fun ht => ?_)) <;> (try simp at ht) <;> (try (exfalso; omega))))
    all_goals first
      | exact ⟨Or.inr rfl, _, [RdrP B X p (l, _), X], fold_rdr (r := (l, _)) hr (by (repeat (first | exact Ent.refl _ | exact Ent.nil | refine Ent.take (by (repeat (first | exact Out.head | apply Out.tail)); (first | done | fail)) ?_ | refine Ent.drop1 ?_)); (first | done | fail)), res1 rfl rfl, rfl, rfl⟩
      | (exfalso; rcases hb with hb | hb; (simp_all; done); omega)
      | (exfalso; simp_all; done)
  · rw [if_neg hb]
    repeat' (first
      | refine zh ?_
      | refine zK ?_
      | refine zS (h := ?_)
      | refine zU (h := ?_)
      | refine zi ?_
      | refine zR ?_
      | refine za ?_
      | refine zN ?_
      | refine zY ?_
      | refine zd ?_
      | refine zO ?_
      | refine zZ ?_
      | refine zQ rfl ?_
      | refine ze ?_
      | refine zX ?_
      | refine zP ?_
      | refine zT ?_
      | refine zL ?_
      | (refine zE (id := 0) ?_; intro K hK; refine zI (k := ?_); (refine zF (hK _ _ ?_); clear hK K))
      | (refine zE (id := 1) ?_; intro K hK; refine zD (k := ?_); refine zf (k' := ?_); refine zD (k := ?_); ((first | (refine zA (k := ?_); refine zD (k := ?_)) | refine zC (k := ?_) | ((refine zG (yes := (fun ht => ?_)) (no := (fun ht => ?_)) <;> (try simp at ht) <;> (try (exfalso; omega))) <;> (first | (refine zA (k := ?_); refine zD (k := ?_)) | refine zC (k := ?_))))) <;> (((first | (refine zA (k := ?_); refine zJ (k := ?_)) | refine zC (k := ?_) | ((refine zG (yes := (fun ht => ?_)) (no := (fun ht => ?_)) <;> (try simp at ht) <;> (try (exfalso; omega))) <;> (first | (refine zA (k := ?_); refine zJ (k := ?_)) | refine zC (k := ?_))))) <;> (((first | (refine zA (k := ?_); refine zB (k := ?_)) | refine zC (k := ?_) | ((refine zG (yes := (fun ht => ?_)) (no := (fun ht => ?_)) <;> (try simp at ht) <;> (try (exfalso; omega))) <;> (first | (refine zA (k := ?_); refine zB (k := ?_)) | refine zC (k := ?_))))) <;> (((first | (refine zA (k := ?_); refine zB (k := ?_)) | refine zC (k := ?_) | ((refine zG (yes := (fun ht => ?_)) (no := (fun ht => ?_)) <;> (try simp at ht) <;> (try (exfalso; omega))) <;> (first | (refine zA (k := ?_); refine zB (k := ?_)) | refine zC (k := ?_))))) <;> (((first | (refine zA (k := ?_); refine zM (k := ?_)) | refine zC (k := ?_) | ((refine zG (yes := (fun ht => ?_)) (no := (fun ht => ?_)) <;> (try simp at ht) <;> (try (exfalso; omega))) <;> (first | (refine zA (k := ?_); refine zM (k := ?_)) | refine zC (k := ?_))))) <;> ((first | refine zV (k := ?_) | refine zW (k := ?_) | refine zg (k := ?_)); refine zD (k := ?_); ((first | (refine zA (k := ?_); refine zD (k := ?_)) | refine zC (k := ?_) | ((refine zG (yes := (fun ht => ?_)) (no := (fun ht => ?_)) <;> (try simp at ht) <;> (try (exfalso; omega))) <;> (first | (refine zA (k := ?_); refine zD (k := ?_)) | refine zC (k := ?_))))) <;> (((first | (refine zA (k := ?_); refine zJ (k := ?_)) | refine zC (k := ?_) | ((refine zG (yes := (fun ht => ?_)) (no := (fun ht => ?_)) <;> (try simp at ht) <;> (try (exfalso; omega))) <;> (first | (refine zA (k := ?_); refine zJ (k := ?_)) | refine zC (k := ?_))))) <;> (((first | (refine zA (k := ?_); refine zB (k := ?_)) | refine zC (k := ?_) | ((refine zG (yes := (fun ht => ?_)) (no := (fun ht => ?_)) <;> (try simp at ht) <;> (try (exfalso; omega))) <;> (first | (refine zA (k := ?_); refine zB (k := ?_)) | refine zC (k := ?_))))) <;> (((first | (refine zA (k := ?_); refine zB (k := ?_)) | refine zC (k := ?_) | ((refine zG (yes := (fun ht => ?_)) (no := (fun ht => ?_)) <;> (try simp at ht) <;> (try (exfalso; omega))) <;> (first | (refine zA (k := ?_); refine zB (k := ?_)) | refine zC (k := ?_))))) <;> (((first | (refine zA (k := ?_); refine zM (k := ?_)) | refine zC (k := ?_) | ((refine zG (yes := (fun ht => ?_)) (no := (fun ht => ?_)) <;> (try simp at ht) <;> (try (exfalso; omega))) <;> (first | (refine zA (k := ?_); refine zM (k := ?_)) | refine zC (k := ?_))))) <;> (((first | (refine zA (k := ?_); refine zk (k' := ?_)) | refine zC (k := ?_) | ((refine zG (yes := (fun ht => ?_)) (no := (fun ht => ?_)) <;> (try simp at ht) <;> (try (exfalso; omega))) <;> (first | (refine zA (k := ?_); refine zk (k' := ?_)) | refine zC (k := ?_))))) <;> (((first | (refine zA (k := ?_); refine zz (k' := ?_)) | refine zC (k := ?_) | ((refine zG (yes := (fun ht => ?_)) (no := (fun ht => ?_)) <;> (try simp at ht) <;> (try (exfalso; omega))) <;> (first | (refine zA (k := ?_); refine zz (k' := ?_)) | refine zC (k := ?_))))) <;> ((first | refine zV (k := ?_) | refine zW (k := ?_) | refine zg (k := ?_)); (refine zF (hK _ _ ?_); clear hK K))))))))))))))
      | (refine zE (id := 2) ?_; intro K hK; refine zI (k := ?_); (refine zF (hK _ _ ?_); clear hK K))
      | (refine zE (id := 3) ?_; intro K hK; refine zI (k := ?_); (refine zF (hK _ _ ?_); clear hK K))
      | (refine zc (ht := (fun ht => ?_)) (hf := (fun ht => ?_)) <;> (try simp at ht) <;> (try (exfalso; omega))))
    all_goals first
      | exact ⟨Or.inr rfl, _, [RdrP B X p (l, _), X], fold_rdr (r := (l, _)) hr (by (repeat (first | exact Ent.refl _ | exact Ent.nil | refine Ent.take (by (repeat (first | exact Out.head | apply Out.tail)); (first | done | fail)) ?_ | refine Ent.drop1 ?_)); (first | done | fail)), res1 rfl rfl, rfl, rfl⟩
      | (exfalso; exact hb (.inl (by assumption)))
      | (exfalso; exact hb (.inr (by omega)))
/-- A reader of some bytes has a copy of them. -/
theorem rnew_spec (A0 : List Asn) (a : Option Addr) (m c : Nat) (l : List UInt8) (h : RdS Tryz.prog B A0 1 a m c (l.map byteV)) (hm : m ≤ 900000000) :
    Fspec Tryz.prog B 64 #[.slice a m c] A0 (fun v A' => ∃ p b bc, v = .pointer (some ⟨p, 0, none⟩) ∧ A' = RdrP B (own b l.length bc 1 (l.map byteV) 5) p (l, false) :: own b l.length bc 1 (l.map byteV) 5 :: A0) := by
  have hl : l.length = m := by have := h.len; simpa using this
  subst hl
  refine spec_of (args := [_]) Tryz.func64 rfl rfl rfl ?_
  repeat' (first
    | refine zh ?_
    | refine zK ?_
    | refine zS (h := ?_)
    | refine zU (h := ?_)
    | refine zi ?_
    | refine zR ?_
    | refine za ?_
    | refine zN ?_
    | refine zY ?_
    | refine zd ?_
    | refine zO ?_
    | refine zZ ?_
    | refine zQ rfl ?_
    | refine ze ?_
    | refine zX ?_
    | refine zP ?_
    | refine zT ?_
    | refine zL ?_
    | (refine zE (id := 0) ?_; intro K hK; refine zI (k := ?_); (refine zF (hK _ _ ?_); clear hK K))
    | (refine zE (id := 1) ?_; intro K hK; (refine yR (k := ?_); intro r); refine zD (k := ?_); ((refine yL (hsrc := h.tail) (hvc := byteV_all _) (hbd := by omega) (k := ?_); intro oa' oc'; rw [Nat.zero_add, List.nil_append]; refine z7 (a := oa') (sz := 1) (h0 := by omega) (h := fun hf => ?_))) <;> (refine zt (k := ?_); refine zt (k := ?_); ((refine zw (l := [.slice oa' l.length oc', .bool false]) (k := ?_); intro pr)) <;> (refine zI (k := ?_); (refine zF (hK _ _ ?_); clear hK K))))
    | (refine zc (ht := (fun ht => ?_)) (hf := (fun ht => ?_)) <;> (try simp at ht) <;> (try (exfalso; omega))))
  refine ⟨Or.inr rfl, _, RdrP B (own oa' l.length oc' 1 (l.map byteV) 5) pr (l, false) :: own oa' l.length oc' 1 (l.map byteV) 5 :: A0, ?_, res1 rfl rfl, pr, oa', oc', rfl, rfl⟩
  refine fold_rdr (r := (l, false)) (a := oa') (c := oc') (hf.rd (M := []) .head) ?_
  (repeat (first | exact Ent.refl _ | exact Ent.nil | refine Ent.take (by (repeat (first | exact Out.head | apply Out.tail)); (first | done | fail)) ?_ | refine Ent.drop1 ?_))
end specs
end Go.Proofs.YtnoggejkkjngjaaGreat
/- Package state: a state's bytes; another state like it. Conditions: none but the kinds' bounds, and not too many rows. -/
set_option maxHeartbeats 8000000
set_option linter.unusedVariables false
set_option linter.unusedSimpArgs false
set_option maxRecDepth 100000
namespace Go.Proofs.YtnoggejkkjngjaaGreat
open Go Go.Sl
attribute [local irreducible] Go.Sl.Wl Go.Sl.Wc Go.Sl.thenQ Go.Sl.blkQ Go.Sl.loopQ Go.Sl.Fspec

/-! ### What is written stays good and small -/
theorem wNum_ok (w : Wr) {n : Int} (h : numOk n = true) : (wNum w n).2 = w.2 ∧ (wNum w n).1.length ≤ w.1.length + 9 := by
  have hn : 0 ≤ n ∧ n ≤ 9007199254740992 := by unfold numOk at h; exact of_decide_eq_true h
  unfold wNum
  rw [if_neg (by rw [h]; simp)]
  split
  · exact ⟨rfl, by omega⟩
  · rename_i hb
    have := encN_few n.toNat (by omega)
    refine ⟨by simpa using hb, ?_⟩
    simp only [List.length_append]; omega
theorem wFlag_ok (w : Wr) (b : Bool) : (wFlag w b).2 = w.2 ∧ (wFlag w b).1.length ≤ w.1.length + 9 := wNum_ok w (by cases b <;> decide)
theorem wText_ok (w : Wr) {s : ByteArray} (h : s.size ≤ 1000000) : (wText w s).2 = w.2 ∧ (wText w s).1.length ≤ w.1.length + 9 + s.size := by
  have h1 := wNum_ok w (n := s.size) (by unfold numOk; exact decide_eq_true (by omega))
  have hsz : s.data.toList.length = s.size := by rw [Array.length_toList]; rfl
  unfold wText
  split
  · exact ⟨h1.1, by omega⟩
  · rename_i hb
    refine ⟨by rw [← h1.1]; simpa using hb, ?_⟩
    simp only [List.length_append, hsz]; omega
theorem wPos_ok (w : Wr) {e i : Int} (h1 : numOk e = true) (h2 : numOk i = true) : (wPos w e i).2 = w.2 ∧ (wPos w e i).1.length ≤ w.1.length + 18 := by
  have a := wNum_ok w h1
  have b := wNum_ok (wNum w e) h2
  exact ⟨b.1.trans a.1, by have := a.2; have := b.2; show (wNum (wNum w e) i).1.length ≤ _; omega⟩
theorem fold_ok {α : Type} {f : Wr → α → Wr} {C : Nat} : ∀ (l : List α) (w : Wr), (∀ x ∈ l, ∀ w, (f w x).2 = w.2 ∧ (f w x).1.length ≤ w.1.length + C) → (l.foldl f w).2 = w.2 ∧ (l.foldl f w).1.length ≤ w.1.length + C * l.length
  | [], w, _ => ⟨rfl, by simp⟩
  | x :: l, w, h => by
    have h1 := h x (List.mem_cons_self ..) w
    have h2 := fold_ok l (f w x) (fun y hy => h y (List.mem_cons_of_mem _ hy))
    refine ⟨h2.1.trans h1.1, ?_⟩
    have := h1.2
    have := h2.2
    simp only [List.foldl_cons, List.length_cons, Nat.mul_add, Nat.mul_one]; omega
theorem num_pos {T : List Ep} {e i : Int} (h : onT T e i = true) : numOk e = true ∧ numOk i = true := by
  have := on_range h
  unfold numOk
  exact ⟨decide_eq_true (by omega), decide_eq_true (by omega)⟩
theorem numB_num {n : Int} (h : numB n = true) : numOk n = true := by
  unfold numB at h
  have := of_decide_eq_true h
  unfold numOk; exact decide_eq_true (by omega)
theorem wEp_ok (w : Wr) {e : Ep} (h : e.fair) : (wEp w e).2 = w.2 ∧ (wEp w e).1.length ≤ w.1.length + 27 := by
  unfold Ep.fair at h
  have a := wNum_ok w (n := e.master) (by unfold numOk; exact decide_eq_true (by omega))
  have b := wNum_ok (wNum w e.master) (n := e.cut) (by unfold numOk; exact decide_eq_true (by omega))
  have c := wFlag_ok (wNum (wNum w e.master) e.cut) e.forced
  exact ⟨c.1.trans (b.1.trans a.1), by have := a.2; have := b.2; have := c.2; show (wFlag (wNum (wNum w e.master) e.cut) e.forced).1.length ≤ _; omega⟩
theorem wEnt_ok (w : Wr) {T : List Ep} {x : EnX} (h : EntP T x) : (wEnt w x).2 = w.2 ∧ (wEnt w x).1.length ≤ w.1.length + 1200 := by
  have hn := num_pos h.on
  have a1 := wPos_ok w hn.1 hn.2
  have a2 := wNum_ok (wPos w x.e x.i) (numB_num h.ns)
  have a3 := wNum_ok (wNum (wPos w x.e x.i) x.s) (numB_num h.nr)
  have a4 := wText_ok (wNum (wNum (wPos w x.e x.i) x.s) x.r) (s := x.key) (by have := h.ks; omega)
  have a5 := wFlag_ok (wText (wNum (wNum (wPos w x.e x.i) x.s) x.r) x.key) x.del
  have a6 := wText_ok (wFlag (wText (wNum (wNum (wPos w x.e x.i) x.s) x.r) x.key) x.del) (s := x.tx) (by have := h.ts; omega)
  have := h.ks
  have := h.ts
  exact ⟨a6.1.trans (a5.1.trans (a4.1.trans (a3.1.trans (a2.1.trans a1.1)))), by
    have := a1.2; have := a2.2; have := a3.2; have := a4.2; have := a5.2; have := a6.2
    show (wText (wFlag (wText (wNum (wNum (wPos w x.e x.i) x.s) x.r) x.key) x.del) x.tx).1.length ≤ _; omega⟩
theorem wPr_ok (w : Wr) {T : List Ep} {ae ai : Int} {x : PrX} (h : prOk T ae ai x = true) : (wPr w x).2 = w.2 ∧ (wPr w x).1.length ≤ w.1.length + 1200 := by
  obtain ⟨h1, h2, _, h4⟩ := prOk_out h
  have hn := num_pos (below_out h4).1
  have a1 := wText_ok w (s := x.k) (by omega)
  have a2 := wPos_ok (wText w x.k) hn.1 hn.2
  have a3 := wFlag_ok (wPos (wText w x.k) x.v.a x.v.b) x.v.c
  have a4 := wText_ok (wFlag (wPos (wText w x.k) x.v.a x.v.b) x.v.c) (s := x.v.d) (by omega)
  exact ⟨a4.1.trans (a3.1.trans (a2.1.trans a1.1)), by
    have := a1.2; have := a2.2; have := a3.2; have := a4.2
    show (wText (wFlag (wPos (wText w x.k) x.v.a x.v.b) x.v.c) x.v.d).1.length ≤ _; omega⟩
theorem wSs_ok (w : Wr) {T : List Ep} {ae ai : Int} {x : SX} (h : ssOk T ae ai x = true) : (wSs w x).2 = w.2 ∧ (wSs w x).1.length ≤ w.1.length + 36 := by
  obtain ⟨h1, h2, h4⟩ := ssOk_out h
  have hn := num_pos (below_out h4).1
  have a1 := wNum_ok w (numB_num h1)
  have a2 := wNum_ok (wNum w x.s) (numB_num h2)
  have a3 := wPos_ok (wNum (wNum w x.s) x.r) hn.1 hn.2
  exact ⟨a3.1.trans (a2.1.trans a1.1), by
    have := a1.2; have := a2.2; have := a3.2
    show (wPos (wNum (wNum w x.s) x.r) x.e x.i).1.length ≤ _; omega⟩
theorem wSnap_ok (w : Wr) {T : List Ep} {b : SnX} (h : b = SnX.zero ∨ RightP T b) (hl : b.ps.length ≤ 100000) : (wSnap w b).2 = w.2 ∧ (wSnap w b).1.length ≤ w.1.length + 121000000 := by
  have hp : numOk b.e = true ∧ numOk b.i = true := by
    rcases h with rfl | h
    · exact ⟨by decide, by decide⟩
    · exact num_pos h.on
  have hs : b.ss.length ≤ 16 := by
    rcases h with rfl | h
    · simp [SnX.zero]
    · exact h.few
  have a1 := wPos_ok w hp.1 hp.2
  have a2 := wNum_ok (wPos w b.e b.i) (n := (b.ps.length : Nat)) (by unfold numOk; exact decide_eq_true (by omega))
  have a3 := fold_ok (f := wPr) (C := 1200) b.ps (wNum (wPos w b.e b.i) (b.ps.length : Nat)) (fun x hx w => by
    rcases h with rfl | h
    · simp [SnX.zero] at hx
    · exact wPr_ok w (h.prs x hx))
  have a4 := wNum_ok (b.ps.foldl wPr (wNum (wPos w b.e b.i) (b.ps.length : Nat))) (n := (b.ss.length : Nat)) (by unfold numOk; exact decide_eq_true (by omega))
  have a5 := fold_ok (f := wSs) (C := 36) b.ss (wNum (b.ps.foldl wPr (wNum (wPos w b.e b.i) (b.ps.length : Nat))) (b.ss.length : Nat)) (fun x hx w => by
    rcases h with rfl | h
    · simp [SnX.zero] at hx
    · exact wSs_ok w (h.sss x hx))
  unfold wSnap
  exact ⟨a5.1.trans (a4.1.trans (a3.1.trans (a2.1.trans a1.1))), by have := a1.2; have := a2.2; have := a3.2; have := a4.2; have := a5.2; omega⟩
theorem wState_ok {S : G15} {n : Nat} (h : S.inv n) : (wState S).2 = false ∧ (wState S).1.length ≤ 200000000 := by
  have htab := rightT_out h.ok.tab
  have hfew := h.ok.few
  have a1 := wNum_ok ([], false) (n := (S.table.length : Nat)) (by unfold numOk; exact decide_eq_true (by omega))
  have a2 := fold_ok (f := wEp) (C := 27) S.table (wNum ([], false) (S.table.length : Nat)) (fun x hx w => wEp_ok w (htab.2.2.1 x hx))
  have a3 := wFlag_ok (S.table.foldl wEp (wNum ([], false) (S.table.length : Nat))) S.closed
  have a4 := wSnap_ok (wFlag (S.table.foldl wEp (wNum ([], false) (S.table.length : Nat))) S.closed) h.bz h.ok.bps
  have a5 := wNum_ok (wSnap (wFlag (S.table.foldl wEp (wNum ([], false) (S.table.length : Nat))) S.closed) S.base) (n := (S.es.length : Nat)) (by unfold numOk; exact decide_eq_true (by omega))
  have a6 := fold_ok (f := wEnt) (C := 1200) S.es (wNum (wSnap (wFlag (S.table.foldl wEp (wNum ([], false) (S.table.length : Nat))) S.closed) S.base) (S.es.length : Nat)) (fun x hx w => wEnt_ok w (h.en x hx))
  unfold wState
  refine ⟨a6.1.trans (a5.1.trans (a4.1.trans (a3.1.trans (a2.1.trans a1.1)))), ?_⟩
  have := a1.2; have := a2.2; have := a3.2; have := a4.2; have := a5.2; have := a6.2
  simp only [List.length_nil] at *
  omega
def encS (S : G15) : List UInt8 := (wState S).1
section specs
variable {B : Base}
theorem putSnap_spec (A0 : List Asn) (p : Nat) (w : Wr) (b : SnX) (hps : b.ps.length ≤ 900000000) (hss : b.ss.length ≤ 900000000) (pa : Option Addr) (pc : Nat) (sa : Option Addr) (sc : Nat)
    (h1 : RdS Tryz.prog B A0 5 pa b.ps.length pc (prC b.ps)) (h2 : RdS Tryz.prog B A0 4 sa b.ss.length sc (ssC b.ss)) (hm : (wSnap w b).1.length ≤ 900000000) :
    Fspec Tryz.prog B 61 #[.pointer (some ⟨p, 0, none⟩), .agg #[.int .i64 b.e, .int .i64 b.i, .slice pa b.ps.length pc, .slice sa b.ss.length sc]] (WrP p w :: A0) (fun v A' => v = .tuple #[] ∧ A' = WrP p (wSnap w b) :: A0) := by
  have he : Ent [lst A0] A0 := by simpa using Ent.lst_open A0 []
  have hs : Ent A0 [lst A0] := by simpa using Ent.lst_shut A0 []
  refine ((putSnap1_spec (lst A0) p w b hps hss pa pc sa sc (RdS.ofEnt h1 he) (RdS.ofEnt h2 he) hm).ent (Ent.cons _ hs)).conv ?_
  rintro v A' ⟨rfl, rfl⟩
  exact ⟨_, Ent.cons _ he, rfl, rfl⟩
theorem gencode_spec (st : Nat) (S : G15) (n : Nat) (hS : S.inv n) :
    Fspec Tryz.prog B 24 #[.pointer (some ⟨st, 0, none⟩)] [GtP st S] (fun v A' => ∃ a c, v = .slice a (encS S).length c ∧ A' = [own a (encS S).length c 1 ((encS S).map byteV) 5, GtP st S]) := by
  have hok := wState_ok hS
  have htab := rightT_out hS.ok.tab
  have hfew := hS.ok.few
  have hbps := hS.ok.bps
  have hbss := hS.ok.bok.few
  obtain ⟨w1, e1⟩ : ∃ q, wNum ([], false) (S.table.length : Nat) = q := ⟨_, rfl⟩
  obtain ⟨w2, e2⟩ : ∃ q, S.table.foldl wEp w1 = q := ⟨_, rfl⟩
  obtain ⟨w3, e3⟩ : ∃ q, wFlag w2 S.closed = q := ⟨_, rfl⟩
  obtain ⟨w4, e4⟩ : ∃ q, wSnap w3 S.base = q := ⟨_, rfl⟩
  obtain ⟨w5, e5⟩ : ∃ q, wNum w4 (S.es.length : Nat) = q := ⟨_, rfl⟩
  obtain ⟨w6, e6⟩ : ∃ q, S.es.foldl wEnt w5 = q := ⟨_, rfl⟩
  have l2 := fold_le wEp_le S.table w1
  have l3 := wFlag_le w2 S.closed
  have l4 : w3.1.length ≤ (wSnap w3 S.base).1.length := by
    unfold wSnap
    exact Nat.le_trans (Nat.le_trans (Nat.le_trans (Nat.le_trans (wPos_le _ _ _) (wNum_le _ _)) (fold_le wPr_le _ _)) (wNum_le _ _)) (fold_le wSs_le _ _)
  have l5 := wNum_le w4 (S.es.length : Nat)
  have l6 := fold_le wEnt_le S.es w5
  have k1 := fold_take_le wEp_le S.table w1
  have k2 := fold_take_le wEnt_le S.es w5
  have hW : wState S = w6 := by unfold wState; rw [e1, e2, e3, e4, e5, e6]
  have hE : encS S = w6.1 := by unfold encS; rw [hW]
  rw [hW] at hok
  rw [hE]
  rw [e2] at l2 k1
  rw [e3] at l3
  rw [e4] at l4
  rw [e5] at l5
  rw [e6] at l6 k2
  obtain ⟨b6, d6⟩ := w6
  obtain rfl : d6 = false := hok.1
  have hb6 : b6.length ≤ 200000000 := hok.2
  have hb6' : (b6, false).1.length = b6.length := rfl
  refine spec_of (args := [_]) Tryz.func24 rfl rfl rfl ?_
  refine yE (fun q => ?_)
  obtain ⟨k, d, ta, tc, pa, pc, sa, sc, ea, ec⟩ := q
  have hfo : ∀ A0 : List Asn, Ent (GtL st S ⟨k, d, ta, tc, pa, pc, sa, sc, ea, ec⟩ ++ A0) (GtP st S :: A0) := fun A0 => gt_fold (A0 := A0) ⟨k, d, ta, tc, pa, pc, sa, sc, ea, ec⟩ (Ent.refl _)
  simp only [GtL, GtR] at hfo ⊢
  simp only [List.cons_append, List.nil_append] at hfo ⊢
  refine yP (a := ta) (sz := 3) (ho := (by (repeat (first | exact Out.head | apply Out.tail)); (first | done | fail))) (h0 := by omega) (h := fun hft => ?_)
  refine yP (a := pa) (sz := 5) (ho := (by (repeat (first | exact Out.head | apply Out.tail)); (first | done | fail))) (h0 := by omega) (h := fun hfp => ?_)
  refine yP (a := sa) (sz := 4) (ho := (by (repeat (first | exact Out.head | apply Out.tail)); (first | done | fail))) (h0 := by omega) (h := fun hfs => ?_)
  refine yP (a := ea) (sz := 7) (ho := (by (repeat (first | exact Out.head | apply Out.tail)); (first | done | fail))) (h0 := by omega) (h := fun hfe => ?_)
  repeat' (first
    | refine zh ?_
    | refine zK ?_
    | refine zS (h := ?_)
    | refine zU (h := ?_)
    | refine zi ?_
    | refine zR ?_
    | refine za ?_
    | refine zN ?_
    | refine zY ?_
    | refine zd ?_
    | refine zO ?_
    | refine zZ ?_
    | refine zQ rfl ?_
    | refine ze ?_
    | refine zX ?_
    | refine zP ?_
    | refine zT ?_
    | refine zL ?_
    | (refine zE (id := 0) ?_; intro K hK; refine zI (k := ?_); (refine zF (hK _ _ ?_); clear hK K))
    | (refine zE (id := 1) ?_; intro K hK; refine zD (k := ?_); refine zf (k' := ?_); (refine zF (hK _ _ ?_); clear hK K))
    | (refine zE (id := 2) ?_; intro K hK; refine zI (k := ?_); (refine zF (hK _ _ ?_); clear hK K))
    | (refine zE (id := 3) ?_; intro K hK; refine zt (k := ?_); ((refine zw (k := ?_); intro rw)) <;> (refine zI (k := ?_); (refine zF (hK _ _ ?_); clear hK K)))
    | (refine zE (id := 4) ?_; intro K hK; refine zD (k := ?_); refine zD (k := ?_); refine zJ (k := ?_); refine zB (k := ?_); refine zM (k := ?_); refine zk (k' := ?_); ((refine yF (own_nil 1 5 _) ?_; refine yn (y := cb rw [.slice none 0 0, .bool false] 103) (k := ?_); refine yn (y := own none 0 0 1 [] 5) (k := ?_); refine yF (Ent.trans (Ent.perm (List.Perm.swap ..)) (fold_wr (w := ([], false)) (a := none) (c := 0) (Ent.refl _))) ?_; refine zb (hs := num_spec rw ([], false) (S.table.length : Nat) (by rw [e1]; omega)) (k := ?_); rintro v A' ⟨rfl, rfl⟩; rw [e1]; simp only [List.cons_append, List.nil_append])) <;> ((refine zF (hK _ _ ?_); clear hK K)))
    | (refine zE (id := 5) ?_; intro K hK; refine zD (k := ?_); refine zJ (k := ?_); refine zB (k := ?_); refine zM (k := ?_); refine zk (k' := ?_); refine zD (k := ?_); (refine zF (hK _ _ ?_); clear hK K))
    | (refine zc (ht := (fun ht => ?_)) (hf := (fun ht => ?_)) <;> (try simp at ht) <;> (try (exfalso; omega))))
  refine yG (α := Nat) (fun j => [(0, .pointer (some ⟨st, 0, none⟩)), (3, .pointer (some ⟨rw, 0, none⟩)), (24, .slice ta S.table.length tc), (25, .int .i64 S.table.length), (26, .int .i64 j)])
    (fun j => WrP rw ((S.table.take j).foldl wEp w1) :: [cb st [.int .i64 S.fold.e, .int .i64 S.fold.i, .pointer (some ⟨k, 0, none⟩), .pointer (some ⟨d, 0, none⟩), .slice ta S.table.length tc, .int .i64 S.base.e, .int .i64 S.base.i, .slice pa S.base.ps.length pc, .slice sa S.base.ss.length sc, .slice ea S.es.length ec, .bool S.closed] 86, MpA k S.fold.t, DeP d 16 S.fold.L, own ta S.table.length tc 3 (epsC S.table) 45, own pa S.base.ps.length pc 5 (prC S.base.ps) 57, own sa S.base.ss.length sc 4 (ssC S.base.ss) 111, own ea S.es.length ec 7 (esC S.es) 43])
    (fun j => j ≤ S.table.length) (fun j => S.table.length - j) 0 (by omega) ⟨rfl, rfl, rfl, rfl, rfl, trivial⟩ (by (repeat (first | exact Ent.refl _ | exact Ent.nil | refine Ent.take (by (repeat (first | exact Out.head | apply Out.tail)); (first | done | fail)) ?_ | refine Ent.drop1 ?_))) ?_
  intro j G hj
  simp only [ov]
  by_cases hlt : j < S.table.length
  · obtain ⟨x, hx⟩ : ∃ x, S.table[j]? = some x := ⟨_, List.getElem?_eq_getElem hlt⟩
    obtain ⟨p, rfl⟩ := hft.some (by omega)
    have hsx := fold_succ (f := wEp) hx w1
    have hk := k1 (j + 1)
    rw [hsx] at hk
    repeat' (first
      | refine zh ?_
      | refine zK ?_
      | refine zS (h := ?_)
      | refine zU (h := ?_)
      | refine zi ?_
      | refine zR ?_
      | refine za ?_
      | refine zN ?_
      | refine zY ?_
      | refine zd ?_
      | refine zO ?_
      | refine zZ ?_
      | refine zQ rfl ?_
      | refine ze ?_
      | refine zX ?_
      | refine zP ?_
      | refine zT ?_
      | refine zL ?_
      | (refine zE (id := 6) ?_; intro K hK; refine z2 (k' := ?_); (refine zF (hK _ _ ?_); clear hK K))
      | (refine zE (id := 7) ?_; intro K hK; ((refine zo (k' := ?_))) <;> (((refine z8 (j := j * 3) (cs := epC x) (hq := by simp) (hr := hft.rd (by (repeat (first | exact Out.head | apply Out.tail)); (first | done | fail))) (hv := epsC_row hx) (k := ?_))) <;> (((refine zy (k := ?_); intro r5)) <;> (refine zl (ho' := rfl) (k := ?_); (refine zF (hK _ _ ?_); clear hK K)))))
      | (refine zE (id := 8) ?_; intro K hK; refine zD (k := ?_); ((refine yQ (cs := epC x) (hv := by simp [epC]) (hc := rfl) (k := ?_))) <;> (((refine zb (hs := putEpoch_spec rw ((S.table.take j).foldl wEp w1) x (by omega)) (k := ?_); rintro v A' ⟨rfl, rfl⟩; simp only [List.cons_append, List.nil_append])) <;> ((refine zF (hK _ _ ?_); clear hK K))))
      | (refine zE (id := 9) ?_; intro K hK; refine zm (k' := ?_); refine zD (k := ?_); (refine zF (hK _ _ ?_); clear hK K))
      | (refine zc (ht := (fun ht => ?_)) (hf := (fun ht => ?_)) <;> (try simp at ht) <;> (try (exfalso; omega))))
    exact ⟨j + 1, by omega, by omega, ⟨rfl, rfl, rfl, rfl, int_succ j, trivial⟩, by rw [hsx]; (repeat (first | exact Ent.refl _ | exact Ent.nil | refine Ent.take (by (repeat (first | exact Out.head | apply Out.tail)); (first | done | fail)) ?_ | refine Ent.drop1 ?_))⟩
  obtain rfl : j = S.table.length := by omega
  rw [List.take_length, e2]
  repeat' (first
    | refine zh ?_
    | refine zK ?_
    | refine zS (h := ?_)
    | refine zU (h := ?_)
    | refine zi ?_
    | refine zR ?_
    | refine za ?_
    | refine zN ?_
    | refine zY ?_
    | refine zd ?_
    | refine zO ?_
    | refine zZ ?_
    | refine zQ rfl ?_
    | refine ze ?_
    | refine zX ?_
    | refine zP ?_
    | refine zT ?_
    | refine zL ?_
    | (refine zE (id := 6) ?_; intro K hK; refine z2 (k' := ?_); (refine zF (hK _ _ ?_); clear hK K))
    | (refine zE (id := 10) ?_; intro K hK; refine zD (k := ?_); refine zD (k := ?_); refine zJ (k := ?_); refine zB (k := ?_); refine zM (k := ?_); ((refine zb (hs := flag_spec rw w2 S.closed (by rw [e3]; omega)) (k := ?_); rintro v A' ⟨rfl, rfl⟩; rw [e3]; simp only [List.cons_append, List.nil_append])) <;> ((refine zF (hK _ _ ?_); clear hK K)))
    | (refine zE (id := 11) ?_; intro K hK; refine zD (k := ?_); refine zD (k := ?_); refine zJ (k := ?_); refine zB (k := ?_); refine zn (k := ?_); ((refine zb (hs := putSnap_spec [own pa S.base.ps.length pc 5 (prC S.base.ps) 57, own sa S.base.ss.length sc 4 (ssC S.base.ss) 111] rw w3 S.base (by omega) (by omega) pa pc sa sc (hfp.rd .head) (hfs.rd (.tail .head)) (by rw [e4]; omega)) (k := ?_); rintro v A' ⟨rfl, rfl⟩; rw [e4]; simp only [List.cons_append, List.nil_append])) <;> ((refine zF (hK _ _ ?_); clear hK K)))
    | (refine zE (id := 12) ?_; intro K hK; refine zD (k := ?_); refine zD (k := ?_); refine zJ (k := ?_); refine zB (k := ?_); refine zM (k := ?_); refine zk (k' := ?_); ((refine zb (hs := num_spec rw w4 (S.es.length : Nat) (by rw [e5]; omega)) (k := ?_); rintro v A' ⟨rfl, rfl⟩; rw [e5]; simp only [List.cons_append, List.nil_append])) <;> ((refine zF (hK _ _ ?_); clear hK K)))
    | (refine zE (id := 13) ?_; intro K hK; refine zD (k := ?_); refine zJ (k := ?_); refine zB (k := ?_); refine zM (k := ?_); refine zk (k' := ?_); refine zD (k := ?_); (refine zF (hK _ _ ?_); clear hK K))
    | (refine zc (ht := (fun ht => ?_)) (hf := (fun ht => ?_)) <;> (try simp at ht) <;> (try (exfalso; omega))))
  refine yG (α := Nat) (fun j => [(0, .pointer (some ⟨st, 0, none⟩)), (3, .pointer (some ⟨rw, 0, none⟩)), (56, .slice ea S.es.length ec), (57, .int .i64 S.es.length), (58, .int .i64 j)])
    (fun j => WrP rw ((S.es.take j).foldl wEnt w5) :: [cb st [.int .i64 S.fold.e, .int .i64 S.fold.i, .pointer (some ⟨k, 0, none⟩), .pointer (some ⟨d, 0, none⟩), .slice ta S.table.length tc, .int .i64 S.base.e, .int .i64 S.base.i, .slice pa S.base.ps.length pc, .slice sa S.base.ss.length sc, .slice ea S.es.length ec, .bool S.closed] 86, MpA k S.fold.t, DeP d 16 S.fold.L, own ta S.table.length tc 3 (epsC S.table) 45, own pa S.base.ps.length pc 5 (prC S.base.ps) 57, own sa S.base.ss.length sc 4 (ssC S.base.ss) 111, own ea S.es.length ec 7 (esC S.es) 43])
    (fun j => j ≤ S.es.length) (fun j => S.es.length - j) 0 (by omega) ⟨rfl, rfl, rfl, rfl, rfl, trivial⟩ (by (repeat (first | exact Ent.refl _ | exact Ent.nil | refine Ent.take (by (repeat (first | exact Out.head | apply Out.tail)); (first | done | fail)) ?_ | refine Ent.drop1 ?_))) ?_
  intro j G2 hj2
  simp only [ov]
  by_cases hlt : j < S.es.length
  · obtain ⟨x, hx⟩ : ∃ x, S.es[j]? = some x := ⟨_, List.getElem?_eq_getElem hlt⟩
    obtain ⟨p, rfl⟩ := hfe.some (by omega)
    have hsx := fold_succ (f := wEnt) hx w5
    have hk := k2 (j + 1)
    rw [hsx] at hk
    repeat' (first
      | refine zh ?_
      | refine zK ?_
      | refine zS (h := ?_)
      | refine zU (h := ?_)
      | refine zi ?_
      | refine zR ?_
      | refine za ?_
      | refine zN ?_
      | refine zY ?_
      | refine zd ?_
      | refine zO ?_
      | refine zZ ?_
      | refine zQ rfl ?_
      | refine ze ?_
      | refine zX ?_
      | refine zP ?_
      | refine zT ?_
      | refine zL ?_
      | (refine zE (id := 14) ?_; intro K hK; refine z2 (k' := ?_); (refine zF (hK _ _ ?_); clear hK K))
      | (refine zE (id := 15) ?_; intro K hK; ((refine zo (k' := ?_))) <;> (((refine z8 (j := j * 7) (cs := x.c) (hq := by simp) (hr := hfe.rd (by (repeat (first | exact Out.head | apply Out.tail)); (first | done | fail))) (hv := esC_row hx) (k := ?_))) <;> (((refine zy (k := ?_); intro r7)) <;> (refine zl (ho' := rfl) (k := ?_); (refine zF (hK _ _ ?_); clear hK K)))))
      | (refine zE (id := 16) ?_; intro K hK; refine zD (k := ?_); ((refine yQ (cs := x.c) (hv := by simp [EnX.c]) (hc := rfl) (k := ?_))) <;> (((refine zb (hs := putEntry_spec rw ((S.es.take j).foldl wEnt w5) x (by omega)) (k := ?_); rintro v A' ⟨rfl, rfl⟩; simp only [List.cons_append, List.nil_append])) <;> ((refine zF (hK _ _ ?_); clear hK K))))
      | (refine zE (id := 17) ?_; intro K hK; refine zm (k' := ?_); refine zD (k := ?_); (refine zF (hK _ _ ?_); clear hK K))
      | (refine zc (ht := (fun ht => ?_)) (hf := (fun ht => ?_)) <;> (try simp at ht) <;> (try (exfalso; omega))))
    exact ⟨j + 1, by omega, by omega, ⟨rfl, rfl, rfl, rfl, int_succ j, trivial⟩, by rw [hsx]; (repeat (first | exact Ent.refl _ | exact Ent.nil | refine Ent.take (by (repeat (first | exact Out.head | apply Out.tail)); (first | done | fail)) ?_ | refine Ent.drop1 ?_))⟩
  obtain rfl : j = S.es.length := by omega
  rw [List.take_length, e6]
  repeat' (first
    | refine zh ?_
    | refine zK ?_
    | refine zS (h := ?_)
    | refine zU (h := ?_)
    | refine zi ?_
    | refine zR ?_
    | refine za ?_
    | refine zN ?_
    | refine zY ?_
    | refine zd ?_
    | refine zO ?_
    | refine zZ ?_
    | refine zQ rfl ?_
    | refine ze ?_
    | refine zX ?_
    | refine zP ?_
    | refine zT ?_
    | refine zL ?_
    | (refine zE (id := 14) ?_; intro K hK; refine z2 (k' := ?_); (refine zF (hK _ _ ?_); clear hK K))
    | (refine zE (id := 18) ?_; intro K hK; refine zD (k := ?_); ((refine zb (hs := wbytes_spec rw b6 (by omega)) (k := ?_); rintro v A' ⟨oa, oc, rfl, rfl⟩; simp only [List.cons_append, List.nil_append])) <;> (refine zD (k := ?_); refine zx (k' := ?_); refine zx (k' := ?_); refine zI (k := ?_); refine zI (k := ?_); (refine zF (hK _ _ ?_); clear hK K)))
    | (refine zE (id := 19) ?_; intro K hK; refine zD (k := ?_); refine zI (k := ?_); (refine zF (hK _ _ ?_); clear hK K))
    | (refine zc (ht := (fun ht => ?_)) (hf := (fun ht => ?_)) <;> (try simp at ht) <;> (try (exfalso; omega))))
  refine ⟨Or.inr rfl, _, [own oa b6.length oc 1 (b6.map byteV) 5, GtP st S], ?_, res1 rfl rfl, oa, oc, rfl, rfl⟩
  refine Ent.trans ?_ ((hfo [own oa b6.length oc 1 (b6.map byteV) 5]).trans (Ent.perm (List.Perm.swap ..)))
  (repeat (first | exact Ent.refl _ | exact Ent.nil | refine Ent.take (by (repeat (first | exact Out.head | apply Out.tail)); (first | done | fail)) ?_ | refine Ent.drop1 ?_))
end specs
end Go.Proofs.YtnoggejkkjngjaaGreat
/- What was written is read as it was. No program in sight. -/
set_option maxHeartbeats 8000000
set_option linter.unusedVariables false
set_option linter.unusedSimpArgs false
set_option maxRecDepth 100000
namespace Go.Proofs.YtnoggejkkjngjaaGreat
open Go Go.Sl
attribute [local irreducible] Go.Sl.Wl Go.Sl.Wc Go.Sl.thenQ Go.Sl.blkQ Go.Sl.loopQ Go.Sl.Fspec

/-! ### What is read -/
def gPos (r : Rr) : (Nat × Nat) × Rr := (((rNum r).1, (rNum (rNum r).2).1), (rNum (rNum r).2).2)
def gEp (r : Rr) : Ep × Rr := (⟨(gPos r).1.1, (gPos r).1.2, (rFlag (gPos r).2).1⟩, (rFlag (gPos r).2).2)
def gNN (r : Rr) : (Nat × Nat) × Rr := gPos r
def gText (r : Rr) (n : Int) : ByteArray × Rr := (bytesOf (rText r n).1, (rText r n).2)
def gHead (r : Rr) : (Nat × Nat × Nat × Nat) × Rr := (((gPos r).1.1, (gPos r).1.2, (gNN (gPos r).2).1.1, (gNN (gPos r).2).1.2), (gNN (gPos r).2).2)
def gKV (r : Rr) (n : Int) : (ByteArray × Bool × ByteArray) × Rr :=
  (((gText r n).1, (rFlag (gText r n).2).1, (gText (rFlag (gText r n).2).2 n).1), (gText (rFlag (gText r n).2).2 n).2)
def gEnt (r : Rr) : EnX × Rr :=
  (⟨(gHead r).1.1, (gHead r).1.2.1, (gHead r).1.2.2.1, (gHead r).1.2.2.2, (gKV (gHead r).2 9007199254740992).1.1, (gKV (gHead r).2 9007199254740992).1.2.1, (gKV (gHead r).2 9007199254740992).1.2.2⟩, (gKV (gHead r).2 9007199254740992).2)
def gFT (r : Rr) (n : Int) : (Bool × ByteArray) × Rr := (((rFlag r).1, (gText (rFlag r).2 n).1), (gText (rFlag r).2 n).2)
def gPr (r : Rr) (n : Int) : PrX × Rr :=
  (⟨(gText r n).1, ⟨(gPos (gText r n).2).1.1, (gPos (gText r n).2).1.2, (gFT (gPos (gText r n).2).2 n).1.1, (gFT (gPos (gText r n).2).2 n).1.2⟩⟩, (gFT (gPos (gText r n).2).2 n).2)
def gSs (r : Rr) : SX × Rr := (⟨(gHead r).1.1, (gHead r).1.2.1, (gHead r).1.2.2.1, (gHead r).1.2.2.2⟩, (gHead r).2)
def gMany {α : Type} (g : Rr → α × Rr) : Nat → Rr → List α × Rr
  | 0, r => ([], r)
  | k + 1, r => ((gMany g k r).1 ++ [(g (gMany g k r).2).1], (g (gMany g k r).2).2)
def gPrs (n : Int) (r : Rr) : List PrX × Rr := gMany (gPr · n) (rCount r n).1 (rCount r n).2
def gSss (n : Int) (r : Rr) : List SX × Rr := gMany gSs (rCount r n).1 (rCount r n).2
def gSnap (r : Rr) (n : Int) : SnX × Rr :=
  (⟨(gPos r).1.1, (gPos r).1.2, (gPrs n (gPos r).2).1, (gSss n (gPrs n (gPos r).2).2).1⟩, (gSss n (gPrs n (gPos r).2).2).2)
theorem gPos_le (r : Rr) : (gPos r).2.1.length ≤ r.1.length := Nat.le_trans (rNum_le _) (rNum_le r)
theorem gText_le (r : Rr) (n : Int) : (gText r n).2.1.length ≤ r.1.length := rText_le r n
theorem gHead_le (r : Rr) : (gHead r).2.1.length ≤ r.1.length := Nat.le_trans (gPos_le _) (gPos_le r)
theorem gFT_le (r : Rr) (n : Int) : (gFT r n).2.1.length ≤ r.1.length := Nat.le_trans (gText_le _ _) (rFlag_le r)
theorem gPr_le (r : Rr) (n : Int) : (gPr r n).2.1.length ≤ r.1.length := Nat.le_trans (gFT_le _ _) (Nat.le_trans (gPos_le _) (gText_le r n))
theorem gSs_le (r : Rr) : (gSs r).2.1.length ≤ r.1.length := gHead_le r
theorem gMany_le {α : Type} {g : Rr → α × Rr} (h : ∀ r, (g r).2.1.length ≤ r.1.length) : ∀ (k : Nat) (r : Rr), (gMany g k r).2.1.length ≤ r.1.length
  | 0, _ => Nat.le_refl _
  | k + 1, r => Nat.le_trans (h _) (gMany_le h k r)
theorem gMany_len {α : Type} (g : Rr → α × Rr) : ∀ (k : Nat) (r : Rr), (gMany g k r).1.length = k
  | 0, _ => rfl
  | k + 1, r => by simp [gMany, gMany_len g k r]
/-! ### What is written -/
def eN (n : Int) : List UInt8 := encN n.toNat
def eFlag (b : Bool) : List UInt8 := encN (if b = true then 1 else 0)
def eText (s : ByteArray) : List UInt8 := encN s.size ++ s.data.toList
def ePos (e i : Int) : List UInt8 := eN e ++ eN i
def eEp (e : Ep) : List UInt8 := ePos e.master e.cut ++ eFlag e.forced
def eEnt (x : EnX) : List UInt8 := (ePos x.e x.i ++ ePos x.s x.r) ++ (eText x.key ++ (eFlag x.del ++ eText x.tx))
def ePr (x : PrX) : List UInt8 := eText x.k ++ (ePos x.v.a x.v.b ++ (eFlag x.v.c ++ eText x.v.d))
def eSs (x : SX) : List UInt8 := ePos x.s x.r ++ ePos x.e x.i
def ePrs (l : List PrX) : List UInt8 := encN l.length ++ l.flatMap ePr
def eSss (l : List SX) : List UInt8 := encN l.length ++ l.flatMap eSs
def eSnap (b : SnX) : List UInt8 := ePos b.e b.i ++ (ePrs b.ps ++ eSss b.ss)
theorem numOk_out {n : Int} (h : numOk n = true) : 0 ≤ n ∧ n ≤ 9007199254740992 := by unfold numOk at h; exact of_decide_eq_true h
theorem wNum_e (l : List UInt8) {n : Int} (h : numOk n = true) : wNum (l, false) n = (l ++ eN n, false) := by
  unfold wNum; rw [if_neg (by rw [h]; simp), if_neg (by simp)]; rfl
theorem wFlag_e (l : List UInt8) (b : Bool) : wFlag (l, false) b = (l ++ eFlag b, false) := by
  unfold wFlag; rw [wNum_e l (by cases b <;> decide)]; cases b <;> rfl
theorem wText_e (l : List UInt8) {s : ByteArray} (h : s.size ≤ 9007199254740992) : wText (l, false) s = (l ++ eText s, false) := by
  have hn := wNum_e l (n := s.size) (by unfold numOk; exact decide_eq_true (by omega))
  unfold wText; rw [hn, if_neg (by simp)]
  unfold eText eN; rw [Int.toNat_natCast, List.append_assoc]
theorem wPos_e (l : List UInt8) {e i : Int} (h1 : numOk e = true) (h2 : numOk i = true) : wPos (l, false) e i = (l ++ ePos e i, false) := by
  unfold wPos ePos; rw [wNum_e l h1, wNum_e _ h2, List.append_assoc]
structure EpK (e : Ep) : Prop where
  m : numOk e.master = true
  c : numOk e.cut = true
structure EnK (x : EnX) : Prop where
  e : numOk x.e = true
  i : numOk x.i = true
  s : numOk x.s = true
  r : numOk x.r = true
  k : x.key.size ≤ 9007199254740992
  t : x.tx.size ≤ 9007199254740992
structure PrK (n : Nat) (x : PrX) : Prop where
  a : numOk x.v.a = true
  b : numOk x.v.b = true
  k : x.k.size ≤ n
  t : x.v.d.size ≤ n
structure SsK (x : SX) : Prop where
  s : numOk x.s = true
  r : numOk x.r = true
  e : numOk x.e = true
  i : numOk x.i = true
structure SnK (n : Nat) (b : SnX) : Prop where
  nm : n ≤ 9007199254740992
  e : numOk b.e = true
  i : numOk b.i = true
  pl : b.ps.length ≤ n
  sl : b.ss.length ≤ n
  ps : ∀ x ∈ b.ps, PrK n x
  ss : ∀ x ∈ b.ss, SsK x
theorem wEp_e (l : List UInt8) {e : Ep} (h : EpK e) : wEp (l, false) e = (l ++ eEp e, false) := by
  unfold wEp eEp ePos; rw [wNum_e l h.m, wNum_e _ h.c, wFlag_e]; simp [List.append_assoc]
theorem wEnt_e (l : List UInt8) {x : EnX} (h : EnK x) : wEnt (l, false) x = (l ++ eEnt x, false) := by
  unfold wEnt eEnt
  rw [wPos_e l h.e h.i, wNum_e _ h.s, wNum_e _ h.r, wText_e _ h.k, wFlag_e, wText_e _ h.t]
  simp [ePos, List.append_assoc]
theorem wPr_e (l : List UInt8) {n : Nat} (hn : n ≤ 9007199254740992) {x : PrX} (h : PrK n x) : wPr (l, false) x = (l ++ ePr x, false) := by
  unfold wPr ePr
  rw [wText_e _ (Nat.le_trans h.k hn), wPos_e _ h.a h.b, wFlag_e, wText_e _ (Nat.le_trans h.t hn)]
  simp [List.append_assoc]
theorem wSs_e (l : List UInt8) {x : SX} (h : SsK x) : wSs (l, false) x = (l ++ eSs x, false) := by
  unfold wSs eSs
  rw [wNum_e _ h.s, wNum_e _ h.r, wPos_e _ h.e h.i]
  simp [ePos, List.append_assoc]
theorem fold_e {α : Type} {f : Wr → α → Wr} {e : α → List UInt8} : ∀ (xs : List α) (l : List UInt8), (∀ x ∈ xs, ∀ l, f (l, false) x = (l ++ e x, false)) → xs.foldl f (l, false) = (l ++ xs.flatMap e, false)
  | [], l, _ => by simp
  | x :: xs, l, h => by
    rw [List.foldl_cons, h x (List.mem_cons_self ..), fold_e xs _ (fun y hy => h y (List.mem_cons_of_mem _ hy)), List.flatMap_cons, List.append_assoc]
theorem wSnap_e (l : List UInt8) {n : Nat} {b : SnX} (h : SnK n b) : wSnap (l, false) b = (l ++ eSnap b, false) := by
  have hn := h.nm
  have hp := h.pl
  have hs := h.sl
  unfold wSnap eSnap ePrs eSss
  rw [wPos_e l h.e h.i, wNum_e _ (n := (b.ps.length : Nat)) (by unfold numOk; exact decide_eq_true (by omega)), fold_e b.ps _ (fun x hx l => wPr_e l h.nm (h.ps x hx)),
    wNum_e _ (n := (b.ss.length : Nat)) (by unfold numOk; exact decide_eq_true (by omega)), fold_e b.ss _ (fun x hx l => wSs_e l (h.ss x hx))]
  simp [eN, List.append_assoc]
/-! ### Back -/
theorem big_byte (n : Nat) : (UInt8.ofNat (n % 128 + 128)).toNat = n % 128 + 128 := by simp [UInt8.toNat_ofNat']; omega
theorem small_byte (n : Nat) (h : n < 128) : (UInt8.ofNat n).toNat = n := by simp [UInt8.toNat_ofNat']; omega
theorem rNumL_step (f i acc : Nat) (b : UInt8) (l : List UInt8) : rNumL (f + 1) i acc (b :: l, false) = if b.toNat < 128 then (if (b.toNat = 0 ∧ 0 < i) ∨ 9007199254740992 < acc + b.toNat * 128 ^ i then (0, (l, true)) else (acc + b.toNat * 128 ^ i, (l, false))) else rNumL f (i + 1) (acc + b.toNat % 128 * 128 ^ i) (l, false) := rfl
theorem rNumL_enc (l : List UInt8) : ∀ (f i acc m : Nat), f + i = 8 → m < 128 ^ f → acc + m * 128 ^ i ≤ 9007199254740992 → (0 < i → 0 < m) → rNumL f i acc (encN m ++ l, false) = (acc + m * 128 ^ i, (l, false))
  | 0, i, acc, m, h1, h2, h3, h4 => by
    have := h4 (by omega)
    simp at h2; omega
  | f + 1, i, acc, m, h1, h2, h3, h4 => by
    by_cases hm : m < 128
    · rw [encN_small hm]
      rw [List.cons_append, List.nil_append, rNumL_step, small_byte m hm, if_pos hm, if_neg (by
        rintro (⟨q1, q2⟩ | q)
        · have := h4 q2; omega
        · omega)]
    · have hd : m % 128 + 128 * (m / 128) = m := Nat.mod_add_div m 128
      have hs : acc + m % 128 * 128 ^ i + m / 128 * 128 ^ (i + 1) = acc + m * 128 ^ i := by
        have e : m * 128 ^ i = m % 128 * 128 ^ i + m / 128 * 128 ^ (i + 1) := by
          conv => lhs; rw [← hd]
          rw [Nat.add_mul, Nat.pow_succ, Nat.mul_comm 128 (m / 128), Nat.mul_assoc, Nat.mul_comm 128]
        omega
      have ih := rNumL_enc l f (i + 1) (acc + m % 128 * 128 ^ i) (m / 128) (by omega) (Nat.div_lt_of_lt_mul (by rw [Nat.mul_comm, ← Nat.pow_succ]; exact h2)) (by omega) (fun _ => by omega)
      rw [encN_big (by omega), List.cons_append, rNumL_step, big_byte m, if_neg (by omega), show (m % 128 + 128) % 128 = m % 128 by omega, ih, hs]
theorem rNum_enc {n : Nat} (h : n ≤ 9007199254740992) (l : List UInt8) : rNum (encN n ++ l, false) = (n, (l, false)) := by
  have := rNumL_enc l 8 0 0 n rfl (by omega) (by omega) (by omega)
  unfold rNum; rw [this]; simp
theorem rNum_e {n : Int} (h : numOk n = true) (l : List UInt8) : rNum (eN n ++ l, false) = (n.toNat, (l, false)) := rNum_enc (by have := numOk_out h; omega) l
theorem rFlag_e (b : Bool) (l : List UInt8) : rFlag (eFlag b ++ l, false) = (b, (l, false)) := by
  unfold eFlag
  cases b
  · rw [if_neg (by simp), encN_small (by omega)]; rfl
  · rw [if_pos rfl, encN_small (by omega)]; rfl
theorem bytesOf_self (s : ByteArray) : bytesOf s.data.toList = s := by cases s; simp [bytesOf]
theorem gText_e {s : ByteArray} {n : Int} (h : s.size ≤ 9007199254740992) (hn : (s.size : Int) ≤ n) (l : List UInt8) : gText (eText s ++ l, false) n = (s, (l, false)) := by
  have hsz : s.data.toList.length = s.size := by rw [Array.length_toList]; rfl
  have h1 := rNum_enc h (s.data.toList ++ l)
  have h2 : rText (eText s ++ l, false) n = (s.data.toList, (l, false)) := by
    unfold rText eText
    rw [List.append_assoc, h1]
    simp only
    rw [if_neg (by simp only [List.length_append, hsz]; simp; omega), List.take_left' hsz, List.drop_left' hsz]
  unfold gText
  rw [h2]; simp only [bytesOf_self]
theorem gPos_e {e i : Int} (h1 : numOk e = true) (h2 : numOk i = true) (l : List UInt8) : gPos (ePos e i ++ l, false) = ((e.toNat, i.toNat), (l, false)) := by
  unfold gPos ePos
  rw [List.append_assoc, rNum_e h1, rNum_e h2]
theorem gEp_e {e : Ep} (h : EpK e) (l : List UInt8) : gEp (eEp e ++ l, false) = (e, (l, false)) := by
  have a := numOk_out h.m
  have b := numOk_out h.c
  unfold gEp eEp
  rw [List.append_assoc, gPos_e h.m h.c, rFlag_e]
  simp only
  rw [Int.toNat_of_nonneg a.1, Int.toNat_of_nonneg b.1]
theorem gHead_e {a b c d : Int} (h1 : numOk a = true) (h2 : numOk b = true) (h3 : numOk c = true) (h4 : numOk d = true) (l : List UInt8) : gHead (ePos a b ++ ePos c d ++ l, false) = ((a.toNat, b.toNat, c.toNat, d.toNat), (l, false)) := by
  unfold gHead gNN
  rw [List.append_assoc, gPos_e h1 h2, gPos_e h3 h4]
theorem gEnt_e {x : EnX} (h : EnK x) (l : List UInt8) : gEnt (eEnt x ++ l, false) = (x, (l, false)) := by
  have a1 := numOk_out h.e
  have a2 := numOk_out h.i
  have a3 := numOk_out h.s
  have a4 := numOk_out h.r
  have hk := h.k
  have ht := h.t
  have hkv : gKV (eText x.key ++ (eFlag x.del ++ eText x.tx) ++ l, false) 9007199254740992 = ((x.key, x.del, x.tx), (l, false)) := by
    unfold gKV
    rw [List.append_assoc, gText_e h.k (by omega), List.append_assoc, rFlag_e, gText_e h.t (by omega)]
  unfold gEnt eEnt
  rw [List.append_assoc, gHead_e h.e h.i h.s h.r, hkv]
  simp only
  rw [Int.toNat_of_nonneg a1.1, Int.toNat_of_nonneg a2.1, Int.toNat_of_nonneg a3.1, Int.toNat_of_nonneg a4.1]
theorem gPr_e {n : Nat} (hn : n ≤ 9007199254740992) {x : PrX} (h : PrK n x) (l : List UInt8) : gPr (ePr x ++ l, false) n = (x, (l, false)) := by
  have a1 := numOk_out h.a
  have a2 := numOk_out h.b
  have hk := h.k
  have ht := h.t
  have hft : gFT (eFlag x.v.c ++ eText x.v.d ++ l, false) n = ((x.v.c, x.v.d), (l, false)) := by
    unfold gFT
    rw [List.append_assoc, rFlag_e, gText_e (by omega) (by omega)]
  unfold gPr ePr
  rw [List.append_assoc, gText_e (by omega) (by omega), List.append_assoc, gPos_e h.a h.b, hft]
  simp only
  rw [Int.toNat_of_nonneg a1.1, Int.toNat_of_nonneg a2.1]
theorem gSs_e {x : SX} (h : SsK x) (l : List UInt8) : gSs (eSs x ++ l, false) = (x, (l, false)) := by
  have a1 := numOk_out h.s
  have a2 := numOk_out h.r
  have a3 := numOk_out h.e
  have a4 := numOk_out h.i
  unfold gSs eSs
  rw [gHead_e h.s h.r h.e h.i]
  simp only
  rw [Int.toNat_of_nonneg a1.1, Int.toNat_of_nonneg a2.1, Int.toNat_of_nonneg a3.1, Int.toNat_of_nonneg a4.1]
theorem gMany_e {α : Type} {g : Rr → α × Rr} {e : α → List UInt8} (xs : List α) (h : ∀ x ∈ xs, ∀ l, g (e x ++ l, false) = (x, (l, false))) (l : List UInt8) : ∀ k, k ≤ xs.length → gMany g k (xs.flatMap e ++ l, false) = (xs.take k, ((xs.drop k).flatMap e ++ l, false))
  | 0, _ => by simp [gMany]
  | k + 1, hk => by
    have ih := gMany_e xs h l k (by omega)
    have hx : k < xs.length := by omega
    unfold gMany
    rw [ih, List.drop_eq_getElem_cons hx, List.flatMap_cons, List.append_assoc]
    simp only
    rw [h xs[k] (List.getElem_mem hx), List.take_succ_eq_append_getElem hx]
theorem gMany_all {α : Type} {g : Rr → α × Rr} {e : α → List UInt8} (xs : List α) (h : ∀ x ∈ xs, ∀ l, g (e x ++ l, false) = (x, (l, false))) (l : List UInt8) : gMany g xs.length (xs.flatMap e ++ l, false) = (xs, (l, false)) := by
  rw [gMany_e xs h l xs.length (Nat.le_refl _)]; simp
theorem rCount_e {n : Nat} {m : Int} (h : n ≤ 9007199254740992) (hm : (n : Int) ≤ m) (l : List UInt8) : rCount (encN n ++ l, false) m = (n, (l, false)) := by
  unfold rCount; rw [rNum_enc h]; simp only; rw [if_neg (by omega)]
theorem gSnap_e {n : Nat} {b : SnX} (h : SnK n b) (l : List UInt8) : gSnap (eSnap b ++ l, false) n = (b, (l, false)) := by
  have hn := h.nm
  have hp := h.pl
  have hs := h.sl
  have a1 := numOk_out h.e
  have a2 := numOk_out h.i
  have h1 : ∀ l, gPrs n (ePrs b.ps ++ l, false) = (b.ps, (l, false)) := fun l => by
    unfold gPrs ePrs
    rw [List.append_assoc, rCount_e (by omega) (by omega)]
    simp only
    exact gMany_all b.ps (fun x hx l => gPr_e h.nm (h.ps x hx) l) l
  have h2 : gSss n (eSss b.ss ++ l, false) = (b.ss, (l, false)) := by
    unfold gSss eSss
    rw [List.append_assoc, rCount_e (by omega) (by omega)]
    simp only
    exact gMany_all b.ss (fun x hx l => gSs_e (h.ss x hx) l) l
  unfold gSnap eSnap
  rw [List.append_assoc, gPos_e h.e h.i]
  simp only
  rw [List.append_assoc, h1]
  simp only
  rw [h2]
  simp only
  rw [Int.toNat_of_nonneg a1.1, Int.toNat_of_nonneg a2.1]
end Go.Proofs.YtnoggejkkjngjaaGreat
