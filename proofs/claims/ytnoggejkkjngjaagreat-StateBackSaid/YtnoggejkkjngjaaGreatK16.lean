/- Package state: what is read of bytes. Conditions: the bytes are few. -/
import Derived.Test.YtnoggejkkjngjaaGreatK15
set_option maxHeartbeats 8000000
set_option linter.unusedVariables false
set_option linter.unusedSimpArgs false
set_option maxRecDepth 100000
namespace Go.Proofs.YtnoggejkkjngjaaGreat
open Go Go.Sl
attribute [local irreducible] Go.Sl.Wl Go.Sl.Wc Go.Sl.thenQ Go.Sl.blkQ Go.Sl.loopQ Go.Sl.Fspec

section specs
variable {B : Base}
theorem getPos_spec (X : Asn) (p : Nat) (r : Rr) (hl : r.1.length ≤ 1000000000) :
    Fspec Tryz.prog B 98 #[.pointer (some ⟨p, 0, none⟩)] [RdrP B X p r, X] (fun v A' => v = .agg #[.int .i64 (gPos r).1.1, .int .i64 (gPos r).1.2] ∧ A' = [RdrP B X p (gPos r).2, X]) := by
  have h1 := rNum_le r
  refine spec_of (args := [_]) Tryz.func98 rfl rfl rfl ?_
  repeat' (first
    | refine zh ?_
    | refine zK ?_
    | refine zS (h := ?_)
    | refine zU (h := ?_)
    | refine zi ?_
    | refine zR ?_
    | refine za ?_
    | refine zN ?_
    | refine zY ?_
    | refine zd ?_
    | refine zO ?_
    | refine zZ ?_
    | refine zQ rfl ?_
    | refine ze ?_
    | refine zX ?_
    | refine zP ?_
    | refine zT ?_
    | refine zL ?_
    | (refine zE (id := 0) ?_; intro K hK; ((refine zy (k := ?_); intro r2)) <;> ((refine zF (hK _ _ ?_); clear hK K)))
    | (refine zE (id := 1) ?_; intro K hK; refine zD (k := ?_); ((refine zb (hs := rnum_spec X p r hl) (k := ?_); rintro v A' ⟨rfl, rfl⟩; simp only [List.cons_append, List.nil_append])) <;> (refine zI (k := ?_); (refine zF (hK _ _ ?_); clear hK K)))
    | (refine zE (id := 2) ?_; intro K hK; refine zD (k := ?_); refine zD (k := ?_); ((refine zb (hs := rnum_spec X p (rNum r).2 (by omega)) (k := ?_); rintro v A' ⟨rfl, rfl⟩; simp only [List.cons_append, List.nil_append])) <;> (refine zt (k := ?_); refine zl (ho' := rfl) (k := ?_); (refine zF (hK _ _ ?_); clear hK K)))
    | (refine zc (ht := (fun ht => ?_)) (hf := (fun ht => ?_)) <;> (try simp at ht) <;> (try (exfalso; omega))))
  exact ⟨Or.inr rfl, _, [RdrP B X p (gPos r).2, X], (by (repeat (first | exact Ent.refl _ | exact Ent.nil | refine Ent.take (by (repeat (first | exact Out.head | apply Out.tail)); (first | done | fail)) ?_ | refine Ent.drop1 ?_)); (first | done | fail)), resG rfl (by (repeat (first | exact ResL.nil | apply ResL.tmp (by (repeat (first | exact Ev.here | exact Ev.const | exact Ev.arg rfl | apply Ev.there rfl | exact Ev.none rfl | exact Ev.func | exact Ev.var)); (first | done | fail)) | apply ResL.agg (by (repeat (first | exact Ev.here | exact Ev.const | exact Ev.arg rfl | apply Ev.there rfl | exact Ev.none rfl | exact Ev.func | exact Ev.var)); (first | done | fail)) (by (repeat (first | exact Rd.head | exact Rd.base (by assumption) | apply Rd.tail)); (first | done | fail)) (by (repeat (first | exact TakeR.nil | apply TakeR.take | apply TakeR.skip)); (first | done | fail)) | apply ResL.cell (by (repeat (first | exact Ev.here | exact Ev.const | exact Ev.arg rfl | apply Ev.there rfl | exact Ev.none rfl | exact Ev.func | exact Ev.var)); (first | done | fail)) (by (repeat (first | exact Rd.head | exact Rd.base (by assumption) | apply Rd.tail)); (first | done | fail)) rfl)); (first | done | fail)) rfl, rfl, rfl⟩
theorem getEpoch_spec (X : Asn) (p : Nat) (r : Rr) (hl : r.1.length ≤ 1000000000) :
    Fspec Tryz.prog B 67 #[.pointer (some ⟨p, 0, none⟩)] [RdrP B X p r, X] (fun v A' => v = .agg (epC (gEp r).1).toArray ∧ A' = [RdrP B X p (gEp r).2, X]) := by
  have h1 := rNum_le r
  have h2 := gPos_le r
  refine spec_of (args := [_]) Tryz.func67 rfl rfl rfl ?_
  repeat' (first
    | refine zh ?_
    | refine zK ?_
    | refine zS (h := ?_)
    | refine zU (h := ?_)
    | refine zi ?_
    | refine zR ?_
    | refine za ?_
    | refine zN ?_
    | refine zY ?_
    | refine zd ?_
    | refine zO ?_
    | refine zZ ?_
    | refine zQ rfl ?_
    | refine ze ?_
    | refine zX ?_
    | refine zP ?_
    | refine zT ?_
    | refine zL ?_
    | (refine zE (id := 0) ?_; intro K hK; ((refine zy (k := ?_); intro r2)) <;> ((refine zF (hK _ _ ?_); clear hK K)))
    | (refine zE (id := 1) ?_; intro K hK; refine zD (k := ?_); ((refine zb (hs := rnum_spec X p r hl) (k := ?_); rintro v A' ⟨rfl, rfl⟩; simp only [List.cons_append, List.nil_append])) <;> (refine zI (k := ?_); (refine zF (hK _ _ ?_); clear hK K)))
    | (refine zE (id := 2) ?_; intro K hK; refine zD (k := ?_); ((refine zb (hs := rnum_spec X p (rNum r).2 (by omega)) (k := ?_); rintro v A' ⟨rfl, rfl⟩; simp only [List.cons_append, List.nil_append])) <;> (refine zI (k := ?_); (refine zF (hK _ _ ?_); clear hK K)))
    | (refine zE (id := 3) ?_; intro K hK; refine zD (k := ?_); refine zD (k := ?_); refine zD (k := ?_); ((refine zb (hs := rflag_spec X p (gPos r).2 (by omega)) (k := ?_); rintro v A' ⟨rfl, rfl⟩; simp only [List.cons_append, List.nil_append])) <;> (refine zt (k := ?_); refine zl (ho' := rfl) (k := ?_); (refine zF (hK _ _ ?_); clear hK K)))
    | (refine zc (ht := (fun ht => ?_)) (hf := (fun ht => ?_)) <;> (try simp at ht) <;> (try (exfalso; omega))))
  exact ⟨Or.inr rfl, _, [RdrP B X p (gEp r).2, X], (by (repeat (first | exact Ent.refl _ | exact Ent.nil | refine Ent.take (by (repeat (first | exact Out.head | apply Out.tail)); (first | done | fail)) ?_ | refine Ent.drop1 ?_)); (first | done | fail)), resG rfl (by (repeat (first | exact ResL.nil | apply ResL.tmp (by (repeat (first | exact Ev.here | exact Ev.const | exact Ev.arg rfl | apply Ev.there rfl | exact Ev.none rfl | exact Ev.func | exact Ev.var)); (first | done | fail)) | apply ResL.agg (by (repeat (first | exact Ev.here | exact Ev.const | exact Ev.arg rfl | apply Ev.there rfl | exact Ev.none rfl | exact Ev.func | exact Ev.var)); (first | done | fail)) (by (repeat (first | exact Rd.head | exact Rd.base (by assumption) | apply Rd.tail)); (first | done | fail)) (by (repeat (first | exact TakeR.nil | apply TakeR.take | apply TakeR.skip)); (first | done | fail)) | apply ResL.cell (by (repeat (first | exact Ev.here | exact Ev.const | exact Ev.arg rfl | apply Ev.there rfl | exact Ev.none rfl | exact Ev.func | exact Ev.var)); (first | done | fail)) (by (repeat (first | exact Rd.head | exact Rd.base (by assumption) | apply Rd.tail)); (first | done | fail)) rfl)); (first | done | fail)) rfl, rfl, rfl⟩
theorem gtext_spec (X : Asn) (p : Nat) (r : Rr) (most : Int) (hl : r.1.length ≤ 1000000000) :
    Fspec Tryz.prog B 99 #[.pointer (some ⟨p, 0, none⟩), .int .i64 most] [RdrP B X p r, X] (fun v A' => v = .string (gText r most).1 ∧ A' = [RdrP B X p (gText r most).2, X]) := rtext_spec X p r most hl
theorem getEntry_spec (X : Asn) (p : Nat) (r : Rr) (hl : r.1.length ≤ 1000000000) :
    Fspec Tryz.prog B 66 #[.pointer (some ⟨p, 0, none⟩)] [RdrP B X p r, X] (fun v A' => v = .agg (gEnt r).1.c.toArray ∧ A' = [RdrP B X p (gEnt r).2, X]) := by
  have h1 := gPos_le r
  have h2 := rNum_le (gPos r).2
  have h3 := gHead_le r
  have h4 := gText_le (gHead r).2 9007199254740992
  have h5 := rFlag_le (gText (gHead r).2 9007199254740992).2
  refine spec_of (args := [_]) Tryz.func66 rfl rfl rfl ?_
  repeat' (first
    | refine zh ?_
    | refine zK ?_
    | refine zS (h := ?_)
    | refine zU (h := ?_)
    | refine zi ?_
    | refine zR ?_
    | refine za ?_
    | refine zN ?_
    | refine zY ?_
    | refine zd ?_
    | refine zO ?_
    | refine zZ ?_
    | refine zQ rfl ?_
    | refine ze ?_
    | refine zX ?_
    | refine zP ?_
    | refine zT ?_
    | refine zL ?_
    | (refine zE (id := 0) ?_; intro K hK; ((refine zy (k := ?_); intro r2)) <;> ((refine zF (hK _ _ ?_); clear hK K)))
    | (refine zE (id := 1) ?_; intro K hK; refine zD (k := ?_); ((refine zb (hs := getPos_spec X p r hl) (k := ?_); rintro v A' ⟨rfl, rfl⟩; simp only [List.cons_append, List.nil_append])) <;> (refine zD (k := ?_); ((refine zb (hs := rnum_spec X p (gPos r).2 (by omega)) (k := ?_); rintro v A' ⟨rfl, rfl⟩; simp only [List.cons_append, List.nil_append])) <;> (refine zD (k := ?_); ((refine zb (hs := rnum_spec X p (rNum (gPos r).2).2 (by omega)) (k := ?_); rintro v A' ⟨rfl, rfl⟩; simp only [List.cons_append, List.nil_append])) <;> (refine zt (k := ?_); ((refine zy (k := ?_); intro r3)) <;> (refine zl (ho' := rfl) (k := ?_); (refine zF (hK _ _ ?_); clear hK K))))))
    | (refine zE (id := 2) ?_; intro K hK; refine zD (k := ?_); ((refine zb (hs := gtext_spec X p (gHead r).2 9007199254740992 (by omega)) (k := ?_); rintro v A' ⟨rfl, rfl⟩; simp only [List.cons_append, List.nil_append])) <;> (refine zB (k := ?_); refine zr (ho := rfl) (k := ?_); (refine zF (hK _ _ ?_); clear hK K)))
    | (refine zE (id := 3) ?_; intro K hK; refine zD (k := ?_); ((refine zb (hs := rflag_spec X p (gText (gHead r).2 9007199254740992).2 (by omega)) (k := ?_); rintro v A' ⟨rfl, rfl⟩; simp only [List.cons_append, List.nil_append])) <;> (refine zB (k := ?_); refine zr (ho := rfl) (k := ?_); (refine zF (hK _ _ ?_); clear hK K)))
    | (refine zE (id := 4) ?_; intro K hK; refine zD (k := ?_); ((refine zb (hs := gtext_spec X p (rFlag (gText (gHead r).2 9007199254740992).2).2 9007199254740992 (by omega)) (k := ?_); rintro v A' ⟨rfl, rfl⟩; simp only [List.cons_append, List.nil_append])) <;> (refine zB (k := ?_); refine zr (ho := rfl) (k := ?_); (refine zF (hK _ _ ?_); clear hK K)))
    | (refine zE (id := 5) ?_; intro K hK; refine zn (k := ?_); refine zl (ho' := rfl) (k := ?_); (refine zF (hK _ _ ?_); clear hK K))
    | (refine zc (ht := (fun ht => ?_)) (hf := (fun ht => ?_)) <;> (try simp at ht) <;> (try (exfalso; omega))))
  exact ⟨Or.inr rfl, _, [RdrP B X p (gEnt r).2, X], (by (repeat (first | exact Ent.refl _ | exact Ent.nil | refine Ent.take (by (repeat (first | exact Out.head | apply Out.tail)); (first | done | fail)) ?_ | refine Ent.drop1 ?_)); (first | done | fail)), resG rfl (by (repeat (first | exact ResL.nil | apply ResL.tmp (by (repeat (first | exact Ev.here | exact Ev.const | exact Ev.arg rfl | apply Ev.there rfl | exact Ev.none rfl | exact Ev.func | exact Ev.var)); (first | done | fail)) | apply ResL.agg (by (repeat (first | exact Ev.here | exact Ev.const | exact Ev.arg rfl | apply Ev.there rfl | exact Ev.none rfl | exact Ev.func | exact Ev.var)); (first | done | fail)) (by (repeat (first | exact Rd.head | exact Rd.base (by assumption) | apply Rd.tail)); (first | done | fail)) (by (repeat (first | exact TakeR.nil | apply TakeR.take | apply TakeR.skip)); (first | done | fail)) | apply ResL.cell (by (repeat (first | exact Ev.here | exact Ev.const | exact Ev.arg rfl | apply Ev.there rfl | exact Ev.none rfl | exact Ev.func | exact Ev.var)); (first | done | fail)) (by (repeat (first | exact Rd.head | exact Rd.base (by assumption) | apply Rd.tail)); (first | done | fail)) rfl)); (first | done | fail)) rfl, rfl, rfl⟩
theorem rCount_max (r : Rr) (n : Int) (hn : 0 ≤ n) : ((rCount r n).1 : Int) ≤ n := by
  unfold rCount; split
  · simpa using hn
  · omega
theorem getSnap_spec (X : Asn) (p : Nat) (r : Rr) (n : Nat) (hn : n ≤ 900000000) (hl : r.1.length ≤ 1000000000) :
    Fspec Tryz.prog B 68 #[.pointer (some ⟨p, 0, none⟩), .int .i64 n] [RdrP B X p r, X] (fun v A' => ∃ a c a2 c2, v = .agg #[.int .i64 (gSnap r n).1.e, .int .i64 (gSnap r n).1.i, .slice a (gSnap r n).1.ps.length c, .slice a2 (gSnap r n).1.ss.length c2] ∧
      A' = [RdrP B X p (gSnap r n).2, X, own a (gSnap r n).1.ps.length c 5 (prC (gSnap r n).1.ps) 57, own a2 (gSnap r n).1.ss.length c2 4 (ssC (gSnap r n).1.ss) 111]) := by
  have h1 := gPos_le r
  obtain ⟨e, he⟩ : ∃ e, (gPos r).1.1 = e := ⟨_, rfl⟩
  obtain ⟨i, hi⟩ : ∃ i, (gPos r).1.2 = i := ⟨_, rfl⟩
  obtain ⟨r1, hr1⟩ : ∃ q, (gPos r).2 = q := ⟨_, rfl⟩
  have hp := getPos_spec (B := B) X p r hl
  rw [he, hi, hr1] at hp
  rw [hr1] at h1
  have hc := rCount_max r1 n (by omega)
  have h2 := rCount_le r1 n
  have hcs := rcount_spec (B := B) X p r1 n (by omega)
  obtain ⟨⟨k, r2⟩, hr2⟩ : ∃ q, rCount r1 n = q := ⟨_, rfl⟩
  rw [hr2] at hc h2 hcs
  simp only at hc h2 hcs
  obtain ⟨⟨ps, r3⟩, hr3⟩ : ∃ q, gMany (gPr · (n : Int)) k r2 = q := ⟨_, rfl⟩
  have hlp := gMany_len (gPr · (n : Int)) k r2
  have h3 := gMany_le (g := (gPr · (n : Int))) (fun r => gPr_le r n) k r2
  rw [hr3] at hlp h3
  simp only at hlp h3
  have hc2 := rCount_max r3 n (by omega)
  have h4 := rCount_le r3 n
  have hcs2 := rcount_spec (B := B) X p r3 n (by omega)
  obtain ⟨⟨k2, r4⟩, hr4⟩ : ∃ q, rCount r3 n = q := ⟨_, rfl⟩
  rw [hr4] at hc2 h4 hcs2
  simp only at hc2 h4 hcs2
  obtain ⟨⟨ss, r5⟩, hr5⟩ : ∃ q, gMany gSs k2 r4 = q := ⟨_, rfl⟩
  have hls := gMany_len gSs k2 r4
  rw [hr5] at hls
  simp only at hls
  have hsn : gSnap r n = (⟨e, i, ps, ss⟩, r5) := by
    unfold gSnap gPrs gSss
    rw [he, hi, hr1, hr2]
    simp only
    rw [hr3]
    simp only
    rw [hr4]
    simp only
    rw [hr5]
  rw [hsn]
  simp only
  refine spec_of (args := [_, _]) Tryz.func68 rfl rfl rfl ?_
  repeat' (first
    | refine zh ?_
    | refine zK ?_
    | refine zS (h := ?_)
    | refine zU (h := ?_)
    | refine zi ?_
    | refine zR ?_
    | refine za ?_
    | refine zN ?_
    | refine zY ?_
    | refine zd ?_
    | refine zO ?_
    | refine zZ ?_
    | refine zQ rfl ?_
    | refine ze ?_
    | refine zX ?_
    | refine zP ?_
    | refine zT ?_
    | refine zL ?_
    | (refine zE (id := 0) ?_; intro K hK; ((refine zy (k := ?_); intro q4)) <;> ((refine zF (hK _ _ ?_); clear hK K)))
    | (refine zE (id := 1) ?_; intro K hK; refine zD (k := ?_); ((refine zb (hs := hp) (k := ?_); rintro v A' ⟨rfl, rfl⟩; simp only [List.cons_append, List.nil_append])) <;> (refine zt (k := ?_); ((refine zy (k := ?_); intro q5)) <;> (refine zl (ho' := rfl) (k := ?_); (refine zF (hK _ _ ?_); clear hK K))))
    | (refine zE (id := 2) ?_; intro K hK; refine zD (k := ?_); refine zD (k := ?_); ((refine zb (hs := hcs) (k := ?_); rintro v A' ⟨rfl, rfl⟩; simp only [List.cons_append, List.nil_append])) <;> (refine zD (k := ?_); (refine zF (hK _ _ ?_); clear hK K)))
    | (refine zc (ht := (fun ht => ?_)) (hf := (fun ht => ?_)) <;> (try simp at ht) <;> (try (exfalso; omega))))
  refine yG (α := Nat × Option Addr × Nat) (fun g => [(0, .pointer (some ⟨p, 0, none⟩)), (1, .int .i64 n), (4, .pointer (some ⟨q4, 0, none⟩)), (5, .pointer (some ⟨q5, 0, none⟩)), (13, .int .i64 k), (14, .int .i64 g.1)])
    (fun g => [RdrP B X p (gMany (gPr · (n : Int)) g.1 r2).2, X, cb q4 [.int .i64 0, .int .i64 0, .slice none 0 0, .slice none 0 0] 37, cb q5 [.int .i64 e, .int .i64 i, .slice g.2.1 g.1 g.2.2, .slice none 0 0] 37, own g.2.1 g.1 g.2.2 5 (prC (gMany (gPr · (n : Int)) g.1 r2).1) 57])
    (fun g => g.1 ≤ k) (fun g => k - g.1) (0, none, 0) (by simp) ⟨rfl, rfl, rfl, rfl, rfl, rfl, trivial⟩ (Ent.trans (own_nil 5 57 _) (by (repeat (first | exact Ent.refl _ | exact Ent.nil | refine Ent.take (by (repeat (first | exact Out.head | apply Out.tail)); (first | done | fail)) ?_ | refine Ent.drop1 ?_)); (first | done | fail))) ?_
  rintro ⟨j, a, c⟩ G hj
  simp only [ov] at hj ⊢
  by_cases hlt : j < k
  · have m1 := gMany_le (g := (gPr · (n : Int))) (fun r => gPr_le r n) j r2
    have hsx : gMany (gPr · (n : Int)) (j + 1) r2 = ((gMany (gPr · (n : Int)) j r2).1 ++ [(gPr (gMany (gPr · (n : Int)) j r2).2 n).1], (gPr (gMany (gPr · (n : Int)) j r2).2 n).2) := rfl
    obtain ⟨⟨l, s⟩, hs⟩ : ∃ q, gMany (gPr · (n : Int)) j r2 = q := ⟨_, rfl⟩
    rw [hs] at m1 hsx ⊢
    simp only at m1 hsx ⊢
    have m2 := gText_le s n
    have m3 := gPos_le (gText s n).2
    have m4 := rFlag_le (gPos (gText s n).2).2
    repeat' (first
      | refine zh ?_
      | refine zK ?_
      | refine zS (h := ?_)
      | refine zU (h := ?_)
      | refine zi ?_
      | refine zR ?_
      | refine za ?_
      | refine zN ?_
      | refine zY ?_
      | refine zd ?_
      | refine zO ?_
      | refine zZ ?_
      | refine zQ rfl ?_
      | refine ze ?_
      | refine zX ?_
      | refine zP ?_
      | refine zT ?_
      | refine zL ?_
      | (refine zE (id := 3) ?_; intro K hK; refine z2 (k' := ?_); (refine zF (hK _ _ ?_); clear hK K))
      | (refine zE (id := 4) ?_; intro K hK; refine zD (k := ?_); refine zD (k := ?_); ((refine zb (hs := gtext_spec X p s n (by omega)) (k := ?_); rintro v A' ⟨rfl, rfl⟩; simp only [List.cons_append, List.nil_append])) <;> (refine zt (k := ?_); ((refine zy (k := ?_); intro q6)) <;> (refine zl (ho' := rfl) (k := ?_); (refine zF (hK _ _ ?_); clear hK K))))
      | (refine zE (id := 5) ?_; intro K hK; refine zD (k := ?_); ((refine zb (hs := getPos_spec X p (gText s n).2 (by omega)) (k := ?_); rintro v A' ⟨rfl, rfl⟩; simp only [List.cons_append, List.nil_append])) <;> (refine zB (k := ?_); refine zB (k := ?_); refine zl (ho' := rfl) (k := ?_); (refine zF (hK _ _ ?_); clear hK K)))
      | (refine zE (id := 6) ?_; intro K hK; refine zD (k := ?_); ((refine zb (hs := rflag_spec X p (gPos (gText s n).2).2 (by omega)) (k := ?_); rintro v A' ⟨rfl, rfl⟩; simp only [List.cons_append, List.nil_append])) <;> (refine zB (k := ?_); refine zB (k := ?_); refine zr (ho := rfl) (k := ?_); (refine zF (hK _ _ ?_); clear hK K)))
      | (refine zE (id := 7) ?_; intro K hK; refine zD (k := ?_); refine zD (k := ?_); ((refine zb (hs := gtext_spec X p (rFlag (gPos (gText s n).2).2).2 n (by omega)) (k := ?_); rintro v A' ⟨rfl, rfl⟩; simp only [List.cons_append, List.nil_append])) <;> (refine zB (k := ?_); refine zB (k := ?_); refine zr (ho := rfl) (k := ?_); (refine zF (hK _ _ ?_); clear hK K)))
      | (refine zE (id := 8) ?_; intro K hK; refine zB (k := ?_); refine zM (k := ?_); refine zn (k := ?_); ((refine yT (cs := PrX.c (gPr s n).1) (k := ?_); intro q36)) <;> (((refine yN (hvl := by rfl) (hvc := by rfl) (hbd := by omega) (k := ?_); intro nb nc)) <;> (refine zB (k := ?_); refine zr (ho := rfl) (k := ?_); (refine zF (hK _ _ ?_); clear hK K))))
      | (refine zE (id := 9) ?_; intro K hK; refine zm (k' := ?_); refine zD (k := ?_); (refine zF (hK _ _ ?_); clear hK K))
      | (refine zc (ht := (fun ht => ?_)) (hf := (fun ht => ?_)) <;> (try simp at ht) <;> (try (exfalso; omega))))
    exact ⟨(j + 1, nb, nc), by show j + 1 ≤ k; omega, by show k - (j + 1) < k - j; omega, ⟨rfl, rfl, rfl, rfl, rfl, int_succ j, trivial⟩, by simp only [hsx]; rw [show prC (l ++ [(gPr s n).1]) = prC l ++ PrX.c (gPr s n).1 by simp [prC]]; (repeat (first | exact Ent.refl _ | exact Ent.nil | refine Ent.take (by (repeat (first | exact Out.head | apply Out.tail)); (first | done | fail)) ?_ | refine Ent.drop1 ?_))⟩
  obtain rfl : j = k := by omega
  rw [hr3]
  simp only
  repeat' (first
    | refine zh ?_
    | refine zK ?_
    | refine zS (h := ?_)
    | refine zU (h := ?_)
    | refine zi ?_
    | refine zR ?_
    | refine za ?_
    | refine zN ?_
    | refine zY ?_
    | refine zd ?_
    | refine zO ?_
    | refine zZ ?_
    | refine zQ rfl ?_
    | refine ze ?_
    | refine zX ?_
    | refine zP ?_
    | refine zT ?_
    | refine zL ?_
    | (refine zE (id := 3) ?_; intro K hK; refine z2 (k' := ?_); (refine zF (hK _ _ ?_); clear hK K))
    | (refine zE (id := 10) ?_; intro K hK; refine zD (k := ?_); refine zD (k := ?_); ((refine zb (hs := hcs2) (k := ?_); rintro v A' ⟨rfl, rfl⟩; simp only [List.cons_append, List.nil_append])) <;> (refine zD (k := ?_); (refine zF (hK _ _ ?_); clear hK K)))
    | (refine zc (ht := (fun ht => ?_)) (hf := (fun ht => ?_)) <;> (try simp at ht) <;> (try (exfalso; omega))))
  refine yG (α := Nat × Option Addr × Nat) (fun g => [(0, .pointer (some ⟨p, 0, none⟩)), (1, .int .i64 n), (4, .pointer (some ⟨q4, 0, none⟩)), (5, .pointer (some ⟨q5, 0, none⟩)), (42, .int .i64 k2), (43, .int .i64 g.1)])
    (fun g => [RdrP B X p (gMany gSs g.1 r4).2, X, cb q4 [.int .i64 0, .int .i64 0, .slice none 0 0, .slice none 0 0] 37, cb q5 [.int .i64 e, .int .i64 i, .slice a j c, .slice g.2.1 g.1 g.2.2] 37, own a j c 5 (prC ps) 57, own g.2.1 g.1 g.2.2 4 (ssC (gMany gSs g.1 r4).1) 111])
    (fun g => g.1 ≤ k2) (fun g => k2 - g.1) (0, none, 0) (by simp) ⟨rfl, rfl, rfl, rfl, rfl, rfl, trivial⟩ (Ent.trans (own_nil 4 111 _) (by (repeat (first | exact Ent.refl _ | exact Ent.nil | refine Ent.take (by (repeat (first | exact Out.head | apply Out.tail)); (first | done | fail)) ?_ | refine Ent.drop1 ?_)); (first | done | fail))) ?_
  rintro ⟨j2, a2, c2⟩ G2 hj2
  simp only [ov] at hj2 ⊢
  by_cases hlt2 : j2 < k2
  · have m1 := gMany_le gSs_le j2 r4
    have hsx : gMany gSs (j2 + 1) r4 = ((gMany gSs j2 r4).1 ++ [(gSs (gMany gSs j2 r4).2).1], (gSs (gMany gSs j2 r4).2).2) := rfl
    obtain ⟨⟨l, s⟩, hs⟩ : ∃ q, gMany gSs j2 r4 = q := ⟨_, rfl⟩
    rw [hs] at m1 hsx ⊢
    simp only at m1 hsx ⊢
    have m2 := rNum_le s
    have m3 := gPos_le s
    repeat' (first
      | refine zh ?_
      | refine zK ?_
      | refine zS (h := ?_)
      | refine zU (h := ?_)
      | refine zi ?_
      | refine zR ?_
      | refine za ?_
      | refine zN ?_
      | refine zY ?_
      | refine zd ?_
      | refine zO ?_
      | refine zZ ?_
      | refine zQ rfl ?_
      | refine ze ?_
      | refine zX ?_
      | refine zP ?_
      | refine zT ?_
      | refine zL ?_
      | (refine zE (id := 11) ?_; intro K hK; refine z2 (k' := ?_); (refine zF (hK _ _ ?_); clear hK K))
      | (refine zE (id := 12) ?_; intro K hK; refine zD (k := ?_); ((refine zb (hs := rnum_spec X p s (by omega)) (k := ?_); rintro v A' ⟨rfl, rfl⟩; simp only [List.cons_append, List.nil_append])) <;> (refine zD (k := ?_); ((refine zb (hs := rnum_spec X p (rNum s).2 (by omega)) (k := ?_); rintro v A' ⟨rfl, rfl⟩; simp only [List.cons_append, List.nil_append])) <;> (refine zt (k := ?_); ((refine zy (k := ?_); intro q7)) <;> (refine zl (ho' := rfl) (k := ?_); (refine zF (hK _ _ ?_); clear hK K)))))
      | (refine zE (id := 13) ?_; intro K hK; refine zD (k := ?_); ((refine zb (hs := getPos_spec X p (gPos s).2 (by omega)) (k := ?_); rintro v A' ⟨rfl, rfl⟩; simp only [List.cons_append, List.nil_append])) <;> (refine zB (k := ?_); refine zl (ho' := rfl) (k := ?_); (refine zF (hK _ _ ?_); clear hK K)))
      | (refine zE (id := 14) ?_; intro K hK; refine zB (k := ?_); refine zM (k := ?_); refine zn (k := ?_); ((refine yT (cs := SX.c (gSs s).1) (k := ?_); intro q56)) <;> (((refine yN (hvl := by rfl) (hvc := by rfl) (hbd := by omega) (k := ?_); intro nb nc)) <;> (refine zB (k := ?_); refine zr (ho := rfl) (k := ?_); (refine zF (hK _ _ ?_); clear hK K))))
      | (refine zE (id := 15) ?_; intro K hK; refine zm (k' := ?_); refine zD (k := ?_); (refine zF (hK _ _ ?_); clear hK K))
      | (refine zc (ht := (fun ht => ?_)) (hf := (fun ht => ?_)) <;> (try simp at ht) <;> (try (exfalso; omega))))
    exact ⟨(j2 + 1, nb, nc), by show j2 + 1 ≤ k2; omega, by show k2 - (j2 + 1) < k2 - j2; omega, ⟨rfl, rfl, rfl, rfl, rfl, int_succ j2, trivial⟩, by simp only [hsx]; rw [show ssC (l ++ [(gSs s).1]) = ssC l ++ SX.c (gSs s).1 by simp [ssC]]; (repeat (first | exact Ent.refl _ | exact Ent.nil | refine Ent.take (by (repeat (first | exact Out.head | apply Out.tail)); (first | done | fail)) ?_ | refine Ent.drop1 ?_))⟩
  obtain rfl : j2 = k2 := by omega
  rw [hr5]
  simp only
  repeat' (first
    | refine zh ?_
    | refine zK ?_
    | refine zS (h := ?_)
    | refine zU (h := ?_)
    | refine zi ?_
    | refine zR ?_
    | refine za ?_
    | refine zN ?_
    | refine zY ?_
    | refine zd ?_
    | refine zO ?_
    | refine zZ ?_
    | refine zQ rfl ?_
    | refine ze ?_
    | refine zX ?_
    | refine zP ?_
    | refine zT ?_
    | refine zL ?_
    | (refine zE (id := 11) ?_; intro K hK; refine z2 (k' := ?_); (refine zF (hK _ _ ?_); clear hK K))
    | (refine zE (id := 16) ?_; intro K hK; refine zn (k := ?_); refine zl (ho' := rfl) (k := ?_); (refine zF (hK _ _ ?_); clear hK K))
    | (refine zc (ht := (fun ht => ?_)) (hf := (fun ht => ?_)) <;> (try simp at ht) <;> (try (exfalso; omega))))
  refine ⟨Or.inr rfl, _, [RdrP B X p r5, X, own a ps.length c 5 (prC ps) 57, own a2 ss.length c2 4 (ssC ss) 111], ?_, resG rfl (by (repeat (first | exact ResL.nil | apply ResL.tmp (by (repeat (first | exact Ev.here | exact Ev.const | exact Ev.arg rfl | apply Ev.there rfl | exact Ev.none rfl | exact Ev.func | exact Ev.var)); (first | done | fail)) | apply ResL.agg (by (repeat (first | exact Ev.here | exact Ev.const | exact Ev.arg rfl | apply Ev.there rfl | exact Ev.none rfl | exact Ev.func | exact Ev.var)); (first | done | fail)) (by (repeat (first | exact Rd.head | exact Rd.base (by assumption) | apply Rd.tail)); (first | done | fail)) (by (repeat (first | exact TakeR.nil | apply TakeR.take | apply TakeR.skip)); (first | done | fail)) | apply ResL.cell (by (repeat (first | exact Ev.here | exact Ev.const | exact Ev.arg rfl | apply Ev.there rfl | exact Ev.none rfl | exact Ev.func | exact Ev.var)); (first | done | fail)) (by (repeat (first | exact Rd.head | exact Rd.base (by assumption) | apply Rd.tail)); (first | done | fail)) rfl)); (first | done | fail)) rfl, a, c, a2, c2, by rw [hlp, hls]; rfl, rfl⟩
  rw [hlp, hls]
  (repeat (first | exact Ent.refl _ | exact Ent.nil | refine Ent.take (by (repeat (first | exact Out.head | apply Out.tail)); (first | done | fail)) ?_ | refine Ent.drop1 ?_))
end specs
end Go.Proofs.YtnoggejkkjngjaaGreat
/- Package state: a state out of its bytes. Conditions: none but the kinds' bounds. -/
set_option maxHeartbeats 8000000
set_option linter.unusedVariables false
set_option linter.unusedSimpArgs false
set_option maxRecDepth 100000
namespace Go.Proofs.YtnoggejkkjngjaaGreat
open Go Go.Sl
attribute [local irreducible] Go.Sl.Wl Go.Sl.Wc Go.Sl.thenQ Go.Sl.blkQ Go.Sl.loopQ Go.Sl.Fspec

/-! ### The bytes of a state -/
def eTail (S : G15) : List UInt8 := eFlag S.closed ++ (eSnap S.base ++ (encN S.es.length ++ S.es.flatMap eEnt))
def eState (S : G15) : List UInt8 := encN S.table.length ++ (S.table.flatMap eEp ++ eTail S)
theorem fair_K {e : Ep} (h : e.fair) : EpK e := by
  unfold Ep.fair at h
  exact ⟨by unfold numOk; exact decide_eq_true (by omega), by unfold numOk; exact decide_eq_true (by omega)⟩
theorem ent_K {T : List Ep} {x : EnX} (h : EntP T x) : EnK x := by
  have hn := num_pos h.on
  have := h.ks
  have := h.ts
  exact ⟨hn.1, hn.2, numB_num h.ns, numB_num h.nr, by omega, by omega⟩
def bigN : Nat := 9007199254740992
theorem base_K {T : List Ep} {b : SnX} (h : b = SnX.zero ∨ RightP T b) (hl : b.ps.length ≤ 100000) : SnK bigN b := by
  rcases h with rfl | h
  · exact ⟨Nat.le_refl _, by decide, by decide, by simp [SnX.zero], by simp [SnX.zero], by simp [SnX.zero], by simp [SnX.zero]⟩
  · have hn := num_pos h.on
    refine ⟨Nat.le_refl _, hn.1, hn.2, by unfold bigN; omega, by have := h.few; unfold bigN; omega, fun x hx => ?_, fun x hx => ?_⟩
    · obtain ⟨h1, h2, _, h4⟩ := prOk_out (h.prs x hx)
      have := num_pos (below_out h4).1
      exact ⟨this.1, this.2, by unfold bigN; omega, by unfold bigN; omega⟩
    · obtain ⟨h1, h2, h4⟩ := ssOk_out (h.sss x hx)
      have := num_pos (below_out h4).1
      exact ⟨numB_num h1, numB_num h2, this.1, this.2⟩
theorem state_e {S : G15} {n : Nat} (h : S.inv n) : encS S = eState S := by
  have htab := rightT_out h.ok.tab
  have hfew := h.ok.few
  unfold encS wState eState eTail
  rw [wNum_e [] (n := (S.table.length : Nat)) (by unfold numOk; exact decide_eq_true (by omega)), fold_e S.table _ (fun x hx l => wEp_e l (fair_K (htab.2.2.1 x hx))), wFlag_e, wSnap_e _ (base_K h.bz h.ok.bps),
    wNum_e _ (n := (S.es.length : Nat)) (by unfold numOk; exact decide_eq_true (by omega)), fold_e S.es _ (fun x hx l => wEnt_e l (ent_K (h.en x hx)))]
  simp [eN, List.append_assoc]
theorem eText_len (s : ByteArray) : s.size ≤ (eText s).length := by
  have hsz : s.data.toList.length = s.size := by rw [Array.length_toList]; rfl
  unfold eText; rw [List.length_append, hsz]; omega
theorem flat_len {α : Type} {e : α → List UInt8} : ∀ {l : List α}, (∀ x ∈ l, 0 < (e x).length) → l.length ≤ (l.flatMap e).length
  | [], _ => Nat.le_refl _
  | x :: l, h => by
    have h1 := h x (List.mem_cons_self ..)
    have h2 := flat_len (l := l) fun y hy => h y (List.mem_cons_of_mem _ hy)
    simp only [List.flatMap_cons, List.length_append, List.length_cons]; omega
theorem flat_mem {α : Type} {e : α → List UInt8} : ∀ {l : List α} {x : α}, x ∈ l → (e x).length ≤ (l.flatMap e).length
  | y :: l, x, h => by
    simp only [List.flatMap_cons, List.length_append]
    rcases List.mem_cons.1 h with rfl | h
    · omega
    · have := flat_mem (e := e) h; omega
theorem ePr_pos (x : PrX) : 0 < (ePr x).length := by
  have := encN_pos x.k.size
  unfold ePr eText; simp only [List.length_append]; omega
theorem eSs_pos (x : SX) : 0 < (eSs x).length := by
  have := encN_pos x.s.toNat
  unfold eSs ePos eN; simp only [List.length_append]; omega
theorem snap_small {b : SnX} (h : SnK bigN b) {n : Nat} (hn : (eSnap b).length ≤ n) (hb : n ≤ 9007199254740992) : SnK n b := by
  have h1 : (b.ps.flatMap ePr).length ≤ n := by
    unfold eSnap ePrs at hn; simp only [List.length_append] at hn; omega
  have h2 : (b.ss.flatMap eSs).length ≤ n := by
    unfold eSnap eSss at hn; simp only [List.length_append] at hn; omega
  refine ⟨hb, h.e, h.i, Nat.le_trans (flat_len fun x _ => ePr_pos x) h1, Nat.le_trans (flat_len fun x _ => eSs_pos x) h2, fun x hx => ?_, h.ss⟩
  have hm := flat_mem (e := ePr) hx
  have hp := h.ps x hx
  have k1 := eText_len x.k
  have k2 := eText_len x.v.d
  have : (eText x.k).length + (eText x.v.d).length ≤ (ePr x).length := by unfold ePr; simp only [List.length_append]; omega
  exact ⟨hp.a, hp.b, by omega, by omega⟩
/-! ### Each entry was fresh when it came -/
def Fresh (S : G15) : Prop := ∀ (k : Nat) (x : EnX), S.es[k]? = some x → (lookV (S.upto k).L 16 x.s x.r).1 = 1
theorem fresh_nil {S : G15} (h : S.es = []) : Fresh S := fun k x hx => by rw [h] at hx; simp at hx
theorem gcw_look {S : G15} {x : EnX} (h : gcwV S x = 0) : (lookV S.fold.L 16 x.s x.r).1 = 1 := by
  have hr := look_range S.fold.L 16 x.s x.r
  unfold gcwV at h
  split at h
  · omega
  · split at h
    · omega
    · split at h
      · omega
      · split at h
        · omega
        · split at h
          · omega
          · split at h
            · omega
            · split at h
              · omega
              · split at h
                · omega
                · omega
theorem Fresh.take {S : G15} (h : Fresh S) (T : List Ep) (c : Nat) (b : Bool) : Fresh ⟨T, S.base, S.es.take c, b⟩ := fun k x hx => by
  have hx' : (S.es.take c)[k]? = some x := hx
  rw [List.getElem?_take] at hx'
  split at hx'
  · rename_i hk
    have := h k x hx'
    show (lookV (((S.es.take c).take k).foldl FoX.put (FoX.of S.base)).L 16 x.s x.r).1 = 1
    rw [List.take_take, show min k c = k by omega]; exact this
  · cases hx'
theorem Fresh.apply {S : G15} (h : Fresh S) (r : RcG) : Fresh (gapplyV S r) := by
  unfold gapplyV
  split
  · exact h
  · rename_i h0
    have h0' : gchkV S r = 0 := by omega
    unfold gchkV at h0'
    split
    · rename_i k1
      rw [if_pos k1] at h0'
      intro k x hx
      have hx' : (S.es ++ [r.x])[k]? = some x := hx
      by_cases hk : k < S.es.length
      · rw [List.getElem?_append_left hk] at hx'
        have := h k x hx'
        show (lookV (((S.es ++ [r.x]).take k).foldl FoX.put (FoX.of S.base)).L 16 x.s x.r).1 = 1
        rw [List.take_append_of_le_length (by omega)]; exact this
      · rw [List.getElem?_append_right (by omega)] at hx'
        have : k - S.es.length = 0 := by
          rcases Nat.eq_zero_or_pos (k - S.es.length) with q | q
          · exact q
          · rw [List.getElem?_eq_none (by simp; omega)] at hx'; cases hx'
        rw [this] at hx'
        simp at hx'
        obtain rfl : k = S.es.length := by omega
        subst hx'
        show (lookV (((S.es ++ [r.x]).take S.es.length).foldl FoX.put (FoX.of S.base)).L 16 r.x.s r.x.r).1 = 1
        rw [List.take_left]; exact gcw_look h0'
    · split
      · unfold gadoptV
        split
        · have := h.take (S.table ++ [r.ep]) S.es.length false
          rwa [List.take_length] at this
        · split
          · exact h.take _ _ _
          · exact fresh_nil rfl
      · split
        · exact h
        · split
          · exact fresh_nil rfl
          · exact fresh_nil rfl
/-- The state as far as it is read. -/
def decS (S : G15) (k : Nat) : G15 := ⟨S.table, S.base, S.es.take k, false⟩
theorem decS_inv {S : G15} {n : Nat} (h : S.inv n) (k : Nat) : (decS S k).inv n := by
  have hwt := h.wt
  have htop := h.top
  have hfew := h.ok.few
  refine ⟨⟨h.ok.tab, by show (S.es.take k).length ≤ 600; simp; omega, fun j x hx => ?_, h.ok.bok, h.ok.bps, h.ok.bi, fun x hx => h.ok.ens x (List.mem_of_mem_take hx)⟩, by show S.base.ps.length + (S.es.take k).length ≤ n; simp; omega, by show S.base.i + ((S.es.take k).length : Int) ≤ 512; simp; omega, h.bz, fun x hx => h.en x (List.mem_of_mem_take hx)⟩
  have hx' : (S.es.take k)[j]? = some x := hx
  rw [List.getElem?_take] at hx'
  split at hx'
  · exact h.ok.idx j x hx'
  · cases hx'
theorem decS_fold (S : G15) (k : Nat) : (decS S k).fold = S.upto k := rfl
theorem decS_chk {S : G15} {n : Nat} (h : S.inv n) (hf : Fresh S) {k : Nat} {x : EnX} (hx : S.es[k]? = some x) : gchkV (decS S k) (rcW x) = 0 := by
  have hk := (List.getElem?_eq_some_iff.1 hx).1
  have hi := h.top_i hx
  have hu := G15.upto_i h.ok k (by omega)
  have he := h.en x (List.mem_of_getElem? hx)
  have hr := on_range he.on
  have hat := on_at he.on he.pos
  have hl := hf k x hx
  show (if (1 : Int) = 1 then gcwV (decS S k) x else _) = (0 : Int)
  rw [if_pos rfl]
  unfold gcwV
  rw [decS_fold, if_neg (by simp [decS]), if_neg (by omega), if_neg (by omega), if_neg (by show ¬ ¬ (x.e = (atT S.table x.i).1 ∧ x.i = (atT S.table x.i).2); rw [hat]; simp),
    if_neg (by rw [he.ns, he.nr]; simp; exact he.dl), if_neg (by have := he.ks; have := he.ts; omega), hl]
  rfl
theorem decS_go {S : G15} {n : Nat} (h : S.inv n) (hf : Fresh S) {k : Nat} {x : EnX} (hx : S.es[k]? = some x) : gapplyV (decS S k) (rcW x) = decS S (k + 1) := by
  have hk := (List.getElem?_eq_some_iff.1 hx).1
  unfold gapplyV
  rw [decS_chk h hf hx, if_neg (by simp)]
  show (if (1 : Int) = 1 then gwriteV (decS S k) x else _) = _
  rw [if_pos rfl]
  unfold gwriteV decS
  obtain ⟨_, rfl⟩ := List.getElem?_eq_some_iff.1 hx
  simp only
  rw [List.take_succ_eq_append_getElem hk]
end Go.Proofs.YtnoggejkkjngjaaGreat
/- Package state: Decode of a state's bytes is the state. Conditions: none but the kinds' bounds. -/
set_option maxHeartbeats 8000000
set_option linter.unusedVariables false
set_option linter.unusedSimpArgs false
set_option maxRecDepth 100000
namespace Go.Proofs.YtnoggejkkjngjaaGreat
open Go Go.Sl
attribute [local irreducible] Go.Sl.Wl Go.Sl.Wc Go.Sl.thenQ Go.Sl.blkQ Go.Sl.loopQ Go.Sl.Fspec

def rcI (s : SnX) : RcG := ⟨4, enZ, ⟨0, 0, false⟩, 0, s⟩
theorem rcI_ok {S : G15} {n : Nat} (h : S.inv n) (hn : n ≤ 90000) : (rcI S.base).ok := by
  have hw := h.wt
  refine ⟨enZ_ok, zero_rg, ?_, by show S.base.ps.length ≤ 90000; omega, by have := h.ok.bok.few; show S.base.ss.length ≤ 1000; omega, fun x hx => ?_, fun x hx => ?_⟩
  · rcases h.bz with q | q
    · show rg S.base.e; rw [q]; exact zero_rg
    · have := on_range q.on; show rg S.base.e; unfold rg; omega
  · rcases h.bz with q | q
    · have hx' : x ∈ S.base.ps := hx
      rw [q] at hx'; simp [SnX.zero] at hx'
    · have := on_range (below_out (prOk_out (q.prs x hx)).2.2.2).1; unfold rg; omega
  · rcases h.bz with q | q
    · have hx' : x ∈ S.base.ss := hx
      rw [q] at hx'; simp [SnX.zero] at hx'
    · have := on_range (below_out (ssOk_out (q.sss x hx)).2.2).1; unfold rg; omega
theorem ins_right {T : List Ep} {s : SnX} (h : RightP T s) : gchkV (newG T) (rcI s) = 0 := by
  have hp := h.pos
  show (if (4 : Int) = 1 then _ else if (4 : Int) = 2 then _ else if (4 : Int) = 3 then _ else if (4 : Int) = 4 then (if false = true then (10 : Int) else if rightX T s = false then 2 else if s.i ≤ 0 then 11 else 0) else _) = 0
  rw [if_neg (by decide), if_neg (by decide), if_neg (by decide), if_pos rfl, if_neg (by simp), if_neg (by rw [(right_iff T s).2 h]; simp), if_neg (by omega)]
theorem ins_go {T : List Ep} {s : SnX} (h : RightP T s) : gapplyV (newG T) (rcI s) = ⟨T, s, [], false⟩ := by
  unfold gapplyV
  rw [ins_right h, if_neg (by simp)]
  show (if (4 : Int) = 1 then _ else if (4 : Int) = 2 then _ else if (4 : Int) = 3 then _ else if (4 : Int) = 4 then _ else _) = _
  rw [if_neg (by decide), if_neg (by decide), if_neg (by decide), if_pos rfl]; rfl
section specs
variable {B : Base}
theorem decode1_spec (X : Asn) (S : G15) (n : Nat) (hS : S.inv n) (hn : n ≤ 90000) (hf : Fresh S) (a : Option Addr) (c : Nat) (h : RdS Tryz.prog B [X] 1 a (encS S).length c ((encS S).map byteV)) :
    Fspec Tryz.prog B 23 #[.slice a (encS S).length c] [X] (fun v A' => ∃ st, v = .tuple #[.pointer (some ⟨st, 0, none⟩), .int .i64 0] ∧ A' = [GtP st S, X]) := by
  have hlen := (wState_ok hS).2
  have hlen2 : (encS S).length ≤ 200000000 := hlen
  have he := state_e hS
  have htab := rightT_out hS.ok.tab
  have hfew := hS.ok.few
  have hbps := hS.ok.bps
  have hbss := hS.ok.bok.few
  obtain ⟨l, hl⟩ : ∃ l, encS S = l := ⟨_, rfl⟩
  rw [hl] at h hlen2 he ⊢
  have hnew := rnew_spec (B := B) [X] a l.length c l h (by omega)
  -- what is read, one behind the other
  have hl1 : (S.table.flatMap eEp ++ eTail S).length ≤ l.length := by rw [he]; unfold eState; simp only [List.length_append]; omega
  have hcnt : rCount (l, false) 64 = (S.table.length, (S.table.flatMap eEp ++ eTail S, false)) := by
    rw [he]; unfold eState; exact rCount_e (by omega) (by omega) _
  have hl2 : (eTail S).length ≤ l.length := by simp only [List.length_append] at hl1; omega
  have hfl : rFlag (eTail S, false) = (S.closed, (eSnap S.base ++ (encN S.es.length ++ S.es.flatMap eEnt), false)) := by unfold eTail; exact rFlag_e _ _
  have hl3 : (eSnap S.base ++ (encN S.es.length ++ S.es.flatMap eEnt)).length ≤ l.length := by unfold eTail at hl2; simp only [List.length_append] at hl2 ⊢; omega
  have hsn : gSnap (eSnap S.base ++ (encN S.es.length ++ S.es.flatMap eEnt), false) l.length = (S.base, (encN S.es.length ++ S.es.flatMap eEnt, false)) :=
    gSnap_e (snap_small (base_K hS.bz hbps) (n := l.length) (by simp only [List.length_append] at hl3; omega) (by omega)) _
  have hl4 : (encN S.es.length ++ S.es.flatMap eEnt).length ≤ l.length := by simp only [List.length_append] at hl3 ⊢; omega
  have hcn2 : rCount (encN S.es.length ++ S.es.flatMap eEnt, false) 512 = (S.es.length, (S.es.flatMap eEnt, false)) := rCount_e (by omega) (by have := hS.top; have := hS.ok.bi; omega) _
  have hl5 : (S.es.flatMap eEnt).length ≤ l.length := by simp only [List.length_append] at hl4; omega
  have hc1 := fun Y p => rcount_spec (B := B) Y p (l, false) 64 (by show l.length ≤ _; omega)
  have hf1 := fun Y p => rflag_spec (B := B) Y p (eTail S, false) (by show (eTail S).length ≤ _; omega)
  have hs1 := fun Y p => getSnap_spec (B := B) Y p (eSnap S.base ++ (encN S.es.length ++ S.es.flatMap eEnt), false) l.length (by omega) (by show (eSnap S.base ++ (encN S.es.length ++ S.es.flatMap eEnt)).length ≤ _; omega)
  have hc2 := fun Y p => rcount_spec (B := B) Y p (encN S.es.length ++ S.es.flatMap eEnt, false) 512 (by show (encN S.es.length ++ S.es.flatMap eEnt).length ≤ _; omega)
  rw [hcnt] at hc1
  rw [hfl] at hf1
  rw [hsn] at hs1
  rw [hcn2] at hc2
  simp only at hc1 hf1 hs1 hc2
  refine spec_of (args := [_]) Tryz.func23 rfl rfl rfl ?_
  repeat' (first
    | refine zh ?_
    | refine zK ?_
    | refine zS (h := ?_)
    | refine zU (h := ?_)
    | refine zi ?_
    | refine zR ?_
    | refine za ?_
    | refine zN ?_
    | refine zY ?_
    | refine zd ?_
    | refine zO ?_
    | refine zZ ?_
    | refine zQ rfl ?_
    | refine ze ?_
    | refine zX ?_
    | refine zP ?_
    | refine zT ?_
    | refine zL ?_
    | (refine zE (id := 0) ?_; intro K hK; refine zI (k := ?_); refine zI (k := ?_); (refine zF (hK _ _ ?_); clear hK K))
    | (refine zE (id := 1) ?_; intro K hK; refine zD (k := ?_); ((refine zb (hs := hnew) (k := ?_); rintro v A' ⟨p, b, bc, rfl, rfl⟩; simp only [List.cons_append, List.nil_append])) <;> (refine zI (k := ?_); (refine zF (hK _ _ ?_); clear hK K)))
    | (refine zE (id := 2) ?_; intro K hK; refine zI (k := ?_); (refine zF (hK _ _ ?_); clear hK K))
    | (refine zE (id := 3) ?_; intro K hK; refine zD (k := ?_); ((refine zb (hs := hc1 _ p) (k := ?_); rintro v A' ⟨rfl, rfl⟩; simp only [List.cons_append, List.nil_append])) <;> (refine zD (k := ?_); (refine zF (hK _ _ ?_); clear hK K)))
    | (refine zc (ht := (fun ht => ?_)) (hf := (fun ht => ?_)) <;> (try simp at ht) <;> (try (exfalso; omega))))
  refine yG (α := Nat × Option Addr × Nat) (fun g => [(0, .slice a l.length c), (4, .pointer (some ⟨p, 0, none⟩)), (5, .slice g.2.1 g.1 g.2.2), (14, .int .i64 S.table.length), (15, .int .i64 g.1)])
    (fun g => [RdrP B (own b l.length bc 1 (l.map byteV) 5) p ((S.table.drop g.1).flatMap eEp ++ eTail S, false), own b l.length bc 1 (l.map byteV) 5, own g.2.1 g.1 g.2.2 3 (epsC (S.table.take g.1)) 45, X]) (fun g => g.1 ≤ S.table.length) (fun g => S.table.length - g.1) (0, none, 0) (by simp) ⟨rfl, rfl, rfl, rfl, rfl, trivial⟩ (Ent.trans (own_nil 3 45 _) (by (repeat (first | exact Ent.refl _ | exact Ent.nil | refine Ent.take (by (repeat (first | exact Out.head | apply Out.tail)); (first | done | fail)) ?_ | refine Ent.drop1 ?_)); (first | done | fail))) ?_
  rintro ⟨j, ta, tc⟩ G hj
  simp only [ov] at hj ⊢
  by_cases hlt : j < S.table.length
  · have hd := List.drop_eq_getElem_cons hlt
    have hfm : (S.table.drop j).flatMap eEp ++ eTail S = eEp S.table[j] ++ ((S.table.drop (j + 1)).flatMap eEp ++ eTail S) := by rw [hd, List.flatMap_cons, List.append_assoc]
    have hlj : ((S.table.drop j).flatMap eEp ++ eTail S).length ≤ 1000000000 := by
      have : ((S.table.drop j).flatMap eEp).length ≤ (S.table.flatMap eEp).length := by
        conv => rhs; rw [← List.take_append_drop j S.table, List.flatMap_append, List.length_append]
        omega
      simp only [List.length_append] at hl1 ⊢; omega
    have hge := fun Y p => getEpoch_spec (B := B) Y p ((S.table.drop j).flatMap eEp ++ eTail S, false) hlj
    have hg : gEp ((S.table.drop j).flatMap eEp ++ eTail S, false) = (S.table[j], ((S.table.drop (j + 1)).flatMap eEp ++ eTail S, false)) := by
      rw [hfm]; exact gEp_e (fair_K (htab.2.2.1 _ (List.getElem_mem hlt))) _
    rw [hg] at hge
    simp only at hge
    have htk : epsC (S.table.take (j + 1)) = epsC (S.table.take j) ++ epC S.table[j] := by rw [List.take_succ_eq_append_getElem hlt, epsC_append]; show epsC _ ++ (epC _ ++ []) = _; rw [List.append_nil]
    repeat' (first
      | refine zh ?_
      | refine zK ?_
      | refine zS (h := ?_)
      | refine zU (h := ?_)
      | refine zi ?_
      | refine zR ?_
      | refine za ?_
      | refine zN ?_
      | refine zY ?_
      | refine zd ?_
      | refine zO ?_
      | refine zZ ?_
      | refine zQ rfl ?_
      | refine ze ?_
      | refine zX ?_
      | refine zP ?_
      | refine zT ?_
      | refine zL ?_
      | (refine zE (id := 4) ?_; intro K hK; refine z2 (k' := ?_); (refine zF (hK _ _ ?_); clear hK K))
      | (refine zE (id := 5) ?_; intro K hK; refine zD (k := ?_); refine zD (k := ?_); ((refine zb (hs := hge _ p) (k := ?_); rintro v A' ⟨rfl, rfl⟩; simp only [List.cons_append, List.nil_append]; simp only [epC])) <;> (((refine yT (cs := epC S.table[j]) (k := ?_); intro r20)) <;> (((refine yN (hvl := by rfl) (hvc := by rfl) (hbd := by omega) (k := ?_); intro nb nc; rw [← htk])) <;> (refine zI (k := ?_); (refine zF (hK _ _ ?_); clear hK K)))))
      | (refine zE (id := 6) ?_; intro K hK; refine zm (k' := ?_); refine zD (k := ?_); (refine zF (hK _ _ ?_); clear hK K))
      | (refine zc (ht := (fun ht => ?_)) (hf := (fun ht => ?_)) <;> (try simp at ht) <;> (try (exfalso; omega))))
    exact ⟨(j + 1, nb, nc), by show j + 1 ≤ S.table.length; omega, by show S.table.length - (j + 1) < S.table.length - j; omega, ⟨rfl, rfl, rfl, rfl, int_succ j, trivial⟩, (by (repeat (first | exact Ent.refl _ | exact Ent.nil | refine Ent.take (by (repeat (first | exact Out.head | apply Out.tail)); (first | done | fail)) ?_ | refine Ent.drop1 ?_)); (first | done | fail))⟩
  obtain rfl : j = S.table.length := by omega
  rw [List.take_length, List.drop_length, List.flatMap_nil, List.nil_append]
  have hst0 : decS S 0 = ⟨S.table, S.base, [], false⟩ := by unfold decS; simp
  refine yP (a := ta) (sz := 3) (ho := (by (repeat (first | exact Out.head | apply Out.tail)); (first | done | fail))) (h0 := by omega) (h := fun hft => ?_)
  have hnw := gnew_spec (B := B) [own ta S.table.length tc 3 (epsC S.table) 45] S.table ta tc (hft.rd .head) hS.ok.tab
  have hinv0 : (newG S.table).inv n := new_inv hS.ok.tab
  obtain ⟨eb, heb⟩ : ∃ x, decide (S.base.e = 0 ∧ S.base.i = 0) = x := ⟨_, rfl⟩
  have hz1 : eb = true → S.base = SnX.zero := fun q => by
    rcases hS.bz with z | z
    · exact z
    · rw [q] at heb
      have := of_decide_eq_true heb
      have := z.pos; omega
  have hz2 : eb = false → RightP S.table S.base := fun q => by
    rcases hS.bz with z | z
    · rw [q, z] at heb; simp [SnX.zero] at heb
    · exact z
  repeat' (first
    | (refine yu (k := 12) (α := Unit) (fun _ => [(4, .pointer (some ⟨p, 0, none⟩)), (6, .pointer (some ⟨st, 0, none⟩)), (8, .bool S.closed), (9, .pointer (some ⟨r9, 0, none⟩)), (10, .bool eb)]) (fun _ => [GtP st (newG S.table), RdrP B (own b l.length bc 1 (l.map byteV) 5) p (encN S.es.length ++ S.es.flatMap eEnt, false), own b l.length bc 1 (l.map byteV) 5, cb r9 [.int .i64 S.base.e, .int .i64 S.base.i, .slice pa S.base.ps.length pc, .slice sa S.base.ss.length sc] 37, own pa S.base.ps.length pc 5 (prC S.base.ps) 57, own sa S.base.ss.length sc 4 (ssC S.base.ss) 111, X]) (fun _ => True) ?_ (fun _ G2 _ => ?_); rotate_left; simp only [ov]; rotate_left)
    | (refine xJ (k := 13) (α := Unit) (fun _ => [(4, .pointer (some ⟨p, 0, none⟩)), (6, .pointer (some ⟨st, 0, none⟩)), (8, .bool S.closed)]) (fun _ => [GtP st (decS S 0), RdrP B (own b l.length bc 1 (l.map byteV) 5) p (encN S.es.length ++ S.es.flatMap eEnt, false), own b l.length bc 1 (l.map byteV) 5, X]) (fun _ => True) ?_ (fun _ G2 _ => ?_); rotate_left; simp only [ov]; rotate_left)
    | refine zh ?_
    | refine zK ?_
    | refine zS (h := ?_)
    | refine zU (h := ?_)
    | refine zi ?_
    | refine zR ?_
    | refine za ?_
    | refine zN ?_
    | refine zY ?_
    | refine zd ?_
    | refine zO ?_
    | refine zZ ?_
    | refine zQ rfl ?_
    | refine ze ?_
    | refine zX ?_
    | refine zP ?_
    | refine zT ?_
    | refine zL ?_
    | (refine zE (id := 4) ?_; intro K hK; refine z2 (k' := ?_); (refine zF (hK _ _ ?_); clear hK K))
    | (refine zE (id := 7) ?_; intro K hK; refine zD (k := ?_); ((refine zb (hs := hnw) (k := ?_); rintro v A' ⟨st, rfl, rfl⟩; simp only [List.cons_append, List.nil_append])) <;> (refine zD (k := ?_); refine zx (k' := ?_); refine zx (k' := ?_); refine zI (k := ?_); refine zI (k := ?_); (refine zF (hK _ _ ?_); clear hK K)))
    | (refine zE (id := 8) ?_; intro K hK; refine zD (k := ?_); refine yB (k' := ?_); (refine zF (hK _ _ ?_); clear hK K))
    | (refine zE (id := 10) ?_; intro K hK; refine zD (k := ?_); ((refine zb (hs := hf1 _ p) (k := ?_); rintro v A' ⟨rfl, rfl⟩; simp only [List.cons_append, List.nil_append])) <;> (refine zI (k := ?_); (refine zF (hK _ _ ?_); clear hK K)))
    | (refine zE (id := 11) ?_; intro K hK; refine zD (k := ?_); refine zD (k := ?_); refine zk (k' := ?_); ((refine zb (hs := hs1 _ p) (k := ?_); rintro v A' ⟨pa, pc, sa, sc, rfl, rfl⟩; simp only [List.cons_append, List.nil_append])) <;> (((refine zy (k := ?_); intro r9)) <;> (refine zl (ho' := rfl) (k := ?_); (refine zF (hK _ _ ?_); clear hK K))))
    | (refine zc (ht := (fun ht => ?_)) (hf := (fun ht => ?_)) <;> (try simp at ht) <;> (try (exfalso; omega))))
  · cases eb with
    | true =>
      have hz := hz1 rfl
      have hp0 : decide (((S.base.ps.length : Nat) : Int) = 0) = true := by rw [hz]; rfl
      have hs0 : decide (((S.base.ss.length : Nat) : Int) = 0) = true := by rw [hz]; rfl
      repeat' (first
        | refine zh ?_
        | refine zK ?_
        | refine zS (h := ?_)
        | refine zU (h := ?_)
        | refine zi ?_
        | refine zR ?_
        | refine za ?_
        | refine zN ?_
        | refine zY ?_
        | refine zd ?_
        | refine zO ?_
        | refine zZ ?_
        | refine zQ rfl ?_
        | refine ze ?_
        | refine zX ?_
        | refine zP ?_
        | refine zT ?_
        | refine zL ?_
        | (refine zE (id := 12) ?_; intro K hK; refine zB (k := ?_); refine zn (k := ?_); refine zt (k := ?_); ((refine yK (b := true) (hb := by rw [pos_ceq]; exact heb) (k' := ?_))) <;> (refine zD (k := ?_); ((first | (refine zA (k := ?_); refine zB (k := ?_)) | refine zC (k := ?_) | ((refine zG (yes := (fun ht => ?_)) (no := (fun ht => ?_)) <;> (try simp at ht) <;> (try (exfalso; omega))) <;> (first | (refine zA (k := ?_); refine zB (k := ?_)) | refine zC (k := ?_))))) <;> (((first | (refine zA (k := ?_); refine zM (k := ?_)) | refine zC (k := ?_) | ((refine zG (yes := (fun ht => ?_)) (no := (fun ht => ?_)) <;> (try simp at ht) <;> (try (exfalso; omega))) <;> (first | (refine zA (k := ?_); refine zM (k := ?_)) | refine zC (k := ?_))))) <;> (((first | (refine zA (k := ?_); refine zk (k' := ?_)) | refine zC (k := ?_) | ((refine zG (yes := (fun ht => ?_)) (no := (fun ht => ?_)) <;> (try simp at ht) <;> (try (exfalso; omega))) <;> (first | (refine zA (k := ?_); refine zk (k' := ?_)) | refine zC (k := ?_))))) <;> (((first | (refine zA (k := ?_); (refine z5 (k' := ?_); rw [hp0])) | refine zC (k := ?_) | ((refine zG (yes := (fun ht => ?_)) (no := (fun ht => ?_)) <;> (try simp at ht) <;> (try (exfalso; omega))) <;> (first | (refine zA (k := ?_); (refine z5 (k' := ?_); rw [hp0])) | refine zC (k := ?_))))) <;> ((first | refine zV (k := ?_) | refine zW (k := ?_) | refine zg (k := ?_)); refine zD (k := ?_); ((first | (refine zA (k := ?_); refine zB (k := ?_)) | refine zC (k := ?_) | ((refine zG (yes := (fun ht => ?_)) (no := (fun ht => ?_)) <;> (try simp at ht) <;> (try (exfalso; omega))) <;> (first | (refine zA (k := ?_); refine zB (k := ?_)) | refine zC (k := ?_))))) <;> (((first | (refine zA (k := ?_); refine zM (k := ?_)) | refine zC (k := ?_) | ((refine zG (yes := (fun ht => ?_)) (no := (fun ht => ?_)) <;> (try simp at ht) <;> (try (exfalso; omega))) <;> (first | (refine zA (k := ?_); refine zM (k := ?_)) | refine zC (k := ?_))))) <;> (((first | (refine zA (k := ?_); refine zk (k' := ?_)) | refine zC (k := ?_) | ((refine zG (yes := (fun ht => ?_)) (no := (fun ht => ?_)) <;> (try simp at ht) <;> (try (exfalso; omega))) <;> (first | (refine zA (k := ?_); refine zk (k' := ?_)) | refine zC (k := ?_))))) <;> (((first | (refine zA (k := ?_); (refine z5 (k' := ?_); rw [hs0])) | refine zC (k := ?_) | ((refine zG (yes := (fun ht => ?_)) (no := (fun ht => ?_)) <;> (try simp at ht) <;> (try (exfalso; omega))) <;> (first | (refine zA (k := ?_); (refine z5 (k' := ?_); rw [hs0])) | refine zC (k := ?_))))) <;> ((first | refine zV (k := ?_) | refine zW (k := ?_) | refine zg (k := ?_)); refine zI (k := ?_); (refine zF (hK _ _ ?_); clear hK K)))))))))))
        | (refine zc (ht := (fun ht => ?_)) (hf := (fun ht => ?_)) <;> (try simp at ht) <;> (try (exfalso; omega))))
      exact ⟨(), trivial, ⟨rfl, rfl, rfl, rfl, rfl, trivial⟩, (by (repeat (first | exact Ent.refl _ | exact Ent.nil | refine Ent.take (by (repeat (first | exact Out.head | apply Out.tail)); (first | done | fail)) ?_ | refine Ent.drop1 ?_)); (first | done | fail))⟩
    | false =>
      repeat' (first
        | refine zh ?_
        | refine zK ?_
        | refine zS (h := ?_)
        | refine zU (h := ?_)
        | refine zi ?_
        | refine zR ?_
        | refine za ?_
        | refine zN ?_
        | refine zY ?_
        | refine zd ?_
        | refine zO ?_
        | refine zZ ?_
        | refine zQ rfl ?_
        | refine ze ?_
        | refine zX ?_
        | refine zP ?_
        | refine zT ?_
        | refine zL ?_
        | (refine zE (id := 12) ?_; intro K hK; refine zB (k := ?_); refine zn (k := ?_); refine zt (k := ?_); ((refine yK (b := false) (hb := by rw [pos_ceq]; exact heb) (k' := ?_))) <;> (refine zD (k := ?_); ((first | (refine zA (k := ?_); refine zB (k := ?_)) | refine zC (k := ?_) | ((refine zG (yes := (fun ht => ?_)) (no := (fun ht => ?_)) <;> (try simp at ht) <;> (try (exfalso; omega))) <;> (first | (refine zA (k := ?_); refine zB (k := ?_)) | refine zC (k := ?_))))) <;> (((first | (refine zA (k := ?_); refine zM (k := ?_)) | refine zC (k := ?_) | ((refine zG (yes := (fun ht => ?_)) (no := (fun ht => ?_)) <;> (try simp at ht) <;> (try (exfalso; omega))) <;> (first | (refine zA (k := ?_); refine zM (k := ?_)) | refine zC (k := ?_))))) <;> (((first | (refine zA (k := ?_); refine zk (k' := ?_)) | refine zC (k := ?_) | ((refine zG (yes := (fun ht => ?_)) (no := (fun ht => ?_)) <;> (try simp at ht) <;> (try (exfalso; omega))) <;> (first | (refine zA (k := ?_); refine zk (k' := ?_)) | refine zC (k := ?_))))) <;> (((first | (refine zA (k := ?_); refine z5 (k' := ?_)) | refine zC (k := ?_) | ((refine zG (yes := (fun ht => ?_)) (no := (fun ht => ?_)) <;> (try simp at ht) <;> (try (exfalso; omega))) <;> (first | (refine zA (k := ?_); refine z5 (k' := ?_)) | refine zC (k := ?_))))) <;> ((first | refine zV (k := ?_) | refine zW (k := ?_) | refine zg (k := ?_)); refine zD (k := ?_); ((first | (refine zA (k := ?_); refine zB (k := ?_)) | refine zC (k := ?_) | ((refine zG (yes := (fun ht => ?_)) (no := (fun ht => ?_)) <;> (try simp at ht) <;> (try (exfalso; omega))) <;> (first | (refine zA (k := ?_); refine zB (k := ?_)) | refine zC (k := ?_))))) <;> (((first | (refine zA (k := ?_); refine zM (k := ?_)) | refine zC (k := ?_) | ((refine zG (yes := (fun ht => ?_)) (no := (fun ht => ?_)) <;> (try simp at ht) <;> (try (exfalso; omega))) <;> (first | (refine zA (k := ?_); refine zM (k := ?_)) | refine zC (k := ?_))))) <;> (((first | (refine zA (k := ?_); refine zk (k' := ?_)) | refine zC (k := ?_) | ((refine zG (yes := (fun ht => ?_)) (no := (fun ht => ?_)) <;> (try simp at ht) <;> (try (exfalso; omega))) <;> (first | (refine zA (k := ?_); refine zk (k' := ?_)) | refine zC (k := ?_))))) <;> (((first | (refine zA (k := ?_); refine z5 (k' := ?_)) | refine zC (k := ?_) | ((refine zG (yes := (fun ht => ?_)) (no := (fun ht => ?_)) <;> (try simp at ht) <;> (try (exfalso; omega))) <;> (first | (refine zA (k := ?_); refine z5 (k' := ?_)) | refine zC (k := ?_))))) <;> ((first | refine zV (k := ?_) | refine zW (k := ?_) | refine zg (k := ?_)); refine zI (k := ?_); (refine zF (hK _ _ ?_); clear hK K)))))))))))
        | (refine zc (ht := (fun ht => ?_)) (hf := (fun ht => ?_)) <;> (try simp at ht) <;> (try (exfalso; omega))))
      exact ⟨(), trivial, ⟨rfl, rfl, rfl, rfl, rfl, trivial⟩, (by (repeat (first | exact Ent.refl _ | exact Ent.nil | refine Ent.take (by (repeat (first | exact Out.head | apply Out.tail)); (first | done | fail)) ?_ | refine Ent.drop1 ?_)); (first | done | fail))⟩
  · cases eb with
    | true =>
      have hz := hz1 rfl
      have hde : decS S 0 = newG S.table := by unfold decS newG; rw [hz]; simp
      rw [hde]
      repeat' (first
        | refine zh ?_
        | refine zK ?_
        | refine zS (h := ?_)
        | refine zU (h := ?_)
        | refine zi ?_
        | refine zR ?_
        | refine za ?_
        | refine zN ?_
        | refine zY ?_
        | refine zd ?_
        | refine zO ?_
        | refine zZ ?_
        | refine zQ rfl ?_
        | refine ze ?_
        | refine zX ?_
        | refine zP ?_
        | refine zT ?_
        | refine zL ?_
        | (refine zE (id := 13) ?_; intro K hK; refine zD (k := ?_); refine z6 (k' := ?_); refine zD (k := ?_); ((first | (refine zA (k := ?_); refine zD (k := ?_)) | refine zC (k := ?_) | ((refine zG (yes := (fun ht => ?_)) (no := (fun ht => ?_)) <;> (try simp at ht) <;> (try (exfalso; omega))) <;> (first | (refine zA (k := ?_); refine zD (k := ?_)) | refine zC (k := ?_))))) <;> (((first | (refine zA (k := ?_); refine zn (k := ?_)) | refine zC (k := ?_) | ((refine zG (yes := (fun ht => ?_)) (no := (fun ht => ?_)) <;> (try simp at ht) <;> (try (exfalso; omega))) <;> (first | (refine zA (k := ?_); refine zn (k := ?_)) | refine zC (k := ?_))))) <;> (((first | (refine zA (k := ?_); refine zt (k := ?_)) | refine zC (k := ?_) | ((refine zG (yes := (fun ht => ?_)) (no := (fun ht => ?_)) <;> (try simp at ht) <;> (try (exfalso; omega))) <;> (first | (refine zA (k := ?_); refine zt (k := ?_)) | refine zC (k := ?_))))) <;> ((refine zC (k := ?_)) <;> (((first | (refine zA (k := ?_); refine yB (k' := ?_)) | refine zC (k := ?_) | ((refine zG (yes := (fun ht => ?_)) (no := (fun ht => ?_)) <;> (try simp at ht) <;> (try (exfalso; omega))) <;> (first | (refine zA (k := ?_); refine yB (k' := ?_)) | refine zC (k := ?_))))) <;> ((first | refine zV (k := ?_) | refine zW (k := ?_) | refine zg (k := ?_)); (refine zF (hK _ _ ?_); clear hK K)))))))
        | (refine zc (ht := (fun ht => ?_)) (hf := (fun ht => ?_)) <;> (try simp at ht) <;> (try (exfalso; omega))))
      exact ⟨(), trivial, ⟨rfl, rfl, rfl, trivial⟩, (by (repeat (first | exact Ent.refl _ | exact Ent.nil | refine Ent.take (by (repeat (first | exact Out.head | apply Out.tail)); (first | done | fail)) ?_ | refine Ent.drop1 ?_)); (first | done | fail))⟩
    | false =>
      have hX := hz2 rfl
      have hio := rcI_ok hS hn
      have hgo : gapplyV (newG S.table) (rcI S.base) = decS S 0 := by rw [ins_go hX, hst0]
      have hch := ins_right hX
      repeat' (first
        | refine zh ?_
        | refine zK ?_
        | refine zS (h := ?_)
        | refine zU (h := ?_)
        | refine zi ?_
        | refine zR ?_
        | refine za ?_
        | refine zN ?_
        | refine zY ?_
        | refine zd ?_
        | refine zO ?_
        | refine zZ ?_
        | refine zQ rfl ?_
        | refine ze ?_
        | refine zX ?_
        | refine zP ?_
        | refine zT ?_
        | refine zL ?_
        | (refine zE (id := 13) ?_; intro K hK; refine zD (k := ?_); refine z6 (k' := ?_); refine zD (k := ?_); ((first | (refine zA (k := ?_); refine zD (k := ?_)) | refine zC (k := ?_) | ((refine zG (yes := (fun ht => ?_)) (no := (fun ht => ?_)) <;> (try simp at ht) <;> (try (exfalso; omega))) <;> (first | (refine zA (k := ?_); refine zD (k := ?_)) | refine zC (k := ?_))))) <;> (((first | (refine zA (k := ?_); refine zn (k := ?_)) | refine zC (k := ?_) | ((refine zG (yes := (fun ht => ?_)) (no := (fun ht => ?_)) <;> (try simp at ht) <;> (try (exfalso; omega))) <;> (first | (refine zA (k := ?_); refine zn (k := ?_)) | refine zC (k := ?_))))) <;> (((first | (refine zA (k := ?_); refine zt (k := ?_)) | refine zC (k := ?_) | ((refine zG (yes := (fun ht => ?_)) (no := (fun ht => ?_)) <;> (try simp at ht) <;> (try (exfalso; omega))) <;> (first | (refine zA (k := ?_); refine zt (k := ?_)) | refine zC (k := ?_))))) <;> (((first | (refine zA (k := ?_); (refine z7 (a := pa) (sz := 5) (ho := (by (repeat (first | exact Out.head | apply Out.tail)); (first | done | fail))) (h0 := by omega) (h := fun g2 => ?_); refine z7 (a := sa) (sz := 4) (ho := (by (repeat (first | exact Out.head | apply Out.tail)); (first | done | fail))) (h0 := by omega) (h := fun g3 => ?_); refine zb (hs := gapply_spec [own pa S.base.ps.length pc 5 (prC S.base.ps) 57, own sa S.base.ss.length sc 4 (ssC S.base.ss) 111] st n (newG S.table) hinv0 hn (rcI S.base) hio pa pc sa sc (g2.rd .head) (g3.rd (.tail .head))) (k := ?_); rintro v A' ⟨rfl, rfl⟩; simp only [List.cons_append, List.nil_append]; rw [hch, hgo])) | refine zC (k := ?_) | ((refine zG (yes := (fun ht => ?_)) (no := (fun ht => ?_)) <;> (try simp at ht) <;> (try (exfalso; omega))) <;> (first | (refine zA (k := ?_); (refine z7 (a := pa) (sz := 5) (ho := (by (repeat (first | exact Out.head | apply Out.tail)); (first | done | fail))) (h0 := by omega) (h := fun g2 => ?_); refine z7 (a := sa) (sz := 4) (ho := (by (repeat (first | exact Out.head | apply Out.tail)); (first | done | fail))) (h0 := by omega) (h := fun g3 => ?_); refine zb (hs := gapply_spec [own pa S.base.ps.length pc 5 (prC S.base.ps) 57, own sa S.base.ss.length sc 4 (ssC S.base.ss) 111] st n (newG S.table) hinv0 hn (rcI S.base) hio pa pc sa sc (g2.rd .head) (g3.rd (.tail .head))) (k := ?_); rintro v A' ⟨rfl, rfl⟩; simp only [List.cons_append, List.nil_append]; rw [hch, hgo])) | refine zC (k := ?_))))) <;> (((first | (refine zA (k := ?_); refine yB (k' := ?_)) | refine zC (k := ?_) | ((refine zG (yes := (fun ht => ?_)) (no := (fun ht => ?_)) <;> (try simp at ht) <;> (try (exfalso; omega))) <;> (first | (refine zA (k := ?_); refine yB (k' := ?_)) | refine zC (k := ?_))))) <;> ((first | refine zV (k := ?_) | refine zW (k := ?_) | refine zg (k := ?_)); (refine zF (hK _ _ ?_); clear hK K)))))))
        | (refine zc (ht := (fun ht => ?_)) (hf := (fun ht => ?_)) <;> (try simp at ht) <;> (try (exfalso; omega))))
      exact ⟨(), trivial, ⟨rfl, rfl, rfl, trivial⟩, (by (repeat (first | exact Ent.refl _ | exact Ent.nil | refine Ent.take (by (repeat (first | exact Out.head | apply Out.tail)); (first | done | fail)) ?_ | refine Ent.drop1 ?_)); (first | done | fail))⟩
  repeat' (first
    | refine zh ?_
    | refine zK ?_
    | refine zS (h := ?_)
    | refine zU (h := ?_)
    | refine zi ?_
    | refine zR ?_
    | refine za ?_
    | refine zN ?_
    | refine zY ?_
    | refine zd ?_
    | refine zO ?_
    | refine zZ ?_
    | refine zQ rfl ?_
    | refine ze ?_
    | refine zX ?_
    | refine zP ?_
    | refine zT ?_
    | refine zL ?_
    | (refine zE (id := 15) ?_; intro K hK; refine zD (k := ?_); ((refine zb (hs := hc2 _ p) (k := ?_); rintro v A' ⟨rfl, rfl⟩; simp only [List.cons_append, List.nil_append])) <;> (refine zD (k := ?_); (refine zF (hK _ _ ?_); clear hK K)))
    | (refine zc (ht := (fun ht => ?_)) (hf := (fun ht => ?_)) <;> (try simp at ht) <;> (try (exfalso; omega))))
  refine yG (α := Nat) (fun g => [(4, .pointer (some ⟨p, 0, none⟩)), (6, .pointer (some ⟨st, 0, none⟩)), (8, .bool S.closed), (62, .int .i64 S.es.length), (63, .int .i64 g)])
    (fun g => [GtP st (decS S g), RdrP B (own b l.length bc 1 (l.map byteV) 5) p ((S.es.drop g).flatMap eEnt, false), own b l.length bc 1 (l.map byteV) 5, X]) (fun g => g ≤ S.es.length) (fun g => S.es.length - g) 0 (by omega) ⟨rfl, rfl, rfl, rfl, rfl, trivial⟩ (by (repeat (first | exact Ent.refl _ | exact Ent.nil | refine Ent.take (by (repeat (first | exact Out.head | apply Out.tail)); (first | done | fail)) ?_ | refine Ent.drop1 ?_))) ?_
  intro g G3 hg
  simp only [ov]
  by_cases hlg : g < S.es.length
  · have hd := List.drop_eq_getElem_cons hlg
    have hx : S.es[g]? = some S.es[g] := List.getElem?_eq_getElem hlg
    have hlj : ((S.es.drop g).flatMap eEnt).length ≤ 1000000000 := by
      have : ((S.es.drop g).flatMap eEnt).length ≤ (S.es.flatMap eEnt).length := by
        conv => rhs; rw [← List.take_append_drop g S.es, List.flatMap_append, List.length_append]
        omega
      omega
    have hge := fun Y p => getEntry_spec (B := B) Y p ((S.es.drop g).flatMap eEnt, false) hlj
    have hgg : gEnt ((S.es.drop g).flatMap eEnt, false) = (S.es[g], ((S.es.drop (g + 1)).flatMap eEnt, false)) := by
      rw [hd, List.flatMap_cons]; exact gEnt_e (ent_K (hS.en _ (List.getElem_mem hlg))) _
    rw [hgg] at hge
    simp only at hge
    have hch := decS_chk hS hf hx
    have hgo := decS_go hS hf hx
    have hro : (rcW S.es[g]).ok := rcW_ok (hS.ok.ens _ (List.getElem_mem hlg)) (by have := on_range (hS.en _ (List.getElem_mem hlg)).on; unfold rg; omega)
    repeat' (first
      | refine zh ?_
      | refine zK ?_
      | refine zS (h := ?_)
      | refine zU (h := ?_)
      | refine zi ?_
      | refine zR ?_
      | refine za ?_
      | refine zN ?_
      | refine zY ?_
      | refine zd ?_
      | refine zO ?_
      | refine zZ ?_
      | refine zQ rfl ?_
      | refine ze ?_
      | refine zX ?_
      | refine zP ?_
      | refine zT ?_
      | refine zL ?_
      | (refine zE (id := 16) ?_; intro K hK; refine z2 (k' := ?_); (refine zF (hK _ _ ?_); clear hK K))
      | (refine zE (id := 17) ?_; intro K hK; refine zD (k := ?_); refine zD (k := ?_); ((refine zb (hs := hge _ p) (k := ?_); rintro v A' ⟨rfl, rfl⟩; simp only [List.cons_append, List.nil_append]; simp only [EnX.c])) <;> (refine zt (k := ?_); ((refine zb (hs := gapply_spec [] st n (decS S g) (decS_inv hS g) hn (rcW S.es[g]) hro none 0 none 0 rds_nil rds_nil) (k := ?_); rintro v A' ⟨rfl, rfl⟩; simp only [List.cons_append, List.nil_append]; rw [hch, hgo])) <;> (refine yB (k' := ?_); (refine zF (hK _ _ ?_); clear hK K))))
      | (refine zE (id := 19) ?_; intro K hK; refine zm (k' := ?_); refine zD (k := ?_); (refine zF (hK _ _ ?_); clear hK K))
      | (refine zc (ht := (fun ht => ?_)) (hf := (fun ht => ?_)) <;> (try simp at ht) <;> (try (exfalso; omega))))
    all_goals exact ⟨g + 1, by omega, by omega, ⟨rfl, rfl, rfl, rfl, int_succ g, trivial⟩, (by (repeat (first | exact Ent.refl _ | exact Ent.nil | refine Ent.take (by (repeat (first | exact Out.head | apply Out.tail)); (first | done | fail)) ?_ | refine Ent.drop1 ?_)); (first | done | fail))⟩
  obtain rfl : g = S.es.length := by omega
  rw [List.drop_length, List.flatMap_nil]
  have hall : decS S S.es.length = ⟨S.table, S.base, S.es, false⟩ := by unfold decS; rw [List.take_length]
  rw [hall]
  repeat' (first
    | refine zh ?_
    | refine zK ?_
    | refine zS (h := ?_)
    | refine zU (h := ?_)
    | refine zi ?_
    | refine zR ?_
    | refine za ?_
    | refine zN ?_
    | refine zY ?_
    | refine zd ?_
    | refine zO ?_
    | refine zZ ?_
    | refine zQ rfl ?_
    | refine ze ?_
    | refine zX ?_
    | refine zP ?_
    | refine zT ?_
    | refine zL ?_
    | (refine zE (id := 16) ?_; intro K hK; refine z2 (k' := ?_); (refine zF (hK _ _ ?_); clear hK K))
    | (refine zc (ht := (fun ht => ?_)) (hf := (fun ht => ?_)) <;> (try simp at ht) <;> (try (exfalso; omega))))
  refine yJ (y := GtP st ⟨S.table, S.base, S.es, false⟩) (k := (yE (fun q => ?_)))
  obtain ⟨k, d, ta2, tc2, pa0, pc0, sa0, sc0, ea, ec⟩ := q
  have hfo : ∀ A0 : List Asn, Ent (GtL st S ⟨k, d, ta2, tc2, pa0, pc0, sa0, sc0, ea, ec⟩ ++ A0) (GtP st S :: A0) := fun A0 => gt_fold (A0 := A0) ⟨k, d, ta2, tc2, pa0, pc0, sa0, sc0, ea, ec⟩ (Ent.refl _)
  have hfe : (G15.mk S.table S.base S.es false).fold = S.fold := rfl
  simp only [GtL, GtR, hfe] at hfo ⊢
  simp only [List.cons_append, List.nil_append] at hfo ⊢
  have hend := rend_spec (B := B) (own b l.length bc 1 (l.map byteV) 5) p ([], false)
  repeat' (first
    | refine zh ?_
    | refine zK ?_
    | refine zS (h := ?_)
    | refine zU (h := ?_)
    | refine zi ?_
    | refine zR ?_
    | refine za ?_
    | refine zN ?_
    | refine zY ?_
    | refine zd ?_
    | refine zO ?_
    | refine zZ ?_
    | refine zQ rfl ?_
    | refine ze ?_
    | refine zX ?_
    | refine zP ?_
    | refine zT ?_
    | refine zL ?_
    | (refine zE (id := 20) ?_; intro K hK; refine zD (k := ?_); refine zD (k := ?_); refine zJ (k := ?_); refine zB (k := ?_); refine zr (ho := rfl) (k := ?_); (refine zF (hK _ _ ?_); clear hK K))
    | (refine zE (id := 21) ?_; intro K hK; refine zD (k := ?_); ((refine zb (hs := hend) (k := ?_); rintro v A' ⟨rfl, rfl⟩; simp only [List.cons_append, List.nil_append]; rw [if_neg (by simp)])) <;> (refine yB (k' := ?_); (refine zF (hK _ _ ?_); clear hK K)))
    | (refine zE (id := 23) ?_; intro K hK; refine zD (k := ?_); refine zI (k := ?_); refine zI (k := ?_); (refine zF (hK _ _ ?_); clear hK K))
    | (refine zc (ht := (fun ht => ?_)) (hf := (fun ht => ?_)) <;> (try simp at ht) <;> (try (exfalso; omega))))
  exact ⟨Or.inr rfl, _, [GtP st S, X], Ent.trans (by (repeat (first | exact Ent.refl _ | exact Ent.nil | refine Ent.take (by (repeat (first | exact Out.head | apply Out.tail)); (first | done | fail)) ?_ | refine Ent.drop1 ?_)); (first | done | fail)) (hfo [X]), res2 rfl rfl rfl, st, rfl, rfl⟩
theorem decode_spec (A0 : List Asn) (S : G15) (n : Nat) (hS : S.inv n) (hn : n ≤ 90000) (hf : Fresh S) (a : Option Addr) (c : Nat) (h : RdS Tryz.prog B A0 1 a (encS S).length c ((encS S).map byteV)) :
    Fspec Tryz.prog B 23 #[.slice a (encS S).length c] A0 (fun v A' => ∃ st, v = .tuple #[.pointer (some ⟨st, 0, none⟩), .int .i64 0] ∧ A' = GtP st S :: A0) := by
  have he : Ent [lst A0] A0 := by simpa using Ent.lst_open A0 []
  have hs : Ent A0 [lst A0] := by simpa using Ent.lst_shut A0 []
  refine ((decode1_spec (lst A0) S n hS hn hf a c (RdS.ofEnt h he)).ent hs).conv ?_
  rintro v A' ⟨st, rfl, rfl⟩
  exact ⟨_, Ent.cons _ he, st, rfl, rfl⟩
end specs
end Go.Proofs.YtnoggejkkjngjaaGreat
/- Layer 15, StateBack: the walk. Conditions: none but the kinds' bounds. -/
set_option maxHeartbeats 8000000
set_option linter.unusedVariables false
set_option linter.unusedSimpArgs false
set_option maxRecDepth 100000
namespace Go.Proofs.YtnoggejkkjngjaaGreat
open Go Go.Sl
attribute [local irreducible] Go.Sl.Wl Go.Sl.Wc Go.Sl.thenQ Go.Sl.blkQ Go.Sl.loopQ Go.Sl.Fspec

def ptrO : Option Nat → Value
  | none => .pointer none
  | some c => .pointer (some ⟨c, 0, none⟩)
def coL : Option Nat → G15 → List Asn
  | none, _ => []
  | some c, S => [GtP c S]
section specs
variable {B : Base}
theorem back15_spec (l : List RI) (a : Option Addr) (c : Nat) (hlen : l.length ≤ 9223372036854775807) (hl : ∀ x ∈ l, x.ok B) (hr : RdS Tryz.prog B [] 16 a l.length c (recsC l)) (at_ : Int) :
    Fspec Tryz.prog B 5 #[.slice a l.length c, .int .i64 at_] [] (fun v A' => v = .bool true ∧ A' = []) := by
  refine spec_of (args := [_, _]) Tryz.func5 rfl rfl rfl ?_
  repeat' (first
    | refine zh ?_
    | refine zK ?_
    | refine zS (h := ?_)
    | refine zU (h := ?_)
    | refine zi ?_
    | refine zR ?_
    | refine za ?_
    | refine zN ?_
    | refine zY ?_
    | refine zd ?_
    | refine zO ?_
    | refine zZ ?_
    | refine zQ rfl ?_
    | refine ze ?_
    | refine zX ?_
    | refine zP ?_
    | refine zT ?_
    | refine zL ?_
    | (refine zE (id := 0) ?_; intro K hK; refine zI (k := ?_); (refine zF (hK _ _ ?_); clear hK K))
    | (refine zE (id := 1) ?_; intro K hK; ((refine zb (hs := awake15) (k := ?_); rintro v A' ⟨rfl, rfl⟩; simp only [List.cons_append, List.nil_append])) <;> (refine z6 (k' := ?_); (refine zF (hK _ _ ?_); clear hK K)))
    | (refine zE (id := 2) ?_; intro K hK; refine zI (k := ?_); (refine zF (hK _ _ ?_); clear hK K))
    | (refine zE (id := 3) ?_; intro K hK; ((refine zb (hs := one_spec) (k := ?_); rintro v A' ⟨ra, rfl, rfl⟩; simp only [List.cons_append, List.nil_append])) <;> (((refine zb (hs := gnew_spec [cb ra (epsC oneT) 45] oneT (some ⟨ra, 0, none⟩) 1 (rds_cb .head rfl) one_right) (k := ?_); rintro v A' ⟨sta, rfl, rfl⟩; simp only [List.cons_append, List.nil_append])) <;> (refine zD (k := ?_); refine zx (k' := ?_); refine zx (k' := ?_); refine zI (k := ?_); refine zI (k := ?_); (refine zF (hK _ _ ?_); clear hK K))))
    | (refine zE (id := 4) ?_; intro K hK; refine zI (k := ?_); (refine zF (hK _ _ ?_); clear hK K))
    | (refine zE (id := 5) ?_; intro K hK; refine zI (k := ?_); (refine zF (hK _ _ ?_); clear hK K))
    | (refine zc (ht := (fun ht => ?_)) (hf := (fun ht => ?_)) <;> (try simp at ht) <;> (try (exfalso; omega))))
  refine yG (α := Nat × G15 × Option Nat) (fun y => [(0, .slice a l.length c), (1, .int .i64 at_), (5, .pointer (some ⟨sta, 0, none⟩)), (7, ptrO y.2.2), (8, .int .i64 y.1)]) (fun y => GtP sta y.2.1 :: coL y.2.2 y.2.1)
    (fun y => y.1 ≤ min l.length 60 ∧ y.2.1.inv (1000 + y.1) ∧ Fresh y.2.1) (fun y => 60 - y.1) (0, newG oneT, none) ⟨by omega, new_inv one_right, fresh_nil rfl⟩ ⟨rfl, rfl, rfl, rfl, rfl, trivial⟩ (by (repeat (first | exact Ent.refl _ | exact Ent.nil | refine Ent.take (by (repeat (first | exact Out.head | apply Out.tail)); (first | done | fail)) ?_ | refine Ent.drop1 ?_))) ?_
  rintro ⟨j, S, co⟩ G ⟨hj, ha, hfr⟩
  simp only [ov] at hj ha hfr ⊢
  have hb := (wState_ok ha).2
  have hb2 : (encS S).length ≤ 200000000 := hb
  have hlb : ((encS S).map byteV).length = (encS S).length * 1 := by simp
  have hen := gencode_spec (B := B) sta S _ ha
  by_cases hlt : j < l.length ∧ j < 60
  · obtain ⟨hl1, hl2⟩ := hlt
    obtain ⟨p, rfl⟩ : ∃ q, a = some q := by
      cases a with
      | none => have := hr.nil rfl; omega
      | some q => exact ⟨q, rfl⟩
    obtain ⟨x, hx⟩ : ∃ x, l[j]? = some x := ⟨_, List.getElem?_eq_getElem hl1⟩
    have hxo := hl x (List.mem_of_getElem? hx)
    have hli := light_spec (B := B) x.r hxo.pl hxo.sl x.pa x.pc x.sa x.sc hxo.h1
    cases hL : lightV x.r with
    | false =>
      rw [hL] at hli
      repeat' (first
        | refine zh ?_
        | refine zK ?_
        | refine zS (h := ?_)
        | refine zU (h := ?_)
        | refine zi ?_
        | refine zR ?_
        | refine za ?_
        | refine zN ?_
        | refine zY ?_
        | refine zd ?_
        | refine zO ?_
        | refine zZ ?_
        | refine zQ rfl ?_
        | refine ze ?_
        | refine zX ?_
        | refine zP ?_
        | refine zT ?_
        | refine zL ?_
        | (refine zE (id := 6) ?_; intro K hK; refine zD (k := ?_); refine zD (k := ?_); refine zk (k' := ?_); refine z2 (k' := ?_); refine zD (k := ?_); ((first | (refine zA (k := ?_); refine zD (k := ?_)) | refine zC (k := ?_) | ((refine zG (yes := (fun ht => ?_)) (no := (fun ht => ?_)) <;> (try simp at ht) <;> (try (exfalso; omega))) <;> (first | (refine zA (k := ?_); refine zD (k := ?_)) | refine zC (k := ?_))))) <;> (((first | (refine zA (k := ?_); refine z2 (k' := ?_)) | refine zC (k := ?_) | ((refine zG (yes := (fun ht => ?_)) (no := (fun ht => ?_)) <;> (try simp at ht) <;> (try (exfalso; omega))) <;> (first | (refine zA (k := ?_); refine z2 (k' := ?_)) | refine zC (k := ?_))))) <;> ((first | refine zV (k := ?_) | refine zW (k := ?_) | refine zg (k := ?_)); (refine zF (hK _ _ ?_); clear hK K))))
        | (refine zE (id := 8) ?_; intro K hK; refine zD (k := ?_); refine zD (k := ?_); ((refine zo (k' := ?_))) <;> (((refine z8 (j := j * 16) (cs := x.c) (hq := by simp) (hr := hr.any) (hv := recsC_row hx) (k := ?_))) <;> (((refine zb (hs := hli) (hp := .nil) (k := ?_); rintro v A' ⟨rfl, rfl⟩; simp only [List.cons_append, List.nil_append])) <;> (refine z6 (k' := ?_); (refine zF (hK _ _ ?_); clear hK K)))))
        | (refine zE (id := 9) ?_; intro K hK; refine zI (k := ?_); (refine zF (hK _ _ ?_); clear hK K))
        | (refine zc (ht := (fun ht => ?_)) (hf := (fun ht => ?_)) <;> (try simp at ht) <;> (try (exfalso; omega))))
      all_goals exact ⟨Or.inr rfl, .bool true, [], Ent.nil, res1 rfl rfl, rfl, rfl⟩
    | true =>
      rw [hL] at hli
      have hro := hxo.light hL
      have hps := (light_out hL).1
      have hss := hro.ss
      have hpl := plain_spec (B := B) x.r (by omega) (by omega) x.pa x.pc x.sa x.sc hxo.h1 hxo.h2
      have ha' := ha.apply hro (by omega) (by omega)
      have hfr' := hfr.apply x.r
      have hdec := fun b d (hf : OwnF b (encS S).length d 1 ((encS S).map byteV)) => decode_spec (B := B) [own b (encS S).length d 1 ((encS S).map byteV) 5] S _ ha (by omega) hfr b d (hf.rd .head)
      refine yp (A' := [GtP sta S, lst (coL co S)]) (Ent.cons _ (by simpa using Ent.lst_shut (coL co S) [])) ?_
      repeat' (first
        | (refine xJ (k := 10) (α := Option Nat) (fun co => [(0, .slice (some p) l.length c), (1, .int .i64 at_), (5, .pointer (some ⟨sta, 0, none⟩)), (7, ptrO co), (8, .int .i64 j)]) (fun co => GtP sta S :: coL co S) (fun _ => True) ?_ (fun co G2 _ => ?_); rotate_left; simp only [ov]; rotate_left)
        | refine zh ?_
        | refine zK ?_
        | refine zS (h := ?_)
        | refine zU (h := ?_)
        | refine zi ?_
        | refine zR ?_
        | refine za ?_
        | refine zN ?_
        | refine zY ?_
        | refine zd ?_
        | refine zO ?_
        | refine zZ ?_
        | refine zQ rfl ?_
        | refine ze ?_
        | refine zX ?_
        | refine zP ?_
        | refine zT ?_
        | refine zL ?_
        | (refine zE (id := 6) ?_; intro K hK; refine zD (k := ?_); refine zD (k := ?_); refine zk (k' := ?_); refine z2 (k' := ?_); refine zD (k := ?_); ((first | (refine zA (k := ?_); refine zD (k := ?_)) | refine zC (k := ?_) | ((refine zG (yes := (fun ht => ?_)) (no := (fun ht => ?_)) <;> (try simp at ht) <;> (try (exfalso; omega))) <;> (first | (refine zA (k := ?_); refine zD (k := ?_)) | refine zC (k := ?_))))) <;> (((first | (refine zA (k := ?_); refine z2 (k' := ?_)) | refine zC (k := ?_) | ((refine zG (yes := (fun ht => ?_)) (no := (fun ht => ?_)) <;> (try simp at ht) <;> (try (exfalso; omega))) <;> (first | (refine zA (k := ?_); refine z2 (k' := ?_)) | refine zC (k := ?_))))) <;> ((first | refine zV (k := ?_) | refine zW (k := ?_) | refine zg (k := ?_)); (refine zF (hK _ _ ?_); clear hK K))))
        | (refine zE (id := 8) ?_; intro K hK; refine zD (k := ?_); refine zD (k := ?_); ((refine zo (k' := ?_))) <;> (((refine z8 (j := j * 16) (cs := x.c) (hq := by simp) (hr := hr.any) (hv := recsC_row hx) (k := ?_))) <;> (((refine zb (hs := hli) (k := ?_); rintro v A' ⟨rfl, rfl⟩; simp only [List.cons_append, List.nil_append])) <;> (refine z6 (k' := ?_); (refine zF (hK _ _ ?_); clear hK K)))))
        | (refine zc (ht := (fun ht => ?_)) (hf := (fun ht => ?_)) <;> (try simp at ht) <;> (try (exfalso; omega))))
      · by_cases hat : (j : Int) = at_
        · repeat' (first
            | refine zh ?_
            | refine zK ?_
            | refine zS (h := ?_)
            | refine zU (h := ?_)
            | refine zi ?_
            | refine zR ?_
            | refine za ?_
            | refine zN ?_
            | refine zY ?_
            | refine zd ?_
            | refine zO ?_
            | refine zZ ?_
            | refine zQ rfl ?_
            | refine ze ?_
            | refine zX ?_
            | refine zP ?_
            | refine zT ?_
            | refine zL ?_
            | (refine zE (id := 10) ?_; intro K hK; refine zD (k := ?_); refine zD (k := ?_); refine z5 (k' := ?_); (refine zF (hK _ _ ?_); clear hK K))
            | (refine zE (id := 11) ?_; intro K hK; refine zD (k := ?_); ((refine zb (hs := hen) (k := ?_); rintro v A' ⟨b1, d1, rfl, rfl⟩; simp only [List.cons_append, List.nil_append])) <;> (((refine z7 (a := b1) (sz := 1) (ho := (by (repeat (first | exact Out.head | apply Out.tail)); (first | done | fail))) (h0 := by omega) (h := fun hf => ?_); refine zb (hs := hdec b1 d1 hf) (k := ?_); rintro v A' ⟨stc, rfl, rfl⟩; simp only [List.cons_append, List.nil_append])) <;> (refine zD (k := ?_); refine zx (k' := ?_); refine zx (k' := ?_); refine zI (k := ?_); refine zI (k := ?_); (refine zF (hK _ _ ?_); clear hK K))))
            | (refine zE (id := 12) ?_; intro K hK; refine zD (k := ?_); refine yB (k' := ?_); refine zD (k := ?_); ((first | (refine zA (k := ?_); refine zD (k := ?_)) | refine zC (k := ?_) | ((refine zG (yes := (fun ht => ?_)) (no := (fun ht => ?_)) <;> (try simp at ht) <;> (try (exfalso; omega))) <;> (first | (refine zA (k := ?_); refine zD (k := ?_)) | refine zC (k := ?_))))) <;> (((first | (refine zA (k := ?_); refine zf (k' := ?_)) | refine zC (k := ?_) | ((refine zG (yes := (fun ht => ?_)) (no := (fun ht => ?_)) <;> (try simp at ht) <;> (try (exfalso; omega))) <;> (first | (refine zA (k := ?_); refine zf (k' := ?_)) | refine zC (k := ?_))))) <;> ((first | refine zV (k := ?_) | refine zW (k := ?_) | refine zg (k := ?_)); (refine zF (hK _ _ ?_); clear hK K))))
            | (refine zE (id := 14) ?_; intro K hK; refine zD (k := ?_); refine zI (k := ?_); (refine zF (hK _ _ ?_); clear hK K))
            | (refine zc (ht := (fun ht => ?_)) (hf := (fun ht => ?_)) <;> (try simp at ht) <;> (try (exfalso; omega))))
          all_goals exact ⟨some stc, trivial, ⟨rfl, rfl, rfl, rfl, rfl, trivial⟩, (by simp only [coL]; (repeat (first | exact Ent.refl _ | exact Ent.nil | refine Ent.take (by (repeat (first | exact Out.head | apply Out.tail)); (first | done | fail)) ?_ | refine Ent.drop1 ?_)); (first | done | fail))⟩
        · repeat' (first
            | refine zh ?_
            | refine zK ?_
            | refine zS (h := ?_)
            | refine zU (h := ?_)
            | refine zi ?_
            | refine zR ?_
            | refine za ?_
            | refine zN ?_
            | refine zY ?_
            | refine zd ?_
            | refine zO ?_
            | refine zZ ?_
            | refine zQ rfl ?_
            | refine ze ?_
            | refine zX ?_
            | refine zP ?_
            | refine zT ?_
            | refine zL ?_
            | (refine zE (id := 10) ?_; intro K hK; refine zD (k := ?_); refine zD (k := ?_); refine z5 (k' := ?_); (refine zF (hK _ _ ?_); clear hK K))
            | (refine zc (ht := (fun ht => ?_)) (hf := (fun ht => ?_)) <;> (try simp at ht) <;> (try (exfalso; omega))))
          all_goals exact ⟨co, trivial, ⟨rfl, rfl, rfl, rfl, rfl, trivial⟩, Ent.cons _ (by simpa using Ent.lst_open (coL co S) [])⟩
      · obtain ⟨ea, hea⟩ : ∃ e, gchkV S x.r = e := ⟨_, rfl⟩
        obtain ⟨T, hT⟩ : ∃ T, gapplyV S x.r = T := ⟨_, rfl⟩
        rw [hT] at ha' hfr'
        have hap := fun st a1 c1 a2 c2 (hf1 : OwnF a1 x.r.sn.ps.length c1 5 (prC x.r.sn.ps)) (hf2 : OwnF a2 x.r.sn.ss.length c2 4 (ssC x.r.sn.ss)) => gapply_spec (B := B) [own a2 x.r.sn.ss.length c2 4 (ssC x.r.sn.ss) 111, own a1 x.r.sn.ps.length c1 5 (prC x.r.sn.ps) 57] st _ S ha (by omega) x.r hro a1 c1 a2 c2 (hf1.rd (.tail .head)) (hf2.rd .head)
        rw [hea, hT] at hap
        have hpn := G15.snap_len T
        have hwt := ha'.wt
        have hsn : T.fold.snap.ss.length ≤ 16 := fop_few ha'.fop
        cases co with
        | none =>
          simp only [ptrO, coL]
          repeat' (first
            | refine zh ?_
            | refine zK ?_
            | refine zS (h := ?_)
            | refine zU (h := ?_)
            | refine zi ?_
            | refine zR ?_
            | refine za ?_
            | refine zN ?_
            | refine zY ?_
            | refine zd ?_
            | refine zO ?_
            | refine zZ ?_
            | refine zQ rfl ?_
            | refine ze ?_
            | refine zX ?_
            | refine zP ?_
            | refine zT ?_
            | refine zL ?_
            | (refine zE (id := 7) ?_; intro K hK; refine zD (k := ?_); refine zm (k' := ?_); refine zI (k := ?_); (refine zF (hK _ _ ?_); clear hK K))
            | (refine zE (id := 15) ?_; intro K hK; refine zD (k := ?_); refine zD (k := ?_); ((refine zo (k' := ?_))) <;> (((refine z8 (j := j * 16) (cs := x.c) (hq := by simp) (hr := hr.any) (hv := recsC_row hx) (k := ?_))) <;> (((refine zb (hs := hpl) (k := ?_); rintro v A' ⟨a1, c1, a2, c2, rfl, rfl⟩; simp only [List.cons_append, List.nil_append]; simp only [RcG.c])) <;> (((refine zy (k := ?_); intro r11)) <;> (refine zl (ho' := rfl) (k := ?_); (refine zF (hK _ _ ?_); clear hK K))))))
            | (refine zE (id := 16) ?_; intro K hK; refine zD (k := ?_); refine zn (k := ?_); ((refine z7 (a := a1) (sz := 5) (ho := (by (repeat (first | exact Out.head | apply Out.tail)); (first | done | fail))) (h0 := by omega) (h := fun hf1 => ?_); refine z7 (a := a2) (sz := 4) (ho := (by (repeat (first | exact Out.head | apply Out.tail)); (first | done | fail))) (h0 := by omega) (h := fun hf2 => ?_); refine zb (hs := hap sta a1 c1 a2 c2 hf1 hf2) (k := ?_); rintro v A' ⟨rfl, rfl⟩; simp only [List.cons_append, List.nil_append])) <;> (refine zI (k := ?_); (refine zF (hK _ _ ?_); clear hK K)))
            | (refine zE (id := 17) ?_; intro K hK; refine zD (k := ?_); refine yC (k' := ?_); refine zD (k := ?_); ((first | (refine zA (k := ?_); refine zD (k := ?_)) | refine zC (k := ?_) | ((refine zG (yes := (fun ht => ?_)) (no := (fun ht => ?_)) <;> (try simp at ht) <;> (try (exfalso; omega))) <;> (first | (refine zA (k := ?_); refine zD (k := ?_)) | refine zC (k := ?_))))) <;> (((first | (refine zA (k := ?_); refine zn (k := ?_)) | refine zC (k := ?_) | ((refine zG (yes := (fun ht => ?_)) (no := (fun ht => ?_)) <;> (try simp at ht) <;> (try (exfalso; omega))) <;> (first | (refine zA (k := ?_); refine zn (k := ?_)) | refine zC (k := ?_))))) <;> ((refine zC (k := ?_)) <;> (((first | (refine zA (k := ?_); refine zD (k := ?_)) | refine zC (k := ?_) | ((refine zG (yes := (fun ht => ?_)) (no := (fun ht => ?_)) <;> (try simp at ht) <;> (try (exfalso; omega))) <;> (first | (refine zA (k := ?_); refine zD (k := ?_)) | refine zC (k := ?_))))) <;> (((first | (refine zA (k := ?_); refine yB (k' := ?_)) | refine zC (k := ?_) | ((refine zG (yes := (fun ht => ?_)) (no := (fun ht => ?_)) <;> (try simp at ht) <;> (try (exfalso; omega))) <;> (first | (refine zA (k := ?_); refine yB (k' := ?_)) | refine zC (k := ?_))))) <;> (((first | (refine zA (k := ?_); refine zD (k := ?_)) | refine zC (k := ?_) | ((refine zG (yes := (fun ht => ?_)) (no := (fun ht => ?_)) <;> (try simp at ht) <;> (try (exfalso; omega))) <;> (first | (refine zA (k := ?_); refine zD (k := ?_)) | refine zC (k := ?_))))) <;> (((first | (refine zA (k := ?_); refine zD (k := ?_)) | refine zC (k := ?_) | ((refine zG (yes := (fun ht => ?_)) (no := (fun ht => ?_)) <;> (try simp at ht) <;> (try (exfalso; omega))) <;> (first | (refine zA (k := ?_); refine zD (k := ?_)) | refine zC (k := ?_))))) <;> ((refine zC (k := ?_)) <;> (((first | (refine zA (k := ?_); refine zD (k := ?_)) | refine zC (k := ?_) | ((refine zG (yes := (fun ht => ?_)) (no := (fun ht => ?_)) <;> (try simp at ht) <;> (try (exfalso; omega))) <;> (first | (refine zA (k := ?_); refine zD (k := ?_)) | refine zC (k := ?_))))) <;> ((refine zC (k := ?_)) <;> ((refine zC (k := ?_)) <;> (((first | (refine zA (k := ?_); refine z6 (k' := ?_)) | refine zC (k := ?_) | ((refine zG (yes := (fun ht => ?_)) (no := (fun ht => ?_)) <;> (try simp at ht) <;> (try (exfalso; omega))) <;> (first | (refine zA (k := ?_); refine z6 (k' := ?_)) | refine zC (k := ?_))))) <;> (((first | (refine zA (k := ?_); (first | refine zV (k := ?_) | refine zW (k := ?_) | refine zg (k := ?_))) | refine zC (k := ?_) | ((refine zG (yes := (fun ht => ?_)) (no := (fun ht => ?_)) <;> (try simp at ht) <;> (try (exfalso; omega))) <;> (first | (refine zA (k := ?_); (first | refine zV (k := ?_) | refine zW (k := ?_) | refine zg (k := ?_))) | refine zC (k := ?_))))) <;> (((first | (refine zA (k := ?_); refine zD (k := ?_)) | refine zC (k := ?_) | ((refine zG (yes := (fun ht => ?_)) (no := (fun ht => ?_)) <;> (try simp at ht) <;> (try (exfalso; omega))) <;> (first | (refine zA (k := ?_); refine zD (k := ?_)) | refine zC (k := ?_))))) <;> (((first | (refine zA (k := ?_); refine zD (k := ?_)) | refine zC (k := ?_) | ((refine zG (yes := (fun ht => ?_)) (no := (fun ht => ?_)) <;> (try simp at ht) <;> (try (exfalso; omega))) <;> (first | (refine zA (k := ?_); refine zD (k := ?_)) | refine zC (k := ?_))))) <;> ((refine zC (k := ?_)) <;> (((first | (refine zA (k := ?_); refine zD (k := ?_)) | refine zC (k := ?_) | ((refine zG (yes := (fun ht => ?_)) (no := (fun ht => ?_)) <;> (try simp at ht) <;> (try (exfalso; omega))) <;> (first | (refine zA (k := ?_); refine zD (k := ?_)) | refine zC (k := ?_))))) <;> ((refine zC (k := ?_)) <;> (((first | (refine zA (k := ?_); refine yj (k' := ?_)) | refine zC (k := ?_) | ((refine zG (yes := (fun ht => ?_)) (no := (fun ht => ?_)) <;> (try simp at ht) <;> (try (exfalso; omega))) <;> (first | (refine zA (k := ?_); refine yj (k' := ?_)) | refine zC (k := ?_))))) <;> (((first | (refine zA (k := ?_); (first | refine zV (k := ?_) | refine zW (k := ?_) | refine zg (k := ?_))) | refine zC (k := ?_) | ((refine zG (yes := (fun ht => ?_)) (no := (fun ht => ?_)) <;> (try simp at ht) <;> (try (exfalso; omega))) <;> (first | (refine zA (k := ?_); (first | refine zV (k := ?_) | refine zW (k := ?_) | refine zg (k := ?_))) | refine zC (k := ?_))))) <;> (((first | (refine zA (k := ?_); refine zD (k := ?_)) | refine zC (k := ?_) | ((refine zG (yes := (fun ht => ?_)) (no := (fun ht => ?_)) <;> (try simp at ht) <;> (try (exfalso; omega))) <;> (first | (refine zA (k := ?_); refine zD (k := ?_)) | refine zC (k := ?_))))) <;> (((first | (refine zA (k := ?_); refine zD (k := ?_)) | refine zC (k := ?_) | ((refine zG (yes := (fun ht => ?_)) (no := (fun ht => ?_)) <;> (try simp at ht) <;> (try (exfalso; omega))) <;> (first | (refine zA (k := ?_); refine zD (k := ?_)) | refine zC (k := ?_))))) <;> ((refine zC (k := ?_)) <;> (((first | (refine zA (k := ?_); refine zD (k := ?_)) | refine zC (k := ?_) | ((refine zG (yes := (fun ht => ?_)) (no := (fun ht => ?_)) <;> (try simp at ht) <;> (try (exfalso; omega))) <;> (first | (refine zA (k := ?_); refine zD (k := ?_)) | refine zC (k := ?_))))) <;> ((refine zC (k := ?_)) <;> ((refine zC (k := ?_)) <;> (((first | (refine zA (k := ?_); refine z6 (k' := ?_)) | refine zC (k := ?_) | ((refine zG (yes := (fun ht => ?_)) (no := (fun ht => ?_)) <;> (try simp at ht) <;> (try (exfalso; omega))) <;> (first | (refine zA (k := ?_); refine z6 (k' := ?_)) | refine zC (k := ?_))))) <;> (((first | (refine zA (k := ?_); (first | refine zV (k := ?_) | refine zW (k := ?_) | refine zg (k := ?_))) | refine zC (k := ?_) | ((refine zG (yes := (fun ht => ?_)) (no := (fun ht => ?_)) <;> (try simp at ht) <;> (try (exfalso; omega))) <;> (first | (refine zA (k := ?_); (first | refine zV (k := ?_) | refine zW (k := ?_) | refine zg (k := ?_))) | refine zC (k := ?_))))) <;> ((first | refine zV (k := ?_) | refine zW (k := ?_) | refine zg (k := ?_)); (refine zF (hK _ _ ?_); clear hK K))))))))))))))))))))))))))))))
            | (refine zc (ht := (fun ht => ?_)) (hf := (fun ht => ?_)) <;> (try simp at ht) <;> (try (exfalso; omega))))
          all_goals exact ⟨(j + 1, T, none), ⟨by omega, ha', hfr'⟩, by omega, ⟨rfl, rfl, rfl, rfl, int_succ j, trivial⟩, (by simp only [coL]; (repeat (first | exact Ent.refl _ | exact Ent.nil | refine Ent.take (by (repeat (first | exact Out.head | apply Out.tail)); (first | done | fail)) ?_ | refine Ent.drop1 ?_)); (first | done | fail))⟩
        | some stc =>
          simp only [ptrO, coL]
          repeat' (first
            | refine zh ?_
            | refine zK ?_
            | refine zS (h := ?_)
            | refine zU (h := ?_)
            | refine zi ?_
            | refine zR ?_
            | refine za ?_
            | refine zN ?_
            | refine zY ?_
            | refine zd ?_
            | refine zO ?_
            | refine zZ ?_
            | refine zQ rfl ?_
            | refine ze ?_
            | refine zX ?_
            | refine zP ?_
            | refine zT ?_
            | refine zL ?_
            | (refine zE (id := 7) ?_; intro K hK; refine zD (k := ?_); refine zm (k' := ?_); refine zI (k := ?_); (refine zF (hK _ _ ?_); clear hK K))
            | (refine zE (id := 15) ?_; intro K hK; refine zD (k := ?_); refine zD (k := ?_); ((refine zo (k' := ?_))) <;> (((refine z8 (j := j * 16) (cs := x.c) (hq := by simp) (hr := hr.any) (hv := recsC_row hx) (k := ?_))) <;> (((refine zb (hs := hpl) (k := ?_); rintro v A' ⟨a1, c1, a2, c2, rfl, rfl⟩; simp only [List.cons_append, List.nil_append]; simp only [RcG.c])) <;> (((refine zy (k := ?_); intro r11)) <;> (refine zl (ho' := rfl) (k := ?_); (refine zF (hK _ _ ?_); clear hK K))))))
            | (refine zE (id := 16) ?_; intro K hK; refine zD (k := ?_); refine zn (k := ?_); ((refine z7 (a := a1) (sz := 5) (ho := (by (repeat (first | exact Out.head | apply Out.tail)); (first | done | fail))) (h0 := by omega) (h := fun hf1 => ?_); refine z7 (a := a2) (sz := 4) (ho := (by (repeat (first | exact Out.head | apply Out.tail)); (first | done | fail))) (h0 := by omega) (h := fun hf2 => ?_); refine zb (hs := hap sta a1 c1 a2 c2 hf1 hf2) (k := ?_); rintro v A' ⟨rfl, rfl⟩; simp only [List.cons_append, List.nil_append])) <;> (refine zI (k := ?_); (refine zF (hK _ _ ?_); clear hK K)))
            | (refine zE (id := 17) ?_; intro K hK; refine zD (k := ?_); refine yC (k' := ?_); refine zD (k := ?_); ((first | (refine zA (k := ?_); refine zD (k := ?_)) | refine zC (k := ?_) | ((refine zG (yes := (fun ht => ?_)) (no := (fun ht => ?_)) <;> (try simp at ht) <;> (try (exfalso; omega))) <;> (first | (refine zA (k := ?_); refine zD (k := ?_)) | refine zC (k := ?_))))) <;> (((first | (refine zA (k := ?_); refine zn (k := ?_)) | refine zC (k := ?_) | ((refine zG (yes := (fun ht => ?_)) (no := (fun ht => ?_)) <;> (try simp at ht) <;> (try (exfalso; omega))) <;> (first | (refine zA (k := ?_); refine zn (k := ?_)) | refine zC (k := ?_))))) <;> (((first | (refine zA (k := ?_); (refine z7 (a := a1) (sz := 5) (ho := (by (repeat (first | exact Out.head | apply Out.tail)); (first | done | fail))) (h0 := by omega) (h := fun hf1 => ?_); refine z7 (a := a2) (sz := 4) (ho := (by (repeat (first | exact Out.head | apply Out.tail)); (first | done | fail))) (h0 := by omega) (h := fun hf2 => ?_); refine zb (hs := hap stc a1 c1 a2 c2 hf1 hf2) (k := ?_); rintro v A' ⟨rfl, rfl⟩; simp only [List.cons_append, List.nil_append])) | refine zC (k := ?_) | ((refine zG (yes := (fun ht => ?_)) (no := (fun ht => ?_)) <;> (try simp at ht) <;> (try (exfalso; omega))) <;> (first | (refine zA (k := ?_); (refine z7 (a := a1) (sz := 5) (ho := (by (repeat (first | exact Out.head | apply Out.tail)); (first | done | fail))) (h0 := by omega) (h := fun hf1 => ?_); refine z7 (a := a2) (sz := 4) (ho := (by (repeat (first | exact Out.head | apply Out.tail)); (first | done | fail))) (h0 := by omega) (h := fun hf2 => ?_); refine zb (hs := hap stc a1 c1 a2 c2 hf1 hf2) (k := ?_); rintro v A' ⟨rfl, rfl⟩; simp only [List.cons_append, List.nil_append])) | refine zC (k := ?_))))) <;> (((first | (refine zA (k := ?_); refine zD (k := ?_)) | refine zC (k := ?_) | ((refine zG (yes := (fun ht => ?_)) (no := (fun ht => ?_)) <;> (try simp at ht) <;> (try (exfalso; omega))) <;> (first | (refine zA (k := ?_); refine zD (k := ?_)) | refine zC (k := ?_))))) <;> (((first | (refine zA (k := ?_); refine yB (k' := ?_)) | refine zC (k := ?_) | ((refine zG (yes := (fun ht => ?_)) (no := (fun ht => ?_)) <;> (try simp at ht) <;> (try (exfalso; omega))) <;> (first | (refine zA (k := ?_); refine yB (k' := ?_)) | refine zC (k := ?_))))) <;> (((first | (refine zA (k := ?_); refine zD (k := ?_)) | refine zC (k := ?_) | ((refine zG (yes := (fun ht => ?_)) (no := (fun ht => ?_)) <;> (try simp at ht) <;> (try (exfalso; omega))) <;> (first | (refine zA (k := ?_); refine zD (k := ?_)) | refine zC (k := ?_))))) <;> (((first | (refine zA (k := ?_); refine zD (k := ?_)) | refine zC (k := ?_) | ((refine zG (yes := (fun ht => ?_)) (no := (fun ht => ?_)) <;> (try simp at ht) <;> (try (exfalso; omega))) <;> (first | (refine zA (k := ?_); refine zD (k := ?_)) | refine zC (k := ?_))))) <;> (((first | (refine zA (k := ?_); (refine zb (hs := told15_spec stc T _ ha') (k := ?_); rintro v A' ⟨t1, u1, t2, u2, rfl, rfl⟩; simp only [List.cons_append, List.nil_append])) | refine zC (k := ?_) | ((refine zG (yes := (fun ht => ?_)) (no := (fun ht => ?_)) <;> (try simp at ht) <;> (try (exfalso; omega))) <;> (first | (refine zA (k := ?_); (refine zb (hs := told15_spec stc T _ ha') (k := ?_); rintro v A' ⟨t1, u1, t2, u2, rfl, rfl⟩; simp only [List.cons_append, List.nil_append])) | refine zC (k := ?_))))) <;> (((first | (refine zA (k := ?_); refine zD (k := ?_)) | refine zC (k := ?_) | ((refine zG (yes := (fun ht => ?_)) (no := (fun ht => ?_)) <;> (try simp at ht) <;> (try (exfalso; omega))) <;> (first | (refine zA (k := ?_); refine zD (k := ?_)) | refine zC (k := ?_))))) <;> (((first | (refine zA (k := ?_); (refine zb (hs := told15_spec sta T _ ha') (k := ?_); rintro v A' ⟨t3, u3, t4, u4, rfl, rfl⟩; simp only [List.cons_append, List.nil_append])) | refine zC (k := ?_) | ((refine zG (yes := (fun ht => ?_)) (no := (fun ht => ?_)) <;> (try simp at ht) <;> (try (exfalso; omega))) <;> (first | (refine zA (k := ?_); (refine zb (hs := told15_spec sta T _ ha') (k := ?_); rintro v A' ⟨t3, u3, t4, u4, rfl, rfl⟩; simp only [List.cons_append, List.nil_append])) | refine zC (k := ?_))))) <;> (((first | (refine zA (k := ?_); (refine z7 (a := t1) (sz := 3) (ho := (by (repeat (first | exact Out.head | apply Out.tail)); (first | done | fail))) (h0 := by omega) (h := fun g1 => ?_); refine z7 (a := t2) (sz := 7) (ho := (by (repeat (first | exact Out.head | apply Out.tail)); (first | done | fail))) (h0 := by omega) (h := fun g2 => ?_); refine z7 (a := t3) (sz := 3) (ho := (by (repeat (first | exact Out.head | apply Out.tail)); (first | done | fail))) (h0 := by omega) (h := fun g3 => ?_); refine z7 (a := t4) (sz := 7) (ho := (by (repeat (first | exact Out.head | apply Out.tail)); (first | done | fail))) (h0 := by omega) (h := fun g4 => ?_); refine zb (hs := of_lst (A0 := [own t1 T.table.length u1 3 (epsC T.table) 45, own t2 T.es.length u2 7 (esC T.es) 43, own t3 T.table.length u3 3 (epsC T.table) 45, own t4 T.es.length u4 7 (esC T.es) 43]) (same15_spec _ T _ ha' t1 u1 t2 u2 t3 u3 t4 u4 (g1.rd (by (repeat (first | exact Out.head | apply Out.tail)); (first | done | fail))).lst (g2.rd (by (repeat (first | exact Out.head | apply Out.tail)); (first | done | fail))).lst (g3.rd (by (repeat (first | exact Out.head | apply Out.tail)); (first | done | fail))).lst (g4.rd (by (repeat (first | exact Out.head | apply Out.tail)); (first | done | fail))).lst)) (k := ?_); rintro v A' ⟨rfl, rfl⟩; simp only [List.cons_append, List.nil_append])) | refine zC (k := ?_) | ((refine zG (yes := (fun ht => ?_)) (no := (fun ht => ?_)) <;> (try simp at ht) <;> (try (exfalso; omega))) <;> (first | (refine zA (k := ?_); (refine z7 (a := t1) (sz := 3) (ho := (by (repeat (first | exact Out.head | apply Out.tail)); (first | done | fail))) (h0 := by omega) (h := fun g1 => ?_); refine z7 (a := t2) (sz := 7) (ho := (by (repeat (first | exact Out.head | apply Out.tail)); (first | done | fail))) (h0 := by omega) (h := fun g2 => ?_); refine z7 (a := t3) (sz := 3) (ho := (by (repeat (first | exact Out.head | apply Out.tail)); (first | done | fail))) (h0 := by omega) (h := fun g3 => ?_); refine z7 (a := t4) (sz := 7) (ho := (by (repeat (first | exact Out.head | apply Out.tail)); (first | done | fail))) (h0 := by omega) (h := fun g4 => ?_); refine zb (hs := of_lst (A0 := [own t1 T.table.length u1 3 (epsC T.table) 45, own t2 T.es.length u2 7 (esC T.es) 43, own t3 T.table.length u3 3 (epsC T.table) 45, own t4 T.es.length u4 7 (esC T.es) 43]) (same15_spec _ T _ ha' t1 u1 t2 u2 t3 u3 t4 u4 (g1.rd (by (repeat (first | exact Out.head | apply Out.tail)); (first | done | fail))).lst (g2.rd (by (repeat (first | exact Out.head | apply Out.tail)); (first | done | fail))).lst (g3.rd (by (repeat (first | exact Out.head | apply Out.tail)); (first | done | fail))).lst (g4.rd (by (repeat (first | exact Out.head | apply Out.tail)); (first | done | fail))).lst)) (k := ?_); rintro v A' ⟨rfl, rfl⟩; simp only [List.cons_append, List.nil_append])) | refine zC (k := ?_))))) <;> (((first | (refine zA (k := ?_); refine z6 (k' := ?_)) | refine zC (k := ?_) | ((refine zG (yes := (fun ht => ?_)) (no := (fun ht => ?_)) <;> (try simp at ht) <;> (try (exfalso; omega))) <;> (first | (refine zA (k := ?_); refine z6 (k' := ?_)) | refine zC (k := ?_))))) <;> (((first | (refine zA (k := ?_); (first | refine zV (k := ?_) | refine zW (k := ?_) | refine zg (k := ?_))) | refine zC (k := ?_) | ((refine zG (yes := (fun ht => ?_)) (no := (fun ht => ?_)) <;> (try simp at ht) <;> (try (exfalso; omega))) <;> (first | (refine zA (k := ?_); (first | refine zV (k := ?_) | refine zW (k := ?_) | refine zg (k := ?_))) | refine zC (k := ?_))))) <;> (((first | (refine zA (k := ?_); refine zD (k := ?_)) | refine zC (k := ?_) | ((refine zG (yes := (fun ht => ?_)) (no := (fun ht => ?_)) <;> (try simp at ht) <;> (try (exfalso; omega))) <;> (first | (refine zA (k := ?_); refine zD (k := ?_)) | refine zC (k := ?_))))) <;> (((first | (refine zA (k := ?_); refine zD (k := ?_)) | refine zC (k := ?_) | ((refine zG (yes := (fun ht => ?_)) (no := (fun ht => ?_)) <;> (try simp at ht) <;> (try (exfalso; omega))) <;> (first | (refine zA (k := ?_); refine zD (k := ?_)) | refine zC (k := ?_))))) <;> (((first | (refine zA (k := ?_); (refine zb (hs := gbase_spec stc T) (k := ?_); rintro v A' ⟨rfl, rfl⟩; simp only [List.cons_append, List.nil_append])) | refine zC (k := ?_) | ((refine zG (yes := (fun ht => ?_)) (no := (fun ht => ?_)) <;> (try simp at ht) <;> (try (exfalso; omega))) <;> (first | (refine zA (k := ?_); (refine zb (hs := gbase_spec stc T) (k := ?_); rintro v A' ⟨rfl, rfl⟩; simp only [List.cons_append, List.nil_append])) | refine zC (k := ?_))))) <;> (((first | (refine zA (k := ?_); refine zD (k := ?_)) | refine zC (k := ?_) | ((refine zG (yes := (fun ht => ?_)) (no := (fun ht => ?_)) <;> (try simp at ht) <;> (try (exfalso; omega))) <;> (first | (refine zA (k := ?_); refine zD (k := ?_)) | refine zC (k := ?_))))) <;> (((first | (refine zA (k := ?_); (refine zb (hs := gbase_spec sta T) (k := ?_); rintro v A' ⟨rfl, rfl⟩; simp only [List.cons_append, List.nil_append])) | refine zC (k := ?_) | ((refine zG (yes := (fun ht => ?_)) (no := (fun ht => ?_)) <;> (try simp at ht) <;> (try (exfalso; omega))) <;> (first | (refine zA (k := ?_); (refine zb (hs := gbase_spec sta T) (k := ?_); rintro v A' ⟨rfl, rfl⟩; simp only [List.cons_append, List.nil_append])) | refine zC (k := ?_))))) <;> (((first | (refine zA (k := ?_); (refine yM (b := true) (hb := by rw [pos_ceq]; exact decide_eq_true ⟨rfl, rfl⟩) (k' := ?_))) | refine zC (k := ?_) | ((refine zG (yes := (fun ht => ?_)) (no := (fun ht => ?_)) <;> (try simp at ht) <;> (try (exfalso; omega))) <;> (first | (refine zA (k := ?_); (refine yM (b := true) (hb := by rw [pos_ceq]; exact decide_eq_true ⟨rfl, rfl⟩) (k' := ?_))) | refine zC (k := ?_))))) <;> (((first | (refine zA (k := ?_); (first | refine zV (k := ?_) | refine zW (k := ?_) | refine zg (k := ?_))) | refine zC (k := ?_) | ((refine zG (yes := (fun ht => ?_)) (no := (fun ht => ?_)) <;> (try simp at ht) <;> (try (exfalso; omega))) <;> (first | (refine zA (k := ?_); (first | refine zV (k := ?_) | refine zW (k := ?_) | refine zg (k := ?_))) | refine zC (k := ?_))))) <;> (((first | (refine zA (k := ?_); refine zD (k := ?_)) | refine zC (k := ?_) | ((refine zG (yes := (fun ht => ?_)) (no := (fun ht => ?_)) <;> (try simp at ht) <;> (try (exfalso; omega))) <;> (first | (refine zA (k := ?_); refine zD (k := ?_)) | refine zC (k := ?_))))) <;> (((first | (refine zA (k := ?_); refine zD (k := ?_)) | refine zC (k := ?_) | ((refine zG (yes := (fun ht => ?_)) (no := (fun ht => ?_)) <;> (try simp at ht) <;> (try (exfalso; omega))) <;> (first | (refine zA (k := ?_); refine zD (k := ?_)) | refine zC (k := ?_))))) <;> (((first | (refine zA (k := ?_); (refine zb (hs := gsnapshot_spec stc T _ ha') (k := ?_); rintro v A' ⟨p1, q1, p2, q2, rfl, rfl⟩; simp only [List.cons_append, List.nil_append])) | refine zC (k := ?_) | ((refine zG (yes := (fun ht => ?_)) (no := (fun ht => ?_)) <;> (try simp at ht) <;> (try (exfalso; omega))) <;> (first | (refine zA (k := ?_); (refine zb (hs := gsnapshot_spec stc T _ ha') (k := ?_); rintro v A' ⟨p1, q1, p2, q2, rfl, rfl⟩; simp only [List.cons_append, List.nil_append])) | refine zC (k := ?_))))) <;> (((first | (refine zA (k := ?_); refine zD (k := ?_)) | refine zC (k := ?_) | ((refine zG (yes := (fun ht => ?_)) (no := (fun ht => ?_)) <;> (try simp at ht) <;> (try (exfalso; omega))) <;> (first | (refine zA (k := ?_); refine zD (k := ?_)) | refine zC (k := ?_))))) <;> (((first | (refine zA (k := ?_); (refine zb (hs := gsnapshot_spec sta T _ ha') (k := ?_); rintro v A' ⟨p3, q3, p4, q4, rfl, rfl⟩; simp only [List.cons_append, List.nil_append])) | refine zC (k := ?_) | ((refine zG (yes := (fun ht => ?_)) (no := (fun ht => ?_)) <;> (try simp at ht) <;> (try (exfalso; omega))) <;> (first | (refine zA (k := ?_); (refine zb (hs := gsnapshot_spec sta T _ ha') (k := ?_); rintro v A' ⟨p3, q3, p4, q4, rfl, rfl⟩; simp only [List.cons_append, List.nil_append])) | refine zC (k := ?_))))) <;> (((first | (refine zA (k := ?_); (refine z7 (a := p1) (sz := 5) (ho := (by (repeat (first | exact Out.head | apply Out.tail)); (first | done | fail))) (h0 := by omega) (h := fun g1 => ?_); refine z7 (a := p2) (sz := 4) (ho := (by (repeat (first | exact Out.head | apply Out.tail)); (first | done | fail))) (h0 := by omega) (h := fun g2 => ?_); refine z7 (a := p3) (sz := 5) (ho := (by (repeat (first | exact Out.head | apply Out.tail)); (first | done | fail))) (h0 := by omega) (h := fun g3 => ?_); refine z7 (a := p4) (sz := 4) (ho := (by (repeat (first | exact Out.head | apply Out.tail)); (first | done | fail))) (h0 := by omega) (h := fun g4 => ?_); refine zb (hs := of_lst (A0 := [own p1 T.fold.snap.ps.length q1 5 (prC T.fold.snap.ps) 57, own p2 T.fold.snap.ss.length q2 4 (ssC T.fold.snap.ss) 111, own p3 T.fold.snap.ps.length q3 5 (prC T.fold.snap.ps) 57, own p4 T.fold.snap.ss.length q4 4 (ssC T.fold.snap.ss) 111]) (sameSnap_spec _ T.fold.snap (by omega) (by omega) p1 q1 p2 q2 p3 q3 p4 q4 (g1.rd (by (repeat (first | exact Out.head | apply Out.tail)); (first | done | fail))).lst (g2.rd (by (repeat (first | exact Out.head | apply Out.tail)); (first | done | fail))).lst (g3.rd (by (repeat (first | exact Out.head | apply Out.tail)); (first | done | fail))).lst (g4.rd (by (repeat (first | exact Out.head | apply Out.tail)); (first | done | fail))).lst)) (k := ?_); rintro v A' ⟨rfl, rfl⟩; simp only [List.cons_append, List.nil_append])) | refine zC (k := ?_) | ((refine zG (yes := (fun ht => ?_)) (no := (fun ht => ?_)) <;> (try simp at ht) <;> (try (exfalso; omega))) <;> (first | (refine zA (k := ?_); (refine z7 (a := p1) (sz := 5) (ho := (by (repeat (first | exact Out.head | apply Out.tail)); (first | done | fail))) (h0 := by omega) (h := fun g1 => ?_); refine z7 (a := p2) (sz := 4) (ho := (by (repeat (first | exact Out.head | apply Out.tail)); (first | done | fail))) (h0 := by omega) (h := fun g2 => ?_); refine z7 (a := p3) (sz := 5) (ho := (by (repeat (first | exact Out.head | apply Out.tail)); (first | done | fail))) (h0 := by omega) (h := fun g3 => ?_); refine z7 (a := p4) (sz := 4) (ho := (by (repeat (first | exact Out.head | apply Out.tail)); (first | done | fail))) (h0 := by omega) (h := fun g4 => ?_); refine zb (hs := of_lst (A0 := [own p1 T.fold.snap.ps.length q1 5 (prC T.fold.snap.ps) 57, own p2 T.fold.snap.ss.length q2 4 (ssC T.fold.snap.ss) 111, own p3 T.fold.snap.ps.length q3 5 (prC T.fold.snap.ps) 57, own p4 T.fold.snap.ss.length q4 4 (ssC T.fold.snap.ss) 111]) (sameSnap_spec _ T.fold.snap (by omega) (by omega) p1 q1 p2 q2 p3 q3 p4 q4 (g1.rd (by (repeat (first | exact Out.head | apply Out.tail)); (first | done | fail))).lst (g2.rd (by (repeat (first | exact Out.head | apply Out.tail)); (first | done | fail))).lst (g3.rd (by (repeat (first | exact Out.head | apply Out.tail)); (first | done | fail))).lst (g4.rd (by (repeat (first | exact Out.head | apply Out.tail)); (first | done | fail))).lst)) (k := ?_); rintro v A' ⟨rfl, rfl⟩; simp only [List.cons_append, List.nil_append])) | refine zC (k := ?_))))) <;> (((first | (refine zA (k := ?_); refine z6 (k' := ?_)) | refine zC (k := ?_) | ((refine zG (yes := (fun ht => ?_)) (no := (fun ht => ?_)) <;> (try simp at ht) <;> (try (exfalso; omega))) <;> (first | (refine zA (k := ?_); refine z6 (k' := ?_)) | refine zC (k := ?_))))) <;> (((first | (refine zA (k := ?_); (first | refine zV (k := ?_) | refine zW (k := ?_) | refine zg (k := ?_))) | refine zC (k := ?_) | ((refine zG (yes := (fun ht => ?_)) (no := (fun ht => ?_)) <;> (try simp at ht) <;> (try (exfalso; omega))) <;> (first | (refine zA (k := ?_); (first | refine zV (k := ?_) | refine zW (k := ?_) | refine zg (k := ?_))) | refine zC (k := ?_))))) <;> ((first | refine zV (k := ?_) | refine zW (k := ?_) | refine zg (k := ?_)); (refine zF (hK _ _ ?_); clear hK K))))))))))))))))))))))))))))))
            | (refine zc (ht := (fun ht => ?_)) (hf := (fun ht => ?_)) <;> (try simp at ht) <;> (try (exfalso; omega))))
          all_goals exact ⟨(j + 1, T, some stc), ⟨by omega, ha', hfr'⟩, by omega, ⟨rfl, rfl, rfl, rfl, int_succ j, trivial⟩, (by simp only [coL]; (repeat (first | exact Ent.refl _ | exact Ent.nil | refine Ent.take (by (repeat (first | exact Out.head | apply Out.tail)); (first | done | fail)) ?_ | refine Ent.drop1 ?_)); (first | done | fail))⟩
  have hpn := G15.snap_len S
  have hwt := ha.wt
  have hsn : S.fold.snap.ss.length ≤ 16 := fop_few ha.fop
  refine yp (A' := [GtP sta S]) (by simpa using (Ent.nil : Ent (coL co S) []).cons (GtP sta S)) ?_
  repeat' (first
    | (refine yu (k := 6) (α := Unit) (fun _ => [(5, .pointer (some ⟨sta, 0, none⟩)), (29, .bool false)]) (fun _ => [GtP sta S]) (fun _ => True) ?_ (fun _ G2 _ => ?_); rotate_left; simp only [ov]; rotate_left)
    | refine zh ?_
    | refine zK ?_
    | refine zS (h := ?_)
    | refine zU (h := ?_)
    | refine zi ?_
    | refine zR ?_
    | refine za ?_
    | refine zN ?_
    | refine zY ?_
    | refine zd ?_
    | refine zO ?_
    | refine zZ ?_
    | refine zQ rfl ?_
    | refine ze ?_
    | refine zX ?_
    | refine zP ?_
    | refine zT ?_
    | refine zL ?_
    | (refine zE (id := 6) ?_; intro K hK; refine zD (k := ?_); refine zD (k := ?_); refine zk (k' := ?_); refine z2 (k' := ?_); refine zD (k := ?_); ((first | (refine zA (k := ?_); refine zD (k := ?_)) | refine zC (k := ?_) | ((refine zG (yes := (fun ht => ?_)) (no := (fun ht => ?_)) <;> (try simp at ht) <;> (try (exfalso; omega))) <;> (first | (refine zA (k := ?_); refine zD (k := ?_)) | refine zC (k := ?_))))) <;> (((first | (refine zA (k := ?_); refine z2 (k' := ?_)) | refine zC (k := ?_) | ((refine zG (yes := (fun ht => ?_)) (no := (fun ht => ?_)) <;> (try simp at ht) <;> (try (exfalso; omega))) <;> (first | (refine zA (k := ?_); refine z2 (k' := ?_)) | refine zC (k := ?_))))) <;> ((first | refine zV (k := ?_) | refine zW (k := ?_) | refine zg (k := ?_)); (refine zF (hK _ _ ?_); clear hK K))))
    | (refine zE (id := 19) ?_; intro K hK; refine zD (k := ?_); ((refine zb (hs := hen) (k := ?_); rintro v A' ⟨b1, d1, rfl, rfl⟩; simp only [List.cons_append, List.nil_append])) <;> (((refine z7 (a := b1) (sz := 1) (ho := (by (repeat (first | exact Out.head | apply Out.tail)); (first | done | fail))) (h0 := by omega) (h := fun hf => ?_); refine zb (hs := decode_spec [own b1 (encS S).length d1 1 ((encS S).map byteV) 5] S _ ha (by omega) hfr b1 d1 (hf.rd .head)) (k := ?_); rintro v A' ⟨stc, rfl, rfl⟩; simp only [List.cons_append, List.nil_append])) <;> (refine zD (k := ?_); refine zx (k' := ?_); refine zx (k' := ?_); refine zI (k := ?_); refine zI (k := ?_); (refine zF (hK _ _ ?_); clear hK K))))
    | (refine zc (ht := (fun ht => ?_)) (hf := (fun ht => ?_)) <;> (try simp at ht) <;> (try (exfalso; omega))))
  all_goals first | exact ⟨(), trivial, ⟨rfl, (by first | rfl | exact congrArg Value.bool (decide_eq_false (by omega))), trivial⟩, (by (repeat (first | exact Ent.refl _ | exact Ent.nil | refine Ent.take (by (repeat (first | exact Out.head | apply Out.tail)); (first | done | fail)) ?_ | refine Ent.drop1 ?_)); (first | done | fail))⟩ | skip
  repeat' (first
    | refine zh ?_
    | refine zK ?_
    | refine zS (h := ?_)
    | refine zU (h := ?_)
    | refine zi ?_
    | refine zR ?_
    | refine za ?_
    | refine zN ?_
    | refine zY ?_
    | refine zd ?_
    | refine zO ?_
    | refine zZ ?_
    | refine zQ rfl ?_
    | refine ze ?_
    | refine zX ?_
    | refine zP ?_
    | refine zT ?_
    | refine zL ?_
    | ((refine y7 (id := 20) (t := (.step 0 (.step 1 (.step 2 (.step 3 (.step 4 (.step 5 (.step 6 (.step 7 (.step 10 (.step 8 (.alt (.step 9 (.step 11 (.step 12 (.step 13 (.step 14 (.step 15 (.step 16 (.step 18 (.step 17 (.step 19 (.step 20 (.step 21 (.step 22 (.step 23 (.step 25 (.step 24 (.step 26 (.step 27 (.step 28 (.step 29 .done)))))))))))))))))))) (.step 11 (.step 12 (.step 9 (.step 13 (.step 14 (.step 15 (.step 16 (.step 18 (.step 17 (.step 19 (.step 20 (.step 21 (.step 22 (.step 23 (.step 25 (.step 24 (.step 26 (.step 27 (.step 28 (.step 29 .done)))))))))))))))))))))))))))))))) (bad := [8, 9, 11]) (hok := (by decide +kernel)) (h := ?_); intro K hK; repeat' (first | refine z0 ?_ ?_ | (refine zH (i := 0) rfl ?_; (refine zD (k := ?_)) <;> (refine zF ?_)) | (refine zH (i := 1) rfl ?_; (refine z5 (k' := ?_)) <;> (refine zF ?_)) | (refine zH (i := 2) rfl ?_; (refine zD (k := ?_)) <;> (refine zF ?_)) | (refine zH (i := 3) rfl ?_; ((first | (refine zA (k := ?_); refine zD (k := ?_)) | refine zC (k := ?_) | ((refine zG (yes := (fun ht => ?_)) (no := (fun ht => ?_)) <;> (try simp at ht) <;> (try (exfalso; omega))) <;> (first | (refine zA (k := ?_); refine zD (k := ?_)) | refine zC (k := ?_))))) <;> (refine zF ?_)) | (refine zH (i := 4) rfl ?_; ((first | (refine zA (k := ?_); refine yC (k' := ?_)) | refine zC (k := ?_) | ((refine zG (yes := (fun ht => ?_)) (no := (fun ht => ?_)) <;> (try simp at ht) <;> (try (exfalso; omega))) <;> (first | (refine zA (k := ?_); refine yC (k' := ?_)) | refine zC (k := ?_))))) <;> (refine zF ?_)) | (refine zH (i := 5) rfl ?_; ((first | refine zV (k := ?_) | refine zW (k := ?_) | refine zg (k := ?_))) <;> (refine zF ?_)) | (refine zH (i := 6) rfl ?_; (refine zD (k := ?_)) <;> (refine zF ?_)) | (refine zH (i := 7) rfl ?_; ((first | (refine zA (k := ?_); refine zD (k := ?_)) | refine zC (k := ?_) | ((refine zG (yes := (fun ht => ?_)) (no := (fun ht => ?_)) <;> (try simp at ht) <;> (try (exfalso; omega))) <;> (first | (refine zA (k := ?_); refine zD (k := ?_)) | refine zC (k := ?_))))) <;> (refine zF ?_)) | (refine zH (i := 8) rfl ?_; ((first | (refine zA (k := ?_); (refine zb (hs := gencode_spec stc S _ ha) (k := ?_); rintro v A' ⟨b2, d2, rfl, rfl⟩; simp only [List.cons_append, List.nil_append])) | refine zC (k := ?_) | ((refine zG (yes := (fun ht => ?_)) (no := (fun ht => ?_)) <;> (try simp at ht) <;> (try (exfalso; omega))) <;> (first | (refine zA (k := ?_); (refine zb (hs := gencode_spec stc S _ ha) (k := ?_); rintro v A' ⟨b2, d2, rfl, rfl⟩; simp only [List.cons_append, List.nil_append])) | refine zC (k := ?_))))) <;> (refine zF ?_)) | (refine zH (i := 9) rfl ?_; ((first | (refine zA (k := ?_); (refine yU (cs := encS S) (hsrc := src_out (by (repeat (first | exact Out.head | apply Out.tail)); (first | done | fail)) hlb) (hl := rfl) (k := ?_))) | refine zC (k := ?_) | ((refine zG (yes := (fun ht => ?_)) (no := (fun ht => ?_)) <;> (try simp at ht) <;> (try (exfalso; omega))) <;> (first | (refine zA (k := ?_); (refine yU (cs := encS S) (hsrc := src_out (by (repeat (first | exact Out.head | apply Out.tail)); (first | done | fail)) hlb) (hl := rfl) (k := ?_))) | refine zC (k := ?_))))) <;> (refine zF ?_)) | (refine zH (i := 10) rfl ?_; ((first | (refine zA (k := ?_); refine zD (k := ?_)) | refine zC (k := ?_) | ((refine zG (yes := (fun ht => ?_)) (no := (fun ht => ?_)) <;> (try simp at ht) <;> (try (exfalso; omega))) <;> (first | (refine zA (k := ?_); refine zD (k := ?_)) | refine zC (k := ?_))))) <;> (refine zF ?_)) | (refine zH (i := 11) rfl ?_; ((first | (refine zA (k := ?_); (refine zb (hs := gencode_spec sta S _ ha) (k := ?_); rintro v A' ⟨b3, d3, rfl, rfl⟩; simp only [List.cons_append, List.nil_append])) | refine zC (k := ?_) | ((refine zG (yes := (fun ht => ?_)) (no := (fun ht => ?_)) <;> (try simp at ht) <;> (try (exfalso; omega))) <;> (first | (refine zA (k := ?_); (refine zb (hs := gencode_spec sta S _ ha) (k := ?_); rintro v A' ⟨b3, d3, rfl, rfl⟩; simp only [List.cons_append, List.nil_append])) | refine zC (k := ?_))))) <;> (refine zF ?_)) | (refine zH (i := 12) rfl ?_; ((first | (refine zA (k := ?_); (refine yU (cs := encS S) (hsrc := src_out (by (repeat (first | exact Out.head | apply Out.tail)); (first | done | fail)) hlb) (hl := rfl) (k := ?_))) | refine zC (k := ?_) | ((refine zG (yes := (fun ht => ?_)) (no := (fun ht => ?_)) <;> (try simp at ht) <;> (try (exfalso; omega))) <;> (first | (refine zA (k := ?_); (refine yU (cs := encS S) (hsrc := src_out (by (repeat (first | exact Out.head | apply Out.tail)); (first | done | fail)) hlb) (hl := rfl) (k := ?_))) | refine zC (k := ?_))))) <;> (refine zF ?_)) | (refine zH (i := 13) rfl ?_; ((first | (refine zA (k := ?_); (refine yd (k' := ?_); rw [beq_self_eq_true])) | refine zC (k := ?_) | ((refine zG (yes := (fun ht => ?_)) (no := (fun ht => ?_)) <;> (try simp at ht) <;> (try (exfalso; omega))) <;> (first | (refine zA (k := ?_); (refine yd (k' := ?_); rw [beq_self_eq_true])) | refine zC (k := ?_))))) <;> (refine zF ?_)) | (refine zH (i := 14) rfl ?_; ((first | refine zV (k := ?_) | refine zW (k := ?_) | refine zg (k := ?_))) <;> (refine zF ?_)) | (refine zH (i := 15) rfl ?_; (refine zD (k := ?_)) <;> (refine zF ?_)) | (refine zH (i := 16) rfl ?_; ((first | (refine zA (k := ?_); refine zD (k := ?_)) | refine zC (k := ?_) | ((refine zG (yes := (fun ht => ?_)) (no := (fun ht => ?_)) <;> (try simp at ht) <;> (try (exfalso; omega))) <;> (first | (refine zA (k := ?_); refine zD (k := ?_)) | refine zC (k := ?_))))) <;> (refine zF ?_)) | (refine zH (i := 17) rfl ?_; ((first | (refine zA (k := ?_); (refine zb (hs := told15_spec stc S _ ha) (k := ?_); rintro v A' ⟨t1, u1, t2, u2, rfl, rfl⟩; simp only [List.cons_append, List.nil_append])) | refine zC (k := ?_) | ((refine zG (yes := (fun ht => ?_)) (no := (fun ht => ?_)) <;> (try simp at ht) <;> (try (exfalso; omega))) <;> (first | (refine zA (k := ?_); (refine zb (hs := told15_spec stc S _ ha) (k := ?_); rintro v A' ⟨t1, u1, t2, u2, rfl, rfl⟩; simp only [List.cons_append, List.nil_append])) | refine zC (k := ?_))))) <;> (refine zF ?_)) | (refine zH (i := 18) rfl ?_; ((first | (refine zA (k := ?_); refine zD (k := ?_)) | refine zC (k := ?_) | ((refine zG (yes := (fun ht => ?_)) (no := (fun ht => ?_)) <;> (try simp at ht) <;> (try (exfalso; omega))) <;> (first | (refine zA (k := ?_); refine zD (k := ?_)) | refine zC (k := ?_))))) <;> (refine zF ?_)) | (refine zH (i := 19) rfl ?_; ((first | (refine zA (k := ?_); (refine zb (hs := told15_spec sta S _ ha) (k := ?_); rintro v A' ⟨t3, u3, t4, u4, rfl, rfl⟩; simp only [List.cons_append, List.nil_append])) | refine zC (k := ?_) | ((refine zG (yes := (fun ht => ?_)) (no := (fun ht => ?_)) <;> (try simp at ht) <;> (try (exfalso; omega))) <;> (first | (refine zA (k := ?_); (refine zb (hs := told15_spec sta S _ ha) (k := ?_); rintro v A' ⟨t3, u3, t4, u4, rfl, rfl⟩; simp only [List.cons_append, List.nil_append])) | refine zC (k := ?_))))) <;> (refine zF ?_)) | (refine zH (i := 20) rfl ?_; ((first | (refine zA (k := ?_); (refine z7 (a := t1) (sz := 3) (ho := (by (repeat (first | exact Out.head | apply Out.tail)); (first | done | fail))) (h0 := by omega) (h := fun g1 => ?_); refine z7 (a := t2) (sz := 7) (ho := (by (repeat (first | exact Out.head | apply Out.tail)); (first | done | fail))) (h0 := by omega) (h := fun g2 => ?_); refine z7 (a := t3) (sz := 3) (ho := (by (repeat (first | exact Out.head | apply Out.tail)); (first | done | fail))) (h0 := by omega) (h := fun g3 => ?_); refine z7 (a := t4) (sz := 7) (ho := (by (repeat (first | exact Out.head | apply Out.tail)); (first | done | fail))) (h0 := by omega) (h := fun g4 => ?_); refine zb (hs := of_lst (A0 := [own t1 S.table.length u1 3 (epsC S.table) 45, own t2 S.es.length u2 7 (esC S.es) 43, own t3 S.table.length u3 3 (epsC S.table) 45, own t4 S.es.length u4 7 (esC S.es) 43]) (same15_spec _ S _ ha t1 u1 t2 u2 t3 u3 t4 u4 (g1.rd (by (repeat (first | exact Out.head | apply Out.tail)); (first | done | fail))).lst (g2.rd (by (repeat (first | exact Out.head | apply Out.tail)); (first | done | fail))).lst (g3.rd (by (repeat (first | exact Out.head | apply Out.tail)); (first | done | fail))).lst (g4.rd (by (repeat (first | exact Out.head | apply Out.tail)); (first | done | fail))).lst)) (k := ?_); rintro v A' ⟨rfl, rfl⟩; simp only [List.cons_append, List.nil_append])) | refine zC (k := ?_) | ((refine zG (yes := (fun ht => ?_)) (no := (fun ht => ?_)) <;> (try simp at ht) <;> (try (exfalso; omega))) <;> (first | (refine zA (k := ?_); (refine z7 (a := t1) (sz := 3) (ho := (by (repeat (first | exact Out.head | apply Out.tail)); (first | done | fail))) (h0 := by omega) (h := fun g1 => ?_); refine z7 (a := t2) (sz := 7) (ho := (by (repeat (first | exact Out.head | apply Out.tail)); (first | done | fail))) (h0 := by omega) (h := fun g2 => ?_); refine z7 (a := t3) (sz := 3) (ho := (by (repeat (first | exact Out.head | apply Out.tail)); (first | done | fail))) (h0 := by omega) (h := fun g3 => ?_); refine z7 (a := t4) (sz := 7) (ho := (by (repeat (first | exact Out.head | apply Out.tail)); (first | done | fail))) (h0 := by omega) (h := fun g4 => ?_); refine zb (hs := of_lst (A0 := [own t1 S.table.length u1 3 (epsC S.table) 45, own t2 S.es.length u2 7 (esC S.es) 43, own t3 S.table.length u3 3 (epsC S.table) 45, own t4 S.es.length u4 7 (esC S.es) 43]) (same15_spec _ S _ ha t1 u1 t2 u2 t3 u3 t4 u4 (g1.rd (by (repeat (first | exact Out.head | apply Out.tail)); (first | done | fail))).lst (g2.rd (by (repeat (first | exact Out.head | apply Out.tail)); (first | done | fail))).lst (g3.rd (by (repeat (first | exact Out.head | apply Out.tail)); (first | done | fail))).lst (g4.rd (by (repeat (first | exact Out.head | apply Out.tail)); (first | done | fail))).lst)) (k := ?_); rintro v A' ⟨rfl, rfl⟩; simp only [List.cons_append, List.nil_append])) | refine zC (k := ?_))))) <;> (refine zF ?_)) | (refine zH (i := 21) rfl ?_; ((first | refine zV (k := ?_) | refine zW (k := ?_) | refine zg (k := ?_))) <;> (refine zF ?_)) | (refine zH (i := 22) rfl ?_; (refine zD (k := ?_)) <;> (refine zF ?_)) | (refine zH (i := 23) rfl ?_; ((first | (refine zA (k := ?_); refine zD (k := ?_)) | refine zC (k := ?_) | ((refine zG (yes := (fun ht => ?_)) (no := (fun ht => ?_)) <;> (try simp at ht) <;> (try (exfalso; omega))) <;> (first | (refine zA (k := ?_); refine zD (k := ?_)) | refine zC (k := ?_))))) <;> (refine zF ?_)) | (refine zH (i := 24) rfl ?_; ((first | (refine zA (k := ?_); (refine zb (hs := gsnapshot_spec stc S _ ha) (k := ?_); rintro v A' ⟨p1, q1, p2, q2, rfl, rfl⟩; simp only [List.cons_append, List.nil_append])) | refine zC (k := ?_) | ((refine zG (yes := (fun ht => ?_)) (no := (fun ht => ?_)) <;> (try simp at ht) <;> (try (exfalso; omega))) <;> (first | (refine zA (k := ?_); (refine zb (hs := gsnapshot_spec stc S _ ha) (k := ?_); rintro v A' ⟨p1, q1, p2, q2, rfl, rfl⟩; simp only [List.cons_append, List.nil_append])) | refine zC (k := ?_))))) <;> (refine zF ?_)) | (refine zH (i := 25) rfl ?_; ((first | (refine zA (k := ?_); refine zD (k := ?_)) | refine zC (k := ?_) | ((refine zG (yes := (fun ht => ?_)) (no := (fun ht => ?_)) <;> (try simp at ht) <;> (try (exfalso; omega))) <;> (first | (refine zA (k := ?_); refine zD (k := ?_)) | refine zC (k := ?_))))) <;> (refine zF ?_)) | (refine zH (i := 26) rfl ?_; ((first | (refine zA (k := ?_); (refine zb (hs := gsnapshot_spec sta S _ ha) (k := ?_); rintro v A' ⟨p3, q3, p4, q4, rfl, rfl⟩; simp only [List.cons_append, List.nil_append])) | refine zC (k := ?_) | ((refine zG (yes := (fun ht => ?_)) (no := (fun ht => ?_)) <;> (try simp at ht) <;> (try (exfalso; omega))) <;> (first | (refine zA (k := ?_); (refine zb (hs := gsnapshot_spec sta S _ ha) (k := ?_); rintro v A' ⟨p3, q3, p4, q4, rfl, rfl⟩; simp only [List.cons_append, List.nil_append])) | refine zC (k := ?_))))) <;> (refine zF ?_)) | (refine zH (i := 27) rfl ?_; ((first | (refine zA (k := ?_); (refine z7 (a := p1) (sz := 5) (ho := (by (repeat (first | exact Out.head | apply Out.tail)); (first | done | fail))) (h0 := by omega) (h := fun g1 => ?_); refine z7 (a := p2) (sz := 4) (ho := (by (repeat (first | exact Out.head | apply Out.tail)); (first | done | fail))) (h0 := by omega) (h := fun g2 => ?_); refine z7 (a := p3) (sz := 5) (ho := (by (repeat (first | exact Out.head | apply Out.tail)); (first | done | fail))) (h0 := by omega) (h := fun g3 => ?_); refine z7 (a := p4) (sz := 4) (ho := (by (repeat (first | exact Out.head | apply Out.tail)); (first | done | fail))) (h0 := by omega) (h := fun g4 => ?_); refine zb (hs := of_lst (A0 := [own p1 S.fold.snap.ps.length q1 5 (prC S.fold.snap.ps) 57, own p2 S.fold.snap.ss.length q2 4 (ssC S.fold.snap.ss) 111, own p3 S.fold.snap.ps.length q3 5 (prC S.fold.snap.ps) 57, own p4 S.fold.snap.ss.length q4 4 (ssC S.fold.snap.ss) 111]) (sameSnap_spec _ S.fold.snap (by omega) (by omega) p1 q1 p2 q2 p3 q3 p4 q4 (g1.rd (by (repeat (first | exact Out.head | apply Out.tail)); (first | done | fail))).lst (g2.rd (by (repeat (first | exact Out.head | apply Out.tail)); (first | done | fail))).lst (g3.rd (by (repeat (first | exact Out.head | apply Out.tail)); (first | done | fail))).lst (g4.rd (by (repeat (first | exact Out.head | apply Out.tail)); (first | done | fail))).lst)) (k := ?_); rintro v A' ⟨rfl, rfl⟩; simp only [List.cons_append, List.nil_append])) | refine zC (k := ?_) | ((refine zG (yes := (fun ht => ?_)) (no := (fun ht => ?_)) <;> (try simp at ht) <;> (try (exfalso; omega))) <;> (first | (refine zA (k := ?_); (refine z7 (a := p1) (sz := 5) (ho := (by (repeat (first | exact Out.head | apply Out.tail)); (first | done | fail))) (h0 := by omega) (h := fun g1 => ?_); refine z7 (a := p2) (sz := 4) (ho := (by (repeat (first | exact Out.head | apply Out.tail)); (first | done | fail))) (h0 := by omega) (h := fun g2 => ?_); refine z7 (a := p3) (sz := 5) (ho := (by (repeat (first | exact Out.head | apply Out.tail)); (first | done | fail))) (h0 := by omega) (h := fun g3 => ?_); refine z7 (a := p4) (sz := 4) (ho := (by (repeat (first | exact Out.head | apply Out.tail)); (first | done | fail))) (h0 := by omega) (h := fun g4 => ?_); refine zb (hs := of_lst (A0 := [own p1 S.fold.snap.ps.length q1 5 (prC S.fold.snap.ps) 57, own p2 S.fold.snap.ss.length q2 4 (ssC S.fold.snap.ss) 111, own p3 S.fold.snap.ps.length q3 5 (prC S.fold.snap.ps) 57, own p4 S.fold.snap.ss.length q4 4 (ssC S.fold.snap.ss) 111]) (sameSnap_spec _ S.fold.snap (by omega) (by omega) p1 q1 p2 q2 p3 q3 p4 q4 (g1.rd (by (repeat (first | exact Out.head | apply Out.tail)); (first | done | fail))).lst (g2.rd (by (repeat (first | exact Out.head | apply Out.tail)); (first | done | fail))).lst (g3.rd (by (repeat (first | exact Out.head | apply Out.tail)); (first | done | fail))).lst (g4.rd (by (repeat (first | exact Out.head | apply Out.tail)); (first | done | fail))).lst)) (k := ?_); rintro v A' ⟨rfl, rfl⟩; simp only [List.cons_append, List.nil_append])) | refine zC (k := ?_))))) <;> (refine zF ?_)) | (refine zH (i := 28) rfl ?_; ((first | refine zV (k := ?_) | refine zW (k := ?_) | refine zg (k := ?_))) <;> (refine zF ?_)) | (refine zH (i := 29) rfl ?_; (refine zI (k := ?_)) <;> (refine zF ?_)) | (refine zq (hK _ _ ?_); clear hK K))))
    | (refine zc (ht := (fun ht => ?_)) (hf := (fun ht => ?_)) <;> (try simp at ht) <;> (try (exfalso; omega))))
  all_goals exact ⟨Or.inr rfl, .bool true, [], Ent.nil, res1 rfl rfl, rfl, rfl⟩
end specs
end Go.Proofs.YtnoggejkkjngjaaGreat
/- The rows of a slice of records that came in. No condition. -/
set_option linter.unusedVariables false
set_option maxRecDepth 100000
namespace Go.Proofs.YtnoggejkkjngjaaGreat
open Go Go.Sl Go.ChangeShapes Go.WideShapes Go.ChangeAt Go.RowKit

abbrev pI : List Value → Prop := fun cs => ∃ n, cs = [.int .i64 n] ∧ (Lit.int .i64 n).wf = true
abbrev pB : List Value → Prop := fun cs => ∃ b, cs = [.bool b]
abbrev pS : List Value → Prop := fun cs => ∃ s : ByteArray, cs = [.string s] ∧ s.size ≤ 140737488351232
abbrev pPos : List Value → Prop := Parts [pI, pI]
abbrev pVal : List Value → Prop := Parts [pPos, pB, pS]
abbrev pPair : List Value → Prop := Parts [pS, pVal]
abbrev pSeen : List Value → Prop := Parts [pI, pI, pPos]
abbrev pEnt : List Value → Prop := Parts [pPos, pI, pI, pS, pB, pS]
abbrev pEp : List Value → Prop := Parts [pI, pI, pB]
abbrev pSnap (W : World) (b1 b2 : Nat) : List Value → Prop := Parts [pPos, SlR Tryz.prog W 5 b1 pPair, SlR Tryz.prog W 4 b2 pSeen]
abbrev pRec (W : World) (b1 b2 : Nat) : List Value → Prop := Parts [pI, pEnt, pEp, pI, pSnap W b1 b2]
theorem rg_of {n : Int} (h : (Lit.int .i64 n).wf = true) : rg n := by
  simpa [rg, Lit.wf, IntKind.min, IntKind.max, IntKind.signed, IntKind.bits] using h
theorem pair_of {cs : List Value} (h : pPair cs) : ∃ p : PrX, cs = p.c ∧ rg p.v.a := by
  obtain ⟨_, _, rfl, ⟨k, rfl, _⟩, _, _, rfl, ⟨_, _, rfl, ⟨_, _, rfl, ⟨a, rfl, ha⟩, _, _, rfl, ⟨b, rfl, _⟩, rfl⟩, _, _, rfl, ⟨g, rfl⟩, _, _, rfl, ⟨s, rfl, _⟩, rfl⟩, rfl⟩ := h
  exact ⟨⟨k, ⟨a, b, g, s⟩⟩, rfl, rg_of ha⟩
theorem seen_of {cs : List Value} (h : pSeen cs) : ∃ p : SX, cs = p.c ∧ rg p.e := by
  obtain ⟨_, _, rfl, ⟨k, rfl, _⟩, _, _, rfl, ⟨r, rfl, _⟩, _, _, rfl, ⟨_, _, rfl, ⟨a, rfl, ha⟩, _, _, rfl, ⟨b, rfl, _⟩, rfl⟩, rfl⟩ := h
  exact ⟨⟨k, r, a, b⟩, rfl, rg_of ha⟩
theorem pairs_of : ∀ (rows : List (List Value)), (∀ r ∈ rows, pPair r ∧ r.length = 5) → ∃ l : List PrX, l.length = rows.length ∧ rows.flatten = prC l ∧ ∀ x ∈ l, rg x.v.a
  | [], _ => ⟨[], rfl, rfl, by simp⟩
  | r :: rows, h => by
    obtain ⟨l, h1, h2, h3⟩ := pairs_of rows (fun x hx => h x (List.mem_cons_of_mem _ hx))
    obtain ⟨e, he, hr⟩ := pair_of (h r (List.mem_cons_self ..)).1
    refine ⟨e :: l, by simp [h1], by simp [prC] at h2 ⊢; simp [h2, he], fun x hx => ?_⟩
    rcases List.mem_cons.1 hx with rfl | hx
    · exact hr
    · exact h3 x hx
theorem seens_of : ∀ (rows : List (List Value)), (∀ r ∈ rows, pSeen r ∧ r.length = 4) → ∃ l : List SX, l.length = rows.length ∧ rows.flatten = ssC l ∧ ∀ x ∈ l, rg x.e
  | [], _ => ⟨[], rfl, rfl, by simp⟩
  | r :: rows, h => by
    obtain ⟨l, h1, h2, h3⟩ := seens_of rows (fun x hx => h x (List.mem_cons_of_mem _ hx))
    obtain ⟨e, he, hr⟩ := seen_of (h r (List.mem_cons_self ..)).1
    refine ⟨e :: l, by simp [h1], by simp [ssC] at h2 ⊢; simp [h2, he], fun x hx => ?_⟩
    rcases List.mem_cons.1 hx with rfl | hx
    · exact hr
    · exact h3 x hx
theorem ent_of {cs : List Value} (h : pEnt cs) : ∃ x : EnX, cs = x.c ∧ x.ok ∧ rg x.i := by
  obtain ⟨_, _, rfl, ⟨_, _, rfl, ⟨a, rfl, _⟩, _, _, rfl, ⟨b, rfl, hb⟩, rfl⟩, _, _, rfl, ⟨s, rfl, hs⟩, _, _, rfl, ⟨r, rfl, _⟩, _, _, rfl, ⟨k, rfl, _⟩, _, _, rfl, ⟨d, rfl⟩, _, _, rfl, ⟨t, rfl, _⟩, rfl⟩ := h
  exact ⟨⟨a, b, s, r, k, d, t⟩, rfl, rg_of hs, rg_of hb⟩
theorem rec_of {W : World} {b1 b2 : Nat} {cs : List Value} (h : pRec W b1 b2 cs) : ∃ x : RI, cs = x.c ∧ x.ok (baseOf W) := by
  obtain ⟨_, _, rfl, ⟨kind, rfl, _⟩, _, _, rfl, h1, _, _, rfl, ⟨_, _, rfl, ⟨em, rfl, _⟩, _, _, rfl, ⟨ec, rfl, _⟩, _, _, rfl, ⟨ef, rfl⟩, rfl⟩, _, _, rfl, ⟨cf, rfl, _⟩, _, _, rfl, ⟨_, _, rfl, ⟨_, _, rfl, ⟨a, rfl, ha⟩, _, _, rfl, ⟨b, rfl, _⟩, rfl⟩, _, _, rfl, h2, _, _, rfl, h3, rfl⟩, rfl⟩ := h
  obtain ⟨x, rfl, hx, hxi⟩ := ent_of h1
  obtain ⟨pa, pm, pc, rfl, hm1, rows1, hl1, hr1, hd1⟩ := h2
  obtain ⟨sa, sm, sc, rfl, hm2, rows2, hl2, hr2, hd2⟩ := h3
  obtain ⟨ps, e1, e2, e3⟩ := pairs_of rows1 hr1
  obtain ⟨ss, g1, g2, g3⟩ := seens_of rows2 hr2
  obtain rfl : ps.length = pm := e1.trans hl1
  obtain rfl : ss.length = sm := g1.trans hl2
  rw [e2] at hd1
  rw [g2] at hd2
  exact ⟨⟨⟨kind, x, ⟨em, ec, ef⟩, cf, ⟨a, b, ps, ss⟩⟩, pa, pc, sa, sc⟩, rfl, ⟨hd1, hd2, hx, hxi, rg_of ha, hm1.1, hm2.1, e3, g3⟩⟩
theorem recs_of {W : World} {b1 b2 : Nat} : ∀ (rows : List (List Value)), (∀ r ∈ rows, pRec W b1 b2 r ∧ r.length = 16) → ∃ l : List RI, l.length = rows.length ∧ rows.flatten = recsC l ∧ ∀ x ∈ l, x.ok (baseOf W)
  | [], _ => ⟨[], rfl, rfl, by simp⟩
  | r :: rows, h => by
    obtain ⟨l, h1, h2, h3⟩ := recs_of rows (fun x hx => h x (List.mem_cons_of_mem _ hx))
    obtain ⟨e, he, hr⟩ := rec_of (h r (List.mem_cons_self ..)).1
    refine ⟨e :: l, by simp [h1], by simp [recsC] at h2 ⊢; simp [h2, he], fun x hx => ?_⟩
    rcases List.mem_cons.1 hx with rfl | hx
    · exact hr
    · exact h3 x hx
theorem recs_arg {W : World} {bt b1 b2 : Nat} {v : Value} (g : SlR Tryz.prog W 16 bt (pRec W b1 b2) [v]) :
    ∃ a c, ∃ l : List RI, v = .slice a l.length c ∧ l.length ≤ 9223372036854775807 ∧ (∀ x ∈ l, x.ok (baseOf W)) ∧ RdS Tryz.prog (baseOf W) [] 16 a l.length c (recsC l) := by
  obtain ⟨a, m, c, h1, hm, rows, hlen, hrows, hrd⟩ := g
  obtain ⟨l, hl, hfl, hs⟩ := recs_of rows hrows
  obtain rfl : l.length = m := hl.trans hlen
  rw [hfl] at hrd
  exact ⟨a, c, l, by simpa using h1, hm.1, hs, hrd⟩
end Go.Proofs.YtnoggejkkjngjaaGreat
