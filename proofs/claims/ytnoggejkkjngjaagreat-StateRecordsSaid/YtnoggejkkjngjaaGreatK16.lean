/- Layer 15, StateRecords: the walk. Conditions: none but the kinds' bounds. -/
import Derived.Test.YtnoggejkkjngjaaGreatK15
set_option maxHeartbeats 8000000
set_option linter.unusedVariables false
set_option linter.unusedSimpArgs false
set_option maxRecDepth 100000
namespace Go.Proofs.YtnoggejkkjngjaaGreat
open Go Go.Sl
attribute [local irreducible] Go.Sl.Wl Go.Sl.Wc Go.Sl.thenQ Go.Sl.blkQ Go.Sl.loopQ Go.Sl.Fspec

theorem gSnap_few (r : Rr) (n : Nat) : (gSnap r n).1.ps.length ≤ n ∧ (gSnap r n).1.ss.length ≤ n := by
  unfold gSnap gPrs gSss
  refine ⟨?_, ?_⟩
  · show (gMany _ _ _).1.length ≤ n
    rw [gMany_len]; exact Int.ofNat_le.1 (rCount_max _ _ (Int.natCast_nonneg n))
  · show (gMany _ _ _).1.length ≤ n
    rw [gMany_len]; exact Int.ofNat_le.1 (rCount_max _ _ (Int.natCast_nonneg n))
theorem dRec_few (r : Rr) (n : Nat) : (dRec r n).1.sn.ps.length ≤ n ∧ (dRec r n).1.sn.ss.length ≤ n := by
  have h := gSnap_few (rNum r).2 n
  unfold dRec
  split
  · exact ⟨Nat.zero_le _, Nat.zero_le _⟩
  · split
    · exact ⟨Nat.zero_le _, Nat.zero_le _⟩
    · split
      · exact ⟨Nat.zero_le _, Nat.zero_le _⟩
      · split
        · exact h
        · exact ⟨Nat.zero_le _, Nat.zero_le _⟩
theorem dRec_sn (r : Rr) (n : Int) : (dRec r n).1.sn = SnX.zero ∨ (dRec r n).1.kind = 4 := by
  unfold dRec
  split
  · exact .inl rfl
  · split
    · exact .inl rfl
    · split
      · exact .inl rfl
      · split
        · exact .inr rfl
        · exact .inl rfl
/-- What is read again has few rows. -/
theorem again_few {r : RcG} (hk : RecK r) (hl : (eRec r).length ≤ 9007199254740992) (hp : r.sn.ps.length ≤ 900000000) (hs : r.sn.ss.length ≤ 900000000) :
    (dRec (eRec r, false) (eRec r).length).1.sn.ps.length ≤ 900000000 ∧ (dRec (eRec r, false) (eRec r).length).1.sn.ss.length ≤ 900000000 := by
  have hn := (dec_e hk hl).2
  rcases dRec_sn (eRec r, false) (eRec r).length with h | h
  · rw [h]; exact ⟨Nat.zero_le _, Nat.zero_le _⟩
  · have := hn.s (hn.k.trans h)
    rw [← this]; exact ⟨hp, hs⟩
def encU (r : RcG) : List UInt8 := if recB r = true then (wRec r).1 else []
def encE (r : RcG) : Int := if recB r = true then 0 else 1
section specs
variable {B : Base}
theorem erecU_spec (A0 : List Asn) (r : RcG) (hps : r.sn.ps.length ≤ 140737489000000) (hss : r.sn.ss.length ≤ 140737489000000) (pa : Option Addr) (pc : Nat) (sa : Option Addr) (sc : Nat)
    (h1 : RdS Tryz.prog B A0 5 pa r.sn.ps.length pc (prC r.sn.ps)) (h2 : RdS Tryz.prog B A0 4 sa r.sn.ss.length sc (ssC r.sn.ss)) (hm : (wRec r).1.length ≤ 140737489000000) :
    Fspec Tryz.prog B 18 #[.agg (r.c pa pc sa sc).toArray] A0
      (fun v A' => ∃ a c, v = .tuple #[.slice a (encU r).length c, .int .i64 (encE r)] ∧ A' = own a (encU r).length c 1 ((encU r).map byteV) 5 :: A0) := by
  refine (erec_spec A0 r hps hss pa pc sa sc h1 h2 hm).conv ?_
  rintro v A' (⟨q, a, c, rfl, rfl⟩ | ⟨q, rfl, rfl⟩)
  · refine ⟨_, Ent.refl _, a, c, ?_, ?_⟩
    · unfold encU encE; rw [if_pos q, if_pos q]
    · unfold encU; rw [if_pos q]
  · refine ⟨_, own_nil 1 5 _, none, 0, ?_, ?_⟩
    · unfold encU encE; rw [if_neg (by rw [q]; simp), if_neg (by rw [q]; simp)]; rfl
    · unfold encU; rw [if_neg (by rw [q]; simp)]; rfl
theorem drecT_spec (A0 : List Asn) (a : Option Addr) (c : Nat) (l : List UInt8) (h : RdS Tryz.prog B A0 1 a l.length c (l.map byteV)) (hm : l.length ≤ 140737489000000)
    (hps : (dRec (l, false) l.length).1.sn.ps.length ≤ 900000000) (hss : (dRec (l, false) l.length).1.sn.ss.length ≤ 900000000) (hd : decB l = true) :
    Fspec Tryz.prog B 20 #[.slice a l.length c] A0
      (fun v A' => ∃ pa pc sa sc, v = .tuple #[.agg ((dRec (l, false) l.length).1.c pa pc sa sc).toArray, .int .i64 0] ∧ A' = own pa (dRec (l, false) l.length).1.sn.ps.length pc 5 (prC (dRec (l, false) l.length).1.sn.ps) 57 :: own sa (dRec (l, false) l.length).1.sn.ss.length sc 4 (ssC (dRec (l, false) l.length).1.sn.ss) 111 :: A0) := by
  refine (drec_spec A0 a l.length c l h hm hps hss).mono ?_
  rintro v A' (⟨_, q⟩ | ⟨q, _⟩)
  · exact q
  · rw [hd] at q; cases q
theorem drecF_spec (A0 : List Asn) (a : Option Addr) (c : Nat) (l : List UInt8) (h : RdS Tryz.prog B A0 1 a l.length c (l.map byteV)) (hm : l.length ≤ 140737489000000)
    (hps : (dRec (l, false) l.length).1.sn.ps.length ≤ 900000000) (hss : (dRec (l, false) l.length).1.sn.ss.length ≤ 900000000) (hd : decB l = false) :
    Fspec Tryz.prog B 20 #[.slice a l.length c] A0 (fun v A' => v = .tuple #[.agg (rcO.c none 0 none 0).toArray, .int .i64 2] ∧ A' = A0) := by
  refine (drec_spec A0 a l.length c l h hm hps hss).mono ?_
  rintro v A' (⟨q, _⟩ | ⟨_, q⟩)
  · rw [hd] at q; cases q
  · exact q
theorem named_self : Named rcO rcO := ⟨rfl, fun _ => rfl, fun _ => rfl, fun _ => rfl, fun _ => rfl⟩
/-- Two records whose rows are one's own. -/
theorem namedO_spec (a b : RcG) (hn : Named a b) (hps : a.kind = 4 → a.sn.ps.length ≤ 1000000 ∧ a.sn.ss.length ≤ 1000000) (pa : Option Addr) (pc : Nat) (sa : Option Addr) (sc : Nat) (pa2 : Option Addr) (pc2 : Nat) (sa2 : Option Addr) (sc2 : Nat)
    (f1 : OwnF pa a.sn.ps.length pc 5 (prC a.sn.ps)) (f2 : OwnF sa a.sn.ss.length sc 4 (ssC a.sn.ss)) (f3 : OwnF pa2 b.sn.ps.length pc2 5 (prC b.sn.ps)) (f4 : OwnF sa2 b.sn.ss.length sc2 4 (ssC b.sn.ss)) :
    Fspec Tryz.prog B 21 #[.agg (a.c pa pc sa sc).toArray, .agg (b.c pa2 pc2 sa2 sc2).toArray]
      [own pa a.sn.ps.length pc 5 (prC a.sn.ps) 57, own sa a.sn.ss.length sc 4 (ssC a.sn.ss) 111, own pa2 b.sn.ps.length pc2 5 (prC b.sn.ps) 57, own sa2 b.sn.ss.length sc2 4 (ssC b.sn.ss) 111]
      (fun v A' => v = .bool true ∧ A' = [own pa a.sn.ps.length pc 5 (prC a.sn.ps) 57, own sa a.sn.ss.length sc 4 (ssC a.sn.ss) 111, own pa2 b.sn.ps.length pc2 5 (prC b.sn.ps) 57, own sa2 b.sn.ss.length sc2 4 (ssC b.sn.ss) 111]) :=
  of_lst (named_spec _ a b hn pa pc sa sc pa2 pc2 sa2 sc2 hps (fun h4 => by
    have e := hn.s h4
    rw [e] at f1 f2 ⊢
    exact ⟨(f1.rd .head).lst, (f2.rd (.tail .head)).lst, (f3.rd (.tail (.tail .head))).lst, (f4.rd (.tail (.tail (.tail .head)))).lst⟩))
theorem records15_spec (x : RI) (hx : x.ok B) (ba : Option Addr) (bc : Nat) (l : List UInt8) (hl : l.length ≤ 9223372036854775807) (hb : RdS Tryz.prog B [] 1 ba l.length bc (l.map byteV)) :
    Fspec Tryz.prog B 4 #[.agg x.c.toArray, .slice ba l.length bc] [] (fun v A' => v = .bool true ∧ A' = []) := by
  refine spec_of (args := [_, _]) Tryz.func4 rfl rfl rfl ?_
  obtain ⟨r, pa, pc, sa, sc⟩ := x
  have hli := light_spec (B := B) r hx.pl hx.sl pa pc sa sc hx.h1
  simp only [RI.c, RcG.c]
  cases hL : lightV r with
  | false =>
    rw [hL] at hli
    repeat' (first
      | refine zi ?_
      | refine zK ?_
      | refine zQ (h := ?_)
      | refine zU (h := ?_)
      | refine zj ?_
      | refine zR ?_
      | refine zW ?_
      | refine zN ?_
      | refine zV ?_
      | refine ze ?_
      | refine zP ?_
      | refine zY ?_
      | refine zS rfl ?_
      | refine zd ?_
      | refine zX ?_
      | refine zO ?_
      | refine zT ?_
      | refine zL ?_
      | (refine zC (id := 0) ?_; intro K hK; ((refine zm (k := ?_); intro r2)) <;> (refine zH (k := ?_); (refine zD (hK _ _ ?_); clear hK K)))
      | (refine zC (id := 1) ?_; intro K hK; ((refine zb (hs := awake15) (k := ?_); rintro v A' ⟨rfl, rfl⟩; simp only [List.cons_append, List.nil_append])) <;> (refine z7 (k' := ?_); (refine zD (hK _ _ ?_); clear hK K)))
      | (refine zC (id := 3) ?_; intro K hK; ((refine z5 (cs := r.c pa pc sa sc) (hv := by simp) (hc := rfl) (k := ?_))) <;> (((refine zb (hs := hli) (k := ?_); rintro v A' ⟨rfl, rfl⟩; simp only [List.cons_append, List.nil_append])) <;> (refine z7 (k' := ?_); refine zF (k := ?_); ((first | (refine zA (k := ?_); refine zF (k := ?_)) | refine zE (k := ?_) | ((refine zG (yes := (fun ht => ?_)) (no := (fun ht => ?_)) <;> (try simp at ht) <;> (try (exfalso; omega))) <;> (first | (refine zA (k := ?_); refine zF (k := ?_)) | refine zE (k := ?_))))) <;> (((first | (refine zA (k := ?_); refine zn (k' := ?_)) | refine zE (k := ?_) | ((refine zG (yes := (fun ht => ?_)) (no := (fun ht => ?_)) <;> (try simp at ht) <;> (try (exfalso; omega))) <;> (first | (refine zA (k := ?_); refine zn (k' := ?_)) | refine zE (k := ?_))))) <;> (((first | (refine zA (k := ?_); refine z0 (k' := ?_)) | refine zE (k := ?_) | ((refine zG (yes := (fun ht => ?_)) (no := (fun ht => ?_)) <;> (try simp at ht) <;> (try (exfalso; omega))) <;> (first | (refine zA (k := ?_); refine z0 (k' := ?_)) | refine zE (k := ?_))))) <;> ((first | refine zZ (k := ?_) | refine za (k := ?_) | refine zg (k := ?_)); (refine zD (hK _ _ ?_); clear hK K)))))))
      | (refine zC (id := 4) ?_; intro K hK; refine zH (k := ?_); (refine zD (hK _ _ ?_); clear hK K))
      | (refine zc (ht := (fun ht => ?_)) (hf := (fun ht => ?_)) <;> (try simp at ht) <;> (try (exfalso; omega))))
    all_goals exact ⟨Or.inr rfl, .bool true, [], Ent.nil, res1 rfl rfl, rfl, rfl⟩
  | true =>
    rw [hL] at hli
    by_cases hm : 100000 < l.length
    · repeat' (first
        | refine zi ?_
        | refine zK ?_
        | refine zQ (h := ?_)
        | refine zU (h := ?_)
        | refine zj ?_
        | refine zR ?_
        | refine zW ?_
        | refine zN ?_
        | refine zV ?_
        | refine ze ?_
        | refine zP ?_
        | refine zY ?_
        | refine zS rfl ?_
        | refine zd ?_
        | refine zX ?_
        | refine zO ?_
        | refine zT ?_
        | refine zL ?_
        | (refine zC (id := 0) ?_; intro K hK; ((refine zm (k := ?_); intro r2)) <;> (refine zH (k := ?_); (refine zD (hK _ _ ?_); clear hK K)))
        | (refine zC (id := 1) ?_; intro K hK; ((refine zb (hs := awake15) (k := ?_); rintro v A' ⟨rfl, rfl⟩; simp only [List.cons_append, List.nil_append])) <;> (refine z7 (k' := ?_); (refine zD (hK _ _ ?_); clear hK K)))
        | (refine zC (id := 3) ?_; intro K hK; ((refine z5 (cs := r.c pa pc sa sc) (hv := by simp) (hc := rfl) (k := ?_))) <;> (((refine zb (hs := hli) (k := ?_); rintro v A' ⟨rfl, rfl⟩; simp only [List.cons_append, List.nil_append])) <;> (refine z7 (k' := ?_); refine zF (k := ?_); ((first | (refine zA (k := ?_); refine zF (k := ?_)) | refine zE (k := ?_) | ((refine zG (yes := (fun ht => ?_)) (no := (fun ht => ?_)) <;> (try simp at ht) <;> (try (exfalso; omega))) <;> (first | (refine zA (k := ?_); refine zF (k := ?_)) | refine zE (k := ?_))))) <;> (((first | (refine zA (k := ?_); refine zn (k' := ?_)) | refine zE (k := ?_) | ((refine zG (yes := (fun ht => ?_)) (no := (fun ht => ?_)) <;> (try simp at ht) <;> (try (exfalso; omega))) <;> (first | (refine zA (k := ?_); refine zn (k' := ?_)) | refine zE (k := ?_))))) <;> (((first | (refine zA (k := ?_); refine z0 (k' := ?_)) | refine zE (k := ?_) | ((refine zG (yes := (fun ht => ?_)) (no := (fun ht => ?_)) <;> (try simp at ht) <;> (try (exfalso; omega))) <;> (first | (refine zA (k := ?_); refine z0 (k' := ?_)) | refine zE (k := ?_))))) <;> ((first | refine zZ (k := ?_) | refine za (k := ?_) | refine zg (k := ?_)); (refine zD (hK _ _ ?_); clear hK K)))))))
        | (refine zC (id := 4) ?_; intro K hK; refine zH (k := ?_); (refine zD (hK _ _ ?_); clear hK K))
        | (refine zc (ht := (fun ht => ?_)) (hf := (fun ht => ?_)) <;> (try simp at ht) <;> (try (exfalso; omega))))
      all_goals exact ⟨Or.inr rfl, .bool true, [], Ent.nil, res1 rfl rfl, rfl, rfl⟩
    have few : Few r := light_few hL hx.xz hx.pz
    have hps := few.ps
    have hss := few.ss
    have hsz := rec_sz few
    have hcr := can_rec few
    have hpl := plain_spec (B := B) r (by omega) (by omega) pa pc sa sc hx.h1 hx.h2
    have hcan := can_spec (B := B) r hps hss pa pc sa sc hx.h1 hx.h2
    have her := fun a1 c1 a2 c2 (hf1 : OwnF a1 r.sn.ps.length c1 5 (prC r.sn.ps)) (hf2 : OwnF a2 r.sn.ss.length c2 4 (ssC r.sn.ss)) => erecU_spec (B := B) [own a2 r.sn.ss.length c2 4 (ssC r.sn.ss) 111, own a1 r.sn.ps.length c1 5 (prC r.sn.ps) 57] r (by omega) (by omega) a1 c1 a2 c2 (hf1.rd (.tail .head)) (hf2.rd .head) (by omega)
    have hfw := dRec_few (l, false) l.length
    obtain ⟨eb, heb⟩ : ∃ q, encU r = q := ⟨_, rfl⟩
    obtain ⟨ee, hee⟩ : ∃ q, encE r = q := ⟨_, rfl⟩
    rw [heb, hee] at her
    repeat' (first
      | (refine y4 (k := 7) (α := Unit) (fun _ => [(1, .slice ba l.length bc), (5, .pointer (some ⟨r5, 0, none⟩)), (6, .slice ea eb.length ec), (7, .int .i64 ee), (50, .bool false)]) (fun _ => [cb r5 (r.c a1 c1 a2 c2) 48, own a2 r.sn.ss.length c2 4 (ssC r.sn.ss) 111, own a1 r.sn.ps.length c1 5 (prC r.sn.ps) 57, own ea eb.length ec 1 (eb.map byteV) 5]) (fun _ => True) ?_ (fun _ G2 _ => ?_); rotate_left; simp only [ov]; rotate_left)
      | (refine xS (k := 9) (α := Unit) (fun _ => [(1, .slice ba l.length bc)]) (fun _ => []) (fun _ => True) ?_ (fun _ G3 _ => ?_); rotate_left; simp only [ov]; rotate_left)
      | refine zi ?_
      | refine zK ?_
      | refine zQ (h := ?_)
      | refine zU (h := ?_)
      | refine zj ?_
      | refine zR ?_
      | refine zW ?_
      | refine zN ?_
      | refine zV ?_
      | refine ze ?_
      | refine zP ?_
      | refine zY ?_
      | refine zS rfl ?_
      | refine zd ?_
      | refine zX ?_
      | refine zO ?_
      | refine zT ?_
      | refine zL ?_
      | (refine zC (id := 0) ?_; intro K hK; ((refine zm (k := ?_); intro r2)) <;> (refine zH (k := ?_); (refine zD (hK _ _ ?_); clear hK K)))
      | (refine zC (id := 1) ?_; intro K hK; ((refine zb (hs := awake15) (k := ?_); rintro v A' ⟨rfl, rfl⟩; simp only [List.cons_append, List.nil_append])) <;> (refine z7 (k' := ?_); (refine zD (hK _ _ ?_); clear hK K)))
      | (refine zC (id := 3) ?_; intro K hK; ((refine z5 (cs := r.c pa pc sa sc) (hv := by simp) (hc := rfl) (k := ?_))) <;> (((refine zb (hs := hli) (k := ?_); rintro v A' ⟨rfl, rfl⟩; simp only [List.cons_append, List.nil_append])) <;> (refine z7 (k' := ?_); refine zF (k := ?_); ((first | (refine zA (k := ?_); refine zF (k := ?_)) | refine zE (k := ?_) | ((refine zG (yes := (fun ht => ?_)) (no := (fun ht => ?_)) <;> (try simp at ht) <;> (try (exfalso; omega))) <;> (first | (refine zA (k := ?_); refine zF (k := ?_)) | refine zE (k := ?_))))) <;> (((first | (refine zA (k := ?_); refine zn (k' := ?_)) | refine zE (k := ?_) | ((refine zG (yes := (fun ht => ?_)) (no := (fun ht => ?_)) <;> (try simp at ht) <;> (try (exfalso; omega))) <;> (first | (refine zA (k := ?_); refine zn (k' := ?_)) | refine zE (k := ?_))))) <;> (((first | (refine zA (k := ?_); refine z0 (k' := ?_)) | refine zE (k := ?_) | ((refine zG (yes := (fun ht => ?_)) (no := (fun ht => ?_)) <;> (try simp at ht) <;> (try (exfalso; omega))) <;> (first | (refine zA (k := ?_); refine z0 (k' := ?_)) | refine zE (k := ?_))))) <;> ((first | refine zZ (k := ?_) | refine za (k := ?_) | refine zg (k := ?_)); (refine zD (hK _ _ ?_); clear hK K)))))))
      | (refine zC (id := 5) ?_; intro K hK; ((refine z5 (cs := r.c pa pc sa sc) (hv := by simp) (hc := rfl) (k := ?_))) <;> (((refine zb (hs := hpl) (k := ?_); rintro v A' ⟨a1, c1, a2, c2, rfl, rfl⟩; simp only [List.cons_append, List.nil_append]; simp only [RcG.c])) <;> (((refine zw (k := ?_); intro r5)) <;> (refine zh (ho' := rfl) (k := ?_); (refine zD (hK _ _ ?_); clear hK K)))))
      | (refine zC (id := 6) ?_; intro K hK; ((refine z5 (cs := r.c a1 c1 a2 c2) (hv := by simp) (hc := rfl) (k := ?_))) <;> (((refine yF (a := a1) (sz := 5) (ho := (by (repeat (first | exact Out.head | apply Out.tail)); (first | done | fail))) (h0 := by omega) (h := fun hf1 => ?_); refine yF (a := a2) (sz := 4) (ho := (by (repeat (first | exact Out.head | apply Out.tail)); (first | done | fail))) (h0 := by omega) (h := fun hf2 => ?_); refine zb (hs := her a1 c1 a2 c2 hf1 hf2) (k := ?_); rintro v A' ⟨ea, ec, rfl, rfl⟩; simp only [List.cons_append, List.nil_append])) <;> (refine zF (k := ?_); refine zu (k' := ?_); refine zu (k' := ?_); refine zH (k := ?_); refine zH (k := ?_); (refine zD (hK _ _ ?_); clear hK K))))
      | (refine zc (ht := (fun ht => ?_)) (hf := (fun ht => ?_)) <;> (try simp at ht) <;> (try (exfalso; omega))))
    · cases hR : recB r with
      | true =>
        obtain rfl : ee = 0 := by rw [← hee]; unfold encE; rw [if_pos hR]
        rw [← hcr, hR] at hcan
        repeat' (first
          | refine zi ?_
          | refine zK ?_
          | refine zQ (h := ?_)
          | refine zU (h := ?_)
          | refine zj ?_
          | refine zR ?_
          | refine zW ?_
          | refine zN ?_
          | refine zV ?_
          | refine ze ?_
          | refine zP ?_
          | refine zY ?_
          | refine zS rfl ?_
          | refine zd ?_
          | refine zX ?_
          | refine zO ?_
          | refine zT ?_
          | refine zL ?_
          | (refine zC (id := 7) ?_; intro K hK; refine zF (k := ?_); refine zp (k' := ?_); ((refine z5 (cs := r.c pa pc sa sc) (hv := by simp) (hc := rfl) (k := ?_))) <;> (((refine zb (hs := hcan) (k := ?_); rintro v A' ⟨rfl, rfl⟩; simp only [List.cons_append, List.nil_append])) <;> (refine ym (hU := Tryz.underlying4) (k' := ?_); refine zF (k := ?_); ((first | (refine zA (k := ?_); refine zF (k := ?_)) | refine zE (k := ?_) | ((refine zG (yes := (fun ht => ?_)) (no := (fun ht => ?_)) <;> (try simp at ht) <;> (try (exfalso; omega))) <;> (first | (refine zA (k := ?_); refine zF (k := ?_)) | refine zE (k := ?_))))) <;> (((first | (refine zA (k := ?_); refine z8 (k' := ?_)) | refine zE (k := ?_) | ((refine zG (yes := (fun ht => ?_)) (no := (fun ht => ?_)) <;> (try simp at ht) <;> (try (exfalso; omega))) <;> (first | (refine zA (k := ?_); refine z8 (k' := ?_)) | refine zE (k := ?_))))) <;> (((first | (refine zA (k := ?_); refine zF (k := ?_)) | refine zE (k := ?_) | ((refine zG (yes := (fun ht => ?_)) (no := (fun ht => ?_)) <;> (try simp at ht) <;> (try (exfalso; omega))) <;> (first | (refine zA (k := ?_); refine zF (k := ?_)) | refine zE (k := ?_))))) <;> (((first | (refine zA (k := ?_); refine zF (k := ?_)) | refine zE (k := ?_) | ((refine zG (yes := (fun ht => ?_)) (no := (fun ht => ?_)) <;> (try simp at ht) <;> (try (exfalso; omega))) <;> (first | (refine zA (k := ?_); refine zF (k := ?_)) | refine zE (k := ?_))))) <;> (((first | (refine zA (k := ?_); refine z8 (k' := ?_)) | refine zE (k := ?_) | ((refine zG (yes := (fun ht => ?_)) (no := (fun ht => ?_)) <;> (try simp at ht) <;> (try (exfalso; omega))) <;> (first | (refine zA (k := ?_); refine z8 (k' := ?_)) | refine zE (k := ?_))))) <;> (((first | (refine zA (k := ?_); refine zF (k := ?_)) | refine zE (k := ?_) | ((refine zG (yes := (fun ht => ?_)) (no := (fun ht => ?_)) <;> (try simp at ht) <;> (try (exfalso; omega))) <;> (first | (refine zA (k := ?_); refine zF (k := ?_)) | refine zE (k := ?_))))) <;> (((first | (refine zA (k := ?_); refine zF (k := ?_)) | refine zE (k := ?_) | ((refine zG (yes := (fun ht => ?_)) (no := (fun ht => ?_)) <;> (try simp at ht) <;> (try (exfalso; omega))) <;> (first | (refine zA (k := ?_); refine zF (k := ?_)) | refine zE (k := ?_))))) <;> (((first | (refine zA (k := ?_); refine zn (k' := ?_)) | refine zE (k := ?_) | ((refine zG (yes := (fun ht => ?_)) (no := (fun ht => ?_)) <;> (try simp at ht) <;> (try (exfalso; omega))) <;> (first | (refine zA (k := ?_); refine zn (k' := ?_)) | refine zE (k := ?_))))) <;> (((first | (refine zA (k := ?_); refine z8 (k' := ?_)) | refine zE (k := ?_) | ((refine zG (yes := (fun ht => ?_)) (no := (fun ht => ?_)) <;> (try simp at ht) <;> (try (exfalso; omega))) <;> (first | (refine zA (k := ?_); refine z8 (k' := ?_)) | refine zE (k := ?_))))) <;> (((first | (refine zA (k := ?_); (first | refine zZ (k := ?_) | refine za (k := ?_) | refine zg (k := ?_))) | refine zE (k := ?_) | ((refine zG (yes := (fun ht => ?_)) (no := (fun ht => ?_)) <;> (try simp at ht) <;> (try (exfalso; omega))) <;> (first | (refine zA (k := ?_); (first | refine zZ (k := ?_) | refine za (k := ?_) | refine zg (k := ?_))) | refine zE (k := ?_))))) <;> (((first | (refine zA (k := ?_); (first | refine zZ (k := ?_) | refine za (k := ?_) | refine zg (k := ?_))) | refine zE (k := ?_) | ((refine zG (yes := (fun ht => ?_)) (no := (fun ht => ?_)) <;> (try simp at ht) <;> (try (exfalso; omega))) <;> (first | (refine zA (k := ?_); (first | refine zZ (k := ?_) | refine za (k := ?_) | refine zg (k := ?_))) | refine zE (k := ?_))))) <;> ((first | refine zZ (k := ?_) | refine za (k := ?_) | refine zg (k := ?_)); (refine zD (hK _ _ ?_); clear hK K)))))))))))))))
          | (refine zc (ht := (fun ht => ?_)) (hf := (fun ht => ?_)) <;> (try simp at ht) <;> (try (exfalso; omega))))
        all_goals exact ⟨(), trivial, ⟨rfl, rfl, rfl, rfl, rfl, trivial⟩, (by (repeat (first | exact Ent.refl _ | exact Ent.nil | refine Ent.take (by (repeat (first | exact Out.head | apply Out.tail)); (first | done | fail)) ?_ | refine Ent.drop1 ?_)); (first | done | fail))⟩
      | false =>
        obtain rfl : ee = 1 := by rw [← hee]; unfold encE; rw [if_neg (by rw [hR]; simp)]
        obtain rfl : eb = [] := by rw [← heb]; unfold encU; rw [if_neg (by rw [hR]; simp)]
        rw [← hcr, hR] at hcan
        repeat' (first
          | refine zi ?_
          | refine zK ?_
          | refine zQ (h := ?_)
          | refine zU (h := ?_)
          | refine zj ?_
          | refine zR ?_
          | refine zW ?_
          | refine zN ?_
          | refine zV ?_
          | refine ze ?_
          | refine zP ?_
          | refine zY ?_
          | refine zS rfl ?_
          | refine zd ?_
          | refine zX ?_
          | refine zO ?_
          | refine zT ?_
          | refine zL ?_
          | (refine zC (id := 7) ?_; intro K hK; refine zF (k := ?_); refine zp (k' := ?_); ((refine z5 (cs := r.c pa pc sa sc) (hv := by simp) (hc := rfl) (k := ?_))) <;> (((refine zb (hs := hcan) (k := ?_); rintro v A' ⟨rfl, rfl⟩; simp only [List.cons_append, List.nil_append])) <;> (refine ym (hU := Tryz.underlying4) (k' := ?_); refine zF (k := ?_); ((first | (refine zA (k := ?_); refine zF (k := ?_)) | refine zE (k := ?_) | ((refine zG (yes := (fun ht => ?_)) (no := (fun ht => ?_)) <;> (try simp at ht) <;> (try (exfalso; omega))) <;> (first | (refine zA (k := ?_); refine zF (k := ?_)) | refine zE (k := ?_))))) <;> (((first | (refine zA (k := ?_); refine z8 (k' := ?_)) | refine zE (k := ?_) | ((refine zG (yes := (fun ht => ?_)) (no := (fun ht => ?_)) <;> (try simp at ht) <;> (try (exfalso; omega))) <;> (first | (refine zA (k := ?_); refine z8 (k' := ?_)) | refine zE (k := ?_))))) <;> (((first | (refine zA (k := ?_); refine zF (k := ?_)) | refine zE (k := ?_) | ((refine zG (yes := (fun ht => ?_)) (no := (fun ht => ?_)) <;> (try simp at ht) <;> (try (exfalso; omega))) <;> (first | (refine zA (k := ?_); refine zF (k := ?_)) | refine zE (k := ?_))))) <;> (((first | (refine zA (k := ?_); refine zF (k := ?_)) | refine zE (k := ?_) | ((refine zG (yes := (fun ht => ?_)) (no := (fun ht => ?_)) <;> (try simp at ht) <;> (try (exfalso; omega))) <;> (first | (refine zA (k := ?_); refine zF (k := ?_)) | refine zE (k := ?_))))) <;> (((first | (refine zA (k := ?_); refine z8 (k' := ?_)) | refine zE (k := ?_) | ((refine zG (yes := (fun ht => ?_)) (no := (fun ht => ?_)) <;> (try simp at ht) <;> (try (exfalso; omega))) <;> (first | (refine zA (k := ?_); refine z8 (k' := ?_)) | refine zE (k := ?_))))) <;> (((first | (refine zA (k := ?_); refine zF (k := ?_)) | refine zE (k := ?_) | ((refine zG (yes := (fun ht => ?_)) (no := (fun ht => ?_)) <;> (try simp at ht) <;> (try (exfalso; omega))) <;> (first | (refine zA (k := ?_); refine zF (k := ?_)) | refine zE (k := ?_))))) <;> (((first | (refine zA (k := ?_); refine zF (k := ?_)) | refine zE (k := ?_) | ((refine zG (yes := (fun ht => ?_)) (no := (fun ht => ?_)) <;> (try simp at ht) <;> (try (exfalso; omega))) <;> (first | (refine zA (k := ?_); refine zF (k := ?_)) | refine zE (k := ?_))))) <;> (((first | (refine zA (k := ?_); refine zn (k' := ?_)) | refine zE (k := ?_) | ((refine zG (yes := (fun ht => ?_)) (no := (fun ht => ?_)) <;> (try simp at ht) <;> (try (exfalso; omega))) <;> (first | (refine zA (k := ?_); refine zn (k' := ?_)) | refine zE (k := ?_))))) <;> (((first | (refine zA (k := ?_); refine z8 (k' := ?_)) | refine zE (k := ?_) | ((refine zG (yes := (fun ht => ?_)) (no := (fun ht => ?_)) <;> (try simp at ht) <;> (try (exfalso; omega))) <;> (first | (refine zA (k := ?_); refine z8 (k' := ?_)) | refine zE (k := ?_))))) <;> (((first | (refine zA (k := ?_); (first | refine zZ (k := ?_) | refine za (k := ?_) | refine zg (k := ?_))) | refine zE (k := ?_) | ((refine zG (yes := (fun ht => ?_)) (no := (fun ht => ?_)) <;> (try simp at ht) <;> (try (exfalso; omega))) <;> (first | (refine zA (k := ?_); (first | refine zZ (k := ?_) | refine za (k := ?_) | refine zg (k := ?_))) | refine zE (k := ?_))))) <;> (((first | (refine zA (k := ?_); (first | refine zZ (k := ?_) | refine za (k := ?_) | refine zg (k := ?_))) | refine zE (k := ?_) | ((refine zG (yes := (fun ht => ?_)) (no := (fun ht => ?_)) <;> (try simp at ht) <;> (try (exfalso; omega))) <;> (first | (refine zA (k := ?_); (first | refine zZ (k := ?_) | refine za (k := ?_) | refine zg (k := ?_))) | refine zE (k := ?_))))) <;> ((first | refine zZ (k := ?_) | refine za (k := ?_) | refine zg (k := ?_)); (refine zD (hK _ _ ?_); clear hK K)))))))))))))))
          | (refine zc (ht := (fun ht => ?_)) (hf := (fun ht => ?_)) <;> (try simp at ht) <;> (try (exfalso; omega))))
        all_goals exact ⟨(), trivial, ⟨rfl, rfl, rfl, rfl, rfl, trivial⟩, (by (repeat (first | exact Ent.refl _ | exact Ent.nil | refine Ent.take (by (repeat (first | exact Out.head | apply Out.tail)); (first | done | fail)) ?_ | refine Ent.drop1 ?_)); (first | done | fail))⟩
    · cases hR : recB r with
      | false =>
        obtain rfl : ee = 1 := by rw [← hee]; unfold encE; rw [if_neg (by rw [hR]; simp)]
        repeat' (first
          | refine zi ?_
          | refine zK ?_
          | refine zQ (h := ?_)
          | refine zU (h := ?_)
          | refine zj ?_
          | refine zR ?_
          | refine zW ?_
          | refine zN ?_
          | refine zV ?_
          | refine ze ?_
          | refine zP ?_
          | refine zY ?_
          | refine zS rfl ?_
          | refine zd ?_
          | refine zX ?_
          | refine zO ?_
          | refine zT ?_
          | refine zL ?_
          | (refine zC (id := 9) ?_; intro K hK; refine zF (k := ?_); refine zp (k' := ?_); (refine zD (hK _ _ ?_); clear hK K))
          | (refine zc (ht := (fun ht => ?_)) (hf := (fun ht => ?_)) <;> (try simp at ht) <;> (try (exfalso; omega))))
        all_goals exact ⟨(), trivial, ⟨rfl, trivial⟩, Ent.nil⟩
      | true =>
        obtain rfl : ee = 0 := by rw [← hee]; unfold encE; rw [if_pos hR]
        have hrk := rec_K few hR
        have he := rec_e hrk
        have hbe : eb = eRec r := by rw [← heb]; unfold encU; rw [if_pos hR, he]
        have hbl : eb.length ≤ 140737488900000 := by rw [hbe]; rw [he] at hsz; exact hsz
        obtain ⟨hdb, hnm⟩ := dec_e hrk (by rw [← hbe]; omega)
        obtain ⟨ag1, ag2⟩ := again_few hrk (by rw [← hbe]; omega) (by omega) (by omega)
        rw [← hbe] at hdb hnm ag1 ag2
        have hdr := fun (hf : OwnF ea eb.length ec 1 (eb.map byteV)) => drecT_spec (B := B) [own ea eb.length ec 1 (eb.map byteV) 5] ea ec eb (hf.rd .head) (by omega) ag1 ag2 hdb
        obtain ⟨y, hy⟩ : ∃ y, (dRec (eb, false) eb.length).1 = y := ⟨_, rfl⟩
        rw [hy] at hdr hnm
        have hna := fun q1 d1 q2 d2 (f1 : OwnF a1 r.sn.ps.length c1 5 (prC r.sn.ps)) (f2 : OwnF a2 r.sn.ss.length c2 4 (ssC r.sn.ss)) f3 f4 => namedO_spec (B := B) r y hnm (fun _ => ⟨by omega, by omega⟩) a1 c1 a2 c2 q1 d1 q2 d2 f1 f2 f3 f4
        repeat' (first
          | refine zi ?_
          | refine zK ?_
          | refine zQ (h := ?_)
          | refine zU (h := ?_)
          | refine zj ?_
          | refine zR ?_
          | refine zW ?_
          | refine zN ?_
          | refine zV ?_
          | refine ze ?_
          | refine zP ?_
          | refine zY ?_
          | refine zS rfl ?_
          | refine zd ?_
          | refine zX ?_
          | refine zO ?_
          | refine zT ?_
          | refine zL ?_
          | (refine zC (id := 9) ?_; intro K hK; refine zF (k := ?_); refine zp (k' := ?_); (refine zD (hK _ _ ?_); clear hK K))
          | (refine zC (id := 10) ?_; intro K hK; refine zF (k := ?_); ((refine yF (a := ea) (sz := 1) (ho := (by (repeat (first | exact Out.head | apply Out.tail)); (first | done | fail))) (h0 := by omega) (h := fun hf => ?_); refine zb (hs := hdr hf) (k := ?_); rintro v A' ⟨q1, d1, q2, d2, rfl, rfl⟩; simp only [List.cons_append, List.nil_append]; simp only [RcG.c])) <;> (refine zF (k := ?_); refine zu (k' := ?_); refine zu (k' := ?_); ((refine zw (k := ?_); intro r8)) <;> (refine zh (ho' := rfl) (k := ?_); refine zH (k := ?_); (refine zD (hK _ _ ?_); clear hK K))))
          | (refine zC (id := 11) ?_; intro K hK; refine zF (k := ?_); refine z8 (k' := ?_); refine zF (k := ?_); ((first | (refine zA (k := ?_); (refine z5 (cs := r.c a1 c1 a2 c2) (hv := by simp) (hc := rfl) (k := ?_))) | refine zE (k := ?_) | ((refine zG (yes := (fun ht => ?_)) (no := (fun ht => ?_)) <;> (try simp at ht) <;> (try (exfalso; omega))) <;> (first | (refine zA (k := ?_); (refine z5 (cs := r.c a1 c1 a2 c2) (hv := by simp) (hc := rfl) (k := ?_))) | refine zE (k := ?_))))) <;> (((first | (refine zA (k := ?_); (refine z5 (cs := y.c q1 d1 q2 d2) (hv := by simp) (hc := rfl) (k := ?_))) | refine zE (k := ?_) | ((refine zG (yes := (fun ht => ?_)) (no := (fun ht => ?_)) <;> (try simp at ht) <;> (try (exfalso; omega))) <;> (first | (refine zA (k := ?_); (refine z5 (cs := y.c q1 d1 q2 d2) (hv := by simp) (hc := rfl) (k := ?_))) | refine zE (k := ?_))))) <;> (((first | (refine zA (k := ?_); (refine yF (a := a1) (sz := 5) (ho := (by (repeat (first | exact Out.head | apply Out.tail)); (first | done | fail))) (h0 := by omega) (h := fun f1 => ?_); refine yF (a := a2) (sz := 4) (ho := (by (repeat (first | exact Out.head | apply Out.tail)); (first | done | fail))) (h0 := by omega) (h := fun f2 => ?_); refine yF (a := q1) (sz := 5) (ho := (by (repeat (first | exact Out.head | apply Out.tail)); (first | done | fail))) (h0 := by omega) (h := fun f3 => ?_); refine yF (a := q2) (sz := 4) (ho := (by (repeat (first | exact Out.head | apply Out.tail)); (first | done | fail))) (h0 := by omega) (h := fun f4 => ?_); refine zb (hs := hna q1 d1 q2 d2 f1 f2 f3 f4) (k := ?_); rintro v A' ⟨rfl, rfl⟩; simp only [List.cons_append, List.nil_append])) | refine zE (k := ?_) | ((refine zG (yes := (fun ht => ?_)) (no := (fun ht => ?_)) <;> (try simp at ht) <;> (try (exfalso; omega))) <;> (first | (refine zA (k := ?_); (refine yF (a := a1) (sz := 5) (ho := (by (repeat (first | exact Out.head | apply Out.tail)); (first | done | fail))) (h0 := by omega) (h := fun f1 => ?_); refine yF (a := a2) (sz := 4) (ho := (by (repeat (first | exact Out.head | apply Out.tail)); (first | done | fail))) (h0 := by omega) (h := fun f2 => ?_); refine yF (a := q1) (sz := 5) (ho := (by (repeat (first | exact Out.head | apply Out.tail)); (first | done | fail))) (h0 := by omega) (h := fun f3 => ?_); refine yF (a := q2) (sz := 4) (ho := (by (repeat (first | exact Out.head | apply Out.tail)); (first | done | fail))) (h0 := by omega) (h := fun f4 => ?_); refine zb (hs := hna q1 d1 q2 d2 f1 f2 f3 f4) (k := ?_); rintro v A' ⟨rfl, rfl⟩; simp only [List.cons_append, List.nil_append])) | refine zE (k := ?_))))) <;> (((first | (refine zA (k := ?_); refine z7 (k' := ?_)) | refine zE (k := ?_) | ((refine zG (yes := (fun ht => ?_)) (no := (fun ht => ?_)) <;> (try simp at ht) <;> (try (exfalso; omega))) <;> (first | (refine zA (k := ?_); refine z7 (k' := ?_)) | refine zE (k := ?_))))) <;> ((first | refine zZ (k := ?_) | refine za (k := ?_) | refine zg (k := ?_)); (refine zD (hK _ _ ?_); clear hK K))))))
          | (refine zc (ht := (fun ht => ?_)) (hf := (fun ht => ?_)) <;> (try simp at ht) <;> (try (exfalso; omega))))
        all_goals exact ⟨(), trivial, ⟨rfl, trivial⟩, Ent.nil⟩
    · cases hD : decB l with
      | false =>
        have hdr := drecF_spec (B := B) [] ba bc l hb (by omega) (by omega) (by omega) hD
        repeat' (first
          | refine zi ?_
          | refine zK ?_
          | refine zQ (h := ?_)
          | refine zU (h := ?_)
          | refine zj ?_
          | refine zR ?_
          | refine zW ?_
          | refine zN ?_
          | refine zV ?_
          | refine ze ?_
          | refine zP ?_
          | refine zY ?_
          | refine zS rfl ?_
          | refine zd ?_
          | refine zX ?_
          | refine zO ?_
          | refine zT ?_
          | refine zL ?_
          | (refine zC (id := 13) ?_; intro K hK; refine zF (k := ?_); ((refine zb (hs := hdr) (k := ?_); rintro v A' ⟨rfl, rfl⟩; simp only [List.cons_append, List.nil_append]; simp only [RcG.c, rcO])) <;> (refine zF (k := ?_); refine zu (k' := ?_); refine zu (k' := ?_); ((refine zw (k := ?_); intro r10)) <;> (refine zh (ho' := rfl) (k := ?_); refine zH (k := ?_); (refine zD (hK _ _ ?_); clear hK K))))
          | (refine zC (id := 14) ?_; intro K hK; refine zF (k := ?_); refine z8 (k' := ?_); (refine zD (hK _ _ ?_); clear hK K))
          | (refine zC (id := 15) ?_; intro K hK; refine zF (k := ?_); refine zp (k' := ?_); refine zF (k := ?_); ((first | (refine zA (k := ?_); (refine z5 (cs := rcO.c none 0 none 0) (hv := by simp) (hc := rfl) (k := ?_))) | refine zE (k := ?_) | ((refine zG (yes := (fun ht => ?_)) (no := (fun ht => ?_)) <;> (try simp at ht) <;> (try (exfalso; omega))) <;> (first | (refine zA (k := ?_); (refine z5 (cs := rcO.c none 0 none 0) (hv := by simp) (hc := rfl) (k := ?_))) | refine zE (k := ?_))))) <;> (((first | (refine zA (k := ?_); refine zr (k := ?_)) | refine zE (k := ?_) | ((refine zG (yes := (fun ht => ?_)) (no := (fun ht => ?_)) <;> (try simp at ht) <;> (try (exfalso; omega))) <;> (first | (refine zA (k := ?_); refine zr (k := ?_)) | refine zE (k := ?_))))) <;> (((first | (refine zA (k := ?_); (refine zb (hs := of_lst (A0 := []) (named_spec _ rcO rcO named_self none 0 none 0 none 0 none 0 (fun h => by cases h) (fun h => by cases h))) (k := ?_); rintro v A' ⟨rfl, rfl⟩; simp only [List.cons_append, List.nil_append])) | refine zE (k := ?_) | ((refine zG (yes := (fun ht => ?_)) (no := (fun ht => ?_)) <;> (try simp at ht) <;> (try (exfalso; omega))) <;> (first | (refine zA (k := ?_); (refine zb (hs := of_lst (A0 := []) (named_spec _ rcO rcO named_self none 0 none 0 none 0 none 0 (fun h => by cases h) (fun h => by cases h))) (k := ?_); rintro v A' ⟨rfl, rfl⟩; simp only [List.cons_append, List.nil_append])) | refine zE (k := ?_))))) <;> ((first | refine zZ (k := ?_) | refine za (k := ?_) | refine zg (k := ?_)); refine zH (k := ?_); (refine zD (hK _ _ ?_); clear hK K)))))
          | (refine zc (ht := (fun ht => ?_)) (hf := (fun ht => ?_)) <;> (try simp at ht) <;> (try (exfalso; omega))))
        all_goals exact ⟨Or.inr rfl, .bool true, [], Ent.nil, res1 rfl rfl, rfl, rfl⟩
      | true =>
        obtain ⟨hyk, hye⟩ := dec_inv hD
        have hdr := drecT_spec (B := B) [] ba bc l hb (by omega) (by omega) (by omega) hD
        have hye2 := rec_yes hyk
        have hyw := rec_e hyk
        rw [hye] at hyw
        have hde := dec_e hyk (by rw [hye]; omega)
        have hag := again_few hyk (by rw [hye]; omega) (by omega) (by omega)
        obtain ⟨y, hy⟩ : ∃ y, (dRec (l, false) l.length).1 = y := ⟨_, rfl⟩
        have hfy := hfw
        rw [hy] at hdr hye hye2 hyw hde hag hfy hyk
        rw [hye, hy] at hde hag
        have hwu : encU y = l := by unfold encU; rw [if_pos hye2, hyw]
        have hwe : encE y = 0 := by unfold encE; rw [if_pos hye2]
        have her2 := fun a1 c1 a2 c2 (hf1 : OwnF a1 y.sn.ps.length c1 5 (prC y.sn.ps)) (hf2 : OwnF a2 y.sn.ss.length c2 4 (ssC y.sn.ss)) => erecU_spec (B := B) [own a2 y.sn.ss.length c2 4 (ssC y.sn.ss) 111, own a1 y.sn.ps.length c1 5 (prC y.sn.ps) 57] y (by omega) (by omega) a1 c1 a2 c2 (hf1.rd (.tail .head)) (hf2.rd .head) (by rw [hyw]; show l.length ≤ _; omega)
        rw [hwu, hwe] at her2
        have hdr2 := fun ea ec (hf : OwnF ea l.length ec 1 (l.map byteV)) => drecT_spec (B := B) [own ea l.length ec 1 (l.map byteV) 5] ea ec l (hf.rd .head) (by omega) (by omega) (by omega) hD
        rw [hy] at hdr2
        have hna := fun p1 d1 p2 d2 q1 e1 q2 e2 f1 f2 f3 f4 => namedO_spec (B := B) y y ⟨rfl, fun _ => rfl, fun _ => rfl, fun _ => rfl, fun _ => rfl⟩ (fun _ => ⟨by omega, by omega⟩) p1 d1 p2 d2 q1 e1 q2 e2 f1 f2 f3 f4
        repeat' (first
          | refine zi ?_
          | refine zK ?_
          | refine zQ (h := ?_)
          | refine zU (h := ?_)
          | refine zj ?_
          | refine zR ?_
          | refine zW ?_
          | refine zN ?_
          | refine zV ?_
          | refine ze ?_
          | refine zP ?_
          | refine zY ?_
          | refine zS rfl ?_
          | refine zd ?_
          | refine zX ?_
          | refine zO ?_
          | refine zT ?_
          | refine zL ?_
          | (refine zC (id := 13) ?_; intro K hK; refine zF (k := ?_); ((refine zb (hs := hdr) (k := ?_); rintro v A' ⟨p1, d1, p2, d2, rfl, rfl⟩; simp only [List.cons_append, List.nil_append]; simp only [RcG.c])) <;> (refine zF (k := ?_); refine zu (k' := ?_); refine zu (k' := ?_); ((refine zw (k := ?_); intro r10)) <;> (refine zh (ho' := rfl) (k := ?_); refine zH (k := ?_); (refine zD (hK _ _ ?_); clear hK K))))
          | (refine zC (id := 14) ?_; intro K hK; refine zF (k := ?_); refine z8 (k' := ?_); (refine zD (hK _ _ ?_); clear hK K))
          | (refine zC (id := 16) ?_; intro K hK; ((refine z5 (cs := y.c p1 d1 p2 d2) (hv := by simp) (hc := rfl) (k := ?_))) <;> (((refine yF (a := p1) (sz := 5) (ho := (by (repeat (first | exact Out.head | apply Out.tail)); (first | done | fail))) (h0 := by omega) (h := fun f1 => ?_); refine yF (a := p2) (sz := 4) (ho := (by (repeat (first | exact Out.head | apply Out.tail)); (first | done | fail))) (h0 := by omega) (h := fun f2 => ?_); refine zb (hs := her2 p1 d1 p2 d2 f1 f2) (k := ?_); rintro v A' ⟨ea2, ec2, rfl, rfl⟩; simp only [List.cons_append, List.nil_append])) <;> (refine zF (k := ?_); refine zu (k' := ?_); refine zu (k' := ?_); refine zH (k := ?_); refine zH (k := ?_); (refine zD (hK _ _ ?_); clear hK K))))
          | (refine zC (id := 17) ?_; intro K hK; refine zF (k := ?_); ((refine yF (a := ea2) (sz := 1) (ho := (by (repeat (first | exact Out.head | apply Out.tail)); (first | done | fail))) (h0 := by omega) (h := fun hf => ?_); refine zb (hs := hdr2 ea2 ec2 hf) (k := ?_); rintro v A' ⟨q1, e1, q2, e2, rfl, rfl⟩; simp only [List.cons_append, List.nil_append]; simp only [RcG.c])) <;> (refine zF (k := ?_); refine zu (k' := ?_); refine zu (k' := ?_); ((refine zw (k := ?_); intro r14)) <;> (refine zh (ho' := rfl) (k := ?_); refine zH (k := ?_); (refine zD (hK _ _ ?_); clear hK K))))
          | (refine zC (id := 18) ?_; intro K hK; refine zF (k := ?_); refine zp (k' := ?_); refine zF (k := ?_); ((first | (refine zA (k := ?_); refine zF (k := ?_)) | refine zE (k := ?_) | ((refine zG (yes := (fun ht => ?_)) (no := (fun ht => ?_)) <;> (try simp at ht) <;> (try (exfalso; omega))) <;> (first | (refine zA (k := ?_); refine zF (k := ?_)) | refine zE (k := ?_))))) <;> (((first | (refine zA (k := ?_); refine zp (k' := ?_)) | refine zE (k := ?_) | ((refine zG (yes := (fun ht => ?_)) (no := (fun ht => ?_)) <;> (try simp at ht) <;> (try (exfalso; omega))) <;> (first | (refine zA (k := ?_); refine zp (k' := ?_)) | refine zE (k := ?_))))) <;> ((first | refine zZ (k := ?_) | refine za (k := ?_) | refine zg (k := ?_)); refine zF (k := ?_); ((first | (refine zA (k := ?_); (refine z5 (cs := y.c p1 d1 p2 d2) (hv := by simp) (hc := rfl) (k := ?_))) | refine zE (k := ?_) | ((refine zG (yes := (fun ht => ?_)) (no := (fun ht => ?_)) <;> (try simp at ht) <;> (try (exfalso; omega))) <;> (first | (refine zA (k := ?_); (refine z5 (cs := y.c p1 d1 p2 d2) (hv := by simp) (hc := rfl) (k := ?_))) | refine zE (k := ?_))))) <;> (((first | (refine zA (k := ?_); (refine z5 (cs := y.c q1 e1 q2 e2) (hv := by simp) (hc := rfl) (k := ?_))) | refine zE (k := ?_) | ((refine zG (yes := (fun ht => ?_)) (no := (fun ht => ?_)) <;> (try simp at ht) <;> (try (exfalso; omega))) <;> (first | (refine zA (k := ?_); (refine z5 (cs := y.c q1 e1 q2 e2) (hv := by simp) (hc := rfl) (k := ?_))) | refine zE (k := ?_))))) <;> (((first | (refine zA (k := ?_); (refine yF (a := p1) (sz := 5) (ho := (by (repeat (first | exact Out.head | apply Out.tail)); (first | done | fail))) (h0 := by omega) (h := fun f1 => ?_); refine yF (a := p2) (sz := 4) (ho := (by (repeat (first | exact Out.head | apply Out.tail)); (first | done | fail))) (h0 := by omega) (h := fun f2 => ?_); refine yF (a := q1) (sz := 5) (ho := (by (repeat (first | exact Out.head | apply Out.tail)); (first | done | fail))) (h0 := by omega) (h := fun f3 => ?_); refine yF (a := q2) (sz := 4) (ho := (by (repeat (first | exact Out.head | apply Out.tail)); (first | done | fail))) (h0 := by omega) (h := fun f4 => ?_); refine zb (hs := hna p1 d1 p2 d2 q1 e1 q2 e2 f1 f2 f3 f4) (k := ?_); rintro v A' ⟨rfl, rfl⟩; simp only [List.cons_append, List.nil_append])) | refine zE (k := ?_) | ((refine zG (yes := (fun ht => ?_)) (no := (fun ht => ?_)) <;> (try simp at ht) <;> (try (exfalso; omega))) <;> (first | (refine zA (k := ?_); (refine yF (a := p1) (sz := 5) (ho := (by (repeat (first | exact Out.head | apply Out.tail)); (first | done | fail))) (h0 := by omega) (h := fun f1 => ?_); refine yF (a := p2) (sz := 4) (ho := (by (repeat (first | exact Out.head | apply Out.tail)); (first | done | fail))) (h0 := by omega) (h := fun f2 => ?_); refine yF (a := q1) (sz := 5) (ho := (by (repeat (first | exact Out.head | apply Out.tail)); (first | done | fail))) (h0 := by omega) (h := fun f3 => ?_); refine yF (a := q2) (sz := 4) (ho := (by (repeat (first | exact Out.head | apply Out.tail)); (first | done | fail))) (h0 := by omega) (h := fun f4 => ?_); refine zb (hs := hna p1 d1 p2 d2 q1 e1 q2 e2 f1 f2 f3 f4) (k := ?_); rintro v A' ⟨rfl, rfl⟩; simp only [List.cons_append, List.nil_append])) | refine zE (k := ?_))))) <;> ((first | refine zZ (k := ?_) | refine za (k := ?_) | refine zg (k := ?_)); refine zH (k := ?_); (refine zD (hK _ _ ?_); clear hK K)))))))
          | (refine zc (ht := (fun ht => ?_)) (hf := (fun ht => ?_)) <;> (try simp at ht) <;> (try (exfalso; omega))))
        all_goals exact ⟨Or.inr rfl, .bool true, [], Ent.nil, res1 rfl rfl, rfl, rfl⟩
end specs
end Go.Proofs.YtnoggejkkjngjaaGreat
/- The rows of a slice of records that came in. No condition. -/
set_option linter.unusedVariables false
set_option maxRecDepth 100000
namespace Go.Proofs.YtnoggejkkjngjaaGreat
open Go Go.Sl Go.ChangeShapes Go.WideShapes Go.ChangeAt Go.RowKit

abbrev pI : List Value → Prop := fun cs => ∃ n, cs = [.int .i64 n] ∧ (Lit.int .i64 n).wf = true
abbrev pB : List Value → Prop := fun cs => ∃ b, cs = [.bool b]
abbrev pS : List Value → Prop := fun cs => ∃ s : ByteArray, cs = [.string s] ∧ s.size ≤ 140737488351232
abbrev pPos : List Value → Prop := Parts [pI, pI]
abbrev pVal : List Value → Prop := Parts [pPos, pB, pS]
abbrev pPair : List Value → Prop := Parts [pS, pVal]
abbrev pSeen : List Value → Prop := Parts [pI, pI, pPos]
abbrev pEnt : List Value → Prop := Parts [pPos, pI, pI, pS, pB, pS]
abbrev pEp : List Value → Prop := Parts [pI, pI, pB]
abbrev pSnap (W : World) (b1 b2 : Nat) : List Value → Prop := Parts [pPos, SlR Tryz.prog W 5 b1 pPair, SlR Tryz.prog W 4 b2 pSeen]
abbrev pRec (W : World) (b1 b2 : Nat) : List Value → Prop := Parts [pI, pEnt, pEp, pI, pSnap W b1 b2]
theorem rg_of {n : Int} (h : (Lit.int .i64 n).wf = true) : rg n := by
  simpa [rg, Lit.wf, IntKind.min, IntKind.max, IntKind.signed, IntKind.bits] using h
theorem pair_of {cs : List Value} (h : pPair cs) : ∃ p : PrX, cs = p.c ∧ rg p.v.a ∧ p.k.size ≤ 140737488351232 ∧ p.v.d.size ≤ 140737488351232 := by
  obtain ⟨_, _, rfl, ⟨k, rfl, hk⟩, _, _, rfl, ⟨_, _, rfl, ⟨_, _, rfl, ⟨a, rfl, ha⟩, _, _, rfl, ⟨b, rfl, _⟩, rfl⟩, _, _, rfl, ⟨g, rfl⟩, _, _, rfl, ⟨s, rfl, hs⟩, rfl⟩, rfl⟩ := h
  exact ⟨⟨k, ⟨a, b, g, s⟩⟩, rfl, rg_of ha, hk, hs⟩
theorem seen_of {cs : List Value} (h : pSeen cs) : ∃ p : SX, cs = p.c ∧ rg p.e := by
  obtain ⟨_, _, rfl, ⟨k, rfl, _⟩, _, _, rfl, ⟨r, rfl, _⟩, _, _, rfl, ⟨_, _, rfl, ⟨a, rfl, ha⟩, _, _, rfl, ⟨b, rfl, _⟩, rfl⟩, rfl⟩ := h
  exact ⟨⟨k, r, a, b⟩, rfl, rg_of ha⟩
theorem pairs_of : ∀ (rows : List (List Value)), (∀ r ∈ rows, pPair r ∧ r.length = 5) → ∃ l : List PrX, l.length = rows.length ∧ rows.flatten = prC l ∧ ∀ x ∈ l, rg x.v.a ∧ x.k.size ≤ 140737488351232 ∧ x.v.d.size ≤ 140737488351232
  | [], _ => ⟨[], rfl, rfl, by simp⟩
  | r :: rows, h => by
    obtain ⟨l, h1, h2, h3⟩ := pairs_of rows (fun x hx => h x (List.mem_cons_of_mem _ hx))
    obtain ⟨e, he, hr⟩ := pair_of (h r (List.mem_cons_self ..)).1
    refine ⟨e :: l, by simp [h1], by simp [prC] at h2 ⊢; simp [h2, he], fun x hx => ?_⟩
    rcases List.mem_cons.1 hx with rfl | hx
    · exact hr
    · exact h3 x hx
theorem seens_of : ∀ (rows : List (List Value)), (∀ r ∈ rows, pSeen r ∧ r.length = 4) → ∃ l : List SX, l.length = rows.length ∧ rows.flatten = ssC l ∧ ∀ x ∈ l, rg x.e
  | [], _ => ⟨[], rfl, rfl, by simp⟩
  | r :: rows, h => by
    obtain ⟨l, h1, h2, h3⟩ := seens_of rows (fun x hx => h x (List.mem_cons_of_mem _ hx))
    obtain ⟨e, he, hr⟩ := seen_of (h r (List.mem_cons_self ..)).1
    refine ⟨e :: l, by simp [h1], by simp [ssC] at h2 ⊢; simp [h2, he], fun x hx => ?_⟩
    rcases List.mem_cons.1 hx with rfl | hx
    · exact hr
    · exact h3 x hx
theorem ent_of {cs : List Value} (h : pEnt cs) : ∃ x : EnX, cs = x.c ∧ x.ok ∧ rg x.i ∧ x.key.size ≤ 140737488351232 ∧ x.tx.size ≤ 140737488351232 := by
  obtain ⟨_, _, rfl, ⟨_, _, rfl, ⟨a, rfl, _⟩, _, _, rfl, ⟨b, rfl, hb⟩, rfl⟩, _, _, rfl, ⟨s, rfl, hs⟩, _, _, rfl, ⟨r, rfl, _⟩, _, _, rfl, ⟨k, rfl, hk⟩, _, _, rfl, ⟨d, rfl⟩, _, _, rfl, ⟨t, rfl, ht⟩, rfl⟩ := h
  exact ⟨⟨a, b, s, r, k, d, t⟩, rfl, rg_of hs, rg_of hb, hk, ht⟩
theorem rec_of {W : World} {b1 b2 : Nat} {cs : List Value} (h : pRec W b1 b2 cs) : ∃ x : RI, cs = x.c ∧ x.ok (baseOf W) := by
  obtain ⟨_, _, rfl, ⟨kind, rfl, _⟩, _, _, rfl, h1, _, _, rfl, ⟨_, _, rfl, ⟨em, rfl, _⟩, _, _, rfl, ⟨ec, rfl, _⟩, _, _, rfl, ⟨ef, rfl⟩, rfl⟩, _, _, rfl, ⟨cf, rfl, _⟩, _, _, rfl, ⟨_, _, rfl, ⟨_, _, rfl, ⟨a, rfl, ha⟩, _, _, rfl, ⟨b, rfl, _⟩, rfl⟩, _, _, rfl, h2, _, _, rfl, h3, rfl⟩, rfl⟩ := h
  obtain ⟨x, rfl, hx, hxi, hxz⟩ := ent_of h1
  obtain ⟨pa, pm, pc, rfl, hm1, rows1, hl1, hr1, hd1⟩ := h2
  obtain ⟨sa, sm, sc, rfl, hm2, rows2, hl2, hr2, hd2⟩ := h3
  obtain ⟨ps, e1, e2, e3⟩ := pairs_of rows1 hr1
  obtain ⟨ss, g1, g2, g3⟩ := seens_of rows2 hr2
  obtain rfl : ps.length = pm := e1.trans hl1
  obtain rfl : ss.length = sm := g1.trans hl2
  rw [e2] at hd1
  rw [g2] at hd2
  exact ⟨⟨⟨kind, x, ⟨em, ec, ef⟩, cf, ⟨a, b, ps, ss⟩⟩, pa, pc, sa, sc⟩, rfl, ⟨hd1, hd2, hx, hxi, rg_of ha, hm1.1, hm2.1, fun y hy => (e3 y hy).1, g3, hxz, fun y hy => (e3 y hy).2⟩⟩
end Go.Proofs.YtnoggejkkjngjaaGreat
