/- Layer 15: the law's own functions on records and snapshots. Conditions: none but the kinds' bounds. -/
import Derived.Test.YtnoggejkkjngjaaGreatK14
set_option maxHeartbeats 8000000
set_option linter.unusedVariables false
set_option linter.unusedSimpArgs false
set_option maxRecDepth 100000
namespace Go.Proofs.YtnoggejkkjngjaaGreat
open Go Go.Sl
attribute [local irreducible] Go.Sl.Wl Go.Sl.Wc Go.Sl.thenQ Go.Sl.blkQ Go.Sl.loopQ Go.Sl.Fspec

/-- What of a record is looked at. -/
def litN (r : RcG) (j : Nat) : Nat := min r.x.key.size 100000 + min r.x.tx.size 100000 + ((r.sn.ps.take j).map fun x => min x.k.size 100000 + min x.v.d.size 100000).sum
def lightV (r : RcG) : Bool := !(decide (1000 < r.sn.ps.length) || decide (1000 < r.sn.ss.length)) && decide (litN r r.sn.ps.length ≤ 100000)
theorem litN_succ {r : RcG} {j : Nat} {x : PrX} (h : r.sn.ps[j]? = some x) : litN r (j + 1) = litN r j + min x.k.size 100000 + min x.v.d.size 100000 := by
  obtain ⟨hj, rfl⟩ := List.getElem?_eq_some_iff.1 h
  unfold litN
  rw [List.take_succ_eq_append_getElem hj, List.map_append, List.sum_append]
  simp; omega
theorem litN_le (r : RcG) : ∀ j, litN r j ≤ 200000 * (j + 1)
  | 0 => by simp [litN]; omega
  | j + 1 => by
    have h := litN_le r j
    cases hx : r.sn.ps[j]? with
    | some x => rw [litN_succ hx]; omega
    | none =>
      have : litN r (j + 1) = litN r j := by
        have hl := List.getElem?_eq_none_iff.1 hx
        unfold litN; rw [List.take_of_length_le (i := j + 1) (by omega), List.take_of_length_le (i := j) hl]
      rw [this]; omega
theorem light_out {r : RcG} (h : lightV r = true) : r.sn.ps.length ≤ 1000 ∧ r.sn.ss.length ≤ 1000 ∧ litN r r.sn.ps.length ≤ 100000 := by
  unfold lightV at h
  simp only [Bool.and_eq_true, Bool.not_eq_true', Bool.or_eq_false_iff, decide_eq_false_iff_not, decide_eq_true_eq] at h
  omega
section specs
variable {B : Base}
theorem light_spec (r : RcG) (hps : r.sn.ps.length ≤ 9223372036854775807) (hss : r.sn.ss.length ≤ 9223372036854775807) (pa : Option Addr) (pc : Nat) (sa : Option Addr) (sc : Nat) (h1 : RdS Tryz.prog B [] 5 pa r.sn.ps.length pc (prC r.sn.ps)) :
    Fspec Tryz.prog B 10 #[.agg (r.c pa pc sa sc).toArray] [] (fun v A' => v = .bool (lightV r) ∧ A' = []) := by
  refine spec_of (args := [_]) Tryz.func10 rfl rfl rfl ?_
  have hm1 : min (r.x.key.size : Int) 100000 = ((min r.x.key.size 100000 : Nat) : Int) := by omega
  have hm2 : min (r.x.tx.size : Int) 100000 = ((min r.x.tx.size 100000 : Nat) : Int) := by omega
  have h0 : ((min r.x.key.size 100000 : Nat) : Int) + ((min r.x.tx.size 100000 : Nat) : Int) = ((litN r 0 : Nat) : Int) := by simp [litN]
  simp only [RcG.c]
  by_cases hbig : 1000 < r.sn.ps.length ∨ 1000 < r.sn.ss.length
  · have hno : lightV r = false := by
      unfold lightV
      rcases hbig with h | h <;> simp [h]
    rw [hno]
    repeat' (first
      | refine zi ?_
      | refine zK ?_
      | refine zQ (h := ?_)
      | refine zU (h := ?_)
      | refine zj ?_
      | refine zR ?_
      | refine zW ?_
      | refine zN ?_
      | refine zV ?_
      | refine ze ?_
      | refine zP ?_
      | refine zY ?_
      | refine zS rfl ?_
      | refine zd ?_
      | refine zX ?_
      | refine zO ?_
      | refine zT ?_
      | refine zL ?_
      | (refine zC (id := 0) ?_; intro K hK; ((refine zm (k := ?_); intro r1)) <;> (refine zH (k := ?_); (refine zD (hK _ _ ?_); clear hK K)))
      | (refine zC (id := 1) ?_; intro K hK; refine zB (k := ?_); refine zB (k := ?_); refine zM (k := ?_); refine zk (k' := ?_); ((refine zt (k' := ?_); rw [hm1])) <;> (refine zB (k := ?_); refine zB (k := ?_); refine zM (k := ?_); refine zk (k' := ?_); ((refine zt (k' := ?_); rw [hm2])) <;> (((refine zl (k' := ?_); rw [h0])) <;> (refine zH (k := ?_); (refine zD (hK _ _ ?_); clear hK K)))))
      | (refine zC (id := 2) ?_; intro K hK; refine zB (k := ?_); refine zB (k := ?_); refine zM (k := ?_); refine zn (k' := ?_); refine z0 (k' := ?_); refine zF (k := ?_); ((first | (refine zA (k := ?_); refine zB (k := ?_)) | refine zE (k := ?_) | ((refine zG (yes := (fun ht => ?_)) (no := (fun ht => ?_)) <;> (try simp at ht) <;> (try (exfalso; omega))) <;> (first | (refine zA (k := ?_); refine zB (k := ?_)) | refine zE (k := ?_))))) <;> (((first | (refine zA (k := ?_); refine zB (k := ?_)) | refine zE (k := ?_) | ((refine zG (yes := (fun ht => ?_)) (no := (fun ht => ?_)) <;> (try simp at ht) <;> (try (exfalso; omega))) <;> (first | (refine zA (k := ?_); refine zB (k := ?_)) | refine zE (k := ?_))))) <;> (((first | (refine zA (k := ?_); refine zM (k := ?_)) | refine zE (k := ?_) | ((refine zG (yes := (fun ht => ?_)) (no := (fun ht => ?_)) <;> (try simp at ht) <;> (try (exfalso; omega))) <;> (first | (refine zA (k := ?_); refine zM (k := ?_)) | refine zE (k := ?_))))) <;> (((first | (refine zA (k := ?_); refine zn (k' := ?_)) | refine zE (k := ?_) | ((refine zG (yes := (fun ht => ?_)) (no := (fun ht => ?_)) <;> (try simp at ht) <;> (try (exfalso; omega))) <;> (first | (refine zA (k := ?_); refine zn (k' := ?_)) | refine zE (k := ?_))))) <;> (((first | (refine zA (k := ?_); refine z0 (k' := ?_)) | refine zE (k := ?_) | ((refine zG (yes := (fun ht => ?_)) (no := (fun ht => ?_)) <;> (try simp at ht) <;> (try (exfalso; omega))) <;> (first | (refine zA (k := ?_); refine z0 (k' := ?_)) | refine zE (k := ?_))))) <;> ((first | refine zZ (k := ?_) | refine za (k := ?_) | refine zg (k := ?_)); (refine zD (hK _ _ ?_); clear hK K)))))))
      | (refine zC (id := 3) ?_; intro K hK; refine zH (k := ?_); (refine zD (hK _ _ ?_); clear hK K))
      | (refine zc (ht := (fun ht => ?_)) (hf := (fun ht => ?_)) <;> (try simp at ht) <;> (try (exfalso; omega))))
    all_goals exact ⟨Or.inr rfl, _, [], (by (repeat (first | exact Ent.refl _ | exact Ent.nil | refine Ent.take (by (repeat (first | exact Out.head | apply Out.tail)); (first | done | fail)) ?_ | refine Ent.drop1 ?_)); (first | done | fail)), res1 rfl rfl, rfl, rfl⟩
  repeat' (first
    | refine zi ?_
    | refine zK ?_
    | refine zQ (h := ?_)
    | refine zU (h := ?_)
    | refine zj ?_
    | refine zR ?_
    | refine zW ?_
    | refine zN ?_
    | refine zV ?_
    | refine ze ?_
    | refine zP ?_
    | refine zY ?_
    | refine zS rfl ?_
    | refine zd ?_
    | refine zX ?_
    | refine zO ?_
    | refine zT ?_
    | refine zL ?_
    | (refine zC (id := 0) ?_; intro K hK; ((refine zm (k := ?_); intro r1)) <;> (refine zH (k := ?_); (refine zD (hK _ _ ?_); clear hK K)))
    | (refine zC (id := 1) ?_; intro K hK; refine zB (k := ?_); refine zB (k := ?_); refine zM (k := ?_); refine zk (k' := ?_); ((refine zt (k' := ?_); rw [hm1])) <;> (refine zB (k := ?_); refine zB (k := ?_); refine zM (k := ?_); refine zk (k' := ?_); ((refine zt (k' := ?_); rw [hm2])) <;> (((refine zl (k' := ?_); rw [h0])) <;> (refine zH (k := ?_); (refine zD (hK _ _ ?_); clear hK K)))))
    | (refine zC (id := 2) ?_; intro K hK; refine zB (k := ?_); refine zB (k := ?_); refine zM (k := ?_); refine zn (k' := ?_); refine z0 (k' := ?_); refine zF (k := ?_); ((first | (refine zA (k := ?_); refine zB (k := ?_)) | refine zE (k := ?_) | ((refine zG (yes := (fun ht => ?_)) (no := (fun ht => ?_)) <;> (try simp at ht) <;> (try (exfalso; omega))) <;> (first | (refine zA (k := ?_); refine zB (k := ?_)) | refine zE (k := ?_))))) <;> (((first | (refine zA (k := ?_); refine zB (k := ?_)) | refine zE (k := ?_) | ((refine zG (yes := (fun ht => ?_)) (no := (fun ht => ?_)) <;> (try simp at ht) <;> (try (exfalso; omega))) <;> (first | (refine zA (k := ?_); refine zB (k := ?_)) | refine zE (k := ?_))))) <;> (((first | (refine zA (k := ?_); refine zM (k := ?_)) | refine zE (k := ?_) | ((refine zG (yes := (fun ht => ?_)) (no := (fun ht => ?_)) <;> (try simp at ht) <;> (try (exfalso; omega))) <;> (first | (refine zA (k := ?_); refine zM (k := ?_)) | refine zE (k := ?_))))) <;> (((first | (refine zA (k := ?_); refine zn (k' := ?_)) | refine zE (k := ?_) | ((refine zG (yes := (fun ht => ?_)) (no := (fun ht => ?_)) <;> (try simp at ht) <;> (try (exfalso; omega))) <;> (first | (refine zA (k := ?_); refine zn (k' := ?_)) | refine zE (k := ?_))))) <;> (((first | (refine zA (k := ?_); refine z0 (k' := ?_)) | refine zE (k := ?_) | ((refine zG (yes := (fun ht => ?_)) (no := (fun ht => ?_)) <;> (try simp at ht) <;> (try (exfalso; omega))) <;> (first | (refine zA (k := ?_); refine z0 (k' := ?_)) | refine zE (k := ?_))))) <;> ((first | refine zZ (k := ?_) | refine za (k := ?_) | refine zg (k := ?_)); (refine zD (hK _ _ ?_); clear hK K)))))))
    | (refine zC (id := 3) ?_; intro K hK; refine zH (k := ?_); (refine zD (hK _ _ ?_); clear hK K))
    | (refine zC (id := 4) ?_; intro K hK; refine zH (k := ?_); (refine zD (hK _ _ ?_); clear hK K))
    | (refine zc (ht := (fun ht => ?_)) (hf := (fun ht => ?_)) <;> (try simp at ht) <;> (try (exfalso; omega))))
  refine yI (α := Nat) (fun j => [(1, .pointer (some ⟨r1, 0, none⟩)), (3, .int .i64 (litN r j)), (4, .int .i64 j)]) (fun _ => [cb r1 (r.c pa pc sa sc) 47]) (fun j => j ≤ r.sn.ps.length) (fun j => r.sn.ps.length - j) 0 (by omega) ⟨rfl, rfl, rfl, trivial⟩ (by (repeat (first | exact Ent.refl _ | exact Ent.nil | refine Ent.take (by (repeat (first | exact Out.head | apply Out.tail)); (first | done | fail)) ?_ | refine Ent.drop1 ?_))) ?_
  intro j G hj
  simp only [ov, RcG.c]
  by_cases hlt : j < r.sn.ps.length
  · obtain ⟨q, rfl⟩ : ∃ q, pa = some q := by
      cases pa with
      | none => have := h1.nil rfl; omega
      | some q => exact ⟨q, rfl⟩
    obtain ⟨x, hx⟩ : ∃ x, r.sn.ps[j]? = some x := ⟨_, List.getElem?_eq_getElem hlt⟩
    have hb := litN_le r j
    have hs := litN_succ hx
    have g1 : min (x.k.size : Int) 100000 = ((min x.k.size 100000 : Nat) : Int) := by omega
    have g2 : min (x.v.d.size : Int) 100000 = ((min x.v.d.size 100000 : Nat) : Int) := by omega
    have g3 : ((litN r j : Nat) : Int) + ((min x.k.size 100000 : Nat) : Int) + ((min x.v.d.size 100000 : Nat) : Int) = ((litN r (j + 1) : Nat) : Int) := by rw [hs]; omega
    repeat' (first
      | refine zi ?_
      | refine zK ?_
      | refine zQ (h := ?_)
      | refine zU (h := ?_)
      | refine zj ?_
      | refine zR ?_
      | refine zW ?_
      | refine zN ?_
      | refine zV ?_
      | refine ze ?_
      | refine zP ?_
      | refine zY ?_
      | refine zS rfl ?_
      | refine zd ?_
      | refine zX ?_
      | refine zO ?_
      | refine zT ?_
      | refine zL ?_
      | (refine zC (id := 5) ?_; intro K hK; refine zF (k := ?_); refine zB (k := ?_); refine zB (k := ?_); refine zM (k := ?_); refine zn (k' := ?_); refine z6 (k' := ?_); (refine zD (hK _ _ ?_); clear hK K))
      | (refine zC (id := 6) ?_; intro K hK; refine zF (k := ?_); refine zl (k' := ?_); refine zH (k := ?_); (refine zD (hK _ _ ?_); clear hK K))
      | ((refine xK (id := 7) (t := (.step 0 (.step 1 (.step 2 (.step 4 (.step 11 (.step 12 (.step 14 (.alt (.step 3 (.step 5 (.step 6 (.alt (.step 7 (.alt (.step 8 (.alt (.step 9 (.step 10 (.step 13 (.step 15 (.step 16 (.step 17 (.step 18 (.step 19 (.step 20 (.step 21 (.step 22 .done))))))))))) (.step 13 (.step 15 (.step 16 (.step 17 (.alt (.step 9 (.step 10 (.step 18 (.step 19 (.step 20 (.step 21 (.step 22 .done))))))) (.step 18 (.alt (.step 9 (.step 10 (.step 19 (.step 20 (.step 21 (.step 22 .done)))))) (.step 19 (.alt (.step 9 (.step 10 (.step 20 (.step 21 (.step 22 .done))))) (.step 20 (.step 9 (.step 10 (.step 21 (.step 22 .done)))))))))))))))) (.step 13 (.step 15 (.step 16 (.step 17 (.alt (.step 8 (.alt (.step 9 (.step 10 (.step 18 (.step 19 (.step 20 (.step 21 (.step 22 .done))))))) (.step 18 (.alt (.step 9 (.step 10 (.step 19 (.step 20 (.step 21 (.step 22 .done)))))) (.step 19 (.alt (.step 9 (.step 10 (.step 20 (.step 21 (.step 22 .done))))) (.step 20 (.step 9 (.step 10 (.step 21 (.step 22 .done))))))))))) (.step 18 (.alt (.step 8 (.alt (.step 9 (.step 10 (.step 19 (.step 20 (.step 21 (.step 22 .done)))))) (.step 19 (.alt (.step 9 (.step 10 (.step 20 (.step 21 (.step 22 .done))))) (.step 20 (.step 9 (.step 10 (.step 21 (.step 22 .done))))))))) (.step 19 (.alt (.step 8 (.alt (.step 9 (.step 10 (.step 20 (.step 21 (.step 22 .done))))) (.step 20 (.step 9 (.step 10 (.step 21 (.step 22 .done))))))) (.step 20 (.step 8 (.step 9 (.step 10 (.step 21 (.step 22 .done))))))))))))))))) (.step 13 (.step 15 (.step 16 (.step 17 (.alt (.step 7 (.alt (.step 8 (.alt (.step 9 (.step 10 (.step 18 (.step 19 (.step 20 (.step 21 (.step 22 .done))))))) (.step 18 (.alt (.step 9 (.step 10 (.step 19 (.step 20 (.step 21 (.step 22 .done)))))) (.step 19 (.alt (.step 9 (.step 10 (.step 20 (.step 21 (.step 22 .done))))) (.step 20 (.step 9 (.step 10 (.step 21 (.step 22 .done))))))))))) (.step 18 (.alt (.step 8 (.alt (.step 9 (.step 10 (.step 19 (.step 20 (.step 21 (.step 22 .done)))))) (.step 19 (.alt (.step 9 (.step 10 (.step 20 (.step 21 (.step 22 .done))))) (.step 20 (.step 9 (.step 10 (.step 21 (.step 22 .done))))))))) (.step 19 (.alt (.step 8 (.alt (.step 9 (.step 10 (.step 20 (.step 21 (.step 22 .done))))) (.step 20 (.step 9 (.step 10 (.step 21 (.step 22 .done))))))) (.step 20 (.step 8 (.step 9 (.step 10 (.step 21 (.step 22 .done)))))))))))) (.step 18 (.alt (.step 7 (.alt (.step 8 (.alt (.step 9 (.step 10 (.step 19 (.step 20 (.step 21 (.step 22 .done)))))) (.step 19 (.alt (.step 9 (.step 10 (.step 20 (.step 21 (.step 22 .done))))) (.step 20 (.step 9 (.step 10 (.step 21 (.step 22 .done))))))))) (.step 19 (.alt (.step 8 (.alt (.step 9 (.step 10 (.step 20 (.step 21 (.step 22 .done))))) (.step 20 (.step 9 (.step 10 (.step 21 (.step 22 .done))))))) (.step 20 (.step 8 (.step 9 (.step 10 (.step 21 (.step 22 .done)))))))))) (.step 19 (.alt (.step 7 (.alt (.step 8 (.alt (.step 9 (.step 10 (.step 20 (.step 21 (.step 22 .done))))) (.step 20 (.step 9 (.step 10 (.step 21 (.step 22 .done))))))) (.step 20 (.step 8 (.step 9 (.step 10 (.step 21 (.step 22 .done)))))))) (.step 20 (.step 7 (.step 8 (.step 9 (.step 10 (.step 21 (.step 22 .done)))))))))))))))))))) (.step 13 (.step 15 (.step 16 (.step 17 (.alt (.step 3 (.step 5 (.step 6 (.alt (.step 7 (.alt (.step 8 (.alt (.step 9 (.step 10 (.step 18 (.step 19 (.step 20 (.step 21 (.step 22 .done))))))) (.step 18 (.alt (.step 9 (.step 10 (.step 19 (.step 20 (.step 21 (.step 22 .done)))))) (.step 19 (.alt (.step 9 (.step 10 (.step 20 (.step 21 (.step 22 .done))))) (.step 20 (.step 9 (.step 10 (.step 21 (.step 22 .done))))))))))) (.step 18 (.alt (.step 8 (.alt (.step 9 (.step 10 (.step 19 (.step 20 (.step 21 (.step 22 .done)))))) (.step 19 (.alt (.step 9 (.step 10 (.step 20 (.step 21 (.step 22 .done))))) (.step 20 (.step 9 (.step 10 (.step 21 (.step 22 .done))))))))) (.step 19 (.alt (.step 8 (.alt (.step 9 (.step 10 (.step 20 (.step 21 (.step 22 .done))))) (.step 20 (.step 9 (.step 10 (.step 21 (.step 22 .done))))))) (.step 20 (.step 8 (.step 9 (.step 10 (.step 21 (.step 22 .done)))))))))))) (.step 18 (.alt (.step 7 (.alt (.step 8 (.alt (.step 9 (.step 10 (.step 19 (.step 20 (.step 21 (.step 22 .done)))))) (.step 19 (.alt (.step 9 (.step 10 (.step 20 (.step 21 (.step 22 .done))))) (.step 20 (.step 9 (.step 10 (.step 21 (.step 22 .done))))))))) (.step 19 (.alt (.step 8 (.alt (.step 9 (.step 10 (.step 20 (.step 21 (.step 22 .done))))) (.step 20 (.step 9 (.step 10 (.step 21 (.step 22 .done))))))) (.step 20 (.step 8 (.step 9 (.step 10 (.step 21 (.step 22 .done)))))))))) (.step 19 (.alt (.step 7 (.alt (.step 8 (.alt (.step 9 (.step 10 (.step 20 (.step 21 (.step 22 .done))))) (.step 20 (.step 9 (.step 10 (.step 21 (.step 22 .done))))))) (.step 20 (.step 8 (.step 9 (.step 10 (.step 21 (.step 22 .done)))))))) (.step 20 (.step 7 (.step 8 (.step 9 (.step 10 (.step 21 (.step 22 .done))))))))))))))) (.step 18 (.alt (.step 3 (.step 5 (.step 6 (.alt (.step 7 (.alt (.step 8 (.alt (.step 9 (.step 10 (.step 19 (.step 20 (.step 21 (.step 22 .done)))))) (.step 19 (.alt (.step 9 (.step 10 (.step 20 (.step 21 (.step 22 .done))))) (.step 20 (.step 9 (.step 10 (.step 21 (.step 22 .done))))))))) (.step 19 (.alt (.step 8 (.alt (.step 9 (.step 10 (.step 20 (.step 21 (.step 22 .done))))) (.step 20 (.step 9 (.step 10 (.step 21 (.step 22 .done))))))) (.step 20 (.step 8 (.step 9 (.step 10 (.step 21 (.step 22 .done)))))))))) (.step 19 (.alt (.step 7 (.alt (.step 8 (.alt (.step 9 (.step 10 (.step 20 (.step 21 (.step 22 .done))))) (.step 20 (.step 9 (.step 10 (.step 21 (.step 22 .done))))))) (.step 20 (.step 8 (.step 9 (.step 10 (.step 21 (.step 22 .done)))))))) (.step 20 (.step 7 (.step 8 (.step 9 (.step 10 (.step 21 (.step 22 .done))))))))))))) (.step 19 (.alt (.step 3 (.step 5 (.step 6 (.alt (.step 7 (.alt (.step 8 (.alt (.step 9 (.step 10 (.step 20 (.step 21 (.step 22 .done))))) (.step 20 (.step 9 (.step 10 (.step 21 (.step 22 .done))))))) (.step 20 (.step 8 (.step 9 (.step 10 (.step 21 (.step 22 .done)))))))) (.step 20 (.step 7 (.step 8 (.step 9 (.step 10 (.step 21 (.step 22 .done))))))))))) (.step 20 (.step 3 (.step 5 (.step 6 (.step 7 (.step 8 (.step 9 (.step 10 (.step 21 (.step 22 .done)))))))))))))))))))))))))))) (bad := [3, 7, 8, 9, 13, 18, 19, 20]) (hok := (by decide +kernel)) (h := ?_); intro K hK; ((refine zI (i := 0) rfl ?_; (refine zF (k := ?_)) <;> (refine zD ?_)) <;> ((refine zI (i := 1) rfl ?_; (refine zB (k := ?_)) <;> (refine zD ?_)) <;> ((refine zI (i := 2) rfl ?_; (refine zB (k := ?_)) <;> (refine zD ?_)) <;> ((refine zI (i := 4) rfl ?_; (refine zF (k := ?_)) <;> (refine zD ?_)) <;> ((refine zI (i := 11) rfl ?_; (refine zB (k := ?_)) <;> (refine zD ?_)) <;> ((refine zI (i := 12) rfl ?_; (refine zB (k := ?_)) <;> (refine zD ?_)) <;> ((refine zI (i := 14) rfl ?_; (refine zF (k := ?_)) <;> (refine zD ?_)) <;> (refine z1 ?tp0 ?tq0; (case' tp0 => ((refine zI (i := 3) rfl ?_; (refine zM (k := ?_)) <;> (refine zD ?_)) <;> ((refine zI (i := 5) rfl ?_; ((refine zq (k' := ?_))) <;> (refine zD ?_)) <;> ((refine zI (i := 6) rfl ?_; ((refine zz (k := ?_))) <;> (refine zD ?_)) <;> (refine z1 ?tp1 ?tq1; (case' tp1 => ((refine zI (i := 7) rfl ?_; ((refine z4 (v := .string x.k) (j := j * 5) (hq := by simp [Addr.add]) (hr := h1.any) (hv := by simpa using prC_cell (r := 0) hx (by omega) rfl) (k := ?_))) <;> (refine zD ?_)) <;> (refine z1 ?tp2 ?tq2; (case' tp2 => ((refine zI (i := 8) rfl ?_; (refine zk (k' := ?_)) <;> (refine zD ?_)) <;> (refine z1 ?tp3 ?tq3; (case' tp3 => ((refine zI (i := 9) rfl ?_; ((refine zt (k' := ?_); rw [g1])) <;> (refine zD ?_)) <;> ((refine zI (i := 10) rfl ?_; (refine zl (k' := ?_)) <;> (refine zD ?_)) <;> ((refine zI (i := 13) rfl ?_; (refine zM (k := ?_)) <;> (refine zD ?_)) <;> ((refine zI (i := 15) rfl ?_; ((refine zq (k' := ?_))) <;> (refine zD ?_)) <;> ((refine zI (i := 16) rfl ?_; ((refine zz (k := ?_))) <;> (refine zD ?_)) <;> ((refine zI (i := 17) rfl ?_; ((refine zz (k := ?_))) <;> (refine zD ?_)) <;> ((refine zI (i := 18) rfl ?_; ((refine z4 (v := .string x.v.d) (j := j * 5 + 4) (hq := by simp [Addr.add]; split <;> simp_all <;> omega) (hr := h1.any) (hv := prC_cell (r := 4) hx (by omega) rfl) (k := ?_))) <;> (refine zD ?_)) <;> ((refine zI (i := 19) rfl ?_; (refine zk (k' := ?_)) <;> (refine zD ?_)) <;> ((refine zI (i := 20) rfl ?_; ((refine zt (k' := ?_); rw [g2])) <;> (refine zD ?_)) <;> ((refine zI (i := 21) rfl ?_; ((refine zl (k' := ?_); rw [g3])) <;> (refine zD ?_)) <;> ((refine zI (i := 22) rfl ?_; (refine zH (k := ?_)) <;> (refine zD ?_)) <;> (refine zx (hK _ _ ?_); clear hK K))))))))))))); (case' tq3 => ((refine zI (i := 13) rfl ?_; (refine zM (k := ?_)) <;> (refine zD ?_)) <;> ((refine zI (i := 15) rfl ?_; ((refine zq (k' := ?_))) <;> (refine zD ?_)) <;> ((refine zI (i := 16) rfl ?_; ((refine zz (k := ?_))) <;> (refine zD ?_)) <;> ((refine zI (i := 17) rfl ?_; ((refine zz (k := ?_))) <;> (refine zD ?_)) <;> (refine z1 ?tp4 ?tq4; (case' tp4 => ((refine zI (i := 9) rfl ?_; ((refine zt (k' := ?_); rw [g1])) <;> (refine zD ?_)) <;> ((refine zI (i := 10) rfl ?_; (refine zl (k' := ?_)) <;> (refine zD ?_)) <;> ((refine zI (i := 18) rfl ?_; ((refine z4 (v := .string x.v.d) (j := j * 5 + 4) (hq := by simp [Addr.add]; split <;> simp_all <;> omega) (hr := h1.any) (hv := prC_cell (r := 4) hx (by omega) rfl) (k := ?_))) <;> (refine zD ?_)) <;> ((refine zI (i := 19) rfl ?_; (refine zk (k' := ?_)) <;> (refine zD ?_)) <;> ((refine zI (i := 20) rfl ?_; ((refine zt (k' := ?_); rw [g2])) <;> (refine zD ?_)) <;> ((refine zI (i := 21) rfl ?_; ((refine zl (k' := ?_); rw [g3])) <;> (refine zD ?_)) <;> ((refine zI (i := 22) rfl ?_; (refine zH (k := ?_)) <;> (refine zD ?_)) <;> (refine zx (hK _ _ ?_); clear hK K))))))))); (case' tq4 => ((refine zI (i := 18) rfl ?_; ((refine z4 (v := .string x.v.d) (j := j * 5 + 4) (hq := by simp [Addr.add]; split <;> simp_all <;> omega) (hr := h1.any) (hv := prC_cell (r := 4) hx (by omega) rfl) (k := ?_))) <;> (refine zD ?_)) <;> (refine z1 ?tp5 ?tq5; (case' tp5 => ((refine zI (i := 9) rfl ?_; ((refine zt (k' := ?_); rw [g1])) <;> (refine zD ?_)) <;> ((refine zI (i := 10) rfl ?_; (refine zl (k' := ?_)) <;> (refine zD ?_)) <;> ((refine zI (i := 19) rfl ?_; (refine zk (k' := ?_)) <;> (refine zD ?_)) <;> ((refine zI (i := 20) rfl ?_; ((refine zt (k' := ?_); rw [g2])) <;> (refine zD ?_)) <;> ((refine zI (i := 21) rfl ?_; ((refine zl (k' := ?_); rw [g3])) <;> (refine zD ?_)) <;> ((refine zI (i := 22) rfl ?_; (refine zH (k := ?_)) <;> (refine zD ?_)) <;> (refine zx (hK _ _ ?_); clear hK K)))))))); (case' tq5 => ((refine zI (i := 19) rfl ?_; (refine zk (k' := ?_)) <;> (refine zD ?_)) <;> (refine z1 ?tp6 ?tq6; (case' tp6 => ((refine zI (i := 9) rfl ?_; ((refine zt (k' := ?_); rw [g1])) <;> (refine zD ?_)) <;> ((refine zI (i := 10) rfl ?_; (refine zl (k' := ?_)) <;> (refine zD ?_)) <;> ((refine zI (i := 20) rfl ?_; ((refine zt (k' := ?_); rw [g2])) <;> (refine zD ?_)) <;> ((refine zI (i := 21) rfl ?_; ((refine zl (k' := ?_); rw [g3])) <;> (refine zD ?_)) <;> ((refine zI (i := 22) rfl ?_; (refine zH (k := ?_)) <;> (refine zD ?_)) <;> (refine zx (hK _ _ ?_); clear hK K))))))); (case' tq6 => ((refine zI (i := 20) rfl ?_; ((refine zt (k' := ?_); rw [g2])) <;> (refine zD ?_)) <;> ((refine zI (i := 9) rfl ?_; ((refine zt (k' := ?_); rw [g1])) <;> (refine zD ?_)) <;> ((refine zI (i := 10) rfl ?_; (refine zl (k' := ?_)) <;> (refine zD ?_)) <;> ((refine zI (i := 21) rfl ?_; ((refine zl (k' := ?_); rw [g3])) <;> (refine zD ?_)) <;> ((refine zI (i := 22) rfl ?_; (refine zH (k := ?_)) <;> (refine zD ?_)) <;> (refine zx (hK _ _ ?_); clear hK K)))))))))))))))))))))); (case' tq2 => ((refine zI (i := 13) rfl ?_; (refine zM (k := ?_)) <;> (refine zD ?_)) <;> ((refine zI (i := 15) rfl ?_; ((refine zq (k' := ?_))) <;> (refine zD ?_)) <;> ((refine zI (i := 16) rfl ?_; ((refine zz (k := ?_))) <;> (refine zD ?_)) <;> ((refine zI (i := 17) rfl ?_; ((refine zz (k := ?_))) <;> (refine zD ?_)) <;> (refine z1 ?tp7 ?tq7; (case' tp7 => ((refine zI (i := 8) rfl ?_; (refine zk (k' := ?_)) <;> (refine zD ?_)) <;> (refine z1 ?tp8 ?tq8; (case' tp8 => ((refine zI (i := 9) rfl ?_; ((refine zt (k' := ?_); rw [g1])) <;> (refine zD ?_)) <;> ((refine zI (i := 10) rfl ?_; (refine zl (k' := ?_)) <;> (refine zD ?_)) <;> ((refine zI (i := 18) rfl ?_; ((refine z4 (v := .string x.v.d) (j := j * 5 + 4) (hq := by simp [Addr.add]; split <;> simp_all <;> omega) (hr := h1.any) (hv := prC_cell (r := 4) hx (by omega) rfl) (k := ?_))) <;> (refine zD ?_)) <;> ((refine zI (i := 19) rfl ?_; (refine zk (k' := ?_)) <;> (refine zD ?_)) <;> ((refine zI (i := 20) rfl ?_; ((refine zt (k' := ?_); rw [g2])) <;> (refine zD ?_)) <;> ((refine zI (i := 21) rfl ?_; ((refine zl (k' := ?_); rw [g3])) <;> (refine zD ?_)) <;> ((refine zI (i := 22) rfl ?_; (refine zH (k := ?_)) <;> (refine zD ?_)) <;> (refine zx (hK _ _ ?_); clear hK K))))))))); (case' tq8 => ((refine zI (i := 18) rfl ?_; ((refine z4 (v := .string x.v.d) (j := j * 5 + 4) (hq := by simp [Addr.add]; split <;> simp_all <;> omega) (hr := h1.any) (hv := prC_cell (r := 4) hx (by omega) rfl) (k := ?_))) <;> (refine zD ?_)) <;> (refine z1 ?tp9 ?tq9; (case' tp9 => ((refine zI (i := 9) rfl ?_; ((refine zt (k' := ?_); rw [g1])) <;> (refine zD ?_)) <;> ((refine zI (i := 10) rfl ?_; (refine zl (k' := ?_)) <;> (refine zD ?_)) <;> ((refine zI (i := 19) rfl ?_; (refine zk (k' := ?_)) <;> (refine zD ?_)) <;> ((refine zI (i := 20) rfl ?_; ((refine zt (k' := ?_); rw [g2])) <;> (refine zD ?_)) <;> ((refine zI (i := 21) rfl ?_; ((refine zl (k' := ?_); rw [g3])) <;> (refine zD ?_)) <;> ((refine zI (i := 22) rfl ?_; (refine zH (k := ?_)) <;> (refine zD ?_)) <;> (refine zx (hK _ _ ?_); clear hK K)))))))); (case' tq9 => ((refine zI (i := 19) rfl ?_; (refine zk (k' := ?_)) <;> (refine zD ?_)) <;> (refine z1 ?tp10 ?tq10; (case' tp10 => ((refine zI (i := 9) rfl ?_; ((refine zt (k' := ?_); rw [g1])) <;> (refine zD ?_)) <;> ((refine zI (i := 10) rfl ?_; (refine zl (k' := ?_)) <;> (refine zD ?_)) <;> ((refine zI (i := 20) rfl ?_; ((refine zt (k' := ?_); rw [g2])) <;> (refine zD ?_)) <;> ((refine zI (i := 21) rfl ?_; ((refine zl (k' := ?_); rw [g3])) <;> (refine zD ?_)) <;> ((refine zI (i := 22) rfl ?_; (refine zH (k := ?_)) <;> (refine zD ?_)) <;> (refine zx (hK _ _ ?_); clear hK K))))))); (case' tq10 => ((refine zI (i := 20) rfl ?_; ((refine zt (k' := ?_); rw [g2])) <;> (refine zD ?_)) <;> ((refine zI (i := 9) rfl ?_; ((refine zt (k' := ?_); rw [g1])) <;> (refine zD ?_)) <;> ((refine zI (i := 10) rfl ?_; (refine zl (k' := ?_)) <;> (refine zD ?_)) <;> ((refine zI (i := 21) rfl ?_; ((refine zl (k' := ?_); rw [g3])) <;> (refine zD ?_)) <;> ((refine zI (i := 22) rfl ?_; (refine zH (k := ?_)) <;> (refine zD ?_)) <;> (refine zx (hK _ _ ?_); clear hK K)))))))))))))))); (case' tq7 => ((refine zI (i := 18) rfl ?_; ((refine z4 (v := .string x.v.d) (j := j * 5 + 4) (hq := by simp [Addr.add]; split <;> simp_all <;> omega) (hr := h1.any) (hv := prC_cell (r := 4) hx (by omega) rfl) (k := ?_))) <;> (refine zD ?_)) <;> (refine z1 ?tp11 ?tq11; (case' tp11 => ((refine zI (i := 8) rfl ?_; (refine zk (k' := ?_)) <;> (refine zD ?_)) <;> (refine z1 ?tp12 ?tq12; (case' tp12 => ((refine zI (i := 9) rfl ?_; ((refine zt (k' := ?_); rw [g1])) <;> (refine zD ?_)) <;> ((refine zI (i := 10) rfl ?_; (refine zl (k' := ?_)) <;> (refine zD ?_)) <;> ((refine zI (i := 19) rfl ?_; (refine zk (k' := ?_)) <;> (refine zD ?_)) <;> ((refine zI (i := 20) rfl ?_; ((refine zt (k' := ?_); rw [g2])) <;> (refine zD ?_)) <;> ((refine zI (i := 21) rfl ?_; ((refine zl (k' := ?_); rw [g3])) <;> (refine zD ?_)) <;> ((refine zI (i := 22) rfl ?_; (refine zH (k := ?_)) <;> (refine zD ?_)) <;> (refine zx (hK _ _ ?_); clear hK K)))))))); (case' tq12 => ((refine zI (i := 19) rfl ?_; (refine zk (k' := ?_)) <;> (refine zD ?_)) <;> (refine z1 ?tp13 ?tq13; (case' tp13 => ((refine zI (i := 9) rfl ?_; ((refine zt (k' := ?_); rw [g1])) <;> (refine zD ?_)) <;> ((refine zI (i := 10) rfl ?_; (refine zl (k' := ?_)) <;> (refine zD ?_)) <;> ((refine zI (i := 20) rfl ?_; ((refine zt (k' := ?_); rw [g2])) <;> (refine zD ?_)) <;> ((refine zI (i := 21) rfl ?_; ((refine zl (k' := ?_); rw [g3])) <;> (refine zD ?_)) <;> ((refine zI (i := 22) rfl ?_; (refine zH (k := ?_)) <;> (refine zD ?_)) <;> (refine zx (hK _ _ ?_); clear hK K))))))); (case' tq13 => ((refine zI (i := 20) rfl ?_; ((refine zt (k' := ?_); rw [g2])) <;> (refine zD ?_)) <;> ((refine zI (i := 9) rfl ?_; ((refine zt (k' := ?_); rw [g1])) <;> (refine zD ?_)) <;> ((refine zI (i := 10) rfl ?_; (refine zl (k' := ?_)) <;> (refine zD ?_)) <;> ((refine zI (i := 21) rfl ?_; ((refine zl (k' := ?_); rw [g3])) <;> (refine zD ?_)) <;> ((refine zI (i := 22) rfl ?_; (refine zH (k := ?_)) <;> (refine zD ?_)) <;> (refine zx (hK _ _ ?_); clear hK K))))))))))))); (case' tq11 => ((refine zI (i := 19) rfl ?_; (refine zk (k' := ?_)) <;> (refine zD ?_)) <;> (refine z1 ?tp14 ?tq14; (case' tp14 => ((refine zI (i := 8) rfl ?_; (refine zk (k' := ?_)) <;> (refine zD ?_)) <;> (refine z1 ?tp15 ?tq15; (case' tp15 => ((refine zI (i := 9) rfl ?_; ((refine zt (k' := ?_); rw [g1])) <;> (refine zD ?_)) <;> ((refine zI (i := 10) rfl ?_; (refine zl (k' := ?_)) <;> (refine zD ?_)) <;> ((refine zI (i := 20) rfl ?_; ((refine zt (k' := ?_); rw [g2])) <;> (refine zD ?_)) <;> ((refine zI (i := 21) rfl ?_; ((refine zl (k' := ?_); rw [g3])) <;> (refine zD ?_)) <;> ((refine zI (i := 22) rfl ?_; (refine zH (k := ?_)) <;> (refine zD ?_)) <;> (refine zx (hK _ _ ?_); clear hK K))))))); (case' tq15 => ((refine zI (i := 20) rfl ?_; ((refine zt (k' := ?_); rw [g2])) <;> (refine zD ?_)) <;> ((refine zI (i := 9) rfl ?_; ((refine zt (k' := ?_); rw [g1])) <;> (refine zD ?_)) <;> ((refine zI (i := 10) rfl ?_; (refine zl (k' := ?_)) <;> (refine zD ?_)) <;> ((refine zI (i := 21) rfl ?_; ((refine zl (k' := ?_); rw [g3])) <;> (refine zD ?_)) <;> ((refine zI (i := 22) rfl ?_; (refine zH (k := ?_)) <;> (refine zD ?_)) <;> (refine zx (hK _ _ ?_); clear hK K)))))))))); (case' tq14 => ((refine zI (i := 20) rfl ?_; ((refine zt (k' := ?_); rw [g2])) <;> (refine zD ?_)) <;> ((refine zI (i := 8) rfl ?_; (refine zk (k' := ?_)) <;> (refine zD ?_)) <;> ((refine zI (i := 9) rfl ?_; ((refine zt (k' := ?_); rw [g1])) <;> (refine zD ?_)) <;> ((refine zI (i := 10) rfl ?_; (refine zl (k' := ?_)) <;> (refine zD ?_)) <;> ((refine zI (i := 21) rfl ?_; ((refine zl (k' := ?_); rw [g3])) <;> (refine zD ?_)) <;> ((refine zI (i := 22) rfl ?_; (refine zH (k := ?_)) <;> (refine zD ?_)) <;> (refine zx (hK _ _ ?_); clear hK K))))))))))))))))))))))); (case' tq1 => ((refine zI (i := 13) rfl ?_; (refine zM (k := ?_)) <;> (refine zD ?_)) <;> ((refine zI (i := 15) rfl ?_; ((refine zq (k' := ?_))) <;> (refine zD ?_)) <;> ((refine zI (i := 16) rfl ?_; ((refine zz (k := ?_))) <;> (refine zD ?_)) <;> ((refine zI (i := 17) rfl ?_; ((refine zz (k := ?_))) <;> (refine zD ?_)) <;> (refine z1 ?tp16 ?tq16; (case' tp16 => ((refine zI (i := 7) rfl ?_; ((refine z4 (v := .string x.k) (j := j * 5) (hq := by simp [Addr.add]) (hr := h1.any) (hv := by simpa using prC_cell (r := 0) hx (by omega) rfl) (k := ?_))) <;> (refine zD ?_)) <;> (refine z1 ?tp17 ?tq17; (case' tp17 => ((refine zI (i := 8) rfl ?_; (refine zk (k' := ?_)) <;> (refine zD ?_)) <;> (refine z1 ?tp18 ?tq18; (case' tp18 => ((refine zI (i := 9) rfl ?_; ((refine zt (k' := ?_); rw [g1])) <;> (refine zD ?_)) <;> ((refine zI (i := 10) rfl ?_; (refine zl (k' := ?_)) <;> (refine zD ?_)) <;> ((refine zI (i := 18) rfl ?_; ((refine z4 (v := .string x.v.d) (j := j * 5 + 4) (hq := by simp [Addr.add]; split <;> simp_all <;> omega) (hr := h1.any) (hv := prC_cell (r := 4) hx (by omega) rfl) (k := ?_))) <;> (refine zD ?_)) <;> ((refine zI (i := 19) rfl ?_; (refine zk (k' := ?_)) <;> (refine zD ?_)) <;> ((refine zI (i := 20) rfl ?_; ((refine zt (k' := ?_); rw [g2])) <;> (refine zD ?_)) <;> ((refine zI (i := 21) rfl ?_; ((refine zl (k' := ?_); rw [g3])) <;> (refine zD ?_)) <;> ((refine zI (i := 22) rfl ?_; (refine zH (k := ?_)) <;> (refine zD ?_)) <;> (refine zx (hK _ _ ?_); clear hK K))))))))); (case' tq18 => ((refine zI (i := 18) rfl ?_; ((refine z4 (v := .string x.v.d) (j := j * 5 + 4) (hq := by simp [Addr.add]; split <;> simp_all <;> omega) (hr := h1.any) (hv := prC_cell (r := 4) hx (by omega) rfl) (k := ?_))) <;> (refine zD ?_)) <;> (refine z1 ?tp19 ?tq19; (case' tp19 => ((refine zI (i := 9) rfl ?_; ((refine zt (k' := ?_); rw [g1])) <;> (refine zD ?_)) <;> ((refine zI (i := 10) rfl ?_; (refine zl (k' := ?_)) <;> (refine zD ?_)) <;> ((refine zI (i := 19) rfl ?_; (refine zk (k' := ?_)) <;> (refine zD ?_)) <;> ((refine zI (i := 20) rfl ?_; ((refine zt (k' := ?_); rw [g2])) <;> (refine zD ?_)) <;> ((refine zI (i := 21) rfl ?_; ((refine zl (k' := ?_); rw [g3])) <;> (refine zD ?_)) <;> ((refine zI (i := 22) rfl ?_; (refine zH (k := ?_)) <;> (refine zD ?_)) <;> (refine zx (hK _ _ ?_); clear hK K)))))))); (case' tq19 => ((refine zI (i := 19) rfl ?_; (refine zk (k' := ?_)) <;> (refine zD ?_)) <;> (refine z1 ?tp20 ?tq20; (case' tp20 => ((refine zI (i := 9) rfl ?_; ((refine zt (k' := ?_); rw [g1])) <;> (refine zD ?_)) <;> ((refine zI (i := 10) rfl ?_; (refine zl (k' := ?_)) <;> (refine zD ?_)) <;> ((refine zI (i := 20) rfl ?_; ((refine zt (k' := ?_); rw [g2])) <;> (refine zD ?_)) <;> ((refine zI (i := 21) rfl ?_; ((refine zl (k' := ?_); rw [g3])) <;> (refine zD ?_)) <;> ((refine zI (i := 22) rfl ?_; (refine zH (k := ?_)) <;> (refine zD ?_)) <;> (refine zx (hK _ _ ?_); clear hK K))))))); (case' tq20 => ((refine zI (i := 20) rfl ?_; ((refine zt (k' := ?_); rw [g2])) <;> (refine zD ?_)) <;> ((refine zI (i := 9) rfl ?_; ((refine zt (k' := ?_); rw [g1])) <;> (refine zD ?_)) <;> ((refine zI (i := 10) rfl ?_; (refine zl (k' := ?_)) <;> (refine zD ?_)) <;> ((refine zI (i := 21) rfl ?_; ((refine zl (k' := ?_); rw [g3])) <;> (refine zD ?_)) <;> ((refine zI (i := 22) rfl ?_; (refine zH (k := ?_)) <;> (refine zD ?_)) <;> (refine zx (hK _ _ ?_); clear hK K)))))))))))))))); (case' tq17 => ((refine zI (i := 18) rfl ?_; ((refine z4 (v := .string x.v.d) (j := j * 5 + 4) (hq := by simp [Addr.add]; split <;> simp_all <;> omega) (hr := h1.any) (hv := prC_cell (r := 4) hx (by omega) rfl) (k := ?_))) <;> (refine zD ?_)) <;> (refine z1 ?tp21 ?tq21; (case' tp21 => ((refine zI (i := 8) rfl ?_; (refine zk (k' := ?_)) <;> (refine zD ?_)) <;> (refine z1 ?tp22 ?tq22; (case' tp22 => ((refine zI (i := 9) rfl ?_; ((refine zt (k' := ?_); rw [g1])) <;> (refine zD ?_)) <;> ((refine zI (i := 10) rfl ?_; (refine zl (k' := ?_)) <;> (refine zD ?_)) <;> ((refine zI (i := 19) rfl ?_; (refine zk (k' := ?_)) <;> (refine zD ?_)) <;> ((refine zI (i := 20) rfl ?_; ((refine zt (k' := ?_); rw [g2])) <;> (refine zD ?_)) <;> ((refine zI (i := 21) rfl ?_; ((refine zl (k' := ?_); rw [g3])) <;> (refine zD ?_)) <;> ((refine zI (i := 22) rfl ?_; (refine zH (k := ?_)) <;> (refine zD ?_)) <;> (refine zx (hK _ _ ?_); clear hK K)))))))); (case' tq22 => ((refine zI (i := 19) rfl ?_; (refine zk (k' := ?_)) <;> (refine zD ?_)) <;> (refine z1 ?tp23 ?tq23; (case' tp23 => ((refine zI (i := 9) rfl ?_; ((refine zt (k' := ?_); rw [g1])) <;> (refine zD ?_)) <;> ((refine zI (i := 10) rfl ?_; (refine zl (k' := ?_)) <;> (refine zD ?_)) <;> ((refine zI (i := 20) rfl ?_; ((refine zt (k' := ?_); rw [g2])) <;> (refine zD ?_)) <;> ((refine zI (i := 21) rfl ?_; ((refine zl (k' := ?_); rw [g3])) <;> (refine zD ?_)) <;> ((refine zI (i := 22) rfl ?_; (refine zH (k := ?_)) <;> (refine zD ?_)) <;> (refine zx (hK _ _ ?_); clear hK K))))))); (case' tq23 => ((refine zI (i := 20) rfl ?_; ((refine zt (k' := ?_); rw [g2])) <;> (refine zD ?_)) <;> ((refine zI (i := 9) rfl ?_; ((refine zt (k' := ?_); rw [g1])) <;> (refine zD ?_)) <;> ((refine zI (i := 10) rfl ?_; (refine zl (k' := ?_)) <;> (refine zD ?_)) <;> ((refine zI (i := 21) rfl ?_; ((refine zl (k' := ?_); rw [g3])) <;> (refine zD ?_)) <;> ((refine zI (i := 22) rfl ?_; (refine zH (k := ?_)) <;> (refine zD ?_)) <;> (refine zx (hK _ _ ?_); clear hK K))))))))))))); (case' tq21 => ((refine zI (i := 19) rfl ?_; (refine zk (k' := ?_)) <;> (refine zD ?_)) <;> (refine z1 ?tp24 ?tq24; (case' tp24 => ((refine zI (i := 8) rfl ?_; (refine zk (k' := ?_)) <;> (refine zD ?_)) <;> (refine z1 ?tp25 ?tq25; (case' tp25 => ((refine zI (i := 9) rfl ?_; ((refine zt (k' := ?_); rw [g1])) <;> (refine zD ?_)) <;> ((refine zI (i := 10) rfl ?_; (refine zl (k' := ?_)) <;> (refine zD ?_)) <;> ((refine zI (i := 20) rfl ?_; ((refine zt (k' := ?_); rw [g2])) <;> (refine zD ?_)) <;> ((refine zI (i := 21) rfl ?_; ((refine zl (k' := ?_); rw [g3])) <;> (refine zD ?_)) <;> ((refine zI (i := 22) rfl ?_; (refine zH (k := ?_)) <;> (refine zD ?_)) <;> (refine zx (hK _ _ ?_); clear hK K))))))); (case' tq25 => ((refine zI (i := 20) rfl ?_; ((refine zt (k' := ?_); rw [g2])) <;> (refine zD ?_)) <;> ((refine zI (i := 9) rfl ?_; ((refine zt (k' := ?_); rw [g1])) <;> (refine zD ?_)) <;> ((refine zI (i := 10) rfl ?_; (refine zl (k' := ?_)) <;> (refine zD ?_)) <;> ((refine zI (i := 21) rfl ?_; ((refine zl (k' := ?_); rw [g3])) <;> (refine zD ?_)) <;> ((refine zI (i := 22) rfl ?_; (refine zH (k := ?_)) <;> (refine zD ?_)) <;> (refine zx (hK _ _ ?_); clear hK K)))))))))); (case' tq24 => ((refine zI (i := 20) rfl ?_; ((refine zt (k' := ?_); rw [g2])) <;> (refine zD ?_)) <;> ((refine zI (i := 8) rfl ?_; (refine zk (k' := ?_)) <;> (refine zD ?_)) <;> ((refine zI (i := 9) rfl ?_; ((refine zt (k' := ?_); rw [g1])) <;> (refine zD ?_)) <;> ((refine zI (i := 10) rfl ?_; (refine zl (k' := ?_)) <;> (refine zD ?_)) <;> ((refine zI (i := 21) rfl ?_; ((refine zl (k' := ?_); rw [g3])) <;> (refine zD ?_)) <;> ((refine zI (i := 22) rfl ?_; (refine zH (k := ?_)) <;> (refine zD ?_)) <;> (refine zx (hK _ _ ?_); clear hK K))))))))))))))))); (case' tq16 => ((refine zI (i := 18) rfl ?_; ((refine z4 (v := .string x.v.d) (j := j * 5 + 4) (hq := by simp [Addr.add]; split <;> simp_all <;> omega) (hr := h1.any) (hv := prC_cell (r := 4) hx (by omega) rfl) (k := ?_))) <;> (refine zD ?_)) <;> (refine z1 ?tp26 ?tq26; (case' tp26 => ((refine zI (i := 7) rfl ?_; ((refine z4 (v := .string x.k) (j := j * 5) (hq := by simp [Addr.add]) (hr := h1.any) (hv := by simpa using prC_cell (r := 0) hx (by omega) rfl) (k := ?_))) <;> (refine zD ?_)) <;> (refine z1 ?tp27 ?tq27; (case' tp27 => ((refine zI (i := 8) rfl ?_; (refine zk (k' := ?_)) <;> (refine zD ?_)) <;> (refine z1 ?tp28 ?tq28; (case' tp28 => ((refine zI (i := 9) rfl ?_; ((refine zt (k' := ?_); rw [g1])) <;> (refine zD ?_)) <;> ((refine zI (i := 10) rfl ?_; (refine zl (k' := ?_)) <;> (refine zD ?_)) <;> ((refine zI (i := 19) rfl ?_; (refine zk (k' := ?_)) <;> (refine zD ?_)) <;> ((refine zI (i := 20) rfl ?_; ((refine zt (k' := ?_); rw [g2])) <;> (refine zD ?_)) <;> ((refine zI (i := 21) rfl ?_; ((refine zl (k' := ?_); rw [g3])) <;> (refine zD ?_)) <;> ((refine zI (i := 22) rfl ?_; (refine zH (k := ?_)) <;> (refine zD ?_)) <;> (refine zx (hK _ _ ?_); clear hK K)))))))); (case' tq28 => ((refine zI (i := 19) rfl ?_; (refine zk (k' := ?_)) <;> (refine zD ?_)) <;> (refine z1 ?tp29 ?tq29; (case' tp29 => ((refine zI (i := 9) rfl ?_; ((refine zt (k' := ?_); rw [g1])) <;> (refine zD ?_)) <;> ((refine zI (i := 10) rfl ?_; (refine zl (k' := ?_)) <;> (refine zD ?_)) <;> ((refine zI (i := 20) rfl ?_; ((refine zt (k' := ?_); rw [g2])) <;> (refine zD ?_)) <;> ((refine zI (i := 21) rfl ?_; ((refine zl (k' := ?_); rw [g3])) <;> (refine zD ?_)) <;> ((refine zI (i := 22) rfl ?_; (refine zH (k := ?_)) <;> (refine zD ?_)) <;> (refine zx (hK _ _ ?_); clear hK K))))))); (case' tq29 => ((refine zI (i := 20) rfl ?_; ((refine zt (k' := ?_); rw [g2])) <;> (refine zD ?_)) <;> ((refine zI (i := 9) rfl ?_; ((refine zt (k' := ?_); rw [g1])) <;> (refine zD ?_)) <;> ((refine zI (i := 10) rfl ?_; (refine zl (k' := ?_)) <;> (refine zD ?_)) <;> ((refine zI (i := 21) rfl ?_; ((refine zl (k' := ?_); rw [g3])) <;> (refine zD ?_)) <;> ((refine zI (i := 22) rfl ?_; (refine zH (k := ?_)) <;> (refine zD ?_)) <;> (refine zx (hK _ _ ?_); clear hK K))))))))))))); (case' tq27 => ((refine zI (i := 19) rfl ?_; (refine zk (k' := ?_)) <;> (refine zD ?_)) <;> (refine z1 ?tp30 ?tq30; (case' tp30 => ((refine zI (i := 8) rfl ?_; (refine zk (k' := ?_)) <;> (refine zD ?_)) <;> (refine z1 ?tp31 ?tq31; (case' tp31 => ((refine zI (i := 9) rfl ?_; ((refine zt (k' := ?_); rw [g1])) <;> (refine zD ?_)) <;> ((refine zI (i := 10) rfl ?_; (refine zl (k' := ?_)) <;> (refine zD ?_)) <;> ((refine zI (i := 20) rfl ?_; ((refine zt (k' := ?_); rw [g2])) <;> (refine zD ?_)) <;> ((refine zI (i := 21) rfl ?_; ((refine zl (k' := ?_); rw [g3])) <;> (refine zD ?_)) <;> ((refine zI (i := 22) rfl ?_; (refine zH (k := ?_)) <;> (refine zD ?_)) <;> (refine zx (hK _ _ ?_); clear hK K))))))); (case' tq31 => ((refine zI (i := 20) rfl ?_; ((refine zt (k' := ?_); rw [g2])) <;> (refine zD ?_)) <;> ((refine zI (i := 9) rfl ?_; ((refine zt (k' := ?_); rw [g1])) <;> (refine zD ?_)) <;> ((refine zI (i := 10) rfl ?_; (refine zl (k' := ?_)) <;> (refine zD ?_)) <;> ((refine zI (i := 21) rfl ?_; ((refine zl (k' := ?_); rw [g3])) <;> (refine zD ?_)) <;> ((refine zI (i := 22) rfl ?_; (refine zH (k := ?_)) <;> (refine zD ?_)) <;> (refine zx (hK _ _ ?_); clear hK K)))))))))); (case' tq30 => ((refine zI (i := 20) rfl ?_; ((refine zt (k' := ?_); rw [g2])) <;> (refine zD ?_)) <;> ((refine zI (i := 8) rfl ?_; (refine zk (k' := ?_)) <;> (refine zD ?_)) <;> ((refine zI (i := 9) rfl ?_; ((refine zt (k' := ?_); rw [g1])) <;> (refine zD ?_)) <;> ((refine zI (i := 10) rfl ?_; (refine zl (k' := ?_)) <;> (refine zD ?_)) <;> ((refine zI (i := 21) rfl ?_; ((refine zl (k' := ?_); rw [g3])) <;> (refine zD ?_)) <;> ((refine zI (i := 22) rfl ?_; (refine zH (k := ?_)) <;> (refine zD ?_)) <;> (refine zx (hK _ _ ?_); clear hK K)))))))))))))); (case' tq26 => ((refine zI (i := 19) rfl ?_; (refine zk (k' := ?_)) <;> (refine zD ?_)) <;> (refine z1 ?tp32 ?tq32; (case' tp32 => ((refine zI (i := 7) rfl ?_; ((refine z4 (v := .string x.k) (j := j * 5) (hq := by simp [Addr.add]) (hr := h1.any) (hv := by simpa using prC_cell (r := 0) hx (by omega) rfl) (k := ?_))) <;> (refine zD ?_)) <;> (refine z1 ?tp33 ?tq33; (case' tp33 => ((refine zI (i := 8) rfl ?_; (refine zk (k' := ?_)) <;> (refine zD ?_)) <;> (refine z1 ?tp34 ?tq34; (case' tp34 => ((refine zI (i := 9) rfl ?_; ((refine zt (k' := ?_); rw [g1])) <;> (refine zD ?_)) <;> ((refine zI (i := 10) rfl ?_; (refine zl (k' := ?_)) <;> (refine zD ?_)) <;> ((refine zI (i := 20) rfl ?_; ((refine zt (k' := ?_); rw [g2])) <;> (refine zD ?_)) <;> ((refine zI (i := 21) rfl ?_; ((refine zl (k' := ?_); rw [g3])) <;> (refine zD ?_)) <;> ((refine zI (i := 22) rfl ?_; (refine zH (k := ?_)) <;> (refine zD ?_)) <;> (refine zx (hK _ _ ?_); clear hK K))))))); (case' tq34 => ((refine zI (i := 20) rfl ?_; ((refine zt (k' := ?_); rw [g2])) <;> (refine zD ?_)) <;> ((refine zI (i := 9) rfl ?_; ((refine zt (k' := ?_); rw [g1])) <;> (refine zD ?_)) <;> ((refine zI (i := 10) rfl ?_; (refine zl (k' := ?_)) <;> (refine zD ?_)) <;> ((refine zI (i := 21) rfl ?_; ((refine zl (k' := ?_); rw [g3])) <;> (refine zD ?_)) <;> ((refine zI (i := 22) rfl ?_; (refine zH (k := ?_)) <;> (refine zD ?_)) <;> (refine zx (hK _ _ ?_); clear hK K)))))))))); (case' tq33 => ((refine zI (i := 20) rfl ?_; ((refine zt (k' := ?_); rw [g2])) <;> (refine zD ?_)) <;> ((refine zI (i := 8) rfl ?_; (refine zk (k' := ?_)) <;> (refine zD ?_)) <;> ((refine zI (i := 9) rfl ?_; ((refine zt (k' := ?_); rw [g1])) <;> (refine zD ?_)) <;> ((refine zI (i := 10) rfl ?_; (refine zl (k' := ?_)) <;> (refine zD ?_)) <;> ((refine zI (i := 21) rfl ?_; ((refine zl (k' := ?_); rw [g3])) <;> (refine zD ?_)) <;> ((refine zI (i := 22) rfl ?_; (refine zH (k := ?_)) <;> (refine zD ?_)) <;> (refine zx (hK _ _ ?_); clear hK K))))))))))); (case' tq32 => ((refine zI (i := 20) rfl ?_; ((refine zt (k' := ?_); rw [g2])) <;> (refine zD ?_)) <;> ((refine zI (i := 7) rfl ?_; ((refine z4 (v := .string x.k) (j := j * 5) (hq := by simp [Addr.add]) (hr := h1.any) (hv := by simpa using prC_cell (r := 0) hx (by omega) rfl) (k := ?_))) <;> (refine zD ?_)) <;> ((refine zI (i := 8) rfl ?_; (refine zk (k' := ?_)) <;> (refine zD ?_)) <;> ((refine zI (i := 9) rfl ?_; ((refine zt (k' := ?_); rw [g1])) <;> (refine zD ?_)) <;> ((refine zI (i := 10) rfl ?_; (refine zl (k' := ?_)) <;> (refine zD ?_)) <;> ((refine zI (i := 21) rfl ?_; ((refine zl (k' := ?_); rw [g3])) <;> (refine zD ?_)) <;> ((refine zI (i := 22) rfl ?_; (refine zH (k := ?_)) <;> (refine zD ?_)) <;> (refine zx (hK _ _ ?_); clear hK K)))))))))))))))))))))))))); (case' tq0 => ((refine zI (i := 13) rfl ?_; (refine zM (k := ?_)) <;> (refine zD ?_)) <;> ((refine zI (i := 15) rfl ?_; ((refine zq (k' := ?_))) <;> (refine zD ?_)) <;> ((refine zI (i := 16) rfl ?_; ((refine zz (k := ?_))) <;> (refine zD ?_)) <;> ((refine zI (i := 17) rfl ?_; ((refine zz (k := ?_))) <;> (refine zD ?_)) <;> (refine z1 ?tp35 ?tq35; (case' tp35 => ((refine zI (i := 3) rfl ?_; (refine zM (k := ?_)) <;> (refine zD ?_)) <;> ((refine zI (i := 5) rfl ?_; ((refine zq (k' := ?_))) <;> (refine zD ?_)) <;> ((refine zI (i := 6) rfl ?_; ((refine zz (k := ?_))) <;> (refine zD ?_)) <;> (refine z1 ?tp36 ?tq36; (case' tp36 => ((refine zI (i := 7) rfl ?_; ((refine z4 (v := .string x.k) (j := j * 5) (hq := by simp [Addr.add]) (hr := h1.any) (hv := by simpa using prC_cell (r := 0) hx (by omega) rfl) (k := ?_))) <;> (refine zD ?_)) <;> (refine z1 ?tp37 ?tq37; (case' tp37 => ((refine zI (i := 8) rfl ?_; (refine zk (k' := ?_)) <;> (refine zD ?_)) <;> (refine z1 ?tp38 ?tq38; (case' tp38 => ((refine zI (i := 9) rfl ?_; ((refine zt (k' := ?_); rw [g1])) <;> (refine zD ?_)) <;> ((refine zI (i := 10) rfl ?_; (refine zl (k' := ?_)) <;> (refine zD ?_)) <;> ((refine zI (i := 18) rfl ?_; ((refine z4 (v := .string x.v.d) (j := j * 5 + 4) (hq := by simp [Addr.add]; split <;> simp_all <;> omega) (hr := h1.any) (hv := prC_cell (r := 4) hx (by omega) rfl) (k := ?_))) <;> (refine zD ?_)) <;> ((refine zI (i := 19) rfl ?_; (refine zk (k' := ?_)) <;> (refine zD ?_)) <;> ((refine zI (i := 20) rfl ?_; ((refine zt (k' := ?_); rw [g2])) <;> (refine zD ?_)) <;> ((refine zI (i := 21) rfl ?_; ((refine zl (k' := ?_); rw [g3])) <;> (refine zD ?_)) <;> ((refine zI (i := 22) rfl ?_; (refine zH (k := ?_)) <;> (refine zD ?_)) <;> (refine zx (hK _ _ ?_); clear hK K))))))))); (case' tq38 => ((refine zI (i := 18) rfl ?_; ((refine z4 (v := .string x.v.d) (j := j * 5 + 4) (hq := by simp [Addr.add]; split <;> simp_all <;> omega) (hr := h1.any) (hv := prC_cell (r := 4) hx (by omega) rfl) (k := ?_))) <;> (refine zD ?_)) <;> (refine z1 ?tp39 ?tq39; (case' tp39 => ((refine zI (i := 9) rfl ?_; ((refine zt (k' := ?_); rw [g1])) <;> (refine zD ?_)) <;> ((refine zI (i := 10) rfl ?_; (refine zl (k' := ?_)) <;> (refine zD ?_)) <;> ((refine zI (i := 19) rfl ?_; (refine zk (k' := ?_)) <;> (refine zD ?_)) <;> ((refine zI (i := 20) rfl ?_; ((refine zt (k' := ?_); rw [g2])) <;> (refine zD ?_)) <;> ((refine zI (i := 21) rfl ?_; ((refine zl (k' := ?_); rw [g3])) <;> (refine zD ?_)) <;> ((refine zI (i := 22) rfl ?_; (refine zH (k := ?_)) <;> (refine zD ?_)) <;> (refine zx (hK _ _ ?_); clear hK K)))))))); (case' tq39 => ((refine zI (i := 19) rfl ?_; (refine zk (k' := ?_)) <;> (refine zD ?_)) <;> (refine z1 ?tp40 ?tq40; (case' tp40 => ((refine zI (i := 9) rfl ?_; ((refine zt (k' := ?_); rw [g1])) <;> (refine zD ?_)) <;> ((refine zI (i := 10) rfl ?_; (refine zl (k' := ?_)) <;> (refine zD ?_)) <;> ((refine zI (i := 20) rfl ?_; ((refine zt (k' := ?_); rw [g2])) <;> (refine zD ?_)) <;> ((refine zI (i := 21) rfl ?_; ((refine zl (k' := ?_); rw [g3])) <;> (refine zD ?_)) <;> ((refine zI (i := 22) rfl ?_; (refine zH (k := ?_)) <;> (refine zD ?_)) <;> (refine zx (hK _ _ ?_); clear hK K))))))); (case' tq40 => ((refine zI (i := 20) rfl ?_; ((refine zt (k' := ?_); rw [g2])) <;> (refine zD ?_)) <;> ((refine zI (i := 9) rfl ?_; ((refine zt (k' := ?_); rw [g1])) <;> (refine zD ?_)) <;> ((refine zI (i := 10) rfl ?_; (refine zl (k' := ?_)) <;> (refine zD ?_)) <;> ((refine zI (i := 21) rfl ?_; ((refine zl (k' := ?_); rw [g3])) <;> (refine zD ?_)) <;> ((refine zI (i := 22) rfl ?_; (refine zH (k := ?_)) <;> (refine zD ?_)) <;> (refine zx (hK _ _ ?_); clear hK K)))))))))))))))); (case' tq37 => ((refine zI (i := 18) rfl ?_; ((refine z4 (v := .string x.v.d) (j := j * 5 + 4) (hq := by simp [Addr.add]; split <;> simp_all <;> omega) (hr := h1.any) (hv := prC_cell (r := 4) hx (by omega) rfl) (k := ?_))) <;> (refine zD ?_)) <;> (refine z1 ?tp41 ?tq41; (case' tp41 => ((refine zI (i := 8) rfl ?_; (refine zk (k' := ?_)) <;> (refine zD ?_)) <;> (refine z1 ?tp42 ?tq42; (case' tp42 => ((refine zI (i := 9) rfl ?_; ((refine zt (k' := ?_); rw [g1])) <;> (refine zD ?_)) <;> ((refine zI (i := 10) rfl ?_; (refine zl (k' := ?_)) <;> (refine zD ?_)) <;> ((refine zI (i := 19) rfl ?_; (refine zk (k' := ?_)) <;> (refine zD ?_)) <;> ((refine zI (i := 20) rfl ?_; ((refine zt (k' := ?_); rw [g2])) <;> (refine zD ?_)) <;> ((refine zI (i := 21) rfl ?_; ((refine zl (k' := ?_); rw [g3])) <;> (refine zD ?_)) <;> ((refine zI (i := 22) rfl ?_; (refine zH (k := ?_)) <;> (refine zD ?_)) <;> (refine zx (hK _ _ ?_); clear hK K)))))))); (case' tq42 => ((refine zI (i := 19) rfl ?_; (refine zk (k' := ?_)) <;> (refine zD ?_)) <;> (refine z1 ?tp43 ?tq43; (case' tp43 => ((refine zI (i := 9) rfl ?_; ((refine zt (k' := ?_); rw [g1])) <;> (refine zD ?_)) <;> ((refine zI (i := 10) rfl ?_; (refine zl (k' := ?_)) <;> (refine zD ?_)) <;> ((refine zI (i := 20) rfl ?_; ((refine zt (k' := ?_); rw [g2])) <;> (refine zD ?_)) <;> ((refine zI (i := 21) rfl ?_; ((refine zl (k' := ?_); rw [g3])) <;> (refine zD ?_)) <;> ((refine zI (i := 22) rfl ?_; (refine zH (k := ?_)) <;> (refine zD ?_)) <;> (refine zx (hK _ _ ?_); clear hK K))))))); (case' tq43 => ((refine zI (i := 20) rfl ?_; ((refine zt (k' := ?_); rw [g2])) <;> (refine zD ?_)) <;> ((refine zI (i := 9) rfl ?_; ((refine zt (k' := ?_); rw [g1])) <;> (refine zD ?_)) <;> ((refine zI (i := 10) rfl ?_; (refine zl (k' := ?_)) <;> (refine zD ?_)) <;> ((refine zI (i := 21) rfl ?_; ((refine zl (k' := ?_); rw [g3])) <;> (refine zD ?_)) <;> ((refine zI (i := 22) rfl ?_; (refine zH (k := ?_)) <;> (refine zD ?_)) <;> (refine zx (hK _ _ ?_); clear hK K))))))))))))); (case' tq41 => ((refine zI (i := 19) rfl ?_; (refine zk (k' := ?_)) <;> (refine zD ?_)) <;> (refine z1 ?tp44 ?tq44; (case' tp44 => ((refine zI (i := 8) rfl ?_; (refine zk (k' := ?_)) <;> (refine zD ?_)) <;> (refine z1 ?tp45 ?tq45; (case' tp45 => ((refine zI (i := 9) rfl ?_; ((refine zt (k' := ?_); rw [g1])) <;> (refine zD ?_)) <;> ((refine zI (i := 10) rfl ?_; (refine zl (k' := ?_)) <;> (refine zD ?_)) <;> ((refine zI (i := 20) rfl ?_; ((refine zt (k' := ?_); rw [g2])) <;> (refine zD ?_)) <;> ((refine zI (i := 21) rfl ?_; ((refine zl (k' := ?_); rw [g3])) <;> (refine zD ?_)) <;> ((refine zI (i := 22) rfl ?_; (refine zH (k := ?_)) <;> (refine zD ?_)) <;> (refine zx (hK _ _ ?_); clear hK K))))))); (case' tq45 => ((refine zI (i := 20) rfl ?_; ((refine zt (k' := ?_); rw [g2])) <;> (refine zD ?_)) <;> ((refine zI (i := 9) rfl ?_; ((refine zt (k' := ?_); rw [g1])) <;> (refine zD ?_)) <;> ((refine zI (i := 10) rfl ?_; (refine zl (k' := ?_)) <;> (refine zD ?_)) <;> ((refine zI (i := 21) rfl ?_; ((refine zl (k' := ?_); rw [g3])) <;> (refine zD ?_)) <;> ((refine zI (i := 22) rfl ?_; (refine zH (k := ?_)) <;> (refine zD ?_)) <;> (refine zx (hK _ _ ?_); clear hK K)))))))))); (case' tq44 => ((refine zI (i := 20) rfl ?_; ((refine zt (k' := ?_); rw [g2])) <;> (refine zD ?_)) <;> ((refine zI (i := 8) rfl ?_; (refine zk (k' := ?_)) <;> (refine zD ?_)) <;> ((refine zI (i := 9) rfl ?_; ((refine zt (k' := ?_); rw [g1])) <;> (refine zD ?_)) <;> ((refine zI (i := 10) rfl ?_; (refine zl (k' := ?_)) <;> (refine zD ?_)) <;> ((refine zI (i := 21) rfl ?_; ((refine zl (k' := ?_); rw [g3])) <;> (refine zD ?_)) <;> ((refine zI (i := 22) rfl ?_; (refine zH (k := ?_)) <;> (refine zD ?_)) <;> (refine zx (hK _ _ ?_); clear hK K))))))))))))))))); (case' tq36 => ((refine zI (i := 18) rfl ?_; ((refine z4 (v := .string x.v.d) (j := j * 5 + 4) (hq := by simp [Addr.add]; split <;> simp_all <;> omega) (hr := h1.any) (hv := prC_cell (r := 4) hx (by omega) rfl) (k := ?_))) <;> (refine zD ?_)) <;> (refine z1 ?tp46 ?tq46; (case' tp46 => ((refine zI (i := 7) rfl ?_; ((refine z4 (v := .string x.k) (j := j * 5) (hq := by simp [Addr.add]) (hr := h1.any) (hv := by simpa using prC_cell (r := 0) hx (by omega) rfl) (k := ?_))) <;> (refine zD ?_)) <;> (refine z1 ?tp47 ?tq47; (case' tp47 => ((refine zI (i := 8) rfl ?_; (refine zk (k' := ?_)) <;> (refine zD ?_)) <;> (refine z1 ?tp48 ?tq48; (case' tp48 => ((refine zI (i := 9) rfl ?_; ((refine zt (k' := ?_); rw [g1])) <;> (refine zD ?_)) <;> ((refine zI (i := 10) rfl ?_; (refine zl (k' := ?_)) <;> (refine zD ?_)) <;> ((refine zI (i := 19) rfl ?_; (refine zk (k' := ?_)) <;> (refine zD ?_)) <;> ((refine zI (i := 20) rfl ?_; ((refine zt (k' := ?_); rw [g2])) <;> (refine zD ?_)) <;> ((refine zI (i := 21) rfl ?_; ((refine zl (k' := ?_); rw [g3])) <;> (refine zD ?_)) <;> ((refine zI (i := 22) rfl ?_; (refine zH (k := ?_)) <;> (refine zD ?_)) <;> (refine zx (hK _ _ ?_); clear hK K)))))))); (case' tq48 => ((refine zI (i := 19) rfl ?_; (refine zk (k' := ?_)) <;> (refine zD ?_)) <;> (refine z1 ?tp49 ?tq49; (case' tp49 => ((refine zI (i := 9) rfl ?_; ((refine zt (k' := ?_); rw [g1])) <;> (refine zD ?_)) <;> ((refine zI (i := 10) rfl ?_; (refine zl (k' := ?_)) <;> (refine zD ?_)) <;> ((refine zI (i := 20) rfl ?_; ((refine zt (k' := ?_); rw [g2])) <;> (refine zD ?_)) <;> ((refine zI (i := 21) rfl ?_; ((refine zl (k' := ?_); rw [g3])) <;> (refine zD ?_)) <;> ((refine zI (i := 22) rfl ?_; (refine zH (k := ?_)) <;> (refine zD ?_)) <;> (refine zx (hK _ _ ?_); clear hK K))))))); (case' tq49 => ((refine zI (i := 20) rfl ?_; ((refine zt (k' := ?_); rw [g2])) <;> (refine zD ?_)) <;> ((refine zI (i := 9) rfl ?_; ((refine zt (k' := ?_); rw [g1])) <;> (refine zD ?_)) <;> ((refine zI (i := 10) rfl ?_; (refine zl (k' := ?_)) <;> (refine zD ?_)) <;> ((refine zI (i := 21) rfl ?_; ((refine zl (k' := ?_); rw [g3])) <;> (refine zD ?_)) <;> ((refine zI (i := 22) rfl ?_; (refine zH (k := ?_)) <;> (refine zD ?_)) <;> (refine zx (hK _ _ ?_); clear hK K))))))))))))); (case' tq47 => ((refine zI (i := 19) rfl ?_; (refine zk (k' := ?_)) <;> (refine zD ?_)) <;> (refine z1 ?tp50 ?tq50; (case' tp50 => ((refine zI (i := 8) rfl ?_; (refine zk (k' := ?_)) <;> (refine zD ?_)) <;> (refine z1 ?tp51 ?tq51; (case' tp51 => ((refine zI (i := 9) rfl ?_; ((refine zt (k' := ?_); rw [g1])) <;> (refine zD ?_)) <;> ((refine zI (i := 10) rfl ?_; (refine zl (k' := ?_)) <;> (refine zD ?_)) <;> ((refine zI (i := 20) rfl ?_; ((refine zt (k' := ?_); rw [g2])) <;> (refine zD ?_)) <;> ((refine zI (i := 21) rfl ?_; ((refine zl (k' := ?_); rw [g3])) <;> (refine zD ?_)) <;> ((refine zI (i := 22) rfl ?_; (refine zH (k := ?_)) <;> (refine zD ?_)) <;> (refine zx (hK _ _ ?_); clear hK K))))))); (case' tq51 => ((refine zI (i := 20) rfl ?_; ((refine zt (k' := ?_); rw [g2])) <;> (refine zD ?_)) <;> ((refine zI (i := 9) rfl ?_; ((refine zt (k' := ?_); rw [g1])) <;> (refine zD ?_)) <;> ((refine zI (i := 10) rfl ?_; (refine zl (k' := ?_)) <;> (refine zD ?_)) <;> ((refine zI (i := 21) rfl ?_; ((refine zl (k' := ?_); rw [g3])) <;> (refine zD ?_)) <;> ((refine zI (i := 22) rfl ?_; (refine zH (k := ?_)) <;> (refine zD ?_)) <;> (refine zx (hK _ _ ?_); clear hK K)))))))))); (case' tq50 => ((refine zI (i := 20) rfl ?_; ((refine zt (k' := ?_); rw [g2])) <;> (refine zD ?_)) <;> ((refine zI (i := 8) rfl ?_; (refine zk (k' := ?_)) <;> (refine zD ?_)) <;> ((refine zI (i := 9) rfl ?_; ((refine zt (k' := ?_); rw [g1])) <;> (refine zD ?_)) <;> ((refine zI (i := 10) rfl ?_; (refine zl (k' := ?_)) <;> (refine zD ?_)) <;> ((refine zI (i := 21) rfl ?_; ((refine zl (k' := ?_); rw [g3])) <;> (refine zD ?_)) <;> ((refine zI (i := 22) rfl ?_; (refine zH (k := ?_)) <;> (refine zD ?_)) <;> (refine zx (hK _ _ ?_); clear hK K)))))))))))))); (case' tq46 => ((refine zI (i := 19) rfl ?_; (refine zk (k' := ?_)) <;> (refine zD ?_)) <;> (refine z1 ?tp52 ?tq52; (case' tp52 => ((refine zI (i := 7) rfl ?_; ((refine z4 (v := .string x.k) (j := j * 5) (hq := by simp [Addr.add]) (hr := h1.any) (hv := by simpa using prC_cell (r := 0) hx (by omega) rfl) (k := ?_))) <;> (refine zD ?_)) <;> (refine z1 ?tp53 ?tq53; (case' tp53 => ((refine zI (i := 8) rfl ?_; (refine zk (k' := ?_)) <;> (refine zD ?_)) <;> (refine z1 ?tp54 ?tq54; (case' tp54 => ((refine zI (i := 9) rfl ?_; ((refine zt (k' := ?_); rw [g1])) <;> (refine zD ?_)) <;> ((refine zI (i := 10) rfl ?_; (refine zl (k' := ?_)) <;> (refine zD ?_)) <;> ((refine zI (i := 20) rfl ?_; ((refine zt (k' := ?_); rw [g2])) <;> (refine zD ?_)) <;> ((refine zI (i := 21) rfl ?_; ((refine zl (k' := ?_); rw [g3])) <;> (refine zD ?_)) <;> ((refine zI (i := 22) rfl ?_; (refine zH (k := ?_)) <;> (refine zD ?_)) <;> (refine zx (hK _ _ ?_); clear hK K))))))); (case' tq54 => ((refine zI (i := 20) rfl ?_; ((refine zt (k' := ?_); rw [g2])) <;> (refine zD ?_)) <;> ((refine zI (i := 9) rfl ?_; ((refine zt (k' := ?_); rw [g1])) <;> (refine zD ?_)) <;> ((refine zI (i := 10) rfl ?_; (refine zl (k' := ?_)) <;> (refine zD ?_)) <;> ((refine zI (i := 21) rfl ?_; ((refine zl (k' := ?_); rw [g3])) <;> (refine zD ?_)) <;> ((refine zI (i := 22) rfl ?_; (refine zH (k := ?_)) <;> (refine zD ?_)) <;> (refine zx (hK _ _ ?_); clear hK K)))))))))); (case' tq53 => ((refine zI (i := 20) rfl ?_; ((refine zt (k' := ?_); rw [g2])) <;> (refine zD ?_)) <;> ((refine zI (i := 8) rfl ?_; (refine zk (k' := ?_)) <;> (refine zD ?_)) <;> ((refine zI (i := 9) rfl ?_; ((refine zt (k' := ?_); rw [g1])) <;> (refine zD ?_)) <;> ((refine zI (i := 10) rfl ?_; (refine zl (k' := ?_)) <;> (refine zD ?_)) <;> ((refine zI (i := 21) rfl ?_; ((refine zl (k' := ?_); rw [g3])) <;> (refine zD ?_)) <;> ((refine zI (i := 22) rfl ?_; (refine zH (k := ?_)) <;> (refine zD ?_)) <;> (refine zx (hK _ _ ?_); clear hK K))))))))))); (case' tq52 => ((refine zI (i := 20) rfl ?_; ((refine zt (k' := ?_); rw [g2])) <;> (refine zD ?_)) <;> ((refine zI (i := 7) rfl ?_; ((refine z4 (v := .string x.k) (j := j * 5) (hq := by simp [Addr.add]) (hr := h1.any) (hv := by simpa using prC_cell (r := 0) hx (by omega) rfl) (k := ?_))) <;> (refine zD ?_)) <;> ((refine zI (i := 8) rfl ?_; (refine zk (k' := ?_)) <;> (refine zD ?_)) <;> ((refine zI (i := 9) rfl ?_; ((refine zt (k' := ?_); rw [g1])) <;> (refine zD ?_)) <;> ((refine zI (i := 10) rfl ?_; (refine zl (k' := ?_)) <;> (refine zD ?_)) <;> ((refine zI (i := 21) rfl ?_; ((refine zl (k' := ?_); rw [g3])) <;> (refine zD ?_)) <;> ((refine zI (i := 22) rfl ?_; (refine zH (k := ?_)) <;> (refine zD ?_)) <;> (refine zx (hK _ _ ?_); clear hK K)))))))))))))))))))); (case' tq35 => ((refine zI (i := 18) rfl ?_; ((refine z4 (v := .string x.v.d) (j := j * 5 + 4) (hq := by simp [Addr.add]; split <;> simp_all <;> omega) (hr := h1.any) (hv := prC_cell (r := 4) hx (by omega) rfl) (k := ?_))) <;> (refine zD ?_)) <;> (refine z1 ?tp55 ?tq55; (case' tp55 => ((refine zI (i := 3) rfl ?_; (refine zM (k := ?_)) <;> (refine zD ?_)) <;> ((refine zI (i := 5) rfl ?_; ((refine zq (k' := ?_))) <;> (refine zD ?_)) <;> ((refine zI (i := 6) rfl ?_; ((refine zz (k := ?_))) <;> (refine zD ?_)) <;> (refine z1 ?tp56 ?tq56; (case' tp56 => ((refine zI (i := 7) rfl ?_; ((refine z4 (v := .string x.k) (j := j * 5) (hq := by simp [Addr.add]) (hr := h1.any) (hv := by simpa using prC_cell (r := 0) hx (by omega) rfl) (k := ?_))) <;> (refine zD ?_)) <;> (refine z1 ?tp57 ?tq57; (case' tp57 => ((refine zI (i := 8) rfl ?_; (refine zk (k' := ?_)) <;> (refine zD ?_)) <;> (refine z1 ?tp58 ?tq58; (case' tp58 => ((refine zI (i := 9) rfl ?_; ((refine zt (k' := ?_); rw [g1])) <;> (refine zD ?_)) <;> ((refine zI (i := 10) rfl ?_; (refine zl (k' := ?_)) <;> (refine zD ?_)) <;> ((refine zI (i := 19) rfl ?_; (refine zk (k' := ?_)) <;> (refine zD ?_)) <;> ((refine zI (i := 20) rfl ?_; ((refine zt (k' := ?_); rw [g2])) <;> (refine zD ?_)) <;> ((refine zI (i := 21) rfl ?_; ((refine zl (k' := ?_); rw [g3])) <;> (refine zD ?_)) <;> ((refine zI (i := 22) rfl ?_; (refine zH (k := ?_)) <;> (refine zD ?_)) <;> (refine zx (hK _ _ ?_); clear hK K)))))))); (case' tq58 => ((refine zI (i := 19) rfl ?_; (refine zk (k' := ?_)) <;> (refine zD ?_)) <;> (refine z1 ?tp59 ?tq59; (case' tp59 => ((refine zI (i := 9) rfl ?_; ((refine zt (k' := ?_); rw [g1])) <;> (refine zD ?_)) <;> ((refine zI (i := 10) rfl ?_; (refine zl (k' := ?_)) <;> (refine zD ?_)) <;> ((refine zI (i := 20) rfl ?_; ((refine zt (k' := ?_); rw [g2])) <;> (refine zD ?_)) <;> ((refine zI (i := 21) rfl ?_; ((refine zl (k' := ?_); rw [g3])) <;> (refine zD ?_)) <;> ((refine zI (i := 22) rfl ?_; (refine zH (k := ?_)) <;> (refine zD ?_)) <;> (refine zx (hK _ _ ?_); clear hK K))))))); (case' tq59 => ((refine zI (i := 20) rfl ?_; ((refine zt (k' := ?_); rw [g2])) <;> (refine zD ?_)) <;> ((refine zI (i := 9) rfl ?_; ((refine zt (k' := ?_); rw [g1])) <;> (refine zD ?_)) <;> ((refine zI (i := 10) rfl ?_; (refine zl (k' := ?_)) <;> (refine zD ?_)) <;> ((refine zI (i := 21) rfl ?_; ((refine zl (k' := ?_); rw [g3])) <;> (refine zD ?_)) <;> ((refine zI (i := 22) rfl ?_; (refine zH (k := ?_)) <;> (refine zD ?_)) <;> (refine zx (hK _ _ ?_); clear hK K))))))))))))); (case' tq57 => ((refine zI (i := 19) rfl ?_; (refine zk (k' := ?_)) <;> (refine zD ?_)) <;> (refine z1 ?tp60 ?tq60; (case' tp60 => ((refine zI (i := 8) rfl ?_; (refine zk (k' := ?_)) <;> (refine zD ?_)) <;> (refine z1 ?tp61 ?tq61; (case' tp61 => ((refine zI (i := 9) rfl ?_; ((refine zt (k' := ?_); rw [g1])) <;> (refine zD ?_)) <;> ((refine zI (i := 10) rfl ?_; (refine zl (k' := ?_)) <;> (refine zD ?_)) <;> ((refine zI (i := 20) rfl ?_; ((refine zt (k' := ?_); rw [g2])) <;> (refine zD ?_)) <;> ((refine zI (i := 21) rfl ?_; ((refine zl (k' := ?_); rw [g3])) <;> (refine zD ?_)) <;> ((refine zI (i := 22) rfl ?_; (refine zH (k := ?_)) <;> (refine zD ?_)) <;> (refine zx (hK _ _ ?_); clear hK K))))))); (case' tq61 => ((refine zI (i := 20) rfl ?_; ((refine zt (k' := ?_); rw [g2])) <;> (refine zD ?_)) <;> ((refine zI (i := 9) rfl ?_; ((refine zt (k' := ?_); rw [g1])) <;> (refine zD ?_)) <;> ((refine zI (i := 10) rfl ?_; (refine zl (k' := ?_)) <;> (refine zD ?_)) <;> ((refine zI (i := 21) rfl ?_; ((refine zl (k' := ?_); rw [g3])) <;> (refine zD ?_)) <;> ((refine zI (i := 22) rfl ?_; (refine zH (k := ?_)) <;> (refine zD ?_)) <;> (refine zx (hK _ _ ?_); clear hK K)))))))))); (case' tq60 => ((refine zI (i := 20) rfl ?_; ((refine zt (k' := ?_); rw [g2])) <;> (refine zD ?_)) <;> ((refine zI (i := 8) rfl ?_; (refine zk (k' := ?_)) <;> (refine zD ?_)) <;> ((refine zI (i := 9) rfl ?_; ((refine zt (k' := ?_); rw [g1])) <;> (refine zD ?_)) <;> ((refine zI (i := 10) rfl ?_; (refine zl (k' := ?_)) <;> (refine zD ?_)) <;> ((refine zI (i := 21) rfl ?_; ((refine zl (k' := ?_); rw [g3])) <;> (refine zD ?_)) <;> ((refine zI (i := 22) rfl ?_; (refine zH (k := ?_)) <;> (refine zD ?_)) <;> (refine zx (hK _ _ ?_); clear hK K)))))))))))))); (case' tq56 => ((refine zI (i := 19) rfl ?_; (refine zk (k' := ?_)) <;> (refine zD ?_)) <;> (refine z1 ?tp62 ?tq62; (case' tp62 => ((refine zI (i := 7) rfl ?_; ((refine z4 (v := .string x.k) (j := j * 5) (hq := by simp [Addr.add]) (hr := h1.any) (hv := by simpa using prC_cell (r := 0) hx (by omega) rfl) (k := ?_))) <;> (refine zD ?_)) <;> (refine z1 ?tp63 ?tq63; (case' tp63 => ((refine zI (i := 8) rfl ?_; (refine zk (k' := ?_)) <;> (refine zD ?_)) <;> (refine z1 ?tp64 ?tq64; (case' tp64 => ((refine zI (i := 9) rfl ?_; ((refine zt (k' := ?_); rw [g1])) <;> (refine zD ?_)) <;> ((refine zI (i := 10) rfl ?_; (refine zl (k' := ?_)) <;> (refine zD ?_)) <;> ((refine zI (i := 20) rfl ?_; ((refine zt (k' := ?_); rw [g2])) <;> (refine zD ?_)) <;> ((refine zI (i := 21) rfl ?_; ((refine zl (k' := ?_); rw [g3])) <;> (refine zD ?_)) <;> ((refine zI (i := 22) rfl ?_; (refine zH (k := ?_)) <;> (refine zD ?_)) <;> (refine zx (hK _ _ ?_); clear hK K))))))); (case' tq64 => ((refine zI (i := 20) rfl ?_; ((refine zt (k' := ?_); rw [g2])) <;> (refine zD ?_)) <;> ((refine zI (i := 9) rfl ?_; ((refine zt (k' := ?_); rw [g1])) <;> (refine zD ?_)) <;> ((refine zI (i := 10) rfl ?_; (refine zl (k' := ?_)) <;> (refine zD ?_)) <;> ((refine zI (i := 21) rfl ?_; ((refine zl (k' := ?_); rw [g3])) <;> (refine zD ?_)) <;> ((refine zI (i := 22) rfl ?_; (refine zH (k := ?_)) <;> (refine zD ?_)) <;> (refine zx (hK _ _ ?_); clear hK K)))))))))); (case' tq63 => ((refine zI (i := 20) rfl ?_; ((refine zt (k' := ?_); rw [g2])) <;> (refine zD ?_)) <;> ((refine zI (i := 8) rfl ?_; (refine zk (k' := ?_)) <;> (refine zD ?_)) <;> ((refine zI (i := 9) rfl ?_; ((refine zt (k' := ?_); rw [g1])) <;> (refine zD ?_)) <;> ((refine zI (i := 10) rfl ?_; (refine zl (k' := ?_)) <;> (refine zD ?_)) <;> ((refine zI (i := 21) rfl ?_; ((refine zl (k' := ?_); rw [g3])) <;> (refine zD ?_)) <;> ((refine zI (i := 22) rfl ?_; (refine zH (k := ?_)) <;> (refine zD ?_)) <;> (refine zx (hK _ _ ?_); clear hK K))))))))))); (case' tq62 => ((refine zI (i := 20) rfl ?_; ((refine zt (k' := ?_); rw [g2])) <;> (refine zD ?_)) <;> ((refine zI (i := 7) rfl ?_; ((refine z4 (v := .string x.k) (j := j * 5) (hq := by simp [Addr.add]) (hr := h1.any) (hv := by simpa using prC_cell (r := 0) hx (by omega) rfl) (k := ?_))) <;> (refine zD ?_)) <;> ((refine zI (i := 8) rfl ?_; (refine zk (k' := ?_)) <;> (refine zD ?_)) <;> ((refine zI (i := 9) rfl ?_; ((refine zt (k' := ?_); rw [g1])) <;> (refine zD ?_)) <;> ((refine zI (i := 10) rfl ?_; (refine zl (k' := ?_)) <;> (refine zD ?_)) <;> ((refine zI (i := 21) rfl ?_; ((refine zl (k' := ?_); rw [g3])) <;> (refine zD ?_)) <;> ((refine zI (i := 22) rfl ?_; (refine zH (k := ?_)) <;> (refine zD ?_)) <;> (refine zx (hK _ _ ?_); clear hK K))))))))))))))))); (case' tq55 => ((refine zI (i := 19) rfl ?_; (refine zk (k' := ?_)) <;> (refine zD ?_)) <;> (refine z1 ?tp65 ?tq65; (case' tp65 => ((refine zI (i := 3) rfl ?_; (refine zM (k := ?_)) <;> (refine zD ?_)) <;> ((refine zI (i := 5) rfl ?_; ((refine zq (k' := ?_))) <;> (refine zD ?_)) <;> ((refine zI (i := 6) rfl ?_; ((refine zz (k := ?_))) <;> (refine zD ?_)) <;> (refine z1 ?tp66 ?tq66; (case' tp66 => ((refine zI (i := 7) rfl ?_; ((refine z4 (v := .string x.k) (j := j * 5) (hq := by simp [Addr.add]) (hr := h1.any) (hv := by simpa using prC_cell (r := 0) hx (by omega) rfl) (k := ?_))) <;> (refine zD ?_)) <;> (refine z1 ?tp67 ?tq67; (case' tp67 => ((refine zI (i := 8) rfl ?_; (refine zk (k' := ?_)) <;> (refine zD ?_)) <;> (refine z1 ?tp68 ?tq68; (case' tp68 => ((refine zI (i := 9) rfl ?_; ((refine zt (k' := ?_); rw [g1])) <;> (refine zD ?_)) <;> ((refine zI (i := 10) rfl ?_; (refine zl (k' := ?_)) <;> (refine zD ?_)) <;> ((refine zI (i := 20) rfl ?_; ((refine zt (k' := ?_); rw [g2])) <;> (refine zD ?_)) <;> ((refine zI (i := 21) rfl ?_; ((refine zl (k' := ?_); rw [g3])) <;> (refine zD ?_)) <;> ((refine zI (i := 22) rfl ?_; (refine zH (k := ?_)) <;> (refine zD ?_)) <;> (refine zx (hK _ _ ?_); clear hK K))))))); (case' tq68 => ((refine zI (i := 20) rfl ?_; ((refine zt (k' := ?_); rw [g2])) <;> (refine zD ?_)) <;> ((refine zI (i := 9) rfl ?_; ((refine zt (k' := ?_); rw [g1])) <;> (refine zD ?_)) <;> ((refine zI (i := 10) rfl ?_; (refine zl (k' := ?_)) <;> (refine zD ?_)) <;> ((refine zI (i := 21) rfl ?_; ((refine zl (k' := ?_); rw [g3])) <;> (refine zD ?_)) <;> ((refine zI (i := 22) rfl ?_; (refine zH (k := ?_)) <;> (refine zD ?_)) <;> (refine zx (hK _ _ ?_); clear hK K)))))))))); (case' tq67 => ((refine zI (i := 20) rfl ?_; ((refine zt (k' := ?_); rw [g2])) <;> (refine zD ?_)) <;> ((refine zI (i := 8) rfl ?_; (refine zk (k' := ?_)) <;> (refine zD ?_)) <;> ((refine zI (i := 9) rfl ?_; ((refine zt (k' := ?_); rw [g1])) <;> (refine zD ?_)) <;> ((refine zI (i := 10) rfl ?_; (refine zl (k' := ?_)) <;> (refine zD ?_)) <;> ((refine zI (i := 21) rfl ?_; ((refine zl (k' := ?_); rw [g3])) <;> (refine zD ?_)) <;> ((refine zI (i := 22) rfl ?_; (refine zH (k := ?_)) <;> (refine zD ?_)) <;> (refine zx (hK _ _ ?_); clear hK K))))))))))); (case' tq66 => ((refine zI (i := 20) rfl ?_; ((refine zt (k' := ?_); rw [g2])) <;> (refine zD ?_)) <;> ((refine zI (i := 7) rfl ?_; ((refine z4 (v := .string x.k) (j := j * 5) (hq := by simp [Addr.add]) (hr := h1.any) (hv := by simpa using prC_cell (r := 0) hx (by omega) rfl) (k := ?_))) <;> (refine zD ?_)) <;> ((refine zI (i := 8) rfl ?_; (refine zk (k' := ?_)) <;> (refine zD ?_)) <;> ((refine zI (i := 9) rfl ?_; ((refine zt (k' := ?_); rw [g1])) <;> (refine zD ?_)) <;> ((refine zI (i := 10) rfl ?_; (refine zl (k' := ?_)) <;> (refine zD ?_)) <;> ((refine zI (i := 21) rfl ?_; ((refine zl (k' := ?_); rw [g3])) <;> (refine zD ?_)) <;> ((refine zI (i := 22) rfl ?_; (refine zH (k := ?_)) <;> (refine zD ?_)) <;> (refine zx (hK _ _ ?_); clear hK K)))))))))))))); (case' tq65 => ((refine zI (i := 20) rfl ?_; ((refine zt (k' := ?_); rw [g2])) <;> (refine zD ?_)) <;> ((refine zI (i := 3) rfl ?_; (refine zM (k := ?_)) <;> (refine zD ?_)) <;> ((refine zI (i := 5) rfl ?_; ((refine zq (k' := ?_))) <;> (refine zD ?_)) <;> ((refine zI (i := 6) rfl ?_; ((refine zz (k := ?_))) <;> (refine zD ?_)) <;> ((refine zI (i := 7) rfl ?_; ((refine z4 (v := .string x.k) (j := j * 5) (hq := by simp [Addr.add]) (hr := h1.any) (hv := by simpa using prC_cell (r := 0) hx (by omega) rfl) (k := ?_))) <;> (refine zD ?_)) <;> ((refine zI (i := 8) rfl ?_; (refine zk (k' := ?_)) <;> (refine zD ?_)) <;> ((refine zI (i := 9) rfl ?_; ((refine zt (k' := ?_); rw [g1])) <;> (refine zD ?_)) <;> ((refine zI (i := 10) rfl ?_; (refine zl (k' := ?_)) <;> (refine zD ?_)) <;> ((refine zI (i := 21) rfl ?_; ((refine zl (k' := ?_); rw [g3])) <;> (refine zD ?_)) <;> ((refine zI (i := 22) rfl ?_; (refine zH (k := ?_)) <;> (refine zD ?_)) <;> (refine zx (hK _ _ ?_); clear hK K))))))))))))))))))))))))))))))))))
      | (refine zc (ht := (fun ht => ?_)) (hf := (fun ht => ?_)) <;> (try simp at ht) <;> (try (exfalso; omega))))
    all_goals exact ⟨j + 1, by omega, by omega, ⟨rfl, rfl, int_succ j, trivial⟩, (by (repeat (first | exact Ent.refl _ | exact Ent.nil | refine Ent.take (by (repeat (first | exact Out.head | apply Out.tail)); (first | done | fail)) ?_ | refine Ent.drop1 ?_)); (first | done | fail))⟩
  obtain rfl : j = r.sn.ps.length := by omega
  repeat' (first
    | refine zi ?_
    | refine zK ?_
    | refine zQ (h := ?_)
    | refine zU (h := ?_)
    | refine zj ?_
    | refine zR ?_
    | refine zW ?_
    | refine zN ?_
    | refine zV ?_
    | refine ze ?_
    | refine zP ?_
    | refine zY ?_
    | refine zS rfl ?_
    | refine zd ?_
    | refine zX ?_
    | refine zO ?_
    | refine zT ?_
    | refine zL ?_
    | (refine zC (id := 5) ?_; intro K hK; refine zF (k := ?_); refine zB (k := ?_); refine zB (k := ?_); refine zM (k := ?_); refine zn (k' := ?_); refine z6 (k' := ?_); (refine zD (hK _ _ ?_); clear hK K))
    | (refine zC (id := 8) ?_; intro K hK; refine zF (k := ?_); refine yH (k' := ?_); refine zH (k := ?_); (refine zD (hK _ _ ?_); clear hK K))
    | (refine zc (ht := (fun ht => ?_)) (hf := (fun ht => ?_)) <;> (try simp at ht) <;> (try (exfalso; omega))))
  refine ⟨Or.inr rfl, _, [], (by (repeat (first | exact Ent.refl _ | exact Ent.nil | refine Ent.take (by (repeat (first | exact Out.head | apply Out.tail)); (first | done | fail)) ?_ | refine Ent.drop1 ?_)); (first | done | fail)), res1 rfl rfl, congrArg Value.bool ?_, rfl⟩
  unfold lightV
  have e1 : decide (1000 < r.sn.ps.length) = false := decide_eq_false (by omega)
  have e2 : decide (1000 < r.sn.ss.length) = false := decide_eq_false (by omega)
  rw [e1, e2]
  simp only [Bool.or_false, Bool.not_false, Bool.true_and]
  exact decide_eq_decide.2 (by omega)
theorem snap_spec (A0 : List Asn) (b : SnX) (hps : b.ps.length ≤ 900000) (hss : b.ss.length ≤ 900000) (pa : Option Addr) (pc : Nat) (sa : Option Addr) (sc : Nat) (h1 : RdS Tryz.prog B A0 5 pa b.ps.length pc (prC b.ps)) (h2 : RdS Tryz.prog B A0 4 sa b.ss.length sc (ssC b.ss)) :
    Fspec Tryz.prog B 36 #[.agg #[.int .i64 b.e, .int .i64 b.i, .slice pa b.ps.length pc, .slice sa b.ss.length sc]] A0
      (fun v A' => ∃ a1 c1 a2 c2, v = .agg #[.int .i64 b.e, .int .i64 b.i, .slice a1 b.ps.length c1, .slice a2 b.ss.length c2] ∧ A' = own a2 b.ss.length c2 4 (ssC b.ss) 111 :: own a1 b.ps.length c1 5 (prC b.ps) 57 :: A0) := by
  refine spec_of (args := [_]) Tryz.func36 rfl rfl rfl ?_
  repeat' (first
    | refine zi ?_
    | refine zK ?_
    | refine zQ (h := ?_)
    | refine zU (h := ?_)
    | refine zj ?_
    | refine zR ?_
    | refine zW ?_
    | refine zN ?_
    | refine zV ?_
    | refine ze ?_
    | refine zP ?_
    | refine zY ?_
    | refine zS rfl ?_
    | refine zd ?_
    | refine zX ?_
    | refine zO ?_
    | refine zT ?_
    | refine zL ?_
    | (refine zC (id := 0) ?_; intro K hK; ((refine zm (k := ?_); intro r1)) <;> (((refine zw (k := ?_); intro r2)) <;> ((refine zD (hK _ _ ?_); clear hK K))))
    | (refine zC (id := 1) ?_; intro K hK; ((refine yT (k := ?_); intro r3)) <;> (refine zB (k := ?_); refine zM (k := ?_); ((refine yN (hsrc := RdS.under (RdS.under (RdS.under h1))) (hvc := prC_all _) (hbd := by omega) (k := ?_); intro a6 c6)) <;> (refine zB (k := ?_); refine zy (ho := rfl) (k := ?_); (refine zD (hK _ _ ?_); clear hK K))))
    | (refine zC (id := 2) ?_; intro K hK; ((refine yT (k := ?_); intro r8)) <;> (refine zB (k := ?_); refine zM (k := ?_); ((refine yN (hsrc := RdS.under (RdS.under (RdS.under (RdS.under h2)))) (hvc := ssC_all _) (hbd := by omega) (k := ?_); intro a11 c11)) <;> (refine zB (k := ?_); refine zy (ho := rfl) (k := ?_); (refine zD (hK _ _ ?_); clear hK K))))
    | (refine zC (id := 3) ?_; intro K hK; refine zo (k := ?_); refine zh (ho' := rfl) (k := ?_); (refine zD (hK _ _ ?_); clear hK K))
    | (refine zc (ht := (fun ht => ?_)) (hf := (fun ht => ?_)) <;> (try simp at ht) <;> (try (exfalso; omega))))
  refine ⟨Or.inr rfl, _, own a11 b.ss.length c11 4 (ssC b.ss) 111 :: own a6 b.ps.length c6 5 (prC b.ps) 57 :: A0, ?_, resG rfl (by (repeat (first | exact ResL.nil | apply ResL.tmp (by (repeat (first | exact Ev.here | exact Ev.const | exact Ev.arg rfl | apply Ev.there rfl | exact Ev.none rfl | exact Ev.func | exact Ev.var)); (first | done | fail)) | apply ResL.agg (by (repeat (first | exact Ev.here | exact Ev.const | exact Ev.arg rfl | apply Ev.there rfl | exact Ev.none rfl | exact Ev.func | exact Ev.var)); (first | done | fail)) (by (repeat (first | exact Rd.head | exact Rd.base (by assumption) | apply Rd.tail)); (first | done | fail)) (by (repeat (first | exact TakeR.nil | apply TakeR.take | apply TakeR.skip)); (first | done | fail)) | apply ResL.cell (by (repeat (first | exact Ev.here | exact Ev.const | exact Ev.arg rfl | apply Ev.there rfl | exact Ev.none rfl | exact Ev.func | exact Ev.var)); (first | done | fail)) (by (repeat (first | exact Rd.head | exact Rd.base (by assumption) | apply Rd.tail)); (first | done | fail)) rfl)); (first | done | fail)) rfl, a6, c6, a11, c11, ?_, rfl⟩
  · simp only [Nat.zero_add, List.nil_append]
    (repeat (first | exact Ent.refl _ | exact Ent.nil | refine Ent.take (by (repeat (first | exact Out.head | apply Out.tail)); (first | done | fail)) ?_ | refine Ent.drop1 ?_))
  · simp only [Nat.zero_add]; rfl
theorem plain_spec (r : RcG) (hps : r.sn.ps.length ≤ 900000) (hss : r.sn.ss.length ≤ 900000) (pa : Option Addr) (pc : Nat) (sa : Option Addr) (sc : Nat) (h1 : RdS Tryz.prog B [] 5 pa r.sn.ps.length pc (prC r.sn.ps)) (h2 : RdS Tryz.prog B [] 4 sa r.sn.ss.length sc (ssC r.sn.ss)) :
    Fspec Tryz.prog B 11 #[.agg (r.c pa pc sa sc).toArray] []
      (fun v A' => ∃ a1 c1 a2 c2, v = .agg (r.c a1 c1 a2 c2).toArray ∧ A' = [own a2 r.sn.ss.length c2 4 (ssC r.sn.ss) 111, own a1 r.sn.ps.length c1 5 (prC r.sn.ps) 57]) := by
  refine spec_of (args := [_]) Tryz.func11 rfl rfl rfl ?_
  simp only [RcG.c]
  repeat' (first
    | refine zi ?_
    | refine zK ?_
    | refine zQ (h := ?_)
    | refine zU (h := ?_)
    | refine zj ?_
    | refine zR ?_
    | refine zW ?_
    | refine zN ?_
    | refine zV ?_
    | refine ze ?_
    | refine zP ?_
    | refine zY ?_
    | refine zS rfl ?_
    | refine zd ?_
    | refine zX ?_
    | refine zO ?_
    | refine zT ?_
    | refine zL ?_
    | (refine zC (id := 0) ?_; intro K hK; ((refine zm (k := ?_); intro r1)) <;> (((refine zw (k := ?_); intro r2)) <;> ((refine zD (hK _ _ ?_); clear hK K))))
    | ((refine yY (id := 1) (M := ([cb r1 (r.c pa pc sa sc) 47])) (Ls := [4, 6, 8, 10, 12]) (t := (.step 0 (.step 1 (.step 2 (.step 3 (.step 4 (.step 5 (.step 6 (.step 7 (.step 8 (.step 9 (.step 10 (.step 11 (.step 12 .done)))))))))))))) (bad := []) (hok := (by decide +kernel)) (hp := (Pick.perm (by (repeat (first | exact Pick.nil | apply Pick.cons (by (repeat (first | exact Out.head | apply Out.tail)); (first | done | fail)))); (first | done | fail)))) (h := ?_); intro K hK; repeat' (first | refine z1 ?_ ?_ | (refine zI (i := 0) rfl ?_; (refine zB (k := ?_)) <;> (refine zD ?_)) | (refine zI (i := 1) rfl ?_; (refine z2 (k := ?_)) <;> (refine zD ?_)) | (refine zI (i := 2) rfl ?_; (refine zB (k := ?_)) <;> (refine zD ?_)) | (refine zI (i := 3) rfl ?_; (refine yC (k := ?_)) <;> (refine zD ?_)) | (refine zI (i := 4) rfl ?_; (refine zB (k := ?_)) <;> (refine zD ?_)) | (refine zI (i := 5) rfl ?_; (refine yC (k := ?_)) <;> (refine zD ?_)) | (refine zI (i := 6) rfl ?_; (refine zB (k := ?_)) <;> (refine zD ?_)) | (refine zI (i := 7) rfl ?_; (refine z2 (k := ?_)) <;> (refine zD ?_)) | (refine zI (i := 8) rfl ?_; (refine zB (k := ?_)) <;> (refine zD ?_)) | (refine zI (i := 9) rfl ?_; (refine yC (k := ?_)) <;> (refine zD ?_)) | (refine zI (i := 10) rfl ?_; ((refine zb (hs := snap_spec [] r.sn hps hss pa pc sa sc h1 h2) (k := ?_); rintro v A' ⟨a1, c1, a2, c2, rfl, rfl⟩; simp only [List.cons_append, List.nil_append])) <;> (refine zD ?_)) | (refine zI (i := 11) rfl ?_; (refine zr (k := ?_)) <;> (refine zD ?_)) | (refine zI (i := 12) rfl ?_; (refine zh (ho' := rfl) (k := ?_)) <;> (refine zD ?_)) | (refine zx (hK _ _ ?_); clear hK K; try simp only [List.cons_append, List.nil_append]))))
    | (refine zc (ht := (fun ht => ?_)) (hf := (fun ht => ?_)) <;> (try simp at ht) <;> (try (exfalso; omega))))
  all_goals exact ⟨Or.inr rfl, _, [own a2 r.sn.ss.length c2 4 (ssC r.sn.ss) 111, own a1 r.sn.ps.length c1 5 (prC r.sn.ps) 57], (by (repeat (first | exact Ent.refl _ | exact Ent.nil | refine Ent.take (by (repeat (first | exact Out.head | apply Out.tail)); (first | done | fail)) ?_ | refine Ent.drop1 ?_)); (first | done | fail)), resG rfl (by (repeat (first | exact ResL.nil | apply ResL.tmp (by (repeat (first | exact Ev.here | exact Ev.const | exact Ev.arg rfl | apply Ev.there rfl | exact Ev.none rfl | exact Ev.func | exact Ev.var)); (first | done | fail)) | apply ResL.agg (by (repeat (first | exact Ev.here | exact Ev.const | exact Ev.arg rfl | apply Ev.there rfl | exact Ev.none rfl | exact Ev.func | exact Ev.var)); (first | done | fail)) (by (repeat (first | exact Rd.head | exact Rd.base (by assumption) | apply Rd.tail)); (first | done | fail)) (by (repeat (first | exact TakeR.nil | apply TakeR.take | apply TakeR.skip)); (first | done | fail)) | apply ResL.cell (by (repeat (first | exact Ev.here | exact Ev.const | exact Ev.arg rfl | apply Ev.there rfl | exact Ev.none rfl | exact Ev.func | exact Ev.var)); (first | done | fail)) (by (repeat (first | exact Rd.head | exact Rd.base (by assumption) | apply Rd.tail)); (first | done | fail)) rfl)); (first | done | fail)) rfl, a1, c1, a2, c2, rfl, rfl⟩
theorem samePairs_spec (X : Asn) (l : List PrX) (hl : l.length ≤ 1000000) (a : Option Addr) (c : Nat) (b : Option Addr) (d : Nat) (h1 : RdS Tryz.prog B [X] 5 a l.length c (prC l)) (h2 : RdS Tryz.prog B [X] 5 b l.length d (prC l)) :
    Fspec Tryz.prog B 73 #[.slice a l.length c, .slice b l.length d] [X] (fun v A' => v = .bool true ∧ A' = [X]) := by
  refine spec_of (args := [_, _]) Tryz.func73 rfl rfl rfl ?_
  repeat' (first
    | refine zi ?_
    | refine zK ?_
    | refine zQ (h := ?_)
    | refine zU (h := ?_)
    | refine zj ?_
    | refine zR ?_
    | refine zW ?_
    | refine zN ?_
    | refine zV ?_
    | refine ze ?_
    | refine zP ?_
    | refine zY ?_
    | refine zS rfl ?_
    | refine zd ?_
    | refine zX ?_
    | refine zO ?_
    | refine zT ?_
    | refine zL ?_
    | (refine zC (id := 0) ?_; intro K hK; refine zH (k := ?_); (refine zD (hK _ _ ?_); clear hK K))
    | (refine zC (id := 1) ?_; intro K hK; refine zF (k := ?_); refine zn (k' := ?_); refine zF (k := ?_); refine zn (k' := ?_); refine z8 (k' := ?_); (refine zD (hK _ _ ?_); clear hK K))
    | (refine zC (id := 2) ?_; intro K hK; refine zH (k := ?_); (refine zD (hK _ _ ?_); clear hK K))
    | (refine zC (id := 3) ?_; intro K hK; refine zH (k := ?_); (refine zD (hK _ _ ?_); clear hK K))
    | (refine zc (ht := (fun ht => ?_)) (hf := (fun ht => ?_)) <;> (try simp at ht) <;> (try (exfalso; omega))))
  refine yI (α := Nat) (fun j => [(0, .slice a l.length c), (1, .slice b l.length d), (5, .int .i64 j)]) (fun _ => [X]) (fun j => j ≤ l.length) (fun j => l.length - j) 0 (by omega) ⟨rfl, rfl, rfl, trivial⟩ (Ent.refl _) ?_
  intro j G hj
  simp only [ov]
  by_cases hlt : j < l.length
  · obtain ⟨p, rfl⟩ : ∃ q, a = some q := by
      cases a with
      | none => have := h1.nil rfl; omega
      | some q => exact ⟨q, rfl⟩
    obtain ⟨q, rfl⟩ : ∃ q, b = some q := by
      cases b with
      | none => have := h2.nil rfl; omega
      | some q => exact ⟨q, rfl⟩
    obtain ⟨x, hx⟩ : ∃ x, l[j]? = some x := ⟨_, List.getElem?_eq_getElem hlt⟩
    repeat' (first
      | refine zi ?_
      | refine zK ?_
      | refine zQ (h := ?_)
      | refine zU (h := ?_)
      | refine zj ?_
      | refine zR ?_
      | refine zW ?_
      | refine zN ?_
      | refine zV ?_
      | refine ze ?_
      | refine zP ?_
      | refine zY ?_
      | refine zS rfl ?_
      | refine zd ?_
      | refine zX ?_
      | refine zO ?_
      | refine zT ?_
      | refine zL ?_
      | (refine zC (id := 4) ?_; intro K hK; refine zF (k := ?_); refine zF (k := ?_); refine zn (k' := ?_); refine z6 (k' := ?_); (refine zD (hK _ _ ?_); clear hK K))
      | (refine zC (id := 5) ?_; intro K hK; refine zF (k := ?_); refine zl (k' := ?_); refine zH (k := ?_); (refine zD (hK _ _ ?_); clear hK K))
      | (refine z3 (id := 6) (h := ?_); intro K hK; refine zF (k := ?_); refine zF (k := ?_); ((refine zq (k' := ?_))) <;> (((refine yD (j := j * 5) (cs := x.c) (hq := by simp) (hr := h1) (hv := prC_row hx) (k := ?_))) <;> (refine zF (k := ?_); refine zF (k := ?_); ((refine zq (k' := ?_))) <;> (((refine yD (j := j * 5) (cs := x.c) (hq := by simp) (hr := h2) (hv := prC_row hx) (k := ?_))) <;> (((refine yX (b := true) (hb := ceqL_self _ [.s, .i .i64, .i .i64, .b, .s] rfl) (k' := ?_))) <;> ((refine zD (hK _ _ ?_); clear hK K)))))))
      | (refine zC (id := 7) ?_; intro K hK; refine zH (k := ?_); (refine zD (hK _ _ ?_); clear hK K))
      | (refine zc (ht := (fun ht => ?_)) (hf := (fun ht => ?_)) <;> (try simp at ht) <;> (try (exfalso; omega))))
    exact ⟨j + 1, by omega, by omega, ⟨rfl, rfl, int_succ j, trivial⟩, Ent.refl _⟩
  obtain rfl : j = l.length := by omega
  repeat' (first
    | refine zi ?_
    | refine zK ?_
    | refine zQ (h := ?_)
    | refine zU (h := ?_)
    | refine zj ?_
    | refine zR ?_
    | refine zW ?_
    | refine zN ?_
    | refine zV ?_
    | refine ze ?_
    | refine zP ?_
    | refine zY ?_
    | refine zS rfl ?_
    | refine zd ?_
    | refine zX ?_
    | refine zO ?_
    | refine zT ?_
    | refine zL ?_
    | (refine zC (id := 4) ?_; intro K hK; refine zF (k := ?_); refine zF (k := ?_); refine zn (k' := ?_); refine z6 (k' := ?_); (refine zD (hK _ _ ?_); clear hK K))
    | (refine zC (id := 8) ?_; intro K hK; refine zH (k := ?_); (refine zD (hK _ _ ?_); clear hK K))
    | (refine zc (ht := (fun ht => ?_)) (hf := (fun ht => ?_)) <;> (try simp at ht) <;> (try (exfalso; omega))))
  exact ⟨Or.inr rfl, _, [X], Ent.refl _, res1 rfl rfl, rfl, rfl⟩
theorem sameSeen_spec (X : Asn) (l : List SX) (hl : l.length ≤ 1000000) (a : Option Addr) (c : Nat) (b : Option Addr) (d : Nat) (h1 : RdS Tryz.prog B [X] 4 a l.length c (ssC l)) (h2 : RdS Tryz.prog B [X] 4 b l.length d (ssC l)) :
    Fspec Tryz.prog B 74 #[.slice a l.length c, .slice b l.length d] [X] (fun v A' => v = .bool true ∧ A' = [X]) := by
  refine spec_of (args := [_, _]) Tryz.func74 rfl rfl rfl ?_
  repeat' (first
    | refine zi ?_
    | refine zK ?_
    | refine zQ (h := ?_)
    | refine zU (h := ?_)
    | refine zj ?_
    | refine zR ?_
    | refine zW ?_
    | refine zN ?_
    | refine zV ?_
    | refine ze ?_
    | refine zP ?_
    | refine zY ?_
    | refine zS rfl ?_
    | refine zd ?_
    | refine zX ?_
    | refine zO ?_
    | refine zT ?_
    | refine zL ?_
    | (refine zC (id := 0) ?_; intro K hK; refine zH (k := ?_); (refine zD (hK _ _ ?_); clear hK K))
    | (refine zC (id := 1) ?_; intro K hK; refine zF (k := ?_); refine zn (k' := ?_); refine zF (k := ?_); refine zn (k' := ?_); refine z8 (k' := ?_); (refine zD (hK _ _ ?_); clear hK K))
    | (refine zC (id := 2) ?_; intro K hK; refine zH (k := ?_); (refine zD (hK _ _ ?_); clear hK K))
    | (refine zC (id := 3) ?_; intro K hK; refine zH (k := ?_); (refine zD (hK _ _ ?_); clear hK K))
    | (refine zc (ht := (fun ht => ?_)) (hf := (fun ht => ?_)) <;> (try simp at ht) <;> (try (exfalso; omega))))
  refine yI (α := Nat) (fun j => [(0, .slice a l.length c), (1, .slice b l.length d), (5, .int .i64 j)]) (fun _ => [X]) (fun j => j ≤ l.length) (fun j => l.length - j) 0 (by omega) ⟨rfl, rfl, rfl, trivial⟩ (Ent.refl _) ?_
  intro j G hj
  simp only [ov]
  by_cases hlt : j < l.length
  · obtain ⟨p, rfl⟩ : ∃ q, a = some q := by
      cases a with
      | none => have := h1.nil rfl; omega
      | some q => exact ⟨q, rfl⟩
    obtain ⟨q, rfl⟩ : ∃ q, b = some q := by
      cases b with
      | none => have := h2.nil rfl; omega
      | some q => exact ⟨q, rfl⟩
    obtain ⟨x, hx⟩ : ∃ x, l[j]? = some x := ⟨_, List.getElem?_eq_getElem hlt⟩
    repeat' (first
      | refine zi ?_
      | refine zK ?_
      | refine zQ (h := ?_)
      | refine zU (h := ?_)
      | refine zj ?_
      | refine zR ?_
      | refine zW ?_
      | refine zN ?_
      | refine zV ?_
      | refine ze ?_
      | refine zP ?_
      | refine zY ?_
      | refine zS rfl ?_
      | refine zd ?_
      | refine zX ?_
      | refine zO ?_
      | refine zT ?_
      | refine zL ?_
      | (refine zC (id := 4) ?_; intro K hK; refine zF (k := ?_); refine zF (k := ?_); refine zn (k' := ?_); refine z6 (k' := ?_); (refine zD (hK _ _ ?_); clear hK K))
      | (refine zC (id := 5) ?_; intro K hK; refine zF (k := ?_); refine zl (k' := ?_); refine zH (k := ?_); (refine zD (hK _ _ ?_); clear hK K))
      | (refine z3 (id := 6) (h := ?_); intro K hK; refine zF (k := ?_); refine zF (k := ?_); ((refine zq (k' := ?_))) <;> (((refine yD (j := j * 4) (cs := x.c) (hq := by simp) (hr := h1) (hv := ssC_row hx) (k := ?_))) <;> (refine zF (k := ?_); refine zF (k := ?_); ((refine zq (k' := ?_))) <;> (((refine yD (j := j * 4) (cs := x.c) (hq := by simp) (hr := h2) (hv := ssC_row hx) (k := ?_))) <;> (((refine yX (b := true) (hb := ceqL_self _ [.i .i64, .i .i64, .i .i64, .i .i64] rfl) (k' := ?_))) <;> ((refine zD (hK _ _ ?_); clear hK K)))))))
      | (refine zC (id := 7) ?_; intro K hK; refine zH (k := ?_); (refine zD (hK _ _ ?_); clear hK K))
      | (refine zc (ht := (fun ht => ?_)) (hf := (fun ht => ?_)) <;> (try simp at ht) <;> (try (exfalso; omega))))
    exact ⟨j + 1, by omega, by omega, ⟨rfl, rfl, int_succ j, trivial⟩, Ent.refl _⟩
  obtain rfl : j = l.length := by omega
  repeat' (first
    | refine zi ?_
    | refine zK ?_
    | refine zQ (h := ?_)
    | refine zU (h := ?_)
    | refine zj ?_
    | refine zR ?_
    | refine zW ?_
    | refine zN ?_
    | refine zV ?_
    | refine ze ?_
    | refine zP ?_
    | refine zY ?_
    | refine zS rfl ?_
    | refine zd ?_
    | refine zX ?_
    | refine zO ?_
    | refine zT ?_
    | refine zL ?_
    | (refine zC (id := 4) ?_; intro K hK; refine zF (k := ?_); refine zF (k := ?_); refine zn (k' := ?_); refine z6 (k' := ?_); (refine zD (hK _ _ ?_); clear hK K))
    | (refine zC (id := 8) ?_; intro K hK; refine zH (k := ?_); (refine zD (hK _ _ ?_); clear hK K))
    | (refine zc (ht := (fun ht => ?_)) (hf := (fun ht => ?_)) <;> (try simp at ht) <;> (try (exfalso; omega))))
  exact ⟨Or.inr rfl, _, [X], Ent.refl _, res1 rfl rfl, rfl, rfl⟩
theorem sameSnap_spec (X : Asn) (s : SnX) (hps : s.ps.length ≤ 1000000) (hss : s.ss.length ≤ 1000000) (a : Option Addr) (c : Nat) (b : Option Addr) (d : Nat) (a2 : Option Addr) (c2 : Nat) (b2 : Option Addr) (d2 : Nat)
    (h1 : RdS Tryz.prog B [X] 5 a s.ps.length c (prC s.ps)) (h2 : RdS Tryz.prog B [X] 4 b s.ss.length d (ssC s.ss)) (h3 : RdS Tryz.prog B [X] 5 a2 s.ps.length c2 (prC s.ps)) (h4 : RdS Tryz.prog B [X] 4 b2 s.ss.length d2 (ssC s.ss)) :
    Fspec Tryz.prog B 28 #[.agg #[.int .i64 s.e, .int .i64 s.i, .slice a s.ps.length c, .slice b s.ss.length d], .agg #[.int .i64 s.e, .int .i64 s.i, .slice a2 s.ps.length c2, .slice b2 s.ss.length d2]] [X] (fun v A' => v = .bool true ∧ A' = [X]) := by
  refine spec_of (args := [_, _]) Tryz.func28 rfl rfl rfl ?_
  repeat' (first
    | refine zi ?_
    | refine zK ?_
    | refine zQ (h := ?_)
    | refine zU (h := ?_)
    | refine zj ?_
    | refine zR ?_
    | refine zW ?_
    | refine zN ?_
    | refine zV ?_
    | refine ze ?_
    | refine zP ?_
    | refine zY ?_
    | refine zS rfl ?_
    | refine zd ?_
    | refine zX ?_
    | refine zO ?_
    | refine zT ?_
    | refine zL ?_
    | (refine zC (id := 0) ?_; intro K hK; ((refine zm (k := ?_); intro r2)) <;> (((refine zm (k := ?_); intro r3)) <;> (refine zH (k := ?_); (refine zD (hK _ _ ?_); clear hK K))))
    | (refine zC (id := 1) ?_; intro K hK; refine zB (k := ?_); refine zo (k := ?_); refine zB (k := ?_); refine zo (k := ?_); ((refine yK (b := true) (hb := by rw [pos_ceq]; exact decide_eq_true ⟨rfl, rfl⟩) (k' := ?_))) <;> (refine zF (k := ?_); ((first | (refine zA (k := ?_); refine zB (k := ?_)) | refine zE (k := ?_) | ((refine zG (yes := (fun ht => ?_)) (no := (fun ht => ?_)) <;> (try simp at ht) <;> (try (exfalso; omega))) <;> (first | (refine zA (k := ?_); refine zB (k := ?_)) | refine zE (k := ?_))))) <;> (((first | (refine zA (k := ?_); refine zM (k := ?_)) | refine zE (k := ?_) | ((refine zG (yes := (fun ht => ?_)) (no := (fun ht => ?_)) <;> (try simp at ht) <;> (try (exfalso; omega))) <;> (first | (refine zA (k := ?_); refine zM (k := ?_)) | refine zE (k := ?_))))) <;> (((first | (refine zA (k := ?_); refine zB (k := ?_)) | refine zE (k := ?_) | ((refine zG (yes := (fun ht => ?_)) (no := (fun ht => ?_)) <;> (try simp at ht) <;> (try (exfalso; omega))) <;> (first | (refine zA (k := ?_); refine zB (k := ?_)) | refine zE (k := ?_))))) <;> (((first | (refine zA (k := ?_); refine zM (k := ?_)) | refine zE (k := ?_) | ((refine zG (yes := (fun ht => ?_)) (no := (fun ht => ?_)) <;> (try simp at ht) <;> (try (exfalso; omega))) <;> (first | (refine zA (k := ?_); refine zM (k := ?_)) | refine zE (k := ?_))))) <;> (((first | (refine zA (k := ?_); (refine zb (hs := samePairs_spec X s.ps hps a c a2 c2 h1 h3) (k := ?_); rintro v A' ⟨rfl, rfl⟩; simp only [List.cons_append, List.nil_append])) | refine zE (k := ?_) | ((refine zG (yes := (fun ht => ?_)) (no := (fun ht => ?_)) <;> (try simp at ht) <;> (try (exfalso; omega))) <;> (first | (refine zA (k := ?_); (refine zb (hs := samePairs_spec X s.ps hps a c a2 c2 h1 h3) (k := ?_); rintro v A' ⟨rfl, rfl⟩; simp only [List.cons_append, List.nil_append])) | refine zE (k := ?_))))) <;> ((first | refine zZ (k := ?_) | refine za (k := ?_) | refine zg (k := ?_)); refine zF (k := ?_); ((first | (refine zA (k := ?_); refine zB (k := ?_)) | refine zE (k := ?_) | ((refine zG (yes := (fun ht => ?_)) (no := (fun ht => ?_)) <;> (try simp at ht) <;> (try (exfalso; omega))) <;> (first | (refine zA (k := ?_); refine zB (k := ?_)) | refine zE (k := ?_))))) <;> (((first | (refine zA (k := ?_); refine zM (k := ?_)) | refine zE (k := ?_) | ((refine zG (yes := (fun ht => ?_)) (no := (fun ht => ?_)) <;> (try simp at ht) <;> (try (exfalso; omega))) <;> (first | (refine zA (k := ?_); refine zM (k := ?_)) | refine zE (k := ?_))))) <;> (((first | (refine zA (k := ?_); refine zB (k := ?_)) | refine zE (k := ?_) | ((refine zG (yes := (fun ht => ?_)) (no := (fun ht => ?_)) <;> (try simp at ht) <;> (try (exfalso; omega))) <;> (first | (refine zA (k := ?_); refine zB (k := ?_)) | refine zE (k := ?_))))) <;> (((first | (refine zA (k := ?_); refine zM (k := ?_)) | refine zE (k := ?_) | ((refine zG (yes := (fun ht => ?_)) (no := (fun ht => ?_)) <;> (try simp at ht) <;> (try (exfalso; omega))) <;> (first | (refine zA (k := ?_); refine zM (k := ?_)) | refine zE (k := ?_))))) <;> (((first | (refine zA (k := ?_); (refine zb (hs := sameSeen_spec X s.ss hss b d b2 d2 h2 h4) (k := ?_); rintro v A' ⟨rfl, rfl⟩; simp only [List.cons_append, List.nil_append])) | refine zE (k := ?_) | ((refine zG (yes := (fun ht => ?_)) (no := (fun ht => ?_)) <;> (try simp at ht) <;> (try (exfalso; omega))) <;> (first | (refine zA (k := ?_); (refine zb (hs := sameSeen_spec X s.ss hss b d b2 d2 h2 h4) (k := ?_); rintro v A' ⟨rfl, rfl⟩; simp only [List.cons_append, List.nil_append])) | refine zE (k := ?_))))) <;> ((first | refine zZ (k := ?_) | refine za (k := ?_) | refine zg (k := ?_)); refine zH (k := ?_); (refine zD (hK _ _ ?_); clear hK K)))))))))))))
    | (refine zc (ht := (fun ht => ?_)) (hf := (fun ht => ?_)) <;> (try simp at ht) <;> (try (exfalso; omega))))
  exact ⟨Or.inr rfl, _, [X], (by (repeat (first | exact Ent.refl _ | exact Ent.nil | refine Ent.take (by (repeat (first | exact Out.head | apply Out.tail)); (first | done | fail)) ?_ | refine Ent.drop1 ?_)); (first | done | fail)), res1 rfl rfl, rfl, rfl⟩
theorem of_lst {f : FuncId} {args : Array Value} {A0 : List Asn} {φ : Value → Prop} (h : Fspec Tryz.prog B f args [lst A0] (fun v A' => φ v ∧ A' = [lst A0])) : Fspec Tryz.prog B f args A0 (fun v A' => φ v ∧ A' = A0) := by
  refine (h.ent (by simpa using Ent.lst_shut A0 [])).conv ?_
  rintro v A' ⟨hv, rfl⟩
  exact ⟨A0, by simpa using Ent.lst_open A0 [], hv, rfl⟩
theorem _root_.Go.Sl.RdS.lst {A0 : List Asn} {sz m c : Nat} {a : Option Addr} {vs : List Value} (h : RdS Tryz.prog B A0 sz a m c vs) : RdS Tryz.prog B [lst A0] sz a m c vs := RdS.ofEnt h (by simpa using Ent.lst_open A0 [])
end specs
end Go.Proofs.YtnoggejkkjngjaaGreat
/- Layer 15: the document's example. No condition. -/
set_option maxHeartbeats 8000000
set_option linter.unusedVariables false
set_option linter.unusedSimpArgs false
set_option maxRecDepth 100000
namespace Go.Proofs.YtnoggejkkjngjaaGreat
open Go Go.Sl
attribute [local irreducible] Go.Sl.Wl Go.Sl.Wc Go.Sl.thenQ Go.Sl.blkQ Go.Sl.loopQ Go.Sl.Fspec

def kA : ByteArray := ⟨#[97]⟩
def kB : ByteArray := ⟨#[98]⟩
def tX : ByteArray := ⟨#[120]⟩
def tY : ByteArray := ⟨#[121]⟩
def oneT : List Ep := [⟨1, 0, false⟩]
def enZ : EnX := ⟨0, 0, 0, 0, ByteArray.empty, false, ByteArray.empty⟩
def rcW (x : EnX) : RcG := ⟨1, x, ⟨0, 0, false⟩, 0, SnX.zero⟩
def rcE (e : Ep) : RcG := ⟨2, enZ, e, 0, SnX.zero⟩
theorem zero_rg : rg 0 := by unfold rg; omega
theorem enZ_ok : enZ.ok := by simp [EnX.ok, SX.ok, EnX.se, enZ]
theorem rcW_ok {x : EnX} (h : x.ok) (hi : rg x.i) : (rcW x).ok := ⟨h, hi, zero_rg, by simp [rcW, SnX.zero], by simp [rcW, SnX.zero], by simp [rcW, SnX.zero], by simp [rcW, SnX.zero]⟩
theorem rcE_ok (e : Ep) : (rcE e).ok := ⟨enZ_ok, zero_rg, zero_rg, by simp [rcE, SnX.zero], by simp [rcE, SnX.zero], by simp [rcE, SnX.zero], by simp [rcE, SnX.zero]⟩
def aw15a : EnX := ⟨1, 1, 1, 1, kA, false, tX⟩
def aw15b : EnX := ⟨1, 2, 1, 2, kB, false, tY⟩
def awS0 : G15 := newG oneT
def awS1 : G15 := ⟨oneT, SnX.zero, [aw15a], false⟩
def awS2 : G15 := ⟨oneT, SnX.zero, [aw15a, aw15b], false⟩
def awS3 : G15 := ⟨[⟨1, 0, false⟩, ⟨2, 1, false⟩], SnX.zero, [aw15a], false⟩
theorem one_right : rightT oneT = true := by decide
section specs
variable {B : Base}
theorem one_spec : Fspec Tryz.prog B 22 #[] [] (fun v A' => ∃ r, v = .slice (some ⟨r, 0, none⟩) 1 1 ∧ A' = [cb r (epsC oneT) 45]) := by
  refine spec_of (args := []) Tryz.func22 rfl rfl rfl ?_
  repeat' (first
    | refine zi ?_
    | refine zK ?_
    | refine zQ (h := ?_)
    | refine zU (h := ?_)
    | refine zj ?_
    | refine zR ?_
    | refine zW ?_
    | refine zN ?_
    | refine zV ?_
    | refine ze ?_
    | refine zP ?_
    | refine zY ?_
    | refine zS rfl ?_
    | refine zd ?_
    | refine zX ?_
    | refine zO ?_
    | refine zT ?_
    | refine zL ?_
    | (refine zC (id := 0) ?_; intro K hK; refine zH (k := ?_); (refine zD (hK _ _ ?_); clear hK K))
    | (refine zC (id := 1) ?_; intro K hK; refine zr (k := ?_); ((refine yR (cs := epC ⟨1, 0, false⟩) (k := ?_); intro r2)) <;> (refine zH (k := ?_); (refine zD (hK _ _ ?_); clear hK K)))
    | (refine zc (ht := (fun ht => ?_)) (hf := (fun ht => ?_)) <;> (try simp at ht) <;> (try (exfalso; omega))))
  exact ⟨Or.inr rfl, _, [cb r2 (epsC oneT) 45], (by (repeat (first | exact Ent.refl _ | exact Ent.nil | refine Ent.take (by (repeat (first | exact Out.head | apply Out.tail)); (first | done | fail)) ?_ | refine Ent.drop1 ?_))), res1 rfl rfl, r2, rfl, rfl⟩
theorem awake15 : Fspec Tryz.prog B 6 #[] [] (fun v A' => v = .bool true ∧ A' = []) := by
  have c1 : gchkV awS0 (rcW aw15a) = 0 := by decide +kernel
  have c2 : gchkV awS1 (rcW aw15b) = 0 := by decide +kernel
  have c3 : gchkV awS2 (rcE ⟨2, 1, false⟩) = 0 := by decide +kernel
  have p1 : gapplyV awS0 (rcW aw15a) = awS1 := by unfold gapplyV; rw [c1]; rfl
  have p2 : gapplyV awS1 (rcW aw15b) = awS2 := by unfold gapplyV; rw [c2]; rfl
  have p3 : gapplyV awS2 (rcE ⟨2, 1, false⟩) = awS3 := by unfold gapplyV; rw [c3]; rfl
  have xa : aw15a.ok := by simp [EnX.ok, SX.ok, EnX.se, aw15a]
  have xb : aw15b.ok := by simp [EnX.ok, SX.ok, EnX.se, aw15b]
  have ra : (rcW aw15a).ok := rcW_ok xa (by show rg 1; unfold rg; omega)
  have rb : (rcW aw15b).ok := rcW_ok xb (by show rg 2; unfold rg; omega)
  have re : (rcE ⟨2, 1, false⟩).ok := rcE_ok _
  have k0 : awS0.inv 1000 := new_inv one_right
  have k1 : awS1.inv 1001 := p1 ▸ k0.apply ra (by simp [rcW, SnX.zero]) (by omega)
  have k2 : awS2.inv 1002 := p2 ▸ k1.apply rb (by simp [rcW, SnX.zero]) (by omega)
  have g1 : (kX awS3.fold.t.inorder kA).d = tX := by decide +kernel
  have g2 : (kX awS3.fold.t.inorder kB).c = false := by decide +kernel
  have f1 : awS3.fold.e = 1 := by decide +kernel
  have f2 : awS3.fold.i = 1 := by decide +kernel
  refine spec_of (args := []) Tryz.func6 rfl rfl rfl ?_
  repeat' (first
    | refine zi ?_
    | refine zK ?_
    | refine zQ (h := ?_)
    | refine zU (h := ?_)
    | refine zj ?_
    | refine zR ?_
    | refine zW ?_
    | refine zN ?_
    | refine zV ?_
    | refine ze ?_
    | refine zP ?_
    | refine zY ?_
    | refine zS rfl ?_
    | refine zd ?_
    | refine zX ?_
    | refine zO ?_
    | refine zT ?_
    | refine zL ?_
    | (refine zC (id := 0) ?_; intro K hK; refine zH (k := ?_); (refine zD (hK _ _ ?_); clear hK K))
    | (refine zC (id := 1) ?_; intro K hK; ((refine zb (hs := one_spec) (k := ?_); rintro v A' ⟨r, rfl, rfl⟩; simp only [List.cons_append, List.nil_append])) <;> (((refine zb (hs := gnew_spec [cb r (epsC oneT) 45] oneT (some ⟨r, 0, none⟩) 1 (rds_cb .head rfl) (by decide)) (k := ?_); rintro v A' ⟨st, rfl, rfl⟩; simp only [List.cons_append, List.nil_append])) <;> (refine zF (k := ?_); refine zu (k' := ?_); refine zu (k' := ?_); refine zH (k := ?_); refine zH (k := ?_); (refine zD (hK _ _ ?_); clear hK K))))
    | (refine zC (id := 2) ?_; intro K hK; refine zF (k := ?_); refine zf (k' := ?_); refine zF (k := ?_); ((first | (refine zA (k := ?_); refine zF (k := ?_)) | refine zE (k := ?_) | ((refine zG (yes := (fun ht => ?_)) (no := (fun ht => ?_)) <;> (try simp at ht) <;> (try (exfalso; omega))) <;> (first | (refine zA (k := ?_); refine zF (k := ?_)) | refine zE (k := ?_))))) <;> (((first | (refine zA (k := ?_); refine z8 (k' := ?_)) | refine zE (k := ?_) | ((refine zG (yes := (fun ht => ?_)) (no := (fun ht => ?_)) <;> (try simp at ht) <;> (try (exfalso; omega))) <;> (first | (refine zA (k := ?_); refine z8 (k' := ?_)) | refine zE (k := ?_))))) <;> ((first | refine zZ (k := ?_) | refine za (k := ?_) | refine zg (k := ?_)); (refine zD (hK _ _ ?_); clear hK K))))
    | (refine zC (id := 3) ?_; intro K hK; refine zH (k := ?_); (refine zD (hK _ _ ?_); clear hK K))
    | (refine zC (id := 4) ?_; intro K hK; refine zF (k := ?_); refine zr (k := ?_); refine zr (k := ?_); refine zr (k := ?_); ((refine zb (hs := gapply_spec [] st 1000 awS0 k0 (by omega) (rcW aw15a) ra none 0 none 0 rds_nil rds_nil) (k := ?_); rintro v A' ⟨rfl, rfl⟩; simp only [List.cons_append, List.nil_append]; rw [c1, p1])) <;> (refine zH (k := ?_); (refine zD (hK _ _ ?_); clear hK K)))
    | (refine zC (id := 5) ?_; intro K hK; refine zF (k := ?_); refine zr (k := ?_); refine zr (k := ?_); refine zr (k := ?_); ((refine zb (hs := gapply_spec [] st 1001 awS1 k1 (by omega) (rcW aw15b) rb none 0 none 0 rds_nil rds_nil) (k := ?_); rintro v A' ⟨rfl, rfl⟩; simp only [List.cons_append, List.nil_append]; rw [c2, p2])) <;> (refine zH (k := ?_); (refine zD (hK _ _ ?_); clear hK K)))
    | (refine zC (id := 6) ?_; intro K hK; refine zF (k := ?_); refine zr (k := ?_); refine zr (k := ?_); ((refine zb (hs := gapply_spec [] st 1002 awS2 k2 (by omega) (rcE ⟨2, 1, false⟩) re none 0 none 0 rds_nil rds_nil) (k := ?_); rintro v A' ⟨rfl, rfl⟩; simp only [List.cons_append, List.nil_append]; rw [c3, p3])) <;> (refine zH (k := ?_); (refine zD (hK _ _ ?_); clear hK K)))
    | (refine zC (id := 7) ?_; intro K hK; refine zF (k := ?_); refine zp (k' := ?_); refine zF (k := ?_); ((first | (refine zA (k := ?_); refine zF (k := ?_)) | refine zE (k := ?_) | ((refine zG (yes := (fun ht => ?_)) (no := (fun ht => ?_)) <;> (try simp at ht) <;> (try (exfalso; omega))) <;> (first | (refine zA (k := ?_); refine zF (k := ?_)) | refine zE (k := ?_))))) <;> (((first | (refine zA (k := ?_); refine zp (k' := ?_)) | refine zE (k := ?_) | ((refine zG (yes := (fun ht => ?_)) (no := (fun ht => ?_)) <;> (try simp at ht) <;> (try (exfalso; omega))) <;> (first | (refine zA (k := ?_); refine zp (k' := ?_)) | refine zE (k := ?_))))) <;> ((first | refine zZ (k := ?_) | refine za (k := ?_) | refine zg (k := ?_)); refine zF (k := ?_); ((first | (refine zA (k := ?_); refine zF (k := ?_)) | refine zE (k := ?_) | ((refine zG (yes := (fun ht => ?_)) (no := (fun ht => ?_)) <;> (try simp at ht) <;> (try (exfalso; omega))) <;> (first | (refine zA (k := ?_); refine zF (k := ?_)) | refine zE (k := ?_))))) <;> (((first | (refine zA (k := ?_); refine zp (k' := ?_)) | refine zE (k := ?_) | ((refine zG (yes := (fun ht => ?_)) (no := (fun ht => ?_)) <;> (try simp at ht) <;> (try (exfalso; omega))) <;> (first | (refine zA (k := ?_); refine zp (k' := ?_)) | refine zE (k := ?_))))) <;> ((first | refine zZ (k := ?_) | refine za (k := ?_) | refine zg (k := ?_)); refine zF (k := ?_); ((first | (refine zA (k := ?_); refine zF (k := ?_)) | refine zE (k := ?_) | ((refine zG (yes := (fun ht => ?_)) (no := (fun ht => ?_)) <;> (try simp at ht) <;> (try (exfalso; omega))) <;> (first | (refine zA (k := ?_); refine zF (k := ?_)) | refine zE (k := ?_))))) <;> (((first | (refine zA (k := ?_); (refine zb (hs := glast_spec st awS3) (k := ?_); rintro v A' ⟨rfl, rfl⟩; simp only [List.cons_append, List.nil_append]; rw [f1, f2])) | refine zE (k := ?_) | ((refine zG (yes := (fun ht => ?_)) (no := (fun ht => ?_)) <;> (try simp at ht) <;> (try (exfalso; omega))) <;> (first | (refine zA (k := ?_); (refine zb (hs := glast_spec st awS3) (k := ?_); rintro v A' ⟨rfl, rfl⟩; simp only [List.cons_append, List.nil_append]; rw [f1, f2])) | refine zE (k := ?_))))) <;> (((first | (refine zA (k := ?_); refine zr (k := ?_)) | refine zE (k := ?_) | ((refine zG (yes := (fun ht => ?_)) (no := (fun ht => ?_)) <;> (try simp at ht) <;> (try (exfalso; omega))) <;> (first | (refine zA (k := ?_); refine zr (k := ?_)) | refine zE (k := ?_))))) <;> (((first | (refine zA (k := ?_); (refine yK (b := true) (hb := rfl) (k' := ?_))) | refine zE (k := ?_) | ((refine zG (yes := (fun ht => ?_)) (no := (fun ht => ?_)) <;> (try simp at ht) <;> (try (exfalso; omega))) <;> (first | (refine zA (k := ?_); (refine yK (b := true) (hb := rfl) (k' := ?_))) | refine zE (k := ?_))))) <;> ((first | refine zZ (k := ?_) | refine za (k := ?_) | refine zg (k := ?_)); refine zF (k := ?_); ((first | (refine zA (k := ?_); refine zF (k := ?_)) | refine zE (k := ?_) | ((refine zG (yes := (fun ht => ?_)) (no := (fun ht => ?_)) <;> (try simp at ht) <;> (try (exfalso; omega))) <;> (first | (refine zA (k := ?_); refine zF (k := ?_)) | refine zE (k := ?_))))) <;> (((first | (refine zA (k := ?_); (refine zb (hs := gget_spec st awS3 kA) (k := ?_); rintro v A' ⟨rfl, rfl⟩; simp only [List.cons_append, List.nil_append]; simp only [VX.C]; rw [g1])) | refine zE (k := ?_) | ((refine zG (yes := (fun ht => ?_)) (no := (fun ht => ?_)) <;> (try simp at ht) <;> (try (exfalso; omega))) <;> (first | (refine zA (k := ?_); (refine zb (hs := gget_spec st awS3 kA) (k := ?_); rintro v A' ⟨rfl, rfl⟩; simp only [List.cons_append, List.nil_append]; simp only [VX.C]; rw [g1])) | refine zE (k := ?_))))) <;> (((first | (refine zA (k := ?_); refine yj (k' := ?_)) | refine zE (k := ?_) | ((refine zG (yes := (fun ht => ?_)) (no := (fun ht => ?_)) <;> (try simp at ht) <;> (try (exfalso; omega))) <;> (first | (refine zA (k := ?_); refine yj (k' := ?_)) | refine zE (k := ?_))))) <;> (((first | (refine zA (k := ?_); (refine yn (a := tX) (b := tX) (k' := ?_); rw [beq_self_eq_true])) | refine zE (k := ?_) | ((refine zG (yes := (fun ht => ?_)) (no := (fun ht => ?_)) <;> (try simp at ht) <;> (try (exfalso; omega))) <;> (first | (refine zA (k := ?_); (refine yn (a := tX) (b := tX) (k' := ?_); rw [beq_self_eq_true])) | refine zE (k := ?_))))) <;> ((first | refine zZ (k := ?_) | refine za (k := ?_) | refine zg (k := ?_)); refine zF (k := ?_); ((first | (refine zA (k := ?_); refine zF (k := ?_)) | refine zE (k := ?_) | ((refine zG (yes := (fun ht => ?_)) (no := (fun ht => ?_)) <;> (try simp at ht) <;> (try (exfalso; omega))) <;> (first | (refine zA (k := ?_); refine zF (k := ?_)) | refine zE (k := ?_))))) <;> (((first | (refine zA (k := ?_); (refine zb (hs := gget_spec st awS3 kB) (k := ?_); rintro v A' ⟨rfl, rfl⟩; simp only [List.cons_append, List.nil_append]; simp only [VX.C]; rw [g2])) | refine zE (k := ?_) | ((refine zG (yes := (fun ht => ?_)) (no := (fun ht => ?_)) <;> (try simp at ht) <;> (try (exfalso; omega))) <;> (first | (refine zA (k := ?_); (refine zb (hs := gget_spec st awS3 kB) (k := ?_); rintro v A' ⟨rfl, rfl⟩; simp only [List.cons_append, List.nil_append]; simp only [VX.C]; rw [g2])) | refine zE (k := ?_))))) <;> (((first | (refine zA (k := ?_); refine yj (k' := ?_)) | refine zE (k := ?_) | ((refine zG (yes := (fun ht => ?_)) (no := (fun ht => ?_)) <;> (try simp at ht) <;> (try (exfalso; omega))) <;> (first | (refine zA (k := ?_); refine yj (k' := ?_)) | refine zE (k := ?_))))) <;> (((first | (refine zA (k := ?_); refine z7 (k' := ?_)) | refine zE (k := ?_) | ((refine zG (yes := (fun ht => ?_)) (no := (fun ht => ?_)) <;> (try simp at ht) <;> (try (exfalso; omega))) <;> (first | (refine zA (k := ?_); refine z7 (k' := ?_)) | refine zE (k := ?_))))) <;> ((first | refine zZ (k := ?_) | refine za (k := ?_) | refine zg (k := ?_)); refine zF (k := ?_); ((first | (refine zA (k := ?_); refine zF (k := ?_)) | refine zE (k := ?_) | ((refine zG (yes := (fun ht => ?_)) (no := (fun ht => ?_)) <;> (try simp at ht) <;> (try (exfalso; omega))) <;> (first | (refine zA (k := ?_); refine zF (k := ?_)) | refine zE (k := ?_))))) <;> (((first | (refine zA (k := ?_); (refine zb (hs := gconfig_spec st awS3) (k := ?_); rintro v A' ⟨rfl, rfl⟩; simp only [List.cons_append, List.nil_append]; rw [show ((awS3.table.length : Nat) : Int) = 2 from rfl])) | refine zE (k := ?_) | ((refine zG (yes := (fun ht => ?_)) (no := (fun ht => ?_)) <;> (try simp at ht) <;> (try (exfalso; omega))) <;> (first | (refine zA (k := ?_); (refine zb (hs := gconfig_spec st awS3) (k := ?_); rintro v A' ⟨rfl, rfl⟩; simp only [List.cons_append, List.nil_append]; rw [show ((awS3.table.length : Nat) : Int) = 2 from rfl])) | refine zE (k := ?_))))) <;> (((first | (refine zA (k := ?_); refine zp (k' := ?_)) | refine zE (k := ?_) | ((refine zG (yes := (fun ht => ?_)) (no := (fun ht => ?_)) <;> (try simp at ht) <;> (try (exfalso; omega))) <;> (first | (refine zA (k := ?_); refine zp (k' := ?_)) | refine zE (k := ?_))))) <;> ((first | refine zZ (k := ?_) | refine za (k := ?_) | refine zg (k := ?_)); refine zF (k := ?_); ((first | (refine zA (k := ?_); refine zF (k := ?_)) | refine zE (k := ?_) | ((refine zG (yes := (fun ht => ?_)) (no := (fun ht => ?_)) <;> (try simp at ht) <;> (try (exfalso; omega))) <;> (first | (refine zA (k := ?_); refine zF (k := ?_)) | refine zE (k := ?_))))) <;> (((first | (refine zA (k := ?_); (refine zb (hs := gmaster_spec st awS3 (by decide) ⟨2, 1, false⟩ rfl) (k := ?_); rintro v A' ⟨rfl, rfl⟩; simp only [List.cons_append, List.nil_append])) | refine zE (k := ?_) | ((refine zG (yes := (fun ht => ?_)) (no := (fun ht => ?_)) <;> (try simp at ht) <;> (try (exfalso; omega))) <;> (first | (refine zA (k := ?_); (refine zb (hs := gmaster_spec st awS3 (by decide) ⟨2, 1, false⟩ rfl) (k := ?_); rintro v A' ⟨rfl, rfl⟩; simp only [List.cons_append, List.nil_append])) | refine zE (k := ?_))))) <;> (((first | (refine zA (k := ?_); refine zp (k' := ?_)) | refine zE (k := ?_) | ((refine zG (yes := (fun ht => ?_)) (no := (fun ht => ?_)) <;> (try simp at ht) <;> (try (exfalso; omega))) <;> (first | (refine zA (k := ?_); refine zp (k' := ?_)) | refine zE (k := ?_))))) <;> ((first | refine zZ (k := ?_) | refine za (k := ?_) | refine zg (k := ?_)); refine zH (k := ?_); (refine zD (hK _ _ ?_); clear hK K))))))))))))))))))))))))
    | (refine zc (ht := (fun ht => ?_)) (hf := (fun ht => ?_)) <;> (try simp at ht) <;> (try (exfalso; omega))))
  all_goals exact ⟨Or.inr rfl, .bool true, [], Ent.nil, res1 rfl rfl, rfl, rfl⟩
end specs
end Go.Proofs.YtnoggejkkjngjaaGreat
/- Layer 15: records that came in. No condition. -/
set_option maxHeartbeats 8000000
set_option linter.unusedVariables false
set_option linter.unusedSimpArgs false
set_option maxRecDepth 100000
namespace Go.Proofs.YtnoggejkkjngjaaGreat
open Go Go.Sl
attribute [local irreducible] Go.Sl.Wl Go.Sl.Wc Go.Sl.thenQ Go.Sl.blkQ Go.Sl.loopQ Go.Sl.Fspec

/-- A record that came in, and where its rows are. -/
structure RI where
  r : RcG
  pa : Option Addr
  pc : Nat
  sa : Option Addr
  sc : Nat
def RI.c (x : RI) : List Value := x.r.c x.pa x.pc x.sa x.sc
structure RI.ok (B : Base) (x : RI) : Prop where
  h1 : RdS Tryz.prog B [] 5 x.pa x.r.sn.ps.length x.pc (prC x.r.sn.ps)
  h2 : RdS Tryz.prog B [] 4 x.sa x.r.sn.ss.length x.sc (ssC x.r.sn.ss)
  xo : x.r.x.ok
  xi : rg x.r.x.i
  se : rg x.r.sn.e
  pl : x.r.sn.ps.length ≤ 9223372036854775807
  sl : x.r.sn.ss.length ≤ 9223372036854775807
  pr : ∀ y ∈ x.r.sn.ps, rg y.v.a
  sr : ∀ y ∈ x.r.sn.ss, rg y.e
  xz : x.r.x.key.size ≤ 140737488351232 ∧ x.r.x.tx.size ≤ 140737488351232
  pz : ∀ y ∈ x.r.sn.ps, y.k.size ≤ 140737488351232 ∧ y.v.d.size ≤ 140737488351232
end Go.Proofs.YtnoggejkkjngjaaGreat
/- Layer 15, StateRecords: the law's own functions. Conditions: none but the kinds' bounds. -/
set_option maxHeartbeats 8000000
set_option linter.unusedVariables false
set_option linter.unusedSimpArgs false
set_option maxRecDepth 100000
namespace Go.Proofs.YtnoggejkkjngjaaGreat
open Go Go.Sl
attribute [local irreducible] Go.Sl.Wl Go.Sl.Wc Go.Sl.thenQ Go.Sl.blkQ Go.Sl.loopQ Go.Sl.Fspec

/-! ### What can be written -/
theorem wNum_b (w : Wr) (n : Int) : (wNum w n).2 = (w.2 || !numOk n) := by
  unfold wNum
  cases h : numOk n
  · simp
  · cases h2 : w.2 <;> simp [h2]
theorem wFlag_b (w : Wr) (b : Bool) : (wFlag w b).2 = w.2 := by
  unfold wFlag; rw [wNum_b]; cases b <;> simp [numOk]
theorem wText_b (w : Wr) {s : ByteArray} (h : s.size ≤ 9007199254740992) : (wText w s).2 = w.2 := by
  have h1 := wNum_b w s.size
  have h2 : numOk (s.size : Int) = true := numOk_nat h
  rw [h2] at h1
  unfold wText
  split
  · rw [h1]; simp
  · rename_i hb
    rw [h1] at hb
    simp at hb; exact hb.symm
theorem wPos_b (w : Wr) (e i : Int) : (wPos w e i).2 = (w.2 || !(numOk e && numOk i)) := by
  unfold wPos; rw [wNum_b, wNum_b, Bool.not_and, Bool.or_assoc]
theorem fold_b {α : Type} {f : Wr → α → Wr} {k : α → Bool} : ∀ (l : List α) (w : Wr), (∀ x ∈ l, ∀ w, (f w x).2 = (w.2 || !k x)) → (l.foldl f w).2 = (w.2 || !l.all k)
  | [], w, _ => by simp
  | x :: l, w, h => by
    rw [List.foldl_cons, fold_b l _ (fun y hy => h y (List.mem_cons_of_mem _ hy)), h x (List.mem_cons_self ..), List.all_cons, Bool.not_and, Bool.or_assoc]
def prN (x : PrX) : Bool := numOk x.v.a && numOk x.v.b
def ssN (x : SX) : Bool := numOk x.s && (numOk x.r && (numOk x.e && numOk x.i))
def canV (r : RcG) : Bool :=
  if r.kind = 1 then numOk r.x.e && (numOk r.x.i && (numOk r.x.s && numOk r.x.r)) else if r.kind = 2 then numOk r.ep.master && numOk r.ep.cut else if r.kind = 3 then numOk r.config else
  if r.kind = 4 then numOk r.sn.e && numOk r.sn.i && r.sn.ps.all prN && r.sn.ss.all ssN else decide (r.kind = 5)
theorem sum_mem : ∀ {l : List Nat} {x : Nat}, x ∈ l → x ≤ l.sum
  | y :: l, x, h => by
    simp only [List.sum_cons]
    rcases List.mem_cons.1 h with rfl | h
    · omega
    · have := sum_mem h; omega
theorem min_zero : ∀ (l : List Nat), (l.map fun x => min x 100000).sum = 0 → l.sum = 0
  | [], _ => rfl
  | x :: l, h => by
    simp only [List.map_cons, List.sum_cons] at h ⊢
    have := min_zero l (by omega)
    omega
/-- What is cut off at a bound: but one can be great. -/
theorem min_sum {M : Nat} : ∀ (l : List Nat) (C : Nat), (∀ x ∈ l, x ≤ M) → C ≤ 100000 → (l.map fun x => min x 100000).sum ≤ C → l.sum ≤ M + C
  | [], C, _, _, _ => by simp
  | x :: l, C, hx, hC, h => by
    simp only [List.map_cons, List.sum_cons] at h ⊢
    have h1 := hx x (List.mem_cons_self ..)
    by_cases hs : x < 100000
    · have := min_sum l (C - x) (fun y hy => hx y (List.mem_cons_of_mem _ hy)) (by omega) (by omega)
      omega
    · have := min_zero l (by omega)
      omega
def szs (r : RcG) : List Nat := r.x.key.size :: r.x.tx.size :: r.sn.ps.flatMap fun x => [x.k.size, x.v.d.size]
theorem szs_sum (g : Nat → Nat) : ∀ (ps : List PrX), ((ps.flatMap fun x => [x.k.size, x.v.d.size]).map g).sum = (ps.map fun x => g x.k.size + g x.v.d.size).sum
  | [] => rfl
  | x :: l => by
    have := szs_sum g l
    simp only [List.flatMap_cons, List.map_append, List.map_cons, List.map_nil, List.sum_append, List.sum_cons, List.sum_nil] at this ⊢
    omega
/-- Few; the texts are short, but for one at most. -/
structure Few (r : RcG) : Prop where
  ps : r.sn.ps.length ≤ 1000
  ss : r.sn.ss.length ≤ 1000
  tot : r.x.key.size + r.x.tx.size + (r.sn.ps.map fun x => x.k.size + x.v.d.size).sum ≤ 140737488451232
theorem Few.k {r : RcG} (h : Few r) : r.x.key.size ≤ 140737488451232 := by have := h.tot; omega
theorem Few.t {r : RcG} (h : Few r) : r.x.tx.size ≤ 140737488451232 := by have := h.tot; omega
theorem Few.p {r : RcG} (h : Few r) : ∀ x ∈ r.sn.ps, x.k.size ≤ 140737488451232 ∧ x.v.d.size ≤ 140737488451232 := fun x hx => by
  have h1 := h.tot
  have := sum_mem (List.mem_map.2 ⟨x, hx, rfl⟩ : x.k.size + x.v.d.size ∈ r.sn.ps.map fun x => x.k.size + x.v.d.size)
  omega
theorem light_few {r : RcG} (h : lightV r = true) (hx : r.x.key.size ≤ 140737488351232 ∧ r.x.tx.size ≤ 140737488351232) (hp : ∀ y ∈ r.sn.ps, y.k.size ≤ 140737488351232 ∧ y.v.d.size ≤ 140737488351232) : Few r := by
  obtain ⟨h1, h2, h3⟩ := light_out h
  unfold litN at h3
  rw [List.take_length] at h3
  have h4 := min_sum (M := 140737488351232) (szs r) 100000 (fun n hn => by
      unfold szs at hn
      rcases List.mem_cons.1 hn with rfl | hn
      · exact hx.1
      rcases List.mem_cons.1 hn with rfl | hn
      · exact hx.2
      obtain ⟨y, hy, hn⟩ := List.mem_flatMap.1 hn
      simp only [List.mem_cons, List.not_mem_nil, or_false] at hn
      rcases hn with rfl | rfl
      · exact (hp y hy).1
      · exact (hp y hy).2) (Nat.le_refl _) (by
      unfold szs
      have e := szs_sum (fun x => min x 100000) r.sn.ps
      simp only [List.map_cons, List.sum_cons]
      omega)
  unfold szs at h4
  have e := szs_sum id r.sn.ps
  simp only [List.map_id, id] at e
  simp only [List.sum_cons] at h4
  refine ⟨h1, h2, by omega⟩
theorem can_rec {r : RcG} (h : Few r) : recB r = canV r := by
  unfold recB canV wRec
  have hn : kindOk r.kind = true → (wNum ([], false) r.kind).2 = false := fun hk => by rw [wNum_b, kind_num hk]; rfl
  by_cases k1 : r.kind = 1
  · have hk : kindOk r.kind = true := by rw [k1]; rfl
    rw [if_pos k1, if_pos k1, hk]
    unfold wEnt
    rw [wText_b _ (by have := h.t; omega), wFlag_b, wText_b _ (by have := h.k; omega), wNum_b, wNum_b, wPos_b, hn hk]
    cases numOk r.x.e <;> cases numOk r.x.i <;> cases numOk r.x.s <;> cases numOk r.x.r <;> rfl
  rw [if_neg k1, if_neg k1]
  by_cases k2 : r.kind = 2
  · have hk : kindOk r.kind = true := by rw [k2]; rfl
    rw [if_pos k2, if_pos k2, hk]
    unfold wEp
    rw [wFlag_b, wNum_b, wNum_b, hn hk]
    cases numOk r.ep.master <;> cases numOk r.ep.cut <;> rfl
  rw [if_neg k2, if_neg k2]
  by_cases k3 : r.kind = 3
  · have hk : kindOk r.kind = true := by rw [k3]; rfl
    rw [if_pos k3, if_pos k3, hk, wNum_b, hn hk]
    cases numOk r.config <;> rfl
  rw [if_neg k3, if_neg k3]
  by_cases k4 : r.kind = 4
  · have hk : kindOk r.kind = true := by rw [k4]; rfl
    rw [if_pos k4, if_pos k4, hk]
    unfold wSnap
    rw [fold_b (k := ssN) r.sn.ss _ (fun x _ w => by
        unfold wSs; rw [wPos_b, wNum_b, wNum_b]
        unfold ssN; cases w.2 <;> cases numOk x.s <;> cases numOk x.r <;> cases numOk x.e <;> cases numOk x.i <;> rfl),
      wNum_b, fold_b (k := prN) r.sn.ps _ (fun x hx w => by
        unfold wPr; rw [wText_b _ (by have := (h.p x hx).2; omega), wFlag_b, wPos_b, wText_b _ (by have := (h.p x hx).1; omega)]; rfl),
      wNum_b, wPos_b, hn hk, numOk_nat (n := r.sn.ps.length) (by have := h.ps; omega), numOk_nat (n := r.sn.ss.length) (by have := h.ss; omega)]
    cases numOk r.sn.e <;> cases numOk r.sn.i <;> cases r.sn.ps.all prN <;> cases r.sn.ss.all ssN <;> rfl
  rw [if_neg k4, if_neg k4]
  by_cases k5 : r.kind = 5
  · have hk : kindOk r.kind = true := by rw [k5]; rfl
    rw [hk, hn hk, decide_eq_true k5]; rfl
  · have hk : kindOk r.kind = false := by unfold kindOk; exact decide_eq_false (by omega)
    rw [hk, decide_eq_false k5]; rfl
theorem rec_K {r : RcG} (h : Few r) (hr : recB r = true) : RecK r := by
  have hc := can_rec h
  rw [hr] at hc
  have hk : kindOk r.kind = true := by
    unfold recB at hr
    simp only [Bool.and_eq_true] at hr
    exact hr.1
  have hc := hc.symm
  unfold canV at hc
  refine ⟨hk, fun k1 => ?_, fun k2 => ?_, fun k3 => ?_, fun k4 => ?_⟩
  · rw [if_pos k1] at hc
    simp only [Bool.and_eq_true] at hc
    exact ⟨hc.1, hc.2.1, hc.2.2.1, hc.2.2.2, by have := h.k; omega, by have := h.t; omega⟩
  · rw [if_neg (by omega), if_pos k2] at hc
    simp only [Bool.and_eq_true] at hc
    exact ⟨hc.1, hc.2⟩
  · rw [if_neg (by omega), if_neg (by omega), if_pos k3] at hc
    exact hc
  · rw [if_neg (by omega), if_neg (by omega), if_neg (by omega), if_pos k4] at hc
    simp only [Bool.and_eq_true, List.all_eq_true] at hc
    refine ⟨Nat.le_refl _, hc.1.1.1, hc.1.1.2, by have := h.ps; unfold big; omega, by have := h.ss; unfold big; omega, fun x hx => ?_, fun x hx => ?_⟩
    · have := hc.1.2 x hx
      unfold prN at this
      simp only [Bool.and_eq_true] at this
      have := h.p x hx
      exact ⟨by assumption |> And.left, by assumption |> And.right, by unfold big; omega, by unfold big; omega⟩
    · have := hc.2 x hx
      unfold ssN at this
      simp only [Bool.and_eq_true] at this
      exact ⟨this.1, this.2.1, this.2.2.1, this.2.2.2⟩
/-! ### Sizes -/
theorem wNum_sz (w : Wr) (n : Int) : (wNum w n).1.length ≤ w.1.length + 9 := by
  cases h : numOk n with
  | true => exact (wNum_ok w h).2
  | false => unfold wNum; rw [if_pos h]; show w.1.length ≤ _; omega
theorem wText_sz (w : Wr) (s : ByteArray) : (wText w s).1.length ≤ w.1.length + 9 + s.size := by
  have := wNum_sz w s.size
  have hsz : s.data.toList.length = s.size := by rw [Array.length_toList]; rfl
  unfold wText; split
  · omega
  · simp only [List.length_append, hsz]; omega
theorem fold_sz {α : Type} {f : Wr → α → Wr} {g : α → Nat} : ∀ (l : List α) (w : Wr), (∀ x ∈ l, ∀ w, (f w x).1.length ≤ w.1.length + g x) → (l.foldl f w).1.length ≤ w.1.length + (l.map g).sum
  | [], w, _ => by simp
  | x :: l, w, h => by
    have h1 := h x (List.mem_cons_self ..) w
    have h2 := fold_sz l (f w x) (fun y hy => h y (List.mem_cons_of_mem _ hy))
    simp only [List.foldl_cons, List.map_cons, List.sum_cons]; omega
theorem sum_add {α : Type} (C : Nat) (g : α → Nat) : ∀ (l : List α), (l.map fun x => C + g x).sum = C * l.length + (l.map g).sum
  | [] => rfl
  | x :: l => by
    have := sum_add C g l
    simp only [List.map_cons, List.sum_cons, List.length_cons, Nat.mul_add, Nat.mul_one] at this ⊢; omega
theorem fold_z {α : Type} : ∀ (l : List α), (l.map fun _ => (0 : Nat)).sum = 0
  | [] => rfl
  | _ :: l => by simp only [List.map_cons, List.sum_cons, fold_z l]
theorem rec_sz {r : RcG} (h : Few r) : (wRec r).1.length ≤ 140737488900000 := by
  have h0 := wNum_sz ([], false) r.kind
  obtain ⟨w, hw⟩ : ∃ w, wNum ([], false) r.kind = w := ⟨_, rfl⟩
  have hk := h.k
  have ht := h.t
  have hto := h.tot
  unfold wRec
  rw [hw] at h0 ⊢
  simp only [List.length_nil] at h0
  split
  · unfold wEnt wPos
    have a1 := wNum_sz w r.x.e
    have a2 := wNum_sz (wNum w r.x.e) r.x.i
    have a3 := wNum_sz (wNum (wNum w r.x.e) r.x.i) r.x.s
    have a4 := wNum_sz (wNum (wNum (wNum w r.x.e) r.x.i) r.x.s) r.x.r
    have a5 := wText_sz (wNum (wNum (wNum (wNum w r.x.e) r.x.i) r.x.s) r.x.r) r.x.key
    have a6 := wNum_sz (wText (wNum (wNum (wNum (wNum w r.x.e) r.x.i) r.x.s) r.x.r) r.x.key) (if r.x.del = true then 1 else 0)
    have a7 := wText_sz (wFlag (wText (wNum (wNum (wNum (wNum w r.x.e) r.x.i) r.x.s) r.x.r) r.x.key) r.x.del) r.x.tx
    have a6' : (wFlag (wText (wNum (wNum (wNum (wNum w r.x.e) r.x.i) r.x.s) r.x.r) r.x.key) r.x.del).1.length ≤ _ := a6
    omega
  · split
    · unfold wEp
      have a1 := wNum_sz w r.ep.master
      have a2 := wNum_sz (wNum w r.ep.master) r.ep.cut
      have a3 : (wFlag (wNum (wNum w r.ep.master) r.ep.cut) r.ep.forced).1.length ≤ _ := wNum_sz (wNum (wNum w r.ep.master) r.ep.cut) _
      omega
    · split
      · have := wNum_sz w r.config; omega
      · split
        · have hp := h.ps
          have hs := h.ss
          unfold wSnap wPos
          have a1 := wNum_sz w r.sn.e
          have a2 := wNum_sz (wNum w r.sn.e) r.sn.i
          have a3 := wNum_sz (wNum (wNum w r.sn.e) r.sn.i) (r.sn.ps.length : Nat)
          have a4 := fold_sz (f := wPr) (g := fun x => 60 + (x.k.size + x.v.d.size)) r.sn.ps (wNum (wNum (wNum w r.sn.e) r.sn.i) (r.sn.ps.length : Nat)) (fun x hx v => by
            unfold wPr wPos
            have b1 := wText_sz v x.k
            have b2 := wNum_sz (wText v x.k) x.v.a
            have b3 := wNum_sz (wNum (wText v x.k) x.v.a) x.v.b
            have b4 : (wFlag (wNum (wNum (wText v x.k) x.v.a) x.v.b) x.v.c).1.length ≤ _ := wNum_sz (wNum (wNum (wText v x.k) x.v.a) x.v.b) _
            have b5 := wText_sz (wFlag (wNum (wNum (wText v x.k) x.v.a) x.v.b) x.v.c) x.v.d
            omega)
          have a5 := wNum_sz (r.sn.ps.foldl wPr (wNum (wNum (wNum w r.sn.e) r.sn.i) (r.sn.ps.length : Nat))) (r.sn.ss.length : Nat)
          have a6 := fold_sz (f := wSs) (g := fun _ => 100 + 0) r.sn.ss (wNum (r.sn.ps.foldl wPr (wNum (wNum (wNum w r.sn.e) r.sn.i) (r.sn.ps.length : Nat))) (r.sn.ss.length : Nat)) (fun x _ v => by
            unfold wSs wPos
            have b1 := wNum_sz v x.s
            have b2 := wNum_sz (wNum v x.s) x.r
            have b3 := wNum_sz (wNum (wNum v x.s) x.r) x.e
            have b4 := wNum_sz (wNum (wNum (wNum v x.s) x.r) x.e) x.i
            omega)
          rw [sum_add] at a4 a6
          have ht := h.tot
          have hz : (r.sn.ss.map fun _ => (0 : Nat)).sum = 0 := by
            have := fold_z r.sn.ss; exact this
          omega
        · omega
section specs
variable {B : Base}
theorem num15_spec (X : Asn) (ns : List Int) (a : Option Addr) (c : Nat) (hl : ns.length ≤ 1000) (h : RdS Tryz.prog B [X] 1 a ns.length c (ns.map (Value.int .i64))) :
    Fspec Tryz.prog B 63 #[.slice a ns.length c] [X] (fun v A' => v = .bool (ns.all numOk) ∧ A' = [X]) := by
  refine spec_of (args := [_]) Tryz.func63 rfl rfl rfl ?_
  repeat' (first
    | refine zi ?_
    | refine zK ?_
    | refine zQ (h := ?_)
    | refine zU (h := ?_)
    | refine zj ?_
    | refine zR ?_
    | refine zW ?_
    | refine zN ?_
    | refine zV ?_
    | refine ze ?_
    | refine zP ?_
    | refine zY ?_
    | refine zS rfl ?_
    | refine zd ?_
    | refine zX ?_
    | refine zO ?_
    | refine zT ?_
    | refine zL ?_
    | (refine zC (id := 0) ?_; intro K hK; refine zH (k := ?_); (refine zD (hK _ _ ?_); clear hK K))
    | (refine zC (id := 1) ?_; intro K hK; refine zF (k := ?_); refine zn (k' := ?_); refine zF (k := ?_); (refine zD (hK _ _ ?_); clear hK K))
    | (refine zc (ht := (fun ht => ?_)) (hf := (fun ht => ?_)) <;> (try simp at ht) <;> (try (exfalso; omega))))
  refine yI (α := Nat) (fun j => [(0, .slice a ns.length c), (5, .slice a ns.length c), (6, .int .i64 ns.length), (7, .int .i64 j)]) (fun _ => [X]) (fun j => j ≤ ns.length ∧ ∀ x ∈ ns.take j, numOk x = true) (fun j => ns.length - j) 0 ⟨by omega, by simp⟩ ⟨rfl, rfl, rfl, rfl, trivial⟩ (Ent.refl _) ?_
  rintro j G ⟨hj, hall⟩
  simp only [ov]
  by_cases hlt : j < ns.length
  · obtain ⟨p, rfl⟩ : ∃ q, a = some q := by
      cases a with
      | none => have := h.nil rfl; omega
      | some q => exact ⟨q, rfl⟩
    obtain ⟨x, hx⟩ : ∃ x, ns[j]? = some x := ⟨_, List.getElem?_eq_getElem hlt⟩
    have hxm := List.mem_of_getElem? hx
    repeat' (first
      | refine zi ?_
      | refine zK ?_
      | refine zQ (h := ?_)
      | refine zU (h := ?_)
      | refine zj ?_
      | refine zR ?_
      | refine zW ?_
      | refine zN ?_
      | refine zV ?_
      | refine ze ?_
      | refine zP ?_
      | refine zY ?_
      | refine zS rfl ?_
      | refine zd ?_
      | refine zX ?_
      | refine zO ?_
      | refine zT ?_
      | refine zL ?_
      | (refine zC (id := 2) ?_; intro K hK; refine z6 (k' := ?_); (refine zD (hK _ _ ?_); clear hK K))
      | (refine zC (id := 3) ?_; intro K hK; ((refine zq (k' := ?_))) <;> (((refine z4 (v := .int .i64 x) (j := j) (hq := by simp) (hr := h) (hv := by rw [List.getElem?_map, hx]; rfl) (k := ?_))) <;> (refine zH (k := ?_); (refine zD (hK _ _ ?_); clear hK K))))
      | (refine zC (id := 4) ?_; intro K hK; refine zF (k := ?_); refine z6 (k' := ?_); refine zF (k := ?_); ((first | (refine zA (k := ?_); refine zF (k := ?_)) | refine zE (k := ?_) | ((refine zG (yes := (fun ht => ?_)) (no := (fun ht => ?_)) <;> (try simp at ht) <;> (try (exfalso; omega))) <;> (first | (refine zA (k := ?_); refine zF (k := ?_)) | refine zE (k := ?_))))) <;> (((first | (refine zA (k := ?_); refine z0 (k' := ?_)) | refine zE (k := ?_) | ((refine zG (yes := (fun ht => ?_)) (no := (fun ht => ?_)) <;> (try simp at ht) <;> (try (exfalso; omega))) <;> (first | (refine zA (k := ?_); refine z0 (k' := ?_)) | refine zE (k := ?_))))) <;> ((first | refine zZ (k := ?_) | refine za (k := ?_) | refine zg (k := ?_)); (refine zD (hK _ _ ?_); clear hK K))))
      | (refine zC (id := 5) ?_; intro K hK; refine zH (k := ?_); (refine zD (hK _ _ ?_); clear hK K))
      | (refine zC (id := 6) ?_; intro K hK; refine zl (k' := ?_); refine zF (k := ?_); (refine zD (hK _ _ ?_); clear hK K))
      | (refine zc (ht := (fun ht => ?_)) (hf := (fun ht => ?_)) <;> (try simp at ht) <;> (try (exfalso; omega))))
    all_goals first
      | (refine ⟨Or.inr rfl, _, [X], Ent.refl _, res1 rfl rfl, congrArg Value.bool (Eq.symm (List.all_eq_false.2 ⟨x, hxm, ?_⟩)), rfl⟩; unfold numOk; simp; omega)
      | (refine ⟨j + 1, ⟨by omega, fun y hy => ?_⟩, by omega, ⟨rfl, rfl, rfl, int_succ j, trivial⟩, Ent.refl _⟩
         rw [List.take_add_one, hx] at hy
         rcases List.mem_append.1 hy with hy | hy
         · exact hall y hy
         · simp at hy; subst hy; unfold numOk; exact decide_eq_true (by omega))
  obtain rfl : j = ns.length := by omega
  rw [List.take_length] at hall
  repeat' (first
    | refine zi ?_
    | refine zK ?_
    | refine zQ (h := ?_)
    | refine zU (h := ?_)
    | refine zj ?_
    | refine zR ?_
    | refine zW ?_
    | refine zN ?_
    | refine zV ?_
    | refine ze ?_
    | refine zP ?_
    | refine zY ?_
    | refine zS rfl ?_
    | refine zd ?_
    | refine zX ?_
    | refine zO ?_
    | refine zT ?_
    | refine zL ?_
    | (refine zC (id := 2) ?_; intro K hK; refine z6 (k' := ?_); (refine zD (hK _ _ ?_); clear hK K))
    | (refine zC (id := 7) ?_; intro K hK; refine zH (k := ?_); (refine zD (hK _ _ ?_); clear hK K))
    | (refine zc (ht := (fun ht => ?_)) (hf := (fun ht => ?_)) <;> (try simp at ht) <;> (try (exfalso; omega))))
  exact ⟨Or.inr rfl, _, [X], Ent.refl _, res1 rfl rfl, congrArg Value.bool (Eq.symm (List.all_eq_true.2 hall)), rfl⟩
theorem all4 (a b c d : Int) : [a, b, c, d].all numOk = (numOk a && (numOk b && (numOk c && numOk d))) := by simp
theorem can_spec (r : RcG) (hps : r.sn.ps.length ≤ 1000) (hss : r.sn.ss.length ≤ 1000) (pa : Option Addr) (pc : Nat) (sa : Option Addr) (sc : Nat) (h1 : RdS Tryz.prog B [] 5 pa r.sn.ps.length pc (prC r.sn.ps)) (h2 : RdS Tryz.prog B [] 4 sa r.sn.ss.length sc (ssC r.sn.ss)) :
    Fspec Tryz.prog B 19 #[.agg (r.c pa pc sa sc).toArray] [] (fun v A' => v = .bool (canV r) ∧ A' = []) := by
  obtain ⟨kind, x, ep, config, sn⟩ := r
  simp only at hps hss h1 h2
  refine spec_of (args := [_]) Tryz.func19 rfl rfl rfl ?_
  by_cases k1 : kind = 1
  · subst k1
    have e : canV ⟨1, x, ep, config, sn⟩ = [x.e, x.i, x.s, x.r].all numOk := by rw [all4]; rfl
    rw [e]
    simp only [RcG.c]
    repeat' (first
      | refine zi ?_
      | refine zK ?_
      | refine zQ (h := ?_)
      | refine zU (h := ?_)
      | refine zj ?_
      | refine zR ?_
      | refine zW ?_
      | refine zN ?_
      | refine zV ?_
      | refine ze ?_
      | refine zP ?_
      | refine zY ?_
      | refine zS rfl ?_
      | refine zd ?_
      | refine zX ?_
      | refine zO ?_
      | refine zT ?_
      | refine zL ?_
      | (refine zC (id := 0) ?_; intro K hK; ((refine zm (k := ?_); intro r1)) <;> (refine zH (k := ?_); (refine zD (hK _ _ ?_); clear hK K)))
      | (refine zC (id := 1) ?_; intro K hK; refine zB (k := ?_); refine zM (k := ?_); (refine zD (hK _ _ ?_); clear hK K))
      | (refine zC (id := 2) ?_; intro K hK; refine zp (k' := ?_); refine zH (k := ?_); (refine zD (hK _ _ ?_); clear hK K))
      | (refine zC (id := 3) ?_; intro K hK; refine zB (k := ?_); refine zB (k := ?_); refine zB (k := ?_); refine zM (k := ?_); refine zB (k := ?_); refine zB (k := ?_); refine zB (k := ?_); refine zM (k := ?_); refine zB (k := ?_); refine zB (k := ?_); refine zM (k := ?_); refine zB (k := ?_); refine zB (k := ?_); refine zM (k := ?_); ((refine yb (hv := (by rfl)) (k := ?_); intro q)) <;> (((refine zb (hs := num15_spec (cb q [.int .i64 x.e, .int .i64 x.i, .int .i64 x.s, .int .i64 x.r] 3) [x.e, x.i, x.s, x.r] _ 4 (by simp) (rds_cb .head rfl)) (k := ?_); rintro v A' ⟨rfl, rfl⟩; simp only [List.cons_append, List.nil_append])) <;> (refine zH (k := ?_); (refine zD (hK _ _ ?_); clear hK K))))
      | (refine zc (ht := (fun ht => ?_)) (hf := (fun ht => ?_)) <;> (try simp at ht) <;> (try (exfalso; omega))))
    exact ⟨Or.inr rfl, _, [], (by (repeat (first | exact Ent.refl _ | exact Ent.nil | refine Ent.take (by (repeat (first | exact Out.head | apply Out.tail)); (first | done | fail)) ?_ | refine Ent.drop1 ?_)); (first | done | fail)), res1 rfl rfl, rfl, rfl⟩
  by_cases k2 : kind = 2
  · subst k2
    have e : canV ⟨2, x, ep, config, sn⟩ = [ep.master, ep.cut].all numOk := by simp [canV]
    rw [e]
    simp only [RcG.c]
    repeat' (first
      | refine zi ?_
      | refine zK ?_
      | refine zQ (h := ?_)
      | refine zU (h := ?_)
      | refine zj ?_
      | refine zR ?_
      | refine zW ?_
      | refine zN ?_
      | refine zV ?_
      | refine ze ?_
      | refine zP ?_
      | refine zY ?_
      | refine zS rfl ?_
      | refine zd ?_
      | refine zX ?_
      | refine zO ?_
      | refine zT ?_
      | refine zL ?_
      | (refine zC (id := 0) ?_; intro K hK; ((refine zm (k := ?_); intro r1)) <;> (refine zH (k := ?_); (refine zD (hK _ _ ?_); clear hK K)))
      | (refine zC (id := 1) ?_; intro K hK; refine zB (k := ?_); refine zM (k := ?_); (refine zD (hK _ _ ?_); clear hK K))
      | (refine zC (id := 2) ?_; intro K hK; refine zp (k' := ?_); refine zH (k := ?_); (refine zD (hK _ _ ?_); clear hK K))
      | (refine zC (id := 4) ?_; intro K hK; refine zp (k' := ?_); refine zH (k := ?_); (refine zD (hK _ _ ?_); clear hK K))
      | (refine zC (id := 5) ?_; intro K hK; refine zB (k := ?_); refine zB (k := ?_); refine zM (k := ?_); refine zB (k := ?_); refine zB (k := ?_); refine zM (k := ?_); ((refine yb (hv := (by rfl)) (k := ?_); intro q)) <;> (((refine zb (hs := num15_spec (cb q [.int .i64 ep.master, .int .i64 ep.cut] 3) [ep.master, ep.cut] _ 2 (by simp) (rds_cb .head rfl)) (k := ?_); rintro v A' ⟨rfl, rfl⟩; simp only [List.cons_append, List.nil_append])) <;> (refine zH (k := ?_); (refine zD (hK _ _ ?_); clear hK K))))
      | (refine zc (ht := (fun ht => ?_)) (hf := (fun ht => ?_)) <;> (try simp at ht) <;> (try (exfalso; omega))))
    exact ⟨Or.inr rfl, _, [], (by (repeat (first | exact Ent.refl _ | exact Ent.nil | refine Ent.take (by (repeat (first | exact Out.head | apply Out.tail)); (first | done | fail)) ?_ | refine Ent.drop1 ?_)); (first | done | fail)), res1 rfl rfl, rfl, rfl⟩
  by_cases k3 : kind = 3
  · subst k3
    have e : canV ⟨3, x, ep, config, sn⟩ = [config].all numOk := by simp [canV]
    rw [e]
    simp only [RcG.c]
    repeat' (first
      | refine zi ?_
      | refine zK ?_
      | refine zQ (h := ?_)
      | refine zU (h := ?_)
      | refine zj ?_
      | refine zR ?_
      | refine zW ?_
      | refine zN ?_
      | refine zV ?_
      | refine ze ?_
      | refine zP ?_
      | refine zY ?_
      | refine zS rfl ?_
      | refine zd ?_
      | refine zX ?_
      | refine zO ?_
      | refine zT ?_
      | refine zL ?_
      | (refine zC (id := 0) ?_; intro K hK; ((refine zm (k := ?_); intro r1)) <;> (refine zH (k := ?_); (refine zD (hK _ _ ?_); clear hK K)))
      | (refine zC (id := 1) ?_; intro K hK; refine zB (k := ?_); refine zM (k := ?_); (refine zD (hK _ _ ?_); clear hK K))
      | (refine zC (id := 2) ?_; intro K hK; refine zp (k' := ?_); refine zH (k := ?_); (refine zD (hK _ _ ?_); clear hK K))
      | (refine zC (id := 4) ?_; intro K hK; refine zp (k' := ?_); refine zH (k := ?_); (refine zD (hK _ _ ?_); clear hK K))
      | (refine zC (id := 6) ?_; intro K hK; refine zp (k' := ?_); refine zH (k := ?_); (refine zD (hK _ _ ?_); clear hK K))
      | (refine zC (id := 7) ?_; intro K hK; refine zB (k := ?_); refine zM (k := ?_); ((refine yb (hv := (by rfl)) (k := ?_); intro q)) <;> (((refine zb (hs := num15_spec (cb q [.int .i64 config] 3) [config] _ 1 (by simp) (rds_cb .head rfl)) (k := ?_); rintro v A' ⟨rfl, rfl⟩; simp only [List.cons_append, List.nil_append])) <;> (refine zH (k := ?_); (refine zD (hK _ _ ?_); clear hK K))))
      | (refine zc (ht := (fun ht => ?_)) (hf := (fun ht => ?_)) <;> (try simp at ht) <;> (try (exfalso; omega))))
    exact ⟨Or.inr rfl, _, [], (by (repeat (first | exact Ent.refl _ | exact Ent.nil | refine Ent.take (by (repeat (first | exact Out.head | apply Out.tail)); (first | done | fail)) ?_ | refine Ent.drop1 ?_)); (first | done | fail)), res1 rfl rfl, rfl, rfl⟩
  by_cases k4 : kind = 4
  · subst k4
    have e : canV ⟨4, x, ep, config, sn⟩ = ([sn.e, sn.i].all numOk && sn.ps.all prN && sn.ss.all ssN) := by simp [canV, Bool.and_assoc]
    rw [e]
    simp only [RcG.c]
    obtain ⟨c0, hc0⟩ : ∃ c, [sn.e, sn.i].all numOk = c := ⟨_, rfl⟩
    have hn0 := fun q => num15_spec (B := B) (cb q [.int .i64 sn.e, .int .i64 sn.i] 3) [sn.e, sn.i] (some ⟨q, 0, none⟩) 2 (by simp) (rds_cb .head rfl)
    rw [hc0] at hn0 ⊢
    repeat' (first
      | refine zi ?_
      | refine zK ?_
      | refine zQ (h := ?_)
      | refine zU (h := ?_)
      | refine zj ?_
      | refine zR ?_
      | refine zW ?_
      | refine zN ?_
      | refine zV ?_
      | refine ze ?_
      | refine zP ?_
      | refine zY ?_
      | refine zS rfl ?_
      | refine zd ?_
      | refine zX ?_
      | refine zO ?_
      | refine zT ?_
      | refine zL ?_
      | (refine zC (id := 0) ?_; intro K hK; ((refine zm (k := ?_); intro r1)) <;> (refine zH (k := ?_); (refine zD (hK _ _ ?_); clear hK K)))
      | (refine zC (id := 1) ?_; intro K hK; refine zB (k := ?_); refine zM (k := ?_); (refine zD (hK _ _ ?_); clear hK K))
      | (refine zC (id := 2) ?_; intro K hK; refine zp (k' := ?_); refine zH (k := ?_); (refine zD (hK _ _ ?_); clear hK K))
      | (refine zC (id := 4) ?_; intro K hK; refine zp (k' := ?_); refine zH (k := ?_); (refine zD (hK _ _ ?_); clear hK K))
      | (refine zC (id := 6) ?_; intro K hK; refine zp (k' := ?_); refine zH (k := ?_); (refine zD (hK _ _ ?_); clear hK K))
      | (refine zC (id := 8) ?_; intro K hK; refine zp (k' := ?_); refine zH (k := ?_); (refine zD (hK _ _ ?_); clear hK K))
      | (refine zC (id := 9) ?_; intro K hK; refine zB (k := ?_); refine zB (k := ?_); refine zB (k := ?_); refine zM (k := ?_); refine zB (k := ?_); refine zB (k := ?_); refine zB (k := ?_); refine zM (k := ?_); ((refine yb (hv := (by rfl)) (k := ?_); intro q)) <;> (((refine zb (hs := hn0 q) (k := ?_); rintro v A' ⟨rfl, rfl⟩; simp only [List.cons_append, List.nil_append])) <;> (refine zH (k := ?_); (refine zD (hK _ _ ?_); clear hK K))))
      | (refine zC (id := 10) ?_; intro K hK; refine zB (k := ?_); refine zB (k := ?_); refine zM (k := ?_); refine zn (k' := ?_); refine zF (k := ?_); (refine zD (hK _ _ ?_); clear hK K))
      | (refine zc (ht := (fun ht => ?_)) (hf := (fun ht => ?_)) <;> (try simp at ht) <;> (try (exfalso; omega))))
    refine yI (α := Nat) (fun j => [(1, .pointer (some ⟨r1, 0, none⟩)), (3, .bool (c0 && (sn.ps.take j).all prN)), (58, .slice pa sn.ps.length pc), (59, .int .i64 sn.ps.length), (60, .int .i64 j)]) (fun _ => [cb r1 ((⟨4, x, ep, config, sn⟩ : RcG).c pa pc sa sc) 47])
      (fun j => j ≤ sn.ps.length) (fun j => sn.ps.length - j) 0 (by omega) ⟨rfl, congrArg Value.bool (by simp : c0 = (c0 && (sn.ps.take 0).all prN)), rfl, rfl, rfl, trivial⟩ (by (repeat (first | exact Ent.refl _ | exact Ent.nil | refine Ent.take (by (repeat (first | exact Out.head | apply Out.tail)); (first | done | fail)) ?_ | refine Ent.drop1 ?_)); (first | done | fail)) ?_
    intro j G hj
    simp only [ov, RcG.c] at hj ⊢
    by_cases hlt : j < sn.ps.length
    · obtain ⟨p, rfl⟩ : ∃ q, pa = some q := by
        cases pa with
        | none => have := h1.nil rfl; omega
        | some q => exact ⟨q, rfl⟩
      obtain ⟨y, hy⟩ : ∃ y, sn.ps[j]? = some y := ⟨_, List.getElem?_eq_getElem hlt⟩
      have e2 : (sn.ps.take (j + 1)).all prN = ((sn.ps.take j).all prN && prN y) := by
        rw [List.take_add_one, hy]; simp
      have e3 : [y.v.a, y.v.b].all numOk = prN y := by simp [prN]
      obtain ⟨c1, hc1⟩ : ∃ c, (c0 && (sn.ps.take j).all prN) = c := ⟨_, rfl⟩
      have e4 : (c0 && (sn.ps.take (j + 1)).all prN) = (c1 && prN y) := by rw [e2, ← hc1, Bool.and_assoc]
      rw [hc1]
      repeat' (first
        | refine zi ?_
        | refine zK ?_
        | refine zQ (h := ?_)
        | refine zU (h := ?_)
        | refine zj ?_
        | refine zR ?_
        | refine zW ?_
        | refine zN ?_
        | refine zV ?_
        | refine ze ?_
        | refine zP ?_
        | refine zY ?_
        | refine zS rfl ?_
        | refine zd ?_
        | refine zX ?_
        | refine zO ?_
        | refine zT ?_
        | refine zL ?_
        | (refine zC (id := 11) ?_; intro K hK; refine z6 (k' := ?_); (refine zD (hK _ _ ?_); clear hK K))
        | (refine zC (id := 12) ?_; intro K hK; ((refine zq (k' := ?_))) <;> (((refine yD (j := j * 5) (cs := PrX.c y) (hq := by simp) (hr := h1.any) (hv := prC_row hy) (k := ?_))) <;> (((refine zw (k := ?_); intro q5)) <;> (refine zh (ho' := rfl) (k := ?_); (refine zD (hK _ _ ?_); clear hK K)))))
        | (refine zC (id := 13) ?_; intro K hK; refine zF (k := ?_); refine zF (k := ?_); ((first | (refine zA (k := ?_); refine zB (k := ?_)) | refine zE (k := ?_) | ((refine zG (yes := (fun ht => ?_)) (no := (fun ht => ?_)) <;> (try simp at ht) <;> (try (exfalso; omega))) <;> (first | (refine zA (k := ?_); refine zB (k := ?_)) | refine zE (k := ?_))))) <;> (((first | (refine zA (k := ?_); refine zB (k := ?_)) | refine zE (k := ?_) | ((refine zG (yes := (fun ht => ?_)) (no := (fun ht => ?_)) <;> (try simp at ht) <;> (try (exfalso; omega))) <;> (first | (refine zA (k := ?_); refine zB (k := ?_)) | refine zE (k := ?_))))) <;> (((first | (refine zA (k := ?_); refine zB (k := ?_)) | refine zE (k := ?_) | ((refine zG (yes := (fun ht => ?_)) (no := (fun ht => ?_)) <;> (try simp at ht) <;> (try (exfalso; omega))) <;> (first | (refine zA (k := ?_); refine zB (k := ?_)) | refine zE (k := ?_))))) <;> (((first | (refine zA (k := ?_); refine zM (k := ?_)) | refine zE (k := ?_) | ((refine zG (yes := (fun ht => ?_)) (no := (fun ht => ?_)) <;> (try simp at ht) <;> (try (exfalso; omega))) <;> (first | (refine zA (k := ?_); refine zM (k := ?_)) | refine zE (k := ?_))))) <;> (((first | (refine zA (k := ?_); refine zB (k := ?_)) | refine zE (k := ?_) | ((refine zG (yes := (fun ht => ?_)) (no := (fun ht => ?_)) <;> (try simp at ht) <;> (try (exfalso; omega))) <;> (first | (refine zA (k := ?_); refine zB (k := ?_)) | refine zE (k := ?_))))) <;> (((first | (refine zA (k := ?_); refine zB (k := ?_)) | refine zE (k := ?_) | ((refine zG (yes := (fun ht => ?_)) (no := (fun ht => ?_)) <;> (try simp at ht) <;> (try (exfalso; omega))) <;> (first | (refine zA (k := ?_); refine zB (k := ?_)) | refine zE (k := ?_))))) <;> (((first | (refine zA (k := ?_); refine zB (k := ?_)) | refine zE (k := ?_) | ((refine zG (yes := (fun ht => ?_)) (no := (fun ht => ?_)) <;> (try simp at ht) <;> (try (exfalso; omega))) <;> (first | (refine zA (k := ?_); refine zB (k := ?_)) | refine zE (k := ?_))))) <;> (((first | (refine zA (k := ?_); refine zM (k := ?_)) | refine zE (k := ?_) | ((refine zG (yes := (fun ht => ?_)) (no := (fun ht => ?_)) <;> (try simp at ht) <;> (try (exfalso; omega))) <;> (first | (refine zA (k := ?_); refine zM (k := ?_)) | refine zE (k := ?_))))) <;> (((first | (refine zA (k := ?_); (refine yb (hv := (by rfl)) (k := ?_); intro q)) | refine zE (k := ?_) | ((refine zG (yes := (fun ht => ?_)) (no := (fun ht => ?_)) <;> (try simp at ht) <;> (try (exfalso; omega))) <;> (first | (refine zA (k := ?_); (refine yb (hv := (by rfl)) (k := ?_); intro q)) | refine zE (k := ?_))))) <;> (((first | (refine zA (k := ?_); (refine zb (hs := num15_spec (cb q [.int .i64 y.v.a, .int .i64 y.v.b] 3) [y.v.a, y.v.b] _ 2 (by simp) (rds_cb .head rfl)) (k := ?_); rintro v A' ⟨rfl, rfl⟩; simp only [List.cons_append, List.nil_append])) | refine zE (k := ?_) | ((refine zG (yes := (fun ht => ?_)) (no := (fun ht => ?_)) <;> (try simp at ht) <;> (try (exfalso; omega))) <;> (first | (refine zA (k := ?_); (refine zb (hs := num15_spec (cb q [.int .i64 y.v.a, .int .i64 y.v.b] 3) [y.v.a, y.v.b] _ 2 (by simp) (rds_cb .head rfl)) (k := ?_); rintro v A' ⟨rfl, rfl⟩; simp only [List.cons_append, List.nil_append])) | refine zE (k := ?_))))) <;> ((first | refine zZ (k := ?_) | refine za (k := ?_) | refine zg (k := ?_)); refine zH (k := ?_); (refine zD (hK _ _ ?_); clear hK K))))))))))))
        | (refine zC (id := 14) ?_; intro K hK; refine zl (k' := ?_); refine zF (k := ?_); (refine zD (hK _ _ ?_); clear hK K))
        | (refine zc (ht := (fun ht => ?_)) (hf := (fun ht => ?_)) <;> (try simp at ht) <;> (try (exfalso; omega))))
      all_goals exact ⟨j + 1, by show j + 1 ≤ _; omega, by omega, ⟨rfl, congrArg Value.bool (by rw [e4, ← e3]; clear hc1 e4; cases c1 <;> first | rfl | contradiction | (simp at *; done)), rfl, rfl, int_succ j, trivial⟩, (by (repeat (first | exact Ent.refl _ | exact Ent.nil | refine Ent.take (by (repeat (first | exact Out.head | apply Out.tail)); (first | done | fail)) ?_ | refine Ent.drop1 ?_)); (first | done | fail))⟩
    obtain rfl : j = sn.ps.length := by omega
    obtain ⟨c2, hc2⟩ : ∃ c, (c0 && (sn.ps.take sn.ps.length).all prN) = c := ⟨_, rfl⟩
    rw [hc2]
    rw [List.take_length] at hc2
    rw [hc2]
    repeat' (first
      | refine zi ?_
      | refine zK ?_
      | refine zQ (h := ?_)
      | refine zU (h := ?_)
      | refine zj ?_
      | refine zR ?_
      | refine zW ?_
      | refine zN ?_
      | refine zV ?_
      | refine ze ?_
      | refine zP ?_
      | refine zY ?_
      | refine zS rfl ?_
      | refine zd ?_
      | refine zX ?_
      | refine zO ?_
      | refine zT ?_
      | refine zL ?_
      | (refine zC (id := 11) ?_; intro K hK; refine z6 (k' := ?_); (refine zD (hK _ _ ?_); clear hK K))
      | (refine zC (id := 15) ?_; intro K hK; refine zB (k := ?_); refine zB (k := ?_); refine zM (k := ?_); refine zn (k' := ?_); refine zF (k := ?_); (refine zD (hK _ _ ?_); clear hK K))
      | (refine zc (ht := (fun ht => ?_)) (hf := (fun ht => ?_)) <;> (try simp at ht) <;> (try (exfalso; omega))))
    refine yI (α := Nat) (fun j => [(1, .pointer (some ⟨r1, 0, none⟩)), (3, .bool (c2 && (sn.ss.take j).all ssN)), (80, .slice sa sn.ss.length sc), (81, .int .i64 sn.ss.length), (82, .int .i64 j)]) (fun _ => [cb r1 ((⟨4, x, ep, config, sn⟩ : RcG).c pa pc sa sc) 47])
      (fun j => j ≤ sn.ss.length) (fun j => sn.ss.length - j) 0 (by omega) ⟨rfl, congrArg Value.bool (by simp : c2 = (c2 && (sn.ss.take 0).all ssN)), rfl, rfl, rfl, trivial⟩ (by (repeat (first | exact Ent.refl _ | exact Ent.nil | refine Ent.take (by (repeat (first | exact Out.head | apply Out.tail)); (first | done | fail)) ?_ | refine Ent.drop1 ?_)); (first | done | fail)) ?_
    intro j G2 hj2
    simp only [ov, RcG.c] at hj2 ⊢
    by_cases hlt2 : j < sn.ss.length
    · obtain ⟨p, rfl⟩ : ∃ q, sa = some q := by
        cases sa with
        | none => have := h2.nil rfl; omega
        | some q => exact ⟨q, rfl⟩
      obtain ⟨y, hy⟩ : ∃ y, sn.ss[j]? = some y := ⟨_, List.getElem?_eq_getElem hlt2⟩
      have e2 : (sn.ss.take (j + 1)).all ssN = ((sn.ss.take j).all ssN && ssN y) := by
        rw [List.take_add_one, hy]; simp
      have e3 : [y.s, y.r, y.e, y.i].all numOk = ssN y := by rw [all4]; rfl
      obtain ⟨c1, hc1⟩ : ∃ c, (c2 && (sn.ss.take j).all ssN) = c := ⟨_, rfl⟩
      have e4 : (c2 && (sn.ss.take (j + 1)).all ssN) = (c1 && ssN y) := by rw [e2, ← hc1, Bool.and_assoc]
      rw [hc1]
      repeat' (first
        | refine zi ?_
        | refine zK ?_
        | refine zQ (h := ?_)
        | refine zU (h := ?_)
        | refine zj ?_
        | refine zR ?_
        | refine zW ?_
        | refine zN ?_
        | refine zV ?_
        | refine ze ?_
        | refine zP ?_
        | refine zY ?_
        | refine zS rfl ?_
        | refine zd ?_
        | refine zX ?_
        | refine zO ?_
        | refine zT ?_
        | refine zL ?_
        | (refine zC (id := 16) ?_; intro K hK; refine z6 (k' := ?_); (refine zD (hK _ _ ?_); clear hK K))
        | (refine zC (id := 17) ?_; intro K hK; ((refine zq (k' := ?_))) <;> (((refine yD (j := j * 4) (cs := SX.c y) (hq := by simp) (hr := h2.any) (hv := ssC_row hy) (k := ?_))) <;> (((refine zw (k := ?_); intro q5)) <;> (refine zh (ho' := rfl) (k := ?_); (refine zD (hK _ _ ?_); clear hK K)))))
        | (refine zC (id := 18) ?_; intro K hK; refine zF (k := ?_); refine zF (k := ?_); ((first | (refine zA (k := ?_); refine zB (k := ?_)) | refine zE (k := ?_) | ((refine zG (yes := (fun ht => ?_)) (no := (fun ht => ?_)) <;> (try simp at ht) <;> (try (exfalso; omega))) <;> (first | (refine zA (k := ?_); refine zB (k := ?_)) | refine zE (k := ?_))))) <;> (((first | (refine zA (k := ?_); refine zM (k := ?_)) | refine zE (k := ?_) | ((refine zG (yes := (fun ht => ?_)) (no := (fun ht => ?_)) <;> (try simp at ht) <;> (try (exfalso; omega))) <;> (first | (refine zA (k := ?_); refine zM (k := ?_)) | refine zE (k := ?_))))) <;> (((first | (refine zA (k := ?_); refine zB (k := ?_)) | refine zE (k := ?_) | ((refine zG (yes := (fun ht => ?_)) (no := (fun ht => ?_)) <;> (try simp at ht) <;> (try (exfalso; omega))) <;> (first | (refine zA (k := ?_); refine zB (k := ?_)) | refine zE (k := ?_))))) <;> (((first | (refine zA (k := ?_); refine zM (k := ?_)) | refine zE (k := ?_) | ((refine zG (yes := (fun ht => ?_)) (no := (fun ht => ?_)) <;> (try simp at ht) <;> (try (exfalso; omega))) <;> (first | (refine zA (k := ?_); refine zM (k := ?_)) | refine zE (k := ?_))))) <;> (((first | (refine zA (k := ?_); refine zB (k := ?_)) | refine zE (k := ?_) | ((refine zG (yes := (fun ht => ?_)) (no := (fun ht => ?_)) <;> (try simp at ht) <;> (try (exfalso; omega))) <;> (first | (refine zA (k := ?_); refine zB (k := ?_)) | refine zE (k := ?_))))) <;> (((first | (refine zA (k := ?_); refine zB (k := ?_)) | refine zE (k := ?_) | ((refine zG (yes := (fun ht => ?_)) (no := (fun ht => ?_)) <;> (try simp at ht) <;> (try (exfalso; omega))) <;> (first | (refine zA (k := ?_); refine zB (k := ?_)) | refine zE (k := ?_))))) <;> (((first | (refine zA (k := ?_); refine zM (k := ?_)) | refine zE (k := ?_) | ((refine zG (yes := (fun ht => ?_)) (no := (fun ht => ?_)) <;> (try simp at ht) <;> (try (exfalso; omega))) <;> (first | (refine zA (k := ?_); refine zM (k := ?_)) | refine zE (k := ?_))))) <;> (((first | (refine zA (k := ?_); refine zB (k := ?_)) | refine zE (k := ?_) | ((refine zG (yes := (fun ht => ?_)) (no := (fun ht => ?_)) <;> (try simp at ht) <;> (try (exfalso; omega))) <;> (first | (refine zA (k := ?_); refine zB (k := ?_)) | refine zE (k := ?_))))) <;> (((first | (refine zA (k := ?_); refine zB (k := ?_)) | refine zE (k := ?_) | ((refine zG (yes := (fun ht => ?_)) (no := (fun ht => ?_)) <;> (try simp at ht) <;> (try (exfalso; omega))) <;> (first | (refine zA (k := ?_); refine zB (k := ?_)) | refine zE (k := ?_))))) <;> (((first | (refine zA (k := ?_); refine zM (k := ?_)) | refine zE (k := ?_) | ((refine zG (yes := (fun ht => ?_)) (no := (fun ht => ?_)) <;> (try simp at ht) <;> (try (exfalso; omega))) <;> (first | (refine zA (k := ?_); refine zM (k := ?_)) | refine zE (k := ?_))))) <;> (((first | (refine zA (k := ?_); (refine yb (hv := (by rfl)) (k := ?_); intro q)) | refine zE (k := ?_) | ((refine zG (yes := (fun ht => ?_)) (no := (fun ht => ?_)) <;> (try simp at ht) <;> (try (exfalso; omega))) <;> (first | (refine zA (k := ?_); (refine yb (hv := (by rfl)) (k := ?_); intro q)) | refine zE (k := ?_))))) <;> (((first | (refine zA (k := ?_); (refine zb (hs := num15_spec (cb q [.int .i64 y.s, .int .i64 y.r, .int .i64 y.e, .int .i64 y.i] 3) [y.s, y.r, y.e, y.i] _ 4 (by simp) (rds_cb .head rfl)) (k := ?_); rintro v A' ⟨rfl, rfl⟩; simp only [List.cons_append, List.nil_append])) | refine zE (k := ?_) | ((refine zG (yes := (fun ht => ?_)) (no := (fun ht => ?_)) <;> (try simp at ht) <;> (try (exfalso; omega))) <;> (first | (refine zA (k := ?_); (refine zb (hs := num15_spec (cb q [.int .i64 y.s, .int .i64 y.r, .int .i64 y.e, .int .i64 y.i] 3) [y.s, y.r, y.e, y.i] _ 4 (by simp) (rds_cb .head rfl)) (k := ?_); rintro v A' ⟨rfl, rfl⟩; simp only [List.cons_append, List.nil_append])) | refine zE (k := ?_))))) <;> ((first | refine zZ (k := ?_) | refine za (k := ?_) | refine zg (k := ?_)); refine zH (k := ?_); (refine zD (hK _ _ ?_); clear hK K))))))))))))))
        | (refine zC (id := 19) ?_; intro K hK; refine zl (k' := ?_); refine zF (k := ?_); (refine zD (hK _ _ ?_); clear hK K))
        | (refine zc (ht := (fun ht => ?_)) (hf := (fun ht => ?_)) <;> (try simp at ht) <;> (try (exfalso; omega))))
      all_goals exact ⟨j + 1, by show j + 1 ≤ _; omega, by omega, ⟨rfl, congrArg Value.bool (by rw [e4, ← e3]; clear hc1 e4; cases c1 <;> first | rfl | contradiction | (simp at *; done)), rfl, rfl, int_succ j, trivial⟩, (by (repeat (first | exact Ent.refl _ | exact Ent.nil | refine Ent.take (by (repeat (first | exact Out.head | apply Out.tail)); (first | done | fail)) ?_ | refine Ent.drop1 ?_)); (first | done | fail))⟩
    obtain rfl : j = sn.ss.length := by omega
    repeat' (first
      | refine zi ?_
      | refine zK ?_
      | refine zQ (h := ?_)
      | refine zU (h := ?_)
      | refine zj ?_
      | refine zR ?_
      | refine zW ?_
      | refine zN ?_
      | refine zV ?_
      | refine ze ?_
      | refine zP ?_
      | refine zY ?_
      | refine zS rfl ?_
      | refine zd ?_
      | refine zX ?_
      | refine zO ?_
      | refine zT ?_
      | refine zL ?_
      | (refine zC (id := 16) ?_; intro K hK; refine z6 (k' := ?_); (refine zD (hK _ _ ?_); clear hK K))
      | (refine zC (id := 20) ?_; intro K hK; refine zF (k := ?_); refine zH (k := ?_); (refine zD (hK _ _ ?_); clear hK K))
      | (refine zc (ht := (fun ht => ?_)) (hf := (fun ht => ?_)) <;> (try simp at ht) <;> (try (exfalso; omega))))
    exact ⟨Or.inr rfl, _, [], (by (repeat (first | exact Ent.refl _ | exact Ent.nil | refine Ent.take (by (repeat (first | exact Out.head | apply Out.tail)); (first | done | fail)) ?_ | refine Ent.drop1 ?_)); (first | done | fail)), res1 rfl rfl, (show Value.bool (c2 && (sn.ss.take sn.ss.length).all ssN) = _ by rw [List.take_length]), rfl⟩
  have e : canV ⟨kind, x, ep, config, sn⟩ = decide (kind = 5) := by simp [canV, k1, k2, k3, k4]
  rw [e]
  simp only [RcG.c]
  repeat' (first
    | refine zi ?_
    | refine zK ?_
    | refine zQ (h := ?_)
    | refine zU (h := ?_)
    | refine zj ?_
    | refine zR ?_
    | refine zW ?_
    | refine zN ?_
    | refine zV ?_
    | refine ze ?_
    | refine zP ?_
    | refine zY ?_
    | refine zS rfl ?_
    | refine zd ?_
    | refine zX ?_
    | refine zO ?_
    | refine zT ?_
    | refine zL ?_
    | (refine zC (id := 0) ?_; intro K hK; ((refine zm (k := ?_); intro r1)) <;> (refine zH (k := ?_); (refine zD (hK _ _ ?_); clear hK K)))
    | (refine zC (id := 1) ?_; intro K hK; refine zB (k := ?_); refine zM (k := ?_); (refine zD (hK _ _ ?_); clear hK K))
    | (refine zC (id := 2) ?_; intro K hK; refine zp (k' := ?_); refine zH (k := ?_); (refine zD (hK _ _ ?_); clear hK K))
    | (refine zC (id := 4) ?_; intro K hK; refine zp (k' := ?_); refine zH (k := ?_); (refine zD (hK _ _ ?_); clear hK K))
    | (refine zC (id := 6) ?_; intro K hK; refine zp (k' := ?_); refine zH (k := ?_); (refine zD (hK _ _ ?_); clear hK K))
    | (refine zC (id := 8) ?_; intro K hK; refine zp (k' := ?_); refine zH (k := ?_); (refine zD (hK _ _ ?_); clear hK K))
    | (refine zC (id := 21) ?_; intro K hK; refine zB (k := ?_); refine zM (k := ?_); refine zp (k' := ?_); refine zH (k := ?_); (refine zD (hK _ _ ?_); clear hK K))
    | (refine zc (ht := (fun ht => ?_)) (hf := (fun ht => ?_)) <;> (try simp at ht) <;> (try (exfalso; omega))))
  all_goals exact ⟨Or.inr rfl, _, [], (by (repeat (first | exact Ent.refl _ | exact Ent.nil | refine Ent.take (by (repeat (first | exact Out.head | apply Out.tail)); (first | done | fail)) ?_ | refine Ent.drop1 ?_)); (first | done | fail)), res1 rfl rfl, rfl, rfl⟩
theorem named_spec (X : Asn) (a b : RcG) (hn : Named a b) (pa : Option Addr) (pc : Nat) (sa : Option Addr) (sc : Nat) (pa2 : Option Addr) (pc2 : Nat) (sa2 : Option Addr) (sc2 : Nat)
    (hps : a.kind = 4 → a.sn.ps.length ≤ 1000000 ∧ a.sn.ss.length ≤ 1000000)
    (hr : a.kind = 4 → RdS Tryz.prog B [X] 5 pa a.sn.ps.length pc (prC a.sn.ps) ∧ RdS Tryz.prog B [X] 4 sa a.sn.ss.length sc (ssC a.sn.ss) ∧ RdS Tryz.prog B [X] 5 pa2 a.sn.ps.length pc2 (prC a.sn.ps) ∧ RdS Tryz.prog B [X] 4 sa2 a.sn.ss.length sc2 (ssC a.sn.ss)) :
    Fspec Tryz.prog B 21 #[.agg (a.c pa pc sa sc).toArray, .agg (b.c pa2 pc2 sa2 sc2).toArray] [X] (fun v A' => v = .bool true ∧ A' = [X]) := by
  obtain ⟨hk, hx, he, hc, hs⟩ := hn
  obtain ⟨kind, x, ep, config, sn⟩ := a
  obtain ⟨kind2, x2, ep2, config2, sn2⟩ := b
  simp only at hk hx he hc hs hps hr
  subst hk
  refine spec_of (args := [_, _]) Tryz.func21 rfl rfl rfl ?_
  simp only [RcG.c]
  by_cases k1 : kind = 1
  · obtain rfl := hx k1
    subst k1
    repeat' (first
      | refine zi ?_
      | refine zK ?_
      | refine zQ (h := ?_)
      | refine zU (h := ?_)
      | refine zj ?_
      | refine zR ?_
      | refine zW ?_
      | refine zN ?_
      | refine zV ?_
      | refine ze ?_
      | refine zP ?_
      | refine zY ?_
      | refine zS rfl ?_
      | refine zd ?_
      | refine zX ?_
      | refine zO ?_
      | refine zT ?_
      | refine zL ?_
      | (refine zC (id := 0) ?_; intro K hK; ((refine zm (k := ?_); intro r2)) <;> (((refine zm (k := ?_); intro r3)) <;> (refine zH (k := ?_); (refine zD (hK _ _ ?_); clear hK K))))
      | (refine zC (id := 1) ?_; intro K hK; refine zB (k := ?_); refine zM (k := ?_); refine zB (k := ?_); refine zM (k := ?_); refine z8 (k' := ?_); (refine zD (hK _ _ ?_); clear hK K))
      | (refine zC (id := 3) ?_; intro K hK; refine zB (k := ?_); refine zM (k := ?_); (refine zD (hK _ _ ?_); clear hK K))
      | (refine zC (id := 4) ?_; intro K hK; refine zp (k' := ?_); refine zH (k := ?_); (refine zD (hK _ _ ?_); clear hK K))
      | (refine zC (id := 5) ?_; intro K hK; refine zB (k := ?_); ((refine z5 (cs := x.c) (hv := by simp) (hc := rfl) (k := ?_))) <;> (refine zB (k := ?_); ((refine z5 (cs := x.c) (hv := by simp) (hc := rfl) (k := ?_))) <;> (((refine yK (b := true) (hb := ceqL_self _ [.i .i64, .i .i64, .i .i64, .i .i64, .s, .b, .s] rfl) (k' := ?_))) <;> (refine zH (k := ?_); (refine zD (hK _ _ ?_); clear hK K)))))
      | (refine zc (ht := (fun ht => ?_)) (hf := (fun ht => ?_)) <;> (try simp at ht) <;> (try (exfalso; omega))))
    all_goals exact ⟨Or.inr rfl, _, [X], (by (repeat (first | exact Ent.refl _ | exact Ent.nil | refine Ent.take (by (repeat (first | exact Out.head | apply Out.tail)); (first | done | fail)) ?_ | refine Ent.drop1 ?_)); (first | done | fail)), res1 rfl rfl, rfl, rfl⟩
  by_cases k2 : kind = 2
  · obtain rfl := he k2
    subst k2
    repeat' (first
      | refine zi ?_
      | refine zK ?_
      | refine zQ (h := ?_)
      | refine zU (h := ?_)
      | refine zj ?_
      | refine zR ?_
      | refine zW ?_
      | refine zN ?_
      | refine zV ?_
      | refine ze ?_
      | refine zP ?_
      | refine zY ?_
      | refine zS rfl ?_
      | refine zd ?_
      | refine zX ?_
      | refine zO ?_
      | refine zT ?_
      | refine zL ?_
      | (refine zC (id := 0) ?_; intro K hK; ((refine zm (k := ?_); intro r2)) <;> (((refine zm (k := ?_); intro r3)) <;> (refine zH (k := ?_); (refine zD (hK _ _ ?_); clear hK K))))
      | (refine zC (id := 1) ?_; intro K hK; refine zB (k := ?_); refine zM (k := ?_); refine zB (k := ?_); refine zM (k := ?_); refine z8 (k' := ?_); (refine zD (hK _ _ ?_); clear hK K))
      | (refine zC (id := 3) ?_; intro K hK; refine zB (k := ?_); refine zM (k := ?_); (refine zD (hK _ _ ?_); clear hK K))
      | (refine zC (id := 4) ?_; intro K hK; refine zp (k' := ?_); refine zH (k := ?_); (refine zD (hK _ _ ?_); clear hK K))
      | (refine zC (id := 6) ?_; intro K hK; refine zp (k' := ?_); refine zH (k := ?_); (refine zD (hK _ _ ?_); clear hK K))
      | (refine zC (id := 7) ?_; intro K hK; refine zB (k := ?_); ((refine z5 (cs := epC ep) (hv := by simp) (hc := rfl) (k := ?_))) <;> (refine zB (k := ?_); ((refine z5 (cs := epC ep) (hv := by simp) (hc := rfl) (k := ?_))) <;> (((refine yK (b := true) (hb := ceqL_self _ [.i .i64, .i .i64, .b] rfl) (k' := ?_))) <;> (refine zH (k := ?_); (refine zD (hK _ _ ?_); clear hK K)))))
      | (refine zc (ht := (fun ht => ?_)) (hf := (fun ht => ?_)) <;> (try simp at ht) <;> (try (exfalso; omega))))
    all_goals exact ⟨Or.inr rfl, _, [X], (by (repeat (first | exact Ent.refl _ | exact Ent.nil | refine Ent.take (by (repeat (first | exact Out.head | apply Out.tail)); (first | done | fail)) ?_ | refine Ent.drop1 ?_)); (first | done | fail)), res1 rfl rfl, rfl, rfl⟩
  by_cases k3 : kind = 3
  · obtain rfl := hc k3
    subst k3
    repeat' (first
      | refine zi ?_
      | refine zK ?_
      | refine zQ (h := ?_)
      | refine zU (h := ?_)
      | refine zj ?_
      | refine zR ?_
      | refine zW ?_
      | refine zN ?_
      | refine zV ?_
      | refine ze ?_
      | refine zP ?_
      | refine zY ?_
      | refine zS rfl ?_
      | refine zd ?_
      | refine zX ?_
      | refine zO ?_
      | refine zT ?_
      | refine zL ?_
      | (refine zC (id := 0) ?_; intro K hK; ((refine zm (k := ?_); intro r2)) <;> (((refine zm (k := ?_); intro r3)) <;> (refine zH (k := ?_); (refine zD (hK _ _ ?_); clear hK K))))
      | (refine zC (id := 1) ?_; intro K hK; refine zB (k := ?_); refine zM (k := ?_); refine zB (k := ?_); refine zM (k := ?_); refine z8 (k' := ?_); (refine zD (hK _ _ ?_); clear hK K))
      | (refine zC (id := 3) ?_; intro K hK; refine zB (k := ?_); refine zM (k := ?_); (refine zD (hK _ _ ?_); clear hK K))
      | (refine zC (id := 4) ?_; intro K hK; refine zp (k' := ?_); refine zH (k := ?_); (refine zD (hK _ _ ?_); clear hK K))
      | (refine zC (id := 6) ?_; intro K hK; refine zp (k' := ?_); refine zH (k := ?_); (refine zD (hK _ _ ?_); clear hK K))
      | (refine zC (id := 8) ?_; intro K hK; refine zp (k' := ?_); refine zH (k := ?_); (refine zD (hK _ _ ?_); clear hK K))
      | (refine zC (id := 9) ?_; intro K hK; refine zB (k := ?_); refine zM (k := ?_); refine zB (k := ?_); refine zM (k := ?_); ((refine zp (k' := ?_); rw [show decide (config = config) = true from decide_eq_true rfl])) <;> (refine zH (k := ?_); (refine zD (hK _ _ ?_); clear hK K)))
      | (refine zc (ht := (fun ht => ?_)) (hf := (fun ht => ?_)) <;> (try simp at ht) <;> (try (exfalso; omega))))
    all_goals exact ⟨Or.inr rfl, _, [X], (by (repeat (first | exact Ent.refl _ | exact Ent.nil | refine Ent.take (by (repeat (first | exact Out.head | apply Out.tail)); (first | done | fail)) ?_ | refine Ent.drop1 ?_)); (first | done | fail)), res1 rfl rfl, rfl, rfl⟩
  by_cases k4 : kind = 4
  · obtain rfl := hs k4
    subst k4
    obtain ⟨hp1, hp2⟩ := hps rfl
    obtain ⟨r1, r2, r3, r4⟩ := hr rfl
    repeat' (first
      | refine zi ?_
      | refine zK ?_
      | refine zQ (h := ?_)
      | refine zU (h := ?_)
      | refine zj ?_
      | refine zR ?_
      | refine zW ?_
      | refine zN ?_
      | refine zV ?_
      | refine ze ?_
      | refine zP ?_
      | refine zY ?_
      | refine zS rfl ?_
      | refine zd ?_
      | refine zX ?_
      | refine zO ?_
      | refine zT ?_
      | refine zL ?_
      | (refine zC (id := 0) ?_; intro K hK; ((refine zm (k := ?_); intro q2)) <;> (((refine zm (k := ?_); intro q3)) <;> (refine zH (k := ?_); (refine zD (hK _ _ ?_); clear hK K))))
      | (refine zC (id := 1) ?_; intro K hK; refine zB (k := ?_); refine zM (k := ?_); refine zB (k := ?_); refine zM (k := ?_); refine z8 (k' := ?_); (refine zD (hK _ _ ?_); clear hK K))
      | (refine zC (id := 3) ?_; intro K hK; refine zB (k := ?_); refine zM (k := ?_); (refine zD (hK _ _ ?_); clear hK K))
      | (refine zC (id := 4) ?_; intro K hK; refine zp (k' := ?_); refine zH (k := ?_); (refine zD (hK _ _ ?_); clear hK K))
      | (refine zC (id := 6) ?_; intro K hK; refine zp (k' := ?_); refine zH (k := ?_); (refine zD (hK _ _ ?_); clear hK K))
      | (refine zC (id := 8) ?_; intro K hK; refine zp (k' := ?_); refine zH (k := ?_); (refine zD (hK _ _ ?_); clear hK K))
      | (refine zC (id := 10) ?_; intro K hK; refine zp (k' := ?_); refine zH (k := ?_); (refine zD (hK _ _ ?_); clear hK K))
      | (refine zC (id := 11) ?_; intro K hK; refine zB (k := ?_); ((refine z5 (cs := [.int .i64 sn.e, .int .i64 sn.i, .slice pa sn.ps.length pc, .slice sa sn.ss.length sc]) (hv := by simp) (hc := rfl) (k := ?_))) <;> (refine zB (k := ?_); ((refine z5 (cs := [.int .i64 sn.e, .int .i64 sn.i, .slice pa2 sn.ps.length pc2, .slice sa2 sn.ss.length sc2]) (hv := by simp) (hc := rfl) (k := ?_))) <;> (((refine zb (hs := sameSnap_spec X sn hp1 hp2 pa pc sa sc pa2 pc2 sa2 sc2 r1 r2 r3 r4) (k := ?_); rintro v A' ⟨rfl, rfl⟩; simp only [List.cons_append, List.nil_append])) <;> (refine zH (k := ?_); (refine zD (hK _ _ ?_); clear hK K)))))
      | (refine zc (ht := (fun ht => ?_)) (hf := (fun ht => ?_)) <;> (try simp at ht) <;> (try (exfalso; omega))))
    all_goals exact ⟨Or.inr rfl, _, [X], (by (repeat (first | exact Ent.refl _ | exact Ent.nil | refine Ent.take (by (repeat (first | exact Out.head | apply Out.tail)); (first | done | fail)) ?_ | refine Ent.drop1 ?_)); (first | done | fail)), res1 rfl rfl, rfl, rfl⟩
  repeat' (first
    | refine zi ?_
    | refine zK ?_
    | refine zQ (h := ?_)
    | refine zU (h := ?_)
    | refine zj ?_
    | refine zR ?_
    | refine zW ?_
    | refine zN ?_
    | refine zV ?_
    | refine ze ?_
    | refine zP ?_
    | refine zY ?_
    | refine zS rfl ?_
    | refine zd ?_
    | refine zX ?_
    | refine zO ?_
    | refine zT ?_
    | refine zL ?_
    | (refine zC (id := 0) ?_; intro K hK; ((refine zm (k := ?_); intro q2)) <;> (((refine zm (k := ?_); intro q3)) <;> (refine zH (k := ?_); (refine zD (hK _ _ ?_); clear hK K))))
    | (refine zC (id := 1) ?_; intro K hK; refine zB (k := ?_); refine zM (k := ?_); refine zB (k := ?_); refine zM (k := ?_); refine z8 (k' := ?_); (refine zD (hK _ _ ?_); clear hK K))
    | (refine zC (id := 3) ?_; intro K hK; refine zB (k := ?_); refine zM (k := ?_); (refine zD (hK _ _ ?_); clear hK K))
    | (refine zC (id := 4) ?_; intro K hK; refine zp (k' := ?_); refine zH (k := ?_); (refine zD (hK _ _ ?_); clear hK K))
    | (refine zC (id := 6) ?_; intro K hK; refine zp (k' := ?_); refine zH (k := ?_); (refine zD (hK _ _ ?_); clear hK K))
    | (refine zC (id := 8) ?_; intro K hK; refine zp (k' := ?_); refine zH (k := ?_); (refine zD (hK _ _ ?_); clear hK K))
    | (refine zC (id := 10) ?_; intro K hK; refine zp (k' := ?_); refine zH (k := ?_); (refine zD (hK _ _ ?_); clear hK K))
    | (refine zC (id := 12) ?_; intro K hK; refine zH (k := ?_); (refine zD (hK _ _ ?_); clear hK K))
    | (refine zc (ht := (fun ht => ?_)) (hf := (fun ht => ?_)) <;> (try simp at ht) <;> (try (exfalso; omega))))
  all_goals first
    | exact ⟨Or.inr rfl, _, [X], (by (repeat (first | exact Ent.refl _ | exact Ent.nil | refine Ent.take (by (repeat (first | exact Out.head | apply Out.tail)); (first | done | fail)) ?_ | refine Ent.drop1 ?_)); (first | done | fail)), res1 rfl rfl, rfl, rfl⟩
    | (exfalso; simp_all; done)
end specs
end Go.Proofs.YtnoggejkkjngjaaGreat
