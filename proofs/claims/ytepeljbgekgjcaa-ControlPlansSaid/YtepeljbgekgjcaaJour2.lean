/- Package journal: the parts of a record, one by one; writing a record. Conditions: sizes far from the kind's edges. -/
import Derived.Test.YtepeljbgekgjcaaJour1
import Derived.Test.YtepeljbgekgjcaaSs
set_option maxHeartbeats 8000000
set_option linter.unusedVariables false
set_option linter.unusedSimpArgs false
set_option maxRecDepth 100000
namespace Go.Proofs.Ytepeljbgekgjcaa
open Go Go.Sl
attribute [local irreducible] Go.Sl.Wl Go.Sl.Wc Go.Sl.thenQ Go.Sl.blkQ Go.Sl.loopQ Go.Sl.Fspec

theorem Wl_join {P : Program} {B : Base} {N : Nat} {fm : Fm} {ops l : List Oper} {F : Fr} {A : List Asn} {K : Fr → List Asn → Prop} {x : Asn} {L A1 A2 : List Asn} (h1 : Out x A A1) (h3 : Out (lst L) A1 A2)
    (k : Wl P B N fm ops l F (x :: (L ++ A2)) K) : Wl P B N fm ops l F A K :=
  Wl_ent ((Ent.perm (h1.perm.trans (h3.perm.cons _))).trans ((Ent.lst_open L A2).cons x)) k
def encPt (a : Option Addr) (m c : Nat) (i : Nat) : List Value := [.int .i64 i, .slice (slAdd a c (i * 47) 1) (min m ((i + 1) * 47) - i * 47) (c - i * 47)]
theorem range_split {i n : Nat} (h : i < n) : ∃ r, List.range n = List.range i ++ i :: r := by
  refine ⟨List.range' (i + 1) (n - (i + 1)), ?_⟩
  rw [List.range_eq_range', List.range_eq_range', show n = i + (1 + (n - (i + 1))) by omega, ← List.range'_append_1, ← List.range'_append_1, Nat.zero_add]
  rw [show i + (1 + (n - (i + 1))) - (i + 1) = n - (i + 1) by omega]
  rfl
section specs
variable {B : Base}
theorem parts_seq (r : Nat) (a : Option Addr) (m c : Nat) (hm : m ≤ 4611686018427387903) (hmc : m ≤ c) :
    SeqSpec Try.prog B 59 [] [.pointer (some ⟨r, 0, none⟩)] (encPt a m c) (List.range (partsN m)) [cb r [.slice a m c] 57] := by
  intro q J Jx hY
  have hw : ∀ i, i < partsN m → Yspec Try.prog B q (encPt a m c i).toArray [cb r [.slice a m c] 57, lst (J (List.range i))] (fun v A' => (v = .bool true ∧ A' = [cb r [.slice a m c] 57, lst (J (List.range (i + 1)))]) ∨
      (v = .bool false ∧ A' = [cb r [.slice a m c] 57, lst (Jx (List.range (i + 1)))])) := fun i hi => by
    obtain ⟨rest, hx⟩ := range_split hi
    refine ((hY _ i rest hx).ent (by simpa using (Ent.lst_open (J (List.range i)) []).cons (cb r [.slice a m c] 57))).conv ?_
    rintro v A' (⟨rfl, rfl⟩ | ⟨rfl, rfl⟩)
    · exact ⟨_, by simpa [List.range_succ] using (Ent.lst_shut (J (List.range (i + 1))) []).cons (cb r [.slice a m c] 57), .inl ⟨rfl, rfl⟩⟩
    · exact ⟨_, by simpa [List.range_succ] using (Ent.lst_shut (Jx (List.range (i + 1))) []).cons (cb r [.slice a m c] 57), .inr ⟨rfl, rfl⟩⟩
  refine spec_of (args := [_, _]) Try.func59 rfl rfl rfl ?_
  refine Wc_ent (A' := [cb r [.slice a m c] 57, lst (J [])]) ((by simpa using Ent.lst_shut (J []) [] : Ent (J []) [lst (J [])]).cons _) ?_
  repeat' (first
    | refine Wc_seq ?_
    | refine thenQ_normal ?_
    | refine Wc_cond_t (h := ?_)
    | refine Wc_cond_f (h := ?_)
    | refine Wc_ret ?_
    | refine thenQ_ret ?_
    | refine Wc_block ?_
    | refine blkQ_normal ?_
    | refine blkQ_ret ?_
    | refine Wc_exit ?_
    | refine thenQ_exit ?_
    | refine blkQ_hit ?_
    | refine blkQ_miss rfl ?_
    | refine Wc_skip ?_
    | refine Wc_label ?_
    | refine loopQ_exit ?_
    | refine loopQ_ret ?_
    | refine loopQ_normal ?_
    | (refine Wc_region (id := 0) ?_; intro K hK; refine Wl_assign (k := ?_); (refine Wl_nil (hK _ _ ?_); clear hK K))
    | (refine Wc_cond (ht := (fun ht => ?_)) (hf := (fun ht => ?_)) <;> (try simp at ht) <;> (try (exfalso; omega))))
  refine Wc_loop (α := Nat) (fun i => [(0, yv q), (1, .pointer (some ⟨r, 0, none⟩)), (3, .int .i64 i)]) (fun i => [cb r [.slice a m c] 57, lst (J (List.range i))]) (fun i => i ≤ partsN m) (fun i => partsN m - i) 0 (by omega) ⟨rfl, rfl, rfl, trivial⟩ (Ent.refl _) ?_
  intro i G hi
  simp only [ov]
  have hpm : partsN m = (m - 1) / 47 + 1 := rfl
  by_cases hlt : i < partsN m
  · have hi1 := hw i hlt
    simp only [encPt] at hi1
    repeat' (first
      | refine Wc_seq ?_
      | refine thenQ_normal ?_
      | refine Wc_cond_t (h := ?_)
      | refine Wc_cond_f (h := ?_)
      | refine Wc_ret ?_
      | refine thenQ_ret ?_
      | refine Wc_block ?_
      | refine blkQ_normal ?_
      | refine blkQ_ret ?_
      | refine Wc_exit ?_
      | refine thenQ_exit ?_
      | refine blkQ_hit ?_
      | refine blkQ_miss rfl ?_
      | refine Wc_skip ?_
      | refine Wc_label ?_
      | refine loopQ_exit ?_
      | refine loopQ_ret ?_
      | refine loopQ_normal ?_
      | (refine Wc_region (id := 0) ?_; intro K hK; refine Wl_assign (k := ?_); (refine Wl_nil (hK _ _ ?_); clear hK K))
      | (refine Wc_region (id := 1) ?_; intro K hK; refine Wl_move (k := ?_); refine Wl_load (k := ?_); refine Wl_len_sl (k' := ?_); ((refine Wl_call (hs := parts_spec m (by omega)) (k := ?_); rintro v A' ⟨rfl, rfl⟩; simp only [List.cons_append, List.nil_append])) <;> (refine Wl_lss (k' := ?_); (refine Wl_nil (hK _ _ ?_); clear hK K)))
      | (refine Wc_region (id := 2) ?_; intro K hK; refine Wl_move (k := ?_); refine Wl_add (k' := ?_); refine Wl_assign (k := ?_); (refine Wl_nil (hK _ _ ?_); clear hK K))
      | (refine Wc_region (id := 3) ?_; intro K hK; refine Wl_move (k := ?_); refine Wl_move (k := ?_); refine Wl_load (k := ?_); refine Wl_move (k := ?_); ((refine Wl_mul (k' := ?_); rw [show (i : Int) * 47 = ((i * 47 : Nat) : Int) by omega])) <;> (refine Wl_load (k := ?_); refine Wl_len_sl (k' := ?_); refine Wl_move (k := ?_); refine Wl_add (k' := ?_); refine Wl_mul (k' := ?_); ((refine Wl_min (k' := ?_); rw [show min (m : Int) (((i : Int) + 1) * 47) = ((min m ((i + 1) * 47) : Nat) : Int) by omega])) <;> (((refine Wl_slice_any (l := i * 47) (h := min m ((i + 1) * 47)) (k' := ?_))) <;> (((refine Wl_yield (hs := hi1) (k := ?_); rintro v A' (⟨rfl, rfl⟩ | ⟨rfl, rfl⟩) <;> simp only [List.cons_append, List.nil_append])) <;> (refine Wl_not (k' := ?_); (refine Wl_nil (hK _ _ ?_); clear hK K))))))
      | (refine Wc_cond (ht := (fun ht => ?_)) (hf := (fun ht => ?_)) <;> (try simp at ht) <;> (try (exfalso; omega))))
    · exact ⟨i + 1, by omega, by omega, ⟨rfl, rfl, int_succ i, trivial⟩, Ent.refl _⟩
    · obtain ⟨rest, hx⟩ := range_split hlt
      refine ⟨Or.inr rfl, _, _, ((by simpa using Ent.lst_open (Jx (List.range (i + 1))) [] : Ent [lst (Jx (List.range (i + 1)))] (Jx (List.range (i + 1)))).cons _), res0 rfl, .inr ⟨_, i, rest, hx, by rw [List.range_succ]; rfl⟩⟩
  · obtain rfl : i = partsN m := by omega
    repeat' (first
      | refine Wc_seq ?_
      | refine thenQ_normal ?_
      | refine Wc_cond_t (h := ?_)
      | refine Wc_cond_f (h := ?_)
      | refine Wc_ret ?_
      | refine thenQ_ret ?_
      | refine Wc_block ?_
      | refine blkQ_normal ?_
      | refine blkQ_ret ?_
      | refine Wc_exit ?_
      | refine thenQ_exit ?_
      | refine blkQ_hit ?_
      | refine blkQ_miss rfl ?_
      | refine Wc_skip ?_
      | refine Wc_label ?_
      | refine loopQ_exit ?_
      | refine loopQ_ret ?_
      | refine loopQ_normal ?_
      | (refine Wc_region (id := 0) ?_; intro K hK; refine Wl_assign (k := ?_); (refine Wl_nil (hK _ _ ?_); clear hK K))
      | (refine Wc_region (id := 1) ?_; intro K hK; refine Wl_move (k := ?_); refine Wl_load (k := ?_); refine Wl_len_sl (k' := ?_); ((refine Wl_call (hs := parts_spec m (by omega)) (k := ?_); rintro v A' ⟨rfl, rfl⟩; simp only [List.cons_append, List.nil_append])) <;> (((refine Wl_lss (k' := ?_); rw [decide_eq_false (by omega)])) <;> ((refine Wl_nil (hK _ _ ?_); clear hK K))))
      | (refine Wc_region (id := 2) ?_; intro K hK; refine Wl_move (k := ?_); refine Wl_add (k' := ?_); refine Wl_assign (k := ?_); (refine Wl_nil (hK _ _ ?_); clear hK K))
      | (refine Wc_region (id := 3) ?_; intro K hK; refine Wl_move (k := ?_); refine Wl_move (k := ?_); refine Wl_load (k := ?_); refine Wl_move (k := ?_); refine Wl_mul (k' := ?_); refine Wl_load (k := ?_); refine Wl_len_sl (k' := ?_); refine Wl_move (k := ?_); refine Wl_add (k' := ?_); refine Wl_mul (k' := ?_); refine Wl_min (k' := ?_))
      | (refine Wc_cond (ht := (fun ht => ?_)) (hf := (fun ht => ?_)) <;> (try simp at ht) <;> (try (exfalso; omega))))
    exact ⟨by simp, _, _, ((by simpa using Ent.lst_open (J (List.range (partsN m))) [] : Ent [lst (J (List.range (partsN m)))] (J (List.range (partsN m)))).cons _), res0 rfl, .inl rfl⟩
end specs
end Go.Proofs.Ytepeljbgekgjcaa
