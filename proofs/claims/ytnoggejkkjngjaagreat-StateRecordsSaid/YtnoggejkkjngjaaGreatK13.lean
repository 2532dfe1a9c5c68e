/- Package dedupe: all sessions, rising. Conditions: not too many sessions. -/
import Derived.Test.YtnoggejkkjngjaaGreatK12
import Derived.Shelf.SlSortCmp.NoneTotal
set_option maxHeartbeats 8000000
set_option linter.unusedVariables false
set_option linter.unusedSimpArgs false
set_option maxRecDepth 100000
namespace Go.Proofs.YtnoggejkkjngjaaGreat
open Go Go.Sl
attribute [local irreducible] Go.Sl.Wl Go.Sl.Wc Go.Sl.thenQ Go.Sl.blkQ Go.Sl.loopQ Go.Sl.Fspec
open Go.Sort Go.Shelf

theorem ris_eq : ∀ {l m : List SX}, RisS l → RisS m → l.Perm m → l = m
  | [], m, _, _, hp => (List.nil_perm.1 hp).symm
  | x :: l, [], _, _, hp => by have := hp.length_eq; simp at this
  | x :: l, y :: m, h1, h2, hp => by
    have g1 := List.pairwise_cons.1 h1
    have g2 := List.pairwise_cons.1 h2
    have hx : x ∈ y :: m := hp.mem_iff.1 (List.mem_cons_self ..)
    have hy : y ∈ x :: l := hp.mem_iff.2 (List.mem_cons_self ..)
    have hxy : x = y := by
      rcases List.mem_cons.1 hx with h | h
      · exact h
      · rcases List.mem_cons.1 hy with h' | h'
        · exact h'.symm
        · have a1 := g2.1 x h; have a2 := g1.1 y h'; omega
    subst hxy
    rw [ris_eq g1.2 g2.2 (List.Perm.cons_inv hp)]
theorem nodup_le : ∀ {l m : List Value}, l.Nodup → (∀ x ∈ l, x ∈ m) → l.length ≤ m.length
  | [], m, _, _ => Nat.zero_le _
  | x :: l, m, h, hs => by
    have h1 := List.nodup_cons.1 h
    obtain ⟨s, t, rfl⟩ := List.append_of_mem (hs x (List.mem_cons_self ..))
    have := nodup_le (l := l) (m := s ++ t) h1.2 (fun y hy => by
      have hym := hs y (List.mem_cons_of_mem _ hy)
      rcases List.mem_append.1 hym with q | q
      · exact List.mem_append_left _ q
      · rcases List.mem_cons.1 q with q | q
        · subst q; exact absurd hy h1.1
        · exact List.mem_append_right _ q)
    simp only [List.length_append, List.length_cons] at this ⊢; omega
/-- What was told so far. -/
structure AllI (L : List SX) (done : List Value) (out : List SX) : Prop where
  keys : done = (out.map fun x => Value.int .i64 x.s).reverse
  nod : done.Nodup
  has : ∀ x ∈ out, dget L x.s = some x
theorem AllI.step {L : List SX} {done : List Value} {out : List SX} (h : AllI L done out) {key v : Value} (hf : fS L key = some v) (hn : key ∉ done) : ∃ x, key = .int .i64 x.s ∧ v = x.l ∧ x ∈ L ∧ AllI L (key :: done) (out ++ [x]) := by
  unfold fS at hf
  split at hf
  · rename_i s
    cases hd : dget L s with
    | none => rw [hd] at hf; cases hf
    | some x =>
      rw [hd] at hf
      have hv : x.l = v := by simpa using hf
      obtain ⟨h1, h2⟩ := dget_some hd
      subst h2
      refine ⟨x, rfl, hv.symm, h1, by rw [h.keys]; simp, List.nodup_cons.2 ⟨hn, h.nod⟩, fun y hy => ?_⟩
      rcases List.mem_append.1 hy with hy | hy
      · exact h.has y hy
      · simp at hy; subst hy; exact hd
  · cases hf
theorem AllI.len {L : List SX} {done : List Value} {out : List SX} (h : AllI L done out) : out.length ≤ L.length := by
  have h1 := nodup_le (m := sKeys L) h.nod (fun k hk => by
    rw [h.keys] at hk
    obtain ⟨x, hx, rfl⟩ := List.mem_map.1 (List.mem_reverse.1 hk)
    exact List.mem_map.2 ⟨x, (dget_some (h.has x hx)).1, rfl⟩)
  rw [h.keys] at h1
  simpa [sKeys] using h1
theorem AllI.perm {L : List SX} {done : List Value} {out : List SX} (h : AllI L done out) (hL : RisS L) (ha : ∀ key v, fS L key = some v → key ∈ done) : out.Perm L ∧ (out.map (·.s)).Nodup := by
  have hno : (out.map (·.s)).Nodup := by
    have h1 := h.nod
    rw [h.keys] at h1
    replace h1 := (List.reverse_perm _).nodup_iff.1 h1
    unfold List.Nodup at h1 ⊢
    rw [List.pairwise_map] at h1 ⊢
    exact h1.imp fun hne e => hne (by rw [e])
  have hn1 : out.Nodup := by
    have h2 := hno
    unfold List.Nodup at h2 ⊢
    rw [List.pairwise_map] at h2
    exact h2.imp fun hne e => hne (by rw [e])
  have hn2 : L.Nodup := by
    unfold List.Nodup
    exact hL.imp fun {a b} hab e => by rw [e] at hab; omega
  refine ⟨(List.perm_ext_iff_of_nodup hn1 hn2).2 fun x => ⟨fun hx => (dget_some (h.has x hx)).1, fun hx => ?_⟩, hno⟩
  obtain ⟨v, hv⟩ := (sKeys_has (L := L) (.int .i64 x.s)).1 (List.mem_map.2 ⟨x, hx, rfl⟩)
  have hk := ha _ v hv
  rw [h.keys] at hk
  obtain ⟨y, hy, he⟩ := List.mem_map.1 (List.mem_reverse.1 hk)
  have hys : y.s = x.s := by simpa using he
  have hyL := (dget_some (h.has y hy)).1
  obtain ⟨i, hi, rfl⟩ := List.getElem_of_mem hx
  obtain ⟨j, hj, rfl⟩ := List.getElem_of_mem hyL
  rcases Nat.lt_trichotomy i j with q | q | q
  · have := List.pairwise_iff_getElem.1 hL i j hi hj q; omega
  · subst q; exact hy
  · have := List.pairwise_iff_getElem.1 hL j i hj hi q; omega
section specs
variable {B : Base}
theorem sort0_spec (a : Option Addr) (cap : Nat) : Fspec Tryz.prog B 108 #[.slice a 0 cap, .func (.func 109) #[] #[]] [] (fun v A' => v = .tuple #[] ∧ A' = []) := by
  unfold Fspec
  intro R w hs
  refine (AnyF.slices_SortFunc_none Tryz.sortSeen a cap _ w).mono ?_
  rintro e w' ⟨rfl, rfl⟩
  exact ⟨.tuple #[], [], rfl, hs, rfl, rfl⟩
theorem all_spec (p : Nat) (lim : Int) (L : List SX) (hL : RisS L) (hl : L.length ≤ 1000) :
    Fspec Tryz.prog B 91 #[.pointer (some ⟨p, 0, none⟩)] [DeP p lim L]
      (fun v A' => ∃ a c, v = .slice a L.length c ∧ A' = [own a L.length c 4 (ssC L) 111, DeP p lim L]) := by
  refine spec_of (args := [_]) Tryz.func91 rfl rfl rfl ?_
  refine yE (fun rm => ?_)
  simp only [DeX]
  simp only [List.cons_append, List.nil_append]
  repeat' (first
    | refine zi ?_
    | refine zK ?_
    | refine zQ (h := ?_)
    | refine zU (h := ?_)
    | refine zj ?_
    | refine zR ?_
    | refine zW ?_
    | refine zN ?_
    | refine zV ?_
    | refine ze ?_
    | refine zP ?_
    | refine zY ?_
    | refine zS rfl ?_
    | refine zd ?_
    | refine zX ?_
    | refine zO ?_
    | refine zT ?_
    | refine zL ?_
    | (refine zC (id := 0) ?_; intro K hK; refine zH (k := ?_); (refine zD (hK _ _ ?_); clear hK K))
    | (refine zC (id := 1) ?_; intro K hK; refine zH (k := ?_); (refine zD (hK _ _ ?_); clear hK K))
    | (refine zC (id := 2) ?_; intro K hK; refine zF (k := ?_); refine zf (k' := ?_); (refine zD (hK _ _ ?_); clear hK K))
    | (refine zC (id := 3) ?_; intro K hK; refine zH (k := ?_); (refine zD (hK _ _ ?_); clear hK K))
    | (refine zC (id := 4) ?_; intro K hK; refine zF (k := ?_); refine zJ (k := ?_); refine zB (k := ?_); refine zM (k := ?_); ((refine yz (k := ?_); intro it)) <;> ((refine zD (hK _ _ ?_); clear hK K)))
    | (refine zc (ht := (fun ht => ?_)) (hf := (fun ht => ?_)) <;> (try simp at ht) <;> (try (exfalso; omega))))
  refine yI (α := List Value × List SX × Option Addr × Nat) (fun x => [(0, .pointer (some ⟨p, 0, none⟩)), (3, .slice x.2.2.1 x.2.1.length x.2.2.2), (12, .pointer (some ⟨it, 0, none⟩))])
    (fun x => [itA Tryz.prog 3 rm it (fS L) x.1, own x.2.2.1 x.2.1.length x.2.2.2 4 (ssC x.2.1) 111, cb p [.int .i64 lim, .map (some rm)] 157]) (fun x => AllI L x.1 x.2.1) (fun x => L.length - x.2.1.length) ([], [], none, 0) ⟨rfl, List.nodup_nil, by simp⟩ ⟨rfl, rfl, rfl, trivial⟩ (Ent.trans (own_nil 4 111 _) (by (repeat (first | exact Ent.refl _ | exact Ent.nil | refine Ent.take (by (repeat (first | exact Out.head | apply Out.tail)); (first | done | fail)) ?_ | refine Ent.drop1 ?_)))) ?_
  rintro ⟨done, out, a, c⟩ G hI
  simp only [ov] at hI ⊢
  have hlen := hI.len
  repeat' (first
    | refine zi ?_
    | refine zK ?_
    | refine zQ (h := ?_)
    | refine zU (h := ?_)
    | refine zj ?_
    | refine zR ?_
    | refine zW ?_
    | refine zN ?_
    | refine zV ?_
    | refine ze ?_
    | refine zP ?_
    | refine zY ?_
    | refine zS rfl ?_
    | refine zd ?_
    | refine zX ?_
    | refine zO ?_
    | refine zT ?_
    | refine zL ?_
    | (refine zC (id := 5) ?_; intro K hK; ((refine xF (k0 := fun hall => ?_) (kn := fun key v hf hn => ?_); rotate_left; obtain ⟨x, rfl, rfl, hxL, hI2⟩ := hI.step hf hn; simp only [SX.l]; rotate_left)) <;> (refine zu (k' := ?_); (refine zD (hK _ _ ?_); clear hK K)))
    | (refine zC (id := 6) ?_; intro K hK; ((refine y5 (k := ?_))) <;> (refine zu (k' := ?_); refine zu (k' := ?_); ((refine zw (k := ?_); intro r5)) <;> (refine zH (k := ?_); refine zh (ho' := rfl) (k := ?_); (refine zD (hK _ _ ?_); clear hK K))))
    | (refine zC (id := 7) ?_; intro K hK; refine zF (k := ?_); refine zF (k := ?_); refine zB (k := ?_); refine zM (k := ?_); refine zB (k := ?_); refine zo (k := ?_); refine zr (k := ?_); ((refine yR (cs := x.c) (k := ?_); intro r25)) <;> (((refine yO (hvl := by rfl) (hvc := by rfl) (hbd := by omega) (k := ?_); intro nb nc; rw [show out.length + 1 = (out ++ [x]).length by simp, show ssC out ++ x.c = ssC (out ++ [x]) by simp [ssC]]; refine yP (y := itE Tryz.prog 3 rm it (fS L) done (.int .i64 x.s) (.agg #[.int .i64 x.r, .int .i64 x.e, .int .i64 x.i])) (k := ?_); refine yB (itE_done _) ?_)) <;> (refine zH (k := ?_); (refine zD (hK _ _ ?_); clear hK K))))
    | (refine zc (ht := (fun ht => ?_)) (hf := (fun ht => ?_)) <;> (try simp at ht) <;> (try (exfalso; omega))))
  rotate_left
  · have hl2 := hI2.len
    simp only [List.length_append, List.length_cons, List.length_nil] at hl2
    exact ⟨(.int .i64 x.s :: done, out ++ [x], nb, nc), hI2, by simp only [List.length_append, List.length_cons, List.length_nil]; omega, ⟨rfl, rfl, rfl, trivial⟩, by (repeat (first | exact Ent.refl _ | exact Ent.nil | refine Ent.take (by (repeat (first | exact Out.head | apply Out.tail)); (first | done | fail)) ?_ | refine Ent.drop1 ?_))⟩
  obtain ⟨hp, hnod⟩ := hI.perm hL hall
  have hpl := hp.length_eq
  have hbk : ∀ (n2 : Nat) (l' : List SX) (Z : List Asn), l' = L → n2 = L.length → Ent (own a n2 c 4 (ssC l') 111 :: itA Tryz.prog 3 rm it (fS L) done :: cb p [.int .i64 lim, .map (some rm)] 157 :: Z) [own a L.length c 4 (ssC L) 111, DeP p lim L] := by
    rintro n2 l' Z rfl rfl
    refine Ent.trans (Ent.perm (List.Perm.swap ..)) ?_
    refine Ent.trans (itA_back _) ?_
    refine Ent.trans ?_ (Ent.perm (List.Perm.swap ..))
    refine de_fold (A0 := [own a l'.length c 4 (ssC l') 111]) rm ?_
    simp only [DeX]
    simp only [List.cons_append, List.nil_append]
    (repeat (first | exact Ent.refl _ | exact Ent.nil | refine Ent.take (by (repeat (first | exact Out.head | apply Out.tail)); (first | done | fail)) ?_ | refine Ent.drop1 ?_))
  by_cases h0 : out = []
  · subst h0
    have hL0 : L = [] := List.eq_nil_of_length_eq_zero (by simpa using hpl.symm)
    repeat' (first
      | refine zi ?_
      | refine zK ?_
      | refine zQ (h := ?_)
      | refine zU (h := ?_)
      | refine zj ?_
      | refine zR ?_
      | refine zW ?_
      | refine zN ?_
      | refine zV ?_
      | refine ze ?_
      | refine zP ?_
      | refine zY ?_
      | refine zS rfl ?_
      | refine zd ?_
      | refine zX ?_
      | refine zO ?_
      | refine zT ?_
      | refine zL ?_
      | (refine zC (id := 8) ?_; intro K hK; refine zF (k := ?_); ((refine zb (hs := sort0_spec a c) (hp := .nil) (k := ?_); rintro v A' ⟨rfl, rfl⟩; simp only [List.cons_append, List.nil_append])) <;> ((refine zD (hK _ _ ?_); clear hK K)))
      | (refine zC (id := 9) ?_; intro K hK; refine zF (k := ?_); refine zH (k := ?_); (refine zD (hK _ _ ?_); clear hK K))
      | (refine zc (ht := (fun ht => ?_)) (hf := (fun ht => ?_)) <;> (try simp at ht) <;> (try (exfalso; omega))))
    refine ⟨Or.inr rfl, _, [own a L.length c 4 (ssC L) 111, DeP p lim L], Ent.trans (by (repeat (first | exact Ent.refl _ | exact Ent.nil | refine Ent.take (by (repeat (first | exact Out.head | apply Out.tail)); (first | done | fail)) ?_ | refine Ent.drop1 ?_))) (hbk 0 [] [] hL0.symm (by rw [hL0]; rfl)), res1 rfl rfl, a, c, by rw [hL0]; rfl, rfl⟩
  · refine yJ (y := own a out.length c 4 (ssC out) 111) (k := (xd (fun _ hz _ _ => absurd (List.eq_nil_of_length_eq_zero hz) h0) (fun r spare hr e1 e2 => ?_)))
    subst hr
    refine y7 (own_shut r out.length c 4 (ssC out) spare 111 _ e1 e2) ?_
    have hlen2 : out.length < 1000000 := by omega
    repeat' (first
      | refine zi ?_
      | refine zK ?_
      | refine zQ (h := ?_)
      | refine zU (h := ?_)
      | refine zj ?_
      | refine zR ?_
      | refine zW ?_
      | refine zN ?_
      | refine zV ?_
      | refine ze ?_
      | refine zP ?_
      | refine zY ?_
      | refine zS rfl ?_
      | refine zd ?_
      | refine zX ?_
      | refine zO ?_
      | refine zT ?_
      | refine zL ?_
      | (refine zC (id := 8) ?_; intro K hK; refine zF (k := ?_); ((refine zb (hs := sortS_spec out r c hnod hlen2) (k := ?_); rintro v A' ⟨l', rfl, hp2, hr2, rfl⟩; simp only [List.cons_append, List.nil_append])) <;> ((refine zD (hK _ _ ?_); clear hK K)))
      | (refine zC (id := 9) ?_; intro K hK; refine zF (k := ?_); refine zH (k := ?_); (refine zD (hK _ _ ?_); clear hK K))
      | (refine zc (ht := (fun ht => ?_)) (hf := (fun ht => ?_)) <;> (try simp at ht) <;> (try (exfalso; omega))))
    have hl' := ris_eq hr2 hL (hp2.trans hp)
    exact ⟨Or.inr rfl, _, [own (some ⟨r, 0, none⟩) L.length c 4 (ssC L) 111, DeP p lim L], hbk out.length l' [] hl' hpl, res1 rfl rfl, _, c, (by rw [hpl]; rfl), rfl⟩
end specs
end Go.Proofs.YtnoggejkkjngjaaGreat
