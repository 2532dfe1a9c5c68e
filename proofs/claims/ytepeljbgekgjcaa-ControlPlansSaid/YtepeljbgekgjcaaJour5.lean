/- Package journal: reading all records; opening. Conditions: sizes far from the kind's edges; the disk is up. -/
import Derived.Test.YtepeljbgekgjcaaJour4
set_option maxHeartbeats 8000000
set_option linter.unusedVariables false
set_option linter.unusedSimpArgs false
set_option maxRecDepth 100000
namespace Go.Proofs.Ytepeljbgekgjcaa
open Go Go.Sl
attribute [local irreducible] Go.Sl.Wl Go.Sl.Wc Go.Sl.thenQ Go.Sl.blkQ Go.Sl.loopQ Go.Sl.Fspec

theorem recF_range {S : Nat → List UInt8} {size base lap number : Nat} {r : List UInt8} {at' : Nat} {fl : Bool} : ∀ (fuel at_ part of : Nat) (out : List UInt8), at_ ≤ size → recF S size base lap number fuel at_ part of out = some (r, at', fl) →
    at_ ≤ at' ∧ at' ≤ size ∧ (part ≤ of → at_ < at')
  | 0, _, _, _, _, _, h => by simp [recF] at h
  | fuel + 1, at_, part, of, out, ha, h => by
    simp only [recF] at h
    generalize (if part = 1 then of10 (S (base + at_)) else of) = nof at h
    by_cases p1 : part ≤ of
    · rw [if_pos p1] at h
      by_cases p2 : size ≤ at_
      · rw [if_pos p2] at h; cases h
      · rw [if_neg p2] at h
        by_cases p3 : num4 (S (base + at_)) ≠ lap ∨ num4 ((S (base + at_)).drop 60) ≠ lap ∨ 47 < by12 (S (base + at_))
        · rw [if_pos p3] at h; cases h
        · rw [if_neg p3] at h
          by_cases p4 : Bad lap number part nof (S (base + at_))
          · rw [if_pos p4] at h; cases h
          · rw [if_neg p4] at h
            obtain ⟨h1, h2, h3⟩ := recF_range fuel _ _ _ _ (by omega) h
            exact ⟨by omega, h2, fun _ => by omega⟩
    · rw [if_neg p1] at h
      simp only [Option.some.injEq, Prod.mk.injEq] at h
      obtain ⟨_, rfl, _⟩ := h
      exact ⟨Nat.le_refl _, ha, fun h => absurd h p1⟩
theorem recF_end {S : Nat → List UInt8} {size base lap number at_ fuel : Nat} (h : size ≤ at_) : recF S size base lap number (fuel + 1) at_ 1 1 [] = none := by
  simp only [recF]; rw [if_pos (Nat.le_refl 1), if_pos h]
/-- The records of a half, one behind the other. -/
def recsF (S : Nat → List UInt8) (size base lap : Nat) : Nat → Nat → List (List UInt8) → List (List UInt8) × Nat
  | 0, at_, l => (l, at_)
  | fuel + 1, at_, l => match recF S size base lap l.length (size - at_ + 1) at_ 1 1 [] with
    | some (r, at', true) => recsF S size base lap fuel at' (l ++ [r])
    | _ => (l, at_)
/-- What a half has: its records, their lap, where they end. -/
def halfF (S : Nat → List UInt8) (size base : Nat) : List (List UInt8) × Nat := if 0 < num4 (S base) then recsF S size base (num4 (S base)) size 0 [] else ([], 0)
abbrev RX := Option Addr × Nat × List UInt8
def rowV (x : RX) : Value := .slice x.1 x.2.2.length x.2.1
def rowA (x : RX) : Asn := own x.1 x.2.2.length x.2.1 1 (x.2.2.map byteV) 5
def RowsP (xs : List RX) : Asn := lst (xs.map rowA)
def recsOf (xs : List RX) : List (List UInt8) := xs.map (·.2.2)
theorem rows_nil (L : List Asn) : Ent L (RowsP [] :: L) := fun m U h => ⟨fun _ => none, trivial, by simp, h.mono (by simp)⟩
theorem rows_snoc {xs : List RX} {x : RX} {A A1 A2 L : List Asn} (h1 : Out (RowsP xs) A A1) (h2 : Out (rowA x) A1 A2) (h : Ent (RowsP (xs ++ [x]) :: A2) L) : Ent A L := by
  refine ((Ent.perm (h1.perm.trans (h2.perm.cons _))).trans ?_).trans h
  refine (Ent.lst_open (xs.map rowA) (rowA x :: A2)).trans ?_
  have := Ent.lst_shut (xs.map rowA ++ [rowA x]) A2
  simpa [RowsP] using this
def RecsP (a : Option Addr) (c : Nat) (xs : List RX) : List Asn := [own a xs.length c 1 (xs.map rowV) 57, RowsP xs]
section specs
variable {B : Base}
theorem records_spec (j d n : Nat) (J : Jn) (D : Dk) (hD : D.ok n) (hdn : D.down = false) (h : Nat) (hh : h * J.size + J.size ≤ n) (h1 : 1 ≤ J.size) :
    Fspec Try.prog B 30 #[.pointer (some ⟨j, 0, none⟩), .int .i64 h] [cb j (JC d J) 107, DiskP d n D]
      (fun v A' => ∃ a c xs, recsOf xs = (halfF D.seen J.size (h * J.size)).1 ∧ v = .tuple #[.slice a xs.length c, .int .i64 (num4 (D.seen (h * J.size))), .int .i64 (halfF D.seen J.size (h * J.size)).2] ∧
        A' = RecsP a c xs ++ [cb j (JC d J) 107, DiskP d n D]) := by
  have hn := hD.n
  have hsl : ∀ i, i < n → (D.seen i).length = 64 := fun i hi => seen_length i D.pend _ (by rw [List.length_take, List.length_drop, hD.len]; omega) (fun q hq => (hD.pend q hq).2)
  refine spec_of (args := [_, _]) Try.func30 rfl rfl rfl ?_
  obtain ⟨s, hs⟩ : ∃ s, D.seen (h * J.size) = s := ⟨_, rfl⟩
  have hs64 : s.length = 64 := by rw [← hs]; exact hsl _ (by omega)
  simp only [JC]
  repeat' (first
    | refine Wc_seq ?_
    | refine thenQ_normal ?_
    | refine Wc_cond_t (h := ?_)
    | refine Wc_cond_f (h := ?_)
    | refine Wc_ret ?_
    | refine thenQ_ret ?_
    | refine Wc_block ?_
    | refine blkQ_normal ?_
    | refine blkQ_ret ?_
    | refine Wc_exit ?_
    | refine thenQ_exit ?_
    | refine blkQ_hit ?_
    | refine blkQ_miss rfl ?_
    | refine Wc_skip ?_
    | refine Wc_label ?_
    | refine loopQ_exit ?_
    | refine loopQ_ret ?_
    | refine loopQ_normal ?_
    | (refine Wc_region (id := 0) ?_; intro K hK; refine Wl_assign (k := ?_); refine Wl_assign (k := ?_); refine Wl_assign (k := ?_); (refine Wl_nil (hK _ _ ?_); clear hK K))
    | (refine Wc_drawF (id := 1) (M := ([cb j (JC d J) 107])) (Ls := [16, 21]) (hp := (Pick.perm (by (repeat (first | exact Pick.nil | apply Pick.cons (by (repeat (first | exact Out.head | apply Out.tail)); (first | done | fail)))); (first | done | fail)))) (h := ?_); intro K hK; refine Wl_move (k := ?_); refine Wl_nilCheck (k := ?_); refine Wl_fieldAddr (k := ?_); refine Wl_loadF (k := ?_); refine Wl_move (k := ?_); refine Wl_move (k := ?_); refine Wl_nilCheck (k := ?_); refine Wl_fieldAddr (k := ?_); refine Wl_loadF (k := ?_); ((refine Wl_mul (hf := fits_i64 (by rw [← Int.natCast_mul]; omega)) (k' := ?_); rw [← Int.natCast_mul])) <;> (((refine Wl_call (hs := read_ok B d n (h * J.size) D hD hdn (by omega)) (k := ?_); rintro v A' ⟨sa, sc, rfl, rfl⟩; simp only [List.cons_append, List.nil_append]; rw [hs])) <;> (refine Wl_move (k := ?_); refine Wl_extract (k' := ?_); refine Wl_extract (k' := ?_); refine Wl_assign (k := ?_); refine Wl_assign (k := ?_); (refine Wl_nil (hK _ _ ?_); clear hK K; try simp only [List.cons_append, List.nil_append]))))
    | (refine Wc_region (id := 2) ?_; intro K hK; refine Wl_move (k := ?_); refine Wl_neq (k' := ?_); (refine Wl_nil (hK _ _ ?_); clear hK K))
    | (refine Wc_region (id := 3) ?_; intro K hK; refine Wl_assign (k := ?_); refine Wl_assign (k := ?_); refine Wl_assign (k := ?_); (refine Wl_nil (hK _ _ ?_); clear hK K))
    | (refine Wc_cond (ht := (fun ht => ?_)) (hf := (fun ht => ?_)) <;> (try simp at ht) <;> (try (exfalso; omega))))
  refine Wc_ownF (a := sa) (h := (fun hf => ?_))
  repeat' (first
    | refine Wc_seq ?_
    | refine thenQ_normal ?_
    | refine Wc_cond_t (h := ?_)
    | refine Wc_cond_f (h := ?_)
    | refine Wc_ret ?_
    | refine thenQ_ret ?_
    | refine Wc_block ?_
    | refine blkQ_normal ?_
    | refine blkQ_ret ?_
    | refine Wc_exit ?_
    | refine thenQ_exit ?_
    | refine blkQ_hit ?_
    | refine blkQ_miss rfl ?_
    | refine Wc_skip ?_
    | refine Wc_label ?_
    | refine loopQ_exit ?_
    | refine loopQ_ret ?_
    | refine loopQ_normal ?_
    | (refine Wc_region (id := 4) ?_; intro K hK; refine Wl_move (k := ?_); ((refine Wl_call (hs := num4_spec [own sa 64 sc 1 (s.map byteV) 5] sa 64 sc s (by omega) (hf.rd (M := []) (by (repeat (first | exact Out.head | apply Out.tail)); (first | done | fail)))) (k := ?_); rintro v A' ⟨rfl, rfl⟩; simp only [List.cons_append, List.nil_append])) <;> (refine Wl_assign (k := ?_); (refine Wl_nil (hK _ _ ?_); clear hK K)))
    | (refine Wc_cond (ht := (fun ht => ?_)) (hf := (fun ht => ?_)) <;> (try simp at ht) <;> (try (exfalso; omega))))
  unfold halfF
  rw [hs]
  by_cases hl0 : num4 s = 0
  · rw [if_neg (by omega), hl0]
    refine Wc_loop0 ?_
    repeat' (first
      | refine Wc_seq ?_
      | refine thenQ_normal ?_
      | refine Wc_cond_t (h := ?_)
      | refine Wc_cond_f (h := ?_)
      | refine Wc_ret ?_
      | refine thenQ_ret ?_
      | refine Wc_block ?_
      | refine blkQ_normal ?_
      | refine blkQ_ret ?_
      | refine Wc_exit ?_
      | refine thenQ_exit ?_
      | refine blkQ_hit ?_
      | refine blkQ_miss rfl ?_
      | refine Wc_skip ?_
      | refine Wc_label ?_
      | refine loopQ_exit ?_
      | refine loopQ_ret ?_
      | refine loopQ_normal ?_
      | (refine Wc_region (id := 5) ?_; intro K hK; refine Wl_move (k := ?_); refine Wl_gtr (k' := ?_); (refine Wl_nil (hK _ _ ?_); clear hK K))
      | (refine Wc_region (id := 9) ?_; intro K hK; refine Wl_move (k := ?_); refine Wl_move (k := ?_); refine Wl_move (k := ?_); refine Wl_assign (k := ?_); refine Wl_assign (k := ?_); refine Wl_assign (k := ?_); (refine Wl_nil (hK _ _ ?_); clear hK K))
      | (refine Wc_cond (ht := (fun ht => ?_)) (hf := (fun ht => ?_)) <;> (try simp at ht) <;> (try (exfalso; omega))))
    exact ⟨Or.inr rfl, _, RecsP none 0 [] ++ [cb j (JC d J) 107, DiskP d n D], (own_nil 1 57 _).trans ((rows_nil _).trans (by simp only [RecsP]; simp only [List.cons_append, List.nil_append]; (repeat (first | exact Ent.refl _ | exact Ent.nil | refine Ent.take (by (repeat (first | exact Out.head | apply Out.tail)); (first | done | fail)) ?_ | refine Ent.drop1 ?_)))), resG rfl (by (repeat (first | exact ResL.nil | apply ResL.tmp (by (repeat (first | exact Ev.here | exact Ev.const | exact Ev.arg rfl | apply Ev.there rfl | exact Ev.none rfl | exact Ev.func | exact Ev.var)); (first | done | fail)) | apply ResL.agg (by (repeat (first | exact Ev.here | exact Ev.const | exact Ev.arg rfl | apply Ev.there rfl | exact Ev.none rfl | exact Ev.func | exact Ev.var)); (first | done | fail)) (by (repeat (first | exact Rd.head | exact Rd.base (by assumption) | apply Rd.tail)); (first | done | fail)) (by (repeat (first | exact TakeR.nil | apply TakeR.take | apply TakeR.skip)); (first | done | fail)) | apply ResL.cell (by (repeat (first | exact Ev.here | exact Ev.const | exact Ev.arg rfl | apply Ev.there rfl | exact Ev.none rfl | exact Ev.func | exact Ev.var)); (first | done | fail)) (by (repeat (first | exact Rd.head | exact Rd.base (by assumption) | apply Rd.tail)); (first | done | fail)) rfl)); (first | done | fail)) rfl, none, 0, [], rfl, rfl, rfl⟩
  · rw [if_pos (by omega)]
    obtain ⟨R, hR⟩ : ∃ R, recsF D.seen J.size (h * J.size) (num4 s) J.size 0 [] = R := ⟨_, rfl⟩
    rw [hR]
    refine Wc_loop (α := Nat × List RX × Option Addr × Nat) (fun x => [(0, .pointer (some ⟨j, 0, none⟩)), (1, .int .i64 h), (4, .slice x.2.2.1 x.2.1.length x.2.2.2), (5, .int .i64 (num4 s)), (6, .int .i64 x.1)])
      (fun x => [cb j (JC d J) 107, DiskP d n D, own x.2.2.1 x.2.1.length x.2.2.2 1 (x.2.1.map rowV) 57, RowsP x.2.1])
      (fun x => x.1 ≤ J.size ∧ x.2.1.length ≤ x.1 ∧ ∃ fuel, J.size - x.1 ≤ fuel ∧ recsF D.seen J.size (h * J.size) (num4 s) fuel x.1 (recsOf x.2.1) = R) (fun x => J.size - x.1) (0, [], none, 0)
      ⟨by omega, by simp, J.size, by simp, hR⟩ ⟨rfl, rfl, rfl, rfl, rfl, trivial⟩ ((own_nil 1 57 _).trans ((rows_nil _).trans (by simp only [List.map_nil, List.length_nil]; (repeat (first | exact Ent.refl _ | exact Ent.nil | refine Ent.take (by (repeat (first | exact Out.head | apply Out.tail)); (first | done | fail)) ?_ | refine Ent.drop1 ?_))))) ?_
    rintro ⟨at_, xs, la, lc⟩ G ⟨g1, g2, fuel, g3, g4⟩
    simp only at g1 g2 g3 g4
    simp only [ov]
    have hrl : (recsOf xs).length = xs.length := by simp [recsOf]
    have hrec := record_spec (B := B) j d n J D hD hdn h at_ (num4 s) xs.length hh g1
    have hfuel : ∀ r at' , recF D.seen J.size (h * J.size) (num4 s) xs.length (J.size - at_ + 1) at_ 1 1 [] = some (r, at', true) → ∃ f, J.size - at' ≤ f ∧ recsF D.seen J.size (h * J.size) (num4 s) f at' (recsOf xs ++ [r]) = R := fun r at' hr => by
      have hrg := recF_range _ _ _ _ _ g1 hr
      cases fuel with
      | zero => omega
      | succ f => exact ⟨f, by omega, by rw [← g4]; simp only [recsF]; rw [hrl, hr]⟩
    have hstop : (∀ r at', recF D.seen J.size (h * J.size) (num4 s) xs.length (J.size - at_ + 1) at_ 1 1 [] ≠ some (r, at', true)) → (recsOf xs, at_) = R := fun hno => by
      rw [← g4]
      cases fuel with
      | zero => rfl
      | succ f =>
        simp only [recsF]
        split
        · rename_i r at' hr; rw [hrl] at hr; exact absurd hr (hno _ _)
        · rfl
    generalize hq : recF D.seen J.size (h * J.size) (num4 s) xs.length (J.size - at_ + 1) at_ 1 1 [] = q at *
    have hcase : q = none ∨ (∃ r at', q = some (r, at', false)) ∨ ∃ r at', q = some (r, at', true) := by
      rcases q with _ | ⟨r, at', fl⟩
      · exact .inl rfl
      · cases fl
        · exact .inr (.inl ⟨r, at', rfl⟩)
        · exact .inr (.inr ⟨r, at', rfl⟩)
    rcases hcase with rfl | ⟨r, at', rfl⟩ | ⟨r, at', rfl⟩
    · have hRe := hstop (fun _ _ h => by cases h)
      subst hRe
      repeat' (first
        | refine Wc_seq ?_
        | refine thenQ_normal ?_
        | refine Wc_cond_t (h := ?_)
        | refine Wc_cond_f (h := ?_)
        | refine Wc_ret ?_
        | refine thenQ_ret ?_
        | refine Wc_block ?_
        | refine blkQ_normal ?_
        | refine blkQ_ret ?_
        | refine Wc_exit ?_
        | refine thenQ_exit ?_
        | refine blkQ_hit ?_
        | refine blkQ_miss rfl ?_
        | refine Wc_skip ?_
        | refine Wc_label ?_
        | refine loopQ_exit ?_
        | refine loopQ_ret ?_
        | refine loopQ_normal ?_
        | (refine Wc_region (id := 5) ?_; intro K hK; refine Wl_move (k := ?_); refine Wl_gtr (k' := ?_); (refine Wl_nil (hK _ _ ?_); clear hK K))
        | (refine Wc_region (id := 6) ?_; intro K hK; refine Wl_move (k := ?_); refine Wl_move (k := ?_); refine Wl_move (k := ?_); refine Wl_move (k := ?_); refine Wl_move (k := ?_); refine Wl_len_sl (k' := ?_); ((refine Wl_call (hs := hrec) (k := ?_); rintro v A' ⟨rfl, rfl⟩; simp only [List.cons_append, List.nil_append])) <;> (refine Wl_move (k := ?_); refine Wl_extract (k' := ?_); refine Wl_extract (k' := ?_); refine Wl_extract (k' := ?_); refine Wl_assign (k := ?_); refine Wl_assign (k := ?_); refine Wl_assign (k := ?_); (refine Wl_nil (hK _ _ ?_); clear hK K)))
        | (refine Wc_region (id := 7) ?_; intro K hK; refine Wl_move (k := ?_); refine Wl_not (k' := ?_); (refine Wl_nil (hK _ _ ?_); clear hK K))
        | (refine Wc_region (id := 8) ?_; intro K hK; refine Wl_move (k := ?_); refine Wl_move (k := ?_); (refine Wl_lit1 (k := ?_); intro r))
        | (refine Wc_region (id := 9) ?_; intro K hK; refine Wl_move (k := ?_); refine Wl_move (k := ?_); refine Wl_move (k := ?_); refine Wl_assign (k := ?_); refine Wl_assign (k := ?_); refine Wl_assign (k := ?_); (refine Wl_nil (hK _ _ ?_); clear hK K))
        | (refine Wc_cond (ht := (fun ht => ?_)) (hf := (fun ht => ?_)) <;> (try simp at ht) <;> (try (exfalso; omega))))
      exact ⟨Or.inr rfl, _, RecsP la lc xs ++ [cb j (JC d J) 107, DiskP d n D], (by simp only [RecsP]; simp only [List.cons_append, List.nil_append]; (repeat (first | exact Ent.refl _ | exact Ent.nil | refine Ent.take (by (repeat (first | exact Out.head | apply Out.tail)); (first | done | fail)) ?_ | refine Ent.drop1 ?_))), resG rfl (by (repeat (first | exact ResL.nil | apply ResL.tmp (by (repeat (first | exact Ev.here | exact Ev.const | exact Ev.arg rfl | apply Ev.there rfl | exact Ev.none rfl | exact Ev.func | exact Ev.var)); (first | done | fail)) | apply ResL.agg (by (repeat (first | exact Ev.here | exact Ev.const | exact Ev.arg rfl | apply Ev.there rfl | exact Ev.none rfl | exact Ev.func | exact Ev.var)); (first | done | fail)) (by (repeat (first | exact Rd.head | exact Rd.base (by assumption) | apply Rd.tail)); (first | done | fail)) (by (repeat (first | exact TakeR.nil | apply TakeR.take | apply TakeR.skip)); (first | done | fail)) | apply ResL.cell (by (repeat (first | exact Ev.here | exact Ev.const | exact Ev.arg rfl | apply Ev.there rfl | exact Ev.none rfl | exact Ev.func | exact Ev.var)); (first | done | fail)) (by (repeat (first | exact Rd.head | exact Rd.base (by assumption) | apply Rd.tail)); (first | done | fail)) rfl)); (first | done | fail)) rfl, la, lc, xs, rfl, rfl, rfl⟩
    · have hRe := hstop (fun _ _ h => by cases h)
      subst hRe
      repeat' (first
        | refine Wc_seq ?_
        | refine thenQ_normal ?_
        | refine Wc_cond_t (h := ?_)
        | refine Wc_cond_f (h := ?_)
        | refine Wc_ret ?_
        | refine thenQ_ret ?_
        | refine Wc_block ?_
        | refine blkQ_normal ?_
        | refine blkQ_ret ?_
        | refine Wc_exit ?_
        | refine thenQ_exit ?_
        | refine blkQ_hit ?_
        | refine blkQ_miss rfl ?_
        | refine Wc_skip ?_
        | refine Wc_label ?_
        | refine loopQ_exit ?_
        | refine loopQ_ret ?_
        | refine loopQ_normal ?_
        | (refine Wc_region (id := 5) ?_; intro K hK; refine Wl_move (k := ?_); refine Wl_gtr (k' := ?_); (refine Wl_nil (hK _ _ ?_); clear hK K))
        | (refine Wc_region (id := 6) ?_; intro K hK; refine Wl_move (k := ?_); refine Wl_move (k := ?_); refine Wl_move (k := ?_); refine Wl_move (k := ?_); refine Wl_move (k := ?_); refine Wl_len_sl (k' := ?_); ((refine Wl_call (hs := hrec) (k := ?_); rintro v A' ⟨ra, rc, rfl, rfl⟩; simp only [List.cons_append, List.nil_append])) <;> (refine Wl_move (k := ?_); refine Wl_extract (k' := ?_); refine Wl_extract (k' := ?_); refine Wl_extract (k' := ?_); refine Wl_assign (k := ?_); refine Wl_assign (k := ?_); refine Wl_assign (k := ?_); (refine Wl_nil (hK _ _ ?_); clear hK K)))
        | (refine Wc_region (id := 7) ?_; intro K hK; refine Wl_move (k := ?_); refine Wl_not (k' := ?_); (refine Wl_nil (hK _ _ ?_); clear hK K))
        | (refine Wc_region (id := 8) ?_; intro K hK; refine Wl_move (k := ?_); refine Wl_move (k := ?_); (refine Wl_lit1 (k := ?_); intro r))
        | (refine Wc_region (id := 9) ?_; intro K hK; refine Wl_move (k := ?_); refine Wl_move (k := ?_); refine Wl_move (k := ?_); refine Wl_assign (k := ?_); refine Wl_assign (k := ?_); refine Wl_assign (k := ?_); (refine Wl_nil (hK _ _ ?_); clear hK K))
        | (refine Wc_cond (ht := (fun ht => ?_)) (hf := (fun ht => ?_)) <;> (try simp at ht) <;> (try (exfalso; omega))))
      exact ⟨Or.inr rfl, _, RecsP la lc xs ++ [cb j (JC d J) 107, DiskP d n D], (by simp only [RecsP]; simp only [List.cons_append, List.nil_append]; (repeat (first | exact Ent.refl _ | exact Ent.nil | refine Ent.take (by (repeat (first | exact Out.head | apply Out.tail)); (first | done | fail)) ?_ | refine Ent.drop1 ?_))), resG rfl (by (repeat (first | exact ResL.nil | apply ResL.tmp (by (repeat (first | exact Ev.here | exact Ev.const | exact Ev.arg rfl | apply Ev.there rfl | exact Ev.none rfl | exact Ev.func | exact Ev.var)); (first | done | fail)) | apply ResL.agg (by (repeat (first | exact Ev.here | exact Ev.const | exact Ev.arg rfl | apply Ev.there rfl | exact Ev.none rfl | exact Ev.func | exact Ev.var)); (first | done | fail)) (by (repeat (first | exact Rd.head | exact Rd.base (by assumption) | apply Rd.tail)); (first | done | fail)) (by (repeat (first | exact TakeR.nil | apply TakeR.take | apply TakeR.skip)); (first | done | fail)) | apply ResL.cell (by (repeat (first | exact Ev.here | exact Ev.const | exact Ev.arg rfl | apply Ev.there rfl | exact Ev.none rfl | exact Ev.func | exact Ev.var)); (first | done | fail)) (by (repeat (first | exact Rd.head | exact Rd.base (by assumption) | apply Rd.tail)); (first | done | fail)) rfl)); (first | done | fail)) rfl, la, lc, xs, rfl, rfl, rfl⟩
    · obtain ⟨q0, hq0⟩ : ∃ q0, q0 = r := ⟨_, rfl⟩
      subst hq0
      obtain ⟨f, hf1, hf2⟩ := hfuel q0 at' rfl
      have hrg := recF_range _ _ _ _ _ g1 hq
      repeat' (first
        | refine Wc_seq ?_
        | refine thenQ_normal ?_
        | refine Wc_cond_t (h := ?_)
        | refine Wc_cond_f (h := ?_)
        | refine Wc_ret ?_
        | refine thenQ_ret ?_
        | refine Wc_block ?_
        | refine blkQ_normal ?_
        | refine blkQ_ret ?_
        | refine Wc_exit ?_
        | refine thenQ_exit ?_
        | refine blkQ_hit ?_
        | refine blkQ_miss rfl ?_
        | refine Wc_skip ?_
        | refine Wc_label ?_
        | refine loopQ_exit ?_
        | refine loopQ_ret ?_
        | refine loopQ_normal ?_
        | (refine Wc_region (id := 5) ?_; intro K hK; refine Wl_move (k := ?_); refine Wl_gtr (k' := ?_); (refine Wl_nil (hK _ _ ?_); clear hK K))
        | (refine Wc_region (id := 6) ?_; intro K hK; refine Wl_move (k := ?_); refine Wl_move (k := ?_); refine Wl_move (k := ?_); refine Wl_move (k := ?_); refine Wl_move (k := ?_); refine Wl_len_sl (k' := ?_); ((refine Wl_call (hs := hrec) (k := ?_); rintro v A' ⟨ra, rc, rfl, rfl⟩; simp only [List.cons_append, List.nil_append])) <;> (refine Wl_move (k := ?_); refine Wl_extract (k' := ?_); refine Wl_extract (k' := ?_); refine Wl_extract (k' := ?_); refine Wl_assign (k := ?_); refine Wl_assign (k := ?_); refine Wl_assign (k := ?_); (refine Wl_nil (hK _ _ ?_); clear hK K)))
        | (refine Wc_region (id := 7) ?_; intro K hK; refine Wl_move (k := ?_); refine Wl_not (k' := ?_); (refine Wl_nil (hK _ _ ?_); clear hK K))
        | (refine Wc_region (id := 8) ?_; intro K hK; refine Wl_move (k := ?_); refine Wl_move (k := ?_); (refine Wl_lit1 (k := ?_); intro r); ((refine Wl_append1 (hvl := by rfl) (hvc := by rfl) (hbd := by omega) (k := ?_); intro la' lc')) <;> (refine Wl_move (k := ?_); refine Wl_assign (k := ?_); refine Wl_assign (k := ?_); (refine Wl_nil (hK _ _ ?_); clear hK K)))
        | (refine Wc_region (id := 9) ?_; intro K hK; refine Wl_move (k := ?_); refine Wl_move (k := ?_); refine Wl_move (k := ?_); refine Wl_assign (k := ?_); refine Wl_assign (k := ?_); refine Wl_assign (k := ?_); (refine Wl_nil (hK _ _ ?_); clear hK K))
        | (refine Wc_cond (ht := (fun ht => ?_)) (hf := (fun ht => ?_)) <;> (try simp at ht) <;> (try (exfalso; omega))))
      refine ⟨(at', xs ++ [(ra, rc, q0)], la', lc'), ⟨hrg.2.1, by simp only [List.length_append, List.length_singleton]; omega, f, hf1, by rw [← hf2]; simp [recsOf]⟩, by simp only; omega, ⟨rfl, rfl, by simp; rfl, rfl, rfl, trivial⟩, ?_⟩
      refine rows_snoc (xs := xs) (x := (ra, rc, q0)) (by (repeat (first | exact Out.head | apply Out.tail)); (first | done | fail)) (by (repeat (first | exact Out.head | apply Out.tail)); (first | done | fail)) ?_
      simp only [List.length_append, List.length_singleton, List.map_append, List.map_cons, List.map_nil, rowV]
      (repeat (first | exact Ent.refl _ | exact Ent.nil | refine Ent.take (by (repeat (first | exact Out.head | apply Out.tail)); (first | done | fail)) ?_ | refine Ent.drop1 ?_))
end specs
end Go.Proofs.Ytepeljbgekgjcaa
