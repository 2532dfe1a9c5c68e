/- Package journal: writing a record. Conditions: sizes far from the kind's edges. -/
import Derived.Test.YtepeljbgekgjcaaJour2
set_option maxHeartbeats 8000000
set_option linter.unusedVariables false
set_option linter.unusedSimpArgs false
set_option maxRecDepth 100000
namespace Go.Proofs.Ytepeljbgekgjcaa
open Go Go.Sl
attribute [local irreducible] Go.Sl.Wl Go.Sl.Wc Go.Sl.thenQ Go.Sl.blkQ Go.Sl.loopQ Go.Sl.Fspec

structure Jn where
  size : Nat
  half : Int
  at_ : Nat
  lap : Nat
  number : Nat
  started : Bool
  over : Bool
def JC (d : Nat) (J : Jn) : List Value := [.pointer (some ⟨d, 0, none⟩), .int .i64 J.size, .int .i64 J.half, .int .i64 J.at_, .int .i64 J.lap, .int .i64 J.number, .bool J.started, .int .u32 (b32 J.over)]
def Jn.fail (J : Jn) (b : Bool) : Jn := { J with over := if b = true then true else J.over }
theorem Jn.fail_set (d : Nat) (J : Jn) : SetAt (JC d J) 7 (.int .u32 (b32 true)) (JC d (J.fail true)) := .succ (.succ (.succ (.succ (.succ (.succ (.succ .zero))))))
def chunk (l : List UInt8) (i : Nat) : List UInt8 := (l.drop (i * 47)).take 47
theorem chunk_eq {l : List UInt8} {m i : Nat} (hl : l.length = m) : ((l.map byteV).drop (i * 47 * 1)).take ((min m ((i + 1) * 47) - i * 47) * 1) = (chunk l i).map byteV := by
  unfold chunk
  rw [Nat.mul_one, Nat.mul_one, ← List.map_drop, ← List.map_take]
  congr 1
  have e : (l.drop (i * 47)).length = m - i * 47 := by rw [List.length_drop, hl]
  by_cases h : (i + 1) * 47 ≤ m
  · rw [Nat.min_eq_right h, show (i + 1) * 47 - i * 47 = 47 by omega]
  · rw [Nat.min_eq_left (by omega), List.take_of_length_le (by omega), List.take_of_length_le (by omega)]
theorem chunk_length (l : List UInt8) (i : Nat) : (chunk l i).length = min 47 (l.length - i * 47) := by simp [chunk]
def secF (lap number : Nat) (l : List UInt8) (i : Nat) : List UInt8 := secL lap number (i + 1) (partsN l.length) (chunk l i)
theorem secF_length (lap number : Nat) (l : List UInt8) (i : Nat) : (secF lap number l i).length = 64 := secL_length _ _ _ _ _ (by rw [chunk_length]; omega)
/-- So many sectors written from 'base' on; false: a step wasn't done. -/
def wrN (f : Nat → List UInt8) (base : Nat) (D : Dk) : Nat → Dk × Bool
  | 0 => (D, true)
  | k + 1 => if (wrN f base D k).2 = true then (if (wrN f base D k).1.down = true ∨ (wrN f base D k).1.fuse = 0 then ((wrN f base D k).1.dead, false) else ((wrN f base D k).1.put (base + k) (f k), true)) else wrN f base D k
def putD (f : Nat → List UInt8) (base : Nat) (D : Dk) (k : Nat) : Dk × Bool :=
  if (wrN f base D k).2 = true then (if (wrN f base D k).1.down = true ∨ (wrN f base D k).1.fuse = 0 then ((wrN f base D k).1.dead, false) else ((wrN f base D k).1.sync, true)) else wrN f base D k
theorem wrN_stop {f : Nat → List UInt8} {base : Nat} {D : Dk} {k : Nat} (h : (wrN f base D k).2 = false) : ∀ j, wrN f base D (k + j) = wrN f base D k
  | 0 => rfl
  | j + 1 => by
    have ih := wrN_stop h j
    show wrN f base D ((k + j) + 1) = _
    simp only [wrN]
    rw [ih, h]; simp
theorem wrN_ok {f : Nat → List UInt8} {base n : Nat} {D : Dk} (hD : D.ok n) (hf : ∀ i, (f i).length = 64) : ∀ k, base + k ≤ n → D.pend.length + k ≤ 999999 → D.steps + k ≤ 4611686018427387903 →
    (wrN f base D k).1.ok n ∧ (wrN f base D k).1.pend.length ≤ D.pend.length + k ∧ (wrN f base D k).1.steps ≤ D.steps + k
  | 0, _, _, _ => ⟨hD, by simp [wrN], by simp [wrN]⟩
  | k + 1, h1, h2, h3 => by
    obtain ⟨e1, e2, e3⟩ := wrN_ok (base := base) hD hf k (by omega) (by omega) (by omega)
    simp only [wrN]
    split
    · split
      · exact ⟨Dk.dead_ok e1, by simp only [Dk.dead]; omega, by simp only [Dk.dead]; omega⟩
      · refine ⟨Dk.put_ok (n := n) (i := base + k) e1 (by omega) (hf k) (by omega) (by omega), ?_, ?_⟩
        · simp only [Dk.put, List.length_append, List.length_singleton]; omega
        · simp only [Dk.put, Dk.tick]; omega
    · exact ⟨e1, by omega, by omega⟩
theorem range_at {P x : Nat} {pre rest : List Nat} (h : List.range P = pre ++ x :: rest) : x = pre.length ∧ pre.length < P := by
  have h1 := congrArg List.length h
  simp only [List.length_range, List.length_append, List.length_cons] at h1
  have h2 : (List.range P)[pre.length]? = some x := by rw [h]; simp
  rw [List.getElem?_range (by omega)] at h2
  exact ⟨(Option.some.inj h2).symm, by omega⟩
theorem wr_spec (B : Base) (p n i : Nat) (D : Dk) (h : D.ok n) (hi : i < n) (a : Option Addr) (c : Nat) (bs : List UInt8) (A0 : List Asn) (hl : bs.length = 64) (hsrc : Src Try.prog B A0 1 (.slice a 64 c) 64 (bs.map byteV)) :
    Fspec Try.prog B 54 #[.pointer (some ⟨p, 0, none⟩), .int .i64 i, .slice a 64 c] (DiskP p n D :: A0)
      (fun v A' => v = .int .i64 (if D.down = true ∨ D.fuse = 0 then 7 else 0) ∧ A' = DiskP p n (if D.down = true ∨ D.fuse = 0 then D.dead else D.put i bs) :: A0) := by
  by_cases hd : D.down = true ∨ D.fuse = 0
  · rw [if_pos hd, if_pos hd]
    exact write_down B p n i D h hd (by omega) a c A0
  · rw [if_neg hd, if_neg hd]
    exact write_ok B p n i D h (by simp at hd; exact hd.1) (fun e => hd (.inr e)) hi a c bs A0 hl hsrc
theorem sy_spec (B : Base) (p n : Nat) (D : Dk) (h : D.ok n) :
    Fspec Try.prog B 56 #[.pointer (some ⟨p, 0, none⟩)] [DiskP p n D]
      (fun v A' => v = .int .i64 (if D.down = true ∨ D.fuse = 0 then 7 else 0) ∧ A' = [DiskP p n (if D.down = true ∨ D.fuse = 0 then D.dead else D.sync)]) := by
  by_cases hd : D.down = true ∨ D.fuse = 0
  · rw [if_pos hd, if_pos hd]
    exact sync_down B p n D h hd
  · rw [if_neg hd, if_neg hd]
    exact sync_ok B p n D h (by simp at hd; exact hd.1) (fun e => hd (.inr e))
section specs
variable {B : Base}
theorem jparts_spec (a : Option Addr) (m c : Nat) : Fspec Try.prog B 53 #[.slice a m c] [] (fun v A' => ∃ r, v = .func (.func 59) #[] #[.pointer (some ⟨r, 0, none⟩)] ∧ A' = [cb r [.slice a m c] 57]) := by
  refine spec_of (args := [_]) Try.func53 rfl rfl rfl ?_
  repeat' (first
    | refine Wc_seq ?_
    | refine thenQ_normal ?_
    | refine Wc_cond_t (h := ?_)
    | refine Wc_cond_f (h := ?_)
    | refine Wc_ret ?_
    | refine thenQ_ret ?_
    | refine Wc_block ?_
    | refine blkQ_normal ?_
    | refine blkQ_ret ?_
    | refine Wc_exit ?_
    | refine thenQ_exit ?_
    | refine blkQ_hit ?_
    | refine blkQ_miss rfl ?_
    | refine Wc_skip ?_
    | refine Wc_label ?_
    | refine loopQ_exit ?_
    | refine loopQ_ret ?_
    | refine loopQ_normal ?_
    | (refine Wc_region (id := 0) ?_; intro K hK; (refine Wl_box (k := ?_); intro r); refine Wl_assign (k := ?_); (refine Wl_nil (hK _ _ ?_); clear hK K))
    | (refine Wc_region (id := 1) ?_; intro K hK; refine Wl_makeFunc (k' := ?_); refine Wl_assign (k := ?_); (refine Wl_nil (hK _ _ ?_); clear hK K))
    | (refine Wc_cond (ht := (fun ht => ?_)) (hf := (fun ht => ?_)) <;> (try simp at ht) <;> (try (exfalso; omega))))
  exact ⟨Or.inr rfl, _, _, Ent.refl _, res1 rfl rfl, _, rfl, rfl⟩
theorem put_spec (j d n : Nat) (J : Jn) (D : Dk) (hD : D.ok n) (h at_ lap number : Nat) (X : Asn) (a : Option Addr) (m c : Nat) (rec : List UInt8) (hR : RdS Try.prog B [X] 1 a m c (rec.map byteV)) (hm : m ≤ 1000000000)
    (hfit : h * J.size + at_ + partsN m ≤ n) (hp : D.pend.length + partsN m ≤ 999999) (hs : D.steps + partsN m ≤ 4611686018427387902) (P : Dk × Bool) (hP : putD (secF lap number rec) (h * J.size + at_) D (partsN m) = P) :
    Fspec Try.prog B 39 #[.pointer (some ⟨j, 0, none⟩), .int .i64 h, .int .i64 at_, .int .i64 lap, .int .i64 number, .slice a m c] [cb j (JC d J) 107, DiskP d n D, X]
      (fun v A' => v = .bool P.2 ∧ A' = [cb j (JC d (J.fail !P.2)) 107, DiskP d n P.1, X]) := by
  have hl : rec.length = m := by have := hR.len; simpa using this
  have hmc := hR.cap
  have hn := hD.n
  have hpm : partsN m = (m - 1) / 47 + 1 := rfl
  refine spec_of (args := [_, _, _, _, _, _]) Try.func39 rfl rfl rfl ?_
  repeat' (first
    | refine Wc_seq ?_
    | refine thenQ_normal ?_
    | refine Wc_cond_t (h := ?_)
    | refine Wc_cond_f (h := ?_)
    | refine Wc_ret ?_
    | refine thenQ_ret ?_
    | refine Wc_block ?_
    | refine blkQ_normal ?_
    | refine blkQ_ret ?_
    | refine Wc_exit ?_
    | refine thenQ_exit ?_
    | refine blkQ_hit ?_
    | refine blkQ_miss rfl ?_
    | refine Wc_skip ?_
    | refine Wc_label ?_
    | refine loopQ_exit ?_
    | refine loopQ_ret ?_
    | refine loopQ_normal ?_
    | (refine Wc_region (id := 0) ?_; intro K hK; ((refine Wl_box (k := ?_); intro r6)) <;> (((refine Wl_box (k := ?_); intro r7)) <;> (((refine Wl_box (k := ?_); intro r8)) <;> (((refine Wl_box (k := ?_); intro r9)) <;> (((refine Wl_box (k := ?_); intro r10)) <;> (((refine Wl_alloc (k := ?_); intro r12)) <;> ((refine Wl_nil (hK _ _ ?_); clear hK K))))))))
    | (refine Wc_region (id := 1) ?_; intro K hK; refine Wl_move (k := ?_); refine Wl_len_sl (k' := ?_); ((refine Wl_call (hs := parts_spec m (by omega)) (k := ?_); rintro v A' ⟨rfl, rfl⟩; simp only [List.cons_append, List.nil_append])) <;> (((refine Wl_alloc (k := ?_); intro r13)) <;> (refine Wl_store (ho := rfl) (k := ?_); (refine Wl_nil (hK _ _ ?_); clear hK K))))
    | (refine Wc_region (id := 2) ?_; intro K hK; refine Wl_move (k := ?_); ((refine Wl_call (hs := jparts_spec a m c) (k := ?_); rintro v A' ⟨rp, rfl, rfl⟩; simp only [List.cons_append, List.nil_append])) <;> ((refine Wl_nil (hK _ _ ?_); clear hK K)))
    | (refine Wc_cond (ht := (fun ht => ?_)) (hf := (fun ht => ?_)) <;> (try simp at ht) <;> (try (exfalso; omega))))
  have hbnd : ∀ k, k ≤ partsN m → (wrN (secF lap number rec) (h * J.size + at_) D k).1.ok n := fun k hk => (wrN_ok hD (secF_length lap number rec) k (by omega) (by omega) (by omega)).1
  refine Wc_rangeFunc (vs := []) (encPt a m c) (List.range (partsN m)) [cb rp [.slice a m c] 57]
    (fun pre => [pur ((wrN (secF lap number rec) (h * J.size + at_) D pre.length).2 = true), cb r6 [.pointer (some ⟨j, 0, none⟩)] 78, cb r7 [.int .i64 h] 3, cb r8 [.int .i64 at_] 3, cb r9 [.int .i64 lap] 3, cb r10 [.int .i64 number] 3, cb r13 [.int .i64 (partsN m)] 3, cb j (JC d J) 107, DiskP d n (wrN (secF lap number rec) (h * J.size + at_) D pre.length).1, X, cb r12 [.bool false] 4])
    (fun k pre => [pur (k = .ret ∧ pre.length ≤ partsN m ∧ (wrN (secF lap number rec) (h * J.size + at_) D pre.length).2 = false), cb j (JC d (J.fail true)) 107, DiskP d n (wrN (secF lap number rec) (h * J.size + at_) D pre.length).1, X, cb r12 [.bool false] 4])
    rfl ?_ (parts_seq rp a m c (by omega) hmc) (by decide) (fun _ => rfl) ?_ ?_ (fun k pre x rest hx => ?_)
  · refine Ent.trans (Ent.pur_in (φ := (wrN (secF lap number rec) (h * J.size + at_) D ([] : List Nat).length).2 = true) rfl _) ?_
    simp only [List.cons_append, List.nil_append]
    (repeat (first | exact Ent.refl _ | exact Ent.nil | refine Ent.take (by (repeat (first | exact Out.head | apply Out.tail)); (first | done | fail)) ?_ | refine Ent.drop1 ?_))
  · rintro pre x rest hx
    obtain ⟨rfl, hlt⟩ := range_at hx
    unfold Round
    simp only [encPt, List.zip_cons_cons, List.zip_nil_right, ups, List.cons_append, List.nil_append]
    refine Wc_take (y := pur ((wrN (secF lap number rec) (h * J.size + at_) D pre.length).2 = true)) (h := (by (repeat (first | exact Out.head | apply Out.tail)); (first | done | fail))) (k := Wc_pur (fun hok => ?_))
    repeat' (first
      | refine Wc_seq ?_
      | refine thenQ_normal ?_
      | refine Wc_cond_t (h := ?_)
      | refine Wc_cond_f (h := ?_)
      | refine Wc_ret ?_
      | refine thenQ_ret ?_
      | refine Wc_block ?_
      | refine blkQ_normal ?_
      | refine blkQ_ret ?_
      | refine Wc_exit ?_
      | refine thenQ_exit ?_
      | refine blkQ_hit ?_
      | refine blkQ_miss rfl ?_
      | refine Wc_skip ?_
      | refine Wc_label ?_
      | refine loopQ_exit ?_
      | refine loopQ_ret ?_
      | refine loopQ_normal ?_
      | (refine Wc_region (id := 3) ?_; intro K hK; refine Wl_assign (k := ?_); (refine Wl_nil (hK _ _ ?_); clear hK K))
      | (refine Wc_region (id := 4) ?_; intro K hK; refine Wl_assign (k := ?_); (refine Wl_nil (hK _ _ ?_); clear hK K))
      | (refine Wc_cond (ht := (fun ht => ?_)) (hf := (fun ht => ?_)) <;> (try simp at ht) <;> (try (exfalso; omega))))
    refine ⟨rfl, ?_⟩
    have hnext : wrN (secF lap number rec) (h * J.size + at_) D (pre.length + 1) = if (wrN (secF lap number rec) (h * J.size + at_) D pre.length).1.down = true ∨ (wrN (secF lap number rec) (h * J.size + at_) D pre.length).1.fuse = 0 then ((wrN (secF lap number rec) (h * J.size + at_) D pre.length).1.dead, false) else ((wrN (secF lap number rec) (h * J.size + at_) D pre.length).1.put ((h * J.size + at_) + pre.length) (secF lap number rec pre.length), true) := by
      simp only [wrN, hok, if_true]
    have hDi := hbnd pre.length (by omega)
    generalize hi0 : pre.length = i at *
    generalize hWi : wrN (secF lap number rec) (h * J.size + at_) D i = Wi at *
    simp only [JC]
    have hck : (chunk rec i).length = min m ((i + 1) * 47) - i * 47 := by rw [chunk_length, hl]; omega
    have hsF : secL lap number (i + 1) (partsN m) (chunk rec i) = secF lap number rec i := by unfold secF; rw [hl]
    obtain ⟨e, he⟩ : ∃ e : Int, e = if Wi.1.down = true ∨ Wi.1.fuse = 0 then 7 else 0 := ⟨_, rfl⟩
    repeat' (first
      | refine Wc_seq ?_
      | refine thenQ_normal ?_
      | refine Wc_cond_t (h := ?_)
      | refine Wc_cond_f (h := ?_)
      | refine Wc_ret ?_
      | refine thenQ_ret ?_
      | refine Wc_block ?_
      | refine blkQ_normal ?_
      | refine blkQ_ret ?_
      | refine Wc_exit ?_
      | refine thenQ_exit ?_
      | refine blkQ_hit ?_
      | refine blkQ_miss rfl ?_
      | refine Wc_skip ?_
      | refine Wc_label ?_
      | refine loopQ_exit ?_
      | refine loopQ_ret ?_
      | refine loopQ_normal ?_
      | (refine Wc_drawF (id := 5) (M := ([cb r6 [.pointer (some ⟨j, 0, none⟩)] 78, cb r7 [.int .i64 h] 3, cb r8 [.int .i64 at_] 3, cb r9 [.int .i64 lap] 3, cb r10 [.int .i64 number] 3, cb r13 [.int .i64 (partsN m)] 3, cb j (JC d J) 107])) (Ls := [23, 26, 27, 28, 31, 33, 37, 38, 41, 45]) (hp := (Pick.perm (by (repeat (first | exact Pick.nil | apply Pick.cons (by (repeat (first | exact Out.head | apply Out.tail)); (first | done | fail)))); (first | done | fail)))) (h := ?_); intro K hK; refine Wl_loadF (k := ?_); refine Wl_nilCheck (k := ?_); refine Wl_fieldAddr (k := ?_); refine Wl_loadF (k := ?_); refine Wl_loadF (k := ?_); refine Wl_loadF (k := ?_); refine Wl_nilCheck (k := ?_); refine Wl_fieldAddr (k := ?_); refine Wl_loadF (k := ?_); ((refine Wl_mul (hf := fits_i64 (by rw [← Int.natCast_mul]; omega)) (k' := ?_); rw [← Int.natCast_mul])) <;> (refine Wl_loadF (k := ?_); refine Wl_add (k' := ?_); refine Wl_move (k := ?_); ((refine Wl_add (k' := ?_); rw [show ((h * J.size : Nat) : Int) + (at_ : Int) + (i : Int) = ((h * J.size + at_ + i : Nat) : Int) by omega])) <;> (refine Wl_loadF (k := ?_); refine Wl_loadF (k := ?_); refine Wl_move (k := ?_); ((refine Wl_add (k' := ?_); rw [show (i : Int) + 1 = ((i + 1 : Nat) : Int) by omega])) <;> (refine Wl_loadF (k := ?_); refine Wl_move (k := ?_); ((refine Wl_call (hs := sector_spec [X] lap number (i + 1) (partsN m) _ _ _ (chunk rec i) (by rw [← chunk_eq hl]; exact hR.cut (by omega) (Nat.min_le_left ..)) (by omega)) (k := ?_); rintro v A' ⟨rs, rfl, rfl⟩; simp only [List.cons_append, List.nil_append]; rw [hsF])) <;> (((refine Wl_call (hs := wr_spec B d n (h * J.size + at_ + i) Wi.1 hDi (by omega) (some ⟨rs, 0, none⟩) 64 (secF lap number rec i) [cb rs ((secF lap number rec i).map byteV) 101] (secF_length ..) (src_sl .head (by simp [secF_length]) (by rw [List.drop_zero]; exact List.take_of_length_le (by simp [secF_length])))) (k := ?_); rintro v A' ⟨rfl, rfl⟩; simp only [List.cons_append, List.nil_append]; rw [← he])) <;> (refine Wl_neq (k' := ?_); (refine Wl_nil (hK _ _ ?_); clear hK K; try simp only [List.cons_append, List.nil_append])))))))
      | (refine Wc_region (id := 6) ?_; intro K hK; refine Wl_load (k := ?_); refine Wl_nilCheck (k := ?_); refine Wl_fieldAddr (k := ?_); ((refine Wl_call (hs := bstore_spec j 7 (JC d J) (JC d (J.fail true)) 107 true J.over rfl (J.fail_set d)) (k := ?_); rintro v A' ⟨rfl, rfl⟩; simp only [List.cons_append, List.nil_append])) <;> ((refine Wl_nil (hK _ _ ?_); clear hK K)))
      | (refine Wc_region (id := 7) ?_; intro K hK; refine Wl_store (ho := rfl) (k := ?_); (refine Wl_nil (hK _ _ ?_); clear hK K))
      | (refine Wc_cond (ht := (fun ht => ?_)) (hf := (fun ht => ?_)) <;> (try simp at ht) <;> (try (exfalso; omega))))
    · have hdn : Wi.1.down = true ∨ Wi.1.fuse = 0 := Classical.byContradiction fun hc => by rw [if_neg hc] at he; exact ht he
      rw [if_pos hdn] at hnext
      refine .inr ⟨.ret, rfl, ?_⟩
      rw [if_pos hdn, List.length_append, hi0, List.length_singleton, hnext]
      refine Ent.trans (Ent.pur_in (φ := (Code.ret = Code.ret ∧ i + 1 ≤ partsN m ∧ false = false)) ⟨rfl, hlt, rfl⟩ _) ?_
      (repeat (first | exact Ent.refl _ | exact Ent.nil | refine Ent.take (by (repeat (first | exact Out.head | apply Out.tail)); (first | done | fail)) ?_ | refine Ent.drop1 ?_))
    · have hdn : ¬ (Wi.1.down = true ∨ Wi.1.fuse = 0) := fun hc => by rw [if_pos hc] at he; omega
      rw [if_neg hdn] at hnext
      refine .inl ⟨rfl, ?_⟩
      rw [if_neg hdn, List.length_append, hi0, List.length_singleton, hnext]
      refine Ent.trans (Ent.pur_in (φ := (true = true)) rfl _) ?_
      (repeat (first | exact Ent.refl _ | exact Ent.nil | refine Ent.take (by (repeat (first | exact Out.head | apply Out.tail)); (first | done | fail)) ?_ | refine Ent.drop1 ?_))
  · refine blkQ_normal (thenQ_normal ?_)
    simp only [List.cons_append, List.nil_append, List.length_range]
    refine Wc_take (y := pur ((wrN (secF lap number rec) (h * J.size + at_) D (partsN m)).2 = true)) (h := (by (repeat (first | exact Out.head | apply Out.tail)); (first | done | fail))) (k := Wc_pur (fun hok => ?_))
    have hDi := hbnd (partsN m) (by omega)
    unfold putD at hP
    rw [if_pos hok] at hP
    generalize hWi : wrN (secF lap number rec) (h * J.size + at_) D (partsN m) = Wi at *
    obtain ⟨e, he⟩ : ∃ e : Int, e = if Wi.1.down = true ∨ Wi.1.fuse = 0 then 7 else 0 := ⟨_, rfl⟩
    simp only [JC]
    repeat' (first
      | refine Wc_seq ?_
      | refine thenQ_normal ?_
      | refine Wc_cond_t (h := ?_)
      | refine Wc_cond_f (h := ?_)
      | refine Wc_ret ?_
      | refine thenQ_ret ?_
      | refine Wc_block ?_
      | refine blkQ_normal ?_
      | refine blkQ_ret ?_
      | refine Wc_exit ?_
      | refine thenQ_exit ?_
      | refine blkQ_hit ?_
      | refine blkQ_miss rfl ?_
      | refine Wc_skip ?_
      | refine Wc_label ?_
      | refine loopQ_exit ?_
      | refine loopQ_ret ?_
      | refine loopQ_normal ?_
      | (refine Wc_region (id := 8) ?_; intro K hK; refine Wl_load (k := ?_); refine Wl_nilCheck (k := ?_); refine Wl_fieldAddr (k := ?_); refine Wl_load (k := ?_); ((refine Wl_call (hs := sy_spec B d n Wi.1 hDi) (k := ?_); rintro v A' ⟨rfl, rfl⟩; simp only [List.cons_append, List.nil_append]; rw [← he])) <;> (refine Wl_neq (k' := ?_); (refine Wl_nil (hK _ _ ?_); clear hK K)))
      | (refine Wc_region (id := 9) ?_; intro K hK; refine Wl_load (k := ?_); refine Wl_nilCheck (k := ?_); refine Wl_fieldAddr (k := ?_); ((refine Wl_call (hs := bstore_spec j 7 (JC d J) (JC d (J.fail true)) 107 true J.over rfl (J.fail_set d)) (k := ?_); rintro v A' ⟨rfl, rfl⟩; simp only [List.cons_append, List.nil_append])) <;> ((refine Wl_nil (hK _ _ ?_); clear hK K)))
      | (refine Wc_region (id := 10) ?_; intro K hK; refine Wl_store (ho := rfl) (k := ?_); (refine Wl_nil (hK _ _ ?_); clear hK K))
      | (refine Wc_region (id := 11) ?_; intro K hK; refine Wl_store (ho := rfl) (k := ?_); (refine Wl_nil (hK _ _ ?_); clear hK K))
      | (refine Wc_cond (ht := (fun ht => ?_)) (hf := (fun ht => ?_)) <;> (try simp at ht) <;> (try (exfalso; omega))))
    · have hdn : Wi.1.down = true ∨ Wi.1.fuse = 0 := Classical.byContradiction fun hc => by rw [if_neg hc] at he; exact ht he
      rw [if_pos hdn] at hP
      subst hP
      rw [if_pos hdn]
      exact ⟨Or.inr rfl, .bool false, [cb j (JC d (J.fail true)) 107, DiskP d n Wi.1.dead, X], (by (repeat (first | exact Ent.refl _ | exact Ent.nil | refine Ent.take (by (repeat (first | exact Out.head | apply Out.tail)); (first | done | fail)) ?_ | refine Ent.drop1 ?_))), resG (rs := [.cell 12 4]) rfl (.cell (l := [.bool false]) (off := 0) (by (repeat (first | exact Ev.here | exact Ev.const | exact Ev.arg rfl | apply Ev.there rfl | exact Ev.none rfl | exact Ev.func | exact Ev.var)); (first | done | fail)) (by (repeat (first | exact Rd.head | exact Rd.base (by assumption) | apply Rd.tail)); (first | done | fail)) rfl .nil) rfl, rfl, rfl⟩
    · have hdn : ¬ (Wi.1.down = true ∨ Wi.1.fuse = 0) := fun hc => by rw [if_pos hc] at he; omega
      rw [if_neg hdn] at hP
      subst hP
      rw [if_neg hdn]
      exact ⟨Or.inr rfl, .bool true, [cb j (JC d J) 107, DiskP d n Wi.1.sync, X], (by (repeat (first | exact Ent.refl _ | exact Ent.nil | refine Ent.take (by (repeat (first | exact Out.head | apply Out.tail)); (first | done | fail)) ?_ | refine Ent.drop1 ?_))), resG (rs := [.cell 12 4]) rfl (.cell (l := [.bool true]) (off := 0) (by (repeat (first | exact Ev.here | exact Ev.const | exact Ev.arg rfl | apply Ev.there rfl | exact Ev.none rfl | exact Ev.func | exact Ev.var)); (first | done | fail)) (by (repeat (first | exact Rd.head | exact Rd.base (by assumption) | apply Rd.tail)); (first | done | fail)) rfl .nil) rfl, rfl, rfl⟩
  · simp only [List.cons_append, List.nil_append]
    refine Wc_take (y := pur (k = .ret ∧ (pre ++ [x]).length ≤ partsN m ∧ (wrN (secF lap number rec) (h * J.size + at_) D (pre ++ [x]).length).2 = false)) (h := (by (repeat (first | exact Out.head | apply Out.tail)); (first | done | fail))) (k := Wc_pur (fun hk => ?_))
    obtain ⟨rfl, hle, hno⟩ := hk
    have hend : wrN (secF lap number rec) (h * J.size + at_) D (partsN m) = wrN (secF lap number rec) (h * J.size + at_) D (pre ++ [x]).length := by
      have := wrN_stop hno (partsN m - (pre ++ [x]).length)
      rwa [show (pre ++ [x]).length + (partsN m - (pre ++ [x]).length) = partsN m by omega] at this
    unfold putD at hP
    rw [hend, if_neg (by rw [hno]; simp)] at hP
    subst hP
    rw [hno]
    generalize (wrN (secF lap number rec) (h * J.size + at_) D (pre ++ [x]).length).1 = W1
    repeat' (first
      | refine Wc_seq ?_
      | refine thenQ_normal ?_
      | refine Wc_cond_t (h := ?_)
      | refine Wc_cond_f (h := ?_)
      | refine Wc_ret ?_
      | refine thenQ_ret ?_
      | refine Wc_block ?_
      | refine blkQ_normal ?_
      | refine blkQ_ret ?_
      | refine Wc_exit ?_
      | refine thenQ_exit ?_
      | refine blkQ_hit ?_
      | refine blkQ_miss rfl ?_
      | refine Wc_skip ?_
      | refine Wc_label ?_
      | refine loopQ_exit ?_
      | refine loopQ_ret ?_
      | refine loopQ_normal ?_
      | (refine Wc_cond (ht := (fun ht => ?_)) (hf := (fun ht => ?_)) <;> (try simp at ht) <;> (try (exfalso; omega))))
    exact ⟨Or.inr rfl, .bool false, [cb j (JC d (J.fail true)) 107, DiskP d n W1, X], (by (repeat (first | exact Ent.refl _ | exact Ent.nil | refine Ent.take (by (repeat (first | exact Out.head | apply Out.tail)); (first | done | fail)) ?_ | refine Ent.drop1 ?_))), resG (rs := [.cell 12 4]) rfl (.cell (l := [.bool false]) (off := 0) (by (repeat (first | exact Ev.here | exact Ev.const | exact Ev.arg rfl | apply Ev.there rfl | exact Ev.none rfl | exact Ev.func | exact Ev.var)); (first | done | fail)) (by (repeat (first | exact Rd.head | exact Rd.base (by assumption) | apply Rd.tail)); (first | done | fail)) rfl .nil) rfl, rfl, rfl⟩
end specs
end Go.Proofs.Ytepeljbgekgjcaa
