/- JournalWrites: what it answers. -/
import Derived.Test.YtdlpfeflndlpfaaWr13A
set_option maxHeartbeats 8000000
set_option linter.unusedVariables false
set_option linter.unusedSimpArgs false
set_option maxRecDepth 100000
namespace Go.Proofs.Ytdlpfeflndlpfaa
open Go Go.Sl
attribute [local irreducible] Go.Sl.Wl Go.Sl.Wc Go.Sl.thenQ Go.Sl.blkQ Go.Sl.loopQ Go.Sl.Fspec

section specs
variable (B : Base)
theorem jwrites_spec (nn : Int) (a : Option Addr) (m c : Nat) (l : List Op13) (hl : l.length = m) (hsrc : RdS Try.prog B [] 3 a m c (l.flatMap op13C)) (hm : m ≤ 9223372036854775807) (hops : ∀ q ∈ l, q.ok Try.prog B) :
    Fspec Try.prog B 12 #[.int .i64 nn, .slice a m c] [] (fun v A' => v = .bool true ∧ A' = []) := by
  refine spec_of (args := [_, _]) Try.func12 rfl rfl rfl ?_
  have hsn := (and31 nn).2
  have hsp := size_spec (B := B) nn
  obtain ⟨n, hn⟩ : ∃ n, sizeN nn = n := ⟨_, rfl⟩
  rw [hn] at hsp
  unfold sizeN at hn
  have hn4 : 4 ≤ n ∧ n ≤ 35 := by omega
  clear hsn hn
  have hON := openN_zero (S := (Dk.new n).seen) (size := n / 2) (fun i hi => seen_new n i (by omega)) (by omega)
  have hro := fun a' c' => ropen_spec (B := B) a' n c' (Dk.new n).seen hn4.1 (by omega) (fun i hi => (Calm.new n (by omega)).len i hi)
  rw [hON] at hro
  repeat' (first
    | refine Wc_seq ?_
    | refine thenQ_normal ?_
    | refine Wc_cond_t (h := ?_)
    | refine Wc_cond_f (h := ?_)
    | refine Wc_ret ?_
    | refine thenQ_ret ?_
    | refine Wc_block ?_
    | refine blkQ_normal ?_
    | refine blkQ_ret ?_
    | refine Wc_exit ?_
    | refine thenQ_exit ?_
    | refine blkQ_hit ?_
    | refine blkQ_miss rfl ?_
    | refine Wc_skip ?_
    | refine Wc_label ?_
    | refine loopQ_exit ?_
    | refine loopQ_ret ?_
    | refine loopQ_normal ?_
    | (refine Wc_region (id := 0) ?_; intro K hK; refine Wl_assign (k := ?_); (refine Wl_nil (hK _ _ ?_); clear hK K))
    | (refine Wc_region (id := 1) ?_; intro K hK; ((refine Wl_call (hs := awake13 B) (k := ?_); rintro v A' ⟨rfl, rfl⟩; simp only [List.cons_append, List.nil_append])) <;> (refine Wl_not (k' := ?_); (refine Wl_nil (hK _ _ ?_); clear hK K)))
    | (refine Wc_region (id := 2) ?_; intro K hK; refine Wl_assign (k := ?_); (refine Wl_nil (hK _ _ ?_); clear hK K))
    | (refine Wc_region (id := 3) ?_; intro K hK; refine Wl_move (k := ?_); ((refine Wl_call (hs := hsp) (k := ?_); rintro v A' ⟨rfl, rfl⟩; simp only [List.cons_append, List.nil_append])) <;> (((refine Wl_call (hs := new_spec B n (by omega)) (k := ?_); rintro v A' ⟨d, rfl, rfl⟩; simp only [List.cons_append, List.nil_append])) <;> (refine Wl_move (k := ?_); refine Wl_extract (k' := ?_); refine Wl_extract (k' := ?_); refine Wl_assign (k := ?_); refine Wl_assign (k := ?_); (refine Wl_nil (hK _ _ ?_); clear hK K))))
    | (refine Wc_region (id := 4) ?_; intro K hK; refine Wl_move (k := ?_); ((refine Wl_call (hs := hsp) (k := ?_); rintro v A' ⟨rfl, rfl⟩; simp only [List.cons_append, List.nil_append])) <;> (((refine Wl_quo (k' := ?_); rw [half2 n (by omega)])) <;> (refine Wl_assign (k := ?_); (refine Wl_nil (hK _ _ ?_); clear hK K))))
    | (refine Wc_region (id := 5) ?_; intro K hK; refine Wl_move (k := ?_); ((refine Wl_call (hs := open_new d n (by omega) (by omega)) (k := ?_); rintro v A' ⟨j, a0, c0, rfl, rfl⟩; simp only [List.cons_append, List.nil_append])) <;> (refine Wl_move (k := ?_); refine Wl_extract (k' := ?_); refine Wl_extract (k' := ?_); refine Wl_extract (k' := ?_); refine Wl_assign (k := ?_); refine Wl_assign (k := ?_); refine Wl_assign (k := ?_); (refine Wl_nil (hK _ _ ?_); clear hK K)))
    | (refine Wc_region (id := 6) ?_; intro K hK; refine Wl_move (k := ?_); refine Wl_ptr_eq_nil (k' := ?_); refine Wl_move (k := ?_); ((first | (refine Wl_guard (k := ?_); refine Wl_move (k := ?_)) | refine Wl_gno (k := ?_) | ((refine Wl_split (yes := (fun ht => ?_)) (no := (fun ht => ?_)) <;> (try simp at ht) <;> (try (exfalso; omega))) <;> (first | (refine Wl_guard (k := ?_); refine Wl_move (k := ?_)) | refine Wl_gno (k := ?_))))) <;> (((first | (refine Wl_guard (k := ?_); refine Wl_neq (k' := ?_)) | refine Wl_gno (k := ?_) | ((refine Wl_split (yes := (fun ht => ?_)) (no := (fun ht => ?_)) <;> (try simp at ht) <;> (try (exfalso; omega))) <;> (first | (refine Wl_guard (k := ?_); refine Wl_neq (k' := ?_)) | refine Wl_gno (k := ?_))))) <;> ((first | refine Wl_pick_t (k := ?_) | refine Wl_pick_f (k := ?_) | refine Wl_pick (k := ?_)); (refine Wl_nil (hK _ _ ?_); clear hK K))))
    | (refine Wc_region (id := 7) ?_; intro K hK; refine Wl_assign (k := ?_); (refine Wl_nil (hK _ _ ?_); clear hK K))
    | (refine Wc_region (id := 8) ?_; intro K hK; refine Wl_move (k := ?_); ((refine Wl_call (hs := sectors_spec d n (Dk.new n) (Dk.new_ok n (by omega)) rfl (by omega)) (k := ?_); rintro v A' ⟨a1, c1, rfl, rfl⟩; simp only [List.cons_append, List.nil_append])) <;> (((refine Wl_call (hs := hro a1 c1) (k := ?_); rintro v A' ⟨a2, c2, rfl, rfl⟩; simp only [List.cons_append, List.nil_append])) <;> (((refine Wl_alloc (k := ?_); intro ro)) <;> (refine Wl_storeR (ho' := rfl) (k := ?_); (refine Wl_nil (hK _ _ ?_); clear hK K)))))
    | (refine Wc_region (id := 9) ?_; intro K hK; refine Wl_assign (k := ?_); refine Wl_assign (k := ?_); refine Wl_assign (k := ?_); (refine Wl_nil (hK _ _ ?_); clear hK K))
    | (refine Wc_region (id := 10) ?_; intro K hK; refine Wl_assign (k := ?_); (refine Wl_nil (hK _ _ ?_); clear hK K))
    | (refine Wc_cond (ht := (fun ht => ?_)) (hf := (fun ht => ?_)) <;> (try simp at ht) <;> (try (exfalso; omega))))
  refine Wc_ent (A' := [cb j (JC d ⟨n / 2, -1, 0, 0, 0, false, false⟩) 100, DiskP d n (Dk.new n), cb ro [.slice a2 0 c2, .int .i64 (-1), .int .i64 (0 : Nat)] 72, pur True]) ((Ent.pur_in (φ := True) trivial _).trans (by (repeat (first | exact Ent.refl _ | exact Ent.nil | refine Ent.take (by (repeat (first | exact Out.head | apply Out.tail)); (first | done | fail)) ?_ | refine Ent.drop1 ?_)))) ?_
  refine Wc_loop (α := Nat × Nat × Jn × Dk × Nat × Option Addr × Nat × Nat) (fun x => [(1, .slice a m c), (5, .pointer (some ⟨d, 0, none⟩)), (7, .int .i64 (n / 2 : Nat)), (8, .pointer (some ⟨x.2.1, 0, none⟩)), (11, .pointer (some ⟨ro, 0, none⟩)), (12, .bool x.2.2.1.started), (13, .int .i64 x.2.2.1.at_), (14, .int .i64 x.2.2.1.number), (15, .int .i64 x.1)])
    (fun x => [cb x.2.1 (JC d x.2.2.1) 100, DiskP d n x.2.2.2.1, cb ro [.slice x.2.2.2.2.2.1 x.2.2.2.2.2.2.1 x.2.2.2.2.2.2.2, .int .i64 x.2.2.1.half, .int .i64 x.2.2.2.2.1] 72, pur True])
    (fun x => x.1 ≤ m ∧ x.1 ≤ 40 ∧ WI n x.1 x.2.2.1 x.2.2.2.1 x.2.2.2.2.1) (fun x => m - x.1) (0, j, ⟨n / 2, -1, 0, 0, 0, false, false⟩, Dk.new n, 0, a2, 0, c2)
    ⟨by simp, by simp, ⟨Calm.new n (by omega), rfl, rfl, Nat.zero_le _, Nat.le_refl _, Nat.zero_le _, fun h => (by cases h), fun h => (by cases h)⟩⟩ ⟨rfl, rfl, rfl, rfl, rfl, rfl, rfl, rfl, rfl, trivial⟩ (Ent.refl _) ?_
  clear hON hro hsp
  rintro ⟨i, j, J, D, lapw, la, ln, lc⟩ G ⟨him, hi40, hI⟩
  simp only at him hi40 hI
  simp only [ov]
  by_cases hi2 : i < m ∧ i < 40
  · obtain ⟨q, hq⟩ : ∃ q, l[i]? = some q := ⟨_, List.getElem?_eq_getElem (by omega)⟩
    have hqo := hops q (List.mem_of_getElem? hq)
    obtain ⟨pp, rfl⟩ : ∃ p', a = some p' := by
      cases a with
      | none => have := hsrc.nil rfl; omega
      | some p' => exact ⟨p', rfl⟩
    have hcr : ((l.flatMap op13C).drop (i * 3)).take 3 = [.int .i64 q.k, .int .i64 q.i, .slice q.a q.m q.c] := op13_row hq
    obtain ⟨qk, qi, qa, qm, qc, qb⟩ := q
    have hqi := hqo.i; have hqm := hqo.m; have hqr := hqo.rd
    simp only at hcr hqi hqm hqr
    have hql : qb.length = qm := by have := hqr.len; simpa using this
    have hsz := hI.sz; have hrm := hI.room; have hnum := hI.num; have hlapb := hI.lapb; have hhf := hI.hf; have hlp := hI.lp; have hov := hI.ov
    have hcalm := hI.calm; have hdn := hcalm.down; have hok := hcalm.ok
    have hpl : D.pend.length = 0 := by rw [hcalm.pend]; rfl
    have hst := hcalm.steps
    repeat' (first
      | (refine Wc_cutR (k := 17) (α := Nat × Jn × Dk × Nat × Option Addr × Nat × Nat × Option Addr × Nat) (fun x => [(1, .slice (some pp) m c), (5, .pointer (some ⟨d, 0, none⟩)), (7, .int .i64 (n / 2 : Nat)), (8, .pointer (some ⟨x.1, 0, none⟩)), (11, .pointer (some ⟨ro, 0, none⟩)), (12, .bool x.2.1.started), (13, .int .i64 x.2.1.at_), (14, .int .i64 x.2.1.number), (15, .int .i64 i), (17, .slice x.2.2.2.2.2.2.2.1 n x.2.2.2.2.2.2.2.2)]) (fun x => [cb x.1 (JC d x.2.1) 100, DiskP d n x.2.2.1, cb ro [.slice x.2.2.2.2.1 x.2.2.2.2.2.1 x.2.2.2.2.2.2.1, .int .i64 x.2.1.half, .int .i64 x.2.2.2.1] 72, pur True, own x.2.2.2.2.2.2.2.1 n x.2.2.2.2.2.2.2.2 1 (rowsS x.2.2.1.seen n) 9]) (fun x => WI n (i + 1) x.2.1 x.2.2.1 x.2.2.2.1) ?_ ?_)
      | refine Wc_seq ?_
      | refine thenQ_normal ?_
      | refine Wc_cond_t (h := ?_)
      | refine Wc_cond_f (h := ?_)
      | refine Wc_ret ?_
      | refine thenQ_ret ?_
      | refine Wc_block ?_
      | refine blkQ_normal ?_
      | refine blkQ_ret ?_
      | refine Wc_exit ?_
      | refine thenQ_exit ?_
      | refine blkQ_hit ?_
      | refine blkQ_miss rfl ?_
      | refine Wc_skip ?_
      | refine Wc_label ?_
      | refine loopQ_exit ?_
      | refine loopQ_ret ?_
      | refine loopQ_normal ?_
      | (refine Wc_region (id := 11) ?_; intro K hK; refine Wl_move (k := ?_); refine Wl_move (k := ?_); refine Wl_len_sl (k' := ?_); refine Wl_lss (k' := ?_); refine Wl_move (k := ?_); ((first | (refine Wl_guard (k := ?_); refine Wl_move (k := ?_)) | refine Wl_gno (k := ?_) | ((refine Wl_split (yes := (fun ht => ?_)) (no := (fun ht => ?_)) <;> (try simp at ht) <;> (try (exfalso; omega))) <;> (first | (refine Wl_guard (k := ?_); refine Wl_move (k := ?_)) | refine Wl_gno (k := ?_))))) <;> (((first | (refine Wl_guard (k := ?_); refine Wl_lss (k' := ?_)) | refine Wl_gno (k := ?_) | ((refine Wl_split (yes := (fun ht => ?_)) (no := (fun ht => ?_)) <;> (try simp at ht) <;> (try (exfalso; omega))) <;> (first | (refine Wl_guard (k := ?_); refine Wl_lss (k' := ?_)) | refine Wl_gno (k := ?_))))) <;> ((first | refine Wl_pick_t (k := ?_) | refine Wl_pick_f (k := ?_) | refine Wl_pick (k := ?_)); (refine Wl_nil (hK _ _ ?_); clear hK K))))
      | (refine Wc_region (id := 13) ?_; intro K hK; refine Wl_move (k := ?_); refine Wl_move (k := ?_); ((refine Wl_index_any (k' := ?_))) <;> (((refine Wl_loadAggG (cs := [.int .i64 qk, .int .i64 qi, .slice qa qm qc]) (hq := by rw [Int.toNat_natCast]) (hr := hsrc.any) (hv := hcr) (k := ?_))) <;> (((refine Wl_alloc (k := ?_); intro oo)) <;> (refine Wl_storeR (ho' := rfl) (k := ?_); (refine Wl_nil (hK _ _ ?_); clear hK K)))))
      | (refine Wc_region (id := 14) ?_; intro K hK; refine Wl_fieldAddr (k := ?_); refine Wl_load (k := ?_); refine Wl_len_sl (k' := ?_); refine Wl_gtr (k' := ?_); (refine Wl_nil (hK _ _ ?_); clear hK K))
      | (refine Wc_region (id := 15) ?_; intro K hK; refine Wl_assign (k := ?_); (refine Wl_nil (hK _ _ ?_); clear hK K))
      | (refine Wc_region (id := 16) ?_; intro K hK; refine Wl_move (k := ?_); ((refine Wl_call (hs := sectors_spec d n D hok hdn (by omega)) (k := ?_); rintro v A' ⟨wa, wc, rfl, rfl⟩; simp only [List.cons_append, List.nil_append])) <;> (refine Wl_assign (k := ?_); (refine Wl_nil (hK _ _ ?_); clear hK K)))
      | (refine Wc_cond (ht := (fun ht => ?_)) (hf := (fun ht => ?_)) <;> (try simp at ht) <;> (try (exfalso; omega))))
    · exact ⟨Or.inr rfl, .bool true, [], Ent.nil, res1 rfl rfl, rfl, rfl⟩
    · by_cases k0 : qk = 0
      · subst k0
        cases hst0 : J.started with
        | false =>
          have hA := append_not (B := B) j d n J D hov hdn hst0 qa qm qc
          repeat' (first
            | refine Wc_seq ?_
            | refine thenQ_normal ?_
            | refine Wc_cond_t (h := ?_)
            | refine Wc_cond_f (h := ?_)
            | refine Wc_ret ?_
            | refine thenQ_ret ?_
            | refine Wc_block ?_
            | refine blkQ_normal ?_
            | refine blkQ_ret ?_
            | refine Wc_exit ?_
            | refine thenQ_exit ?_
            | refine blkQ_hit ?_
            | refine blkQ_miss rfl ?_
            | refine Wc_skip ?_
            | refine Wc_label ?_
            | refine loopQ_exit ?_
            | refine loopQ_ret ?_
            | refine loopQ_normal ?_
            | (refine Wc_region (id := 17) ?_; intro K hK; refine Wl_fieldAddr (k := ?_); refine Wl_load (k := ?_); (refine Wl_nil (hK _ _ ?_); clear hK K))
            | (refine Wc_region (id := 18) ?_; intro K hK; refine Wl_eql (k' := ?_); refine Wl_assign (k := ?_); (refine Wl_nil (hK _ _ ?_); clear hK K))
            | (refine Wc_region (id := 22) ?_; intro K hK; refine Wl_fieldAddr (k := ?_); refine Wl_load (k := ?_); refine Wl_move (k := ?_); refine Wl_fieldAddr (k := ?_); refine Wl_load (k := ?_); ((refine Wl_bytes_str (cs := qb) (hsrc := hqr.any.src) (hl := hql) (k := ?_))) <;> (((refine Wl_call (hs := rsectors_spec [] lapw J.number qb (by omega) (by omega) (by omega)) (k := ?_); rintro v A' ⟨sa, sc, rfl, rfl⟩; simp only [List.cons_append, List.nil_append])) <;> (refine Wl_assign (k := ?_); (refine Wl_nil (hK _ _ ?_); clear hK K))))
            | (refine Wc_region (id := 23) ?_; intro K hK; refine Wl_move (k := ?_); refine Wl_fieldAddr (k := ?_); refine Wl_load (k := ?_); ((refine Wl_call (hs := hA) (k := ?_); rintro v A' ⟨rfl, rfl⟩; simp only [List.cons_append, List.nil_append])) <;> (refine Wl_assign (k := ?_); (refine Wl_nil (hK _ _ ?_); clear hK K)))
            | (refine Wc_region (id := 32) ?_; intro K hK; refine Wl_move (k := ?_); refine Wl_not (k' := ?_); refine Wl_assign (k := ?_); (refine Wl_nil (hK _ _ ?_); clear hK K))
            | (refine Wc_region (id := 33) ?_; intro K hK; refine Wl_move (k := ?_); refine Wl_neq (k' := ?_); (refine Wl_nil (hK _ _ ?_); clear hK K))
            | (refine Wc_cond (ht := (fun ht => ?_)) (hf := (fun ht => ?_)) <;> (try simp at ht) <;> (try (exfalso; omega))))
          exact ⟨(j, J, D, lapw, la, ln, lc, wa, wc), hI.up, ⟨rfl, rfl, rfl, rfl, rfl, by rw [hst0]; rfl, rfl, rfl, rfl, rfl, trivial⟩, (by (repeat (first | exact Ent.refl _ | exact Ent.nil | refine Ent.take (by (repeat (first | exact Out.head | apply Out.tail)); (first | done | fail)) ?_ | refine Ent.drop1 ?_)))⟩
        | true =>
          obtain ⟨h, hh1, hhe⟩ := hhf hst0
          have hlpe := hlp hst0
          have hsl := secsL_len lapw J.number qb
          have hA := append_spec (B := B) j d n J D hok hov hdn hst0 h hhe hh1 hsz hrm (by omega) (pur True) qa qm qc qb hqr.any (by omega) (by omega) (by omega)
          by_cases hfit : J.at_ + partsN qb.length ≤ J.size
          · obtain ⟨D1, hAe, hC1, hS1⟩ := append_calm hcalm hsz hh1 qb hfit (by omega)
            subst hlpe
            obtain ⟨J1, hJ1⟩ : ∃ J1 : Jn, J1 = { J with at_ := J.at_ + partsN qb.length, number := J.number + 1 } := ⟨_, rfl⟩
            rw [hAe, ← hJ1] at hA
            have j1 : J1.size = n / 2 := by rw [hJ1]; exact hsz
            have j2 : J1.over = false := by rw [hJ1]; exact hov
            have j3 : J1.at_ = J.at_ + partsN qb.length := by rw [hJ1]
            have j4 : J1.number = J.number + 1 := by rw [hJ1]
            have j5 : J1.lap = J.lap := by rw [hJ1]
            have j6 : J1.half = (h : Int) := by rw [hJ1]; exact hhe
            have j7 : J1.started = true := by rw [hJ1]; exact hst0
            clear hJ1
            obtain ⟨b0, hb0⟩ : ∃ b0, h * (n / 2) = b0 := ⟨_, rfl⟩
            have hle := half_le (size := n / 2) hh1
            rw [hsz, hb0] at hS1
            rw [hb0] at hle
            have hmul : (h : Int) * ((n / 2 : Nat) : Int) = (b0 : Int) := by rw [← Int.natCast_mul, hb0]
            have hpp := partsN_pos qb.length
            refine Wc_ent (A' := [own wa n wc 1 (rowsS D.seen n) 9, DiskP d n D, cb oo [.int .i64 0, .int .i64 qi, .slice qa qm qc] 76, cb j (JC d J) 100, cb ro [.slice la ln lc, .int .i64 h, .int .i64 J.lap] 72, pur True]) (by rw [hhe]; exact Ent.refl _) ?_
            repeat' (first
              | refine Wc_seq ?_
              | refine thenQ_normal ?_
              | refine Wc_cond_t (h := ?_)
              | refine Wc_cond_f (h := ?_)
              | refine Wc_ret ?_
              | refine thenQ_ret ?_
              | refine Wc_block ?_
              | refine blkQ_normal ?_
              | refine blkQ_ret ?_
              | refine Wc_exit ?_
              | refine thenQ_exit ?_
              | refine blkQ_hit ?_
              | refine blkQ_miss rfl ?_
              | refine Wc_skip ?_
              | refine Wc_label ?_
              | refine loopQ_exit ?_
              | refine loopQ_ret ?_
              | refine loopQ_normal ?_
              | (refine Wc_region (id := 17) ?_; intro K hK; refine Wl_fieldAddr (k := ?_); refine Wl_load (k := ?_); (refine Wl_nil (hK _ _ ?_); clear hK K))
              | (refine Wc_region (id := 18) ?_; intro K hK; refine Wl_eql (k' := ?_); refine Wl_assign (k := ?_); (refine Wl_nil (hK _ _ ?_); clear hK K))
              | (refine Wc_region (id := 22) ?_; intro K hK; refine Wl_fieldAddr (k := ?_); refine Wl_load (k := ?_); refine Wl_move (k := ?_); refine Wl_fieldAddr (k := ?_); refine Wl_load (k := ?_); ((refine Wl_bytes_str (cs := qb) (hsrc := hqr.any.src) (hl := hql) (k := ?_))) <;> (((refine Wl_call (hs := rsectors_spec [] J.lap J.number qb (by omega) (by omega) (by omega)) (k := ?_); rintro v A' ⟨sa, sc, rfl, rfl⟩; simp only [List.cons_append, List.nil_append]; rw [hsl])) <;> (refine Wl_assign (k := ?_); (refine Wl_nil (hK _ _ ?_); clear hK K))))
              | (refine Wc_region (id := 23) ?_; intro K hK; refine Wl_move (k := ?_); refine Wl_fieldAddr (k := ?_); refine Wl_load (k := ?_); ((refine Wl_call (hs := hA) (k := ?_); rintro v A' ⟨rfl, rfl⟩; simp only [List.cons_append, List.nil_append])) <;> (refine Wl_assign (k := ?_); (refine Wl_nil (hK _ _ ?_); clear hK K)))
              | (refine Wc_region (id := 24) ?_; intro K hK; refine Wl_move (k := ?_); refine Wl_len_sl (k' := ?_); refine Wl_move (k := ?_); (refine Wl_nil (hK _ _ ?_); clear hK K))
              | (refine Wc_region (id := 32) ?_; intro K hK; refine Wl_move (k := ?_); refine Wl_not (k' := ?_); refine Wl_assign (k := ?_); (refine Wl_nil (hK _ _ ?_); clear hK K))
              | (refine Wc_region (id := 35) ?_; intro K hK; refine Wl_move (k := ?_); refine Wl_len_sl (k' := ?_); refine Wl_move (k := ?_); refine Wl_move (k := ?_); refine Wl_sub (k' := ?_); refine Wl_gtr (k' := ?_); refine Wl_assign (k := ?_); (refine Wl_nil (hK _ _ ?_); clear hK K))
              | (refine Wc_cond (ht := (fun ht => ?_)) (hf := (fun ht => ?_)) <;> (try simp at ht) <;> (try (exfalso; omega))))
            refine Wc_ownF (a := sa) (h := (fun hfs => ?_))
            obtain ⟨sp, rfl⟩ := hfs.some (by omega)
            refine Wc_take (y := own wa n wc 1 _ _) (k := (Wc_own (fun _ h => by omega) ?_))
            intro rr spr e1 e2 e3
            subst e1
            refine Wc_loop (α := Nat) (fun k => [(1, .slice (some pp) m c), (5, .pointer (some ⟨d, 0, none⟩)), (7, .int .i64 (n / 2 : Nat)), (8, .pointer (some ⟨j, 0, none⟩)), (11, .pointer (some ⟨ro, 0, none⟩)), (12, .bool true), (13, .int .i64 J.at_), (14, .int .i64 J.number), (15, .int .i64 i), (17, .slice (some ⟨rr, 0, none⟩) n wc), (18, .slice (some sp) (partsN qb.length) sc), (19, .int .i64 0), (97, .int .i64 (partsN qb.length)), (98, .int .i64 k)])
              (fun k => [cb rr (rowsS (updS D.seen (b0 + J.at_) k (secF J.lap J.number qb)) n ++ spr) 9, own (some sp) (partsN qb.length) sc 1 ((secsL J.lap J.number qb).map strV) 9, cb j (JC d J1) 100, DiskP d n D1, cb ro [.slice la ln lc, .int .i64 h, .int .i64 J.lap] 72, pur True])
              (fun k => k ≤ partsN qb.length) (fun k => partsN qb.length - k) 0 (Nat.zero_le _) ⟨rfl, rfl, rfl, rfl, rfl, rfl, rfl, rfl, rfl, rfl, rfl, rfl, rfl, rfl, trivial⟩ (by rw [updS_zero]; exact (by (repeat (first | exact Ent.refl _ | exact Ent.nil | refine Ent.take (by (repeat (first | exact Out.head | apply Out.tail)); (first | done | fail)) ?_ | refine Ent.drop1 ?_)))) ?_
            intro k G3 hk
            simp only [ov]
            by_cases hkP : k < partsN qb.length
            · have hwv : ((secsL J.lap J.number qb).map strV)[k]? = some (strV (secF J.lap J.number qb k)) := by rw [List.getElem?_map, secsL_get _ _ _ _ hkP]; rfl
              have hrl := rowsS_len (updS D.seen (b0 + J.at_) k (secF J.lap J.number qb)) n
              repeat' (first
                | refine Wc_seq ?_
                | refine thenQ_normal ?_
                | refine Wc_cond_t (h := ?_)
                | refine Wc_cond_f (h := ?_)
                | refine Wc_ret ?_
                | refine thenQ_ret ?_
                | refine Wc_block ?_
                | refine blkQ_normal ?_
                | refine blkQ_ret ?_
                | refine Wc_exit ?_
                | refine thenQ_exit ?_
                | refine blkQ_hit ?_
                | refine blkQ_miss rfl ?_
                | refine Wc_skip ?_
                | refine Wc_label ?_
                | refine loopQ_exit ?_
                | refine loopQ_ret ?_
                | refine loopQ_normal ?_
                | (refine Wc_region (id := 25) ?_; intro K hK; refine Wl_lss (k' := ?_); (refine Wl_nil (hK _ _ ?_); clear hK K))
                | (refine Wc_region (id := 26) ?_; intro K hK; refine Wl_move (k := ?_); refine Wl_assign (k := ?_); (refine Wl_nil (hK _ _ ?_); clear hK K))
                | (refine Wc_drawF (id := 27) (M := ([cb ro [.slice la ln lc, .int .i64 h, .int .i64 J.lap] 72, own (some sp) (partsN qb.length) sc 1 ((secsL J.lap J.number qb).map strV) 9])) (Ls := [103, 113]) (hp := (Pick.perm (by (repeat (first | exact Pick.nil | apply Pick.cons (by (repeat (first | exact Out.head | apply Out.tail)); (first | done | fail)))); (first | done | fail)))) (h := ?_); intro K hK; refine Wl_move (k := ?_); refine Wl_fieldAddr (k := ?_); refine Wl_loadF (k := ?_); refine Wl_move (k := ?_); ((refine Wl_mul (hf := fits_i64 (by rw [hmul]; omega)) (k' := ?_); rw [hmul])) <;> (refine Wl_move (k := ?_); refine Wl_add (k' := ?_); refine Wl_move (k := ?_); refine Wl_add (k' := ?_); refine Wl_move (k := ?_); refine Wl_move (k := ?_); ((refine Wl_index_any (k' := ?_))) <;> (((refine Wl_loadGF (v := strV (secF J.lap J.number qb k)) (j := k) (hq := by rw [Int.toNat_natCast, Nat.mul_one]) (hr := hfs.rd (by (repeat (first | exact Out.head | apply Out.tail)); (first | done | fail))) (hv := hwv) (k := ?_))) <;> (refine Wl_index_sl (k' := ?_); ((refine Wl_store (l' := rowsS (updS D.seen (b0 + J.at_) (k + 1) (secF J.lap J.number qb)) n ++ spr) (ho := rfl) (hs := rowsS_setAt D.seen n (b0 + J.at_) k (secF J.lap J.number qb) spr _ (by omega) (by omega)) (k := ?_))) <;> ((refine Wl_nil (hK _ _ ?_); clear hK K; try simp only [List.cons_append, List.nil_append]))))))
                | (refine Wc_region (id := 28) ?_; intro K hK; refine Wl_add (k' := ?_); refine Wl_move (k := ?_); (refine Wl_nil (hK _ _ ?_); clear hK K))
                | (refine Wc_cond (ht := (fun ht => ?_)) (hf := (fun ht => ?_)) <;> (try simp at ht) <;> (try (exfalso; omega))))
              exact ⟨k + 1, by omega, by omega, ⟨rfl, rfl, rfl, rfl, rfl, rfl, rfl, rfl, rfl, rfl, rfl, rfl, rfl, int_succ k, trivial⟩, (by (repeat (first | exact Ent.refl _ | exact Ent.nil | refine Ent.take (by (repeat (first | exact Out.head | apply Out.tail)); (first | done | fail)) ?_ | refine Ent.drop1 ?_)))⟩
            · obtain rfl : k = partsN qb.length := by omega
              repeat' (first
                | refine Wc_seq ?_
                | refine thenQ_normal ?_
                | refine Wc_cond_t (h := ?_)
                | refine Wc_cond_f (h := ?_)
                | refine Wc_ret ?_
                | refine thenQ_ret ?_
                | refine Wc_block ?_
                | refine blkQ_normal ?_
                | refine blkQ_ret ?_
                | refine Wc_exit ?_
                | refine thenQ_exit ?_
                | refine blkQ_hit ?_
                | refine blkQ_miss rfl ?_
                | refine Wc_skip ?_
                | refine Wc_label ?_
                | refine loopQ_exit ?_
                | refine loopQ_ret ?_
                | refine loopQ_normal ?_
                | (refine Wc_region (id := 25) ?_; intro K hK; refine Wl_lss (k' := ?_); (refine Wl_nil (hK _ _ ?_); clear hK K))
                | (refine Wc_region (id := 29) ?_; intro K hK; refine Wl_move (k := ?_); refine Wl_move (k := ?_); refine Wl_len_sl (k' := ?_); ((refine Wl_add (k' := ?_); rw [show (J.at_ : Int) + (partsN qb.length : Int) = ((J.at_ + partsN qb.length : Nat) : Int) by omega])) <;> (refine Wl_move (k := ?_); refine Wl_add (k' := ?_); refine Wl_assign (k := ?_); refine Wl_assign (k := ?_); (refine Wl_nil (hK _ _ ?_); clear hK K)))
                | (refine Wc_region (id := 30) ?_; intro K hK; refine Wl_move (k := ?_); refine Wl_neq (k' := ?_); (refine Wl_nil (hK _ _ ?_); clear hK K))
                | (refine Wc_cond (ht := (fun ht => ?_)) (hf := (fun ht => ?_)) <;> (try simp at ht) <;> (try (exfalso; omega))))
              refine ⟨(j, J1, D1, J.lap, la, ln, lc, some ⟨rr, 0, none⟩, wc), ⟨hC1.mono (by omega), j1, j2, by rw [j1, j3]; omega, by rw [j4]; omega, hlapb, fun _ => j5.symm, fun _ => ⟨h, hh1, j6⟩⟩, ⟨rfl, rfl, rfl, rfl, rfl, congrArg Value.bool j7.symm, by rw [j3]; rfl, by rw [j4]; exact int_succ J.number, rfl, rfl, trivial⟩, ?_⟩
              simp only [j6]
              rw [← hS1]
              refine Ent.trans (Ent.take (y := cb rr _ _) (by (repeat (first | exact Out.head | apply Out.tail)); (first | done | fail)) (Ent.refl _)) (Ent.trans (own_shut rr n wc 1 (rowsS D1.seen n) spr _ _ (by rw [rowsS_len]; omega) (by rw [← e3]; simp [rowsS_len])) (by (repeat (first | exact Ent.refl _ | exact Ent.nil | refine Ent.take (by (repeat (first | exact Out.head | apply Out.tail)); (first | done | fail)) ?_ | refine Ent.drop1 ?_))))
          · rw [append_calm5 qb (by omega) hrm] at hA
            repeat' (first
              | refine Wc_seq ?_
              | refine thenQ_normal ?_
              | refine Wc_cond_t (h := ?_)
              | refine Wc_cond_f (h := ?_)
              | refine Wc_ret ?_
              | refine thenQ_ret ?_
              | refine Wc_block ?_
              | refine blkQ_normal ?_
              | refine blkQ_ret ?_
              | refine Wc_exit ?_
              | refine thenQ_exit ?_
              | refine blkQ_hit ?_
              | refine blkQ_miss rfl ?_
              | refine Wc_skip ?_
              | refine Wc_label ?_
              | refine loopQ_exit ?_
              | refine loopQ_ret ?_
              | refine loopQ_normal ?_
              | (refine Wc_region (id := 17) ?_; intro K hK; refine Wl_fieldAddr (k := ?_); refine Wl_load (k := ?_); (refine Wl_nil (hK _ _ ?_); clear hK K))
              | (refine Wc_region (id := 18) ?_; intro K hK; refine Wl_eql (k' := ?_); refine Wl_assign (k := ?_); (refine Wl_nil (hK _ _ ?_); clear hK K))
              | (refine Wc_region (id := 22) ?_; intro K hK; refine Wl_fieldAddr (k := ?_); refine Wl_load (k := ?_); refine Wl_move (k := ?_); refine Wl_fieldAddr (k := ?_); refine Wl_load (k := ?_); ((refine Wl_bytes_str (cs := qb) (hsrc := hqr.any.src) (hl := hql) (k := ?_))) <;> (((refine Wl_call (hs := rsectors_spec [] lapw J.number qb (by omega) (by omega) (by omega)) (k := ?_); rintro v A' ⟨sa, sc, rfl, rfl⟩; simp only [List.cons_append, List.nil_append]; rw [hsl])) <;> (refine Wl_assign (k := ?_); (refine Wl_nil (hK _ _ ?_); clear hK K))))
              | (refine Wc_region (id := 23) ?_; intro K hK; refine Wl_move (k := ?_); refine Wl_fieldAddr (k := ?_); refine Wl_load (k := ?_); ((refine Wl_call (hs := hA) (k := ?_); rintro v A' ⟨rfl, rfl⟩; simp only [List.cons_append, List.nil_append])) <;> (refine Wl_assign (k := ?_); (refine Wl_nil (hK _ _ ?_); clear hK K)))
              | (refine Wc_region (id := 32) ?_; intro K hK; refine Wl_move (k := ?_); refine Wl_not (k' := ?_); refine Wl_assign (k := ?_); (refine Wl_nil (hK _ _ ?_); clear hK K))
              | (refine Wc_region (id := 35) ?_; intro K hK; refine Wl_move (k := ?_); refine Wl_len_sl (k' := ?_); refine Wl_move (k := ?_); refine Wl_move (k := ?_); refine Wl_sub (k' := ?_); refine Wl_gtr (k' := ?_); refine Wl_assign (k := ?_); (refine Wl_nil (hK _ _ ?_); clear hK K))
              | (refine Wc_region (id := 36) ?_; intro K hK; refine Wl_move (k := ?_); refine Wl_neq (k' := ?_); (refine Wl_nil (hK _ _ ?_); clear hK K))
              | (refine Wc_region (id := 37) ?_; intro K hK; refine Wl_assign (k := ?_); (refine Wl_nil (hK _ _ ?_); clear hK K))
              | (refine Wc_cond (ht := (fun ht => ?_)) (hf := (fun ht => ?_)) <;> (try simp at ht) <;> (try (exfalso; omega))))
            exact ⟨(j, J, D, lapw, la, ln, lc, wa, wc), hI.up, ⟨rfl, rfl, rfl, rfl, rfl, by rw [hst0]; rfl, rfl, rfl, rfl, rfl, trivial⟩, (by (repeat (first | exact Ent.refl _ | exact Ent.nil | refine Ent.take (by (repeat (first | exact Out.head | apply Out.tail)); (first | done | fail)) ?_ | refine Ent.drop1 ?_)))⟩
      by_cases k1 : qk = 1
      · subst k1
        have hnx := rnext_spec (B := B) wa n wc D.seen hn4.1 (by omega) (fun i hi => hcalm.len i hi)
        have htl := topN_lt D.seen (2 * (n / 2))
        obtain ⟨lap, hlap⟩ : ∃ lap, topN D.seen (2 * (n / 2)) + 1 = lap := ⟨_, rfl⟩
        have hlap2 : topN D.seen (2 * J.size) + 1 = lap := by rw [hsz]; exact hlap
        rw [hlap] at hnx
        have hsl := secsL_len lap 0 qb
        have hA := start_spec (B := B) j d n J D hok hov hdn hsz (pur True) qa qm qc qb hqr.any (by omega) (by omega) (by omega)
        have hpp := partsN_pos qb.length
        by_cases hfull : J.size < partsN qb.length ∨ 2147483647 < lap
        · rw [start_calm5 qb (by rw [hlap2]; exact hfull)] at hA
          repeat' (first
            | refine Wc_seq ?_
            | refine thenQ_normal ?_
            | refine Wc_cond_t (h := ?_)
            | refine Wc_cond_f (h := ?_)
            | refine Wc_ret ?_
            | refine thenQ_ret ?_
            | refine Wc_block ?_
            | refine blkQ_normal ?_
            | refine blkQ_ret ?_
            | refine Wc_exit ?_
            | refine thenQ_exit ?_
            | refine blkQ_hit ?_
            | refine blkQ_miss rfl ?_
            | refine Wc_skip ?_
            | refine Wc_label ?_
            | refine loopQ_exit ?_
            | refine loopQ_ret ?_
            | refine loopQ_normal ?_
            | (refine Wc_region (id := 17) ?_; intro K hK; refine Wl_fieldAddr (k := ?_); refine Wl_load (k := ?_); (refine Wl_nil (hK _ _ ?_); clear hK K))
            | (refine Wc_region (id := 18) ?_; intro K hK; refine Wl_eql (k' := ?_); refine Wl_assign (k := ?_); (refine Wl_nil (hK _ _ ?_); clear hK K))
            | (refine Wc_region (id := 19) ?_; intro K hK; refine Wl_eql (k' := ?_); refine Wl_assign (k := ?_); (refine Wl_nil (hK _ _ ?_); clear hK K))
            | (refine Wc_region (id := 38) ?_; intro K hK; refine Wl_move (k := ?_); ((refine Wl_call (hs := hnx) (k := ?_); rintro v A' ⟨rfl, rfl⟩; simp only [List.cons_append, List.nil_append])) <;> (refine Wl_assign (k := ?_); (refine Wl_nil (hK _ _ ?_); clear hK K)))
            | (refine Wc_region (id := 39) ?_; intro K hK; refine Wl_move (k := ?_); refine Wl_fieldAddr (k := ?_); refine Wl_load (k := ?_); ((refine Wl_bytes_str (cs := qb) (hsrc := hqr.any.src) (hl := hql) (k := ?_))) <;> (((refine Wl_call (hs := rsectors_spec [] lap 0 qb (by omega) (by omega) (by omega)) (k := ?_); rintro v A' ⟨sa, sc, rfl, rfl⟩; simp only [List.cons_append, List.nil_append]; rw [hsl])) <;> (refine Wl_assign (k := ?_); (refine Wl_nil (hK _ _ ?_); clear hK K))))
            | (refine Wc_region (id := 40) ?_; intro K hK; refine Wl_move (k := ?_); refine Wl_fieldAddr (k := ?_); refine Wl_load (k := ?_); ((refine Wl_call (hs := hA) (k := ?_); rintro v A' ⟨rfl, rfl⟩; simp only [List.cons_append, List.nil_append])) <;> (refine Wl_assign (k := ?_); (refine Wl_nil (hK _ _ ?_); clear hK K)))
            | (refine Wc_region (id := 41) ?_; intro K hK; refine Wl_move (k := ?_); refine Wl_len_sl (k' := ?_); refine Wl_move (k := ?_); refine Wl_gtr (k' := ?_); refine Wl_move (k := ?_); ((first | (refine Wl_guard (k := ?_); refine Wl_move (k := ?_)) | refine Wl_gno (k := ?_) | ((refine Wl_split (yes := (fun ht => ?_)) (no := (fun ht => ?_)) <;> (try simp at ht) <;> (try (exfalso; omega))) <;> (first | (refine Wl_guard (k := ?_); refine Wl_move (k := ?_)) | refine Wl_gno (k := ?_))))) <;> (((first | (refine Wl_guard (k := ?_); refine Wl_gtr (k' := ?_)) | refine Wl_gno (k := ?_) | ((refine Wl_split (yes := (fun ht => ?_)) (no := (fun ht => ?_)) <;> (try simp at ht) <;> (try (exfalso; omega))) <;> (first | (refine Wl_guard (k := ?_); refine Wl_gtr (k' := ?_)) | refine Wl_gno (k := ?_))))) <;> ((first | refine Wl_pick_t (k := ?_) | refine Wl_pick_f (k := ?_) | refine Wl_pick (k := ?_)); (refine Wl_nil (hK _ _ ?_); clear hK K))))
            | (refine Wc_region (id := 42) ?_; intro K hK; refine Wl_move (k := ?_); refine Wl_neq (k' := ?_); (refine Wl_nil (hK _ _ ?_); clear hK K))
            | (refine Wc_cond (ht := (fun ht => ?_)) (hf := (fun ht => ?_)) <;> (try simp at ht) <;> (try (exfalso; omega))))
          all_goals exact ⟨(j, J, D, lapw, la, ln, lc, wa, wc), hI.up, ⟨rfl, rfl, rfl, rfl, rfl, rfl, rfl, rfl, rfl, rfl, trivial⟩, (by (repeat (first | exact Ent.refl _ | exact Ent.nil | refine Ent.take (by (repeat (first | exact Out.head | apply Out.tail)); (first | done | fail)) ?_ | refine Ent.drop1 ?_)))⟩
        · obtain ⟨h, hh⟩ : ∃ h : Nat, (if J.half = 0 then 1 else 0) = h := ⟨_, rfl⟩
          have hh1 : h ≤ 1 := by rw [← hh]; split <;> omega
          obtain ⟨D1, hAe, hC1, hS1⟩ := start_calm (D := D) hcalm hsz hh qb (by omega) (by omega) (by omega)
          rw [hAe] at hA
          obtain ⟨b0, hb0⟩ : ∃ b0, h * (n / 2) = b0 := ⟨_, rfl⟩
          have hle := half_le (size := n / 2) hh1
          rw [hlap2, hsz, hb0] at hS1
          rw [hlap2] at hA
          rw [hb0] at hle
          have hmul : (h : Int) * ((n / 2 : Nat) : Int) = (b0 : Int) := by rw [← Int.natCast_mul, hb0]
          refine Wc_ent (A' := [own wa n wc 1 (rowsS D.seen n) 9, DiskP d n D, cb oo [.int .i64 1, .int .i64 qi, .slice qa qm qc] 76, cb j (JC d J) 100, cb ro [.slice la ln lc, .int .i64 J.half, .int .i64 lapw] 72, pur True]) (Ent.refl _) ?_
          have hz : J.half = 0 ∧ h = 1 ∨ ¬ J.half = 0 ∧ h = 0 := by
            by_cases hz : J.half = 0
            · left; rw [if_pos hz] at hh; exact ⟨hz, hh.symm⟩
            · right; rw [if_neg hz] at hh; exact ⟨hz, hh.symm⟩
          rcases hz with ⟨hz, hhv⟩ | ⟨hz, hhv⟩
          all_goals
            repeat' (first
              | refine Wc_seq ?_
              | refine thenQ_normal ?_
              | refine Wc_cond_t (h := ?_)
              | refine Wc_cond_f (h := ?_)
              | refine Wc_ret ?_
              | refine thenQ_ret ?_
              | refine Wc_block ?_
              | refine blkQ_normal ?_
              | refine blkQ_ret ?_
              | refine Wc_exit ?_
              | refine thenQ_exit ?_
              | refine blkQ_hit ?_
              | refine blkQ_miss rfl ?_
              | refine Wc_skip ?_
              | refine Wc_label ?_
              | refine loopQ_exit ?_
              | refine loopQ_ret ?_
              | refine loopQ_normal ?_
              | (refine Wc_region (id := 17) ?_; intro K hK; refine Wl_fieldAddr (k := ?_); refine Wl_load (k := ?_); (refine Wl_nil (hK _ _ ?_); clear hK K))
              | (refine Wc_region (id := 18) ?_; intro K hK; refine Wl_eql (k' := ?_); refine Wl_assign (k := ?_); (refine Wl_nil (hK _ _ ?_); clear hK K))
              | (refine Wc_region (id := 19) ?_; intro K hK; refine Wl_eql (k' := ?_); refine Wl_assign (k := ?_); (refine Wl_nil (hK _ _ ?_); clear hK K))
              | (refine Wc_region (id := 38) ?_; intro K hK; refine Wl_move (k := ?_); ((refine Wl_call (hs := hnx) (k := ?_); rintro v A' ⟨rfl, rfl⟩; simp only [List.cons_append, List.nil_append])) <;> (refine Wl_assign (k := ?_); (refine Wl_nil (hK _ _ ?_); clear hK K)))
              | (refine Wc_region (id := 39) ?_; intro K hK; refine Wl_move (k := ?_); refine Wl_fieldAddr (k := ?_); refine Wl_load (k := ?_); ((refine Wl_bytes_str (cs := qb) (hsrc := hqr.any.src) (hl := hql) (k := ?_))) <;> (((refine Wl_call (hs := rsectors_spec [] lap 0 qb (by omega) (by omega) (by omega)) (k := ?_); rintro v A' ⟨sa, sc, rfl, rfl⟩; simp only [List.cons_append, List.nil_append]; rw [hsl])) <;> (refine Wl_assign (k := ?_); (refine Wl_nil (hK _ _ ?_); clear hK K))))
              | (refine Wc_region (id := 40) ?_; intro K hK; refine Wl_move (k := ?_); refine Wl_fieldAddr (k := ?_); refine Wl_load (k := ?_); ((refine Wl_call (hs := hA) (k := ?_); rintro v A' ⟨rfl, rfl⟩; simp only [List.cons_append, List.nil_append])) <;> (refine Wl_assign (k := ?_); (refine Wl_nil (hK _ _ ?_); clear hK K)))
              | (refine Wc_region (id := 41) ?_; intro K hK; refine Wl_move (k := ?_); refine Wl_len_sl (k' := ?_); refine Wl_move (k := ?_); refine Wl_gtr (k' := ?_); refine Wl_move (k := ?_); ((first | (refine Wl_guard (k := ?_); refine Wl_move (k := ?_)) | refine Wl_gno (k := ?_) | ((refine Wl_split (yes := (fun ht => ?_)) (no := (fun ht => ?_)) <;> (try simp at ht) <;> (try (exfalso; omega))) <;> (first | (refine Wl_guard (k := ?_); refine Wl_move (k := ?_)) | refine Wl_gno (k := ?_))))) <;> (((first | (refine Wl_guard (k := ?_); refine Wl_gtr (k' := ?_)) | refine Wl_gno (k := ?_) | ((refine Wl_split (yes := (fun ht => ?_)) (no := (fun ht => ?_)) <;> (try simp at ht) <;> (try (exfalso; omega))) <;> (first | (refine Wl_guard (k := ?_); refine Wl_gtr (k' := ?_)) | refine Wl_gno (k := ?_))))) <;> ((first | refine Wl_pick_t (k := ?_) | refine Wl_pick_f (k := ?_) | refine Wl_pick (k := ?_)); (refine Wl_nil (hK _ _ ?_); clear hK K))))
              | (refine Wc_region (id := 44) ?_; intro K hK; refine Wl_assign (k := ?_); (refine Wl_nil (hK _ _ ?_); clear hK K))
              | (refine Wc_region (id := 45) ?_; intro K hK; refine Wl_fieldAddr (k := ?_); refine Wl_load (k := ?_); ((refine Wl_eql (k' := ?_); (first | rw [decide_eq_true hz] | rw [decide_eq_false hz]))) <;> ((refine Wl_nil (hK _ _ ?_); clear hK K)))
              | (refine Wc_region (id := 46) ?_; intro K hK; refine Wl_assign (k := ?_); (refine Wl_nil (hK _ _ ?_); clear hK K))
              | (refine Wc_region (id := 47) ?_; intro K hK; refine Wl_move (k := ?_); refine Wl_len_sl (k' := ?_); refine Wl_move (k := ?_); (refine Wl_nil (hK _ _ ?_); clear hK K))
              | (refine Wc_cond (ht := (fun ht => ?_)) (hf := (fun ht => ?_)) <;> (try simp at ht) <;> (try (exfalso; omega))))
            refine Wc_ownF (a := sa) (h := (fun hfs => ?_))
            obtain ⟨sp, rfl⟩ := hfs.some (by omega)
            refine Wc_take (y := own wa n wc 1 _ _) (k := (Wc_own (fun _ h => by omega) ?_))
            intro rr spr e1 e2 e3
            subst e1
            refine Wc_loop (α := Nat) (fun k => [(1, .slice (some pp) m c), (5, .pointer (some ⟨d, 0, none⟩)), (7, .int .i64 (n / 2 : Nat)), (8, .pointer (some ⟨j, 0, none⟩)), (11, .pointer (some ⟨ro, 0, none⟩)), (15, .int .i64 i), (17, .slice (some ⟨rr, 0, none⟩) n wc), (21, .int .i64 lap), (22, .slice (some sp) (partsN qb.length) sc), (23, .int .i64 0), (24, .int .i64 h), (163, .int .i64 (partsN qb.length)), (164, .int .i64 k)])
              (fun k => [cb rr (rowsS (updS D.seen b0 k (secF lap 0 qb)) n ++ spr) 9, own (some sp) (partsN qb.length) sc 1 ((secsL lap 0 qb).map strV) 9, cb j (JC d { J with half := h, at_ := partsN qb.length, lap := lap, number := 1, started := true }) 100, DiskP d n D1, cb ro [.slice la ln lc, .int .i64 J.half, .int .i64 lapw] 72, pur True])
              (fun k => k ≤ partsN qb.length) (fun k => partsN qb.length - k) 0 (Nat.zero_le _) ⟨rfl, rfl, rfl, rfl, rfl, rfl, rfl, rfl, rfl, rfl, by rw [hhv]; rfl, rfl, rfl, trivial⟩ (by rw [updS_zero]; exact (by (repeat (first | exact Ent.refl _ | exact Ent.nil | refine Ent.take (by (repeat (first | exact Out.head | apply Out.tail)); (first | done | fail)) ?_ | refine Ent.drop1 ?_)))) ?_
            intro k G3 hk
            simp only [ov]
            by_cases hkP : k < partsN qb.length
            · have hwv : ((secsL lap 0 qb).map strV)[k]? = some (strV (secF lap 0 qb k)) := by rw [List.getElem?_map, secsL_get _ _ _ _ hkP]; rfl
              have hrl := rowsS_len (updS D.seen b0 k (secF lap 0 qb)) n
              repeat' (first
                | refine Wc_seq ?_
                | refine thenQ_normal ?_
                | refine Wc_cond_t (h := ?_)
                | refine Wc_cond_f (h := ?_)
                | refine Wc_ret ?_
                | refine thenQ_ret ?_
                | refine Wc_block ?_
                | refine blkQ_normal ?_
                | refine blkQ_ret ?_
                | refine Wc_exit ?_
                | refine thenQ_exit ?_
                | refine blkQ_hit ?_
                | refine blkQ_miss rfl ?_
                | refine Wc_skip ?_
                | refine Wc_label ?_
                | refine loopQ_exit ?_
                | refine loopQ_ret ?_
                | refine loopQ_normal ?_
                | (refine Wc_region (id := 48) ?_; intro K hK; refine Wl_lss (k' := ?_); (refine Wl_nil (hK _ _ ?_); clear hK K))
                | (refine Wc_region (id := 49) ?_; intro K hK; refine Wl_move (k := ?_); refine Wl_assign (k := ?_); (refine Wl_nil (hK _ _ ?_); clear hK K))
                | (refine Wc_region (id := 50) ?_; intro K hK; refine Wl_move (k := ?_); refine Wl_move (k := ?_); refine Wl_move (k := ?_); ((refine Wl_mul (hf := fits_i64 (by rw [hmul]; omega)) (k' := ?_); rw [hmul])) <;> (refine Wl_move (k := ?_); refine Wl_add (k' := ?_); refine Wl_move (k := ?_); refine Wl_move (k := ?_); ((refine Wl_index_any (k' := ?_))) <;> (((refine Wl_loadG (v := strV (secF lap 0 qb k)) (j := k) (hq := by rw [Int.toNat_natCast, Nat.mul_one]) (hr := hfs.rd (by (repeat (first | exact Out.head | apply Out.tail)); (first | done | fail))) (hv := hwv) (k := ?_))) <;> (refine Wl_index_sl (k' := ?_); ((refine Wl_store (l' := rowsS (updS D.seen b0 (k + 1) (secF lap 0 qb)) n ++ spr) (ho := rfl) (hs := rowsS_setAt D.seen n b0 k (secF lap 0 qb) spr _ (by omega) (by omega)) (k := ?_))) <;> ((refine Wl_nil (hK _ _ ?_); clear hK K))))))
                | (refine Wc_region (id := 51) ?_; intro K hK; refine Wl_add (k' := ?_); refine Wl_move (k := ?_); (refine Wl_nil (hK _ _ ?_); clear hK K))
                | (refine Wc_cond (ht := (fun ht => ?_)) (hf := (fun ht => ?_)) <;> (try simp at ht) <;> (try (exfalso; omega))))
              exact ⟨k + 1, by omega, by omega, ⟨rfl, rfl, rfl, rfl, rfl, rfl, rfl, rfl, rfl, rfl, rfl, rfl, int_succ k, trivial⟩, (by (repeat (first | exact Ent.refl _ | exact Ent.nil | refine Ent.take (by (repeat (first | exact Out.head | apply Out.tail)); (first | done | fail)) ?_ | refine Ent.drop1 ?_)))⟩
            · obtain rfl : k = partsN qb.length := by omega
              repeat' (first
                | refine Wc_seq ?_
                | refine thenQ_normal ?_
                | refine Wc_cond_t (h := ?_)
                | refine Wc_cond_f (h := ?_)
                | refine Wc_ret ?_
                | refine thenQ_ret ?_
                | refine Wc_block ?_
                | refine blkQ_normal ?_
                | refine blkQ_ret ?_
                | refine Wc_exit ?_
                | refine thenQ_exit ?_
                | refine blkQ_hit ?_
                | refine blkQ_miss rfl ?_
                | refine Wc_skip ?_
                | refine Wc_label ?_
                | refine loopQ_exit ?_
                | refine loopQ_ret ?_
                | refine loopQ_normal ?_
                | (refine Wc_region (id := 48) ?_; intro K hK; refine Wl_lss (k' := ?_); (refine Wl_nil (hK _ _ ?_); clear hK K))
                | (refine Wc_region (id := 52) ?_; intro K hK; refine Wl_move (k := ?_); refine Wl_move (k := ?_); refine Wl_build (k := ?_); refine Wl_storeR (ho' := rfl) (k := ?_); (refine Wl_nil (hK _ _ ?_); clear hK K))
                | (refine Wc_region (id := 53) ?_; intro K hK; refine Wl_move (k := ?_); refine Wl_len_sl (k' := ?_); refine Wl_assign (k := ?_); refine Wl_assign (k := ?_); refine Wl_assign (k := ?_); (refine Wl_nil (hK _ _ ?_); clear hK K))
                | (refine Wc_region (id := 54) ?_; intro K hK; refine Wl_move (k := ?_); refine Wl_neq (k' := ?_); (refine Wl_nil (hK _ _ ?_); clear hK K))
                | (refine Wc_cond (ht := (fun ht => ?_)) (hf := (fun ht => ?_)) <;> (try simp at ht) <;> (try (exfalso; omega))))
              refine ⟨(j, { J with half := h, at_ := partsN qb.length, lap := lap, number := 1, started := true }, D1, lap, none, 0, 0, some ⟨rr, 0, none⟩, wc), ⟨hC1.mono (by omega), hsz, hov, by simp only; omega, by simp only; omega, by simp only; omega, fun _ => rfl, fun _ => ⟨_, hh1, rfl⟩⟩, ⟨rfl, rfl, rfl, rfl, rfl, rfl, rfl, rfl, rfl, rfl, trivial⟩, ?_⟩
              simp only
              rw [← hS1]
              refine Ent.trans (Ent.take (y := cb rr _ _) (by (repeat (first | exact Out.head | apply Out.tail)); (first | done | fail)) (Ent.refl _)) (Ent.trans (own_shut rr n wc 1 (rowsS D1.seen n) spr _ _ (by rw [rowsS_len]; omega) (by rw [← e3]; simp [rowsS_len])) (by (repeat (first | exact Ent.refl _ | exact Ent.nil | refine Ent.take (by (repeat (first | exact Out.head | apply Out.tail)); (first | done | fail)) ?_ | refine Ent.drop1 ?_))))
      refine Wc_ent (A' := [own wa n wc 1 (rowsS D.seen n) 9, DiskP d n D, cb oo [.int .i64 qk, .int .i64 qi, .slice qa qm qc] 76, cb j (JC d J) 100, cb ro [.slice la ln lc, .int .i64 J.half, .int .i64 lapw] 72, pur True]) (Ent.refl _) ?_
      have hx := and63 qi
      obtain ⟨x, hxe⟩ : ∃ x, (bitV .and .i64 qi 63).toNat = x := ⟨_, rfl⟩
      rw [hxe] at hx
      have hxn : ((x : Nat) : Int).tmod (n : Int) = ((x % n : Nat) : Int) := by
        rw [Int.tmod_eq_emod_of_nonneg (Int.natCast_nonneg _)]; rfl
      obtain ⟨kk, hkk⟩ : ∃ kk, x % n = kk := ⟨_, rfl⟩
      have hkn : kk < n := by rw [← hkk]; exact Nat.mod_lt _ (by omega)
      rw [hkk] at hxn
      have hput := fun bs hb => hcalm.put kk bs hkn hb (by omega)
      have hDl := hcalm.len kk hkn
      have hDs := bytes_size (D.seen kk)
      have hDget : ∀ (spr : List Value) (off : Nat), off = kk → (rowsS D.seen n ++ spr)[off]? = some (strV (D.seen kk)) := fun spr off ho => by
        subst ho
        rw [List.getElem?_append_left (by rw [rowsS_len]; exact hkn)]
        unfold rowsS
        rw [List.getElem?_map, List.getElem?_map, List.getElem?_range hkn]; rfl
      have hDset : ∀ (spr : List Value) (bs : List UInt8) (off : Nat), off = kk → SetAt (rowsS D.seen n ++ spr) off (strV bs) (rowsS (updS D.seen kk 1 (fun _ => bs)) n ++ spr) := fun spr bs off ho => by
        have := rowsS_setAt D.seen n kk 0 (fun _ => bs) spr off (by omega) (by omega)
        rw [updS_zero] at this; exact this
      refine Wc_take (y := own wa n wc 1 _ _) (k := (Wc_own (fun _ h => by omega) ?_))
      intro rr spr e1 e2 e3
      subst e1
      have hshut : ∀ (D1 : Dk) (bs : List UInt8) (M : List Asn), D1.seen = updS D.seen kk 1 (fun _ => bs) → Ent (cb rr (rowsS (updS D.seen kk 1 (fun _ => bs)) n ++ spr) 9 :: M) (own (some ⟨rr, 0, none⟩) n wc 1 (rowsS D1.seen n) 9 :: M) := fun D1 bs M hs => by
        rw [hs]
        exact own_shut rr n wc 1 _ spr _ _ (by rw [rowsS_len]; omega) (by rw [← e3]; simp [rowsS_len])
      repeat' (first
        | (refine Wc_cutB (k := 6) (α := Dk × Option Addr × Nat) (fun x => [(1, .slice (some pp) m c), (5, .pointer (some ⟨d, 0, none⟩)), (7, .int .i64 (n / 2 : Nat)), (11, .pointer (some ⟨ro, 0, none⟩)), (15, .int .i64 i), (17, .slice x.2.1 n x.2.2)]) (fun x => [own x.2.1 n x.2.2 1 (rowsS x.1.seen n) 9, DiskP d n x.1, cb ro [.slice la ln lc, .int .i64 J.half, .int .i64 lapw] 72, pur True]) (fun x => Calm n (100 * i + 50) x.1) ?_ ?_)
        | refine Wc_seq ?_
        | refine thenQ_normal ?_
        | refine Wc_cond_t (h := ?_)
        | refine Wc_cond_f (h := ?_)
        | refine Wc_ret ?_
        | refine thenQ_ret ?_
        | refine Wc_block ?_
        | refine blkQ_normal ?_
        | refine blkQ_ret ?_
        | refine Wc_exit ?_
        | refine thenQ_exit ?_
        | refine blkQ_hit ?_
        | refine blkQ_miss rfl ?_
        | refine Wc_skip ?_
        | refine Wc_label ?_
        | refine loopQ_exit ?_
        | refine loopQ_ret ?_
        | refine loopQ_normal ?_
        | (refine Wc_region (id := 17) ?_; intro K hK; refine Wl_fieldAddr (k := ?_); refine Wl_load (k := ?_); (refine Wl_nil (hK _ _ ?_); clear hK K))
        | (refine Wc_region (id := 18) ?_; intro K hK; refine Wl_eql (k' := ?_); refine Wl_assign (k := ?_); (refine Wl_nil (hK _ _ ?_); clear hK K))
        | (refine Wc_region (id := 19) ?_; intro K hK; refine Wl_eql (k' := ?_); refine Wl_assign (k := ?_); (refine Wl_nil (hK _ _ ?_); clear hK K))
        | (refine Wc_region (id := 20) ?_; intro K hK; refine Wl_eql (k' := ?_); refine Wl_assign (k := ?_); (refine Wl_nil (hK _ _ ?_); clear hK K))
        | (refine Wc_region (id := 21) ?_; intro K hK; refine Wl_eql (k' := ?_); refine Wl_assign (k := ?_); (refine Wl_nil (hK _ _ ?_); clear hK K))
        | (refine Wc_drawF (id := 56) (M := ([cb oo [.int .i64 qk, .int .i64 qi, .slice qa qm qc] 76])) (Ls := [187]) (hp := (Pick.perm (by (repeat (first | exact Pick.nil | apply Pick.cons (by (repeat (first | exact Out.head | apply Out.tail)); (first | done | fail)))); (first | done | fail)))) (h := ?_); intro K hK; refine Wl_fieldAddr (k := ?_); refine Wl_loadF (k := ?_); ((refine Wl_and (k' := ?_); rw [hx.1])) <;> (refine Wl_move (k := ?_); ((refine Wl_call (hs := len_ok B d n D) (k := ?_); rintro v A' ⟨rfl, rfl⟩; simp only [List.cons_append, List.nil_append])) <;> (((refine Wl_rem (k' := ?_); rw [hxn])) <;> (refine Wl_assign (k := ?_); (refine Wl_nil (hK _ _ ?_); clear hK K; try simp only [List.cons_append, List.nil_append])))))
        | (refine Wc_region (id := 57) ?_; intro K hK; refine Wl_fieldAddr (k := ?_); refine Wl_load (k := ?_); ((refine Wl_call (hs := full_spec B qa qm qc qb [] hqr (by omega)) (k := ?_); rintro v A' ⟨fa, fc, rfl, rfl⟩; simp only [List.cons_append, List.nil_append])) <;> (refine Wl_assign (k := ?_); (refine Wl_nil (hK _ _ ?_); clear hK K)))
        | (refine Wc_region (id := 58) ?_; intro K hK; refine Wl_fieldAddr (k := ?_); refine Wl_load (k := ?_); refine Wl_eql (k' := ?_); (refine Wl_nil (hK _ _ ?_); clear hK K))
        | (refine Wc_cond (ht := (fun ht => ?_)) (hf := (fun ht => ?_)) <;> (try simp at ht) <;> (try (exfalso; omega))))
      · repeat' (first
          | refine Wc_seq ?_
          | refine thenQ_normal ?_
          | refine Wc_cond_t (h := ?_)
          | refine Wc_cond_f (h := ?_)
          | refine Wc_ret ?_
          | refine thenQ_ret ?_
          | refine Wc_block ?_
          | refine blkQ_normal ?_
          | refine blkQ_ret ?_
          | refine Wc_exit ?_
          | refine thenQ_exit ?_
          | refine blkQ_hit ?_
          | refine blkQ_miss rfl ?_
          | refine Wc_skip ?_
          | refine Wc_label ?_
          | refine loopQ_exit ?_
          | refine loopQ_ret ?_
          | refine loopQ_normal ?_
          | (refine Wc_region (id := 61) ?_; intro K hK; refine Wl_move (k := ?_); refine Wl_move (k := ?_); refine Wl_move (k := ?_); ((refine Wl_call (hs := write_ok B d n kk D hok hdn (by rw [hcalm.fuse]; decide) hkn fa fc (fullL qb) [own fa 64 fc 1 ((fullL qb).map byteV) 5] (fullL_length _) (src_own (by simp [fullL_length]))) (k := ?_); rintro v A' ⟨rfl, rfl⟩; simp only [List.cons_append, List.nil_append])) <;> (refine Wl_neq (k' := ?_); refine Wl_move (k := ?_); ((first | (refine Wl_guard (k := ?_); refine Wl_move (k := ?_)) | refine Wl_gno (k := ?_) | ((refine Wl_split (yes := (fun ht => ?_)) (no := (fun ht => ?_)) <;> (try simp at ht) <;> (try (exfalso; omega))) <;> (first | (refine Wl_guard (k := ?_); refine Wl_move (k := ?_)) | refine Wl_gno (k := ?_))))) <;> (((first | (refine Wl_guard (k := ?_); (refine Wl_call (hs := sync_ok B d n (D.put kk (fullL qb)) (hput (fullL qb) (fullL_length _)).1 (hput (fullL qb) (fullL_length _)).2.1 (by rw [(hput (fullL qb) (fullL_length _)).2.2.1]; decide)) (k := ?_); rintro v A' ⟨rfl, rfl⟩; simp only [List.cons_append, List.nil_append])) | refine Wl_gno (k := ?_) | ((refine Wl_split (yes := (fun ht => ?_)) (no := (fun ht => ?_)) <;> (try simp at ht) <;> (try (exfalso; omega))) <;> (first | (refine Wl_guard (k := ?_); (refine Wl_call (hs := sync_ok B d n (D.put kk (fullL qb)) (hput (fullL qb) (fullL_length _)).1 (hput (fullL qb) (fullL_length _)).2.1 (by rw [(hput (fullL qb) (fullL_length _)).2.2.1]; decide)) (k := ?_); rintro v A' ⟨rfl, rfl⟩; simp only [List.cons_append, List.nil_append])) | refine Wl_gno (k := ?_))))) <;> (((first | (refine Wl_guard (k := ?_); refine Wl_neq (k' := ?_)) | refine Wl_gno (k := ?_) | ((refine Wl_split (yes := (fun ht => ?_)) (no := (fun ht => ?_)) <;> (try simp at ht) <;> (try (exfalso; omega))) <;> (first | (refine Wl_guard (k := ?_); refine Wl_neq (k' := ?_)) | refine Wl_gno (k := ?_))))) <;> ((first | refine Wl_pick_t (k := ?_) | refine Wl_pick_f (k := ?_) | refine Wl_pick (k := ?_)); (refine Wl_nil (hK _ _ ?_); clear hK K))))))
          | (refine Wc_region (id := 63) ?_; intro K hK; refine Wl_move (k := ?_); refine Wl_move (k := ?_); refine Wl_move (k := ?_); ((refine Wl_bytes_str (cs := fullL qb) (hsrc := src_out (by (repeat (first | exact Out.head | apply Out.tail)); (first | done | fail)) (by simp [fullL_length])) (hl := fullL_length qb) (k := ?_))) <;> (refine Wl_index_sl (k' := ?_); ((refine Wl_store (l' := rowsS (updS D.seen kk 1 (fun _ => fullL qb)) n ++ spr) (ho := rfl) (hs := hDset spr (fullL qb) _ (by omega)) (k := ?_))) <;> ((refine Wl_nil (hK _ _ ?_); clear hK K))))
          | (refine Wc_region (id := 64) ?_; intro K hK; refine Wl_assign (k := ?_); (refine Wl_nil (hK _ _ ?_); clear hK K))
          | (refine Wc_cond (ht := (fun ht => ?_)) (hf := (fun ht => ?_)) <;> (try simp at ht) <;> (try (exfalso; omega))))
        exact ⟨((D.put kk (fullL qb)).sync, some ⟨rr, 0, none⟩, wc), (hput (fullL qb) (fullL_length _)).2.2.2.1.mono (by omega), ⟨rfl, rfl, rfl, rfl, rfl, rfl, trivial⟩, Ent.trans (Ent.take (y := cb rr _ _) (by (repeat (first | exact Out.head | apply Out.tail)); (first | done | fail)) (Ent.refl _)) (Ent.trans (hshut _ _ _ (hput (fullL qb) (fullL_length _)).2.2.2.2) (by (repeat (first | exact Ent.refl _ | exact Ent.nil | refine Ent.take (by (repeat (first | exact Out.head | apply Out.tail)); (first | done | fail)) ?_ | refine Ent.drop1 ?_))))⟩
      · have hs64 : (bytesOf (D.seen kk)).size = 64 := by rw [hDs]; exact hDl
        obtain ⟨y, hy⟩ : ∃ y, (D.seen kk)[x]? = some y := ⟨_, List.getElem?_eq_getElem (by omega)⟩
        obtain ⟨y2, hy2⟩ : ∃ y2 : UInt8, bitV .xor .u8 (y.toNat : Int) (IntKind.u8.wrap (qm : Int)) = (y2.toNat : Int) := xor_u8 _ _
        obtain ⟨t, htt⟩ : ∃ t, (D.seen kk).set x y2 = t := ⟨_, rfl⟩
        have htl : t.length = 64 := by rw [← htt, List.length_set]; exact hDl
        have hbs : ∀ (zs : List Value) (off : Nat), off = x → SetAt ((D.seen kk).map byteV ++ zs) off (byteV y2) (t.map byteV ++ zs) := fun zs off ho => by
          subst ho
          rw [← htt, List.map_set, ← List.set_append_left _ _ (by simp; omega)]
          exact SetAt.gen (by simp; omega)
        have hbg : ∀ (zs : List Value) (off : Nat), off = x → ((D.seen kk).map byteV ++ zs)[off]? = some (byteV y) := fun zs off ho => by
          subst ho; exact get_map hy zs
        have hts : ∀ (zs : List Value), ((t.map byteV ++ zs).drop 0).take (64 * 1) = t.map byteV := fun zs => by
          rw [List.drop_zero]; exact take_map htl zs
        repeat' (first
          | refine Wc_seq ?_
          | refine thenQ_normal ?_
          | refine Wc_cond_t (h := ?_)
          | refine Wc_cond_f (h := ?_)
          | refine Wc_ret ?_
          | refine thenQ_ret ?_
          | refine Wc_block ?_
          | refine blkQ_normal ?_
          | refine blkQ_ret ?_
          | refine Wc_exit ?_
          | refine thenQ_exit ?_
          | refine blkQ_hit ?_
          | refine blkQ_miss rfl ?_
          | refine Wc_skip ?_
          | refine Wc_label ?_
          | refine loopQ_exit ?_
          | refine loopQ_ret ?_
          | refine loopQ_normal ?_
          | (refine Wc_regionW (id := 59) ([1000000+202]) ?_; intro K hK; refine Wl_move (k := ?_); refine Wl_move (k := ?_); refine Wl_index_sl (k' := ?_); ((refine Wl_load (v := strV (D.seen kk)) (hv := hDget spr _ (by omega)) (k := ?_))) <;> (((refine Wl_str_bytes (s := bytesOf (D.seen kk)) (k := ?_); intro rb cap zs hc1 hc2; rw [hs64] at hc1 hc2 ⊢; rw [show (bytesOf (D.seen kk)).data.toList = D.seen kk from rfl])) <;> (refine Wl_assign (k := ?_); (refine Wl_nil (hK _ _ ?_); clear hK K))))
          | (refine Wc_draw (id := 60) (h := ?_); intro K hK; refine Wl_move (k := ?_); refine Wl_fieldAddr (k := ?_); refine Wl_load (k := ?_); ((refine Wl_and (k' := ?_); rw [hx.1])) <;> (refine Wl_index_sl (k' := ?_); ((refine Wl_load (v := byteV y) (hv := hbg zs _ (by omega)) (k := ?_))) <;> (refine Wl_fieldAddr (k := ?_); refine Wl_load (k := ?_); refine Wl_len_sl (k' := ?_); ((refine Wl_convW (k' := ?_))) <;> (((refine Wl_xor (k' := ?_); rw [hy2])) <;> (refine Wl_index_sl (k' := ?_); ((refine Wl_store (v := byteV y2) (l' := t.map byteV ++ zs) (ho := rfl) (hs := hbs zs _ (by omega)) (hz := by simp; omega) (k := ?_))) <;> ((refine Wl_nil (hK _ _ ?_); clear hK K)))))))
          | (refine Wc_region (id := 61) ?_; intro K hK; refine Wl_move (k := ?_); refine Wl_move (k := ?_); refine Wl_move (k := ?_); ((refine Wl_call (hs := write_ok B d n kk D hok hdn (by rw [hcalm.fuse]; decide) hkn (some ⟨rb, 0, none⟩) cap t [pt rb (.cells (t.map byteV ++ zs).toArray 5 (cap, cap + 1))] htl (src_sl (b := rb) (by (repeat (first | exact Rd.head | exact Rd.base (by assumption) | apply Rd.tail)); (first | done | fail)) (by simp; omega) (hts zs))) (k := ?_); rintro v A' ⟨rfl, rfl⟩; simp only [List.cons_append, List.nil_append])) <;> (refine Wl_neq (k' := ?_); refine Wl_move (k := ?_); ((first | (refine Wl_guard (k := ?_); refine Wl_move (k := ?_)) | refine Wl_gno (k := ?_) | ((refine Wl_split (yes := (fun ht => ?_)) (no := (fun ht => ?_)) <;> (try simp at ht) <;> (try (exfalso; omega))) <;> (first | (refine Wl_guard (k := ?_); refine Wl_move (k := ?_)) | refine Wl_gno (k := ?_))))) <;> (((first | (refine Wl_guard (k := ?_); (refine Wl_call (hs := sync_ok B d n (D.put kk t) (hput t htl).1 (hput t htl).2.1 (by rw [(hput t htl).2.2.1]; decide)) (k := ?_); rintro v A' ⟨rfl, rfl⟩; simp only [List.cons_append, List.nil_append])) | refine Wl_gno (k := ?_) | ((refine Wl_split (yes := (fun ht => ?_)) (no := (fun ht => ?_)) <;> (try simp at ht) <;> (try (exfalso; omega))) <;> (first | (refine Wl_guard (k := ?_); (refine Wl_call (hs := sync_ok B d n (D.put kk t) (hput t htl).1 (hput t htl).2.1 (by rw [(hput t htl).2.2.1]; decide)) (k := ?_); rintro v A' ⟨rfl, rfl⟩; simp only [List.cons_append, List.nil_append])) | refine Wl_gno (k := ?_))))) <;> (((first | (refine Wl_guard (k := ?_); refine Wl_neq (k' := ?_)) | refine Wl_gno (k := ?_) | ((refine Wl_split (yes := (fun ht => ?_)) (no := (fun ht => ?_)) <;> (try simp at ht) <;> (try (exfalso; omega))) <;> (first | (refine Wl_guard (k := ?_); refine Wl_neq (k' := ?_)) | refine Wl_gno (k := ?_))))) <;> ((first | refine Wl_pick_t (k := ?_) | refine Wl_pick_f (k := ?_) | refine Wl_pick (k := ?_)); (refine Wl_nil (hK _ _ ?_); clear hK K))))))
          | (refine Wc_region (id := 63) ?_; intro K hK; refine Wl_move (k := ?_); refine Wl_move (k := ?_); refine Wl_move (k := ?_); ((refine Wl_bytes_str (cs := t) (hsrc := src_sl (b := rb) (by (repeat (first | exact Rd.head | exact Rd.base (by assumption) | apply Rd.tail)); (first | done | fail)) (by simp; omega) (hts zs)) (hl := htl) (k := ?_))) <;> (refine Wl_index_sl (k' := ?_); ((refine Wl_store (l' := rowsS (updS D.seen kk 1 (fun _ => t)) n ++ spr) (ho := rfl) (hs := hDset spr t _ (by omega)) (k := ?_))) <;> ((refine Wl_nil (hK _ _ ?_); clear hK K))))
          | (refine Wc_region (id := 64) ?_; intro K hK; refine Wl_assign (k := ?_); (refine Wl_nil (hK _ _ ?_); clear hK K))
          | (refine Wc_cond (ht := (fun ht => ?_)) (hf := (fun ht => ?_)) <;> (try simp at ht) <;> (try (exfalso; omega))))
        exact ⟨((D.put kk t).sync, some ⟨rr, 0, none⟩, wc), (hput t htl).2.2.2.1.mono (by omega), ⟨rfl, rfl, rfl, rfl, rfl, rfl, trivial⟩, Ent.trans (Ent.take (y := cb rr _ _) (by (repeat (first | exact Out.head | apply Out.tail)); (first | done | fail)) (Ent.refl _)) (Ent.trans (hshut _ _ _ (hput t htl).2.2.2.2) (by (repeat (first | exact Ent.refl _ | exact Ent.nil | refine Ent.take (by (repeat (first | exact Out.head | apply Out.tail)); (first | done | fail)) ?_ | refine Ent.drop1 ?_))))⟩
      · exact ⟨(D, some ⟨rr, 0, none⟩, wc), hcalm.mono (by omega), ⟨rfl, rfl, rfl, rfl, rfl, rfl, trivial⟩, Ent.trans (Ent.take (y := cb rr _ _) (by (repeat (first | exact Out.head | apply Out.tail)); (first | done | fail)) (Ent.refl _)) (Ent.trans (own_shut rr n wc 1 (rowsS D.seen n) spr _ _ (by rw [rowsS_len]; omega) (by rw [← e3])) (by (repeat (first | exact Ent.refl _ | exact Ent.nil | refine Ent.take (by (repeat (first | exact Out.head | apply Out.tail)); (first | done | fail)) ?_ | refine Ent.drop1 ?_))))⟩
      rintro ⟨D2, wa2, wc2⟩ G3 hC2
      simp only at hC2
      simp only [ov]
      have hlapO := openN_lap D2.seen (n / 2) 2
      have hOp := open_spec (B := B) d n D2 hC2.ok hn4.1 hC2.down
      have hRo := ropen_spec (B := B) wa2 n wc2 D2.seen hn4.1 (by omega) (fun i hi => hC2.len i hi)
      have hOl := openN_len D2.seen (n / 2) 2
      obtain ⟨O, hO⟩ : ∃ O, openN D2.seen (n / 2) 2 = O := ⟨_, rfl⟩
      rw [hO] at hOp hRo hlapO hOl
      repeat' (first
        | refine Wc_seq ?_
        | refine thenQ_normal ?_
        | refine Wc_cond_t (h := ?_)
        | refine Wc_cond_f (h := ?_)
        | refine Wc_ret ?_
        | refine thenQ_ret ?_
        | refine Wc_block ?_
        | refine blkQ_normal ?_
        | refine blkQ_ret ?_
        | refine Wc_exit ?_
        | refine thenQ_exit ?_
        | refine blkQ_hit ?_
        | refine blkQ_miss rfl ?_
        | refine Wc_skip ?_
        | refine Wc_label ?_
        | refine loopQ_exit ?_
        | refine loopQ_ret ?_
        | refine loopQ_normal ?_
        | (refine Wc_region (id := 65) ?_; intro K hK; refine Wl_assign (k := ?_); (refine Wl_nil (hK _ _ ?_); clear hK K))
        | (refine Wc_region (id := 66) ?_; intro K hK; refine Wl_move (k := ?_); ((refine Wl_call (hs := hOp) (k := ?_); rintro v A' ⟨j2, a3, c3, xs, hxs, rfl, rfl⟩; simp only [RecsP]; simp only [List.cons_append, List.nil_append]; have hxl : O.1.length = xs.length := by rw [← hxs]; simp [recsOf])) <;> (refine Wl_move (k := ?_); refine Wl_extract (k' := ?_); refine Wl_extract (k' := ?_); refine Wl_extract (k' := ?_); refine Wl_assign (k := ?_); refine Wl_assign (k := ?_); refine Wl_assign (k := ?_); (refine Wl_nil (hK _ _ ?_); clear hK K)))
        | (refine Wc_region (id := 67) ?_; intro K hK; refine Wl_move (k := ?_); ((refine Wl_call (hs := hRo) (k := ?_); rintro v A' ⟨a4, c4, rfl, rfl⟩; simp only [List.cons_append, List.nil_append]; rw [hxl])) <;> (refine Wl_storeR (ho' := rfl) (k := ?_); (refine Wl_nil (hK _ _ ?_); clear hK K)))
        | (refine Wc_region (id := 68) ?_; intro K hK; refine Wl_assign (k := ?_); refine Wl_assign (k := ?_); refine Wl_assign (k := ?_); (refine Wl_nil (hK _ _ ?_); clear hK K))
        | (refine Wc_drawF (id := 69) (M := ([cb ro [.slice a4 xs.length c4, .int .i64 O.2.2, .int .i64 O.2.1] 72])) (Ls := [239, 244]) (hp := (Pick.perm (by (repeat (first | exact Pick.nil | apply Pick.cons (by (repeat (first | exact Out.head | apply Out.tail)); (first | done | fail)))); (first | done | fail)))) (h := ?_); intro K hK; refine Wl_move (k := ?_); refine Wl_neq (k' := ?_); refine Wl_move (k := ?_); ((first | (refine Wl_guard (k := ?_); refine Wl_move (k := ?_)) | refine Wl_gno (k := ?_) | ((refine Wl_split (yes := (fun ht => ?_)) (no := (fun ht => ?_)) <;> (try simp at ht) <;> (try (exfalso; omega))) <;> (first | (refine Wl_guard (k := ?_); refine Wl_move (k := ?_)) | refine Wl_gno (k := ?_))))) <;> (((first | (refine Wl_guard (k := ?_); (refine Wl_call (hs := texts_spec a3 c3 xs (by omega)) (k := ?_); rintro v A' ⟨a5, c5, rfl, rfl⟩; simp only [List.cons_append, List.nil_append]; rw [hxs])) | refine Wl_gno (k := ?_) | ((refine Wl_split (yes := (fun ht => ?_)) (no := (fun ht => ?_)) <;> (try simp at ht) <;> (try (exfalso; omega))) <;> (first | (refine Wl_guard (k := ?_); (refine Wl_call (hs := texts_spec a3 c3 xs (by omega)) (k := ?_); rintro v A' ⟨a5, c5, rfl, rfl⟩; simp only [List.cons_append, List.nil_append]; rw [hxs])) | refine Wl_gno (k := ?_))))) <;> (((first | (refine Wl_guard (k := ?_); refine Wl_fieldAddr (k := ?_)) | refine Wl_gno (k := ?_) | ((refine Wl_split (yes := (fun ht => ?_)) (no := (fun ht => ?_)) <;> (try simp at ht) <;> (try (exfalso; omega))) <;> (first | (refine Wl_guard (k := ?_); refine Wl_fieldAddr (k := ?_)) | refine Wl_gno (k := ?_))))) <;> (((first | (refine Wl_guard (k := ?_); refine Wl_loadF (k := ?_)) | refine Wl_gno (k := ?_) | ((refine Wl_split (yes := (fun ht => ?_)) (no := (fun ht => ?_)) <;> (try simp at ht) <;> (try (exfalso; omega))) <;> (first | (refine Wl_guard (k := ?_); refine Wl_loadF (k := ?_)) | refine Wl_gno (k := ?_))))) <;> (((first | (refine Wl_guard (k := ?_); (refine Wl_call (hs := same13_spec a5 a4 xs.length c5 c4 O.1 hxl (by omega)) (k := ?_); rintro v A' ⟨rfl, rfl⟩; simp only [List.cons_append, List.nil_append])) | refine Wl_gno (k := ?_) | ((refine Wl_split (yes := (fun ht => ?_)) (no := (fun ht => ?_)) <;> (try simp at ht) <;> (try (exfalso; omega))) <;> (first | (refine Wl_guard (k := ?_); (refine Wl_call (hs := same13_spec a5 a4 xs.length c5 c4 O.1 hxl (by omega)) (k := ?_); rintro v A' ⟨rfl, rfl⟩; simp only [List.cons_append, List.nil_append])) | refine Wl_gno (k := ?_))))) <;> (((first | (refine Wl_guard (k := ?_); refine Wl_not (k' := ?_)) | refine Wl_gno (k := ?_) | ((refine Wl_split (yes := (fun ht => ?_)) (no := (fun ht => ?_)) <;> (try simp at ht) <;> (try (exfalso; omega))) <;> (first | (refine Wl_guard (k := ?_); refine Wl_not (k' := ?_)) | refine Wl_gno (k := ?_))))) <;> ((first | refine Wl_pick_t (k := ?_) | refine Wl_pick_f (k := ?_) | refine Wl_pick (k := ?_)); (refine Wl_nil (hK _ _ ?_); clear hK K; try simp only [List.cons_append, List.nil_append]))))))))
        | (refine Wc_cond (ht := (fun ht => ?_)) (hf := (fun ht => ?_)) <;> (try simp at ht) <;> (try (exfalso; omega))))
      exact ⟨(j2, ⟨n / 2, O.2.2, 0, 0, 0, false, false⟩, D2, O.2.1, a4, xs.length, c4, wa2, wc2), ⟨hC2.mono (by omega), rfl, rfl, Nat.zero_le _, Nat.zero_le _, by simp only; omega, fun h => (by cases h), fun h => (by cases h)⟩, ⟨rfl, rfl, rfl, rfl, rfl, rfl, rfl, rfl, rfl, rfl, trivial⟩, (by (repeat (first | exact Ent.refl _ | exact Ent.nil | refine Ent.take (by (repeat (first | exact Out.head | apply Out.tail)); (first | done | fail)) ?_ | refine Ent.drop1 ?_)))⟩
    rintro ⟨j', J', D', lap', la', ln', lc', wa', wc'⟩ G2 hI'
    simp only at hI'
    simp only [ov]
    have hsz' := hI'.sz; have hrm' := hI'.room
    have hpl' : D'.pend.length = 0 := by rw [hI'.calm.pend]; rfl
    have hrs := room_spec (B := B) j' d J' (by omega) hrm'
    cases hst' : J'.started with
    | true =>
      rw [if_pos ⟨hst', hI'.ov⟩] at hrs
      repeat' (first
        | refine Wc_seq ?_
        | refine thenQ_normal ?_
        | refine Wc_cond_t (h := ?_)
        | refine Wc_cond_f (h := ?_)
        | refine Wc_ret ?_
        | refine thenQ_ret ?_
        | refine Wc_block ?_
        | refine blkQ_normal ?_
        | refine blkQ_ret ?_
        | refine Wc_exit ?_
        | refine thenQ_exit ?_
        | refine blkQ_hit ?_
        | refine blkQ_miss rfl ?_
        | refine Wc_skip ?_
        | refine Wc_label ?_
        | refine loopQ_exit ?_
        | refine loopQ_ret ?_
        | refine loopQ_normal ?_
        | (refine Wc_region (id := 12) ?_; intro K hK; refine Wl_move (k := ?_); refine Wl_add (k' := ?_); refine Wl_assign (k := ?_); (refine Wl_nil (hK _ _ ?_); clear hK K))
        | (refine Wc_region (id := 71) ?_; intro K hK; refine Wl_assign (k := ?_); (refine Wl_nil (hK _ _ ?_); clear hK K))
        | (refine Wc_region (id := 72) ?_; intro K hK; refine Wl_move (k := ?_); (refine Wl_nil (hK _ _ ?_); clear hK K))
        | (refine Wc_region (id := 73) ?_; intro K hK; refine Wl_move (k := ?_); refine Wl_move (k := ?_); ((refine Wl_sub (k' := ?_); rw [show ((n / 2 : Nat) : Int) - (J'.at_ : Int) = ((J'.size - J'.at_ : Nat) : Int) by omega])) <;> (refine Wl_assign (k := ?_); (refine Wl_nil (hK _ _ ?_); clear hK K)))
        | (refine Wc_region (id := 74) ?_; intro K hK; refine Wl_move (k := ?_); ((refine Wl_call (hs := sectors_spec d n D' hI'.calm.ok hI'.calm.down (by omega)) (k := ?_); rintro v A' ⟨a3, c3, rfl, rfl⟩; simp only [List.cons_append, List.nil_append])) <;> (refine Wl_move (k := ?_); ((refine Wl_call (hs := same13_spec a3 wa' n c3 wc' ((List.range n).map D'.seen) (by simp) (by omega)) (k := ?_); rintro v A' ⟨rfl, rfl⟩; simp only [List.cons_append, List.nil_append])) <;> (refine Wl_not (k' := ?_); refine Wl_move (k := ?_); ((first | (refine Wl_guard (k := ?_); refine Wl_move (k := ?_)) | refine Wl_gno (k := ?_) | ((refine Wl_split (yes := (fun ht => ?_)) (no := (fun ht => ?_)) <;> (try simp at ht) <;> (try (exfalso; omega))) <;> (first | (refine Wl_guard (k := ?_); refine Wl_move (k := ?_)) | refine Wl_gno (k := ?_))))) <;> (((first | (refine Wl_guard (k := ?_); (refine Wl_call (hs := hrs) (k := ?_); rintro v A' ⟨rfl, rfl⟩; simp only [List.cons_append, List.nil_append])) | refine Wl_gno (k := ?_) | ((refine Wl_split (yes := (fun ht => ?_)) (no := (fun ht => ?_)) <;> (try simp at ht) <;> (try (exfalso; omega))) <;> (first | (refine Wl_guard (k := ?_); (refine Wl_call (hs := hrs) (k := ?_); rintro v A' ⟨rfl, rfl⟩; simp only [List.cons_append, List.nil_append])) | refine Wl_gno (k := ?_))))) <;> (((first | (refine Wl_guard (k := ?_); refine Wl_move (k := ?_)) | refine Wl_gno (k := ?_) | ((refine Wl_split (yes := (fun ht => ?_)) (no := (fun ht => ?_)) <;> (try simp at ht) <;> (try (exfalso; omega))) <;> (first | (refine Wl_guard (k := ?_); refine Wl_move (k := ?_)) | refine Wl_gno (k := ?_))))) <;> (((first | (refine Wl_guard (k := ?_); (refine Wl_neq (k' := ?_); rw [decide_eq_false (not_not_intro rfl)])) | refine Wl_gno (k := ?_) | ((refine Wl_split (yes := (fun ht => ?_)) (no := (fun ht => ?_)) <;> (try simp at ht) <;> (try (exfalso; omega))) <;> (first | (refine Wl_guard (k := ?_); (refine Wl_neq (k' := ?_); rw [decide_eq_false (not_not_intro rfl)])) | refine Wl_gno (k := ?_))))) <;> ((first | refine Wl_pick_t (k := ?_) | refine Wl_pick_f (k := ?_) | refine Wl_pick (k := ?_)); refine Wl_move (k := ?_); ((first | (refine Wl_guard (k := ?_); refine Wl_move (k := ?_)) | refine Wl_gno (k := ?_) | ((refine Wl_split (yes := (fun ht => ?_)) (no := (fun ht => ?_)) <;> (try simp at ht) <;> (try (exfalso; omega))) <;> (first | (refine Wl_guard (k := ?_); refine Wl_move (k := ?_)) | refine Wl_gno (k := ?_))))) <;> (((first | (refine Wl_guard (k := ?_); (refine Wl_call (hs := pending_ok B d n D') (k := ?_); rintro v A' ⟨rfl, rfl⟩; simp only [List.cons_append, List.nil_append]; rw [hpl'])) | refine Wl_gno (k := ?_) | ((refine Wl_split (yes := (fun ht => ?_)) (no := (fun ht => ?_)) <;> (try simp at ht) <;> (try (exfalso; omega))) <;> (first | (refine Wl_guard (k := ?_); (refine Wl_call (hs := pending_ok B d n D') (k := ?_); rintro v A' ⟨rfl, rfl⟩; simp only [List.cons_append, List.nil_append]; rw [hpl'])) | refine Wl_gno (k := ?_))))) <;> (((first | (refine Wl_guard (k := ?_); refine Wl_neq (k' := ?_)) | refine Wl_gno (k := ?_) | ((refine Wl_split (yes := (fun ht => ?_)) (no := (fun ht => ?_)) <;> (try simp at ht) <;> (try (exfalso; omega))) <;> (first | (refine Wl_guard (k := ?_); refine Wl_neq (k' := ?_)) | refine Wl_gno (k := ?_))))) <;> ((first | refine Wl_pick_t (k := ?_) | refine Wl_pick_f (k := ?_) | refine Wl_pick (k := ?_)); (refine Wl_nil (hK _ _ ?_); clear hK K)))))))))))
        | (refine Wc_region (id := 75) ?_; intro K hK; refine Wl_assign (k := ?_); (refine Wl_nil (hK _ _ ?_); clear hK K))
        | (refine Wc_cond (ht := (fun ht => ?_)) (hf := (fun ht => ?_)) <;> (try simp at ht) <;> (try (exfalso; omega))))
      exact ⟨(i + 1, j', J', D', lap', la', ln', lc'), ⟨by simp only; omega, by simp only; omega, hI'⟩, by simp only; omega, ⟨rfl, rfl, rfl, rfl, rfl, by rw [hst']; rfl, rfl, rfl, int_succ i, trivial⟩, (by (repeat (first | exact Ent.refl _ | exact Ent.nil | refine Ent.take (by (repeat (first | exact Out.head | apply Out.tail)); (first | done | fail)) ?_ | refine Ent.drop1 ?_)))⟩
    | false =>
      rw [if_neg (by rw [hst']; simp)] at hrs
      repeat' (first
        | refine Wc_seq ?_
        | refine thenQ_normal ?_
        | refine Wc_cond_t (h := ?_)
        | refine Wc_cond_f (h := ?_)
        | refine Wc_ret ?_
        | refine thenQ_ret ?_
        | refine Wc_block ?_
        | refine blkQ_normal ?_
        | refine blkQ_ret ?_
        | refine Wc_exit ?_
        | refine thenQ_exit ?_
        | refine blkQ_hit ?_
        | refine blkQ_miss rfl ?_
        | refine Wc_skip ?_
        | refine Wc_label ?_
        | refine loopQ_exit ?_
        | refine loopQ_ret ?_
        | refine loopQ_normal ?_
        | (refine Wc_region (id := 12) ?_; intro K hK; refine Wl_move (k := ?_); refine Wl_add (k' := ?_); refine Wl_assign (k := ?_); (refine Wl_nil (hK _ _ ?_); clear hK K))
        | (refine Wc_region (id := 71) ?_; intro K hK; refine Wl_assign (k := ?_); (refine Wl_nil (hK _ _ ?_); clear hK K))
        | (refine Wc_region (id := 72) ?_; intro K hK; refine Wl_move (k := ?_); (refine Wl_nil (hK _ _ ?_); clear hK K))
        | (refine Wc_region (id := 73) ?_; intro K hK; refine Wl_move (k := ?_); refine Wl_move (k := ?_); refine Wl_sub (k' := ?_); refine Wl_assign (k := ?_); (refine Wl_nil (hK _ _ ?_); clear hK K))
        | (refine Wc_region (id := 74) ?_; intro K hK; refine Wl_move (k := ?_); ((refine Wl_call (hs := sectors_spec d n D' hI'.calm.ok hI'.calm.down (by omega)) (k := ?_); rintro v A' ⟨a3, c3, rfl, rfl⟩; simp only [List.cons_append, List.nil_append])) <;> (refine Wl_move (k := ?_); ((refine Wl_call (hs := same13_spec a3 wa' n c3 wc' ((List.range n).map D'.seen) (by simp) (by omega)) (k := ?_); rintro v A' ⟨rfl, rfl⟩; simp only [List.cons_append, List.nil_append])) <;> (refine Wl_not (k' := ?_); refine Wl_move (k := ?_); ((first | (refine Wl_guard (k := ?_); refine Wl_move (k := ?_)) | refine Wl_gno (k := ?_) | ((refine Wl_split (yes := (fun ht => ?_)) (no := (fun ht => ?_)) <;> (try simp at ht) <;> (try (exfalso; omega))) <;> (first | (refine Wl_guard (k := ?_); refine Wl_move (k := ?_)) | refine Wl_gno (k := ?_))))) <;> (((first | (refine Wl_guard (k := ?_); (refine Wl_call (hs := hrs) (k := ?_); rintro v A' ⟨rfl, rfl⟩; simp only [List.cons_append, List.nil_append])) | refine Wl_gno (k := ?_) | ((refine Wl_split (yes := (fun ht => ?_)) (no := (fun ht => ?_)) <;> (try simp at ht) <;> (try (exfalso; omega))) <;> (first | (refine Wl_guard (k := ?_); (refine Wl_call (hs := hrs) (k := ?_); rintro v A' ⟨rfl, rfl⟩; simp only [List.cons_append, List.nil_append])) | refine Wl_gno (k := ?_))))) <;> (((first | (refine Wl_guard (k := ?_); refine Wl_move (k := ?_)) | refine Wl_gno (k := ?_) | ((refine Wl_split (yes := (fun ht => ?_)) (no := (fun ht => ?_)) <;> (try simp at ht) <;> (try (exfalso; omega))) <;> (first | (refine Wl_guard (k := ?_); refine Wl_move (k := ?_)) | refine Wl_gno (k := ?_))))) <;> (((first | (refine Wl_guard (k := ?_); refine Wl_neq (k' := ?_)) | refine Wl_gno (k := ?_) | ((refine Wl_split (yes := (fun ht => ?_)) (no := (fun ht => ?_)) <;> (try simp at ht) <;> (try (exfalso; omega))) <;> (first | (refine Wl_guard (k := ?_); refine Wl_neq (k' := ?_)) | refine Wl_gno (k := ?_))))) <;> ((first | refine Wl_pick_t (k := ?_) | refine Wl_pick_f (k := ?_) | refine Wl_pick (k := ?_)); refine Wl_move (k := ?_); ((first | (refine Wl_guard (k := ?_); refine Wl_move (k := ?_)) | refine Wl_gno (k := ?_) | ((refine Wl_split (yes := (fun ht => ?_)) (no := (fun ht => ?_)) <;> (try simp at ht) <;> (try (exfalso; omega))) <;> (first | (refine Wl_guard (k := ?_); refine Wl_move (k := ?_)) | refine Wl_gno (k := ?_))))) <;> (((first | (refine Wl_guard (k := ?_); (refine Wl_call (hs := pending_ok B d n D') (k := ?_); rintro v A' ⟨rfl, rfl⟩; simp only [List.cons_append, List.nil_append]; rw [hpl'])) | refine Wl_gno (k := ?_) | ((refine Wl_split (yes := (fun ht => ?_)) (no := (fun ht => ?_)) <;> (try simp at ht) <;> (try (exfalso; omega))) <;> (first | (refine Wl_guard (k := ?_); (refine Wl_call (hs := pending_ok B d n D') (k := ?_); rintro v A' ⟨rfl, rfl⟩; simp only [List.cons_append, List.nil_append]; rw [hpl'])) | refine Wl_gno (k := ?_))))) <;> (((first | (refine Wl_guard (k := ?_); refine Wl_neq (k' := ?_)) | refine Wl_gno (k := ?_) | ((refine Wl_split (yes := (fun ht => ?_)) (no := (fun ht => ?_)) <;> (try simp at ht) <;> (try (exfalso; omega))) <;> (first | (refine Wl_guard (k := ?_); refine Wl_neq (k' := ?_)) | refine Wl_gno (k := ?_))))) <;> ((first | refine Wl_pick_t (k := ?_) | refine Wl_pick_f (k := ?_) | refine Wl_pick (k := ?_)); (refine Wl_nil (hK _ _ ?_); clear hK K)))))))))))
        | (refine Wc_region (id := 75) ?_; intro K hK; refine Wl_assign (k := ?_); (refine Wl_nil (hK _ _ ?_); clear hK K))
        | (refine Wc_cond (ht := (fun ht => ?_)) (hf := (fun ht => ?_)) <;> (try simp at ht) <;> (try (exfalso; omega))))
      exact ⟨(i + 1, j', J', D', lap', la', ln', lc'), ⟨by simp only; omega, by simp only; omega, hI'⟩, by simp only; omega, ⟨rfl, rfl, rfl, rfl, rfl, by rw [hst']; rfl, rfl, rfl, int_succ i, trivial⟩, (by (repeat (first | exact Ent.refl _ | exact Ent.nil | refine Ent.take (by (repeat (first | exact Out.head | apply Out.tail)); (first | done | fail)) ?_ | refine Ent.drop1 ?_)))⟩
  · repeat' (first
      | refine Wc_seq ?_
      | refine thenQ_normal ?_
      | refine Wc_cond_t (h := ?_)
      | refine Wc_cond_f (h := ?_)
      | refine Wc_ret ?_
      | refine thenQ_ret ?_
      | refine Wc_block ?_
      | refine blkQ_normal ?_
      | refine blkQ_ret ?_
      | refine Wc_exit ?_
      | refine thenQ_exit ?_
      | refine blkQ_hit ?_
      | refine blkQ_miss rfl ?_
      | refine Wc_skip ?_
      | refine Wc_label ?_
      | refine loopQ_exit ?_
      | refine loopQ_ret ?_
      | refine loopQ_normal ?_
      | (refine Wc_region (id := 11) ?_; intro K hK; refine Wl_move (k := ?_); refine Wl_move (k := ?_); refine Wl_len_sl (k' := ?_); refine Wl_lss (k' := ?_); refine Wl_move (k := ?_); ((first | (refine Wl_guard (k := ?_); refine Wl_move (k := ?_)) | refine Wl_gno (k := ?_) | ((refine Wl_split (yes := (fun ht => ?_)) (no := (fun ht => ?_)) <;> (try simp at ht) <;> (try (exfalso; omega))) <;> (first | (refine Wl_guard (k := ?_); refine Wl_move (k := ?_)) | refine Wl_gno (k := ?_))))) <;> (((first | (refine Wl_guard (k := ?_); refine Wl_lss (k' := ?_)) | refine Wl_gno (k := ?_) | ((refine Wl_split (yes := (fun ht => ?_)) (no := (fun ht => ?_)) <;> (try simp at ht) <;> (try (exfalso; omega))) <;> (first | (refine Wl_guard (k := ?_); refine Wl_lss (k' := ?_)) | refine Wl_gno (k := ?_))))) <;> ((first | refine Wl_pick_t (k := ?_) | refine Wl_pick_f (k := ?_) | refine Wl_pick (k := ?_)); (refine Wl_nil (hK _ _ ?_); clear hK K))))
      | (refine Wc_region (id := 76) ?_; intro K hK; refine Wl_assign (k := ?_); (refine Wl_nil (hK _ _ ?_); clear hK K))
      | (refine Wc_cond (ht := (fun ht => ?_)) (hf := (fun ht => ?_)) <;> (try simp at ht) <;> (try (exfalso; omega))))
    all_goals exact ⟨Or.inr rfl, .bool true, [], Ent.nil, res1 rfl rfl, rfl, rfl⟩
end specs
end Go.Proofs.Ytdlpfeflndlpfaa
