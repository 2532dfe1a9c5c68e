/- Layer 24, the plain law of ControlPlans: regions that report what is true. Conditions: few operations. -/
import Derived.Test.YtepeljbgekgjcaaCtl5
import Derived.Test.YtepeljbgekgjcaaCalm13
set_option maxHeartbeats 8000000
set_option linter.unusedVariables false
set_option linter.unusedSimpArgs false
set_option maxRecDepth 100000
namespace Go.Proofs.Ytepeljbgekgjcaa
open Go Go.Sl
attribute [local irreducible] Go.Sl.Wl Go.Sl.Wc Go.Sl.thenQ Go.Sl.blkQ Go.Sl.loopQ Go.Sl.Fspec

/-- A journal on a calm disk, behind so many operations. -/
structure JK (n k : Nat) (J : Jn) (D : Dk) : Prop where
  calm : Calm n ((k * (n + 1) : Nat) : Int) D
  size : J.size = n / 2
  over : J.over = false
  started : J.started = true
  live : ∃ (hf : Nat) (recs : List (List UInt8)), J.half = (hf : Int) ∧ Live D.seen J.size hf J.lap J.at_ recs ∧ J.number = recs.length
  lap : J.lap ≤ k
  num : J.number ≤ k
theorem JK.n {n k : Nat} {J : Jn} {D : Dk} (h : JK n k J D) : 1 ≤ n ∧ n ≤ 4096 := h.calm.ok.n
theorem JK.bound {n k : Nat} (hn : n ≤ 4096) (hk : k ≤ 1000) : k * (n + 1) ≤ 4097000 := by
  have : k * (n + 1) ≤ 1000 * 4097 := Nat.mul_le_mul hk (by omega)
  omega
theorem JK.ready {n k : Nat} {J : Jn} {D : Dk} (h : JK n k J D) (hk : k ≤ 1000) : JReady J D n := by
  obtain ⟨hf, recs, h1, h2, h3⟩ := h.live
  have hn := h.n
  have hb := JK.bound hn.2 hk
  have hs := h.calm.steps
  refine ⟨h.calm.ok, h.calm.down, h.size, h.over, h.started, ?_, h2.room, by have := h.num; omega, ?_, by omega⟩
  · have := h2.half; omega
  · rw [h.calm.pend]; simp; omega
theorem JK.mono {n k k' : Nat} {J : Jn} {D : Dk} (h : JK n k J D) (hk : k ≤ k') : JK n k' J D :=
  ⟨h.calm.mono (by have := Nat.mul_le_mul_right (n + 1) hk; omega), h.size, h.over, h.started, h.live, by have := h.lap; omega, by have := h.num; omega⟩
theorem parts_few {m : Nat} (h : m ≤ 606) : partsN m ≤ 13 := by unfold partsN; omega
theorem JK.put {n k : Nat} {J : Jn} {D : Dk} (h : JK n k J D) (h32 : 32 ≤ n) (hk : k ≤ 1000) (rc : List UInt8) (hr : rc.length ≤ 606) : ∃ J' D', putV J D rc = (0, J', D') ∧ JK n (k + 1) J' D' := by
  obtain ⟨hf, recs, h1, h2, h3⟩ := h.live
  have hn := h.n
  have hb := JK.bound hn.2 hk
  have hp := parts_few hr
  have hsz := h.size
  have e1 : (k + 1) * (n + 1) = k * (n + 1) + n + 1 := by rw [Nat.add_mul]; omega
  unfold putV
  by_cases hc : J.size - J.at_ < partsN rc.length
  · rw [if_pos hc]
    have htop := h2.top
    obtain ⟨h', hh'⟩ : ∃ h' : Nat, (if J.half = 0 then 1 else 0) = h' := ⟨_, rfl⟩
    have hh1 : h' ≤ 1 := by rw [← hh']; split <;> omega
    have hlp := h.lap
    obtain ⟨D', hS, hcl, hseen⟩ := start_calm (h := h') h.calm hsz hh' rc (by omega) (by rw [htop]; omega) (by omega)
    have hL : Live D'.seen J.size h' (topN D.seen (2 * J.size) + 1) (partsN rc.length) [rc] :=
      Live.start hh1 (by omega) (by omega) (by rw [htop]; omega) (fun i => by rw [hseen]; unfold updS; simp only [Nat.add_zero])
    exact ⟨_, D', hS, ⟨hcl.mono (by omega), hsz, h.over, rfl, ⟨h', [rc], rfl, hL, rfl⟩, by show topN D.seen (2 * J.size) + 1 ≤ k + 1; omega, by show 1 ≤ k + 1; omega⟩⟩
  · rw [if_neg hc, show J.half.toNat = hf by omega]
    obtain ⟨D', hS, hcl, hseen⟩ := append_calm (h := hf) h.calm hsz h2.half rc (by have := h2.room; omega) (by omega)
    have hL := h2.append (r := rc) (S' := D'.seen) (by have := h2.room; omega) (fun i => by rw [hseen]; unfold updS; rw [h3])
    refine ⟨_, D', hS, ⟨hcl.mono (by omega), hsz, h.over, h.started, ⟨hf, recs ++ [rc], h1, hL, ?_⟩, by show J.lap ≤ k + 1; have := h.lap; omega, by show J.number + 1 ≤ k + 1; have := h.num; omega⟩⟩
    show J.number + 1 = (recs ++ [rc]).length
    rw [h3]; simp
/-- The first Start, on a new disk. -/
theorem JK.new {n : Nat} (h32 : 32 ≤ n) (hn : n ≤ 4096) (rc : List UInt8) (hr : rc.length ≤ 606) : ∃ J' D', startV ⟨n / 2, -1, 0, 0, 0, false, false⟩ (Dk.new n) rc = (0, J', D') ∧ JK n 1 J' D' := by
  have hp := parts_few hr
  have hz : ∀ i, i < 2 * (n / 2) → (Dk.new n).seen i = List.replicate 64 0 := fun i hi => seen_new n i (by omega)
  have htop := topN_zero hz
  obtain ⟨D', hS, hcl, hseen⟩ := start_calm (J := ⟨n / 2, -1, 0, 0, 0, false, false⟩) (h := 0) (Calm.new n (by omega)) rfl rfl rc (by show partsN rc.length ≤ n / 2; omega) (by show topN (Dk.new n).seen (2 * (n / 2)) + 1 ≤ _; rw [htop]; omega) (by omega)
  refine ⟨_, D', hS, ⟨hcl.mono (by omega), rfl, rfl, rfl, ⟨0, [rc], rfl, ?_, rfl⟩, by show topN (Dk.new n).seen (2 * (n / 2)) + 1 ≤ 1; omega, Nat.le_refl 1⟩⟩
  refine Live.start (by omega) (by show n / 2 < 65536; omega) (by show partsN rc.length ≤ n / 2; omega) (by show topN (Dk.new n).seen (2 * (n / 2)) + 1 < _; rw [htop]; omega) (fun i => ?_)
  rw [hseen]; unfold updS; simp only [Nat.add_zero]
theorem open_new {n : Nat} (h32 : 32 ≤ n) : openN (Dk.new n).seen (n / 2) 2 = ([], 0, -1) := openN_zero (fun i hi => seen_new n i (by omega)) (by omega)

/-- A controller that is up, behind so many operations. -/
structure CK (n k : Nat) (C : Ct) (J : Jn) (D : Dk) : Prop where
  ok : C.ok
  up : C.over = false
  jk : JK n k J D
theorem CK.mono {n k k' : Nat} {C : Ct} {J : Jn} {D : Dk} (h : CK n k C J D) (hk : k ≤ k') : CK n k' C J D := ⟨h.ok, h.up, h.jk.mono hk⟩
theorem enc_few {t : List Ep} (h : rightT t = true) {kind target : Nat} (hk : kind ≤ 4) (ht : target ≤ 4) : (encK t (kind : Int) (target : Int)).length ≤ 606 := by
  have := rightT_out h
  exact encK_len (fun e he => fair_enc (this.2.2.1 e he)) (by omega) (by omega) (by omega)
theorem CK.ask {n k : Nat} {C : Ct} {J : Jn} {D : Dk} (h : CK n k C J D) (h32 : 32 ≤ n) (hk : k ≤ 1000) (kind target : Int) :
    ∃ e C' J' D', askV C J D kind target = (e, C', J', D') ∧ CK n (k + 1) C' J' D' ∧ C'.table = C.table ∧ C'.known = C.known ∧ C'.regions = C.regions ∧
      ((e = 0 ∧ (C'.kind : Int) = kind ∧ (C'.target : Int) = target) ∨ (e ≠ 0 ∧ C' = C)) := by
  have hreg := h.ok.regs
  have same : ∀ e : Int, e ≠ 0 → ∃ e' C' J' D', (e, C, J, D) = (e', C', J', D') ∧ CK n (k + 1) C' J' D' ∧ C'.table = C.table ∧ C'.known = C.known ∧ C'.regions = C.regions ∧ ((e' = 0 ∧ (C'.kind : Int) = kind ∧ (C'.target : Int) = target) ∨ (e' ≠ 0 ∧ C' = C)) :=
    fun e he => ⟨e, C, J, D, rfl, h.mono (by omega), rfl, rfl, rfl, .inr ⟨he, rfl⟩⟩
  unfold askV
  rw [if_neg (by rw [h.up]; simp)]
  by_cases h2 : (kind ≠ 1 ∧ kind ≠ 2) ∨ target < 1 ∨ (C.regions : Int) < target
  · rw [if_pos h2]; exact same 1 (by omega)
  rw [if_neg h2]
  by_cases h3 : C.kind ≠ 0 ∧ kind ≠ 2
  · rw [if_pos h3]; exact same 4 (by omega)
  rw [if_neg h3]
  by_cases h4 : 64 ≤ C.table.length
  · rw [if_pos h4]; exact same 15 (by omega)
  rw [if_neg h4]
  obtain ⟨J', D', hp, hj⟩ := h.jk.put h32 hk (encK C.table (kind.toNat : Int) (target.toNat : Int)) (enc_few h.ok.right (by omega) (by omega))
  refine ⟨0, C.kept 0 C.table kind.toNat target.toNat, J', D', by unfold keepV; rw [hp], ⟨?_, ?_, hj⟩, rfl, rfl, rfl, .inl ⟨rfl, ?_, ?_⟩⟩
  · exact ⟨h.ok.right, h.ok.regs, by show kind.toNat ≤ 2; omega, by show target.toNat ≤ C.regions; omega, by show kind.toNat = 0 ↔ target.toNat = 0; omega, h.ok.mast⟩
  · exact h.up
  · show ((kind.toNat : Nat) : Int) = kind; omega
  · show ((target.toNat : Nat) : Int) = target; omega
theorem CK.ready_mast {n k : Nat} {C : Ct} {J : Jn} {D : Dk} (h : CK n k C J D) (hr : C.ready.2 = true) : C.ready.1.master = (C.target : Int) ∧ 1 ≤ C.target ∧ C.target ≤ C.regions := by
  have hp := h.ok.plan; have ht := h.ok.target
  unfold Ct.ready at hr ⊢
  by_cases h1 : C.kind = 1
  · rw [if_pos h1]; exact ⟨rfl, by omega, ht⟩
  · rw [if_neg h1] at hr ⊢
    by_cases h2 : C.kind = 2
    · rw [if_pos h2]; exact ⟨rfl, by omega, ht⟩
    · rw [if_neg h2] at hr; cases hr
/-- What a report comes to. -/
theorem CK.take {n k : Nat} {C : Ct} {J : Jn} {D : Dk} (h : CK n k C J D) (h32 : 32 ≤ n) (hk : k ≤ 1000) (kind from_ config : Int) (closed : Bool) (ep ix : Int) :
    ∃ b C' J' D', takeV C J D kind from_ config closed ep ix = (b, C', J', D') ∧ CK n (k + 1) C' J' D' ∧ C'.regions = C.regions ∧
      ((b = false ∧ C' = C) ∨ (b = true ∧ config = C.table.length ∧ (C' = C.told from_.toNat closed ep ix ∧ ((C.told from_.toNat closed ep ix).ready.2 = false ∨ rightT (C.table ++ [(C.told from_.toNat closed ep ix).ready.1]) = false) ∨
        ((C.told from_.toNat closed ep ix).ready.2 = true ∧ C' = ((C.told from_.toNat closed ep ix).kept 0 (C.table ++ [(C.told from_.toNat closed ep ix).ready.1]) 0 0).fresh)))) := by
  unfold takeV
  by_cases h1 : C.over = true ∨ kind ≠ 5 ∨ from_ < 1 ∨ (C.regions : Int) < from_ ∨ config ≠ C.table.length
  · rw [if_pos h1]; exact ⟨false, C, J, D, rfl, h.mono (by omega), rfl, .inl ⟨rfl, rfl⟩⟩
  rw [if_neg h1]
  have hcf : config = C.table.length := Classical.byContradiction fun e => h1 (.inr (.inr (.inr (.inr e))))
  have hk1 : CK n k (C.told from_.toNat closed ep ix) J D := ⟨h.ok.told _ _ _ _, h.up, h.jk⟩
  generalize hC1 : C.told from_.toNat closed ep ix = C1 at hk1 ⊢
  have htb : C1.table = C.table := by rw [← hC1]; rfl
  have hrg : C1.regions = C.regions := by rw [← hC1]; rfl
  unfold tookV
  cases hr : C1.ready.2 with
  | false => exact ⟨true, C1, J, D, by simp, hk1.mono (by omega), hrg, .inr ⟨rfl, hcf, .inl ⟨rfl, .inl rfl⟩⟩⟩
  | true =>
    rw [if_neg (by simp), htb]
    obtain ⟨hm1, hm2, hm3⟩ := hk1.ready_mast hr
    cases hR : rightT (C.table ++ [C1.ready.1]) with
    | false => exact ⟨true, C1, J, D, by simp, hk1.mono (by omega), hrg, .inr ⟨rfl, hcf, .inl ⟨rfl, .inr rfl⟩⟩⟩
    | true =>
      rw [if_pos rfl]
      obtain ⟨J', D', hp, hj⟩ := hk1.jk.put h32 hk (encK (C.table ++ [C1.ready.1]) ((0 : Nat) : Int) ((0 : Nat) : Int)) (enc_few hR (by omega) (by omega))
      refine ⟨true, _, J', D', ?_, ⟨?_, ?_, hj⟩, ?_, .inr ⟨rfl, hcf, .inr ⟨rfl, rfl⟩⟩⟩
      · unfold keepV; rw [hp]; simp
      · refine ⟨hR, by show 1 ≤ C1.regions ∧ C1.regions ≤ 4; exact hk1.ok.regs, by show 0 ≤ 2; omega, by show 0 ≤ C1.regions; omega, by show (0 : Nat) = 0 ↔ (0 : Nat) = 0; simp, fun e he => ?_⟩
        show e.master ≤ (C1.regions : Int)
        rcases List.mem_append.1 he with he | he
        · have := h.ok.mast e he; omega
        · simp at he; subst he; omega
      · exact hk1.up
      · exact hrg

/-! regions -/
structure Sm where
  config : Nat
  last : Nat
  closed : Bool
structure SimI (C : Ct) (s : Nat → Sm) : Prop where
  conf : ∀ r, 1 ≤ r → r ≤ C.regions → 1 ≤ (s r).config ∧ (s r).config ≤ C.table.length
  know : ∀ r, 1 ≤ r → r ≤ C.regions → (C.known r).closed = true → (s r).config = C.table.length ∧ (s r).closed = true ∧ ((s r).last : Int) = (C.known r).ix
  last : ∀ r, 1 ≤ r → r ≤ C.regions → (s r).last ≤ 500
def putS (s : Nat → Sm) (r : Nat) (x : Sm) : Nat → Sm := fun i => if i = r then x else s i
theorem SimI.put {C : Ct} {s : Nat → Sm} (h : SimI C s) {r : Nat} {x : Sm} (h1 : 1 ≤ x.config ∧ x.config ≤ C.table.length) (h2 : (C.known r).closed = true → x.config = C.table.length ∧ x.closed = true ∧ (x.last : Int) = (C.known r).ix) (h3 : x.last ≤ 500) : SimI C (putS s r x) := by
  refine ⟨fun i a b => ?_, fun i a b c => ?_, fun i a b => ?_⟩
  · unfold putS; split
    · exact h1
    · exact h.conf i a b
  · unfold putS; split
    · rename_i e; subst e; exact h2 c
    · exact h.know i a b c
  · unfold putS; split
    · exact h3
    · exact h.last i a b
/-- What must be of a new epoch. -/
structure Fits (C : Ct) (s : Nat → Sm) (e : Ep) : Prop where
  mast : 1 ≤ e.master ∧ e.master ≤ C.regions
  cut : e.cut = ((s e.master.toNat).last : Int)
  conf : (s e.master.toNat).config = C.table.length
  closed : (s e.master.toNat).closed = true
  plan : e.forced = false → e.cut = ((s C.mst).last : Int) ∧ (s C.mst).config = C.table.length ∧ (s C.mst).closed = true
theorem SimI.asked {C C' : Ct} {s : Nat → Sm} (h : SimI C s) (h1 : C'.table = C.table) (h2 : C'.known = C.known) (h3 : C'.regions = C.regions) : SimI C' s :=
  ⟨fun r a b => by rw [h1]; exact h.conf r a (by omega), fun r a b c => by rw [h1, h2] at *; exact h.know r a (by omega) c, fun r a b => h.last r a (by omega)⟩
theorem SimI.told {C : Ct} {s : Nat → Sm} (h : SimI C s) {r : Nat} (hcf : (s r).config = C.table.length) (ep : Int) : SimI (C.told r (s r).closed ep (s r).last) s := by
  refine ⟨h.conf, fun i a b c => ?_, h.last⟩
  simp only [Ct.told] at c ⊢
  by_cases hi : i = r
  · subst hi; rw [if_pos rfl] at c ⊢; exact ⟨hcf, c, rfl⟩
  · rw [if_neg hi] at c ⊢; exact h.know i a b c
theorem SimI.fits {n k : Nat} {C : Ct} {J : Jn} {D : Dk} {s : Nat → Sm} (hk : CK n k C J D) (h : SimI C s) (hr : C.ready.2 = true) : Fits C s C.ready.1 := by
  obtain ⟨m1, m2, m3⟩ := hk.ready_mast hr
  obtain ⟨q1, q2, q3⟩ := hk.ok.mst
  have hmt : C.ready.1.master.toNat = C.target := by omega
  unfold Ct.ready at hr
  by_cases h1 : C.kind = 1
  · rw [if_pos h1] at hr
    simp only [Bool.and_eq_true, Bool.or_eq_true, decide_eq_true_eq] at hr
    obtain ⟨hm, hr⟩ := hr
    obtain ⟨k1, k2, k3⟩ := h.know C.mst q2 q3 hm
    have hrd : C.ready.1 = ⟨C.target, (C.known C.mst).ix, false⟩ := by unfold Ct.ready; rw [if_pos h1]
    have hcut : C.ready.1.cut = (C.known C.mst).ix := by rw [hrd]
    rcases hr with hr | ⟨hr1, hr2⟩
    · rw [← hr] at k1 k2 k3
      exact ⟨by omega, by rw [hmt, hcut, k3, hr], by rw [hmt]; exact k1, by rw [hmt]; exact k2, fun _ => by rw [← hr]; exact ⟨by rw [hcut, k3, hr], k1, k2⟩⟩
    · obtain ⟨t1, t2, t3⟩ := h.know C.target m2 m3 hr1
      exact ⟨by omega, by rw [hmt, hcut, t3, hr2], by rw [hmt]; exact t1, by rw [hmt]; exact t2, fun _ => ⟨by rw [hcut, k3], k1, k2⟩⟩
  · rw [if_neg h1] at hr
    by_cases h2 : C.kind = 2
    · rw [if_pos h2] at hr
      obtain ⟨t1, t2, t3⟩ := h.know C.target m2 m3 hr
      have hrd : C.ready.1 = ⟨C.target, (C.known C.target).ix, true⟩ := by unfold Ct.ready; rw [if_neg h1, if_pos h2]
      exact ⟨by omega, by rw [hmt, t3, hrd], by rw [hmt]; exact t1, by rw [hmt]; exact t2, fun e => by rw [hrd] at e; cases e⟩
    · rw [if_neg h2] at hr; cases hr
theorem SimI.fresh {C : Ct} {s : Nat → Sm} (h : SimI C s) (e : Ep) : SimI ((C.kept 0 (C.table ++ [e]) 0 0).fresh) s := by
  refine ⟨fun r a b => ?_, fun r a b c => ?_, fun r a b => h.last r a b⟩
  · have := h.conf r a b
    show 1 ≤ (s r).config ∧ (s r).config ≤ (C.table ++ [e]).length
    simp; omega
  · exact absurd c (by simp [Ct.fresh, Rp.zero])
/-- A report of what is true. -/
theorem SimI.take {n k : Nat} {C : Ct} {J : Jn} {D : Dk} {s : Nat → Sm} (hc : CK n k C J D) (h : SimI C s) (h32 : 32 ≤ n) (hk : k ≤ 1000) (r : Nat) :
    ∃ b C' J' D', takeV C J D 5 r (s r).config (s r).closed (s r).config (s r).last = (b, C', J', D') ∧ CK n (k + 1) C' J' D' ∧ C'.regions = C.regions ∧ SimI C' s ∧
      (C'.table = C.table ∨ ∃ e, C'.table = C.table ++ [e] ∧ Fits C s e) := by
  obtain ⟨b, C', J', D', h1, h2, h3, h4⟩ := hc.take h32 hk 5 r (s r).config (s r).closed (s r).config (s r).last
  refine ⟨b, C', J', D', h1, h2, h3, ?_⟩
  rcases h4 with ⟨_, rfl⟩ | ⟨_, hcf, h4⟩
  · exact ⟨h, .inl rfl⟩
  · have hcf' : (s r).config = C.table.length := by omega
    rw [Int.toNat_natCast] at h4
    have ht := h.told hcf' ((s r).config : Int)
    have hkt : CK n k (C.told r (s r).closed (s r).config (s r).last) J D := ⟨hc.ok.told _ _ _ _, hc.up, hc.jk⟩
    rcases h4 with ⟨rfl, _⟩ | ⟨hr, rfl⟩
    · exact ⟨ht, .inl rfl⟩
    · refine ⟨ht.fresh _, .inr ⟨_, rfl, ?_⟩⟩
      have := ht.fits hkt hr
      exact ⟨this.mast, this.cut, this.conf, this.closed, this.plan⟩
end Go.Proofs.Ytepeljbgekgjcaa
