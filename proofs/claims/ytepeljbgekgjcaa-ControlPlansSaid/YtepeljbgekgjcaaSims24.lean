/- Layer 24, ControlPlans: the regions as cells. Conditions: at most five rows. -/
import Derived.Test.YtepeljbgekgjcaaLaw24
set_option maxHeartbeats 8000000
set_option linter.unusedVariables false
set_option linter.unusedSimpArgs false
set_option maxRecDepth 100000
namespace Go.Proofs.Ytepeljbgekgjcaa
open Go Go.Sl
attribute [local irreducible] Go.Sl.Wl Go.Sl.Wc Go.Sl.thenQ Go.Sl.blkQ Go.Sl.loopQ Go.Sl.Fspec

theorem Wc_cutBlk {P : Program} {B : Base} {N : Nat} {F : Fr} {A : List Asn} {Q : Exit → Fr → List Asn → Prop} {α : Type} {k : Nat} {c d : Code} (L : α → List (Nat × Value)) (S : α → List Asn) (φ : α → Prop)
    (h1 : Wc P B N (.block k c) F A (loopQ (fun F' A' => ∃ x, φ x ∧ Mat F' (L x) ∧ Ent A' (S x)) Q))
    (h2 : ∀ x G, φ x → Wc P B N d (ov G (L x)) (S x) Q) : Wc P B N (.seq (.block k c) d) F A Q := Wc_cut L S φ h1 h2
theorem addr_two (q : Addr) (a b : Nat) : (q.add a).add b = q.add (a + b) := by
  unfold Addr.add
  by_cases ha : a = 0
  · subst ha; simp
  · by_cases hb : b = 0
    · subst hb; simp [ha]
    · simp [ha, hb]; omega
def simC (x : Sm) : List Value := [.int .i64 (x.config : Nat), .int .i64 (x.last : Nat), .bool x.closed]
def simsC (s : Nat → Sm) (m : Nat) : List Value := (List.range m).flatMap fun i => simC (s i)
theorem sims_len (s : Nat → Sm) (m : Nat) : (simsC s m).length = m * 3 := by
  unfold simsC
  induction m with
  | zero => rfl
  | succ m ih => rw [List.range_succ, List.flatMap_append, List.length_append, ih]; simp [simC]; omega
theorem sims_cell {s : Nat → Sm} {m j k off : Nat} (hj : j < m) (hk : k < 3) (ho : off = j * 3 + k) : (simsC s m)[off]? = (simC (s j))[k]? := by
  subst ho
  have h1 := flatMap_row (l := List.range m) (j := j) (q := j) (f := fun i => simC (s i)) (sz := 3) (fun _ _ => rfl) (by simp [hj])
  unfold simsC
  rw [← h1, ← List.getElem?_drop, List.getElem?_take, if_pos hk]
theorem sims_conf {s : Nat → Sm} {m j off : Nat} (hj : j < m) (ho : off = j * 3) : (simsC s m)[off]? = some (.int .i64 ((s j).config : Nat)) := sims_cell hj (by omega) (show off = j * 3 + 0 by omega)
theorem sims_last {s : Nat → Sm} {m j off : Nat} (hj : j < m) (ho : off = j * 3 + 1) : (simsC s m)[off]? = some (.int .i64 ((s j).last : Nat)) := sims_cell hj (by omega) ho
theorem sims_closed {s : Nat → Sm} {m j off : Nat} (hj : j < m) (ho : off = j * 3 + 2) : (simsC s m)[off]? = some (.bool (s j).closed) := sims_cell hj (by omega) ho
theorem sims_few {m j : Nat} (hj : j < m) (hm : m ≤ 5) : (m = 1 ∨ m = 2 ∨ m = 3 ∨ m = 4 ∨ m = 5) ∧ (j = 0 ∨ j = 1 ∨ j = 2 ∨ j = 3 ∨ j = 4) := by omega
theorem sims_set0 {s : Nat → Sm} {m j off : Nat} (v : Nat) (hj : j < m) (hm : m ≤ 5) (ho : off = j * 3) : SetAt (simsC s m) off (.int .i64 (v : Nat)) (simsC (putS s j { s j with config := v }) m) := by
  have e : simsC (putS s j { s j with config := v }) m = (simsC s m).set off (.int .i64 (v : Nat)) := by
    subst ho
    obtain ⟨h1, h2⟩ := sims_few hj hm
    rcases h1 with rfl | rfl | rfl | rfl | rfl <;> rcases h2 with rfl | rfl | rfl | rfl | rfl <;> first | rfl | omega
  rw [e]; exact .gen (by rw [sims_len]; omega)
theorem sims_set1 {s : Nat → Sm} {m j off : Nat} (v : Nat) (hj : j < m) (hm : m ≤ 5) (ho : off = j * 3 + 1) : SetAt (simsC s m) off (.int .i64 (v : Nat)) (simsC (putS s j { s j with last := v }) m) := by
  have e : simsC (putS s j { s j with last := v }) m = (simsC s m).set off (.int .i64 (v : Nat)) := by
    subst ho
    obtain ⟨h1, h2⟩ := sims_few hj hm
    rcases h1 with rfl | rfl | rfl | rfl | rfl <;> rcases h2 with rfl | rfl | rfl | rfl | rfl <;> first | rfl | omega
  rw [e]; exact .gen (by rw [sims_len]; omega)
theorem sims_set2 {s : Nat → Sm} {m j off : Nat} (b : Bool) (hj : j < m) (hm : m ≤ 5) (ho : off = j * 3 + 2) : SetAt (simsC s m) off (.bool b) (simsC (putS s j { s j with closed := b }) m) := by
  have e : simsC (putS s j { s j with closed := b }) m = (simsC s m).set off (.bool b) := by
    subst ho
    obtain ⟨h1, h2⟩ := sims_few hj hm
    rcases h1 with rfl | rfl | rfl | rfl | rfl <;> rcases h2 with rfl | rfl | rfl | rfl | rfl <;> first | rfl | omega
  rw [e]; exact .gen (by rw [sims_len]; omega)
theorem putS_three (s : Nat → Sm) (r v k : Nat) (b : Bool) : putS (putS (putS s r { s r with last := v }) r { (putS s r { s r with last := v }) r with config := k }) r { (putS (putS s r { s r with last := v }) r { (putS s r { s r with last := v }) r with config := k }) r with closed := b } = putS s r ⟨k, v, b⟩ := by
  funext j
  by_cases h : j = r
  · subst h; simp [putS]
  · simp [putS, h]
def sim0 : Nat → Sm := fun _ => ⟨0, 0, false⟩
def simN (i : Nat) : Nat → Sm := fun j => if j < i then ⟨1, 0, false⟩ else ⟨0, 0, false⟩
theorem simN_zero : simN 0 = sim0 := by funext j; simp [simN, sim0]
theorem simN_succ (i : Nat) : putS (simN i) i { simN i i with config := 1 } = simN (i + 1) := by
  funext j
  unfold putS simN
  by_cases h : j = i
  · subst h; simp
  · rw [if_neg h]
    by_cases h2 : j < i
    · rw [if_pos h2, if_pos (by omega)]
    · rw [if_neg h2, if_neg (by omega)]
theorem sims_zero {m : Nat} (h0 : 0 < m) (hm : m ≤ 5) : cyc [.int .i64 0, .int .i64 0, .bool false] (m * 3) = simsC sim0 m := by
  have : m = 1 ∨ m = 2 ∨ m = 3 ∨ m = 4 ∨ m = 5 := by omega
  rcases this with rfl | rfl | rfl | rfl | rfl <;> rfl
theorem SimI.new {first regions : Nat} (h : regions ≤ 4) : SimI (Ct.new first regions) (simN (regions + 1)) := by
  refine ⟨fun r a b => ?_, fun r a b c => ?_, fun r a b => ?_⟩
  · have hr : r < regions + 1 := by have : r ≤ regions := b; omega
    simp [simN, hr, Ct.new]
  · simp [Ct.new, Rp.zero] at c
  · have hr : r < regions + 1 := by have : r ≤ regions := b; omega
    simp [simN, hr]
structure WayX where
  k : Int
  kind : Int
  who : Int
def WayX.c (x : WayX) : List Value := [.int .i64 x.k, .int .i64 x.kind, .int .i64 x.who]
theorem rem4 (n : Nat) : (n : Int).tmod 4 = ((n % 4 : Nat) : Int) := by rw [Int.tmod_eq_emod_of_nonneg (by omega)]; omega
theorem who_rem (who : Int) (nn : Nat) (h : 1 ≤ nn) : ∃ q : Nat, (IntKind.u64.wrap who).tmod (nn : Int) = (q : Int) ∧ q < nn := by
  have h0 : 0 ≤ IntKind.u64.wrap who := by rw [IntKind.wrap_u64]; omega
  rw [Int.tmod_eq_emod_of_nonneg h0]
  have h1 := Int.emod_nonneg (IntKind.u64.wrap who) (show (nn : Int) ≠ 0 by omega)
  have h2 := Int.emod_lt_of_pos (IntKind.u64.wrap who) (show (0 : Int) < nn by omega)
  exact ⟨(IntKind.u64.wrap who % (nn : Int)).toNat, by omega, by omega⟩
end Go.Proofs.Ytepeljbgekgjcaa
