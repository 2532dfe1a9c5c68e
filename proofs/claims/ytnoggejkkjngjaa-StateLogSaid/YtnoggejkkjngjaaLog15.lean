/- Layer 15: a log of one epoch: what it comes to. Conditions: few entries. -/
import Derived.Test.YtnoggejkkjngjaaSte
set_option maxHeartbeats 8000000
set_option linter.unusedVariables false
set_option linter.unusedSimpArgs false
set_option maxRecDepth 100000
namespace Go.Proofs.Ytnoggejkkjngjaa
open Go Go.Sl
attribute [local irreducible] Go.Sl.Wl Go.Sl.Wc Go.Sl.thenQ Go.Sl.blkQ Go.Sl.loopQ Go.Sl.Fspec

def simX (i : Nat) (key tx : ByteArray) : EnX := ⟨1, i, 1 + (i : Int) % 3, i, key, false, tx⟩
def keyAt (ks : List ByteArray) (j : Nat) : ByteArray := ks.getD j ByteArray.empty
/-- The entries of a log of one epoch. -/
def logE (f : ByteArray → ByteArray) (ks : List ByteArray) : Nat → List EnX
  | 0 => []
  | j + 1 => logE f ks j ++ [simX (j + 1) (keyAt ks j) (f (keyAt ks j))]
theorem logE_len (f : ByteArray → ByteArray) (ks : List ByteArray) : ∀ j, (logE f ks j).length = j
  | 0 => rfl
  | j + 1 => by simp [logE, logE_len f ks j]
theorem logE_get (f : ByteArray → ByteArray) (ks : List ByteArray) : ∀ {j k : Nat}, k < j → (logE f ks j)[k]? = some (simX (k + 1) (keyAt ks k) (f (keyAt ks k)))
  | 0, k, h => by omega
  | j + 1, k, h => by
    have hl := logE_len f ks j
    rw [logE]
    by_cases hk : k < j
    · rw [List.getElem?_append_left (by omega)]; exact logE_get f ks hk
    · obtain rfl : k = j := by omega
      rw [List.getElem?_append_right (by omega), hl]; simp
theorem logE_take (f : ByteArray → ByteArray) (ks : List ByteArray) {j c : Nat} (h : c ≤ j) : (logE f ks j).take c = logE f ks c := by
  apply List.ext_getElem?
  intro k
  rw [List.getElem?_take]
  by_cases hk : k < c
  · rw [if_pos hk, logE_get f ks (by omega), logE_get f ks hk]
  · rw [if_neg hk, List.getElem?_eq_none (by rw [logE_len]; omega)]
/-- Entries with rising indexes and requests, of three sessions. -/
def LogE (es : List EnX) : Prop := ∀ (k : Nat) (x : EnX), es[k]? = some x → x.i = ((k + 1 : Nat) : Int) ∧ 1 ≤ x.s ∧ x.s ≤ 3 ∧ x.r = ((k + 1 : Nat) : Int)
theorem logE_log (f : ByteArray → ByteArray) (ks : List ByteArray) (j : Nat) : LogE (logE f ks j) := by
  intro k x hx
  have hk : k < j := by
    rcases Nat.lt_or_ge k j with h | h
    · exact h
    · rw [List.getElem?_eq_none (by rw [logE_len]; omega)] at hx; cases hx
  rw [logE_get f ks hk] at hx
  obtain rfl := Option.some.inj hx
  refine ⟨rfl, ?_, ?_, rfl⟩ <;> simp only [simX] <;> omega
theorem lset_val {k : ByteArray} {v : VX} {x : ByteArray × VX} : ∀ {l : KL}, x ∈ lset l k v → x ∈ l ∨ x.2 = v
  | [], h => by simp [lset] at h; exact .inr (by rw [h])
  | (k', v') :: l, h => by
    unfold lset at h
    split at h
    · rcases List.mem_cons.1 h with h | h
      · exact .inr (by rw [h])
      · exact .inl h
    · split at h
      · rcases List.mem_cons.1 h with h | h
        · exact .inl (by rw [h]; exact List.mem_cons_self ..)
        · rcases lset_val h with h | h
          · exact .inl (List.mem_cons_of_mem _ h)
          · exact .inr h
      · rcases List.mem_cons.1 h with h | h
        · exact .inr (by rw [h])
        · exact .inl (List.mem_cons_of_mem _ h)
theorem lget_lset {k : ByteArray} {v : VX} : ∀ l : KL, lget (lset l k v) k = some v
  | [] => by simp [lset, lget, klt_irrefl]
  | (k', v') :: l => by
    unfold lset
    split
    · simp [lget, klt_irrefl]
    · split
      · rename_i h1 h2
        simp only [lget]; rw [if_neg h1, if_pos h2]; exact lget_lset l
      · rename_i h1 h2
        simp only [lget]; rw [if_neg h1, if_neg h2]
theorem gX_set {t : Tree} (h : Ris t.inorder) (k : ByteArray) (v : VX) : gX (t.set k v) k = v := by
  have hi := Tree.inorder_set k v t h
  have hr : Ris (t.set k v).inorder := by rw [hi]; exact h.set
  have h1 := Tree.from_in (t.set k v) k none hr
  have h2 := lfrom_get (k := k) hr
  rw [Option.or_none] at h1
  rw [← h1, hi, lget_lset] at h2
  obtain ⟨b, hb⟩ := getV_gX (t.set k v) k
  rw [h2] at hb
  have hc2 : (gX (t.set k v) k).C = v.C ∧ b = true := by simpa using hb.symm
  have hc := hc2.1
  cases hg : gX (t.set k v) k
  rw [hg] at hc
  cases v
  simpa [VX.C] using hc
theorem gX_val {t : Tree} (h : Ris t.inorder) (k : ByteArray) : gX t k = VX.zero ∨ ∃ x ∈ t.inorder, x.2 = gX t k := by
  have h1 := Tree.from_in t k none h
  rw [Option.or_none] at h1
  unfold gX
  rw [h1]
  cases hf : lfrom t.inorder k with
  | none => exact .inl rfl
  | some q =>
    obtain ⟨k', v⟩ := q
    have hm : (k', v) ∈ t.inorder := by unfold lfrom at hf; exact List.mem_of_find?_eq_some hf
    simp only
    split
    · exact .inr ⟨_, hm, rfl⟩
    · exact .inl rfl
structure FoL (f : FoX) (n : Nat) : Prop where
  ris : Ris f.t.inorder
  vals : ∀ x ∈ f.t.inorder, 0 ≤ x.2.b ∧ x.2.b ≤ (n : Int)
  rs : RisS f.L
  ses : ∀ x ∈ f.L, 1 ≤ x.s ∧ x.s ≤ 3 ∧ x.r ≤ (n : Int)
theorem upto_log {S : S15} (h : LogE S.es) : ∀ k, k ≤ S.es.length → FoL (S.upto k) k
  | 0, _ => by
    refine ⟨?_, ?_, ?_, ?_⟩
    · simp [S15.upto, FoX.zero, Tree.inorder, Ris]
    · simp [S15.upto, FoX.zero, Tree.inorder]
    · simp [S15.upto, FoX.zero, RisS]
    · simp [S15.upto, FoX.zero]
  | k + 1, hk => by
    have ih := upto_log h k (by omega)
    obtain ⟨x, hx⟩ : ∃ x, S.es[k]? = some x := ⟨_, List.getElem?_eq_getElem (by omega)⟩
    obtain ⟨x1, x2, x3, x4⟩ := h k x hx
    rw [S15.upto_succ hx]
    have hi := Tree.inorder_set x.key x.v (S.upto k).t ih.ris
    refine ⟨?_, ?_, ?_, ?_⟩
    · show Ris ((S.upto k).t.set x.key x.v).inorder
      rw [hi]; exact ih.ris.set
    · intro y hy
      have hy' : y ∈ ((S.upto k).t.set x.key x.v).inorder := hy
      rw [hi] at hy'
      rcases lset_val hy' with hy' | hy'
      · have := ih.vals y hy'; omega
      · rw [hy']; simp only [EnX.v]; omega
    · show RisS (noteV (S.upto k).L 16 x.se)
      unfold noteV; split
      · exact ih.rs.put
      · exact ih.rs
    · intro y hy
      have hy' : y ∈ noteV (S.upto k).L 16 x.se := hy
      unfold noteV at hy'
      have h0 : y ∈ (S.upto k).L → 1 ≤ y.s ∧ y.s ≤ 3 ∧ y.r ≤ ((k + 1 : Nat) : Int) := fun hm => by have := ih.ses y hm; omega
      split at hy'
      · rcases dput_mem hy' with rfl | hy'
        · simp only [EnX.se]; omega
        · exact h0 hy'
      · exact h0 hy'
theorem fold_log {S : S15} (h : LogE S.es) : FoL S.fold S.es.length := by rw [← S15.upto_all]; exact upto_log h _ (Nat.le_refl _)
theorem ris_few : ∀ (L : List SX) (a : Int), RisS L → (∀ x ∈ L, a ≤ x.s ∧ x.s ≤ 3) → a ≤ 4 → (L.length : Int) ≤ 4 - a
  | [], a, _, _, h => by simp; omega
  | x :: l, a, h, hb, _ => by
    have h1 := List.pairwise_cons.1 h
    have hx := hb x (List.mem_cons_self ..)
    have := ris_few l (x.s + 1) h1.2 (fun y hy => by have := h1.1 y hy; have := hb y (List.mem_cons_of_mem _ hy); omega) (by omega)
    simp only [List.length_cons]; omega
theorem look_fresh {L : List SX} {n : Nat} {s r : Int} (h : RisS L) (hb : ∀ x ∈ L, 1 ≤ x.s ∧ x.s ≤ 3 ∧ x.r ≤ (n : Int)) (hr : (n : Int) < r) : (lookV L 16 s r).1 = 1 := by
  unfold lookV
  cases hd : dget L s with
  | none =>
    have := ris_few L 1 h (fun x hx => ⟨(hb x hx).1, (hb x hx).2.1⟩) (by omega)
    simp only
    rw [if_neg (by omega)]
  | some x =>
    have := hb x (dget_some hd).1
    simp only
    rw [if_pos (by omega)]
/-- An entry that goes on is taken. -/
theorem cw_log {S : S15} (hS : S.ok) (hl : LogE S.es) (hc : S.closed = false) (h5 : S.es.length < 512) (x : EnX) (hi : x.i = ((S.es.length + 1 : Nat) : Int)) (hat : atT S.table x.i = (x.e, x.i)) (hs : 1 ≤ x.s ∧ x.s ≤ 3)
    (hr : (S.es.length : Int) < x.r ∧ x.r ≤ 1000000) (hd : x.del = false) (hk : 1 ≤ x.key.size ∧ x.key.size ≤ 64) (ht : x.tx.size ≤ 1024) : cwV S x = 0 := by
  have hf := fold_log hl
  have hfi := S15.fold_i hS
  have hlk := look_fresh (s := x.s) hf.rs hf.ses hr.1
  unfold cwV
  rw [hc, hat, hlk, hd, if_neg (by simp), if_neg (by omega), if_neg (by omega), if_neg (by simp), if_neg (by simp [numB]; omega), if_neg (by omega), if_neg (by omega), if_neg (by omega)]
theorem at_one {i : Int} (h : 1 ≤ i ∧ i ≤ 512) : atT [⟨1, 0, false⟩] i = (1, i) := by
  have hR : rightT [⟨1, 0, false⟩] = true := by decide
  unfold atT
  rw [if_neg (by rw [hR]; simp; omega)]
  have hE : atE [⟨1, 0, false⟩] 1 i = 1 := by simp only [atE, List.getElem?_cons_zero]; rw [if_pos (by omega)]
  simp only [List.length_cons, List.length_nil]
  rw [hE]; rfl
theorem at_two {i c m : Int} {f : Bool} (h : 1 ≤ i ∧ i ≤ 512) (hR : rightT [⟨1, 0, false⟩, ⟨m, c, f⟩] = true) (hc : c < i) : atT [⟨1, 0, false⟩, ⟨m, c, f⟩] i = (2, i) := by
  unfold atT
  rw [if_neg (by rw [hR]; simp; omega)]
  have hE : atE [⟨1, 0, false⟩, ⟨m, c, f⟩] 2 i = 2 := by simp only [atE, List.getElem?_cons_zero, List.getElem?_cons_succ]; rw [if_pos hc]
  simp only [List.length_cons, List.length_nil]
  rw [hE]; rfl
def oneT : List Ep := [⟨1, 0, false⟩]
def logS (f : ByteArray → ByteArray) (ks : List ByteArray) (j : Nat) : S15 := ⟨oneT, logE f ks j, false⟩
theorem log_ok {T : List Ep} (hT : rightT T = true) (f : ByteArray → ByteArray) (ks : List ByteArray) (j : Nat) (h : j ≤ 600) (b : Bool) : (S15.mk T (logE f ks j) b).ok := by
  refine ⟨hT, by rw [logE_len]; exact h, fun k x hx => (logE_log f ks j k x hx).1, fun x hx => ?_⟩
  obtain ⟨k, hk⟩ := List.getElem?_of_mem hx
  have := logE_log f ks j k x hk
  unfold EnX.ok SX.ok
  simp only [EnX.se]; omega
theorem two_right {c : Nat} (h : c ≤ 512) {f : Bool} : rightT [⟨1, 0, false⟩, ⟨2, c, f⟩] = true := by
  simp [rightT, Ep.fair]; omega
end Go.Proofs.Ytnoggejkkjngjaa
