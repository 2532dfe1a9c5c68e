/- Rising lists with the same keys are the same. No condition. -/
import Derived.Test.YtdlpfeflndlpfaaCopies05
set_option linter.unusedVariables false
set_option maxRecDepth 100000
namespace Go.Proofs.Ytdlpfeflndlpfaa
open Go Go.Sl Go.ChangeShapes Go.WideShapes Go.ChangeAt Go.RowKit

def KM (k : ByteArray) (l : KL) : Prop := ∃ x ∈ l, x.1 = k
theorem km_nil {k : ByteArray} : ¬ KM k [] := by rintro ⟨x, hx, _⟩; cases hx
theorem km_cons {k : ByteArray} {x : ByteArray × Int} {l : KL} : KM k (x :: l) ↔ x.1 = k ∨ KM k l := by
  unfold KM; simp
theorem km_set {k q : ByteArray} {v : Int} : ∀ {l : KL}, KM k (lset l q v) ↔ q = k ∨ KM k l
  | [] => by simp [lset, km_cons]
  | (p, w) :: l => by
    have ih := km_set (k := k) (q := q) (v := v) (l := l)
    simp only [lset]
    split
    · simp only [km_cons]
    · split
      · simp only [km_cons, ih]
        constructor
        · rintro (h | h | h)
          · exact .inr (.inl h)
          · exact .inl h
          · exact .inr (.inr h)
        · rintro (h | h | h)
          · exact .inr (.inl h)
          · exact .inl h
          · exact .inr (.inr h)
      · rename_i hk hg
        have he : q = p := Classical.byContradiction fun hne => hg (klt_total (by simpa using hk) hne)
        subst he
        simp only [km_cons]
        constructor
        · rintro (h | h)
          · exact .inl h
          · exact .inr (.inr h)
        · rintro (h | h | h)
          · exact .inl h
          · exact .inl h
          · exact .inr h
theorem ris_head {x : ByteArray × Int} {l : KL} (h : Ris (x :: l)) {k : ByteArray} (hk : KM k l) : klt x.1 k = true := by
  obtain ⟨y, hy, rfl⟩ := hk
  exact (List.pairwise_cons.1 h).1 y hy
theorem km_del {k q : ByteArray} : ∀ {l : KL}, Ris l → (KM k (ldel l q) ↔ q ≠ k ∧ KM k l)
  | [], _ => by simp [ldel, km_nil]
  | (p, w) :: l, h => by
    have ih := km_del (k := k) (q := q) (List.pairwise_cons.1 h).2
    simp only [ldel]
    split
    · rename_i hq
      refine ⟨fun hk => ⟨fun e => ?_, hk⟩, fun hk => hk.2⟩
      subst e
      rcases km_cons.1 hk with e | hk
      · simp only at e; exact klt_ne hq e.symm
      · exact klt_ne (klt_trans hq (ris_head h hk)) rfl
    · split
      · rename_i hq
        simp only [km_cons, ih]
        constructor
        · rintro (e | ⟨h1, h2⟩)
          · exact ⟨fun e2 => klt_ne hq (e.trans e2.symm), .inl e⟩
          · exact ⟨h1, .inr h2⟩
        · rintro ⟨h1, e | h2⟩
          · exact .inl e
          · exact .inr ⟨h1, h2⟩
      · rename_i hk hg
        have he : q = p := Classical.byContradiction fun hne => hg (klt_total (by simpa using hk) hne)
        subst he
        simp only [km_cons]
        constructor
        · exact fun hk => ⟨klt_ne (ris_head h hk), .inr hk⟩
        · rintro ⟨h1, e | h2⟩
          · exact absurd e h1
          · exact h2
theorem lget_none {k : ByteArray} : ∀ {l : KL}, Ris l → (lget l k = none ↔ ¬ KM k l)
  | [], _ => by simp [lget, km_nil]
  | (p, w) :: l, h => by
    have ih := lget_none (k := k) (List.pairwise_cons.1 h).2
    simp only [lget]
    split
    · rename_i hq
      refine ⟨fun _ hk => ?_, fun _ => rfl⟩
      rcases km_cons.1 hk with e | hk
      · simp only at e; exact klt_ne hq e.symm
      · exact klt_ne (klt_trans hq (ris_head h hk)) rfl
    · split
      · rename_i hq
        rw [ih, km_cons]
        constructor
        · rintro h1 (e | h2)
          · exact klt_ne hq e
          · exact h1 h2
        · exact fun h1 h2 => h1 (.inr h2)
      · rename_i hk hg
        have he : k = p := Classical.byContradiction fun hne => hg (klt_total (by simpa using hk) hne)
        subst he
        simp [km_cons]
theorem ris_ext : ∀ {l l' : KL}, Ris l → Ris l' → AllSz l → AllSz l' → (∀ k, KM k l ↔ KM k l') → l = l'
  | [], [], _, _, _, _, _ => rfl
  | [], y :: l', _, _, _, _, h => absurd ((h y.1).2 (km_cons.2 (.inl rfl))) km_nil
  | x :: l, [], _, _, _, _, h => absurd ((h x.1).1 (km_cons.2 (.inl rfl))) km_nil
  | x :: l, y :: l', h1, h2, h3, h4, h => by
    have hxy : x.1 = y.1 := by
      rcases km_cons.1 ((h x.1).1 (km_cons.2 (.inl rfl))) with e | e
      · exact e.symm
      · rcases km_cons.1 ((h y.1).2 (km_cons.2 (.inl rfl))) with e' | e'
        · exact e'
        · have q1 := ris_head h2 e
          have q2 := ris_head h1 e'
          rw [klt_asymm q1] at q2; cases q2
    have hx2 := h3 x (List.mem_cons_self ..)
    have hy2 := h4 y (List.mem_cons_self ..)
    have he : x = y := Prod.ext hxy (by rw [hx2, hy2, hxy])
    subst he
    have := ris_ext (List.pairwise_cons.1 h1).2 (List.pairwise_cons.1 h2).2 (fun z hz => h3 z (List.mem_cons_of_mem _ hz)) (fun z hz => h4 z (List.mem_cons_of_mem _ hz)) (fun k => by
      constructor
      · intro hk
        rcases km_cons.1 ((h k).1 (km_cons.2 (.inr hk))) with e | e
        · exact absurd e (klt_ne (ris_head h1 hk))
        · exact e
      · intro hk
        rcases km_cons.1 ((h k).2 (km_cons.2 (.inr hk))) with e | e
        · exact absurd e (klt_ne (ris_head h2 hk))
        · exact e)
    rw [this]
end Go.Proofs.Ytdlpfeflndlpfaa
