/- Layer 13: what was found compared with what it should be. No condition. -/
import Derived.Test.YtdlpfeflndlpfaaTold13
set_option linter.unusedVariables false
set_option maxRecDepth 100000
namespace Go.Proofs.Ytdlpfeflndlpfaa
open Go Go.Sl

abbrev LB := Option Addr × Nat × Nat × List UInt8
def lbS (x : LB) : SV := (x.1, x.2.1, x.2.2.1)
def rxS (x : RX) : SV := (x.1, x.2.2.length, x.2.1)
theorem rx_map (xs : List RX) : xs.map rowV = (xs.map rxS).map slV := by rw [List.map_map]; rfl
theorem RecsP_facts {B : Base} {w : World} {R : Asn} {M : List Asn} {a : Option Addr} {c : Nat} {xs : List RX} (hs : Sat B w (R :: (RecsP a c xs ++ M))) :
    OwnF a xs.length c 1 (xs.map rowV) ∧ ∀ x ∈ xs, OwnF x.1 x.2.2.length x.2.1 1 (x.2.2.map byteV) := by
  have h0 : Sat B w (own a xs.length c 1 (xs.map rowV) 28 :: RowsP xs :: R :: M) := hs.perm ((List.Perm.swap _ _ _).trans ((List.Perm.swap _ _ _).cons _))
  refine ⟨own_ownF (by omega) h0, fun x hx => ?_⟩
  have h1 : Sat B w (xs.map rowA ++ R :: M) := (h0.ent (Ent.drop _)).ent (Ent.lst_open (xs.map rowA) (R :: M))
  obtain ⟨s, t, rfl⟩ := List.append_of_mem hx
  refine own_ownF (B := B) (w := w) (E := 5) (L := s.map rowA ++ (t.map rowA ++ R :: M)) (by omega) (h1.perm ?_)
  rw [List.map_append, List.map_cons, List.append_assoc]
  exact List.perm_middle
section specs
variable {B : Base}
theorem told_got (a : Option Addr) (c : Nat) (xs : List RX) (b : Option Addr) (n c' : Nat) (vb : List SV) (M : List Asn) (l : List (List UInt8)) (hx : recsOf xs = l) (hl : l.length = n) (hn : n ≤ 9223372036854775807)
    (hb : ∀ w, Sat B w (RecsP a c xs ++ M) → RdS Try.prog B [lst (RecsP a c xs ++ M)] 1 b n c' (vb.map slV)) (gb : ∀ (i : Nat) (x : SV) r, vb[i]? = some x → l[i]? = some r → RdS Try.prog B [] 1 x.1 x.2.1 x.2.2 (r.map byteV)) :
    Fspec Try.prog B 42 #[.slice a xs.length c, .slice b n c'] (RecsP a c xs ++ M) (fun v A' => v = .bool true ∧ A' = RecsP a c xs ++ M) := fun R w hs => by
  obtain ⟨f1, f2⟩ := RecsP_facts hs
  have hxl : xs.length = n := by rw [← hl, ← hx]; simp [recsOf]
  have hE : Ent [lst (RecsP a c xs ++ M)] (RecsP a c xs ++ M) := by simpa using Ent.lst_open (RecsP a c xs ++ M) []
  have ha : RdS Try.prog B [lst (RecsP a c xs ++ M)] 1 a n c ((xs.map rxS).map slV) := by
    rw [← rx_map, ← hxl]
    exact ⟨f1.e1, f1.e3, f1.e2, (src_own (A := RowsP xs :: M) (E := 28) f1.e1).weak fun w hs => hs.ent hE⟩
  have ga : ∀ (i : Nat) (x : SV) r, (xs.map rxS)[i]? = some x → l[i]? = some r → RdS Try.prog B [lst (RecsP a c xs ++ M)] 1 x.1 x.2.1 x.2.2 (r.map byteV) := fun i x r h1 h2 => by
    rw [List.getElem?_map] at h1
    cases hy : xs[i]? with
    | none => rw [hy] at h1; cases h1
    | some y =>
      rw [hy] at h1
      have h1 : rxS y = x := by simpa using h1
      subst h1
      have h3 : y.2.2 = r := by
        rw [← hx] at h2
        simp only [recsOf, List.getElem?_map, hy, Option.map_some] at h2
        exact Option.some.inj h2
      subst h3
      exact row_rd (List.mem_of_getElem? hy) (f2 y (List.mem_of_getElem? hy)) (hE.trans ((Ent.drop _).trans ((Ent.nil (L := M)).cons (RowsP xs))))
  have h := told_true (B := B) (lst (RecsP a c xs ++ M)) a b n c c' (xs.map rxS) vb l ha (hb w (hs.ent (Ent.drop R))) hl hn ga (fun i x r h1 h2 => (gb i x r h1 h2).any)
  rw [hxl]
  refine (h R w (hs.ent ?_)).mono ?_
  · exact (by simpa using Ent.lst_shut (RecsP a c xs ++ M) [] : Ent (RecsP a c xs ++ M) [lst (RecsP a c xs ++ M)]).cons R
  · rintro e w' ⟨v, A', rfl, hs', rfl, rfl⟩
    exact ⟨_, _, rfl, hs'.ent (hE.cons R), rfl, rfl⟩
end specs
end Go.Proofs.Ytdlpfeflndlpfaa
