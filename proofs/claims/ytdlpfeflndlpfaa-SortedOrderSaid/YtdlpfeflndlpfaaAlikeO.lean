/- The law's comparison of texts of one's own. No condition. -/
import Derived.Test.YtdlpfeflndlpfaaAlike
set_option linter.unusedVariables false
set_option maxRecDepth 100000
namespace Go.Proofs.Ytdlpfeflndlpfaa
open Go Go.Sl Go.ChangeShapes Go.WideShapes Go.ChangeAt Go.RowKit

theorem own_facts {B : Base} {w : World} {R : Asn} {M : List Asn} {a : Option Addr} {len cap sz : Nat} {cs : List Value} {E : TypeId} (hs : Sat B w (R :: own a len cap sz cs E :: M)) :
    cs.length = len * sz ∧ len * sz ≤ cap * sz ∧ (a = none → len = 0) := by
  have hs1 : Sat B w (own a len cap sz cs E :: R :: M) := hs.perm (.swap ..)
  rcases own_open hs1.own with ⟨e1, e2, e3, e4, _⟩ | ⟨r, spare, e1, e2, e3, _⟩
  · exact ⟨by simp [e2, e4], by simp [e2], fun _ => e2⟩
  · exact ⟨e2, by rw [← e2, ← e3]; simp, fun e => by rw [e] at e1; cases e1⟩
section specs
variable {B : Base}
theorem alike_own (a b : Option Addr) (n c n' c' : Nat) (ks us : List ByteArray) (hn : n ≤ 9223372036854775807) :
    Fspec Try.prog B 23 #[.slice a n c, .slice b n' c'] [own a n c 1 (ks.map Value.string) 9, own b n' c' 1 (us.map Value.string) 9]
      (fun v A' => v = .bool (decide (ks = us)) ∧ A' = [own a n c 1 (ks.map Value.string) 9, own b n' c' 1 (us.map Value.string) 9]) := fun R w hs => by
  obtain ⟨e1, e2, e3⟩ := own_facts hs
  obtain ⟨f1, f2, f3⟩ := own_facts (hs.perm (List.Perm.cons R (.swap ..)))
  have hX : ∀ w, Sat B w [lst [own a n c 1 (ks.map Value.string) 9, own b n' c' 1 (us.map Value.string) 9]] → Sat B w [own a n c 1 (ks.map Value.string) 9, own b n' c' 1 (us.map Value.string) 9] :=
    fun w h => h.ent (Ent.lst_open [own a n c 1 (ks.map Value.string) 9, own b n' c' 1 (us.map Value.string) 9] [])
  have h1 : RdS Try.prog B [lst [own a n c 1 (ks.map Value.string) 9, own b n' c' 1 (us.map Value.string) 9]] 1 a n c (ks.map Value.string) :=
    ⟨e1, e3, by omega, Src.weak (src_own (A := []) e1) fun w h => (hX w h).ent (Ent.cons _ Ent.nil)⟩
  have h2 : RdS Try.prog B [lst [own a n c 1 (ks.map Value.string) 9, own b n' c' 1 (us.map Value.string) 9]] 1 b n' c' (us.map Value.string) :=
    ⟨f1, f3, by omega, Src.weak (src_own (A := []) f1) fun w h => (hX w h).ent (Ent.drop _)⟩
  refine ((alike_spec (B := B) _ a b n c n' c' ks us h1 h2 hn) R w (hs.ent ?_)).mono ?_
  · exact (Ent.perm (List.perm_append_comm (l₁ := [R]))).trans ((Ent.lst_shut [own a n c 1 (ks.map Value.string) 9, own b n' c' 1 (us.map Value.string) 9] [R]).trans (Ent.perm (.swap ..)))
  · rintro e w' ⟨v, A', rfl, hs', rfl, rfl⟩
    refine ⟨_, _, rfl, ?_, rfl, rfl⟩
    exact hs'.ent ((Ent.perm (.swap ..)).trans ((Ent.lst_open [own a n c 1 (ks.map Value.string) 9, own b n' c' 1 (us.map Value.string) 9] [R]).trans (Ent.perm (List.perm_append_comm (l₂ := [R])))))
theorem alike_same (a b : Option Addr) (n c n' c' : Nat) (ks : List ByteArray) (hn : n ≤ 9223372036854775807) :
    Fspec Try.prog B 23 #[.slice a n c, .slice b n' c'] [own a n c 1 (ks.map Value.string) 9, own b n' c' 1 (ks.map Value.string) 9]
      (fun v A' => v = .bool true ∧ A' = [own a n c 1 (ks.map Value.string) 9, own b n' c' 1 (ks.map Value.string) 9]) :=
  (alike_own (B := B) a b n c n' c' ks ks hn).mono (by rintro v A' ⟨rfl, rfl⟩; simp)
end specs
end Go.Proofs.Ytdlpfeflndlpfaa
