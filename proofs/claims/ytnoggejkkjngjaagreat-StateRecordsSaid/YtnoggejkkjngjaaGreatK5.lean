/- Conversions that turn memory: texts to bytes, a literal of bytes to its own kind. No condition. -/
import Derived.Test.YtnoggejkkjngjaaGreatK4
import Derived.Lib.ConvBytes
set_option linter.unusedVariables false
set_option linter.unusedSimpArgs false
namespace Go.Sl
open Go
section ops
variable {P : Program} {B : Base} {N : Nat} {ops rest : List Oper} {F : Fr} {A : List Asn} {K : Fr → List Asn → Prop}
variable {T : TypeId} {pos : String} {aft : Array Edge} {d : Tmp} {fm : Fm} {x y : Operand} {U V : TypeId}
/-- A text as bytes of its own. -/
theorem yx {e : Nat} {s : ByteArray} [h1 : TStr P U] [h2 : TSl P V e] [h3 : TInt P e .u8] (hk : kindB fm (some d) (.convert U V x) = 2 := by decide) (hd : Nat.blt d N = true := by exact rfl) (hx : ev F x = .string s := by exact rfl)
    (k : ∀ r cap zs, s.size ≤ cap → zs.length = cap - s.size → Wl P B N fm ops rest (upd F d (.slice (some ⟨r, 0, none⟩) s.size cap)) (pt r (.cells (s.data.toList.map byteV ++ zs).toArray e (cap, cap + 1)) :: A) K) :
    Wl P B N fm ops (⟨some d, .convert U V x, T, pos, aft, none⟩ :: rest) F A K :=
  xc rfl hk fun R hE a w hr hs => by
    have hrun := Lib.run_convert_string_bytes w U V e s (under_of_str h1.out) (under_of_sl h2.out) (under_of_int h3.out)
    have hcap : s.size ≤ grownCap w s.size 0 e := by unfold grownCap; simp only [Question.cut]; omega
    have hnew : (Lib.bytesWorld w e s).heap = w.heap.push (.cells (s.data.toList.map byteV ++ List.replicate (grownCap w s.size 0 e - s.size) (Value.int .u8 0)).toArray e (grownCap w s.size 0 e, grownCap w s.size 0 e + 1)) := by
      have hc : Lib.bytesCells w e s = (s.data.toList.map byteV ++ List.replicate (grownCap w s.size 0 e - s.size) (Value.int .u8 0)).toArray := by
        apply Array.ext'
        simp [Lib.bytesCells, byteV]
      have hcs : (Lib.bytesCells w e s).size = grownCap w s.size 0 e := by
        rw [hc]; simp
        have : s.data.size = s.size := rfl
        omega
      apply Array.ext_getElem?
      intro i
      rw [Array.getElem?_push]
      by_cases hi : i = w.heap.size
      · rw [if_pos hi, hi, Lib.bytesWorld_at_new, hcs, hc]
      · rw [if_neg hi]
        by_cases hl : i < w.heap.size
        · exact Lib.bytesWorld_at_old w e s i hl
        · rw [Array.getElem?_eq_none (by rw [Lib.bytesWorld_size]; omega), Array.getElem?_eq_none (by omega)]
    have hio : Io w (Lib.bytesWorld w e s) := by
      unfold Lib.bytesWorld World.freeze
      rw [if_neg (by decide)]
      exact ⟨rfl, rfl, rfl⟩
    have hs' := (hs.push hio hnew).perm (.swap ..)
    have he : (execOp (ev F) ⟨some d, .convert U V x, T, pos, aft, none⟩).run P w = .ok (.value (.slice (some ⟨w.heap.size, 0, none⟩) s.size (grownCap w s.size 0 e))) (Lib.bytesWorld w e s) := by
      simp [execOp, hx, hrun]
    rw [he, Oper.upY_value]
    exact ⟨hs'.hd, k _ _ _ hcap (by simp) R hE _ _ (hr.put (by simpa [Nat.blt_eq] using hd) _) hs'⟩
end ops
end Go.Sl
