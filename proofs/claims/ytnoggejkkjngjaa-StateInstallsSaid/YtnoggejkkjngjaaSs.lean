/- Slices of whatever address: parts of them, rows that are owned read as they are. No condition. -/
import Derived.Test.YtnoggejkkjngjaaSg
set_option linter.unusedVariables false
namespace Go.Sl
open Go
def slAdd (a : Option Addr) (cap l n : Nat) : Option Addr := if cap = l then a else a.map fun p => p.add (l * n)
section ops
variable {P : Program} {B : Base} {N : Nat} {ops rest : List Oper} {F : Fr} {A : List Asn} {K : Fr → List Asn → Prop}
variable {T : TypeId} {pos : String} {aft : Array Edge} {d : Tmp} {fm : Fm} {x y : Operand} {U V : TypeId}
theorem Wl_slice_any {E n len cap : Nat} {a : Option Addr} {lo hi : Option Operand} {l h : Nat} [h1 : TSl P U E] [h2 : TSize P E n] (hd : Nat.blt d N = true := by exact rfl) (hx : ev F x = .slice a len cap := by exact rfl)
    (hlo : match lo with | none => l = 0 | some o => ∃ k, ev F o = .int k l := by first | exact rfl | exact ⟨_, rfl⟩) (hhi : match hi with | none => h = len | some o => ∃ k, ev F o = .int k h := by first | exact rfl | exact ⟨_, rfl⟩) (hlh : l ≤ h := by omega) (hhc : h ≤ cap := by omega)
    (k' : Wl P B N fm ops rest (upd F d (.slice (slAdd a cap l n) (h - l) (cap - l))) A K) :
    Wl P B N fm ops (⟨some d, .slice U x lo hi none, T, pos, aft, none⟩ :: rest) F A K := Wl_valP hd (fun w => by
      have hb : ∀ s, (Instr.sliceBounds s len cap (lo.map (ev F)) (hi.map (ev F)) none).run P w = .ok (l, h, cap) w := by
        intro s
        cases lo with
        | none =>
          cases hi with
          | none => simp only at hlo hhi; subst hlo hhi; simp [Instr.sliceBounds]
          | some o =>
            obtain ⟨k, hk⟩ := hhi; simp only at hlo; subst hlo
            simp [Instr.sliceBounds, run_bound (P := P) (w := w) hk (Int.natCast_nonneg _) (Int.ofNat_le.2 hhc)]
        | some p =>
          obtain ⟨j, hj⟩ := hlo
          cases hi with
          | none =>
            simp only at hhi; subst hhi
            simp [Instr.sliceBounds, run_bound (P := P) (w := w) hj (Int.natCast_nonneg _) (Int.ofNat_le.2 hlh)]
          | some o =>
            obtain ⟨k, hk⟩ := hhi
            simp [Instr.sliceBounds, run_bound (P := P) (w := w) hk (Int.natCast_nonneg _) (Int.ofNat_le.2 hhc), run_bound (P := P) (w := w) hj (Int.natCast_nonneg _) (Int.ofNat_le.2 hlh)]
      simp [execOp, hx, Instr.sliceAt, Instr.slice, run_under w U (under_of_sl h1.out), hb, run_sizeOf w E h2.out, slAdd]) k'
theorem Wl_slice_any0 {E n len cap : Nat} {a : Option Addr} {hi : Option Operand} {h : Nat} [h1 : TSl P U E] [h2 : TSize P E n] (hd : Nat.blt d N = true := by exact rfl) (hx : ev F x = .slice a len cap := by exact rfl)
    (hhi : match hi with | none => h = len | some o => ∃ k, ev F o = .int k h := by first | exact rfl | exact ⟨_, rfl⟩) (hhc : h ≤ cap := by omega)
    (k' : Wl P B N fm ops rest (upd F d (.slice a h cap)) A K) :
    Wl P B N fm ops (⟨some d, .slice U x none hi none, T, pos, aft, none⟩ :: rest) F A K :=
  Wl_slice_any (l := 0) (h := h) hd hx rfl hhi (Nat.zero_le _) hhc (by
    have e : slAdd a cap 0 n = a := by unfold slAdd; split; rfl; cases a <;> simp [Addr.add]
    simpa [e] using k')
theorem RdS.cut {sz m c l h : Nat} {a : Option Addr} {vs : List Value} (hr : RdS P B A sz a m c vs) (hl : l ≤ h) (hh : h ≤ m) : RdS P B A sz (slAdd a c l sz) (h - l) (c - l) ((vs.drop (l * sz)).take ((h - l) * sz)) := by
  have hcap := hr.cap
  have hle : h * sz ≤ m * sz := Nat.mul_le_mul_right _ hh
  have hls : l * sz ≤ h * sz := Nat.mul_le_mul_right _ hl
  have hsub : (h - l) * sz = h * sz - l * sz := Nat.sub_mul ..
  have hlen := hr.len
  refine ⟨by rw [List.length_take, List.length_drop]; omega, fun e => ?_, by omega, fun w hs => ⟨rfl, fun n hn => ?_⟩⟩
  · unfold slAdd at e
    split at e
    · omega
    · cases a with
      | none => have := hr.nil rfl; omega
      | some p => cases e
  · have hnn : n * sz ≤ (h - l) * sz := Nat.mul_le_mul_right _ hn
    rw [List.take_take, Nat.min_eq_left hnn]
    unfold slAdd
    cases a with
    | none =>
      have := hr.nil rfl
      have hm : m * sz = 0 := by rw [this, Nat.zero_mul]
      have : vs = [] := List.length_eq_zero_iff.1 (by omega)
      subst this
      split <;> simp [Builtin.firstCells]
    | some p =>
      split
      · have h0 : n * sz = 0 := by
          have : n = 0 := by omega
          rw [this, Nat.zero_mul]
        rw [h0]
        simp [Builtin.firstCells, h0, loadCells, loadCellsFrom]
      · have := rds_loadsG hr hs (j := l * sz) (n := n * sz) (cs := (vs.drop (l * sz)).take (n * sz)) rfl (by rw [List.length_take, List.length_drop]; omega)
        simpa [Builtin.firstCells] using this
theorem RdS.take {sz m c h : Nat} {a : Option Addr} {vs : List Value} (hr : RdS P B A sz a m c vs) (hh : h ≤ m) : RdS P B A sz a h c (vs.take (h * sz)) := by
  have e : slAdd a c 0 sz = a := by unfold slAdd; split; rfl; cases a <;> simp [Addr.add]
  have := hr.cut (Nat.zero_le h) hh
  simpa [e] using this
/-- What is known of a row that is owned. -/
structure OwnF (a : Option Addr) (len cap sz : Nat) (cs : List Value) : Prop where
  e1 : cs.length = len * sz
  e2 : len ≤ cap
  e3 : a = none → len = 0
theorem OwnF.some {a : Option Addr} {len cap sz : Nat} {cs : List Value} (h : OwnF a len cap sz cs) (hl : 0 < len) : ∃ p, a = some p := by
  cases a with
  | none => have := h.e3 rfl; omega
  | some p => exact ⟨p, rfl⟩
theorem OwnF.rd {a : Option Addr} {len cap sz : Nat} {cs : List Value} {E : TypeId} {M : List Asn} (h : OwnF a len cap sz cs) (ho : Out (own a len cap sz cs E) A M) : RdS P B A sz a len cap cs :=
  ⟨h.e1, h.e3, h.e2, src_out ho h.e1⟩
theorem own_ownF {w : World} {a : Option Addr} {len cap sz : Nat} {cs : List Value} {E : TypeId} {L : List Asn} (h0 : 0 < sz) (hs : Sat B w (own a len cap sz cs E :: L)) : OwnF a len cap sz cs := by
  rcases own_open hs.own with ⟨e1, e2, e3, e4, _⟩ | ⟨r, spare, e1, e2, e3, _⟩
  · exact ⟨by simp [e2, e4], by omega, fun _ => e2⟩
  · refine ⟨e2, ?_, fun e => by rw [e] at e1; cases e1⟩
    have : len * sz ≤ cap * sz := by rw [← e2, ← e3]; simp
    exact Nat.le_of_mul_le_mul_right this h0
theorem Wc_ownF {c : Code} {Q : Exit → Fr → List Asn → Prop} {a : Option Addr} {len cap sz : Nat} {cs : List Value} {E : TypeId} {M : List Asn} (ho : Out (own a len cap sz cs E) A M := by (repeat (first | exact Out.head | apply Out.tail)); (first | done | fail)) (h0 : 0 < sz := by omega)
    (h : OwnF a len cap sz cs → Wc P B N c F A Q) : Wc P B N c F A Q := fun ro R ac w hk hr hs =>
  h (own_ownF (B := B) (w := w) h0 ((hs.perm (ho.perm.cons R)).perm (.swap ..))) ro R ac w hk hr hs
theorem Wl_ownF {l : List Oper} {a : Option Addr} {len cap sz : Nat} {cs : List Value} {E : TypeId} {M : List Asn} (ho : Out (own a len cap sz cs E) A M := by (repeat (first | exact Out.head | apply Out.tail)); (first | done | fail)) (h0 : 0 < sz := by omega)
    (h : OwnF a len cap sz cs → Wl P B N fm ops l F A K) : Wl P B N fm ops l F A K := fun R hE ac w hr hs =>
  h (own_ownF (B := B) (w := w) h0 ((hs.perm (ho.perm.cons R)).perm (.swap ..))) R hE ac w hr hs
/-- append(x, y...), y whatever can be read. -/
theorem Wl_appendR {E E3 sz by_ len cap m c : Nat} {z cs vs : List Value} {a b : Option Addr} {M : List Asn} [h1 : TSl P U E] [h2 : TSize P E sz] [h3 : TBytes P E by_] [h4 : TZero P E z] [h5 : TSl P V E3]
    (hd : Nat.blt d N = true := by exact rfl) (hx : ev F x = .slice a len cap := by exact rfl) (hy : Ev F y (.slice b m c) := by (repeat (first | exact Ev.here | exact Ev.const | exact Ev.arg rfl | apply Ev.there rfl | exact Ev.none rfl | exact Ev.func | exact Ev.var)); (first | done | fail)) (hzl : z.length = sz := by exact rfl) (hby : 0 < by_ := by omega)
    (ho : Out (own a len cap sz cs E) A M := by (repeat (first | exact Out.head | apply Out.tail)); (first | done | fail)) (hsrc : RdS P B A sz b m c vs) (hvc : vs.all isCell = true := by first | rfl | assumption | (simp only [List.all_cons, List.all_nil, Bool.and_eq_true, Bool.and_true, cInt, cBool, cStr, cPtr, cSl, cByte, true_and, and_true] at *; first | done | assumption | simp only [*, and_self]) | simp [isCell, byteV]) (hbd : (3 * (len + m) + 2000) * by_ ≤ 281474976710656 ∨ (cap = 0 ∧ (len + m) * by_ ≤ 281474976710656))
    (k : ∀ a' cap', Wl P B N fm ops rest (upd F d (.slice a' (len + m) cap')) (own a' (len + m) cap' sz (cs ++ vs) E :: M) K) :
    Wl P B N fm ops (⟨some d, .call ⟨.builtin .append, #[x, y], #[U, V]⟩, T, pos, aft, none⟩ :: rest) F A K :=
  Wl_appendV hd hx hy hzl hby ho hsrc.src hsrc.len hvc hbd k
theorem Wl_str_leq {a b : ByteArray} (hd : Nat.blt d N = true := by exact rfl) (hx : ev F x = .string a := by exact rfl) (hy : ev F y = .string b := by exact rfl) (k' : Wl P B N fm ops rest (upd F d (.bool (Op.bytesLess a.toList b.toList || a.toList == b.toList))) A K) :
    Wl P B N fm ops (⟨some d, .binOp .leq U x y V, T, pos, aft, none⟩ :: rest) F A K := Wl_valP hd (fun w => by simp [execOp, hx, hy, eqGuard, binOp, Op.stringOp]) k'
theorem Wl_str_geq {a b : ByteArray} (hd : Nat.blt d N = true := by exact rfl) (hx : ev F x = .string a := by exact rfl) (hy : ev F y = .string b := by exact rfl) (k' : Wl P B N fm ops rest (upd F d (.bool (!Op.bytesLess a.toList b.toList))) A K) :
    Wl P B N fm ops (⟨some d, .binOp .geq U x y V, T, pos, aft, none⟩ :: rest) F A K := Wl_valP hd (fun w => by simp [execOp, hx, hy, eqGuard, binOp, Op.stringOp]) k'
end ops
end Go.Sl
