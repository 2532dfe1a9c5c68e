/- The rules of the single operations over the logic of XSl. No condition. -/
import Derived.Test.YtnoggejkkjngjaaGreatK2
import Derived.WalkSpells
import Derived.WalkLawsBesides
set_option linter.unusedVariables false
namespace Go.Sl
open Go

/-! ### What is asked of the program's types: closed facts, told by classes -/
def fieldOf (P : Program) (s i : Nat) : Option (Nat × Nat × Nat) :=
  match P.underlying s with
  | some (.struct fs) => (fs[i]?).bind fun f => (P.info? f.type).map fun t => (f.offset, f.type, t.size)
  | _ => none
def tSize (P : Program) (T : Nat) : Option Nat := (P.info? T).map (·.size)
def tBytes (P : Program) (T : Nat) : Option Nat := (P.info? T).map (·.bytes)
def slOf (P : Program) (T : Nat) : Option Nat := match P.underlying T with | some (.slice e) => some e | _ => none
def arrOf (P : Program) (T : Nat) : Option (Nat × Nat) := match P.underlying T with | some (.array n e) => some (n, e) | _ => none
def aggOf (P : Program) (T : Nat) : Option Bool := match P.underlying T with | some (.struct _) | some (.array _ _) => some true | some _ => some false | none => none
def zeroOf (P : Program) (T : Nat) : Option (List Value) := (P.info? T).bind fun i => i.zero.map fun v => v.cells.toList
def strOf (P : Program) (T : Nat) : Bool := match P.underlying T with | some .string => true | _ => false
def intOf' (P : Program) (T : Nat) : Option IntKind := match P.underlying T with | some (.int k) => some k | _ => none
def ptrOf (P : Program) (T : Nat) : Option Nat := match P.underlying T with | some (.pointer e) => some e | _ => none
def mapOf (P : Program) (T : Nat) : Option (Nat × Nat) := match P.underlying T with | some (.map k e) => some (k, e) | _ => none
def structOf (P : Program) (T : Nat) : Option (List (Nat × Nat)) :=
  match P.underlying T with | some (.struct fs) => some (fs.toList.map fun f => (f.offset, ((P.info? f.type).map (·.size)).getD 0)) | _ => none

class FieldOff (P : Program) (s i : Nat) (off ft n : outParam Nat) : Prop where out : fieldOf P s i = some (off, ft, n)
class TSize (P : Program) (T : Nat) (n : outParam Nat) : Prop where out : tSize P T = some n
class TBytes (P : Program) (T : Nat) (n : outParam Nat) : Prop where out : tBytes P T = some n
class TSl (P : Program) (T : Nat) (E : outParam Nat) : Prop where out : slOf P T = some E
class TArr (P : Program) (T : Nat) (n E : outParam Nat) : Prop where out : arrOf P T = some (n, E)
class TAgg (P : Program) (T : Nat) : Prop where out : aggOf P T = some true
class TCell (P : Program) (T : Nat) : Prop where out : aggOf P T = some false
class TZero (P : Program) (T : Nat) (z : outParam (List Value)) : Prop where out : zeroOf P T = some z
class TStr (P : Program) (T : Nat) : Prop where out : strOf P T = true
class TInt (P : Program) (T : Nat) (k : outParam IntKind) : Prop where out : intOf' P T = some k
class TPtr (P : Program) (T : Nat) (E : outParam Nat) : Prop where out : ptrOf P T = some E
class TMap (P : Program) (T : Nat) (K E : outParam Nat) : Prop where out : mapOf P T = some (K, E)
class TStruct (P : Program) (T : Nat) (fs : outParam (List (Nat × Nat))) : Prop where out : structOf P T = some fs

section types
variable {P : Program} (w : World)
theorem run_sizeOf (T : Nat) {n : Nat} (h : tSize P T = some n) : (sizeOf T).run P w = .ok n w := by
  unfold tSize at h
  cases hi : P.info? T with
  | none => simp [hi] at h
  | some i => simp [hi] at h; simp [sizeOf, typeInfo, program, Sem.run, hi, h]
theorem run_under (T : Nat) {d : TypeDesc} (h : P.underlying T = some d) : (underlying T).run P w = .ok d w := by simp [underlying, program, Sem.run, h]
theorem run_isAgg (T : Nat) {b : Bool} (h : aggOf P T = some b) : (isAgg T).run P w = .ok b w := by
  unfold aggOf at h
  cases hu : P.underlying T with
  | none => simp [hu] at h
  | some d => simp [isAgg, run_under w T hu]; cases d <;> simp_all
theorem run_zero (T : Nat) {z : List Value} (h : zeroOf P T = some z) : ∃ v, (zeroValue T).run P w = .ok v w ∧ v.cells = z.toArray := by
  unfold zeroOf at h
  cases hi : P.info? T with
  | none => simp [hi] at h
  | some i =>
    cases hz : i.zero with
    | none => simp [hi, hz] at h
    | some v => simp [hi, hz] at h; exact ⟨v, by simp [zeroValue, typeInfo, program, Sem.run, hi, hz], by rw [← h]⟩
theorem under_of_sl {T E : Nat} (h : slOf P T = some E) : P.underlying T = some (.slice E) := by
  unfold slOf at h; split at h <;> simp_all
theorem under_of_str {T : Nat} (h : strOf P T = true) : P.underlying T = some .string := by
  unfold strOf at h; split at h <;> simp_all
theorem under_of_int {T : Nat} {k : IntKind} (h : intOf' P T = some k) : P.underlying T = some (.int k) := by
  unfold intOf' at h; split at h <;> simp_all
theorem under_of_ptr {T E : Nat} (h : ptrOf P T = some E) : P.underlying T = some (.pointer E) := by
  unfold ptrOf at h; split at h <;> simp_all
theorem under_of_map {T K E : Nat} (h : mapOf P T = some (K, E)) : P.underlying T = some (.map K E) := by
  unfold mapOf at h; split at h <;> simp_all
end types

/-! ### Lists of operations -/
section ops
variable {P : Program} {B : Base} {N : Nat} {ops rest : List Oper} {F : Fr} {A : List Asn} {K : Fr → List Asn → Prop}
variable {T : TypeId} {pos : String} {aft : Array Edge} {d : Tmp} {fm : Fm}

theorem yB {l : List Oper} {A' : List Asn} (he : Ent A A') (h : Wl P B N fm ops l F A' K) : Wl P B N fm ops l F A K := fun R hE a w hr hs => h R hE a w hr (hs.entR he)
theorem xY {l : List Oper} {α : Type} {f : α → List Asn} (h : ∀ x, Wl P B N fm ops l F (f x ++ A) K) : Wl P B N fm ops l F (exN f :: A) K :=
  fun R hE a w hr hs => let ⟨x, hx⟩ := exN_open_sat hs; h x R hE a w hr hx
theorem zD (h : K F A) : Wl P B N fm ops [] F A K := fun R hE a w hr hs => ⟨rfl, F, A, hr, hs, h⟩

theorem X_of_val {Inv : World → Prop} {o : Oper} {K' : Act → World → Prop} {a : Act} {w : World} {v : Value} (hI : Inv w) (hg : o.guard = none) (hrun : ∀ w, (execOp a.eval o).run P w = .ok (.value v) w) (k : K' (a.put o.dst v) w) :
    stepX P ops.toArray Inv fm o K' a w := by
  unfold stepX
  rw [if_pos (by simp [Region.wanted, hg])]
  unfold kstep
  split
  · exact ⟨v, fun w' _ => hrun w', k⟩
  · exact ⟨v, fun w' _ => hrun w', k⟩
  · unfold Oper.wpY; rw [hrun w, Oper.upY_value]; exact ⟨hI, fun _ => Ext.refl w, k⟩
theorem X_of_rd {Inv : World → Prop} {o : Oper} {K' : Act → World → Prop} {a : Act} {w : World} {v : Value} (hI : Inv w) (hg : o.guard = none) (hk : kindB fm o.dst o.op ≠ 0) (hrun : ∀ w', Ext w w' → (execOp a.eval o).run P w' = .ok (.value v) w') (k : K' (a.put o.dst v) w) :
    stepX P ops.toArray Inv fm o K' a w := by
  unfold stepX
  rw [if_pos (by simp [Region.wanted, hg])]
  unfold kstep
  split
  · rename_i h; exact absurd h hk
  · exact ⟨v, hrun, k⟩
  · unfold Oper.wpY; rw [hrun w (Ext.refl w), Oper.upY_value]; exact ⟨hI, fun _ => Ext.refl w, k⟩

theorem kindB_two {fm : Fm} {dd : Option Nat} {o : Op} (h : kindOf o = 2) : kindB fm dd o = 2 := by
  unfold kindB
  rw [h]; simp
theorem kindB_three {fm : Fm} {dd : Option Nat} {o : Op} (h : kindOf o = 3) : kindB fm dd o = 3 := by
  unfold kindB
  rw [h]; simp

theorem y0 {o : Oper} (hg : o.guard = none) (hk : kindOf o.op = 2) (h : ∀ R, Ent [R] (mOf fm) → ∀ a w, Rep N a F → Sat B w (R :: A) →
    (o.upY P a (fun a' w' => Sat B w' [R] ∧ X P ops.toArray (fun w => Sat B w [R]) fm (Lift B N R a.defers K) rest a' w') noQ ((execOp (ev F) o).run P w))) : Wl P B N fm ops (o :: rest) F A K :=
  fun R hE a w hr hs => by
    unfold X stepX
    rw [if_pos (by simp [Region.wanted, hg]), kindB_two hk]
    refine wpOper_mono (Q := noQ) (fun a' w' h => ?_) (fun _ _ _ _ h => h) (show o.wpY P a w (fun a' w' => Sat B w' [R] ∧ X P ops.toArray (fun w => Sat B w [R]) fm (Lift B N R a.defers K) rest a' w') noQ from ?_)
    · exact ⟨h.1, fun e => by omega, h.2⟩
    · unfold Oper.wpY
      rw [hr.eval]
      exact h R hE a w hr hs

theorem xc {o : Oper} (hg : o.guard = none) (hk : kindB fm o.dst o.op = 2) (h : ∀ R, Ent [R] (mOf fm) → ∀ a w, Rep N a F → Sat B w (R :: A) →
    (o.upY P a (fun a' w' => Sat B w' [R] ∧ X P ops.toArray (fun w => Sat B w [R]) fm (Lift B N R a.defers K) rest a' w') noQ ((execOp (ev F) o).run P w))) : Wl P B N fm ops (o :: rest) F A K :=
  fun R hE a w hr hs => by
    unfold X stepX
    rw [if_pos (by simp [Region.wanted, hg]), hk]
    refine wpOper_mono (Q := noQ) (fun a' w' h => ?_) (fun _ _ _ _ h => h) (show o.wpY P a w (fun a' w' => Sat B w' [R] ∧ X P ops.toArray (fun w => Sat B w [R]) fm (Lift B N R a.defers K) rest a' w') noQ from ?_)
    · exact ⟨h.1, fun e => by omega, h.2⟩
    · unfold Oper.wpY
      rw [hr.eval]
      exact h R hE a w hr hs

theorem xO {op : Op} {v : Value} (hk : kindOf op = 2) (hd : Nat.blt d N = true := by exact rfl) {A' : List Asn}
    (hrun : ∀ w R, Sat B w (R :: A) → ∃ w', (execOp (ev F) ⟨some d, op, T, pos, aft, none⟩).run P w = .ok (.value v) w' ∧ Sat B w' (R :: A'))
    (k : Wl P B N fm ops rest (upd F d v) A' K) : Wl P B N fm ops (⟨some d, op, T, pos, aft, none⟩ :: rest) F A K :=
  y0 rfl hk fun R hE a w hr hs => by
    obtain ⟨w', hw, hs'⟩ := hrun w R hs
    rw [hw, Oper.upY_value]
    exact ⟨hs'.hd, k R hE _ w' (hr.put (by simpa [Nat.blt_eq] using hd) v) hs'⟩

theorem xH {op : Op} {v : Value} (hk : kindB fm (some d) op ≠ 0 := by decide) (hd : Nat.blt d N = true := by exact rfl)
    (hrun : ∀ w R, Sat B w (R :: A) → (execOp (ev F) ⟨some d, op, T, pos, aft, none⟩).run P w = .ok (.value v) w)
    (k : Wl P B N fm ops rest (upd F d v) A K) : Wl P B N fm ops (⟨some d, op, T, pos, aft, none⟩ :: rest) F A K :=
  fun R hE a w hr hs => X_of_rd hs.hd rfl hk (fun w' he => by rw [hr.eval]; exact hrun w' R (hs.ext he)) (k R hE _ w (hr.put (by simpa [Nat.blt_eq] using hd) v) hs)
/-- Read out of the frame. -/
theorem xI {op : Op} {v : Value} {M : List Asn} {Ls : List Nat} (hd : Nat.blt d N = true := by exact rfl)
    (hrun : ∀ w R, Sat B w (R :: M) → (execOp (ev F) ⟨some d, op, T, pos, aft, none⟩).run P w = .ok (.value v) w)
    (k : Wl P B N (some (M, Ls)) ops rest (upd F d v) A K) : Wl P B N (some (M, Ls)) ops (⟨some d, op, T, pos, aft, none⟩ :: rest) F A K :=
  fun R hE a w hr hs => by
    have hr1 : ∀ w', Sat B w' [R] → (execOp a.eval ⟨some d, op, T, pos, aft, none⟩).run P w' = .ok (.value v) w' := fun w' h => by
      rw [hr.eval]
      have h1 : Sat B w' ((fun h => ∀ x, h x = none) :: M) := (h.ent hE).ent fun m U hm => ⟨fun _ => none, fun _ => rfl, by simp, hm.mono (by simp)⟩
      exact hrun w' _ h1
    have kk := k R hE _ w (hr.put (by simpa [Nat.blt_eq] using hd) v) hs
    unfold X stepX
    rw [if_pos (by simp [Region.wanted])]
    unfold kstep
    split
    · exact ⟨v, hr1, kk⟩
    · exact ⟨v, fun w' he => hr1 w' (hs.hd.ext he), kk⟩
    · unfold Oper.wpY; rw [hr1 w hs.hd, Oper.upY_value]; exact ⟨hs.hd, fun _ => Ext.refl w, kk⟩

theorem yA {op : Op} {v : Value} (hd : Nat.blt d N = true := by exact rfl)
    (hrun : ∀ w, (execOp (ev F) ⟨some d, op, T, pos, aft, none⟩).run P w = .ok (.value v) w)
    (k : Wl P B N fm ops rest (upd F d v) A K) : Wl P B N fm ops (⟨some d, op, T, pos, aft, none⟩ :: rest) F A K :=
  fun R hE a w hr hs => X_of_val hs.hd rfl (by rw [hr.eval]; exact hrun) (k R hE _ w (hr.put (by simpa [Nat.blt_eq] using hd) v) hs)

theorem yq {op : Op} {A' : List Asn} (hk : kindOf op = 2)
    (hrun : ∀ w R, Sat B w (R :: A) → ∃ w' n, (execOp (ev F) ⟨none, op, T, pos, aft, none⟩).run P w = .ok n w' ∧ (n = .skip ∨ ∃ v, n = .value v) ∧ Sat B w' (R :: A'))
    (k : Wl P B N fm ops rest F A' K) : Wl P B N fm ops (⟨none, op, T, pos, aft, none⟩ :: rest) F A K :=
  y0 rfl hk fun R hE a w hr hs => by
    obtain ⟨w', n, hw, hn, hs'⟩ := hrun w R hs
    rw [hw]
    rcases hn with rfl | ⟨v, rfl⟩
    · exact ⟨hs'.hd, k R hE _ w' hr hs'⟩
    · exact ⟨hs'.hd, k R hE _ w' hr hs'⟩

/-! guards -/
theorem zA {dst : Option Tmp} {op : Op} {j : Nat} {b : Bool} (hv : gval ops F j = .bool b := by exact rfl) (k : Wl P B N fm ops (⟨dst, op, T, pos, aft, none⟩ :: rest) F A K) :
    Wl P B N fm ops (⟨dst, op, T, pos, aft, some (j, b)⟩ :: rest) F A K := fun R hE a w hr hs => by
  have h := k R hE a w hr hs
  unfold X stepX at *
  rw [if_pos (by simp [Region.wanted])] at h
  rw [if_pos (by simp only [Region.wanted]; rw [yielded_of hr, hv]; simp)]
  exact h
/-- A guard that doesn't hold: nothing is done. -/
def gno : Value → Bool → Bool
  | .bool b', b => b' != b
  | _, _ => true
theorem gno_wanted {N : Nat} {a : Act} {F : Fr} {ops : List Oper} {j : Nat} {b : Bool} {dst : Option Tmp} {op : Op} {T : TypeId} {pos : String} {aft : Array Edge} (hr : Rep N a F) (h : gno (gval ops F j) b = true) :
    ¬ Region.wanted ⟨dst, op, T, pos, aft, some (j, b)⟩ (yielded ops.toArray a.tmps) = true := by
  simp only [Region.wanted]; rw [yielded_of hr]
  generalize gval ops F j = v at h
  cases v <;> simp_all [gno]
theorem zE {op : Op} {j : Nat} {b : Bool} (hd : Nat.blt d N = true := by exact rfl) (hv : gno (gval ops F j) b = true := by exact rfl) (k : Wl P B N fm ops rest (upd F d undef) A K) :
    Wl P B N fm ops (⟨some d, op, T, pos, aft, some (j, b)⟩ :: rest) F A K := fun R hE a w hr hs => by
  unfold X stepX
  rw [if_neg (gno_wanted hr hv)]
  exact k R hE _ w (hr.put (by simpa [Nat.blt_eq] using hd) undef) hs
theorem upd_same {F : Fr} {d : Nat} {v : Value} (h : F d = v) : upd F d v = F := by
  funext t
  show cond (Nat.beq t d) v (F t) = F t
  cases hb : Nat.beq t d with
  | true => rw [Nat.eq_of_beq_eq_true hb, h]; rfl
  | false => rfl
/-- A slot's truth value is settled: both cases, the slot said outright. -/
theorem xU {l : List Oper} {e : Nat} {t : Bool} (hv : F e = .bool t := by exact rfl) (yes : t = true → Wl P B N fm ops l (upd F e (.bool true)) A K)
    (no : t = false → Wl P B N fm ops l (upd F e (.bool false)) A K) : Wl P B N fm ops l F A K := by
  cases t with
  | true => have := yes rfl; rw [upd_same hv] at this; exact this
  | false => have := no rfl; rw [upd_same hv] at this; exact this
/-- Which slot does the next guard hang on? -/
def gslot (ops : List Oper) (j : Nat) : Option Nat := (ops[j]?).bind (·.dst)
theorem zG {dst : Option Tmp} {op : Op} {j : Nat} {b t : Bool} {e : Nat} (he : gslot ops j = some e := by exact rfl) (hv : F e = .bool t := by exact rfl)
    (yes : t = true → Wl P B N fm ops (⟨dst, op, T, pos, aft, some (j, b)⟩ :: rest) (upd F e (.bool true)) A K)
    (no : t = false → Wl P B N fm ops (⟨dst, op, T, pos, aft, some (j, b)⟩ :: rest) (upd F e (.bool false)) A K) :
    Wl P B N fm ops (⟨dst, op, T, pos, aft, some (j, b)⟩ :: rest) F A K := xU hv yes no

/-! moves -/
theorem zF {x : Operand} {v : Value} (hd : Nat.blt d N = true := by exact rfl) (hx : Ev F x v := by (repeat (first | exact Ev.here | exact Ev.const | exact Ev.arg rfl | apply Ev.there rfl | exact Ev.none rfl | exact Ev.func | exact Ev.var)); (first | done | fail)) (k : Wl P B N fm ops rest (upd F d v) A K) : Wl P B N fm ops (⟨some d, .move x, T, pos, aft, none⟩ :: rest) F A K :=
  yA hd (fun w => by simp [execOp, hx.eq]) k
theorem zH {x : Operand} {v : Value} (hd : Nat.blt d N = true := by exact rfl) (hx : Ev F x v := by (repeat (first | exact Ev.here | exact Ev.const | exact Ev.arg rfl | apply Ev.there rfl | exact Ev.none rfl | exact Ev.func | exact Ev.var)); (first | done | fail)) (k : Wl P B N fm ops rest (upd F d v) A K) : Wl P B N fm ops (⟨some d, .assign x, T, pos, aft, none⟩ :: rest) F A K :=
  yA hd (fun w => by simp [execOp, hx.eq]) k
theorem zZ {c x y : Operand} {v : Value} (hd : Nat.blt d N = true := by exact rfl) (hc : ev F c = .bool true := by exact rfl) (hx : Ev F x v := by (repeat (first | exact Ev.here | exact Ev.const | exact Ev.arg rfl | apply Ev.there rfl | exact Ev.none rfl | exact Ev.func | exact Ev.var)); (first | done | fail)) (k : Wl P B N fm ops rest (upd F d v) A K) :
    Wl P B N fm ops (⟨some d, .pick c x y, T, pos, aft, none⟩ :: rest) F A K := yA hd (fun w => by simp [execOp, hc, asBool, hx.eq]) k
theorem za {c x y : Operand} {v : Value} (hd : Nat.blt d N = true := by exact rfl) (hc : ev F c = .bool false := by exact rfl) (hy : Ev F y v := by (repeat (first | exact Ev.here | exact Ev.const | exact Ev.arg rfl | apply Ev.there rfl | exact Ev.none rfl | exact Ev.func | exact Ev.var)); (first | done | fail)) (k : Wl P B N fm ops rest (upd F d v) A K) :
    Wl P B N fm ops (⟨some d, .pick c x y, T, pos, aft, none⟩ :: rest) F A K := yA hd (fun w => by simp [execOp, hc, asBool, hy.eq]) k
theorem zg {c x y : Operand} {t : Bool} {v : Value} (hd : Nat.blt d N = true := by exact rfl) (hc : ev F c = .bool t := by exact rfl) (hv : (if t then ev F x else ev F y) = v := by exact rfl) (k : Wl P B N fm ops rest (upd F d v) A K) :
    Wl P B N fm ops (⟨some d, .pick c x y, T, pos, aft, none⟩ :: rest) F A K := yA hd (fun w => by subst hv; cases t <;> simp [execOp, hc, asBool]) k
theorem zJ {x : Operand} {p : Addr} (hd : Nat.blt d N = true := by exact rfl) (hx : ev F x = .pointer (some p) := by exact rfl) (k : Wl P B N fm ops rest (upd F d (.pointer (some p))) A K) :
    Wl P B N fm ops (⟨some d, .nilCheck x, T, pos, aft, none⟩ :: rest) F A K := yA hd (fun w => by simp [execOp, hx]) k
theorem zB {s i b off fo ft n : Nat} {x : Operand} [hf : FieldOff P s i fo ft n] (hd : Nat.blt d N = true := by exact rfl) (hx : ev F x = .pointer (some ⟨b, off, none⟩) := by exact rfl) (hn : Nat.beq n 0 = false := by exact rfl)
    (k : Wl P B N fm ops rest (upd F d (.pointer (some ⟨b, off + fo, none⟩))) A K) : Wl P B N fm ops (⟨some d, .fieldAddr s x i, T, pos, aft, none⟩ :: rest) F A K :=
  yA hd (fun w => by
    have h := hf.out
    unfold fieldOf at h
    split at h
    · rename_i fs hu
      cases hfi : fs[i]? with
      | none => simp [hfi] at h
      | some f =>
        cases hi : P.info? f.type with
        | none => simp [hfi, hi] at h
        | some t =>
          simp [hfi, hi] at h
          obtain ⟨h1, h2, h3⟩ := h
          have hs : (sizeOf f.type).run P w = .ok n w := run_sizeOf w _ (by simp [tSize, hi, h3])
          have hn0 : n ≠ 0 := fun e => by subst e; simp at hn
          have hadd : Addr.add ⟨b, off, none⟩ f.offset = ⟨b, off + fo, none⟩ := by
            subst h1; unfold Addr.add; split
            · simp
            · rfl
          simp [execOp, hx, Instr.fieldAt, run_under w s hu, hfi, Instr.sureAddr, fieldPlace, hs, hn0, hadd]
    · cases h) k

theorem cell_of_heap {w : World} {b off : Nat} {l : List Value} {E : TypeId} {fz : Nat × Nat} {v : Value} (h : w.heap[b]? = some (.cells l.toArray E fz)) (hv : l[off]? = some v) :
    w.cell? ⟨b, off, none⟩ = some v := by simp [World.cell?, h, hv]

/-- Where a block can be read. -/
structure Base.has (B : Base) (b : Nat) (l : List Value) (E : TypeId) (fz : Nat × Nat) : Prop where
  lt : B.In b
  eq : B.H b = some (.cells l.toArray E fz)
inductive Rd (B : Base) (b : Nat) (l : List Value) (E : TypeId) (fz : Nat × Nat) : List Asn → Prop
  | head {A : List Asn} : Rd B b l E fz (pt b (.cells l.toArray E fz) :: A)
  | tail {a : Asn} {A : List Asn} (h : Rd B b l E fz A) : Rd B b l E fz (a :: A)
  | base {A : List Asn} (h : B.has b l E fz) : Rd B b l E fz A
theorem Rd.heap {b : Nat} {l : List Value} {E : TypeId} {fz : Nat × Nat} {w : World} : ∀ {A : List Asn}, Rd B b l E fz A → Sat B w A → w.heap[b]? = some (.cells l.toArray E fz) := by
  intro A h
  induction h with
  | head => exact fun hs => (hs.get (List.mem_cons_self ..)).2
  | tail _ ih => exact fun hs => ih (hs.ent (Ent.drop _))
  | base h => exact fun hs => by rw [hs.base _ h.lt]; exact h.eq

theorem zM {b off : Nat} {l : List Value} {E U : TypeId} {fz : Nat × Nat} {v : Value} {x : Operand} [ht : TCell P U] (hk : kindB fm (some d) (.load U x) ≠ 0 := by decide) (hd : Nat.blt d N = true := by exact rfl)
    (hx : ev F x = .pointer (some ⟨b, off, none⟩) := by exact rfl) (hr : Rd B b l E fz A := by (repeat (first | exact Rd.head | exact Rd.base (by assumption) | apply Rd.tail)); (first | done | fail)) (hv : l[off]? = some v := by exact rfl)
    (k : Wl P B N fm ops rest (upd F d v) A K) : Wl P B N fm ops (⟨some d, .load U x, T, pos, aft, none⟩ :: rest) F A K :=
  xH hk hd (fun w R hs => by
    have hc := cell_of_heap (hr.heap (hs.ent (Ent.drop _))) hv
    simp [execOp, hx, Instr.loadAt, Instr.sureAddr, loadVar, run_isAgg w U ht.out, hc]) k

theorem z2 {M : List Asn} {Ls : List Nat} {b off : Nat} {l : List Value} {E U : TypeId} {fz : Nat × Nat} {v : Value} {x : Operand} [ht : TCell P U] (hd : Nat.blt d N = true := by exact rfl)
    (hx : ev F x = .pointer (some ⟨b, off, none⟩) := by exact rfl) (hr : Rd B b l E fz M := by (repeat (first | exact Rd.head | exact Rd.base (by assumption) | apply Rd.tail)); (first | done | fail)) (hv : l[off]? = some v := by exact rfl)
    (k : Wl P B N (some (M, Ls)) ops rest (upd F d v) A K) : Wl P B N (some (M, Ls)) ops (⟨some d, .load U x, T, pos, aft, none⟩ :: rest) F A K :=
  xI hd (fun w R hs => by
    have hc := cell_of_heap (hr.heap (hs.ent (Ent.drop _))) hv
    simp [execOp, hx, Instr.loadAt, Instr.sureAddr, loadVar, run_isAgg w U ht.out, hc]) k

theorem run_loadCellsFrom (P : Program) (w : World) (a : Addr) : ∀ (vs : List Value) (i : Nat) (acc : Array Value), (∀ j v, vs[j]? = some v → w.cell? (a.add (i + j)) = some v) →
    (loadCellsFrom a i vs.length acc).run P w = .ok (acc ++ vs.toArray) w
  | [], i, acc, _ => by simp [loadCellsFrom]
  | v :: vs, i, acc, h => by
    have h0 : w.cell? (a.add i) = some v := h 0 v rfl
    have := run_loadCellsFrom P w a vs (i + 1) (acc.push v) (fun j x hx => by have := h (j + 1) x (by simpa using hx); rwa [show i + 1 + j = i + (j + 1) by omega])
    simp only [loadCellsFrom, List.length_cons, Sem.run_bind, run_load, h0, Result.andThen_ok, this]
    simp

theorem addr_add (b off n : Nat) : Addr.add ⟨b, off, none⟩ n = ⟨b, off + n, none⟩ := by
  unfold Addr.add; split
  · simp
  · rfl

theorem run_loadCells (P : Program) (w : World) {b off n : Nat} {l : List Value} {E : TypeId} {fz : Nat × Nat} (h : w.heap[b]? = some (.cells l.toArray E fz)) (hn : off + n ≤ l.length) :
    (loadCells ⟨b, off, none⟩ n).run P w = .ok ((l.drop off).take n).toArray w := by
  have hl : ((l.drop off).take n).length = n := by simp; omega
  have := run_loadCellsFrom P w ⟨b, off, none⟩ ((l.drop off).take n) 0 #[] (fun j v hv => by
    rw [addr_add]
    refine cell_of_heap h ?_
    rw [List.getElem?_take] at hv
    split at hv
    · rw [List.getElem?_drop] at hv; rw [show off + (0 + j) = off + j by omega]; exact hv
    · cases hv)
  rw [hl] at this
  unfold loadCells
  rw [this]; simp

theorem z5 {b off n : Nat} {l cs : List Value} {E U : TypeId} {fz : Nat × Nat} {x : Operand} [ht : TAgg P U] [hz : TSize P U n] (hk : kindB fm (some d) (.load U x) ≠ 0 := by decide) (hd : Nat.blt d N = true := by exact rfl)
    (hx : ev F x = .pointer (some ⟨b, off, none⟩) := by exact rfl) (hr : Rd B b l E fz A := by (repeat (first | exact Rd.head | exact Rd.base (by assumption) | apply Rd.tail)); (first | done | fail)) (hv : off + n ≤ l.length) (hc : (l.drop off).take n = cs)
    (k : Wl P B N fm ops rest (upd F d (.agg cs.toArray)) A K) : Wl P B N fm ops (⟨some d, .load U x, T, pos, aft, none⟩ :: rest) F A K :=
  xH hk hd (fun w R hs => by
    have hc' := run_loadCells P w (hr.heap (hs.ent (Ent.drop _))) hv
    subst hc
    simp [execOp, hx, Instr.loadAt, Instr.sureAddr, loadVar, run_isAgg w U ht.out, run_sizeOf w U hz.out, hc']) k

/-- A block of the list is turned. -/
inductive Upd (b : Nat) (o o' : Obj) : List Asn → List Asn → Prop
  | head {A : List Asn} : Upd b o o' (pt b o :: A) (pt b o' :: A)
  | tail {a : Asn} {A A' : List Asn} (h : Upd b o o' A A') : Upd b o o' (a :: A) (a :: A')
theorem Upd.perm {b : Nat} {o o' : Obj} {A A' : List Asn} (h : Upd b o o' A A') : ∃ M, A.Perm (pt b o :: M) ∧ A'.Perm (pt b o' :: M) := by
  induction h with
  | head => exact ⟨_, .refl _, .refl _⟩
  | @tail a A A' _ ih => obtain ⟨M, h1, h2⟩ := ih; exact ⟨a :: M, (h1.cons a).trans (.swap ..), (h2.cons a).trans (.swap ..)⟩
theorem Upd.sat {b : Nat} {o o' : Obj} {A A' : List Asn} (h : Upd b o o' A A') {R : Asn} {w w' : World} (hio : Io w w') (hsz : w.heap.size = w'.heap.size) (hne : ∀ x, x ≠ b → w'.heap[x]? = w.heap[x]?)
    (hb : w'.heap[b]? = some o') (hs : Sat B w (R :: A)) : Sat B w' (R :: A') := by
  obtain ⟨M, h1, h2⟩ := h.perm
  have hs1 : Sat B w (pt b o :: R :: M) := hs.perm ((h1.cons R).trans (.swap ..))
  exact (hs1.put hio hsz hne hb).perm ((List.Perm.swap ..).trans (h2.symm.cons R))
theorem Upd.mem {b : Nat} {o o' : Obj} {A A' : List Asn} (h : Upd b o o' A A') : pt b o ∈ A := by
  obtain ⟨M, h1, _⟩ := h.perm
  exact h1.mem_iff.2 (List.mem_cons_self ..)

def isCell : Value → Bool
  | .agg _ | .tuple _ => false
  | _ => true
def setL (l : List Value) (off : Nat) : List Value → List Value
  | [] => l
  | v :: vs => setL (l.set off v) (off + 1) vs

theorem setL_mid : ∀ (vs p m s : List Value), m.length = vs.length → setL (p ++ (m ++ s)) p.length vs = p ++ (vs ++ s)
  | [], p, m, s, h => by obtain rfl := List.length_eq_zero_iff.1 h; rfl
  | v :: vs, p, m, s, h => by
    cases m with
    | nil => simp at h
    | cons x m =>
      have h1 : (p ++ (x :: m ++ s)).set p.length v = (p ++ [v]) ++ (m ++ s) := by simp
      have h2 := setL_mid vs (p ++ [v]) m s (by simpa using h)
      rw [setL, h1]
      have h3 : (p ++ [v]).length = p.length + 1 := by simp
      rw [h3] at h2
      rw [h2]; simp
theorem setL_eq (vs l : List Value) (off : Nat) (h : off + vs.length ≤ l.length) : setL l off vs = l.take off ++ (vs ++ l.drop (off + vs.length)) := by
  have h1 : l = l.take off ++ ((l.drop off).take vs.length ++ l.drop (off + vs.length)) := by
    rw [← List.drop_drop, List.take_append_drop, List.take_append_drop]
  have h2 := setL_mid vs (l.take off) ((l.drop off).take vs.length) (l.drop (off + vs.length)) (by simp; omega)
  rw [← h1, List.length_take, Nat.min_eq_left (by omega)] at h2
  exact h2

theorem run_store1 (P : Program) (w : World) {b off : Nat} {l : List Value} {E : TypeId} {fz : Nat × Nat} {v : Value} (h : w.heap[b]? = some (.cells l.toArray E fz)) (ho : off < l.length)
    (hz : ¬ (fz.1 ≤ off ∧ off < fz.2)) (hv : isCell v = true) :
    (store ⟨b, off, none⟩ v).run P w = .ok () (w.setCell ⟨b, off, none⟩ v) := by
  have hc : w.cell? ⟨b, off, none⟩ = some l[off] := cell_of_heap h (by simp [ho])
  have hf : w.frozen? ⟨b, off, none⟩ = false := by simp [World.frozen?, h]; omega
  cases v <;> first | (simp [isCell] at hv; done) | simp [store, Sem.run, hc, hf]
theorem setCell_heap {w : World} {b off : Nat} {l : List Value} {E : TypeId} {fz : Nat × Nat} (v : Value) (h : w.heap[b]? = some (.cells l.toArray E fz)) :
    (w.setCell ⟨b, off, none⟩ v).heap[b]? = some (.cells (l.set off v).toArray E fz) := by
  have hb := (Array.getElem?_eq_some_iff.1 h)
  simp [World.setCell, Array.getElem?_modify, h]
theorem setCell_ne {w : World} {b off x : Nat} (v : Value) (h : x ≠ b) : (w.setCell ⟨b, off, none⟩ v).heap[x]? = w.heap[x]? := by
  simp [World.setCell, Array.getElem?_modify, Ne.symm h]
theorem setCell_size {w : World} {a : Addr} (v : Value) : (w.setCell a v).heap.size = w.heap.size := by simp [World.setCell]

theorem run_storeCells (P : Program) {b off : Nat} {E : TypeId} {fz : Nat × Nat} : ∀ (vs : List Value) (i : Nat) (w : World) (l : List Value), w.heap[b]? = some (.cells l.toArray E fz) →
    off + i + vs.length ≤ l.length → (∀ j, off + i ≤ j → j < off + i + vs.length → ¬ (fz.1 ≤ j ∧ j < fz.2)) → vs.all isCell = true →
    ∃ w', (storeCells ⟨b, off, none⟩ vs i).run P w = .ok () w' ∧ Io w w' ∧ w'.heap.size = w.heap.size ∧ (∀ x, x ≠ b → w'.heap[x]? = w.heap[x]?) ∧ w'.heap[b]? = some (.cells (setL l (off + i) vs).toArray E fz)
  | [], i, w, l, h, _, _, _ => ⟨w, by simp [storeCells], Io.refl w, rfl, fun _ _ => rfl, h⟩
  | v :: vs, i, w, l, h, hl, hz, hc => by
    simp only [List.length_cons] at hl hz
    simp only [List.all_cons, Bool.and_eq_true] at hc
    have h1 := run_store1 P w (off := off + i) h (by omega) (hz _ (Nat.le_refl _) (by omega)) hc.1
    obtain ⟨w', hw, hio, hsz, hne, hb⟩ := run_storeCells P (off := off) vs (i + 1) _ _ (setCell_heap (off := off + i) v h) (by simp; omega) (fun j h1 h2 => hz j (by omega) (by omega)) hc.2
    refine ⟨w', ?_, (Io.refl _ : Io w (w.setCell _ _)).trans hio, by rw [hsz, setCell_size], fun x hx => by rw [hne x hx, setCell_ne v hx], hb⟩
    simp only [storeCells, addr_add, Sem.run_bind, h1, Result.andThen_ok]
    exact hw

/-- A cell of a row is turned, told outright where the row is written out. -/
inductive SetAt : List Value → Nat → Value → List Value → Prop
  | zero {x v : Value} {l : List Value} : SetAt (x :: l) 0 v (v :: l)
  | succ {x v : Value} {l l' : List Value} {n : Nat} (h : SetAt l n v l') : SetAt (x :: l) (n + 1) v (x :: l')
  | gen {l : List Value} {n : Nat} {v : Value} (h : n < l.length) : SetAt l n v (l.set n v)
theorem SetAt.out {l l' : List Value} {n : Nat} {v : Value} (h : SetAt l n v l') : n < l.length ∧ l' = l.set n v := by
  induction h with
  | zero => simp
  | succ _ ih => simp [ih.1]; exact ih.2
  | gen h => exact ⟨h, rfl⟩
theorem zy {b off : Nat} {l l' : List Value} {E U : TypeId} {fz : Nat × Nat} {v : Value} {x y : Operand} {A' : List Asn} {o' : Obj} [ht : TSize P U 1]
    (hx : ev F x = .pointer (some ⟨b, off, none⟩) := by exact rfl) (hy : Ev F y v := by (repeat (first | exact Ev.here | exact Ev.const | exact Ev.arg rfl | apply Ev.there rfl | exact Ev.none rfl | exact Ev.func | exact Ev.var)); (first | done | fail)) (hv : isCell v = true := by exact rfl)
    (hu : Upd b (.cells l.toArray E fz) o' A A' := by (repeat (first | exact Upd.head | apply Upd.tail)); (first | done | fail)) (hs : SetAt l off v l' := by (repeat (first | exact SetAt.zero | apply SetAt.succ)); (first | done | fail)) (ho : o' = .cells l'.toArray E fz) (hz : ¬ (fz.1 ≤ off ∧ off < fz.2) := by simp)
    (k : Wl P B N fm ops rest F A' K) : Wl P B N fm ops (⟨none, .store U x y, T, pos, aft, none⟩ :: rest) F A K :=
  yq rfl (fun w R hsat => by
    obtain ⟨hlt, rfl⟩ := hs.out
    subst ho
    have hh := (hsat.get (List.mem_cons_of_mem R hu.mem)).2
    refine ⟨w.setCell ⟨b, off, none⟩ v, .skip, ?_, .inl rfl, hu.sat (Io.refl w : Io w (w.setCell _ _)) (setCell_size v).symm (fun x hx => setCell_ne v hx) (setCell_heap v hh) hsat⟩
    have hcells : v.cells = #[v] := by cases v <;> first | rfl | simp [isCell] at hv
    have h1 := run_store1 P w (off := off) hh hlt hz hv
    simp [execOp, hx, hy.eq, Instr.storeAt, Instr.sureAddr, storeVar, run_sizeOf w U ht.out, hcells, storeCells, h1, Addr.add]) k

theorem y6 {b off n : Nat} {l cs : List Value} {E U : TypeId} {fz : Nat × Nat} {x y : Operand} {A' : List Asn} [ht : TSize P U n]
    (hx : ev F x = .pointer (some ⟨b, off, none⟩) := by exact rfl) (hy : ev F y = .agg cs.toArray := by exact rfl) (hv : cs.all isCell = true := by first | rfl | assumption | (simp only [List.all_cons, List.all_nil, Bool.and_eq_true, Bool.and_true, cInt, cBool, cStr, cPtr, cSl, cByte, true_and, and_true] at *; first | done | assumption | simp only [*, and_self]) | simp [isCell, byteV]) (hl : cs.length = n := by exact rfl)
    (hu : Upd b (.cells l.toArray E fz) (.cells (setL l off cs).toArray E fz) A A' := by (repeat (first | exact Upd.head | apply Upd.tail)); (first | done | fail)) (ho : off + n ≤ l.length) (hz : ∀ j, off ≤ j → j < off + n → ¬ (fz.1 ≤ j ∧ j < fz.2))
    (k : Wl P B N fm ops rest F A' K) : Wl P B N fm ops (⟨none, .store U x y, T, pos, aft, none⟩ :: rest) F A K :=
  yq rfl (fun w R hs => by
    have hh := (hs.get (List.mem_cons_of_mem R hu.mem)).2
    obtain ⟨w', hw, hio, hsz, hne, hb⟩ := run_storeCells P (off := off) cs 0 w l hh (by omega) (fun j h1 h2 => hz j (by omega) (by omega)) hv
    refine ⟨w', .skip, ?_, .inl rfl, hu.sat hio hsz.symm hne hb hs⟩
    simp [execOp, hx, hy, Instr.storeAt, Instr.sureAddr, storeVar, run_sizeOf w U ht.out, Value.cells, hl, hw]) k

/-! new blocks -/
theorem run_newRow (P : Program) (w : World) (E : TypeId) (cs : Array Value) : (newRow E cs).run P w = .ok ⟨w.heap.size, 0, none⟩ { w with heap := w.heap.push (.cells cs E) } := by
  simp [newRow, newObj, Sem.run]

theorem y8 {op : Op} {val : Nat → Value} {o : Obj} (hk : kindOf op = 3) (hd : Nat.blt d N = true := by exact rfl)
    (hrun : ∀ w R, Sat B w (R :: A) → ∃ w', (execOp (ev F) ⟨some d, op, T, pos, aft, none⟩).run P w = .ok (.value (val w.heap.size)) w' ∧ w'.heap = w.heap.push o ∧ Io w w')
    (k : ∀ r, Wl P B N fm ops rest (upd F d (val r)) (pt r o :: A) K) : Wl P B N fm ops (⟨some d, op, T, pos, aft, none⟩ :: rest) F A K := fun R hE a w hr hs => by
  obtain ⟨w', hw, hh, hio⟩ := hrun w R hs
  have hs' : Sat B w' (R :: pt w.heap.size o :: A) := (hs.push hio hh).perm (.swap ..)
  unfold X stepX
  rw [if_pos (by simp [Region.wanted])]
  show kstep P _ (kindB fm (some d) op) _ _ a w
  rw [kindB_three hk]
  show Oper.wpY P _ a w _ noQ
  unfold Oper.wpY
  rw [hr.eval, hw, Oper.upY_value]
  exact ⟨hs'.hd, fun _ => Ext.push hio hh, k w.heap.size R hE _ w' (hr.put (by simpa [Nat.blt_eq] using hd) _) hs'⟩

theorem zw {E : TypeId} {z : List Value} [hz : TZero P E z] (hd : Nat.blt d N = true := by exact rfl) (k : ∀ r, Wl P B N fm ops rest (upd F d (.pointer (some ⟨r, 0, none⟩))) (cb r z E :: A) K) :
    Wl P B N fm ops (⟨some d, .alloc E, T, pos, aft, none⟩ :: rest) F A K :=
  y8 (val := fun r => .pointer (some ⟨r, 0, none⟩)) rfl hd (fun w R hs => by
    obtain ⟨v, hv, hc⟩ := run_zero w E hz.out
    exact ⟨{ w with heap := w.heap.push (.cells z.toArray E) }, by simp [execOp, Instr.alloc, hv, newVar, run_newRow, hc], rfl, Io.refl w⟩) k
theorem xQ {E : TypeId} {x : Operand} {v : Value} {l : List Value} (hd : Nat.blt d N = true := by exact rfl) (hx : Ev F x v := by (repeat (first | exact Ev.here | exact Ev.const | exact Ev.arg rfl | apply Ev.there rfl | exact Ev.none rfl | exact Ev.func | exact Ev.var)); (first | done | fail)) (hl : v.cells = l.toArray := by exact rfl)
    (k : ∀ r, Wl P B N fm ops rest (upd F d (.pointer (some ⟨r, 0, none⟩))) (cb r l E :: A) K) :
    Wl P B N fm ops (⟨some d, .box E x, T, pos, aft, none⟩ :: rest) F A K :=
  y8 (val := fun r => .pointer (some ⟨r, 0, none⟩)) rfl hd (fun w R hs => ⟨{ w with heap := w.heap.push (.cells l.toArray E) }, by simp [execOp, Instr.box, hx.eq, newVar, run_newRow, hl], rfl, Io.refl w⟩) k

theorem zm {E : TypeId} {x : Operand} {l : List Value} (hd : Nat.blt d N = true := by exact rfl) (hx : Ev F x (.agg l.toArray) := by (repeat (first | exact Ev.here | exact Ev.const | exact Ev.arg rfl | apply Ev.there rfl | exact Ev.none rfl | exact Ev.func | exact Ev.var)); (first | done | fail))
    (k : ∀ r, Wl P B N fm ops rest (upd F d (.pointer (some ⟨r, 0, none⟩))) (cb r l E :: A) K) :
    Wl P B N fm ops (⟨some d, .box E x, T, pos, aft, none⟩ :: rest) F A K := xQ hd hx rfl k

/-! calls of Go functions -/
/-- A part of the list is taken out. -/
inductive Out (p : Asn) : List Asn → List Asn → Prop
  | head {A : List Asn} : Out p (p :: A) A
  | tail {a : Asn} {A M : List Asn} (h : Out p A M) : Out p (a :: A) (a :: M)
theorem Out.perm {p : Asn} {A M : List Asn} (h : Out p A M) : A.Perm (p :: M) := by
  induction h with
  | head => exact .refl _
  | tail _ ih => exact (ih.cons _).trans (.swap ..)

/-- Some atoms of the list go to the callee. -/
inductive Pick : List Asn → List Asn → List Asn → Prop
  | nil {A : List Asn} : Pick A [] A
  | cons {y : Asn} {A A' G M : List Asn} (h : Out y A A') (k : Pick A' G M) : Pick A (y :: G) M
theorem Pick.perm {A G M : List Asn} (h : Pick A G M) : A.Perm (G ++ M) := by
  induction h with
  | nil => exact .refl _
  | cons h _ ih => exact h.perm.trans (ih.cons _)

theorem xM {op : Op} {f : FuncId} {args : Array Value} {A1 M : List Asn} {post : Value → List Asn → Prop} (hk : kindOf op = 2) (hd : Nat.blt d N = true := by exact rfl)
    (hrun : ∀ w, (execOp (ev F) ⟨some d, op, T, pos, aft, none⟩).run P w = .ok (.enter f args) w)
    (hs : Fspec P B f args A1 post) (hp : A.Perm (A1 ++ M))
    (k : ∀ v A', post v A' → Wl P B N fm ops rest (upd F d v) (A' ++ M) K) : Wl P B N fm ops (⟨some d, op, T, pos, aft, none⟩ :: rest) F A K :=
  y0 rfl hk fun R hE a w hr hsat => by
    rw [hrun w, Oper.upY_enter]
    have h1 : Sat B w (lst (R :: M) :: A1) := (hsat.perm ((hp.cons R).trans (List.perm_middle.symm.trans List.perm_append_comm))).ent (Ent.lst_shut (R :: M) A1)
    refine (hs _ w h1).mono ?_
    rintro e w' ⟨v, A', rfl, hsat', hpost⟩
    have h2 : Sat B w' (R :: (A' ++ M)) := (hsat'.ent (Ent.lst_open (R :: M) A')).perm (List.perm_append_comm.cons R)
    exact ⟨h2.hd, k v A' hpost R hE _ w' (hr.put (by simpa [Nat.blt_eq] using hd) v) h2⟩
/-! what lies in the frame is read by a callee, too -/
/-- A piece of the heap is added to the base. -/
noncomputable def Base.with (B : Base) (w : World) (x : Hp) (hx : ∀ b o, x b = some o → B.view w b = some o) : Base where
  n := w.heap.size
  In := fun b => (B.In b ∧ b < w.heap.size) ∨ ∃ o, x b = some o
  lt := fun b hb => by
    rcases hb with hb | ⟨o, hb⟩
    · exact hb.2
    · have := hx b o hb
      unfold Base.view at this
      split at this
      · cases this
      · exact (Array.getElem?_eq_some_iff.1 this).1
  H := fun b => w.heap[b]?
  W := w
end ops
end Go.Sl
/- More rules of single operations over the logic of XSl: numbers, slices, builtins, calls. No condition. -/
set_option linter.unusedVariables false
namespace Go.Sl
open Go
section ops
variable {P : Program} {B : Base} {N : Nat} {ops rest : List Oper} {F : Fr} {A : List Asn} {K : Fr → List Asn → Prop}
variable {T : TypeId} {pos : String} {aft : Array Edge} {d : Tmp} {fm : Fm} {x y : Operand} {U V : TypeId}

/-! numbers -/
theorem run_cmp {op : BinOp} {k : IntKind} {a b : Int} (w : World) (ho : op = .lss ∨ op = .leq ∨ op = .gtr ∨ op = .geq ∨ op = .eql ∨ op = .neq)
    (hx : ev F x = .int k a) (hy : ev F y = .int k b) :
    (execOp (ev F) ⟨some d, .binOp op U x y V, T, pos, aft, none⟩).run P w = ((Op.intCmp op a b).run P w).andThen fun v w' => .ok (.value v) w' := by
  rcases ho with rfl | rfl | rfl | rfl | rfl | rfl <;> simp [execOp, hx, hy, eqGuard, binOp]
theorem z6 {k : IntKind} {a b : Int} (hd : Nat.blt d N = true := by exact rfl) (hx : ev F x = .int k a := by exact rfl) (hy : ev F y = .int k b := by exact rfl) (k' : Wl P B N fm ops rest (upd F d (.bool (decide (a < b)))) A K) :
    Wl P B N fm ops (⟨some d, .binOp .lss U x y V, T, pos, aft, none⟩ :: rest) F A K := yA hd (fun w => by rw [run_cmp w (by simp) hx hy]; rfl) k'
theorem yH {k : IntKind} {a b : Int} (hd : Nat.blt d N = true := by exact rfl) (hx : ev F x = .int k a := by exact rfl) (hy : ev F y = .int k b := by exact rfl) (k' : Wl P B N fm ops rest (upd F d (.bool (decide (a ≤ b)))) A K) :
    Wl P B N fm ops (⟨some d, .binOp .leq U x y V, T, pos, aft, none⟩ :: rest) F A K := yA hd (fun w => by rw [run_cmp w (by simp) hx hy]; rfl) k'
theorem z0 {k : IntKind} {a b : Int} (hd : Nat.blt d N = true := by exact rfl) (hx : ev F x = .int k a := by exact rfl) (hy : ev F y = .int k b := by exact rfl) (k' : Wl P B N fm ops rest (upd F d (.bool (decide (b < a)))) A K) :
    Wl P B N fm ops (⟨some d, .binOp .gtr U x y V, T, pos, aft, none⟩ :: rest) F A K := yA hd (fun w => by rw [run_cmp w (by simp) hx hy]; rfl) k'
theorem yV {k : IntKind} {a b : Int} (hd : Nat.blt d N = true := by exact rfl) (hx : ev F x = .int k a := by exact rfl) (hy : ev F y = .int k b := by exact rfl) (k' : Wl P B N fm ops rest (upd F d (.bool (decide (b ≤ a)))) A K) :
    Wl P B N fm ops (⟨some d, .binOp .geq U x y V, T, pos, aft, none⟩ :: rest) F A K := yA hd (fun w => by rw [run_cmp w (by simp) hx hy]; rfl) k'
theorem zp {k : IntKind} {a b : Int} (hd : Nat.blt d N = true := by exact rfl) (hx : ev F x = .int k a := by exact rfl) (hy : ev F y = .int k b := by exact rfl) (k' : Wl P B N fm ops rest (upd F d (.bool (decide (a = b)))) A K) :
    Wl P B N fm ops (⟨some d, .binOp .eql U x y V, T, pos, aft, none⟩ :: rest) F A K := yA hd (fun w => by rw [run_cmp w (by simp) hx hy]; rfl) k'
theorem z8 {k : IntKind} {a b : Int} (hd : Nat.blt d N = true := by exact rfl) (hx : ev F x = .int k a := by exact rfl) (hy : ev F y = .int k b := by exact rfl) (k' : Wl P B N fm ops rest (upd F d (.bool (decide (a ≠ b)))) A K) :
    Wl P B N fm ops (⟨some d, .binOp .neq U x y V, T, pos, aft, none⟩ :: rest) F A K := yA hd (fun w => by
      rw [run_cmp w (by simp) hx hy]; have h2 : (a != b) = decide (a ≠ b) := by rw [Bool.eq_iff_iff]; simp
      simp only [Op.intCmp, h2]; rfl) k'

theorem run_arith {op : BinOp} {k : IntKind} {a b : Int} (w : World) (ho : op = .add ∨ op = .sub ∨ op = .mul) (hx : ev F x = .int k a) (hy : ev F y = .int k b) :
    (execOp (ev F) ⟨some d, .binOp op U x y V, T, pos, aft, none⟩).run P w = ((Op.intArith op k a b).run P w).andThen fun v w' => .ok (.value v) w' := by
  rcases ho with rfl | rfl | rfl <;> simp [execOp, hx, hy, eqGuard, binOp]
def fitsK (k : IntKind) (n : Int) : Prop := k.wrap n = n
theorem fits_i64 {n : Int} (h : -9223372036854775808 ≤ n ∧ n ≤ 9223372036854775807) : fitsK .i64 n := IntWalk.i64_in n h
theorem fits_u8 {n : Int} (h : 0 ≤ n ∧ n ≤ 255) : fitsK .u8 n := IntWalk.u8_in n h
theorem fits_u64 {n : Int} (h : 0 ≤ n ∧ n ≤ 18446744073709551615) : fitsK .u64 n := IntWalk.u64_in n h
theorem fits_u32 {n : Int} (h : 0 ≤ n ∧ n ≤ 4294967295) : fitsK .u32 n := IntWalk.u32_in n h
theorem zl {k : IntKind} {a b : Int} (hd : Nat.blt d N = true := by exact rfl) (hx : ev F x = .int k a := by exact rfl) (hy : ev F y = .int k b := by exact rfl) (hf : fitsK k (a + b) := by first | exact fits_i64 (by omega) | exact fits_u8 (by omega) | exact fits_u64 (by omega) | exact fits_u32 (by omega)) (k' : Wl P B N fm ops rest (upd F d (.int k (a + b))) A K) :
    Wl P B N fm ops (⟨some d, .binOp .add U x y V, T, pos, aft, none⟩ :: rest) F A K := yA hd (fun w => by rw [run_arith w (by simp) hx hy]; simp only [Op.intArith]; rw [hf]; rfl) k'
theorem yL {k : IntKind} {a b : Int} (hd : Nat.blt d N = true := by exact rfl) (hx : ev F x = .int k a := by exact rfl) (hy : ev F y = .int k b := by exact rfl) (hf : fitsK k (a - b) := by first | exact fits_i64 (by omega) | exact fits_u8 (by omega) | exact fits_u64 (by omega) | exact fits_u32 (by omega)) (k' : Wl P B N fm ops rest (upd F d (.int k (a - b))) A K) :
    Wl P B N fm ops (⟨some d, .binOp .sub U x y V, T, pos, aft, none⟩ :: rest) F A K := yA hd (fun w => by rw [run_arith w (by simp) hx hy]; simp only [Op.intArith]; rw [hf]; rfl) k'
theorem y9 {k : IntKind} {a b : Int} (hd : Nat.blt d N = true := by exact rfl) (hx : ev F x = .int k a := by exact rfl) (hy : ev F y = .int k b := by exact rfl) (hf : fitsK k (a * b) := by first | exact fits_i64 (by omega) | exact fits_u8 (by omega) | exact fits_u64 (by omega) | exact fits_u32 (by omega)) (k' : Wl P B N fm ops rest (upd F d (.int k (a * b))) A K) :
    Wl P B N fm ops (⟨some d, .binOp .mul U x y V, T, pos, aft, none⟩ :: rest) F A K := yA hd (fun w => by rw [run_arith w (by simp) hx hy]; simp only [Op.intArith]; rw [hf]; rfl) k'
theorem xX {k : IntKind} {a b : Int} (hd : Nat.blt d N = true := by exact rfl) (hx : ev F x = .int k a := by exact rfl) (hy : ev F y = .int k b := by exact rfl) (hb : b ≠ 0 := by omega) (k' : Wl P B N fm ops rest (upd F d (.int k (a.tmod b))) A K) :
    Wl P B N fm ops (⟨some d, .binOp .rem U x y V, T, pos, aft, none⟩ :: rest) F A K := yA hd (fun w => by simp [execOp, hx, hy, eqGuard, binOp, Op.intDiv, hb]) k'
theorem xW {k : IntKind} {a b : Int} (hd : Nat.blt d N = true := by exact rfl) (hx : ev F x = .int k a := by exact rfl) (hy : ev F y = .int k b := by exact rfl) (hb : b ≠ 0 := by omega) (k' : Wl P B N fm ops rest (upd F d (.int k (k.wrap (a.tdiv b)))) A K) :
    Wl P B N fm ops (⟨some d, .binOp .quo U x y V, T, pos, aft, none⟩ :: rest) F A K := yA hd (fun w => by simp [execOp, hx, hy, eqGuard, binOp, Op.intDiv, hb]) k'
/-- '&', '|', '^', '&^', as the model reckons them. -/
def bitV (op : BinOp) (k : IntKind) (a b : Int) : Int :=
  k.wrap (match op with
    | .and => (BitVec.ofInt k.bits a &&& BitVec.ofInt k.bits b).toNat
    | .or => (BitVec.ofInt k.bits a ||| BitVec.ofInt k.bits b).toNat
    | .xor => (BitVec.ofInt k.bits a ^^^ BitVec.ofInt k.bits b).toNat
    | _ => (BitVec.ofInt k.bits a &&& ~~~ BitVec.ofInt k.bits b).toNat)
theorem xJ {k : IntKind} {a b : Int} (hd : Nat.blt d N = true := by exact rfl) (hx : ev F x = .int k a := by exact rfl) (hy : ev F y = .int k b := by exact rfl) (k' : Wl P B N fm ops rest (upd F d (.int k (bitV .and k a b))) A K) :
    Wl P B N fm ops (⟨some d, .binOp .and U x y V, T, pos, aft, none⟩ :: rest) F A K := yA hd (fun w => by simp [execOp, hx, hy, eqGuard, binOp, Op.intBits, bitV]) k'
theorem z7 {b : Bool} (hd : Nat.blt d N = true := by exact rfl) (hx : ev F x = .bool b := by exact rfl) (k' : Wl P B N fm ops rest (upd F d (.bool (!b))) A K) :
    Wl P B N fm ops (⟨some d, .unOp .not U x, T, pos, aft, none⟩ :: rest) F A K := yA hd (fun w => by simp [execOp, hx, Op.unary]) k'
theorem yl {k j : IntKind} {a : Int} [h1 : TInt P U k] [h2 : TInt P V j] (hd : Nat.blt d N = true := by exact rfl) (hx : ev F x = .int k a := by exact rfl) (hf : fitsK j a := by first | exact fits_i64 (by omega) | exact fits_u8 (by omega) | exact fits_u64 (by omega) | exact fits_u32 (by omega)) (k' : Wl P B N fm ops rest (upd F d (.int j a)) A K) :
    Wl P B N fm ops (⟨some d, .convert U V x, T, pos, aft, none⟩ :: rest) F A K := yA hd (fun w => by
      have h := hf; unfold fitsK at h
      simp [execOp, hx, convert, run_under w U (under_of_int h1.out), run_under w V (under_of_int h2.out), Conv.intToInt, h]) k'
/-! pointers, slices, functions against nil -/
theorem run_equalIn_ptr {U E : TypeId} (n : Nat) (w : World) (p : Option Addr) (h : ptrOf P U = some E) : (Op.equalIn (n + 1) U (.pointer p) (.pointer none)).run P w = .ok p.isNone w := by
  rw [Op.equalIn]
  cases p <;> simp [run_under w U (under_of_ptr h)]
theorem run_equal_ptr {U E : TypeId} (w : World) (p : Option Addr) (h : ptrOf P U = some E) : (Op.equal U (.pointer p) (.pointer none)).run P w = .ok p.isNone w := run_equalIn_ptr 9999 w p h
def fnOf (P : Program) (T : Nat) : Bool := match P.underlying T with | some (.func _ _ _) => true | _ => false
class TFn (P : Program) (T : Nat) : Prop where out : fnOf P T = true
theorem zf {U E : TypeId} {p : Option Addr} [h : TPtr P U E] (hd : Nat.blt d N = true := by exact rfl) (hx : ev F x = .pointer p := by exact rfl) (hy : ev F y = .pointer none := by exact rfl) (k' : Wl P B N fm ops rest (upd F d (.bool p.isNone)) A K) :
    Wl P B N fm ops (⟨some d, .binOp .eql U x y V, T, pos, aft, none⟩ :: rest) F A K := yA hd (fun w => by
      have h1 := run_equal_ptr w p h.out
      simp [execOp, hx, hy, eqGuard, binOp, h1]) k'
theorem yG {U E : TypeId} {p : Option Addr} [h : TPtr P U E] (hd : Nat.blt d N = true := by exact rfl) (hx : ev F x = .pointer p := by exact rfl) (hy : ev F y = .pointer none := by exact rfl) (k' : Wl P B N fm ops rest (upd F d (.bool (!p.isNone))) A K) :
    Wl P B N fm ops (⟨some d, .binOp .neq U x y V, T, pos, aft, none⟩ :: rest) F A K := yA hd (fun w => by
      have h1 := run_equal_ptr w p h.out
      simp [execOp, hx, hy, eqGuard, binOp, h1]) k'
theorem yn {a b : ByteArray} (hd : Nat.blt d N = true := by exact rfl) (hx : ev F x = .string a := by exact rfl) (hy : ev F y = .string b := by exact rfl) (k' : Wl P B N fm ops rest (upd F d (.bool (a.toList == b.toList))) A K) :
    Wl P B N fm ops (⟨some d, .binOp .eql U x y V, T, pos, aft, none⟩ :: rest) F A K := yA hd (fun w => by simp [execOp, hx, hy, eqGuard, binOp, Op.stringOp]) k'
theorem yM {a b : ByteArray} (hd : Nat.blt d N = true := by exact rfl) (hx : ev F x = .string a := by exact rfl) (hy : ev F y = .string b := by exact rfl) (k' : Wl P B N fm ops rest (upd F d (.bool (!(a.toList == b.toList)))) A K) :
    Wl P B N fm ops (⟨some d, .binOp .neq U x y V, T, pos, aft, none⟩ :: rest) F A K := yA hd (fun w => by simp [execOp, hx, hy, eqGuard, binOp, Op.stringOp]) k'
theorem yZ {a b : ByteArray} (hd : Nat.blt d N = true := by exact rfl) (hx : ev F x = .string a := by exact rfl) (hy : ev F y = .string b := by exact rfl) (k' : Wl P B N fm ops rest (upd F d (.bool (Op.bytesLess a.toList b.toList))) A K) :
    Wl P B N fm ops (⟨some d, .binOp .lss U x y V, T, pos, aft, none⟩ :: rest) F A K := yA hd (fun w => by simp [execOp, hx, hy, eqGuard, binOp, Op.stringOp]) k'
theorem yo {a b : ByteArray} (hd : Nat.blt d N = true := by exact rfl) (hx : ev F x = .string a := by exact rfl) (hy : ev F y = .string b := by exact rfl) (k' : Wl P B N fm ops rest (upd F d (.bool (!(Op.bytesLess a.toList b.toList || a.toList == b.toList)))) A K) :
    Wl P B N fm ops (⟨some d, .binOp .gtr U x y V, T, pos, aft, none⟩ :: rest) F A K := yA hd (fun w => by simp [execOp, hx, hy, eqGuard, binOp, Op.stringOp]) k'
/-! parts of aggregates; tuples -/
theorem zu {vs : List Value} {i : Nat} {v : Value} (hd : Nat.blt d N = true := by exact rfl) (hx : ev F x = .tuple vs.toArray := by exact rfl) (hv : vs[i]? = some v := by exact rfl) (k' : Wl P B N fm ops rest (upd F d v) A K) :
    Wl P B N fm ops (⟨some d, .extract x i, T, pos, aft, none⟩ :: rest) F A K := yA hd (fun w => by simp [execOp, hx, Instr.extract, hv]) k'
theorem yj {s i fo ft n : Nat} {cs : List Value} {v : Value} [hf : FieldOff P s i fo ft n] [hc : TCell P ft] (hd : Nat.blt d N = true := by exact rfl) (hx : ev F x = .agg cs.toArray := by exact rfl) (hv : cs[fo]? = some v := by exact rfl)
    (k' : Wl P B N fm ops rest (upd F d v) A K) : Wl P B N fm ops (⟨some d, .field s x i, T, pos, aft, none⟩ :: rest) F A K := yA hd (fun w => by
    have h := hf.out
    unfold fieldOf at h
    split at h
    · rename_i fs hu
      cases hfi : fs[i]? with
      | none => simp [hfi] at h
      | some f =>
        cases hi : P.info? f.type with
        | none => simp [hfi, hi] at h
        | some t =>
          simp [hfi, hi] at h
          obtain ⟨h1, h2, h3⟩ := h
          subst h1 h2
          simp [execOp, hx, Instr.field, run_under w s hu, hfi, part, run_isAgg w _ hc.out, asAgg, hv]
    · cases h) k'
/-! indexes -/
theorem z9 {E n b off len cap : Nat} {k : IntKind} {i : Int} [h1 : TSl P U E] [h2 : TSize P E n] (hd : Nat.blt d N = true := by exact rfl) (hx : ev F x = .slice (some ⟨b, off, none⟩) len cap := by exact rfl) (hy : ev F y = .int k i := by exact rfl)
    (h0 : 0 ≤ i := by omega) (hl : i < len := by omega) (k' : Wl P B N fm ops rest (upd F d (.pointer (some ⟨b, off + i.toNat * n, none⟩))) A K) :
    Wl P B N fm ops (⟨some d, .indexAddr U x y, T, pos, aft, none⟩ :: rest) F A K := yA hd (fun w => by
      have hadd := addr_add b off (i.toNat * n)
      simp [execOp, hx, hy, Instr.indexAt, asIntOf, run_under w U (under_of_sl h1.out), h0, hl, run_sizeOf w E h2.out, hadd]) k'
/-! slicing -/
theorem run_bound {w : World} {v : Value} {k : IntKind} {i : Int} {m : Nat} {c : BoundsCode} (hv : v = .int k i) (h0 : 0 ≤ i) (h1 : i ≤ m) :
    (Instr.sliceBound v m c).run P w = .ok i.toNat w := by subst hv; simp [Instr.sliceBound, asIntOf, h0, h1]
theorem y1 {E n b off len cap : Nat} {lo hi : Option Operand} {l h : Nat} [h1 : TSl P U E] [h2 : TSize P E n] (hd : Nat.blt d N = true := by exact rfl) (hx : ev F x = .slice (some ⟨b, off, none⟩) len cap := by exact rfl)
    (hlo : match lo with | none => l = 0 | some o => ∃ k, ev F o = .int k l := by first | exact rfl | exact ⟨_, rfl⟩) (hhi : match hi with | none => h = len | some o => ∃ k, ev F o = .int k h := by first | exact rfl | exact ⟨_, rfl⟩) (hlh : l ≤ h := by omega) (hhc : h ≤ cap := by omega)
    (k' : Wl P B N fm ops rest (upd F d (.slice (some (if cap = l then ⟨b, off, none⟩ else ⟨b, off + l * n, none⟩)) (h - l) (cap - l))) A K) :
    Wl P B N fm ops (⟨some d, .slice U x lo hi none, T, pos, aft, none⟩ :: rest) F A K := yA hd (fun w => by
      have hadd := addr_add b off (l * n)
      have hb : ∀ s, (Instr.sliceBounds s len cap (lo.map (ev F)) (hi.map (ev F)) none).run P w = .ok (l, h, cap) w := by
        intro s
        cases lo with
        | none =>
          cases hi with
          | none => simp only at hlo hhi; subst hlo hhi; simp [Instr.sliceBounds]
          | some o =>
            obtain ⟨k, hk⟩ := hhi; simp only at hlo; subst hlo
            simp [Instr.sliceBounds, run_bound (P := P) (w := w) hk (Int.natCast_nonneg _) (Int.ofNat_le.2 hhc)]
        | some p =>
          obtain ⟨j, hj⟩ := hlo
          cases hi with
          | none =>
            simp only at hhi; subst hhi
            simp [Instr.sliceBounds, run_bound (P := P) (w := w) hj (Int.natCast_nonneg _) (Int.ofNat_le.2 hlh)]
          | some o =>
            obtain ⟨k, hk⟩ := hhi
            simp [Instr.sliceBounds, run_bound (P := P) (w := w) hk (Int.natCast_nonneg _) (Int.ofNat_le.2 hhc), run_bound (P := P) (w := w) hj (Int.natCast_nonneg _) (Int.ofNat_le.2 hlh)]
      simp [execOp, hx, Instr.sliceAt, Instr.slice, run_under w U (under_of_sl h1.out), hb, run_sizeOf w E h2.out, hadd]
      split <;> rfl) k'
theorem yh {E n b off len cap : Nat} {hi : Option Operand} {h : Nat} [h1 : TSl P U E] [h2 : TSize P E n] (hd : Nat.blt d N = true := by exact rfl) (hx : ev F x = .slice (some ⟨b, off, none⟩) len cap := by exact rfl)
    (hhi : match hi with | none => h = len | some o => ∃ k, ev F o = .int k h := by first | exact rfl | exact ⟨_, rfl⟩) (hhc : h ≤ cap := by omega)
    (k' : Wl P B N fm ops rest (upd F d (.slice (some ⟨b, off, none⟩) h cap)) A K) :
    Wl P B N fm ops (⟨some d, .slice U x none hi none, T, pos, aft, none⟩ :: rest) F A K :=
  y1 (l := 0) (h := h) hd hx rfl hhi (Nat.zero_le _) hhc (by simpa using k')
/-! builtins -/
theorem zn {E len cap : Nat} {a : Option Addr} [h1 : TSl P U E] (hd : Nat.blt d N = true := by exact rfl) (hx : ev F x = .slice a len cap := by exact rfl) (k' : Wl P B N fm ops rest (upd F d (.int .i64 len)) A K) :
    Wl P B N fm ops (⟨some d, .call ⟨.builtin .len, #[x], #[U]⟩, T, pos, aft, none⟩ :: rest) F A K := yA hd (fun w => by
      simp [execOp, hx, resolve, invoke, builtin, Builtin.len_, run_under w U (under_of_sl h1.out), goInt]) k'
theorem zk {s : ByteArray} [h1 : TStr P U] (hd : Nat.blt d N = true := by exact rfl) (hx : ev F x = .string s := by exact rfl) (k' : Wl P B N fm ops rest (upd F d (.int .i64 s.size)) A K) :
    Wl P B N fm ops (⟨some d, .call ⟨.builtin .len, #[x], #[U]⟩, T, pos, aft, none⟩ :: rest) F A K := yA hd (fun w => by
      simp [execOp, hx, resolve, invoke, builtin, Builtin.len_, run_under w U (under_of_str h1.out), goInt]) k'
theorem zt {k : IntKind} {a b : Int} {ts : Array TypeId} (hd : Nat.blt d N = true := by exact rfl) (hx : ev F x = .int k a := by exact rfl) (hy : ev F y = .int k b := by exact rfl) (k' : Wl P B N fm ops rest (upd F d (.int k (min a b))) A K) :
    Wl P B N fm ops (⟨some d, .call ⟨.builtin .min, #[x, y], ts⟩, T, pos, aft, none⟩ :: rest) F A K := yA hd (fun w => by
      have : (if b < a then b else a) = min a b := by omega
      simp [execOp, hx, hy, resolve, invoke, builtin, Builtin.min_, Builtin.min2, this]) k'
theorem xN {k : IntKind} {a b : Int} {ts : Array TypeId} (hd : Nat.blt d N = true := by exact rfl) (hx : ev F x = .int k a := by exact rfl) (hy : ev F y = .int k b := by exact rfl) (k' : Wl P B N fm ops rest (upd F d (.int k (max a b))) A K) :
    Wl P B N fm ops (⟨some d, .call ⟨.builtin .max, #[x, y], ts⟩, T, pos, aft, none⟩ :: rest) F A K := yA hd (fun w => by
      have : (if a < b then b else a) = max a b := by omega
      simp [execOp, hx, hy, resolve, invoke, builtin, Builtin.max_, Builtin.max2, this]) k'

/-! calls of named functions -/
def bodyOf (P : Program) (f : Nat) : Bool := match P.funcs[f]? with | some fn => !(fn.name == "runtime.NumGoroutine") && fn.body.isSome | none => false
class HasBody (P : Program) (f : Nat) : Prop where out : bodyOf P f = true
theorem run_callFunc_body {f : Nat} (h : bodyOf P f = true) (args : Array Value) (w : World) : (callFunc f args).run P w = .ok (.enter f args) w := by
  unfold bodyOf at h
  cases hf : P.funcs[f]? with
  | none => simp [hf] at h
  | some fn =>
    simp only [hf, Bool.and_eq_true, Bool.not_eq_true'] at h
    obtain ⟨h1, h2⟩ := h
    have h3 : fn.name ≠ "runtime.NumGoroutine" := by simpa using h1
    have h4 : fn.body ≠ none := by intro e; simp [e] at h2
    simp [callFunc, program, Sem.run, hf, h3, h4]
theorem zb {f : FuncId} {xs : List Operand} {ts : Array TypeId} {args : List Value} {A1 M : List Asn} {post : Value → List Asn → Prop} [hb : HasBody P f] (hd : Nat.blt d N = true := by exact rfl)
    (ha : EvL F xs args := by (repeat (first | exact EvL.nil | apply EvL.cons (by (repeat (first | exact Ev.here | exact Ev.const | exact Ev.arg rfl | apply Ev.there rfl | exact Ev.none rfl | exact Ev.func | exact Ev.var)); (first | done | fail)))); (first | done | fail)) (hs : Fspec P B f args.toArray A1 post) (hp : Pick A A1 M := by (repeat (first | exact Pick.nil | apply Pick.cons (by (repeat (first | exact Out.head | apply Out.tail)); (first | done | fail)))); (first | done | fail))
    (k : ∀ v A', post v A' → Wl P B N fm ops rest (upd F d v) (A' ++ M) K) : Wl P B N fm ops (⟨some d, .call ⟨.value (.func f), xs.toArray, ts⟩, T, pos, aft, none⟩ :: rest) F A K :=
  xM rfl hd (fun w => by
    have := run_callFunc_body hb.out args.toArray w
    rw [← ha.eq] at this ⊢
    simpa [execOp, resolve, ev, Deferred.ofValue, invoke] using this) hs hp.perm k
end ops
end Go.Sl
/- Rules for what is built, made, appended to and copied. No condition. -/
set_option linter.unusedVariables false
namespace Go.Sl
open Go
section ops
variable {P : Program} {B : Base} {N : Nat} {ops rest : List Oper} {F : Fr} {A : List Asn} {K : Fr → List Asn → Prop}
variable {T : TypeId} {pos : String} {aft : Array Edge} {d : Tmp} {fm : Fm} {x y : Operand} {U V : TypeId}

/-- Parts laid into a row of cells. -/
def bld (fs : List (Nat × Nat)) (z : List Value) : List (Nat × Value) → Option (List Value)
  | [] => some z
  | (i, v) :: r => match fs[i]? with
    | some (off, sz) => if v.cells.toList.length = sz ∧ off + sz ≤ z.length then bld fs (setL z off v.cells.toList) r else none
    | none => none

theorem fold_setL : ∀ (vs : List Value) (z : Array Value) (off k : Nat),
    (vs.zipIdx k).foldl (fun cs (p : Value × Nat) => cs.setIfInBounds (off + p.2) p.1) z = (setL z.toList (off + k) vs).toArray
  | [], z, off, k => by simp [setL]
  | v :: vs, z, off, k => by
    have := fold_setL vs (z.setIfInBounds (off + k) v) off (k + 1)
    simp only [List.zipIdx_cons, List.foldl_cons]
    rw [this]
    simp [setL, Nat.add_assoc]

theorem fill_bld (fs : List (Nat × Nat)) (place : Nat → Option (Nat × Nat)) : ∀ (ps : List (Nat × Value)) (z cells : List Value), (∀ p ∈ ps, place p.1 = fs[p.1]?) → bld fs z ps = some cells →
    Instr.fill place z.toArray ps = some cells.toArray
  | [], z, cells, _, h => by simp [bld] at h; subst h; rfl
  | (i, v) :: r, z, cells, hp, h => by
    unfold bld at h
    unfold Instr.fill
    rw [hp _ (List.mem_cons_self ..)]
    cases hi : fs[i]? with
    | none => simp [hi] at h
    | some q =>
      obtain ⟨off, sz⟩ := q
      simp only [hi] at h ⊢
      split at h
      · rename_i hc
        have hsz : v.cells.size = sz := by simpa using hc.1
        have h2 := hc.2
        rw [if_neg (by simp [hsz]; omega)]
        have hf := fold_setL v.cells.toList z.toArray off 0
        have key : (v.cells.zipIdx.foldl (fun cs (p : Value × Nat) => cs.setIfInBounds (off + p.2) p.1) z.toArray) = (setL z off v.cells.toList).toArray := by
          rw [← Array.foldl_toList, Array.toList_zipIdx]; simpa using hf
        rw [key]
        exact fill_bld fs place r _ cells (fun p hm => hp p (List.mem_cons_of_mem _ hm)) h
      · cases h

theorem mapM_places (P : Program) (w : World) : ∀ (fs : List Field), (∀ f ∈ fs, (P.info? f.type).isSome) →
    (fs.mapM fun f => (Prod.mk f.offset <$> sizeOf f.type : Sem (Nat × Nat))).run P w = .ok (fs.map fun f => (f.offset, ((P.info? f.type).map (·.size)).getD 0)) w
  | [], _ => rfl
  | f :: fs, hs => by
    obtain ⟨i, hi⟩ := Option.isSome_iff_exists.1 (hs f (List.mem_cons_self ..))
    have h2 : (sizeOf f.type).run P w = .ok i.size w := run_sizeOf w _ (by simp [tSize, hi])
    have h3 := mapM_places P w fs (fun g hg => hs g (List.mem_cons_of_mem _ hg))
    rw [List.mapM_cons]
    simp only [Sem.run_bind, Sem.run_map, h2, Result.andThen_ok, h3, Sem.run_pure]
    simp [hi]

def structOk (P : Program) (T : Nat) : Bool := match P.underlying T with | some (.struct fs) => fs.toList.all fun f => (P.info? f.type).isSome | _ => false
class TStructOk (P : Program) (T : Nat) : Prop where out : structOk P T = true

theorem run_build (w : World) {ps : List (Nat × Value)} {fs : List (Nat × Nat)} {z cells : List Value} (h1 : structOf P T = some fs) (h2 : structOk P T = true) (hz : zeroOf P T = some z)
    (hb : bld fs z ps = some cells) : (Instr.build T ps.toArray).run P w = .ok (.agg cells.toArray) w := by
  obtain ⟨v, hv, hvc⟩ := run_zero (P := P) w T hz
  unfold structOf at h1
  unfold structOk at h2
  split at h1
  · rename_i gs hu
    rw [hu] at h2
    simp only at h2
    have hm := mapM_places P w gs.toList (fun f hf => List.all_eq_true.1 h2 f hf)
    have hfs : (gs.toList.map fun f => (f.offset, ((P.info? f.type).map (·.size)).getD 0)) = fs := by simpa using h1
    rw [hfs] at hm
    have hm2 : (gs.mapM fun f => (Prod.mk f.offset <$> sizeOf f.type : Sem (Nat × Nat))).run P w = .ok fs.toArray w := by
      rw [Array.mapM_eq_mapM_toList]; simp only [Sem.run_map, hm, Result.andThen_ok]
    have hfill := fill_bld fs (fun i => fs[i]?) ps z cells (fun _ _ => rfl) hb
    simp [Instr.build, hv, hvc, run_under w T hu, hm2, hfill]
  · cases h1

theorem zip_ev {xs : List (Nat × Operand)} {vs : List Value} (hx : EvL F (xs.map (·.2)) vs) : (xs.map fun p => (p.1, ev F p.2)) = (xs.map (·.1)).zip vs := by
  have := hx.eq
  clear hx
  induction xs generalizing vs with
  | nil => simp at this; subst this; rfl
  | cons q xs ih =>
    cases vs with
    | nil => simp at this
    | cons v vs =>
      simp only [List.map_cons, List.cons.injEq, List.zip_cons_cons] at this ⊢
      exact ⟨by rw [this.1], ih this.2⟩
theorem zr {xs : List (Nat × Operand)} {vs : List Value} {fs : List (Nat × Nat)} {z cells : List Value} [h1 : TStruct P U fs] [h2 : TStructOk P U] [hz : TZero P U z] (hd : Nat.blt d N = true := by exact rfl)
    (hx : EvL F (xs.map (·.2)) vs := by (repeat (first | exact EvL.nil | apply EvL.cons (by (repeat (first | exact Ev.here | exact Ev.const | exact Ev.arg rfl | apply Ev.there rfl | exact Ev.none rfl | exact Ev.func | exact Ev.var)); (first | done | fail)))); (first | done | fail)) (hb : bld fs z ((xs.map (·.1)).zip vs) = some cells := by simp [bld, setL, Value.cells] <;> rfl)
    (k : Wl P B N fm ops rest (upd F d (.agg cells.toArray)) A K) : Wl P B N fm ops (⟨some d, .build U xs.toArray, T, pos, aft, none⟩ :: rest) F A K :=
  yA hd (fun w => by
    have hps := zip_ev hx
    have hr := run_build (P := P) (T := U) w h1.out h2.out hz.out hb
    rw [← hps] at hr
    simpa [execOp] using congrArg (fun r => r.andThen fun v w' => Result.ok (Next.value v) w') hr) k

/-! rows that a slice owns -/
/-- A slice value that owns its array: nil, or the head of a row of its own; 'cs' the cells of its elements. -/
def own (a : Option Addr) (len cap sz : Nat) (cs : List Value) (E : TypeId) : Asn := fun h =>
  (a = none ∧ len = 0 ∧ cap = 0 ∧ cs = [] ∧ ∀ b, h b = none) ∨
  ∃ r spare, a = some ⟨r, 0, none⟩ ∧ pt r (.cells (cs ++ spare).toArray E (0, 0)) h ∧ cs.length = len * sz ∧ (cs ++ spare).length = cap * sz

theorem own_open {m : Hp} {a : Option Addr} {len cap sz : Nat} {cs : List Value} {E : TypeId} {L : List Asn} {W : Nat → Prop} (h : SatL m (own a len cap sz cs E :: L) W) :
    (a = none ∧ len = 0 ∧ cap = 0 ∧ cs = [] ∧ SatL m L W) ∨
    ∃ r spare, a = some ⟨r, 0, none⟩ ∧ cs.length = len * sz ∧ (cs ++ spare).length = cap * sz ∧ SatL m (cb r (cs ++ spare) E :: L) W := by
  obtain ⟨x, hx, hs, hr⟩ := h
  rcases hx with ⟨h1, h2, h3, h4, h5⟩ | ⟨r, spare, h1, h2, h3, h4⟩
  · exact .inl ⟨h1, h2, h3, h4, hr.mono fun _ h => .inl h⟩
  · exact .inr ⟨r, spare, h1, h3, h4, x, h2, hs, hr⟩
theorem own_shut (r : Nat) (len cap sz : Nat) (cs spare : List Value) (E : TypeId) (L : List Asn) (h1 : cs.length = len * sz) (h2 : (cs ++ spare).length = cap * sz) :
    Ent (cb r (cs ++ spare) E :: L) (own (some ⟨r, 0, none⟩) len cap sz cs E :: L) := fun _ _ ⟨x, hx, hs, hr⟩ => ⟨x, .inr ⟨r, spare, rfl, hx, h1, h2⟩, hs, hr⟩
theorem own_nil (sz : Nat) (E : TypeId) (L : List Asn) : Ent L (own none 0 0 sz [] E :: L) := fun _ _ h =>
  ⟨fun _ => none, .inl ⟨rfl, rfl, rfl, rfl, fun _ => rfl⟩, by simp, h.mono (by simp)⟩
/-- Open an owned row inside a walk: nil, or a block. -/
theorem xd {c : Code} {Q : Exit → Fr → List Asn → Prop} {a : Option Addr} {len cap sz : Nat} {cs : List Value} {E : TypeId}
    (h0 : a = none → len = 0 → cap = 0 → cs = [] → Wc P B N c F A Q)
    (h1 : ∀ r spare, a = some ⟨r, 0, none⟩ → cs.length = len * sz → (cs ++ spare).length = cap * sz → Wc P B N c F (cb r (cs ++ spare) E :: A) Q) :
    Wc P B N c F (own a len cap sz cs E :: A) Q := fun ro R ac w hk hr hs => by
  have hs1 : Sat B w (own a len cap sz cs E :: R :: A) := hs.perm (.swap ..)
  rcases own_open hs1.own with ⟨e1, e2, e3, e4, e5⟩ | ⟨r, spare, e1, e2, e3, e4⟩
  · exact h0 e1 e2 e3 e4 ro R ac w hk hr ⟨hs.size, hs.io, hs.base, e5⟩
  · exact h1 r spare e1 e2 e3 ro R ac w hk hr ⟨hs.size, hs.io, hs.base, e4.perm (.swap ..)⟩
/-! make, literals -/
def cyc (z : List Value) (n : Nat) : List Value := (List.range n).map fun i => z.toArray[i % z.length]!
theorem cyc_eq (z : List Value) (n : Nat) : (Array.range n).map (fun i => z.toArray[i % z.toArray.size]!) = (cyc z n).toArray := by
  rw [cyc, ← List.map_toArray, List.toArray_range]; simp
theorem cyc_length (z : List Value) (n : Nat) : (cyc z n).length = n := by simp [cyc]
theorem run_buildSlice (w : World) {E sz len : Nat} {z : List Value} {ps : List (Nat × Value)} {cells : List Value} (h1 : slOf P U = some E) (h2 : tSize P E = some sz) (hz : zeroOf P E = some z)
    (hb : bld ((List.range len).map fun i => (i * sz, sz)) (cyc z (len * sz)) ps = some cells) (hlt : ∀ p ∈ ps, p.1 < len) (h24 : len * sz ≤ 16777216) :
    (Instr.buildSlice U len ps.toArray).run P w = .ok (.slice (some ⟨w.heap.size, 0, none⟩) len len) { w with heap := w.heap.push (.cells cells.toArray E) } := by
  obtain ⟨v, hv, hvc⟩ := run_zero (P := P) w E hz
  have hcy : (Array.range (len * sz)).map (fun j => (if len * sz = 0 then #[] else z.toArray)[j % (if len * sz = 0 then #[] else z.toArray).size]!) = (cyc z (len * sz)).toArray := by
    by_cases hn : len * sz = 0
    · simp [hn, cyc]
    · simp only [if_neg hn]; exact cyc_eq z _
  have hfill := fill_bld ((List.range len).map fun i => (i * sz, sz)) (fun i => some (i * sz, sz)) ps (cyc z (len * sz)) cells (fun p hp => by
    have := hlt p hp
    simp [this]) hb
  have h24' : ¬ (len * sz > 2 ^ 24) := by simp; omega
  unfold Instr.buildSlice
  simp only [Sem.run_bind, run_under w U (under_of_sl h1), Result.andThen_ok, run_sizeOf w E h2]
  rw [if_neg h24']
  by_cases hn : len * sz = 0
  · simp only [if_pos hn] at hcy ⊢
    simp only [Sem.run_bind, Sem.run_pure, Result.andThen_ok, hcy, hfill, run_newRow]
  · simp only [if_neg hn] at hcy ⊢
    simp only [Sem.run_bind, Sem.run_pure, Result.andThen_ok, hv, hvc, hcy, hfill, run_newRow]

theorem ya {E sz len : Nat} {z : List Value} {xs : List (Nat × Operand)} {vs : List Value} {cells : List Value} [h1 : TSl P U E] [h2 : TSize P E sz] [hz : TZero P E z] (hd : Nat.blt d N = true := by exact rfl)
    (hx : EvL F (xs.map (·.2)) vs := by (repeat (first | exact EvL.nil | apply EvL.cons (by (repeat (first | exact Ev.here | exact Ev.const | exact Ev.arg rfl | apply Ev.there rfl | exact Ev.none rfl | exact Ev.func | exact Ev.var)); (first | done | fail)))); (first | done | fail)) (hb : bld ((List.range len).map fun i => (i * sz, sz)) (cyc z (len * sz)) ((xs.map (·.1)).zip vs) = some cells) (hlt : ∀ p ∈ (xs.map (·.1)).zip vs, p.1 < len) (h24 : len * sz ≤ 16777216)
    (k : ∀ r, Wl P B N fm ops rest (upd F d (.slice (some ⟨r, 0, none⟩) len len)) (cb r cells E :: A) K) : Wl P B N fm ops (⟨some d, .buildSlice U len xs.toArray, T, pos, aft, none⟩ :: rest) F A K :=
  y8 (val := fun r => .slice (some ⟨r, 0, none⟩) len len) rfl hd (fun w R hs => by
    have hps := zip_ev hx
    have hr := run_buildSlice (P := P) (U := U) w h1.out h2.out hz.out hb hlt h24
    rw [← hps] at hr
    exact ⟨{ w with heap := w.heap.push (.cells cells.toArray E) }, by simpa [execOp] using congrArg (fun r => r.andThen fun v w' => Result.ok (Next.value v) w') hr, rfl, Io.refl w⟩) k
/-- A literal of no element. -/
theorem xT {E sz : Nat} {z : List Value} [h1 : TSl P U E] [h2 : TSize P E sz] [hz : TZero P E z] (hd : Nat.blt d N = true := by exact rfl)
    (k : ∀ r, Wl P B N fm ops rest (upd F d (.slice (some ⟨r, 0, none⟩) 0 0)) (cb r [] E :: A) K) : Wl P B N fm ops (⟨some d, .buildSlice U 0 #[], T, pos, aft, none⟩ :: rest) F A K :=
  ya (xs := []) (vs := []) hd .nil (by simp [bld, cyc]) (by simp) (by omega) k
/-- A literal of no element, as a row that is owned. -/
theorem yT {E sz : Nat} {z : List Value} [h1 : TSl P U E] [h2 : TSize P E sz] [hz : TZero P E z] (hd : Nat.blt d N = true := by exact rfl)
    (k : ∀ r, Wl P B N fm ops rest (upd F d (.slice (some ⟨r, 0, none⟩) 0 0)) (own (some ⟨r, 0, none⟩) 0 0 sz [] E :: A) K) : Wl P B N fm ops (⟨some d, .buildSlice U 0 #[], T, pos, aft, none⟩ :: rest) F A K :=
  xT hd fun r => yB (own_shut r 0 0 sz [] [] E A (by simp) (by simp)) (k r)
/-- A literal of one element. -/
theorem yR {E sz : Nat} {z cs : List Value} {v : Value} [h1 : TSl P U E] [h2 : TSize P E sz] [hz : TZero P E z] (hd : Nat.blt d N = true := by exact rfl) (hx : Ev F x v := by (repeat (first | exact Ev.here | exact Ev.const | exact Ev.arg rfl | apply Ev.there rfl | exact Ev.none rfl | exact Ev.func | exact Ev.var)); (first | done | fail)) (hv : v.cells = cs.toArray := by exact rfl) (hl : cs.length = sz := by exact rfl) (h24 : sz ≤ 16777216 := by omega)
    (k : ∀ r, Wl P B N fm ops rest (upd F d (.slice (some ⟨r, 0, none⟩) 1 1)) (cb r cs E :: A) K) : Wl P B N fm ops (⟨some d, .buildSlice U 1 #[(0, x)], T, pos, aft, none⟩ :: rest) F A K :=
  ya (xs := [(0, x)]) (vs := [v]) hd (.cons hx .nil) (by
    have e : (cyc z sz).length = sz := cyc_length z sz
    rw [Nat.one_mul]
    simp only [bld, List.map_cons, List.map_nil, List.zip_cons_cons, List.zip_nil_right, List.range_succ, List.range_zero, List.nil_append, List.map_cons, List.map_nil, Nat.zero_mul, List.getElem?_cons_zero, hv]
    rw [if_pos (by simp [hl, e])]
    rw [setL_eq _ _ _ (by simp [hl, e])]
    simp [hl, e]) (by simp) (by omega) k

/-- What an append or a copy reads. -/
def Src (P : Program) (B : Base) (A : List Asn) (sz : Nat) (y : Value) (m : Nat) (vs : List Value) : Prop :=
  ∀ w, Sat B w A → (Builtin.lenOf y).run P w = .ok m w ∧ ∀ n, n ≤ m → (Builtin.firstCells sz n y).run P w = .ok (vs.take (n * sz)).toArray w
theorem src_sl {b off m c sz : Nat} {l vs : List Value} {E : TypeId} {fz : Nat × Nat} (hr : Rd B b l E fz A) (ho : off + m * sz ≤ l.length) (hv : (l.drop off).take (m * sz) = vs) :
    Src P B A sz (.slice (some ⟨b, off, none⟩) m c) m vs := fun w hs => ⟨rfl, fun n hn => by
    have hmn : n * sz ≤ m * sz := Nat.mul_le_mul_right _ hn
    have := run_loadCells P w (b := b) (off := off) (n := n * sz) (hr.heap hs) (by omega)
    subst hv
    rw [List.take_take, Nat.min_eq_left hmn]
    exact this⟩
theorem src_nil {c sz : Nat} : Src P B A sz (.slice none 0 c) 0 [] := by
  intro w hs
  refine ⟨rfl, ?_⟩
  intro n hn
  obtain rfl : n = 0 := Nat.le_zero.1 hn
  simp [Builtin.firstCells]
def byteV (c : UInt8) : Value := .int .u8 c.toNat
theorem Src.weak {sz m : Nat} {y : Value} {vs : List Value} {A' : List Asn} (h : Src P B A sz y m vs) (he : ∀ w, Sat B w A' → Sat B w A) : Src P B A' sz y m vs := fun w hs => h w (he w hs)

theorem Src.tail {sz m : Nat} {y : Value} {vs : List Value} {b : Asn} (h : Src P B A sz y m vs) : Src P B (b :: A) sz y m vs := h.weak fun w hs => hs.ent (Ent.drop _)
theorem Ent.take {y : Asn} {X Y M : List Asn} (h : Out y X M) (k : Ent M Y) : Ent X (y :: Y) := (Ent.perm h.perm).trans (k.cons y)
theorem Ent.drop1 {y : Asn} {X Y : List Asn} (k : Ent X Y) : Ent (y :: X) Y := (Ent.drop y).trans k
theorem nextcap_le (n c : Nat) (h : c < n) : 4 * Builtin.nextslicecap n c ≤ 5 * n + 3000 := by
  unfold Builtin.nextslicecap
  split
  · omega
  · split
    · omega
    · simp only [Builtin.growBy]
      split
      · omega
      · split
        · omega
        · split
          · omega
          · split <;> omega

set_option maxHeartbeats 1000000 in
/-- append(x, y...) on a row of one's own. -/
theorem run_append {E sz by_ len cap m : Nat} {z cs vs : List Value} {a : Option Addr} {M : List Asn} {R : Asn} {w : World} (h1 : slOf P U = some E) (h2 : tSize P E = some sz) (h3 : tBytes P E = some by_) (h4 : zeroOf P E = some z)
    (hV : slOf P V ≠ none ∨ strOf P V = true) (hzl : z.length = sz) (hby : 0 < by_)
    (hs : Sat B w (R :: own a len cap sz cs E :: M)) {vy : Value} (hy : (Builtin.lenOf vy).run P w = .ok m w) (hf1 : ∀ w, Sat B w (R :: own a len cap sz cs E :: M) → (Builtin.firstCells sz m vy).run P w = .ok vs.toArray w) (hvl : vs.length = m * sz) (hvc : vs.all isCell = true)
    (hbd : (5 * (len + m) + 3000) * by_ ≤ 1125899906842624 ∨ (cap = 0 ∧ (len + m) * by_ ≤ 281474976710656)) :
    ∃ a' cap' w', (Builtin.append_ #[U, V] T #[.slice a len cap, vy]).run P w = .ok (.slice a' (len + m) cap') w' ∧ Sat B w' (R :: own a' (len + m) cap' sz (cs ++ vs) E :: M) := by
  obtain ⟨v, hv, hvc'⟩ := run_zero (P := P) w E h4
  have hvz : v.cells.size = sz := by rw [hvc']; simpa using hzl
  have hinfo : ∃ i, P.info? E = some i ∧ i.bytes = by_ := by
    have h := h3; unfold tBytes at h
    cases hi : P.info? E with
    | none => rw [hi] at h; cases h
    | some i => rw [hi] at h; exact ⟨i, rfl, Option.some.inj h⟩
  obtain ⟨i, hi, hib⟩ := hinfo
  have hti : ∀ w, (typeInfo E).run P w = .ok i w := by intro w; simp [typeInfo, program, Sem.run, hi]
  have hroom : ∀ n w, (askRoom n).run P w = .ok () w := by intro n w; unfold askRoom; split <;> rfl
  have hund : (∃ e, P.underlying V = some (.slice e)) ∨ P.underlying V = some .string := by
    rcases hV with hV | hV
    · cases h : slOf P V with
      | none => exact absurd h hV
      | some e => exact .inl ⟨_, under_of_sl h⟩
    · exact .inr (under_of_str hV)
  have hs1 : Sat B w (own a len cap sz cs E :: R :: M) := hs.perm (.swap ..)
  have hf := hf1 w hs
  have hnb : ¬ by_ = 0 := by omega
  have hpre1 : len + m ≤ cap → (Builtin.append_ #[U, V] T #[.slice a len cap, vy]).run P w =
      (do
          let new ← Builtin.firstCells sz m vy
          if let some p := a then storeCells (p.add (len * sz)) new.toList
          pure (.slice a (len + m) cap) : Sem Value).run P w := by
    intro hfit
    unfold Builtin.append_
    rcases hund with ⟨e, hD⟩ | hD <;> simp [run_under w U (under_of_sl h1), run_sizeOf w E h2, run_under w V hD, hy, hfit] <;> cases a <;> rfl
  have hpre2 : ¬ len + m ≤ cap → (¬ 281474976710656 < Builtin.nextslicecap (len + m) cap * by_) → (Builtin.append_ #[U, V] T #[.slice a len cap, vy]).run P w =
      (do
          let newCap ← choose (.appendCap (len + m) cap E)
          askRoom (newCap * by_)
          let old ← Builtin.firstCells sz len (.slice a len cap)
          let new ← Builtin.firstCells sz m vy
          let rest := Builtin.zeroCells (← zeroValue E).cells (newCap - (len + m))
          pure (.slice (some (← newRow E (old ++ new ++ rest))) (len + m) newCap) : Sem Value).run P w := by
    intro hfit hnx
    unfold Builtin.append_
    rcases hund with ⟨e, hD⟩ | hD <;> simp [run_under w U (under_of_sl h1), run_sizeOf w E h2, run_under w V hD, hy, hfit, hti, hib, hnb, hnx]
  by_cases hfit : len + m ≤ cap
  · rw [hpre1 hfit]
    have hff : (Builtin.firstCells sz m vy).run P w = .ok vs.toArray w := hf
    rcases own_open hs1.own with ⟨e1, e2, e3, e4, e5⟩ | ⟨r, spare, e1, e2, e3, e4⟩
    · subst e1 e2 e3 e4
      obtain rfl : m = 0 := by omega
      have hvs : vs = [] := List.length_eq_zero_iff.1 (by simpa using hvl)
      subst hvs
      exact ⟨none, 0, w, by simp [hff], hs⟩
    · subst e1
      have hs2 : Sat B w (cb r (cs ++ spare) E :: R :: M) := ⟨hs.size, hs.io, hs.base, e4⟩
      have hb := (hs2.get (List.mem_cons_self ..)).2
      have hle : len * sz + m * sz ≤ cap * sz := by rw [← Nat.add_mul]; exact Nat.mul_le_mul_right _ hfit
      have hlen : (cs ++ spare).length = cs.length + spare.length := List.length_append
      obtain ⟨w', hw, hio, hsz, hne, hb'⟩ := run_storeCells P (b := r) (off := len * sz) vs 0 w (cs ++ spare) hb (by rw [e3, hvl]; omega) (fun j _ _ => by simp) hvc
      have hset : setL (cs ++ spare) (len * sz + 0) vs = (cs ++ vs) ++ spare.drop vs.length := by
        rw [Nat.add_zero, setL_eq _ _ _ (by rw [e3, hvl]; omega), ← e2]
        rw [List.take_left, ← List.drop_drop, List.drop_left, List.append_assoc]
      rw [hset] at hb'
      have hs3 : Sat B w' (cb r ((cs ++ vs) ++ spare.drop vs.length) E :: R :: M) := hs2.put hio hsz.symm hne hb'
      refine ⟨some ⟨r, 0, none⟩, cap, w', ?_, ((hs3.ent (own_shut r (len + m) cap sz (cs ++ vs) _ E _ ?_ ?_)).perm (.swap ..))⟩
      · simp only [Sem.run_bind, hff, Result.andThen_ok, addr_add, Nat.zero_add]
        simp only [hw, Sem.run_pure, Result.andThen_ok]
      · simp [e2, hvl, Nat.add_mul]
      · rw [e3.symm, hlen]; simp only [List.length_append, List.length_drop]; omega
  · have hnx : Builtin.nextslicecap (len + m) cap * by_ ≤ 281474976710656 := by
      rcases hbd with hbd | ⟨h0, hbd⟩
      · have h4 := Nat.mul_le_mul_right by_ (nextcap_le (len + m) cap (by omega))
        rw [Nat.mul_assoc] at h4
        omega
      · have : Builtin.nextslicecap (len + m) cap = len + m := by
          subst h0
          unfold Builtin.nextslicecap
          rw [if_pos (by omega)]
        rw [this]; exact hbd
    rw [hpre2 hfit (by omega)]
    -- the new capacity
    have hch : ∃ nc w1, (choose (.appendCap (len + m) cap E)).run P w = .ok nc w1 ∧ len + m ≤ nc ∧ w1.heap = w.heap ∧ Io w w1 := by
      refine ⟨_, _, rfl, ?_, rfl, Io.refl w⟩
      simp only [Question.cut]; omega
    obtain ⟨nc, w1, hc, hnc, hw1, hio1⟩ := hch
    have hs1' : Sat B w1 (R :: own a len cap sz cs E :: M) := hs.heap hio1 hw1
    have hold : ∃ M', (Builtin.firstCells sz len (.slice a len cap)).run P w1 = .ok cs.toArray w1 ∧ Sat B w1 (R :: M') ∧ M' = M := by
      have hs1a : Sat B w1 (own a len cap sz cs E :: R :: M) := hs1'.perm (.swap ..)
      rcases own_open hs1a.own with ⟨e1, e2, e3, e4, e5⟩ | ⟨r, spare, e1, e2, e3, e4⟩
      · subst e1 e2 e3 e4; exact ⟨M, rfl, ⟨hs1'.size, hs1'.io, hs1'.base, e5⟩, rfl⟩
      · subst e1
        have hs2 : Sat B w1 (cb r (cs ++ spare) E :: R :: M) := ⟨hs1'.size, hs1'.io, hs1'.base, e4⟩
        have hb := (hs2.get (List.mem_cons_self ..)).2
        have hl := run_loadCells P w1 (b := r) (off := 0) (n := len * sz) hb (by simp; omega)
        refine ⟨M, ?_, hs2.ent (Ent.drop _), rfl⟩
        have : List.take (len * sz) (List.drop 0 (cs ++ spare)) = cs := by rw [List.drop_zero, ← e2, List.take_left]
        rw [this] at hl
        exact hl
    obtain ⟨M', hold, hsM, rfl⟩ := hold
    have hnew : (Builtin.firstCells sz m vy).run P w1 = .ok vs.toArray w1 := hf1 w1 hs1'
    obtain ⟨v1, hv1, hvc1⟩ := run_zero (P := P) w1 E h4
    have hz1 : v1.cells.size = sz := by rw [hvc1]; simpa using hzl
    have hmon : ∀ n w, (askRoom n).run P w = .ok () w := hroom
    refine ⟨some ⟨w1.heap.size, 0, none⟩, nc, { w1 with heap := w1.heap.push (.cells ((cs ++ vs) ++ (Builtin.zeroCells v1.cells (nc - (len + m))).toList).toArray E) }, ?_, ?_⟩
    · have hq : cs.toArray ++ vs.toArray ++ Builtin.zeroCells v1.cells (nc - (len + m)) = ((cs ++ vs) ++ (Builtin.zeroCells v1.cells (nc - (len + m))).toList).toArray := by
        apply Array.ext'; simp
      simp only [Sem.run_bind, Sem.run_pure, hc, Result.andThen_ok, hmon, hold, hnew, hv1, run_newRow, hq]
    · have hp := hsM.push (Io.refl w1) (o := .cells ((cs ++ vs) ++ (Builtin.zeroCells v1.cells (nc - (len + m))).toList).toArray E) (w' := { w1 with heap := w1.heap.push (.cells ((cs ++ vs) ++ (Builtin.zeroCells v1.cells (nc - (len + m))).toList).toArray E) }) rfl
      have hcs : cs.length = len * sz := by
        rcases own_open (hs1'.perm (.swap ..)).own with ⟨e1, e2, e3, e4, e5⟩ | ⟨r, spare, e1, e2, e3, e4⟩
        · subst e2 e4; simp
        · exact e2
      refine (hp.ent (own_shut w1.heap.size (len + m) nc sz (cs ++ vs) _ E _ ?_ ?_)).perm (.swap ..)
      · simp [hcs, hvl, Nat.add_mul]
      · simp only [List.length_append, hcs, hvl, Builtin.zeroCells, Array.length_toList, Array.size_map, Array.size_range, hz1]
        rw [← Nat.add_mul, ← Nat.add_mul]
        congr 1; omega

theorem yt {E sz by_ len cap m : Nat} {z cs vs : List Value} {a : Option Addr} {M : List Asn} {vy : Value} [h1 : TSl P U E] [h2 : TSize P E sz] [h3 : TBytes P E by_] [h4 : TZero P E z]
    (hd : Nat.blt d N = true := by exact rfl) (hx : ev F x = .slice a len cap := by exact rfl) (hy : Ev F y vy := by (repeat (first | exact Ev.here | exact Ev.const | exact Ev.arg rfl | apply Ev.there rfl | exact Ev.none rfl | exact Ev.func | exact Ev.var)); (first | done | fail)) (hV : slOf P V ≠ none ∨ strOf P V = true) (hzl : z.length = sz := by exact rfl) (hby : 0 < by_ := by omega)
    (ho : Out (own a len cap sz cs E) A M := by (repeat (first | exact Out.head | apply Out.tail)); (first | done | fail)) (hsrc : Src P B A sz vy m vs) (hvl : vs.length = m * sz) (hvc : vs.all isCell = true := by first | rfl | assumption | (simp only [List.all_cons, List.all_nil, Bool.and_eq_true, Bool.and_true, cInt, cBool, cStr, cPtr, cSl, cByte, true_and, and_true] at *; first | done | assumption | simp only [*, and_self]) | simp [isCell, byteV]) (hbd : (5 * (len + m) + 3000) * by_ ≤ 1125899906842624 ∨ (cap = 0 ∧ (len + m) * by_ ≤ 281474976710656))
    (k : ∀ a' cap', Wl P B N fm ops rest (upd F d (.slice a' (len + m) cap')) (own a' (len + m) cap' sz (cs ++ vs) E :: M) K) :
    Wl P B N fm ops (⟨some d, .call ⟨.builtin .append, #[x, y], #[U, V]⟩, T, pos, aft, none⟩ :: rest) F A K :=
  y0 rfl rfl fun R hE ac w hr hs => by
    have hp : ∀ w, Sat B w (R :: own a len cap sz cs E :: M) → Sat B w A := fun w h => (h.perm (ho.perm.symm.cons R)).ent (Ent.drop R)
    have hs1 : Sat B w (R :: own a len cap sz cs E :: M) := hs.perm (ho.perm.cons R)
    obtain ⟨a', cap', w', hrun, hs'⟩ := run_append (P := P) (B := B) (T := T) (U := U) (V := V) h1.out h2.out h3.out h4.out hV hzl hby hs1 (hsrc w (hp w hs1)).1
      (fun w hw => by have := (hsrc w (hp w hw)).2 m (Nat.le_refl _); rwa [← hvl, List.take_length] at this) hvl hvc hbd
    have he : (execOp (ev F) ⟨some d, .call ⟨.builtin .append, #[x, y], #[U, V]⟩, T, pos, aft, none⟩).run P w = .ok (.value (.slice a' (len + m) cap')) w' := by
      simp [execOp, resolve, invoke, builtin, hx, hy.eq, hrun]
    rw [he, Oper.upY_value]
    exact ⟨hs'.hd, k a' cap' R hE _ w' (hr.put (by simpa [Nat.blt_eq] using hd) _) hs'⟩

/-- append(x, v): one element, out of the row that the literal made. -/
theorem yO {E E2 E3 sz by_ len cap r c : Nat} {z cs vs : List Value} {a : Option Addr} {M : List Asn} {fz : Nat × Nat} [h1 : TSl P U E] [h2 : TSize P E sz] [h3 : TBytes P E by_] [h4 : TZero P E z] [h5 : TSl P V E3]
    (hd : Nat.blt d N = true := by exact rfl) (hx : ev F x = .slice a len cap := by exact rfl) (hy : Ev F y (.slice (some ⟨r, 0, none⟩) 1 c) := by (repeat (first | exact Ev.here | exact Ev.const | exact Ev.arg rfl | apply Ev.there rfl | exact Ev.none rfl | exact Ev.func | exact Ev.var)); (first | done | fail)) (hzl : z.length = sz := by exact rfl) (hby : 0 < by_ := by omega)
    (ho : Out (own a len cap sz cs E) A M := by (repeat (first | exact Out.head | apply Out.tail)); (first | done | fail)) (hsrc : Rd B r vs E2 fz A := by (repeat (first | exact Rd.head | exact Rd.base (by assumption) | apply Rd.tail)); (first | done | fail)) (hvl : vs.length = sz) (hvc : vs.all isCell = true := by first | rfl | assumption | (simp only [List.all_cons, List.all_nil, Bool.and_eq_true, Bool.and_true, cInt, cBool, cStr, cPtr, cSl, cByte, true_and, and_true] at *; first | done | assumption | simp only [*, and_self]) | simp [isCell, byteV]) (hbd : (5 * (len + 1) + 3000) * by_ ≤ 1125899906842624 ∨ (cap = 0 ∧ (len + 1) * by_ ≤ 281474976710656))
    (k : ∀ a' cap', Wl P B N fm ops rest (upd F d (.slice a' (len + 1) cap')) (own a' (len + 1) cap' sz (cs ++ vs) E :: M) K) :
    Wl P B N fm ops (⟨some d, .call ⟨.builtin .append, #[x, y], #[U, V]⟩, T, pos, aft, none⟩ :: rest) F A K :=
  yt hd hx hy (.inl (by rw [h5.out]; simp)) hzl hby ho (src_sl hsrc (by omega) (by rw [List.drop_zero]; exact List.take_of_length_le (by omega))) (by omega) hvc hbd k

theorem yJ {c : Code} {Q : Exit → Fr → List Asn → Prop} {y : Asn} {M : List Asn} (h : Out y A M := by (repeat (first | exact Out.head | apply Out.tail)); (first | done | fail)) (k : Wc P B N c F (y :: M) Q) : Wc P B N c F A Q := y7 (Ent.perm h.perm) k
theorem yP {l : List Oper} {y : Asn} {M : List Asn} (h : Out y A M := by (repeat (first | exact Out.head | apply Out.tail)); (first | done | fail)) (k : Wl P B N fm ops l F (y :: M) K) : Wl P B N fm ops l F A K := yB (Ent.perm h.perm) k
/-- A row of cells is turned, told outright. -/
theorem yy {b off n : Nat} {l l' cs : List Value} {E U : TypeId} {fz : Nat × Nat} {o' : Obj} {A' : List Asn} [ht : TSize P U n]
    (hx : ev F x = .pointer (some ⟨b, off, none⟩) := by exact rfl) (hy : Ev F y (.agg cs.toArray) := by (repeat (first | exact Ev.here | exact Ev.const | exact Ev.arg rfl | apply Ev.there rfl | exact Ev.none rfl | exact Ev.func | exact Ev.var)); (first | done | fail)) (hu : Upd b (.cells l.toArray E fz) o' A A' := by (repeat (first | exact Upd.head | apply Upd.tail)); (first | done | fail)) (hv : cs.all isCell = true := by first | rfl | assumption | (simp only [List.all_cons, List.all_nil, Bool.and_eq_true, Bool.and_true, cInt, cBool, cStr, cPtr, cSl, cByte, true_and, and_true] at *; first | done | assumption | simp only [*, and_self]) | simp [isCell, byteV]) (hl : cs.length = n := by exact rfl)
    (ho : off + n ≤ l.length) (hs : setL l off cs = l') (ho' : o' = .cells l'.toArray E fz) (hz : fz = (0, 0) := by exact rfl)
    (k : Wl P B N fm ops rest F A' K) : Wl P B N fm ops (⟨none, .store U x y, T, pos, aft, none⟩ :: rest) F A K := by
  subst hs ho' hz
  exact y6 hx hy.eq hv hl hu ho (fun j _ _ => by simp) k

/-! a slice that can be read, wherever it lies -/
structure RdS (P : Program) (B : Base) (A : List Asn) (sz : Nat) (a : Option Addr) (m c : Nat) (vs : List Value) : Prop where
  len : vs.length = m * sz
  nil : a = none → m = 0
  cap : m ≤ c
  src : Src P B A sz (.slice a m c) m vs
theorem RdS.tail {sz m c : Nat} {a : Option Addr} {vs : List Value} {b : Asn} (h : RdS P B A sz a m c vs) : RdS P B (b :: A) sz a m c vs := ⟨h.len, h.nil, h.cap, h.src.tail⟩
theorem rds_sl {b off m c sz : Nat} {l vs : List Value} {E : TypeId} {fz : Nat × Nat} (hr : Rd B b l E fz A) (ho : off + m * sz ≤ l.length) (hv : (l.drop off).take (m * sz) = vs) (hc : m ≤ c) :
    RdS P B A sz (some ⟨b, off, none⟩) m c vs := ⟨by subst hv; simp; omega, by simp, hc, src_sl hr ho hv⟩
theorem rds_nil {c sz : Nat} : RdS P B A sz none 0 c [] := ⟨by simp, fun _ => rfl, Nat.zero_le _, src_nil⟩
theorem src_own {a : Option Addr} {len cap sz : Nat} {cs : List Value} {E : TypeId} (hl : cs.length = len * sz) : Src P B (own a len cap sz cs E :: A) sz (.slice a len cap) len cs := by
  intro w hs
  refine ⟨rfl, fun n hn => ?_⟩
  have hmn : n * sz ≤ len * sz := Nat.mul_le_mul_right _ hn
  rcases own_open hs.own with ⟨e1, e2, e3, e4, e5⟩ | ⟨r, spare, e1, e2, e3, e4⟩
  · subst e1 e2 e3 e4
    obtain rfl : n = 0 := Nat.le_zero.1 hn
    simp [Builtin.firstCells]
  · subst e1
    have hs2 : Sat B w (cb r (cs ++ spare) E :: A) := ⟨hs.size, hs.io, hs.base, e4⟩
    have hb := (hs2.get (List.mem_cons_self ..)).2
    have := run_loadCells P w (b := r) (off := 0) (n := n * sz) hb (by simp; omega)
    rw [List.drop_zero, List.take_append_of_le_length (by omega)] at this
    exact this

theorem src_out {a : Option Addr} {len cap sz : Nat} {cs : List Value} {E : TypeId} {M : List Asn} (h : Out (own a len cap sz cs E) A M) (hl : cs.length = len * sz) : Src P B A sz (.slice a len cap) len cs :=
  (src_own hl).weak fun w hs => hs.perm h.perm
theorem RdS.any {sz m c : Nat} {a : Option Addr} {vs : List Value} (h : RdS P B [] sz a m c vs) : RdS P B A sz a m c vs := ⟨h.len, h.nil, h.cap, h.src.weak fun w hs => hs.ent Ent.nil⟩
theorem loads_of (w : World) (a : Addr) : ∀ (n i : Nat) (acc arr : Array Value), (loadCellsFrom a i n acc).run P w = .ok arr w →
    (∀ j, j < acc.size → arr[j]? = acc[j]?) ∧ ∀ j, j < n → ∃ v, (load (a.add (i + j))).run P w = .ok v w ∧ arr[acc.size + j]? = some v
  | 0, i, acc, arr, h => by
    simp [loadCellsFrom] at h; subst h
    exact ⟨fun _ _ => rfl, fun j hj => by omega⟩
  | n + 1, i, acc, arr, h => by
    simp only [loadCellsFrom, Sem.run_bind] at h
    have hl : ∃ v, (load (a.add i)).run P w = .ok v w := by
      rw [run_load]
      cases hc : w.cell? (a.add i) with
      | some v => exact ⟨v, rfl⟩
      | none =>
        rw [run_load, hc] at h
        simp only at h ⊢
        cases hf : w.farLoad P (a.add i) (Mode.plain == Mode.atomic) with
        | ok x => obtain ⟨v, l⟩ := x; exact ⟨v, rfl⟩
        | error e => rw [hf] at h; simp only [Result.andThen_halt] at h; cases h
    obtain ⟨v, hv⟩ := hl
    rw [hv, Result.andThen_ok] at h
    obtain ⟨h1, h2⟩ := loads_of w a n (i + 1) (acc.push v) arr h
    refine ⟨fun j hj => by rw [h1 j (by simp; omega)]; simp [Array.getElem?_push]; omega, fun j hj => ?_⟩
    cases j with
    | zero => exact ⟨v, by simpa using hv, by rw [Nat.add_zero, h1 _ (by simp)]; simp⟩
    | succ j =>
      obtain ⟨u, hu, ha⟩ := h2 j (by omega)
      exact ⟨u, by rw [show i + (j + 1) = i + 1 + j by omega]; exact hu, by rw [← ha]; congr 1; simp; omega⟩

theorem RdS.load {w : World} {p : Addr} {m c : Nat} {vs : List Value} (h : RdS P B A 1 (some p) m c vs) (hs : Sat B w A) {i : Nat} (hi : i < m) : ∃ v, vs[i]? = some v ∧ (load (p.add i)).run P w = .ok v w := by
  have hf := (h.src w hs).2 m (Nat.le_refl _)
  have hlen := h.len
  have ht : vs.take (m * 1) = vs := List.take_of_length_le (by omega)
  rw [ht] at hf
  have hl : (loadCellsFrom p 0 m #[]).run P w = .ok vs.toArray w := by simpa [Builtin.firstCells, loadCells] using hf
  obtain ⟨v, hv, ha⟩ := (loads_of w p m 0 #[] vs.toArray hl).2 i hi
  exact ⟨v, by simpa using ha, by simpa using hv⟩

theorem zq {E n len cap : Nat} {p : Addr} {k : IntKind} {i : Int} [h1 : TSl P U E] [h2 : TSize P E n] (hd : Nat.blt d N = true := by exact rfl) (hx : ev F x = .slice (some p) len cap := by exact rfl) (hy : ev F y = .int k i := by exact rfl)
    (h0 : 0 ≤ i := by omega) (hl : i < len := by omega) (k' : Wl P B N fm ops rest (upd F d (.pointer (some (p.add (i.toNat * n))))) A K) :
    Wl P B N fm ops (⟨some d, .indexAddr U x y, T, pos, aft, none⟩ :: rest) F A K := yA hd (fun w => by
      simp [execOp, hx, hy, Instr.indexAt, asIntOf, run_under w U (under_of_sl h1.out), h0, hl, run_sizeOf w E h2.out]) k'
/-! texts and bytes -/
def bytesOf (l : List UInt8) : ByteArray := ⟨l.toArray⟩
theorem run_bytes_push (P : Program) (w : World) (f : Value → ByteArray → Sem (ForInStep ByteArray)) (hf : ∀ c s, f (byteV c) s = pure (.yield (s.push c))) : ∀ (cs : List UInt8) (s : ByteArray),
    (forIn (cs.map byteV) s f).run P w = .ok ⟨(s.data.toList ++ cs).toArray⟩ w
  | [], s => by simp
  | c :: cs, s => by
    have ih := run_bytes_push P w f hf cs (s.push c)
    rw [List.map_cons, List.forIn_cons, hf]
    simp only [pure_bind]
    rw [ih]
    simp [ByteArray.push]

theorem yu {E len cap : Nat} {a : Option Addr} {cs : List UInt8} [h1 : TSl P U E] [h2 : TInt P E .u8] [h3 : TStr P V] (hk : kindB fm (some d) (.convert U V x) ≠ 0 := by decide) (hd : Nat.blt d N = true := by exact rfl) (hx : ev F x = .slice a len cap := by exact rfl)
    (hsrc : Src P B A 1 (.slice a len cap) len (cs.map byteV)) (hl : cs.length = len)
    (k : Wl P B N fm ops rest (upd F d (.string (bytesOf cs))) A K) : Wl P B N fm ops (⟨some d, .convert U V x, T, pos, aft, none⟩ :: rest) F A K :=
  xH hk hd (fun w R hs => by
    obtain ⟨_, hf⟩ := hsrc w (hs.ent (Ent.drop R))
    have hf' := hf len (Nat.le_refl _)
    have ht : (cs.map byteV).take (len * 1) = cs.map byteV := List.take_of_length_le (by simp [hl])
    rw [ht] at hf'
    have hc : (Conv.bytesToString (.slice a len cap)).run P w = .ok (.string (bytesOf cs)) w := by
      unfold Conv.bytesToString
      cases a with
      | none =>
        have : (#[] : Array Value) = (cs.map byteV).toArray := by simpa [Builtin.firstCells] using hf'
        have hcs : cs = [] := by cases cs with
          | nil => rfl
          | cons c cs => simp at this
        subst hcs; rfl
      | some p =>
        have hl' : (loadCells p len).run P w = .ok (cs.map byteV).toArray w := by simpa [Builtin.firstCells] using hf'
        simp only [Sem.run_bind, hl', Result.andThen_ok]
        rw [List.forIn_toArray, run_bytes_push P w _ (fun c s => by simp [byteV]) cs ByteArray.empty]
        simp [bytesOf]
    have hV : P.underlying V = some .string := under_of_str h3.out
    simp [execOp, hx, convert, run_under w U (under_of_sl h1.out), run_under w V hV, run_under w E (under_of_int h2.out), hc]) k

end ops
end Go.Sl
/- A region that draws its order: where what is not ordered does not touch, the text's own order speaks for all. No condition. -/
set_option linter.unusedVariables false
namespace Go.Sl
open Go
section draw
variable {P : Program} {ops : Array Oper} {Inv : World → Prop} {fm : Fm}

theorem wp_putE {oj : Oper} {dst : Option Tmp} {v : Value} {a : Act} {w : World} {K : Act → World → Prop} (hs : ∀ cs b, oj.op ≠ .select cs b)
    (h1 : ∀ d, dst = some d → d ∉ oj.looksAt ops) (h2 : ∀ d, dst = some d → oj.dst ≠ some d) :
    oj.wpY P (a.put dst v) w K noQ ↔ oj.wpY P a w (fun a' w' => K (a'.put dst v) w') noQ := by
  unfold Oper.wpY
  rw [execOp_put oj hs a dst v h1]
  generalize (execOp a.eval oj).run P w = r
  cases r with
  | ok n w' =>
    cases n <;> simp only [Oper.upY]
    case value u => rw [Act.put_comm a v u h2]
    case skip => rw [Act.put_comm a v undef h2]
    case enter f args =>
      constructor
      · intro h
        refine Calls.mono h fun e w'' he => ?_
        cases e with
        | returned u => simp only at he ⊢; rw [← Act.put_comm a v u h2]; exact he
        | panicked c => exact he
        | outgrown => exact he
      · intro h
        refine Calls.mono h fun e w'' he => ?_
        cases e with
        | returned u => simp only at he ⊢; rw [Act.put_comm a v u h2]; exact he
        | panicked c => exact he
        | outgrown => exact he
    case round l f tmps asx bd =>
      constructor
      · intro h
        refine RoundIn.mono h fun e w'' he => ?_
        cases e with
        | returned u => simp only at he ⊢; rw [← Act.put_comm a v u h2]; exact he
        | panicked c => exact he
        | outgrown => exact he
      · intro h
        refine RoundIn.mono h fun e w'' he => ?_
        cases e with
        | returned u => simp only at he ⊢; rw [Act.put_comm a v u h2]; exact he
        | panicked c => exact he
        | outgrown => exact he
  | halt x w' => cases x <;> simp only [Oper.upY] <;> exact Iff.rfl

/-- What an operation leaves of the frame: its own slot is turned, and the list of deferred calls perhaps. -/
theorem wp_shape {oj : Oper} {a : Act} {w : World} {K : Act → World → Prop} (h : oj.wpY P a w K noQ) :
    oj.wpY P a w (fun a' w' => (∃ u ds, a' = ({ a with defers := ds } : Act).put oj.dst u) ∧ K a' w') noQ := by
  unfold Oper.wpY at *
  generalize (execOp a.eval oj).run P w = r at *
  cases r with
  | ok n w' =>
    cases n <;> simp only [Oper.upY] at h ⊢
    case value u => exact ⟨⟨u, a.defers, rfl⟩, h⟩
    case skip => exact ⟨⟨undef, a.defers, rfl⟩, h⟩
    case enter f args =>
      refine Calls.mono h fun e w'' he => ?_
      cases e with
      | returned u => exact ⟨⟨u, a.defers, rfl⟩, he⟩
      | panicked c => exact he
      | outgrown => obtain ⟨_, _, h⟩ := he; exact h.elim
    case round l f tmps asx bd =>
      refine RoundIn.mono h fun e w'' he => ?_
      cases e with
      | returned u => exact ⟨⟨u, a.defers, rfl⟩, he⟩
      | panicked c => exact he
      | outgrown => obtain ⟨_, _, h⟩ := he; exact h.elim
  | halt x w' => cases x <;> simp only [Oper.upY] at h ⊢ <;> exact h

theorem wp_exists {oj : Oper} {a : Act} {w : World} {K : Act → World → Prop} (h : oj.wpY P a w K noQ) : ∃ a' w', K a' w' := by
  unfold Oper.wpY at *
  generalize (execOp a.eval oj).run P w = r at *
  cases r with
  | ok n w' =>
    cases n <;> simp only [Oper.upY] at h
    case value u => exact ⟨_, _, h⟩
    case skip => exact ⟨_, _, h⟩
    case enter f args =>
      obtain ⟨e, w'', fr, he, _⟩ := h []
      cases e with
      | returned u => exact ⟨_, _, he⟩
      | panicked c => exact he.elim
      | outgrown => obtain ⟨_, _, h⟩ := he; exact h.elim
    case round l f tmps asx bd =>
      obtain ⟨e, w'', he, _⟩ := h.2 default [] (room_wide _)
      cases e with
      | returned u => exact ⟨_, _, he⟩
      | panicked c => exact he.elim
      | outgrown => obtain ⟨_, _, h⟩ := he; exact h.elim
  | halt x w' => cases x <;> simp only [Oper.upY] at h <;> exact h.elim

theorem wp_monoN {o : Oper} {a : Act} {w : World} {K K' : Act → World → Prop} (hk : ∀ a w, K a w → K' a w) (h : o.wpY P a w K noQ) : o.wpY P a w K' noQ :=
  wpOper_mono hk (fun _ _ _ _ h => h) h

def Stepable (fm : Fm) (x i : Oper) : Prop := kindB fm x.dst x.op = 0 ∨ kindB fm i.dst i.op = 0 ∨ (kindB fm x.dst x.op = 1 ∧ (kindB fm i.dst i.op = 1 ∨ kindB fm i.dst i.op = 3))

theorem eval_defers (a : Act) (ds : List Deferred) : ({ a with defers := ds } : Act).eval = a.eval := by funext x; cases x <;> rfl

theorem stepX_iff {o : Oper} {K : Act → World → Prop} {a : Act} {w : World} (hw : Region.wanted o (yielded ops a.tmps) = true) :
    stepX P ops Inv fm o K a w ↔ kstep P Inv (kindB fm o.dst o.op) o K a w := by unfold stepX; rw [if_pos hw]
theorem stepX_no {o : Oper} {K : Act → World → Prop} {a : Act} {w : World} (hw : Region.wanted o (yielded ops a.tmps) = false) :
    stepX P ops Inv fm o K a w ↔ K (a.put o.dst undef) w := by unfold stepX; rw [if_neg (by simp [hw])]
theorem kstep2 {k : Nat} {o : Oper} {K : Act → World → Prop} {a : Act} {w : World} (h0 : k ≠ 0) (h1 : k ≠ 1) : kstep P Inv k o K a w ↔ o.wpY P a w (fun a' w' => Inv w' ∧ (k = 3 → Ext w w') ∧ K a' w') noQ := by
  unfold kstep
  split
  · exact absurd rfl h0
  · exact absurd rfl h1
  · exact Iff.rfl
theorem stepX_mono {o : Oper} {K K' : Act → World → Prop} {a : Act} {w : World} (hI : Inv w) (hk : ∀ a w, Inv w → K a w → K' a w) (h : stepX P ops Inv fm o K a w) : stepX P ops Inv fm o K' a w := by
  unfold stepX at *
  split
  · rename_i hw
    rw [if_pos hw] at h
    unfold kstep at *
    split at h
    · obtain ⟨v, h1, h2⟩ := h; exact ⟨v, h1, hk _ _ hI h2⟩
    · obtain ⟨v, h1, h2⟩ := h; exact ⟨v, h1, hk _ _ hI h2⟩
    · exact wp_monoN (fun a w h => ⟨h.1, h.2.1, hk _ _ h.1 h.2.2⟩) h
  · rename_i hw; rw [if_neg hw] at h; exact hk _ _ hI h

/-- A slot that an operation does not look at can be turned before it or behind it. -/
theorem stepX_put {o : Oper} {dst : Option Tmp} {v : Value} {K : Act → World → Prop} {a : Act} {w : World} (hs : ∀ cs b, o.op ≠ .select cs b)
    (h1 : ∀ d, dst = some d → d ∉ o.looksAt ops) (h2 : ∀ d, dst = some d → o.dst ≠ some d) :
    stepX P ops Inv fm o K (a.put dst v) w ↔ stepX P ops Inv fm o (fun a' w' => K (a'.put dst v) w') a w := by
  have hwp := wanted_put (ops := ops) o a dst v h1
  cases hw : Region.wanted o (yielded ops a.tmps) with
  | false => rw [stepX_no (by rw [hwp]; exact hw), stepX_no hw, Act.put_comm a v undef h2]
  | true =>
    rw [stepX_iff (by rw [hwp]; exact hw), stepX_iff hw]
    unfold kstep
    split
    · simp only [execOp_put o hs a dst v h1, Act.put_comm a v _ h2]
    · simp only [execOp_put o hs a dst v h1, Act.put_comm a v _ h2]
    · exact wp_putE hs h1 h2

def Shape (o : Oper) (a a' : Act) : Prop := ∃ u ds, a' = ({ a with defers := ds } : Act).put o.dst u
theorem stepX_shape {o : Oper} {K : Act → World → Prop} {a : Act} {w : World} (h : stepX P ops Inv fm o K a w) : stepX P ops Inv fm o (fun a' w' => Shape o a a' ∧ K a' w') a w := by
  unfold stepX at *
  split
  · rename_i hw
    rw [if_pos hw] at h
    unfold kstep at *
    split at h
    · obtain ⟨v, h1, h2⟩ := h; exact ⟨v, h1, ⟨v, a.defers, rfl⟩, h2⟩
    · obtain ⟨v, h1, h2⟩ := h; exact ⟨v, h1, ⟨v, a.defers, rfl⟩, h2⟩
    · exact wp_monoN (fun a w h => ⟨h.2.1, h.2.2.1, h.1, h.2.2.2⟩) (wp_shape h)
  · rename_i hw; rw [if_neg hw] at h; exact ⟨⟨undef, a.defers, rfl⟩, h⟩
theorem stepX_still {o : Oper} {K : Act → World → Prop} {a : Act} {w : World} (hk : kindB fm o.dst o.op = 0 ∨ kindB fm o.dst o.op = 1 ∨ kindB fm o.dst o.op = 3) (h : stepX P ops Inv fm o K a w) :
    stepX P ops Inv fm o (fun a' w' => Ext w w' ∧ K a' w') a w := by
  unfold stepX at *
  split
  · rename_i hw
    rw [if_pos hw] at h
    rcases hk with hk | hk | hk
    · rw [hk] at h ⊢; obtain ⟨v, h1, h2⟩ := h; exact ⟨v, h1, Ext.refl w, h2⟩
    · rw [hk] at h ⊢; obtain ⟨v, h1, h2⟩ := h; exact ⟨v, h1, Ext.refl w, h2⟩
    · rw [hk] at h ⊢
      exact wp_monoN (fun a' w' (h : Inv w' ∧ (3 = 3 → Ext w w') ∧ K a' w') => ⟨h.1, h.2.1, h.2.1 rfl, h.2.2⟩) h
  · rename_i hw; rw [if_neg hw] at h; exact ⟨Ext.refl w, h⟩
/-- Behind an operation whose slot 'x' does not look at, 'x' does as before. -/
theorem shape_same {x o : Oper} {a a' : Act} (hsx : ∀ cs b, x.op ≠ .select cs b) (h1 : ∀ d, o.dst = some d → d ∉ x.looksAt ops) (h : Shape o a a') :
    execOp a'.eval x = execOp a.eval x ∧ Region.wanted x (yielded ops a'.tmps) = Region.wanted x (yielded ops a.tmps) := by
  obtain ⟨u, ds, rfl⟩ := h
  refine ⟨?_, ?_⟩
  · rw [execOp_put x hsx { a with defers := ds } o.dst u h1, eval_defers]
  · rw [wanted_put (ops := ops) x { a with defers := ds } o.dst u h1]

theorem swap {x i : Oper} {K : Act → World → Prop} {a : Act} {w : World} (hI : Inv w) (hsx : ∀ cs b, x.op ≠ .select cs b) (hsi : ∀ cs b, i.op ≠ .select cs b) (hap : x.apart ops i = true)
    (hk : Stepable fm x i) (h : stepX P ops Inv fm x (stepX P ops Inv fm i K) a w) : stepX P ops Inv fm i (stepX P ops Inv fm x K) a w := by
  obtain ⟨a1, a2, a3⟩ := Oper.apart_spec hap
  have a2' : ∀ d, i.dst = some d → x.dst ≠ some d := fun d hd e => a2 d e hd
  cases hwx : Region.wanted x (yielded ops a.tmps) with
  | false =>
    rw [stepX_no hwx, stepX_put hsi a1 a2] at h
    refine stepX_mono hI ?_ (stepX_shape h)
    rintro a' w' _ ⟨hsh, hk⟩
    rw [stepX_no (by rw [(shape_same hsx a3 hsh).2]; exact hwx)]
    exact hk
  | true =>
    rw [stepX_iff hwx] at h
    by_cases k0 : kindB fm x.dst x.op = 0
    · rw [k0] at h
      obtain ⟨v, hv, h⟩ := h
      rw [stepX_put hsi a1 a2] at h
      refine stepX_mono hI ?_ (stepX_shape h)
      rintro a' w' _ ⟨hsh, hk⟩
      rw [stepX_iff (by rw [(shape_same hsx a3 hsh).2]; exact hwx), k0]
      exact ⟨v, fun w hi => by rw [(shape_same hsx a3 hsh).1]; exact hv w hi, hk⟩
    · by_cases k1 : kindB fm x.dst x.op = 1
      · rw [k1] at h
        obtain ⟨v, hv, h⟩ := h
        rw [stepX_put hsi a1 a2] at h
        have hki : kindB fm i.dst i.op = 0 ∨ kindB fm i.dst i.op = 1 ∨ kindB fm i.dst i.op = 3 := by rcases hk with h | h | h <;> omega
        refine stepX_mono hI ?_ (stepX_shape (stepX_still hki h))
        rintro a' w' _ ⟨hsh, hext, hk⟩
        rw [stepX_iff (by rw [(shape_same hsx a3 hsh).2]; exact hwx), k1]
        exact ⟨v, fun w'' he => by rw [(shape_same hsx a3 hsh).1]; exact hv w'' (hext.trans he), hk⟩
      · rw [kstep2 k0 k1] at h
        have ki : kindB fm i.dst i.op = 0 := by rcases hk with h | h | h <;> omega
        have h' := wp_shape h
        cases hwi : Region.wanted i (yielded ops a.tmps) with
        | false =>
          rw [stepX_no hwi, stepX_iff (by rw [wanted_put (ops := ops) x a i.dst undef a3]; exact hwx), kstep2 k0 k1, wp_putE hsx a3 a2']
          refine wp_monoN ?_ h'
          rintro a' w' ⟨hsh, hi', he, hk⟩
          rw [stepX_no (by rw [(shape_same hsi a1 hsh).2]; exact hwi)] at hk
          exact ⟨hi', he, hk⟩
        | true =>
          obtain ⟨a0, w0, hsh0, _, _, hk0⟩ := wp_exists h'
          rw [stepX_iff (by rw [(shape_same hsi a1 hsh0).2]; exact hwi), ki] at hk0
          obtain ⟨v, hv, _⟩ := hk0
          rw [(shape_same hsi a1 hsh0).1] at hv
          rw [stepX_iff hwi, ki]
          refine ⟨v, hv, ?_⟩
          rw [stepX_iff (by rw [wanted_put (ops := ops) x a i.dst v a3]; exact hwx), kstep2 k0 k1, wp_putE hsx a3 a2']
          refine wp_monoN ?_ h'
          rintro a' w' ⟨hsh, hi', he, hk⟩
          rw [stepX_iff (by rw [(shape_same hsi a1 hsh).2]; exact hwi), ki] at hk
          obtain ⟨v', hv', hk⟩ := hk
          rw [(shape_same hsi a1 hsh).1] at hv'
          have : v' = v := by
            have e := (hv' w hI).symm.trans (hv w hI)
            simpa using e
          subst this
          exact ⟨hi', he, hk⟩

/-! ### Orders -/
/-- Is 'x' ahead of 'i', by the edges that bind? -/
def anc (ops : Array Oper) : Nat → Nat → Nat → Bool
  | 0, _, _ => false
  | k + 1, x, i => match ops[i]? with
    | some o => o.after.toList.any fun e => Region.binds .any e && (e.on == x || anc ops k x e.on)
    | none => false
def isSelect : Op → Bool
  | .select _ _ => true
  | _ => false
def stepableB (fm : Fm) (x i : Oper) : Bool := kindB fm x.dst x.op == 0 || kindB fm i.dst i.op == 0 || (kindB fm x.dst x.op == 1 && (kindB fm i.dst i.op == 1 || kindB fm i.dst i.op == 3))
/-- The text's own order speaks for all: pairs that are not ordered are apart and do not touch; edges that bind go back. -/
def drawOk (fm : Fm) (ops : Array Oper) : Bool :=
  (ops.toList.all fun o => !isSelect o.op) &&
  ((List.range ops.size).all fun i => match ops[i]? with | some o => o.after.toList.all fun e => !Region.binds .any e || decide (e.on < i) | none => true) &&
  ((List.range ops.size).all fun i => (List.range i).all fun x => anc ops ops.size x i ||
    (match ops[x]?, ops[i]? with | some ox, some oi => ox.apart ops oi && stepableB fm ox oi | _, _ => true))

def Xi (P : Program) (ops : Array Oper) (Inv : World → Prop) (fm : Fm) (K : Act → World → Prop) : List Nat → Act → World → Prop
  | [] => K
  | i :: rest => match ops[i]? with
    | some o => stepX P ops Inv fm o (Xi P ops Inv fm K rest)
    | none => Xi P ops Inv fm K rest

theorem Xi_X {K : Act → World → Prop} : ∀ (l : List Oper) (k : Nat), (∀ j, l[j]? = ops[k + j]?) → Xi P ops Inv fm K (List.range' k l.length) = X P ops Inv fm K l
  | [], k, _ => rfl
  | o :: l, k, h => by
    have h0 : ops[k]? = some o := by simpa using (h 0).symm
    have ih := Xi_X (K := K) l (k + 1) (fun j => by have := h (j + 1); simpa [Nat.add_assoc, Nat.add_comm 1 j] using this)
    simp only [List.length_cons, List.range'_succ, Xi, h0, X, ih]

theorem wpOp_of_step {ro : Option Nat} {i : Nat} {o : Oper} {K : Act → World → Prop} {Q : Exit → Act → World → Prop} {a : Act} {w : World} (hI : Inv w) (hi : ops[i]? = some o) (h : stepX P ops Inv fm o K a w) :
    wpOpIn (fen ro) 0 P ops Q i (fun a' w' => Inv w' ∧ K a' w') a w := by
  unfold wpOpIn
  simp only [hi]
  unfold stepX at h
  split
  · rename_i hw
    rw [if_pos hw] at h
    unfold kstep at h
    split at h
    · obtain ⟨v, hv, hk⟩ := h; refine wpY_in (show o.wpY P a w _ noQ from ?_); unfold Oper.wpY; rw [hv w hI, Oper.upY_value]; exact ⟨hI, hk⟩
    · obtain ⟨v, hv, hk⟩ := h; refine wpY_in (show o.wpY P a w _ noQ from ?_); unfold Oper.wpY; rw [hv w (Ext.refl w), Oper.upY_value]; exact ⟨hI, hk⟩
    · exact wpY_in (wpOper_mono (fun _ _ h => ⟨h.1, h.2.2⟩) (fun _ _ _ _ h => h) h)
  · rename_i hw; rw [if_neg hw] at h; exact ⟨fun _ _ => trivial, hI, h⟩

theorem Xi_front (hsel : ∀ o ∈ ops.toList, isSelect o.op = false) {K : Act → World → Prop} {i : Nat} : ∀ (L1 L2 : List Nat),
    (∀ x ∈ L1, ∀ ox oi, ops[x]? = some ox → ops[i]? = some oi → ox.apart ops oi = true ∧ Stepable fm ox oi) →
    ∀ a w, Inv w → Xi P ops Inv fm K (L1 ++ i :: L2) a w → Xi P ops Inv fm K (i :: (L1 ++ L2)) a w
  | [], L2, _, a, w, _, h => h
  | x :: L1, L2, hp, a, w, hI, h => by
    have ih := Xi_front hsel (K := K) (i := i) L1 L2 (fun y hy => hp y (List.mem_cons_of_mem _ hy))
    have nosel : ∀ (j : Nat) (o : Oper), ops[j]? = some o → ∀ cs b, o.op ≠ .select cs b := fun j o ho cs b e => by
      have := hsel o (by have := Array.mem_of_getElem? ho; simpa using this)
      rw [e] at this; cases this
    cases hx : ops[x]? with
    | none =>
      have h' : Xi P ops Inv fm K (L1 ++ i :: L2) a w := by simpa [Xi, hx] using h
      have := ih a w hI h'
      cases hi : ops[i]? with
      | none => simpa [Xi, hx, hi] using this
      | some oi => simpa [Xi, hx, hi] using this
    | some ox =>
      have h' : stepX P ops Inv fm ox (Xi P ops Inv fm K (L1 ++ i :: L2)) a w := by simpa [Xi, hx] using h
      have h2 := stepX_mono hI (fun a w hi => ih a w hi) h'
      cases hi : ops[i]? with
      | none => simpa [Xi, hx, hi] using h2
      | some oi =>
        obtain ⟨q1, q2⟩ := hp x (List.mem_cons_self ..) ox oi hx hi
        have h3 : stepX P ops Inv fm ox (stepX P ops Inv fm oi (Xi P ops Inv fm K (L1 ++ L2))) a w := by simpa [Xi, hi] using h2
        have h4 := swap hI (nosel x ox hx) (nosel i oi hi) q1 q2 h3
        simpa [Xi, hx, hi] using h4

theorem anc_inv {k x i : Nat} (h : anc ops (k + 1) x i = true) : ∃ o e, ops[i]? = some o ∧ e ∈ o.after ∧ Region.binds .any e = true ∧ (e.on = x ∨ anc ops k x e.on = true) := by
  unfold anc at h
  split at h
  · rename_i o ho
    obtain ⟨e, he, hh⟩ := List.any_eq_true.1 h
    simp only [Bool.and_eq_true, Bool.or_eq_true, beq_iff_eq] at hh
    exact ⟨o, e, ho, by simpa using he, hh.1, hh.2⟩
  · cases h

theorem draw_any {ro : Option Nat} (hok : drawOk fm ops = true) {K : Act → World → Prop} : ∀ (fuel : Nat) (listed : Array Bool) (L : List Nat), listed.size = ops.size →
    (∀ j, j ∈ L ↔ (j < ops.size ∧ listed.getD j true = false)) → L.Pairwise (· < ·) →
    (∀ i, listed.getD i false = true → ∀ k x, anc ops k x i = true → listed.getD x false = true) → L.length ≤ fuel →
    ∀ a w, Inv w → Xi P ops Inv fm K L a w → wpAnyIn (fen ro) 0 P .any ops (onlyN K) fuel listed a w := by
  simp only [drawOk, Bool.and_eq_true] at hok
  obtain ⟨⟨hsel, hback⟩, hpair⟩ := hok
  have hsel' : ∀ o ∈ ops.toList, isSelect o.op = false := fun o ho => by simpa using List.all_eq_true.1 hsel o ho
  have hback' : ∀ i o, ops[i]? = some o → ∀ e ∈ o.after, Region.binds .any e = true → e.on < i := fun i o hi e he hb => by
    have hlt : i < ops.size := (Array.getElem?_eq_some_iff.1 hi).1
    have := List.all_eq_true.1 hback i (by simpa using hlt)
    rw [hi] at this
    have := List.all_eq_true.1 this e (by simpa using he)
    simpa [hb] using this
  have hpair' : ∀ x i, x < i → anc ops ops.size x i = false → ∀ ox oi, ops[x]? = some ox → ops[i]? = some oi → ox.apart ops oi = true ∧ Stepable fm ox oi := fun x i hxi hn ox oi hx hi => by
    have hlt : i < ops.size := (Array.getElem?_eq_some_iff.1 hi).1
    have h1 := List.all_eq_true.1 (List.all_eq_true.1 hpair i (by simpa using hlt)) x (by simpa using hxi)
    rw [hn, hx, hi] at h1
    simp only [Bool.false_or, Bool.and_eq_true, stepableB, Bool.or_eq_true, beq_iff_eq] at h1
    refine ⟨h1.1, ?_⟩
    rcases h1.2 with (h | h) | h
    · exact .inl h
    · exact .inr (.inl h)
    · exact .inr (.inr h)
  have gd : ∀ (l : Array Bool) (j : Nat), j < l.size → (l.getD j true = false ↔ ¬ l.getD j false = true) := fun l j hj => by
    simp [Array.getD, hj]
  intro fuel
  induction fuel with
  | zero =>
    intro listed L hsz hL hP hD hlen a w hI h
    obtain rfl : L = [] := List.length_eq_zero_iff.1 (by omega)
    refine ⟨?_, h⟩
    cases hr : Region.ready .any ops listed with
    | nil => rfl
    | cons j js =>
      have hj : j ∈ Region.ready .any ops listed := by rw [hr]; exact List.mem_cons_self ..
      obtain ⟨h0, o, ho, _⟩ := mem_ready.1 hj
      have := (hL j).2 ⟨(Array.getElem?_eq_some_iff.1 ho).1, h0⟩
      cases this
  | succ fuel ih =>
    intro listed L hsz hL hP hD hlen a w hI h
    refine ⟨fun hr => ?_, fun j hj => ?_⟩
    · cases L with
      | nil => exact h
      | cons m L =>
        exfalso
        have hm := (hL m).1 (List.mem_cons_self ..)
        have : m ∈ Region.ready .any ops listed := by
          refine mem_ready.2 ⟨hm.2, ops[m]'hm.1, by simp [hm.1], fun e he hb => ?_⟩
          have hlt := hback' m _ (by simp [hm.1]) e he hb
          rcases Bool.eq_false_or_eq_true (listed.getD e.on false) with h1 | h1
          · exact h1
          · exfalso
            have hin : e.on ∈ m :: L := (hL e.on).2 ⟨by omega, (gd listed e.on (by omega)).2 (by simp [h1])⟩
            rcases List.mem_cons.1 hin with h2 | h2
            · omega
            · have := (List.pairwise_cons.1 hP).1 _ h2; omega
        rw [hr] at this; cases this
    · obtain ⟨h0, oj, hoj, hall⟩ := mem_ready.1 hj
      have hjlt : j < ops.size := (Array.getElem?_eq_some_iff.1 hoj).1
      have hjL : j ∈ L := (hL j).2 ⟨hjlt, h0⟩
      obtain ⟨L1, L2, rfl⟩ := List.append_of_mem hjL
      -- all that is ahead of 'j' by edges is listed
      have hanc : ∀ k x, anc ops k x j = true → listed.getD x false = true := by
        intro k x hx
        cases k with
        | zero => cases hx
        | succ k =>
          obtain ⟨o, e, ho, he, hb, h1⟩ := anc_inv hx
          rw [hoj] at ho; obtain rfl := Option.some.inj ho
          have hl := hall e he hb
          rcases h1 with h1 | h1
          · rw [← h1]; exact hl
          · exact hD _ hl k x h1
      have hP1 := List.pairwise_append.1 hP
      have hfront := Xi_front hsel' (P := P) (Inv := Inv) (fm := fm) (K := K) (i := j) L1 L2 (fun x hx ox oi hox hoi => by
        have hxj : x < j := hP1.2.2 x hx j (List.mem_cons_self ..)
        have hxL := (hL x).1 (List.mem_append_left _ hx)
        refine hpair' x j hxj ?_ ox oi hox hoi
        rcases Bool.eq_false_or_eq_true (anc ops ops.size x j) with h1 | h1
        · have := hanc _ x h1
          exact absurd this ((gd listed x (by omega)).1 hxL.2)
        · exact h1) a w hI h
      have hst : stepX P ops Inv fm oj (Xi P ops Inv fm K (L1 ++ L2)) a w := by simpa [Xi, hoj] using hfront
      refine wpOpIn_mono (fun a w hx => ?_) (wpOp_of_step hI hoj hst)
      have hnd : ∀ x, x ∈ L1 ++ L2 → x ≠ j := by
        intro x hx
        rcases List.mem_append.1 hx with h1 | h1
        · have := hP1.2.2 x h1 j (List.mem_cons_self ..); omega
        · have := (List.pairwise_cons.1 hP1.2.1).1 x h1; omega
      refine ih (listed.setIfInBounds j true) (L1 ++ L2) (by simpa using hsz) ?_ ?_ ?_ (by simp at hlen ⊢; omega) a w hx.1 hx.2
      · intro x
        by_cases hxj : x = j
        · subst hxj
          constructor
          · intro hx; exact absurd rfl (hnd x hx)
          · rintro ⟨_, hx⟩
            simp [Array.getD, hsz, hjlt] at hx
        · rw [getD_set_ne true (Ne.symm hxj), ← hL x]
          simp [hxj]
      · refine List.pairwise_append.2 ⟨hP1.1, (List.pairwise_cons.1 hP1.2.1).2, fun x hx y hy => hP1.2.2 x hx y (List.mem_cons_of_mem _ hy)⟩
      · intro i hi k x hx
        by_cases hij : i = j
        · subst hij; exact getD_set_true (hanc k x hx)
        · rw [getD_set_ne false (Ne.symm hij)] at hi
          exact getD_set_true (hD i hi k x hx)
end draw

theorem wpAny_monoQ {P : Program} {ops : Array Oper} {Q Q' : Exit → Act → World → Prop} {ro : Option Nat} (hq : ∀ e a w, Q e a w → Q' e a w) :
    ∀ (fuel : Nat) (listed : Array Bool) (a : Act) (w : World), wpAnyIn (fen ro) 0 P .any ops Q fuel listed a w → wpAnyIn (fen ro) 0 P .any ops Q' fuel listed a w
  | 0, _, _, _, h => ⟨h.1, hq _ _ _ h.2⟩
  | fuel + 1, listed, a, w, h => by
    refine ⟨fun hr => hq _ _ _ (h.1 hr), fun i hi => ?_⟩
    have h1 := h.2 i hi
    unfold wpOpIn at *
    split
    · rename_i hn; rw [hn] at h1; exact wpAny_monoQ hq _ _ _ _ h1
    · rename_i o hn
      rw [hn] at h1
      simp only at h1
      split
      · rename_i hw
        rw [if_pos hw] at h1
        exact wpIn_operQ (fun a w h => wpAny_monoQ hq _ _ _ _ h) hq h1
      · rename_i hw
        rw [if_neg hw] at h1
        exact ⟨h1.1, wpAny_monoQ hq _ _ _ _ h1.2⟩

theorem draw_tail {ro : Option Nat} {P : Program} {fm : Fm} {ops : List Oper} {Inv : World → Prop} {K : Act → World → Prop} {Q : Exit → Act → World → Prop} {a : Act} {w : World} (hok : drawOk fm ops.toArray = true)
    (h1 : X P ops.toArray Inv fm K ops a w) (hI : Inv w) (hq : ∀ a w, K a w → Q .normal a w) :
    wpAnyIn (fen ro) 0 P .any ops.toArray Q ops.toArray.size (Array.replicate ops.toArray.size false) a w := by
  have h2 : Xi P ops.toArray Inv fm K (List.range ops.toArray.size) a w := by
    have := Xi_X (P := P) (ops := ops.toArray) (Inv := Inv) (fm := fm) (K := K) ops 0 (by simp)
    rw [List.range_eq_range', List.size_toArray, this]; exact h1
  have h3 := draw_any (ro := ro) hok ops.toArray.size (Array.replicate ops.toArray.size false) (List.range ops.toArray.size) (by simp) (fun j => by
    simp only [List.mem_range]
    constructor
    · intro hj; exact ⟨hj, by simp [Array.getD] at hj ⊢; omega⟩
    · exact fun hj => hj.1) (List.pairwise_lt_range) (fun i hi => by simp [Array.getD] at hi) (by simp) a _ hI h2
  exact wpAny_monoQ (fun e a' w' h => by
    cases e with
    | normal => exact hq _ _ h
    | _ => exact h.elim) _ _ _ _ h3

section code
variable {P : Program} {B : Base} {N : Nat} {F : Fr} {A : List Asn} {Q : Exit → Fr → List Asn → Prop}
theorem z3 {id : Nat} {ops : List Oper} (hok : drawOk none ops.toArray = true := by first | decide +kernel | (rw [drawOk_some]; decide +kernel)) (hm : P.follows .mixedOrders = true := by kernel_rfl)
    (h : ∀ K : Fr → List Asn → Prop, (∀ F A, Q .normal F A → K F A) → Wl P B N none ops ops F A K) :
    Wc P B N (.region id ops.toArray true) F A Q := fun ro R a w hk hr hs => by
  refine wpIn_region_any hm ?_
  have hs' : Sat B { w with drawn := w.drawn + 1 } (R :: A) := ⟨hs.size, hs.io, hs.base, hs.own⟩
  have h1 := h (fun F A => Q .normal F A) (fun _ _ h => h) R Ent.nil a _ hr hs'
  exact draw_tail hok h1 hs'.hd (fun a' w' ⟨hd, F', A', q1, q2, q3⟩ => ⟨[], F', A', hd, q1, q2, q3⟩)
/-- The same, where what is read besides calls lies in 'M', which none of them gets. -/
theorem yp {id : Nat} {ops : List Oper} (M : List Asn) (Ls : List Nat) {A1 : List Asn} (hok : drawOk (some (M, Ls)) ops.toArray = true := by first | decide +kernel | (rw [drawOk_some]; decide +kernel)) (hm : P.follows .mixedOrders = true := by kernel_rfl) (hp : A.Perm (M ++ A1))
    (h : ∀ K : Fr → List Asn → Prop, (∀ F A, Q .normal F (M ++ A) → K F A) → Wl P B N (some (M, Ls)) ops ops F A1 K) :
    Wc P B N (.region id ops.toArray true) F A Q := fun ro R a w hk hr hs => by
  refine wpIn_region_any hm ?_
  have hs' : Sat B { w with drawn := w.drawn + 1 } (lst (R :: M) :: A1) := Sat.ent (L := R :: M ++ A1) (Ent.lst_shut (R :: M) A1) ⟨hs.size, hs.io, hs.base, hs.own.perm (hp.cons R)⟩
  have hE : Ent [lst (R :: M)] M := (Ent.lst_open (R :: M) []).trans (by simpa using Ent.drop R)
  have h1 := h (fun F A => Q .normal F (M ++ A)) (fun _ _ h => h) (lst (R :: M)) hE a _ hr hs'
  refine draw_tail hok h1 hs'.hd (fun a' w' hq => ?_)
  obtain ⟨hd, F', A', h1, h2, h3⟩ := hq
  exact ⟨[], F', M ++ A', hd, h1, h2.ent (Ent.lst_open (R :: M) A'), h3⟩
theorem drawOk_some (M : List Asn) (Ls : List Nat) (ops : Array Oper) : drawOk (some (M, Ls)) ops = drawOk (some ([], Ls)) ops := rfl
end code
end Go.Sl
/- Two structs of plain cells compared. No condition. -/
set_option linter.unusedVariables false
set_option linter.unusedSimpArgs false
namespace Go.Sl
open Go

inductive CK where
  | i (k : IntKind)
  | b
  | s
def ckOf : Value → Option CK
  | .int k _ => some (.i k)
  | .bool _ => some .b
  | .string _ => some .s
  | _ => none
def ceq : Value → Value → Bool
  | .int _ a, .int _ b => a == b
  | .bool a, .bool b => a == b
  | .string a, .string b => a == b
  | _, _ => false
def ceqL : List Value → List Value → Bool
  | [], [] => true
  | x :: xs, y :: ys => ceq x y && ceqL xs ys
  | _, _ => false
def eqFields (P : Program) (g : TypeId → Option (List CK)) : List Field → Nat → Option (List CK)
  | [], _ => some []
  | f :: fs, off => if f.name = "_" ∨ f.offset ≠ off then none else
    match g f.type with
    | some ks => if tSize P f.type = some ks.length ∧ (aggOf P f.type).isSome then (eqFields P g fs (off + ks.length)).map (ks ++ ·) else none
    | none => none
def eqKinds (P : Program) : Nat → TypeId → Option (List CK)
  | 0, _ => none
  | d + 1, t => match P.underlying t with
    | some .bool => some [.b]
    | some (.int k) => some [.i k]
    | some .string => some [.s]
    | some (.struct fs) => if P.stoodInHeld t then none else eqFields P (eqKinds P d) fs.toList 0
    | _ => none

theorem beq_bytes (a : ByteArray) : (a == a) = true := by
  cases a with
  | mk d => exact (by simp : (d == d) = true)
theorem ceqL_self : ∀ (l : List Value) (ks : List CK), l.map ckOf = ks.map some → ceqL l l = true
  | [], _, _ => rfl
  | v :: l, ks, h => by
    cases ks with
    | nil => simp at h
    | cons k ks =>
      simp only [List.map_cons, List.cons.injEq] at h
      have ih := ceqL_self l ks h.2
      have h1 : ceq v v = true := by
        cases v <;> simp [ckOf] at h <;> simp [ceq, beq_bytes]
      simp [ceqL, h1, ih]
def wrapV (P : Program) (t : TypeId) (cs : List Value) : Value := if aggOf P t = some true then .agg cs.toArray else cs.headD undef
theorem ceqL_append : ∀ (a b c d : List Value), a.length = b.length → ceqL (a ++ c) (b ++ d) = (ceqL a b && ceqL c d)
  | [], [], _, _, _ => by simp [ceqL]
  | x :: a, y :: b, c, d, h => by simp [ceqL, ceqL_append a b c d (by simpa using h), Bool.and_assoc]
  | [], _ :: _, _, _, h => by simp at h
  | _ :: _, [], _, _, h => by simp at h
theorem run_part {P : Program} {w : World} {t : TypeId} {n : Nat} {cs : List Value} {off : Nat} (hn : tSize P t = some n) (ha : (aggOf P t).isSome = true) (hl : off + n ≤ cs.length) (h1 : aggOf P t = some false → n = 1) :
    (part t cs.toArray off).run P w = .ok (wrapV P t ((cs.drop off).take n)) w := by
  obtain ⟨b, hb⟩ := Option.isSome_iff_exists.1 ha
  unfold part wrapV
  simp only [Sem.run_bind, run_isAgg w t hb, Result.andThen_ok]
  cases b with
  | true =>
    simp only [if_true, hb, Sem.run_bind, run_sizeOf w t hn, Result.andThen_ok, Sem.run_pure]
    congr 2
    simp [List.extract_toArray, List.extract_eq_take_drop]
  | false =>
    have h1 := h1 hb
    subst h1
    simp only [hb]
    have hlt : off < cs.length := by omega
    simp [hlt, List.head?_drop, List.take_one]
theorem kinds_len {l : List Value} {ks : List CK} (h : l.map ckOf = ks.map some) : l.length = ks.length := by
  have := congrArg List.length h; simpa using this
theorem cell_kinds1 {P : Program} {n : Nat} {t : TypeId} {ks : List CK} (h : eqKinds P n t = some ks) (ha : aggOf P t = some false) : ks.length = 1 := by
  cases n with
  | zero => simp [eqKinds] at h
  | succ n =>
    unfold eqKinds at h
    unfold aggOf at ha
    split at h <;> simp_all
    all_goals (subst h; rfl)
theorem run_eq_fields {P : Program} {n : Nat} (ih : ∀ (t : TypeId) (ks : List CK) (d : Nat) (xs ys : List Value) (w : World), eqKinds P n t = some ks → n ≤ d → xs.map ckOf = ks.map some → ys.map ckOf = ks.map some →
      (Op.equalIn d t (wrapV P t xs) (wrapV P t ys)).run P w = .ok (ceqL xs ys) w) (d : Nat) (hd : n ≤ d) (xs ys : List Value) (w : World) :
    ∀ (fs : List Field) (off : Nat) (ks : List CK), eqFields P (eqKinds P n) fs off = some ks → off ≤ xs.length → off ≤ ys.length → (xs.drop off).map ckOf = ks.map some → (ys.drop off).map ckOf = ks.map some →
    (forIn fs ((none, ()) : Option Bool × Unit) (fun f (_ : Option Bool × Unit) => (do
        if f.name ≠ "_" then
          if (!(← Op.equalIn d f.type (← part f.type xs.toArray f.offset) (← part f.type ys.toArray f.offset))) = true then pure (.done (some false, ())) else pure (.yield (none, ()))
        else pure (.yield (none, ())) : Sem (ForInStep (Option Bool × Unit))))).run P w = .ok (if ceqL (xs.drop off) (ys.drop off) then (none, ()) else (some false, ())) w
  | [], off, ks, h, hox, hoy, hx, hy => by
    simp [eqFields] at h; subst h
    have h1 : xs.drop off = [] := by simpa using hx
    have h2 : ys.drop off = [] := by simpa using hy
    simp [h1, h2, ceqL]
  | f :: fs, off, ks, h, hox, hoy, hx, hy => by
    unfold eqFields at h
    split at h
    · cases h
    rename_i hnm
    split at h
    · rename_i ks1 hk1
      split at h
      · rename_i hsz
        obtain ⟨ks2, hk2, rfl⟩ := Option.map_eq_some_iff.1 h
        have ho : f.offset = off := Decidable.byContradiction fun e => hnm (Or.inr e)
        have hne : f.name ≠ "_" := fun e => hnm (Or.inl e)
        have hxl := kinds_len hx; have hyl := kinds_len hy
        simp at hxl hyl
        have hx1 : ((xs.drop off).take ks1.length).map ckOf = ks1.map some := by rw [List.map_take, hx]; simp
        have hy1 : ((ys.drop off).take ks1.length).map ckOf = ks1.map some := by rw [List.map_take, hy]; simp
        have hx2 : (xs.drop (off + ks1.length)).map ckOf = ks2.map some := by rw [← List.drop_drop, List.map_drop, hx]; simp
        have hy2 : (ys.drop (off + ks1.length)).map ckOf = ks2.map some := by rw [← List.drop_drop, List.map_drop, hy]; simp
        have c1 := cell_kinds1 hk1
        have p1 := run_part (P := P) (w := w) (cs := xs) (off := off) hsz.1 hsz.2 (by omega) c1
        have p2 := run_part (P := P) (w := w) (cs := ys) (off := off) hsz.1 hsz.2 (by omega) c1
        have e1 := ih f.type ks1 d _ _ w hk1 hd hx1 hy1
        have rest := run_eq_fields ih d hd xs ys w fs (off + ks1.length) ks2 hk2 (by omega) (by omega) hx2 hy2
        have hsplit : ceqL (xs.drop off) (ys.drop off) = (ceqL ((xs.drop off).take ks1.length) ((ys.drop off).take ks1.length) && ceqL (xs.drop (off + ks1.length)) (ys.drop (off + ks1.length))) := by
          rw [← ceqL_append _ _ _ _ (by simp; omega), ← List.drop_drop, List.take_append_drop, ← List.drop_drop, List.take_append_drop]
        rw [List.forIn_cons]
        simp only [ho, if_pos hne, Sem.run_bind, p1, p2, e1, Result.andThen_ok]
        rw [hsplit]
        cases hc : ceqL ((xs.drop off).take ks1.length) ((ys.drop off).take ks1.length) with
        | false => simp
        | true => simpa using rest
      · cases h
    · cases h
theorem run_eqk {P : Program} : ∀ (n : Nat) (t : TypeId) (ks : List CK) (d : Nat) (xs ys : List Value) (w : World), eqKinds P n t = some ks → n ≤ d → xs.map ckOf = ks.map some → ys.map ckOf = ks.map some →
      (Op.equalIn d t (wrapV P t xs) (wrapV P t ys)).run P w = .ok (ceqL xs ys) w
  | 0, t, ks, d, xs, ys, w, h, _, _, _ => by simp [eqKinds] at h
  | n + 1, t, ks, 0, xs, ys, w, h, hd, _, _ => by omega
  | n + 1, t, ks, d + 1, xs, ys, w, h, hd, hx, hy => by
    unfold eqKinds at h
    split at h
    · rename_i hu
      obtain rfl : [CK.b] = ks := by simpa using h
      obtain ⟨x, rfl⟩ : ∃ x, xs = [x] := List.length_eq_one_iff.1 (kinds_len hx)
      obtain ⟨y, rfl⟩ : ∃ x, ys = [x] := List.length_eq_one_iff.1 (kinds_len hy)
      have ha : aggOf P t = some false := by simp [aggOf, hu]
      cases x <;> simp [ckOf] at hx
      cases y <;> simp [ckOf] at hy
      simp [wrapV, ha, Op.equalIn, run_under w t hu, ceqL, ceq]
    · rename_i k hu
      obtain rfl : [CK.i k] = ks := by simpa using h
      obtain ⟨x, rfl⟩ : ∃ x, xs = [x] := List.length_eq_one_iff.1 (kinds_len hx)
      obtain ⟨y, rfl⟩ : ∃ x, ys = [x] := List.length_eq_one_iff.1 (kinds_len hy)
      have ha : aggOf P t = some false := by simp [aggOf, hu]
      cases x <;> simp [ckOf] at hx
      cases y <;> simp [ckOf] at hy
      subst hx hy
      simp [wrapV, ha, Op.equalIn, run_under w t hu, ceqL, ceq]
    · rename_i hu
      obtain rfl : [CK.s] = ks := by simpa using h
      obtain ⟨x, rfl⟩ : ∃ x, xs = [x] := List.length_eq_one_iff.1 (kinds_len hx)
      obtain ⟨y, rfl⟩ : ∃ x, ys = [x] := List.length_eq_one_iff.1 (kinds_len hy)
      have ha : aggOf P t = some false := by simp [aggOf, hu]
      cases x <;> simp [ckOf] at hx
      cases y <;> simp [ckOf] at hy
      simp [wrapV, ha, Op.equalIn, run_under w t hu, ceqL, ceq]
    · rename_i fs hu
      split at h
      · cases h
      rename_i hst
      have ha : aggOf P t = some true := by simp [aggOf, hu]
      have := run_eq_fields (P := P) (n := n) (fun t ks d xs ys w => run_eqk n t ks d xs ys w) d (by omega) xs ys w fs.toList 0 ks h (by omega) (by omega) (by simpa using hx) (by simpa using hy)
      simp only [List.drop_zero] at this
      unfold Op.equalIn
      have hp : program.run P w = .ok P w := rfl
      simp only [wrapV, if_pos ha, Sem.run_bind, run_under w t hu, Result.andThen_ok, hp, if_neg hst]
      rw [← Array.forIn_toList]
      rw [this]
      cases ceqL xs ys <;> rfl
    · cases h
class TEq (P : Program) (T : TypeId) (ks : outParam (List CK)) : Prop where
  out : eqKinds P 20 T = some ks
  guard : P.eqGuardType P.depth T = false
section ops
variable {P : Program} {B : Base} {N : Nat} {ops rest : List Oper} {F : Fr} {A : List Asn} {K : Fr → List Asn → Prop}
variable {T : TypeId} {pos : String} {aft : Array Edge} {d : Tmp} {fm : Fm} {x y : Operand} {U V : TypeId}
theorem run_eq_agg {ks : List CK} {xs ys : List Value} (w : World) (h : eqKinds P 20 U = some ks) (ha : aggOf P U = some true) (hx : xs.map ckOf = ks.map some) (hy : ys.map ckOf = ks.map some) :
    (Op.equal U (.agg xs.toArray) (.agg ys.toArray)).run P w = .ok (ceqL xs ys) w := by
  have := run_eqk 20 U ks Op.maxDepth xs ys w h (by decide) hx hy
  simpa [wrapV, ha, Op.equal] using this
theorem xD {ks : List CK} {xs ys : List Value} [h1 : TEq P U ks] [h2 : TAgg P U] (hd : Nat.blt d N = true := by exact rfl) (hx : ev F x = .agg xs.toArray := by exact rfl) (hy : ev F y = .agg ys.toArray := by exact rfl) (kx : xs.map ckOf = ks.map some := by exact rfl) (ky : ys.map ckOf = ks.map some := by exact rfl)
    (k' : Wl P B N fm ops rest (upd F d (.bool (ceqL xs ys))) A K) : Wl P B N fm ops (⟨some d, .binOp .eql U x y V, T, pos, aft, none⟩ :: rest) F A K := yA hd (fun w => by
      have h := run_eq_agg (P := P) (U := U) w h1.out h2.out kx ky
      simp [execOp, hx, hy, eqGuard, binOp, h, h1.guard]) k'
theorem xB {ks : List CK} {xs ys : List Value} [h1 : TEq P U ks] [h2 : TAgg P U] (hd : Nat.blt d N = true := by exact rfl) (hx : ev F x = .agg xs.toArray := by exact rfl) (hy : ev F y = .agg ys.toArray := by exact rfl) (kx : xs.map ckOf = ks.map some := by exact rfl) (ky : ys.map ckOf = ks.map some := by exact rfl)
    (k' : Wl P B N fm ops rest (upd F d (.bool (!(ceqL xs ys)))) A K) : Wl P B N fm ops (⟨some d, .binOp .neq U x y V, T, pos, aft, none⟩ :: rest) F A K := yA hd (fun w => by
      have h := run_eq_agg (P := P) (U := U) w h1.out h2.out kx ky
      simp [execOp, hx, hy, eqGuard, binOp, h, h1.guard]) k'
theorem yK {ks : List CK} {xs ys : List Value} {b : Bool} [h1 : TEq P U ks] [h2 : TAgg P U] (hd : Nat.blt d N = true := by exact rfl) (hx : ev F x = .agg xs.toArray := by exact rfl) (hy : ev F y = .agg ys.toArray := by exact rfl) (kx : xs.map ckOf = ks.map some := by exact rfl) (ky : ys.map ckOf = ks.map some := by exact rfl)
    (hb : ceqL xs ys = b) (k' : Wl P B N fm ops rest (upd F d (.bool b)) A K) : Wl P B N fm ops (⟨some d, .binOp .eql U x y V, T, pos, aft, none⟩ :: rest) F A K := xD hd hx hy kx ky (by rw [hb]; exact k')
theorem yX {ks : List CK} {xs ys : List Value} {b : Bool} [h1 : TEq P U ks] [h2 : TAgg P U] (hd : Nat.blt d N = true := by exact rfl) (hx : ev F x = .agg xs.toArray := by exact rfl) (hy : ev F y = .agg ys.toArray := by exact rfl) (kx : xs.map ckOf = ks.map some := by exact rfl) (ky : ys.map ckOf = ks.map some := by exact rfl)
    (hb : ceqL xs ys = b) (k' : Wl P B N fm ops rest (upd F d (.bool (!b))) A K) : Wl P B N fm ops (⟨some d, .binOp .neq U x y V, T, pos, aft, none⟩ :: rest) F A K := xB hd hx hy kx ky (by rw [hb]; exact k')
end ops
end Go.Sl
/- Reads of an argument's memory at whatever address, in a region's order or out of its frame. No condition. -/
set_option linter.unusedVariables false
namespace Go.Sl
open Go
section ops
variable {P : Program} {B : Base} {N : Nat} {ops rest : List Oper} {F : Fr} {A : List Asn} {K : Fr → List Asn → Prop}
variable {T : TypeId} {pos : String} {aft : Array Edge} {d : Tmp} {fm : Fm} {x y : Operand} {U V : TypeId}

theorem add_add' (a : Addr) (i j : Nat) : (a.add i).add j = a.add (i + j) := by
  by_cases hi : i = 0
  · subst hi; simp [Addr.add]
  · by_cases hj : j = 0
    · subst hj; simp [Addr.add]
    · have : ¬ (i + j = 0) := by omega
      simp [Addr.add, hi, hj, Nat.add_assoc]
theorem rds_loadG {sz m c : Nat} {p : Addr} {vs : List Value} {w : World} (h : RdS P B A sz (some p) m c vs) (hs : Sat B w A) {i : Nat} {v : Value} (hv : vs[i]? = some v) : (load (p.add i)).run P w = .ok v w := by
  have hf := (h.src w hs).2 m (Nat.le_refl _)
  have hlen := h.len
  have ht : vs.take (m * sz) = vs := List.take_of_length_le (by omega)
  rw [ht] at hf
  have hl : (loadCellsFrom p 0 (m * sz) #[]).run P w = .ok vs.toArray w := by simpa [Builtin.firstCells, loadCells] using hf
  have hi : i < m * sz := by
    rcases Nat.lt_or_ge i vs.length with h' | h'
    · omega
    · rw [List.getElem?_eq_none h'] at hv; cases hv
  obtain ⟨u, hu, ha⟩ := (loads_of w p (m * sz) 0 #[] vs.toArray hl).2 i hi
  have hu' : (load (p.add i)).run P w = .ok u w := by simpa using hu
  have : vs[i]? = some u := by simpa using ha
  rw [hv] at this; obtain rfl := Option.some.inj this
  exact hu'
theorem loadFrom_of (w : World) (q : Addr) : ∀ (vs : List Value) (i : Nat) (acc : Array Value), (∀ j v, vs[j]? = some v → (load (q.add (i + j))).run P w = .ok v w) →
    (loadCellsFrom q i vs.length acc).run P w = .ok (acc ++ vs.toArray) w
  | [], i, acc, _ => by simp [loadCellsFrom]
  | v :: vs, i, acc, h => by
    have h0 : (load (q.add i)).run P w = .ok v w := h 0 v rfl
    have := loadFrom_of w q vs (i + 1) (acc.push v) (fun j x hx => by have := h (j + 1) x (by simpa using hx); rwa [show i + 1 + j = i + (j + 1) by omega])
    simp only [loadCellsFrom, List.length_cons, Sem.run_bind, h0, Result.andThen_ok, this]
    simp
theorem rds_loadsG {sz m c : Nat} {p : Addr} {vs cs : List Value} {w : World} (h : RdS P B A sz (some p) m c vs) (hs : Sat B w A) {j n : Nat} (hv : (vs.drop j).take n = cs) (hn : cs.length = n) : (loadCells (p.add j) n).run P w = .ok cs.toArray w := by
  have := loadFrom_of (P := P) w (p.add j) cs 0 #[] (fun k v hk => by
    rw [Nat.zero_add, add_add']
    refine rds_loadG h hs ?_
    subst hv
    rw [List.getElem?_take] at hk
    split at hk
    · rwa [List.getElem?_drop] at hk
    · cases hk)
  rw [hn] at this
  unfold loadCells
  rw [this]; simp
theorem zz {s i fo ft n : Nat} {q : Addr} {x : Operand} [hf : FieldOff P s i fo ft n] (hd : Nat.blt d N = true := by exact rfl) (hx : ev F x = .pointer (some q) := by exact rfl) (hn : Nat.beq n 0 = false := by exact rfl)
    (k : Wl P B N fm ops rest (upd F d (.pointer (some (q.add fo)))) A K) : Wl P B N fm ops (⟨some d, .fieldAddr s x i, T, pos, aft, none⟩ :: rest) F A K :=
  yA hd (fun w => by
    have h := hf.out
    unfold fieldOf at h
    split at h
    · rename_i fs hu
      cases hfi : fs[i]? with
      | none => simp [hfi] at h
      | some f =>
        cases hi : P.info? f.type with
        | none => simp [hfi, hi] at h
        | some t =>
          simp [hfi, hi] at h
          obtain ⟨h1, h2, h3⟩ := h
          have hs : (sizeOf f.type).run P w = .ok n w := run_sizeOf w _ (by simp [tSize, hi, h3])
          have hn0 : n ≠ 0 := fun e => by subst e; simp at hn
          subst h1
          simp [execOp, hx, Instr.fieldAt, run_under w s hu, hfi, Instr.sureAddr, fieldPlace, hs, hn0]
    · cases h) k
theorem z4 {sz m c j : Nat} {p q : Addr} {v : Value} {vs : List Value} [ht : TCell P U] (hk : kindB fm (some d) (.load U x) ≠ 0 := by decide) (hd : Nat.blt d N = true := by exact rfl) (hx : ev F x = .pointer (some q) := by exact rfl) (hq : q = p.add j := by exact rfl) (hr : RdS P B A sz (some p) m c vs) (hv : vs[j]? = some v := by exact rfl)
    (k : Wl P B N fm ops rest (upd F d v) A K) : Wl P B N fm ops (⟨some d, .load U x, T, pos, aft, none⟩ :: rest) F A K :=
  xH hk hd (fun w R hs => by
    have hl := rds_loadG hr (hs.ent (Ent.drop _)) hv
    subst hq
    simp only [execOp, hx, Instr.loadAt, Instr.sureAddr, loadVar, Sem.run_bind, Sem.run_pure, Result.andThen_ok, run_isAgg w U ht.out]
    simp [hl]) k
theorem yg {M : List Asn} {Ls : List Nat} {sz m c j : Nat} {p q : Addr} {v : Value} {vs : List Value} [ht : TCell P U] (hd : Nat.blt d N = true := by exact rfl) (hx : ev F x = .pointer (some q) := by exact rfl) (hq : q = p.add j := by exact rfl) (hr : RdS P B M sz (some p) m c vs) (hv : vs[j]? = some v := by exact rfl)
    (k : Wl P B N (some (M, Ls)) ops rest (upd F d v) A K) : Wl P B N (some (M, Ls)) ops (⟨some d, .load U x, T, pos, aft, none⟩ :: rest) F A K :=
  xI hd (fun w R hs => by
    have hl := rds_loadG hr (hs.ent (Ent.drop _)) hv
    subst hq
    simp only [execOp, hx, Instr.loadAt, Instr.sureAddr, loadVar, Sem.run_bind, Sem.run_pure, Result.andThen_ok, run_isAgg w U ht.out]
    simp [hl]) k
theorem yD {sz m c j n : Nat} {p q : Addr} {cs vs : List Value} [ht : TAgg P U] [hz : TSize P U n] (hk : kindB fm (some d) (.load U x) ≠ 0 := by decide) (hd : Nat.blt d N = true := by exact rfl) (hx : ev F x = .pointer (some q) := by exact rfl) (hq : q = p.add j := by exact rfl) (hr : RdS P B A sz (some p) m c vs)
    (hv : (vs.drop j).take n = cs) (hn : cs.length = n := by exact rfl) (k : Wl P B N fm ops rest (upd F d (.agg cs.toArray)) A K) : Wl P B N fm ops (⟨some d, .load U x, T, pos, aft, none⟩ :: rest) F A K :=
  xH hk hd (fun w R hs => by
    have hl := rds_loadsG hr (hs.ent (Ent.drop _)) hv hn
    subst hq
    simp [execOp, hx, Instr.loadAt, Instr.sureAddr, loadVar, run_isAgg w U ht.out, run_sizeOf w U hz.out, hl]) k
theorem y3 {M : List Asn} {Ls : List Nat} {b off n : Nat} {l cs : List Value} {E U : TypeId} {fz : Nat × Nat} {x : Operand} [ht : TAgg P U] [hz : TSize P U n] (hd : Nat.blt d N = true := by exact rfl)
    (hx : ev F x = .pointer (some ⟨b, off, none⟩) := by exact rfl) (hr : Rd B b l E fz M := by (repeat (first | exact Rd.head | exact Rd.base (by assumption) | apply Rd.tail)); (first | done | fail)) (hv : off + n ≤ l.length) (hc : (l.drop off).take n = cs)
    (k : Wl P B N (some (M, Ls)) ops rest (upd F d (.agg cs.toArray)) A K) : Wl P B N (some (M, Ls)) ops (⟨some d, .load U x, T, pos, aft, none⟩ :: rest) F A K :=
  xI hd (fun w R hs => by
    have hl := run_loadCells P w (hr.heap (hs.ent (Ent.drop _))) hv
    rw [hc] at hl
    simp [execOp, hx, Instr.loadAt, Instr.sureAddr, loadVar, run_isAgg w U ht.out, run_sizeOf w U hz.out, hl]) k
theorem xG {E E3 sz by_ len cap m : Nat} {z cs vs : List Value} {a : Option Addr} {M : List Asn} {vy : Value} [h1 : TSl P U E] [h2 : TSize P E sz] [h3 : TBytes P E by_] [h4 : TZero P E z] [h5 : TSl P V E3]
    (hd : Nat.blt d N = true := by exact rfl) (hx : ev F x = .slice a len cap := by exact rfl) (hy : Ev F y vy := by (repeat (first | exact Ev.here | exact Ev.const | exact Ev.arg rfl | apply Ev.there rfl | exact Ev.none rfl | exact Ev.func | exact Ev.var)); (first | done | fail)) (hzl : z.length = sz := by exact rfl) (hby : 0 < by_ := by omega)
    (ho : Out (own a len cap sz cs E) A M := by (repeat (first | exact Out.head | apply Out.tail)); (first | done | fail)) (hsrc : Src P B A sz vy m vs) (hvl : vs.length = m * sz) (hvc : vs.all isCell = true := by first | rfl | assumption | (simp only [List.all_cons, List.all_nil, Bool.and_eq_true, Bool.and_true, cInt, cBool, cStr, cPtr, cSl, cByte, true_and, and_true] at *; first | done | assumption | simp only [*, and_self]) | simp [isCell, byteV]) (hbd : (5 * (len + m) + 3000) * by_ ≤ 1125899906842624 ∨ (cap = 0 ∧ (len + m) * by_ ≤ 281474976710656))
    (k : ∀ a' cap', Wl P B N fm ops rest (upd F d (.slice a' (len + m) cap')) (own a' (len + m) cap' sz (cs ++ vs) E :: M) K) :
    Wl P B N fm ops (⟨some d, .call ⟨.builtin .append, #[x, y], #[U, V]⟩, T, pos, aft, none⟩ :: rest) F A K :=
  yt hd hx hy (.inl (by rw [h5.out]; simp)) hzl hby ho hsrc hvl hvc hbd k
/-- Two truths compared. -/
theorem run_bool_cmp {a b : Bool} (w : World) (n : Nat) (hU : P.underlying U = some .bool) : (Op.equalIn (n + 1) U (.bool a) (.bool b)).run P w = .ok (a == b) w := by
  unfold Op.equalIn
  simp [run_under w U hU]
theorem run_equal_bool {a b : Bool} (w : World) (hU : P.underlying U = some .bool) : (Op.equal U (.bool a) (.bool b)).run P w = .ok (a == b) w := run_bool_cmp w 9999 hU
theorem ym {a b : Bool} (hU : P.underlying U = some .bool) (hd : Nat.blt d N = true := by exact rfl) (hx : ev F x = .bool a := by exact rfl) (hy : ev F y = .bool b := by exact rfl) (k' : Wl P B N fm ops rest (upd F d (.bool (!(a == b)))) A K) :
    Wl P B N fm ops (⟨some d, .binOp .neq U x y V, T, pos, aft, none⟩ :: rest) F A K := yA hd (fun w => by
      have h1 := run_equal_bool (a := a) (b := b) w hU
      simp [execOp, hx, hy, eqGuard, binOp, h1]) k'
end ops
end Go.Sl
/- Rows written and read in parts, told outright; results; function values. No condition. -/
set_option linter.unusedVariables false
set_option linter.unusedSimpArgs false
namespace Go.Sl
open Go
/-- Part of a row is turned, told outright. -/
inductive SetR : List Value → Nat → List Value → List Value → Prop
  | nil {l : List Value} : SetR l 0 [] l
  | put {x v : Value} {l l' cs : List Value} (h : SetR l 0 cs l') : SetR (x :: l) 0 (v :: cs) (v :: l')
  | skip {x : Value} {l l' cs : List Value} {n : Nat} (h : SetR l n cs l') : SetR (x :: l) (n + 1) cs (x :: l')
theorem SetR.out {l l' cs : List Value} {n : Nat} (h : SetR l n cs l') : n + cs.length ≤ l.length ∧ setL l n cs = l' := by
  induction h with
  | nil => simp [setL]
  | @put x v l l' cs h ih =>
    have h1 := ih.1; have h2 := ih.2
    refine ⟨by simp at h1 ⊢; omega, ?_⟩
    rw [setL_eq _ _ _ (by simp at h1 ⊢; omega)]
    rw [setL_eq _ _ _ (by omega)] at h2
    simp at h2
    simp [h2]
  | @skip x l l' cs n h ih =>
    have h1 := ih.1; have h2 := ih.2
    refine ⟨by simp; omega, ?_⟩
    rw [setL_eq _ _ _ (by simp; omega)]
    rw [setL_eq _ _ _ (by omega)] at h2
    rw [show n + 1 + cs.length = (n + cs.length) + 1 by omega]
    simp [h2]
/-- Part of a row, told outright. -/
inductive TakeR : List Value → Nat → Nat → List Value → Prop
  | nil {l : List Value} : TakeR l 0 0 []
  | take {x : Value} {l cs : List Value} {n : Nat} (h : TakeR l 0 n cs) : TakeR (x :: l) 0 (n + 1) (x :: cs)
  | skip {x : Value} {l cs : List Value} {off n : Nat} (h : TakeR l off n cs) : TakeR (x :: l) (off + 1) n cs
theorem TakeR.out {l cs : List Value} {off n : Nat} (h : TakeR l off n cs) : off + n ≤ l.length ∧ (l.drop off).take n = cs := by
  induction h with
  | nil => simp
  | take h ih => have := ih.1; have h2 := ih.2; simp at h2 ⊢; exact ⟨by omega, h2⟩
  | skip h ih => have := ih.1; simp [ih.2]; omega

theorem cInt {k : IntKind} {n : Int} : isCell (.int k n) = true := rfl
theorem cBool {b : Bool} : isCell (.bool b) = true := rfl
theorem cStr {s : ByteArray} : isCell (.string s) = true := rfl
theorem cPtr {a : Option Addr} : isCell (.pointer a) = true := rfl
theorem cSl {a : Option Addr} {m c : Nat} : isCell (.slice a m c) = true := rfl
theorem cByte {b : UInt8} : isCell (byteV b) = true := rfl
section ops
variable {P : Program} {B : Base} {N : Nat} {ops rest : List Oper} {F : Fr} {A : List Asn} {K : Fr → List Asn → Prop}
variable {T : TypeId} {pos : String} {aft : Array Edge} {d : Tmp} {fm : Fm} {x y : Operand} {U V : TypeId}
theorem zo {b off n : Nat} {l cs : List Value} {E U : TypeId} {fz : Nat × Nat} {x : Operand} [ht : TAgg P U] [hz : TSize P U n] (hk : kindB fm (some d) (.load U x) ≠ 0 := by decide) (hd : Nat.blt d N = true := by exact rfl)
    (hx : ev F x = .pointer (some ⟨b, off, none⟩) := by exact rfl) (hr : Rd B b l E fz A := by (repeat (first | exact Rd.head | exact Rd.base (by assumption) | apply Rd.tail)); (first | done | fail)) (hc : TakeR l off n cs := by (repeat (first | exact TakeR.nil | apply TakeR.take | apply TakeR.skip)); (first | done | fail))
    (k : Wl P B N fm ops rest (upd F d (.agg cs.toArray)) A K) : Wl P B N fm ops (⟨some d, .load U x, T, pos, aft, none⟩ :: rest) F A K :=
  z5 hk hd hx hr hc.out.1 hc.out.2 k
theorem yC {M : List Asn} {Ls : List Nat} {b off n : Nat} {l cs : List Value} {E U : TypeId} {fz : Nat × Nat} {x : Operand} [ht : TAgg P U] [hz : TSize P U n] (hd : Nat.blt d N = true := by exact rfl)
    (hx : ev F x = .pointer (some ⟨b, off, none⟩) := by exact rfl) (hr : Rd B b l E fz M := by (repeat (first | exact Rd.head | exact Rd.base (by assumption) | apply Rd.tail)); (first | done | fail)) (hc : TakeR l off n cs := by (repeat (first | exact TakeR.nil | apply TakeR.take | apply TakeR.skip)); (first | done | fail))
    (k : Wl P B N (some (M, Ls)) ops rest (upd F d (.agg cs.toArray)) A K) : Wl P B N (some (M, Ls)) ops (⟨some d, .load U x, T, pos, aft, none⟩ :: rest) F A K :=
  y3 hd hx hr hc.out.1 hc.out.2 k
theorem zh {b off n : Nat} {l l' cs : List Value} {E U : TypeId} {fz : Nat × Nat} {o' : Obj} {A' : List Asn} [ht : TSize P U n]
    (hx : ev F x = .pointer (some ⟨b, off, none⟩) := by exact rfl) (hy : Ev F y (.agg cs.toArray) := by (repeat (first | exact Ev.here | exact Ev.const | exact Ev.arg rfl | apply Ev.there rfl | exact Ev.none rfl | exact Ev.func | exact Ev.var)); (first | done | fail)) (hu : Upd b (.cells l.toArray E fz) o' A A' := by (repeat (first | exact Upd.head | apply Upd.tail)); (first | done | fail)) (hv : cs.all isCell = true := by first | rfl | assumption | (simp only [List.all_cons, List.all_nil, Bool.and_eq_true, Bool.and_true, cInt, cBool, cStr, cPtr, cSl, cByte, true_and, and_true] at *; first | done | assumption | simp only [*, and_self]) | simp [isCell, byteV]) (hl : cs.length = n := by exact rfl)
    (hs : SetR l off cs l' := by (repeat (first | exact SetR.nil | apply SetR.put | apply SetR.skip)); (first | done | fail)) (ho' : o' = .cells l'.toArray E fz) (hz : fz = (0, 0) := by exact rfl)
    (k : Wl P B N fm ops rest F A' K) : Wl P B N fm ops (⟨none, .store U x y, T, pos, aft, none⟩ :: rest) F A K :=
  yy hx hy hu hv hl (by rw [← hl]; exact hs.out.1) hs.out.2 ho' hz k

/-! literals of slices whose elements are cells -/
theorem bld_lits (len : Nat) : ∀ (vs : List Value) (k : Nat) (pre rest : List Value), pre.length = k → rest.length = vs.length → k + vs.length ≤ len → vs.all isCell = true →
    bld ((List.range len).map fun i => (i * 1, 1)) (pre ++ rest) ((List.range' k vs.length).zip vs) = some (pre ++ vs)
  | [], k, pre, rest, _, hr, _, _ => by
    have : rest = [] := List.length_eq_zero_iff.1 (by simpa using hr)
    simp [bld, this]
  | v :: vs, k, pre, rest, hp, hr, hk, hv => by
    cases rest with
    | nil => simp at hr
    | cons r rest =>
      simp only [List.all_cons, Bool.and_eq_true] at hv
      have hc : v.cells.toList = [v] := by cases v <;> first | rfl | (simp [isCell] at hv; done)
      simp only [List.length_cons] at hk hr
      have h1 : ((List.range len).map fun i => (i * 1, 1))[k]? = some (k, 1) := by
        rw [List.getElem?_map, List.getElem?_range (by omega)]; simp
      have h2 : setL (pre ++ r :: rest) k [v] = (pre ++ [v]) ++ rest := by
        simp only [setL]
        rw [List.set_append_right _ _ (by omega), hp, Nat.sub_self]; simp
      have ih := bld_lits len vs (k + 1) (pre ++ [v]) rest (by simp [hp]) (by omega) (by omega) hv.2
      simp only [List.length_cons, List.range'_succ, List.zip_cons_cons, bld, h1, hc]
      rw [if_pos (by simp [hp]), h2, ih]
      simp
theorem yb {E : Nat} {z : List Value} {len : Nat} {xs : List (Nat × Operand)} {vs : List Value} [h1 : TSl P U E] [h2 : TSize P E 1] [hz : TZero P E z] (hd : Nat.blt d N = true := by exact rfl)
    (hp : xs.map (·.1) = List.range len := by exact rfl) (hx : EvL F (xs.map (·.2)) vs := by (repeat (first | exact EvL.nil | apply EvL.cons (by (repeat (first | exact Ev.here | exact Ev.const | exact Ev.arg rfl | apply Ev.there rfl | exact Ev.none rfl | exact Ev.func | exact Ev.var)); (first | done | fail)))); (first | done | fail)) (hv : vs.all isCell = true := by first | rfl | assumption | (simp only [List.all_cons, List.all_nil, Bool.and_eq_true, Bool.and_true, cInt, cBool, cStr, cPtr, cSl, cByte, true_and, and_true] at *; first | done | assumption | simp only [*, and_self]) | simp [isCell, byteV]) (h24 : len ≤ 16777216 := by omega)
    (k : ∀ r, Wl P B N fm ops rest (upd F d (.slice (some ⟨r, 0, none⟩) len len)) (cb r vs E :: A) K) : Wl P B N fm ops (⟨some d, .buildSlice U len xs.toArray, T, pos, aft, none⟩ :: rest) F A K := by
  have hl : vs.length = len := by
    have e1 := congrArg List.length hx.eq
    have e2 := congrArg List.length hp
    simp at e1 e2; omega
  refine ya (cells := vs) hd hx ?_ ?_ (by omega) k
  · rw [hp, List.range_eq_range', ← hl]
    have := bld_lits vs.length vs 0 [] (cyc z (vs.length * 1)) rfl (by simp [cyc_length]) (by omega) hv
    simpa [List.range_eq_range'] using this
  · intro p hp'
    have := List.of_mem_zip hp'
    rw [hp] at this
    simpa using this.1

/-! function values -/
theorem y2 {f : Nat} {xs cs : List Operand} {vs us : List Value} (hd : Nat.blt d N = true := by exact rfl) (ha : EvL F xs vs := by (repeat (first | exact EvL.nil | apply EvL.cons (by (repeat (first | exact Ev.here | exact Ev.const | exact Ev.arg rfl | apply Ev.there rfl | exact Ev.none rfl | exact Ev.func | exact Ev.var)); (first | done | fail)))); (first | done | fail)) (hc : EvL F cs us := by (repeat (first | exact EvL.nil | apply EvL.cons (by (repeat (first | exact Ev.here | exact Ev.const | exact Ev.arg rfl | apply Ev.there rfl | exact Ev.none rfl | exact Ev.func | exact Ev.var)); (first | done | fail)))); (first | done | fail))
    (k' : Wl P B N fm ops rest (upd F d (.func (.func f) vs.toArray us.toArray)) A K) : Wl P B N fm ops (⟨some d, .makeFunc (.func f) xs.toArray cs.toArray, T, pos, aft, none⟩ :: rest) F A K :=
  yA hd (fun w => by
    have h1 := ha.eq; have h2 := hc.eq
    subst h1 h2
    simp [execOp, Instr.makeFunc]) k'
end ops

/-! results -/
inductive ResL (P : Program) (B : Base) (F : Fr) (A : List Asn) : List ResultVar → List Value → Prop
  | nil : ResL P B F A [] []
  | tmp {t : Nat} {v : Value} {rs : List ResultVar} {vs : List Value} (h : Ev F (.tmp t) v) (k : ResL P B F A rs vs) : ResL P B F A (.tmp t :: rs) (v :: vs)
  | agg {t b off n : Nat} {l cs : List Value} {E U : TypeId} {fz : Nat × Nat} {rs : List ResultVar} {vs : List Value} [ht : TAgg P U] [hz : TSize P U n]
      (h : Ev F (.tmp t) (.pointer (some ⟨b, off, none⟩))) (hr : Rd B b l E fz A) (hc : TakeR l off n cs) (k : ResL P B F A rs vs) : ResL P B F A (.cell t U :: rs) (.agg cs.toArray :: vs)
  | cell {t b off : Nat} {l : List Value} {v : Value} {E U : TypeId} {fz : Nat × Nat} {rs : List ResultVar} {vs : List Value} [ht : TCell P U]
      (h : Ev F (.tmp t) (.pointer (some ⟨b, off, none⟩))) (hr : Rd B b l E fz A) (hc : l[off]? = some v) (k : ResL P B F A rs vs) : ResL P B F A (.cell t U :: rs) (v :: vs)
def retV : List Value → Value
  | [v] => v
  | vs => .tuple vs.toArray
theorem resL_run {P : Program} {B : Base} {F : Fr} {A : List Asn} {N : Nat} {rs : List ResultVar} {vs : List Value} {a : Act} {w : World} {R : Asn} (f : ResultVar → Sem Value)
    (f1 : ∀ t, f (.tmp t) = pure (a.tmps.getD t undef)) (f2 : ∀ b t, f (.cell b t) = (do loadVar t (← asAddr (a.tmps.getD b undef)))) (h : ResL P B F A rs vs) (hr : Rep N a F) (hs : Sat B w (R :: A)) :
    (rs.mapM f).run P w = .ok vs w := by
  induction h with
  | nil => rfl
  | @tmp t v rs vs h k ih =>
    have he : a.tmps.getD t undef = v := (hr.get t).trans h.eq
    rw [List.mapM_cons, f1, he]
    simp only [Sem.run_bind, Sem.run_pure, Result.andThen_ok, ih]
  | @agg t b off n l cs E U fz rs vs ht hz h hrd hc k ih =>
    have he : a.tmps.getD t undef = .pointer (some ⟨b, off, none⟩) := (hr.get t).trans h.eq
    have hl := run_loadCells P w (hrd.heap (hs.ent (Ent.drop _))) hc.out.1
    rw [hc.out.2] at hl
    have h1 : (f (.cell t U)).run P w = .ok (.agg cs.toArray) w := by
      rw [f2, he]
      simp [asAddr, loadVar, run_isAgg w U ht.out, run_sizeOf w U hz.out, hl]
    rw [List.mapM_cons]
    simp only [Sem.run_bind, Sem.run_pure, Result.andThen_ok, h1, ih]
  | @cell t b off l v E U fz rs vs ht h hrd hc k ih =>
    have he : a.tmps.getD t undef = .pointer (some ⟨b, off, none⟩) := (hr.get t).trans h.eq
    have hcc := cell_of_heap (hrd.heap (hs.ent (Ent.drop _))) hc
    have h1 : (f (.cell t U)).run P w = .ok v w := by
      rw [f2, he]
      simp [asAddr, loadVar, run_isAgg w U ht.out, hcc]
    rw [List.mapM_cons]
    simp only [Sem.run_bind, Sem.run_pure, Result.andThen_ok, h1, ih]
theorem resG {P : Program} {fn : Func} {N : Nat} {B : Base} {F : Fr} {A : List Asn} {rs : List ResultVar} {vs : List Value} {v : Value} (h : fn.results = rs.toArray) (hr : ResL P B F A rs vs) (hv : retV vs = v) :
    ∀ a w R, Rep N a F → Sat B w (R :: A) → (results fn a.tmps).run P w = .ok v w := fun a w R hrep hs => by
  subst hv
  unfold results
  rw [h, List.mapM_toArray]
  simp only [Sem.run_bind, Sem.run_map]
  rw [resL_run _ (fun _ => rfl) (fun _ _ => rfl) hr hrep hs]
  cases vs with
  | nil => rfl
  | cons v vs => cases vs <;> rfl
end Go.Sl
