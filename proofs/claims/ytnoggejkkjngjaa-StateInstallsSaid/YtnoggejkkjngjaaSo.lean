/- The rules of the single operations over the logic of XSl. No condition. -/
import Derived.Test.YtnoggejkkjngjaaSw
import Derived.WalkSpells
import Derived.WalkLawsBesides
set_option linter.unusedVariables false
namespace Go.Sl
open Go

/-! ### What is asked of the program's types: closed facts, told by classes -/
def fieldOf (P : Program) (s i : Nat) : Option (Nat × Nat × Nat) :=
  match P.underlying s with
  | some (.struct fs) => (fs[i]?).bind fun f => (P.info? f.type).map fun t => (f.offset, f.type, t.size)
  | _ => none
def tSize (P : Program) (T : Nat) : Option Nat := (P.info? T).map (·.size)
def tBytes (P : Program) (T : Nat) : Option Nat := (P.info? T).map (·.bytes)
def slOf (P : Program) (T : Nat) : Option Nat := match P.underlying T with | some (.slice e) => some e | _ => none
def arrOf (P : Program) (T : Nat) : Option (Nat × Nat) := match P.underlying T with | some (.array n e) => some (n, e) | _ => none
def aggOf (P : Program) (T : Nat) : Option Bool := match P.underlying T with | some (.struct _) | some (.array _ _) => some true | some _ => some false | none => none
def zeroOf (P : Program) (T : Nat) : Option (List Value) := (P.info? T).bind fun i => i.zero.map fun v => v.cells.toList
def strOf (P : Program) (T : Nat) : Bool := match P.underlying T with | some .string => true | _ => false
def intOf' (P : Program) (T : Nat) : Option IntKind := match P.underlying T with | some (.int k) => some k | _ => none
def ptrOf (P : Program) (T : Nat) : Option Nat := match P.underlying T with | some (.pointer e) => some e | _ => none
def mapOf (P : Program) (T : Nat) : Option (Nat × Nat) := match P.underlying T with | some (.map k e) => some (k, e) | _ => none
def structOf (P : Program) (T : Nat) : Option (List (Nat × Nat)) :=
  match P.underlying T with | some (.struct fs) => some (fs.toList.map fun f => (f.offset, ((P.info? f.type).map (·.size)).getD 0)) | _ => none

class FieldOff (P : Program) (s i : Nat) (off ft n : outParam Nat) : Prop where out : fieldOf P s i = some (off, ft, n)
class TSize (P : Program) (T : Nat) (n : outParam Nat) : Prop where out : tSize P T = some n
class TBytes (P : Program) (T : Nat) (n : outParam Nat) : Prop where out : tBytes P T = some n
class TSl (P : Program) (T : Nat) (E : outParam Nat) : Prop where out : slOf P T = some E
class TArr (P : Program) (T : Nat) (n E : outParam Nat) : Prop where out : arrOf P T = some (n, E)
class TAgg (P : Program) (T : Nat) : Prop where out : aggOf P T = some true
class TCell (P : Program) (T : Nat) : Prop where out : aggOf P T = some false
class TZero (P : Program) (T : Nat) (z : outParam (List Value)) : Prop where out : zeroOf P T = some z
class TStr (P : Program) (T : Nat) : Prop where out : strOf P T = true
class TInt (P : Program) (T : Nat) (k : outParam IntKind) : Prop where out : intOf' P T = some k
class TPtr (P : Program) (T : Nat) (E : outParam Nat) : Prop where out : ptrOf P T = some E
class TMap (P : Program) (T : Nat) (K E : outParam Nat) : Prop where out : mapOf P T = some (K, E)
class TStruct (P : Program) (T : Nat) (fs : outParam (List (Nat × Nat))) : Prop where out : structOf P T = some fs

section types
variable {P : Program} (w : World)
theorem run_sizeOf (T : Nat) {n : Nat} (h : tSize P T = some n) : (sizeOf T).run P w = .ok n w := by
  unfold tSize at h
  cases hi : P.info? T with
  | none => simp [hi] at h
  | some i => simp [hi] at h; simp [sizeOf, typeInfo, program, Sem.run, hi, h]
theorem run_under (T : Nat) {d : TypeDesc} (h : P.underlying T = some d) : (underlying T).run P w = .ok d w := by simp [underlying, program, Sem.run, h]
theorem run_isAgg (T : Nat) {b : Bool} (h : aggOf P T = some b) : (isAgg T).run P w = .ok b w := by
  unfold aggOf at h
  cases hu : P.underlying T with
  | none => simp [hu] at h
  | some d => simp [isAgg, run_under w T hu]; cases d <;> simp_all
theorem run_zero (T : Nat) {z : List Value} (h : zeroOf P T = some z) : ∃ v, (zeroValue T).run P w = .ok v w ∧ v.cells = z.toArray := by
  unfold zeroOf at h
  cases hi : P.info? T with
  | none => simp [hi] at h
  | some i =>
    cases hz : i.zero with
    | none => simp [hi, hz] at h
    | some v => simp [hi, hz] at h; exact ⟨v, by simp [zeroValue, typeInfo, program, Sem.run, hi, hz], by rw [← h]⟩
theorem under_of_sl {T E : Nat} (h : slOf P T = some E) : P.underlying T = some (.slice E) := by
  unfold slOf at h; split at h <;> simp_all
theorem under_of_arr {T n E : Nat} (h : arrOf P T = some (n, E)) : P.underlying T = some (.array n E) := by
  unfold arrOf at h; split at h <;> simp_all
theorem under_of_str {T : Nat} (h : strOf P T = true) : P.underlying T = some .string := by
  unfold strOf at h; split at h <;> simp_all
theorem under_of_int {T : Nat} {k : IntKind} (h : intOf' P T = some k) : P.underlying T = some (.int k) := by
  unfold intOf' at h; split at h <;> simp_all
theorem under_of_ptr {T E : Nat} (h : ptrOf P T = some E) : P.underlying T = some (.pointer E) := by
  unfold ptrOf at h; split at h <;> simp_all
theorem under_of_map {T K E : Nat} (h : mapOf P T = some (K, E)) : P.underlying T = some (.map K E) := by
  unfold mapOf at h; split at h <;> simp_all
end types

/-! ### Lists of operations -/
section ops
variable {P : Program} {B : Base} {N : Nat} {ops rest : List Oper} {F : Fr} {A : List Asn} {K : Fr → List Asn → Prop}
variable {T : TypeId} {pos : String} {aft : Array Edge} {d : Tmp} {fm : Fm}

theorem Wl_ent {l : List Oper} {A' : List Asn} (he : Ent A A') (h : Wl P B N fm ops l F A' K) : Wl P B N fm ops l F A K := fun R hE a w hr hs => h R hE a w hr (hs.entR he)
theorem Wl_exN {l : List Oper} {α : Type} {f : α → List Asn} (h : ∀ x, Wl P B N fm ops l F (f x ++ A) K) : Wl P B N fm ops l F (exN f :: A) K :=
  fun R hE a w hr hs => let ⟨x, hx⟩ := exN_open_sat hs; h x R hE a w hr hx
theorem Wl_exA {l : List Oper} {α : Type} {f : α → Asn} (h : ∀ x, Wl P B N fm ops l F (f x :: A) K) : Wl P B N fm ops l F (exA f :: A) K :=
  fun R hE a w hr hs => let ⟨x, hx⟩ := exA_open_sat hs; h x R hE a w hr hx
theorem Wl_puA {l : List Oper} {φ : Prop} {x : Asn} (h : φ → Wl P B N fm ops l F (x :: A) K) : Wl P B N fm ops l F (puA φ x :: A) K :=
  fun R hE a w hr hs => let ⟨hφ, hx⟩ := puA_open_sat hs; h hφ R hE a w hr hx
theorem Wl_frame {l : List Oper} {F' : Fr} (h : F = F') (k : Wl P B N fm ops l F' A K) : Wl P B N fm ops l F A K := h ▸ k
theorem Wl_nil (h : K F A) : Wl P B N fm ops [] F A K := fun R hE a w hr hs => ⟨rfl, F, A, hr, hs, h⟩

theorem kindB_ne0 {fm : Fm} {o : Op} (h : fm = none) (hk : kindOf o ≠ 0) : kindB fm none o ≠ 0 := by subst h; simpa [kindB] using hk
theorem X_of_val {Inv : World → Prop} {o : Oper} {K' : Act → World → Prop} {a : Act} {w : World} {v : Value} (hI : Inv w) (hg : o.guard = none) (hrun : ∀ w, (execOp a.eval o).run P w = .ok (.value v) w) (k : K' (a.put o.dst v) w) :
    stepX P ops.toArray Inv fm o K' a w := by
  unfold stepX
  rw [if_pos (by simp [Region.wanted, hg])]
  unfold kstep
  split
  · exact ⟨v, fun w' _ => hrun w', k⟩
  · exact ⟨v, fun w' _ => hrun w', k⟩
  · unfold Oper.wpY; rw [hrun w, Oper.upY_value]; exact ⟨hI, fun _ => Ext.refl w, k⟩
theorem X_of_rd {Inv : World → Prop} {o : Oper} {K' : Act → World → Prop} {a : Act} {w : World} {v : Value} (hI : Inv w) (hg : o.guard = none) (hk : kindB fm o.dst o.op ≠ 0) (hrun : ∀ w', Ext w w' → (execOp a.eval o).run P w' = .ok (.value v) w') (k : K' (a.put o.dst v) w) :
    stepX P ops.toArray Inv fm o K' a w := by
  unfold stepX
  rw [if_pos (by simp [Region.wanted, hg])]
  unfold kstep
  split
  · rename_i h; exact absurd h hk
  · exact ⟨v, hrun, k⟩
  · unfold Oper.wpY; rw [hrun w (Ext.refl w), Oper.upY_value]; exact ⟨hI, fun _ => Ext.refl w, k⟩

theorem kindB_two {fm : Fm} {dd : Option Nat} {o : Op} (h : kindOf o = 2) : kindB fm dd o = 2 := by
  unfold kindB
  rw [h]; simp
theorem kindB_three {fm : Fm} {dd : Option Nat} {o : Op} (h : kindOf o = 3) : kindB fm dd o = 3 := by
  unfold kindB
  rw [h]; simp

theorem Wl_op {o : Oper} (hg : o.guard = none) (hk : kindOf o.op = 2) (h : ∀ R, Ent [R] (mOf fm) → ∀ a w, Rep N a F → Sat B w (R :: A) →
    (o.upY P a (fun a' w' => Sat B w' [R] ∧ X P ops.toArray (fun w => Sat B w [R]) fm (Lift B N R a.defers K) rest a' w') noQ ((execOp (ev F) o).run P w))) : Wl P B N fm ops (o :: rest) F A K :=
  fun R hE a w hr hs => by
    unfold X stepX
    rw [if_pos (by simp [Region.wanted, hg]), kindB_two hk]
    refine wpOper_mono (Q := noQ) (fun a' w' h => ?_) (fun _ _ _ _ h => h) (show o.wpY P a w (fun a' w' => Sat B w' [R] ∧ X P ops.toArray (fun w => Sat B w [R]) fm (Lift B N R a.defers K) rest a' w') noQ from ?_)
    · exact ⟨h.1, fun e => by omega, h.2⟩
    · unfold Oper.wpY
      rw [hr.eval]
      exact h R hE a w hr hs

theorem Wl_opB {o : Oper} (hg : o.guard = none) (hk : kindB fm o.dst o.op = 2) (h : ∀ R, Ent [R] (mOf fm) → ∀ a w, Rep N a F → Sat B w (R :: A) →
    (o.upY P a (fun a' w' => Sat B w' [R] ∧ X P ops.toArray (fun w => Sat B w [R]) fm (Lift B N R a.defers K) rest a' w') noQ ((execOp (ev F) o).run P w))) : Wl P B N fm ops (o :: rest) F A K :=
  fun R hE a w hr hs => by
    unfold X stepX
    rw [if_pos (by simp [Region.wanted, hg]), hk]
    refine wpOper_mono (Q := noQ) (fun a' w' h => ?_) (fun _ _ _ _ h => h) (show o.wpY P a w (fun a' w' => Sat B w' [R] ∧ X P ops.toArray (fun w => Sat B w [R]) fm (Lift B N R a.defers K) rest a' w') noQ from ?_)
    · exact ⟨h.1, fun e => by omega, h.2⟩
    · unfold Oper.wpY
      rw [hr.eval]
      exact h R hE a w hr hs

theorem Wl_val {op : Op} {v : Value} (hk : kindOf op = 2) (hd : Nat.blt d N = true := by exact rfl) {A' : List Asn}
    (hrun : ∀ w R, Sat B w (R :: A) → ∃ w', (execOp (ev F) ⟨some d, op, T, pos, aft, none⟩).run P w = .ok (.value v) w' ∧ Sat B w' (R :: A'))
    (k : Wl P B N fm ops rest (upd F d v) A' K) : Wl P B N fm ops (⟨some d, op, T, pos, aft, none⟩ :: rest) F A K :=
  Wl_op rfl hk fun R hE a w hr hs => by
    obtain ⟨w', hw, hs'⟩ := hrun w R hs
    rw [hw, Oper.upY_value]
    exact ⟨hs'.hd, k R hE _ w' (hr.put (by simpa [Nat.blt_eq] using hd) v) hs'⟩

theorem Wl_rd {op : Op} {v : Value} (hk : kindB fm (some d) op ≠ 0 := by decide) (hd : Nat.blt d N = true := by exact rfl)
    (hrun : ∀ w R, Sat B w (R :: A) → (execOp (ev F) ⟨some d, op, T, pos, aft, none⟩).run P w = .ok (.value v) w)
    (k : Wl P B N fm ops rest (upd F d v) A K) : Wl P B N fm ops (⟨some d, op, T, pos, aft, none⟩ :: rest) F A K :=
  fun R hE a w hr hs => X_of_rd hs.hd rfl hk (fun w' he => by rw [hr.eval]; exact hrun w' R (hs.ext he)) (k R hE _ w (hr.put (by simpa [Nat.blt_eq] using hd) v) hs)
/-- Read out of the frame. -/
theorem Wl_rdF {op : Op} {v : Value} {M : List Asn} {Ls : List Nat} (hd : Nat.blt d N = true := by exact rfl)
    (hrun : ∀ w R, Sat B w (R :: M) → (execOp (ev F) ⟨some d, op, T, pos, aft, none⟩).run P w = .ok (.value v) w)
    (k : Wl P B N (some (M, Ls)) ops rest (upd F d v) A K) : Wl P B N (some (M, Ls)) ops (⟨some d, op, T, pos, aft, none⟩ :: rest) F A K :=
  fun R hE a w hr hs => by
    have hr1 : ∀ w', Sat B w' [R] → (execOp a.eval ⟨some d, op, T, pos, aft, none⟩).run P w' = .ok (.value v) w' := fun w' h => by
      rw [hr.eval]
      have h1 : Sat B w' ((fun h => ∀ x, h x = none) :: M) := (h.ent hE).ent fun m U hm => ⟨fun _ => none, fun _ => rfl, by simp, hm.mono (by simp)⟩
      exact hrun w' _ h1
    have kk := k R hE _ w (hr.put (by simpa [Nat.blt_eq] using hd) v) hs
    unfold X stepX
    rw [if_pos (by simp [Region.wanted])]
    unfold kstep
    split
    · exact ⟨v, hr1, kk⟩
    · exact ⟨v, fun w' he => hr1 w' (hs.hd.ext he), kk⟩
    · unfold Oper.wpY; rw [hr1 w hs.hd, Oper.upY_value]; exact ⟨hs.hd, fun _ => Ext.refl w, kk⟩

theorem Wl_valP {op : Op} {v : Value} (hd : Nat.blt d N = true := by exact rfl)
    (hrun : ∀ w, (execOp (ev F) ⟨some d, op, T, pos, aft, none⟩).run P w = .ok (.value v) w)
    (k : Wl P B N fm ops rest (upd F d v) A K) : Wl P B N fm ops (⟨some d, op, T, pos, aft, none⟩ :: rest) F A K :=
  fun R hE a w hr hs => X_of_val hs.hd rfl (by rw [hr.eval]; exact hrun) (k R hE _ w (hr.put (by simpa [Nat.blt_eq] using hd) v) hs)

theorem Wl_valPN {op : Op} {v : Value}
    (hrun : ∀ w, (execOp (ev F) ⟨none, op, T, pos, aft, none⟩).run P w = .ok (.value v) w)
    (k : Wl P B N fm ops rest F A K) : Wl P B N fm ops (⟨none, op, T, pos, aft, none⟩ :: rest) F A K :=
  fun R hE a w hr hs => X_of_val hs.hd rfl (by rw [hr.eval]; exact hrun) (k R hE _ w hr hs)

theorem Wl_valN {op : Op} {A' : List Asn} (hk : kindOf op = 2)
    (hrun : ∀ w R, Sat B w (R :: A) → ∃ w' n, (execOp (ev F) ⟨none, op, T, pos, aft, none⟩).run P w = .ok n w' ∧ (n = .skip ∨ ∃ v, n = .value v) ∧ Sat B w' (R :: A'))
    (k : Wl P B N fm ops rest F A' K) : Wl P B N fm ops (⟨none, op, T, pos, aft, none⟩ :: rest) F A K :=
  Wl_op rfl hk fun R hE a w hr hs => by
    obtain ⟨w', n, hw, hn, hs'⟩ := hrun w R hs
    rw [hw]
    rcases hn with rfl | ⟨v, rfl⟩
    · exact ⟨hs'.hd, k R hE _ w' hr hs'⟩
    · exact ⟨hs'.hd, k R hE _ w' hr hs'⟩

/-! guards -/
theorem Wl_guard {dst : Option Tmp} {op : Op} {j : Nat} {b : Bool} (hv : gval ops F j = .bool b := by exact rfl) (k : Wl P B N fm ops (⟨dst, op, T, pos, aft, none⟩ :: rest) F A K) :
    Wl P B N fm ops (⟨dst, op, T, pos, aft, some (j, b)⟩ :: rest) F A K := fun R hE a w hr hs => by
  have h := k R hE a w hr hs
  unfold X stepX at *
  rw [if_pos (by simp [Region.wanted])] at h
  rw [if_pos (by simp only [Region.wanted]; rw [yielded_of hr, hv]; simp)]
  exact h
theorem Wl_guard_no {op : Op} {j : Nat} {b b' : Bool} (hd : Nat.blt d N = true := by exact rfl) (hv : gval ops F j = .bool b' := by exact rfl) (hb : (b' == b) = false := by exact rfl) (k : Wl P B N fm ops rest (upd F d undef) A K) :
    Wl P B N fm ops (⟨some d, op, T, pos, aft, some (j, b)⟩ :: rest) F A K := fun R hE a w hr hs => by
  unfold X stepX
  rw [if_neg (by simp only [Region.wanted]; rw [yielded_of hr, hv]; intro h; simp at h; subst h; simp at hb)]
  exact k R hE _ w (hr.put (by simpa [Nat.blt_eq] using hd) undef) hs
theorem Wl_guard_un {op : Op} {j : Nat} {b : Bool} (hd : Nat.blt d N = true := by exact rfl) (hv : gval ops F j = undef := by exact rfl) (k : Wl P B N fm ops rest (upd F d undef) A K) :
    Wl P B N fm ops (⟨some d, op, T, pos, aft, some (j, b)⟩ :: rest) F A K := fun R hE a w hr hs => by
  unfold X stepX
  rw [if_neg (by simp only [Region.wanted]; rw [yielded_of hr, hv]; simp [undef])]
  exact k R hE _ w (hr.put (by simpa [Nat.blt_eq] using hd) undef) hs
theorem Wl_guard_noN {op : Op} {j : Nat} {b b' : Bool} (hv : gval ops F j = .bool b' := by exact rfl) (hb : (b' == b) = false := by exact rfl) (k : Wl P B N fm ops rest F A K) :
    Wl P B N fm ops (⟨none, op, T, pos, aft, some (j, b)⟩ :: rest) F A K := fun R hE a w hr hs => by
  unfold X stepX
  rw [if_neg (by simp only [Region.wanted]; rw [yielded_of hr, hv]; intro h; simp at h; subst h; simp at hb)]
  exact k R hE _ w hr hs
theorem Wl_guard_unN {op : Op} {j : Nat} {b : Bool} (hv : gval ops F j = undef := by exact rfl) (k : Wl P B N fm ops rest F A K) :
    Wl P B N fm ops (⟨none, op, T, pos, aft, some (j, b)⟩ :: rest) F A K := fun R hE a w hr hs => by
  unfold X stepX
  rw [if_neg (by simp only [Region.wanted]; rw [yielded_of hr, hv]; simp [undef])]
  exact k R hE _ w hr hs
/-- A guard that doesn't hold: nothing is done. -/
def gno : Value → Bool → Bool
  | .bool b', b => b' != b
  | _, _ => true
theorem gno_wanted {N : Nat} {a : Act} {F : Fr} {ops : List Oper} {j : Nat} {b : Bool} {dst : Option Tmp} {op : Op} {T : TypeId} {pos : String} {aft : Array Edge} (hr : Rep N a F) (h : gno (gval ops F j) b = true) :
    ¬ Region.wanted ⟨dst, op, T, pos, aft, some (j, b)⟩ (yielded ops.toArray a.tmps) = true := by
  simp only [Region.wanted]; rw [yielded_of hr]
  generalize gval ops F j = v at h
  cases v <;> simp_all [gno]
theorem Wl_gno {op : Op} {j : Nat} {b : Bool} (hd : Nat.blt d N = true := by exact rfl) (hv : gno (gval ops F j) b = true := by exact rfl) (k : Wl P B N fm ops rest (upd F d undef) A K) :
    Wl P B N fm ops (⟨some d, op, T, pos, aft, some (j, b)⟩ :: rest) F A K := fun R hE a w hr hs => by
  unfold X stepX
  rw [if_neg (gno_wanted hr hv)]
  exact k R hE _ w (hr.put (by simpa [Nat.blt_eq] using hd) undef) hs
theorem Wl_gnoN {op : Op} {j : Nat} {b : Bool} (hv : gno (gval ops F j) b = true := by exact rfl) (k : Wl P B N fm ops rest F A K) :
    Wl P B N fm ops (⟨none, op, T, pos, aft, some (j, b)⟩ :: rest) F A K := fun R hE a w hr hs => by
  unfold X stepX
  rw [if_neg (gno_wanted hr hv)]
  exact k R hE _ w hr hs

theorem upd_same {F : Fr} {d : Nat} {v : Value} (h : F d = v) : upd F d v = F := by
  funext t
  show cond (Nat.beq t d) v (F t) = F t
  cases hb : Nat.beq t d with
  | true => rw [Nat.eq_of_beq_eq_true hb, h]; rfl
  | false => rfl
/-- A slot's truth value is settled: both cases, the slot said outright. -/
theorem Wl_bool {l : List Oper} {e : Nat} {t : Bool} (hv : F e = .bool t := by exact rfl) (yes : t = true → Wl P B N fm ops l (upd F e (.bool true)) A K)
    (no : t = false → Wl P B N fm ops l (upd F e (.bool false)) A K) : Wl P B N fm ops l F A K := by
  cases t with
  | true => have := yes rfl; rw [upd_same hv] at this; exact this
  | false => have := no rfl; rw [upd_same hv] at this; exact this
/-- Which slot does the next guard hang on? -/
def gslot (ops : List Oper) (j : Nat) : Option Nat := (ops[j]?).bind (·.dst)
theorem Wl_split {dst : Option Tmp} {op : Op} {j : Nat} {b t : Bool} {e : Nat} (he : gslot ops j = some e := by exact rfl) (hv : F e = .bool t := by exact rfl)
    (yes : t = true → Wl P B N fm ops (⟨dst, op, T, pos, aft, some (j, b)⟩ :: rest) (upd F e (.bool true)) A K)
    (no : t = false → Wl P B N fm ops (⟨dst, op, T, pos, aft, some (j, b)⟩ :: rest) (upd F e (.bool false)) A K) :
    Wl P B N fm ops (⟨dst, op, T, pos, aft, some (j, b)⟩ :: rest) F A K := Wl_bool hv yes no

/-! moves -/
theorem Wl_move {x : Operand} {v : Value} (hd : Nat.blt d N = true := by exact rfl) (hx : Ev F x v := by (repeat (first | exact Ev.here | exact Ev.const | exact Ev.arg rfl | apply Ev.there rfl | exact Ev.none rfl | exact Ev.func | exact Ev.var)); (first | done | fail)) (k : Wl P B N fm ops rest (upd F d v) A K) : Wl P B N fm ops (⟨some d, .move x, T, pos, aft, none⟩ :: rest) F A K :=
  Wl_valP hd (fun w => by simp [execOp, hx.eq]) k
theorem Wl_assign {x : Operand} {v : Value} (hd : Nat.blt d N = true := by exact rfl) (hx : Ev F x v := by (repeat (first | exact Ev.here | exact Ev.const | exact Ev.arg rfl | apply Ev.there rfl | exact Ev.none rfl | exact Ev.func | exact Ev.var)); (first | done | fail)) (k : Wl P B N fm ops rest (upd F d v) A K) : Wl P B N fm ops (⟨some d, .assign x, T, pos, aft, none⟩ :: rest) F A K :=
  Wl_valP hd (fun w => by simp [execOp, hx.eq]) k
theorem Wl_pick_t {c x y : Operand} {v : Value} (hd : Nat.blt d N = true := by exact rfl) (hc : ev F c = .bool true := by exact rfl) (hx : Ev F x v := by (repeat (first | exact Ev.here | exact Ev.const | exact Ev.arg rfl | apply Ev.there rfl | exact Ev.none rfl | exact Ev.func | exact Ev.var)); (first | done | fail)) (k : Wl P B N fm ops rest (upd F d v) A K) :
    Wl P B N fm ops (⟨some d, .pick c x y, T, pos, aft, none⟩ :: rest) F A K := Wl_valP hd (fun w => by simp [execOp, hc, asBool, hx.eq]) k
theorem Wl_pick_f {c x y : Operand} {v : Value} (hd : Nat.blt d N = true := by exact rfl) (hc : ev F c = .bool false := by exact rfl) (hy : Ev F y v := by (repeat (first | exact Ev.here | exact Ev.const | exact Ev.arg rfl | apply Ev.there rfl | exact Ev.none rfl | exact Ev.func | exact Ev.var)); (first | done | fail)) (k : Wl P B N fm ops rest (upd F d v) A K) :
    Wl P B N fm ops (⟨some d, .pick c x y, T, pos, aft, none⟩ :: rest) F A K := Wl_valP hd (fun w => by simp [execOp, hc, asBool, hy.eq]) k
theorem Wl_pick {c x y : Operand} {t : Bool} {v : Value} (hd : Nat.blt d N = true := by exact rfl) (hc : ev F c = .bool t := by exact rfl) (hv : (if t then ev F x else ev F y) = v := by exact rfl) (k : Wl P B N fm ops rest (upd F d v) A K) :
    Wl P B N fm ops (⟨some d, .pick c x y, T, pos, aft, none⟩ :: rest) F A K := Wl_valP hd (fun w => by subst hv; cases t <;> simp [execOp, hc, asBool]) k
theorem Wl_nilCheck {x : Operand} {p : Addr} (hd : Nat.blt d N = true := by exact rfl) (hx : ev F x = .pointer (some p) := by exact rfl) (k : Wl P B N fm ops rest (upd F d (.pointer (some p))) A K) :
    Wl P B N fm ops (⟨some d, .nilCheck x, T, pos, aft, none⟩ :: rest) F A K := Wl_valP hd (fun w => by simp [execOp, hx]) k
theorem Wl_nilCheckN {x : Operand} {p : Addr} (hx : ev F x = .pointer (some p) := by exact rfl) (k : Wl P B N fm ops rest F A K) :
    Wl P B N fm ops (⟨none, .nilCheck x, T, pos, aft, none⟩ :: rest) F A K := Wl_valPN (v := .pointer (some p)) (fun w => by simp [execOp, hx]) k
theorem Wl_fieldAddr {s i b off fo ft n : Nat} {x : Operand} [hf : FieldOff P s i fo ft n] (hd : Nat.blt d N = true := by exact rfl) (hx : ev F x = .pointer (some ⟨b, off, none⟩) := by exact rfl) (hn : Nat.beq n 0 = false := by exact rfl)
    (k : Wl P B N fm ops rest (upd F d (.pointer (some ⟨b, off + fo, none⟩))) A K) : Wl P B N fm ops (⟨some d, .fieldAddr s x i, T, pos, aft, none⟩ :: rest) F A K :=
  Wl_valP hd (fun w => by
    have h := hf.out
    unfold fieldOf at h
    split at h
    · rename_i fs hu
      cases hfi : fs[i]? with
      | none => simp [hfi] at h
      | some f =>
        cases hi : P.info? f.type with
        | none => simp [hfi, hi] at h
        | some t =>
          simp [hfi, hi] at h
          obtain ⟨h1, h2, h3⟩ := h
          have hs : (sizeOf f.type).run P w = .ok n w := run_sizeOf w _ (by simp [tSize, hi, h3])
          have hn0 : n ≠ 0 := fun e => by subst e; simp at hn
          have hadd : Addr.add ⟨b, off, none⟩ f.offset = ⟨b, off + fo, none⟩ := by
            subst h1; unfold Addr.add; split
            · simp
            · rfl
          simp [execOp, hx, Instr.fieldAt, run_under w s hu, hfi, Instr.sureAddr, fieldPlace, hs, hn0, hadd]
    · cases h) k

theorem cell_of_heap {w : World} {b off : Nat} {l : List Value} {E : TypeId} {fz : Nat × Nat} {v : Value} (h : w.heap[b]? = some (.cells l.toArray E fz)) (hv : l[off]? = some v) :
    w.cell? ⟨b, off, none⟩ = some v := by simp [World.cell?, h, hv]

/-- Where a block can be read. -/
structure Base.has (B : Base) (b : Nat) (l : List Value) (E : TypeId) (fz : Nat × Nat) : Prop where
  lt : B.In b
  eq : B.H b = some (.cells l.toArray E fz)
inductive Rd (B : Base) (b : Nat) (l : List Value) (E : TypeId) (fz : Nat × Nat) : List Asn → Prop
  | head {A : List Asn} : Rd B b l E fz (pt b (.cells l.toArray E fz) :: A)
  | tail {a : Asn} {A : List Asn} (h : Rd B b l E fz A) : Rd B b l E fz (a :: A)
  | base {A : List Asn} (h : B.has b l E fz) : Rd B b l E fz A
theorem Rd.heap {b : Nat} {l : List Value} {E : TypeId} {fz : Nat × Nat} {w : World} : ∀ {A : List Asn}, Rd B b l E fz A → Sat B w A → w.heap[b]? = some (.cells l.toArray E fz) := by
  intro A h
  induction h with
  | head => exact fun hs => (hs.get (List.mem_cons_self ..)).2
  | tail _ ih => exact fun hs => ih (hs.ent (Ent.drop _))
  | base h => exact fun hs => by rw [hs.base _ h.lt]; exact h.eq

theorem Wl_load {b off : Nat} {l : List Value} {E U : TypeId} {fz : Nat × Nat} {v : Value} {x : Operand} [ht : TCell P U] (hk : kindB fm (some d) (.load U x) ≠ 0 := by decide) (hd : Nat.blt d N = true := by exact rfl)
    (hx : ev F x = .pointer (some ⟨b, off, none⟩) := by exact rfl) (hr : Rd B b l E fz A := by (repeat (first | exact Rd.head | exact Rd.base (by assumption) | apply Rd.tail)); (first | done | fail)) (hv : l[off]? = some v := by exact rfl)
    (k : Wl P B N fm ops rest (upd F d v) A K) : Wl P B N fm ops (⟨some d, .load U x, T, pos, aft, none⟩ :: rest) F A K :=
  Wl_rd hk hd (fun w R hs => by
    have hc := cell_of_heap (hr.heap (hs.ent (Ent.drop _))) hv
    simp [execOp, hx, Instr.loadAt, Instr.sureAddr, loadVar, run_isAgg w U ht.out, hc]) k

theorem Wl_loadF {M : List Asn} {Ls : List Nat} {b off : Nat} {l : List Value} {E U : TypeId} {fz : Nat × Nat} {v : Value} {x : Operand} [ht : TCell P U] (hd : Nat.blt d N = true := by exact rfl)
    (hx : ev F x = .pointer (some ⟨b, off, none⟩) := by exact rfl) (hr : Rd B b l E fz M := by (repeat (first | exact Rd.head | exact Rd.base (by assumption) | apply Rd.tail)); (first | done | fail)) (hv : l[off]? = some v := by exact rfl)
    (k : Wl P B N (some (M, Ls)) ops rest (upd F d v) A K) : Wl P B N (some (M, Ls)) ops (⟨some d, .load U x, T, pos, aft, none⟩ :: rest) F A K :=
  Wl_rdF hd (fun w R hs => by
    have hc := cell_of_heap (hr.heap (hs.ent (Ent.drop _))) hv
    simp [execOp, hx, Instr.loadAt, Instr.sureAddr, loadVar, run_isAgg w U ht.out, hc]) k

theorem run_loadCellsFrom (P : Program) (w : World) (a : Addr) : ∀ (vs : List Value) (i : Nat) (acc : Array Value), (∀ j v, vs[j]? = some v → w.cell? (a.add (i + j)) = some v) →
    (loadCellsFrom a i vs.length acc).run P w = .ok (acc ++ vs.toArray) w
  | [], i, acc, _ => by simp [loadCellsFrom]
  | v :: vs, i, acc, h => by
    have h0 : w.cell? (a.add i) = some v := h 0 v rfl
    have := run_loadCellsFrom P w a vs (i + 1) (acc.push v) (fun j x hx => by have := h (j + 1) x (by simpa using hx); rwa [show i + 1 + j = i + (j + 1) by omega])
    simp only [loadCellsFrom, List.length_cons, Sem.run_bind, run_load, h0, Result.andThen_ok, this]
    simp

theorem addr_add (b off n : Nat) : Addr.add ⟨b, off, none⟩ n = ⟨b, off + n, none⟩ := by
  unfold Addr.add; split
  · simp
  · rfl

theorem run_loadCells (P : Program) (w : World) {b off n : Nat} {l : List Value} {E : TypeId} {fz : Nat × Nat} (h : w.heap[b]? = some (.cells l.toArray E fz)) (hn : off + n ≤ l.length) :
    (loadCells ⟨b, off, none⟩ n).run P w = .ok ((l.drop off).take n).toArray w := by
  have hl : ((l.drop off).take n).length = n := by simp; omega
  have := run_loadCellsFrom P w ⟨b, off, none⟩ ((l.drop off).take n) 0 #[] (fun j v hv => by
    rw [addr_add]
    refine cell_of_heap h ?_
    rw [List.getElem?_take] at hv
    split at hv
    · rw [List.getElem?_drop] at hv; rw [show off + (0 + j) = off + j by omega]; exact hv
    · cases hv)
  rw [hl] at this
  unfold loadCells
  rw [this]; simp

theorem Wl_loadAgg {b off n : Nat} {l cs : List Value} {E U : TypeId} {fz : Nat × Nat} {x : Operand} [ht : TAgg P U] [hz : TSize P U n] (hk : kindB fm (some d) (.load U x) ≠ 0 := by decide) (hd : Nat.blt d N = true := by exact rfl)
    (hx : ev F x = .pointer (some ⟨b, off, none⟩) := by exact rfl) (hr : Rd B b l E fz A := by (repeat (first | exact Rd.head | exact Rd.base (by assumption) | apply Rd.tail)); (first | done | fail)) (hv : off + n ≤ l.length) (hc : (l.drop off).take n = cs)
    (k : Wl P B N fm ops rest (upd F d (.agg cs.toArray)) A K) : Wl P B N fm ops (⟨some d, .load U x, T, pos, aft, none⟩ :: rest) F A K :=
  Wl_rd hk hd (fun w R hs => by
    have hc' := run_loadCells P w (hr.heap (hs.ent (Ent.drop _))) hv
    subst hc
    simp [execOp, hx, Instr.loadAt, Instr.sureAddr, loadVar, run_isAgg w U ht.out, run_sizeOf w U hz.out, hc']) k

/-- A block of the list is turned. -/
inductive Upd (b : Nat) (o o' : Obj) : List Asn → List Asn → Prop
  | head {A : List Asn} : Upd b o o' (pt b o :: A) (pt b o' :: A)
  | tail {a : Asn} {A A' : List Asn} (h : Upd b o o' A A') : Upd b o o' (a :: A) (a :: A')
theorem Upd.perm {b : Nat} {o o' : Obj} {A A' : List Asn} (h : Upd b o o' A A') : ∃ M, A.Perm (pt b o :: M) ∧ A'.Perm (pt b o' :: M) := by
  induction h with
  | head => exact ⟨_, .refl _, .refl _⟩
  | @tail a A A' _ ih => obtain ⟨M, h1, h2⟩ := ih; exact ⟨a :: M, (h1.cons a).trans (.swap ..), (h2.cons a).trans (.swap ..)⟩
theorem Upd.sat {b : Nat} {o o' : Obj} {A A' : List Asn} (h : Upd b o o' A A') {R : Asn} {w w' : World} (hio : Io w w') (hsz : w.heap.size = w'.heap.size) (hne : ∀ x, x ≠ b → w'.heap[x]? = w.heap[x]?)
    (hb : w'.heap[b]? = some o') (hs : Sat B w (R :: A)) : Sat B w' (R :: A') := by
  obtain ⟨M, h1, h2⟩ := h.perm
  have hs1 : Sat B w (pt b o :: R :: M) := hs.perm ((h1.cons R).trans (.swap ..))
  exact (hs1.put hio hsz hne hb).perm ((List.Perm.swap ..).trans (h2.symm.cons R))
theorem Upd.mem {b : Nat} {o o' : Obj} {A A' : List Asn} (h : Upd b o o' A A') : pt b o ∈ A := by
  obtain ⟨M, h1, _⟩ := h.perm
  exact h1.mem_iff.2 (List.mem_cons_self ..)

def isCell : Value → Bool
  | .agg _ | .tuple _ => false
  | _ => true
def setL (l : List Value) (off : Nat) : List Value → List Value
  | [] => l
  | v :: vs => setL (l.set off v) (off + 1) vs

theorem setL_length (l : List Value) (off : Nat) (vs : List Value) : (setL l off vs).length = l.length := by
  induction vs generalizing l off with
  | nil => rfl
  | cons v vs ih => simp [setL, ih]
theorem setL_mid : ∀ (vs p m s : List Value), m.length = vs.length → setL (p ++ (m ++ s)) p.length vs = p ++ (vs ++ s)
  | [], p, m, s, h => by obtain rfl := List.length_eq_zero_iff.1 h; rfl
  | v :: vs, p, m, s, h => by
    cases m with
    | nil => simp at h
    | cons x m =>
      have h1 : (p ++ (x :: m ++ s)).set p.length v = (p ++ [v]) ++ (m ++ s) := by simp
      have h2 := setL_mid vs (p ++ [v]) m s (by simpa using h)
      rw [setL, h1]
      have h3 : (p ++ [v]).length = p.length + 1 := by simp
      rw [h3] at h2
      rw [h2]; simp
theorem setL_eq (vs l : List Value) (off : Nat) (h : off + vs.length ≤ l.length) : setL l off vs = l.take off ++ (vs ++ l.drop (off + vs.length)) := by
  have h1 : l = l.take off ++ ((l.drop off).take vs.length ++ l.drop (off + vs.length)) := by
    rw [← List.drop_drop, List.take_append_drop, List.take_append_drop]
  have h2 := setL_mid vs (l.take off) ((l.drop off).take vs.length) (l.drop (off + vs.length)) (by simp; omega)
  rw [← h1, List.length_take, Nat.min_eq_left (by omega)] at h2
  exact h2

theorem run_store1 (P : Program) (w : World) {b off : Nat} {l : List Value} {E : TypeId} {fz : Nat × Nat} {v : Value} (h : w.heap[b]? = some (.cells l.toArray E fz)) (ho : off < l.length)
    (hz : ¬ (fz.1 ≤ off ∧ off < fz.2)) (hv : isCell v = true) :
    (store ⟨b, off, none⟩ v).run P w = .ok () (w.setCell ⟨b, off, none⟩ v) := by
  have hc : w.cell? ⟨b, off, none⟩ = some l[off] := cell_of_heap h (by simp [ho])
  have hf : w.frozen? ⟨b, off, none⟩ = false := by simp [World.frozen?, h]; omega
  cases v <;> first | (simp [isCell] at hv; done) | simp [store, Sem.run, hc, hf]
theorem setCell_heap {w : World} {b off : Nat} {l : List Value} {E : TypeId} {fz : Nat × Nat} (v : Value) (h : w.heap[b]? = some (.cells l.toArray E fz)) :
    (w.setCell ⟨b, off, none⟩ v).heap[b]? = some (.cells (l.set off v).toArray E fz) := by
  have hb := (Array.getElem?_eq_some_iff.1 h)
  simp [World.setCell, Array.getElem?_modify, h]
theorem setCell_ne {w : World} {b off x : Nat} (v : Value) (h : x ≠ b) : (w.setCell ⟨b, off, none⟩ v).heap[x]? = w.heap[x]? := by
  simp [World.setCell, Array.getElem?_modify, Ne.symm h]
theorem setCell_size {w : World} {a : Addr} (v : Value) : (w.setCell a v).heap.size = w.heap.size := by simp [World.setCell]

theorem run_storeCells (P : Program) {b off : Nat} {E : TypeId} {fz : Nat × Nat} : ∀ (vs : List Value) (i : Nat) (w : World) (l : List Value), w.heap[b]? = some (.cells l.toArray E fz) →
    off + i + vs.length ≤ l.length → (∀ j, off + i ≤ j → j < off + i + vs.length → ¬ (fz.1 ≤ j ∧ j < fz.2)) → vs.all isCell = true →
    ∃ w', (storeCells ⟨b, off, none⟩ vs i).run P w = .ok () w' ∧ Io w w' ∧ w'.heap.size = w.heap.size ∧ (∀ x, x ≠ b → w'.heap[x]? = w.heap[x]?) ∧ w'.heap[b]? = some (.cells (setL l (off + i) vs).toArray E fz)
  | [], i, w, l, h, _, _, _ => ⟨w, by simp [storeCells], Io.refl w, rfl, fun _ _ => rfl, h⟩
  | v :: vs, i, w, l, h, hl, hz, hc => by
    simp only [List.length_cons] at hl hz
    simp only [List.all_cons, Bool.and_eq_true] at hc
    have h1 := run_store1 P w (off := off + i) h (by omega) (hz _ (Nat.le_refl _) (by omega)) hc.1
    obtain ⟨w', hw, hio, hsz, hne, hb⟩ := run_storeCells P (off := off) vs (i + 1) _ _ (setCell_heap (off := off + i) v h) (by simp; omega) (fun j h1 h2 => hz j (by omega) (by omega)) hc.2
    refine ⟨w', ?_, (Io.refl _ : Io w (w.setCell _ _)).trans hio, by rw [hsz, setCell_size], fun x hx => by rw [hne x hx, setCell_ne v hx], hb⟩
    simp only [storeCells, addr_add, Sem.run_bind, h1, Result.andThen_ok]
    exact hw

/-- A cell of a row is turned, told outright where the row is written out. -/
inductive SetAt : List Value → Nat → Value → List Value → Prop
  | zero {x v : Value} {l : List Value} : SetAt (x :: l) 0 v (v :: l)
  | succ {x v : Value} {l l' : List Value} {n : Nat} (h : SetAt l n v l') : SetAt (x :: l) (n + 1) v (x :: l')
  | gen {l : List Value} {n : Nat} {v : Value} (h : n < l.length) : SetAt l n v (l.set n v)
theorem SetAt.out {l l' : List Value} {n : Nat} {v : Value} (h : SetAt l n v l') : n < l.length ∧ l' = l.set n v := by
  induction h with
  | zero => simp
  | succ _ ih => simp [ih.1]; exact ih.2
  | gen h => exact ⟨h, rfl⟩
theorem Wl_store {b off : Nat} {l l' : List Value} {E U : TypeId} {fz : Nat × Nat} {v : Value} {x y : Operand} {A' : List Asn} {o' : Obj} [ht : TSize P U 1]
    (hx : ev F x = .pointer (some ⟨b, off, none⟩) := by exact rfl) (hy : Ev F y v := by (repeat (first | exact Ev.here | exact Ev.const | exact Ev.arg rfl | apply Ev.there rfl | exact Ev.none rfl | exact Ev.func | exact Ev.var)); (first | done | fail)) (hv : isCell v = true := by exact rfl)
    (hu : Upd b (.cells l.toArray E fz) o' A A' := by (repeat (first | exact Upd.head | apply Upd.tail)); (first | done | fail)) (hs : SetAt l off v l' := by (repeat (first | exact SetAt.zero | apply SetAt.succ)); (first | done | fail)) (ho : o' = .cells l'.toArray E fz) (hz : ¬ (fz.1 ≤ off ∧ off < fz.2) := by simp)
    (k : Wl P B N fm ops rest F A' K) : Wl P B N fm ops (⟨none, .store U x y, T, pos, aft, none⟩ :: rest) F A K :=
  Wl_valN rfl (fun w R hsat => by
    obtain ⟨hlt, rfl⟩ := hs.out
    subst ho
    have hh := (hsat.get (List.mem_cons_of_mem R hu.mem)).2
    refine ⟨w.setCell ⟨b, off, none⟩ v, .skip, ?_, .inl rfl, hu.sat (Io.refl w : Io w (w.setCell _ _)) (setCell_size v).symm (fun x hx => setCell_ne v hx) (setCell_heap v hh) hsat⟩
    have hcells : v.cells = #[v] := by cases v <;> first | rfl | simp [isCell] at hv
    have h1 := run_store1 P w (off := off) hh hlt hz hv
    simp [execOp, hx, hy.eq, Instr.storeAt, Instr.sureAddr, storeVar, run_sizeOf w U ht.out, hcells, storeCells, h1, Addr.add]) k

theorem Wl_storeAgg {b off n : Nat} {l cs : List Value} {E U : TypeId} {fz : Nat × Nat} {x y : Operand} {A' : List Asn} [ht : TSize P U n]
    (hx : ev F x = .pointer (some ⟨b, off, none⟩) := by exact rfl) (hy : ev F y = .agg cs.toArray := by exact rfl) (hv : cs.all isCell = true := by first | rfl | assumption | (simp only [List.all_cons, List.all_nil, Bool.and_eq_true, Bool.and_true, cInt, cBool, cStr, cPtr, cSl, cByte, true_and, and_true] at *; first | done | assumption | simp only [*, and_self]) | simp [isCell, byteV]) (hl : cs.length = n := by exact rfl)
    (hu : Upd b (.cells l.toArray E fz) (.cells (setL l off cs).toArray E fz) A A' := by (repeat (first | exact Upd.head | apply Upd.tail)); (first | done | fail)) (ho : off + n ≤ l.length) (hz : ∀ j, off ≤ j → j < off + n → ¬ (fz.1 ≤ j ∧ j < fz.2))
    (k : Wl P B N fm ops rest F A' K) : Wl P B N fm ops (⟨none, .store U x y, T, pos, aft, none⟩ :: rest) F A K :=
  Wl_valN rfl (fun w R hs => by
    have hh := (hs.get (List.mem_cons_of_mem R hu.mem)).2
    obtain ⟨w', hw, hio, hsz, hne, hb⟩ := run_storeCells P (off := off) cs 0 w l hh (by omega) (fun j h1 h2 => hz j (by omega) (by omega)) hv
    refine ⟨w', .skip, ?_, .inl rfl, hu.sat hio hsz.symm hne hb hs⟩
    simp [execOp, hx, hy, Instr.storeAt, Instr.sureAddr, storeVar, run_sizeOf w U ht.out, Value.cells, hl, hw]) k

/-! new blocks -/
theorem run_newRow (P : Program) (w : World) (E : TypeId) (cs : Array Value) : (newRow E cs).run P w = .ok ⟨w.heap.size, 0, none⟩ { w with heap := w.heap.push (.cells cs E) } := by
  simp [newRow, newObj, Sem.run]

theorem Wl_new {op : Op} {val : Nat → Value} {o : Obj} (hk : kindOf op = 3) (hd : Nat.blt d N = true := by exact rfl)
    (hrun : ∀ w R, Sat B w (R :: A) → ∃ w', (execOp (ev F) ⟨some d, op, T, pos, aft, none⟩).run P w = .ok (.value (val w.heap.size)) w' ∧ w'.heap = w.heap.push o ∧ Io w w')
    (k : ∀ r, Wl P B N fm ops rest (upd F d (val r)) (pt r o :: A) K) : Wl P B N fm ops (⟨some d, op, T, pos, aft, none⟩ :: rest) F A K := fun R hE a w hr hs => by
  obtain ⟨w', hw, hh, hio⟩ := hrun w R hs
  have hs' : Sat B w' (R :: pt w.heap.size o :: A) := (hs.push hio hh).perm (.swap ..)
  unfold X stepX
  rw [if_pos (by simp [Region.wanted])]
  show kstep P _ (kindB fm (some d) op) _ _ a w
  rw [kindB_three hk]
  show Oper.wpY P _ a w _ noQ
  unfold Oper.wpY
  rw [hr.eval, hw, Oper.upY_value]
  exact ⟨hs'.hd, fun _ => Ext.push hio hh, k w.heap.size R hE _ w' (hr.put (by simpa [Nat.blt_eq] using hd) _) hs'⟩

theorem Wl_alloc {E : TypeId} {z : List Value} [hz : TZero P E z] (hd : Nat.blt d N = true := by exact rfl) (k : ∀ r, Wl P B N fm ops rest (upd F d (.pointer (some ⟨r, 0, none⟩))) (cb r z E :: A) K) :
    Wl P B N fm ops (⟨some d, .alloc E, T, pos, aft, none⟩ :: rest) F A K :=
  Wl_new (val := fun r => .pointer (some ⟨r, 0, none⟩)) rfl hd (fun w R hs => by
    obtain ⟨v, hv, hc⟩ := run_zero w E hz.out
    exact ⟨{ w with heap := w.heap.push (.cells z.toArray E) }, by simp [execOp, Instr.alloc, hv, newVar, run_newRow, hc], rfl, Io.refl w⟩) k
theorem Wl_box {E : TypeId} {x : Operand} {v : Value} {l : List Value} (hd : Nat.blt d N = true := by exact rfl) (hx : Ev F x v := by (repeat (first | exact Ev.here | exact Ev.const | exact Ev.arg rfl | apply Ev.there rfl | exact Ev.none rfl | exact Ev.func | exact Ev.var)); (first | done | fail)) (hl : v.cells = l.toArray := by exact rfl)
    (k : ∀ r, Wl P B N fm ops rest (upd F d (.pointer (some ⟨r, 0, none⟩))) (cb r l E :: A) K) :
    Wl P B N fm ops (⟨some d, .box E x, T, pos, aft, none⟩ :: rest) F A K :=
  Wl_new (val := fun r => .pointer (some ⟨r, 0, none⟩)) rfl hd (fun w R hs => ⟨{ w with heap := w.heap.push (.cells l.toArray E) }, by simp [execOp, Instr.box, hx.eq, newVar, run_newRow, hl], rfl, Io.refl w⟩) k

theorem Wl_boxAgg {E : TypeId} {x : Operand} {l : List Value} (hd : Nat.blt d N = true := by exact rfl) (hx : Ev F x (.agg l.toArray) := by (repeat (first | exact Ev.here | exact Ev.const | exact Ev.arg rfl | apply Ev.there rfl | exact Ev.none rfl | exact Ev.func | exact Ev.var)); (first | done | fail))
    (k : ∀ r, Wl P B N fm ops rest (upd F d (.pointer (some ⟨r, 0, none⟩))) (cb r l E :: A) K) :
    Wl P B N fm ops (⟨some d, .box E x, T, pos, aft, none⟩ :: rest) F A K := Wl_box hd hx rfl k

/-! calls of Go functions -/
/-- A part of the list is taken out. -/
inductive Out (p : Asn) : List Asn → List Asn → Prop
  | head {A : List Asn} : Out p (p :: A) A
  | tail {a : Asn} {A M : List Asn} (h : Out p A M) : Out p (a :: A) (a :: M)
theorem Out.perm {p : Asn} {A M : List Asn} (h : Out p A M) : A.Perm (p :: M) := by
  induction h with
  | head => exact .refl _
  | tail _ ih => exact (ih.cons _).trans (.swap ..)

/-- Some atoms of the list go to the callee. -/
inductive Pick : List Asn → List Asn → List Asn → Prop
  | nil {A : List Asn} : Pick A [] A
  | cons {y : Asn} {A A' G M : List Asn} (h : Out y A A') (k : Pick A' G M) : Pick A (y :: G) M
theorem Pick.perm {A G M : List Asn} (h : Pick A G M) : A.Perm (G ++ M) := by
  induction h with
  | nil => exact .refl _
  | cons h _ ih => exact h.perm.trans (ih.cons _)

theorem Wl_enter {op : Op} {f : FuncId} {args : Array Value} {A1 M : List Asn} {post : Value → List Asn → Prop} (hk : kindOf op = 2) (hd : Nat.blt d N = true := by exact rfl)
    (hrun : ∀ w, (execOp (ev F) ⟨some d, op, T, pos, aft, none⟩).run P w = .ok (.enter f args) w)
    (hs : Fspec P B f args A1 post) (hp : A.Perm (A1 ++ M))
    (k : ∀ v A', post v A' → Wl P B N fm ops rest (upd F d v) (A' ++ M) K) : Wl P B N fm ops (⟨some d, op, T, pos, aft, none⟩ :: rest) F A K :=
  Wl_op rfl hk fun R hE a w hr hsat => by
    rw [hrun w, Oper.upY_enter]
    have h1 : Sat B w (lst (R :: M) :: A1) := (hsat.perm ((hp.cons R).trans (List.perm_middle.symm.trans List.perm_append_comm))).ent (Ent.lst_shut (R :: M) A1)
    refine (hs _ w h1).mono ?_
    rintro e w' ⟨v, A', rfl, hsat', hpost⟩
    have h2 : Sat B w' (R :: (A' ++ M)) := (hsat'.ent (Ent.lst_open (R :: M) A')).perm (List.perm_append_comm.cons R)
    exact ⟨h2.hd, k v A' hpost R hE _ w' (hr.put (by simpa [Nat.blt_eq] using hd) v) h2⟩
theorem Wl_enterN {op : Op} {f : FuncId} {args : Array Value} {A1 M : List Asn} {post : Value → List Asn → Prop} (hk : kindOf op = 2)
    (hrun : ∀ w, (execOp (ev F) ⟨none, op, T, pos, aft, none⟩).run P w = .ok (.enter f args) w)
    (hs : Fspec P B f args A1 post) (hp : A.Perm (A1 ++ M))
    (k : ∀ v A', post v A' → Wl P B N fm ops rest F (A' ++ M) K) : Wl P B N fm ops (⟨none, op, T, pos, aft, none⟩ :: rest) F A K :=
  Wl_op rfl hk fun R hE a w hr hsat => by
    rw [hrun w, Oper.upY_enter]
    have h1 : Sat B w (lst (R :: M) :: A1) := (hsat.perm ((hp.cons R).trans (List.perm_middle.symm.trans List.perm_append_comm))).ent (Ent.lst_shut (R :: M) A1)
    refine (hs _ w h1).mono ?_
    rintro e w' ⟨v, A', rfl, hsat', hpost⟩
    have h2 : Sat B w' (R :: (A' ++ M)) := (hsat'.ent (Ent.lst_open (R :: M) A')).perm (List.perm_append_comm.cons R)
    exact ⟨h2.hd, k v A' hpost R hE _ w' hr h2⟩

/-! what lies in the frame is read by a callee, too -/
/-- A piece of the heap is added to the base. -/
noncomputable def Base.with (B : Base) (w : World) (x : Hp) (hx : ∀ b o, x b = some o → B.view w b = some o) : Base where
  n := w.heap.size
  In := fun b => (B.In b ∧ b < w.heap.size) ∨ ∃ o, x b = some o
  lt := fun b hb => by
    rcases hb with hb | ⟨o, hb⟩
    · exact hb.2
    · have := hx b o hb
      unfold Base.view at this
      split at this
      · cases this
      · exact (Array.getElem?_eq_some_iff.1 this).1
  H := fun b => w.heap[b]?
  W := w
theorem frozen {B : Base} {R : Asn} {A M : List Asn} {w : World} (hE : Ent [R] M) (hs : Sat B w (R :: A)) :
    ∃ B' : Base, (∀ w' L, Sat B' w' L → Sat B w' M) ∧ Sat B' w A ∧ ∀ w' A', Sat B' w' A' → Sat B w' (R :: A') := by
  obtain ⟨x, hR, hx, hr⟩ := hs.own
  have hx1 : ∀ b o, x b = some o → B.view w b = some o := fun b o e => (hx b o e).1
  have hlt : ∀ b, B.In b → b < w.heap.size := fun b hb => Nat.lt_of_lt_of_le (B.lt b hb) hs.size
  have hH : ∀ b o, x b = some o → w.heap[b]? = some o ∧ ¬ B.In b := fun b o e => by
    have := hx1 b o e
    unfold Base.view at this
    split at this
    · cases this
    · rename_i hn; exact ⟨this, hn⟩
  have back : ∀ w' A', Sat (B.with w x hx1) w' A' → Sat B w' (R :: A') := fun w' A' h => by
    have hb : ∀ b, ((B.In b ∧ b < w.heap.size) ∨ ∃ o, x b = some o) → w'.heap[b]? = w.heap[b]? := h.base
    refine ⟨Nat.le_trans hs.size h.size, hs.io.trans h.io, fun b hb' => by rw [hb b (.inl ⟨hb', hlt b hb'⟩)]; exact hs.base b hb', x, hR, fun b o e => ⟨?_, fun f => f⟩, ?_⟩
    · unfold Base.view
      rw [if_neg (hH b o e).2, hb b (.inr ⟨o, e⟩)]; exact (hH b o e).1
    · have key : ∀ {L : List Asn} {U : Nat → Prop}, SatL ((B.with w x hx1).view w') L U → SatL (B.view w') L (fun b => U b ∨ ∃ o, x b = some o) := by
        intro L
        induction L with
        | nil => exact fun _ => trivial
        | cons a L ih =>
          rintro U ⟨y, hy, hys, hyr⟩
          refine ⟨y, hy, fun b o e => ?_, (ih hyr).mono ?_⟩
          · have h1 := hys b o e
            have h2 := h1.1
            unfold Base.view at h2
            split at h2
            · cases h2
            · rename_i hn
              have hn1 : ¬ B.In b := fun hi => hn (.inl ⟨hi, hlt b hi⟩)
              have hn2 : ¬ ∃ o, x b = some o := fun hi => hn (.inr hi)
              refine ⟨?_, fun hu => hu.elim h1.2 hn2⟩
              unfold Base.view; rw [if_neg hn1]; exact h2
          · rintro b ((h | h) | h)
            · exact .inl (.inl h)
            · exact .inr h
            · exact .inl (.inr h)
      exact (key h.own)
  refine ⟨B.with w x hx1, fun w' L h => (back w' L h).hd.ent hE, ⟨Nat.le_refl _, Io.refl w, fun b _ => rfl, ?_⟩, back⟩
  have key : ∀ {L : List Asn} {U : Nat → Prop}, (∀ b, (∃ o, x b = some o) → U b) → SatL (B.view w) L U → SatL ((B.with w x hx1).view w) L (fun b => U b) := by
    intro L
    induction L with
    | nil => exact fun _ _ => trivial
    | cons a L ih =>
      rintro U hU ⟨y, hy, hys, hyr⟩
      refine ⟨y, hy, fun b o e => ⟨?_, (hys b o e).2⟩, ih (fun b hb => .inl (hU b hb)) hyr⟩
      have h1 := (hys b o e).1
      have hn2 : ¬ ∃ o, x b = some o := fun hi => (hys b o e).2 (hU b hi)
      unfold Base.view at h1 ⊢
      split at h1
      · cases h1
      · rename_i hn
        rw [if_neg (fun hi => hi.elim (fun q => hn q.1) hn2)]; exact h1
  exact (key (fun b hb => .inr hb) hr).mono (fun _ f => f.elim)
theorem Wl_enterM {op : Op} {f : FuncId} {args : Array Value} {A1 M M0 : List Asn} {Ls : List Nat} {post : Value → List Asn → Prop} (hk : kindOf op = 2) (hd : Nat.blt d N = true := by exact rfl)
    (hrun : ∀ w, (execOp (ev F) ⟨some d, op, T, pos, aft, none⟩).run P w = .ok (.enter f args) w)
    (hs : ∀ B' : Base, (∀ w L, Sat B' w L → Sat B w M0) → Fspec P B' f args A1 post) (hp : A.Perm (A1 ++ M))
    (k : ∀ v A', post v A' → Wl P B N (some (M0, Ls)) ops rest (upd F d v) (A' ++ M) K) : Wl P B N (some (M0, Ls)) ops (⟨some d, op, T, pos, aft, none⟩ :: rest) F A K :=
  Wl_op rfl hk fun R hE a w hr hsat => by
    rw [hrun w, Oper.upY_enter]
    have h1 : Sat B w (R :: (A1 ++ M)) := hsat.perm (hp.cons R)
    obtain ⟨B', hB, hsB, hback⟩ := frozen hE h1
    have h1 : Sat B' w (lst M :: A1) := (hsB.perm List.perm_append_comm).ent (Ent.lst_shut M A1)
    refine (hs B' hB _ w h1).mono ?_
    rintro e w' ⟨v, A', rfl, hsat', hpost⟩
    have h2 : Sat B w' (R :: (A' ++ M)) := (hback _ _ (hsat'.ent (Ent.lst_open M A'))).perm (List.perm_append_comm.cons R)
    exact ⟨h2.hd, k v A' hpost R hE _ w' (hr.put (by simpa [Nat.blt_eq] using hd) v) h2⟩
end ops
end Go.Sl
