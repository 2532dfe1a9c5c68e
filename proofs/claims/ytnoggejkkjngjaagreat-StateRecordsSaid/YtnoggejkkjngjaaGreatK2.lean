/- The walk's own rules over the logic of XSl: code, calls, loops, and each kind of operation. No condition. -/
import Derived.Test.YtnoggejkkjngjaaGreatK1
import Derived.Sort.LoopGhostIn
import Derived.RangeFuncRecord
import Derived.TacticsIn
import Derived.OrdersIn
set_option linter.unusedVariables false
namespace Go.Sl
open Go

/-! ### Frames as functions -/
abbrev Fr := Nat → Value
def upd (F : Fr) (d : Nat) (v : Value) (t : Nat) : Value := cond (Nat.beq t d) v (F t)
def fr0 : List Value → Fr
  | [], _ => undef
  | v :: _, 0 => v
  | _ :: vs, t + 1 => fr0 vs t
def ov (G : Fr) : List (Nat × Value) → Fr
  | [] => G
  | (d, v) :: r => upd (ov G r) d v
def Mat (F : Fr) : List (Nat × Value) → Prop
  | [] => True
  | (d, v) :: r => F d = v ∧ Mat F r
def ev (F : Fr) : Operand → Value
  | .tmp t => F t
  | .const v => v
  | .global g => .pointer (some ⟨g, 0, none⟩)
  | .func f => .func (.func f) #[] #[]

/-- What an operand is, told by looking along the frame (so that it is told as it stands there). -/
inductive Ev : Fr → Operand → Value → Prop
  | here {F : Fr} {d : Nat} {v : Value} : Ev (upd F d v) (.tmp d) v
  | there {F : Fr} {d t : Nat} {v x : Value} (h : Nat.beq t d = false) (k : Ev F (.tmp t) v) : Ev (upd F d x) (.tmp t) v
  | arg {l : List Value} {t : Nat} {v : Value} (h : l[t]? = some v) : Ev (fr0 l) (.tmp t) v
  | none {l : List Value} {t : Nat} (h : l[t]? = none) : Ev (fr0 l) (.tmp t) undef
  | const {F : Fr} {v : Value} : Ev F (.const v) v
  | func {F : Fr} {f : Nat} : Ev F (.func f) (.func (.func f) #[] #[])
  | global {F : Fr} {g : Nat} : Ev F (.global g) (.pointer (some ⟨g, 0, .none⟩))
  | var {F : Fr} {t : Nat} : Ev F (.tmp t) (F t)
theorem fr0_some : ∀ (l : List Value) (t : Nat) (v : Value), l[t]? = some v → fr0 l t = v
  | x :: l, 0, v, h => by simpa [fr0] using h
  | x :: l, t + 1, v, h => by simp only [fr0]; exact fr0_some l t v (by simpa using h)
theorem fr0_none : ∀ (l : List Value) (t : Nat), l[t]? = none → fr0 l t = undef
  | [], t, h => rfl
  | x :: l, t + 1, h => by simp only [fr0]; exact fr0_none l t (by simpa using h)
theorem Ev.eq {F : Fr} {x : Operand} {v : Value} (h : Ev F x v) : ev F x = v := by
  induction h with
  | @here F d v => show cond (Nat.beq d d) v (F d) = v; simp
  | @there F d t v x h k ih => show cond (Nat.beq t d) x (F t) = v; rw [h]; exact ih
  | arg h => exact fr0_some _ _ _ h
  | none h => exact fr0_none _ _ h
  | _ => rfl
inductive EvL (F : Fr) : List Operand → List Value → Prop
  | nil : EvL F [] []
  | cons {x : Operand} {v : Value} {xs : List Operand} {vs : List Value} (h : Ev F x v) (k : EvL F xs vs) : EvL F (x :: xs) (v :: vs)
theorem EvL.eq {F : Fr} {xs : List Operand} {vs : List Value} (h : EvL F xs vs) : xs.map (ev F) = vs := by
  induction h with
  | nil => rfl
  | cons h _ ih => simp [h.eq, ih]

theorem ov_self {F : Fr} : ∀ {l : List (Nat × Value)}, Mat F l → F = ov F l
  | [], _ => rfl
  | (d, v) :: r, ⟨h, hr⟩ => by
    funext t
    show F t = cond (Nat.beq t d) v (ov F r t)
    rw [← ov_self hr]
    cases hb : Nat.beq t d with
    | true => rw [Nat.eq_of_beq_eq_true hb, h]; rfl
    | false => rfl

structure Rep (N : Nat) (a : Act) (F : Fr) : Prop where
  size : a.tmps.size = N
  get : ∀ t, a.tmps.getD t undef = F t

theorem Rep.eval {N : Nat} {a : Act} {F : Fr} (h : Rep N a F) : a.eval = ev F := by
  funext x
  cases x with
  | tmp t => exact h.get t
  | _ => rfl

theorem Rep.put {N : Nat} {a : Act} {F : Fr} (h : Rep N a F) {d : Nat} (hd : d < N) (v : Value) : Rep N (a.put (some d) v) (upd F d v) := by
  refine ⟨by simp [Act.put, h.size], fun t => ?_⟩
  show (a.tmps.setIfInBounds d v).getD t undef = cond (Nat.beq t d) v (F t)
  have hs := h.size
  have hg := h.get t
  cases hb : Nat.beq t d with
  | true =>
    obtain rfl := Nat.eq_of_beq_eq_true hb
    simp [hs, hd]
  | false =>
    have hne : d ≠ t := fun e => by subst e; simp at hb
    simp only [cond_false]
    rw [← hg]
    simp [Array.getElem?_setIfInBounds_ne hne]

theorem fr0_get : ∀ (l : List Value) (n t : Nat), ((l ++ List.replicate n undef).toArray).getD t undef = fr0 l t
  | [], n, t => by
    simp only [List.nil_append, fr0]
    by_cases h : t < n <;> simp [h]
  | v :: vs, n, 0 => by simp [fr0]
  | v :: vs, n, t + 1 => by
    have := fr0_get vs n t
    simpa [fr0] using this

def gval (ops : List Oper) (F : Fr) (j : Nat) : Value :=
  match (ops[j]?).bind (·.dst) with
  | some d => F d
  | none => undef

theorem yielded_of {N : Nat} {a : Act} {F : Fr} (h : Rep N a F) {ops : List Oper} {j : Nat} :
    yielded ops.toArray a.tmps j = match gval ops F j with | .bool b => some b | _ => none := by
  unfold yielded gval
  rw [List.getElem?_toArray]
  cases (ops[j]?).bind (·.dst) with
  | none => rfl
  | some d =>
    simp only [Option.bind_some]
    rw [← h.get d]
    cases hd : a.tmps[d]? with
    | none => simp [hd, undef]
    | some v =>
      have hg : a.tmps.getD d undef = v := by simp [hd]
      rw [hg]; cases v <;> rfl

/-! ### Operations, calls of a loop's body among them -/
def _root_.Go.Oper.upY (P : Program) (o : Oper) (a : Act) (next : Act → World → Prop) (Q : Exit → Act → World → Prop) : Result Next → Prop
  | .ok (.value v) w' => next (a.put o.dst v) w'
  | .ok .skip w' => next (a.put o.dst undef) w'
  | .ok (.enter f args) w' => Calls P f args w' fun
      | .returned v, w'' => next (a.put o.dst v) w''
      | .panicked chain, w'' => Q (.panic chain) a w''
      | .outgrown, _ => LetsOut Q
  | .ok (.round l f tmps assign body) w' => RoundIn Fence.wide 0 P l f tmps assign body w' fun
      | .returned v, w'' => next (a.put o.dst v) w''
      | .panicked chain, w'' => Q (.panic chain) a w''
      | .outgrown, _ => LetsOut Q
  | .halt (.panic v) w' => Q (.panic [{ v, recovered := false }]) a w'
  | _ => False
def _root_.Go.Oper.wpY (P : Program) (o : Oper) (a : Act) (w : World) (next : Act → World → Prop) (Q : Exit → Act → World → Prop) : Prop :=
  o.upY P a next Q ((execOp a.eval o).run P w)
section
variable (P : Program) (o : Oper) (a : Act) (next : Act → World → Prop) (Q : Exit → Act → World → Prop) (w : World)
theorem _root_.Go.Oper.upY_value (v : Value) : o.upY P a next Q (.ok (.value v) w) = next (a.put o.dst v) w := rfl
theorem _root_.Go.Oper.upY_enter (f : FuncId) (args : Array Value) : o.upY P a next Q (.ok (.enter f args) w) = Calls P f args w fun
    | .returned v, w'' => next (a.put o.dst v) w''
    | .panicked chain, w'' => Q (.panic chain) a w''
    | .outgrown, _ => LetsOut Q := rfl
theorem _root_.Go.Oper.upY_round (l : Nat) (f : FuncId) (tmps : Array Value) (assign body : Code) : o.upY P a next Q (.ok (.round l f tmps assign body) w) = RoundIn Fence.wide 0 P l f tmps assign body w fun
    | .returned v, w'' => next (a.put o.dst v) w''
    | .panicked chain, w'' => Q (.panic chain) a w''
    | .outgrown, _ => LetsOut Q := rfl
end
/-- Code is walked in a function's frame or in a round's. -/
@[reducible] def fen (ro : Option Nat) : Fence := { Fence.wide with round := ro }
/-- The block for the calls that a loop's rounds defer, and what stands for it among the calls deferred. -/
def dk (D : Nat) : Asn := pt D (.deferred (some []))
def mark (D : Nat) : Deferred := { target := .collected D, args := #[] }
def Rk (ro : Option Nat) (R : Asn) : Prop := ∀ l, ro = some l → ∃ r, Ent [R] [pt l (.loop r)]
theorem Rk.lst {ro : Option Nat} {R : Asn} {L : List Asn} (h : Rk ro R) : Rk ro (lst (R :: L)) := fun l e => by
  obtain ⟨r, hr⟩ := h l e
  refine ⟨r, Ent.trans (Ent.trans (Ent.lst_open (R :: L) []) ?_) hr⟩
  intro m U x
  obtain ⟨y, h1, h2, h3⟩ := x
  exact ⟨y, h1, h2, trivial⟩
theorem Rk.none {R : Asn} : Rk none R := fun _ e => by cases e

/-! ### Posts -/
def onlyN (K : Act → World → Prop) : Exit → Act → World → Prop
  | .normal => K
  | _ => fun _ _ => False

/-- What an operation may touch: 0 nothing, 1 it reads memory, 2 anything. -/
def kindOf : Op → Nat
  | .move _ | .assign _ | .pick _ _ _ | .nilCheck _ | .fieldAddr _ _ _ | .field _ _ _ | .indexAddr _ _ _ | .index _ _ _ | .extract _ _ | .build _ _ | .unOp _ _ _
  | .slice _ _ _ _ _ | .sliceToArrayPointer _ _ | .makeInterface _ _ | .makeFunc _ _ _ => 0
  | .binOp op _ _ _ _ => match op with | .eql | .neq => 1 | _ => 0
  | .load _ _ | .convert _ _ _ | .call ⟨.builtin .len, _, _⟩ => 1
  | .alloc _ | .box _ _ | .buildSlice _ _ _ | .makeSlice _ _ _ | .makeMap _ _ => 3
  | _ => 2
/-- The heap has at most grown. -/
def Ext (w w' : World) : Prop := w.heap.size ≤ w'.heap.size ∧ Io w w' ∧ ∀ b, b < w.heap.size → w'.heap[b]? = w.heap[b]?
theorem Ext.refl (w : World) : Ext w w := ⟨Nat.le_refl _, Io.refl w, fun _ _ => rfl⟩
theorem Ext.trans {u v w : World} (h : Ext u v) (k : Ext v w) : Ext u w := ⟨Nat.le_trans h.1 k.1, h.2.1.trans k.2.1, fun b hb => by rw [k.2.2 b (Nat.lt_of_lt_of_le hb h.1), h.2.2 b hb]⟩
theorem Ext.push {w w' : World} {o : Obj} (hio : Io w w') (h : w'.heap = w.heap.push o) : Ext w w' := ⟨by rw [h]; simp, hio, fun b hb => by rw [h, Array.getElem?_push, if_neg (by omega)]⟩
theorem Sat.ext {B : Base} {w w' : World} {L : List Asn} (h : Sat B w L) (he : Ext w w') : Sat B w' L := by
  refine ⟨Nat.le_trans h.size he.1, h.io.trans he.2.1, fun b hb => by rw [he.2.2 b (Nat.lt_of_lt_of_le (B.lt b hb) h.size)]; exact h.base b hb, h.own.weak ?_⟩
  intro b o e
  unfold Base.view at *
  split at e
  · cases e
  · rename_i hn
    rw [if_neg hn, he.2.2 b (Array.getElem?_eq_some_iff.1 e).1]; exact e
def noQ : Exit → Act → World → Prop := fun _ _ _ => False
/-- What may lie in the frame, to be read at any time: 'none': nothing is known of it. -/
abbrev Fm := Option (List Asn × List Nat)
def mOf (fm : Fm) : List Asn := match fm with
  | some (M, _) => M
  | none => []
/-- What reads out of the frame alone (its slot is in the list) is of kind 0. -/
def lOf (fm : Fm) : List Nat := match fm with
  | some (_, L) => L
  | none => []
/-- (A slot that is listed a million higher: a conversion that turns memory.) -/
def kindB (fm : Fm) (d : Option Nat) (o : Op) : Nat :=
  if (d.any fun t => (lOf fm).contains t) && Nat.beq (kindOf o) 1 then 0
  else if (d.any fun t => (lOf fm).contains (t + 1000000)) && Nat.beq (kindOf o) 1 then 2 else kindOf o
def kstep (P : Program) (Inv : World → Prop) (k : Nat) (o : Oper) (K : Act → World → Prop) (a : Act) (w : World) : Prop :=
  match k with
  | 0 => ∃ v, (∀ w', Inv w' → (execOp a.eval o).run P w' = .ok (.value v) w') ∧ K (a.put o.dst v) w
  | 1 => ∃ v, (∀ w', Ext w w' → (execOp a.eval o).run P w' = .ok (.value v) w') ∧ K (a.put o.dst v) w
  | k => o.wpY P a w (fun a' w' => Inv w' ∧ (k = 3 → Ext w w') ∧ K a' w') noQ
def stepX (P : Program) (ops : Array Oper) (Inv : World → Prop) (fm : Fm) (o : Oper) (K : Act → World → Prop) (a : Act) (w : World) : Prop :=
  if Region.wanted o (yielded ops a.tmps) = true then kstep P Inv (kindB fm o.dst o.op) o K a w else K (a.put o.dst undef) w
def X (P : Program) (ops : Array Oper) (Inv : World → Prop) (fm : Fm) (K : Act → World → Prop) : List Oper → Act → World → Prop
  | [] => K
  | o :: rest => stepX P ops Inv fm o (X P ops Inv fm K rest)

def Lift (B : Base) (N : Nat) (R : Asn) (ds : List Deferred) (K : Fr → List Asn → Prop) : Act → World → Prop :=
  fun a w => a.defers = ds ∧ ∃ F A, Rep N a F ∧ Sat B w (R :: A) ∧ K F A

def Wl (P : Program) (B : Base) (N : Nat) (fm : Fm) (ops : List Oper) (l : List Oper) (F : Fr) (A : List Asn) (K : Fr → List Asn → Prop) : Prop :=
  ∀ R, Ent [R] (mOf fm) → ∀ a w, Rep N a F → Sat B w (R :: A) → X P ops.toArray (fun w => Sat B w [R]) fm (Lift B N R a.defers K) l a w

def LiftQ (B : Base) (N : Nat) (R : Asn) (ds : List Deferred) (Q : Exit → Fr → List Asn → Prop) : Exit → Act → World → Prop :=
  fun e a w => ∃ Ds F A, a.defers = List.map mark Ds ++ ds ∧ Rep N a F ∧ Sat B w (R :: (List.map dk Ds ++ A)) ∧ Q e F A

def Wc (P : Program) (B : Base) (N : Nat) (c : Code) (F : Fr) (A : List Asn) (Q : Exit → Fr → List Asn → Prop) : Prop :=
  ∀ ro R a w, Rk ro R → Rep N a F → Sat B w (R :: A) → c.wpIn (fen ro) 0 P (LiftQ B N R a.defers Q) a w

def Fspec (P : Program) (B : Base) (f : FuncId) (args : Array Value) (A : List Asn) (post : Value → List Asn → Prop) : Prop :=
  ∀ R w, Sat B w (R :: A) → Calls P f args w fun e w' => ∃ v A', e = .returned v ∧ Sat B w' (R :: A') ∧ post v A'

theorem wpOper_mono {P : Program} {o : Oper} {a : Act} {w : World} {K K' : Act → World → Prop} {Q : Exit → Act → World → Prop} {Q' : Exit → Act → World → Prop}
    (hk : ∀ a w, K a w → K' a w) (hq : ∀ e a w, e ≠ .normal → Q e a w → Q' e a w) (h : o.wpY P a w K Q) : o.wpY P a w K' Q' := by
  unfold Oper.wpY at *
  generalize (execOp a.eval o).run P w = r at *
  cases r with
  | ok n w' =>
    cases n <;> simp only [Oper.upY] at h ⊢
    case value v => exact hk _ _ h
    case skip => exact hk _ _ h
    case enter f args =>
      refine h.mono fun e w'' he => ?_
      cases e with
      | returned v => exact hk _ _ he
      | panicked c => exact hq _ _ _ (by simp) he
      | outgrown => obtain ⟨a, w, h⟩ := he; exact ⟨a, w, hq _ _ _ (by simp) h⟩
    case round l f tmps asx bd =>
      refine h.mono fun e w'' he => ?_
      cases e with
      | returned v => exact hk _ _ he
      | panicked c => exact hq _ _ _ (by simp) he
      | outgrown => obtain ⟨a, w, h⟩ := he; exact ⟨a, w, hq _ _ _ (by simp) h⟩
  | halt x w' =>
    cases x <;> simp only [Oper.upY] at h ⊢
    case panic v => exact hq _ _ _ (by simp) h

theorem noDefer {P : Program} {o : Oper} {a : Act} {w : World} {K : Act → World → Prop} (h : o.wpY P a w K noQ) : ∀ c, o.op ≠ .defer c := fun c hc => by
  unfold Oper.wpY at h
  have he : execOp a.eval o = (do pure (.defer (← resolve a.eval c o.type))) := by
    cases o; simp only at hc; subst hc; rfl
  rw [he] at h
  simp only [Sem.run_bind] at h
  generalize (resolve a.eval c o.type).run P w = r at h
  cases r with
  | ok d w' => exact h
  | halt x w' => cases x <;> exact h

/-- An operation goes in a function's frame and in a round's alike. -/
theorem wpY_in {P : Program} {o : Oper} {a : Act} {w : World} {K : Act → World → Prop} {Q : Exit → Act → World → Prop} {ro : Option Nat} (h : o.wpY P a w K noQ) : o.wpIn (fen ro) 0 P a w K Q := by
  refine ⟨fun _ _ => trivial, ?_⟩
  rw [Oper.semAt_eq _ _ _ (noDefer h)]
  unfold Oper.wpY at h
  generalize (execOp a.eval o).run P w = r at *
  cases r with
  | ok n w' =>
    cases n <;> simp only [Oper.upY, Oper.uponIn] at h ⊢
    case value v => exact h
    case skip => exact h
    case enter f args =>
      refine ⟨fun e => (by cases e), ?_⟩
      have h2 : CallsIn Fence.wide 0 P f args w' _ := callsIn_wide.2 h
      refine CallsIn.mono (show CallsIn (fen ro) (0 - 1) P f args w' _ from h2) fun e w'' he => ?_
      cases e with
      | returned v => exact he
      | panicked c => exact he.elim
      | outgrown => obtain ⟨_, _, h⟩ := he; exact h.elim
    case round l f tmps asx bd =>
      refine ⟨fun e => (by cases e), ?_⟩
      refine RoundIn.mono (show RoundIn (fen ro) (0 - 1) P l f tmps asx bd w' _ from h) fun e w'' he => ?_
      cases e with
      | returned v => exact he
      | panicked c => exact he.elim
      | outgrown => obtain ⟨_, _, h⟩ := he; exact h.elim
  | halt x w' => cases x <;> simp only [Oper.upY] at h <;> exact h.elim

theorem X_wpList {P : Program} {fm : Fm} {ops : Array Oper} {Inv : World → Prop} {K : Act → World → Prop} {Q : Exit → Act → World → Prop} {ro : Option Nat} (hQ : ∀ a w, K a w → Q .normal a w) :
    ∀ (l : List Oper) (a : Act) (w : World), Inv w → X P ops Inv fm K l a w → wpListIn (fen ro) 0 P ops Q l a w
  | [], _, _, _, h => hQ _ _ h
  | o :: rest, a, w, hI, h => by
    unfold X stepX at h
    unfold wpListIn
    split
    · rename_i hw
      rw [if_pos hw] at h
      unfold kstep at h
      split at h
      · obtain ⟨v, hv, hk⟩ := h
        refine wpY_in (show o.wpY P a w _ noQ from ?_)
        unfold Oper.wpY; rw [hv w hI]; exact X_wpList hQ rest _ _ hI hk
      · obtain ⟨v, hv, hk⟩ := h
        refine wpY_in (show o.wpY P a w _ noQ from ?_)
        unfold Oper.wpY; rw [hv w (Ext.refl w)]; exact X_wpList hQ rest _ _ hI hk
      · exact wpY_in (wpOper_mono (fun a w h => X_wpList hQ rest a w h.1 h.2.2) (fun e a w _ h => h) h)
    · rename_i hw
      rw [if_neg hw] at h
      exact ⟨fun _ _ => trivial, X_wpList hQ rest _ _ hI h⟩

theorem wpIn_operQ {P : Program} {o : Oper} {F : Fence} {a : Act} {w : World} {K K' : Act → World → Prop} {Q Q' : Exit → Act → World → Prop} (hk : ∀ a w, K a w → K' a w) (hq : ∀ e a w, Q e a w → Q' e a w)
    (h : o.wpIn F 0 P a w K Q) : o.wpIn F 0 P a w K' Q' := by
  refine ⟨h.1, ?_⟩
  have hh := h.2
  generalize (o.semAt F.round a.eval).run P w = r at *
  cases r with
  | ok x w' =>
    cases x <;> simp only [Oper.uponIn] at hh ⊢ <;>
      first
        | exact hk _ _ hh
        | exact ⟨hh.1, CallsIn.mono hh.2 (fun e w'' he => by cases e <;> first | exact hk _ _ he | exact hq _ _ _ he | (obtain ⟨a, w, h⟩ := he; exact ⟨a, w, hq _ _ _ h⟩))⟩
        | exact ⟨hh.1, RowsIn.mono hh.2 (fun _ _ he => hk _ _ he)⟩
        | exact ⟨hh.1, RoundIn.mono hh.2 (fun e w'' he => by cases e <;> first | exact hk _ _ he | exact hq _ _ _ he | (obtain ⟨a, w, h⟩ := he; exact ⟨a, w, hq _ _ _ h⟩))⟩
  | halt x w' => cases x <;> simp only [Oper.uponIn] at hh ⊢ <;> first | exact hq _ _ _ hh | exact hh

theorem Sat.hd {B : Base} {w : World} {R : Asn} {A : List Asn} (h : Sat B w (R :: A)) : Sat B w [R] := h.ent (Ent.nil.cons R)

section code
variable {P : Program} {B : Base} {N : Nat} {F : Fr} {A : List Asn} {Q : Exit → Fr → List Asn → Prop}

theorem y7 {c : Code} {A' : List Asn} (he : Ent A A') (h : Wc P B N c F A' Q) : Wc P B N c F A Q := fun ro R a w hk hr hs => h ro R a w hk hr (hs.entR he)
theorem yE {c : Code} {α : Type} {f : α → List Asn} (h : ∀ x, Wc P B N c F (f x ++ A) Q) : Wc P B N c F (exN f :: A) Q :=
  fun ro R a w hk hr hs => let ⟨x, hx⟩ := exN_open_sat hs; h x ro R a w hk hr hx
theorem xP {c : Code} {φ : Prop} {x : Asn} (h : φ → Wc P B N c F (x :: A) Q) : Wc P B N c F (puA φ x :: A) Q :=
  fun ro R a w hk hr hs => let ⟨hφ, hx⟩ := puA_open_sat hs; h hφ ro R a w hk hr hx
theorem Wc.go {y : Code} (h : Wc P B N y F A Q) {ro : Option Nat} {R : Asn} {ds : List Deferred} {Ds : List Nat} {a : Act} {w : World} (hk : Rk ro R) (hd : a.defers = List.map mark Ds ++ ds) (hr : Rep N a F)
    (hs : Sat B w (R :: (List.map dk Ds ++ A))) : y.wpIn (fen ro) 0 P (LiftQ B N R ds Q) a w := by
  refine wpIn_mono (h ro (lst (R :: List.map dk Ds)) a w hk.lst hr (hs.ent (Ent.lst_shut (R :: List.map dk Ds) A))) ?_
  rintro e a' w' ⟨Ds', F', A', hd', hr', hs', hq⟩
  refine ⟨Ds' ++ Ds, F', A', by rw [hd', hd]; simp, hr', ?_, hq⟩
  have h1 := hs'.ent (Ent.lst_open (R :: List.map dk Ds) (List.map dk Ds' ++ A'))
  refine h1.perm (.cons R ?_)
  rw [List.map_append, List.append_assoc]
  refine (List.perm_append_comm_assoc _ _ _)

def thenQ (P : Program) (B : Base) (N : Nat) (y : Code) (Q : Exit → Fr → List Asn → Prop) : Exit → Fr → List Asn → Prop
  | .normal, F, A => Wc P B N y F A Q
  | e, F, A => Q e F A

theorem zi {x y : Code} (h : Wc P B N x F A (thenQ P B N y Q)) : Wc P B N (.seq x y) F A Q := fun ro R a w hk hr hs =>
  wpIn_seq (wpIn_mono (h ro R a w hk hr hs) (fun e a' w' ⟨Ds, F', A', hd, hr', hs', hq⟩ => by
    cases e with
    | normal => exact Wc.go hq hk hd hr' hs'
    | _ => exact ⟨Ds, F', A', hd, hr', hs', hq⟩))

theorem zK {y : Code} (h : Wc P B N y F A Q) : thenQ P B N y Q .normal F A := h
theorem zR {y : Code} (h : Q .ret F A) : thenQ P B N y Q .ret F A := h
theorem zP {y : Code} {id : Nat} (h : Q (.exit id) F A) : thenQ P B N y Q (.exit id) F A := h

theorem zd (h : Q .normal F A) : Wc P B N .skip F A Q := fun _ _ a w _ hr hs => wpIn_skip ⟨[], F, A, rfl, hr, hs, h⟩
theorem zX {l : Nat} (h : Q .normal F A) : Wc P B N (.label l) F A Q := fun _ _ a w _ hr hs => wpIn_label ⟨[], F, A, rfl, hr, hs, h⟩
theorem ze {id : Nat} (h : Q (.exit id) F A) : Wc P B N (.exit id) F A Q := fun _ _ a w _ hr hs => wpIn_exit ⟨[], F, A, rfl, hr, hs, h⟩
theorem zj (h : Q .ret F A) : Wc P B N .ret F A Q := fun _ _ a w _ hr hs => wpIn_ret ⟨[], F, A, rfl, hr, hs, h⟩

def blkQ (id : Nat) (Q : Exit → Fr → List Asn → Prop) : Exit → Fr → List Asn → Prop
  | .exit id', F, A => if id' = id then Q .normal F A else Q (.exit id') F A
  | e, F, A => Q e F A

theorem zW {id : Nat} {c : Code} (h : Wc P B N c F A (blkQ id Q)) : Wc P B N (.block id c) F A Q := fun ro R a w hk hr hs =>
  wpIn_block (wpIn_mono (h ro R a w hk hr hs) (fun e a' w' ⟨Ds, F', A', hd, hr', hs', hq⟩ => by
    cases e with
    | exit id' =>
      simp only [Exit.inBlock]
      simp only [blkQ] at hq
      split
      · rename_i hi; rw [if_pos hi] at hq; exact ⟨Ds, F', A', hd, hr', hs', hq⟩
      · rename_i hi; rw [if_neg hi] at hq; exact ⟨Ds, F', A', hd, hr', hs', hq⟩
    | _ => exact ⟨Ds, F', A', hd, hr', hs', hq⟩))

theorem zY {id : Nat} (h : Q .normal F A) : blkQ id Q (.exit id) F A := by simp only [blkQ, if_true]; exact h
theorem zS {id id' : Nat} (hne : Nat.beq id' id = false) (h : Q (.exit id') F A) : blkQ id Q (.exit id') F A := by
  simp only [blkQ]; rw [if_neg (fun e => by subst e; simp at hne)]; exact h
theorem zN {id : Nat} (h : Q .normal F A) : blkQ id Q .normal F A := h
theorem zV {id : Nat} (h : Q .ret F A) : blkQ id Q .ret F A := h

theorem zc {c : Operand} {x y : Code} {t : Bool} (hc : ev F c = .bool t := by exact rfl) (ht : t = true → Wc P B N x F A Q) (hf : t = false → Wc P B N y F A Q) :
    Wc P B N (.cond c x y) F A Q := fun ro R a w hk hr hs => by
  have hc' : a.eval c = .bool t := by rw [hr.eval]; exact hc
  cases t with
  | true => exact wpIn_cond_true hc' (ht rfl ro R a w hk hr hs)
  | false => exact wpIn_cond_false hc' (hf rfl ro R a w hk hr hs)
theorem zQ {c : Operand} {x y : Code} (hc : ev F c = .bool true := by exact rfl) (h : Wc P B N x F A Q) : Wc P B N (.cond c x y) F A Q := zc hc (fun _ => h) (by simp)
theorem zU {c : Operand} {x y : Code} (hc : ev F c = .bool false := by exact rfl) (h : Wc P B N y F A Q) : Wc P B N (.cond c x y) F A Q := zc hc (by simp) (fun _ => h)

def loopQ (Z : Fr → List Asn → Prop) (Q : Exit → Fr → List Asn → Prop) : Exit → Fr → List Asn → Prop
  | .normal, F, A => Z F A
  | e, F, A => Q e F A
theorem zL {Z : Fr → List Asn → Prop} (h : Z F A) : loopQ Z Q .normal F A := h
theorem zT {Z : Fr → List Asn → Prop} (h : Q .ret F A) : loopQ Z Q .ret F A := h
theorem zO {Z : Fr → List Asn → Prop} {id : Nat} (h : Q (.exit id) F A) : loopQ Z Q (.exit id) F A := h

/-- A loop: 'x' is the ghost; 'L x' what the slots hold at the head, 'S x' what is owned there, 'φ x' what is known. -/
theorem yI {α : Type} {c : Code} (L : α → List (Nat × Value)) (S : α → List Asn) (φ : α → Prop) (μ : α → Nat) (x : α)
    (h : φ x) (hF : Mat F (L x)) (hA : Ent A (S x))
    (round : ∀ x G, φ x → Wc P B N c (ov G (L x)) (S x) (loopQ (fun F' A' => ∃ x', φ x' ∧ μ x' < μ x ∧ Mat F' (L x') ∧ Ent A' (S x')) Q)) : Wc P B N (.loop c) F A Q := fun ro R a0 w hk hr hs => by
  refine wpIn_loop_ghost (fun n a w => ∃ x Ds, μ x = n ∧ φ x ∧ a.defers = List.map mark Ds ++ a0.defers ∧ (∃ F, Rep N a F ∧ Mat F (L x)) ∧ Sat B w (R :: (List.map dk Ds ++ S x))) (μ x) ⟨x, [], rfl, h, rfl, ⟨F, hr, hF⟩, hs.entR hA⟩ ?_
  rintro n a w ⟨x, Ds, rfl, hx, hd, ⟨F, hr, hF⟩, hs⟩
  have hr' : Rep N a (ov F (L x)) := by rw [← ov_self hF]; exact hr
  refine wpIn_mono (Wc.go (round x F hx) hk hd hr' hs) (fun e a' w' ⟨Ds, F', A', hd, hr', hs', hq⟩ => ?_)
  cases e with
  | normal => obtain ⟨x', h1, h2, h3, h4⟩ := hq; exact ⟨μ x', h2, x', Ds, rfl, h1, hd, ⟨F', hr', h3⟩, hs'.entR (h4.app _)⟩
  | _ => exact ⟨Ds, F', A', hd, hr', hs', hq⟩

/-- The ways through 'c' meet again: what is known behind them is said anew. -/
theorem xR {α : Type} {c d : Code} (L : α → List (Nat × Value)) (S : α → List Asn) (φ : α → Prop)
    (h1 : Wc P B N c F A (loopQ (fun F' A' => ∃ x, φ x ∧ Mat F' (L x) ∧ Ent A' (S x)) Q))
    (h2 : ∀ x G, φ x → Wc P B N d (ov G (L x)) (S x) Q) : Wc P B N (.seq c d) F A Q := fun ro R a w hk hr hs =>
  wpIn_seq (wpIn_mono (h1 ro R a w hk hr hs) (fun e a' w' ⟨Ds, F', A', hd, hr', hs', hq⟩ => by
    cases e with
    | normal =>
      obtain ⟨x, hx, hm, hE⟩ := hq
      exact Wc.go (h2 x F' hx) hk hd (by rw [← ov_self hm]; exact hr') (hs'.entR (hE.app _))
    | _ => exact ⟨Ds, F', A', hd, hr', hs', hq⟩))

/-- The same, at the part that begins with a region's number. -/
theorem xS {α : Type} {k : Nat} {ops : Array Oper} {b : Bool} {c d : Code} (L : α → List (Nat × Value)) (S : α → List Asn) (φ : α → Prop)
    (h1 : Wc P B N (.seq (.region k ops b) c) F A (loopQ (fun F' A' => ∃ x, φ x ∧ Mat F' (L x) ∧ Ent A' (S x)) Q))
    (h2 : ∀ x G, φ x → Wc P B N d (ov G (L x)) (S x) Q) : Wc P B N (.seq (.seq (.region k ops b) c) d) F A Q := xR L S φ h1 h2

theorem y4 {α : Type} {k : Nat} {ops : Array Oper} {b : Bool} {d : Code} (L : α → List (Nat × Value)) (S : α → List Asn) (φ : α → Prop)
    (h1 : Wc P B N (.region k ops b) F A (loopQ (fun F' A' => ∃ x, φ x ∧ Mat F' (L x) ∧ Ent A' (S x)) Q))
    (h2 : ∀ x G, φ x → Wc P B N d (ov G (L x)) (S x) Q) : Wc P B N (.seq (.region k ops b) d) F A Q := xR L S φ h1 h2

theorem zC {id : Nat} {ops : List Oper} (h : ∀ K : Fr → List Asn → Prop, (∀ F A, Q .normal F A → K F A) → Wl P B N none ops ops F A K) :
    Wc P B N (.region id ops.toArray false) F A Q := fun ro R a w _ hr hs =>
  wpIn_region_list (X_wpList (fun a' w' hq => by
    obtain ⟨hd, F', A', h1, h2, h3⟩ := hq
    exact ⟨[], F', A', hd, h1, h2, h3⟩) _ _ _ hs.hd (h (fun F A => Q .normal F A) (fun _ _ h => h) R Ent.nil a w hr hs))
/-- A region in its own order, with the slots of conversions that turn memory. -/
theorem xC {id : Nat} {ops : List Oper} (Ls : List Nat) (h : ∀ K : Fr → List Asn → Prop, (∀ F A, Q .normal F A → K F A) → Wl P B N (some ([], Ls)) ops ops F A K) :
    Wc P B N (.region id ops.toArray false) F A Q := fun ro R a w _ hr hs =>
  wpIn_region_list (X_wpList (fun a' w' hq => by
    obtain ⟨hd, F', A', h1, h2, h3⟩ := hq
    exact ⟨[], F', A', hd, h1, h2, h3⟩) _ _ _ hs.hd (h (fun F A => Q .normal F A) (fun _ _ h => h) R Ent.nil a w hr hs))
end code

theorem leaves {P : Program} {B : Base} {fn : Func} {tmps : Array Value} {R : Asn} {A : List Asn} {Z : Ending → World → Prop} : ∀ (Ds : List Nat) (w : World), Sat B w (R :: (List.map dk Ds ++ A)) →
    (∀ w', Sat B w' (R :: A) → ∃ v, (results fn tmps).run P w' = .ok v w' ∧ Z (.returned v) w') → LeavesInM Fence.wide 0 P fn tmps Z (List.map mark Ds ++ []) .returning w
  | [], w, hs, h => h w hs
  | D :: Ds, w, hs, h => by
    have hp : Sat B w (dk D :: R :: (List.map dk Ds ++ A)) := hs.perm (.swap ..)
    have hh := (hp.get (List.mem_cons_self ..)).2
    refine ⟨by simp, .inl ⟨D, w.putObj D (.deferred none), rfl, run_takeDeferred hh, leaves Ds _ ?_ h⟩⟩
    have h2 : Sat B (w.putObj D (.deferred none)) (pt D (.deferred none) :: R :: (List.map dk Ds ++ A)) := Sat.put (w := w) (o := .deferred (some [])) (show Io w (w.putObj D (.deferred none)) from ⟨rfl, rfl, rfl⟩) (by simp) (fun x hx => World.putObj_heap_other hx) (World.putObj_heap_same (Array.getElem?_eq_some_iff.1 hh).1) hp
    exact h2.ent (Ent.drop _)

theorem spec_of {P : Program} {B : Base} {f : FuncId} {args : List Value} {A : List Asn} {post : Value → List Asn → Prop} {fn : Func} {c : Code} {N : Nat}
    (hf : P.funcs[f]? = some fn) (hb : fn.body = some c) (hN : fn.ntmps = N) (hlen : Nat.ble args.length N = true)
    (h : Wc P B N c (fr0 args) A (fun e F A' => (e = .normal ∨ e = .ret) ∧ ∃ v A'', Ent A' A'' ∧ (∀ a w R, Rep N a F → Sat B w (R :: A') → (results fn a.tmps).run P w = .ok v w) ∧ post v A'')) :
    Fspec P B f args.toArray A post := fun R w hs => by
  refine callsIn_wide.1 (callsIn_of_wp_marks (F := Fence.wide) (n := 0) hf hb trivial ?_ rfl)
  have hl : args.length ≤ N := Nat.le_of_ble_eq_true hlen
  have hr : Rep N { tmps := args.toArray ++ Array.replicate (fn.ntmps - args.toArray.size) undef, defers := [] } (fr0 args) := by
    refine ⟨by simp [hN]; omega, fun t => ?_⟩
    rw [← fr0_get args (fn.ntmps - args.length) t, show args.toArray ++ Array.replicate (fn.ntmps - args.toArray.size) undef = (args ++ List.replicate (fn.ntmps - args.length) undef).toArray by simp]
  refine wpIn_mono (h none R _ w Rk.none hr hs) (fun e a w ⟨Ds, F', A', hd, hr', hs', he, v, A'', hE, hres, hp⟩ => ?_)
  have key : LeavesInM Fence.wide 0 P fn a.tmps (fun e w' => ∃ v A', e = .returned v ∧ Sat B w' (R :: A') ∧ post v A') a.defers .returning w := by
    rw [hd]
    exact leaves Ds w hs' (fun w' h2 => ⟨v, hres a w' R hr' h2, v, A'', rfl, h2.entR hE, hp⟩)
  rcases he with rfl | rfl
  · exact key
  · exact key

theorem Fspec.mono {P : Program} {B : Base} {f : FuncId} {args : Array Value} {A : List Asn} {post post' : Value → List Asn → Prop}
    (h : Fspec P B f args A post) (hp : ∀ v A, post v A → post' v A) : Fspec P B f args A post' :=
  fun R w hs => (h R w hs).mono fun _ _ ⟨v, A', he, hs', hq⟩ => ⟨v, A', he, hs', hp _ _ hq⟩
theorem Fspec.ent {P : Program} {B : Base} {f : FuncId} {args : Array Value} {A A' : List Asn} {post : Value → List Asn → Prop}
    (he : Ent A A') (h : Fspec P B f args A' post) : Fspec P B f args A post := fun R w hs => h R w (hs.entR he)

theorem res0 {P : Program} {fn : Func} {N : Nat} {B : Base} {F : Fr} {A : List Asn} (h : fn.results = #[]) :
    ∀ a w R, Rep N a F → Sat B w (R :: A) → (results fn a.tmps).run P w = .ok (.tuple #[]) w := fun a w _ _ _ => results_none h a.tmps P w
theorem res1 {P : Program} {fn : Func} {N : Nat} {B : Base} {F : Fr} {A : List Asn} {t : Nat} {v : Value} (h : fn.results = #[.tmp t]) (hv : F t = v) :
    ∀ a w R, Rep N a F → Sat B w (R :: A) → (results fn a.tmps).run P w = .ok v w := fun a w _ hr _ => by
  rw [results_tmp h a.tmps P w, hr.get t, hv]
theorem res2 {P : Program} {fn : Func} {N : Nat} {B : Base} {F : Fr} {A : List Asn} {t u : Nat} {v x : Value} (h : fn.results = #[.tmp t, .tmp u]) (hv : F t = v) (hx : F u = x) :
    ∀ a w R, Rep N a F → Sat B w (R :: A) → (results fn a.tmps).run P w = .ok (.tuple #[v, x]) w := fun a w _ hr _ => by
  rw [results_tmp2 h a.tmps P w, hr.get t, hr.get u, hv, hx]
end Go.Sl
