/- The walk's own rules over the logic of XSl: code, calls, loops, and each kind of operation. No condition. -/
import Derived.Test.YtdlpfeflndlpfaaSl
import Derived.Deep.LoopGhost
set_option linter.unusedVariables false
namespace Go.Sl
open Go

/-! ### Frames as functions -/
abbrev Fr := Nat → Value
def upd (F : Fr) (d : Nat) (v : Value) (t : Nat) : Value := cond (Nat.beq t d) v (F t)
def fr0 : List Value → Fr
  | [], _ => undef
  | v :: _, 0 => v
  | _ :: vs, t + 1 => fr0 vs t
def ov (G : Fr) : List (Nat × Value) → Fr
  | [] => G
  | (d, v) :: r => upd (ov G r) d v
def Mat (F : Fr) : List (Nat × Value) → Prop
  | [] => True
  | (d, v) :: r => F d = v ∧ Mat F r
def ev (F : Fr) : Operand → Value
  | .tmp t => F t
  | .const v => v
  | .global g => .pointer (some ⟨g, 0, none⟩)
  | .func f => .func (.func f) #[] #[]

/-- What an operand is, told by looking along the frame (so that it is told as it stands there). -/
inductive Ev : Fr → Operand → Value → Prop
  | here {F : Fr} {d : Nat} {v : Value} : Ev (upd F d v) (.tmp d) v
  | there {F : Fr} {d t : Nat} {v x : Value} (h : Nat.beq t d = false) (k : Ev F (.tmp t) v) : Ev (upd F d x) (.tmp t) v
  | arg {l : List Value} {t : Nat} {v : Value} (h : l[t]? = some v) : Ev (fr0 l) (.tmp t) v
  | none {l : List Value} {t : Nat} (h : l[t]? = none) : Ev (fr0 l) (.tmp t) undef
  | const {F : Fr} {v : Value} : Ev F (.const v) v
  | func {F : Fr} {f : Nat} : Ev F (.func f) (.func (.func f) #[] #[])
  | global {F : Fr} {g : Nat} : Ev F (.global g) (.pointer (some ⟨g, 0, .none⟩))
  | var {F : Fr} {t : Nat} : Ev F (.tmp t) (F t)
theorem fr0_some : ∀ (l : List Value) (t : Nat) (v : Value), l[t]? = some v → fr0 l t = v
  | x :: l, 0, v, h => by simpa [fr0] using h
  | x :: l, t + 1, v, h => by simp only [fr0]; exact fr0_some l t v (by simpa using h)
theorem fr0_none : ∀ (l : List Value) (t : Nat), l[t]? = none → fr0 l t = undef
  | [], t, h => rfl
  | x :: l, t + 1, h => by simp only [fr0]; exact fr0_none l t (by simpa using h)
theorem Ev.eq {F : Fr} {x : Operand} {v : Value} (h : Ev F x v) : ev F x = v := by
  induction h with
  | @here F d v => show cond (Nat.beq d d) v (F d) = v; simp
  | @there F d t v x h k ih => show cond (Nat.beq t d) x (F t) = v; rw [h]; exact ih
  | arg h => exact fr0_some _ _ _ h
  | none h => exact fr0_none _ _ h
  | _ => rfl
inductive EvL (F : Fr) : List Operand → List Value → Prop
  | nil : EvL F [] []
  | cons {x : Operand} {v : Value} {xs : List Operand} {vs : List Value} (h : Ev F x v) (k : EvL F xs vs) : EvL F (x :: xs) (v :: vs)
theorem EvL.eq {F : Fr} {xs : List Operand} {vs : List Value} (h : EvL F xs vs) : xs.map (ev F) = vs := by
  induction h with
  | nil => rfl
  | cons h _ ih => simp [h.eq, ih]

theorem ov_self {F : Fr} : ∀ {l : List (Nat × Value)}, Mat F l → F = ov F l
  | [], _ => rfl
  | (d, v) :: r, ⟨h, hr⟩ => by
    funext t
    show F t = cond (Nat.beq t d) v (ov F r t)
    rw [← ov_self hr]
    cases hb : Nat.beq t d with
    | true => rw [Nat.eq_of_beq_eq_true hb, h]; rfl
    | false => rfl

structure Rep (N : Nat) (a : Act) (F : Fr) : Prop where
  size : a.tmps.size = N
  defers : a.defers = []
  get : ∀ t, a.tmps.getD t undef = F t

theorem Rep.eval {N : Nat} {a : Act} {F : Fr} (h : Rep N a F) : a.eval = ev F := by
  funext x
  cases x with
  | tmp t => exact h.get t
  | _ => rfl

theorem Rep.put {N : Nat} {a : Act} {F : Fr} (h : Rep N a F) {d : Nat} (hd : d < N) (v : Value) : Rep N (a.put (some d) v) (upd F d v) := by
  refine ⟨by simp [Act.put, h.size], h.defers, fun t => ?_⟩
  show (a.tmps.setIfInBounds d v).getD t undef = cond (Nat.beq t d) v (F t)
  have hs := h.size
  have hg := h.get t
  cases hb : Nat.beq t d with
  | true =>
    obtain rfl := Nat.eq_of_beq_eq_true hb
    simp [hs, hd]
  | false =>
    have hne : d ≠ t := fun e => by subst e; simp at hb
    simp only [cond_false]
    rw [← hg]
    simp [Array.getElem?_setIfInBounds_ne hne]

theorem Rep.putN {N : Nat} {a : Act} {F : Fr} (h : Rep N a F) (v : Value) : Rep N (a.put none v) F := h

theorem fr0_get : ∀ (l : List Value) (n t : Nat), ((l ++ List.replicate n undef).toArray).getD t undef = fr0 l t
  | [], n, t => by
    simp only [List.nil_append, fr0]
    by_cases h : t < n <;> simp [h]
  | v :: vs, n, 0 => by simp [fr0]
  | v :: vs, n, t + 1 => by
    have := fr0_get vs n t
    simpa [fr0] using this

def gval (ops : List Oper) (F : Fr) (j : Nat) : Value :=
  match (ops[j]?).bind (·.dst) with
  | some d => F d
  | none => undef

theorem yielded_of {N : Nat} {a : Act} {F : Fr} (h : Rep N a F) {ops : List Oper} {j : Nat} :
    yielded ops.toArray a.tmps j = match gval ops F j with | .bool b => some b | _ => none := by
  unfold yielded gval
  rw [List.getElem?_toArray]
  cases (ops[j]?).bind (·.dst) with
  | none => rfl
  | some d =>
    simp only [Option.bind_some]
    rw [← h.get d]
    cases hd : a.tmps[d]? with
    | none => simp [hd, undef]
    | some v =>
      have hg : a.tmps.getD d undef = v := by simp [hd]
      rw [hg]; cases v <;> rfl

/-! ### Posts -/
def onlyN (K : Act → World → Prop) : Exit → Act → World → Prop
  | .normal => K
  | _ => fun _ _ => False

/-- What an operation may touch: 0 nothing, 1 it reads memory, 2 anything. -/
def kindOf : Op → Nat
  | .move _ | .assign _ | .pick _ _ _ | .nilCheck _ | .fieldAddr _ _ _ | .field _ _ _ | .indexAddr _ _ _ | .index _ _ _ | .extract _ _ | .build _ _ | .unOp _ _ _
  | .slice _ _ _ _ _ | .sliceToArrayPointer _ _ | .makeInterface _ _ | .makeFunc _ _ _ => 0
  | .binOp op _ _ _ _ => match op with | .eql | .neq => 1 | _ => 0
  | .load _ _ | .convert _ _ _ | .call ⟨.builtin .len, _, _⟩ => 1
  | .alloc _ | .box _ _ | .buildSlice _ _ _ | .makeSlice _ _ _ | .makeMap _ _ => 3
  | _ => 2
/-- The heap has at most grown. -/
def Ext (w w' : World) : Prop := w.heap.size ≤ w'.heap.size ∧ Io w w' ∧ ∀ b, b < w.heap.size → w'.heap[b]? = w.heap[b]?
theorem Ext.refl (w : World) : Ext w w := ⟨Nat.le_refl _, Io.refl w, fun _ _ => rfl⟩
theorem Ext.trans {u v w : World} (h : Ext u v) (k : Ext v w) : Ext u w := ⟨Nat.le_trans h.1 k.1, h.2.1.trans k.2.1, fun b hb => by rw [k.2.2 b (Nat.lt_of_lt_of_le hb h.1), h.2.2 b hb]⟩
theorem Ext.push {w w' : World} {o : Obj} (hio : Io w w') (h : w'.heap = w.heap.push o) : Ext w w' := ⟨by rw [h]; simp, hio, fun b hb => by rw [h, Array.getElem?_push, if_neg (by omega)]⟩
theorem Sat.ext {B : Base} {w w' : World} {L : List Asn} (h : Sat B w L) (he : Ext w w') : Sat B w' L := by
  refine ⟨Nat.le_trans h.size he.1, h.io.trans he.2.1, fun b hb => by rw [he.2.2 b (Nat.lt_of_lt_of_le (B.lt b hb) h.size)]; exact h.base b hb, h.own.weak ?_⟩
  intro b o e
  unfold Base.view at *
  split at e
  · cases e
  · rename_i hn
    rw [if_neg hn, he.2.2 b (Array.getElem?_eq_some_iff.1 e).1]; exact e
def noQ : Exit → Act → World → Prop := fun _ _ _ => False
/-- What may lie in the frame, to be read at any time: 'none': nothing is known of it. -/
abbrev Fm := Option (List Asn × List Nat)
def mOf (fm : Fm) : List Asn := match fm with
  | some (M, _) => M
  | none => []
/-- What reads out of the frame alone (its slot is in the list) is of kind 0. -/
def lOf (fm : Fm) : List Nat := match fm with
  | some (_, L) => L
  | none => []
def kindB (fm : Fm) (d : Option Nat) (o : Op) : Nat := if (d.any fun t => (lOf fm).contains t) && Nat.beq (kindOf o) 1 then 0 else kindOf o
def kstep (P : Program) (Inv : World → Prop) (k : Nat) (o : Oper) (K : Act → World → Prop) (a : Act) (w : World) : Prop :=
  match k with
  | 0 => ∃ v, (∀ w', Inv w' → (execOp a.eval o).run P w' = .ok (.value v) w') ∧ K (a.put o.dst v) w
  | 1 => ∃ v, (∀ w', Ext w w' → (execOp a.eval o).run P w' = .ok (.value v) w') ∧ K (a.put o.dst v) w
  | k => o.wp P a w (fun a' w' => Inv w' ∧ (k = 3 → Ext w w') ∧ K a' w') noQ
def stepX (P : Program) (ops : Array Oper) (Inv : World → Prop) (fm : Fm) (o : Oper) (K : Act → World → Prop) (a : Act) (w : World) : Prop :=
  if Region.wanted o (yielded ops a.tmps) = true then kstep P Inv (kindB fm o.dst o.op) o K a w else K (a.put o.dst undef) w
def X (P : Program) (ops : Array Oper) (Inv : World → Prop) (fm : Fm) (K : Act → World → Prop) : List Oper → Act → World → Prop
  | [] => K
  | o :: rest => stepX P ops Inv fm o (X P ops Inv fm K rest)

def Lift (B : Base) (N : Nat) (R : Asn) (K : Fr → List Asn → Prop) : Act → World → Prop :=
  fun a w => ∃ F A, Rep N a F ∧ Sat B w (R :: A) ∧ K F A

def Wl (P : Program) (B : Base) (N : Nat) (fm : Fm) (ops : List Oper) (l : List Oper) (F : Fr) (A : List Asn) (K : Fr → List Asn → Prop) : Prop :=
  ∀ R, Ent [R] (mOf fm) → ∀ a w, Rep N a F → Sat B w (R :: A) → X P ops.toArray (fun w => Sat B w [R]) fm (Lift B N R K) l a w

def LiftQ (B : Base) (N : Nat) (R : Asn) (Q : Exit → Fr → List Asn → Prop) : Exit → Act → World → Prop :=
  fun e a w => ∃ F A, Rep N a F ∧ Sat B w (R :: A) ∧ Q e F A

def Wc (P : Program) (B : Base) (N : Nat) (c : Code) (F : Fr) (A : List Asn) (Q : Exit → Fr → List Asn → Prop) : Prop :=
  ∀ R a w, Rep N a F → Sat B w (R :: A) → c.wp P (LiftQ B N R Q) a w

def Fspec (P : Program) (B : Base) (f : FuncId) (args : Array Value) (A : List Asn) (post : Value → List Asn → Prop) : Prop :=
  ∀ R w, Sat B w (R :: A) → Calls P f args w fun e w' => ∃ v A', e = .returned v ∧ Sat B w' (R :: A') ∧ post v A'

theorem wpOper_mono {P : Program} {o : Oper} {a : Act} {w : World} {K K' : Act → World → Prop} {Q : Exit → Act → World → Prop} {Q' : Exit → Act → World → Prop}
    (hk : ∀ a w, K a w → K' a w) (hq : ∀ e a w, e ≠ .normal → Q e a w → Q' e a w) (h : o.wp P a w K Q) : o.wp P a w K' Q' := by
  unfold Oper.wp at *
  generalize (execOp a.eval o).run P w = r at *
  cases r with
  | ok n w' =>
    cases n <;> simp only [Oper.upon] at h ⊢
    case value v => exact hk _ _ h
    case skip => exact hk _ _ h
    case defer d => exact hk _ _ h
    case enter f args =>
      refine h.mono fun e w'' he => ?_
      cases e with
      | returned v => exact hk _ _ he
      | panicked c => exact hq _ _ _ (by simp) he
      | outgrown => obtain ⟨a, w, h⟩ := he; exact ⟨a, w, hq _ _ _ (by simp) h⟩
    case row row args => exact h.mono fun v w'' he => hk _ _ he
  | halt x w' =>
    cases x <;> simp only [Oper.upon] at h ⊢
    case panic v => exact hq _ _ _ (by simp) h

theorem wpList_mono {P : Program} {ops : Array Oper} {Q Q' : Exit → Act → World → Prop} (hq : ∀ e a w, Q e a w → Q' e a w) :
    ∀ (l : List Oper) (a : Act) (w : World), wpList P ops Q l a w → wpList P ops Q' l a w
  | [], _, _, h => hq _ _ _ h
  | o :: rest, a, w, h => by
    unfold wpList at *
    split
    · rename_i hw
      rw [if_pos hw] at h
      rcases h with h | ⟨h1, a', w', h2⟩
      · exact .inl (wpOper_mono (fun a w => wpList_mono hq rest a w) (fun e a w _ => hq e a w) h)
      · exact .inr ⟨h1, a', w', hq _ _ _ h2⟩
    · rename_i hw
      rw [if_neg hw] at h
      exact wpList_mono hq rest _ _ h

theorem X_wpList {P : Program} {ops : Array Oper} {Inv : World → Prop} {K : Act → World → Prop} : ∀ (l : List Oper) (a : Act) (w : World), Inv w → X P ops Inv none K l a w → wpList P ops (onlyN K) l a w
  | [], _, _, _, h => h
  | o :: rest, a, w, hI, h => by
    unfold X stepX at h
    unfold wpList
    split
    · rename_i hw
      rw [if_pos hw] at h
      left
      unfold kstep at h
      split at h
      · obtain ⟨v, hv, hk⟩ := h
        unfold Oper.wp; rw [hv w hI]; exact X_wpList rest _ _ hI hk
      · obtain ⟨v, hv, hk⟩ := h
        unfold Oper.wp; rw [hv w (Ext.refl w)]; exact X_wpList rest _ _ hI hk
      · exact wpOper_mono (fun a w h => X_wpList rest a w h.1 h.2.2) (fun e a w _ h => h.elim) h
    · rename_i hw
      rw [if_neg hw] at h
      exact X_wpList rest _ _ hI h

theorem Sat.hd {B : Base} {w : World} {R : Asn} {A : List Asn} (h : Sat B w (R :: A)) : Sat B w [R] := h.ent (Ent.nil.cons R)

section code
variable {P : Program} {B : Base} {N : Nat} {F : Fr} {A : List Asn} {Q : Exit → Fr → List Asn → Prop}

theorem Wc_ent {c : Code} {A' : List Asn} (he : Ent A A') (h : Wc P B N c F A' Q) : Wc P B N c F A Q := fun R a w hr hs => h R a w hr (hs.entR he)
theorem Wc_exN {c : Code} {α : Type} {f : α → List Asn} (h : ∀ x, Wc P B N c F (f x ++ A) Q) : Wc P B N c F (exN f :: A) Q :=
  fun R a w hr hs => let ⟨x, hx⟩ := exN_open_sat hs; h x R a w hr hx
theorem Wc_exA {c : Code} {α : Type} {f : α → Asn} (h : ∀ x, Wc P B N c F (f x :: A) Q) : Wc P B N c F (exA f :: A) Q :=
  fun R a w hr hs => let ⟨x, hx⟩ := exA_open_sat hs; h x R a w hr hx
theorem Wc_puA {c : Code} {φ : Prop} {x : Asn} (h : φ → Wc P B N c F (x :: A) Q) : Wc P B N c F (puA φ x :: A) Q :=
  fun R a w hr hs => let ⟨hφ, hx⟩ := puA_open_sat hs; h hφ R a w hr hx
theorem Wc_frame {c : Code} {F' : Fr} (h : F = F') (k : Wc P B N c F' A Q) : Wc P B N c F A Q := h ▸ k

def thenQ (P : Program) (B : Base) (N : Nat) (y : Code) (Q : Exit → Fr → List Asn → Prop) : Exit → Fr → List Asn → Prop
  | .normal, F, A => Wc P B N y F A Q
  | e, F, A => Q e F A

theorem Wc_seq {x y : Code} (h : Wc P B N x F A (thenQ P B N y Q)) : Wc P B N (.seq x y) F A Q := fun R a w hr hs =>
  wp_seq (Code.wp_mono (fun e a' w' ⟨F', A', hr', hs', hq⟩ => by
    cases e with
    | normal => exact hq R a' w' hr' hs'
    | _ => exact ⟨F', A', hr', hs', hq⟩) (h R a w hr hs))

theorem thenQ_normal {y : Code} (h : Wc P B N y F A Q) : thenQ P B N y Q .normal F A := h
theorem thenQ_ret {y : Code} (h : Q .ret F A) : thenQ P B N y Q .ret F A := h
theorem thenQ_exit {y : Code} {id : Nat} (h : Q (.exit id) F A) : thenQ P B N y Q (.exit id) F A := h

theorem Wc_skip (h : Q .normal F A) : Wc P B N .skip F A Q := fun _ a w hr hs => wp_skip ⟨F, A, hr, hs, h⟩
theorem Wc_label {l : Nat} (h : Q .normal F A) : Wc P B N (.label l) F A Q := fun _ a w hr hs => wp_label ⟨F, A, hr, hs, h⟩
theorem Wc_exit {id : Nat} (h : Q (.exit id) F A) : Wc P B N (.exit id) F A Q := fun _ a w hr hs => wp_exit ⟨F, A, hr, hs, h⟩
theorem Wc_ret (h : Q .ret F A) : Wc P B N .ret F A Q := fun _ a w hr hs => wp_ret ⟨F, A, hr, hs, h⟩

def blkQ (id : Nat) (Q : Exit → Fr → List Asn → Prop) : Exit → Fr → List Asn → Prop
  | .exit id', F, A => if id' = id then Q .normal F A else Q (.exit id') F A
  | e, F, A => Q e F A

theorem Wc_block {id : Nat} {c : Code} (h : Wc P B N c F A (blkQ id Q)) : Wc P B N (.block id c) F A Q := fun R a w hr hs =>
  wp_block (Code.wp_mono (fun e a' w' ⟨F', A', hr', hs', hq⟩ => by
    cases e with
    | exit id' =>
      simp only [Exit.inBlock]
      simp only [blkQ] at hq
      split
      · rename_i hi; rw [if_pos hi] at hq; exact ⟨F', A', hr', hs', hq⟩
      · rename_i hi; rw [if_neg hi] at hq; exact ⟨F', A', hr', hs', hq⟩
    | _ => exact ⟨F', A', hr', hs', hq⟩) (h R a w hr hs))

theorem blkQ_hit {id : Nat} (h : Q .normal F A) : blkQ id Q (.exit id) F A := by simp only [blkQ, if_true]; exact h
theorem blkQ_miss {id id' : Nat} (hne : Nat.beq id' id = false) (h : Q (.exit id') F A) : blkQ id Q (.exit id') F A := by
  simp only [blkQ]; rw [if_neg (fun e => by subst e; simp at hne)]; exact h
theorem blkQ_normal {id : Nat} (h : Q .normal F A) : blkQ id Q .normal F A := h
theorem blkQ_ret {id : Nat} (h : Q .ret F A) : blkQ id Q .ret F A := h

theorem Wc_cond {c : Operand} {x y : Code} {t : Bool} (hc : ev F c = .bool t) (ht : t = true → Wc P B N x F A Q) (hf : t = false → Wc P B N y F A Q) :
    Wc P B N (.cond c x y) F A Q := fun R a w hr hs => by
  have hc' : a.eval c = .bool t := by rw [hr.eval]; exact hc
  cases t with
  | true => exact wp_cond_true hc' (ht rfl R a w hr hs)
  | false => exact wp_cond_false hc' (hf rfl R a w hr hs)
theorem Wc_cond_t {c : Operand} {x y : Code} (hc : ev F c = .bool true) (h : Wc P B N x F A Q) : Wc P B N (.cond c x y) F A Q := Wc_cond hc (fun _ => h) (by simp)
theorem Wc_cond_f {c : Operand} {x y : Code} (hc : ev F c = .bool false) (h : Wc P B N y F A Q) : Wc P B N (.cond c x y) F A Q := Wc_cond hc (by simp) (fun _ => h)

def loopQ (Z : Fr → List Asn → Prop) (Q : Exit → Fr → List Asn → Prop) : Exit → Fr → List Asn → Prop
  | .normal, F, A => Z F A
  | e, F, A => Q e F A
theorem loopQ_normal {Z : Fr → List Asn → Prop} (h : Z F A) : loopQ Z Q .normal F A := h
theorem loopQ_ret {Z : Fr → List Asn → Prop} (h : Q .ret F A) : loopQ Z Q .ret F A := h
theorem loopQ_exit {Z : Fr → List Asn → Prop} {id : Nat} (h : Q (.exit id) F A) : loopQ Z Q (.exit id) F A := h

/-- A loop: 'x' is the ghost; 'L x' what the slots hold at the head, 'S x' what is owned there, 'φ x' what is known. -/
theorem Wc_loop {α : Type} {c : Code} (L : α → List (Nat × Value)) (S : α → List Asn) (φ : α → Prop) (μ : α → Nat) (x : α)
    (h : φ x) (hF : Mat F (L x)) (hA : Ent A (S x))
    (round : ∀ x G, φ x → Wc P B N c (ov G (L x)) (S x) (loopQ (fun F' A' => ∃ x', φ x' ∧ μ x' < μ x ∧ Mat F' (L x') ∧ Ent A' (S x')) Q)) : Wc P B N (.loop c) F A Q := fun R a w hr hs => by
  refine wp_loop_ghost (fun n a w => ∃ x, μ x = n ∧ φ x ∧ (∃ F, Rep N a F ∧ Mat F (L x)) ∧ Sat B w (R :: S x)) (μ x) ⟨x, rfl, h, ⟨F, hr, hF⟩, hs.entR hA⟩ ?_
  rintro n a w ⟨x, rfl, hx, ⟨F, hr, hF⟩, hs⟩
  have hr' : Rep N a (ov F (L x)) := by rw [← ov_self hF]; exact hr
  refine Code.wp_mono (fun e a' w' ⟨F', A', hr', hs', hq⟩ => ?_) (round x F hx R a w hr' hs)
  cases e with
  | normal => obtain ⟨x', h1, h2, h3, h4⟩ := hq; exact ⟨μ x', h2, x', rfl, h1, ⟨F', hr', h3⟩, hs'.entR h4⟩
  | _ => exact ⟨F', A', hr', hs', hq⟩

/-- The ways through 'c' meet again: what is known behind them is said anew. -/
theorem Wc_cut {α : Type} {c d : Code} (L : α → List (Nat × Value)) (S : α → List Asn) (φ : α → Prop)
    (h1 : Wc P B N c F A (loopQ (fun F' A' => ∃ x, φ x ∧ Mat F' (L x) ∧ Ent A' (S x)) Q))
    (h2 : ∀ x G, φ x → Wc P B N d (ov G (L x)) (S x) Q) : Wc P B N (.seq c d) F A Q := fun R a w hr hs =>
  wp_seq (Code.wp_mono (fun e a' w' ⟨F', A', hr', hs', hq⟩ => by
    cases e with
    | normal =>
      obtain ⟨x, hx, hm, hE⟩ := hq
      exact h2 x F' hx R a' w' (by rw [← ov_self hm]; exact hr') (hs'.entR hE)
    | _ => exact ⟨F', A', hr', hs', hq⟩) (h1 R a w hr hs))

/-- The same, at the part that begins with a region's number. -/
theorem Wc_cutR {α : Type} {k : Nat} {ops : Array Oper} {b : Bool} {c d : Code} (L : α → List (Nat × Value)) (S : α → List Asn) (φ : α → Prop)
    (h1 : Wc P B N (.seq (.region k ops b) c) F A (loopQ (fun F' A' => ∃ x, φ x ∧ Mat F' (L x) ∧ Ent A' (S x)) Q))
    (h2 : ∀ x G, φ x → Wc P B N d (ov G (L x)) (S x) Q) : Wc P B N (.seq (.seq (.region k ops b) c) d) F A Q := Wc_cut L S φ h1 h2

theorem Wc_cutS {α : Type} {k : Nat} {ops : Array Oper} {b : Bool} {d : Code} (L : α → List (Nat × Value)) (S : α → List Asn) (φ : α → Prop)
    (h1 : Wc P B N (.region k ops b) F A (loopQ (fun F' A' => ∃ x, φ x ∧ Mat F' (L x) ∧ Ent A' (S x)) Q))
    (h2 : ∀ x G, φ x → Wc P B N d (ov G (L x)) (S x) Q) : Wc P B N (.seq (.region k ops b) d) F A Q := Wc_cut L S φ h1 h2

theorem Wc_region {id : Nat} {ops : List Oper} (h : ∀ K : Fr → List Asn → Prop, (∀ F A, Q .normal F A → K F A) → Wl P B N none ops ops F A K) :
    Wc P B N (.region id ops.toArray false) F A Q := fun R a w hr hs =>
  wp_region_list (by
    refine wpList_mono ?_ _ _ _ (X_wpList _ _ _ hs.hd (h (fun F A => Q .normal F A) (fun _ _ h => h) R Ent.nil a w hr hs))
    intro e a' w' hq
    cases e with
    | normal => obtain ⟨F', A', h1, h2, h3⟩ := hq; exact ⟨F', A', h1, h2, h3⟩
    | _ => exact hq.elim)
end code

theorem spec_of {P : Program} {B : Base} {f : FuncId} {args : List Value} {A : List Asn} {post : Value → List Asn → Prop} {fn : Func} {c : Code} {N : Nat}
    (hf : P.funcs[f]? = some fn) (hb : fn.body = some c) (hN : fn.ntmps = N) (hlen : Nat.ble args.length N = true)
    (h : Wc P B N c (fr0 args) A (fun e F A' => (e = .normal ∨ e = .ret) ∧ ∃ v A'', Ent A' A'' ∧ (∀ a w R, Rep N a F → Sat B w (R :: A') → (results fn a.tmps).run P w = .ok v w) ∧ post v A'')) :
    Fspec P B f args.toArray A post := fun R w hs => by
  refine calls_of_wp hf hb ?_
  have hl : args.length ≤ N := Nat.le_of_ble_eq_true hlen
  have hr : Rep N { tmps := args.toArray ++ Array.replicate (fn.ntmps - args.toArray.size) undef, defers := [] } (fr0 args) := by
    refine ⟨by simp [hN]; omega, rfl, fun t => ?_⟩
    rw [← fr0_get args (fn.ntmps - args.length) t, show args.toArray ++ Array.replicate (fn.ntmps - args.toArray.size) undef = (args ++ List.replicate (fn.ntmps - args.length) undef).toArray by simp]
  refine Code.wp_mono (fun e a w ⟨F', A', hr', hs', he, v, A'', hE, hres, hp⟩ => ?_) (h R _ w hr hs)
  rcases he with rfl | rfl
  · exact ⟨hr'.defers, v, hres a w R hr' hs', v, A'', rfl, hs'.entR hE, hp⟩
  · exact ⟨hr'.defers, v, hres a w R hr' hs', v, A'', rfl, hs'.entR hE, hp⟩

theorem Fspec.mono {P : Program} {B : Base} {f : FuncId} {args : Array Value} {A : List Asn} {post post' : Value → List Asn → Prop}
    (h : Fspec P B f args A post) (hp : ∀ v A, post v A → post' v A) : Fspec P B f args A post' :=
  fun R w hs => (h R w hs).mono fun _ _ ⟨v, A', he, hs', hq⟩ => ⟨v, A', he, hs', hp _ _ hq⟩
theorem Fspec.ent {P : Program} {B : Base} {f : FuncId} {args : Array Value} {A A' : List Asn} {post : Value → List Asn → Prop}
    (he : Ent A A') (h : Fspec P B f args A' post) : Fspec P B f args A post := fun R w hs => h R w (hs.entR he)

theorem res0 {P : Program} {fn : Func} {N : Nat} {B : Base} {F : Fr} {A : List Asn} (h : fn.results = #[]) :
    ∀ a w R, Rep N a F → Sat B w (R :: A) → (results fn a.tmps).run P w = .ok (.tuple #[]) w := fun a w _ _ _ => results_none h a.tmps P w
theorem res1 {P : Program} {fn : Func} {N : Nat} {B : Base} {F : Fr} {A : List Asn} {t : Nat} {v : Value} (h : fn.results = #[.tmp t]) (hv : F t = v) :
    ∀ a w R, Rep N a F → Sat B w (R :: A) → (results fn a.tmps).run P w = .ok v w := fun a w _ hr _ => by
  rw [results_tmp h a.tmps P w, hr.get t, hv]
theorem res2 {P : Program} {fn : Func} {N : Nat} {B : Base} {F : Fr} {A : List Asn} {t u : Nat} {v x : Value} (h : fn.results = #[.tmp t, .tmp u]) (hv : F t = v) (hx : F u = x) :
    ∀ a w R, Rep N a F → Sat B w (R :: A) → (results fn a.tmps).run P w = .ok (.tuple #[v, x]) w := fun a w _ hr _ => by
  rw [results_tmp2 h a.tmps P w, hr.get t, hr.get u, hv, hx]
theorem res3 {P : Program} {fn : Func} {N : Nat} {B : Base} {F : Fr} {A : List Asn} {t u s : Nat} {v x y : Value} (h : fn.results = #[.tmp t, .tmp u, .tmp s])
    (hv : F t = v) (hx : F u = x) (hy : F s = y) :
    ∀ a w R, Rep N a F → Sat B w (R :: A) → (results fn a.tmps).run P w = .ok (.tuple #[v, x, y]) w := fun a w _ hr _ => by
  have ht := hr.get t; have hu := hr.get u; have hs := hr.get s
  simp only [hv, hx, hy] at ht hu hs
  rw [← ht, ← hu, ← hs]
  simp [results, h]
end Go.Sl
