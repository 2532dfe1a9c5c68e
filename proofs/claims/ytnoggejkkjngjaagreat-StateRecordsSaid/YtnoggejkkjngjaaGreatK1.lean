/- The logic of this work: blocks of the heap are owned by atoms of a list; what lay in the heap ahead of the law's call is a base that nobody writes. No condition. -/
import Derived.WalkKit
namespace Go.Sl
open Go Classical

/-! ### The heap in pieces -/
abbrev Hp := Nat → Option Obj
abbrev Asn := Hp → Prop
structure Base where
  n : Nat
  In : Nat → Prop
  lt : ∀ b, In b → b < n
  H : Nat → Option Obj
  W : World
/-- The streams, the tape and the system are as they were. -/
def Io (w w' : World) : Prop := w'.os = w.os ∧ w'.tape = w.tape ∧ w'.output = w.output
theorem Io.refl (w : World) : Io w w := ⟨rfl, rfl, rfl⟩
theorem Io.trans {u v w : World} (h : Io u v) (k : Io v w) : Io u w := ⟨k.1.trans h.1, k.2.1.trans h.2.1, k.2.2.trans h.2.2⟩

/-- The pieces of a list lie in 'm', apart from each other and from 'U'. -/
def SatL (m : Hp) : List Asn → (Nat → Prop) → Prop
  | [], _ => True
  | a :: L, U => ∃ h : Hp, a h ∧ (∀ b o, h b = some o → m b = some o ∧ ¬ U b) ∧ SatL m L (fun b => U b ∨ ∃ o, h b = some o)

noncomputable def Base.view (B : Base) (w : World) : Hp := fun b => if B.In b then none else w.heap[b]?
structure Sat (B : Base) (w : World) (L : List Asn) : Prop where
  size : B.n ≤ w.heap.size
  io : Io B.W w
  base : ∀ b, B.In b → w.heap[b]? = B.H b
  own : SatL (B.view w) L (fun _ => False)

theorem SatL.mono {m : Hp} : ∀ {L : List Asn} {U V : Nat → Prop}, (∀ b, V b → U b) → SatL m L U → SatL m L V
  | [], _, _, _, _ => trivial
  | _ :: _, _, _, h, ⟨x, hx, hs, hr⟩ => ⟨x, hx, fun b o e => ⟨(hs b o e).1, fun hv => (hs b o e).2 (h b hv)⟩, SatL.mono (fun b hb => hb.imp (h b) id) hr⟩

theorem SatL.perm {m : Hp} {L L' : List Asn} (p : L.Perm L') : ∀ {U : Nat → Prop}, SatL m L U → SatL m L' U := by
  induction p with
  | nil => exact fun h => h
  | cons a _ ih => rintro U ⟨x, hx, hs, hr⟩; exact ⟨x, hx, hs, ih hr⟩
  | swap a b l =>
    rintro U ⟨x, hx, hs, y, hy, ht, hr⟩
    refine ⟨y, hy, fun b o e => ⟨(ht b o e).1, fun hu => (ht b o e).2 (.inl hu)⟩, x, hx, fun b o e => ⟨(hs b o e).1, ?_⟩, hr.mono ?_⟩
    · rintro (hu | ⟨o', e'⟩)
      · exact (hs b o e).2 hu
      · exact (ht b o' e').2 (.inr ⟨o, e⟩)
    · rintro b ((h | h) | h)
      · exact .inl (.inl h)
      · exact .inr h
      · exact .inl (.inr h)
  | trans _ _ ih1 ih2 => exact fun h => ih2 (ih1 h)

theorem Sat.perm {B : Base} {w : World} {L L' : List Asn} (p : L.Perm L') (h : Sat B w L) : Sat B w L' := ⟨h.size, h.io, h.base, h.own.perm p⟩

/-- One list says what another says. -/
def Ent (L L' : List Asn) : Prop := ∀ m U, SatL m L U → SatL m L' U
theorem Ent.refl (L : List Asn) : Ent L L := fun _ _ h => h
theorem Ent.trans {L M N : List Asn} (h : Ent L M) (k : Ent M N) : Ent L N := fun m U x => k m U (h m U x)
theorem Ent.perm {L M : List Asn} (p : L.Perm M) : Ent L M := fun _ _ h => h.perm p
theorem Ent.cons {L M : List Asn} (a : Asn) (h : Ent L M) : Ent (a :: L) (a :: M) := fun m _ ⟨x, hx, hs, hr⟩ => ⟨x, hx, hs, h m _ hr⟩
theorem Ent.drop {L : List Asn} (a : Asn) : Ent (a :: L) L := fun _ _ ⟨_, _, _, hr⟩ => hr.mono fun _ h => .inl h
theorem Sat.ent {B : Base} {w : World} {L L' : List Asn} (p : Ent L L') (h : Sat B w L) : Sat B w L' := ⟨h.size, h.io, h.base, p _ _ h.own⟩
theorem Sat.entR {B : Base} {w : World} {R : Asn} {L L' : List Asn} (p : Ent L L') (h : Sat B w (R :: L)) : Sat B w (R :: L') := h.ent (p.cons R)
theorem Ent.app {L M : List Asn} (K : List Asn) (h : Ent L M) : Ent (K ++ L) (K ++ M) := by
  induction K with
  | nil => exact h
  | cons a _ ih => exact ih.cons a
theorem Ent.appR {L M : List Asn} (K : List Asn) (h : Ent L M) : Ent (L ++ K) (M ++ K) :=
  ((Ent.perm (List.perm_append_comm)).trans (h.app K)).trans (Ent.perm (List.perm_append_comm))
theorem Ent.nil {L : List Asn} : Ent L [] := fun _ _ _ => trivial

/-- One block. -/
def pt (b : Nat) (o : Obj) : Asn := fun h => ∀ x, h x = if x = b then some o else none
/-- A block of cells that nothing has frozen. -/
abbrev cb (b : Nat) (l : List Value) (T : TypeId) : Asn := pt b (.cells l.toArray T (0, 0))
def exA {α : Type} (f : α → Asn) : Asn := fun h => ∃ x, f x h
def puA (φ : Prop) (a : Asn) : Asn := fun h => φ ∧ a h
def lst (L : List Asn) : Asn := fun h => SatL h L (fun _ => False)
def exN {α : Type} (f : α → List Asn) : Asn := fun h => ∃ x, SatL h (f x) (fun _ => False)

theorem SatL.weak {m m' : Hp} (h : ∀ b o, m b = some o → m' b = some o) : ∀ {L : List Asn} {U : Nat → Prop}, SatL m L U → SatL m' L U
  | [], _, _ => trivial
  | _ :: _, _, ⟨x, hx, hs, hr⟩ => ⟨x, hx, fun b o e => ⟨h b o (hs b o e).1, (hs b o e).2⟩, SatL.weak h hr⟩

theorem SatL.split {m h : Hp} : ∀ {L : List Asn} {U V : Nat → Prop}, SatL h L V → (∀ b o, h b = some o → m b = some o ∧ ¬ U b) →
    ∀ {K : List Asn}, SatL m K (fun b => U b ∨ ∃ o, h b = some o) → SatL m (L ++ K) U
  | [], U, _, _, _, _, hk => hk.mono fun _ x => .inl x
  | a :: L, U, V, ⟨x, hx, hs, hr⟩, hm, K, hk => by
    refine ⟨x, hx, fun b o e => hm b o (hs b o e).1, ?_⟩
    have hr' : SatL (fun b => if (∃ o, x b = some o) then none else h b) L (fun _ => False) := by
      have key : ∀ {L : List Asn} {W : Nat → Prop}, (∀ b, (∃ o, x b = some o) → W b) → SatL h L W → SatL (fun b => if (∃ o, x b = some o) then none else h b) L W := by
        intro L
        induction L with
        | nil => exact fun _ _ => trivial
        | cons c L ih =>
          rintro W hW ⟨y, hy, ht, hrest⟩
          refine ⟨y, hy, fun b o e => ⟨?_, (ht b o e).2⟩, ih (fun b hb => .inl (hW b hb)) hrest⟩
          have hno : ¬ ∃ o, x b = some o := fun hb => (ht b o e).2 (hW b hb)
          simp only [if_neg hno]
          exact (ht b o e).1
      exact (key (fun b hb => .inr hb) hr).mono (fun _ f => f.elim)
    refine SatL.split (h := fun b => if (∃ o, x b = some o) then none else h b) (V := fun _ => False) hr' ?_ (hk.mono ?_)
    · intro b o e
      by_cases hb : ∃ o, x b = some o
      · simp [hb] at e
      · simp only [if_neg hb] at e
        exact ⟨(hm b o e).1, fun hu => hu.elim (hm b o e).2 hb⟩
    · rintro b ((h1 | ⟨o, h1⟩) | ⟨o, h1⟩)
      · exact .inl h1
      · exact .inr ⟨o, (hs b o h1).1⟩
      · by_cases hb : ∃ o, x b = some o
        · obtain ⟨o', h2⟩ := hb; exact .inr ⟨o', (hs b o' h2).1⟩
        · simp only [if_neg hb] at h1; exact .inr ⟨o, h1⟩

theorem SatL.join {m : Hp} : ∀ {L K : List Asn} {U : Nat → Prop}, SatL m (L ++ K) U →
    ∃ h : Hp, SatL h L (fun _ => False) ∧ (∀ b o, h b = some o → m b = some o ∧ ¬ U b) ∧ SatL m K (fun b => U b ∨ ∃ o, h b = some o)
  | [], K, U, hk => ⟨fun _ => none, trivial, by simp, hk.mono (by simp)⟩
  | a :: L, K, U, ⟨x, hx, hs, hr⟩ => by
    obtain ⟨h, hL, hm, hK⟩ := SatL.join hr
    refine ⟨fun b => (x b).or (h b), ⟨x, hx, fun b o e => ⟨by simp [e], fun f => f⟩, ?_⟩, ?_, hK.mono ?_⟩
    · have key : ∀ {L : List Asn} {W : Nat → Prop}, SatL h L W → SatL (fun b => (x b).or (h b)) L (fun b => W b ∨ ∃ o, x b = some o) := by
        intro L
        induction L with
        | nil => exact fun _ => trivial
        | cons c L ih =>
          rintro W ⟨y, hy, ht, hrest⟩
          refine ⟨y, hy, fun b o e => ?_, (ih hrest).mono ?_⟩
          · have hh := (ht b o e).1
            have hno : ∀ o', x b ≠ some o' := fun o' e' => (hm b o hh).2 (.inr ⟨o', e'⟩)
            cases hxb : x b with
            | some o' => exact absurd hxb (hno o')
            | none => exact ⟨by simp [hh, hxb], fun hw => hw.elim (ht b o e).2 (by simp [hxb])⟩
          · rintro b ((h1 | h1) | h1)
            · exact .inl (.inl h1)
            · exact .inr h1
            · exact .inl (.inr h1)
      exact (key hL).mono (fun b h => by rcases h with f | h; exact f.elim; exact .inr h)
    · intro b o e
      simp only at e
      cases hxb : x b with
      | some o' => rw [hxb] at e; obtain rfl : o' = o := by simpa using e
                   exact hs b o' hxb
      | none => rw [hxb] at e; have e : h b = some o := by simpa using e
                exact ⟨(hm b o e).1, fun hu => (hm b o e).2 (.inl hu)⟩
    · rintro b (h1 | ⟨o, h1⟩)
      · exact .inl (.inl h1)
      · simp only at h1
        cases hxb : x b with
        | some o' => exact .inl (.inr ⟨o', rfl⟩)
        | none => rw [hxb] at h1; exact .inr ⟨o, by simpa using h1⟩

theorem Ent.lst_open (L K : List Asn) : Ent (lst L :: K) (L ++ K) := fun _ _ ⟨_, hx, hs, hr⟩ => SatL.split hx hs hr
theorem Ent.lst_shut (L K : List Asn) : Ent (L ++ K) (lst L :: K) := fun _ _ h => let ⟨x, hx, hs, hr⟩ := SatL.join h; ⟨x, hx, hs, hr⟩
theorem Ent.exN_shut {α : Type} {f : α → List Asn} (x : α) (K : List Asn) : Ent (f x ++ K) (exN f :: K) :=
  fun _ _ h => let ⟨y, hy, hs, hr⟩ := SatL.join h; ⟨y, ⟨x, hy⟩, hs, hr⟩
theorem SatL.exN_open {α : Type} {f : α → List Asn} {m : Hp} {K : List Asn} {U : Nat → Prop} (h : SatL m (exN f :: K) U) : ∃ x, SatL m (f x ++ K) U :=
  let ⟨_, ⟨x, hx⟩, hs, hr⟩ := h; ⟨x, SatL.split hx hs hr⟩
theorem Ent.exA_shut {α : Type} {f : α → Asn} (x : α) (K : List Asn) : Ent (f x :: K) (exA f :: K) := fun _ _ ⟨y, hy, hs, hr⟩ => ⟨y, ⟨x, hy⟩, hs, hr⟩
theorem SatL.exA_open {α : Type} {f : α → Asn} {m : Hp} {K : List Asn} {U : Nat → Prop} (h : SatL m (exA f :: K) U) : ∃ x, SatL m (f x :: K) U :=
  let ⟨y, ⟨x, hx⟩, hs, hr⟩ := h; ⟨x, y, hx, hs, hr⟩
theorem Ent.puA_shut {φ : Prop} {a : Asn} (hφ : φ) (K : List Asn) : Ent (a :: K) (puA φ a :: K) := fun _ _ ⟨y, hy, hs, hr⟩ => ⟨y, ⟨hφ, hy⟩, hs, hr⟩
theorem SatL.puA_open {φ : Prop} {a : Asn} {m : Hp} {K : List Asn} {U : Nat → Prop} (h : SatL m (puA φ a :: K) U) : φ ∧ SatL m (a :: K) U :=
  let ⟨y, ⟨hφ, hx⟩, hs, hr⟩ := h; ⟨hφ, y, hx, hs, hr⟩
theorem exN_open_sat {B : Base} {w : World} {α : Type} {f : α → List Asn} {R : Asn} {K : List Asn} (h : Sat B w (R :: exN f :: K)) : ∃ x, Sat B w (R :: (f x ++ K)) :=
  let ⟨x, hx⟩ := SatL.exN_open (h.own.perm (.swap ..)); ⟨x, h.size, h.io, h.base, hx.perm List.perm_middle⟩
theorem puA_open_sat {B : Base} {w : World} {φ : Prop} {a : Asn} {R : Asn} {K : List Asn} (h : Sat B w (R :: puA φ a :: K)) : φ ∧ Sat B w (R :: a :: K) :=
  let ⟨hφ, hx⟩ := SatL.puA_open (h.own.perm (.swap ..)); ⟨hφ, h.size, h.io, h.base, hx.perm (.swap ..)⟩

/-! ### Reading, writing, making a block -/
theorem SatL.get {m : Hp} {b : Nat} {o : Obj} : ∀ {L : List Asn} {U : Nat → Prop}, SatL m L U → pt b o ∈ L → m b = some o
  | _ :: _, _, ⟨x, hx, hs, hr⟩, hmem => by
    cases hmem with
    | head => exact (hs b o (by simpa using hx b)).1
    | tail _ h => exact hr.get h

theorem Sat.get {B : Base} {w : World} {L : List Asn} {b : Nat} {o : Obj} (h : Sat B w L) (hm : pt b o ∈ L) : ¬ B.In b ∧ w.heap[b]? = some o := by
  have := h.own.get hm
  unfold Base.view at this
  by_cases hb : B.In b
  · simp [hb] at this
  · simp only [if_neg hb] at this; exact ⟨hb, this⟩

theorem SatL.put {m m' : Hp} {b : Nat} {o o' : Obj} {L : List Asn} {U : Nat → Prop} (hne : ∀ x, x ≠ b → m' x = m x) (hb : m' b = some o')
    (h : SatL m (pt b o :: L) U) : SatL m' (pt b o' :: L) U := by
  obtain ⟨x, hx, hs, hr⟩ := h
  refine ⟨fun y => if y = b then some o' else none, fun y => rfl, ?_, ?_⟩
  · intro y p e
    by_cases hy : y = b
    · subst hy; simp only [if_true] at e; obtain rfl : o' = p := by simpa using e
      exact ⟨hb, (hs y o (by simpa using hx y)).2⟩
    · simp [hy] at e
  · have key : ∀ {L : List Asn} {W : Nat → Prop}, W b → SatL m L W → SatL m' L W := by
      intro L
      induction L with
      | nil => exact fun _ _ => trivial
      | cons c L ih =>
        rintro W hW ⟨y, hy, ht, hrest⟩
        refine ⟨y, hy, fun z p e => ⟨?_, (ht z p e).2⟩, ih (.inl hW) hrest⟩
        have hz : z ≠ b := fun e' => (ht z p e).2 (e' ▸ hW)
        rw [hne z hz]; exact (ht z p e).1
    refine (key (.inr ⟨o, by simpa using hx b⟩) hr).mono ?_
    rintro y (h1 | ⟨p, h1⟩)
    · exact .inl h1
    · right
      by_cases hy : y = b
      · exact ⟨o, by have := hx y; simpa [hy] using this⟩
      · simp [hy] at h1

theorem Sat.put {B : Base} {w w' : World} {b : Nat} {o o' : Obj} {L : List Asn} (hio : Io w w') (hsz : w.heap.size = w'.heap.size) (hne : ∀ x, x ≠ b → w'.heap[x]? = w.heap[x]?)
    (hb : w'.heap[b]? = some o') (h : Sat B w (pt b o :: L)) : Sat B w' (pt b o' :: L) := by
  have hg := (h.get (List.mem_cons_self ..)).1
  refine ⟨by have := h.size; omega, h.io.trans hio, fun x hx => by rw [hne x (fun e : x = b => hg (by rw [← e]; exact hx))]; exact h.base x hx, h.own.put (b := b) (o := o) ?_ ?_⟩
  · intro x hx; unfold Base.view; split
    · rfl
    · exact hne x hx
  · unfold Base.view; rw [if_neg hg]; exact hb

theorem SatL.dom {m : Hp} {m' : Hp} {b : Nat} (hb : m b = none) (hle : ∀ x o, m x = some o → m' x = some o) : ∀ {L : List Asn} {U : Nat → Prop}, SatL m L U → SatL m' L (fun x => U x ∨ x = b)
  | [], _, _ => trivial
  | _ :: _, U, ⟨x, hx, hs, hr⟩ => by
    refine ⟨x, hx, fun c o e => ⟨hle c o (hs c o e).1, fun hu => hu.elim (hs c o e).2 fun hc => ?_⟩, (SatL.dom hb hle hr).mono ?_⟩
    · subst hc; have := (hs c o e).1; rw [hb] at this; simp at this
    · rintro y ((h | h) | h)
      · exact .inl (.inl h)
      · exact .inr h
      · exact .inl (.inr h)

theorem Sat.push {B : Base} {w w' : World} {o : Obj} {L : List Asn} (hio : Io w w') (hw : w'.heap = w.heap.push o) (h : Sat B w L) : Sat B w' (pt w.heap.size o :: L) := by
  have hsz := h.size
  have hni : ¬ B.In w.heap.size := fun e => by have := B.lt _ e; omega
  refine ⟨by rw [hw]; simp; omega, h.io.trans hio, fun b hb => ?_, fun x => if x = w.heap.size then some o else none, fun x => rfl, ?_, ?_⟩
  · rw [hw, Array.getElem?_push, if_neg (fun e : b = w.heap.size => hni (by rw [← e]; exact hb))]; exact h.base b hb
  · intro x p e
    by_cases hx : x = w.heap.size
    · subst hx; simp only [if_true] at e; obtain rfl : o = p := by simpa using e
      refine ⟨?_, fun f => f⟩
      unfold Base.view; rw [if_neg hni, hw]; simp
    · simp [hx] at e
  · refine (SatL.dom (m := B.view w) (b := w.heap.size) ?_ ?_ h.own).mono ?_
    · unfold Base.view; split
      · rfl
      · simp
    · intro x p e
      unfold Base.view at *
      split at e
      · cases e
      · rename_i hx
        rw [if_neg hx, hw, Array.getElem?_push]
        have : x < w.heap.size := (Array.getElem?_eq_some_iff.1 e).1
        rw [if_neg (by omega)]; exact e
    · rintro x (h1 | ⟨p, h1⟩)
      · exact h1.elim
      · right
        by_cases hx : x = w.heap.size
        · exact hx
        · simp [hx] at h1

/-- The heap alone counts. -/
theorem Sat.heap {B : Base} {w w' : World} {L : List Asn} (hio : Io w w') (hw : w'.heap = w.heap) (h : Sat B w L) : Sat B w' L := by
  refine ⟨by rw [hw]; exact h.size, h.io.trans hio, by rw [hw]; exact h.base, ?_⟩
  have : B.view w' = B.view w := by funext b; unfold Base.view; rw [hw]
  rw [this]; exact h.own

end Go.Sl
