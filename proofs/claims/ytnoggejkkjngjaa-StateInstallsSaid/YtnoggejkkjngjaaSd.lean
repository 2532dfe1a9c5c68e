/- A region that draws its order: where what is not ordered does not touch, the text's own order speaks for all. No condition. -/
import Derived.Test.YtnoggejkkjngjaaSa
set_option linter.unusedVariables false
namespace Go.Sl
open Go
section draw
variable {P : Program} {ops : Array Oper} {Inv : World → Prop} {fm : Fm}

theorem wp_putE {oj : Oper} {dst : Option Tmp} {v : Value} {a : Act} {w : World} {K : Act → World → Prop} (hs : ∀ cs b, oj.op ≠ .select cs b)
    (h1 : ∀ d, dst = some d → d ∉ oj.looksAt ops) (h2 : ∀ d, dst = some d → oj.dst ≠ some d) :
    oj.wpY P (a.put dst v) w K noQ ↔ oj.wpY P a w (fun a' w' => K (a'.put dst v) w') noQ := by
  unfold Oper.wpY
  rw [execOp_put oj hs a dst v h1]
  generalize (execOp a.eval oj).run P w = r
  cases r with
  | ok n w' =>
    cases n <;> simp only [Oper.upY]
    case value u => rw [Act.put_comm a v u h2]
    case skip => rw [Act.put_comm a v undef h2]
    case enter f args =>
      constructor
      · intro h
        refine Calls.mono h fun e w'' he => ?_
        cases e with
        | returned u => simp only at he ⊢; rw [← Act.put_comm a v u h2]; exact he
        | panicked c => exact he
        | outgrown => exact he
      · intro h
        refine Calls.mono h fun e w'' he => ?_
        cases e with
        | returned u => simp only at he ⊢; rw [Act.put_comm a v u h2]; exact he
        | panicked c => exact he
        | outgrown => exact he
    case round l f tmps as bd =>
      constructor
      · intro h
        refine RoundIn.mono h fun e w'' he => ?_
        cases e with
        | returned u => simp only at he ⊢; rw [← Act.put_comm a v u h2]; exact he
        | panicked c => exact he
        | outgrown => exact he
      · intro h
        refine RoundIn.mono h fun e w'' he => ?_
        cases e with
        | returned u => simp only at he ⊢; rw [Act.put_comm a v u h2]; exact he
        | panicked c => exact he
        | outgrown => exact he
  | halt x w' => cases x <;> simp only [Oper.upY] <;> exact Iff.rfl

/-- What an operation leaves of the frame: its own slot is turned, and the list of deferred calls perhaps. -/
theorem wp_shape {oj : Oper} {a : Act} {w : World} {K : Act → World → Prop} (h : oj.wpY P a w K noQ) :
    oj.wpY P a w (fun a' w' => (∃ u ds, a' = ({ a with defers := ds } : Act).put oj.dst u) ∧ K a' w') noQ := by
  unfold Oper.wpY at *
  generalize (execOp a.eval oj).run P w = r at *
  cases r with
  | ok n w' =>
    cases n <;> simp only [Oper.upY] at h ⊢
    case value u => exact ⟨⟨u, a.defers, rfl⟩, h⟩
    case skip => exact ⟨⟨undef, a.defers, rfl⟩, h⟩
    case enter f args =>
      refine Calls.mono h fun e w'' he => ?_
      cases e with
      | returned u => exact ⟨⟨u, a.defers, rfl⟩, he⟩
      | panicked c => exact he
      | outgrown => obtain ⟨_, _, h⟩ := he; exact h.elim
    case round l f tmps as bd =>
      refine RoundIn.mono h fun e w'' he => ?_
      cases e with
      | returned u => exact ⟨⟨u, a.defers, rfl⟩, he⟩
      | panicked c => exact he
      | outgrown => obtain ⟨_, _, h⟩ := he; exact h.elim
  | halt x w' => cases x <;> simp only [Oper.upY] at h ⊢ <;> exact h

theorem wp_exists {oj : Oper} {a : Act} {w : World} {K : Act → World → Prop} (h : oj.wpY P a w K noQ) : ∃ a' w', K a' w' := by
  unfold Oper.wpY at *
  generalize (execOp a.eval oj).run P w = r at *
  cases r with
  | ok n w' =>
    cases n <;> simp only [Oper.upY] at h
    case value u => exact ⟨_, _, h⟩
    case skip => exact ⟨_, _, h⟩
    case enter f args =>
      obtain ⟨e, w'', fr, he, _⟩ := h []
      cases e with
      | returned u => exact ⟨_, _, he⟩
      | panicked c => exact he.elim
      | outgrown => obtain ⟨_, _, h⟩ := he; exact h.elim
    case round l f tmps as bd =>
      obtain ⟨e, w'', he, _⟩ := h.2 default [] (room_wide _)
      cases e with
      | returned u => exact ⟨_, _, he⟩
      | panicked c => exact he.elim
      | outgrown => obtain ⟨_, _, h⟩ := he; exact h.elim
  | halt x w' => cases x <;> simp only [Oper.upY] at h <;> exact h.elim

theorem wp_monoN {o : Oper} {a : Act} {w : World} {K K' : Act → World → Prop} (hk : ∀ a w, K a w → K' a w) (h : o.wpY P a w K noQ) : o.wpY P a w K' noQ :=
  wpOper_mono hk (fun _ _ _ _ h => h) h

def Stepable (fm : Fm) (x i : Oper) : Prop := kindB fm x.dst x.op = 0 ∨ kindB fm i.dst i.op = 0 ∨ (kindB fm x.dst x.op = 1 ∧ (kindB fm i.dst i.op = 1 ∨ kindB fm i.dst i.op = 3))

theorem eval_defers (a : Act) (ds : List Deferred) : ({ a with defers := ds } : Act).eval = a.eval := by funext x; cases x <;> rfl

theorem stepX_iff {o : Oper} {K : Act → World → Prop} {a : Act} {w : World} (hw : Region.wanted o (yielded ops a.tmps) = true) :
    stepX P ops Inv fm o K a w ↔ kstep P Inv (kindB fm o.dst o.op) o K a w := by unfold stepX; rw [if_pos hw]
theorem stepX_no {o : Oper} {K : Act → World → Prop} {a : Act} {w : World} (hw : Region.wanted o (yielded ops a.tmps) = false) :
    stepX P ops Inv fm o K a w ↔ K (a.put o.dst undef) w := by unfold stepX; rw [if_neg (by simp [hw])]
theorem kstep2 {k : Nat} {o : Oper} {K : Act → World → Prop} {a : Act} {w : World} (h0 : k ≠ 0) (h1 : k ≠ 1) : kstep P Inv k o K a w ↔ o.wpY P a w (fun a' w' => Inv w' ∧ (k = 3 → Ext w w') ∧ K a' w') noQ := by
  unfold kstep
  split
  · exact absurd rfl h0
  · exact absurd rfl h1
  · exact Iff.rfl
theorem stepX_mono {o : Oper} {K K' : Act → World → Prop} {a : Act} {w : World} (hI : Inv w) (hk : ∀ a w, Inv w → K a w → K' a w) (h : stepX P ops Inv fm o K a w) : stepX P ops Inv fm o K' a w := by
  unfold stepX at *
  split
  · rename_i hw
    rw [if_pos hw] at h
    unfold kstep at *
    split at h
    · obtain ⟨v, h1, h2⟩ := h; exact ⟨v, h1, hk _ _ hI h2⟩
    · obtain ⟨v, h1, h2⟩ := h; exact ⟨v, h1, hk _ _ hI h2⟩
    · exact wp_monoN (fun a w h => ⟨h.1, h.2.1, hk _ _ h.1 h.2.2⟩) h
  · rename_i hw; rw [if_neg hw] at h; exact hk _ _ hI h

/-- A slot that an operation does not look at can be turned before it or behind it. -/
theorem stepX_put {o : Oper} {dst : Option Tmp} {v : Value} {K : Act → World → Prop} {a : Act} {w : World} (hs : ∀ cs b, o.op ≠ .select cs b)
    (h1 : ∀ d, dst = some d → d ∉ o.looksAt ops) (h2 : ∀ d, dst = some d → o.dst ≠ some d) :
    stepX P ops Inv fm o K (a.put dst v) w ↔ stepX P ops Inv fm o (fun a' w' => K (a'.put dst v) w') a w := by
  have hwp := wanted_put (ops := ops) o a dst v h1
  cases hw : Region.wanted o (yielded ops a.tmps) with
  | false => rw [stepX_no (by rw [hwp]; exact hw), stepX_no hw, Act.put_comm a v undef h2]
  | true =>
    rw [stepX_iff (by rw [hwp]; exact hw), stepX_iff hw]
    unfold kstep
    split
    · simp only [execOp_put o hs a dst v h1, Act.put_comm a v _ h2]
    · simp only [execOp_put o hs a dst v h1, Act.put_comm a v _ h2]
    · exact wp_putE hs h1 h2

def Shape (o : Oper) (a a' : Act) : Prop := ∃ u ds, a' = ({ a with defers := ds } : Act).put o.dst u
theorem stepX_shape {o : Oper} {K : Act → World → Prop} {a : Act} {w : World} (h : stepX P ops Inv fm o K a w) : stepX P ops Inv fm o (fun a' w' => Shape o a a' ∧ K a' w') a w := by
  unfold stepX at *
  split
  · rename_i hw
    rw [if_pos hw] at h
    unfold kstep at *
    split at h
    · obtain ⟨v, h1, h2⟩ := h; exact ⟨v, h1, ⟨v, a.defers, rfl⟩, h2⟩
    · obtain ⟨v, h1, h2⟩ := h; exact ⟨v, h1, ⟨v, a.defers, rfl⟩, h2⟩
    · exact wp_monoN (fun a w h => ⟨h.2.1, h.2.2.1, h.1, h.2.2.2⟩) (wp_shape h)
  · rename_i hw; rw [if_neg hw] at h; exact ⟨⟨undef, a.defers, rfl⟩, h⟩
theorem stepX_still {o : Oper} {K : Act → World → Prop} {a : Act} {w : World} (hk : kindB fm o.dst o.op = 0 ∨ kindB fm o.dst o.op = 1 ∨ kindB fm o.dst o.op = 3) (h : stepX P ops Inv fm o K a w) :
    stepX P ops Inv fm o (fun a' w' => Ext w w' ∧ K a' w') a w := by
  unfold stepX at *
  split
  · rename_i hw
    rw [if_pos hw] at h
    rcases hk with hk | hk | hk
    · rw [hk] at h ⊢; obtain ⟨v, h1, h2⟩ := h; exact ⟨v, h1, Ext.refl w, h2⟩
    · rw [hk] at h ⊢; obtain ⟨v, h1, h2⟩ := h; exact ⟨v, h1, Ext.refl w, h2⟩
    · rw [hk] at h ⊢
      exact wp_monoN (fun a' w' (h : Inv w' ∧ (3 = 3 → Ext w w') ∧ K a' w') => ⟨h.1, h.2.1, h.2.1 rfl, h.2.2⟩) h
  · rename_i hw; rw [if_neg hw] at h; exact ⟨Ext.refl w, h⟩
/-- Behind an operation whose slot 'x' does not look at, 'x' does as before. -/
theorem shape_same {x o : Oper} {a a' : Act} (hsx : ∀ cs b, x.op ≠ .select cs b) (h1 : ∀ d, o.dst = some d → d ∉ x.looksAt ops) (h : Shape o a a') :
    execOp a'.eval x = execOp a.eval x ∧ Region.wanted x (yielded ops a'.tmps) = Region.wanted x (yielded ops a.tmps) := by
  obtain ⟨u, ds, rfl⟩ := h
  refine ⟨?_, ?_⟩
  · rw [execOp_put x hsx { a with defers := ds } o.dst u h1, eval_defers]
  · rw [wanted_put (ops := ops) x { a with defers := ds } o.dst u h1]

theorem swap {x i : Oper} {K : Act → World → Prop} {a : Act} {w : World} (hI : Inv w) (hsx : ∀ cs b, x.op ≠ .select cs b) (hsi : ∀ cs b, i.op ≠ .select cs b) (hap : x.apart ops i = true)
    (hk : Stepable fm x i) (h : stepX P ops Inv fm x (stepX P ops Inv fm i K) a w) : stepX P ops Inv fm i (stepX P ops Inv fm x K) a w := by
  obtain ⟨a1, a2, a3⟩ := Oper.apart_spec hap
  have a2' : ∀ d, i.dst = some d → x.dst ≠ some d := fun d hd e => a2 d e hd
  cases hwx : Region.wanted x (yielded ops a.tmps) with
  | false =>
    rw [stepX_no hwx, stepX_put hsi a1 a2] at h
    refine stepX_mono hI ?_ (stepX_shape h)
    rintro a' w' _ ⟨hsh, hk⟩
    rw [stepX_no (by rw [(shape_same hsx a3 hsh).2]; exact hwx)]
    exact hk
  | true =>
    rw [stepX_iff hwx] at h
    by_cases k0 : kindB fm x.dst x.op = 0
    · rw [k0] at h
      obtain ⟨v, hv, h⟩ := h
      rw [stepX_put hsi a1 a2] at h
      refine stepX_mono hI ?_ (stepX_shape h)
      rintro a' w' _ ⟨hsh, hk⟩
      rw [stepX_iff (by rw [(shape_same hsx a3 hsh).2]; exact hwx), k0]
      exact ⟨v, fun w hi => by rw [(shape_same hsx a3 hsh).1]; exact hv w hi, hk⟩
    · by_cases k1 : kindB fm x.dst x.op = 1
      · rw [k1] at h
        obtain ⟨v, hv, h⟩ := h
        rw [stepX_put hsi a1 a2] at h
        have hki : kindB fm i.dst i.op = 0 ∨ kindB fm i.dst i.op = 1 ∨ kindB fm i.dst i.op = 3 := by rcases hk with h | h | h <;> omega
        refine stepX_mono hI ?_ (stepX_shape (stepX_still hki h))
        rintro a' w' _ ⟨hsh, hext, hk⟩
        rw [stepX_iff (by rw [(shape_same hsx a3 hsh).2]; exact hwx), k1]
        exact ⟨v, fun w'' he => by rw [(shape_same hsx a3 hsh).1]; exact hv w'' (hext.trans he), hk⟩
      · rw [kstep2 k0 k1] at h
        have ki : kindB fm i.dst i.op = 0 := by rcases hk with h | h | h <;> omega
        have h' := wp_shape h
        cases hwi : Region.wanted i (yielded ops a.tmps) with
        | false =>
          rw [stepX_no hwi, stepX_iff (by rw [wanted_put (ops := ops) x a i.dst undef a3]; exact hwx), kstep2 k0 k1, wp_putE hsx a3 a2']
          refine wp_monoN ?_ h'
          rintro a' w' ⟨hsh, hi', he, hk⟩
          rw [stepX_no (by rw [(shape_same hsi a1 hsh).2]; exact hwi)] at hk
          exact ⟨hi', he, hk⟩
        | true =>
          obtain ⟨a0, w0, hsh0, _, _, hk0⟩ := wp_exists h'
          rw [stepX_iff (by rw [(shape_same hsi a1 hsh0).2]; exact hwi), ki] at hk0
          obtain ⟨v, hv, _⟩ := hk0
          rw [(shape_same hsi a1 hsh0).1] at hv
          rw [stepX_iff hwi, ki]
          refine ⟨v, hv, ?_⟩
          rw [stepX_iff (by rw [wanted_put (ops := ops) x a i.dst v a3]; exact hwx), kstep2 k0 k1, wp_putE hsx a3 a2']
          refine wp_monoN ?_ h'
          rintro a' w' ⟨hsh, hi', he, hk⟩
          rw [stepX_iff (by rw [(shape_same hsi a1 hsh).2]; exact hwi), ki] at hk
          obtain ⟨v', hv', hk⟩ := hk
          rw [(shape_same hsi a1 hsh).1] at hv'
          have : v' = v := by
            have e := (hv' w hI).symm.trans (hv w hI)
            simpa using e
          subst this
          exact ⟨hi', he, hk⟩

/-! ### Orders -/
/-- Is 'x' ahead of 'i', by the edges that bind? -/
def anc (ops : Array Oper) : Nat → Nat → Nat → Bool
  | 0, _, _ => false
  | k + 1, x, i => match ops[i]? with
    | some o => o.after.toList.any fun e => Region.binds .any e && (e.on == x || anc ops k x e.on)
    | none => false
def isSelect : Op → Bool
  | .select _ _ => true
  | _ => false
def stepableB (fm : Fm) (x i : Oper) : Bool := kindB fm x.dst x.op == 0 || kindB fm i.dst i.op == 0 || (kindB fm x.dst x.op == 1 && (kindB fm i.dst i.op == 1 || kindB fm i.dst i.op == 3))
/-- The text's own order speaks for all: pairs that are not ordered are apart and do not touch; edges that bind go back. -/
def drawOk (fm : Fm) (ops : Array Oper) : Bool :=
  (ops.toList.all fun o => !isSelect o.op) &&
  ((List.range ops.size).all fun i => match ops[i]? with | some o => o.after.toList.all fun e => !Region.binds .any e || decide (e.on < i) | none => true) &&
  ((List.range ops.size).all fun i => (List.range i).all fun x => anc ops ops.size x i ||
    (match ops[x]?, ops[i]? with | some ox, some oi => ox.apart ops oi && stepableB fm ox oi | _, _ => true))

def Xi (P : Program) (ops : Array Oper) (Inv : World → Prop) (fm : Fm) (K : Act → World → Prop) : List Nat → Act → World → Prop
  | [] => K
  | i :: rest => match ops[i]? with
    | some o => stepX P ops Inv fm o (Xi P ops Inv fm K rest)
    | none => Xi P ops Inv fm K rest

theorem Xi_X {K : Act → World → Prop} : ∀ (l : List Oper) (k : Nat), (∀ j, l[j]? = ops[k + j]?) → Xi P ops Inv fm K (List.range' k l.length) = X P ops Inv fm K l
  | [], k, _ => rfl
  | o :: l, k, h => by
    have h0 : ops[k]? = some o := by simpa using (h 0).symm
    have ih := Xi_X (K := K) l (k + 1) (fun j => by have := h (j + 1); simpa [Nat.add_assoc, Nat.add_comm 1 j] using this)
    simp only [List.length_cons, List.range'_succ, Xi, h0, X, ih]

theorem wpOp_of_step {ro : Option Nat} {i : Nat} {o : Oper} {K : Act → World → Prop} {Q : Exit → Act → World → Prop} {a : Act} {w : World} (hI : Inv w) (hi : ops[i]? = some o) (h : stepX P ops Inv fm o K a w) :
    wpOpIn (fen ro) 0 P ops Q i (fun a' w' => Inv w' ∧ K a' w') a w := by
  unfold wpOpIn
  simp only [hi]
  unfold stepX at h
  split
  · rename_i hw
    rw [if_pos hw] at h
    unfold kstep at h
    split at h
    · obtain ⟨v, hv, hk⟩ := h; refine wpY_in (show o.wpY P a w _ noQ from ?_); unfold Oper.wpY; rw [hv w hI, Oper.upY_value]; exact ⟨hI, hk⟩
    · obtain ⟨v, hv, hk⟩ := h; refine wpY_in (show o.wpY P a w _ noQ from ?_); unfold Oper.wpY; rw [hv w (Ext.refl w), Oper.upY_value]; exact ⟨hI, hk⟩
    · exact wpY_in (wpOper_mono (fun _ _ h => ⟨h.1, h.2.2⟩) (fun _ _ _ _ h => h) h)
  · rename_i hw; rw [if_neg hw] at h; exact ⟨fun _ _ => trivial, hI, h⟩

theorem Xi_front (hsel : ∀ o ∈ ops.toList, isSelect o.op = false) {K : Act → World → Prop} {i : Nat} : ∀ (L1 L2 : List Nat),
    (∀ x ∈ L1, ∀ ox oi, ops[x]? = some ox → ops[i]? = some oi → ox.apart ops oi = true ∧ Stepable fm ox oi) →
    ∀ a w, Inv w → Xi P ops Inv fm K (L1 ++ i :: L2) a w → Xi P ops Inv fm K (i :: (L1 ++ L2)) a w
  | [], L2, _, a, w, _, h => h
  | x :: L1, L2, hp, a, w, hI, h => by
    have ih := Xi_front hsel (K := K) (i := i) L1 L2 (fun y hy => hp y (List.mem_cons_of_mem _ hy))
    have nosel : ∀ (j : Nat) (o : Oper), ops[j]? = some o → ∀ cs b, o.op ≠ .select cs b := fun j o ho cs b e => by
      have := hsel o (by have := Array.mem_of_getElem? ho; simpa using this)
      rw [e] at this; cases this
    cases hx : ops[x]? with
    | none =>
      have h' : Xi P ops Inv fm K (L1 ++ i :: L2) a w := by simpa [Xi, hx] using h
      have := ih a w hI h'
      cases hi : ops[i]? with
      | none => simpa [Xi, hx, hi] using this
      | some oi => simpa [Xi, hx, hi] using this
    | some ox =>
      have h' : stepX P ops Inv fm ox (Xi P ops Inv fm K (L1 ++ i :: L2)) a w := by simpa [Xi, hx] using h
      have h2 := stepX_mono hI (fun a w hi => ih a w hi) h'
      cases hi : ops[i]? with
      | none => simpa [Xi, hx, hi] using h2
      | some oi =>
        obtain ⟨q1, q2⟩ := hp x (List.mem_cons_self ..) ox oi hx hi
        have h3 : stepX P ops Inv fm ox (stepX P ops Inv fm oi (Xi P ops Inv fm K (L1 ++ L2))) a w := by simpa [Xi, hi] using h2
        have h4 := swap hI (nosel x ox hx) (nosel i oi hi) q1 q2 h3
        simpa [Xi, hx, hi] using h4

theorem anc_inv {k x i : Nat} (h : anc ops (k + 1) x i = true) : ∃ o e, ops[i]? = some o ∧ e ∈ o.after ∧ Region.binds .any e = true ∧ (e.on = x ∨ anc ops k x e.on = true) := by
  unfold anc at h
  split at h
  · rename_i o ho
    obtain ⟨e, he, hh⟩ := List.any_eq_true.1 h
    simp only [Bool.and_eq_true, Bool.or_eq_true, beq_iff_eq] at hh
    exact ⟨o, e, ho, by simpa using he, hh.1, hh.2⟩
  · cases h

theorem draw_any {ro : Option Nat} (hok : drawOk fm ops = true) {K : Act → World → Prop} : ∀ (fuel : Nat) (listed : Array Bool) (L : List Nat), listed.size = ops.size →
    (∀ j, j ∈ L ↔ (j < ops.size ∧ listed.getD j true = false)) → L.Pairwise (· < ·) →
    (∀ i, listed.getD i false = true → ∀ k x, anc ops k x i = true → listed.getD x false = true) → L.length ≤ fuel →
    ∀ a w, Inv w → Xi P ops Inv fm K L a w → wpAnyIn (fen ro) 0 P .any ops (onlyN K) fuel listed a w := by
  simp only [drawOk, Bool.and_eq_true] at hok
  obtain ⟨⟨hsel, hback⟩, hpair⟩ := hok
  have hsel' : ∀ o ∈ ops.toList, isSelect o.op = false := fun o ho => by simpa using List.all_eq_true.1 hsel o ho
  have hback' : ∀ i o, ops[i]? = some o → ∀ e ∈ o.after, Region.binds .any e = true → e.on < i := fun i o hi e he hb => by
    have hlt : i < ops.size := (Array.getElem?_eq_some_iff.1 hi).1
    have := List.all_eq_true.1 hback i (by simpa using hlt)
    rw [hi] at this
    have := List.all_eq_true.1 this e (by simpa using he)
    simpa [hb] using this
  have hpair' : ∀ x i, x < i → anc ops ops.size x i = false → ∀ ox oi, ops[x]? = some ox → ops[i]? = some oi → ox.apart ops oi = true ∧ Stepable fm ox oi := fun x i hxi hn ox oi hx hi => by
    have hlt : i < ops.size := (Array.getElem?_eq_some_iff.1 hi).1
    have h1 := List.all_eq_true.1 (List.all_eq_true.1 hpair i (by simpa using hlt)) x (by simpa using hxi)
    rw [hn, hx, hi] at h1
    simp only [Bool.false_or, Bool.and_eq_true, stepableB, Bool.or_eq_true, beq_iff_eq] at h1
    refine ⟨h1.1, ?_⟩
    rcases h1.2 with (h | h) | h
    · exact .inl h
    · exact .inr (.inl h)
    · exact .inr (.inr h)
  have gd : ∀ (l : Array Bool) (j : Nat), j < l.size → (l.getD j true = false ↔ ¬ l.getD j false = true) := fun l j hj => by
    simp [Array.getD, hj]
  intro fuel
  induction fuel with
  | zero =>
    intro listed L hsz hL hP hD hlen a w hI h
    obtain rfl : L = [] := List.length_eq_zero_iff.1 (by omega)
    refine ⟨?_, h⟩
    cases hr : Region.ready .any ops listed with
    | nil => rfl
    | cons j js =>
      have hj : j ∈ Region.ready .any ops listed := by rw [hr]; exact List.mem_cons_self ..
      obtain ⟨h0, o, ho, _⟩ := mem_ready.1 hj
      have := (hL j).2 ⟨(Array.getElem?_eq_some_iff.1 ho).1, h0⟩
      cases this
  | succ fuel ih =>
    intro listed L hsz hL hP hD hlen a w hI h
    refine ⟨fun hr => ?_, fun j hj => ?_⟩
    · cases L with
      | nil => exact h
      | cons m L =>
        exfalso
        have hm := (hL m).1 (List.mem_cons_self ..)
        have : m ∈ Region.ready .any ops listed := by
          refine mem_ready.2 ⟨hm.2, ops[m]'hm.1, by simp [hm.1], fun e he hb => ?_⟩
          have hlt := hback' m _ (by simp [hm.1]) e he hb
          rcases Bool.eq_false_or_eq_true (listed.getD e.on false) with h1 | h1
          · exact h1
          · exfalso
            have hin : e.on ∈ m :: L := (hL e.on).2 ⟨by omega, (gd listed e.on (by omega)).2 (by simp [h1])⟩
            rcases List.mem_cons.1 hin with h2 | h2
            · omega
            · have := (List.pairwise_cons.1 hP).1 _ h2; omega
        rw [hr] at this; cases this
    · obtain ⟨h0, oj, hoj, hall⟩ := mem_ready.1 hj
      have hjlt : j < ops.size := (Array.getElem?_eq_some_iff.1 hoj).1
      have hjL : j ∈ L := (hL j).2 ⟨hjlt, h0⟩
      obtain ⟨L1, L2, rfl⟩ := List.append_of_mem hjL
      -- all that is ahead of 'j' by edges is listed
      have hanc : ∀ k x, anc ops k x j = true → listed.getD x false = true := by
        intro k x hx
        cases k with
        | zero => cases hx
        | succ k =>
          obtain ⟨o, e, ho, he, hb, h1⟩ := anc_inv hx
          rw [hoj] at ho; obtain rfl := Option.some.inj ho
          have hl := hall e he hb
          rcases h1 with h1 | h1
          · rw [← h1]; exact hl
          · exact hD _ hl k x h1
      have hP1 := List.pairwise_append.1 hP
      have hfront := Xi_front hsel' (P := P) (Inv := Inv) (fm := fm) (K := K) (i := j) L1 L2 (fun x hx ox oi hox hoi => by
        have hxj : x < j := hP1.2.2 x hx j (List.mem_cons_self ..)
        have hxL := (hL x).1 (List.mem_append_left _ hx)
        refine hpair' x j hxj ?_ ox oi hox hoi
        rcases Bool.eq_false_or_eq_true (anc ops ops.size x j) with h1 | h1
        · have := hanc _ x h1
          exact absurd this ((gd listed x (by omega)).1 hxL.2)
        · exact h1) a w hI h
      have hst : stepX P ops Inv fm oj (Xi P ops Inv fm K (L1 ++ L2)) a w := by simpa [Xi, hoj] using hfront
      refine wpOpIn_mono (fun a w hx => ?_) (wpOp_of_step hI hoj hst)
      have hnd : ∀ x, x ∈ L1 ++ L2 → x ≠ j := by
        intro x hx
        rcases List.mem_append.1 hx with h1 | h1
        · have := hP1.2.2 x h1 j (List.mem_cons_self ..); omega
        · have := (List.pairwise_cons.1 hP1.2.1).1 x h1; omega
      refine ih (listed.setIfInBounds j true) (L1 ++ L2) (by simpa using hsz) ?_ ?_ ?_ (by simp at hlen ⊢; omega) a w hx.1 hx.2
      · intro x
        by_cases hxj : x = j
        · subst hxj
          constructor
          · intro hx; exact absurd rfl (hnd x hx)
          · rintro ⟨_, hx⟩
            simp [Array.getD, hsz, hjlt] at hx
        · rw [getD_set_ne true (Ne.symm hxj), ← hL x]
          simp [hxj]
      · refine List.pairwise_append.2 ⟨hP1.1, (List.pairwise_cons.1 hP1.2.1).2, fun x hx y hy => hP1.2.2 x hx y (List.mem_cons_of_mem _ hy)⟩
      · intro i hi k x hx
        by_cases hij : i = j
        · subst hij; exact getD_set_true (hanc k x hx)
        · rw [getD_set_ne false (Ne.symm hij)] at hi
          exact getD_set_true (hD i hi k x hx)
end draw

theorem wpAny_monoQ {P : Program} {ops : Array Oper} {Q Q' : Exit → Act → World → Prop} {ro : Option Nat} (hq : ∀ e a w, Q e a w → Q' e a w) :
    ∀ (fuel : Nat) (listed : Array Bool) (a : Act) (w : World), wpAnyIn (fen ro) 0 P .any ops Q fuel listed a w → wpAnyIn (fen ro) 0 P .any ops Q' fuel listed a w
  | 0, _, _, _, h => ⟨h.1, hq _ _ _ h.2⟩
  | fuel + 1, listed, a, w, h => by
    refine ⟨fun hr => hq _ _ _ (h.1 hr), fun i hi => ?_⟩
    have h1 := h.2 i hi
    unfold wpOpIn at *
    split
    · rename_i hn; rw [hn] at h1; exact wpAny_monoQ hq _ _ _ _ h1
    · rename_i o hn
      rw [hn] at h1
      simp only at h1
      split
      · rename_i hw
        rw [if_pos hw] at h1
        exact wpIn_operQ (fun a w h => wpAny_monoQ hq _ _ _ _ h) hq h1
      · rename_i hw
        rw [if_neg hw] at h1
        exact ⟨h1.1, wpAny_monoQ hq _ _ _ _ h1.2⟩

theorem draw_tail {ro : Option Nat} {P : Program} {fm : Fm} {ops : List Oper} {Inv : World → Prop} {K : Act → World → Prop} {Q : Exit → Act → World → Prop} {a : Act} {w : World} (hok : drawOk fm ops.toArray = true)
    (h1 : X P ops.toArray Inv fm K ops a w) (hI : Inv w) (hq : ∀ a w, K a w → Q .normal a w) :
    wpAnyIn (fen ro) 0 P .any ops.toArray Q ops.toArray.size (Array.replicate ops.toArray.size false) a w := by
  have h2 : Xi P ops.toArray Inv fm K (List.range ops.toArray.size) a w := by
    have := Xi_X (P := P) (ops := ops.toArray) (Inv := Inv) (fm := fm) (K := K) ops 0 (by simp)
    rw [List.range_eq_range', List.size_toArray, this]; exact h1
  have h3 := draw_any (ro := ro) hok ops.toArray.size (Array.replicate ops.toArray.size false) (List.range ops.toArray.size) (by simp) (fun j => by
    simp only [List.mem_range]
    constructor
    · intro hj; exact ⟨hj, by simp [Array.getD] at hj ⊢; omega⟩
    · exact fun hj => hj.1) (List.pairwise_lt_range) (fun i hi => by simp [Array.getD] at hi) (by simp) a _ hI h2
  exact wpAny_monoQ (fun e a' w' h => by
    cases e with
    | normal => exact hq _ _ h
    | _ => exact h.elim) _ _ _ _ h3

section code
variable {P : Program} {B : Base} {N : Nat} {F : Fr} {A : List Asn} {Q : Exit → Fr → List Asn → Prop}
theorem Wc_draw {id : Nat} {ops : List Oper} (hok : drawOk none ops.toArray = true := by first | decide +kernel | (rw [drawOk_some]; decide +kernel)) (hm : P.follows .mixedOrders = true := by kernel_rfl)
    (h : ∀ K : Fr → List Asn → Prop, (∀ F A, Q .normal F A → K F A) → Wl P B N none ops ops F A K) :
    Wc P B N (.region id ops.toArray true) F A Q := fun ro R a w hk hr hs => by
  refine wpIn_region_any hm ?_
  have hs' : Sat B { w with drawn := w.drawn + 1 } (R :: A) := ⟨hs.size, hs.io, hs.base, hs.own⟩
  have h1 := h (fun F A => Q .normal F A) (fun _ _ h => h) R Ent.nil a _ hr hs'
  exact draw_tail hok h1 hs'.hd (fun a' w' ⟨hd, F', A', q1, q2, q3⟩ => ⟨[], F', A', hd, q1, q2, q3⟩)
/-- The same, where what is read besides calls lies in 'M', which none of them gets. -/
theorem Wc_drawF {id : Nat} {ops : List Oper} (M : List Asn) (Ls : List Nat) {A1 : List Asn} (hok : drawOk (some (M, Ls)) ops.toArray = true := by first | decide +kernel | (rw [drawOk_some]; decide +kernel)) (hm : P.follows .mixedOrders = true := by kernel_rfl) (hp : A.Perm (M ++ A1))
    (h : ∀ K : Fr → List Asn → Prop, (∀ F A, Q .normal F (M ++ A) → K F A) → Wl P B N (some (M, Ls)) ops ops F A1 K) :
    Wc P B N (.region id ops.toArray true) F A Q := fun ro R a w hk hr hs => by
  refine wpIn_region_any hm ?_
  have hs' : Sat B { w with drawn := w.drawn + 1 } (lst (R :: M) :: A1) := Sat.ent (L := R :: M ++ A1) (Ent.lst_shut (R :: M) A1) ⟨hs.size, hs.io, hs.base, hs.own.perm (hp.cons R)⟩
  have hE : Ent [lst (R :: M)] M := (Ent.lst_open (R :: M) []).trans (by simpa using Ent.drop R)
  have h1 := h (fun F A => Q .normal F (M ++ A)) (fun _ _ h => h) (lst (R :: M)) hE a _ hr hs'
  refine draw_tail hok h1 hs'.hd (fun a' w' hq => ?_)
  obtain ⟨hd, F', A', h1, h2, h3⟩ := hq
  exact ⟨[], F', M ++ A', hd, h1, h2.ent (Ent.lst_open (R :: M) A'), h3⟩
theorem drawOk_some (M : List Asn) (Ls : List Nat) (ops : Array Oper) : drawOk (some (M, Ls)) ops = drawOk (some ([], Ls)) ops := rfl
end code
end Go.Sl
