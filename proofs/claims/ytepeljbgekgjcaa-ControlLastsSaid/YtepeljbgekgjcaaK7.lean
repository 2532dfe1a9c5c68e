/- A range over a function: a call of yield; the statement. No condition. -/
import Derived.Test.YtepeljbgekgjcaaK6
import Derived.RangeFuncNested
set_option linter.unusedVariables false
namespace Go.Sl
open Go

/-! ### A call of yield -/
@[reducible] def yv (l : Nat) : Value := .func (.yield l) #[] #[]
/-- What a loop's body does when it is called with 'args'. -/
def Yspec (P : Program) (B : Base) (l : Nat) (args : Array Value) (A : List Asn) (post : Value → List Asn → Prop) : Prop :=
  ∀ R w, Sat B w (R :: A) → ∃ fn tmps asx bd, (Instr.yield l args).run P w = .ok (.round l fn tmps asx bd) w ∧
    RoundIn Fence.wide 0 P l fn tmps asx bd w fun e w' => ∃ v A', e = .returned v ∧ Sat B w' (R :: A') ∧ post v A'
theorem Yspec.mono {P : Program} {B : Base} {l : Nat} {args : Array Value} {A : List Asn} {post post' : Value → List Asn → Prop}
    (h : Yspec P B l args A post) (hp : ∀ v A, post v A → post' v A) : Yspec P B l args A post' := fun R w hs => by
  obtain ⟨fn, tmps, asx, bd, h1, h2⟩ := h R w hs
  exact ⟨fn, tmps, asx, bd, h1, h2.mono fun e w' ⟨v, A', q1, q2, q3⟩ => ⟨v, A', q1, q2, hp _ _ q3⟩⟩
theorem Yspec.ent {P : Program} {B : Base} {l : Nat} {args : Array Value} {A A' : List Asn} {post : Value → List Asn → Prop}
    (he : Ent A A') (h : Yspec P B l args A' post) : Yspec P B l args A post := fun R w hs => h R w (hs.entR he)
/-- What is known behind it is said anew. -/
theorem Yspec.conv {P : Program} {B : Base} {l : Nat} {args : Array Value} {A : List Asn} {post post' : Value → List Asn → Prop}
    (h : Yspec P B l args A post) (hp : ∀ v A, post v A → ∃ A', Ent A A' ∧ post' v A') : Yspec P B l args A post' := fun R w hs => by
  obtain ⟨fn, tmps, asx, bd, h1, h2⟩ := h R w hs
  refine ⟨fn, tmps, asx, bd, h1, h2.mono fun e w' ⟨v, A', q1, q2, q3⟩ => ?_⟩
  obtain ⟨A2, he, hq⟩ := hp _ _ q3
  exact ⟨v, A2, q1, q2.entR he, hq⟩
/-- What the body does not need lies aside. -/
theorem Yspec.frame {P : Program} {B : Base} {l : Nat} {args : Array Value} {A M : List Asn} {post : Value → List Asn → Prop}
    (h : Yspec P B l args A post) : Yspec P B l args (M ++ A) (fun v A' => ∃ A2, A' = M ++ A2 ∧ post v A2) := fun R w hs => by
  obtain ⟨fn, tmps, asx, bd, h1, h2⟩ := h (lst (R :: M)) w (hs.ent (Ent.lst_shut (R :: M) A))
  exact ⟨fn, tmps, asx, bd, h1, h2.mono fun e w' ⟨v, A', q1, q2, q3⟩ => ⟨v, M ++ A', q1, q2.ent (Ent.lst_open (R :: M) A'), A', rfl, q3⟩⟩
theorem Fspec.frame {P : Program} {B : Base} {f : FuncId} {args : Array Value} {A M : List Asn} {post : Value → List Asn → Prop}
    (h : Fspec P B f args A post) : Fspec P B f args (M ++ A) (fun v A' => ∃ A2, A' = M ++ A2 ∧ post v A2) := fun R w hs =>
  (h (lst (R :: M)) w (hs.ent (Ent.lst_shut (R :: M) A))).mono fun e w' ⟨v, A', q1, q2, q3⟩ => ⟨v, M ++ A', q1, q2.ent (Ent.lst_open (R :: M) A'), A', rfl, q3⟩
theorem Fspec.conv {P : Program} {B : Base} {f : FuncId} {args : Array Value} {A : List Asn} {post post' : Value → List Asn → Prop}
    (h : Fspec P B f args A post) (hp : ∀ v A, post v A → ∃ A', Ent A A' ∧ post' v A') : Fspec P B f args A post' := fun R w hs => by
  refine (h R w hs).mono fun e w' ⟨v, A', q1, q2, q3⟩ => ?_
  obtain ⟨A2, he, hq⟩ := hp _ _ q3
  exact ⟨v, A2, q1, q2.entR he, hq⟩

section ops
variable {P : Program} {B : Base} {N : Nat} {fm : Fm} {ops rest : List Oper} {F : Fr} {A : List Asn} {K : Fr → List Asn → Prop} {d : Nat} {T : TypeId} {pos : String} {aft : Array Edge} {x : Operand}
theorem Wl_yield {l : Nat} {xs : List Operand} {ts : Array TypeId} {args : List Value} {A1 M : List Asn} {post : Value → List Asn → Prop} (hd : Nat.blt d N = true := by exact rfl)
    (hx : ev F x = yv l := by exact rfl) (ha : EvL F xs args := by (repeat (first | exact EvL.nil | apply EvL.cons (by (repeat (first | exact Ev.here | exact Ev.const | exact Ev.arg rfl | apply Ev.there rfl | exact Ev.none rfl | exact Ev.func | exact Ev.var)); (first | done | fail)))); (first | done | fail)) (hs : Yspec P B l args.toArray A1 post) (hp : Pick A A1 M := by (repeat (first | exact Pick.nil | apply Pick.cons (by (repeat (first | exact Out.head | apply Out.tail)); (first | done | fail)))); (first | done | fail))
    (k : ∀ v A', post v A' → Wl P B N fm ops rest (upd F d v) (A' ++ M) K) : Wl P B N fm ops (⟨some d, .call ⟨.value x, xs.toArray, ts⟩, T, pos, aft, none⟩ :: rest) F A K :=
  Wl_op rfl rfl fun R hE a w hr hsat => by
    have h1 : Sat B w (lst (R :: M) :: A1) := (hsat.perm ((hp.perm.cons R).trans (List.perm_middle.symm.trans List.perm_append_comm))).ent (Ent.lst_shut (R :: M) A1)
    obtain ⟨fn, tmps, asx, bd, q1, q2⟩ := hs _ w h1
    have hrun : (execOp (ev F) ⟨some d, .call ⟨.value x, xs.toArray, ts⟩, T, pos, aft, none⟩).run P w = .ok (.round l fn tmps asx bd) w := by
      have h2 := ha.eq
      subst h2
      simp only [execOp, resolve, hx, Deferred.ofValue, invoke, Sem.run_bind, Sem.run_pure, Result.andThen_ok]
      simpa using q1
    rw [hrun, Oper.upY_round]
    refine q2.mono ?_
    rintro e w' ⟨v, A', rfl, hsat', hpost⟩
    have h2 : Sat B w' (R :: (A' ++ M)) := (hsat'.ent (Ent.lst_open (R :: M) A')).perm (List.perm_append_comm.cons R)
    exact ⟨h2.hd, k v A' hpost R hE _ w' (hr.put (by simpa [Nat.blt_eq] using hd) v) h2⟩
end ops

/-! ### The statement -/
def ups (F : Fr) : List (Nat × Value) → Fr
  | [] => F
  | (d, v) :: r => ups (upd F d v) r
theorem Rep.ups {N : Nat} : ∀ (l : List (Nat × Value)) {t : Array Value} {F : Fr} {ds ds' : List Deferred}, Rep N ⟨t, ds⟩ F → (∀ p ∈ l, p.1 < N) →
    Rep N ⟨l.foldl (fun tmps (p : Nat × Value) => tmps.setIfInBounds p.1 p.2) t, ds'⟩ (ups F l)
  | [], _, _, _, _, h, _ => ⟨h.size, h.get⟩
  | (d, v) :: l, t, F, ds, ds', h, hl => by
    have h1 := h.put (hl (d, v) (List.mem_cons_self ..)) v
    exact Rep.ups l (ds := ds) (ds' := ds') (t := t.setIfInBounds d v) h1 (fun p hp => hl p (List.mem_cons_of_mem _ hp))

def jumpOf : Exit → Option Code
  | .ret => some .ret
  | .exit id => some (.exit id)
  | .goto t => some (.goto t)
  | _ => none

section stmt
variable {P : Program} {B : Base} {N : Nat} {F : Fr} {A : List Asn} {Q : Exit → Fr → List Asn → Prop}

/-- What the loop's record is while no round is under way; what is left when a round has ended the loop by a jump. -/
def jx {α : Type} (l : Nat) (r : Loop) (Ix : Code → List α → List Asn) (pre : List α) : Asn :=
  exN fun c : Code => pt l (.loop { r with state := .done, pending := some c }) :: Ix c pre

/-- One round: the assignment to the loop's variables, the body. -/
def Round (P : Program) (B : Base) (N : Nat) (F : Fr) (ps : List Nat) (assign body : Code) (vs : List Value) (A : List Asn) (good : List Asn) (bad : Code → List Asn) : Prop :=
  Wc P B N assign (ups F (ps.zip vs)) A (fun e F' A' => e = .normal ∧ Wc P B N body F' A' (fun e' _ A2 => (e' = .normal ∧ Ent A2 good) ∨ ∃ c, jumpOf e' = some c ∧ Ent A2 (bad c)))

theorem round_spec {F0 : Fr} {ps : List Nat} {assign body : Code} {vs : List Value} {A good : List Asn} {bad : Code → List Asn} {l : Nat} {r : Loop} {t0 : Array Value} {ds : List Deferred}
    (hrep : Rep N ⟨t0, ds⟩ F) (hps : ∀ p ∈ ps, p < N) (hlen : vs.length = ps.length) (hst : r.state = .ready) (hrp : r.params = ps.toArray) (hrt : r.tmps = t0) (hra : r.assign = assign) (hrb : r.body = body)
    (h : Round P B N F ps assign body vs A good bad) :
    Yspec P B l vs.toArray (pt l (.loop r) :: A) (fun v A' => (v = .bool true ∧ A' = pt l (.loop { r with state := .ready, pending := none }) :: good) ∨
      ∃ c, v = .bool false ∧ A' = pt l (.loop { r with state := .done, pending := some c }) :: bad c) := fun R w hs => by
  subst hra hrb
  have hp : Sat B w (pt l (.loop r) :: R :: A) := hs.perm (.swap ..)
  have hl := (hp.get (List.mem_cons_self ..)).2
  refine ⟨_, _, _, _, run_yield hl (by simp [hrp, hlen]), ?_⟩
  have lput : ∀ {w : World} {r1 : Loop} (r2 : Loop) {L : List Asn}, Sat B w (pt l (.loop r1) :: L) → Sat B (w.putObj l (.loop r2)) (pt l (.loop r2) :: L) := fun {w r1} r2 {L} h => by
    have hh := (h.get (List.mem_cons_self ..)).2
    exact Sat.put (w := w) (o := .loop r1) (show Io w (w.putObj l _) from ⟨rfl, rfl, rfl⟩) (by simp) (fun x hx => World.putObj_heap_other hx) (World.putObj_heap_same (Array.getElem?_eq_some_iff.1 hh).1) h
  have hk : ∀ r1 : Loop, Rk (some l) (lst [R, pt l (.loop r1)]) := fun r1 l' e => by
    cases e
    refine ⟨r1, (Ent.lst_open [R, pt l (.loop r1)] []).trans (Ent.drop R)⟩
  have hz : ((r.params.zip vs.toArray).foldl (fun tmps (t, a) => tmps.setIfInBounds t a) r.tmps) = (ps.zip vs).foldl (fun tmps (p : Nat × Value) => tmps.setIfInBounds p.1 p.2) t0 := by
    rw [hrp, hrt, List.zip_toArray, List.foldl_toArray]
  have hrep' : Rep N ⟨(r.params.zip vs.toArray).foldl (fun tmps (t, a) => tmps.setIfInBounds t a) r.tmps, []⟩ (ups F (ps.zip vs)) := by
    rw [hz]
    exact Rep.ups _ hrep (fun p hp => hps _ (List.of_mem_zip hp).1)
  refine roundIn_of_wpIn trivial ?_
  have s1 : Sat B w (lst [R, pt l (.loop r)] :: A) := hs.ent (Ent.lst_shut [R, pt l (.loop r)] A)
  refine wpIn_mono (h (some l) _ _ w (hk r) hrep' s1) ?_
  rintro e a1 w1 ⟨Ds, F1, A1, hd1, hr1, hs1, rfl, hb⟩
  have s2 : Sat B w1 (pt l (.loop r) :: R :: (List.map dk Ds ++ A1)) := (hs1.ent (Ent.lst_open [R, pt l (.loop r)] (List.map dk Ds ++ A1))).perm (.swap ..)
  have hl1 := (s2.get (List.mem_cons_self ..)).2
  have s3 := lput { r with state := .busy } s2
  refine ⟨_, run_beginRound hl1 hst, ?_⟩
  have s4 : Sat B (w1.putObj l (.loop { r with state := .busy })) (lst [R, pt l (.loop { r with state := .busy })] :: A1) :=
    ((s3.perm (.swap ..)).ent (((Ent.nil.trans (Ent.refl []) : Ent (List.map dk Ds) []).appR A1 |>.cons _).cons R)).ent (Ent.lst_shut [R, pt l (.loop { r with state := .busy })] A1)
  refine wpIn_mono (hb (some l) _ a1 _ (hk _) hr1 s4) ?_
  rintro e2 a2 w2 ⟨Ds2, F2, A2, hd2, hr2, hs2, hq⟩
  have s5 : Sat B w2 (pt l (.loop { r with state := .busy }) :: R :: A2) :=
    ((hs2.ent (Ent.lst_open [R, pt l (.loop { r with state := .busy })] (List.map dk Ds2 ++ A2))).ent ((((Ent.nil : Ent (List.map dk Ds2) []).appR A2).cons _).cons R)).perm (.swap ..)
  have hl2 := (s5.get (List.mem_cons_self ..)).2
  rcases hq with ⟨rfl, hE⟩ | ⟨c, hc, hE⟩
  · refine ⟨_, _, run_endRound none hl2, _, pt l (.loop { r with state := .ready, pending := none }) :: good, rfl, ?_, .inl ⟨rfl, rfl⟩⟩
    exact ((lput { r with state := .ready, pending := none } s5).ent ((hE.cons R).cons _)).perm (.swap ..)
  · have fin : ∀ c, Ent A2 (bad c) → ∃ v w', (Instr.endRound l (some c)).run P w2 = .ok v w' ∧ ∃ v' A', Ending.returned v = .returned v' ∧ Sat B w' (R :: A') ∧
        ((v' = .bool true ∧ A' = pt l (.loop { r with state := .ready, pending := none }) :: good) ∨ ∃ c, v' = .bool false ∧ A' = pt l (.loop { r with state := .done, pending := some c }) :: bad c) := fun c hE => by
      refine ⟨_, _, run_endRound (some c) hl2, _, pt l (.loop { r with state := .done, pending := some c }) :: bad c, rfl, ?_, .inr ⟨c, rfl, rfl⟩⟩
      exact ((lput { r with state := .done, pending := some c } s5).ent ((hE.cons R).cons _)).perm (.swap ..)
    cases e2 with
    | ret => cases hc; exact fin _ hE
    | exit id => cases hc; exact fin _ hE
    | goto t => cases hc; exact fin _ hE
    | normal => cases hc
    | panic _ => cases hc
    | outgrown => cases hc

/-- A truth that takes no place. -/
def pur (φ : Prop) : Asn := fun h => φ ∧ ∀ b, h b = none
theorem Ent.pur_in {φ : Prop} (h : φ) (K : List Asn) : Ent K (pur φ :: K) := fun _ _ hs => ⟨fun _ => none, ⟨h, fun _ => rfl⟩, by simp, hs.mono (by simp)⟩
theorem Wc_pur {c : Code} {φ : Prop} (h : φ → Wc P B N c F A Q) : Wc P B N c F (pur φ :: A) Q := fun ro R a w hk hr hs => by
  have hp : Sat B w (pur φ :: R :: A) := hs.perm (.swap ..)
  obtain ⟨x, hx, _, _⟩ := hp.own
  exact h hx.1 ro R a w hk hr (hp.ent (Ent.drop _))

/-- An iterator that is called with yield: whatever the loop keeps (J), whatever is left where the loop is broken off (Jx). -/
def SeqSpec {α : Type} (P : Program) (B : Base) (gf : FuncId) (vs us : List Value) (enc : α → List Value) (xs : List α) (S : List Asn) : Prop :=
  ∀ (l : Nat) (J Jx : List α → List Asn),
    (∀ pre x rest, xs = pre ++ x :: rest → Yspec P B l (enc x).toArray (S ++ J pre) (fun v A' => (v = .bool true ∧ A' = S ++ J (pre ++ [x])) ∨ (v = .bool false ∧ A' = S ++ Jx (pre ++ [x])))) →
    Fspec P B gf (vs ++ [yv l] ++ us).toArray (S ++ J []) (fun _ A' => A' = S ++ J xs ∨ ∃ pre x rest, xs = pre ++ x :: rest ∧ A' = S ++ Jx (pre ++ [x]))

theorem rangeTail {α : Type} {gf : FuncId} {vs us : List Value} {enc : α → List Value} {xs : List α} {S : List Asn} {I : List α → List Asn} {Ix : Code → List α → List Asn} {ps : List Nat} {assign body : Code}
    (hseq : SeqSpec P B gf vs us enc xs S) (hps : ∀ p ∈ ps, p < N) (hlen : ∀ x, (enc x).length = ps.length)
    (round : ∀ pre x rest, xs = pre ++ x :: rest → Round P B N F ps assign body (enc x) (S ++ I pre) (S ++ I (pre ++ [x])) (fun c => S ++ Ix c (pre ++ [x])))
    (hdone : Q .normal F (S ++ I xs))
    (hjump : ∀ c pre x rest, xs = pre ++ x :: rest → Wc P B N c F (S ++ Ix c (pre ++ [x])) Q)
    {ro : Option Nat} {R : Asn} {a : Act} {w1 : World} {l : Nat} {Ds : List Nat} {fn D : Nat} (hk : Rk ro R) (hr : Rep N a F)
    (hs : Sat B w1 (pt l (.loop { state := .ready, pending := none, fn := fn, tmps := a.tmps, params := ps.toArray, assign := assign, body := body, defers := D }) :: R :: (List.map dk Ds ++ (S ++ I [])))) :
    CallsIn (fen ro) 0 P gf (vs ++ [yv l] ++ us).toArray w1 (rangePost (fen ro) 0 P l (LiftQ B N R a.defers Q) { a with defers := List.map mark Ds ++ a.defers }) := by
  generalize hrd : ({ state := .ready, pending := none, fn := fn, tmps := a.tmps, params := ps.toArray, assign := assign, body := body, defers := D } : Loop) = r at hs
  have hrr : ({ r with state := .ready, pending := none } : Loop) = r := by rw [← hrd]
  have hY := hseq l (fun pre => pt l (.loop r) :: I pre) (fun pre => [jx l r Ix pre]) (fun pre x rest hx => by
    have h1 := round_spec (l := l) (r := r) (t0 := a.tmps) (ds := a.defers) (F0 := F) hr hps (hlen x) (by rw [← hrd]) (by rw [← hrd]) (by rw [← hrd]) (by rw [← hrd]) (by rw [← hrd]) (round pre x rest hx)
    rw [hrr] at h1
    refine (h1.ent (Ent.perm List.perm_middle)).conv ?_
    rintro v A' (⟨rfl, rfl⟩ | ⟨c, rfl, rfl⟩)
    · exact ⟨_, Ent.perm List.perm_middle.symm, .inl ⟨rfl, rfl⟩⟩
    · refine ⟨_, ?_, .inr ⟨rfl, rfl⟩⟩
      have e1 : Ent (pt l (.loop { r with state := .done, pending := some c }) :: (S ++ Ix c (pre ++ [x]))) ((pt l (.loop { r with state := .done, pending := some c }) :: Ix c (pre ++ [x])) ++ S) :=
        Ent.perm (List.perm_append_comm.cons _)
      refine e1.trans ((Ent.exN_shut (f := fun c : Code => pt l (.loop { r with state := .done, pending := some c }) :: Ix c (pre ++ [x])) c S).trans ?_)
      exact Ent.perm (List.perm_append_comm (l₁ := [jx l r Ix (pre ++ [x])])))
  have hs1 : Sat B w1 (lst (R :: List.map dk Ds) :: (S ++ pt l (.loop r) :: I [])) := by
    refine Sat.ent (L := (R :: List.map dk Ds) ++ (S ++ pt l (.loop r) :: I [])) (Ent.lst_shut _ _) (hs.perm ?_)
    refine (List.Perm.swap _ _ _).trans ?_
    rw [List.cons_append]
    refine List.Perm.cons R ?_
    rw [← List.append_assoc, ← List.append_assoc]
    exact List.perm_middle.symm
  have hput : ∀ {w : World} {r1 : Loop} (r2 : Loop) {L : List Asn}, Sat B w (pt l (.loop r1) :: L) → Sat B (w.putObj l (.loop r2)) L := fun {w r1} r2 {L} h => by
    have hh := (h.get (List.mem_cons_self ..)).2
    have h2 : Sat B (w.putObj l (.loop r2)) (pt l (.loop r2) :: L) :=
      Sat.put (w := w) (o := .loop r1) (show Io w (w.putObj l _) from ⟨rfl, rfl, rfl⟩) (by simp) (fun x hx => World.putObj_heap_other hx) (World.putObj_heap_same (Array.getElem?_eq_some_iff.1 hh).1) h
    exact h2.ent (Ent.drop _)
  have hc : CallsIn Fence.wide 0 P gf (vs ++ [yv l] ++ us).toArray w1 _ := callsIn_wide.2 (hY _ w1 hs1)
  refine CallsIn.mono (show CallsIn (fen ro) 0 P gf _ w1 _ from hc) ?_
  rintro e w3 ⟨v, A', rfl, hs3, hp⟩
  rcases hp with rfl | ⟨pre, x, rest, hx, rfl⟩
  · have s1 : Sat B w3 (pt l (.loop r) :: R :: (List.map dk Ds ++ (S ++ I xs))) := by
      refine (hs3.ent (Ent.lst_open (R :: List.map dk Ds) _)).perm ?_
      refine List.Perm.trans ?_ (List.Perm.swap _ _ _)
      rw [List.cons_append]
      refine List.Perm.cons R ?_
      rw [← List.append_assoc, ← List.append_assoc]
      exact List.perm_middle
    have hl := (s1.get (List.mem_cons_self ..)).2
    refine ⟨_, _, run_endLoop hl (by rw [← hrd]; simp), ?_⟩
    have hpend : r.pending = none := by rw [← hrd]
    rw [hpend]
    exact ⟨Ds, F, S ++ I xs, rfl, ⟨hr.size, hr.get⟩, hput _ s1, hdone⟩
  · have s0 : Sat B w3 (R :: jx l r Ix (pre ++ [x]) :: (List.map dk Ds ++ S)) := by
      refine (hs3.ent (Ent.lst_open (R :: List.map dk Ds) _)).perm ?_
      rw [List.cons_append]
      refine List.Perm.cons R ?_
      rw [← List.append_assoc]
      exact List.perm_append_comm
    obtain ⟨c, s1⟩ := exN_open_sat s0
    have s2 : Sat B w3 (pt l (.loop { r with state := .done, pending := some c }) :: R :: (List.map dk Ds ++ (S ++ Ix c (pre ++ [x])))) := by
      refine s1.perm ((List.Perm.swap _ _ _).trans (List.Perm.cons _ (List.Perm.cons R ?_)))
      rw [← List.append_assoc]
      exact List.perm_append_comm
    have hl := (s2.get (List.mem_cons_self ..)).2
    refine ⟨_, _, run_endLoop hl (by simp), ?_⟩
    exact Wc.go (hjump c pre x rest hx) hk rfl ⟨hr.size, hr.get⟩ (hput _ s2)

theorem Wc_rangeFunc {α : Type} {g : Operand} {gf : FuncId} {vs us : List Value} {ps : List Nat} {assign body : Code} [hb : HasBody P gf] (enc : α → List Value) (xs : List α) (S : List Asn)
    (I : List α → List Asn) (Ix : Code → List α → List Asn)
    (hg : ev F g = .func (.func gf) vs.toArray us.toArray := by exact rfl) (hA : Ent A (S ++ I []))
    (hseq : SeqSpec P B gf vs us enc xs S) (hps : ∀ p ∈ ps, p < N) (hlen : ∀ x, (enc x).length = ps.length)
    (round : ∀ pre x rest, xs = pre ++ x :: rest → Round P B N F ps assign body (enc x) (S ++ I pre) (S ++ I (pre ++ [x])) (fun c => S ++ Ix c (pre ++ [x])))
    (hdone : Q .normal F (S ++ I xs))
    (hjump : ∀ c pre x rest, xs = pre ++ x :: rest → Wc P B N c F (S ++ Ix c (pre ++ [x])) Q) : Wc P B N (.rangeFunc g ps.toArray assign body) F A Q := fun ro R a w hk hr hs => by
  have hres : ∀ (l : Nat) (w : World), (resolve a.eval (rangeCall g l) 0).run P w = .ok { target := .fn (.func gf) us.toArray, args := (vs ++ [yv l]).toArray } w := fun l w => by
    have hev : a.eval g = .func (.func gf) vs.toArray us.toArray := by rw [hr.eval]; exact hg
    have h2 : Array.map a.eval #[.const (yv l)] = #[yv l] := by simp [Act.eval]
    simp only [resolve]
    rw [h2, hev]
    simp [Deferred.ofValue]
  have hinv : ∀ (l : Nat) (w : World), (invoke (.fn (.func gf) us.toArray) (vs ++ [yv l]).toArray).run P w = .ok (.enter gf (vs ++ [yv l] ++ us).toArray) w := fun l w => by
    have := run_callFunc_body hb.out (vs ++ [yv l] ++ us).toArray w
    simpa [invoke] using this
  refine wpIn_rangeFunc fun fn _ => ?_
  cases ro with
  | none =>
    have hs1 := (Sat.push (w := w) (o := .deferred (some [])) (w' := w.alloc (.deferred (some []))) (by exact ⟨rfl, rfl, rfl⟩) rfl hs)
    have hs2 := (Sat.push (w := w.alloc (.deferred (some []))) (o := .loop { state := .ready, pending := none, fn := fn, tmps := a.tmps, params := ps.toArray, assign := assign, body := body, defers := w.heap.size })
      (w' := (w.alloc (.deferred (some []))).alloc (.loop { state := .ready, pending := none, fn := fn, tmps := a.tmps, params := ps.toArray, assign := assign, body := body, defers := w.heap.size })) (by exact ⟨rfl, rfl, rfl⟩) rfl hs1)
    rw [World.size_alloc] at hs2
    refine ⟨_, _, _, _, _, gf, _, _, run_enterLoop_outer fn a.tmps ps.toArray assign body, hres _ _, fun _ _ => trivial, hinv _ _, fun e => (by cases e), ?_⟩
    refine rangeTail (Ds := [w.heap.size]) (fn := fn) (D := w.heap.size) hseq hps hlen round hdone hjump hk hr ?_
    refine hs2.ent ?_
    refine (Ent.cons _ ?_)
    exact (Ent.perm (.swap ..)).trans ((hA.cons _).cons R)
  | some l0 =>
    obtain ⟨r0, hr0⟩ := hk l0 rfl
    have hl0 := ((hs.hd.ent hr0).get (List.mem_cons_self ..)).2
    have hs2 := (Sat.push (w := w) (o := .loop { state := .ready, pending := none, fn := fn, tmps := a.tmps, params := ps.toArray, assign := assign, body := body, defers := r0.defers })
      (w' := w.alloc (.loop { state := .ready, pending := none, fn := fn, tmps := a.tmps, params := ps.toArray, assign := assign, body := body, defers := r0.defers })) (by exact ⟨rfl, rfl, rfl⟩) rfl hs)
    refine ⟨_, _, _, _, _, gf, _, _, run_enterLoop_inner hl0 fn a.tmps ps.toArray assign body, hres _ _, fun _ _ => trivial, hinv _ _, fun e => (by cases e), ?_⟩
    exact rangeTail (Ds := []) (fn := fn) (D := r0.defers) hseq hps hlen round hdone hjump hk hr (hs2.ent ((hA.cons R).cons _))
end stmt
end Go.Sl
/- Package journal: parts, sectors, numbers. Conditions: sizes far from the kind's edges. -/
set_option maxHeartbeats 8000000
set_option linter.unusedVariables false
set_option linter.unusedSimpArgs false
set_option maxRecDepth 100000
namespace Go.Proofs.Ytepeljbgekgjcaa
open Go Go.Sl
attribute [local irreducible] Go.Sl.Wl Go.Sl.Wc Go.Sl.thenQ Go.Sl.blkQ Go.Sl.loopQ Go.Sl.Fspec

theorem store_run {a : Addr} {x y : Int} {w : World} (hc : w.cell? a = some (.int .u32 x)) (hz : w.frozen? a = false) :
    (callFunc 51 #[.pointer (some a), .int .u32 y]).run Try.prog w = .ok (.value (.tuple #[])) (w.setCell a (.int .u32 y)) :=
  run_call_store Try.func51 (by kernel_rfl) (by kernel_rfl) (by kernel_rfl) (by kernel_rfl) hc hz
theorem load32_run {a : Addr} {x : Int} {w : World} (hc : w.cell? a = some (.int .u32 x)) :
    (callFunc 45 #[.pointer (some a)]).run Try.prog w = .ok (.value (.int .u32 x)) w :=
  run_call_load Try.func45 (by kernel_rfl) (by kernel_rfl) (by kernel_rfl) .u32 (by kernel_rfl) hc
def b32 (b : Bool) : Int := if b = true then 1 else 0
theorem setL_sec (lap number part of : Nat) (b : List UInt8) (h : b.length ≤ 47) : setL ((secH lap number part of b.length).map byteV) (0 + 13 * 1) ((b.map byteV).take (b.length * 1)) = (secL lap number part of b).map byteV := by
  have hl : (secH lap number part of b.length).length = 64 := by simp [secH, secI_length]
  rw [List.take_of_length_le (by simp), setL_eq _ _ _ (by simp [hl]; omega), ← secH_copy _ _ _ _ _ h]
  simp
theorem list_beq (l u : List UInt8) : (l == u) = decide (l = u) := by by_cases e : l = u <;> simp [e]
section specs
variable {B : Base}
theorem b32_spec (b : Bool) : Fspec Try.prog B 52 #[.bool b] [] (fun v A' => v = .int .u32 (b32 b) ∧ A' = []) := by
  refine spec_of (args := [_]) Try.func52 rfl rfl rfl ?_
  cases b
  all_goals
    repeat' (first
      | refine Wc_seq ?_
      | refine thenQ_normal ?_
      | refine Wc_cond_t (h := ?_)
      | refine Wc_cond_f (h := ?_)
      | refine Wc_ret ?_
      | refine thenQ_ret ?_
      | refine Wc_block ?_
      | refine blkQ_normal ?_
      | refine blkQ_ret ?_
      | refine Wc_exit ?_
      | refine thenQ_exit ?_
      | refine blkQ_hit ?_
      | refine blkQ_miss rfl ?_
      | refine Wc_skip ?_
      | refine Wc_label ?_
      | refine loopQ_exit ?_
      | refine loopQ_ret ?_
      | refine loopQ_normal ?_
      | (refine Wc_region (id := 0) ?_; intro K hK; refine Wl_assign (k := ?_); (refine Wl_nil (hK _ _ ?_); clear hK K))
      | (refine Wc_region (id := 1) ?_; intro K hK; refine Wl_move (k := ?_); (refine Wl_nil (hK _ _ ?_); clear hK K))
      | (refine Wc_region (id := 2) ?_; intro K hK; refine Wl_assign (k := ?_); (refine Wl_nil (hK _ _ ?_); clear hK K))
      | (refine Wc_region (id := 3) ?_; intro K hK; refine Wl_assign (k := ?_); (refine Wl_nil (hK _ _ ?_); clear hK K))
      | (refine Wc_cond (ht := (fun ht => ?_)) (hf := (fun ht => ?_)) <;> (try simp at ht) <;> (try (exfalso; omega))))
    exact ⟨Or.inr rfl, _, [], Ent.nil, res1 rfl rfl, rfl, rfl⟩
theorem bload_spec (p off : Nat) (l : List Value) (E : TypeId) (b : Bool) (hx : l[off]? = some (.int .u32 (b32 b))) :
    Fspec Try.prog B 27 #[.pointer (some ⟨p, off, none⟩)] [cb p l E] (fun v A' => v = .bool b ∧ A' = [cb p l E]) := by
  have hrun : ∀ w R, Sat B w (R :: [cb p l E]) → ∃ w', (callFunc 45 #[.pointer (some ⟨p, off, none⟩)]).run Try.prog w = .ok (.value (.int .u32 (b32 b))) w' ∧ Sat B w' (R :: [cb p l E]) := fun w R hs => by
    have hh := (hs.get (List.mem_cons_of_mem R (List.mem_cons_self ..))).2
    exact ⟨_, load32_run (cell_of_heap hh hx), hs⟩
  refine spec_of (args := [_]) Try.func27 rfl rfl rfl ?_
  repeat' (first
    | refine Wc_seq ?_
    | refine thenQ_normal ?_
    | refine Wc_cond_t (h := ?_)
    | refine Wc_cond_f (h := ?_)
    | refine Wc_ret ?_
    | refine thenQ_ret ?_
    | refine Wc_block ?_
    | refine blkQ_normal ?_
    | refine blkQ_ret ?_
    | refine Wc_exit ?_
    | refine thenQ_exit ?_
    | refine blkQ_hit ?_
    | refine blkQ_miss rfl ?_
    | refine Wc_skip ?_
    | refine Wc_label ?_
    | refine loopQ_exit ?_
    | refine loopQ_ret ?_
    | refine loopQ_normal ?_
    | (refine Wc_region (id := 0) ?_; intro K hK; refine Wl_assign (k := ?_); (refine Wl_nil (hK _ _ ?_); clear hK K))
    | (refine Wc_region (id := 1) ?_; intro K hK; refine Wl_move (k := ?_); refine Wl_nilCheck (k := ?_); refine Wl_fieldAddr (k := ?_); ((refine Wl_callX (hrun := hrun) (k := ?_))) <;> (((refine Wl_neq (k' := ?_); rw [show decide (b32 b ≠ 0) = b by cases b <;> rfl])) <;> (refine Wl_assign (k := ?_); (refine Wl_nil (hK _ _ ?_); clear hK K))))
    | (refine Wc_cond (ht := (fun ht => ?_)) (hf := (fun ht => ?_)) <;> (try simp at ht) <;> (try (exfalso; omega))))
  refine ⟨Or.inr rfl, _, _, Ent.refl _, res1 rfl rfl, ?_⟩; exact ⟨rfl, rfl⟩
theorem bstore_spec (p off : Nat) (l l' : List Value) (E : TypeId) (b b0 : Bool) (hx : l[off]? = some (.int .u32 (b32 b0))) (hl : SetAt l off (.int .u32 (b32 b)) l') :
    Fspec Try.prog B 36 #[.pointer (some ⟨p, off, none⟩), .bool b] [cb p l E] (fun v A' => v = .tuple #[] ∧ A' = [cb p l' E]) := by
  have hrun : ∀ w R, Sat B w (R :: [cb p l E]) → ∃ w', (callFunc 51 #[.pointer (some ⟨p, off, none⟩), .int .u32 (b32 b)]).run Try.prog w = .ok (.value (.tuple #[])) w' ∧ Sat B w' (R :: [cb p l' E]) := fun w R hs => by
    have hh := (hs.get (List.mem_cons_of_mem R (List.mem_cons_self ..))).2
    obtain ⟨hlt, rfl⟩ := hl.out
    have hc := cell_of_heap hh hx
    have hz : w.frozen? ⟨p, off, none⟩ = false := by simp [World.frozen?, hh]
    exact ⟨_, store_run hc hz, Upd.head.sat (Io.refl w : Io w (w.setCell _ _)) (setCell_size _).symm (fun x hx => setCell_ne _ hx) (setCell_heap _ hh) hs⟩
  refine spec_of (args := [_, _]) Try.func36 rfl rfl rfl ?_
  repeat' (first
    | refine Wc_seq ?_
    | refine thenQ_normal ?_
    | refine Wc_cond_t (h := ?_)
    | refine Wc_cond_f (h := ?_)
    | refine Wc_ret ?_
    | refine thenQ_ret ?_
    | refine Wc_block ?_
    | refine blkQ_normal ?_
    | refine blkQ_ret ?_
    | refine Wc_exit ?_
    | refine thenQ_exit ?_
    | refine blkQ_hit ?_
    | refine blkQ_miss rfl ?_
    | refine Wc_skip ?_
    | refine Wc_label ?_
    | refine loopQ_exit ?_
    | refine loopQ_ret ?_
    | refine loopQ_normal ?_
    | (refine Wc_drawF (id := 0) (M := ([])) (Ls := []) (hp := (Pick.perm (by (repeat (first | exact Pick.nil | apply Pick.cons (by (repeat (first | exact Out.head | apply Out.tail)); (first | done | fail)))); (first | done | fail)))) (h := ?_); intro K hK; refine Wl_move (k := ?_); refine Wl_nilCheck (k := ?_); refine Wl_fieldAddr (k := ?_); refine Wl_move (k := ?_); ((refine Wl_call (hs := (b32_spec b)) (k := ?_); rintro v A' ⟨rfl, rfl⟩; simp only [List.cons_append, List.nil_append])) <;> (((refine Wl_callX (hrun := hrun) (k := ?_))) <;> ((refine Wl_nil (hK _ _ ?_); clear hK K; try simp only [List.cons_append, List.nil_append]))))
    | (refine Wc_cond (ht := (fun ht => ?_)) (hf := (fun ht => ?_)) <;> (try simp at ht) <;> (try (exfalso; omega))))
  exact ⟨by simp, _, _, Ent.refl _, res0 rfl, rfl, rfl⟩
theorem parts_spec (n : Nat) (h : n ≤ 9223372036854775807) : Fspec Try.prog B 38 #[.int .i64 n] [] (fun v A' => v = .int .i64 (partsN n) ∧ A' = []) := by
  refine spec_of (args := [_]) Try.func38 rfl rfl rfl ?_
  repeat' (first
    | refine Wc_seq ?_
    | refine thenQ_normal ?_
    | refine Wc_cond_t (h := ?_)
    | refine Wc_cond_f (h := ?_)
    | refine Wc_ret ?_
    | refine thenQ_ret ?_
    | refine Wc_block ?_
    | refine blkQ_normal ?_
    | refine blkQ_ret ?_
    | refine Wc_exit ?_
    | refine thenQ_exit ?_
    | refine blkQ_hit ?_
    | refine blkQ_miss rfl ?_
    | refine Wc_skip ?_
    | refine Wc_label ?_
    | refine loopQ_exit ?_
    | refine loopQ_ret ?_
    | refine loopQ_normal ?_
    | (refine Wc_region (id := 0) ?_; intro K hK; refine Wl_assign (k := ?_); (refine Wl_nil (hK _ _ ?_); clear hK K))
    | (refine Wc_region (id := 1) ?_; intro K hK; refine Wl_move (k := ?_); refine Wl_lss (k' := ?_); (refine Wl_nil (hK _ _ ?_); clear hK K))
    | (refine Wc_region (id := 2) ?_; intro K hK; refine Wl_assign (k := ?_); (refine Wl_nil (hK _ _ ?_); clear hK K))
    | (refine Wc_region (id := 3) ?_; intro K hK; refine Wl_move (k := ?_); refine Wl_sub (k' := ?_); ((refine Wl_quo (k' := ?_); rw [quo47 n h])) <;> (refine Wl_add (k' := ?_); refine Wl_max (k' := ?_); refine Wl_assign (k := ?_); (refine Wl_nil (hK _ _ ?_); clear hK K)))
    | (refine Wc_cond (ht := (fun ht => ?_)) (hf := (fun ht => ?_)) <;> (try simp at ht) <;> (try (exfalso; omega))))
  exact ⟨Or.inr rfl, _, [], Ent.nil, res1 rfl rfl, congrArg (Value.int .i64) (by unfold partsN; omega), rfl⟩
theorem number4_spec (A0 : List Asn) (a : Option Addr) (m c : Nat) (b0 b1 b2 b3 : UInt8) (r : List UInt8) (h : RdS Try.prog B A0 1 a m c ((b0 :: b1 :: b2 :: b3 :: r).map byteV)) :
    Fspec Try.prog B 47 #[.slice a m c] A0 (fun v A' => v = .int .i64 (num4 (b0 :: b1 :: b2 :: b3 :: r)) ∧ A' = A0) := by
  have h0 := u8_lt b0; have h1 := u8_lt b1; have h2 := u8_lt b2; have h3 := u8_lt b3
  have hm : 4 ≤ m := by have := h.len; simp at this; omega
  obtain ⟨p, rfl⟩ : ∃ p, a = some p := by
    cases a with
    | none => have := h.nil rfl; omega
    | some p => exact ⟨p, rfl⟩
  refine spec_of (args := [_]) Try.func47 rfl rfl rfl ?_
  repeat' (first
    | refine Wc_seq ?_
    | refine thenQ_normal ?_
    | refine Wc_cond_t (h := ?_)
    | refine Wc_cond_f (h := ?_)
    | refine Wc_ret ?_
    | refine thenQ_ret ?_
    | refine Wc_block ?_
    | refine blkQ_normal ?_
    | refine blkQ_ret ?_
    | refine Wc_exit ?_
    | refine thenQ_exit ?_
    | refine blkQ_hit ?_
    | refine blkQ_miss rfl ?_
    | refine Wc_skip ?_
    | refine Wc_label ?_
    | refine loopQ_exit ?_
    | refine loopQ_ret ?_
    | refine loopQ_normal ?_
    | (refine Wc_region (id := 0) ?_; intro K hK; refine Wl_assign (k := ?_); (refine Wl_nil (hK _ _ ?_); clear hK K))
    | (refine Wc_draw (id := 1) (h := ?_); intro K hK; refine Wl_move (k := ?_); ((refine Wl_index_any (k' := ?_))) <;> (((refine Wl_loadG (v := byteV b0) (j := 0) (hq := rfl) (hr := h) (k := ?_))) <;> (refine Wl_conv (k' := ?_); refine Wl_shl (k' := ?_); refine Wl_move (k := ?_); ((refine Wl_index_any (k' := ?_))) <;> (((refine Wl_loadG (v := byteV b1) (j := 1) (hq := rfl) (hr := h) (k := ?_))) <;> (refine Wl_conv (k' := ?_); refine Wl_shl (k' := ?_); refine Wl_or (k' := ?_); refine Wl_move (k := ?_); ((refine Wl_index_any (k' := ?_))) <;> (((refine Wl_loadG (v := byteV b2) (j := 2) (hq := rfl) (hr := h) (k := ?_))) <;> (refine Wl_conv (k' := ?_); refine Wl_shl (k' := ?_); refine Wl_or (k' := ?_); refine Wl_move (k := ?_); ((refine Wl_index_any (k' := ?_))) <;> (((refine Wl_loadG (v := byteV b3) (j := 3) (hq := rfl) (hr := h) (k := ?_))) <;> (refine Wl_conv (k' := ?_); ((refine Wl_or (k' := ?_); rw [num4_or b0 b1 b2 b3 r])) <;> (refine Wl_assign (k := ?_); (refine Wl_nil (hK _ _ ?_); clear hK K)))))))))))
    | (refine Wc_cond (ht := (fun ht => ?_)) (hf := (fun ht => ?_)) <;> (try simp at ht) <;> (try (exfalso; omega))))
  exact ⟨Or.inr rfl, _, A0, Ent.refl _, res1 rfl rfl, rfl, rfl⟩
theorem jsame_spec (A0 : List Asn) (a b : Option Addr) (m c n c' : Nat) (l u : List UInt8) (h1 : RdS Try.prog B A0 1 a m c (l.map byteV)) (h2 : RdS Try.prog B A0 1 b n c' (u.map byteV)) :
    Fspec Try.prog B 58 #[.slice a m c, .slice b n c'] A0 (fun v A' => v = .bool (decide (l = u)) ∧ A' = A0) := by
  refine spec_of (args := [_, _]) Try.func58 rfl rfl rfl ?_
  repeat' (first
    | refine Wc_seq ?_
    | refine thenQ_normal ?_
    | refine Wc_cond_t (h := ?_)
    | refine Wc_cond_f (h := ?_)
    | refine Wc_ret ?_
    | refine thenQ_ret ?_
    | refine Wc_block ?_
    | refine blkQ_normal ?_
    | refine blkQ_ret ?_
    | refine Wc_exit ?_
    | refine thenQ_exit ?_
    | refine blkQ_hit ?_
    | refine blkQ_miss rfl ?_
    | refine Wc_skip ?_
    | refine Wc_label ?_
    | refine loopQ_exit ?_
    | refine loopQ_ret ?_
    | refine loopQ_normal ?_
    | (refine Wc_region (id := 0) ?_; intro K hK; refine Wl_assign (k := ?_); (refine Wl_nil (hK _ _ ?_); clear hK K))
    | (refine Wc_region (id := 1) ?_; intro K hK; refine Wl_move (k := ?_); ((refine Wl_bytes_str (cs := l) (hsrc := h1.src) (hl := by have := h1.len; simpa using this) (k := ?_))) <;> (refine Wl_move (k := ?_); ((refine Wl_bytes_str (cs := u) (hsrc := h2.src) (hl := by have := h2.len; simpa using this) (k := ?_))) <;> (((refine Wl_str_eql (k' := ?_); rw [bytes_toList, bytes_toList, list_beq])) <;> (refine Wl_assign (k := ?_); (refine Wl_nil (hK _ _ ?_); clear hK K)))))
    | (refine Wc_cond (ht := (fun ht => ?_)) (hf := (fun ht => ?_)) <;> (try simp at ht) <;> (try (exfalso; omega))))
  exact ⟨Or.inr rfl, _, A0, Ent.refl _, res1 rfl rfl, rfl, rfl⟩
theorem sector_spec (A0 : List Asn) (lap number part of : Nat) (a : Option Addr) (m c : Nat) (b : List UInt8) (h : RdS Try.prog B A0 1 a m c (b.map byteV)) (hm : m ≤ 47) :
    Fspec Try.prog B 55 #[.int .i64 lap, .int .i64 number, .int .i64 part, .int .i64 of, .slice a m c] A0
      (fun v A' => ∃ r, v = .slice (some ⟨r, 0, none⟩) 64 64 ∧ A' = cb r ((secL lap number part of b).map byteV) 101 :: A0) := by
  refine spec_of (args := [_, _, _, _, _]) Try.func55 rfl rfl rfl ?_
  repeat' (first
    | refine Wc_seq ?_
    | refine thenQ_normal ?_
    | refine Wc_cond_t (h := ?_)
    | refine Wc_cond_f (h := ?_)
    | refine Wc_ret ?_
    | refine thenQ_ret ?_
    | refine Wc_block ?_
    | refine blkQ_normal ?_
    | refine blkQ_ret ?_
    | refine Wc_exit ?_
    | refine thenQ_exit ?_
    | refine blkQ_hit ?_
    | refine blkQ_miss rfl ?_
    | refine Wc_skip ?_
    | refine Wc_label ?_
    | refine loopQ_exit ?_
    | refine loopQ_ret ?_
    | refine loopQ_normal ?_
    | (refine Wc_region (id := 0) ?_; intro K hK; refine Wl_assign (k := ?_); (refine Wl_nil (hK _ _ ?_); clear hK K))
    | (refine Wc_region (id := 1) ?_; intro K hK; (refine Wl_alloc (k := ?_); intro r); (refine Wl_nil (hK _ _ ?_); clear hK K))
    | (refine Wc_region (id := 2) ?_; intro K hK; refine Wl_assign (k := ?_); (refine Wl_nil (hK _ _ ?_); clear hK K))
    | (refine Wc_cond (ht := (fun ht => ?_)) (hf := (fun ht => ?_)) <;> (try simp at ht) <;> (try (exfalso; omega))))
  have hz : cb r zr64_intu80 101 = cb r ((secI lap number 0).map byteV) 101 := by
    congr 2
  rw [hz]
  refine Wc_loop (α := Nat) (fun i => [(0, .int .i64 lap), (1, .int .i64 number), (2, .int .i64 part), (3, .int .i64 of), (4, .slice a m c), (10, .slice none 0 0), (11, .pointer (some ⟨r, 0, none⟩)), (12, .int .i64 i)])
    (fun i => cb r ((secI lap number i).map byteV) 101 :: A0) (fun i => i ≤ 4) (fun i => 4 - i) 0 (by omega) ⟨rfl, rfl, rfl, rfl, rfl, rfl, rfl, rfl, trivial⟩ (Ent.refl _) ?_
  intro i G hi
  simp only [ov]
  by_cases hlt : i < 4
  · have hl := secI_length lap number i
    repeat' (first
      | refine Wc_seq ?_
      | refine thenQ_normal ?_
      | refine Wc_cond_t (h := ?_)
      | refine Wc_cond_f (h := ?_)
      | refine Wc_ret ?_
      | refine thenQ_ret ?_
      | refine Wc_block ?_
      | refine blkQ_normal ?_
      | refine blkQ_ret ?_
      | refine Wc_exit ?_
      | refine thenQ_exit ?_
      | refine blkQ_hit ?_
      | refine blkQ_miss rfl ?_
      | refine Wc_skip ?_
      | refine Wc_label ?_
      | refine loopQ_exit ?_
      | refine loopQ_ret ?_
      | refine loopQ_normal ?_
      | (refine Wc_region (id := 3) ?_; intro K hK; refine Wl_move (k := ?_); refine Wl_lss (k' := ?_); (refine Wl_nil (hK _ _ ?_); clear hK K))
      | (refine Wc_region (id := 4) ?_; intro K hK; refine Wl_move (k := ?_); refine Wl_add (k' := ?_); refine Wl_assign (k := ?_); (refine Wl_nil (hK _ _ ?_); clear hK K))
      | (refine Wc_drawF (id := 5) (M := ([])) (Ls := [27, 33, 39]) (hp := (Pick.perm (by (repeat (first | exact Pick.nil | apply Pick.cons (by (repeat (first | exact Out.head | apply Out.tail)); (first | done | fail)))); (first | done | fail)))) (h := ?_); intro K hK; refine Wl_move (k := ?_); refine Wl_move (k := ?_); refine Wl_add (k' := ?_); refine Wl_move (k := ?_); refine Wl_add (k' := ?_); refine Wl_move (k := ?_); refine Wl_move (k := ?_); refine Wl_mul (k' := ?_); refine Wl_sub (k' := ?_); refine Wl_shr (k' := ?_); ((refine Wl_convW (k' := ?_); rw [shr_be lap i hlt])) <;> (refine Wl_move (k := ?_); refine Wl_move (k := ?_); refine Wl_mul (k' := ?_); refine Wl_sub (k' := ?_); refine Wl_shr (k' := ?_); ((refine Wl_convW (k' := ?_); rw [shr_be lap i hlt])) <;> (refine Wl_move (k := ?_); refine Wl_move (k := ?_); refine Wl_mul (k' := ?_); refine Wl_sub (k' := ?_); refine Wl_shr (k' := ?_); ((refine Wl_convW (k' := ?_); rw [shr_be number i hlt])) <;> (refine Wl_index_arr (k' := ?_); ((refine Wl_store (l' := ((secI lap number i).set i (be lap (3 - i))).map byteV) (ho := rfl) (hs := sat_map (by simp) (by rw [hl]; omega)) (k := ?_))) <;> (refine Wl_index_arr (k' := ?_); ((refine Wl_store (l' := (((secI lap number i).set i (be lap (3 - i))).set (60 + i) (be lap (3 - i))).map byteV) (ho := rfl) (hs := sat_map (by omega) (by simp [hl]; omega)) (k := ?_))) <;> (refine Wl_index_arr (k' := ?_); ((refine Wl_store (l' := (secI lap number (i + 1)).map byteV) (ho := rfl) (hs := sat_map (by omega) (by simp [hl]; omega)) (k := ?_))) <;> ((refine Wl_nil (hK _ _ ?_); clear hK K; try simp only [List.cons_append, List.nil_append]))))))))
      | (refine Wc_cond (ht := (fun ht => ?_)) (hf := (fun ht => ?_)) <;> (try simp at ht) <;> (try (exfalso; omega))))
    exact ⟨i + 1, by omega, by omega, ⟨rfl, rfl, rfl, rfl, rfl, rfl, rfl, int_succ i, trivial⟩, Ent.refl _⟩
  · obtain rfl : i = 4 := by omega
    have hb : b.length = m := by have := h.len; simpa using this
    have hl := secI_length lap number 4
    subst hb
    repeat' (first
      | refine Wc_seq ?_
      | refine thenQ_normal ?_
      | refine Wc_cond_t (h := ?_)
      | refine Wc_cond_f (h := ?_)
      | refine Wc_ret ?_
      | refine thenQ_ret ?_
      | refine Wc_block ?_
      | refine blkQ_normal ?_
      | refine blkQ_ret ?_
      | refine Wc_exit ?_
      | refine thenQ_exit ?_
      | refine blkQ_hit ?_
      | refine blkQ_miss rfl ?_
      | refine Wc_skip ?_
      | refine Wc_label ?_
      | refine loopQ_exit ?_
      | refine loopQ_ret ?_
      | refine loopQ_normal ?_
      | (refine Wc_region (id := 3) ?_; intro K hK; refine Wl_move (k := ?_); refine Wl_lss (k' := ?_); (refine Wl_nil (hK _ _ ?_); clear hK K))
      | (refine Wc_region (id := 6) ?_; intro K hK; refine Wl_move (k := ?_); refine Wl_shr (k' := ?_); ((refine Wl_convW (k' := ?_); rw [shr8_be part])) <;> (refine Wl_move (k := ?_); ((refine Wl_convW (k' := ?_); rw [be0 part])) <;> (refine Wl_move (k := ?_); refine Wl_shr (k' := ?_); ((refine Wl_convW (k' := ?_); rw [shr8_be of])) <;> (refine Wl_move (k := ?_); ((refine Wl_convW (k' := ?_); rw [be0 of])) <;> (refine Wl_move (k := ?_); refine Wl_len_sl (k' := ?_); ((refine Wl_convW (k' := ?_); rw [be0 b.length])) <;> (refine Wl_index_arr (k' := ?_); ((refine Wl_store (l' := ((secI lap number 4).set 8 (be part 1)).map byteV) (ho := rfl) (hs := sat_map rfl (by rw [hl]; omega)) (k := ?_))) <;> (refine Wl_index_arr (k' := ?_); ((refine Wl_store (l' := (((secI lap number 4).set 8 (be part 1)).set 9 (be part 0)).map byteV) (ho := rfl) (hs := sat_map rfl (by simp [hl])) (k := ?_))) <;> (refine Wl_index_arr (k' := ?_); ((refine Wl_store (l' := ((((secI lap number 4).set 8 (be part 1)).set 9 (be part 0)).set 10 (be of 1)).map byteV) (ho := rfl) (hs := sat_map rfl (by simp [hl])) (k := ?_))) <;> (refine Wl_index_arr (k' := ?_); ((refine Wl_store (l' := (((((secI lap number 4).set 8 (be part 1)).set 9 (be part 0)).set 10 (be of 1)).set 11 (be of 0)).map byteV) (ho := rfl) (hs := sat_map rfl (by simp [hl])) (k := ?_))) <;> (refine Wl_index_arr (k' := ?_); ((refine Wl_store (l' := (secH lap number part of b.length).map byteV) (ho := rfl) (hs := sat_map rfl (by simp [hl])) (k := ?_))) <;> ((refine Wl_nil (hK _ _ ?_); clear hK K))))))))))))
      | (refine Wc_region (id := 7) ?_; intro K hK; ((refine Wl_slice_arr (l := 13) (h := 60) (hlo := ⟨_, rfl⟩) (hhi := ⟨_, rfl⟩) (hlh := by omega) (hhc := by omega) (k' := ?_); rw [if_neg (by omega)])) <;> (refine Wl_move (k := ?_); ((refine Wl_copy (m := b.length) (n := b.length) (vs := b.map byteV) (l' := (secL lap number part of b).map byteV) (hn := Nat.min_eq_left (by omega)) (hsrc := h.src.tail) (hvl := by simp) (hvc := byteV_all _) (ho := by simp [secH, hl]; omega) (hst := setL_sec lap number part of b hm) (ho' := rfl) (hz := rfl) (k := ?_))) <;> ((refine Wl_nil (hK _ _ ?_); clear hK K))))
      | (refine Wc_region (id := 8) ?_; intro K hK; refine Wl_slice_arr0 (k' := ?_); refine Wl_assign (k := ?_); (refine Wl_nil (hK _ _ ?_); clear hK K))
      | (refine Wc_cond (ht := (fun ht => ?_)) (hf := (fun ht => ?_)) <;> (try simp at ht) <;> (try (exfalso; omega))))
    exact ⟨Or.inr rfl, _, _, Ent.refl _, res1 rfl rfl, r, rfl, rfl⟩
end specs
end Go.Proofs.Ytepeljbgekgjcaa
/- Package pack: the Writer. Conditions: what is written is far from the kind's edges. -/
set_option maxHeartbeats 8000000
set_option linter.unusedVariables false
set_option linter.unusedSimpArgs false
set_option maxRecDepth 100000
namespace Go.Proofs.Ytepeljbgekgjcaa
open Go Go.Sl
attribute [local irreducible] Go.Sl.Wl Go.Sl.Wc Go.Sl.thenQ Go.Sl.blkQ Go.Sl.loopQ Go.Sl.Fspec

def WrL (p : Nat) (bs : List UInt8) (a : Option Addr) (c : Nat) : List Asn :=
  [cb p [.slice a bs.length c, .bool false] 122, own a bs.length c 1 (bs.map byteV) 5]
/-- A Writer that has written so far. -/
def WrP (p : Nat) (bs : List UInt8) : Asn := exN fun x : Option Addr × Nat => WrL p bs x.1 x.2
theorem fold_wr {p : Nat} {bs : List UInt8} {a : Option Addr} {c : Nat} {X A0 : List Asn} (h : Ent X (WrL p bs a c ++ A0)) : Ent X (WrP p bs :: A0) :=
  h.trans (Ent.exN_shut (f := fun x : Option Addr × Nat => WrL p bs x.1 x.2) (a, c) A0)
theorem low7 (n : Nat) : Value.int .u8 (((n : Int).tmod 128) + 128) = byteV (UInt8.ofNat (n % 128 + 128)) := by
  have : (UInt8.ofNat (n % 128 + 128)).toNat = n % 128 + 128 := by simp [UInt8.toNat_ofNat']; omega
  unfold byteV; rw [this]
  have : (n : Int).tmod 128 = ((n % 128 : Nat) : Int) := by rw [Int.tmod_eq_emod_of_nonneg (by omega)]; omega
  rw [this]; push_cast; rfl
theorem low7i (n : Nat) : (n : Int).tmod 128 = ((n % 128 : Nat) : Int) := by rw [Int.tmod_eq_emod_of_nonneg (by omega)]; omega
theorem byte_small (n : Nat) (h : n < 128) : Value.int .u8 (n : Int) = byteV (UInt8.ofNat n) := by
  have : (UInt8.ofNat n).toNat = n := by simp [UInt8.toNat_ofNat']; omega
  unfold byteV; rw [this]
theorem quo128 (n : Nat) (h : n ≤ 9007199254740992) : IntKind.i64.wrap ((n : Int).tdiv 128) = ((n / 128 : Nat) : Int) := by
  have : (n : Int).tdiv 128 = ((n / 128 : Nat) : Int) := by rw [Int.tdiv_eq_ediv_of_nonneg (by omega)]; omega
  rw [this]; exact IntWalk.i64_in _ (by omega)
section specs
variable {B : Base}
theorem add_spec (p : Nat) (bs l : List UInt8) (a : Option Addr) (m c : Nat) (A0 : List Asn) (h : RdS Try.prog B A0 1 a m c (l.map byteV)) (hm : bs.length + m ≤ 1000000000) :
    Fspec Try.prog B 57 #[.pointer (some ⟨p, 0, none⟩), .slice a m c] (WrP p bs :: A0) (fun v A' => v = .tuple #[] ∧ A' = WrP p (bs ++ l) :: A0) := by
  have hl : l.length = m := by have := h.len; simpa using this
  refine spec_of (args := [_, _]) Try.func57 rfl rfl rfl ?_
  refine Wc_exN (fun x => ?_)
  obtain ⟨wa, wc⟩ := x
  simp only [WrL]
  simp only [List.cons_append, List.nil_append]
  repeat' (first
    | refine Wc_seq ?_
    | refine thenQ_normal ?_
    | refine Wc_cond_t (h := ?_)
    | refine Wc_cond_f (h := ?_)
    | refine Wc_ret ?_
    | refine thenQ_ret ?_
    | refine Wc_block ?_
    | refine blkQ_normal ?_
    | refine blkQ_ret ?_
    | refine Wc_exit ?_
    | refine thenQ_exit ?_
    | refine blkQ_hit ?_
    | refine blkQ_miss rfl ?_
    | refine Wc_skip ?_
    | refine Wc_label ?_
    | refine loopQ_exit ?_
    | refine loopQ_ret ?_
    | refine loopQ_normal ?_
    | (refine Wc_region (id := 0) ?_; intro K hK; refine Wl_move (k := ?_); refine Wl_move (k := ?_); refine Wl_nilCheck (k := ?_); refine Wl_fieldAddr (k := ?_); refine Wl_load (k := ?_); refine Wl_move (k := ?_); ((refine Wl_appendR (hsrc := h.tail.tail) (hvc := byteV_all _) (hbd := by omega) (k := ?_); intro oa' oc')) <;> (refine Wl_nilCheck (k := ?_); refine Wl_fieldAddr (k := ?_); refine Wl_store (ho := rfl) (k := ?_); (refine Wl_nil (hK _ _ ?_); clear hK K)))
    | (refine Wc_cond (ht := (fun ht => ?_)) (hf := (fun ht => ?_)) <;> (try simp at ht) <;> (try (exfalso; omega))))
  refine ⟨by simp, _, WrP p (bs ++ l) :: A0, fold_wr (a := oa') (c := oc') ?_, res0 rfl, rfl, rfl⟩
  simp only [WrL, List.length_append, hl, List.map_append]
  simp only [List.cons_append, List.nil_append]
  (repeat (first | exact Ent.refl _ | exact Ent.nil | refine Ent.take (by (repeat (first | exact Out.head | apply Out.tail)); (first | done | fail)) ?_ | refine Ent.drop1 ?_))
theorem add1_spec (p : Nat) (bs : List UInt8) (b : UInt8) (r : Nat) (E : TypeId) (hm : bs.length + 1 ≤ 1000000000) :
    Fspec Try.prog B 57 #[.pointer (some ⟨p, 0, none⟩), .slice (some ⟨r, 0, none⟩) 1 1] [WrP p bs, cb r [byteV b] E] (fun v A' => v = .tuple #[] ∧ A' = [WrP p (bs ++ [b]), cb r [byteV b] E]) :=
  add_spec p bs [b] _ 1 1 [cb r [byteV b] E] (rds_sl Rd.head (by simp) (by simp) (by omega)) hm
theorem num_spec (p : Nat) (bs : List UInt8) (n : Nat) (hn : n ≤ 9007199254740992) (hm : bs.length + (encN n).length ≤ 1000000) :
    Fspec Try.prog B 40 #[.pointer (some ⟨p, 0, none⟩), .int .i64 n] [WrP p bs] (fun v A' => v = .tuple #[] ∧ A' = [WrP p (bs ++ encN n)]) := by
  refine spec_of (args := [_, _]) Try.func40 rfl rfl rfl ?_
  refine Wc_exN (fun x => ?_)
  obtain ⟨wa, wc⟩ := x
  simp only [WrL]
  simp only [List.cons_append, List.nil_append]
  repeat' (first
    | refine Wc_seq ?_
    | refine thenQ_normal ?_
    | refine Wc_cond_t (h := ?_)
    | refine Wc_cond_f (h := ?_)
    | refine Wc_ret ?_
    | refine thenQ_ret ?_
    | refine Wc_block ?_
    | refine blkQ_normal ?_
    | refine blkQ_ret ?_
    | refine Wc_exit ?_
    | refine thenQ_exit ?_
    | refine blkQ_hit ?_
    | refine blkQ_miss rfl ?_
    | refine Wc_skip ?_
    | refine Wc_label ?_
    | refine loopQ_exit ?_
    | refine loopQ_ret ?_
    | refine loopQ_normal ?_
    | (refine Wc_region (id := 0) ?_; intro K hK; refine Wl_move (k := ?_); refine Wl_ptr_eq_nil (k' := ?_); (refine Wl_nil (hK _ _ ?_); clear hK K))
    | (refine Wc_region (id := 1) ?_; intro K hK; refine Wl_move (k := ?_); refine Wl_lss (k' := ?_); refine Wl_move (k := ?_); ((first | (refine Wl_guard (k := ?_); refine Wl_move (k := ?_)) | refine Wl_gno (k := ?_) | ((refine Wl_split (yes := (fun ht => ?_)) (no := (fun ht => ?_)) <;> (try simp at ht) <;> (try (exfalso; omega))) <;> (first | (refine Wl_guard (k := ?_); refine Wl_move (k := ?_)) | refine Wl_gno (k := ?_))))) <;> (((first | (refine Wl_guard (k := ?_); refine Wl_gtr (k' := ?_)) | refine Wl_gno (k := ?_) | ((refine Wl_split (yes := (fun ht => ?_)) (no := (fun ht => ?_)) <;> (try simp at ht) <;> (try (exfalso; omega))) <;> (first | (refine Wl_guard (k := ?_); refine Wl_gtr (k' := ?_)) | refine Wl_gno (k := ?_))))) <;> ((first | refine Wl_pick_t (k := ?_) | refine Wl_pick_f (k := ?_) | refine Wl_pick (k := ?_)); (refine Wl_nil (hK _ _ ?_); clear hK K))))
    | (refine Wc_region (id := 2) ?_; intro K hK; refine Wl_move (k := ?_); refine Wl_nilCheck (k := ?_); refine Wl_fieldAddr (k := ?_); refine Wl_fieldAddr (k := ?_); refine Wl_store (ho := rfl) (k := ?_); (refine Wl_nil (hK _ _ ?_); clear hK K))
    | (refine Wc_region (id := 3) ?_; intro K hK; refine Wl_move (k := ?_); refine Wl_nilCheck (k := ?_); refine Wl_fieldAddr (k := ?_); refine Wl_fieldAddr (k := ?_); refine Wl_load (k := ?_); (refine Wl_nil (hK _ _ ?_); clear hK K))
    | (refine Wc_cond (ht := (fun ht => ?_)) (hf := (fun ht => ?_)) <;> (try simp at ht) <;> (try (exfalso; omega))))
  refine Wc_loop (α := List UInt8 × Nat) (fun g => [(0, .pointer (some ⟨p, 0, none⟩)), (1, .int .i64 g.2)]) (fun g => [WrP p g.1])
    (fun g => g.1 ++ encN g.2 = bs ++ encN n ∧ g.2 ≤ 9007199254740992) (fun g => g.2) (bs, n) ⟨rfl, hn⟩ ⟨rfl, rfl, trivial⟩ (fold_wr (a := wa) (c := wc) (Ent.refl _)) ?_
  rintro ⟨cs, i⟩ G ⟨h1, h2⟩
  simp only [ov] at h1 h2 ⊢
  have hlen := congrArg List.length h1
  have hpos := encN_pos i
  simp only [List.length_append] at hlen
  by_cases hi : 128 ≤ i
  · rw [encN_big hi] at h1
    repeat' (first
      | refine Wc_seq ?_
      | refine thenQ_normal ?_
      | refine Wc_cond_t (h := ?_)
      | refine Wc_cond_f (h := ?_)
      | refine Wc_ret ?_
      | refine thenQ_ret ?_
      | refine Wc_block ?_
      | refine blkQ_normal ?_
      | refine blkQ_ret ?_
      | refine Wc_exit ?_
      | refine thenQ_exit ?_
      | refine blkQ_hit ?_
      | refine blkQ_miss rfl ?_
      | refine Wc_skip ?_
      | refine Wc_label ?_
      | refine loopQ_exit ?_
      | refine loopQ_ret ?_
      | refine loopQ_normal ?_
      | (refine Wc_region (id := 4) ?_; intro K hK; refine Wl_move (k := ?_); refine Wl_geq (k' := ?_); (refine Wl_nil (hK _ _ ?_); clear hK K))
      | (refine Wc_region (id := 5) ?_; intro K hK; refine Wl_move (k := ?_); refine Wl_nilCheck (k := ?_); refine Wl_fieldAddr (k := ?_); refine Wl_move (k := ?_); ((refine Wl_rem (hb := by decide) (k' := ?_); rw [low7i])) <;> (refine Wl_conv (k' := ?_); ((refine Wl_add (k' := ?_); rw [← low7i, low7])) <;> (((refine Wl_lit1 (cs := [byteV (UInt8.ofNat (i % 128 + 128))]) (k := ?_); intro r)) <;> (((refine Wl_call (hs := add1_spec p cs (UInt8.ofNat (i % 128 + 128)) r _ (by omega)) (k := ?_); rintro v A' ⟨rfl, rfl⟩; simp only [List.cons_append, List.nil_append])) <;> ((refine Wl_nil (hK _ _ ?_); clear hK K))))))
      | (refine Wc_region (id := 6) ?_; intro K hK; refine Wl_move (k := ?_); ((refine Wl_quo (hb := by decide) (k' := ?_); rw [quo128 _ h2])) <;> (refine Wl_assign (k := ?_); (refine Wl_nil (hK _ _ ?_); clear hK K)))
      | (refine Wc_cond (ht := (fun ht => ?_)) (hf := (fun ht => ?_)) <;> (try simp at ht) <;> (try (exfalso; omega))))
    refine ⟨(cs ++ [UInt8.ofNat (i % 128 + 128)], i / 128), ⟨by simpa using h1, by show i / 128 ≤ _; omega⟩, by show i / 128 < i; omega, ⟨rfl, rfl, trivial⟩, ?_⟩
    (repeat (first | exact Ent.refl _ | exact Ent.nil | refine Ent.take (by (repeat (first | exact Out.head | apply Out.tail)); (first | done | fail)) ?_ | refine Ent.drop1 ?_))
  · rw [encN_small (by omega)] at h1
    repeat' (first
      | refine Wc_seq ?_
      | refine thenQ_normal ?_
      | refine Wc_cond_t (h := ?_)
      | refine Wc_cond_f (h := ?_)
      | refine Wc_ret ?_
      | refine thenQ_ret ?_
      | refine Wc_block ?_
      | refine blkQ_normal ?_
      | refine blkQ_ret ?_
      | refine Wc_exit ?_
      | refine thenQ_exit ?_
      | refine blkQ_hit ?_
      | refine blkQ_miss rfl ?_
      | refine Wc_skip ?_
      | refine Wc_label ?_
      | refine loopQ_exit ?_
      | refine loopQ_ret ?_
      | refine loopQ_normal ?_
      | (refine Wc_region (id := 4) ?_; intro K hK; refine Wl_move (k := ?_); refine Wl_geq (k' := ?_); (refine Wl_nil (hK _ _ ?_); clear hK K))
      | (refine Wc_region (id := 7) ?_; intro K hK; refine Wl_move (k := ?_); refine Wl_nilCheck (k := ?_); refine Wl_fieldAddr (k := ?_); refine Wl_move (k := ?_); ((refine Wl_conv (k' := ?_); rw [byte_small _ (by omega)])) <;> (((refine Wl_lit1 (cs := [byteV (UInt8.ofNat i)]) (k := ?_); intro r)) <;> (((refine Wl_call (hs := add1_spec p cs (UInt8.ofNat i) r _ (by omega)) (k := ?_); rintro v A' ⟨rfl, rfl⟩; simp only [List.cons_append, List.nil_append])) <;> ((refine Wl_nil (hK _ _ ?_); clear hK K)))))
      | (refine Wc_cond (ht := (fun ht => ?_)) (hf := (fun ht => ?_)) <;> (try simp at ht) <;> (try (exfalso; omega))))
    refine ⟨by simp, _, [WrP p (bs ++ encN n)], ?_, res0 rfl, rfl, rfl⟩
    rw [← h1]
    (repeat (first | exact Ent.refl _ | exact Ent.nil | refine Ent.take (by (repeat (first | exact Out.head | apply Out.tail)); (first | done | fail)) ?_ | refine Ent.drop1 ?_))
theorem flag_spec (p : Nat) (bs : List UInt8) (on : Bool) (hm : bs.length ≤ 1000000 - 1) :
    Fspec Try.prog B 41 #[.pointer (some ⟨p, 0, none⟩), .bool on] [WrP p bs] (fun v A' => v = .tuple #[] ∧ A' = [WrP p (bs ++ encN (if on then 1 else 0))]) := by
  have e1 : (encN 1).length = 1 := by rw [encN_small (by omega)]; rfl
  have e0 : (encN 0).length = 1 := by rw [encN_small (by omega)]; rfl
  refine spec_of (args := [_, _]) Try.func41 rfl rfl rfl ?_
  cases on
  · repeat' (first
      | refine Wc_seq ?_
      | refine thenQ_normal ?_
      | refine Wc_cond_t (h := ?_)
      | refine Wc_cond_f (h := ?_)
      | refine Wc_ret ?_
      | refine thenQ_ret ?_
      | refine Wc_block ?_
      | refine blkQ_normal ?_
      | refine blkQ_ret ?_
      | refine Wc_exit ?_
      | refine thenQ_exit ?_
      | refine blkQ_hit ?_
      | refine blkQ_miss rfl ?_
      | refine Wc_skip ?_
      | refine Wc_label ?_
      | refine loopQ_exit ?_
      | refine loopQ_ret ?_
      | refine loopQ_normal ?_
      | (refine Wc_region (id := 0) ?_; intro K hK; refine Wl_move (k := ?_); (refine Wl_nil (hK _ _ ?_); clear hK K))
      | (refine Wc_region (id := 1) ?_; intro K hK; refine Wl_move (k := ?_))
      | (refine Wc_region (id := 2) ?_; intro K hK; refine Wl_move (k := ?_); ((refine Wl_call (hs := num_spec p bs 0 (by omega) (by omega)) (k := ?_); rintro v A' ⟨rfl, rfl⟩; simp only [List.cons_append, List.nil_append])) <;> ((refine Wl_nil (hK _ _ ?_); clear hK K)))
      | (refine Wc_cond (ht := (fun ht => ?_)) (hf := (fun ht => ?_)) <;> (try simp at ht) <;> (try (exfalso; omega))))
    exact ⟨by simp, _, _, Ent.refl _, res0 rfl, rfl, rfl⟩
  · repeat' (first
      | refine Wc_seq ?_
      | refine thenQ_normal ?_
      | refine Wc_cond_t (h := ?_)
      | refine Wc_cond_f (h := ?_)
      | refine Wc_ret ?_
      | refine thenQ_ret ?_
      | refine Wc_block ?_
      | refine blkQ_normal ?_
      | refine blkQ_ret ?_
      | refine Wc_exit ?_
      | refine thenQ_exit ?_
      | refine blkQ_hit ?_
      | refine blkQ_miss rfl ?_
      | refine Wc_skip ?_
      | refine Wc_label ?_
      | refine loopQ_exit ?_
      | refine loopQ_ret ?_
      | refine loopQ_normal ?_
      | (refine Wc_region (id := 0) ?_; intro K hK; refine Wl_move (k := ?_); (refine Wl_nil (hK _ _ ?_); clear hK K))
      | (refine Wc_region (id := 1) ?_; intro K hK; refine Wl_move (k := ?_); ((refine Wl_call (hs := num_spec p bs 1 (by omega) (by omega)) (k := ?_); rintro v A' ⟨rfl, rfl⟩; simp only [List.cons_append, List.nil_append])) <;> ((refine Wl_nil (hK _ _ ?_); clear hK K)))
      | (refine Wc_region (id := 2) ?_; intro K hK; refine Wl_move (k := ?_))
      | (refine Wc_cond (ht := (fun ht => ?_)) (hf := (fun ht => ?_)) <;> (try simp at ht) <;> (try (exfalso; omega))))
    exact ⟨by simp, _, _, Ent.refl _, res0 rfl, rfl, rfl⟩
theorem wbytes_spec (p : Nat) (bs : List UInt8) (hm : bs.length ≤ 1000000) :
    Fspec Try.prog B 42 #[.pointer (some ⟨p, 0, none⟩)] [WrP p bs]
      (fun v A' => ∃ a c, v = .tuple #[.slice a bs.length c, .int .i64 0] ∧ A' = [own a bs.length c 1 (bs.map byteV) 5, WrP p bs]) := by
  refine spec_of (args := [_]) Try.func42 rfl rfl rfl ?_
  refine Wc_exN (fun x => ?_)
  obtain ⟨wa, wc⟩ := x
  simp only [WrL]
  simp only [List.cons_append, List.nil_append]
  refine Wc_ownF (a := wa) (sz := 1) (h0 := by omega) (h := fun hf => ?_)
  repeat' (first
    | refine Wc_seq ?_
    | refine thenQ_normal ?_
    | refine Wc_cond_t (h := ?_)
    | refine Wc_cond_f (h := ?_)
    | refine Wc_ret ?_
    | refine thenQ_ret ?_
    | refine Wc_block ?_
    | refine blkQ_normal ?_
    | refine blkQ_ret ?_
    | refine Wc_exit ?_
    | refine thenQ_exit ?_
    | refine blkQ_hit ?_
    | refine blkQ_miss rfl ?_
    | refine Wc_skip ?_
    | refine Wc_label ?_
    | refine loopQ_exit ?_
    | refine loopQ_ret ?_
    | refine loopQ_normal ?_
    | (refine Wc_region (id := 0) ?_; intro K hK; refine Wl_assign (k := ?_); refine Wl_assign (k := ?_); (refine Wl_nil (hK _ _ ?_); clear hK K))
    | (refine Wc_region (id := 1) ?_; intro K hK; refine Wl_move (k := ?_); refine Wl_ptr_eq_nil (k' := ?_); refine Wl_move (k := ?_); ((first | (refine Wl_guard (k := ?_); refine Wl_move (k := ?_)) | refine Wl_gno (k := ?_) | ((refine Wl_split (yes := (fun ht => ?_)) (no := (fun ht => ?_)) <;> (try simp at ht) <;> (try (exfalso; omega))) <;> (first | (refine Wl_guard (k := ?_); refine Wl_move (k := ?_)) | refine Wl_gno (k := ?_))))) <;> (((first | (refine Wl_guard (k := ?_); refine Wl_nilCheck (k := ?_)) | refine Wl_gno (k := ?_) | ((refine Wl_split (yes := (fun ht => ?_)) (no := (fun ht => ?_)) <;> (try simp at ht) <;> (try (exfalso; omega))) <;> (first | (refine Wl_guard (k := ?_); refine Wl_nilCheck (k := ?_)) | refine Wl_gno (k := ?_))))) <;> (((first | (refine Wl_guard (k := ?_); refine Wl_fieldAddr (k := ?_)) | refine Wl_gno (k := ?_) | ((refine Wl_split (yes := (fun ht => ?_)) (no := (fun ht => ?_)) <;> (try simp at ht) <;> (try (exfalso; omega))) <;> (first | (refine Wl_guard (k := ?_); refine Wl_fieldAddr (k := ?_)) | refine Wl_gno (k := ?_))))) <;> (((first | (refine Wl_guard (k := ?_); refine Wl_fieldAddr (k := ?_)) | refine Wl_gno (k := ?_) | ((refine Wl_split (yes := (fun ht => ?_)) (no := (fun ht => ?_)) <;> (try simp at ht) <;> (try (exfalso; omega))) <;> (first | (refine Wl_guard (k := ?_); refine Wl_fieldAddr (k := ?_)) | refine Wl_gno (k := ?_))))) <;> (((first | (refine Wl_guard (k := ?_); refine Wl_load (k := ?_)) | refine Wl_gno (k := ?_) | ((refine Wl_split (yes := (fun ht => ?_)) (no := (fun ht => ?_)) <;> (try simp at ht) <;> (try (exfalso; omega))) <;> (first | (refine Wl_guard (k := ?_); refine Wl_load (k := ?_)) | refine Wl_gno (k := ?_))))) <;> ((first | refine Wl_pick_t (k := ?_) | refine Wl_pick_f (k := ?_) | refine Wl_pick (k := ?_)); (refine Wl_nil (hK _ _ ?_); clear hK K)))))))
    | (refine Wc_region (id := 2) ?_; intro K hK; refine Wl_assign (k := ?_); refine Wl_assign (k := ?_); (refine Wl_nil (hK _ _ ?_); clear hK K))
    | (refine Wc_region (id := 3) ?_; intro K hK; (refine Wl_lit0o (k := ?_); intro r); refine Wl_move (k := ?_); refine Wl_nilCheck (k := ?_); refine Wl_fieldAddr (k := ?_); refine Wl_fieldAddr (k := ?_); refine Wl_load (k := ?_); ((refine Wl_appendR (hsrc := hf.rd (by (repeat (first | exact Out.head | apply Out.tail)); (first | done | fail))) (hvc := byteV_all _) (hbd := by omega) (k := ?_); intro oa' oc')) <;> (refine Wl_assign (k := ?_); refine Wl_assign (k := ?_); (refine Wl_nil (hK _ _ ?_); clear hK K)))
    | (refine Wc_cond (ht := (fun ht => ?_)) (hf := (fun ht => ?_)) <;> (try simp at ht) <;> (try (exfalso; omega))))
  refine ⟨Or.inr rfl, _, [own oa' bs.length oc' 1 (bs.map byteV) 5, WrP p bs], ?_, res2 rfl rfl rfl, oa', oc', congrArg (fun k => Value.tuple #[.slice oa' k oc', .int .i64 0]) (Nat.zero_add _), rfl⟩
  refine Ent.trans ?_ (Ent.perm (List.Perm.swap ..))
  refine fold_wr (a := wa) (c := wc) ?_
  simp only [WrL, Nat.zero_add]
  simp only [List.cons_append, List.nil_append]
  (repeat (first | exact Ent.refl _ | exact Ent.nil | refine Ent.take (by (repeat (first | exact Out.head | apply Out.tail)); (first | done | fail)) ?_ | refine Ent.drop1 ?_))
end specs
end Go.Proofs.Ytepeljbgekgjcaa
/- Rows of structs in one list of cells. No condition. -/
set_option maxHeartbeats 8000000
set_option linter.unusedVariables false
set_option linter.unusedSimpArgs false
set_option maxRecDepth 100000
namespace Go.Proofs.Ytepeljbgekgjcaa
open Go Go.Sl
attribute [local irreducible] Go.Sl.Wl Go.Sl.Wc Go.Sl.thenQ Go.Sl.blkQ Go.Sl.loopQ Go.Sl.Fspec

theorem flatMap_row {α : Type} {f : α → List Value} {sz : Nat} : ∀ {l : List α} {j : Nat} {q : α}, (∀ x ∈ l, (f x).length = sz) → l[j]? = some q → ((l.flatMap f).drop (j * sz)).take sz = f q
  | x :: l, 0, q, h, hj => by
    simp at hj; subst hj
    rw [List.flatMap_cons, Nat.zero_mul, List.drop_zero, List.take_append_of_le_length (by rw [h x (List.mem_cons_self ..)]; omega), List.take_of_length_le (by rw [h x (List.mem_cons_self ..)]; omega)]
  | x :: l, j + 1, q, h, hj => by
    have hx := h x (List.mem_cons_self ..)
    have := flatMap_row (l := l) (j := j) (q := q) (fun y hy => h y (List.mem_cons_of_mem _ hy)) (by simpa using hj)
    rw [List.flatMap_cons, show (j + 1) * sz = (f x).length + j * sz by rw [hx, Nat.add_mul, Nat.one_mul]; omega, ← List.drop_drop, List.drop_left]
    exact this
theorem flatMap_cell {α : Type} {f : α → List Value} {sz : Nat} {l : List α} {j r : Nat} {q : α} {v : Value} (h : ∀ x ∈ l, (f x).length = sz) (hj : l[j]? = some q) (hr : r < sz) (hv : (f q)[r]? = some v) : (l.flatMap f)[j * sz + r]? = some v := by
  have h1 := flatMap_row h hj
  rw [← List.getElem?_drop, ← hv, ← h1, List.getElem?_take, if_pos hr]
end Go.Proofs.Ytepeljbgekgjcaa
/- Package control: what lasts as a record; package pos: which tables are right. Conditions: none but the kinds' bounds. -/
set_option maxHeartbeats 8000000
set_option linter.unusedVariables false
set_option linter.unusedSimpArgs false
set_option maxRecDepth 100000
namespace Go.Proofs.Ytepeljbgekgjcaa
open Go Go.Sl
attribute [local irreducible] Go.Sl.Wl Go.Sl.Wc Go.Sl.thenQ Go.Sl.blkQ Go.Sl.loopQ Go.Sl.Fspec

def epC (e : Ep) : List Value := [.int .i64 e.master, .int .i64 e.cut, .bool e.forced]
def epsC (t : List Ep) : List Value := t.flatMap epC
theorem epsC_len (t : List Ep) : (epsC t).length = t.length * 3 := by
  induction t with
  | nil => rfl
  | cons e t ih => simp only [epsC] at ih; simp [epsC, epC, ih]; omega
theorem epsC_row {t : List Ep} {k : Nat} {e : Ep} (h : t[k]? = some e) : ((epsC t).drop (k * 3)).take 3 = epC e := flatMap_row (fun _ _ => rfl) h
theorem epsC_cell {t : List Ep} {k r : Nat} {e : Ep} {v : Value} (h : t[k]? = some e) (hr : r < 3) (hv : (epC e)[r]? = some v) : (epsC t)[k * 3 + r]? = some v := flatMap_cell (fun _ _ => rfl) h hr hv
theorem epsC_all (t : List Ep) : (epsC t).all isCell = true := by
  induction t with
  | nil => rfl
  | cons e t ih => simp only [epsC] at ih; simp [epsC, epC, ih, isCell]
theorem epsC_append (t u : List Ep) : epsC (t ++ u) = epsC t ++ epsC u := by simp [epsC]
def Ep.fair (e : Ep) : Prop := 1 ≤ e.master ∧ e.master ≤ 4 ∧ 0 ≤ e.cut ∧ e.cut ≤ 512
instance (e : Ep) : Decidable e.fair := by unfold Ep.fair; infer_instance
/-- Which tables are right. -/
def rightT (t : List Ep) : Bool := match t with
  | [] => false
  | e :: l => decide ((e :: l).length ≤ 64) && decide (e.cut = 0) && !e.forced && (e :: l).all (fun x => decide x.fair)
theorem rightT_out {t : List Ep} (h : rightT t = true) : 0 < t.length ∧ t.length ≤ 64 ∧ (∀ e ∈ t, e.fair) ∧ ∃ e, t[0]? = some e ∧ e.cut = 0 ∧ e.forced = false := by
  cases t with
  | nil => simp [rightT] at h
  | cons e l =>
    simp only [rightT, Bool.and_eq_true, decide_eq_true_eq, Bool.not_eq_true', List.all_eq_true] at h
    exact ⟨by simp, h.1.1.1, h.2, e, rfl, h.1.1.2, h.1.2⟩
theorem rightT_in {t : List Ep} (h0 : 0 < t.length) (h1 : t.length ≤ 64) (h2 : ∀ e ∈ t, e.fair) (h3 : ∀ e, t[0]? = some e → e.cut = 0 ∧ e.forced = false) : rightT t = true := by
  cases t with
  | nil => simp at h0
  | cons e l =>
    simp only [rightT, Bool.and_eq_true, decide_eq_true_eq, Bool.not_eq_true', List.all_eq_true]
    exact ⟨⟨⟨h1, (h3 e rfl).1⟩, (h3 e rfl).2⟩, h2⟩
theorem fair_enc {e : Ep} (h : e.fair) : e.master.toNat < 16384 ∧ e.cut.toNat < 16384 := by unfold Ep.fair at h; omega
section specs
variable {B : Base}
theorem numI_spec (p : Nat) (bs : List UInt8) (n : Int) (hn : 0 ≤ n ∧ n ≤ 9007199254740992) (hm : bs.length + (encN n.toNat).length ≤ 1000000) :
    Fspec Try.prog B 40 #[.pointer (some ⟨p, 0, none⟩), .int .i64 n] [WrP p bs] (fun v A' => v = .tuple #[] ∧ A' = [WrP p (bs ++ encN n.toNat)]) := by
  have h := num_spec (B := B) p bs n.toNat (by omega) hm
  rwa [Int.toNat_of_nonneg hn.1] at h
theorem kbytes_spec (A0 : List Asn) (t : List Ep) (kind target : Int) (a : Option Addr) (c : Nat) (h : RdS Try.prog B A0 3 a t.length c (epsC t)) (hl : t.length ≤ 64) (ht : ∀ e ∈ t, e.fair) (hk : 0 ≤ kind ∧ kind ≤ 1000) (hg : 0 ≤ target ∧ target ≤ 1000) :
    Fspec Try.prog B 22 #[.agg #[.slice a t.length c, .int .i64 kind, .int .i64 target]] A0
      (fun v A' => ∃ b c', v = .slice b (encK t kind target).length c' ∧ A' = own b (encK t kind target).length c' 1 ((encK t kind target).map byteV) 5 :: A0) := by
  have hlen := encK_len (t := t) (kind := kind) (target := target) (fun e he => fair_enc (ht e he)) (by omega) (by omega) (by omega)
  have hlE := fun k => encT_len (t := t.take k) (fun e he => fair_enc (ht e (List.mem_of_mem_take he)))
  have hl2 := encN_len2 (n := t.length) (by omega)
  refine spec_of (args := [_]) Try.func22 rfl rfl rfl ?_
  repeat' (first
    | refine Wc_seq ?_
    | refine thenQ_normal ?_
    | refine Wc_cond_t (h := ?_)
    | refine Wc_cond_f (h := ?_)
    | refine Wc_ret ?_
    | refine thenQ_ret ?_
    | refine Wc_block ?_
    | refine blkQ_normal ?_
    | refine blkQ_ret ?_
    | refine Wc_exit ?_
    | refine thenQ_exit ?_
    | refine blkQ_hit ?_
    | refine blkQ_miss rfl ?_
    | refine Wc_skip ?_
    | refine Wc_label ?_
    | refine loopQ_exit ?_
    | refine loopQ_ret ?_
    | refine loopQ_normal ?_
    | (refine Wc_region (id := 0) ?_; intro K hK; ((refine Wl_boxAgg (l := [.slice a t.length c, .int .i64 kind, .int .i64 target]) (k := ?_); intro kr)) <;> (refine Wl_assign (k := ?_); (refine Wl_nil (hK _ _ ?_); clear hK K)))
    | (refine Wc_region (id := 1) ?_; intro K hK; refine Wl_build (k := ?_); ((refine Wl_boxAgg (l := [.slice none 0 0, .bool false]) (k := ?_); intro wr; refine Wl_ent (Ent.trans (own_nil 1 5 _) ((Ent.perm (List.Perm.swap ..)).trans (fold_wr (bs := []) (a := none) (c := 0) (Ent.refl _)))) ?_)) <;> (refine Wl_assign (k := ?_); (refine Wl_nil (hK _ _ ?_); clear hK K)))
    | (refine Wc_region (id := 2) ?_; intro K hK; refine Wl_move (k := ?_); refine Wl_fieldAddr (k := ?_); refine Wl_load (k := ?_); refine Wl_len_sl (k' := ?_); ((refine Wl_call (hs := num_spec wr [] t.length (by omega) (by simp; omega)) (k := ?_); rintro v A' ⟨rfl, rfl⟩; simp only [List.cons_append, List.nil_append])) <;> ((refine Wl_nil (hK _ _ ?_); clear hK K)))
    | (refine Wc_region (id := 3) ?_; intro K hK; refine Wl_fieldAddr (k := ?_); refine Wl_load (k := ?_); refine Wl_len_sl (k' := ?_); refine Wl_move (k := ?_); (refine Wl_nil (hK _ _ ?_); clear hK K))
    | (refine Wc_cond (ht := (fun ht => ?_)) (hf := (fun ht => ?_)) <;> (try simp at ht) <;> (try (exfalso; omega))))
  refine Wc_loop (α := Nat) (fun k => [(1, .pointer (some ⟨kr, 0, none⟩)), (3, .pointer (some ⟨wr, 0, none⟩)), (16, .slice a t.length c), (17, .int .i64 t.length), (18, .int .i64 k)])
    (fun k => WrP wr (encN t.length ++ (t.take k).flatMap encE) :: cb kr [.slice a t.length c, .int .i64 kind, .int .i64 target] 83 :: A0) (fun k => k ≤ t.length) (fun k => t.length - k) 0 (by omega) ⟨rfl, rfl, rfl, rfl, rfl, trivial⟩ ?_ ?_
  · simp only [List.take_zero, List.flatMap_nil, List.append_nil]
    exact Ent.refl _
  intro k G hk
  simp only [ov]
  have hk1 := hlE k
  have hk2 : (t.take k).length ≤ 64 := by rw [List.length_take]; omega
  have hpre : (encN t.length ++ (t.take k).flatMap encE).length ≤ 400 := by rw [List.length_append]; omega
  by_cases hlt : k < t.length
  · obtain ⟨e, he⟩ : ∃ e, t[k]? = some e := ⟨_, List.getElem?_eq_getElem hlt⟩
    have hf := ht e (List.mem_of_getElem? he)
    have hfe := encE_len (fair_enc hf).1 (fair_enc hf).2
    unfold Ep.fair at hf
    simp only [encE, List.length_append] at hfe
    have hnext : encN t.length ++ (t.take (k + 1)).flatMap encE = encN t.length ++ (t.take k).flatMap encE ++ encN e.master.toNat ++ encN e.cut.toNat ++ encN (if e.forced then 1 else 0) := by
      rw [List.take_add_one, he]
      simp [encE]
    obtain ⟨q, rfl⟩ : ∃ q, a = some q := by
      cases a with
      | none => have := h.nil rfl; omega
      | some q => exact ⟨q, rfl⟩
    generalize hb0 : encN t.length ++ (t.take k).flatMap encE = b0 at hpre hnext ⊢
    have hb1 : (b0 ++ encN e.master.toNat).length ≤ 410 := by rw [List.length_append]; omega
    have hb2 : (b0 ++ encN e.master.toNat ++ encN e.cut.toNat).length ≤ 420 := by rw [List.length_append, List.length_append]; omega
    repeat' (first
      | refine Wc_seq ?_
      | refine thenQ_normal ?_
      | refine Wc_cond_t (h := ?_)
      | refine Wc_cond_f (h := ?_)
      | refine Wc_ret ?_
      | refine thenQ_ret ?_
      | refine Wc_block ?_
      | refine blkQ_normal ?_
      | refine blkQ_ret ?_
      | refine Wc_exit ?_
      | refine thenQ_exit ?_
      | refine blkQ_hit ?_
      | refine blkQ_miss rfl ?_
      | refine Wc_skip ?_
      | refine Wc_label ?_
      | refine loopQ_exit ?_
      | refine loopQ_ret ?_
      | refine loopQ_normal ?_
      | (refine Wc_region (id := 4) ?_; intro K hK; refine Wl_lss (k' := ?_); (refine Wl_nil (hK _ _ ?_); clear hK K))
      | (refine Wc_region (id := 5) ?_; intro K hK; ((refine Wl_index_any (k' := ?_))) <;> (((refine Wl_loadAggG (j := k * 3) (cs := epC e) (hq := by simp) (hr := h.tail.tail) (hv := epsC_row he) (k := ?_))) <;> (((refine Wl_alloc (k := ?_); intro er)) <;> (refine Wl_storeR (ho' := rfl) (k := ?_); (refine Wl_nil (hK _ _ ?_); clear hK K)))))
      | (refine Wc_region (id := 6) ?_; intro K hK; refine Wl_move (k := ?_); refine Wl_fieldAddr (k := ?_); refine Wl_load (k := ?_); ((refine Wl_call (hs := numI_spec wr b0 e.master (by omega) (by omega)) (k := ?_); rintro v A' ⟨rfl, rfl⟩; simp only [List.cons_append, List.nil_append])) <;> ((refine Wl_nil (hK _ _ ?_); clear hK K)))
      | (refine Wc_region (id := 7) ?_; intro K hK; refine Wl_move (k := ?_); refine Wl_fieldAddr (k := ?_); refine Wl_load (k := ?_); ((refine Wl_call (hs := numI_spec wr (b0 ++ encN e.master.toNat) e.cut (by omega) (by omega)) (k := ?_); rintro v A' ⟨rfl, rfl⟩; simp only [List.cons_append, List.nil_append])) <;> ((refine Wl_nil (hK _ _ ?_); clear hK K)))
      | (refine Wc_region (id := 8) ?_; intro K hK; refine Wl_move (k := ?_); refine Wl_fieldAddr (k := ?_); refine Wl_load (k := ?_); ((refine Wl_call (hs := flag_spec wr (b0 ++ encN e.master.toNat ++ encN e.cut.toNat) e.forced (by omega)) (k := ?_); rintro v A' ⟨rfl, rfl⟩; simp only [List.cons_append, List.nil_append])) <;> ((refine Wl_nil (hK _ _ ?_); clear hK K)))
      | (refine Wc_region (id := 9) ?_; intro K hK; refine Wl_add (k' := ?_); refine Wl_move (k := ?_); (refine Wl_nil (hK _ _ ?_); clear hK K))
      | (refine Wc_cond (ht := (fun ht => ?_)) (hf := (fun ht => ?_)) <;> (try simp at ht) <;> (try (exfalso; omega))))
    refine ⟨k + 1, by omega, by omega, ⟨rfl, rfl, rfl, rfl, int_succ k, trivial⟩, ?_⟩
    rw [hnext]
    (repeat (first | exact Ent.refl _ | exact Ent.nil | refine Ent.take (by (repeat (first | exact Out.head | apply Out.tail)); (first | done | fail)) ?_ | refine Ent.drop1 ?_))
  · obtain rfl : k = t.length := by omega
    rw [List.take_length] at hpre ⊢
    have hk2 := encN_len2 (n := kind.toNat) (by omega)
    have hg2 := encN_len2 (n := target.toNat) (by omega)
    have hfin : encK t kind target = encN t.length ++ t.flatMap encE ++ encN kind.toNat ++ encN target.toNat := by simp [encK]
    generalize hb0 : encN t.length ++ t.flatMap encE = b0 at hpre hfin ⊢
    rw [hfin]
    have hb1 : (b0 ++ encN kind.toNat).length ≤ 410 := by rw [List.length_append]; omega
    have hb2 : (b0 ++ encN kind.toNat ++ encN target.toNat).length ≤ 420 := by rw [List.length_append, List.length_append]; omega
    repeat' (first
      | refine Wc_seq ?_
      | refine thenQ_normal ?_
      | refine Wc_cond_t (h := ?_)
      | refine Wc_cond_f (h := ?_)
      | refine Wc_ret ?_
      | refine thenQ_ret ?_
      | refine Wc_block ?_
      | refine blkQ_normal ?_
      | refine blkQ_ret ?_
      | refine Wc_exit ?_
      | refine thenQ_exit ?_
      | refine blkQ_hit ?_
      | refine blkQ_miss rfl ?_
      | refine Wc_skip ?_
      | refine Wc_label ?_
      | refine loopQ_exit ?_
      | refine loopQ_ret ?_
      | refine loopQ_normal ?_
      | (refine Wc_region (id := 4) ?_; intro K hK; refine Wl_lss (k' := ?_); (refine Wl_nil (hK _ _ ?_); clear hK K))
      | (refine Wc_region (id := 10) ?_; intro K hK; refine Wl_move (k := ?_); refine Wl_fieldAddr (k := ?_); refine Wl_fieldAddr (k := ?_); refine Wl_load (k := ?_); ((refine Wl_call (hs := numI_spec wr b0 kind (by omega) (by omega)) (k := ?_); rintro v A' ⟨rfl, rfl⟩; simp only [List.cons_append, List.nil_append])) <;> ((refine Wl_nil (hK _ _ ?_); clear hK K)))
      | (refine Wc_region (id := 11) ?_; intro K hK; refine Wl_move (k := ?_); refine Wl_fieldAddr (k := ?_); refine Wl_fieldAddr (k := ?_); refine Wl_load (k := ?_); ((refine Wl_call (hs := numI_spec wr (b0 ++ encN kind.toNat) target (by omega) (by omega)) (k := ?_); rintro v A' ⟨rfl, rfl⟩; simp only [List.cons_append, List.nil_append])) <;> ((refine Wl_nil (hK _ _ ?_); clear hK K)))
      | (refine Wc_region (id := 12) ?_; intro K hK; refine Wl_move (k := ?_); ((refine Wl_call (hs := wbytes_spec wr (b0 ++ encN kind.toNat ++ encN target.toNat) (by omega)) (k := ?_); rintro v A' ⟨ba, bc, rfl, rfl⟩; simp only [List.cons_append, List.nil_append])) <;> (refine Wl_move (k := ?_); refine Wl_extract (k' := ?_); refine Wl_extract (k' := ?_); refine Wl_assign (k := ?_); refine Wl_assign (k := ?_); (refine Wl_nil (hK _ _ ?_); clear hK K)))
      | (refine Wc_region (id := 13) ?_; intro K hK; refine Wl_move (k := ?_); refine Wl_assign (k := ?_); (refine Wl_nil (hK _ _ ?_); clear hK K))
      | (refine Wc_cond (ht := (fun ht => ?_)) (hf := (fun ht => ?_)) <;> (try simp at ht) <;> (try (exfalso; omega))))
    refine ⟨Or.inr rfl, _, own ba (b0 ++ encN kind.toNat ++ encN target.toNat).length bc 1 ((b0 ++ encN kind.toNat ++ encN target.toNat).map byteV) 5 :: A0, ?_, res1 rfl rfl, ba, bc, rfl, rfl⟩
    (repeat (first | exact Ent.refl _ | exact Ent.nil | refine Ent.take (by (repeat (first | exact Out.head | apply Out.tail)); (first | done | fail)) ?_ | refine Ent.drop1 ?_))
/-- Right tells which tables are right. -/
theorem right_spec (A0 : List Asn) (t : List Ep) (a : Option Addr) (c : Nat) (h : RdS Try.prog B A0 3 a t.length c (epsC t)) (hsz : t.length ≤ 1000000) :
    Fspec Try.prog B 26 #[.slice a t.length c] A0 (fun v A' => v = .bool (rightT t) ∧ A' = A0) := by
  refine spec_of (args := [_]) Try.func26 rfl rfl rfl ?_
  cases t with
  | nil =>
    repeat' (first
      | refine Wc_seq ?_
      | refine thenQ_normal ?_
      | refine Wc_cond_t (h := ?_)
      | refine Wc_cond_f (h := ?_)
      | refine Wc_ret ?_
      | refine thenQ_ret ?_
      | refine Wc_block ?_
      | refine blkQ_normal ?_
      | refine blkQ_ret ?_
      | refine Wc_exit ?_
      | refine thenQ_exit ?_
      | refine blkQ_hit ?_
      | refine blkQ_miss rfl ?_
      | refine Wc_skip ?_
      | refine Wc_label ?_
      | refine loopQ_exit ?_
      | refine loopQ_ret ?_
      | refine loopQ_normal ?_
      | (refine Wc_region (id := 0) ?_; intro K hK; refine Wl_assign (k := ?_); (refine Wl_nil (hK _ _ ?_); clear hK K))
      | (refine Wc_region (id := 1) ?_; intro K hK; refine Wl_move (k := ?_); refine Wl_len_sl (k' := ?_); refine Wl_lss (k' := ?_); refine Wl_move (k := ?_); ((first | (refine Wl_guard (k := ?_); refine Wl_move (k := ?_)) | refine Wl_gno (k := ?_) | ((refine Wl_split (yes := (fun ht => ?_)) (no := (fun ht => ?_)) <;> (try simp at ht) <;> (try (exfalso; omega))) <;> (first | (refine Wl_guard (k := ?_); refine Wl_move (k := ?_)) | refine Wl_gno (k := ?_))))) <;> (((first | (refine Wl_guard (k := ?_); refine Wl_len_sl (k' := ?_)) | refine Wl_gno (k := ?_) | ((refine Wl_split (yes := (fun ht => ?_)) (no := (fun ht => ?_)) <;> (try simp at ht) <;> (try (exfalso; omega))) <;> (first | (refine Wl_guard (k := ?_); refine Wl_len_sl (k' := ?_)) | refine Wl_gno (k := ?_))))) <;> (((first | (refine Wl_guard (k := ?_); refine Wl_gtr (k' := ?_)) | refine Wl_gno (k := ?_) | ((refine Wl_split (yes := (fun ht => ?_)) (no := (fun ht => ?_)) <;> (try simp at ht) <;> (try (exfalso; omega))) <;> (first | (refine Wl_guard (k := ?_); refine Wl_gtr (k' := ?_)) | refine Wl_gno (k := ?_))))) <;> ((first | refine Wl_pick_t (k := ?_) | refine Wl_pick_f (k := ?_) | refine Wl_pick (k := ?_)); refine Wl_move (k := ?_); ((first | (refine Wl_guard (k := ?_); refine Wl_move (k := ?_)) | refine Wl_gno (k := ?_) | ((refine Wl_split (yes := (fun ht => ?_)) (no := (fun ht => ?_)) <;> (try simp at ht) <;> (try (exfalso; omega))) <;> (first | (refine Wl_guard (k := ?_); refine Wl_move (k := ?_)) | refine Wl_gno (k := ?_))))) <;> (((first | (refine Wl_guard (k := ?_); refine Wl_index_sl (k' := ?_)) | refine Wl_gno (k := ?_) | ((refine Wl_split (yes := (fun ht => ?_)) (no := (fun ht => ?_)) <;> (try simp at ht) <;> (try (exfalso; omega))) <;> (first | (refine Wl_guard (k := ?_); refine Wl_index_sl (k' := ?_)) | refine Wl_gno (k := ?_))))) <;> (((first | (refine Wl_guard (k := ?_); refine Wl_fieldAddr (k := ?_)) | refine Wl_gno (k := ?_) | ((refine Wl_split (yes := (fun ht => ?_)) (no := (fun ht => ?_)) <;> (try simp at ht) <;> (try (exfalso; omega))) <;> (first | (refine Wl_guard (k := ?_); refine Wl_fieldAddr (k := ?_)) | refine Wl_gno (k := ?_))))) <;> (((first | (refine Wl_guard (k := ?_); refine Wl_load (k := ?_)) | refine Wl_gno (k := ?_) | ((refine Wl_split (yes := (fun ht => ?_)) (no := (fun ht => ?_)) <;> (try simp at ht) <;> (try (exfalso; omega))) <;> (first | (refine Wl_guard (k := ?_); refine Wl_load (k := ?_)) | refine Wl_gno (k := ?_))))) <;> (((first | (refine Wl_guard (k := ?_); refine Wl_neq (k' := ?_)) | refine Wl_gno (k := ?_) | ((refine Wl_split (yes := (fun ht => ?_)) (no := (fun ht => ?_)) <;> (try simp at ht) <;> (try (exfalso; omega))) <;> (first | (refine Wl_guard (k := ?_); refine Wl_neq (k' := ?_)) | refine Wl_gno (k := ?_))))) <;> ((first | refine Wl_pick_t (k := ?_) | refine Wl_pick_f (k := ?_) | refine Wl_pick (k := ?_)); refine Wl_move (k := ?_); ((first | (refine Wl_guard (k := ?_); refine Wl_move (k := ?_)) | refine Wl_gno (k := ?_) | ((refine Wl_split (yes := (fun ht => ?_)) (no := (fun ht => ?_)) <;> (try simp at ht) <;> (try (exfalso; omega))) <;> (first | (refine Wl_guard (k := ?_); refine Wl_move (k := ?_)) | refine Wl_gno (k := ?_))))) <;> (((first | (refine Wl_guard (k := ?_); refine Wl_index_sl (k' := ?_)) | refine Wl_gno (k := ?_) | ((refine Wl_split (yes := (fun ht => ?_)) (no := (fun ht => ?_)) <;> (try simp at ht) <;> (try (exfalso; omega))) <;> (first | (refine Wl_guard (k := ?_); refine Wl_index_sl (k' := ?_)) | refine Wl_gno (k := ?_))))) <;> (((first | (refine Wl_guard (k := ?_); refine Wl_fieldAddr (k := ?_)) | refine Wl_gno (k := ?_) | ((refine Wl_split (yes := (fun ht => ?_)) (no := (fun ht => ?_)) <;> (try simp at ht) <;> (try (exfalso; omega))) <;> (first | (refine Wl_guard (k := ?_); refine Wl_fieldAddr (k := ?_)) | refine Wl_gno (k := ?_))))) <;> (((first | (refine Wl_guard (k := ?_); refine Wl_load (k := ?_)) | refine Wl_gno (k := ?_) | ((refine Wl_split (yes := (fun ht => ?_)) (no := (fun ht => ?_)) <;> (try simp at ht) <;> (try (exfalso; omega))) <;> (first | (refine Wl_guard (k := ?_); refine Wl_load (k := ?_)) | refine Wl_gno (k := ?_))))) <;> ((first | refine Wl_pick_t (k := ?_) | refine Wl_pick_f (k := ?_) | refine Wl_pick (k := ?_)); (refine Wl_nil (hK _ _ ?_); clear hK K))))))))))))))
      | (refine Wc_region (id := 2) ?_; intro K hK; refine Wl_assign (k := ?_); (refine Wl_nil (hK _ _ ?_); clear hK K))
      | (refine Wc_cond (ht := (fun ht => ?_)) (hf := (fun ht => ?_)) <;> (try simp at ht) <;> (try (exfalso; omega))))
    exact ⟨Or.inr rfl, _, A0, Ent.refl _, res1 rfl rfl, rfl, rfl⟩
  | cons e l =>
    obtain ⟨q, rfl⟩ : ∃ q, a = some q := by
      cases a with
      | none => have := h.nil rfl; simp at this
      | some q => exact ⟨q, rfl⟩
    have hpos : 0 < (e :: l).length := by simp
    generalize ht : e :: l = t at h hsz hpos ⊢
    have he0 : t[0]? = some e := by rw [← ht]; rfl
    have hR : rightT t = (decide (t.length ≤ 64) && decide (e.cut = 0) && !e.forced && t.all (fun x => decide x.fair)) := by rw [← ht]; rfl
    rw [hR]
    by_cases h64 : t.length ≤ 64
    rotate_left
    · repeat' (first
        | refine Wc_seq ?_
        | refine thenQ_normal ?_
        | refine Wc_cond_t (h := ?_)
        | refine Wc_cond_f (h := ?_)
        | refine Wc_ret ?_
        | refine thenQ_ret ?_
        | refine Wc_block ?_
        | refine blkQ_normal ?_
        | refine blkQ_ret ?_
        | refine Wc_exit ?_
        | refine thenQ_exit ?_
        | refine blkQ_hit ?_
        | refine blkQ_miss rfl ?_
        | refine Wc_skip ?_
        | refine Wc_label ?_
        | refine loopQ_exit ?_
        | refine loopQ_ret ?_
        | refine loopQ_normal ?_
        | (refine Wc_region (id := 0) ?_; intro K hK; refine Wl_assign (k := ?_); (refine Wl_nil (hK _ _ ?_); clear hK K))
        | (refine Wc_region (id := 1) ?_; intro K hK; refine Wl_move (k := ?_); refine Wl_len_sl (k' := ?_); refine Wl_lss (k' := ?_); refine Wl_move (k := ?_); ((first | (refine Wl_guard (k := ?_); refine Wl_move (k := ?_)) | refine Wl_gno (k := ?_) | ((refine Wl_split (yes := (fun ht => ?_)) (no := (fun ht => ?_)) <;> (try simp at ht) <;> (try (exfalso; omega))) <;> (first | (refine Wl_guard (k := ?_); refine Wl_move (k := ?_)) | refine Wl_gno (k := ?_))))) <;> (((first | (refine Wl_guard (k := ?_); refine Wl_len_sl (k' := ?_)) | refine Wl_gno (k := ?_) | ((refine Wl_split (yes := (fun ht => ?_)) (no := (fun ht => ?_)) <;> (try simp at ht) <;> (try (exfalso; omega))) <;> (first | (refine Wl_guard (k := ?_); refine Wl_len_sl (k' := ?_)) | refine Wl_gno (k := ?_))))) <;> (((first | (refine Wl_guard (k := ?_); refine Wl_gtr (k' := ?_)) | refine Wl_gno (k := ?_) | ((refine Wl_split (yes := (fun ht => ?_)) (no := (fun ht => ?_)) <;> (try simp at ht) <;> (try (exfalso; omega))) <;> (first | (refine Wl_guard (k := ?_); refine Wl_gtr (k' := ?_)) | refine Wl_gno (k := ?_))))) <;> ((first | refine Wl_pick_t (k := ?_) | refine Wl_pick_f (k := ?_) | refine Wl_pick (k := ?_)); refine Wl_move (k := ?_); ((first | (refine Wl_guard (k := ?_); refine Wl_move (k := ?_)) | refine Wl_gno (k := ?_) | ((refine Wl_split (yes := (fun ht => ?_)) (no := (fun ht => ?_)) <;> (try simp at ht) <;> (try (exfalso; omega))) <;> (first | (refine Wl_guard (k := ?_); refine Wl_move (k := ?_)) | refine Wl_gno (k := ?_))))) <;> (((first | (refine Wl_guard (k := ?_); refine Wl_index_sl (k' := ?_)) | refine Wl_gno (k := ?_) | ((refine Wl_split (yes := (fun ht => ?_)) (no := (fun ht => ?_)) <;> (try simp at ht) <;> (try (exfalso; omega))) <;> (first | (refine Wl_guard (k := ?_); refine Wl_index_sl (k' := ?_)) | refine Wl_gno (k := ?_))))) <;> (((first | (refine Wl_guard (k := ?_); refine Wl_fieldAddr (k := ?_)) | refine Wl_gno (k := ?_) | ((refine Wl_split (yes := (fun ht => ?_)) (no := (fun ht => ?_)) <;> (try simp at ht) <;> (try (exfalso; omega))) <;> (first | (refine Wl_guard (k := ?_); refine Wl_fieldAddr (k := ?_)) | refine Wl_gno (k := ?_))))) <;> (((first | (refine Wl_guard (k := ?_); refine Wl_load (k := ?_)) | refine Wl_gno (k := ?_) | ((refine Wl_split (yes := (fun ht => ?_)) (no := (fun ht => ?_)) <;> (try simp at ht) <;> (try (exfalso; omega))) <;> (first | (refine Wl_guard (k := ?_); refine Wl_load (k := ?_)) | refine Wl_gno (k := ?_))))) <;> (((first | (refine Wl_guard (k := ?_); refine Wl_neq (k' := ?_)) | refine Wl_gno (k := ?_) | ((refine Wl_split (yes := (fun ht => ?_)) (no := (fun ht => ?_)) <;> (try simp at ht) <;> (try (exfalso; omega))) <;> (first | (refine Wl_guard (k := ?_); refine Wl_neq (k' := ?_)) | refine Wl_gno (k := ?_))))) <;> ((first | refine Wl_pick_t (k := ?_) | refine Wl_pick_f (k := ?_) | refine Wl_pick (k := ?_)); refine Wl_move (k := ?_); ((first | (refine Wl_guard (k := ?_); refine Wl_move (k := ?_)) | refine Wl_gno (k := ?_) | ((refine Wl_split (yes := (fun ht => ?_)) (no := (fun ht => ?_)) <;> (try simp at ht) <;> (try (exfalso; omega))) <;> (first | (refine Wl_guard (k := ?_); refine Wl_move (k := ?_)) | refine Wl_gno (k := ?_))))) <;> (((first | (refine Wl_guard (k := ?_); refine Wl_index_sl (k' := ?_)) | refine Wl_gno (k := ?_) | ((refine Wl_split (yes := (fun ht => ?_)) (no := (fun ht => ?_)) <;> (try simp at ht) <;> (try (exfalso; omega))) <;> (first | (refine Wl_guard (k := ?_); refine Wl_index_sl (k' := ?_)) | refine Wl_gno (k := ?_))))) <;> (((first | (refine Wl_guard (k := ?_); refine Wl_fieldAddr (k := ?_)) | refine Wl_gno (k := ?_) | ((refine Wl_split (yes := (fun ht => ?_)) (no := (fun ht => ?_)) <;> (try simp at ht) <;> (try (exfalso; omega))) <;> (first | (refine Wl_guard (k := ?_); refine Wl_fieldAddr (k := ?_)) | refine Wl_gno (k := ?_))))) <;> (((first | (refine Wl_guard (k := ?_); refine Wl_load (k := ?_)) | refine Wl_gno (k := ?_) | ((refine Wl_split (yes := (fun ht => ?_)) (no := (fun ht => ?_)) <;> (try simp at ht) <;> (try (exfalso; omega))) <;> (first | (refine Wl_guard (k := ?_); refine Wl_load (k := ?_)) | refine Wl_gno (k := ?_))))) <;> ((first | refine Wl_pick_t (k := ?_) | refine Wl_pick_f (k := ?_) | refine Wl_pick (k := ?_)); (refine Wl_nil (hK _ _ ?_); clear hK K))))))))))))))
        | (refine Wc_region (id := 2) ?_; intro K hK; refine Wl_assign (k := ?_); (refine Wl_nil (hK _ _ ?_); clear hK K))
        | (refine Wc_cond (ht := (fun ht => ?_)) (hf := (fun ht => ?_)) <;> (try simp at ht) <;> (try (exfalso; omega))))
      exact ⟨Or.inr rfl, _, A0, Ent.refl _, res1 rfl rfl, congrArg Value.bool (by simp [h64]), rfl⟩
    repeat' (first
      | refine Wc_seq ?_
      | refine thenQ_normal ?_
      | refine Wc_cond_t (h := ?_)
      | refine Wc_cond_f (h := ?_)
      | refine Wc_ret ?_
      | refine thenQ_ret ?_
      | refine Wc_block ?_
      | refine blkQ_normal ?_
      | refine blkQ_ret ?_
      | refine Wc_exit ?_
      | refine thenQ_exit ?_
      | refine blkQ_hit ?_
      | refine blkQ_miss rfl ?_
      | refine Wc_skip ?_
      | refine Wc_label ?_
      | refine loopQ_exit ?_
      | refine loopQ_ret ?_
      | refine loopQ_normal ?_
      | (refine Wc_region (id := 0) ?_; intro K hK; refine Wl_assign (k := ?_); (refine Wl_nil (hK _ _ ?_); clear hK K))
      | (refine Wc_region (id := 1) ?_; intro K hK; refine Wl_move (k := ?_); refine Wl_len_sl (k' := ?_); refine Wl_lss (k' := ?_); refine Wl_move (k := ?_); ((first | (refine Wl_guard (k := ?_); refine Wl_move (k := ?_)) | refine Wl_gno (k := ?_) | ((refine Wl_split (yes := (fun ht => ?_)) (no := (fun ht => ?_)) <;> (try simp at ht) <;> (try (exfalso; omega))) <;> (first | (refine Wl_guard (k := ?_); refine Wl_move (k := ?_)) | refine Wl_gno (k := ?_))))) <;> (((first | (refine Wl_guard (k := ?_); refine Wl_len_sl (k' := ?_)) | refine Wl_gno (k := ?_) | ((refine Wl_split (yes := (fun ht => ?_)) (no := (fun ht => ?_)) <;> (try simp at ht) <;> (try (exfalso; omega))) <;> (first | (refine Wl_guard (k := ?_); refine Wl_len_sl (k' := ?_)) | refine Wl_gno (k := ?_))))) <;> (((first | (refine Wl_guard (k := ?_); refine Wl_gtr (k' := ?_)) | refine Wl_gno (k := ?_) | ((refine Wl_split (yes := (fun ht => ?_)) (no := (fun ht => ?_)) <;> (try simp at ht) <;> (try (exfalso; omega))) <;> (first | (refine Wl_guard (k := ?_); refine Wl_gtr (k' := ?_)) | refine Wl_gno (k := ?_))))) <;> ((first | refine Wl_pick_t (k := ?_) | refine Wl_pick_f (k := ?_) | refine Wl_pick (k := ?_)); refine Wl_move (k := ?_); ((first | (refine Wl_guard (k := ?_); refine Wl_move (k := ?_)) | refine Wl_gno (k := ?_) | ((refine Wl_split (yes := (fun ht => ?_)) (no := (fun ht => ?_)) <;> (try simp at ht) <;> (try (exfalso; omega))) <;> (first | (refine Wl_guard (k := ?_); refine Wl_move (k := ?_)) | refine Wl_gno (k := ?_))))) <;> (((first | (refine Wl_guard (k := ?_); (refine Wl_index_any (k' := ?_))) | refine Wl_gno (k := ?_) | ((refine Wl_split (yes := (fun ht => ?_)) (no := (fun ht => ?_)) <;> (try simp at ht) <;> (try (exfalso; omega))) <;> (first | (refine Wl_guard (k := ?_); (refine Wl_index_any (k' := ?_))) | refine Wl_gno (k := ?_))))) <;> (((first | (refine Wl_guard (k := ?_); (refine Wl_fieldAddrG (k := ?_))) | refine Wl_gno (k := ?_) | ((refine Wl_split (yes := (fun ht => ?_)) (no := (fun ht => ?_)) <;> (try simp at ht) <;> (try (exfalso; omega))) <;> (first | (refine Wl_guard (k := ?_); (refine Wl_fieldAddrG (k := ?_))) | refine Wl_gno (k := ?_))))) <;> (((first | (refine Wl_guard (k := ?_); (refine Wl_loadG (v := .int .i64 e.cut) (j := 1) (hq := by simp [Addr.add]) (hr := h) (hv := by simpa using epsC_cell (r := 1) he0 (by omega) rfl) (k := ?_))) | refine Wl_gno (k := ?_) | ((refine Wl_split (yes := (fun ht => ?_)) (no := (fun ht => ?_)) <;> (try simp at ht) <;> (try (exfalso; omega))) <;> (first | (refine Wl_guard (k := ?_); (refine Wl_loadG (v := .int .i64 e.cut) (j := 1) (hq := by simp [Addr.add]) (hr := h) (hv := by simpa using epsC_cell (r := 1) he0 (by omega) rfl) (k := ?_))) | refine Wl_gno (k := ?_))))) <;> (((first | (refine Wl_guard (k := ?_); refine Wl_neq (k' := ?_)) | refine Wl_gno (k := ?_) | ((refine Wl_split (yes := (fun ht => ?_)) (no := (fun ht => ?_)) <;> (try simp at ht) <;> (try (exfalso; omega))) <;> (first | (refine Wl_guard (k := ?_); refine Wl_neq (k' := ?_)) | refine Wl_gno (k := ?_))))) <;> ((first | refine Wl_pick_t (k := ?_) | refine Wl_pick_f (k := ?_) | refine Wl_pick (k := ?_)); refine Wl_move (k := ?_); ((first | (refine Wl_guard (k := ?_); refine Wl_move (k := ?_)) | refine Wl_gno (k := ?_) | ((refine Wl_split (yes := (fun ht => ?_)) (no := (fun ht => ?_)) <;> (try simp at ht) <;> (try (exfalso; omega))) <;> (first | (refine Wl_guard (k := ?_); refine Wl_move (k := ?_)) | refine Wl_gno (k := ?_))))) <;> (((first | (refine Wl_guard (k := ?_); (refine Wl_index_any (k' := ?_))) | refine Wl_gno (k := ?_) | ((refine Wl_split (yes := (fun ht => ?_)) (no := (fun ht => ?_)) <;> (try simp at ht) <;> (try (exfalso; omega))) <;> (first | (refine Wl_guard (k := ?_); (refine Wl_index_any (k' := ?_))) | refine Wl_gno (k := ?_))))) <;> (((first | (refine Wl_guard (k := ?_); (refine Wl_fieldAddrG (k := ?_))) | refine Wl_gno (k := ?_) | ((refine Wl_split (yes := (fun ht => ?_)) (no := (fun ht => ?_)) <;> (try simp at ht) <;> (try (exfalso; omega))) <;> (first | (refine Wl_guard (k := ?_); (refine Wl_fieldAddrG (k := ?_))) | refine Wl_gno (k := ?_))))) <;> (((first | (refine Wl_guard (k := ?_); (refine Wl_loadG (v := .bool e.forced) (j := 2) (hq := by simp [Addr.add]) (hr := h) (hv := by simpa using epsC_cell (r := 2) he0 (by omega) rfl) (k := ?_))) | refine Wl_gno (k := ?_) | ((refine Wl_split (yes := (fun ht => ?_)) (no := (fun ht => ?_)) <;> (try simp at ht) <;> (try (exfalso; omega))) <;> (first | (refine Wl_guard (k := ?_); (refine Wl_loadG (v := .bool e.forced) (j := 2) (hq := by simp [Addr.add]) (hr := h) (hv := by simpa using epsC_cell (r := 2) he0 (by omega) rfl) (k := ?_))) | refine Wl_gno (k := ?_))))) <;> ((first | refine Wl_pick_t (k := ?_) | refine Wl_pick_f (k := ?_) | refine Wl_pick (k := ?_)); (refine Wl_nil (hK _ _ ?_); clear hK K))))))))))))))
      | (refine Wc_region (id := 2) ?_; intro K hK; refine Wl_assign (k := ?_); (refine Wl_nil (hK _ _ ?_); clear hK K))
      | (refine Wc_region (id := 3) ?_; intro K hK; refine Wl_move (k := ?_); refine Wl_len_sl (k' := ?_); refine Wl_move (k := ?_); (refine Wl_nil (hK _ _ ?_); clear hK K))
      | (refine Wc_cond (ht := (fun ht => ?_)) (hf := (fun ht => ?_)) <;> (try simp at ht) <;> (try (exfalso; omega))))
    · have hbad : ¬ e.cut = 0 := by assumption
      exact ⟨Or.inr rfl, _, A0, Ent.refl _, res1 rfl rfl, congrArg Value.bool (by simp [hbad]), rfl⟩
    · have hbad : e.forced = true := by assumption
      exact ⟨Or.inr rfl, _, A0, Ent.refl _, res1 rfl rfl, congrArg Value.bool (by simp [hbad]), rfl⟩
    have hc0 : e.cut = 0 := by assumption
    have hf0 : e.forced = false := by assumption
    have hR2 : rightT t = t.all (fun x => decide x.fair) := by rw [hR]; simp [h64, hc0, hf0]
    rw [← hR, hR2]
    refine Wc_loop (α := Nat) (fun k => [(26, .slice (some q) t.length c), (27, .int .i64 t.length), (28, .int .i64 k)])
      (fun _ => A0) (fun k => k ≤ t.length ∧ ∀ x ∈ t.take k, x.fair) (fun k => t.length - k) 0 ⟨by omega, by simp⟩ ⟨rfl, rfl, rfl, trivial⟩ (Ent.refl _) ?_
    rintro k G ⟨hk, hall⟩
    simp only [ov]
    by_cases hlt : k < t.length
    · obtain ⟨y, hy⟩ : ∃ y, t[k]? = some y := ⟨_, List.getElem?_eq_getElem hlt⟩
      have hmem := List.mem_of_getElem? hy
      repeat' (first
        | refine Wc_seq ?_
        | refine thenQ_normal ?_
        | refine Wc_cond_t (h := ?_)
        | refine Wc_cond_f (h := ?_)
        | refine Wc_ret ?_
        | refine thenQ_ret ?_
        | refine Wc_block ?_
        | refine blkQ_normal ?_
        | refine blkQ_ret ?_
        | refine Wc_exit ?_
        | refine thenQ_exit ?_
        | refine blkQ_hit ?_
        | refine blkQ_miss rfl ?_
        | refine Wc_skip ?_
        | refine Wc_label ?_
        | refine loopQ_exit ?_
        | refine loopQ_ret ?_
        | refine loopQ_normal ?_
        | (refine Wc_region (id := 4) ?_; intro K hK; refine Wl_lss (k' := ?_); (refine Wl_nil (hK _ _ ?_); clear hK K))
        | (refine Wc_region (id := 5) ?_; intro K hK; ((refine Wl_index_any (k' := ?_))) <;> (((refine Wl_loadAggG (j := k * 3) (cs := epC y) (hq := by simp) (hr := h) (hv := epsC_row hy) (k := ?_))) <;> (((refine Wl_alloc (k := ?_); intro er)) <;> (refine Wl_storeR (ho' := rfl) (k := ?_); (refine Wl_nil (hK _ _ ?_); clear hK K)))))
        | (refine Wc_region (id := 6) ?_; intro K hK; refine Wl_fieldAddr (k := ?_); refine Wl_load (k := ?_); refine Wl_lss (k' := ?_); refine Wl_move (k := ?_); ((first | (refine Wl_guard (k := ?_); refine Wl_fieldAddr (k := ?_)) | refine Wl_gno (k := ?_) | ((refine Wl_split (yes := (fun ht => ?_)) (no := (fun ht => ?_)) <;> (try simp at ht) <;> (try (exfalso; omega))) <;> (first | (refine Wl_guard (k := ?_); refine Wl_fieldAddr (k := ?_)) | refine Wl_gno (k := ?_))))) <;> (((first | (refine Wl_guard (k := ?_); refine Wl_load (k := ?_)) | refine Wl_gno (k := ?_) | ((refine Wl_split (yes := (fun ht => ?_)) (no := (fun ht => ?_)) <;> (try simp at ht) <;> (try (exfalso; omega))) <;> (first | (refine Wl_guard (k := ?_); refine Wl_load (k := ?_)) | refine Wl_gno (k := ?_))))) <;> (((first | (refine Wl_guard (k := ?_); refine Wl_gtr (k' := ?_)) | refine Wl_gno (k := ?_) | ((refine Wl_split (yes := (fun ht => ?_)) (no := (fun ht => ?_)) <;> (try simp at ht) <;> (try (exfalso; omega))) <;> (first | (refine Wl_guard (k := ?_); refine Wl_gtr (k' := ?_)) | refine Wl_gno (k := ?_))))) <;> ((first | refine Wl_pick_t (k := ?_) | refine Wl_pick_f (k := ?_) | refine Wl_pick (k := ?_)); refine Wl_move (k := ?_); ((first | (refine Wl_guard (k := ?_); refine Wl_fieldAddr (k := ?_)) | refine Wl_gno (k := ?_) | ((refine Wl_split (yes := (fun ht => ?_)) (no := (fun ht => ?_)) <;> (try simp at ht) <;> (try (exfalso; omega))) <;> (first | (refine Wl_guard (k := ?_); refine Wl_fieldAddr (k := ?_)) | refine Wl_gno (k := ?_))))) <;> (((first | (refine Wl_guard (k := ?_); refine Wl_load (k := ?_)) | refine Wl_gno (k := ?_) | ((refine Wl_split (yes := (fun ht => ?_)) (no := (fun ht => ?_)) <;> (try simp at ht) <;> (try (exfalso; omega))) <;> (first | (refine Wl_guard (k := ?_); refine Wl_load (k := ?_)) | refine Wl_gno (k := ?_))))) <;> (((first | (refine Wl_guard (k := ?_); refine Wl_lss (k' := ?_)) | refine Wl_gno (k := ?_) | ((refine Wl_split (yes := (fun ht => ?_)) (no := (fun ht => ?_)) <;> (try simp at ht) <;> (try (exfalso; omega))) <;> (first | (refine Wl_guard (k := ?_); refine Wl_lss (k' := ?_)) | refine Wl_gno (k := ?_))))) <;> ((first | refine Wl_pick_t (k := ?_) | refine Wl_pick_f (k := ?_) | refine Wl_pick (k := ?_)); refine Wl_move (k := ?_); ((first | (refine Wl_guard (k := ?_); refine Wl_fieldAddr (k := ?_)) | refine Wl_gno (k := ?_) | ((refine Wl_split (yes := (fun ht => ?_)) (no := (fun ht => ?_)) <;> (try simp at ht) <;> (try (exfalso; omega))) <;> (first | (refine Wl_guard (k := ?_); refine Wl_fieldAddr (k := ?_)) | refine Wl_gno (k := ?_))))) <;> (((first | (refine Wl_guard (k := ?_); refine Wl_load (k := ?_)) | refine Wl_gno (k := ?_) | ((refine Wl_split (yes := (fun ht => ?_)) (no := (fun ht => ?_)) <;> (try simp at ht) <;> (try (exfalso; omega))) <;> (first | (refine Wl_guard (k := ?_); refine Wl_load (k := ?_)) | refine Wl_gno (k := ?_))))) <;> (((first | (refine Wl_guard (k := ?_); refine Wl_gtr (k' := ?_)) | refine Wl_gno (k := ?_) | ((refine Wl_split (yes := (fun ht => ?_)) (no := (fun ht => ?_)) <;> (try simp at ht) <;> (try (exfalso; omega))) <;> (first | (refine Wl_guard (k := ?_); refine Wl_gtr (k' := ?_)) | refine Wl_gno (k := ?_))))) <;> ((first | refine Wl_pick_t (k := ?_) | refine Wl_pick_f (k := ?_) | refine Wl_pick (k := ?_)); (refine Wl_nil (hK _ _ ?_); clear hK K)))))))))))
        | (refine Wc_region (id := 7) ?_; intro K hK; refine Wl_assign (k := ?_); (refine Wl_nil (hK _ _ ?_); clear hK K))
        | (refine Wc_region (id := 8) ?_; intro K hK; refine Wl_add (k' := ?_); refine Wl_move (k := ?_); (refine Wl_nil (hK _ _ ?_); clear hK K))
        | (refine Wc_cond (ht := (fun ht => ?_)) (hf := (fun ht => ?_)) <;> (try simp at ht) <;> (try (exfalso; omega))))
      all_goals first
        | (refine ⟨Or.inr rfl, _, A0, ?_, res1 rfl rfl, ?_, rfl⟩
           · (repeat (first | exact Ent.refl _ | exact Ent.nil | refine Ent.take (by (repeat (first | exact Out.head | apply Out.tail)); (first | done | fail)) ?_ | refine Ent.drop1 ?_))
           · refine congrArg Value.bool (Eq.symm ?_)
             refine List.all_eq_false.2 ⟨y, hmem, ?_⟩
             simp only [decide_eq_true_eq]
             unfold Ep.fair; omega)
        | (refine ⟨k + 1, ⟨by omega, ?_⟩, by omega, ⟨rfl, rfl, int_succ k, trivial⟩, ?_⟩
           · intro x hx
             rw [List.take_add_one, hy] at hx
             rcases List.mem_append.1 hx with hx | hx
             · exact hall x hx
             · simp at hx; subst hx; unfold Ep.fair; omega
           · (repeat (first | exact Ent.refl _ | exact Ent.nil | refine Ent.take (by (repeat (first | exact Out.head | apply Out.tail)); (first | done | fail)) ?_ | refine Ent.drop1 ?_)))
    · obtain rfl : k = t.length := by omega
      rw [List.take_length] at hall
      repeat' (first
        | refine Wc_seq ?_
        | refine thenQ_normal ?_
        | refine Wc_cond_t (h := ?_)
        | refine Wc_cond_f (h := ?_)
        | refine Wc_ret ?_
        | refine thenQ_ret ?_
        | refine Wc_block ?_
        | refine blkQ_normal ?_
        | refine blkQ_ret ?_
        | refine Wc_exit ?_
        | refine thenQ_exit ?_
        | refine blkQ_hit ?_
        | refine blkQ_miss rfl ?_
        | refine Wc_skip ?_
        | refine Wc_label ?_
        | refine loopQ_exit ?_
        | refine loopQ_ret ?_
        | refine loopQ_normal ?_
        | (refine Wc_region (id := 4) ?_; intro K hK; refine Wl_lss (k' := ?_); (refine Wl_nil (hK _ _ ?_); clear hK K))
        | (refine Wc_region (id := 9) ?_; intro K hK; refine Wl_assign (k := ?_); (refine Wl_nil (hK _ _ ?_); clear hK K))
        | (refine Wc_cond (ht := (fun ht => ?_)) (hf := (fun ht => ?_)) <;> (try simp at ht) <;> (try (exfalso; omega))))
      exact ⟨Or.inr rfl, _, A0, Ent.refl _, res1 rfl rfl, congrArg Value.bool (Eq.symm (List.all_eq_true.2 fun x hx => decide_eq_true (hall x hx))), rfl⟩
end specs
end Go.Proofs.Ytepeljbgekgjcaa
/- A region that draws its order, walked in the few orders that make a difference. No condition. -/
set_option linter.unusedVariables false
namespace Go.Sl
open Go
/-- Orders: one operation behind the other, or either of two ways. -/
inductive Tr where
  | done
  | step (i : Nat) (t : Tr)
  | alt (t u : Tr)
namespace Tr
def els : Tr → List Nat
  | done => []
  | step i t => i :: els t
  | alt t u => els t ++ els u
def has (k : Nat) : Tr → Bool
  | done => false
  | step i t => i == k || has k t
  | alt t u => has k t && has k u
def front (bad : List Nat) (j : Nat) : Tr → Option Tr
  | done => none
  | step x t => if x = j then some t else if bad.contains x then none else (front bad j t).map (step x)
  | alt t u => match front bad j t with
    | some t' => some t'
    | none => front bad j u
def strip (p : Nat → Bool) : Tr → Tr
  | done => done
  | step i t => if p i then strip p t else step i (strip p t)
  | alt t u => alt (strip p t) (strip p u)
def noAlt : Tr → Bool
  | done => true
  | step _ t => noAlt t
  | alt _ _ => false
def pairs (R : Nat → Nat → Bool) : Tr → Bool
  | done => true
  | step x t => (els t).all (R x) && pairs R t
  | alt t u => pairs R t && pairs R u
end Tr
section draw
variable {P : Program} {ops : Array Oper} {Inv : World → Prop} {fm : Fm}
def Xt (P : Program) (ops : Array Oper) (Inv : World → Prop) (fm : Fm) (K : Act → World → Prop) : Tr → Act → World → Prop
  | .done => K
  | .step i t => match ops[i]? with
    | some o => stepX P ops Inv fm o (Xt P ops Inv fm K t)
    | none => Xt P ops Inv fm K t
  | .alt t u => fun a w => Xt P ops Inv fm K t a w ∧ Xt P ops Inv fm K u a w
def commB (fm : Fm) (ops : Array Oper) (x j : Nat) : Bool := match ops[x]?, ops[j]? with
  | some ox, some oj => ox.apart ops oj && stepableB fm ox oj
  | _, _ => true
def relB (fm : Fm) (ops : Array Oper) (bad : List Nat) (x j : Nat) : Bool := !(x == j) && (anc ops ops.size x j || (bad.contains x && bad.contains j) || commB fm ops x j)
def cov (ops : Array Oper) (bad : List Nat) : Nat → List Nat → Tr → Bool
  | 0, S, t => bad.all (fun b => S.contains b) && t.noAlt
  | f + 1, S, t => if bad.all (fun b => S.contains b) then t.noAlt else
    bad.all fun j => S.contains j || !(bad.all fun b => S.contains b || !anc ops ops.size b j) || (match Tr.front bad j t with | some u => cov ops bad f (j :: S) u | none => false)
def lightB (fm : Fm) (ops : Array Oper) (j : Nat) : Bool := match ops[j]? with
  | some o => kindB fm o.dst o.op == 0 || kindB fm o.dst o.op == 1
  | none => true
def treeOk (fm : Fm) (ops : Array Oper) (bad : List Nat) (t : Tr) : Bool :=
  (ops.toList.all fun o => !isSelect o.op) &&
  ((List.range ops.size).all fun i => match ops[i]? with | some o => o.after.toList.all fun e => !Region.binds .any e || decide (e.on < i) | none => true) &&
  t.pairs (relB fm ops bad) && (t.els.all fun x => decide (x < ops.size)) && (bad.all fun x => decide (x < ops.size)) && ((List.range ops.size).all fun j => t.has j) &&
  ((List.range ops.size).all fun j => bad.contains j || lightB fm ops j || bad.all fun b => anc ops ops.size b j) && cov ops bad bad.length [] t

theorem front_els {bad : List Nat} {j : Nat} : ∀ {t u : Tr}, Tr.front bad j t = some u → j ∈ t.els ∧ ∀ x ∈ u.els, x ∈ t.els
  | .done, u, h => by simp [Tr.front] at h
  | .step x t, u, h => by
    simp only [Tr.front] at h
    split at h
    · rename_i e; cases h; exact ⟨by simp [Tr.els, e], fun y hy => List.mem_cons_of_mem _ hy⟩
    · split at h
      · cases h
      · obtain ⟨v, hv, rfl⟩ := Option.map_eq_some_iff.1 h
        obtain ⟨h1, h2⟩ := front_els hv
        refine ⟨List.mem_cons_of_mem _ h1, fun y hy => ?_⟩
        rcases List.mem_cons.1 hy with rfl | hy
        · exact List.mem_cons_self ..
        · exact List.mem_cons_of_mem _ (h2 y hy)
  | .alt t v, u, h => by
    simp only [Tr.front] at h
    split at h
    · rename_i t' e
      cases h
      obtain ⟨h1, h2⟩ := front_els e
      exact ⟨List.mem_append_left _ h1, fun y hy => List.mem_append_left _ (h2 y hy)⟩
    · obtain ⟨h1, h2⟩ := front_els h
      exact ⟨List.mem_append_right _ h1, fun y hy => List.mem_append_right _ (h2 y hy)⟩
theorem front_pairs {R : Nat → Nat → Bool} {bad : List Nat} {j : Nat} : ∀ {t u : Tr}, Tr.front bad j t = some u → t.pairs R = true → u.pairs R = true
  | .done, u, h, _ => by simp [Tr.front] at h
  | .step x t, u, h, hp => by
    simp only [Tr.pairs, Bool.and_eq_true] at hp
    simp only [Tr.front] at h
    split at h
    · cases h; exact hp.2
    · split at h
      · cases h
      · obtain ⟨v, hv, rfl⟩ := Option.map_eq_some_iff.1 h
        simp only [Tr.pairs, Bool.and_eq_true]
        exact ⟨List.all_eq_true.2 fun y hy => List.all_eq_true.1 hp.1 y ((front_els hv).2 y hy), front_pairs hv hp.2⟩
  | .alt t v, u, h, hp => by
    simp only [Tr.pairs, Bool.and_eq_true] at hp
    simp only [Tr.front] at h
    split at h
    · rename_i t' e; cases h; exact front_pairs e hp.1
    · exact front_pairs h hp.2
theorem front_has {bad : List Nat} {j k : Nat} (hk : k ≠ j) : ∀ {t u : Tr}, Tr.front bad j t = some u → t.has k = true → u.has k = true
  | .done, u, h, _ => by simp [Tr.front] at h
  | .step x t, u, h, hp => by
    simp only [Tr.has, Bool.or_eq_true, beq_iff_eq] at hp
    simp only [Tr.front] at h
    split at h
    · rename_i e
      cases h
      rcases hp with hp | hp
      · omega
      · exact hp
    · split at h
      · cases h
      · obtain ⟨v, hv, rfl⟩ := Option.map_eq_some_iff.1 h
        simp only [Tr.has, Bool.or_eq_true, beq_iff_eq]
        rcases hp with hp | hp
        · exact .inl hp
        · exact .inr (front_has hk hv hp)
  | .alt t v, u, h, hp => by
    simp only [Tr.has, Bool.and_eq_true] at hp
    simp only [Tr.front] at h
    split at h
    · rename_i t' e; cases h; exact front_has hk e hp.1
    · exact front_has hk h hp.2
theorem strip_congr {p q : Nat → Bool} : ∀ {t : Tr}, (∀ x ∈ t.els, p x = q x) → t.strip p = t.strip q
  | .done, _ => rfl
  | .step x t, h => by
    simp only [Tr.strip, h x (List.mem_cons_self ..), strip_congr (t := t) fun y hy => h y (List.mem_cons_of_mem _ hy)]
  | .alt t u, h => by
    simp only [Tr.strip, strip_congr (t := t) fun y hy => h y (List.mem_append_left _ hy), strip_congr (t := u) fun y hy => h y (List.mem_append_right _ hy)]
theorem strip_all {p : Nat → Bool} : ∀ {t : Tr}, t.noAlt = true → (∀ x ∈ t.els, p x = true) → t.strip p = .done
  | .done, _, _ => rfl
  | .step x t, h, hp => by
    simp only [Tr.strip, hp x (List.mem_cons_self ..), if_true]
    exact strip_all (t := t) h fun y hy => hp y (List.mem_cons_of_mem _ hy)
theorem stepX_both {o : Oper} {K1 K2 : Act → World → Prop} {a : Act} {w : World} (hI : Inv w) (hk : kindB fm o.dst o.op = 0 ∨ kindB fm o.dst o.op = 1) (h1 : stepX P ops Inv fm o K1 a w) (h2 : stepX P ops Inv fm o K2 a w) :
    stepX P ops Inv fm o (fun a w => K1 a w ∧ K2 a w) a w := by
  unfold stepX at *
  split
  · rename_i hw
    rw [if_pos hw] at h1 h2
    rcases hk with hk | hk
    · rw [hk] at h1 h2 ⊢
      obtain ⟨v, e1, k1⟩ := h1
      obtain ⟨u, e2, k2⟩ := h2
      have := (e1 w hI).symm.trans (e2 w hI)
      cases this
      exact ⟨v, e1, k1, k2⟩
    · rw [hk] at h1 h2 ⊢
      obtain ⟨v, e1, k1⟩ := h1
      obtain ⟨u, e2, k2⟩ := h2
      have := (e1 w (Ext.refl w)).symm.trans (e2 w (Ext.refl w))
      cases this
      exact ⟨v, e1, k1, k2⟩
  · rename_i hw
    rw [if_neg hw] at h1 h2
    exact ⟨h1, h2⟩

section tree
variable {bad : List Nat} {K : Act → World → Prop}
def Comm (fm : Fm) (ops : Array Oper) (x j : Nat) : Prop := ∀ ox oj, ops[x]? = some ox → ops[j]? = some oj → ox.apart ops oj = true ∧ Stepable fm ox oj
theorem commB_out {x j : Nat} (h : commB fm ops x j = true) : Comm fm ops x j := fun ox oj hx hj => by
  unfold commB at h
  rw [hx, hj] at h
  simp only [Bool.and_eq_true, stepableB, Bool.or_eq_true, beq_iff_eq] at h
  refine ⟨h.1, ?_⟩
  rcases h.2 with (h | h) | h
  · exact .inl h
  · exact .inr (.inl h)
  · exact .inr (.inr h)
theorem Xt_step_swap (hsel : ∀ (j : Nat) (o : Oper), ops[j]? = some o → ∀ cs b, o.op ≠ .select cs b) {x j : Nat} {oj : Oper} (hj : ops[j]? = some oj) (hc : Comm fm ops x j) {t u : Tr} {a : Act} {w : World} (hI : Inv w)
    (ih : ∀ a w, Inv w → Xt P ops Inv fm K t a w → stepX P ops Inv fm oj (Xt P ops Inv fm K u) a w) (h : Xt P ops Inv fm K (.step x t) a w) : stepX P ops Inv fm oj (Xt P ops Inv fm K (.step x u)) a w := by
  simp only [Xt] at h ⊢
  cases hx : ops[x]? with
  | none => rw [hx] at h; simpa using ih a w hI h
  | some ox =>
    rw [hx] at h
    have h2 := stepX_mono hI ih h
    obtain ⟨q1, q2⟩ := hc ox oj hx hj
    exact swap hI (hsel x ox hx) (hsel j oj hj) q1 q2 h2
theorem bad_front (hsel : ∀ (j : Nat) (o : Oper), ops[j]? = some o → ∀ cs b, o.op ≠ .select cs b) {p q : Nat → Bool} {j : Nat} {oj : Oper} (hj : ops[j]? = some oj) (hpj : p j = false) (hq : ∀ x, x ≠ j → q x = p x) (hb : bad.contains j = true)
    (hanc : ∀ x, anc ops ops.size x j = true → p x = true) : ∀ {t u : Tr}, Tr.front bad j t = some u → t.pairs (relB fm ops bad) = true → ∀ a w, Inv w → Xt P ops Inv fm K (t.strip p) a w → stepX P ops Inv fm oj (Xt P ops Inv fm K (u.strip q)) a w
  | .done, u, h, _, _, _, _, _ => by simp [Tr.front] at h
  | .step x t, u, h, hp, a, w, hI, hX => by
    simp only [Tr.pairs, Bool.and_eq_true] at hp
    simp only [Tr.front] at h
    split at h
    · rename_i e
      cases h
      subst e
      have e2 : t.strip q = t.strip p := strip_congr fun y hy => hq y (by
        have := List.all_eq_true.1 hp.1 y hy
        simp only [relB, Bool.and_eq_true, Bool.not_eq_true', beq_eq_false_iff_ne] at this
        exact fun e => this.1 e.symm)
      rw [e2]
      simp only [Tr.strip, hpj] at hX
      simpa [Xt, hj] using hX
    · rename_i hne
      split at h
      · cases h
      · rename_i hnb
        obtain ⟨v, hv, rfl⟩ := Option.map_eq_some_iff.1 h
        have hr := List.all_eq_true.1 hp.1 j (front_els hv).1
        cases hpx : p x with
        | true =>
          simp only [Tr.strip, hpx, hq x hne, if_true] at hX ⊢
          exact bad_front hsel hj hpj hq hb hanc hv hp.2 a w hI hX
        | false =>
          have hc : commB fm ops x j = true := by
            simp only [relB, Bool.and_eq_true, Bool.or_eq_true] at hr
            rcases hr.2 with (h1 | h1) | h1
            · rw [hanc x h1] at hpx; cases hpx
            · exact absurd h1.1 hnb
            · exact h1
          simp only [Tr.strip, hpx, hq x hne] at hX ⊢
          exact Xt_step_swap hsel hj (commB_out hc) hI (bad_front hsel hj hpj hq hb hanc hv hp.2) hX
  | .alt t v, u, h, hp, a, w, hI, hX => by
    simp only [Tr.pairs, Bool.and_eq_true] at hp
    simp only [Tr.front] at h
    simp only [Tr.strip, Xt] at hX
    split at h
    · rename_i t' e; cases h; exact bad_front hsel hj hpj hq hb hanc e hp.1 a w hI hX.1
    · exact bad_front hsel hj hpj hq hb hanc h hp.2 a w hI hX.2
theorem good_front (hsel : ∀ (j : Nat) (o : Oper), ops[j]? = some o → ∀ cs b, o.op ≠ .select cs b) {p q : Nat → Bool} {j : Nat} {oj : Oper} (hj : ops[j]? = some oj) (hpj : p j = false) (hqj : q j = true) (hq : ∀ x, x ≠ j → q x = p x) (hb : bad.contains j = false)
    (hanc : ∀ x, anc ops ops.size x j = true → p x = true) : ∀ {t : Tr}, (lightB fm ops j = true ∨ t.noAlt = true) → t.has j = true → t.pairs (relB fm ops bad) = true → ∀ a w, Inv w → Xt P ops Inv fm K (t.strip p) a w → stepX P ops Inv fm oj (Xt P ops Inv fm K (t.strip q)) a w
  | .done, _, h, _, _, _, _, _ => by simp [Tr.has] at h
  | .step x t, hl, h, hp, a, w, hI, hX => by
    simp only [Tr.pairs, Bool.and_eq_true] at hp
    simp only [Tr.has, Bool.or_eq_true, beq_iff_eq] at h
    have hmem : ∀ {t : Tr}, t.has j = true → t.pairs (relB fm ops bad) = true → j ∈ t.els := by
      intro t
      induction t with
      | done => intro h; simp [Tr.has] at h
      | step y t ih =>
        intro h hp
        simp only [Tr.pairs, Bool.and_eq_true] at hp
        simp only [Tr.has, Bool.or_eq_true, beq_iff_eq] at h
        rcases h with h | h
        · simp [Tr.els, h]
        · exact List.mem_cons_of_mem _ (ih h hp.2)
      | alt t u ih1 ih2 =>
        intro h hp
        simp only [Tr.pairs, Bool.and_eq_true] at hp
        simp only [Tr.has, Bool.and_eq_true] at h
        exact List.mem_append_left _ (ih1 h.1 hp.1)
    by_cases hxj : x = j
    · subst hxj
      have e2 : t.strip q = t.strip p := strip_congr fun y hy => hq y (by
        have := List.all_eq_true.1 hp.1 y hy
        simp only [relB, Bool.and_eq_true, Bool.not_eq_true', beq_eq_false_iff_ne] at this
        exact fun e => this.1 e.symm)
      simp only [Tr.strip, hpj, hqj, if_true, e2] at hX ⊢
      simpa [Xt, hj] using hX
    · have h' : t.has j = true := by rcases h with h | h; exact absurd h hxj; exact h
      have hl' : lightB fm ops j = true ∨ t.noAlt = true := hl.imp id (fun h => h)
      have hr := List.all_eq_true.1 hp.1 j (hmem h' hp.2)
      cases hpx : p x with
      | true =>
        simp only [Tr.strip, hpx, hq x hxj, if_true] at hX ⊢
        exact good_front hsel hj hpj hqj hq hb hanc hl' h' hp.2 a w hI hX
      | false =>
        have hc : commB fm ops x j = true := by
          simp only [relB, Bool.and_eq_true, Bool.or_eq_true] at hr
          rcases hr.2 with (h1 | h1) | h1
          · rw [hanc x h1] at hpx; cases hpx
          · rw [hb] at h1; cases h1.2
          · exact h1
        simp only [Tr.strip, hpx, hq x hxj] at hX ⊢
        exact Xt_step_swap hsel hj (commB_out hc) hI (good_front hsel hj hpj hqj hq hb hanc hl' h' hp.2) hX
  | .alt t u, hl, h, hp, a, w, hI, hX => by
    simp only [Tr.pairs, Bool.and_eq_true] at hp
    simp only [Tr.has, Bool.and_eq_true] at h
    have hl' : lightB fm ops j = true := by rcases hl with h | h; exact h; simp [Tr.noAlt] at h
    have hk : kindB fm oj.dst oj.op = 0 ∨ kindB fm oj.dst oj.op = 1 := by
      unfold lightB at hl'; rw [hj] at hl'; simpa using hl'
    simp only [Tr.strip, Xt] at hX ⊢
    exact stepX_both hI hk (good_front hsel hj hpj hqj hq hb hanc (.inl hl') h.1 hp.1 a w hI hX.1) (good_front hsel hj hpj hqj hq hb hanc (.inl hl') h.2 hp.2 a w hI hX.2)
theorem cov_all : ∀ {f : Nat} {S : List Nat} {t : Tr}, cov ops bad f S t = true → (∀ b ∈ bad, S.contains b = true) → t.noAlt = true
  | 0, S, t, h, _ => by simp only [cov, Bool.and_eq_true] at h; exact h.2
  | f + 1, S, t, h, hS => by
    simp only [cov] at h
    rw [if_pos (List.all_eq_true.2 hS)] at h
    exact h
theorem cov_step {j : Nat} (hj : j ∈ bad) : ∀ {f : Nat} {S : List Nat} {t : Tr}, cov ops bad f S t = true → S.contains j = false → (∀ b ∈ bad, anc ops ops.size b j = true → S.contains b = true) → ∃ u f', Tr.front bad j t = some u ∧ cov ops bad f' (j :: S) u = true
  | 0, S, t, h, hS, _ => by
    simp only [cov, Bool.and_eq_true] at h
    have := List.all_eq_true.1 h.1 j hj
    rw [hS] at this; cases this
  | f + 1, S, t, h, hS, ha => by
    simp only [cov] at h
    rw [if_neg (fun e => by have := List.all_eq_true.1 e j hj; rw [hS] at this; cases this)] at h
    have h1 := List.all_eq_true.1 h j hj
    have h2 : (bad.all fun b => S.contains b || !anc ops ops.size b j) = true := List.all_eq_true.2 fun b hb => by
      cases h3 : anc ops ops.size b j with
      | false => simp
      | true => rw [ha b hb h3]; rfl
    rw [hS, h2] at h1
    simp only [Bool.not_true, Bool.or_false, Bool.false_or] at h1
    split at h1
    · rename_i u hu; exact ⟨u, f, hu, h1⟩
    · cases h1
theorem draw_tree {ro : Option Nat} (hsel : ∀ (j : Nat) (o : Oper), ops[j]? = some o → ∀ cs b, o.op ≠ .select cs b)
    (hback : ∀ i o, ops[i]? = some o → ∀ e ∈ o.after, Region.binds .any e = true → e.on < i)
    (hkind : ∀ j, j < ops.size → bad.contains j = false → lightB fm ops j = true ∨ ∀ b ∈ bad, anc ops ops.size b j = true) (hbs : ∀ b ∈ bad, b < ops.size) :
    ∀ (fuel : Nat) (listed : Array Bool) (L : List Nat) (S : List Nat) (t : Tr) (f : Nat), listed.size = ops.size → L.Nodup → (∀ j, j ∈ L ↔ (j < ops.size ∧ listed.getD j true = false)) → L.length ≤ fuel →
    (∀ i, listed.getD i false = true → ∀ k x, anc ops k x i = true → listed.getD x false = true) →
    (∀ b ∈ bad, S.contains b = listed.getD b false) → cov ops bad f S t = true → t.pairs (relB fm ops bad) = true → (∀ x ∈ t.els, x < ops.size) → (∀ k, k < ops.size → listed.getD k true = false → t.has k = true) →
    ∀ a w, Inv w → Xt P ops Inv fm K (t.strip (fun x => listed.getD x false)) a w → wpAnyIn (fen ro) 0 P .any ops (onlyN K) fuel listed a w := by
  have gd : ∀ (l : Array Bool) (j : Nat), j < l.size → (l.getD j true = false ↔ ¬ l.getD j false = true) := fun l j hj => by
    simp [Array.getD, hj]
  have hdone : ∀ (listed : Array Bool) (S : List Nat) (t : Tr) (f : Nat), listed.size = ops.size → (∀ j, j < ops.size → listed.getD j false = true) → (∀ b ∈ bad, S.contains b = listed.getD b false) → cov ops bad f S t = true →
      (∀ x ∈ t.els, x < ops.size) → t.strip (fun x => listed.getD x false) = .done := fun listed S t f hsz hall hS hc hel =>
    strip_all (cov_all hc fun b hb => by rw [hS b hb]; exact hall b (hbs b hb)) (fun x hx => hall x (hel x hx))
  have hready : ∀ (listed : Array Bool), listed.size = ops.size → Region.ready .any ops listed = [] → ∀ j, j < ops.size → listed.getD j false = true := by
    intro listed hsz hr j
    induction j using Nat.strongRecOn with
    | _ j ih =>
      intro hj
      rcases Bool.eq_false_or_eq_true (listed.getD j false) with h1 | h1
      · exact h1
      · exfalso
        have : j ∈ Region.ready .any ops listed := mem_ready.2 ⟨(gd listed j (by omega)).2 (by simp [h1]), ops[j]'hj, by simp [hj], fun e he hb => by
          have := hback j _ (by simp [hj]) e he hb
          exact ih e.on this (by omega)⟩
        rw [hr] at this; cases this
  intro fuel
  induction fuel with
  | zero =>
    intro listed L S t f hsz hnd hL hlen hD hS hc hp hel hh a w hI h
    obtain rfl : L = [] := List.length_eq_zero_iff.1 (by omega)
    have hall : ∀ j, j < ops.size → listed.getD j false = true := fun j hj => by
      rcases Bool.eq_false_or_eq_true (listed.getD j false) with h1 | h1
      · exact h1
      · exact absurd ((hL j).2 ⟨hj, (gd listed j (by omega)).2 (by simp [h1])⟩) (by simp)
    rw [hdone listed S t f hsz hall hS hc hel] at h
    refine ⟨?_, h⟩
    cases hr : Region.ready .any ops listed with
    | nil => rfl
    | cons j js =>
      have hj : j ∈ Region.ready .any ops listed := by rw [hr]; exact List.mem_cons_self ..
      obtain ⟨h0, o, ho, _⟩ := mem_ready.1 hj
      have := (hL j).2 ⟨(Array.getElem?_eq_some_iff.1 ho).1, h0⟩
      cases this
  | succ fuel ih =>
    intro listed L S t f hsz hnd hL hlen hD hS hc hp hel hh a w hI h
    refine ⟨fun hr => ?_, fun j hj => ?_⟩
    · rw [hdone listed S t f hsz (hready listed hsz hr) hS hc hel] at h
      exact h
    · obtain ⟨h0, oj, hoj, hall⟩ := mem_ready.1 hj
      have hjlt : j < ops.size := (Array.getElem?_eq_some_iff.1 hoj).1
      have hjL : j ∈ L := (hL j).2 ⟨hjlt, h0⟩
      have hpj : listed.getD j false = false := by
        have := (gd listed j (by omega)).1 h0
        simpa using this
      have hanc : ∀ k x, anc ops k x j = true → listed.getD x false = true := by
        intro k x hx
        cases k with
        | zero => cases hx
        | succ k =>
          obtain ⟨o, e, ho, he, hb, h1⟩ := anc_inv hx
          rw [hoj] at ho; obtain rfl := Option.some.inj ho
          have hl := hall e he hb
          rcases h1 with h1 | h1
          · rw [← h1]; exact hl
          · exact hD _ hl k x h1
      have hq : ∀ x, x ≠ j → (listed.setIfInBounds j true).getD x false = listed.getD x false := fun x hx => getD_set_ne false (Ne.symm hx)
      have hqj : (listed.setIfInBounds j true).getD j false = true := by simp [Array.getD, hsz, hjlt]
      have hL' : ∀ x, x ∈ L.erase j ↔ (x < ops.size ∧ (listed.setIfInBounds j true).getD x true = false) := fun x => by
        by_cases hxj : x = j
        · subst hxj
          constructor
          · intro hx; exact absurd hx (by simpa using hnd.not_mem_erase)
          · rintro ⟨_, hx⟩; simp [Array.getD, hsz, hjlt] at hx
        · rw [getD_set_ne true (Ne.symm hxj), ← hL x, List.mem_erase_of_ne hxj]
      have hlen' : (L.erase j).length ≤ fuel := by rw [List.length_erase_of_mem hjL]; omega
      have hD' : ∀ i, (listed.setIfInBounds j true).getD i false = true → ∀ k x, anc ops k x i = true → (listed.setIfInBounds j true).getD x false = true := by
        intro i hi k x hx
        by_cases hij : i = j
        · subst hij; exact getD_set_true (hanc k x hx)
        · rw [getD_set_ne false (Ne.symm hij)] at hi
          exact getD_set_true (hD i hi k x hx)
      by_cases hb : bad.contains j = true
      · have hbm : j ∈ bad := by simpa using hb
        obtain ⟨u, f', hu, hcu⟩ := cov_step hbm hc (by rw [hS j hbm, hpj]) (fun b hb' ha => by rw [hS b hb']; exact hanc _ b ha)
        have hst := bad_front (P := P) (Inv := Inv) (fm := fm) (K := K) hsel hoj hpj hq hb (hanc ops.size) hu hp a w hI h
        refine wpOpIn_mono (fun a w hx => ?_) (wpOp_of_step hI hoj hst)
        refine ih (listed.setIfInBounds j true) (L.erase j) (j :: S) u f' (by simpa using hsz) (hnd.erase j) hL' hlen' hD' ?_ hcu (front_pairs hu hp) (fun x hx => hel x ((front_els hu).2 x hx)) ?_ a w hx.1 hx.2
        · intro b hb'
          by_cases hbj : b = j
          · subst hbj; rw [hqj]; simp
          · rw [hq b hbj, ← hS b hb']
            simp [hbj]
        · intro k hk hkl
          by_cases hkj : k = j
          · subst hkj; simp [Array.getD, hsz, hjlt] at hkl
          · exact front_has hkj hu (hh k hk (by rwa [getD_set_ne true (Ne.symm hkj)] at hkl))
      · have hb0 : bad.contains j = false := by simpa using hb
        have hl : lightB fm ops j = true ∨ t.noAlt = true := by
          rcases hkind j hjlt hb0 with h1 | h1
          · exact .inl h1
          · exact .inr (cov_all hc fun b hb' => by rw [hS b hb']; exact hanc _ b (h1 b hb'))
        have hst := good_front (P := P) (Inv := Inv) (fm := fm) (K := K) hsel hoj hpj hqj hq hb0 (hanc ops.size) hl (hh j hjlt h0) hp a w hI h
        refine wpOpIn_mono (fun a w hx => ?_) (wpOp_of_step hI hoj hst)
        refine ih (listed.setIfInBounds j true) (L.erase j) S t f (by simpa using hsz) (hnd.erase j) hL' hlen' hD' ?_ hc hp hel ?_ a w hx.1 hx.2
        · intro b hb'
          have hbj : b ≠ j := fun e => by rw [e] at hb'; exact hb (by simpa using hb')
          rw [hq b hbj]; exact hS b hb'
        · intro k hk hkl
          by_cases hkj : k = j
          · subst hkj; simp [Array.getD, hsz, hjlt] at hkl
          · exact hh k hk (by rwa [getD_set_ne true (Ne.symm hkj)] at hkl)
end tree
end draw

theorem tree_tail {ro : Option Nat} {P : Program} {fm : Fm} {ops : Array Oper} {Inv : World → Prop} {K : Act → World → Prop} {Q : Exit → Act → World → Prop} {a : Act} {w : World} {bad : List Nat} {t : Tr} (hok : treeOk fm ops bad t = true)
    (h1 : Xt P ops Inv fm K t a w) (hI : Inv w) (hq : ∀ a w, K a w → Q .normal a w) :
    wpAnyIn (fen ro) 0 P .any ops Q ops.size (Array.replicate ops.size false) a w := by
  simp only [treeOk, Bool.and_eq_true] at hok
  obtain ⟨⟨⟨⟨⟨⟨⟨hsel, hback⟩, hp⟩, hel⟩, hbs⟩, hhas⟩, hkind⟩, hcov⟩ := hok
  have hstrip : t.strip (fun x => (Array.replicate ops.size false).getD x false) = t := by
    have e : (fun x => (Array.replicate ops.size false).getD x false) = fun _ => false := by funext x; simp [Array.getD]
    rw [e]
    clear hp hel hhas hcov h1
    induction t with
    | done => rfl
    | step i t ih => simp [Tr.strip, ih]
    | alt t u ih1 ih2 => simp [Tr.strip, ih1, ih2]
  have h3 := draw_tree (ro := ro) (P := P) (ops := ops) (Inv := Inv) (fm := fm) (bad := bad) (K := K) (fun j o ho cs b e => by
      have := List.all_eq_true.1 hsel o (by have := Array.mem_of_getElem? ho; simpa using this)
      rw [e] at this; cases this) (fun i o hi e he hb => by
      have hlt : i < ops.size := (Array.getElem?_eq_some_iff.1 hi).1
      have := List.all_eq_true.1 hback i (by simpa using hlt)
      rw [hi] at this
      have := List.all_eq_true.1 this e (by simpa using he)
      simpa [hb] using this) (fun j hj hb => by
      have := List.all_eq_true.1 hkind j (by simpa using hj)
      simp only [Bool.or_eq_true, List.all_eq_true] at this
      rcases this with (h | h) | h
      · rw [hb] at h; cases h
      · exact .inl h
      · exact .inr h) (fun b hb => by simpa using List.all_eq_true.1 hbs b hb)
    ops.size (Array.replicate ops.size false) (List.range ops.size) [] t bad.length (by simp) List.nodup_range (fun j => by
      simp only [List.mem_range]
      constructor
      · intro hj; exact ⟨hj, by simp [Array.getD, hj]⟩
      · exact fun hj => hj.1) (by simp) (fun i hi => by simp [Array.getD] at hi) (fun b hb => by simp [Array.getD]) hcov hp (fun x hx => by simpa using List.all_eq_true.1 hel x hx)
    (fun k hk _ => List.all_eq_true.1 hhas k (by simpa using hk)) a w hI (by rw [hstrip]; exact h1)
  exact wpAny_monoQ (fun e a' w' h => by
    cases e with
    | normal => exact hq _ _ h
    | _ => exact h.elim) _ _ _ _ h3

section code
variable {P : Program} {B : Base} {N : Nat} {F : Fr} {A : List Asn} {Q : Exit → Fr → List Asn → Prop} {K : Fr → List Asn → Prop} {ops : List Oper} {fm : Fm}
def WlT (P : Program) (B : Base) (N : Nat) (fm : Fm) (ops : List Oper) (t : Tr) (F : Fr) (A : List Asn) (K : Fr → List Asn → Prop) : Prop :=
  ∀ R, Ent [R] (mOf fm) → ∀ a w, Rep N a F → Sat B w (R :: A) → Xt P ops.toArray (fun w => Sat B w [R]) fm (Lift B N R a.defers K) t a w
theorem WlT_done (h : K F A) : WlT P B N fm ops .done F A K := fun R hE a w hr hs => ⟨rfl, F, A, hr, hs, h⟩
theorem WlT_alt {t u : Tr} (h1 : WlT P B N fm ops t F A K) (h2 : WlT P B N fm ops u F A K) : WlT P B N fm ops (.alt t u) F A K := fun R hE a w hr hs => ⟨h1 R hE a w hr hs, h2 R hE a w hr hs⟩
theorem WlT_step {i : Nat} {t : Tr} {o : Oper} (ho : ops[i]? = some o) (h : Wl P B N fm ops [o] F A (fun F' A' => WlT P B N fm ops t F' A' K)) : WlT P B N fm ops (.step i t) F A K := fun R hE a w hr hs => by
  have ho' : ops.toArray[i]? = some o := by simpa using ho
  have h1 := h R hE a w hr hs
  simp only [Xt, ho']
  refine stepX_mono hs.hd (fun a' w' _ hx => ?_) h1
  obtain ⟨hd, F', A', q1, q2, q3⟩ := hx
  have := q3 R hE a' w' q1 q2
  rw [hd] at this
  exact this
/-- The walk of a drawn region in the orders of a tree. -/
theorem Wc_tree {id : Nat} (t : Tr) (bad : List Nat) (hok : treeOk none ops.toArray bad t = true) (hm : P.follows .mixedOrders = true := by kernel_rfl)
    (h : ∀ K : Fr → List Asn → Prop, (∀ F A, Q .normal F A → K F A) → WlT P B N none ops t F A K) :
    Wc P B N (.region id ops.toArray true) F A Q := fun ro R a w hk hr hs => by
  refine wpIn_region_any hm ?_
  have hs' : Sat B { w with drawn := w.drawn + 1 } (R :: A) := ⟨hs.size, hs.io, hs.base, hs.own⟩
  have h1 := h (fun F A => Q .normal F A) (fun _ _ h => h) R Ent.nil a _ hr hs'
  exact tree_tail hok h1 hs'.hd (fun a' w' ⟨hd, F', A', q1, q2, q3⟩ => ⟨[], F', A', hd, q1, q2, q3⟩)
theorem Wc_treeF {id : Nat} (M : List Asn) (Ls : List Nat) (t : Tr) (bad : List Nat) {A1 : List Asn} (hok : treeOk (some ([], Ls)) ops.toArray bad t = true) (hm : P.follows .mixedOrders = true := by kernel_rfl) (hp : A.Perm (M ++ A1))
    (h : ∀ K : Fr → List Asn → Prop, (∀ F A, Q .normal F (M ++ A) → K F A) → WlT P B N (some (M, Ls)) ops t F A1 K) :
    Wc P B N (.region id ops.toArray true) F A Q := fun ro R a w hk hr hs => by
  refine wpIn_region_any hm ?_
  have hs' : Sat B { w with drawn := w.drawn + 1 } (lst (R :: M) :: A1) := Sat.ent (L := R :: M ++ A1) (Ent.lst_shut (R :: M) A1) ⟨hs.size, hs.io, hs.base, hs.own.perm (hp.cons R)⟩
  have hE : Ent [lst (R :: M)] M := (Ent.lst_open (R :: M) []).trans (by simpa using Ent.drop R)
  have h1 := h (fun F A => Q .normal F (M ++ A)) (fun _ _ h => h) (lst (R :: M)) hE a _ hr hs'
  have hok' : treeOk (some (M, Ls)) ops.toArray bad t = true := hok
  refine tree_tail hok' h1 hs'.hd (fun a' w' hq => ?_)
  obtain ⟨hd, F', A', h1, h2, h3⟩ := hq
  exact ⟨[], F', M ++ A', hd, h1, h2.ent (Ent.lst_open (R :: M) A'), h3⟩
end code
section rules
variable {P : Program} {B : Base} {N : Nat} {ops rest : List Oper} {F : Fr} {A : List Asn} {K : Fr → List Asn → Prop}
variable {T : TypeId} {pos : String} {aft : Array Edge} {d : Tmp} {fm : Fm} {U : TypeId}
/-- An array literal of no element. -/
theorem Wl_buildA0 {E m n : Nat} {z : List Value} [h1 : TArr P U m E] [h2 : TSize P E n] [hz : TZero P U z] (hd : Nat.blt d N = true := by exact rfl)
    (k : Wl P B N fm ops rest (upd F d (.agg z.toArray)) A K) : Wl P B N fm ops (⟨some d, .build U #[], T, pos, aft, none⟩ :: rest) F A K :=
  Wl_valP hd (fun w => by
    obtain ⟨v, hv, hvc⟩ := run_zero (P := P) w U hz.out
    have hs := run_sizeOf (P := P) w E h2.out
    have hu : P.underlying U = some (.array m E) := by
      have h := h1.out
      unfold arrOf at h
      split at h
      · rename_i hh; cases h; exact hh
      · cases h
    have hr : (Instr.build U #[]).run P w = .ok (.agg z.toArray) w := by
      simp [Instr.build, hv, hvc, run_under w U hu, hs, Instr.fill]
    simpa [execOp] using congrArg (fun r => r.andThen fun v w' => Result.ok (Next.value v) w') hr) k
end rules
end Go.Sl
/- Package control: what a controller is; Over, master, Plan, Table, ready, shut, Known. Conditions: the table is right. -/
set_option maxHeartbeats 8000000
set_option linter.unusedVariables false
set_option linter.unusedSimpArgs false
set_option maxRecDepth 100000
namespace Go.Proofs.Ytepeljbgekgjcaa
open Go Go.Sl
attribute [local irreducible] Go.Sl.Wl Go.Sl.Wc Go.Sl.thenQ Go.Sl.blkQ Go.Sl.loopQ Go.Sl.Fspec

/-- What a region has reported. -/
structure Rp where
  is : Bool
  closed : Bool
  ep : Int
  ix : Int
def repC (r : Rp) : List Value := [.bool r.is, .bool r.closed, .int .i64 r.ep, .int .i64 r.ix]
def Rp.zero : Rp := ⟨false, false, 0, 0⟩
/-- A controller. -/
structure Ct where
  table : List Ep
  kind : Nat
  target : Nat
  regions : Nat
  known : Nat → Rp
  over : Bool
def knownC (k : Nat → Rp) : List Value := repC (k 0) ++ (repC (k 1) ++ (repC (k 2) ++ (repC (k 3) ++ repC (k 4))))
def CtC (a : Option Addr) (cap j : Nat) (C : Ct) : List Value :=
  .slice a C.table.length cap :: .int .i64 (C.kind : Nat) :: .int .i64 (C.target : Nat) :: .pointer (some ⟨j, 0, none⟩) :: .int .i64 (C.regions : Nat) :: (knownC C.known ++ [.int .u32 (b32 C.over)])
structure Ct.ok (C : Ct) : Prop where
  right : rightT C.table = true
  regs : 1 ≤ C.regions ∧ C.regions ≤ 4
  kind : C.kind ≤ 2
  target : C.target ≤ C.regions
  plan : C.kind = 0 ↔ C.target = 0
  mast : ∀ e ∈ C.table, e.master ≤ C.regions
theorem known_row (a : Option Addr) (cap j : Nat) (C : Ct) {i : Nat} (h : i < 5) : ((CtC a cap j C).drop (5 + i * 4)).take 4 = repC (C.known i) := by
  have : i = 0 ∨ i = 1 ∨ i = 2 ∨ i = 3 ∨ i = 4 := by omega
  rcases this with rfl | rfl | rfl | rfl | rfl <;> rfl
theorem known_cell (a : Option Addr) (cap j : Nat) (C : Ct) {i r : Nat} (h : i < 5) (hr : r < 4) : (CtC a cap j C)[5 + i * 4 + r]? = (repC (C.known i))[r]? := by
  have h1 := known_row a cap j C h
  rw [← h1, ← List.getElem?_drop, List.getElem?_take, if_pos hr]
theorem known_len (a : Option Addr) (cap j : Nat) (C : Ct) : (CtC a cap j C).length = 26 := rfl
theorem known_set (a : Option Addr) (cap j : Nat) (C : Ct) {i : Nat} (h : i < 5) (x : Rp) : setL (CtC a cap j C) (5 + i * 4) (repC x) = CtC a cap j { C with known := fun k => if k = i then x else C.known k } := by
  have : i = 0 ∨ i = 1 ∨ i = 2 ∨ i = 3 ∨ i = 4 := by omega
  rcases this with rfl | rfl | rfl | rfl | rfl <;> rfl
/-- The last epoch. -/
def lastE (t : List Ep) : Ep := t.getLast?.getD ⟨0, 0, false⟩
theorem lastE_get {t : List Ep} (h : 0 < t.length) : t[t.length - 1]? = some (lastE t) := by
  unfold lastE
  rw [List.getLast?_eq_getElem?, List.getElem?_eq_getElem (by omega)]; rfl
theorem lastE_mem {t : List Ep} (h : 0 < t.length) : lastE t ∈ t := List.mem_of_getElem? (lastE_get h)
/-- The last epoch's master. -/
def Ct.mst (C : Ct) : Nat := (lastE C.table).master.toNat
theorem Ct.ok.mst {C : Ct} (h : C.ok) : (lastE C.table).master = (C.mst : Int) ∧ 1 ≤ C.mst ∧ C.mst ≤ C.regions := by
  have h1 := rightT_out h.right
  have h2 := lastE_mem h1.1
  have h3 := h1.2.2.1 _ h2
  have h4 := h.mast _ h2
  unfold Ep.fair at h3
  unfold Ct.mst
  omega
/-- The epoch that carries the plan out, and whether it can be yet. -/
def Ct.ready (C : Ct) : Ep × Bool :=
  if C.kind = 1 then (⟨C.target, (C.known C.mst).ix, false⟩, (C.known C.mst).closed && (decide (C.target = C.mst) || ((C.known C.target).closed && decide ((C.known C.target).ix = (C.known C.mst).ix))))
  else if C.kind = 2 then (⟨C.target, (C.known C.target).ix, true⟩, (C.known C.target).closed)
  else (⟨0, 0, false⟩, false)
/-- Is a region to be closed? -/
def Ct.shut (C : Ct) (to : Nat) : Bool :=
  if C.kind = 1 then decide (to = C.mst) || (decide (to = C.target) && (C.known C.mst).closed && (C.known to).is && decide ((C.known C.mst).ix ≤ (C.known to).ix))
  else if C.kind = 2 then decide (to = C.target)
  else false
theorem Pick_all : ∀ A : List Asn, Pick A A []
  | [] => .nil
  | _ :: A => .cons .head (Pick_all A)
/-- A block that can be read. -/
def RdH (B : Base) (A : List Asn) (b : Nat) (l : List Value) (E : TypeId) : Prop := ∀ w, Sat B w A → w.heap[b]? = some (.cells l.toArray E (0, 0))
theorem RdH.of {B : Base} {A : List Asn} {b : Nat} {l : List Value} {E : TypeId} (h : Rd B b l E (0, 0) A) : RdH B A b l E := fun w hs => h.heap hs
theorem RdH.rds {P : Program} {B : Base} {A : List Asn} {b m sz : Nat} {l : List Value} {E : TypeId} (h : RdH B A b l E) (hl : l.length = m * sz) : RdS P B A sz (some ⟨b, 0, none⟩) m m l :=
  ⟨hl, by simp, by omega, fun w hs => ⟨rfl, fun n hn => by
    have hmn : n * sz ≤ m * sz := Nat.mul_le_mul_right _ hn
    have := Go.Sl.run_loadCells P w (b := b) (off := 0) (n := n * sz) (h w hs) (by omega)
    rw [List.drop_zero] at this
    exact this⟩⟩
section specs
variable {B : Base}
theorem bload_H (A0 : List Asn) (p off : Nat) (l : List Value) (E : TypeId) (b : Bool) (h : RdH B A0 p l E) (hx : l[off]? = some (.int .u32 (b32 b))) :
    Fspec Try.prog B 27 #[.pointer (some ⟨p, off, none⟩)] A0 (fun v A' => v = .bool b ∧ A' = A0) := by
  have hrun : ∀ w R, Sat B w (R :: A0) → ∃ w', (callFunc 45 #[.pointer (some ⟨p, off, none⟩)]).run Try.prog w = .ok (.value (.int .u32 (b32 b))) w' ∧ Sat B w' (R :: A0) := fun w R hs =>
    ⟨_, load32_run (cell_of_heap (h w (hs.ent (Ent.drop _))) hx), hs⟩
  refine spec_of (args := [_]) Try.func27 rfl rfl rfl ?_
  repeat' (first
    | refine Wc_seq ?_
    | refine thenQ_normal ?_
    | refine Wc_cond_t (h := ?_)
    | refine Wc_cond_f (h := ?_)
    | refine Wc_ret ?_
    | refine thenQ_ret ?_
    | refine Wc_block ?_
    | refine blkQ_normal ?_
    | refine blkQ_ret ?_
    | refine Wc_exit ?_
    | refine thenQ_exit ?_
    | refine blkQ_hit ?_
    | refine blkQ_miss rfl ?_
    | refine Wc_skip ?_
    | refine Wc_label ?_
    | refine loopQ_exit ?_
    | refine loopQ_ret ?_
    | refine loopQ_normal ?_
    | (refine Wc_region (id := 0) ?_; intro K hK; refine Wl_assign (k := ?_); (refine Wl_nil (hK _ _ ?_); clear hK K))
    | (refine Wc_region (id := 1) ?_; intro K hK; refine Wl_move (k := ?_); refine Wl_nilCheck (k := ?_); refine Wl_fieldAddr (k := ?_); ((refine Wl_callX (hrun := hrun) (k := ?_))) <;> (((refine Wl_neq (k' := ?_); rw [show decide (b32 b ≠ 0) = b by cases b <;> rfl])) <;> (refine Wl_assign (k := ?_); (refine Wl_nil (hK _ _ ?_); clear hK K))))
    | (refine Wc_cond (ht := (fun ht => ?_)) (hf := (fun ht => ?_)) <;> (try simp at ht) <;> (try (exfalso; omega))))
  exact ⟨Or.inr rfl, _, A0, Ent.refl _, res1 rfl rfl, rfl, rfl⟩
theorem over_spec (A0 : List Asn) (c : Nat) (a : Option Addr) (cap j : Nat) (C : Ct) (h : RdH B A0 c (CtC a cap j C) 95) :
    Fspec Try.prog B 16 #[.pointer (some ⟨c, 0, none⟩)] A0 (fun v A' => v = .bool C.over ∧ A' = A0) := by
  refine spec_of (args := [_]) Try.func16 rfl rfl rfl ?_
  repeat' (first
    | refine Wc_seq ?_
    | refine thenQ_normal ?_
    | refine Wc_cond_t (h := ?_)
    | refine Wc_cond_f (h := ?_)
    | refine Wc_ret ?_
    | refine thenQ_ret ?_
    | refine Wc_block ?_
    | refine blkQ_normal ?_
    | refine blkQ_ret ?_
    | refine Wc_exit ?_
    | refine thenQ_exit ?_
    | refine blkQ_hit ?_
    | refine blkQ_miss rfl ?_
    | refine Wc_skip ?_
    | refine Wc_label ?_
    | refine loopQ_exit ?_
    | refine loopQ_ret ?_
    | refine loopQ_normal ?_
    | (refine Wc_region (id := 0) ?_; intro K hK; refine Wl_assign (k := ?_); (refine Wl_nil (hK _ _ ?_); clear hK K))
    | (refine Wc_region (id := 1) ?_; intro K hK; refine Wl_move (k := ?_); refine Wl_ptr_eq_nil (k' := ?_); refine Wl_move (k := ?_); ((first | (refine Wl_guard (k := ?_); refine Wl_move (k := ?_)) | refine Wl_gno (k := ?_) | ((refine Wl_split (yes := (fun ht => ?_)) (no := (fun ht => ?_)) <;> (try simp at ht) <;> (try (exfalso; omega))) <;> (first | (refine Wl_guard (k := ?_); refine Wl_move (k := ?_)) | refine Wl_gno (k := ?_))))) <;> (((first | (refine Wl_guard (k := ?_); refine Wl_nilCheck (k := ?_)) | refine Wl_gno (k := ?_) | ((refine Wl_split (yes := (fun ht => ?_)) (no := (fun ht => ?_)) <;> (try simp at ht) <;> (try (exfalso; omega))) <;> (first | (refine Wl_guard (k := ?_); refine Wl_nilCheck (k := ?_)) | refine Wl_gno (k := ?_))))) <;> (((first | (refine Wl_guard (k := ?_); refine Wl_fieldAddr (k := ?_)) | refine Wl_gno (k := ?_) | ((refine Wl_split (yes := (fun ht => ?_)) (no := (fun ht => ?_)) <;> (try simp at ht) <;> (try (exfalso; omega))) <;> (first | (refine Wl_guard (k := ?_); refine Wl_fieldAddr (k := ?_)) | refine Wl_gno (k := ?_))))) <;> (((first | (refine Wl_guard (k := ?_); (refine Wl_call (hs := bload_H A0 c 25 _ _ C.over h rfl) (hp := Pick_all _) (k := ?_); rintro v A' ⟨rfl, hA⟩; subst A'; try simp only [List.append_nil])) | refine Wl_gno (k := ?_) | ((refine Wl_split (yes := (fun ht => ?_)) (no := (fun ht => ?_)) <;> (try simp at ht) <;> (try (exfalso; omega))) <;> (first | (refine Wl_guard (k := ?_); (refine Wl_call (hs := bload_H A0 c 25 _ _ C.over h rfl) (hp := Pick_all _) (k := ?_); rintro v A' ⟨rfl, hA⟩; subst A'; try simp only [List.append_nil])) | refine Wl_gno (k := ?_))))) <;> ((first | refine Wl_pick_t (k := ?_) | refine Wl_pick_f (k := ?_) | refine Wl_pick (k := ?_)); refine Wl_assign (k := ?_); (refine Wl_nil (hK _ _ ?_); clear hK K))))))
    | (refine Wc_cond (ht := (fun ht => ?_)) (hf := (fun ht => ?_)) <;> (try simp at ht) <;> (try (exfalso; omega))))
  exact ⟨Or.inr rfl, _, A0, Ent.refl _, res1 rfl rfl, rfl, rfl⟩
theorem master_spec (A0 : List Asn) (c : Nat) (a : Option Addr) (cap j : Nat) (C : Ct) (h : RdH B A0 c (CtC a cap j C) 95) (hr : RdS Try.prog B A0 3 a C.table.length cap (epsC C.table)) (hC : C.ok) :
    Fspec Try.prog B 44 #[.pointer (some ⟨c, 0, none⟩)] A0 (fun v A' => v = .int .i64 C.mst ∧ A' = A0) := by
  have h0 := rightT_out hC.right
  obtain ⟨e1, e2, e3⟩ := hC.mst
  have hg := lastE_get h0.1
  have hRS : RdS Try.prog B A0 26 (some ⟨c, 0, none⟩) 1 1 (CtC a cap j C) := h.rds rfl
  obtain ⟨q, rfl⟩ : ∃ q, a = some q := by
    cases a with
    | none => have := hr.nil rfl; omega
    | some q => exact ⟨q, rfl⟩
  refine spec_of (args := [_]) Try.func44 rfl rfl rfl ?_
  repeat' (first
    | refine Wc_seq ?_
    | refine thenQ_normal ?_
    | refine Wc_cond_t (h := ?_)
    | refine Wc_cond_f (h := ?_)
    | refine Wc_ret ?_
    | refine thenQ_ret ?_
    | refine Wc_block ?_
    | refine blkQ_normal ?_
    | refine blkQ_ret ?_
    | refine Wc_exit ?_
    | refine thenQ_exit ?_
    | refine blkQ_hit ?_
    | refine blkQ_miss rfl ?_
    | refine Wc_skip ?_
    | refine Wc_label ?_
    | refine loopQ_exit ?_
    | refine loopQ_ret ?_
    | refine loopQ_normal ?_
    | (refine Wc_region (id := 0) ?_; intro K hK; refine Wl_assign (k := ?_); (refine Wl_nil (hK _ _ ?_); clear hK K))
    | (refine Wc_draw (id := 1) (h := ?_); intro K hK; refine Wl_move (k := ?_); refine Wl_nilCheck (k := ?_); refine Wl_fieldAddr (k := ?_); refine Wl_fieldAddr (k := ?_); ((refine Wl_loadG (v := .slice (some q) C.table.length cap) (j := 0) (hq := rfl) (hr := hRS) (k := ?_))) <;> (refine Wl_move (k := ?_); refine Wl_nilCheck (k := ?_); refine Wl_fieldAddr (k := ?_); refine Wl_fieldAddr (k := ?_); ((refine Wl_loadG (v := .slice (some q) C.table.length cap) (j := 0) (hq := rfl) (hr := hRS) (k := ?_))) <;> (refine Wl_len_sl (k' := ?_); ((refine Wl_sub (k' := ?_); rw [show ((C.table.length : Nat) : Int) - 1 = ((C.table.length - 1 : Nat) : Int) by omega])) <;> (((refine Wl_index_any (k' := ?_))) <;> (((refine Wl_fieldAddrG (k := ?_))) <;> (((refine Wl_loadG (v := .int .i64 C.mst) (j := (C.table.length - 1) * 3) (hq := by simp [Addr.add]) (hr := hr) (hv := by simpa using epsC_cell (r := 0) hg (by omega) (by rw [← e1]; rfl)) (k := ?_))) <;> (refine Wl_assign (k := ?_); (refine Wl_nil (hK _ _ ?_); clear hK K))))))))
    | (refine Wc_cond (ht := (fun ht => ?_)) (hf := (fun ht => ?_)) <;> (try simp at ht) <;> (try (exfalso; omega))))
  exact ⟨Or.inr rfl, _, A0, Ent.refl _, res1 rfl rfl, rfl, rfl⟩
def CtK (c : Nat) (a : Option Addr) (cap j : Nat) (C : Ct) : List Asn := [cb c (CtC a cap j C) 95, own a C.table.length cap 3 (epsC C.table) 40]
theorem CtK.rd {c : Nat} {a : Option Addr} {cap j : Nat} {C : Ct} (h : OwnF a C.table.length cap 3 (epsC C.table)) : RdS Try.prog B (CtK c a cap j C) 3 a C.table.length cap (epsC C.table) := h.rd (by (repeat (first | exact Out.head | apply Out.tail)); (first | done | fail))
theorem CtK.rh {c : Nat} {a : Option Addr} {cap j : Nat} {C : Ct} : RdH B (CtK c a cap j C) c (CtC a cap j C) 95 := RdH.of .head
theorem ready_spec (c : Nat) (a : Option Addr) (cap j : Nat) (C : Ct) (hC : C.ok) :
    Fspec Try.prog B 25 #[.pointer (some ⟨c, 0, none⟩)] (CtK c a cap j C) (fun v A' => v = .tuple #[.agg (epC C.ready.1).toArray, .bool C.ready.2] ∧ A' = CtK c a cap j C) := by
  have hreg := hC.regs; have htg := hC.target; have hkd := hC.kind
  obtain ⟨em, em1, em2⟩ := hC.mst
  refine spec_of (args := [_]) Try.func25 rfl rfl rfl ?_
  refine Wc_ownF (a := a) (sz := 3) (ho := .tail .head) (h0 := by omega) (h := fun hf => ?_)
  have hmaster := fun (B' : Base) (hB : ∀ w L, Sat B' w L → Sat B w (CtK c a cap j C)) => master_spec (B := B') [] c a cap j C (fun w hs => (RdH.of .head) w (hB w _ hs)) ⟨hf.e1, hf.e3, hf.e2, fun w hs => (hf.rd (A := CtK c a cap j C) (.tail .head)).src w (hB w _ hs)⟩ hC
  have hmaster1 := master_spec (B := B) (CtK c a cap j C) c a cap j C CtK.rh (CtK.rd hf) hC
  simp only [CtK] at hmaster hmaster1 ⊢
  have hk3 : C.kind = 0 ∨ C.kind = 1 ∨ C.kind = 2 := by omega
  rcases hk3 with hk | hk | hk
  · repeat' (first
      | refine Wc_seq ?_
      | refine thenQ_normal ?_
      | refine Wc_cond_t (h := ?_)
      | refine Wc_cond_f (h := ?_)
      | refine Wc_ret ?_
      | refine thenQ_ret ?_
      | refine Wc_block ?_
      | refine blkQ_normal ?_
      | refine blkQ_ret ?_
      | refine Wc_exit ?_
      | refine thenQ_exit ?_
      | refine blkQ_hit ?_
      | refine blkQ_miss rfl ?_
      | refine Wc_skip ?_
      | refine Wc_label ?_
      | refine loopQ_exit ?_
      | refine loopQ_ret ?_
      | refine loopQ_normal ?_
      | (refine Wc_region (id := 0) ?_; intro K hK; (refine Wl_alloc (k := ?_); intro r); refine Wl_assign (k := ?_); (refine Wl_nil (hK _ _ ?_); clear hK K))
      | (refine Wc_draw (id := 1) (h := ?_); intro K hK; refine Wl_move (k := ?_); refine Wl_move (k := ?_); refine Wl_nilCheck (k := ?_); refine Wl_fieldAddr (k := ?_); refine Wl_fieldAddr (k := ?_); refine Wl_fieldAddr (k := ?_); refine Wl_load (k := ?_); refine Wl_nilCheck (k := ?_); refine Wl_fieldAddr (k := ?_); refine Wl_index_arr (k' := ?_); ((refine Wl_loadAgg (cs := repC (C.known C.target)) (hv := by simp [known_len]; omega) (hc := by simpa using known_row a cap j C (i := C.target) (by omega)) (k := ?_))) <;> (((refine Wl_alloc (k := ?_); intro r4)) <;> (refine Wl_storeR (ho' := rfl) (k := ?_); (refine Wl_nil (hK _ _ ?_); clear hK K))))
      | (refine Wc_region (id := 2) ?_; intro K hK; refine Wl_move (k := ?_); refine Wl_nilCheck (k := ?_); refine Wl_fieldAddr (k := ?_); refine Wl_fieldAddr (k := ?_); refine Wl_fieldAddr (k := ?_); refine Wl_load (k := ?_); (refine Wl_nil (hK _ _ ?_); clear hK K))
      | (refine Wc_region (id := 3) ?_; intro K hK; refine Wl_eql (k' := ?_); refine Wl_assign (k := ?_); (refine Wl_nil (hK _ _ ?_); clear hK K))
      | (refine Wc_draw (id := 4) (h := ?_); intro K hK; refine Wl_move (k := ?_); refine Wl_move (k := ?_))
      | (refine Wc_draw (id := 5) (h := ?_); intro K hK; refine Wl_fieldAddr (k := ?_); refine Wl_load (k := ?_); refine Wl_move (k := ?_); ((first | (refine Wl_guard (k := ?_); refine Wl_move (k := ?_)) | refine Wl_gno (k := ?_) | ((refine Wl_split (yes := (fun ht => ?_)) (no := (fun ht => ?_)) <;> (try simp at ht) <;> (try (exfalso; omega))) <;> (first | (refine Wl_guard (k := ?_); refine Wl_move (k := ?_)) | refine Wl_gno (k := ?_))))) <;> (((first | (refine Wl_guard (k := ?_); refine Wl_nilCheck (k := ?_)) | refine Wl_gno (k := ?_) | ((refine Wl_split (yes := (fun ht => ?_)) (no := (fun ht => ?_)) <;> (try simp at ht) <;> (try (exfalso; omega))) <;> (first | (refine Wl_guard (k := ?_); refine Wl_nilCheck (k := ?_)) | refine Wl_gno (k := ?_))))) <;> (((first | (refine Wl_guard (k := ?_); refine Wl_fieldAddr (k := ?_)) | refine Wl_gno (k := ?_) | ((refine Wl_split (yes := (fun ht => ?_)) (no := (fun ht => ?_)) <;> (try simp at ht) <;> (try (exfalso; omega))) <;> (first | (refine Wl_guard (k := ?_); refine Wl_fieldAddr (k := ?_)) | refine Wl_gno (k := ?_))))) <;> (((first | (refine Wl_guard (k := ?_); refine Wl_fieldAddr (k := ?_)) | refine Wl_gno (k := ?_) | ((refine Wl_split (yes := (fun ht => ?_)) (no := (fun ht => ?_)) <;> (try simp at ht) <;> (try (exfalso; omega))) <;> (first | (refine Wl_guard (k := ?_); refine Wl_fieldAddr (k := ?_)) | refine Wl_gno (k := ?_))))) <;> (((first | (refine Wl_guard (k := ?_); refine Wl_fieldAddr (k := ?_)) | refine Wl_gno (k := ?_) | ((refine Wl_split (yes := (fun ht => ?_)) (no := (fun ht => ?_)) <;> (try simp at ht) <;> (try (exfalso; omega))) <;> (first | (refine Wl_guard (k := ?_); refine Wl_fieldAddr (k := ?_)) | refine Wl_gno (k := ?_))))) <;> (((first | (refine Wl_guard (k := ?_); refine Wl_load (k := ?_)) | refine Wl_gno (k := ?_) | ((refine Wl_split (yes := (fun ht => ?_)) (no := (fun ht => ?_)) <;> (try simp at ht) <;> (try (exfalso; omega))) <;> (first | (refine Wl_guard (k := ?_); refine Wl_load (k := ?_)) | refine Wl_gno (k := ?_))))) <;> (((first | (refine Wl_guard (k := ?_); refine Wl_move (k := ?_)) | refine Wl_gno (k := ?_) | ((refine Wl_split (yes := (fun ht => ?_)) (no := (fun ht => ?_)) <;> (try simp at ht) <;> (try (exfalso; omega))) <;> (first | (refine Wl_guard (k := ?_); refine Wl_move (k := ?_)) | refine Wl_gno (k := ?_))))) <;> ((refine Wl_gno (k := ?_)) <;> (((first | (refine Wl_guard (k := ?_); refine Wl_eql (k' := ?_)) | refine Wl_gno (k := ?_) | ((refine Wl_split (yes := (fun ht => ?_)) (no := (fun ht => ?_)) <;> (try simp at ht) <;> (try (exfalso; omega))) <;> (first | (refine Wl_guard (k := ?_); refine Wl_eql (k' := ?_)) | refine Wl_gno (k := ?_))))) <;> (((first | (refine Wl_guard (k := ?_); refine Wl_move (k := ?_)) | refine Wl_gno (k := ?_) | ((refine Wl_split (yes := (fun ht => ?_)) (no := (fun ht => ?_)) <;> (try simp at ht) <;> (try (exfalso; omega))) <;> (first | (refine Wl_guard (k := ?_); refine Wl_move (k := ?_)) | refine Wl_gno (k := ?_))))) <;> (((first | (refine Wl_guard (k := ?_); refine Wl_fieldAddr (k := ?_)) | refine Wl_gno (k := ?_) | ((refine Wl_split (yes := (fun ht => ?_)) (no := (fun ht => ?_)) <;> (try simp at ht) <;> (try (exfalso; omega))) <;> (first | (refine Wl_guard (k := ?_); refine Wl_fieldAddr (k := ?_)) | refine Wl_gno (k := ?_))))) <;> (((first | (refine Wl_guard (k := ?_); refine Wl_load (k := ?_)) | refine Wl_gno (k := ?_) | ((refine Wl_split (yes := (fun ht => ?_)) (no := (fun ht => ?_)) <;> (try simp at ht) <;> (try (exfalso; omega))) <;> (first | (refine Wl_guard (k := ?_); refine Wl_load (k := ?_)) | refine Wl_gno (k := ?_))))) <;> (((first | (refine Wl_guard (k := ?_); refine Wl_move (k := ?_)) | refine Wl_gno (k := ?_) | ((refine Wl_split (yes := (fun ht => ?_)) (no := (fun ht => ?_)) <;> (try simp at ht) <;> (try (exfalso; omega))) <;> (first | (refine Wl_guard (k := ?_); refine Wl_move (k := ?_)) | refine Wl_gno (k := ?_))))) <;> (((first | (refine Wl_guard (k := ?_); refine Wl_fieldAddr (k := ?_)) | refine Wl_gno (k := ?_) | ((refine Wl_split (yes := (fun ht => ?_)) (no := (fun ht => ?_)) <;> (try simp at ht) <;> (try (exfalso; omega))) <;> (first | (refine Wl_guard (k := ?_); refine Wl_fieldAddr (k := ?_)) | refine Wl_gno (k := ?_))))) <;> (((first | (refine Wl_guard (k := ?_); refine Wl_fieldAddr (k := ?_)) | refine Wl_gno (k := ?_) | ((refine Wl_split (yes := (fun ht => ?_)) (no := (fun ht => ?_)) <;> (try simp at ht) <;> (try (exfalso; omega))) <;> (first | (refine Wl_guard (k := ?_); refine Wl_fieldAddr (k := ?_)) | refine Wl_gno (k := ?_))))) <;> (((first | (refine Wl_guard (k := ?_); refine Wl_load (k := ?_)) | refine Wl_gno (k := ?_) | ((refine Wl_split (yes := (fun ht => ?_)) (no := (fun ht => ?_)) <;> (try simp at ht) <;> (try (exfalso; omega))) <;> (first | (refine Wl_guard (k := ?_); refine Wl_load (k := ?_)) | refine Wl_gno (k := ?_))))) <;> (((first | (refine Wl_guard (k := ?_); refine Wl_fieldAddr (k := ?_)) | refine Wl_gno (k := ?_) | ((refine Wl_split (yes := (fun ht => ?_)) (no := (fun ht => ?_)) <;> (try simp at ht) <;> (try (exfalso; omega))) <;> (first | (refine Wl_guard (k := ?_); refine Wl_fieldAddr (k := ?_)) | refine Wl_gno (k := ?_))))) <;> (((first | (refine Wl_guard (k := ?_); refine Wl_fieldAddr (k := ?_)) | refine Wl_gno (k := ?_) | ((refine Wl_split (yes := (fun ht => ?_)) (no := (fun ht => ?_)) <;> (try simp at ht) <;> (try (exfalso; omega))) <;> (first | (refine Wl_guard (k := ?_); refine Wl_fieldAddr (k := ?_)) | refine Wl_gno (k := ?_))))) <;> (((first | (refine Wl_guard (k := ?_); refine Wl_load (k := ?_)) | refine Wl_gno (k := ?_) | ((refine Wl_split (yes := (fun ht => ?_)) (no := (fun ht => ?_)) <;> (try simp at ht) <;> (try (exfalso; omega))) <;> (first | (refine Wl_guard (k := ?_); refine Wl_load (k := ?_)) | refine Wl_gno (k := ?_))))) <;> (((first | (refine Wl_guard (k := ?_); refine Wl_eql (k' := ?_)) | refine Wl_gno (k := ?_) | ((refine Wl_split (yes := (fun ht => ?_)) (no := (fun ht => ?_)) <;> (try simp at ht) <;> (try (exfalso; omega))) <;> (first | (refine Wl_guard (k := ?_); refine Wl_eql (k' := ?_)) | refine Wl_gno (k := ?_))))) <;> (((first | (refine Wl_guard (k := ?_); (first | refine Wl_pick_t (k := ?_) | refine Wl_pick_f (k := ?_) | refine Wl_pick (k := ?_))) | refine Wl_gno (k := ?_) | ((refine Wl_split (yes := (fun ht => ?_)) (no := (fun ht => ?_)) <;> (try simp at ht) <;> (try (exfalso; omega))) <;> (first | (refine Wl_guard (k := ?_); (first | refine Wl_pick_t (k := ?_) | refine Wl_pick_f (k := ?_) | refine Wl_pick (k := ?_))) | refine Wl_gno (k := ?_))))) <;> (((first | (refine Wl_guard (k := ?_); (first | refine Wl_pick_t (k := ?_) | refine Wl_pick_f (k := ?_) | refine Wl_pick (k := ?_))) | refine Wl_gno (k := ?_) | ((refine Wl_split (yes := (fun ht => ?_)) (no := (fun ht => ?_)) <;> (try simp at ht) <;> (try (exfalso; omega))) <;> (first | (refine Wl_guard (k := ?_); (first | refine Wl_pick_t (k := ?_) | refine Wl_pick_f (k := ?_) | refine Wl_pick (k := ?_))) | refine Wl_gno (k := ?_))))) <;> ((first | refine Wl_pick_t (k := ?_) | refine Wl_pick_f (k := ?_) | refine Wl_pick (k := ?_)); refine Wl_assign (k := ?_); (refine Wl_nil (hK _ _ ?_); clear hK K))))))))))))))))))))))))
      | (refine Wc_draw (id := 6) (h := ?_); intro K hK; refine Wl_move (k := ?_); refine Wl_nilCheck (k := ?_); refine Wl_fieldAddr (k := ?_); refine Wl_fieldAddr (k := ?_); refine Wl_fieldAddr (k := ?_); refine Wl_load (k := ?_); refine Wl_fieldAddr (k := ?_); refine Wl_fieldAddr (k := ?_); refine Wl_load (k := ?_); refine Wl_build (k := ?_); refine Wl_move (k := ?_); refine Wl_storeR (ho' := rfl) (k := ?_); refine Wl_assign (k := ?_); (refine Wl_nil (hK _ _ ?_); clear hK K))
      | (refine Wc_region (id := 7) ?_; intro K hK; refine Wl_eql (k' := ?_); refine Wl_assign (k := ?_); (refine Wl_nil (hK _ _ ?_); clear hK K))
      | (refine Wc_draw (id := 8) (h := ?_); intro K hK; refine Wl_move (k := ?_); refine Wl_nilCheck (k := ?_); refine Wl_fieldAddr (k := ?_); refine Wl_fieldAddr (k := ?_); refine Wl_fieldAddr (k := ?_); refine Wl_load (k := ?_); refine Wl_fieldAddr (k := ?_); refine Wl_fieldAddr (k := ?_); refine Wl_load (k := ?_); refine Wl_build (k := ?_); refine Wl_fieldAddr (k := ?_); refine Wl_load (k := ?_); refine Wl_storeR (ho' := rfl) (k := ?_); refine Wl_assign (k := ?_); (refine Wl_nil (hK _ _ ?_); clear hK K))
      | (refine Wc_region (id := 9) ?_; intro K hK; refine Wl_build (k := ?_); refine Wl_storeR (ho' := rfl) (k := ?_); refine Wl_assign (k := ?_); (refine Wl_nil (hK _ _ ?_); clear hK K))
      | (refine Wc_cond (ht := (fun ht => ?_)) (hf := (fun ht => ?_)) <;> (try simp at ht) <;> (try (exfalso; omega))))
    refine ⟨Or.inr rfl, _, CtK c a cap j C, ?_, resG rfl (by (repeat (first | exact ResL.nil | apply ResL.tmp (by (repeat (first | exact Ev.here | exact Ev.const | exact Ev.arg rfl | apply Ev.there rfl | exact Ev.none rfl | exact Ev.func | exact Ev.var)); (first | done | fail)) | apply ResL.agg (by (repeat (first | exact Ev.here | exact Ev.const | exact Ev.arg rfl | apply Ev.there rfl | exact Ev.none rfl | exact Ev.func | exact Ev.var)); (first | done | fail)) (by (repeat (first | exact Rd.head | exact Rd.base (by assumption) | apply Rd.tail)); (first | done | fail)) (by (repeat (first | exact TakeR.nil | apply TakeR.take | apply TakeR.skip)); (first | done | fail)) | apply ResL.cell (by (repeat (first | exact Ev.here | exact Ev.const | exact Ev.arg rfl | apply Ev.there rfl | exact Ev.none rfl | exact Ev.func | exact Ev.var)); (first | done | fail)) (by (repeat (first | exact Rd.head | exact Rd.base (by assumption) | apply Rd.tail)); (first | done | fail)) rfl)); (first | done | fail)) rfl, ?_, rfl⟩
    · simp only [CtK]
      (repeat (first | exact Ent.refl _ | exact Ent.nil | refine Ent.take (by (repeat (first | exact Out.head | apply Out.tail)); (first | done | fail)) ?_ | refine Ent.drop1 ?_))
    · simp only [Ct.ready, hk]; rfl
  · repeat' (first
      | (refine Wc_cutS (k := 4) (α := Nat) (fun x => [(0, .pointer (some ⟨c, 0, none⟩)), (2, .pointer (some ⟨r2, 0, none⟩)), (4, .pointer (some ⟨r4, 0, none⟩)), (5, .pointer (some ⟨x, 0, none⟩))]) (fun x => [cb x (repC (C.known C.mst)) 89, cb r4 (repC (C.known C.target)) 89, cb r2 [.int .i64 0, .int .i64 0, .bool false] 40, cb c (CtC a cap j C) 95, own a C.table.length cap 3 (epsC C.table) 40]) (fun _ => True) ?_ (fun r5 G _ => ?_); rotate_left; simp only [ov]; rotate_left)
      | refine Wc_seq ?_
      | refine thenQ_normal ?_
      | refine Wc_cond_t (h := ?_)
      | refine Wc_cond_f (h := ?_)
      | refine Wc_ret ?_
      | refine thenQ_ret ?_
      | refine Wc_block ?_
      | refine blkQ_normal ?_
      | refine blkQ_ret ?_
      | refine Wc_exit ?_
      | refine thenQ_exit ?_
      | refine blkQ_hit ?_
      | refine blkQ_miss rfl ?_
      | refine Wc_skip ?_
      | refine Wc_label ?_
      | refine loopQ_exit ?_
      | refine loopQ_ret ?_
      | refine loopQ_normal ?_
      | (refine Wc_region (id := 0) ?_; intro K hK; ((refine Wl_alloc (k := ?_); intro r2)) <;> (refine Wl_assign (k := ?_); (refine Wl_nil (hK _ _ ?_); clear hK K)))
      | (refine Wc_draw (id := 1) (h := ?_); intro K hK; refine Wl_move (k := ?_); refine Wl_move (k := ?_); refine Wl_nilCheck (k := ?_); refine Wl_fieldAddr (k := ?_); refine Wl_fieldAddr (k := ?_); refine Wl_fieldAddr (k := ?_); refine Wl_load (k := ?_); refine Wl_nilCheck (k := ?_); refine Wl_fieldAddr (k := ?_); refine Wl_index_arr (k' := ?_); ((refine Wl_loadAgg (cs := repC (C.known C.target)) (hv := by simp [known_len]; omega) (hc := by simpa using known_row a cap j C (i := C.target) (by omega)) (k := ?_))) <;> (((refine Wl_alloc (k := ?_); intro r4)) <;> (refine Wl_storeR (ho' := rfl) (k := ?_); (refine Wl_nil (hK _ _ ?_); clear hK K))))
      | (refine Wc_region (id := 2) ?_; intro K hK; refine Wl_move (k := ?_); refine Wl_nilCheck (k := ?_); refine Wl_fieldAddr (k := ?_); refine Wl_fieldAddr (k := ?_); refine Wl_fieldAddr (k := ?_); refine Wl_load (k := ?_); (refine Wl_nil (hK _ _ ?_); clear hK K))
      | (refine Wc_region (id := 3) ?_; intro K hK; refine Wl_eql (k' := ?_); refine Wl_assign (k := ?_); (refine Wl_nil (hK _ _ ?_); clear hK K))
      | ((refine Wc_tree (id := 4) (t := (.step 0 (.step 1 (.step 3 (.step 4 (.alt (.step 2 (.step 5 (.alt (.step 6 (.step 7 (.step 8 .done))) (.step 7 (.step 6 (.step 8 .done)))))) (.step 7 (.step 2 (.step 5 (.step 6 (.step 8 .done))))))))))) (bad := [2, 6, 7]) (hok := (by decide +kernel)) (h := ?_); intro K hK; repeat' (first | refine WlT_alt ?_ ?_ | (refine WlT_step (i := 0) rfl ?_; (refine Wl_move (k := ?_)) <;> (refine Wl_nil ?_)) | (refine WlT_step (i := 1) rfl ?_; (refine Wl_move (k := ?_)) <;> (refine Wl_nil ?_)) | (refine WlT_step (i := 2) rfl ?_; ((refine Wl_call (hs := hmaster1) (k := ?_); rintro v A' ⟨rfl, rfl⟩; simp only [List.cons_append, List.nil_append])) <;> (refine Wl_nil ?_)) | (refine WlT_step (i := 3) rfl ?_; (refine Wl_nilCheck (k := ?_)) <;> (refine Wl_nil ?_)) | (refine WlT_step (i := 4) rfl ?_; (refine Wl_fieldAddr (k := ?_)) <;> (refine Wl_nil ?_)) | (refine WlT_step (i := 5) rfl ?_; (refine Wl_index_arr (k' := ?_)) <;> (refine Wl_nil ?_)) | (refine WlT_step (i := 6) rfl ?_; ((refine Wl_loadAgg (cs := repC (C.known C.mst)) (hv := by simp [known_len]; omega) (hc := by simpa using known_row a cap j C (i := C.mst) (by omega)) (k := ?_))) <;> (refine Wl_nil ?_)) | (refine WlT_step (i := 7) rfl ?_; ((refine Wl_alloc (k := ?_); intro r5)) <;> (refine Wl_nil ?_)) | (refine WlT_step (i := 8) rfl ?_; (refine Wl_storeR (ho' := rfl) (k := ?_)) <;> (refine Wl_nil ?_)) | (refine WlT_done (hK _ _ ?_); clear hK K))))
      | (refine Wc_drawF (id := 5) (M := ([cb r5 (repC (C.known C.mst)) 89, cb r4 (repC (C.known C.target)) 89, cb c (CtC a cap j C) 95, own a C.table.length cap 3 (epsC C.table) 40])) (Ls := [34, 41, 44, 47, 51, 54, 55]) (hp := (Pick.perm (by (repeat (first | exact Pick.nil | apply Pick.cons (by (repeat (first | exact Out.head | apply Out.tail)); (first | done | fail)))); (first | done | fail)))) (h := ?_); intro K hK; refine Wl_fieldAddr (k := ?_); refine Wl_loadF (k := ?_); refine Wl_move (k := ?_); ((first | (refine Wl_guard (k := ?_); refine Wl_move (k := ?_)) | refine Wl_gno (k := ?_) | ((refine Wl_split (yes := (fun ht => ?_)) (no := (fun ht => ?_)) <;> (try simp at ht) <;> (try (exfalso; omega))) <;> (first | (refine Wl_guard (k := ?_); refine Wl_move (k := ?_)) | refine Wl_gno (k := ?_))))) <;> (((first | (refine Wl_guard (k := ?_); refine Wl_nilCheck (k := ?_)) | refine Wl_gno (k := ?_) | ((refine Wl_split (yes := (fun ht => ?_)) (no := (fun ht => ?_)) <;> (try simp at ht) <;> (try (exfalso; omega))) <;> (first | (refine Wl_guard (k := ?_); refine Wl_nilCheck (k := ?_)) | refine Wl_gno (k := ?_))))) <;> (((first | (refine Wl_guard (k := ?_); refine Wl_fieldAddr (k := ?_)) | refine Wl_gno (k := ?_) | ((refine Wl_split (yes := (fun ht => ?_)) (no := (fun ht => ?_)) <;> (try simp at ht) <;> (try (exfalso; omega))) <;> (first | (refine Wl_guard (k := ?_); refine Wl_fieldAddr (k := ?_)) | refine Wl_gno (k := ?_))))) <;> (((first | (refine Wl_guard (k := ?_); refine Wl_fieldAddr (k := ?_)) | refine Wl_gno (k := ?_) | ((refine Wl_split (yes := (fun ht => ?_)) (no := (fun ht => ?_)) <;> (try simp at ht) <;> (try (exfalso; omega))) <;> (first | (refine Wl_guard (k := ?_); refine Wl_fieldAddr (k := ?_)) | refine Wl_gno (k := ?_))))) <;> (((first | (refine Wl_guard (k := ?_); refine Wl_fieldAddr (k := ?_)) | refine Wl_gno (k := ?_) | ((refine Wl_split (yes := (fun ht => ?_)) (no := (fun ht => ?_)) <;> (try simp at ht) <;> (try (exfalso; omega))) <;> (first | (refine Wl_guard (k := ?_); refine Wl_fieldAddr (k := ?_)) | refine Wl_gno (k := ?_))))) <;> (((first | (refine Wl_guard (k := ?_); refine Wl_loadF (k := ?_)) | refine Wl_gno (k := ?_) | ((refine Wl_split (yes := (fun ht => ?_)) (no := (fun ht => ?_)) <;> (try simp at ht) <;> (try (exfalso; omega))) <;> (first | (refine Wl_guard (k := ?_); refine Wl_loadF (k := ?_)) | refine Wl_gno (k := ?_))))) <;> (((first | (refine Wl_guard (k := ?_); refine Wl_move (k := ?_)) | refine Wl_gno (k := ?_) | ((refine Wl_split (yes := (fun ht => ?_)) (no := (fun ht => ?_)) <;> (try simp at ht) <;> (try (exfalso; omega))) <;> (first | (refine Wl_guard (k := ?_); refine Wl_move (k := ?_)) | refine Wl_gno (k := ?_))))) <;> (((first | (refine Wl_guard (k := ?_); (refine Wl_callM (hs := fun B' hB => hmaster B' (fun w L hs => (hB w L hs).ent (.trans (Ent.drop _) (Ent.drop _)))) (k := ?_); rintro v A' ⟨rfl, rfl⟩; simp only [List.cons_append, List.nil_append])) | refine Wl_gno (k := ?_) | ((refine Wl_split (yes := (fun ht => ?_)) (no := (fun ht => ?_)) <;> (try simp at ht) <;> (try (exfalso; omega))) <;> (first | (refine Wl_guard (k := ?_); (refine Wl_callM (hs := fun B' hB => hmaster B' (fun w L hs => (hB w L hs).ent (.trans (Ent.drop _) (Ent.drop _)))) (k := ?_); rintro v A' ⟨rfl, rfl⟩; simp only [List.cons_append, List.nil_append])) | refine Wl_gno (k := ?_))))) <;> (((first | (refine Wl_guard (k := ?_); refine Wl_eql (k' := ?_)) | refine Wl_gno (k := ?_) | ((refine Wl_split (yes := (fun ht => ?_)) (no := (fun ht => ?_)) <;> (try simp at ht) <;> (try (exfalso; omega))) <;> (first | (refine Wl_guard (k := ?_); refine Wl_eql (k' := ?_)) | refine Wl_gno (k := ?_))))) <;> (((first | (refine Wl_guard (k := ?_); refine Wl_move (k := ?_)) | refine Wl_gno (k := ?_) | ((refine Wl_split (yes := (fun ht => ?_)) (no := (fun ht => ?_)) <;> (try simp at ht) <;> (try (exfalso; omega))) <;> (first | (refine Wl_guard (k := ?_); refine Wl_move (k := ?_)) | refine Wl_gno (k := ?_))))) <;> (((first | (refine Wl_guard (k := ?_); refine Wl_fieldAddr (k := ?_)) | refine Wl_gno (k := ?_) | ((refine Wl_split (yes := (fun ht => ?_)) (no := (fun ht => ?_)) <;> (try simp at ht) <;> (try (exfalso; omega))) <;> (first | (refine Wl_guard (k := ?_); refine Wl_fieldAddr (k := ?_)) | refine Wl_gno (k := ?_))))) <;> (((first | (refine Wl_guard (k := ?_); refine Wl_loadF (k := ?_)) | refine Wl_gno (k := ?_) | ((refine Wl_split (yes := (fun ht => ?_)) (no := (fun ht => ?_)) <;> (try simp at ht) <;> (try (exfalso; omega))) <;> (first | (refine Wl_guard (k := ?_); refine Wl_loadF (k := ?_)) | refine Wl_gno (k := ?_))))) <;> (((first | (refine Wl_guard (k := ?_); refine Wl_move (k := ?_)) | refine Wl_gno (k := ?_) | ((refine Wl_split (yes := (fun ht => ?_)) (no := (fun ht => ?_)) <;> (try simp at ht) <;> (try (exfalso; omega))) <;> (first | (refine Wl_guard (k := ?_); refine Wl_move (k := ?_)) | refine Wl_gno (k := ?_))))) <;> (((first | (refine Wl_guard (k := ?_); refine Wl_fieldAddr (k := ?_)) | refine Wl_gno (k := ?_) | ((refine Wl_split (yes := (fun ht => ?_)) (no := (fun ht => ?_)) <;> (try simp at ht) <;> (try (exfalso; omega))) <;> (first | (refine Wl_guard (k := ?_); refine Wl_fieldAddr (k := ?_)) | refine Wl_gno (k := ?_))))) <;> (((first | (refine Wl_guard (k := ?_); refine Wl_fieldAddr (k := ?_)) | refine Wl_gno (k := ?_) | ((refine Wl_split (yes := (fun ht => ?_)) (no := (fun ht => ?_)) <;> (try simp at ht) <;> (try (exfalso; omega))) <;> (first | (refine Wl_guard (k := ?_); refine Wl_fieldAddr (k := ?_)) | refine Wl_gno (k := ?_))))) <;> (((first | (refine Wl_guard (k := ?_); refine Wl_loadF (k := ?_)) | refine Wl_gno (k := ?_) | ((refine Wl_split (yes := (fun ht => ?_)) (no := (fun ht => ?_)) <;> (try simp at ht) <;> (try (exfalso; omega))) <;> (first | (refine Wl_guard (k := ?_); refine Wl_loadF (k := ?_)) | refine Wl_gno (k := ?_))))) <;> (((first | (refine Wl_guard (k := ?_); refine Wl_fieldAddr (k := ?_)) | refine Wl_gno (k := ?_) | ((refine Wl_split (yes := (fun ht => ?_)) (no := (fun ht => ?_)) <;> (try simp at ht) <;> (try (exfalso; omega))) <;> (first | (refine Wl_guard (k := ?_); refine Wl_fieldAddr (k := ?_)) | refine Wl_gno (k := ?_))))) <;> (((first | (refine Wl_guard (k := ?_); refine Wl_fieldAddr (k := ?_)) | refine Wl_gno (k := ?_) | ((refine Wl_split (yes := (fun ht => ?_)) (no := (fun ht => ?_)) <;> (try simp at ht) <;> (try (exfalso; omega))) <;> (first | (refine Wl_guard (k := ?_); refine Wl_fieldAddr (k := ?_)) | refine Wl_gno (k := ?_))))) <;> (((first | (refine Wl_guard (k := ?_); refine Wl_loadF (k := ?_)) | refine Wl_gno (k := ?_) | ((refine Wl_split (yes := (fun ht => ?_)) (no := (fun ht => ?_)) <;> (try simp at ht) <;> (try (exfalso; omega))) <;> (first | (refine Wl_guard (k := ?_); refine Wl_loadF (k := ?_)) | refine Wl_gno (k := ?_))))) <;> (((first | (refine Wl_guard (k := ?_); refine Wl_eql (k' := ?_)) | refine Wl_gno (k := ?_) | ((refine Wl_split (yes := (fun ht => ?_)) (no := (fun ht => ?_)) <;> (try simp at ht) <;> (try (exfalso; omega))) <;> (first | (refine Wl_guard (k := ?_); refine Wl_eql (k' := ?_)) | refine Wl_gno (k := ?_))))) <;> (((first | (refine Wl_guard (k := ?_); (first | refine Wl_pick_t (k := ?_) | refine Wl_pick_f (k := ?_) | refine Wl_pick (k := ?_))) | refine Wl_gno (k := ?_) | ((refine Wl_split (yes := (fun ht => ?_)) (no := (fun ht => ?_)) <;> (try simp at ht) <;> (try (exfalso; omega))) <;> (first | (refine Wl_guard (k := ?_); (first | refine Wl_pick_t (k := ?_) | refine Wl_pick_f (k := ?_) | refine Wl_pick (k := ?_))) | refine Wl_gno (k := ?_))))) <;> (((first | (refine Wl_guard (k := ?_); (first | refine Wl_pick_t (k := ?_) | refine Wl_pick_f (k := ?_) | refine Wl_pick (k := ?_))) | refine Wl_gno (k := ?_) | ((refine Wl_split (yes := (fun ht => ?_)) (no := (fun ht => ?_)) <;> (try simp at ht) <;> (try (exfalso; omega))) <;> (first | (refine Wl_guard (k := ?_); (first | refine Wl_pick_t (k := ?_) | refine Wl_pick_f (k := ?_) | refine Wl_pick (k := ?_))) | refine Wl_gno (k := ?_))))) <;> ((first | refine Wl_pick_t (k := ?_) | refine Wl_pick_f (k := ?_) | refine Wl_pick (k := ?_)); refine Wl_assign (k := ?_); (refine Wl_nil (hK _ _ ?_); clear hK K; try simp only [List.cons_append, List.nil_append]))))))))))))))))))))))))
      | (refine Wc_draw (id := 6) (h := ?_); intro K hK; refine Wl_move (k := ?_); refine Wl_nilCheck (k := ?_); refine Wl_fieldAddr (k := ?_); refine Wl_fieldAddr (k := ?_); refine Wl_fieldAddr (k := ?_); refine Wl_load (k := ?_); refine Wl_fieldAddr (k := ?_); refine Wl_fieldAddr (k := ?_); refine Wl_load (k := ?_); refine Wl_build (k := ?_); refine Wl_move (k := ?_); refine Wl_storeR (ho' := rfl) (k := ?_); refine Wl_assign (k := ?_); (refine Wl_nil (hK _ _ ?_); clear hK K))
      | (refine Wc_cond (ht := (fun ht => ?_)) (hf := (fun ht => ?_)) <;> (try simp at ht) <;> (try (exfalso; omega))))
    all_goals first
      | exact ⟨r5, trivial, ⟨rfl, rfl, rfl, rfl, trivial⟩, (by (repeat (first | exact Ent.refl _ | exact Ent.nil | refine Ent.take (by (repeat (first | exact Out.head | apply Out.tail)); (first | done | fail)) ?_ | refine Ent.drop1 ?_)))⟩
      | (refine ⟨Or.inr rfl, _, CtK c a cap j C, ?_, resG rfl (by (repeat (first | exact ResL.nil | apply ResL.tmp (by (repeat (first | exact Ev.here | exact Ev.const | exact Ev.arg rfl | apply Ev.there rfl | exact Ev.none rfl | exact Ev.func | exact Ev.var)); (first | done | fail)) | apply ResL.agg (by (repeat (first | exact Ev.here | exact Ev.const | exact Ev.arg rfl | apply Ev.there rfl | exact Ev.none rfl | exact Ev.func | exact Ev.var)); (first | done | fail)) (by (repeat (first | exact Rd.head | exact Rd.base (by assumption) | apply Rd.tail)); (first | done | fail)) (by (repeat (first | exact TakeR.nil | apply TakeR.take | apply TakeR.skip)); (first | done | fail)) | apply ResL.cell (by (repeat (first | exact Ev.here | exact Ev.const | exact Ev.arg rfl | apply Ev.there rfl | exact Ev.none rfl | exact Ev.func | exact Ev.var)); (first | done | fail)) (by (repeat (first | exact Rd.head | exact Rd.base (by assumption) | apply Rd.tail)); (first | done | fail)) rfl)); (first | done | fail)) rfl, ?_, rfl⟩
         · simp only [CtK]
           (repeat (first | exact Ent.refl _ | exact Ent.nil | refine Ent.take (by (repeat (first | exact Out.head | apply Out.tail)); (first | done | fail)) ?_ | refine Ent.drop1 ?_))
         · simp only [Ct.ready, if_pos hk]
           refine congrArg (fun b => Value.tuple #[.agg (epC ⟨C.target, (C.known C.mst).ix, false⟩).toArray, .bool b]) ?_
           first
             | (have e1 : (C.known C.mst).closed = false := by assumption
                simp [e1]; done)
             | (have e0 : (C.known C.mst).closed = true := by assumption
                have e1 : C.target = C.mst := by omega
                simp [e0, e1]; done)
             | (have e0 : (C.known C.mst).closed = true := by assumption
                have e1 : ¬ C.target = C.mst := by omega
                have e2 : (C.known C.target).closed = false := by assumption
                simp [e0, e1, e2]; done)
             | (have e0 : (C.known C.mst).closed = true := by assumption
                have e1 : ¬ C.target = C.mst := by omega
                have e2 : (C.known C.target).closed = true := by assumption
                simp [e0, e1, e2]; done))
  · repeat' (first
      | refine Wc_seq ?_
      | refine thenQ_normal ?_
      | refine Wc_cond_t (h := ?_)
      | refine Wc_cond_f (h := ?_)
      | refine Wc_ret ?_
      | refine thenQ_ret ?_
      | refine Wc_block ?_
      | refine blkQ_normal ?_
      | refine blkQ_ret ?_
      | refine Wc_exit ?_
      | refine thenQ_exit ?_
      | refine blkQ_hit ?_
      | refine blkQ_miss rfl ?_
      | refine Wc_skip ?_
      | refine Wc_label ?_
      | refine loopQ_exit ?_
      | refine loopQ_ret ?_
      | refine loopQ_normal ?_
      | (refine Wc_region (id := 0) ?_; intro K hK; (refine Wl_alloc (k := ?_); intro r); refine Wl_assign (k := ?_); (refine Wl_nil (hK _ _ ?_); clear hK K))
      | (refine Wc_draw (id := 1) (h := ?_); intro K hK; refine Wl_move (k := ?_); refine Wl_move (k := ?_); refine Wl_nilCheck (k := ?_); refine Wl_fieldAddr (k := ?_); refine Wl_fieldAddr (k := ?_); refine Wl_fieldAddr (k := ?_); refine Wl_load (k := ?_); refine Wl_nilCheck (k := ?_); refine Wl_fieldAddr (k := ?_); refine Wl_index_arr (k' := ?_); ((refine Wl_loadAgg (cs := repC (C.known C.target)) (hv := by simp [known_len]; omega) (hc := by simpa using known_row a cap j C (i := C.target) (by omega)) (k := ?_))) <;> (((refine Wl_alloc (k := ?_); intro r4)) <;> (refine Wl_storeR (ho' := rfl) (k := ?_); (refine Wl_nil (hK _ _ ?_); clear hK K))))
      | (refine Wc_region (id := 2) ?_; intro K hK; refine Wl_move (k := ?_); refine Wl_nilCheck (k := ?_); refine Wl_fieldAddr (k := ?_); refine Wl_fieldAddr (k := ?_); refine Wl_fieldAddr (k := ?_); refine Wl_load (k := ?_); (refine Wl_nil (hK _ _ ?_); clear hK K))
      | (refine Wc_region (id := 3) ?_; intro K hK; refine Wl_eql (k' := ?_); refine Wl_assign (k := ?_); (refine Wl_nil (hK _ _ ?_); clear hK K))
      | (refine Wc_draw (id := 4) (h := ?_); intro K hK; refine Wl_move (k := ?_); refine Wl_move (k := ?_))
      | (refine Wc_draw (id := 5) (h := ?_); intro K hK; refine Wl_fieldAddr (k := ?_); refine Wl_load (k := ?_); refine Wl_move (k := ?_); ((first | (refine Wl_guard (k := ?_); refine Wl_move (k := ?_)) | refine Wl_gno (k := ?_) | ((refine Wl_split (yes := (fun ht => ?_)) (no := (fun ht => ?_)) <;> (try simp at ht) <;> (try (exfalso; omega))) <;> (first | (refine Wl_guard (k := ?_); refine Wl_move (k := ?_)) | refine Wl_gno (k := ?_))))) <;> (((first | (refine Wl_guard (k := ?_); refine Wl_nilCheck (k := ?_)) | refine Wl_gno (k := ?_) | ((refine Wl_split (yes := (fun ht => ?_)) (no := (fun ht => ?_)) <;> (try simp at ht) <;> (try (exfalso; omega))) <;> (first | (refine Wl_guard (k := ?_); refine Wl_nilCheck (k := ?_)) | refine Wl_gno (k := ?_))))) <;> (((first | (refine Wl_guard (k := ?_); refine Wl_fieldAddr (k := ?_)) | refine Wl_gno (k := ?_) | ((refine Wl_split (yes := (fun ht => ?_)) (no := (fun ht => ?_)) <;> (try simp at ht) <;> (try (exfalso; omega))) <;> (first | (refine Wl_guard (k := ?_); refine Wl_fieldAddr (k := ?_)) | refine Wl_gno (k := ?_))))) <;> (((first | (refine Wl_guard (k := ?_); refine Wl_fieldAddr (k := ?_)) | refine Wl_gno (k := ?_) | ((refine Wl_split (yes := (fun ht => ?_)) (no := (fun ht => ?_)) <;> (try simp at ht) <;> (try (exfalso; omega))) <;> (first | (refine Wl_guard (k := ?_); refine Wl_fieldAddr (k := ?_)) | refine Wl_gno (k := ?_))))) <;> (((first | (refine Wl_guard (k := ?_); refine Wl_fieldAddr (k := ?_)) | refine Wl_gno (k := ?_) | ((refine Wl_split (yes := (fun ht => ?_)) (no := (fun ht => ?_)) <;> (try simp at ht) <;> (try (exfalso; omega))) <;> (first | (refine Wl_guard (k := ?_); refine Wl_fieldAddr (k := ?_)) | refine Wl_gno (k := ?_))))) <;> (((first | (refine Wl_guard (k := ?_); refine Wl_load (k := ?_)) | refine Wl_gno (k := ?_) | ((refine Wl_split (yes := (fun ht => ?_)) (no := (fun ht => ?_)) <;> (try simp at ht) <;> (try (exfalso; omega))) <;> (first | (refine Wl_guard (k := ?_); refine Wl_load (k := ?_)) | refine Wl_gno (k := ?_))))) <;> (((first | (refine Wl_guard (k := ?_); refine Wl_move (k := ?_)) | refine Wl_gno (k := ?_) | ((refine Wl_split (yes := (fun ht => ?_)) (no := (fun ht => ?_)) <;> (try simp at ht) <;> (try (exfalso; omega))) <;> (first | (refine Wl_guard (k := ?_); refine Wl_move (k := ?_)) | refine Wl_gno (k := ?_))))) <;> ((refine Wl_gno (k := ?_)) <;> (((first | (refine Wl_guard (k := ?_); refine Wl_eql (k' := ?_)) | refine Wl_gno (k := ?_) | ((refine Wl_split (yes := (fun ht => ?_)) (no := (fun ht => ?_)) <;> (try simp at ht) <;> (try (exfalso; omega))) <;> (first | (refine Wl_guard (k := ?_); refine Wl_eql (k' := ?_)) | refine Wl_gno (k := ?_))))) <;> (((first | (refine Wl_guard (k := ?_); refine Wl_move (k := ?_)) | refine Wl_gno (k := ?_) | ((refine Wl_split (yes := (fun ht => ?_)) (no := (fun ht => ?_)) <;> (try simp at ht) <;> (try (exfalso; omega))) <;> (first | (refine Wl_guard (k := ?_); refine Wl_move (k := ?_)) | refine Wl_gno (k := ?_))))) <;> (((first | (refine Wl_guard (k := ?_); refine Wl_fieldAddr (k := ?_)) | refine Wl_gno (k := ?_) | ((refine Wl_split (yes := (fun ht => ?_)) (no := (fun ht => ?_)) <;> (try simp at ht) <;> (try (exfalso; omega))) <;> (first | (refine Wl_guard (k := ?_); refine Wl_fieldAddr (k := ?_)) | refine Wl_gno (k := ?_))))) <;> (((first | (refine Wl_guard (k := ?_); refine Wl_load (k := ?_)) | refine Wl_gno (k := ?_) | ((refine Wl_split (yes := (fun ht => ?_)) (no := (fun ht => ?_)) <;> (try simp at ht) <;> (try (exfalso; omega))) <;> (first | (refine Wl_guard (k := ?_); refine Wl_load (k := ?_)) | refine Wl_gno (k := ?_))))) <;> (((first | (refine Wl_guard (k := ?_); refine Wl_move (k := ?_)) | refine Wl_gno (k := ?_) | ((refine Wl_split (yes := (fun ht => ?_)) (no := (fun ht => ?_)) <;> (try simp at ht) <;> (try (exfalso; omega))) <;> (first | (refine Wl_guard (k := ?_); refine Wl_move (k := ?_)) | refine Wl_gno (k := ?_))))) <;> (((first | (refine Wl_guard (k := ?_); refine Wl_fieldAddr (k := ?_)) | refine Wl_gno (k := ?_) | ((refine Wl_split (yes := (fun ht => ?_)) (no := (fun ht => ?_)) <;> (try simp at ht) <;> (try (exfalso; omega))) <;> (first | (refine Wl_guard (k := ?_); refine Wl_fieldAddr (k := ?_)) | refine Wl_gno (k := ?_))))) <;> (((first | (refine Wl_guard (k := ?_); refine Wl_fieldAddr (k := ?_)) | refine Wl_gno (k := ?_) | ((refine Wl_split (yes := (fun ht => ?_)) (no := (fun ht => ?_)) <;> (try simp at ht) <;> (try (exfalso; omega))) <;> (first | (refine Wl_guard (k := ?_); refine Wl_fieldAddr (k := ?_)) | refine Wl_gno (k := ?_))))) <;> (((first | (refine Wl_guard (k := ?_); refine Wl_load (k := ?_)) | refine Wl_gno (k := ?_) | ((refine Wl_split (yes := (fun ht => ?_)) (no := (fun ht => ?_)) <;> (try simp at ht) <;> (try (exfalso; omega))) <;> (first | (refine Wl_guard (k := ?_); refine Wl_load (k := ?_)) | refine Wl_gno (k := ?_))))) <;> (((first | (refine Wl_guard (k := ?_); refine Wl_fieldAddr (k := ?_)) | refine Wl_gno (k := ?_) | ((refine Wl_split (yes := (fun ht => ?_)) (no := (fun ht => ?_)) <;> (try simp at ht) <;> (try (exfalso; omega))) <;> (first | (refine Wl_guard (k := ?_); refine Wl_fieldAddr (k := ?_)) | refine Wl_gno (k := ?_))))) <;> (((first | (refine Wl_guard (k := ?_); refine Wl_fieldAddr (k := ?_)) | refine Wl_gno (k := ?_) | ((refine Wl_split (yes := (fun ht => ?_)) (no := (fun ht => ?_)) <;> (try simp at ht) <;> (try (exfalso; omega))) <;> (first | (refine Wl_guard (k := ?_); refine Wl_fieldAddr (k := ?_)) | refine Wl_gno (k := ?_))))) <;> (((first | (refine Wl_guard (k := ?_); refine Wl_load (k := ?_)) | refine Wl_gno (k := ?_) | ((refine Wl_split (yes := (fun ht => ?_)) (no := (fun ht => ?_)) <;> (try simp at ht) <;> (try (exfalso; omega))) <;> (first | (refine Wl_guard (k := ?_); refine Wl_load (k := ?_)) | refine Wl_gno (k := ?_))))) <;> (((first | (refine Wl_guard (k := ?_); refine Wl_eql (k' := ?_)) | refine Wl_gno (k := ?_) | ((refine Wl_split (yes := (fun ht => ?_)) (no := (fun ht => ?_)) <;> (try simp at ht) <;> (try (exfalso; omega))) <;> (first | (refine Wl_guard (k := ?_); refine Wl_eql (k' := ?_)) | refine Wl_gno (k := ?_))))) <;> (((first | (refine Wl_guard (k := ?_); (first | refine Wl_pick_t (k := ?_) | refine Wl_pick_f (k := ?_) | refine Wl_pick (k := ?_))) | refine Wl_gno (k := ?_) | ((refine Wl_split (yes := (fun ht => ?_)) (no := (fun ht => ?_)) <;> (try simp at ht) <;> (try (exfalso; omega))) <;> (first | (refine Wl_guard (k := ?_); (first | refine Wl_pick_t (k := ?_) | refine Wl_pick_f (k := ?_) | refine Wl_pick (k := ?_))) | refine Wl_gno (k := ?_))))) <;> (((first | (refine Wl_guard (k := ?_); (first | refine Wl_pick_t (k := ?_) | refine Wl_pick_f (k := ?_) | refine Wl_pick (k := ?_))) | refine Wl_gno (k := ?_) | ((refine Wl_split (yes := (fun ht => ?_)) (no := (fun ht => ?_)) <;> (try simp at ht) <;> (try (exfalso; omega))) <;> (first | (refine Wl_guard (k := ?_); (first | refine Wl_pick_t (k := ?_) | refine Wl_pick_f (k := ?_) | refine Wl_pick (k := ?_))) | refine Wl_gno (k := ?_))))) <;> ((first | refine Wl_pick_t (k := ?_) | refine Wl_pick_f (k := ?_) | refine Wl_pick (k := ?_)); refine Wl_assign (k := ?_); (refine Wl_nil (hK _ _ ?_); clear hK K))))))))))))))))))))))))
      | (refine Wc_draw (id := 6) (h := ?_); intro K hK; refine Wl_move (k := ?_); refine Wl_nilCheck (k := ?_); refine Wl_fieldAddr (k := ?_); refine Wl_fieldAddr (k := ?_); refine Wl_fieldAddr (k := ?_); refine Wl_load (k := ?_); refine Wl_fieldAddr (k := ?_); refine Wl_fieldAddr (k := ?_); refine Wl_load (k := ?_); refine Wl_build (k := ?_); refine Wl_move (k := ?_); refine Wl_storeR (ho' := rfl) (k := ?_); refine Wl_assign (k := ?_); (refine Wl_nil (hK _ _ ?_); clear hK K))
      | (refine Wc_region (id := 7) ?_; intro K hK; refine Wl_eql (k' := ?_); refine Wl_assign (k := ?_); (refine Wl_nil (hK _ _ ?_); clear hK K))
      | (refine Wc_drawF (id := 8) (M := ([cb r4 (repC (C.known C.target)) 89, cb c (CtC a cap j C) 95])) (Ls := [77, 80, 83]) (hp := (Pick.perm (by (repeat (first | exact Pick.nil | apply Pick.cons (by (repeat (first | exact Out.head | apply Out.tail)); (first | done | fail)))); (first | done | fail)))) (h := ?_); intro K hK; refine Wl_move (k := ?_); refine Wl_nilCheck (k := ?_); refine Wl_fieldAddr (k := ?_); refine Wl_fieldAddr (k := ?_); refine Wl_fieldAddr (k := ?_); refine Wl_loadF (k := ?_); refine Wl_fieldAddr (k := ?_); refine Wl_fieldAddr (k := ?_); refine Wl_loadF (k := ?_); refine Wl_build (k := ?_); refine Wl_fieldAddr (k := ?_); refine Wl_loadF (k := ?_); refine Wl_storeR (ho' := rfl) (k := ?_); refine Wl_assign (k := ?_); (refine Wl_nil (hK _ _ ?_); clear hK K; try simp only [List.cons_append, List.nil_append]))
      | (refine Wc_region (id := 9) ?_; intro K hK; refine Wl_build (k := ?_); refine Wl_storeR (ho' := rfl) (k := ?_); refine Wl_assign (k := ?_); (refine Wl_nil (hK _ _ ?_); clear hK K))
      | (refine Wc_cond (ht := (fun ht => ?_)) (hf := (fun ht => ?_)) <;> (try simp at ht) <;> (try (exfalso; omega))))
    refine ⟨Or.inr rfl, _, CtK c a cap j C, ?_, resG rfl (by (repeat (first | exact ResL.nil | apply ResL.tmp (by (repeat (first | exact Ev.here | exact Ev.const | exact Ev.arg rfl | apply Ev.there rfl | exact Ev.none rfl | exact Ev.func | exact Ev.var)); (first | done | fail)) | apply ResL.agg (by (repeat (first | exact Ev.here | exact Ev.const | exact Ev.arg rfl | apply Ev.there rfl | exact Ev.none rfl | exact Ev.func | exact Ev.var)); (first | done | fail)) (by (repeat (first | exact Rd.head | exact Rd.base (by assumption) | apply Rd.tail)); (first | done | fail)) (by (repeat (first | exact TakeR.nil | apply TakeR.take | apply TakeR.skip)); (first | done | fail)) | apply ResL.cell (by (repeat (first | exact Ev.here | exact Ev.const | exact Ev.arg rfl | apply Ev.there rfl | exact Ev.none rfl | exact Ev.func | exact Ev.var)); (first | done | fail)) (by (repeat (first | exact Rd.head | exact Rd.base (by assumption) | apply Rd.tail)); (first | done | fail)) rfl)); (first | done | fail)) rfl, ?_, rfl⟩
    · simp only [CtK]
      (repeat (first | exact Ent.refl _ | exact Ent.nil | refine Ent.take (by (repeat (first | exact Out.head | apply Out.tail)); (first | done | fail)) ?_ | refine Ent.drop1 ?_))
    · simp only [Ct.ready, hk]; rfl
theorem shut_spec (c : Nat) (a : Option Addr) (cap j : Nat) (C : Ct) (hC : C.ok) (to : Nat) (hto : 1 ≤ to ∧ to ≤ 4) :
    Fspec Try.prog B 24 #[.pointer (some ⟨c, 0, none⟩), .int .i64 to] (CtK c a cap j C) (fun v A' => v = .bool (C.shut to) ∧ A' = CtK c a cap j C) := by
  have hreg := hC.regs; have htg := hC.target; have hkd := hC.kind
  obtain ⟨em, em1, em2⟩ := hC.mst
  refine spec_of (args := [_, _]) Try.func24 rfl rfl rfl ?_
  refine Wc_ownF (a := a) (sz := 3) (ho := .tail .head) (h0 := by omega) (h := fun hf => ?_)
  have hmaster1 := master_spec (B := B) (CtK c a cap j C) c a cap j C CtK.rh (CtK.rd hf) hC
  simp only [CtK] at hmaster1 ⊢
  have hk3 : C.kind = 0 ∨ C.kind = 1 ∨ C.kind = 2 := by omega
  rcases hk3 with hk | hk | hk
  all_goals
    repeat' (first
      | (refine Wc_cutS (k := 1) (α := Nat) (fun x => [(0, .pointer (some ⟨c, 0, none⟩)), (1, .int .i64 to), (5, .pointer (some ⟨x, 0, none⟩))]) (fun x => [cb x (repC (C.known C.mst)) 89, cb c (CtC a cap j C) 95, own a C.table.length cap 3 (epsC C.table) 40]) (fun _ => True) ?_ (fun r5 G _ => ?_); rotate_left; simp only [ov]; rotate_left)
      | refine Wc_seq ?_
      | refine thenQ_normal ?_
      | refine Wc_cond_t (h := ?_)
      | refine Wc_cond_f (h := ?_)
      | refine Wc_ret ?_
      | refine thenQ_ret ?_
      | refine Wc_block ?_
      | refine blkQ_normal ?_
      | refine blkQ_ret ?_
      | refine Wc_exit ?_
      | refine thenQ_exit ?_
      | refine blkQ_hit ?_
      | refine blkQ_miss rfl ?_
      | refine Wc_skip ?_
      | refine Wc_label ?_
      | refine loopQ_exit ?_
      | refine loopQ_ret ?_
      | refine loopQ_normal ?_
      | (refine Wc_region (id := 0) ?_; intro K hK; refine Wl_assign (k := ?_); (refine Wl_nil (hK _ _ ?_); clear hK K))
      | ((refine Wc_tree (id := 1) (t := (.step 0 (.step 1 (.step 3 (.step 4 (.alt (.step 2 (.step 5 (.alt (.step 6 (.step 7 (.step 8 .done))) (.step 7 (.step 6 (.step 8 .done)))))) (.step 7 (.step 2 (.step 5 (.step 6 (.step 8 .done))))))))))) (bad := [2, 6, 7]) (hok := (by decide +kernel)) (h := ?_); intro K hK; repeat' (first | refine WlT_alt ?_ ?_ | (refine WlT_step (i := 0) rfl ?_; (refine Wl_move (k := ?_)) <;> (refine Wl_nil ?_)) | (refine WlT_step (i := 1) rfl ?_; (refine Wl_move (k := ?_)) <;> (refine Wl_nil ?_)) | (refine WlT_step (i := 2) rfl ?_; ((refine Wl_call (hs := hmaster1) (k := ?_); rintro v A' ⟨rfl, rfl⟩; simp only [List.cons_append, List.nil_append])) <;> (refine Wl_nil ?_)) | (refine WlT_step (i := 3) rfl ?_; (refine Wl_nilCheck (k := ?_)) <;> (refine Wl_nil ?_)) | (refine WlT_step (i := 4) rfl ?_; (refine Wl_fieldAddr (k := ?_)) <;> (refine Wl_nil ?_)) | (refine WlT_step (i := 5) rfl ?_; (refine Wl_index_arr (k' := ?_)) <;> (refine Wl_nil ?_)) | (refine WlT_step (i := 6) rfl ?_; ((refine Wl_loadAgg (cs := repC (C.known C.mst)) (hv := by simp [known_len]; omega) (hc := by simpa using known_row a cap j C (i := C.mst) (by omega)) (k := ?_))) <;> (refine Wl_nil ?_)) | (refine WlT_step (i := 7) rfl ?_; ((refine Wl_alloc (k := ?_); intro r5)) <;> (refine Wl_nil ?_)) | (refine WlT_step (i := 8) rfl ?_; (refine Wl_storeR (ho' := rfl) (k := ?_)) <;> (refine Wl_nil ?_)) | (refine WlT_done (hK _ _ ?_); clear hK K))))
      | (refine Wc_region (id := 2) ?_; intro K hK; refine Wl_move (k := ?_); refine Wl_nilCheck (k := ?_); refine Wl_fieldAddr (k := ?_); refine Wl_fieldAddr (k := ?_); refine Wl_fieldAddr (k := ?_); refine Wl_load (k := ?_); (refine Wl_nil (hK _ _ ?_); clear hK K))
      | (refine Wc_region (id := 3) ?_; intro K hK; refine Wl_eql (k' := ?_); refine Wl_assign (k := ?_); (refine Wl_nil (hK _ _ ?_); clear hK K))
      | ((refine Wc_tree (id := 4) (t := (.step 0 (.step 1 (.step 2 (.step 3 (.step 4 (.step 5 (.step 6 (.step 7 (.step 8 (.step 9 (.step 10 (.step 11 (.step 12 (.step 13 (.step 14 (.step 15 (.step 16 (.step 17 (.step 18 (.step 19 (.step 20 (.step 21 (.step 22 (.step 23 (.step 24 (.step 25 (.step 26 (.step 27 (.step 28 (.step 29 (.step 30 (.step 31 (.step 32 (.step 33 (.step 34 (.step 35 (.step 36 (.step 37 (.step 38 (.step 39 (.step 40 (.step 41 .done))))))))))))))))))))))))))))))))))))))))))) (bad := []) (hok := (by decide +kernel)) (h := ?_); intro K hK; repeat' (first | refine WlT_alt ?_ ?_ | (refine WlT_step (i := 0) rfl ?_; (refine Wl_move (k := ?_)) <;> (refine Wl_nil ?_)) | (refine WlT_step (i := 1) rfl ?_; (refine Wl_move (k := ?_)) <;> (refine Wl_nil ?_)) | (refine WlT_step (i := 2) rfl ?_; ((refine Wl_call (hs := hmaster1) (k := ?_); rintro v A' ⟨rfl, rfl⟩; simp only [List.cons_append, List.nil_append])) <;> (refine Wl_nil ?_)) | (refine WlT_step (i := 3) rfl ?_; (refine Wl_eql (k' := ?_)) <;> (refine Wl_nil ?_)) | (refine WlT_step (i := 4) rfl ?_; (refine Wl_move (k := ?_)) <;> (refine Wl_nil ?_)) | (refine WlT_step (i := 5) rfl ?_; ((first | (refine Wl_guard (k := ?_); refine Wl_move (k := ?_)) | refine Wl_gno (k := ?_) | ((refine Wl_split (yes := (fun ht => ?_)) (no := (fun ht => ?_)) <;> (try simp at ht) <;> (try (exfalso; omega))) <;> (first | (refine Wl_guard (k := ?_); refine Wl_move (k := ?_)) | refine Wl_gno (k := ?_))))) <;> (refine Wl_nil ?_)) | (refine WlT_step (i := 6) rfl ?_; ((first | (refine Wl_guard (k := ?_); refine Wl_move (k := ?_)) | refine Wl_gno (k := ?_) | ((refine Wl_split (yes := (fun ht => ?_)) (no := (fun ht => ?_)) <;> (try simp at ht) <;> (try (exfalso; omega))) <;> (first | (refine Wl_guard (k := ?_); refine Wl_move (k := ?_)) | refine Wl_gno (k := ?_))))) <;> (refine Wl_nil ?_)) | (refine WlT_step (i := 7) rfl ?_; ((first | (refine Wl_guard (k := ?_); refine Wl_nilCheck (k := ?_)) | refine Wl_gno (k := ?_) | ((refine Wl_split (yes := (fun ht => ?_)) (no := (fun ht => ?_)) <;> (try simp at ht) <;> (try (exfalso; omega))) <;> (first | (refine Wl_guard (k := ?_); refine Wl_nilCheck (k := ?_)) | refine Wl_gno (k := ?_))))) <;> (refine Wl_nil ?_)) | (refine WlT_step (i := 8) rfl ?_; ((first | (refine Wl_guard (k := ?_); refine Wl_fieldAddr (k := ?_)) | refine Wl_gno (k := ?_) | ((refine Wl_split (yes := (fun ht => ?_)) (no := (fun ht => ?_)) <;> (try simp at ht) <;> (try (exfalso; omega))) <;> (first | (refine Wl_guard (k := ?_); refine Wl_fieldAddr (k := ?_)) | refine Wl_gno (k := ?_))))) <;> (refine Wl_nil ?_)) | (refine WlT_step (i := 9) rfl ?_; ((first | (refine Wl_guard (k := ?_); refine Wl_fieldAddr (k := ?_)) | refine Wl_gno (k := ?_) | ((refine Wl_split (yes := (fun ht => ?_)) (no := (fun ht => ?_)) <;> (try simp at ht) <;> (try (exfalso; omega))) <;> (first | (refine Wl_guard (k := ?_); refine Wl_fieldAddr (k := ?_)) | refine Wl_gno (k := ?_))))) <;> (refine Wl_nil ?_)) | (refine WlT_step (i := 10) rfl ?_; ((first | (refine Wl_guard (k := ?_); refine Wl_fieldAddr (k := ?_)) | refine Wl_gno (k := ?_) | ((refine Wl_split (yes := (fun ht => ?_)) (no := (fun ht => ?_)) <;> (try simp at ht) <;> (try (exfalso; omega))) <;> (first | (refine Wl_guard (k := ?_); refine Wl_fieldAddr (k := ?_)) | refine Wl_gno (k := ?_))))) <;> (refine Wl_nil ?_)) | (refine WlT_step (i := 11) rfl ?_; ((first | (refine Wl_guard (k := ?_); refine Wl_load (k := ?_)) | refine Wl_gno (k := ?_) | ((refine Wl_split (yes := (fun ht => ?_)) (no := (fun ht => ?_)) <;> (try simp at ht) <;> (try (exfalso; omega))) <;> (first | (refine Wl_guard (k := ?_); refine Wl_load (k := ?_)) | refine Wl_gno (k := ?_))))) <;> (refine Wl_nil ?_)) | (refine WlT_step (i := 12) rfl ?_; ((first | (refine Wl_guard (k := ?_); refine Wl_eql (k' := ?_)) | refine Wl_gno (k := ?_) | ((refine Wl_split (yes := (fun ht => ?_)) (no := (fun ht => ?_)) <;> (try simp at ht) <;> (try (exfalso; omega))) <;> (first | (refine Wl_guard (k := ?_); refine Wl_eql (k' := ?_)) | refine Wl_gno (k := ?_))))) <;> (refine Wl_nil ?_)) | (refine WlT_step (i := 13) rfl ?_; ((first | (refine Wl_guard (k := ?_); refine Wl_move (k := ?_)) | refine Wl_gno (k := ?_) | ((refine Wl_split (yes := (fun ht => ?_)) (no := (fun ht => ?_)) <;> (try simp at ht) <;> (try (exfalso; omega))) <;> (first | (refine Wl_guard (k := ?_); refine Wl_move (k := ?_)) | refine Wl_gno (k := ?_))))) <;> (refine Wl_nil ?_)) | (refine WlT_step (i := 14) rfl ?_; ((first | (refine Wl_guard (k := ?_); refine Wl_fieldAddr (k := ?_)) | refine Wl_gno (k := ?_) | ((refine Wl_split (yes := (fun ht => ?_)) (no := (fun ht => ?_)) <;> (try simp at ht) <;> (try (exfalso; omega))) <;> (first | (refine Wl_guard (k := ?_); refine Wl_fieldAddr (k := ?_)) | refine Wl_gno (k := ?_))))) <;> (refine Wl_nil ?_)) | (refine WlT_step (i := 15) rfl ?_; ((first | (refine Wl_guard (k := ?_); refine Wl_load (k := ?_)) | refine Wl_gno (k := ?_) | ((refine Wl_split (yes := (fun ht => ?_)) (no := (fun ht => ?_)) <;> (try simp at ht) <;> (try (exfalso; omega))) <;> (first | (refine Wl_guard (k := ?_); refine Wl_load (k := ?_)) | refine Wl_gno (k := ?_))))) <;> (refine Wl_nil ?_)) | (refine WlT_step (i := 16) rfl ?_; ((first | (refine Wl_guard (k := ?_); (first | refine Wl_pick_t (k := ?_) | refine Wl_pick_f (k := ?_) | refine Wl_pick (k := ?_))) | refine Wl_gno (k := ?_) | ((refine Wl_split (yes := (fun ht => ?_)) (no := (fun ht => ?_)) <;> (try simp at ht) <;> (try (exfalso; omega))) <;> (first | (refine Wl_guard (k := ?_); (first | refine Wl_pick_t (k := ?_) | refine Wl_pick_f (k := ?_) | refine Wl_pick (k := ?_))) | refine Wl_gno (k := ?_))))) <;> (refine Wl_nil ?_)) | (refine WlT_step (i := 17) rfl ?_; ((first | (refine Wl_guard (k := ?_); refine Wl_move (k := ?_)) | refine Wl_gno (k := ?_) | ((refine Wl_split (yes := (fun ht => ?_)) (no := (fun ht => ?_)) <;> (try simp at ht) <;> (try (exfalso; omega))) <;> (first | (refine Wl_guard (k := ?_); refine Wl_move (k := ?_)) | refine Wl_gno (k := ?_))))) <;> (refine Wl_nil ?_)) | (refine WlT_step (i := 18) rfl ?_; ((first | (refine Wl_guard (k := ?_); refine Wl_move (k := ?_)) | refine Wl_gno (k := ?_) | ((refine Wl_split (yes := (fun ht => ?_)) (no := (fun ht => ?_)) <;> (try simp at ht) <;> (try (exfalso; omega))) <;> (first | (refine Wl_guard (k := ?_); refine Wl_move (k := ?_)) | refine Wl_gno (k := ?_))))) <;> (refine Wl_nil ?_)) | (refine WlT_step (i := 19) rfl ?_; ((first | (refine Wl_guard (k := ?_); refine Wl_move (k := ?_)) | refine Wl_gno (k := ?_) | ((refine Wl_split (yes := (fun ht => ?_)) (no := (fun ht => ?_)) <;> (try simp at ht) <;> (try (exfalso; omega))) <;> (first | (refine Wl_guard (k := ?_); refine Wl_move (k := ?_)) | refine Wl_gno (k := ?_))))) <;> (refine Wl_nil ?_)) | (refine WlT_step (i := 20) rfl ?_; ((first | (refine Wl_guard (k := ?_); refine Wl_nilCheck (k := ?_)) | refine Wl_gno (k := ?_) | ((refine Wl_split (yes := (fun ht => ?_)) (no := (fun ht => ?_)) <;> (try simp at ht) <;> (try (exfalso; omega))) <;> (first | (refine Wl_guard (k := ?_); refine Wl_nilCheck (k := ?_)) | refine Wl_gno (k := ?_))))) <;> (refine Wl_nil ?_)) | (refine WlT_step (i := 21) rfl ?_; ((first | (refine Wl_guard (k := ?_); refine Wl_fieldAddr (k := ?_)) | refine Wl_gno (k := ?_) | ((refine Wl_split (yes := (fun ht => ?_)) (no := (fun ht => ?_)) <;> (try simp at ht) <;> (try (exfalso; omega))) <;> (first | (refine Wl_guard (k := ?_); refine Wl_fieldAddr (k := ?_)) | refine Wl_gno (k := ?_))))) <;> (refine Wl_nil ?_)) | (refine WlT_step (i := 22) rfl ?_; ((first | (refine Wl_guard (k := ?_); refine Wl_index_arr (k' := ?_)) | refine Wl_gno (k := ?_) | ((refine Wl_split (yes := (fun ht => ?_)) (no := (fun ht => ?_)) <;> (try simp at ht) <;> (try (exfalso; omega))) <;> (first | (refine Wl_guard (k := ?_); refine Wl_index_arr (k' := ?_)) | refine Wl_gno (k := ?_))))) <;> (refine Wl_nil ?_)) | (refine WlT_step (i := 23) rfl ?_; ((first | (refine Wl_guard (k := ?_); refine Wl_fieldAddr (k := ?_)) | refine Wl_gno (k := ?_) | ((refine Wl_split (yes := (fun ht => ?_)) (no := (fun ht => ?_)) <;> (try simp at ht) <;> (try (exfalso; omega))) <;> (first | (refine Wl_guard (k := ?_); refine Wl_fieldAddr (k := ?_)) | refine Wl_gno (k := ?_))))) <;> (refine Wl_nil ?_)) | (refine WlT_step (i := 24) rfl ?_; ((first | (refine Wl_guard (k := ?_); (refine Wl_load (v := .bool (C.known to).is) (hv := (congrArg (fun k => (CtC a cap j C)[k]?) (by simp)).trans (known_cell a cap j C (i := to) (r := 0) (by omega) (by omega))) (k := ?_))) | refine Wl_gno (k := ?_) | ((refine Wl_split (yes := (fun ht => ?_)) (no := (fun ht => ?_)) <;> (try simp at ht) <;> (try (exfalso; omega))) <;> (first | (refine Wl_guard (k := ?_); (refine Wl_load (v := .bool (C.known to).is) (hv := (congrArg (fun k => (CtC a cap j C)[k]?) (by simp)).trans (known_cell a cap j C (i := to) (r := 0) (by omega) (by omega))) (k := ?_))) | refine Wl_gno (k := ?_))))) <;> (refine Wl_nil ?_)) | (refine WlT_step (i := 25) rfl ?_; ((first | (refine Wl_guard (k := ?_); (first | refine Wl_pick_t (k := ?_) | refine Wl_pick_f (k := ?_) | refine Wl_pick (k := ?_))) | refine Wl_gno (k := ?_) | ((refine Wl_split (yes := (fun ht => ?_)) (no := (fun ht => ?_)) <;> (try simp at ht) <;> (try (exfalso; omega))) <;> (first | (refine Wl_guard (k := ?_); (first | refine Wl_pick_t (k := ?_) | refine Wl_pick_f (k := ?_) | refine Wl_pick (k := ?_))) | refine Wl_gno (k := ?_))))) <;> (refine Wl_nil ?_)) | (refine WlT_step (i := 26) rfl ?_; ((first | (refine Wl_guard (k := ?_); refine Wl_move (k := ?_)) | refine Wl_gno (k := ?_) | ((refine Wl_split (yes := (fun ht => ?_)) (no := (fun ht => ?_)) <;> (try simp at ht) <;> (try (exfalso; omega))) <;> (first | (refine Wl_guard (k := ?_); refine Wl_move (k := ?_)) | refine Wl_gno (k := ?_))))) <;> (refine Wl_nil ?_)) | (refine WlT_step (i := 27) rfl ?_; ((first | (refine Wl_guard (k := ?_); refine Wl_move (k := ?_)) | refine Wl_gno (k := ?_) | ((refine Wl_split (yes := (fun ht => ?_)) (no := (fun ht => ?_)) <;> (try simp at ht) <;> (try (exfalso; omega))) <;> (first | (refine Wl_guard (k := ?_); refine Wl_move (k := ?_)) | refine Wl_gno (k := ?_))))) <;> (refine Wl_nil ?_)) | (refine WlT_step (i := 28) rfl ?_; ((first | (refine Wl_guard (k := ?_); refine Wl_move (k := ?_)) | refine Wl_gno (k := ?_) | ((refine Wl_split (yes := (fun ht => ?_)) (no := (fun ht => ?_)) <;> (try simp at ht) <;> (try (exfalso; omega))) <;> (first | (refine Wl_guard (k := ?_); refine Wl_move (k := ?_)) | refine Wl_gno (k := ?_))))) <;> (refine Wl_nil ?_)) | (refine WlT_step (i := 29) rfl ?_; ((first | (refine Wl_guard (k := ?_); refine Wl_nilCheck (k := ?_)) | refine Wl_gno (k := ?_) | ((refine Wl_split (yes := (fun ht => ?_)) (no := (fun ht => ?_)) <;> (try simp at ht) <;> (try (exfalso; omega))) <;> (first | (refine Wl_guard (k := ?_); refine Wl_nilCheck (k := ?_)) | refine Wl_gno (k := ?_))))) <;> (refine Wl_nil ?_)) | (refine WlT_step (i := 30) rfl ?_; ((first | (refine Wl_guard (k := ?_); refine Wl_fieldAddr (k := ?_)) | refine Wl_gno (k := ?_) | ((refine Wl_split (yes := (fun ht => ?_)) (no := (fun ht => ?_)) <;> (try simp at ht) <;> (try (exfalso; omega))) <;> (first | (refine Wl_guard (k := ?_); refine Wl_fieldAddr (k := ?_)) | refine Wl_gno (k := ?_))))) <;> (refine Wl_nil ?_)) | (refine WlT_step (i := 31) rfl ?_; ((first | (refine Wl_guard (k := ?_); refine Wl_index_arr (k' := ?_)) | refine Wl_gno (k := ?_) | ((refine Wl_split (yes := (fun ht => ?_)) (no := (fun ht => ?_)) <;> (try simp at ht) <;> (try (exfalso; omega))) <;> (first | (refine Wl_guard (k := ?_); refine Wl_index_arr (k' := ?_)) | refine Wl_gno (k := ?_))))) <;> (refine Wl_nil ?_)) | (refine WlT_step (i := 32) rfl ?_; ((first | (refine Wl_guard (k := ?_); refine Wl_fieldAddr (k := ?_)) | refine Wl_gno (k := ?_) | ((refine Wl_split (yes := (fun ht => ?_)) (no := (fun ht => ?_)) <;> (try simp at ht) <;> (try (exfalso; omega))) <;> (first | (refine Wl_guard (k := ?_); refine Wl_fieldAddr (k := ?_)) | refine Wl_gno (k := ?_))))) <;> (refine Wl_nil ?_)) | (refine WlT_step (i := 33) rfl ?_; ((first | (refine Wl_guard (k := ?_); refine Wl_fieldAddr (k := ?_)) | refine Wl_gno (k := ?_) | ((refine Wl_split (yes := (fun ht => ?_)) (no := (fun ht => ?_)) <;> (try simp at ht) <;> (try (exfalso; omega))) <;> (first | (refine Wl_guard (k := ?_); refine Wl_fieldAddr (k := ?_)) | refine Wl_gno (k := ?_))))) <;> (refine Wl_nil ?_)) | (refine WlT_step (i := 34) rfl ?_; ((first | (refine Wl_guard (k := ?_); (refine Wl_load (v := .int .i64 (C.known to).ix) (hv := (congrArg (fun k => (CtC a cap j C)[k]?) (by simp)).trans (known_cell a cap j C (i := to) (r := 3) (by omega) (by omega))) (k := ?_))) | refine Wl_gno (k := ?_) | ((refine Wl_split (yes := (fun ht => ?_)) (no := (fun ht => ?_)) <;> (try simp at ht) <;> (try (exfalso; omega))) <;> (first | (refine Wl_guard (k := ?_); (refine Wl_load (v := .int .i64 (C.known to).ix) (hv := (congrArg (fun k => (CtC a cap j C)[k]?) (by simp)).trans (known_cell a cap j C (i := to) (r := 3) (by omega) (by omega))) (k := ?_))) | refine Wl_gno (k := ?_))))) <;> (refine Wl_nil ?_)) | (refine WlT_step (i := 35) rfl ?_; ((first | (refine Wl_guard (k := ?_); refine Wl_fieldAddr (k := ?_)) | refine Wl_gno (k := ?_) | ((refine Wl_split (yes := (fun ht => ?_)) (no := (fun ht => ?_)) <;> (try simp at ht) <;> (try (exfalso; omega))) <;> (first | (refine Wl_guard (k := ?_); refine Wl_fieldAddr (k := ?_)) | refine Wl_gno (k := ?_))))) <;> (refine Wl_nil ?_)) | (refine WlT_step (i := 36) rfl ?_; ((first | (refine Wl_guard (k := ?_); refine Wl_fieldAddr (k := ?_)) | refine Wl_gno (k := ?_) | ((refine Wl_split (yes := (fun ht => ?_)) (no := (fun ht => ?_)) <;> (try simp at ht) <;> (try (exfalso; omega))) <;> (first | (refine Wl_guard (k := ?_); refine Wl_fieldAddr (k := ?_)) | refine Wl_gno (k := ?_))))) <;> (refine Wl_nil ?_)) | (refine WlT_step (i := 37) rfl ?_; ((first | (refine Wl_guard (k := ?_); refine Wl_load (k := ?_)) | refine Wl_gno (k := ?_) | ((refine Wl_split (yes := (fun ht => ?_)) (no := (fun ht => ?_)) <;> (try simp at ht) <;> (try (exfalso; omega))) <;> (first | (refine Wl_guard (k := ?_); refine Wl_load (k := ?_)) | refine Wl_gno (k := ?_))))) <;> (refine Wl_nil ?_)) | (refine WlT_step (i := 38) rfl ?_; ((first | (refine Wl_guard (k := ?_); refine Wl_geq (k' := ?_)) | refine Wl_gno (k := ?_) | ((refine Wl_split (yes := (fun ht => ?_)) (no := (fun ht => ?_)) <;> (try simp at ht) <;> (try (exfalso; omega))) <;> (first | (refine Wl_guard (k := ?_); refine Wl_geq (k' := ?_)) | refine Wl_gno (k := ?_))))) <;> (refine Wl_nil ?_)) | (refine WlT_step (i := 39) rfl ?_; ((first | (refine Wl_guard (k := ?_); (first | refine Wl_pick_t (k := ?_) | refine Wl_pick_f (k := ?_) | refine Wl_pick (k := ?_))) | refine Wl_gno (k := ?_) | ((refine Wl_split (yes := (fun ht => ?_)) (no := (fun ht => ?_)) <;> (try simp at ht) <;> (try (exfalso; omega))) <;> (first | (refine Wl_guard (k := ?_); (first | refine Wl_pick_t (k := ?_) | refine Wl_pick_f (k := ?_) | refine Wl_pick (k := ?_))) | refine Wl_gno (k := ?_))))) <;> (refine Wl_nil ?_)) | (refine WlT_step (i := 40) rfl ?_; ((first | refine Wl_pick_t (k := ?_) | refine Wl_pick_f (k := ?_) | refine Wl_pick (k := ?_))) <;> (refine Wl_nil ?_)) | (refine WlT_step (i := 41) rfl ?_; (refine Wl_assign (k := ?_)) <;> (refine Wl_nil ?_)) | (refine WlT_done (hK _ _ ?_); clear hK K))))
      | (refine Wc_region (id := 5) ?_; intro K hK; refine Wl_eql (k' := ?_); refine Wl_assign (k := ?_); (refine Wl_nil (hK _ _ ?_); clear hK K))
      | (refine Wc_region (id := 6) ?_; intro K hK; refine Wl_move (k := ?_); refine Wl_move (k := ?_); refine Wl_nilCheck (k := ?_); refine Wl_fieldAddr (k := ?_); refine Wl_fieldAddr (k := ?_); refine Wl_fieldAddr (k := ?_); refine Wl_load (k := ?_); refine Wl_eql (k' := ?_); refine Wl_assign (k := ?_); (refine Wl_nil (hK _ _ ?_); clear hK K))
      | (refine Wc_region (id := 7) ?_; intro K hK; refine Wl_assign (k := ?_); (refine Wl_nil (hK _ _ ?_); clear hK K))
      | (refine Wc_cond (ht := (fun ht => ?_)) (hf := (fun ht => ?_)) <;> (try simp at ht) <;> (try (exfalso; omega))))
    all_goals first
      | exact ⟨r5, trivial, ⟨rfl, rfl, rfl, trivial⟩, (by (repeat (first | exact Ent.refl _ | exact Ent.nil | refine Ent.take (by (repeat (first | exact Out.head | apply Out.tail)); (first | done | fail)) ?_ | refine Ent.drop1 ?_)))⟩
      | (refine ⟨Or.inr rfl, _, CtK c a cap j C, ?_, res1 rfl rfl, ?_, rfl⟩
         · simp only [CtK]
           (repeat (first | exact Ent.refl _ | exact Ent.nil | refine Ent.take (by (repeat (first | exact Out.head | apply Out.tail)); (first | done | fail)) ?_ | refine Ent.drop1 ?_))
         · refine congrArg Value.bool ?_
           simp only [Ct.shut, hk]
           first
             | rfl
             | (have e1 : ((to : Int) = (C.target : Int)) = (to = C.target) := by apply propext; omega
                simp [e1]; done)
             | (have e1 : to = C.mst := by omega
                simp [e1]; done)
             | (have e1 : ¬ to = C.mst := by omega
                have e2 : ¬ to = C.target := by omega
                simp [e1, e2]; done)
             | (have e1 : ¬ to = C.mst := by omega
                have e2 : to = C.target := by omega
                have e3 : (C.known C.mst).closed = false := by assumption
                rw [e2] at e1 ⊢
                simp [e1, e3]; done)
             | (have e1 : ¬ to = C.mst := by omega
                have e2 : to = C.target := by omega
                have e3 : (C.known C.mst).closed = true := by assumption
                have e4 : (C.known to).is = false := by assumption
                rw [e2] at e4 e1 ⊢
                simp [e1, e3, e4]; done)
             | (have e1 : ¬ to = C.mst := by omega
                have e2 : to = C.target := by omega
                have e3 : (C.known C.mst).closed = true := by assumption
                have e4 : (C.known to).is = true := by assumption
                rw [e2] at e4 e1 ⊢
                simp [e1, e3, e4]; done))
end specs
end Go.Proofs.Ytepeljbgekgjcaa
/- Package journal: the parts of a record, one by one; writing a record. Conditions: sizes far from the kind's edges. -/
set_option maxHeartbeats 8000000
set_option linter.unusedVariables false
set_option linter.unusedSimpArgs false
set_option maxRecDepth 100000
namespace Go.Proofs.Ytepeljbgekgjcaa
open Go Go.Sl
attribute [local irreducible] Go.Sl.Wl Go.Sl.Wc Go.Sl.thenQ Go.Sl.blkQ Go.Sl.loopQ Go.Sl.Fspec

def encPt (a : Option Addr) (m c : Nat) (i : Nat) : List Value := [.int .i64 i, .slice (slAdd a c (i * 47) 1) (min m ((i + 1) * 47) - i * 47) (c - i * 47)]
theorem range_split {i n : Nat} (h : i < n) : ∃ r, List.range n = List.range i ++ i :: r := by
  refine ⟨List.range' (i + 1) (n - (i + 1)), ?_⟩
  rw [List.range_eq_range', List.range_eq_range', show n = i + (1 + (n - (i + 1))) by omega, ← List.range'_append_1, ← List.range'_append_1, Nat.zero_add]
  rw [show i + (1 + (n - (i + 1))) - (i + 1) = n - (i + 1) by omega]
  rfl
section specs
variable {B : Base}
theorem parts_seq (r : Nat) (a : Option Addr) (m c : Nat) (hm : m ≤ 4611686018427387903) (hmc : m ≤ c) :
    SeqSpec Try.prog B 59 [] [.pointer (some ⟨r, 0, none⟩)] (encPt a m c) (List.range (partsN m)) [cb r [.slice a m c] 57] := by
  intro q J Jx hY
  have hw : ∀ i, i < partsN m → Yspec Try.prog B q (encPt a m c i).toArray [cb r [.slice a m c] 57, lst (J (List.range i))] (fun v A' => (v = .bool true ∧ A' = [cb r [.slice a m c] 57, lst (J (List.range (i + 1)))]) ∨
      (v = .bool false ∧ A' = [cb r [.slice a m c] 57, lst (Jx (List.range (i + 1)))])) := fun i hi => by
    obtain ⟨rest, hx⟩ := range_split hi
    refine ((hY _ i rest hx).ent (by simpa using (Ent.lst_open (J (List.range i)) []).cons (cb r [.slice a m c] 57))).conv ?_
    rintro v A' (⟨rfl, rfl⟩ | ⟨rfl, rfl⟩)
    · exact ⟨_, by simpa [List.range_succ] using (Ent.lst_shut (J (List.range (i + 1))) []).cons (cb r [.slice a m c] 57), .inl ⟨rfl, rfl⟩⟩
    · exact ⟨_, by simpa [List.range_succ] using (Ent.lst_shut (Jx (List.range (i + 1))) []).cons (cb r [.slice a m c] 57), .inr ⟨rfl, rfl⟩⟩
  refine spec_of (args := [_, _]) Try.func59 rfl rfl rfl ?_
  refine Wc_ent (A' := [cb r [.slice a m c] 57, lst (J [])]) ((by simpa using Ent.lst_shut (J []) [] : Ent (J []) [lst (J [])]).cons _) ?_
  repeat' (first
    | refine Wc_seq ?_
    | refine thenQ_normal ?_
    | refine Wc_cond_t (h := ?_)
    | refine Wc_cond_f (h := ?_)
    | refine Wc_ret ?_
    | refine thenQ_ret ?_
    | refine Wc_block ?_
    | refine blkQ_normal ?_
    | refine blkQ_ret ?_
    | refine Wc_exit ?_
    | refine thenQ_exit ?_
    | refine blkQ_hit ?_
    | refine blkQ_miss rfl ?_
    | refine Wc_skip ?_
    | refine Wc_label ?_
    | refine loopQ_exit ?_
    | refine loopQ_ret ?_
    | refine loopQ_normal ?_
    | (refine Wc_region (id := 0) ?_; intro K hK; refine Wl_assign (k := ?_); (refine Wl_nil (hK _ _ ?_); clear hK K))
    | (refine Wc_cond (ht := (fun ht => ?_)) (hf := (fun ht => ?_)) <;> (try simp at ht) <;> (try (exfalso; omega))))
  refine Wc_loop (α := Nat) (fun i => [(0, yv q), (1, .pointer (some ⟨r, 0, none⟩)), (3, .int .i64 i)]) (fun i => [cb r [.slice a m c] 57, lst (J (List.range i))]) (fun i => i ≤ partsN m) (fun i => partsN m - i) 0 (by omega) ⟨rfl, rfl, rfl, trivial⟩ (Ent.refl _) ?_
  intro i G hi
  simp only [ov]
  have hpm : partsN m = (m - 1) / 47 + 1 := rfl
  by_cases hlt : i < partsN m
  · have hi1 := hw i hlt
    simp only [encPt] at hi1
    repeat' (first
      | refine Wc_seq ?_
      | refine thenQ_normal ?_
      | refine Wc_cond_t (h := ?_)
      | refine Wc_cond_f (h := ?_)
      | refine Wc_ret ?_
      | refine thenQ_ret ?_
      | refine Wc_block ?_
      | refine blkQ_normal ?_
      | refine blkQ_ret ?_
      | refine Wc_exit ?_
      | refine thenQ_exit ?_
      | refine blkQ_hit ?_
      | refine blkQ_miss rfl ?_
      | refine Wc_skip ?_
      | refine Wc_label ?_
      | refine loopQ_exit ?_
      | refine loopQ_ret ?_
      | refine loopQ_normal ?_
      | (refine Wc_region (id := 0) ?_; intro K hK; refine Wl_assign (k := ?_); (refine Wl_nil (hK _ _ ?_); clear hK K))
      | (refine Wc_region (id := 1) ?_; intro K hK; refine Wl_move (k := ?_); refine Wl_load (k := ?_); refine Wl_len_sl (k' := ?_); ((refine Wl_call (hs := parts_spec m (by omega)) (k := ?_); rintro v A' ⟨rfl, rfl⟩; simp only [List.cons_append, List.nil_append])) <;> (refine Wl_lss (k' := ?_); (refine Wl_nil (hK _ _ ?_); clear hK K)))
      | (refine Wc_region (id := 2) ?_; intro K hK; refine Wl_move (k := ?_); refine Wl_add (k' := ?_); refine Wl_assign (k := ?_); (refine Wl_nil (hK _ _ ?_); clear hK K))
      | (refine Wc_region (id := 3) ?_; intro K hK; refine Wl_move (k := ?_); refine Wl_move (k := ?_); refine Wl_load (k := ?_); refine Wl_move (k := ?_); ((refine Wl_mul (k' := ?_); rw [show (i : Int) * 47 = ((i * 47 : Nat) : Int) by omega])) <;> (refine Wl_load (k := ?_); refine Wl_len_sl (k' := ?_); refine Wl_move (k := ?_); refine Wl_add (k' := ?_); refine Wl_mul (k' := ?_); ((refine Wl_min (k' := ?_); rw [show min (m : Int) (((i : Int) + 1) * 47) = ((min m ((i + 1) * 47) : Nat) : Int) by omega])) <;> (((refine Wl_slice_any (l := i * 47) (h := min m ((i + 1) * 47)) (k' := ?_))) <;> (((refine Wl_yield (hs := hi1) (k := ?_); rintro v A' (⟨rfl, rfl⟩ | ⟨rfl, rfl⟩) <;> simp only [List.cons_append, List.nil_append])) <;> (refine Wl_not (k' := ?_); (refine Wl_nil (hK _ _ ?_); clear hK K))))))
      | (refine Wc_cond (ht := (fun ht => ?_)) (hf := (fun ht => ?_)) <;> (try simp at ht) <;> (try (exfalso; omega))))
    · exact ⟨i + 1, by omega, by omega, ⟨rfl, rfl, int_succ i, trivial⟩, Ent.refl _⟩
    · obtain ⟨rest, hx⟩ := range_split hlt
      refine ⟨Or.inr rfl, _, _, ((by simpa using Ent.lst_open (Jx (List.range (i + 1))) [] : Ent [lst (Jx (List.range (i + 1)))] (Jx (List.range (i + 1)))).cons _), res0 rfl, .inr ⟨_, i, rest, hx, by rw [List.range_succ]; rfl⟩⟩
  · obtain rfl : i = partsN m := by omega
    repeat' (first
      | refine Wc_seq ?_
      | refine thenQ_normal ?_
      | refine Wc_cond_t (h := ?_)
      | refine Wc_cond_f (h := ?_)
      | refine Wc_ret ?_
      | refine thenQ_ret ?_
      | refine Wc_block ?_
      | refine blkQ_normal ?_
      | refine blkQ_ret ?_
      | refine Wc_exit ?_
      | refine thenQ_exit ?_
      | refine blkQ_hit ?_
      | refine blkQ_miss rfl ?_
      | refine Wc_skip ?_
      | refine Wc_label ?_
      | refine loopQ_exit ?_
      | refine loopQ_ret ?_
      | refine loopQ_normal ?_
      | (refine Wc_region (id := 0) ?_; intro K hK; refine Wl_assign (k := ?_); (refine Wl_nil (hK _ _ ?_); clear hK K))
      | (refine Wc_region (id := 1) ?_; intro K hK; refine Wl_move (k := ?_); refine Wl_load (k := ?_); refine Wl_len_sl (k' := ?_); ((refine Wl_call (hs := parts_spec m (by omega)) (k := ?_); rintro v A' ⟨rfl, rfl⟩; simp only [List.cons_append, List.nil_append])) <;> (((refine Wl_lss (k' := ?_); rw [decide_eq_false (by omega)])) <;> ((refine Wl_nil (hK _ _ ?_); clear hK K))))
      | (refine Wc_region (id := 2) ?_; intro K hK; refine Wl_move (k := ?_); refine Wl_add (k' := ?_); refine Wl_assign (k := ?_); (refine Wl_nil (hK _ _ ?_); clear hK K))
      | (refine Wc_region (id := 3) ?_; intro K hK; refine Wl_move (k := ?_); refine Wl_move (k := ?_); refine Wl_load (k := ?_); refine Wl_move (k := ?_); refine Wl_mul (k' := ?_); refine Wl_load (k := ?_); refine Wl_len_sl (k' := ?_); refine Wl_move (k := ?_); refine Wl_add (k' := ?_); refine Wl_mul (k' := ?_); refine Wl_min (k' := ?_))
      | (refine Wc_cond (ht := (fun ht => ?_)) (hf := (fun ht => ?_)) <;> (try simp at ht) <;> (try (exfalso; omega))))
    exact ⟨by simp, _, _, ((by simpa using Ent.lst_open (J (List.range (partsN m))) [] : Ent [lst (J (List.range (partsN m)))] (J (List.range (partsN m)))).cons _), res0 rfl, .inl rfl⟩
end specs
end Go.Proofs.Ytepeljbgekgjcaa
/- Package journal: writing a record. Conditions: sizes far from the kind's edges. -/
set_option maxHeartbeats 8000000
set_option linter.unusedVariables false
set_option linter.unusedSimpArgs false
set_option maxRecDepth 100000
namespace Go.Proofs.Ytepeljbgekgjcaa
open Go Go.Sl
attribute [local irreducible] Go.Sl.Wl Go.Sl.Wc Go.Sl.thenQ Go.Sl.blkQ Go.Sl.loopQ Go.Sl.Fspec

structure Jn where
  size : Nat
  half : Int
  at_ : Nat
  lap : Nat
  number : Nat
  started : Bool
  over : Bool
def JC (d : Nat) (J : Jn) : List Value := [.pointer (some ⟨d, 0, none⟩), .int .i64 J.size, .int .i64 J.half, .int .i64 J.at_, .int .i64 J.lap, .int .i64 J.number, .bool J.started, .int .u32 (b32 J.over)]
def Jn.fail (J : Jn) (b : Bool) : Jn := { J with over := if b = true then true else J.over }
theorem Jn.fail_set (d : Nat) (J : Jn) : SetAt (JC d J) 7 (.int .u32 (b32 true)) (JC d (J.fail true)) := .succ (.succ (.succ (.succ (.succ (.succ (.succ .zero))))))
def chunk (l : List UInt8) (i : Nat) : List UInt8 := (l.drop (i * 47)).take 47
theorem chunk_eq {l : List UInt8} {m i : Nat} (hl : l.length = m) : ((l.map byteV).drop (i * 47 * 1)).take ((min m ((i + 1) * 47) - i * 47) * 1) = (chunk l i).map byteV := by
  unfold chunk
  rw [Nat.mul_one, Nat.mul_one, ← List.map_drop, ← List.map_take]
  congr 1
  have e : (l.drop (i * 47)).length = m - i * 47 := by rw [List.length_drop, hl]
  by_cases h : (i + 1) * 47 ≤ m
  · rw [Nat.min_eq_right h, show (i + 1) * 47 - i * 47 = 47 by omega]
  · rw [Nat.min_eq_left (by omega), List.take_of_length_le (by omega), List.take_of_length_le (by omega)]
theorem chunk_length (l : List UInt8) (i : Nat) : (chunk l i).length = min 47 (l.length - i * 47) := by simp [chunk]
def secF (lap number : Nat) (l : List UInt8) (i : Nat) : List UInt8 := secL lap number (i + 1) (partsN l.length) (chunk l i)
theorem secF_length (lap number : Nat) (l : List UInt8) (i : Nat) : (secF lap number l i).length = 64 := secL_length _ _ _ _ _ (by rw [chunk_length]; omega)
/-- So many sectors written from 'base' on; false: a step wasn't done. -/
def wrN (f : Nat → List UInt8) (base : Nat) (D : Dk) : Nat → Dk × Bool
  | 0 => (D, true)
  | k + 1 => if (wrN f base D k).2 = true then (if (wrN f base D k).1.down = true ∨ (wrN f base D k).1.fuse = 0 then ((wrN f base D k).1.dead, false) else ((wrN f base D k).1.put (base + k) (f k), true)) else wrN f base D k
def putD (f : Nat → List UInt8) (base : Nat) (D : Dk) (k : Nat) : Dk × Bool :=
  if (wrN f base D k).2 = true then (if (wrN f base D k).1.down = true ∨ (wrN f base D k).1.fuse = 0 then ((wrN f base D k).1.dead, false) else ((wrN f base D k).1.sync, true)) else wrN f base D k
theorem wrN_stop {f : Nat → List UInt8} {base : Nat} {D : Dk} {k : Nat} (h : (wrN f base D k).2 = false) : ∀ j, wrN f base D (k + j) = wrN f base D k
  | 0 => rfl
  | j + 1 => by
    have ih := wrN_stop h j
    show wrN f base D ((k + j) + 1) = _
    simp only [wrN]
    rw [ih, h]; simp
theorem wrN_ok {f : Nat → List UInt8} {base n : Nat} {D : Dk} (hD : D.ok n) (hf : ∀ i, (f i).length = 64) : ∀ k, base + k ≤ n → D.pend.length + k ≤ 999999 → D.steps + k ≤ 4611686018427387903 →
    (wrN f base D k).1.ok n ∧ (wrN f base D k).1.pend.length ≤ D.pend.length + k ∧ (wrN f base D k).1.steps ≤ D.steps + k
  | 0, _, _, _ => ⟨hD, by simp [wrN], by simp [wrN]⟩
  | k + 1, h1, h2, h3 => by
    obtain ⟨e1, e2, e3⟩ := wrN_ok (base := base) hD hf k (by omega) (by omega) (by omega)
    simp only [wrN]
    split
    · split
      · exact ⟨Dk.dead_ok e1, by simp only [Dk.dead]; omega, by simp only [Dk.dead]; omega⟩
      · refine ⟨Dk.put_ok (n := n) (i := base + k) e1 (by omega) (hf k) (by omega) (by omega), ?_, ?_⟩
        · simp only [Dk.put, List.length_append, List.length_singleton]; omega
        · simp only [Dk.put, Dk.tick]; omega
    · exact ⟨e1, by omega, by omega⟩
theorem range_at {P x : Nat} {pre rest : List Nat} (h : List.range P = pre ++ x :: rest) : x = pre.length ∧ pre.length < P := by
  have h1 := congrArg List.length h
  simp only [List.length_range, List.length_append, List.length_cons] at h1
  have h2 : (List.range P)[pre.length]? = some x := by rw [h]; simp
  rw [List.getElem?_range (by omega)] at h2
  exact ⟨(Option.some.inj h2).symm, by omega⟩
theorem wr_spec (B : Base) (p n i : Nat) (D : Dk) (h : D.ok n) (hi : i < n) (a : Option Addr) (c : Nat) (bs : List UInt8) (A0 : List Asn) (hl : bs.length = 64) (hsrc : Src Try.prog B A0 1 (.slice a 64 c) 64 (bs.map byteV)) :
    Fspec Try.prog B 54 #[.pointer (some ⟨p, 0, none⟩), .int .i64 i, .slice a 64 c] (DiskP p n D :: A0)
      (fun v A' => v = .int .i64 (if D.down = true ∨ D.fuse = 0 then 7 else 0) ∧ A' = DiskP p n (if D.down = true ∨ D.fuse = 0 then D.dead else D.put i bs) :: A0) := by
  by_cases hd : D.down = true ∨ D.fuse = 0
  · rw [if_pos hd, if_pos hd]
    exact write_down B p n i D h hd (by omega) a c A0
  · rw [if_neg hd, if_neg hd]
    exact write_ok B p n i D h (by simp at hd; exact hd.1) (fun e => hd (.inr e)) hi a c bs A0 hl hsrc
theorem sy_spec (B : Base) (p n : Nat) (D : Dk) (h : D.ok n) :
    Fspec Try.prog B 56 #[.pointer (some ⟨p, 0, none⟩)] [DiskP p n D]
      (fun v A' => v = .int .i64 (if D.down = true ∨ D.fuse = 0 then 7 else 0) ∧ A' = [DiskP p n (if D.down = true ∨ D.fuse = 0 then D.dead else D.sync)]) := by
  by_cases hd : D.down = true ∨ D.fuse = 0
  · rw [if_pos hd, if_pos hd]
    exact sync_down B p n D h hd
  · rw [if_neg hd, if_neg hd]
    exact sync_ok B p n D h (by simp at hd; exact hd.1) (fun e => hd (.inr e))
section specs
variable {B : Base}
theorem jparts_spec (a : Option Addr) (m c : Nat) : Fspec Try.prog B 53 #[.slice a m c] [] (fun v A' => ∃ r, v = .func (.func 59) #[] #[.pointer (some ⟨r, 0, none⟩)] ∧ A' = [cb r [.slice a m c] 57]) := by
  refine spec_of (args := [_]) Try.func53 rfl rfl rfl ?_
  repeat' (first
    | refine Wc_seq ?_
    | refine thenQ_normal ?_
    | refine Wc_cond_t (h := ?_)
    | refine Wc_cond_f (h := ?_)
    | refine Wc_ret ?_
    | refine thenQ_ret ?_
    | refine Wc_block ?_
    | refine blkQ_normal ?_
    | refine blkQ_ret ?_
    | refine Wc_exit ?_
    | refine thenQ_exit ?_
    | refine blkQ_hit ?_
    | refine blkQ_miss rfl ?_
    | refine Wc_skip ?_
    | refine Wc_label ?_
    | refine loopQ_exit ?_
    | refine loopQ_ret ?_
    | refine loopQ_normal ?_
    | (refine Wc_region (id := 0) ?_; intro K hK; (refine Wl_box (k := ?_); intro r); refine Wl_assign (k := ?_); (refine Wl_nil (hK _ _ ?_); clear hK K))
    | (refine Wc_region (id := 1) ?_; intro K hK; refine Wl_makeFunc (k' := ?_); refine Wl_assign (k := ?_); (refine Wl_nil (hK _ _ ?_); clear hK K))
    | (refine Wc_cond (ht := (fun ht => ?_)) (hf := (fun ht => ?_)) <;> (try simp at ht) <;> (try (exfalso; omega))))
  exact ⟨Or.inr rfl, _, _, Ent.refl _, res1 rfl rfl, _, rfl, rfl⟩
theorem put_spec (j d n : Nat) (J : Jn) (D : Dk) (hD : D.ok n) (h at_ lap number : Nat) (X : Asn) (a : Option Addr) (m c : Nat) (rec : List UInt8) (hR : RdS Try.prog B [X] 1 a m c (rec.map byteV)) (hm : m ≤ 1000000000)
    (hfit : h * J.size + at_ + partsN m ≤ n) (hp : D.pend.length + partsN m ≤ 999999) (hs : D.steps + partsN m ≤ 4611686018427387902) (P : Dk × Bool) (hP : putD (secF lap number rec) (h * J.size + at_) D (partsN m) = P) :
    Fspec Try.prog B 39 #[.pointer (some ⟨j, 0, none⟩), .int .i64 h, .int .i64 at_, .int .i64 lap, .int .i64 number, .slice a m c] [cb j (JC d J) 107, DiskP d n D, X]
      (fun v A' => v = .bool P.2 ∧ A' = [cb j (JC d (J.fail !P.2)) 107, DiskP d n P.1, X]) := by
  have hl : rec.length = m := by have := hR.len; simpa using this
  have hmc := hR.cap
  have hn := hD.n
  have hpm : partsN m = (m - 1) / 47 + 1 := rfl
  refine spec_of (args := [_, _, _, _, _, _]) Try.func39 rfl rfl rfl ?_
  repeat' (first
    | refine Wc_seq ?_
    | refine thenQ_normal ?_
    | refine Wc_cond_t (h := ?_)
    | refine Wc_cond_f (h := ?_)
    | refine Wc_ret ?_
    | refine thenQ_ret ?_
    | refine Wc_block ?_
    | refine blkQ_normal ?_
    | refine blkQ_ret ?_
    | refine Wc_exit ?_
    | refine thenQ_exit ?_
    | refine blkQ_hit ?_
    | refine blkQ_miss rfl ?_
    | refine Wc_skip ?_
    | refine Wc_label ?_
    | refine loopQ_exit ?_
    | refine loopQ_ret ?_
    | refine loopQ_normal ?_
    | (refine Wc_region (id := 0) ?_; intro K hK; ((refine Wl_box (k := ?_); intro r6)) <;> (((refine Wl_box (k := ?_); intro r7)) <;> (((refine Wl_box (k := ?_); intro r8)) <;> (((refine Wl_box (k := ?_); intro r9)) <;> (((refine Wl_box (k := ?_); intro r10)) <;> (((refine Wl_alloc (k := ?_); intro r12)) <;> ((refine Wl_nil (hK _ _ ?_); clear hK K))))))))
    | (refine Wc_region (id := 1) ?_; intro K hK; refine Wl_move (k := ?_); refine Wl_len_sl (k' := ?_); ((refine Wl_call (hs := parts_spec m (by omega)) (k := ?_); rintro v A' ⟨rfl, rfl⟩; simp only [List.cons_append, List.nil_append])) <;> (((refine Wl_alloc (k := ?_); intro r13)) <;> (refine Wl_store (ho := rfl) (k := ?_); (refine Wl_nil (hK _ _ ?_); clear hK K))))
    | (refine Wc_region (id := 2) ?_; intro K hK; refine Wl_move (k := ?_); ((refine Wl_call (hs := jparts_spec a m c) (k := ?_); rintro v A' ⟨rp, rfl, rfl⟩; simp only [List.cons_append, List.nil_append])) <;> ((refine Wl_nil (hK _ _ ?_); clear hK K)))
    | (refine Wc_cond (ht := (fun ht => ?_)) (hf := (fun ht => ?_)) <;> (try simp at ht) <;> (try (exfalso; omega))))
  have hbnd : ∀ k, k ≤ partsN m → (wrN (secF lap number rec) (h * J.size + at_) D k).1.ok n := fun k hk => (wrN_ok hD (secF_length lap number rec) k (by omega) (by omega) (by omega)).1
  refine Wc_rangeFunc (vs := []) (encPt a m c) (List.range (partsN m)) [cb rp [.slice a m c] 57]
    (fun pre => [pur ((wrN (secF lap number rec) (h * J.size + at_) D pre.length).2 = true), cb r6 [.pointer (some ⟨j, 0, none⟩)] 78, cb r7 [.int .i64 h] 3, cb r8 [.int .i64 at_] 3, cb r9 [.int .i64 lap] 3, cb r10 [.int .i64 number] 3, cb r13 [.int .i64 (partsN m)] 3, cb j (JC d J) 107, DiskP d n (wrN (secF lap number rec) (h * J.size + at_) D pre.length).1, X, cb r12 [.bool false] 4])
    (fun k pre => [pur (k = .ret ∧ pre.length ≤ partsN m ∧ (wrN (secF lap number rec) (h * J.size + at_) D pre.length).2 = false), cb j (JC d (J.fail true)) 107, DiskP d n (wrN (secF lap number rec) (h * J.size + at_) D pre.length).1, X, cb r12 [.bool false] 4])
    rfl ?_ (parts_seq rp a m c (by omega) hmc) (by decide) (fun _ => rfl) ?_ ?_ (fun k pre x rest hx => ?_)
  · refine Ent.trans (Ent.pur_in (φ := (wrN (secF lap number rec) (h * J.size + at_) D ([] : List Nat).length).2 = true) rfl _) ?_
    simp only [List.cons_append, List.nil_append]
    (repeat (first | exact Ent.refl _ | exact Ent.nil | refine Ent.take (by (repeat (first | exact Out.head | apply Out.tail)); (first | done | fail)) ?_ | refine Ent.drop1 ?_))
  · rintro pre x rest hx
    obtain ⟨rfl, hlt⟩ := range_at hx
    unfold Round
    simp only [encPt, List.zip_cons_cons, List.zip_nil_right, ups, List.cons_append, List.nil_append]
    refine Wc_take (y := pur ((wrN (secF lap number rec) (h * J.size + at_) D pre.length).2 = true)) (h := (by (repeat (first | exact Out.head | apply Out.tail)); (first | done | fail))) (k := Wc_pur (fun hok => ?_))
    repeat' (first
      | refine Wc_seq ?_
      | refine thenQ_normal ?_
      | refine Wc_cond_t (h := ?_)
      | refine Wc_cond_f (h := ?_)
      | refine Wc_ret ?_
      | refine thenQ_ret ?_
      | refine Wc_block ?_
      | refine blkQ_normal ?_
      | refine blkQ_ret ?_
      | refine Wc_exit ?_
      | refine thenQ_exit ?_
      | refine blkQ_hit ?_
      | refine blkQ_miss rfl ?_
      | refine Wc_skip ?_
      | refine Wc_label ?_
      | refine loopQ_exit ?_
      | refine loopQ_ret ?_
      | refine loopQ_normal ?_
      | (refine Wc_region (id := 3) ?_; intro K hK; refine Wl_assign (k := ?_); (refine Wl_nil (hK _ _ ?_); clear hK K))
      | (refine Wc_region (id := 4) ?_; intro K hK; refine Wl_assign (k := ?_); (refine Wl_nil (hK _ _ ?_); clear hK K))
      | (refine Wc_cond (ht := (fun ht => ?_)) (hf := (fun ht => ?_)) <;> (try simp at ht) <;> (try (exfalso; omega))))
    refine ⟨rfl, ?_⟩
    have hnext : wrN (secF lap number rec) (h * J.size + at_) D (pre.length + 1) = if (wrN (secF lap number rec) (h * J.size + at_) D pre.length).1.down = true ∨ (wrN (secF lap number rec) (h * J.size + at_) D pre.length).1.fuse = 0 then ((wrN (secF lap number rec) (h * J.size + at_) D pre.length).1.dead, false) else ((wrN (secF lap number rec) (h * J.size + at_) D pre.length).1.put ((h * J.size + at_) + pre.length) (secF lap number rec pre.length), true) := by
      simp only [wrN, hok, if_true]
    have hDi := hbnd pre.length (by omega)
    generalize hi0 : pre.length = i at *
    generalize hWi : wrN (secF lap number rec) (h * J.size + at_) D i = Wi at *
    simp only [JC]
    have hck : (chunk rec i).length = min m ((i + 1) * 47) - i * 47 := by rw [chunk_length, hl]; omega
    have hsF : secL lap number (i + 1) (partsN m) (chunk rec i) = secF lap number rec i := by unfold secF; rw [hl]
    obtain ⟨e, he⟩ : ∃ e : Int, e = if Wi.1.down = true ∨ Wi.1.fuse = 0 then 7 else 0 := ⟨_, rfl⟩
    repeat' (first
      | refine Wc_seq ?_
      | refine thenQ_normal ?_
      | refine Wc_cond_t (h := ?_)
      | refine Wc_cond_f (h := ?_)
      | refine Wc_ret ?_
      | refine thenQ_ret ?_
      | refine Wc_block ?_
      | refine blkQ_normal ?_
      | refine blkQ_ret ?_
      | refine Wc_exit ?_
      | refine thenQ_exit ?_
      | refine blkQ_hit ?_
      | refine blkQ_miss rfl ?_
      | refine Wc_skip ?_
      | refine Wc_label ?_
      | refine loopQ_exit ?_
      | refine loopQ_ret ?_
      | refine loopQ_normal ?_
      | (refine Wc_drawF (id := 5) (M := ([cb r6 [.pointer (some ⟨j, 0, none⟩)] 78, cb r7 [.int .i64 h] 3, cb r8 [.int .i64 at_] 3, cb r9 [.int .i64 lap] 3, cb r10 [.int .i64 number] 3, cb r13 [.int .i64 (partsN m)] 3, cb j (JC d J) 107])) (Ls := [23, 26, 27, 28, 31, 33, 37, 38, 41, 45]) (hp := (Pick.perm (by (repeat (first | exact Pick.nil | apply Pick.cons (by (repeat (first | exact Out.head | apply Out.tail)); (first | done | fail)))); (first | done | fail)))) (h := ?_); intro K hK; refine Wl_loadF (k := ?_); refine Wl_nilCheck (k := ?_); refine Wl_fieldAddr (k := ?_); refine Wl_loadF (k := ?_); refine Wl_loadF (k := ?_); refine Wl_loadF (k := ?_); refine Wl_nilCheck (k := ?_); refine Wl_fieldAddr (k := ?_); refine Wl_loadF (k := ?_); ((refine Wl_mul (hf := fits_i64 (by rw [← Int.natCast_mul]; omega)) (k' := ?_); rw [← Int.natCast_mul])) <;> (refine Wl_loadF (k := ?_); refine Wl_add (k' := ?_); refine Wl_move (k := ?_); ((refine Wl_add (k' := ?_); rw [show ((h * J.size : Nat) : Int) + (at_ : Int) + (i : Int) = ((h * J.size + at_ + i : Nat) : Int) by omega])) <;> (refine Wl_loadF (k := ?_); refine Wl_loadF (k := ?_); refine Wl_move (k := ?_); ((refine Wl_add (k' := ?_); rw [show (i : Int) + 1 = ((i + 1 : Nat) : Int) by omega])) <;> (refine Wl_loadF (k := ?_); refine Wl_move (k := ?_); ((refine Wl_call (hs := sector_spec [X] lap number (i + 1) (partsN m) _ _ _ (chunk rec i) (by rw [← chunk_eq hl]; exact hR.cut (by omega) (Nat.min_le_left ..)) (by omega)) (k := ?_); rintro v A' ⟨rs, rfl, rfl⟩; simp only [List.cons_append, List.nil_append]; rw [hsF])) <;> (((refine Wl_call (hs := wr_spec B d n (h * J.size + at_ + i) Wi.1 hDi (by omega) (some ⟨rs, 0, none⟩) 64 (secF lap number rec i) [cb rs ((secF lap number rec i).map byteV) 101] (secF_length ..) (src_sl .head (by simp [secF_length]) (by rw [List.drop_zero]; exact List.take_of_length_le (by simp [secF_length])))) (k := ?_); rintro v A' ⟨rfl, rfl⟩; simp only [List.cons_append, List.nil_append]; rw [← he])) <;> (refine Wl_neq (k' := ?_); (refine Wl_nil (hK _ _ ?_); clear hK K; try simp only [List.cons_append, List.nil_append])))))))
      | (refine Wc_region (id := 6) ?_; intro K hK; refine Wl_load (k := ?_); refine Wl_nilCheck (k := ?_); refine Wl_fieldAddr (k := ?_); ((refine Wl_call (hs := bstore_spec j 7 (JC d J) (JC d (J.fail true)) 107 true J.over rfl (J.fail_set d)) (k := ?_); rintro v A' ⟨rfl, rfl⟩; simp only [List.cons_append, List.nil_append])) <;> ((refine Wl_nil (hK _ _ ?_); clear hK K)))
      | (refine Wc_region (id := 7) ?_; intro K hK; refine Wl_store (ho := rfl) (k := ?_); (refine Wl_nil (hK _ _ ?_); clear hK K))
      | (refine Wc_cond (ht := (fun ht => ?_)) (hf := (fun ht => ?_)) <;> (try simp at ht) <;> (try (exfalso; omega))))
    · have hdn : Wi.1.down = true ∨ Wi.1.fuse = 0 := Classical.byContradiction fun hc => by rw [if_neg hc] at he; exact ht he
      rw [if_pos hdn] at hnext
      refine .inr ⟨.ret, rfl, ?_⟩
      rw [if_pos hdn, List.length_append, hi0, List.length_singleton, hnext]
      refine Ent.trans (Ent.pur_in (φ := (Code.ret = Code.ret ∧ i + 1 ≤ partsN m ∧ false = false)) ⟨rfl, hlt, rfl⟩ _) ?_
      (repeat (first | exact Ent.refl _ | exact Ent.nil | refine Ent.take (by (repeat (first | exact Out.head | apply Out.tail)); (first | done | fail)) ?_ | refine Ent.drop1 ?_))
    · have hdn : ¬ (Wi.1.down = true ∨ Wi.1.fuse = 0) := fun hc => by rw [if_pos hc] at he; omega
      rw [if_neg hdn] at hnext
      refine .inl ⟨rfl, ?_⟩
      rw [if_neg hdn, List.length_append, hi0, List.length_singleton, hnext]
      refine Ent.trans (Ent.pur_in (φ := (true = true)) rfl _) ?_
      (repeat (first | exact Ent.refl _ | exact Ent.nil | refine Ent.take (by (repeat (first | exact Out.head | apply Out.tail)); (first | done | fail)) ?_ | refine Ent.drop1 ?_))
  · refine blkQ_normal (thenQ_normal ?_)
    simp only [List.cons_append, List.nil_append, List.length_range]
    refine Wc_take (y := pur ((wrN (secF lap number rec) (h * J.size + at_) D (partsN m)).2 = true)) (h := (by (repeat (first | exact Out.head | apply Out.tail)); (first | done | fail))) (k := Wc_pur (fun hok => ?_))
    have hDi := hbnd (partsN m) (by omega)
    unfold putD at hP
    rw [if_pos hok] at hP
    generalize hWi : wrN (secF lap number rec) (h * J.size + at_) D (partsN m) = Wi at *
    obtain ⟨e, he⟩ : ∃ e : Int, e = if Wi.1.down = true ∨ Wi.1.fuse = 0 then 7 else 0 := ⟨_, rfl⟩
    simp only [JC]
    repeat' (first
      | refine Wc_seq ?_
      | refine thenQ_normal ?_
      | refine Wc_cond_t (h := ?_)
      | refine Wc_cond_f (h := ?_)
      | refine Wc_ret ?_
      | refine thenQ_ret ?_
      | refine Wc_block ?_
      | refine blkQ_normal ?_
      | refine blkQ_ret ?_
      | refine Wc_exit ?_
      | refine thenQ_exit ?_
      | refine blkQ_hit ?_
      | refine blkQ_miss rfl ?_
      | refine Wc_skip ?_
      | refine Wc_label ?_
      | refine loopQ_exit ?_
      | refine loopQ_ret ?_
      | refine loopQ_normal ?_
      | (refine Wc_region (id := 8) ?_; intro K hK; refine Wl_load (k := ?_); refine Wl_nilCheck (k := ?_); refine Wl_fieldAddr (k := ?_); refine Wl_load (k := ?_); ((refine Wl_call (hs := sy_spec B d n Wi.1 hDi) (k := ?_); rintro v A' ⟨rfl, rfl⟩; simp only [List.cons_append, List.nil_append]; rw [← he])) <;> (refine Wl_neq (k' := ?_); (refine Wl_nil (hK _ _ ?_); clear hK K)))
      | (refine Wc_region (id := 9) ?_; intro K hK; refine Wl_load (k := ?_); refine Wl_nilCheck (k := ?_); refine Wl_fieldAddr (k := ?_); ((refine Wl_call (hs := bstore_spec j 7 (JC d J) (JC d (J.fail true)) 107 true J.over rfl (J.fail_set d)) (k := ?_); rintro v A' ⟨rfl, rfl⟩; simp only [List.cons_append, List.nil_append])) <;> ((refine Wl_nil (hK _ _ ?_); clear hK K)))
      | (refine Wc_region (id := 10) ?_; intro K hK; refine Wl_store (ho := rfl) (k := ?_); (refine Wl_nil (hK _ _ ?_); clear hK K))
      | (refine Wc_region (id := 11) ?_; intro K hK; refine Wl_store (ho := rfl) (k := ?_); (refine Wl_nil (hK _ _ ?_); clear hK K))
      | (refine Wc_cond (ht := (fun ht => ?_)) (hf := (fun ht => ?_)) <;> (try simp at ht) <;> (try (exfalso; omega))))
    · have hdn : Wi.1.down = true ∨ Wi.1.fuse = 0 := Classical.byContradiction fun hc => by rw [if_neg hc] at he; exact ht he
      rw [if_pos hdn] at hP
      subst hP
      rw [if_pos hdn]
      exact ⟨Or.inr rfl, .bool false, [cb j (JC d (J.fail true)) 107, DiskP d n Wi.1.dead, X], (by (repeat (first | exact Ent.refl _ | exact Ent.nil | refine Ent.take (by (repeat (first | exact Out.head | apply Out.tail)); (first | done | fail)) ?_ | refine Ent.drop1 ?_))), resG (rs := [.cell 12 4]) rfl (.cell (l := [.bool false]) (off := 0) (by (repeat (first | exact Ev.here | exact Ev.const | exact Ev.arg rfl | apply Ev.there rfl | exact Ev.none rfl | exact Ev.func | exact Ev.var)); (first | done | fail)) (by (repeat (first | exact Rd.head | exact Rd.base (by assumption) | apply Rd.tail)); (first | done | fail)) rfl .nil) rfl, rfl, rfl⟩
    · have hdn : ¬ (Wi.1.down = true ∨ Wi.1.fuse = 0) := fun hc => by rw [if_pos hc] at he; omega
      rw [if_neg hdn] at hP
      subst hP
      rw [if_neg hdn]
      exact ⟨Or.inr rfl, .bool true, [cb j (JC d J) 107, DiskP d n Wi.1.sync, X], (by (repeat (first | exact Ent.refl _ | exact Ent.nil | refine Ent.take (by (repeat (first | exact Out.head | apply Out.tail)); (first | done | fail)) ?_ | refine Ent.drop1 ?_))), resG (rs := [.cell 12 4]) rfl (.cell (l := [.bool true]) (off := 0) (by (repeat (first | exact Ev.here | exact Ev.const | exact Ev.arg rfl | apply Ev.there rfl | exact Ev.none rfl | exact Ev.func | exact Ev.var)); (first | done | fail)) (by (repeat (first | exact Rd.head | exact Rd.base (by assumption) | apply Rd.tail)); (first | done | fail)) rfl .nil) rfl, rfl, rfl⟩
  · simp only [List.cons_append, List.nil_append]
    refine Wc_take (y := pur (k = .ret ∧ (pre ++ [x]).length ≤ partsN m ∧ (wrN (secF lap number rec) (h * J.size + at_) D (pre ++ [x]).length).2 = false)) (h := (by (repeat (first | exact Out.head | apply Out.tail)); (first | done | fail))) (k := Wc_pur (fun hk => ?_))
    obtain ⟨rfl, hle, hno⟩ := hk
    have hend : wrN (secF lap number rec) (h * J.size + at_) D (partsN m) = wrN (secF lap number rec) (h * J.size + at_) D (pre ++ [x]).length := by
      have := wrN_stop hno (partsN m - (pre ++ [x]).length)
      rwa [show (pre ++ [x]).length + (partsN m - (pre ++ [x]).length) = partsN m by omega] at this
    unfold putD at hP
    rw [hend, if_neg (by rw [hno]; simp)] at hP
    subst hP
    rw [hno]
    generalize (wrN (secF lap number rec) (h * J.size + at_) D (pre ++ [x]).length).1 = W1
    repeat' (first
      | refine Wc_seq ?_
      | refine thenQ_normal ?_
      | refine Wc_cond_t (h := ?_)
      | refine Wc_cond_f (h := ?_)
      | refine Wc_ret ?_
      | refine thenQ_ret ?_
      | refine Wc_block ?_
      | refine blkQ_normal ?_
      | refine blkQ_ret ?_
      | refine Wc_exit ?_
      | refine thenQ_exit ?_
      | refine blkQ_hit ?_
      | refine blkQ_miss rfl ?_
      | refine Wc_skip ?_
      | refine Wc_label ?_
      | refine loopQ_exit ?_
      | refine loopQ_ret ?_
      | refine loopQ_normal ?_
      | (refine Wc_cond (ht := (fun ht => ?_)) (hf := (fun ht => ?_)) <;> (try simp at ht) <;> (try (exfalso; omega))))
    exact ⟨Or.inr rfl, .bool false, [cb j (JC d (J.fail true)) 107, DiskP d n W1, X], (by (repeat (first | exact Ent.refl _ | exact Ent.nil | refine Ent.take (by (repeat (first | exact Out.head | apply Out.tail)); (first | done | fail)) ?_ | refine Ent.drop1 ?_))), resG (rs := [.cell 12 4]) rfl (.cell (l := [.bool false]) (off := 0) (by (repeat (first | exact Ev.here | exact Ev.const | exact Ev.arg rfl | apply Ev.there rfl | exact Ev.none rfl | exact Ev.func | exact Ev.var)); (first | done | fail)) (by (repeat (first | exact Rd.head | exact Rd.base (by assumption) | apply Rd.tail)); (first | done | fail)) rfl .nil) rfl, rfl, rfl⟩
end specs
end Go.Proofs.Ytepeljbgekgjcaa
