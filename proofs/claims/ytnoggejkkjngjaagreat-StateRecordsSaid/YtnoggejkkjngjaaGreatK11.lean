/- A range over a function: a call of yield; the statement. No condition. -/
import Derived.Test.YtnoggejkkjngjaaGreatK10
import Derived.RangeFuncNested
set_option linter.unusedVariables false
namespace Go.Sl
open Go

/-! ### A call of yield -/
@[reducible] def yv (l : Nat) : Value := .func (.yield l) #[] #[]
/-- What a loop's body does when it is called with 'args'. -/
def Yspec (P : Program) (B : Base) (l : Nat) (args : Array Value) (A : List Asn) (post : Value → List Asn → Prop) : Prop :=
  ∀ R w, Sat B w (R :: A) → ∃ fn tmps asx bd, (Instr.yield l args).run P w = .ok (.round l fn tmps asx bd) w ∧
    RoundIn Fence.wide 0 P l fn tmps asx bd w fun e w' => ∃ v A', e = .returned v ∧ Sat B w' (R :: A') ∧ post v A'
theorem Yspec.mono {P : Program} {B : Base} {l : Nat} {args : Array Value} {A : List Asn} {post post' : Value → List Asn → Prop}
    (h : Yspec P B l args A post) (hp : ∀ v A, post v A → post' v A) : Yspec P B l args A post' := fun R w hs => by
  obtain ⟨fn, tmps, asx, bd, h1, h2⟩ := h R w hs
  exact ⟨fn, tmps, asx, bd, h1, h2.mono fun e w' ⟨v, A', q1, q2, q3⟩ => ⟨v, A', q1, q2, hp _ _ q3⟩⟩
theorem Yspec.ent {P : Program} {B : Base} {l : Nat} {args : Array Value} {A A' : List Asn} {post : Value → List Asn → Prop}
    (he : Ent A A') (h : Yspec P B l args A' post) : Yspec P B l args A post := fun R w hs => h R w (hs.entR he)
/-- What is known behind it is said anew. -/
theorem Yspec.conv {P : Program} {B : Base} {l : Nat} {args : Array Value} {A : List Asn} {post post' : Value → List Asn → Prop}
    (h : Yspec P B l args A post) (hp : ∀ v A, post v A → ∃ A', Ent A A' ∧ post' v A') : Yspec P B l args A post' := fun R w hs => by
  obtain ⟨fn, tmps, asx, bd, h1, h2⟩ := h R w hs
  refine ⟨fn, tmps, asx, bd, h1, h2.mono fun e w' ⟨v, A', q1, q2, q3⟩ => ?_⟩
  obtain ⟨A2, he, hq⟩ := hp _ _ q3
  exact ⟨v, A2, q1, q2.entR he, hq⟩
/-- What the body does not need lies aside. -/
theorem Yspec.frame {P : Program} {B : Base} {l : Nat} {args : Array Value} {A M : List Asn} {post : Value → List Asn → Prop}
    (h : Yspec P B l args A post) : Yspec P B l args (M ++ A) (fun v A' => ∃ A2, A' = M ++ A2 ∧ post v A2) := fun R w hs => by
  obtain ⟨fn, tmps, asx, bd, h1, h2⟩ := h (lst (R :: M)) w (hs.ent (Ent.lst_shut (R :: M) A))
  exact ⟨fn, tmps, asx, bd, h1, h2.mono fun e w' ⟨v, A', q1, q2, q3⟩ => ⟨v, M ++ A', q1, q2.ent (Ent.lst_open (R :: M) A'), A', rfl, q3⟩⟩
theorem Fspec.frame {P : Program} {B : Base} {f : FuncId} {args : Array Value} {A M : List Asn} {post : Value → List Asn → Prop}
    (h : Fspec P B f args A post) : Fspec P B f args (M ++ A) (fun v A' => ∃ A2, A' = M ++ A2 ∧ post v A2) := fun R w hs =>
  (h (lst (R :: M)) w (hs.ent (Ent.lst_shut (R :: M) A))).mono fun e w' ⟨v, A', q1, q2, q3⟩ => ⟨v, M ++ A', q1, q2.ent (Ent.lst_open (R :: M) A'), A', rfl, q3⟩
theorem Fspec.conv {P : Program} {B : Base} {f : FuncId} {args : Array Value} {A : List Asn} {post post' : Value → List Asn → Prop}
    (h : Fspec P B f args A post) (hp : ∀ v A, post v A → ∃ A', Ent A A' ∧ post' v A') : Fspec P B f args A post' := fun R w hs => by
  refine (h R w hs).mono fun e w' ⟨v, A', q1, q2, q3⟩ => ?_
  obtain ⟨A2, he, hq⟩ := hp _ _ q3
  exact ⟨v, A2, q1, q2.entR he, hq⟩

section ops
variable {P : Program} {B : Base} {N : Nat} {fm : Fm} {ops rest : List Oper} {F : Fr} {A : List Asn} {K : Fr → List Asn → Prop} {d : Nat} {T : TypeId} {pos : String} {aft : Array Edge} {x : Operand}
theorem xA {l : Nat} {xs : List Operand} {ts : Array TypeId} {args : List Value} {A1 M : List Asn} {post : Value → List Asn → Prop} (hd : Nat.blt d N = true := by exact rfl)
    (hx : ev F x = yv l := by exact rfl) (ha : EvL F xs args := by (repeat (first | exact EvL.nil | apply EvL.cons (by (repeat (first | exact Ev.here | exact Ev.const | exact Ev.arg rfl | apply Ev.there rfl | exact Ev.none rfl | exact Ev.func | exact Ev.var)); (first | done | fail)))); (first | done | fail)) (hs : Yspec P B l args.toArray A1 post) (hp : Pick A A1 M := by (repeat (first | exact Pick.nil | apply Pick.cons (by (repeat (first | exact Out.head | apply Out.tail)); (first | done | fail)))); (first | done | fail))
    (k : ∀ v A', post v A' → Wl P B N fm ops rest (upd F d v) (A' ++ M) K) : Wl P B N fm ops (⟨some d, .call ⟨.value x, xs.toArray, ts⟩, T, pos, aft, none⟩ :: rest) F A K :=
  y0 rfl rfl fun R hE a w hr hsat => by
    have h1 : Sat B w (lst (R :: M) :: A1) := (hsat.perm ((hp.perm.cons R).trans (List.perm_middle.symm.trans List.perm_append_comm))).ent (Ent.lst_shut (R :: M) A1)
    obtain ⟨fn, tmps, asx, bd, q1, q2⟩ := hs _ w h1
    have hrun : (execOp (ev F) ⟨some d, .call ⟨.value x, xs.toArray, ts⟩, T, pos, aft, none⟩).run P w = .ok (.round l fn tmps asx bd) w := by
      have h2 := ha.eq
      subst h2
      simp only [execOp, resolve, hx, Deferred.ofValue, invoke, Sem.run_bind, Sem.run_pure, Result.andThen_ok]
      simpa using q1
    rw [hrun, Oper.upY_round]
    refine q2.mono ?_
    rintro e w' ⟨v, A', rfl, hsat', hpost⟩
    have h2 : Sat B w' (R :: (A' ++ M)) := (hsat'.ent (Ent.lst_open (R :: M) A')).perm (List.perm_append_comm.cons R)
    exact ⟨h2.hd, k v A' hpost R hE _ w' (hr.put (by simpa [Nat.blt_eq] using hd) v) h2⟩
end ops

/-! ### The statement -/
def ups (F : Fr) : List (Nat × Value) → Fr
  | [] => F
  | (d, v) :: r => ups (upd F d v) r
theorem Rep.ups {N : Nat} : ∀ (l : List (Nat × Value)) {t : Array Value} {F : Fr} {ds ds' : List Deferred}, Rep N ⟨t, ds⟩ F → (∀ p ∈ l, p.1 < N) →
    Rep N ⟨l.foldl (fun tmps (p : Nat × Value) => tmps.setIfInBounds p.1 p.2) t, ds'⟩ (ups F l)
  | [], _, _, _, _, h, _ => ⟨h.size, h.get⟩
  | (d, v) :: l, t, F, ds, ds', h, hl => by
    have h1 := h.put (hl (d, v) (List.mem_cons_self ..)) v
    exact Rep.ups l (ds := ds) (ds' := ds') (t := t.setIfInBounds d v) h1 (fun p hp => hl p (List.mem_cons_of_mem _ hp))

def jumpOf : Exit → Option Code
  | .ret => some .ret
  | .exit id => some (.exit id)
  | .goto t => some (.goto t)
  | _ => none

section stmt
variable {P : Program} {B : Base} {N : Nat} {F : Fr} {A : List Asn} {Q : Exit → Fr → List Asn → Prop}

/-- What the loop's record is while no round is under way; what is left when a round has ended the loop by a jump. -/
def jx {α : Type} (l : Nat) (r : Loop) (Ix : Code → List α → List Asn) (pre : List α) : Asn :=
  exN fun c : Code => pt l (.loop { r with state := .done, pending := some c }) :: Ix c pre

/-- One round: the assignment to the loop's variables, the body. -/
def Round (P : Program) (B : Base) (N : Nat) (F : Fr) (ps : List Nat) (assign body : Code) (vs : List Value) (A : List Asn) (good : List Asn) (bad : Code → List Asn) : Prop :=
  Wc P B N assign (ups F (ps.zip vs)) A (fun e F' A' => e = .normal ∧ Wc P B N body F' A' (fun e' _ A2 => (e' = .normal ∧ Ent A2 good) ∨ ∃ c, jumpOf e' = some c ∧ Ent A2 (bad c)))

theorem round_spec {F0 : Fr} {ps : List Nat} {assign body : Code} {vs : List Value} {A good : List Asn} {bad : Code → List Asn} {l : Nat} {r : Loop} {t0 : Array Value} {ds : List Deferred}
    (hrep : Rep N ⟨t0, ds⟩ F) (hps : ∀ p ∈ ps, p < N) (hlen : vs.length = ps.length) (hst : r.state = .ready) (hrp : r.params = ps.toArray) (hrt : r.tmps = t0) (hra : r.assign = assign) (hrb : r.body = body)
    (h : Round P B N F ps assign body vs A good bad) :
    Yspec P B l vs.toArray (pt l (.loop r) :: A) (fun v A' => (v = .bool true ∧ A' = pt l (.loop { r with state := .ready, pending := none }) :: good) ∨
      ∃ c, v = .bool false ∧ A' = pt l (.loop { r with state := .done, pending := some c }) :: bad c) := fun R w hs => by
  subst hra hrb
  have hp : Sat B w (pt l (.loop r) :: R :: A) := hs.perm (.swap ..)
  have hl := (hp.get (List.mem_cons_self ..)).2
  refine ⟨_, _, _, _, run_yield hl (by simp [hrp, hlen]), ?_⟩
  have lput : ∀ {w : World} {r1 : Loop} (r2 : Loop) {L : List Asn}, Sat B w (pt l (.loop r1) :: L) → Sat B (w.putObj l (.loop r2)) (pt l (.loop r2) :: L) := fun {w r1} r2 {L} h => by
    have hh := (h.get (List.mem_cons_self ..)).2
    exact Sat.put (w := w) (o := .loop r1) (show Io w (w.putObj l _) from ⟨rfl, rfl, rfl⟩) (by simp) (fun x hx => World.putObj_heap_other hx) (World.putObj_heap_same (Array.getElem?_eq_some_iff.1 hh).1) h
  have hk : ∀ r1 : Loop, Rk (some l) (lst [R, pt l (.loop r1)]) := fun r1 l' e => by
    cases e
    refine ⟨r1, (Ent.lst_open [R, pt l (.loop r1)] []).trans (Ent.drop R)⟩
  have hz : ((r.params.zip vs.toArray).foldl (fun tmps (t, a) => tmps.setIfInBounds t a) r.tmps) = (ps.zip vs).foldl (fun tmps (p : Nat × Value) => tmps.setIfInBounds p.1 p.2) t0 := by
    rw [hrp, hrt, List.zip_toArray, List.foldl_toArray]
  have hrep' : Rep N ⟨(r.params.zip vs.toArray).foldl (fun tmps (t, a) => tmps.setIfInBounds t a) r.tmps, []⟩ (ups F (ps.zip vs)) := by
    rw [hz]
    exact Rep.ups _ hrep (fun p hp => hps _ (List.of_mem_zip hp).1)
  refine roundIn_of_wpIn trivial ?_
  have s1 : Sat B w (lst [R, pt l (.loop r)] :: A) := hs.ent (Ent.lst_shut [R, pt l (.loop r)] A)
  refine wpIn_mono (h (some l) _ _ w (hk r) hrep' s1) ?_
  rintro e a1 w1 ⟨Ds, F1, A1, hd1, hr1, hs1, rfl, hb⟩
  have s2 : Sat B w1 (pt l (.loop r) :: R :: (List.map dk Ds ++ A1)) := (hs1.ent (Ent.lst_open [R, pt l (.loop r)] (List.map dk Ds ++ A1))).perm (.swap ..)
  have hl1 := (s2.get (List.mem_cons_self ..)).2
  have s3 := lput { r with state := .busy } s2
  refine ⟨_, run_beginRound hl1 hst, ?_⟩
  have s4 : Sat B (w1.putObj l (.loop { r with state := .busy })) (lst [R, pt l (.loop { r with state := .busy })] :: A1) :=
    ((s3.perm (.swap ..)).ent (((Ent.nil.trans (Ent.refl []) : Ent (List.map dk Ds) []).appR A1 |>.cons _).cons R)).ent (Ent.lst_shut [R, pt l (.loop { r with state := .busy })] A1)
  refine wpIn_mono (hb (some l) _ a1 _ (hk _) hr1 s4) ?_
  rintro e2 a2 w2 ⟨Ds2, F2, A2, hd2, hr2, hs2, hq⟩
  have s5 : Sat B w2 (pt l (.loop { r with state := .busy }) :: R :: A2) :=
    ((hs2.ent (Ent.lst_open [R, pt l (.loop { r with state := .busy })] (List.map dk Ds2 ++ A2))).ent ((((Ent.nil : Ent (List.map dk Ds2) []).appR A2).cons _).cons R)).perm (.swap ..)
  have hl2 := (s5.get (List.mem_cons_self ..)).2
  rcases hq with ⟨rfl, hE⟩ | ⟨c, hc, hE⟩
  · refine ⟨_, _, run_endRound none hl2, _, pt l (.loop { r with state := .ready, pending := none }) :: good, rfl, ?_, .inl ⟨rfl, rfl⟩⟩
    exact ((lput { r with state := .ready, pending := none } s5).ent ((hE.cons R).cons _)).perm (.swap ..)
  · have fin : ∀ c, Ent A2 (bad c) → ∃ v w', (Instr.endRound l (some c)).run P w2 = .ok v w' ∧ ∃ v' A', Ending.returned v = .returned v' ∧ Sat B w' (R :: A') ∧
        ((v' = .bool true ∧ A' = pt l (.loop { r with state := .ready, pending := none }) :: good) ∨ ∃ c, v' = .bool false ∧ A' = pt l (.loop { r with state := .done, pending := some c }) :: bad c) := fun c hE => by
      refine ⟨_, _, run_endRound (some c) hl2, _, pt l (.loop { r with state := .done, pending := some c }) :: bad c, rfl, ?_, .inr ⟨c, rfl, rfl⟩⟩
      exact ((lput { r with state := .done, pending := some c } s5).ent ((hE.cons R).cons _)).perm (.swap ..)
    cases e2 with
    | ret => cases hc; exact fin _ hE
    | exit id => cases hc; exact fin _ hE
    | goto t => cases hc; exact fin _ hE
    | normal => cases hc
    | panic _ => cases hc
    | outgrown => cases hc

/-- A truth that takes no place. -/
def pur (φ : Prop) : Asn := fun h => φ ∧ ∀ b, h b = none
theorem xZ {c : Code} {φ : Prop} (h : φ → Wc P B N c F A Q) : Wc P B N c F (pur φ :: A) Q := fun ro R a w hk hr hs => by
  have hp : Sat B w (pur φ :: R :: A) := hs.perm (.swap ..)
  obtain ⟨x, hx, _, _⟩ := hp.own
  exact h hx.1 ro R a w hk hr (hp.ent (Ent.drop _))

/-- An iterator that is called with yield: whatever the loop keeps (J), whatever is left where the loop is broken off (Jx). -/
def SeqSpec {α : Type} (P : Program) (B : Base) (gf : FuncId) (vs us : List Value) (enc : α → List Value) (xs : List α) (S : List Asn) : Prop :=
  ∀ (l : Nat) (J Jx : List α → List Asn),
    (∀ pre x rest, xs = pre ++ x :: rest → Yspec P B l (enc x).toArray (S ++ J pre) (fun v A' => (v = .bool true ∧ A' = S ++ J (pre ++ [x])) ∨ (v = .bool false ∧ A' = S ++ Jx (pre ++ [x])))) →
    Fspec P B gf (vs ++ [yv l] ++ us).toArray (S ++ J []) (fun _ A' => A' = S ++ J xs ∨ ∃ pre x rest, xs = pre ++ x :: rest ∧ A' = S ++ Jx (pre ++ [x]))

theorem rangeTail {α : Type} {gf : FuncId} {vs us : List Value} {enc : α → List Value} {xs : List α} {S : List Asn} {I : List α → List Asn} {Ix : Code → List α → List Asn} {ps : List Nat} {assign body : Code}
    (hseq : SeqSpec P B gf vs us enc xs S) (hps : ∀ p ∈ ps, p < N) (hlen : ∀ x, (enc x).length = ps.length)
    (round : ∀ pre x rest, xs = pre ++ x :: rest → Round P B N F ps assign body (enc x) (S ++ I pre) (S ++ I (pre ++ [x])) (fun c => S ++ Ix c (pre ++ [x])))
    (hdone : Q .normal F (S ++ I xs))
    (hjump : ∀ c pre x rest, xs = pre ++ x :: rest → Wc P B N c F (S ++ Ix c (pre ++ [x])) Q)
    {ro : Option Nat} {R : Asn} {a : Act} {w1 : World} {l : Nat} {Ds : List Nat} {fn D : Nat} (hk : Rk ro R) (hr : Rep N a F)
    (hs : Sat B w1 (pt l (.loop { state := .ready, pending := none, fn := fn, tmps := a.tmps, params := ps.toArray, assign := assign, body := body, defers := D }) :: R :: (List.map dk Ds ++ (S ++ I [])))) :
    CallsIn (fen ro) 0 P gf (vs ++ [yv l] ++ us).toArray w1 (rangePost (fen ro) 0 P l (LiftQ B N R a.defers Q) { a with defers := List.map mark Ds ++ a.defers }) := by
  generalize hrd : ({ state := .ready, pending := none, fn := fn, tmps := a.tmps, params := ps.toArray, assign := assign, body := body, defers := D } : Loop) = r at hs
  have hrr : ({ r with state := .ready, pending := none } : Loop) = r := by rw [← hrd]
  have hY := hseq l (fun pre => pt l (.loop r) :: I pre) (fun pre => [jx l r Ix pre]) (fun pre x rest hx => by
    have h1 := round_spec (l := l) (r := r) (t0 := a.tmps) (ds := a.defers) (F0 := F) hr hps (hlen x) (by rw [← hrd]) (by rw [← hrd]) (by rw [← hrd]) (by rw [← hrd]) (by rw [← hrd]) (round pre x rest hx)
    rw [hrr] at h1
    refine (h1.ent (Ent.perm List.perm_middle)).conv ?_
    rintro v A' (⟨rfl, rfl⟩ | ⟨c, rfl, rfl⟩)
    · exact ⟨_, Ent.perm List.perm_middle.symm, .inl ⟨rfl, rfl⟩⟩
    · refine ⟨_, ?_, .inr ⟨rfl, rfl⟩⟩
      have e1 : Ent (pt l (.loop { r with state := .done, pending := some c }) :: (S ++ Ix c (pre ++ [x]))) ((pt l (.loop { r with state := .done, pending := some c }) :: Ix c (pre ++ [x])) ++ S) :=
        Ent.perm (List.perm_append_comm.cons _)
      refine e1.trans ((Ent.exN_shut (f := fun c : Code => pt l (.loop { r with state := .done, pending := some c }) :: Ix c (pre ++ [x])) c S).trans ?_)
      exact Ent.perm (List.perm_append_comm (l₁ := [jx l r Ix (pre ++ [x])])))
  have hs1 : Sat B w1 (lst (R :: List.map dk Ds) :: (S ++ pt l (.loop r) :: I [])) := by
    refine Sat.ent (L := (R :: List.map dk Ds) ++ (S ++ pt l (.loop r) :: I [])) (Ent.lst_shut _ _) (hs.perm ?_)
    refine (List.Perm.swap _ _ _).trans ?_
    rw [List.cons_append]
    refine List.Perm.cons R ?_
    rw [← List.append_assoc, ← List.append_assoc]
    exact List.perm_middle.symm
  have hput : ∀ {w : World} {r1 : Loop} (r2 : Loop) {L : List Asn}, Sat B w (pt l (.loop r1) :: L) → Sat B (w.putObj l (.loop r2)) L := fun {w r1} r2 {L} h => by
    have hh := (h.get (List.mem_cons_self ..)).2
    have h2 : Sat B (w.putObj l (.loop r2)) (pt l (.loop r2) :: L) :=
      Sat.put (w := w) (o := .loop r1) (show Io w (w.putObj l _) from ⟨rfl, rfl, rfl⟩) (by simp) (fun x hx => World.putObj_heap_other hx) (World.putObj_heap_same (Array.getElem?_eq_some_iff.1 hh).1) h
    exact h2.ent (Ent.drop _)
  have hc : CallsIn Fence.wide 0 P gf (vs ++ [yv l] ++ us).toArray w1 _ := callsIn_wide.2 (hY _ w1 hs1)
  refine CallsIn.mono (show CallsIn (fen ro) 0 P gf _ w1 _ from hc) ?_
  rintro e w3 ⟨v, A', rfl, hs3, hp⟩
  rcases hp with rfl | ⟨pre, x, rest, hx, rfl⟩
  · have s1 : Sat B w3 (pt l (.loop r) :: R :: (List.map dk Ds ++ (S ++ I xs))) := by
      refine (hs3.ent (Ent.lst_open (R :: List.map dk Ds) _)).perm ?_
      refine List.Perm.trans ?_ (List.Perm.swap _ _ _)
      rw [List.cons_append]
      refine List.Perm.cons R ?_
      rw [← List.append_assoc, ← List.append_assoc]
      exact List.perm_middle
    have hl := (s1.get (List.mem_cons_self ..)).2
    refine ⟨_, _, run_endLoop hl (by rw [← hrd]; simp), ?_⟩
    have hpend : r.pending = none := by rw [← hrd]
    rw [hpend]
    exact ⟨Ds, F, S ++ I xs, rfl, ⟨hr.size, hr.get⟩, hput _ s1, hdone⟩
  · have s0 : Sat B w3 (R :: jx l r Ix (pre ++ [x]) :: (List.map dk Ds ++ S)) := by
      refine (hs3.ent (Ent.lst_open (R :: List.map dk Ds) _)).perm ?_
      rw [List.cons_append]
      refine List.Perm.cons R ?_
      rw [← List.append_assoc]
      exact List.perm_append_comm
    obtain ⟨c, s1⟩ := exN_open_sat s0
    have s2 : Sat B w3 (pt l (.loop { r with state := .done, pending := some c }) :: R :: (List.map dk Ds ++ (S ++ Ix c (pre ++ [x])))) := by
      refine s1.perm ((List.Perm.swap _ _ _).trans (List.Perm.cons _ (List.Perm.cons R ?_)))
      rw [← List.append_assoc]
      exact List.perm_append_comm
    have hl := (s2.get (List.mem_cons_self ..)).2
    refine ⟨_, _, run_endLoop hl (by simp), ?_⟩
    exact Wc.go (hjump c pre x rest hx) hk rfl ⟨hr.size, hr.get⟩ (hput _ s2)

theorem yr {α : Type} {g : Operand} {gf : FuncId} {vs us : List Value} {ps : List Nat} {assign body : Code} [hb : HasBody P gf] (enc : α → List Value) (xs : List α) (S : List Asn)
    (I : List α → List Asn) (Ix : Code → List α → List Asn)
    (hg : ev F g = .func (.func gf) vs.toArray us.toArray := by exact rfl) (hA : Ent A (S ++ I []))
    (hseq : SeqSpec P B gf vs us enc xs S) (hps : ∀ p ∈ ps, p < N) (hlen : ∀ x, (enc x).length = ps.length)
    (round : ∀ pre x rest, xs = pre ++ x :: rest → Round P B N F ps assign body (enc x) (S ++ I pre) (S ++ I (pre ++ [x])) (fun c => S ++ Ix c (pre ++ [x])))
    (hdone : Q .normal F (S ++ I xs))
    (hjump : ∀ c pre x rest, xs = pre ++ x :: rest → Wc P B N c F (S ++ Ix c (pre ++ [x])) Q) : Wc P B N (.rangeFunc g ps.toArray assign body) F A Q := fun ro R a w hk hr hs => by
  have hres : ∀ (l : Nat) (w : World), (resolve a.eval (rangeCall g l) 0).run P w = .ok { target := .fn (.func gf) us.toArray, args := (vs ++ [yv l]).toArray } w := fun l w => by
    have hev : a.eval g = .func (.func gf) vs.toArray us.toArray := by rw [hr.eval]; exact hg
    have h2 : Array.map a.eval #[.const (yv l)] = #[yv l] := by simp [Act.eval]
    simp only [resolve]
    rw [h2, hev]
    simp [Deferred.ofValue]
  have hinv : ∀ (l : Nat) (w : World), (invoke (.fn (.func gf) us.toArray) (vs ++ [yv l]).toArray).run P w = .ok (.enter gf (vs ++ [yv l] ++ us).toArray) w := fun l w => by
    have := run_callFunc_body hb.out (vs ++ [yv l] ++ us).toArray w
    simpa [invoke] using this
  refine wpIn_rangeFunc fun fn _ => ?_
  cases ro with
  | none =>
    have hs1 := (Sat.push (w := w) (o := .deferred (some [])) (w' := w.alloc (.deferred (some []))) (by exact ⟨rfl, rfl, rfl⟩) rfl hs)
    have hs2 := (Sat.push (w := w.alloc (.deferred (some []))) (o := .loop { state := .ready, pending := none, fn := fn, tmps := a.tmps, params := ps.toArray, assign := assign, body := body, defers := w.heap.size })
      (w' := (w.alloc (.deferred (some []))).alloc (.loop { state := .ready, pending := none, fn := fn, tmps := a.tmps, params := ps.toArray, assign := assign, body := body, defers := w.heap.size })) (by exact ⟨rfl, rfl, rfl⟩) rfl hs1)
    rw [World.size_alloc] at hs2
    refine ⟨_, _, _, _, _, gf, _, _, run_enterLoop_outer fn a.tmps ps.toArray assign body, hres _ _, fun _ _ => trivial, hinv _ _, fun e => (by cases e), ?_⟩
    refine rangeTail (Ds := [w.heap.size]) (fn := fn) (D := w.heap.size) hseq hps hlen round hdone hjump hk hr ?_
    refine hs2.ent ?_
    refine (Ent.cons _ ?_)
    exact (Ent.perm (.swap ..)).trans ((hA.cons _).cons R)
  | some l0 =>
    obtain ⟨r0, hr0⟩ := hk l0 rfl
    have hl0 := ((hs.hd.ent hr0).get (List.mem_cons_self ..)).2
    have hs2 := (Sat.push (w := w) (o := .loop { state := .ready, pending := none, fn := fn, tmps := a.tmps, params := ps.toArray, assign := assign, body := body, defers := r0.defers })
      (w' := w.alloc (.loop { state := .ready, pending := none, fn := fn, tmps := a.tmps, params := ps.toArray, assign := assign, body := body, defers := r0.defers })) (by exact ⟨rfl, rfl, rfl⟩) rfl hs)
    refine ⟨_, _, _, _, _, gf, _, _, run_enterLoop_inner hl0 fn a.tmps ps.toArray assign body, hres _ _, fun _ _ => trivial, hinv _ _, fun e => (by cases e), ?_⟩
    exact rangeTail (Ds := []) (fn := fn) (D := r0.defers) hseq hps hlen round hdone hjump hk hr (hs2.ent ((hA.cons R).cons _))
end stmt
end Go.Sl
/- Package state: which snapshots are right. Conditions: none but the kinds' bounds, and not too many rows. -/
set_option maxHeartbeats 8000000
set_option linter.unusedVariables false
set_option linter.unusedSimpArgs false
set_option maxRecDepth 100000
namespace Go.Proofs.YtnoggejkkjngjaaGreat
open Go Go.Sl
attribute [local irreducible] Go.Sl.Wl Go.Sl.Wc Go.Sl.thenQ Go.Sl.blkQ Go.Sl.loopQ Go.Sl.Fspec

theorem prC_cell {l : List PrX} {k r : Nat} {x : PrX} {v : Value} (h : l[k]? = some x) (hr : r < 5) (hv : x.c[r]? = some v) : (prC l)[k * 5 + r]? = some v := flatMap_cell (fun _ _ => rfl) h hr hv
theorem leq_klt (a b : ByteArray) : (Op.bytesLess a.toList b.toList || a.toList == b.toList) = !klt b a := by
  have := kgt_eq a b
  unfold kgt at this
  rw [← this, Bool.not_not]
theorem row_iff0 {T : List Ep} {b : SnX} {j : Nat} {x : PrX} (hx : b.ps[j]? = some x) (h0 : j = 0) : prRow T b j = true ↔ (1 ≤ x.k.size ∧ x.k.size ≤ 64) ∧ x.v.d.size ≤ 1024 ∧ (x.v.c = true ∨ x.v.d.toList = []) ∧ belowT T x.v.a x.v.b b.e b.i = true := by
  have e : prRow T b j = prOk T b.e b.i x := by
    unfold prRow
    rw [hx, decide_eq_true h0]; simp
  rw [e]
  exact ⟨prOk_out, fun h => prOk_in h.1 h.2.1 h.2.2.1 h.2.2.2⟩
theorem row_iff1 {T : List Ep} {b : SnX} {j : Nat} {x y : PrX} (hx : b.ps[j]? = some x) (hy : b.ps[j - 1]? = some y) (h0 : ¬ j = 0) : prRow T b j = true ↔ klt y.k x.k = true ∧ (1 ≤ x.k.size ∧ x.k.size ≤ 64) ∧ x.v.d.size ≤ 1024 ∧ (x.v.c = true ∨ x.v.d.toList = []) ∧ belowT T x.v.a x.v.b b.e b.i = true := by
  have e : prRow T b j = (prOk T b.e b.i x && klt y.k x.k) := by
    unfold prRow
    rw [hx, decide_eq_false h0]; simp only [Bool.false_or]; rw [hy]
  rw [e, Bool.and_eq_true]
  exact ⟨fun h => ⟨h.2, prOk_out h.1⟩, fun h => ⟨prOk_in h.2.1 h.2.2.1 h.2.2.2.1 h.2.2.2.2, h.1⟩⟩
theorem srow_iff0 {T : List Ep} {b : SnX} {j : Nat} {x : SX} (hx : b.ss[j]? = some x) (h0 : j = 0) : ssRow T b j = true ↔ numB x.s = true ∧ numB x.r = true ∧ belowT T x.e x.i b.e b.i = true := by
  have e : ssRow T b j = ssOk T b.e b.i x := by
    unfold ssRow
    rw [hx, decide_eq_true h0]; simp
  rw [e]
  exact ⟨ssOk_out, fun h => ssOk_in h.1 h.2.1 h.2.2⟩
theorem srow_iff1 {T : List Ep} {b : SnX} {j : Nat} {x y : SX} (hx : b.ss[j]? = some x) (hy : b.ss[j - 1]? = some y) (h0 : ¬ j = 0) : ssRow T b j = true ↔ y.s < x.s ∧ numB x.s = true ∧ numB x.r = true ∧ belowT T x.e x.i b.e b.i = true := by
  have e : ssRow T b j = (ssOk T b.e b.i x && decide (y.s < x.s)) := by
    unfold ssRow
    rw [hx, decide_eq_false h0]; simp only [Bool.false_or]; rw [hy]
  rw [e, Bool.and_eq_true, decide_eq_true_eq]
  exact ⟨fun h => ⟨h.2, ssOk_out h.1⟩, fun h => ⟨ssOk_in h.2.1 h.2.2.1 h.2.2.2, h.1⟩⟩
theorem all_no {n j : Nat} {f : Nat → Bool} (hj : j < n) (h : f j = false) : (List.range n).all f = false := by
  cases hb : (List.range n).all f with
  | false => rfl
  | true => rw [List.all_eq_true.1 hb j (List.mem_range.2 hj)] at h; cases h
theorem all_yes {n : Nat} {f : Nat → Bool} (h : ∀ i, i < n → f i = true) : (List.range n).all f = true := List.all_eq_true.2 fun i hi => h i (List.mem_range.1 hi)
theorem upto_yes {j : Nat} {f : Nat → Bool} (h : ∀ i, i < j → f i = true) (hj : f j = true) : ∀ i, i < j + 1 → f i = true := fun i hi => by
  rcases Nat.lt_or_ge i j with q | q
  · exact h i q
  · obtain rfl : i = j := by omega
    exact hj
section specs
variable {B : Base}
theorem sright1_spec (X : Asn) (st : Nat) (S : G15) (hS : S.ok) (b : SnX) (hbe : rg b.e) (hps : b.ps.length ≤ 1000000) (hss : b.ss.length ≤ 1000000) (hpr : ∀ x ∈ b.ps, rg x.v.a) (hsr : ∀ y ∈ b.ss, rg y.e) (pa : Option Addr) (pc : Nat) (sa : Option Addr) (sc : Nat)
    (h1 : RdS Tryz.prog B [X] 5 pa b.ps.length pc (prC b.ps)) (h2 : RdS Tryz.prog B [X] 4 sa b.ss.length sc (ssC b.ss)) :
    Fspec Tryz.prog B 38 #[.pointer (some ⟨st, 0, none⟩), .agg #[.int .i64 b.e, .int .i64 b.i, .slice pa b.ps.length pc, .slice sa b.ss.length sc]] [GtP st S, X]
      (fun v A' => v = .bool (rightX S.table b) ∧ A' = [GtP st S, X]) := by
  have htab := rightT_out hS.tab
  refine spec_of (args := [_, _]) Tryz.func38 rfl rfl rfl ?_
  refine yE (fun q => ?_)
  obtain ⟨k, d, ta, tc, ea0, ec0, sa0, sc0, ea, ec⟩ := q
  simp only [GtL, GtR]
  simp only [List.cons_append, List.nil_append]
  refine yW (a := ta) (sz := 3) (ho := (by (repeat (first | exact Out.head | apply Out.tail)); (first | done | fail))) (h0 := by omega) (h := fun hft => ?_)
  have hon := on_spec (B := B) [own ta S.table.length tc 3 (epsC S.table) 45] S.table ta tc (hft.rd .head) (by omega) b.e b.i hbe
  obtain ⟨b0, hb0⟩ : ∃ x, decide (b.e = 0 ∧ b.i = 0) = x := ⟨_, rfl⟩
  obtain ⟨b1, hb1⟩ : ∃ x, onT S.table b.e b.i = x := ⟨_, rfl⟩
  rw [hb1] at hon
  have hfo : ∀ A0 : List Asn, Ent (GtL st S ⟨k, d, ta, tc, ea0, ec0, sa0, sc0, ea, ec⟩ ++ A0) (GtP st S :: A0) := fun A0 => gt_fold (A0 := A0) ⟨k, d, ta, tc, ea0, ec0, sa0, sc0, ea, ec⟩ (Ent.refl _)
  simp only [GtL, GtR] at hfo
  simp only [List.cons_append, List.nil_append] at hfo
  by_cases hg : ¬ (b0 = false ∧ b1 = true ∧ b.ss.length ≤ 16)
  · have hno : rightX S.table b = false := by
      unfold rightX
      rw [hb0, hb1]
      cases b0 <;> cases b1 <;> simp_all <;> omega
    rw [hno]
    repeat' (first
      | refine zi ?_
      | refine zK ?_
      | refine zQ (h := ?_)
      | refine zU (h := ?_)
      | refine zj ?_
      | refine zR ?_
      | refine zW ?_
      | refine zN ?_
      | refine zV ?_
      | refine ze ?_
      | refine zP ?_
      | refine zY ?_
      | refine zS rfl ?_
      | refine zd ?_
      | refine zX ?_
      | refine zO ?_
      | refine zT ?_
      | refine zL ?_
      | (refine zC (id := 0) ?_; intro K hK; ((refine zm (k := ?_); intro r3)) <;> (refine zH (k := ?_); (refine zD (hK _ _ ?_); clear hK K)))
      | (refine z3 (id := 1) (h := ?_); intro K hK; refine zB (k := ?_); refine zo (k := ?_); refine zr (k := ?_); ((refine yK (b := b0) (hb := by rw [pos_ceq]; exact hb0) (k' := ?_))) <;> (refine zF (k := ?_); ((first | (refine zA (k := ?_); refine zF (k := ?_)) | refine zE (k := ?_) | ((refine zG (yes := (fun ht => ?_)) (no := (fun ht => ?_)) <;> (try simp at ht) <;> (try (exfalso; omega))) <;> (first | (refine zA (k := ?_); refine zF (k := ?_)) | refine zE (k := ?_))))) <;> (((first | (refine zA (k := ?_); refine zJ (k := ?_)) | refine zE (k := ?_) | ((refine zG (yes := (fun ht => ?_)) (no := (fun ht => ?_)) <;> (try simp at ht) <;> (try (exfalso; omega))) <;> (first | (refine zA (k := ?_); refine zJ (k := ?_)) | refine zE (k := ?_))))) <;> (((first | (refine zA (k := ?_); refine zB (k := ?_)) | refine zE (k := ?_) | ((refine zG (yes := (fun ht => ?_)) (no := (fun ht => ?_)) <;> (try simp at ht) <;> (try (exfalso; omega))) <;> (first | (refine zA (k := ?_); refine zB (k := ?_)) | refine zE (k := ?_))))) <;> (((first | (refine zA (k := ?_); refine zM (k := ?_)) | refine zE (k := ?_) | ((refine zG (yes := (fun ht => ?_)) (no := (fun ht => ?_)) <;> (try simp at ht) <;> (try (exfalso; omega))) <;> (first | (refine zA (k := ?_); refine zM (k := ?_)) | refine zE (k := ?_))))) <;> (((first | (refine zA (k := ?_); refine zB (k := ?_)) | refine zE (k := ?_) | ((refine zG (yes := (fun ht => ?_)) (no := (fun ht => ?_)) <;> (try simp at ht) <;> (try (exfalso; omega))) <;> (first | (refine zA (k := ?_); refine zB (k := ?_)) | refine zE (k := ?_))))) <;> (((first | (refine zA (k := ?_); refine zo (k := ?_)) | refine zE (k := ?_) | ((refine zG (yes := (fun ht => ?_)) (no := (fun ht => ?_)) <;> (try simp at ht) <;> (try (exfalso; omega))) <;> (first | (refine zA (k := ?_); refine zo (k := ?_)) | refine zE (k := ?_))))) <;> (((first | (refine zA (k := ?_); (refine zb (hs := hon) (k := ?_); rintro v A' ⟨rfl, rfl⟩; simp only [List.cons_append, List.nil_append])) | refine zE (k := ?_) | ((refine zG (yes := (fun ht => ?_)) (no := (fun ht => ?_)) <;> (try simp at ht) <;> (try (exfalso; omega))) <;> (first | (refine zA (k := ?_); (refine zb (hs := hon) (k := ?_); rintro v A' ⟨rfl, rfl⟩; simp only [List.cons_append, List.nil_append])) | refine zE (k := ?_))))) <;> (((first | (refine zA (k := ?_); refine z7 (k' := ?_)) | refine zE (k := ?_) | ((refine zG (yes := (fun ht => ?_)) (no := (fun ht => ?_)) <;> (try simp at ht) <;> (try (exfalso; omega))) <;> (first | (refine zA (k := ?_); refine z7 (k' := ?_)) | refine zE (k := ?_))))) <;> ((first | refine zZ (k := ?_) | refine za (k := ?_) | refine zg (k := ?_)); refine zF (k := ?_); ((first | (refine zA (k := ?_); refine zB (k := ?_)) | refine zE (k := ?_) | ((refine zG (yes := (fun ht => ?_)) (no := (fun ht => ?_)) <;> (try simp at ht) <;> (try (exfalso; omega))) <;> (first | (refine zA (k := ?_); refine zB (k := ?_)) | refine zE (k := ?_))))) <;> (((first | (refine zA (k := ?_); refine zM (k := ?_)) | refine zE (k := ?_) | ((refine zG (yes := (fun ht => ?_)) (no := (fun ht => ?_)) <;> (try simp at ht) <;> (try (exfalso; omega))) <;> (first | (refine zA (k := ?_); refine zM (k := ?_)) | refine zE (k := ?_))))) <;> (((first | (refine zA (k := ?_); refine zn (k' := ?_)) | refine zE (k := ?_) | ((refine zG (yes := (fun ht => ?_)) (no := (fun ht => ?_)) <;> (try simp at ht) <;> (try (exfalso; omega))) <;> (first | (refine zA (k := ?_); refine zn (k' := ?_)) | refine zE (k := ?_))))) <;> (((first | (refine zA (k := ?_); refine z0 (k' := ?_)) | refine zE (k := ?_) | ((refine zG (yes := (fun ht => ?_)) (no := (fun ht => ?_)) <;> (try simp at ht) <;> (try (exfalso; omega))) <;> (first | (refine zA (k := ?_); refine z0 (k' := ?_)) | refine zE (k := ?_))))) <;> ((first | refine zZ (k := ?_) | refine za (k := ?_) | refine zg (k := ?_)); (refine zD (hK _ _ ?_); clear hK K)))))))))))))))
      | (refine zC (id := 2) ?_; intro K hK; refine zH (k := ?_); (refine zD (hK _ _ ?_); clear hK K))
      | (refine zC (id := 3) ?_; intro K hK; refine zB (k := ?_); refine zM (k := ?_); refine zn (k' := ?_); refine zF (k := ?_); (refine zD (hK _ _ ?_); clear hK K))
      | (refine zc (ht := (fun ht => ?_)) (hf := (fun ht => ?_)) <;> (try simp at ht) <;> (try (exfalso; omega))))
    all_goals first
      | exact ⟨Or.inr rfl, _, [GtP st S, X], Ent.trans (by (repeat (first | exact Ent.refl _ | exact Ent.nil | refine Ent.take (by (repeat (first | exact Out.head | apply Out.tail)); (first | done | fail)) ?_ | refine Ent.drop1 ?_)); (first | done | fail)) (hfo [X]), res1 rfl rfl, rfl, rfl⟩
      | (exfalso; refine hg ⟨?_, ?_, ?_⟩ <;> first | assumption | omega)
      | (exfalso; refine hg ⟨?_, ?_, ?_⟩ <;> first | assumption | omega | simp_all)
  have hg' := Classical.not_not.1 hg
  obtain ⟨rfl, rfl, h16⟩ := hg'
  have hR : rightX S.table b = ((List.range b.ps.length).all (prRow S.table b) && (List.range b.ss.length).all (ssRow S.table b)) := by
    unfold rightX
    rw [hb0, hb1, decide_eq_true h16]; simp
  rw [hR]
  repeat' (first
    | refine zi ?_
    | refine zK ?_
    | refine zQ (h := ?_)
    | refine zU (h := ?_)
    | refine zj ?_
    | refine zR ?_
    | refine zW ?_
    | refine zN ?_
    | refine zV ?_
    | refine ze ?_
    | refine zP ?_
    | refine zY ?_
    | refine zS rfl ?_
    | refine zd ?_
    | refine zX ?_
    | refine zO ?_
    | refine zT ?_
    | refine zL ?_
    | (refine zC (id := 0) ?_; intro K hK; ((refine zm (k := ?_); intro r3)) <;> (refine zH (k := ?_); (refine zD (hK _ _ ?_); clear hK K)))
    | (refine z3 (id := 1) (h := ?_); intro K hK; refine zB (k := ?_); refine zo (k := ?_); refine zr (k := ?_); ((refine yK (b := false) (hb := by rw [pos_ceq]; exact hb0) (k' := ?_))) <;> (refine zF (k := ?_); ((first | (refine zA (k := ?_); refine zF (k := ?_)) | refine zE (k := ?_) | ((refine zG (yes := (fun ht => ?_)) (no := (fun ht => ?_)) <;> (try simp at ht) <;> (try (exfalso; omega))) <;> (first | (refine zA (k := ?_); refine zF (k := ?_)) | refine zE (k := ?_))))) <;> (((first | (refine zA (k := ?_); refine zJ (k := ?_)) | refine zE (k := ?_) | ((refine zG (yes := (fun ht => ?_)) (no := (fun ht => ?_)) <;> (try simp at ht) <;> (try (exfalso; omega))) <;> (first | (refine zA (k := ?_); refine zJ (k := ?_)) | refine zE (k := ?_))))) <;> (((first | (refine zA (k := ?_); refine zB (k := ?_)) | refine zE (k := ?_) | ((refine zG (yes := (fun ht => ?_)) (no := (fun ht => ?_)) <;> (try simp at ht) <;> (try (exfalso; omega))) <;> (first | (refine zA (k := ?_); refine zB (k := ?_)) | refine zE (k := ?_))))) <;> (((first | (refine zA (k := ?_); refine zM (k := ?_)) | refine zE (k := ?_) | ((refine zG (yes := (fun ht => ?_)) (no := (fun ht => ?_)) <;> (try simp at ht) <;> (try (exfalso; omega))) <;> (first | (refine zA (k := ?_); refine zM (k := ?_)) | refine zE (k := ?_))))) <;> (((first | (refine zA (k := ?_); refine zB (k := ?_)) | refine zE (k := ?_) | ((refine zG (yes := (fun ht => ?_)) (no := (fun ht => ?_)) <;> (try simp at ht) <;> (try (exfalso; omega))) <;> (first | (refine zA (k := ?_); refine zB (k := ?_)) | refine zE (k := ?_))))) <;> (((first | (refine zA (k := ?_); refine zo (k := ?_)) | refine zE (k := ?_) | ((refine zG (yes := (fun ht => ?_)) (no := (fun ht => ?_)) <;> (try simp at ht) <;> (try (exfalso; omega))) <;> (first | (refine zA (k := ?_); refine zo (k := ?_)) | refine zE (k := ?_))))) <;> (((first | (refine zA (k := ?_); (refine zb (hs := hon) (k := ?_); rintro v A' ⟨rfl, rfl⟩; simp only [List.cons_append, List.nil_append])) | refine zE (k := ?_) | ((refine zG (yes := (fun ht => ?_)) (no := (fun ht => ?_)) <;> (try simp at ht) <;> (try (exfalso; omega))) <;> (first | (refine zA (k := ?_); (refine zb (hs := hon) (k := ?_); rintro v A' ⟨rfl, rfl⟩; simp only [List.cons_append, List.nil_append])) | refine zE (k := ?_))))) <;> (((first | (refine zA (k := ?_); refine z7 (k' := ?_)) | refine zE (k := ?_) | ((refine zG (yes := (fun ht => ?_)) (no := (fun ht => ?_)) <;> (try simp at ht) <;> (try (exfalso; omega))) <;> (first | (refine zA (k := ?_); refine z7 (k' := ?_)) | refine zE (k := ?_))))) <;> ((first | refine zZ (k := ?_) | refine za (k := ?_) | refine zg (k := ?_)); refine zF (k := ?_); ((first | (refine zA (k := ?_); refine zB (k := ?_)) | refine zE (k := ?_) | ((refine zG (yes := (fun ht => ?_)) (no := (fun ht => ?_)) <;> (try simp at ht) <;> (try (exfalso; omega))) <;> (first | (refine zA (k := ?_); refine zB (k := ?_)) | refine zE (k := ?_))))) <;> (((first | (refine zA (k := ?_); refine zM (k := ?_)) | refine zE (k := ?_) | ((refine zG (yes := (fun ht => ?_)) (no := (fun ht => ?_)) <;> (try simp at ht) <;> (try (exfalso; omega))) <;> (first | (refine zA (k := ?_); refine zM (k := ?_)) | refine zE (k := ?_))))) <;> (((first | (refine zA (k := ?_); refine zn (k' := ?_)) | refine zE (k := ?_) | ((refine zG (yes := (fun ht => ?_)) (no := (fun ht => ?_)) <;> (try simp at ht) <;> (try (exfalso; omega))) <;> (first | (refine zA (k := ?_); refine zn (k' := ?_)) | refine zE (k := ?_))))) <;> (((first | (refine zA (k := ?_); refine z0 (k' := ?_)) | refine zE (k := ?_) | ((refine zG (yes := (fun ht => ?_)) (no := (fun ht => ?_)) <;> (try simp at ht) <;> (try (exfalso; omega))) <;> (first | (refine zA (k := ?_); refine z0 (k' := ?_)) | refine zE (k := ?_))))) <;> ((first | refine zZ (k := ?_) | refine za (k := ?_) | refine zg (k := ?_)); (refine zD (hK _ _ ?_); clear hK K)))))))))))))))
    | (refine zC (id := 2) ?_; intro K hK; refine zH (k := ?_); (refine zD (hK _ _ ?_); clear hK K))
    | (refine zC (id := 3) ?_; intro K hK; refine zB (k := ?_); refine zM (k := ?_); refine zn (k' := ?_); refine zF (k := ?_); (refine zD (hK _ _ ?_); clear hK K))
    | (refine zc (ht := (fun ht => ?_)) (hf := (fun ht => ?_)) <;> (try simp at ht) <;> (try (exfalso; omega))))
  refine yI (α := Nat) (fun j => [(0, .pointer (some ⟨st, 0, none⟩)), (3, .pointer (some ⟨r3, 0, none⟩)), (31, .slice pa b.ps.length pc), (32, .int .i64 b.ps.length), (33, .int .i64 j)])
    (fun j => [GtP st S, cb r3 [.int .i64 b.e, .int .i64 b.i, .slice pa b.ps.length pc, .slice sa b.ss.length sc] 37, X]) (fun j => j ≤ b.ps.length ∧ ∀ i, i < j → prRow S.table b i = true) (fun j => b.ps.length - j) 0 ⟨by omega, by omega⟩ ⟨rfl, rfl, rfl, rfl, rfl, trivial⟩ (Ent.trans (by (repeat (first | exact Ent.refl _ | exact Ent.nil | refine Ent.take (by (repeat (first | exact Out.head | apply Out.tail)); (first | done | fail)) ?_ | refine Ent.drop1 ?_)); (first | done | fail)) (hfo _)) ?_
  rintro j G ⟨hj, hrows⟩
  simp only [ov]
  by_cases hlt : j < b.ps.length
  · obtain ⟨p, rfl⟩ : ∃ q, pa = some q := by
      cases pa with
      | none => have := h1.nil rfl; omega
      | some q => exact ⟨q, rfl⟩
    obtain ⟨x, hx⟩ : ∃ x, b.ps[j]? = some x := ⟨_, List.getElem?_eq_getElem hlt⟩
    have hbl := below_spec (B := B) st S hS x.v.a x.v.b b.e b.i (hpr x (List.mem_of_getElem? hx)) hbe
    obtain ⟨y, hy⟩ : ∃ y, b.ps[j - 1]? = some y := ⟨_, List.getElem?_eq_getElem (by omega)⟩
    have e1 : 0 < j → ((j : Nat) : Int) - 1 = ((j - 1 : Nat) : Int) := by omega
    obtain ⟨bb, hbb⟩ : ∃ r, belowT S.table x.v.a x.v.b b.e b.i = r := ⟨_, rfl⟩
    obtain ⟨kb, hkb⟩ : ∃ r, klt y.k x.k = r := ⟨_, rfl⟩
    rw [hbb] at hbl
    by_cases hj0 : j = 0
    · have hrw := row_iff0 (T := S.table) hx hj0
      rw [hbb] at hrw
      repeat' (first
        | refine zi ?_
        | refine zK ?_
        | refine zQ (h := ?_)
        | refine zU (h := ?_)
        | refine zj ?_
        | refine zR ?_
        | refine zW ?_
        | refine zN ?_
        | refine zV ?_
        | refine ze ?_
        | refine zP ?_
        | refine zY ?_
        | refine zS rfl ?_
        | refine zd ?_
        | refine zX ?_
        | refine zO ?_
        | refine zT ?_
        | refine zL ?_
        | (refine zC (id := 4) ?_; intro K hK; refine z6 (k' := ?_); (refine zD (hK _ _ ?_); clear hK K))
        | (refine zC (id := 5) ?_; intro K hK; refine zF (k := ?_); ((refine zq (k' := ?_))) <;> (((refine yD (j := j * 5) (cs := x.c) (hq := by simp) (hr := RdS.under (RdS.under h1)) (hv := prC_row hx) (k := ?_))) <;> (((refine zw (k := ?_); intro r6)) <;> (refine zH (k := ?_); refine zh (ho' := rfl) (k := ?_); (refine zD (hK _ _ ?_); clear hK K)))))
        | (refine zC (id := 6) ?_; intro K hK; refine zB (k := ?_); refine zo (k := ?_); ((refine zw (k := ?_); intro r7)) <;> (refine zh (ho' := rfl) (k := ?_); (refine zD (hK _ _ ?_); clear hK K)))
        | ((refine yY (id := 7) (M := ([cb r7 x.v.C 55, cb r6 x.c 57, X, cb r3 [.int .i64 b.e, .int .i64 b.i, .slice (some p) b.ps.length pc, .slice sa b.ss.length sc] 37])) (Ls := [41, 42, 46, 47, 55, 57, 62, 68, 69, 74, 78, 79, 85, 87]) (t := (.step 0 (.step 1 (.step 2 (.step 3 (.step 4 (.step 5 (.step 6 (.step 7 (.step 8 (.step 9 (.step 10 (.step 11 (.step 12 (.step 13 (.step 14 (.step 15 (.step 16 (.step 17 (.step 18 (.step 19 (.step 20 (.step 21 (.step 22 (.step 23 (.step 24 (.step 25 (.step 26 (.step 27 (.step 28 (.step 29 (.step 30 (.step 31 (.step 32 (.step 33 (.step 34 (.step 35 (.step 36 (.step 37 (.step 38 (.step 39 (.step 40 (.step 41 (.step 42 (.step 43 (.step 44 (.step 45 (.step 46 (.step 47 (.step 48 (.step 49 (.step 50 .done)))))))))))))))))))))))))))))))))))))))))))))))))))) (bad := []) (hok := (by decide +kernel)) (hp := (Pick.perm (by (repeat (first | exact Pick.nil | apply Pick.cons (by (repeat (first | exact Out.head | apply Out.tail)); (first | done | fail)))); (first | done | fail)))) (h := ?_); intro K hK; repeat' (first | refine z1 ?_ ?_ | (refine zI (i := 0) rfl ?_; (refine zB (k := ?_)) <;> (refine zD ?_)) | (refine zI (i := 1) rfl ?_; (refine z2 (k := ?_)) <;> (refine zD ?_)) | (refine zI (i := 2) rfl ?_; (refine zk (k' := ?_)) <;> (refine zD ?_)) | (refine zI (i := 3) rfl ?_; (refine z6 (k' := ?_)) <;> (refine zD ?_)) | (refine zI (i := 4) rfl ?_; (refine zF (k := ?_)) <;> (refine zD ?_)) | (refine zI (i := 5) rfl ?_; ((first | (refine zA (k := ?_); refine zB (k := ?_)) | refine zE (k := ?_) | ((refine zG (yes := (fun ht => ?_)) (no := (fun ht => ?_)) <;> (try simp at ht) <;> (try (exfalso; omega))) <;> (first | (refine zA (k := ?_); refine zB (k := ?_)) | refine zE (k := ?_))))) <;> (refine zD ?_)) | (refine zI (i := 6) rfl ?_; ((first | (refine zA (k := ?_); refine z2 (k := ?_)) | refine zE (k := ?_) | ((refine zG (yes := (fun ht => ?_)) (no := (fun ht => ?_)) <;> (try simp at ht) <;> (try (exfalso; omega))) <;> (first | (refine zA (k := ?_); refine z2 (k := ?_)) | refine zE (k := ?_))))) <;> (refine zD ?_)) | (refine zI (i := 7) rfl ?_; ((first | (refine zA (k := ?_); refine zk (k' := ?_)) | refine zE (k := ?_) | ((refine zG (yes := (fun ht => ?_)) (no := (fun ht => ?_)) <;> (try simp at ht) <;> (try (exfalso; omega))) <;> (first | (refine zA (k := ?_); refine zk (k' := ?_)) | refine zE (k := ?_))))) <;> (refine zD ?_)) | (refine zI (i := 8) rfl ?_; ((first | (refine zA (k := ?_); refine z0 (k' := ?_)) | refine zE (k := ?_) | ((refine zG (yes := (fun ht => ?_)) (no := (fun ht => ?_)) <;> (try simp at ht) <;> (try (exfalso; omega))) <;> (first | (refine zA (k := ?_); refine z0 (k' := ?_)) | refine zE (k := ?_))))) <;> (refine zD ?_)) | (refine zI (i := 9) rfl ?_; ((first | refine zZ (k := ?_) | refine za (k := ?_) | refine zg (k := ?_))) <;> (refine zD ?_)) | (refine zI (i := 10) rfl ?_; (refine zF (k := ?_)) <;> (refine zD ?_)) | (refine zI (i := 11) rfl ?_; ((first | (refine zA (k := ?_); refine zF (k := ?_)) | refine zE (k := ?_) | ((refine zG (yes := (fun ht => ?_)) (no := (fun ht => ?_)) <;> (try simp at ht) <;> (try (exfalso; omega))) <;> (first | (refine zA (k := ?_); refine zF (k := ?_)) | refine zE (k := ?_))))) <;> (refine zD ?_)) | (refine zI (i := 12) rfl ?_; ((first | (refine zA (k := ?_); refine z0 (k' := ?_)) | refine zE (k := ?_) | ((refine zG (yes := (fun ht => ?_)) (no := (fun ht => ?_)) <;> (try simp at ht) <;> (try (exfalso; omega))) <;> (first | (refine zA (k := ?_); refine z0 (k' := ?_)) | refine zE (k := ?_))))) <;> (refine zD ?_)) | (refine zI (i := 13) rfl ?_; ((first | (refine zA (k := ?_); refine zF (k := ?_)) | refine zE (k := ?_) | ((refine zG (yes := (fun ht => ?_)) (no := (fun ht => ?_)) <;> (try simp at ht) <;> (try (exfalso; omega))) <;> (first | (refine zA (k := ?_); refine zF (k := ?_)) | refine zE (k := ?_))))) <;> (refine zD ?_)) | (refine zI (i := 14) rfl ?_; ((first | (refine zA (k := ?_); refine zB (k := ?_)) | refine zE (k := ?_) | ((refine zG (yes := (fun ht => ?_)) (no := (fun ht => ?_)) <;> (try simp at ht) <;> (try (exfalso; omega))) <;> (first | (refine zA (k := ?_); refine zB (k := ?_)) | refine zE (k := ?_))))) <;> (refine zD ?_)) | (refine zI (i := 15) rfl ?_; ((first | (refine zA (k := ?_); refine z2 (k := ?_)) | refine zE (k := ?_) | ((refine zG (yes := (fun ht => ?_)) (no := (fun ht => ?_)) <;> (try simp at ht) <;> (try (exfalso; omega))) <;> (first | (refine zA (k := ?_); refine z2 (k := ?_)) | refine zE (k := ?_))))) <;> (refine zD ?_)) | (refine zI (i := 16) rfl ?_; ((first | (refine zA (k := ?_); refine zB (k := ?_)) | refine zE (k := ?_) | ((refine zG (yes := (fun ht => ?_)) (no := (fun ht => ?_)) <;> (try simp at ht) <;> (try (exfalso; omega))) <;> (first | (refine zA (k := ?_); refine zB (k := ?_)) | refine zE (k := ?_))))) <;> (refine zD ?_)) | (refine zI (i := 17) rfl ?_; ((first | (refine zA (k := ?_); refine z2 (k := ?_)) | refine zE (k := ?_) | ((refine zG (yes := (fun ht => ?_)) (no := (fun ht => ?_)) <;> (try simp at ht) <;> (try (exfalso; omega))) <;> (first | (refine zA (k := ?_); refine z2 (k := ?_)) | refine zE (k := ?_))))) <;> (refine zD ?_)) | (refine zI (i := 18) rfl ?_; ((first | (refine zA (k := ?_); refine zF (k := ?_)) | refine zE (k := ?_) | ((refine zG (yes := (fun ht => ?_)) (no := (fun ht => ?_)) <;> (try simp at ht) <;> (try (exfalso; omega))) <;> (first | (refine zA (k := ?_); refine zF (k := ?_)) | refine zE (k := ?_))))) <;> (refine zD ?_)) | (refine zI (i := 19) rfl ?_; ((first | (refine zA (k := ?_); refine yL (k' := ?_)) | refine zE (k := ?_) | ((refine zG (yes := (fun ht => ?_)) (no := (fun ht => ?_)) <;> (try simp at ht) <;> (try (exfalso; omega))) <;> (first | (refine zA (k := ?_); refine yL (k' := ?_)) | refine zE (k := ?_))))) <;> (refine zD ?_)) | (refine zI (i := 20) rfl ?_; ((first | (refine zA (k := ?_); refine z9 (k' := ?_)) | refine zE (k := ?_) | ((refine zG (yes := (fun ht => ?_)) (no := (fun ht => ?_)) <;> (try simp at ht) <;> (try (exfalso; omega))) <;> (first | (refine zA (k := ?_); refine z9 (k' := ?_)) | refine zE (k := ?_))))) <;> (refine zD ?_)) | (refine zI (i := 21) rfl ?_; ((first | (refine zA (k := ?_); refine zB (k := ?_)) | refine zE (k := ?_) | ((refine zG (yes := (fun ht => ?_)) (no := (fun ht => ?_)) <;> (try simp at ht) <;> (try (exfalso; omega))) <;> (first | (refine zA (k := ?_); refine zB (k := ?_)) | refine zE (k := ?_))))) <;> (refine zD ?_)) | (refine zI (i := 22) rfl ?_; ((first | (refine zA (k := ?_); refine z2 (k := ?_)) | refine zE (k := ?_) | ((refine zG (yes := (fun ht => ?_)) (no := (fun ht => ?_)) <;> (try simp at ht) <;> (try (exfalso; omega))) <;> (first | (refine zA (k := ?_); refine z2 (k := ?_)) | refine zE (k := ?_))))) <;> (refine zD ?_)) | (refine zI (i := 23) rfl ?_; ((first | (refine zA (k := ?_); refine ye (k' := ?_)) | refine zE (k := ?_) | ((refine zG (yes := (fun ht => ?_)) (no := (fun ht => ?_)) <;> (try simp at ht) <;> (try (exfalso; omega))) <;> (first | (refine zA (k := ?_); refine ye (k' := ?_)) | refine zE (k := ?_))))) <;> (refine zD ?_)) | (refine zI (i := 24) rfl ?_; ((first | (refine zA (k := ?_); (first | refine zZ (k := ?_) | refine za (k := ?_) | refine zg (k := ?_))) | refine zE (k := ?_) | ((refine zG (yes := (fun ht => ?_)) (no := (fun ht => ?_)) <;> (try simp at ht) <;> (try (exfalso; omega))) <;> (first | (refine zA (k := ?_); (first | refine zZ (k := ?_) | refine za (k := ?_) | refine zg (k := ?_))) | refine zE (k := ?_))))) <;> (refine zD ?_)) | (refine zI (i := 25) rfl ?_; ((first | refine zZ (k := ?_) | refine za (k := ?_) | refine zg (k := ?_))) <;> (refine zD ?_)) | (refine zI (i := 26) rfl ?_; (refine zF (k := ?_)) <;> (refine zD ?_)) | (refine zI (i := 27) rfl ?_; ((first | (refine zA (k := ?_); refine zB (k := ?_)) | refine zE (k := ?_) | ((refine zG (yes := (fun ht => ?_)) (no := (fun ht => ?_)) <;> (try simp at ht) <;> (try (exfalso; omega))) <;> (first | (refine zA (k := ?_); refine zB (k := ?_)) | refine zE (k := ?_))))) <;> (refine zD ?_)) | (refine zI (i := 28) rfl ?_; ((first | (refine zA (k := ?_); refine z2 (k := ?_)) | refine zE (k := ?_) | ((refine zG (yes := (fun ht => ?_)) (no := (fun ht => ?_)) <;> (try simp at ht) <;> (try (exfalso; omega))) <;> (first | (refine zA (k := ?_); refine z2 (k := ?_)) | refine zE (k := ?_))))) <;> (refine zD ?_)) | (refine zI (i := 29) rfl ?_; ((first | (refine zA (k := ?_); refine zk (k' := ?_)) | refine zE (k := ?_) | ((refine zG (yes := (fun ht => ?_)) (no := (fun ht => ?_)) <;> (try simp at ht) <;> (try (exfalso; omega))) <;> (first | (refine zA (k := ?_); refine zk (k' := ?_)) | refine zE (k := ?_))))) <;> (refine zD ?_)) | (refine zI (i := 30) rfl ?_; ((first | (refine zA (k := ?_); refine z0 (k' := ?_)) | refine zE (k := ?_) | ((refine zG (yes := (fun ht => ?_)) (no := (fun ht => ?_)) <;> (try simp at ht) <;> (try (exfalso; omega))) <;> (first | (refine zA (k := ?_); refine z0 (k' := ?_)) | refine zE (k := ?_))))) <;> (refine zD ?_)) | (refine zI (i := 31) rfl ?_; ((first | refine zZ (k := ?_) | refine za (k := ?_) | refine zg (k := ?_))) <;> (refine zD ?_)) | (refine zI (i := 32) rfl ?_; (refine zF (k := ?_)) <;> (refine zD ?_)) | (refine zI (i := 33) rfl ?_; ((first | (refine zA (k := ?_); refine zB (k := ?_)) | refine zE (k := ?_) | ((refine zG (yes := (fun ht => ?_)) (no := (fun ht => ?_)) <;> (try simp at ht) <;> (try (exfalso; omega))) <;> (first | (refine zA (k := ?_); refine zB (k := ?_)) | refine zE (k := ?_))))) <;> (refine zD ?_)) | (refine zI (i := 34) rfl ?_; ((first | (refine zA (k := ?_); refine z2 (k := ?_)) | refine zE (k := ?_) | ((refine zG (yes := (fun ht => ?_)) (no := (fun ht => ?_)) <;> (try simp at ht) <;> (try (exfalso; omega))) <;> (first | (refine zA (k := ?_); refine z2 (k := ?_)) | refine zE (k := ?_))))) <;> (refine zD ?_)) | (refine zI (i := 35) rfl ?_; ((first | (refine zA (k := ?_); refine z7 (k' := ?_)) | refine zE (k := ?_) | ((refine zG (yes := (fun ht => ?_)) (no := (fun ht => ?_)) <;> (try simp at ht) <;> (try (exfalso; omega))) <;> (first | (refine zA (k := ?_); refine z7 (k' := ?_)) | refine zE (k := ?_))))) <;> (refine zD ?_)) | (refine zI (i := 36) rfl ?_; ((first | (refine zA (k := ?_); refine zF (k := ?_)) | refine zE (k := ?_) | ((refine zG (yes := (fun ht => ?_)) (no := (fun ht => ?_)) <;> (try simp at ht) <;> (try (exfalso; omega))) <;> (first | (refine zA (k := ?_); refine zF (k := ?_)) | refine zE (k := ?_))))) <;> (refine zD ?_)) | (refine zI (i := 37) rfl ?_; ((first | (refine zA (k := ?_); refine zB (k := ?_)) | refine zE (k := ?_) | ((refine zG (yes := (fun ht => ?_)) (no := (fun ht => ?_)) <;> (try simp at ht) <;> (try (exfalso; omega))) <;> (first | (refine zA (k := ?_); refine zB (k := ?_)) | refine zE (k := ?_))))) <;> (refine zD ?_)) | (refine zI (i := 38) rfl ?_; ((first | (refine zA (k := ?_); refine z2 (k := ?_)) | refine zE (k := ?_) | ((refine zG (yes := (fun ht => ?_)) (no := (fun ht => ?_)) <;> (try simp at ht) <;> (try (exfalso; omega))) <;> (first | (refine zA (k := ?_); refine z2 (k := ?_)) | refine zE (k := ?_))))) <;> (refine zD ?_)) | (refine zI (i := 39) rfl ?_; ((first | (refine zA (k := ?_); refine yM (k' := ?_)) | refine zE (k := ?_) | ((refine zG (yes := (fun ht => ?_)) (no := (fun ht => ?_)) <;> (try simp at ht) <;> (try (exfalso; omega))) <;> (first | (refine zA (k := ?_); refine yM (k' := ?_)) | refine zE (k := ?_))))) <;> (refine zD ?_)) | (refine zI (i := 40) rfl ?_; ((first | (refine zA (k := ?_); (first | refine zZ (k := ?_) | refine za (k := ?_) | refine zg (k := ?_))) | refine zE (k := ?_) | ((refine zG (yes := (fun ht => ?_)) (no := (fun ht => ?_)) <;> (try simp at ht) <;> (try (exfalso; omega))) <;> (first | (refine zA (k := ?_); (first | refine zZ (k := ?_) | refine za (k := ?_) | refine zg (k := ?_))) | refine zE (k := ?_))))) <;> (refine zD ?_)) | (refine zI (i := 41) rfl ?_; ((first | refine zZ (k := ?_) | refine za (k := ?_) | refine zg (k := ?_))) <;> (refine zD ?_)) | (refine zI (i := 42) rfl ?_; (refine zF (k := ?_)) <;> (refine zD ?_)) | (refine zI (i := 43) rfl ?_; ((first | (refine zA (k := ?_); refine zF (k := ?_)) | refine zE (k := ?_) | ((refine zG (yes := (fun ht => ?_)) (no := (fun ht => ?_)) <;> (try simp at ht) <;> (try (exfalso; omega))) <;> (first | (refine zA (k := ?_); refine zF (k := ?_)) | refine zE (k := ?_))))) <;> (refine zD ?_)) | (refine zI (i := 44) rfl ?_; ((first | (refine zA (k := ?_); refine zB (k := ?_)) | refine zE (k := ?_) | ((refine zG (yes := (fun ht => ?_)) (no := (fun ht => ?_)) <;> (try simp at ht) <;> (try (exfalso; omega))) <;> (first | (refine zA (k := ?_); refine zB (k := ?_)) | refine zE (k := ?_))))) <;> (refine zD ?_)) | (refine zI (i := 45) rfl ?_; ((first | (refine zA (k := ?_); refine yC (k := ?_)) | refine zE (k := ?_) | ((refine zG (yes := (fun ht => ?_)) (no := (fun ht => ?_)) <;> (try simp at ht) <;> (try (exfalso; omega))) <;> (first | (refine zA (k := ?_); refine yC (k := ?_)) | refine zE (k := ?_))))) <;> (refine zD ?_)) | (refine zI (i := 46) rfl ?_; ((first | (refine zA (k := ?_); refine zB (k := ?_)) | refine zE (k := ?_) | ((refine zG (yes := (fun ht => ?_)) (no := (fun ht => ?_)) <;> (try simp at ht) <;> (try (exfalso; omega))) <;> (first | (refine zA (k := ?_); refine zB (k := ?_)) | refine zE (k := ?_))))) <;> (refine zD ?_)) | (refine zI (i := 47) rfl ?_; ((first | (refine zA (k := ?_); refine yC (k := ?_)) | refine zE (k := ?_) | ((refine zG (yes := (fun ht => ?_)) (no := (fun ht => ?_)) <;> (try simp at ht) <;> (try (exfalso; omega))) <;> (first | (refine zA (k := ?_); refine yC (k := ?_)) | refine zE (k := ?_))))) <;> (refine zD ?_)) | (refine zI (i := 48) rfl ?_; ((first | (refine zA (k := ?_); (refine zb (hs := hbl) (k := ?_); rintro v A' ⟨rfl, rfl⟩; simp only [List.cons_append, List.nil_append])) | refine zE (k := ?_) | ((refine zG (yes := (fun ht => ?_)) (no := (fun ht => ?_)) <;> (try simp at ht) <;> (try (exfalso; omega))) <;> (first | (refine zA (k := ?_); (refine zb (hs := hbl) (k := ?_); rintro v A' ⟨rfl, rfl⟩; simp only [List.cons_append, List.nil_append])) | refine zE (k := ?_))))) <;> (refine zD ?_)) | (refine zI (i := 49) rfl ?_; ((first | (refine zA (k := ?_); refine z7 (k' := ?_)) | refine zE (k := ?_) | ((refine zG (yes := (fun ht => ?_)) (no := (fun ht => ?_)) <;> (try simp at ht) <;> (try (exfalso; omega))) <;> (first | (refine zA (k := ?_); refine z7 (k' := ?_)) | refine zE (k := ?_))))) <;> (refine zD ?_)) | (refine zI (i := 50) rfl ?_; ((first | refine zZ (k := ?_) | refine za (k := ?_) | refine zg (k := ?_))) <;> (refine zD ?_)) | (refine zx (hK _ _ ?_); clear hK K; try simp only [List.cons_append, List.nil_append]))))
        | (refine zC (id := 8) ?_; intro K hK; refine zH (k := ?_); (refine zD (hK _ _ ?_); clear hK K))
        | (refine zC (id := 9) ?_; intro K hK; refine zl (k' := ?_); refine zF (k := ?_); (refine zD (hK _ _ ?_); clear hK K))
        | (refine zc (ht := (fun ht => ?_)) (hf := (fun ht => ?_)) <;> (try simp at ht) <;> (try (exfalso; omega))))
      all_goals first
        | exact ⟨j + 1, ⟨by omega, upto_yes hrows (hrw.2 ⟨by omega, by omega, by first | exact .inl (by assumption) | exact .inr (by assumption), by assumption⟩)⟩, by omega, ⟨rfl, rfl, rfl, rfl, int_succ j, trivial⟩, (by (repeat (first | exact Ent.refl _ | exact Ent.nil | refine Ent.take (by (repeat (first | exact Out.head | apply Out.tail)); (first | done | fail)) ?_ | refine Ent.drop1 ?_)); (first | done | fail))⟩
        | (have hrf : prRow S.table b j = false := by
             cases hr : prRow S.table b j with
             | false => rfl
             | true =>
               exfalso
               obtain ⟨f1, f2, f3, f4⟩ := hrw.1 hr
               first
               | omega
               | (rw [ht] at f4; cases f4)
               | (rename_i hc; rcases f3 with f3 | f3; (rw [hc] at f3; cases f3); exact ht f3)
           exact ⟨Or.inr rfl, _, [GtP st S, X], (by (repeat (first | exact Ent.refl _ | exact Ent.nil | refine Ent.take (by (repeat (first | exact Out.head | apply Out.tail)); (first | done | fail)) ?_ | refine Ent.drop1 ?_)); (first | done | fail)), res1 rfl rfl, congrArg Value.bool (by rw [all_no hlt hrf]; rfl), rfl⟩)
    · have hrw := row_iff1 (T := S.table) hx hy hj0
      rw [hbb, hkb] at hrw
      have e1 : ((j : Nat) : Int) - 1 = ((j - 1 : Nat) : Int) := by omega
      repeat' (first
        | refine zi ?_
        | refine zK ?_
        | refine zQ (h := ?_)
        | refine zU (h := ?_)
        | refine zj ?_
        | refine zR ?_
        | refine zW ?_
        | refine zN ?_
        | refine zV ?_
        | refine ze ?_
        | refine zP ?_
        | refine zY ?_
        | refine zS rfl ?_
        | refine zd ?_
        | refine zX ?_
        | refine zO ?_
        | refine zT ?_
        | refine zL ?_
        | (refine zC (id := 4) ?_; intro K hK; refine z6 (k' := ?_); (refine zD (hK _ _ ?_); clear hK K))
        | (refine zC (id := 5) ?_; intro K hK; refine zF (k := ?_); ((refine zq (k' := ?_))) <;> (((refine yD (j := j * 5) (cs := x.c) (hq := by simp) (hr := RdS.under (RdS.under h1)) (hv := prC_row hx) (k := ?_))) <;> (((refine zw (k := ?_); intro r6)) <;> (refine zH (k := ?_); refine zh (ho' := rfl) (k := ?_); (refine zD (hK _ _ ?_); clear hK K)))))
        | (refine zC (id := 6) ?_; intro K hK; refine zB (k := ?_); refine zo (k := ?_); ((refine zw (k := ?_); intro r7)) <;> (refine zh (ho' := rfl) (k := ?_); (refine zD (hK _ _ ?_); clear hK K)))
        | ((refine yY (id := 7) (M := ([cb r7 x.v.C 55, cb r6 x.c 57, X, cb r3 [.int .i64 b.e, .int .i64 b.i, .slice (some p) b.ps.length pc, .slice sa b.ss.length sc] 37])) (Ls := [41, 42, 46, 47, 55, 57, 62, 68, 69, 74, 78, 79, 85, 87]) (t := (.step 0 (.step 1 (.step 2 (.step 3 (.step 4 (.step 5 (.step 6 (.step 7 (.step 8 (.step 9 (.step 10 (.step 11 (.step 12 (.step 13 (.step 14 (.step 15 (.step 16 (.step 17 (.step 18 (.step 19 (.step 20 (.step 21 (.step 22 (.step 23 (.step 24 (.step 25 (.step 26 (.step 27 (.step 28 (.step 29 (.step 30 (.step 31 (.step 32 (.step 33 (.step 34 (.step 35 (.step 36 (.step 37 (.step 38 (.step 39 (.step 40 (.step 41 (.step 42 (.step 43 (.step 44 (.step 45 (.step 46 (.step 47 (.step 48 (.step 49 (.step 50 .done)))))))))))))))))))))))))))))))))))))))))))))))))))) (bad := []) (hok := (by decide +kernel)) (hp := (Pick.perm (by (repeat (first | exact Pick.nil | apply Pick.cons (by (repeat (first | exact Out.head | apply Out.tail)); (first | done | fail)))); (first | done | fail)))) (h := ?_); intro K hK; repeat' (first | refine z1 ?_ ?_ | (refine zI (i := 0) rfl ?_; (refine zB (k := ?_)) <;> (refine zD ?_)) | (refine zI (i := 1) rfl ?_; (refine z2 (k := ?_)) <;> (refine zD ?_)) | (refine zI (i := 2) rfl ?_; (refine zk (k' := ?_)) <;> (refine zD ?_)) | (refine zI (i := 3) rfl ?_; (refine z6 (k' := ?_)) <;> (refine zD ?_)) | (refine zI (i := 4) rfl ?_; (refine zF (k := ?_)) <;> (refine zD ?_)) | (refine zI (i := 5) rfl ?_; ((first | (refine zA (k := ?_); refine zB (k := ?_)) | refine zE (k := ?_) | ((refine zG (yes := (fun ht => ?_)) (no := (fun ht => ?_)) <;> (try simp at ht) <;> (try (exfalso; omega))) <;> (first | (refine zA (k := ?_); refine zB (k := ?_)) | refine zE (k := ?_))))) <;> (refine zD ?_)) | (refine zI (i := 6) rfl ?_; ((first | (refine zA (k := ?_); refine z2 (k := ?_)) | refine zE (k := ?_) | ((refine zG (yes := (fun ht => ?_)) (no := (fun ht => ?_)) <;> (try simp at ht) <;> (try (exfalso; omega))) <;> (first | (refine zA (k := ?_); refine z2 (k := ?_)) | refine zE (k := ?_))))) <;> (refine zD ?_)) | (refine zI (i := 7) rfl ?_; ((first | (refine zA (k := ?_); refine zk (k' := ?_)) | refine zE (k := ?_) | ((refine zG (yes := (fun ht => ?_)) (no := (fun ht => ?_)) <;> (try simp at ht) <;> (try (exfalso; omega))) <;> (first | (refine zA (k := ?_); refine zk (k' := ?_)) | refine zE (k := ?_))))) <;> (refine zD ?_)) | (refine zI (i := 8) rfl ?_; ((first | (refine zA (k := ?_); refine z0 (k' := ?_)) | refine zE (k := ?_) | ((refine zG (yes := (fun ht => ?_)) (no := (fun ht => ?_)) <;> (try simp at ht) <;> (try (exfalso; omega))) <;> (first | (refine zA (k := ?_); refine z0 (k' := ?_)) | refine zE (k := ?_))))) <;> (refine zD ?_)) | (refine zI (i := 9) rfl ?_; ((first | refine zZ (k := ?_) | refine za (k := ?_) | refine zg (k := ?_))) <;> (refine zD ?_)) | (refine zI (i := 10) rfl ?_; (refine zF (k := ?_)) <;> (refine zD ?_)) | (refine zI (i := 11) rfl ?_; ((first | (refine zA (k := ?_); refine zF (k := ?_)) | refine zE (k := ?_) | ((refine zG (yes := (fun ht => ?_)) (no := (fun ht => ?_)) <;> (try simp at ht) <;> (try (exfalso; omega))) <;> (first | (refine zA (k := ?_); refine zF (k := ?_)) | refine zE (k := ?_))))) <;> (refine zD ?_)) | (refine zI (i := 12) rfl ?_; ((first | (refine zA (k := ?_); refine z0 (k' := ?_)) | refine zE (k := ?_) | ((refine zG (yes := (fun ht => ?_)) (no := (fun ht => ?_)) <;> (try simp at ht) <;> (try (exfalso; omega))) <;> (first | (refine zA (k := ?_); refine z0 (k' := ?_)) | refine zE (k := ?_))))) <;> (refine zD ?_)) | (refine zI (i := 13) rfl ?_; ((first | (refine zA (k := ?_); refine zF (k := ?_)) | refine zE (k := ?_) | ((refine zG (yes := (fun ht => ?_)) (no := (fun ht => ?_)) <;> (try simp at ht) <;> (try (exfalso; omega))) <;> (first | (refine zA (k := ?_); refine zF (k := ?_)) | refine zE (k := ?_))))) <;> (refine zD ?_)) | (refine zI (i := 14) rfl ?_; ((first | (refine zA (k := ?_); refine zB (k := ?_)) | refine zE (k := ?_) | ((refine zG (yes := (fun ht => ?_)) (no := (fun ht => ?_)) <;> (try simp at ht) <;> (try (exfalso; omega))) <;> (first | (refine zA (k := ?_); refine zB (k := ?_)) | refine zE (k := ?_))))) <;> (refine zD ?_)) | (refine zI (i := 15) rfl ?_; ((first | (refine zA (k := ?_); refine z2 (k := ?_)) | refine zE (k := ?_) | ((refine zG (yes := (fun ht => ?_)) (no := (fun ht => ?_)) <;> (try simp at ht) <;> (try (exfalso; omega))) <;> (first | (refine zA (k := ?_); refine z2 (k := ?_)) | refine zE (k := ?_))))) <;> (refine zD ?_)) | (refine zI (i := 16) rfl ?_; ((first | (refine zA (k := ?_); refine zB (k := ?_)) | refine zE (k := ?_) | ((refine zG (yes := (fun ht => ?_)) (no := (fun ht => ?_)) <;> (try simp at ht) <;> (try (exfalso; omega))) <;> (first | (refine zA (k := ?_); refine zB (k := ?_)) | refine zE (k := ?_))))) <;> (refine zD ?_)) | (refine zI (i := 17) rfl ?_; ((first | (refine zA (k := ?_); refine z2 (k := ?_)) | refine zE (k := ?_) | ((refine zG (yes := (fun ht => ?_)) (no := (fun ht => ?_)) <;> (try simp at ht) <;> (try (exfalso; omega))) <;> (first | (refine zA (k := ?_); refine z2 (k := ?_)) | refine zE (k := ?_))))) <;> (refine zD ?_)) | (refine zI (i := 18) rfl ?_; ((first | (refine zA (k := ?_); refine zF (k := ?_)) | refine zE (k := ?_) | ((refine zG (yes := (fun ht => ?_)) (no := (fun ht => ?_)) <;> (try simp at ht) <;> (try (exfalso; omega))) <;> (first | (refine zA (k := ?_); refine zF (k := ?_)) | refine zE (k := ?_))))) <;> (refine zD ?_)) | (refine zI (i := 19) rfl ?_; ((first | (refine zA (k := ?_); (refine yL (k' := ?_); rw [e1])) | refine zE (k := ?_) | ((refine zG (yes := (fun ht => ?_)) (no := (fun ht => ?_)) <;> (try simp at ht) <;> (try (exfalso; omega))) <;> (first | (refine zA (k := ?_); (refine yL (k' := ?_); rw [e1])) | refine zE (k := ?_))))) <;> (refine zD ?_)) | (refine zI (i := 20) rfl ?_; ((first | (refine zA (k := ?_); (refine zq (k' := ?_))) | refine zE (k := ?_) | ((refine zG (yes := (fun ht => ?_)) (no := (fun ht => ?_)) <;> (try simp at ht) <;> (try (exfalso; omega))) <;> (first | (refine zA (k := ?_); (refine zq (k' := ?_))) | refine zE (k := ?_))))) <;> (refine zD ?_)) | (refine zI (i := 21) rfl ?_; ((first | (refine zA (k := ?_); (refine zz (k := ?_))) | refine zE (k := ?_) | ((refine zG (yes := (fun ht => ?_)) (no := (fun ht => ?_)) <;> (try simp at ht) <;> (try (exfalso; omega))) <;> (first | (refine zA (k := ?_); (refine zz (k := ?_))) | refine zE (k := ?_))))) <;> (refine zD ?_)) | (refine zI (i := 22) rfl ?_; ((first | (refine zA (k := ?_); (refine yg (v := .string y.k) (j := (j - 1) * 5) (hq := by simp [Addr.add]) (hr := RdS.ofEnt h1 (by (repeat (first | exact Ent.refl _ | exact Ent.nil | refine Ent.take (by (repeat (first | exact Out.head | apply Out.tail)); (first | done | fail)) ?_ | refine Ent.drop1 ?_)))) (hv := by simpa using prC_cell (r := 0) hy (by omega) rfl) (k := ?_))) | refine zE (k := ?_) | ((refine zG (yes := (fun ht => ?_)) (no := (fun ht => ?_)) <;> (try simp at ht) <;> (try (exfalso; omega))) <;> (first | (refine zA (k := ?_); (refine yg (v := .string y.k) (j := (j - 1) * 5) (hq := by simp [Addr.add]) (hr := RdS.ofEnt h1 (by (repeat (first | exact Ent.refl _ | exact Ent.nil | refine Ent.take (by (repeat (first | exact Out.head | apply Out.tail)); (first | done | fail)) ?_ | refine Ent.drop1 ?_)))) (hv := by simpa using prC_cell (r := 0) hy (by omega) rfl) (k := ?_))) | refine zE (k := ?_))))) <;> (refine zD ?_)) | (refine zI (i := 23) rfl ?_; ((first | (refine zA (k := ?_); (refine ye (a := x.k) (b := y.k) (k' := ?_); rw [leq_klt, hkb])) | refine zE (k := ?_) | ((refine zG (yes := (fun ht => ?_)) (no := (fun ht => ?_)) <;> (try simp at ht) <;> (try (exfalso; omega))) <;> (first | (refine zA (k := ?_); (refine ye (a := x.k) (b := y.k) (k' := ?_); rw [leq_klt, hkb])) | refine zE (k := ?_))))) <;> (refine zD ?_)) | (refine zI (i := 24) rfl ?_; ((first | (refine zA (k := ?_); (first | refine zZ (k := ?_) | refine za (k := ?_) | refine zg (k := ?_))) | refine zE (k := ?_) | ((refine zG (yes := (fun ht => ?_)) (no := (fun ht => ?_)) <;> (try simp at ht) <;> (try (exfalso; omega))) <;> (first | (refine zA (k := ?_); (first | refine zZ (k := ?_) | refine za (k := ?_) | refine zg (k := ?_))) | refine zE (k := ?_))))) <;> (refine zD ?_)) | (refine zI (i := 25) rfl ?_; ((first | refine zZ (k := ?_) | refine za (k := ?_) | refine zg (k := ?_))) <;> (refine zD ?_)) | (refine zI (i := 26) rfl ?_; (refine zF (k := ?_)) <;> (refine zD ?_)) | (refine zI (i := 27) rfl ?_; ((first | (refine zA (k := ?_); refine zB (k := ?_)) | refine zE (k := ?_) | ((refine zG (yes := (fun ht => ?_)) (no := (fun ht => ?_)) <;> (try simp at ht) <;> (try (exfalso; omega))) <;> (first | (refine zA (k := ?_); refine zB (k := ?_)) | refine zE (k := ?_))))) <;> (refine zD ?_)) | (refine zI (i := 28) rfl ?_; ((first | (refine zA (k := ?_); refine z2 (k := ?_)) | refine zE (k := ?_) | ((refine zG (yes := (fun ht => ?_)) (no := (fun ht => ?_)) <;> (try simp at ht) <;> (try (exfalso; omega))) <;> (first | (refine zA (k := ?_); refine z2 (k := ?_)) | refine zE (k := ?_))))) <;> (refine zD ?_)) | (refine zI (i := 29) rfl ?_; ((first | (refine zA (k := ?_); refine zk (k' := ?_)) | refine zE (k := ?_) | ((refine zG (yes := (fun ht => ?_)) (no := (fun ht => ?_)) <;> (try simp at ht) <;> (try (exfalso; omega))) <;> (first | (refine zA (k := ?_); refine zk (k' := ?_)) | refine zE (k := ?_))))) <;> (refine zD ?_)) | (refine zI (i := 30) rfl ?_; ((first | (refine zA (k := ?_); refine z0 (k' := ?_)) | refine zE (k := ?_) | ((refine zG (yes := (fun ht => ?_)) (no := (fun ht => ?_)) <;> (try simp at ht) <;> (try (exfalso; omega))) <;> (first | (refine zA (k := ?_); refine z0 (k' := ?_)) | refine zE (k := ?_))))) <;> (refine zD ?_)) | (refine zI (i := 31) rfl ?_; ((first | refine zZ (k := ?_) | refine za (k := ?_) | refine zg (k := ?_))) <;> (refine zD ?_)) | (refine zI (i := 32) rfl ?_; (refine zF (k := ?_)) <;> (refine zD ?_)) | (refine zI (i := 33) rfl ?_; ((first | (refine zA (k := ?_); refine zB (k := ?_)) | refine zE (k := ?_) | ((refine zG (yes := (fun ht => ?_)) (no := (fun ht => ?_)) <;> (try simp at ht) <;> (try (exfalso; omega))) <;> (first | (refine zA (k := ?_); refine zB (k := ?_)) | refine zE (k := ?_))))) <;> (refine zD ?_)) | (refine zI (i := 34) rfl ?_; ((first | (refine zA (k := ?_); refine z2 (k := ?_)) | refine zE (k := ?_) | ((refine zG (yes := (fun ht => ?_)) (no := (fun ht => ?_)) <;> (try simp at ht) <;> (try (exfalso; omega))) <;> (first | (refine zA (k := ?_); refine z2 (k := ?_)) | refine zE (k := ?_))))) <;> (refine zD ?_)) | (refine zI (i := 35) rfl ?_; ((first | (refine zA (k := ?_); refine z7 (k' := ?_)) | refine zE (k := ?_) | ((refine zG (yes := (fun ht => ?_)) (no := (fun ht => ?_)) <;> (try simp at ht) <;> (try (exfalso; omega))) <;> (first | (refine zA (k := ?_); refine z7 (k' := ?_)) | refine zE (k := ?_))))) <;> (refine zD ?_)) | (refine zI (i := 36) rfl ?_; ((first | (refine zA (k := ?_); refine zF (k := ?_)) | refine zE (k := ?_) | ((refine zG (yes := (fun ht => ?_)) (no := (fun ht => ?_)) <;> (try simp at ht) <;> (try (exfalso; omega))) <;> (first | (refine zA (k := ?_); refine zF (k := ?_)) | refine zE (k := ?_))))) <;> (refine zD ?_)) | (refine zI (i := 37) rfl ?_; ((first | (refine zA (k := ?_); refine zB (k := ?_)) | refine zE (k := ?_) | ((refine zG (yes := (fun ht => ?_)) (no := (fun ht => ?_)) <;> (try simp at ht) <;> (try (exfalso; omega))) <;> (first | (refine zA (k := ?_); refine zB (k := ?_)) | refine zE (k := ?_))))) <;> (refine zD ?_)) | (refine zI (i := 38) rfl ?_; ((first | (refine zA (k := ?_); refine z2 (k := ?_)) | refine zE (k := ?_) | ((refine zG (yes := (fun ht => ?_)) (no := (fun ht => ?_)) <;> (try simp at ht) <;> (try (exfalso; omega))) <;> (first | (refine zA (k := ?_); refine z2 (k := ?_)) | refine zE (k := ?_))))) <;> (refine zD ?_)) | (refine zI (i := 39) rfl ?_; ((first | (refine zA (k := ?_); refine yM (k' := ?_)) | refine zE (k := ?_) | ((refine zG (yes := (fun ht => ?_)) (no := (fun ht => ?_)) <;> (try simp at ht) <;> (try (exfalso; omega))) <;> (first | (refine zA (k := ?_); refine yM (k' := ?_)) | refine zE (k := ?_))))) <;> (refine zD ?_)) | (refine zI (i := 40) rfl ?_; ((first | (refine zA (k := ?_); (first | refine zZ (k := ?_) | refine za (k := ?_) | refine zg (k := ?_))) | refine zE (k := ?_) | ((refine zG (yes := (fun ht => ?_)) (no := (fun ht => ?_)) <;> (try simp at ht) <;> (try (exfalso; omega))) <;> (first | (refine zA (k := ?_); (first | refine zZ (k := ?_) | refine za (k := ?_) | refine zg (k := ?_))) | refine zE (k := ?_))))) <;> (refine zD ?_)) | (refine zI (i := 41) rfl ?_; ((first | refine zZ (k := ?_) | refine za (k := ?_) | refine zg (k := ?_))) <;> (refine zD ?_)) | (refine zI (i := 42) rfl ?_; (refine zF (k := ?_)) <;> (refine zD ?_)) | (refine zI (i := 43) rfl ?_; ((first | (refine zA (k := ?_); refine zF (k := ?_)) | refine zE (k := ?_) | ((refine zG (yes := (fun ht => ?_)) (no := (fun ht => ?_)) <;> (try simp at ht) <;> (try (exfalso; omega))) <;> (first | (refine zA (k := ?_); refine zF (k := ?_)) | refine zE (k := ?_))))) <;> (refine zD ?_)) | (refine zI (i := 44) rfl ?_; ((first | (refine zA (k := ?_); refine zB (k := ?_)) | refine zE (k := ?_) | ((refine zG (yes := (fun ht => ?_)) (no := (fun ht => ?_)) <;> (try simp at ht) <;> (try (exfalso; omega))) <;> (first | (refine zA (k := ?_); refine zB (k := ?_)) | refine zE (k := ?_))))) <;> (refine zD ?_)) | (refine zI (i := 45) rfl ?_; ((first | (refine zA (k := ?_); refine yC (k := ?_)) | refine zE (k := ?_) | ((refine zG (yes := (fun ht => ?_)) (no := (fun ht => ?_)) <;> (try simp at ht) <;> (try (exfalso; omega))) <;> (first | (refine zA (k := ?_); refine yC (k := ?_)) | refine zE (k := ?_))))) <;> (refine zD ?_)) | (refine zI (i := 46) rfl ?_; ((first | (refine zA (k := ?_); refine zB (k := ?_)) | refine zE (k := ?_) | ((refine zG (yes := (fun ht => ?_)) (no := (fun ht => ?_)) <;> (try simp at ht) <;> (try (exfalso; omega))) <;> (first | (refine zA (k := ?_); refine zB (k := ?_)) | refine zE (k := ?_))))) <;> (refine zD ?_)) | (refine zI (i := 47) rfl ?_; ((first | (refine zA (k := ?_); refine yC (k := ?_)) | refine zE (k := ?_) | ((refine zG (yes := (fun ht => ?_)) (no := (fun ht => ?_)) <;> (try simp at ht) <;> (try (exfalso; omega))) <;> (first | (refine zA (k := ?_); refine yC (k := ?_)) | refine zE (k := ?_))))) <;> (refine zD ?_)) | (refine zI (i := 48) rfl ?_; ((first | (refine zA (k := ?_); (refine zb (hs := hbl) (k := ?_); rintro v A' ⟨rfl, rfl⟩; simp only [List.cons_append, List.nil_append])) | refine zE (k := ?_) | ((refine zG (yes := (fun ht => ?_)) (no := (fun ht => ?_)) <;> (try simp at ht) <;> (try (exfalso; omega))) <;> (first | (refine zA (k := ?_); (refine zb (hs := hbl) (k := ?_); rintro v A' ⟨rfl, rfl⟩; simp only [List.cons_append, List.nil_append])) | refine zE (k := ?_))))) <;> (refine zD ?_)) | (refine zI (i := 49) rfl ?_; ((first | (refine zA (k := ?_); refine z7 (k' := ?_)) | refine zE (k := ?_) | ((refine zG (yes := (fun ht => ?_)) (no := (fun ht => ?_)) <;> (try simp at ht) <;> (try (exfalso; omega))) <;> (first | (refine zA (k := ?_); refine z7 (k' := ?_)) | refine zE (k := ?_))))) <;> (refine zD ?_)) | (refine zI (i := 50) rfl ?_; ((first | refine zZ (k := ?_) | refine za (k := ?_) | refine zg (k := ?_))) <;> (refine zD ?_)) | (refine zx (hK _ _ ?_); clear hK K; try simp only [List.cons_append, List.nil_append]))))
        | (refine zC (id := 8) ?_; intro K hK; refine zH (k := ?_); (refine zD (hK _ _ ?_); clear hK K))
        | (refine zC (id := 9) ?_; intro K hK; refine zl (k' := ?_); refine zF (k := ?_); (refine zD (hK _ _ ?_); clear hK K))
        | (refine zc (ht := (fun ht => ?_)) (hf := (fun ht => ?_)) <;> (try simp at ht) <;> (try (exfalso; omega))))
      all_goals first
        | exact ⟨j + 1, ⟨by omega, upto_yes hrows (hrw.2 ⟨by assumption, by omega, by omega, by first | exact .inl (by assumption) | exact .inr (by assumption), by assumption⟩)⟩, by omega, ⟨rfl, rfl, rfl, rfl, int_succ j, trivial⟩, (by (repeat (first | exact Ent.refl _ | exact Ent.nil | refine Ent.take (by (repeat (first | exact Out.head | apply Out.tail)); (first | done | fail)) ?_ | refine Ent.drop1 ?_)); (first | done | fail))⟩
        | (have hrf : prRow S.table b j = false := by
             cases hr : prRow S.table b j with
             | false => rfl
             | true =>
               exfalso
               obtain ⟨f0, f1, f2, f3, f4⟩ := hrw.1 hr
               first
               | omega
               | (rw [ht] at f4; cases f4)
               | (rw [ht] at f0; cases f0)
               | (rename_i hc; rcases f3 with f3 | f3; (rw [hc] at f3; cases f3); exact ht f3)
           exact ⟨Or.inr rfl, _, [GtP st S, X], (by (repeat (first | exact Ent.refl _ | exact Ent.nil | refine Ent.take (by (repeat (first | exact Out.head | apply Out.tail)); (first | done | fail)) ?_ | refine Ent.drop1 ?_)); (first | done | fail)), res1 rfl rfl, congrArg Value.bool (by rw [all_no hlt hrf]; rfl), rfl⟩)
  obtain rfl : j = b.ps.length := by omega
  rw [all_yes hrows]
  repeat' (first
    | refine zi ?_
    | refine zK ?_
    | refine zQ (h := ?_)
    | refine zU (h := ?_)
    | refine zj ?_
    | refine zR ?_
    | refine zW ?_
    | refine zN ?_
    | refine zV ?_
    | refine ze ?_
    | refine zP ?_
    | refine zY ?_
    | refine zS rfl ?_
    | refine zd ?_
    | refine zX ?_
    | refine zO ?_
    | refine zT ?_
    | refine zL ?_
    | (refine zC (id := 4) ?_; intro K hK; refine z6 (k' := ?_); (refine zD (hK _ _ ?_); clear hK K))
    | (refine zC (id := 10) ?_; intro K hK; refine zB (k := ?_); refine zM (k := ?_); refine zn (k' := ?_); refine zF (k := ?_); (refine zD (hK _ _ ?_); clear hK K))
    | (refine zc (ht := (fun ht => ?_)) (hf := (fun ht => ?_)) <;> (try simp at ht) <;> (try (exfalso; omega))))
  refine yI (α := Nat) (fun j => [(0, .pointer (some ⟨st, 0, none⟩)), (3, .pointer (some ⟨r3, 0, none⟩)), (93, .slice sa b.ss.length sc), (94, .int .i64 b.ss.length), (95, .int .i64 j)])
    (fun j => [GtP st S, cb r3 [.int .i64 b.e, .int .i64 b.i, .slice pa b.ps.length pc, .slice sa b.ss.length sc] 37, X]) (fun j => j ≤ b.ss.length ∧ ∀ i, i < j → ssRow S.table b i = true) (fun j => b.ss.length - j) 0 ⟨by omega, by omega⟩ ⟨rfl, rfl, rfl, rfl, rfl, trivial⟩ (by (repeat (first | exact Ent.refl _ | exact Ent.nil | refine Ent.take (by (repeat (first | exact Out.head | apply Out.tail)); (first | done | fail)) ?_ | refine Ent.drop1 ?_))) ?_
  rintro j G2 ⟨hj2, hrows2⟩
  simp only [ov]
  by_cases hlt : j < b.ss.length
  · obtain ⟨p, rfl⟩ : ∃ q, sa = some q := by
      cases sa with
      | none => have := h2.nil rfl; omega
      | some q => exact ⟨q, rfl⟩
    obtain ⟨x, hx⟩ : ∃ x, b.ss[j]? = some x := ⟨_, List.getElem?_eq_getElem hlt⟩
    have hbl := below_spec (B := B) st S hS x.e x.i b.e b.i (hsr x (List.mem_of_getElem? hx)) hbe
    obtain ⟨y, hy⟩ : ∃ y, b.ss[j - 1]? = some y := ⟨_, List.getElem?_eq_getElem (by omega)⟩
    obtain ⟨bb, hbb⟩ : ∃ r, belowT S.table x.e x.i b.e b.i = r := ⟨_, rfl⟩
    obtain ⟨n1, hn1⟩ : ∃ r, numB x.s = r := ⟨_, rfl⟩
    obtain ⟨n2, hn2⟩ : ∃ r, numB x.r = r := ⟨_, rfl⟩
    have hnum1 := number_spec (B := B) x.s
    have hnum2 := number_spec (B := B) x.r
    rw [hbb] at hbl
    rw [hn1] at hnum1
    rw [hn2] at hnum2
    by_cases hj0 : j = 0
    · have hrw := srow_iff0 (T := S.table) hx hj0
      rw [hbb, hn1, hn2] at hrw
      repeat' (first
        | refine zi ?_
        | refine zK ?_
        | refine zQ (h := ?_)
        | refine zU (h := ?_)
        | refine zj ?_
        | refine zR ?_
        | refine zW ?_
        | refine zN ?_
        | refine zV ?_
        | refine ze ?_
        | refine zP ?_
        | refine zY ?_
        | refine zS rfl ?_
        | refine zd ?_
        | refine zX ?_
        | refine zO ?_
        | refine zT ?_
        | refine zL ?_
        | (refine zC (id := 11) ?_; intro K hK; refine z6 (k' := ?_); (refine zD (hK _ _ ?_); clear hK K))
        | (refine zC (id := 12) ?_; intro K hK; refine zF (k := ?_); ((refine zq (k' := ?_))) <;> (((refine yD (j := j * 4) (cs := x.c) (hq := by simp) (hr := RdS.under (RdS.under h2)) (hv := ssC_row hx) (k := ?_))) <;> (((refine zw (k := ?_); intro r9)) <;> (refine zH (k := ?_); refine zh (ho' := rfl) (k := ?_); (refine zD (hK _ _ ?_); clear hK K)))))
        | ((refine yY (id := 13) (M := ([cb r9 x.c 111, X, cb r3 [.int .i64 b.e, .int .i64 b.i, .slice pa b.ps.length pc, .slice (some p) b.ss.length sc] 37])) (Ls := [101, 106, 115, 117, 122, 129, 131]) (t := (.step 0 (.step 1 (.step 2 (.step 3 (.step 4 (.step 5 (.step 6 (.step 7 (.step 8 (.step 9 (.step 10 (.step 11 (.step 12 (.step 13 (.step 14 (.step 15 (.step 16 (.step 17 (.step 18 (.step 19 (.step 20 (.step 21 (.step 22 (.step 23 (.step 24 (.step 25 (.step 26 (.step 27 (.step 28 (.step 29 (.step 30 (.step 31 (.step 32 (.step 33 (.step 34 .done)))))))))))))))))))))))))))))))))))) (bad := []) (hok := (by decide +kernel)) (hp := (Pick.perm (by (repeat (first | exact Pick.nil | apply Pick.cons (by (repeat (first | exact Out.head | apply Out.tail)); (first | done | fail)))); (first | done | fail)))) (h := ?_); intro K hK; repeat' (first | refine z1 ?_ ?_ | (refine zI (i := 0) rfl ?_; (refine zB (k := ?_)) <;> (refine zD ?_)) | (refine zI (i := 1) rfl ?_; (refine z2 (k := ?_)) <;> (refine zD ?_)) | (refine zI (i := 2) rfl ?_; ((refine zb (hs := hnum1) (k := ?_); rintro v A' ⟨rfl, rfl⟩; simp only [List.cons_append, List.nil_append])) <;> (refine zD ?_)) | (refine zI (i := 3) rfl ?_; (refine z7 (k' := ?_)) <;> (refine zD ?_)) | (refine zI (i := 4) rfl ?_; (refine zF (k := ?_)) <;> (refine zD ?_)) | (refine zI (i := 5) rfl ?_; ((first | (refine zA (k := ?_); refine zB (k := ?_)) | refine zE (k := ?_) | ((refine zG (yes := (fun ht => ?_)) (no := (fun ht => ?_)) <;> (try simp at ht) <;> (try (exfalso; omega))) <;> (first | (refine zA (k := ?_); refine zB (k := ?_)) | refine zE (k := ?_))))) <;> (refine zD ?_)) | (refine zI (i := 6) rfl ?_; ((first | (refine zA (k := ?_); refine z2 (k := ?_)) | refine zE (k := ?_) | ((refine zG (yes := (fun ht => ?_)) (no := (fun ht => ?_)) <;> (try simp at ht) <;> (try (exfalso; omega))) <;> (first | (refine zA (k := ?_); refine z2 (k := ?_)) | refine zE (k := ?_))))) <;> (refine zD ?_)) | (refine zI (i := 7) rfl ?_; ((first | (refine zA (k := ?_); (refine zb (hs := hnum2) (k := ?_); rintro v A' ⟨rfl, rfl⟩; simp only [List.cons_append, List.nil_append])) | refine zE (k := ?_) | ((refine zG (yes := (fun ht => ?_)) (no := (fun ht => ?_)) <;> (try simp at ht) <;> (try (exfalso; omega))) <;> (first | (refine zA (k := ?_); (refine zb (hs := hnum2) (k := ?_); rintro v A' ⟨rfl, rfl⟩; simp only [List.cons_append, List.nil_append])) | refine zE (k := ?_))))) <;> (refine zD ?_)) | (refine zI (i := 8) rfl ?_; ((first | (refine zA (k := ?_); refine z7 (k' := ?_)) | refine zE (k := ?_) | ((refine zG (yes := (fun ht => ?_)) (no := (fun ht => ?_)) <;> (try simp at ht) <;> (try (exfalso; omega))) <;> (first | (refine zA (k := ?_); refine z7 (k' := ?_)) | refine zE (k := ?_))))) <;> (refine zD ?_)) | (refine zI (i := 9) rfl ?_; ((first | refine zZ (k := ?_) | refine za (k := ?_) | refine zg (k := ?_))) <;> (refine zD ?_)) | (refine zI (i := 10) rfl ?_; (refine zF (k := ?_)) <;> (refine zD ?_)) | (refine zI (i := 11) rfl ?_; ((first | (refine zA (k := ?_); refine zF (k := ?_)) | refine zE (k := ?_) | ((refine zG (yes := (fun ht => ?_)) (no := (fun ht => ?_)) <;> (try simp at ht) <;> (try (exfalso; omega))) <;> (first | (refine zA (k := ?_); refine zF (k := ?_)) | refine zE (k := ?_))))) <;> (refine zD ?_)) | (refine zI (i := 12) rfl ?_; ((first | (refine zA (k := ?_); refine z0 (k' := ?_)) | refine zE (k := ?_) | ((refine zG (yes := (fun ht => ?_)) (no := (fun ht => ?_)) <;> (try simp at ht) <;> (try (exfalso; omega))) <;> (first | (refine zA (k := ?_); refine z0 (k' := ?_)) | refine zE (k := ?_))))) <;> (refine zD ?_)) | (refine zI (i := 13) rfl ?_; ((first | (refine zA (k := ?_); refine zF (k := ?_)) | refine zE (k := ?_) | ((refine zG (yes := (fun ht => ?_)) (no := (fun ht => ?_)) <;> (try simp at ht) <;> (try (exfalso; omega))) <;> (first | (refine zA (k := ?_); refine zF (k := ?_)) | refine zE (k := ?_))))) <;> (refine zD ?_)) | (refine zI (i := 14) rfl ?_; ((first | (refine zA (k := ?_); refine zB (k := ?_)) | refine zE (k := ?_) | ((refine zG (yes := (fun ht => ?_)) (no := (fun ht => ?_)) <;> (try simp at ht) <;> (try (exfalso; omega))) <;> (first | (refine zA (k := ?_); refine zB (k := ?_)) | refine zE (k := ?_))))) <;> (refine zD ?_)) | (refine zI (i := 15) rfl ?_; ((first | (refine zA (k := ?_); refine z2 (k := ?_)) | refine zE (k := ?_) | ((refine zG (yes := (fun ht => ?_)) (no := (fun ht => ?_)) <;> (try simp at ht) <;> (try (exfalso; omega))) <;> (first | (refine zA (k := ?_); refine z2 (k := ?_)) | refine zE (k := ?_))))) <;> (refine zD ?_)) | (refine zI (i := 16) rfl ?_; ((first | (refine zA (k := ?_); refine zB (k := ?_)) | refine zE (k := ?_) | ((refine zG (yes := (fun ht => ?_)) (no := (fun ht => ?_)) <;> (try simp at ht) <;> (try (exfalso; omega))) <;> (first | (refine zA (k := ?_); refine zB (k := ?_)) | refine zE (k := ?_))))) <;> (refine zD ?_)) | (refine zI (i := 17) rfl ?_; ((first | (refine zA (k := ?_); refine z2 (k := ?_)) | refine zE (k := ?_) | ((refine zG (yes := (fun ht => ?_)) (no := (fun ht => ?_)) <;> (try simp at ht) <;> (try (exfalso; omega))) <;> (first | (refine zA (k := ?_); refine z2 (k := ?_)) | refine zE (k := ?_))))) <;> (refine zD ?_)) | (refine zI (i := 18) rfl ?_; ((first | (refine zA (k := ?_); refine zF (k := ?_)) | refine zE (k := ?_) | ((refine zG (yes := (fun ht => ?_)) (no := (fun ht => ?_)) <;> (try simp at ht) <;> (try (exfalso; omega))) <;> (first | (refine zA (k := ?_); refine zF (k := ?_)) | refine zE (k := ?_))))) <;> (refine zD ?_)) | (refine zI (i := 19) rfl ?_; ((first | (refine zA (k := ?_); refine yL (k' := ?_)) | refine zE (k := ?_) | ((refine zG (yes := (fun ht => ?_)) (no := (fun ht => ?_)) <;> (try simp at ht) <;> (try (exfalso; omega))) <;> (first | (refine zA (k := ?_); refine yL (k' := ?_)) | refine zE (k := ?_))))) <;> (refine zD ?_)) | (refine zI (i := 20) rfl ?_; ((first | (refine zA (k := ?_); refine z9 (k' := ?_)) | refine zE (k := ?_) | ((refine zG (yes := (fun ht => ?_)) (no := (fun ht => ?_)) <;> (try simp at ht) <;> (try (exfalso; omega))) <;> (first | (refine zA (k := ?_); refine z9 (k' := ?_)) | refine zE (k := ?_))))) <;> (refine zD ?_)) | (refine zI (i := 21) rfl ?_; ((first | (refine zA (k := ?_); refine zB (k := ?_)) | refine zE (k := ?_) | ((refine zG (yes := (fun ht => ?_)) (no := (fun ht => ?_)) <;> (try simp at ht) <;> (try (exfalso; omega))) <;> (first | (refine zA (k := ?_); refine zB (k := ?_)) | refine zE (k := ?_))))) <;> (refine zD ?_)) | (refine zI (i := 22) rfl ?_; ((first | (refine zA (k := ?_); refine z2 (k := ?_)) | refine zE (k := ?_) | ((refine zG (yes := (fun ht => ?_)) (no := (fun ht => ?_)) <;> (try simp at ht) <;> (try (exfalso; omega))) <;> (first | (refine zA (k := ?_); refine z2 (k := ?_)) | refine zE (k := ?_))))) <;> (refine zD ?_)) | (refine zI (i := 23) rfl ?_; ((first | (refine zA (k := ?_); refine yH (k' := ?_)) | refine zE (k := ?_) | ((refine zG (yes := (fun ht => ?_)) (no := (fun ht => ?_)) <;> (try simp at ht) <;> (try (exfalso; omega))) <;> (first | (refine zA (k := ?_); refine yH (k' := ?_)) | refine zE (k := ?_))))) <;> (refine zD ?_)) | (refine zI (i := 24) rfl ?_; ((first | (refine zA (k := ?_); (first | refine zZ (k := ?_) | refine za (k := ?_) | refine zg (k := ?_))) | refine zE (k := ?_) | ((refine zG (yes := (fun ht => ?_)) (no := (fun ht => ?_)) <;> (try simp at ht) <;> (try (exfalso; omega))) <;> (first | (refine zA (k := ?_); (first | refine zZ (k := ?_) | refine za (k := ?_) | refine zg (k := ?_))) | refine zE (k := ?_))))) <;> (refine zD ?_)) | (refine zI (i := 25) rfl ?_; ((first | refine zZ (k := ?_) | refine za (k := ?_) | refine zg (k := ?_))) <;> (refine zD ?_)) | (refine zI (i := 26) rfl ?_; (refine zF (k := ?_)) <;> (refine zD ?_)) | (refine zI (i := 27) rfl ?_; ((first | (refine zA (k := ?_); refine zF (k := ?_)) | refine zE (k := ?_) | ((refine zG (yes := (fun ht => ?_)) (no := (fun ht => ?_)) <;> (try simp at ht) <;> (try (exfalso; omega))) <;> (first | (refine zA (k := ?_); refine zF (k := ?_)) | refine zE (k := ?_))))) <;> (refine zD ?_)) | (refine zI (i := 28) rfl ?_; ((first | (refine zA (k := ?_); refine zB (k := ?_)) | refine zE (k := ?_) | ((refine zG (yes := (fun ht => ?_)) (no := (fun ht => ?_)) <;> (try simp at ht) <;> (try (exfalso; omega))) <;> (first | (refine zA (k := ?_); refine zB (k := ?_)) | refine zE (k := ?_))))) <;> (refine zD ?_)) | (refine zI (i := 29) rfl ?_; ((first | (refine zA (k := ?_); refine yC (k := ?_)) | refine zE (k := ?_) | ((refine zG (yes := (fun ht => ?_)) (no := (fun ht => ?_)) <;> (try simp at ht) <;> (try (exfalso; omega))) <;> (first | (refine zA (k := ?_); refine yC (k := ?_)) | refine zE (k := ?_))))) <;> (refine zD ?_)) | (refine zI (i := 30) rfl ?_; ((first | (refine zA (k := ?_); refine zB (k := ?_)) | refine zE (k := ?_) | ((refine zG (yes := (fun ht => ?_)) (no := (fun ht => ?_)) <;> (try simp at ht) <;> (try (exfalso; omega))) <;> (first | (refine zA (k := ?_); refine zB (k := ?_)) | refine zE (k := ?_))))) <;> (refine zD ?_)) | (refine zI (i := 31) rfl ?_; ((first | (refine zA (k := ?_); refine yC (k := ?_)) | refine zE (k := ?_) | ((refine zG (yes := (fun ht => ?_)) (no := (fun ht => ?_)) <;> (try simp at ht) <;> (try (exfalso; omega))) <;> (first | (refine zA (k := ?_); refine yC (k := ?_)) | refine zE (k := ?_))))) <;> (refine zD ?_)) | (refine zI (i := 32) rfl ?_; ((first | (refine zA (k := ?_); (refine zb (hs := hbl) (k := ?_); rintro v A' ⟨rfl, rfl⟩; simp only [List.cons_append, List.nil_append])) | refine zE (k := ?_) | ((refine zG (yes := (fun ht => ?_)) (no := (fun ht => ?_)) <;> (try simp at ht) <;> (try (exfalso; omega))) <;> (first | (refine zA (k := ?_); (refine zb (hs := hbl) (k := ?_); rintro v A' ⟨rfl, rfl⟩; simp only [List.cons_append, List.nil_append])) | refine zE (k := ?_))))) <;> (refine zD ?_)) | (refine zI (i := 33) rfl ?_; ((first | (refine zA (k := ?_); refine z7 (k' := ?_)) | refine zE (k := ?_) | ((refine zG (yes := (fun ht => ?_)) (no := (fun ht => ?_)) <;> (try simp at ht) <;> (try (exfalso; omega))) <;> (first | (refine zA (k := ?_); refine z7 (k' := ?_)) | refine zE (k := ?_))))) <;> (refine zD ?_)) | (refine zI (i := 34) rfl ?_; ((first | refine zZ (k := ?_) | refine za (k := ?_) | refine zg (k := ?_))) <;> (refine zD ?_)) | (refine zx (hK _ _ ?_); clear hK K; try simp only [List.cons_append, List.nil_append]))))
        | (refine zC (id := 14) ?_; intro K hK; refine zH (k := ?_); (refine zD (hK _ _ ?_); clear hK K))
        | (refine zC (id := 15) ?_; intro K hK; refine zl (k' := ?_); refine zF (k := ?_); (refine zD (hK _ _ ?_); clear hK K))
        | (refine zc (ht := (fun ht => ?_)) (hf := (fun ht => ?_)) <;> (try simp at ht) <;> (try (exfalso; omega))))
      all_goals first
        | exact ⟨j + 1, ⟨by omega, upto_yes hrows2 (hrw.2 ⟨by assumption, by assumption, by assumption⟩)⟩, by omega, ⟨rfl, rfl, rfl, rfl, int_succ j, trivial⟩, (by (repeat (first | exact Ent.refl _ | exact Ent.nil | refine Ent.take (by (repeat (first | exact Out.head | apply Out.tail)); (first | done | fail)) ?_ | refine Ent.drop1 ?_)); (first | done | fail))⟩
        | (have hrf : ssRow S.table b j = false := by
             cases hr : ssRow S.table b j with
             | false => rfl
             | true =>
               exfalso
               obtain ⟨f1, f2, f3⟩ := hrw.1 hr
               first
               | omega
               | (rw [ht] at f1; cases f1)
               | (rw [ht] at f2; cases f2)
               | (rw [ht] at f3; cases f3)
           exact ⟨Or.inr rfl, _, [GtP st S, X], (by (repeat (first | exact Ent.refl _ | exact Ent.nil | refine Ent.take (by (repeat (first | exact Out.head | apply Out.tail)); (first | done | fail)) ?_ | refine Ent.drop1 ?_)); (first | done | fail)), res1 rfl rfl, congrArg Value.bool (by rw [all_no hlt hrf]; rfl), rfl⟩)
    · have hrw := srow_iff1 (T := S.table) hx hy hj0
      rw [hbb, hn1, hn2] at hrw
      have e1 : ((j : Nat) : Int) - 1 = ((j - 1 : Nat) : Int) := by omega
      repeat' (first
        | refine zi ?_
        | refine zK ?_
        | refine zQ (h := ?_)
        | refine zU (h := ?_)
        | refine zj ?_
        | refine zR ?_
        | refine zW ?_
        | refine zN ?_
        | refine zV ?_
        | refine ze ?_
        | refine zP ?_
        | refine zY ?_
        | refine zS rfl ?_
        | refine zd ?_
        | refine zX ?_
        | refine zO ?_
        | refine zT ?_
        | refine zL ?_
        | (refine zC (id := 11) ?_; intro K hK; refine z6 (k' := ?_); (refine zD (hK _ _ ?_); clear hK K))
        | (refine zC (id := 12) ?_; intro K hK; refine zF (k := ?_); ((refine zq (k' := ?_))) <;> (((refine yD (j := j * 4) (cs := x.c) (hq := by simp) (hr := RdS.under (RdS.under h2)) (hv := ssC_row hx) (k := ?_))) <;> (((refine zw (k := ?_); intro r9)) <;> (refine zH (k := ?_); refine zh (ho' := rfl) (k := ?_); (refine zD (hK _ _ ?_); clear hK K)))))
        | ((refine yY (id := 13) (M := ([cb r9 x.c 111, X, cb r3 [.int .i64 b.e, .int .i64 b.i, .slice pa b.ps.length pc, .slice (some p) b.ss.length sc] 37])) (Ls := [101, 106, 115, 117, 122, 129, 131]) (t := (.step 0 (.step 1 (.step 2 (.step 3 (.step 4 (.step 5 (.step 6 (.step 7 (.step 8 (.step 9 (.step 10 (.step 11 (.step 12 (.step 13 (.step 14 (.step 15 (.step 16 (.step 17 (.step 18 (.step 19 (.step 20 (.step 21 (.step 22 (.step 23 (.step 24 (.step 25 (.step 26 (.step 27 (.step 28 (.step 29 (.step 30 (.step 31 (.step 32 (.step 33 (.step 34 .done)))))))))))))))))))))))))))))))))))) (bad := []) (hok := (by decide +kernel)) (hp := (Pick.perm (by (repeat (first | exact Pick.nil | apply Pick.cons (by (repeat (first | exact Out.head | apply Out.tail)); (first | done | fail)))); (first | done | fail)))) (h := ?_); intro K hK; repeat' (first | refine z1 ?_ ?_ | (refine zI (i := 0) rfl ?_; (refine zB (k := ?_)) <;> (refine zD ?_)) | (refine zI (i := 1) rfl ?_; (refine z2 (k := ?_)) <;> (refine zD ?_)) | (refine zI (i := 2) rfl ?_; ((refine zb (hs := hnum1) (k := ?_); rintro v A' ⟨rfl, rfl⟩; simp only [List.cons_append, List.nil_append])) <;> (refine zD ?_)) | (refine zI (i := 3) rfl ?_; (refine z7 (k' := ?_)) <;> (refine zD ?_)) | (refine zI (i := 4) rfl ?_; (refine zF (k := ?_)) <;> (refine zD ?_)) | (refine zI (i := 5) rfl ?_; ((first | (refine zA (k := ?_); refine zB (k := ?_)) | refine zE (k := ?_) | ((refine zG (yes := (fun ht => ?_)) (no := (fun ht => ?_)) <;> (try simp at ht) <;> (try (exfalso; omega))) <;> (first | (refine zA (k := ?_); refine zB (k := ?_)) | refine zE (k := ?_))))) <;> (refine zD ?_)) | (refine zI (i := 6) rfl ?_; ((first | (refine zA (k := ?_); refine z2 (k := ?_)) | refine zE (k := ?_) | ((refine zG (yes := (fun ht => ?_)) (no := (fun ht => ?_)) <;> (try simp at ht) <;> (try (exfalso; omega))) <;> (first | (refine zA (k := ?_); refine z2 (k := ?_)) | refine zE (k := ?_))))) <;> (refine zD ?_)) | (refine zI (i := 7) rfl ?_; ((first | (refine zA (k := ?_); (refine zb (hs := hnum2) (k := ?_); rintro v A' ⟨rfl, rfl⟩; simp only [List.cons_append, List.nil_append])) | refine zE (k := ?_) | ((refine zG (yes := (fun ht => ?_)) (no := (fun ht => ?_)) <;> (try simp at ht) <;> (try (exfalso; omega))) <;> (first | (refine zA (k := ?_); (refine zb (hs := hnum2) (k := ?_); rintro v A' ⟨rfl, rfl⟩; simp only [List.cons_append, List.nil_append])) | refine zE (k := ?_))))) <;> (refine zD ?_)) | (refine zI (i := 8) rfl ?_; ((first | (refine zA (k := ?_); refine z7 (k' := ?_)) | refine zE (k := ?_) | ((refine zG (yes := (fun ht => ?_)) (no := (fun ht => ?_)) <;> (try simp at ht) <;> (try (exfalso; omega))) <;> (first | (refine zA (k := ?_); refine z7 (k' := ?_)) | refine zE (k := ?_))))) <;> (refine zD ?_)) | (refine zI (i := 9) rfl ?_; ((first | refine zZ (k := ?_) | refine za (k := ?_) | refine zg (k := ?_))) <;> (refine zD ?_)) | (refine zI (i := 10) rfl ?_; (refine zF (k := ?_)) <;> (refine zD ?_)) | (refine zI (i := 11) rfl ?_; ((first | (refine zA (k := ?_); refine zF (k := ?_)) | refine zE (k := ?_) | ((refine zG (yes := (fun ht => ?_)) (no := (fun ht => ?_)) <;> (try simp at ht) <;> (try (exfalso; omega))) <;> (first | (refine zA (k := ?_); refine zF (k := ?_)) | refine zE (k := ?_))))) <;> (refine zD ?_)) | (refine zI (i := 12) rfl ?_; ((first | (refine zA (k := ?_); refine z0 (k' := ?_)) | refine zE (k := ?_) | ((refine zG (yes := (fun ht => ?_)) (no := (fun ht => ?_)) <;> (try simp at ht) <;> (try (exfalso; omega))) <;> (first | (refine zA (k := ?_); refine z0 (k' := ?_)) | refine zE (k := ?_))))) <;> (refine zD ?_)) | (refine zI (i := 13) rfl ?_; ((first | (refine zA (k := ?_); refine zF (k := ?_)) | refine zE (k := ?_) | ((refine zG (yes := (fun ht => ?_)) (no := (fun ht => ?_)) <;> (try simp at ht) <;> (try (exfalso; omega))) <;> (first | (refine zA (k := ?_); refine zF (k := ?_)) | refine zE (k := ?_))))) <;> (refine zD ?_)) | (refine zI (i := 14) rfl ?_; ((first | (refine zA (k := ?_); refine zB (k := ?_)) | refine zE (k := ?_) | ((refine zG (yes := (fun ht => ?_)) (no := (fun ht => ?_)) <;> (try simp at ht) <;> (try (exfalso; omega))) <;> (first | (refine zA (k := ?_); refine zB (k := ?_)) | refine zE (k := ?_))))) <;> (refine zD ?_)) | (refine zI (i := 15) rfl ?_; ((first | (refine zA (k := ?_); refine z2 (k := ?_)) | refine zE (k := ?_) | ((refine zG (yes := (fun ht => ?_)) (no := (fun ht => ?_)) <;> (try simp at ht) <;> (try (exfalso; omega))) <;> (first | (refine zA (k := ?_); refine z2 (k := ?_)) | refine zE (k := ?_))))) <;> (refine zD ?_)) | (refine zI (i := 16) rfl ?_; ((first | (refine zA (k := ?_); refine zB (k := ?_)) | refine zE (k := ?_) | ((refine zG (yes := (fun ht => ?_)) (no := (fun ht => ?_)) <;> (try simp at ht) <;> (try (exfalso; omega))) <;> (first | (refine zA (k := ?_); refine zB (k := ?_)) | refine zE (k := ?_))))) <;> (refine zD ?_)) | (refine zI (i := 17) rfl ?_; ((first | (refine zA (k := ?_); refine z2 (k := ?_)) | refine zE (k := ?_) | ((refine zG (yes := (fun ht => ?_)) (no := (fun ht => ?_)) <;> (try simp at ht) <;> (try (exfalso; omega))) <;> (first | (refine zA (k := ?_); refine z2 (k := ?_)) | refine zE (k := ?_))))) <;> (refine zD ?_)) | (refine zI (i := 18) rfl ?_; ((first | (refine zA (k := ?_); refine zF (k := ?_)) | refine zE (k := ?_) | ((refine zG (yes := (fun ht => ?_)) (no := (fun ht => ?_)) <;> (try simp at ht) <;> (try (exfalso; omega))) <;> (first | (refine zA (k := ?_); refine zF (k := ?_)) | refine zE (k := ?_))))) <;> (refine zD ?_)) | (refine zI (i := 19) rfl ?_; ((first | (refine zA (k := ?_); (refine yL (k' := ?_); rw [e1])) | refine zE (k := ?_) | ((refine zG (yes := (fun ht => ?_)) (no := (fun ht => ?_)) <;> (try simp at ht) <;> (try (exfalso; omega))) <;> (first | (refine zA (k := ?_); (refine yL (k' := ?_); rw [e1])) | refine zE (k := ?_))))) <;> (refine zD ?_)) | (refine zI (i := 20) rfl ?_; ((first | (refine zA (k := ?_); (refine zq (k' := ?_))) | refine zE (k := ?_) | ((refine zG (yes := (fun ht => ?_)) (no := (fun ht => ?_)) <;> (try simp at ht) <;> (try (exfalso; omega))) <;> (first | (refine zA (k := ?_); (refine zq (k' := ?_))) | refine zE (k := ?_))))) <;> (refine zD ?_)) | (refine zI (i := 21) rfl ?_; ((first | (refine zA (k := ?_); (refine zz (k := ?_))) | refine zE (k := ?_) | ((refine zG (yes := (fun ht => ?_)) (no := (fun ht => ?_)) <;> (try simp at ht) <;> (try (exfalso; omega))) <;> (first | (refine zA (k := ?_); (refine zz (k := ?_))) | refine zE (k := ?_))))) <;> (refine zD ?_)) | (refine zI (i := 22) rfl ?_; ((first | (refine zA (k := ?_); (refine yg (v := .int .i64 y.s) (j := (j - 1) * 4) (hq := by simp [Addr.add]) (hr := RdS.ofEnt h2 (by (repeat (first | exact Ent.refl _ | exact Ent.nil | refine Ent.take (by (repeat (first | exact Out.head | apply Out.tail)); (first | done | fail)) ?_ | refine Ent.drop1 ?_)))) (hv := by simpa using ssC_cell (r := 0) hy (by omega) rfl) (k := ?_))) | refine zE (k := ?_) | ((refine zG (yes := (fun ht => ?_)) (no := (fun ht => ?_)) <;> (try simp at ht) <;> (try (exfalso; omega))) <;> (first | (refine zA (k := ?_); (refine yg (v := .int .i64 y.s) (j := (j - 1) * 4) (hq := by simp [Addr.add]) (hr := RdS.ofEnt h2 (by (repeat (first | exact Ent.refl _ | exact Ent.nil | refine Ent.take (by (repeat (first | exact Out.head | apply Out.tail)); (first | done | fail)) ?_ | refine Ent.drop1 ?_)))) (hv := by simpa using ssC_cell (r := 0) hy (by omega) rfl) (k := ?_))) | refine zE (k := ?_))))) <;> (refine zD ?_)) | (refine zI (i := 23) rfl ?_; ((first | (refine zA (k := ?_); refine yH (k' := ?_)) | refine zE (k := ?_) | ((refine zG (yes := (fun ht => ?_)) (no := (fun ht => ?_)) <;> (try simp at ht) <;> (try (exfalso; omega))) <;> (first | (refine zA (k := ?_); refine yH (k' := ?_)) | refine zE (k := ?_))))) <;> (refine zD ?_)) | (refine zI (i := 24) rfl ?_; ((first | (refine zA (k := ?_); (first | refine zZ (k := ?_) | refine za (k := ?_) | refine zg (k := ?_))) | refine zE (k := ?_) | ((refine zG (yes := (fun ht => ?_)) (no := (fun ht => ?_)) <;> (try simp at ht) <;> (try (exfalso; omega))) <;> (first | (refine zA (k := ?_); (first | refine zZ (k := ?_) | refine za (k := ?_) | refine zg (k := ?_))) | refine zE (k := ?_))))) <;> (refine zD ?_)) | (refine zI (i := 25) rfl ?_; ((first | refine zZ (k := ?_) | refine za (k := ?_) | refine zg (k := ?_))) <;> (refine zD ?_)) | (refine zI (i := 26) rfl ?_; (refine zF (k := ?_)) <;> (refine zD ?_)) | (refine zI (i := 27) rfl ?_; ((first | (refine zA (k := ?_); refine zF (k := ?_)) | refine zE (k := ?_) | ((refine zG (yes := (fun ht => ?_)) (no := (fun ht => ?_)) <;> (try simp at ht) <;> (try (exfalso; omega))) <;> (first | (refine zA (k := ?_); refine zF (k := ?_)) | refine zE (k := ?_))))) <;> (refine zD ?_)) | (refine zI (i := 28) rfl ?_; ((first | (refine zA (k := ?_); refine zB (k := ?_)) | refine zE (k := ?_) | ((refine zG (yes := (fun ht => ?_)) (no := (fun ht => ?_)) <;> (try simp at ht) <;> (try (exfalso; omega))) <;> (first | (refine zA (k := ?_); refine zB (k := ?_)) | refine zE (k := ?_))))) <;> (refine zD ?_)) | (refine zI (i := 29) rfl ?_; ((first | (refine zA (k := ?_); refine yC (k := ?_)) | refine zE (k := ?_) | ((refine zG (yes := (fun ht => ?_)) (no := (fun ht => ?_)) <;> (try simp at ht) <;> (try (exfalso; omega))) <;> (first | (refine zA (k := ?_); refine yC (k := ?_)) | refine zE (k := ?_))))) <;> (refine zD ?_)) | (refine zI (i := 30) rfl ?_; ((first | (refine zA (k := ?_); refine zB (k := ?_)) | refine zE (k := ?_) | ((refine zG (yes := (fun ht => ?_)) (no := (fun ht => ?_)) <;> (try simp at ht) <;> (try (exfalso; omega))) <;> (first | (refine zA (k := ?_); refine zB (k := ?_)) | refine zE (k := ?_))))) <;> (refine zD ?_)) | (refine zI (i := 31) rfl ?_; ((first | (refine zA (k := ?_); refine yC (k := ?_)) | refine zE (k := ?_) | ((refine zG (yes := (fun ht => ?_)) (no := (fun ht => ?_)) <;> (try simp at ht) <;> (try (exfalso; omega))) <;> (first | (refine zA (k := ?_); refine yC (k := ?_)) | refine zE (k := ?_))))) <;> (refine zD ?_)) | (refine zI (i := 32) rfl ?_; ((first | (refine zA (k := ?_); (refine zb (hs := hbl) (k := ?_); rintro v A' ⟨rfl, rfl⟩; simp only [List.cons_append, List.nil_append])) | refine zE (k := ?_) | ((refine zG (yes := (fun ht => ?_)) (no := (fun ht => ?_)) <;> (try simp at ht) <;> (try (exfalso; omega))) <;> (first | (refine zA (k := ?_); (refine zb (hs := hbl) (k := ?_); rintro v A' ⟨rfl, rfl⟩; simp only [List.cons_append, List.nil_append])) | refine zE (k := ?_))))) <;> (refine zD ?_)) | (refine zI (i := 33) rfl ?_; ((first | (refine zA (k := ?_); refine z7 (k' := ?_)) | refine zE (k := ?_) | ((refine zG (yes := (fun ht => ?_)) (no := (fun ht => ?_)) <;> (try simp at ht) <;> (try (exfalso; omega))) <;> (first | (refine zA (k := ?_); refine z7 (k' := ?_)) | refine zE (k := ?_))))) <;> (refine zD ?_)) | (refine zI (i := 34) rfl ?_; ((first | refine zZ (k := ?_) | refine za (k := ?_) | refine zg (k := ?_))) <;> (refine zD ?_)) | (refine zx (hK _ _ ?_); clear hK K; try simp only [List.cons_append, List.nil_append]))))
        | (refine zC (id := 14) ?_; intro K hK; refine zH (k := ?_); (refine zD (hK _ _ ?_); clear hK K))
        | (refine zC (id := 15) ?_; intro K hK; refine zl (k' := ?_); refine zF (k := ?_); (refine zD (hK _ _ ?_); clear hK K))
        | (refine zc (ht := (fun ht => ?_)) (hf := (fun ht => ?_)) <;> (try simp at ht) <;> (try (exfalso; omega))))
      all_goals first
        | exact ⟨j + 1, ⟨by omega, upto_yes hrows2 (hrw.2 ⟨by omega, by assumption, by assumption, by assumption⟩)⟩, by omega, ⟨rfl, rfl, rfl, rfl, int_succ j, trivial⟩, (by (repeat (first | exact Ent.refl _ | exact Ent.nil | refine Ent.take (by (repeat (first | exact Out.head | apply Out.tail)); (first | done | fail)) ?_ | refine Ent.drop1 ?_)); (first | done | fail))⟩
        | (have hrf : ssRow S.table b j = false := by
             cases hr : ssRow S.table b j with
             | false => rfl
             | true =>
               exfalso
               obtain ⟨f0, f1, f2, f3⟩ := hrw.1 hr
               first
               | omega
               | (rw [ht] at f1; cases f1)
               | (rw [ht] at f2; cases f2)
               | (rw [ht] at f3; cases f3)
           exact ⟨Or.inr rfl, _, [GtP st S, X], (by (repeat (first | exact Ent.refl _ | exact Ent.nil | refine Ent.take (by (repeat (first | exact Out.head | apply Out.tail)); (first | done | fail)) ?_ | refine Ent.drop1 ?_)); (first | done | fail)), res1 rfl rfl, congrArg Value.bool (by rw [all_no hlt hrf]; rfl), rfl⟩)
  obtain rfl : j = b.ss.length := by omega
  rw [all_yes hrows2]
  repeat' (first
    | refine zi ?_
    | refine zK ?_
    | refine zQ (h := ?_)
    | refine zU (h := ?_)
    | refine zj ?_
    | refine zR ?_
    | refine zW ?_
    | refine zN ?_
    | refine zV ?_
    | refine ze ?_
    | refine zP ?_
    | refine zY ?_
    | refine zS rfl ?_
    | refine zd ?_
    | refine zX ?_
    | refine zO ?_
    | refine zT ?_
    | refine zL ?_
    | (refine zC (id := 11) ?_; intro K hK; refine z6 (k' := ?_); (refine zD (hK _ _ ?_); clear hK K))
    | (refine zC (id := 16) ?_; intro K hK; refine zH (k := ?_); (refine zD (hK _ _ ?_); clear hK K))
    | (refine zc (ht := (fun ht => ?_)) (hf := (fun ht => ?_)) <;> (try simp at ht) <;> (try (exfalso; omega))))
  exact ⟨Or.inr rfl, _, [GtP st S, X], (by (repeat (first | exact Ent.refl _ | exact Ent.nil | refine Ent.take (by (repeat (first | exact Out.head | apply Out.tail)); (first | done | fail)) ?_ | refine Ent.drop1 ?_)); (first | done | fail)), res1 rfl rfl, rfl, rfl⟩
end specs
end Go.Proofs.YtnoggejkkjngjaaGreat
/- Package state: what stands against a record. Conditions: none but the kinds' bounds, and not too many rows. -/
set_option maxHeartbeats 8000000
set_option linter.unusedVariables false
set_option linter.unusedSimpArgs false
set_option maxRecDepth 100000
namespace Go.Proofs.YtnoggejkkjngjaaGreat
open Go Go.Sl
attribute [local irreducible] Go.Sl.Wl Go.Sl.Wc Go.Sl.thenQ Go.Sl.blkQ Go.Sl.loopQ Go.Sl.Fspec

def RcG.c (r : RcG) (pa : Option Addr) (pc : Nat) (sa : Option Addr) (sc : Nat) : List Value := [.int .i64 r.kind, .int .i64 r.x.e, .int .i64 r.x.i, .int .i64 r.x.s, .int .i64 r.x.r, .string r.x.key, .bool r.x.del, .string r.x.tx, .int .i64 r.ep.master, .int .i64 r.ep.cut, .bool r.ep.forced, .int .i64 r.config, .int .i64 r.sn.e, .int .i64 r.sn.i, .slice pa r.sn.ps.length pc, .slice sa r.sn.ss.length sc]
section specs
variable {B : Base}
theorem gcheck1_spec (X : Asn) (st : Nat) (S : G15) (hS : S.ok) (r : RcG) (hr : r.ok) (pa : Option Addr) (pc : Nat) (sa : Option Addr) (sc : Nat)
    (h1 : RdS Tryz.prog B [X] 5 pa r.sn.ps.length pc (prC r.sn.ps)) (h2 : RdS Tryz.prog B [X] 4 sa r.sn.ss.length sc (ssC r.sn.ss)) :
    Fspec Tryz.prog B 12 #[.pointer (some ⟨st, 0, none⟩), .agg (r.c pa pc sa sc).toArray] [GtP st S, X] (fun v A' => v = .int .i64 (gchkV S r) ∧ A' = [GtP st S, X]) := by
  have htab := rightT_out hS.tab
  have hfew := hS.few
  have hi := G15.fold_i hS
  have hbi := hS.bi
  obtain ⟨kind, x, ep, config, sn⟩ := r
  have hxo := hr.xo
  have hxi := hr.xi
  have hse := hr.se
  have hps := hr.ps
  have hss := hr.ss
  have hpr := hr.pr
  have hsr := hr.sr
  simp only at hxo hxi hse hps hss hpr hsr h1 h2
  refine spec_of (args := [_, _]) Tryz.func12 rfl rfl rfl ?_
  unfold gchkV
  simp only [RcG.c]
  by_cases k1 : kind = 1
  · subst k1
    rw [if_pos rfl]
    repeat' (first
      | refine zi ?_
      | refine zK ?_
      | refine zQ (h := ?_)
      | refine zU (h := ?_)
      | refine zj ?_
      | refine zR ?_
      | refine zW ?_
      | refine zN ?_
      | refine zV ?_
      | refine ze ?_
      | refine zP ?_
      | refine zY ?_
      | refine zS rfl ?_
      | refine zd ?_
      | refine zX ?_
      | refine zO ?_
      | refine zT ?_
      | refine zL ?_
      | (refine zC (id := 0) ?_; intro K hK; ((refine zm (k := ?_); intro r3)) <;> (refine zH (k := ?_); (refine zD (hK _ _ ?_); clear hK K)))
      | (refine zC (id := 1) ?_; intro K hK; refine zF (k := ?_); refine zf (k' := ?_); (refine zD (hK _ _ ?_); clear hK K))
      | (refine zC (id := 2) ?_; intro K hK; refine zH (k := ?_); (refine zD (hK _ _ ?_); clear hK K))
      | (refine zC (id := 3) ?_; intro K hK; refine zB (k := ?_); refine zM (k := ?_); (refine zD (hK _ _ ?_); clear hK K))
      | (refine zC (id := 4) ?_; intro K hK; refine zH (k := ?_); (refine zD (hK _ _ ?_); clear hK K))
      | (refine zC (id := 5) ?_; intro K hK; refine zp (k' := ?_); refine zH (k := ?_); (refine zD (hK _ _ ?_); clear hK K))
      | (refine zC (id := 6) ?_; intro K hK; refine zF (k := ?_); refine zB (k := ?_); refine zo (k := ?_); ((refine zb (hs := gcheckWrite_spec st S hS x hxo hxi) (k := ?_); rintro v A' ⟨rfl, rfl⟩; simp only [List.cons_append, List.nil_append])) <;> (refine zH (k := ?_); (refine zD (hK _ _ ?_); clear hK K)))
      | (refine zC (id := 7) ?_; intro K hK; refine zp (k' := ?_); refine zH (k := ?_); (refine zD (hK _ _ ?_); clear hK K))
      | (refine zC (id := 22) ?_; intro K hK; refine zH (k := ?_); (refine zD (hK _ _ ?_); clear hK K))
      | (refine zc (ht := (fun ht => ?_)) (hf := (fun ht => ?_)) <;> (try simp at ht) <;> (try (exfalso; omega))))
    exact ⟨Or.inr rfl, _, [GtP st S, X], (by (repeat (first | exact Ent.refl _ | exact Ent.nil | refine Ent.take (by (repeat (first | exact Out.head | apply Out.tail)); (first | done | fail)) ?_ | refine Ent.drop1 ?_))), res1 rfl rfl, rfl, rfl⟩
  rw [if_neg k1]
  by_cases k2 : kind = 2
  · subst k2
    rw [if_pos rfl]
    refine yE (fun q => ?_)
    obtain ⟨k, d, ta, tc, ea0, ec0, sa0, sc0, ea, ec⟩ := q
    have hfo : ∀ A0 : List Asn, Ent (GtL st S ⟨k, d, ta, tc, ea0, ec0, sa0, sc0, ea, ec⟩ ++ A0) (GtP st S :: A0) := fun A0 => gt_fold (A0 := A0) ⟨k, d, ta, tc, ea0, ec0, sa0, sc0, ea, ec⟩ (Ent.refl _)
    simp only [GtL, GtR] at hfo ⊢
    simp only [List.cons_append, List.nil_append] at hfo ⊢
    refine yW (a := ta) (sz := 3) (ho := (by (repeat (first | exact Out.head | apply Out.tail)); (first | done | fail))) (h0 := by omega) (h := fun hft => ?_)
    have hlen1 : 0 + S.table.length + 1 = (S.table ++ [ep]).length := by simp
    have hts : [] ++ epsC S.table ++ epC ep = epsC (S.table ++ [ep]) := by simp [epsC, epC]
    obtain ⟨bT, hbT⟩ : ∃ b, rightT (S.table ++ [ep]) = b := ⟨_, rfl⟩
    rw [hbT]
    repeat' (first
      | (refine y4 (k := 8) (α := Unit) (fun _ => [(28, .bool (!bT))]) (fun _ => [GtP st S, X]) (fun _ => True) ?_ (fun x G _ => ?_); rotate_left; simp only [ov]; rotate_left)
      | refine zi ?_
      | refine zK ?_
      | refine zQ (h := ?_)
      | refine zU (h := ?_)
      | refine zj ?_
      | refine zR ?_
      | refine zW ?_
      | refine zN ?_
      | refine zV ?_
      | refine ze ?_
      | refine zP ?_
      | refine zY ?_
      | refine zS rfl ?_
      | refine zd ?_
      | refine zX ?_
      | refine zO ?_
      | refine zT ?_
      | refine zL ?_
      | (refine zC (id := 0) ?_; intro K hK; ((refine zm (k := ?_); intro r3)) <;> (refine zH (k := ?_); (refine zD (hK _ _ ?_); clear hK K)))
      | (refine zC (id := 1) ?_; intro K hK; refine zF (k := ?_); refine zf (k' := ?_); (refine zD (hK _ _ ?_); clear hK K))
      | (refine zC (id := 2) ?_; intro K hK; refine zH (k := ?_); (refine zD (hK _ _ ?_); clear hK K))
      | (refine zC (id := 3) ?_; intro K hK; refine zB (k := ?_); refine zM (k := ?_); (refine zD (hK _ _ ?_); clear hK K))
      | (refine zC (id := 4) ?_; intro K hK; refine zH (k := ?_); (refine zD (hK _ _ ?_); clear hK K))
      | (refine zC (id := 5) ?_; intro K hK; refine zp (k' := ?_); refine zH (k := ?_); (refine zD (hK _ _ ?_); clear hK K))
      | (refine zC (id := 6) ?_; intro K hK; refine zF (k := ?_); refine zB (k := ?_); refine zo (k := ?_))
      | (refine zC (id := 7) ?_; intro K hK; refine zp (k' := ?_); refine zH (k := ?_); (refine zD (hK _ _ ?_); clear hK K))
      | ((refine yY (id := 8) (M := ([cb r3 (RcG.c ⟨2, x, ep, config, sn⟩ pa pc sa sc) 48, cb st (.int .i64 S.fold.e :: .int .i64 S.fold.i :: .pointer (some ⟨k, 0, none⟩) :: .pointer (some ⟨d, 0, none⟩) :: GtR S ta tc ea0 ec0 sa0 sc0 ea ec) 86])) (Ls := [21, 24]) (t := (.step 1 (.step 2 (.step 3 (.step 4 (.step 6 (.step 7 (.alt (.step 0 (.alt (.step 5 (.step 8 (.step 9 (.step 10 (.step 11 .done))))) (.step 8 (.step 5 (.step 9 (.step 10 (.step 11 .done))))))) (.step 8 (.step 0 (.step 5 (.step 9 (.step 10 (.step 11 .done)))))))))))))) (bad := [0, 5, 8]) (hok := (by decide +kernel)) (hp := (Pick.perm (by (repeat (first | exact Pick.nil | apply Pick.cons (by (repeat (first | exact Out.head | apply Out.tail)); (first | done | fail)))); (first | done | fail)))) (h := ?_); intro K hK; repeat' (first | refine z1 ?_ ?_ | (refine zI (i := 0) rfl ?_; ((refine yT (k := ?_); intro r17)) <;> (refine zD ?_)) | (refine zI (i := 1) rfl ?_; (refine zF (k := ?_)) <;> (refine zD ?_)) | (refine zI (i := 2) rfl ?_; (refine zJ (k := ?_)) <;> (refine zD ?_)) | (refine zI (i := 3) rfl ?_; (refine zB (k := ?_)) <;> (refine zD ?_)) | (refine zI (i := 4) rfl ?_; (refine z2 (k := ?_)) <;> (refine zD ?_)) | (refine zI (i := 5) rfl ?_; ((refine yN (hsrc := hft.rd (by (repeat (first | exact Out.head | apply Out.tail)); (first | done | fail))) (hvc := epsC_all _) (hbd := by omega) (k := ?_); intro a22 c22)) <;> (refine zD ?_)) | (refine zI (i := 6) rfl ?_; (refine zB (k := ?_)) <;> (refine zD ?_)) | (refine zI (i := 7) rfl ?_; (refine yC (k := ?_)) <;> (refine zD ?_)) | (refine zI (i := 8) rfl ?_; ((refine yR (cs := epC ep) (k := ?_); intro r25)) <;> (refine zD ?_)) | (refine zI (i := 9) rfl ?_; ((refine yO (hvl := by rfl) (hvc := by rfl) (hbd := by omega) (k := ?_); intro a26 c26; rw [hlen1, hts])) <;> (refine zD ?_)) | (refine zI (i := 10) rfl ?_; ((refine yF (a := a26) (sz := 3) (h0 := by omega) (h := fun hfa => ?_); refine zb (hs := right_spec [own a26 (S.table ++ [ep]).length c26 3 (epsC (S.table ++ [ep])) 45] (S.table ++ [ep]) a26 c26 (hfa.rd (M := []) .head) (by simp; omega)) (k := ?_); rintro v A' ⟨rfl, rfl⟩; simp only [List.cons_append, List.nil_append]; rw [hbT])) <;> (refine zD ?_)) | (refine zI (i := 11) rfl ?_; (refine z7 (k' := ?_)) <;> (refine zD ?_)) | (refine zx (hK _ _ ?_); clear hK K; try simp only [List.cons_append, List.nil_append]))))
      | (refine zC (id := 9) ?_; intro K hK; refine zH (k := ?_); (refine zD (hK _ _ ?_); clear hK K))
      | (refine zC (id := 22) ?_; intro K hK; refine zH (k := ?_); (refine zD (hK _ _ ?_); clear hK K))
      | (refine zc (ht := (fun ht => ?_)) (hf := (fun ht => ?_)) <;> (try simp at ht) <;> (try (exfalso; omega))))
    all_goals try exact ⟨(), trivial, ⟨rfl, trivial⟩, Ent.trans (by simp only [RcG.c, GtR]; ((repeat (first | exact Ent.refl _ | exact Ent.nil | refine Ent.take (by (repeat (first | exact Out.head | apply Out.tail)); (first | done | fail)) ?_ | refine Ent.drop1 ?_)); done)) (hfo [X])⟩
    all_goals
      refine ⟨Or.inr rfl, _, [GtP st S, X], Ent.refl _, res1 rfl rfl, congrArg (Value.int .i64) ?_, rfl⟩
      cases bT <;> simp_all
  rw [if_neg k2]
  by_cases k3 : kind = 3
  · subst k3
    rw [if_pos rfl]
    refine yE (fun q => ?_)
    obtain ⟨k, d, ta, tc, ea0, ec0, sa0, sc0, ea, ec⟩ := q
    have hfo : ∀ A0 : List Asn, Ent (GtL st S ⟨k, d, ta, tc, ea0, ec0, sa0, sc0, ea, ec⟩ ++ A0) (GtP st S :: A0) := fun A0 => gt_fold (A0 := A0) ⟨k, d, ta, tc, ea0, ec0, sa0, sc0, ea, ec⟩ (Ent.refl _)
    simp only [GtL, GtR] at hfo ⊢
    simp only [List.cons_append, List.nil_append] at hfo ⊢
    repeat' (first
      | refine zi ?_
      | refine zK ?_
      | refine zQ (h := ?_)
      | refine zU (h := ?_)
      | refine zj ?_
      | refine zR ?_
      | refine zW ?_
      | refine zN ?_
      | refine zV ?_
      | refine ze ?_
      | refine zP ?_
      | refine zY ?_
      | refine zS rfl ?_
      | refine zd ?_
      | refine zX ?_
      | refine zO ?_
      | refine zT ?_
      | refine zL ?_
      | (refine zC (id := 0) ?_; intro K hK; ((refine zm (k := ?_); intro r3)) <;> (refine zH (k := ?_); (refine zD (hK _ _ ?_); clear hK K)))
      | (refine zC (id := 1) ?_; intro K hK; refine zF (k := ?_); refine zf (k' := ?_); (refine zD (hK _ _ ?_); clear hK K))
      | (refine zC (id := 2) ?_; intro K hK; refine zH (k := ?_); (refine zD (hK _ _ ?_); clear hK K))
      | (refine zC (id := 3) ?_; intro K hK; refine zB (k := ?_); refine zM (k := ?_); (refine zD (hK _ _ ?_); clear hK K))
      | (refine zC (id := 4) ?_; intro K hK; refine zH (k := ?_); (refine zD (hK _ _ ?_); clear hK K))
      | (refine zC (id := 5) ?_; intro K hK; refine zp (k' := ?_); refine zH (k := ?_); (refine zD (hK _ _ ?_); clear hK K))
      | (refine zC (id := 7) ?_; intro K hK; refine zp (k' := ?_); refine zH (k := ?_); (refine zD (hK _ _ ?_); clear hK K))
      | (refine zC (id := 10) ?_; intro K hK; refine zp (k' := ?_); refine zH (k := ?_); (refine zD (hK _ _ ?_); clear hK K))
      | (refine z3 (id := 11) (h := ?_); intro K hK; refine zB (k := ?_); refine zM (k := ?_); refine zF (k := ?_); refine zJ (k := ?_); refine zB (k := ?_); refine zM (k := ?_); refine zn (k' := ?_); refine z8 (k' := ?_); (refine zD (hK _ _ ?_); clear hK K))
      | (refine zC (id := 12) ?_; intro K hK; refine zH (k := ?_); (refine zD (hK _ _ ?_); clear hK K))
      | (refine zC (id := 22) ?_; intro K hK; refine zH (k := ?_); (refine zD (hK _ _ ?_); clear hK K))
      | (refine zc (ht := (fun ht => ?_)) (hf := (fun ht => ?_)) <;> (try simp at ht) <;> (try (exfalso; omega))))
    all_goals
      refine ⟨Or.inr rfl, _, [GtP st S, X], Ent.trans (by (repeat (first | exact Ent.refl _ | exact Ent.nil | refine Ent.take (by (repeat (first | exact Out.head | apply Out.tail)); (first | done | fail)) ?_ | refine Ent.drop1 ?_)); (first | done | fail)) (hfo [X]), res1 rfl rfl, congrArg (Value.int .i64) ?_, rfl⟩
      first | exact (if_pos (by omega)).symm | exact (if_neg (by omega)).symm
  rw [if_neg k3]
  by_cases k4 : kind = 4
  · subst k4
    rw [if_pos rfl]
    obtain ⟨cc, hcc⟩ : ∃ c, S.closed = c := ⟨_, rfl⟩
    have hrt := sright1_spec (B := B) X st S hS sn hse (by omega) (by omega) hpr hsr pa pc sa sc h1 h2
    obtain ⟨bR, hbR⟩ : ∃ b, rightX S.table sn = b := ⟨_, rfl⟩
    rw [hcc, hbR]
    rw [hbR] at hrt
    repeat' (first
      | refine zi ?_
      | refine zK ?_
      | refine zQ (h := ?_)
      | refine zU (h := ?_)
      | refine zj ?_
      | refine zR ?_
      | refine zW ?_
      | refine zN ?_
      | refine zV ?_
      | refine ze ?_
      | refine zP ?_
      | refine zY ?_
      | refine zS rfl ?_
      | refine zd ?_
      | refine zX ?_
      | refine zO ?_
      | refine zT ?_
      | refine zL ?_
      | (refine zC (id := 0) ?_; intro K hK; ((refine zm (k := ?_); intro r3)) <;> (refine zH (k := ?_); (refine zD (hK _ _ ?_); clear hK K)))
      | (refine zC (id := 1) ?_; intro K hK; refine zF (k := ?_); refine zf (k' := ?_); (refine zD (hK _ _ ?_); clear hK K))
      | (refine zC (id := 2) ?_; intro K hK; refine zH (k := ?_); (refine zD (hK _ _ ?_); clear hK K))
      | (refine zC (id := 3) ?_; intro K hK; refine zB (k := ?_); refine zM (k := ?_); (refine zD (hK _ _ ?_); clear hK K))
      | (refine zC (id := 4) ?_; intro K hK; refine zH (k := ?_); (refine zD (hK _ _ ?_); clear hK K))
      | (refine zC (id := 5) ?_; intro K hK; refine zp (k' := ?_); refine zH (k := ?_); (refine zD (hK _ _ ?_); clear hK K))
      | (refine zC (id := 7) ?_; intro K hK; refine zp (k' := ?_); refine zH (k := ?_); (refine zD (hK _ _ ?_); clear hK K))
      | (refine zC (id := 10) ?_; intro K hK; refine zp (k' := ?_); refine zH (k := ?_); (refine zD (hK _ _ ?_); clear hK K))
      | (refine zC (id := 13) ?_; intro K hK; refine zp (k' := ?_); refine zH (k := ?_); (refine zD (hK _ _ ?_); clear hK K))
      | (refine zc (ht := (fun ht => ?_)) (hf := (fun ht => ?_)) <;> (try simp at ht) <;> (try (exfalso; omega))))
    refine yJ (y := GtP st S) (k := (yE (fun q => ?_)))
    obtain ⟨k, d, ta, tc, ea0, ec0, sa0, sc0, ea, ec⟩ := q
    have hfo : ∀ A0 : List Asn, Ent (GtL st S ⟨k, d, ta, tc, ea0, ec0, sa0, sc0, ea, ec⟩ ++ A0) (GtP st S :: A0) := fun A0 => gt_fold (A0 := A0) ⟨k, d, ta, tc, ea0, ec0, sa0, sc0, ea, ec⟩ (Ent.refl _)
    simp only [GtL, GtR] at hfo ⊢
    simp only [List.cons_append, List.nil_append] at hfo ⊢
    rw [hcc] at hfo ⊢
    cases cc with
    | true =>
      repeat' (first
        | refine zi ?_
        | refine zK ?_
        | refine zQ (h := ?_)
        | refine zU (h := ?_)
        | refine zj ?_
        | refine zR ?_
        | refine zW ?_
        | refine zN ?_
        | refine zV ?_
        | refine ze ?_
        | refine zP ?_
        | refine zY ?_
        | refine zS rfl ?_
        | refine zd ?_
        | refine zX ?_
        | refine zO ?_
        | refine zT ?_
        | refine zL ?_
        | (refine zC (id := 15) ?_; intro K hK; refine zF (k := ?_); refine zJ (k := ?_); refine zB (k := ?_); refine zM (k := ?_); refine zH (k := ?_); (refine zD (hK _ _ ?_); clear hK K))
        | (refine zC (id := 16) ?_; intro K hK; refine zH (k := ?_); (refine zD (hK _ _ ?_); clear hK K))
        | (refine zC (id := 22) ?_; intro K hK; refine zH (k := ?_); (refine zD (hK _ _ ?_); clear hK K))
        | (refine zc (ht := (fun ht => ?_)) (hf := (fun ht => ?_)) <;> (try simp at ht) <;> (try (exfalso; omega))))
      all_goals exact ⟨Or.inr rfl, _, [GtP st S, X], Ent.trans (by (repeat (first | exact Ent.refl _ | exact Ent.nil | refine Ent.take (by (repeat (first | exact Out.head | apply Out.tail)); (first | done | fail)) ?_ | refine Ent.drop1 ?_)); (first | done | fail)) (hfo [X]), res1 rfl rfl, rfl, rfl⟩
    | false =>
      rw [if_neg (by simp)]
      cases bR with
      | false =>
        repeat' (first
          | refine zi ?_
          | refine zK ?_
          | refine zQ (h := ?_)
          | refine zU (h := ?_)
          | refine zj ?_
          | refine zR ?_
          | refine zW ?_
          | refine zN ?_
          | refine zV ?_
          | refine ze ?_
          | refine zP ?_
          | refine zY ?_
          | refine zS rfl ?_
          | refine zd ?_
          | refine zX ?_
          | refine zO ?_
          | refine zT ?_
          | refine zL ?_
          | (refine zC (id := 15) ?_; intro K hK; refine zF (k := ?_); refine zJ (k := ?_); refine zB (k := ?_); refine zM (k := ?_); refine zH (k := ?_); (refine zD (hK _ _ ?_); clear hK K))
          | (refine zC (id := 17) ?_; intro K hK; refine zB (k := ?_); refine zM (k := ?_); refine zp (k' := ?_); refine zH (k := ?_); (refine zD (hK _ _ ?_); clear hK K))
          | (refine zC (id := 18) ?_; intro K hK; refine zF (k := ?_); refine zB (k := ?_); refine zo (k := ?_); ((refine yB (Ent.trans (by (repeat (first | exact Ent.refl _ | exact Ent.nil | refine Ent.take (by (repeat (first | exact Out.head | apply Out.tail)); (first | done | fail)) ?_ | refine Ent.drop1 ?_)); (first | done | fail)) (hfo [X, cb r3 (RcG.c ⟨4, x, ep, config, sn⟩ pa pc sa sc) 48])) ?_; refine zb (hs := hrt) (k := ?_); rintro v A' ⟨rfl, rfl⟩; simp only [List.cons_append, List.nil_append])) <;> (refine z7 (k' := ?_); refine zH (k := ?_); (refine zD (hK _ _ ?_); clear hK K)))
          | (refine zC (id := 19) ?_; intro K hK; refine zH (k := ?_); (refine zD (hK _ _ ?_); clear hK K))
          | (refine zC (id := 22) ?_; intro K hK; refine zH (k := ?_); (refine zD (hK _ _ ?_); clear hK K))
          | (refine zc (ht := (fun ht => ?_)) (hf := (fun ht => ?_)) <;> (try simp at ht) <;> (try (exfalso; omega))))
        all_goals exact ⟨Or.inr rfl, _, [GtP st S, X], (by (repeat (first | exact Ent.refl _ | exact Ent.nil | refine Ent.take (by (repeat (first | exact Out.head | apply Out.tail)); (first | done | fail)) ?_ | refine Ent.drop1 ?_)); (first | done | fail)), res1 rfl rfl, rfl, rfl⟩
      | true =>
        rw [if_neg (by simp)]
        repeat' (first
          | refine zi ?_
          | refine zK ?_
          | refine zQ (h := ?_)
          | refine zU (h := ?_)
          | refine zj ?_
          | refine zR ?_
          | refine zW ?_
          | refine zN ?_
          | refine zV ?_
          | refine ze ?_
          | refine zP ?_
          | refine zY ?_
          | refine zS rfl ?_
          | refine zd ?_
          | refine zX ?_
          | refine zO ?_
          | refine zT ?_
          | refine zL ?_
          | (refine zC (id := 15) ?_; intro K hK; refine zF (k := ?_); refine zJ (k := ?_); refine zB (k := ?_); refine zM (k := ?_); refine zH (k := ?_); (refine zD (hK _ _ ?_); clear hK K))
          | (refine zC (id := 17) ?_; intro K hK; refine zB (k := ?_); refine zM (k := ?_); refine zp (k' := ?_); refine zH (k := ?_); (refine zD (hK _ _ ?_); clear hK K))
          | (refine zC (id := 18) ?_; intro K hK; refine zF (k := ?_); refine zB (k := ?_); refine zo (k := ?_); ((refine yB (Ent.trans (by (repeat (first | exact Ent.refl _ | exact Ent.nil | refine Ent.take (by (repeat (first | exact Out.head | apply Out.tail)); (first | done | fail)) ?_ | refine Ent.drop1 ?_)); (first | done | fail)) (hfo [X, cb r3 (RcG.c ⟨4, x, ep, config, sn⟩ pa pc sa sc) 48])) ?_; refine zb (hs := hrt) (k := ?_); rintro v A' ⟨rfl, rfl⟩; simp only [List.cons_append, List.nil_append])) <;> (refine z7 (k' := ?_); refine zH (k := ?_); (refine zD (hK _ _ ?_); clear hK K)))
          | (refine zc (ht := (fun ht => ?_)) (hf := (fun ht => ?_)) <;> (try simp at ht) <;> (try (exfalso; omega))))
        refine yJ (y := GtP st S) (k := (yE (fun q => ?_)))
        obtain ⟨k, d, ta, tc, ea0, ec0, sa0, sc0, ea, ec⟩ := q
        have hfo : ∀ A0 : List Asn, Ent (GtL st S ⟨k, d, ta, tc, ea0, ec0, sa0, sc0, ea, ec⟩ ++ A0) (GtP st S :: A0) := fun A0 => gt_fold (A0 := A0) ⟨k, d, ta, tc, ea0, ec0, sa0, sc0, ea, ec⟩ (Ent.refl _)
        simp only [GtL, GtR, RcG.c] at hfo ⊢
        simp only [List.cons_append, List.nil_append] at hfo ⊢
        repeat' (first
          | refine zi ?_
          | refine zK ?_
          | refine zQ (h := ?_)
          | refine zU (h := ?_)
          | refine zj ?_
          | refine zR ?_
          | refine zW ?_
          | refine zN ?_
          | refine zV ?_
          | refine ze ?_
          | refine zP ?_
          | refine zY ?_
          | refine zS rfl ?_
          | refine zd ?_
          | refine zX ?_
          | refine zO ?_
          | refine zT ?_
          | refine zL ?_
          | (refine z3 (id := 20) (h := ?_); intro K hK; refine zB (k := ?_); refine zB (k := ?_); refine zB (k := ?_); refine zM (k := ?_); refine zF (k := ?_); refine zJ (k := ?_); refine zB (k := ?_); refine zB (k := ?_); refine zB (k := ?_); refine zM (k := ?_); refine yH (k' := ?_); refine zH (k := ?_); (refine zD (hK _ _ ?_); clear hK K))
          | (refine zC (id := 21) ?_; intro K hK; refine zH (k := ?_); (refine zD (hK _ _ ?_); clear hK K))
          | (refine zC (id := 22) ?_; intro K hK; refine zH (k := ?_); (refine zD (hK _ _ ?_); clear hK K))
          | (refine zc (ht := (fun ht => ?_)) (hf := (fun ht => ?_)) <;> (try simp at ht) <;> (try (exfalso; omega))))
        all_goals
          refine ⟨Or.inr rfl, _, [GtP st S, X], Ent.trans (by (repeat (first | exact Ent.refl _ | exact Ent.nil | refine Ent.take (by (repeat (first | exact Out.head | apply Out.tail)); (first | done | fail)) ?_ | refine Ent.drop1 ?_)); (first | done | fail)) (hfo [X]), res1 rfl rfl, congrArg (Value.int .i64) ?_, rfl⟩
          first | exact (if_pos (by omega)).symm | exact (if_neg (by omega)).symm
  rw [if_neg k4]
  by_cases k5 : kind = 5
  · subst k5
    rw [if_pos rfl]
    obtain ⟨cc, hcc⟩ : ∃ c, S.closed = c := ⟨_, rfl⟩
    rw [hcc]
    refine yE (fun q => ?_)
    obtain ⟨k, d, ta, tc, ea0, ec0, sa0, sc0, ea, ec⟩ := q
    have hfo : ∀ A0 : List Asn, Ent (GtL st S ⟨k, d, ta, tc, ea0, ec0, sa0, sc0, ea, ec⟩ ++ A0) (GtP st S :: A0) := fun A0 => gt_fold (A0 := A0) ⟨k, d, ta, tc, ea0, ec0, sa0, sc0, ea, ec⟩ (Ent.refl _)
    simp only [GtL, GtR] at hfo ⊢
    simp only [List.cons_append, List.nil_append] at hfo ⊢
    rw [hcc] at hfo ⊢
    cases cc <;> (
    repeat' (first
      | refine zi ?_
      | refine zK ?_
      | refine zQ (h := ?_)
      | refine zU (h := ?_)
      | refine zj ?_
      | refine zR ?_
      | refine zW ?_
      | refine zN ?_
      | refine zV ?_
      | refine ze ?_
      | refine zP ?_
      | refine zY ?_
      | refine zS rfl ?_
      | refine zd ?_
      | refine zX ?_
      | refine zO ?_
      | refine zT ?_
      | refine zL ?_
      | (refine zC (id := 0) ?_; intro K hK; ((refine zm (k := ?_); intro r3)) <;> (refine zH (k := ?_); (refine zD (hK _ _ ?_); clear hK K)))
      | (refine zC (id := 1) ?_; intro K hK; refine zF (k := ?_); refine zf (k' := ?_); (refine zD (hK _ _ ?_); clear hK K))
      | (refine zC (id := 2) ?_; intro K hK; refine zH (k := ?_); (refine zD (hK _ _ ?_); clear hK K))
      | (refine zC (id := 3) ?_; intro K hK; refine zB (k := ?_); refine zM (k := ?_); (refine zD (hK _ _ ?_); clear hK K))
      | (refine zC (id := 4) ?_; intro K hK; refine zH (k := ?_); (refine zD (hK _ _ ?_); clear hK K))
      | (refine zC (id := 5) ?_; intro K hK; refine zp (k' := ?_); refine zH (k := ?_); (refine zD (hK _ _ ?_); clear hK K))
      | (refine zC (id := 7) ?_; intro K hK; refine zp (k' := ?_); refine zH (k := ?_); (refine zD (hK _ _ ?_); clear hK K))
      | (refine zC (id := 10) ?_; intro K hK; refine zp (k' := ?_); refine zH (k := ?_); (refine zD (hK _ _ ?_); clear hK K))
      | (refine zC (id := 13) ?_; intro K hK; refine zp (k' := ?_); refine zH (k := ?_); (refine zD (hK _ _ ?_); clear hK K))
      | (refine zC (id := 14) ?_; intro K hK; refine zp (k' := ?_); refine zH (k := ?_); (refine zD (hK _ _ ?_); clear hK K))
      | (refine zC (id := 15) ?_; intro K hK; refine zF (k := ?_); refine zJ (k := ?_); refine zB (k := ?_); refine zM (k := ?_); refine zH (k := ?_); (refine zD (hK _ _ ?_); clear hK K))
      | (refine zC (id := 16) ?_; intro K hK; refine zH (k := ?_); (refine zD (hK _ _ ?_); clear hK K))
      | (refine zC (id := 17) ?_; intro K hK; refine zB (k := ?_); refine zM (k := ?_); refine zp (k' := ?_); refine zH (k := ?_); (refine zD (hK _ _ ?_); clear hK K))
      | (refine zC (id := 22) ?_; intro K hK; refine zH (k := ?_); (refine zD (hK _ _ ?_); clear hK K))
      | (refine zc (ht := (fun ht => ?_)) (hf := (fun ht => ?_)) <;> (try simp at ht) <;> (try (exfalso; omega))))
    )
    all_goals exact ⟨Or.inr rfl, _, [GtP st S, X], Ent.trans (by (repeat (first | exact Ent.refl _ | exact Ent.nil | refine Ent.take (by (repeat (first | exact Out.head | apply Out.tail)); (first | done | fail)) ?_ | refine Ent.drop1 ?_)); (first | done | fail)) (hfo [X]), res1 rfl rfl, rfl, rfl⟩
  rw [if_neg k5]
  repeat' (first
    | refine zi ?_
    | refine zK ?_
    | refine zQ (h := ?_)
    | refine zU (h := ?_)
    | refine zj ?_
    | refine zR ?_
    | refine zW ?_
    | refine zN ?_
    | refine zV ?_
    | refine ze ?_
    | refine zP ?_
    | refine zY ?_
    | refine zS rfl ?_
    | refine zd ?_
    | refine zX ?_
    | refine zO ?_
    | refine zT ?_
    | refine zL ?_
    | (refine zC (id := 0) ?_; intro K hK; ((refine zm (k := ?_); intro r3)) <;> (refine zH (k := ?_); (refine zD (hK _ _ ?_); clear hK K)))
    | (refine zC (id := 1) ?_; intro K hK; refine zF (k := ?_); refine zf (k' := ?_); (refine zD (hK _ _ ?_); clear hK K))
    | (refine zC (id := 2) ?_; intro K hK; refine zH (k := ?_); (refine zD (hK _ _ ?_); clear hK K))
    | (refine zC (id := 3) ?_; intro K hK; refine zB (k := ?_); refine zM (k := ?_); (refine zD (hK _ _ ?_); clear hK K))
    | (refine zC (id := 4) ?_; intro K hK; refine zH (k := ?_); (refine zD (hK _ _ ?_); clear hK K))
    | (refine zC (id := 5) ?_; intro K hK; refine zp (k' := ?_); refine zH (k := ?_); (refine zD (hK _ _ ?_); clear hK K))
    | (refine zC (id := 7) ?_; intro K hK; refine zp (k' := ?_); refine zH (k := ?_); (refine zD (hK _ _ ?_); clear hK K))
    | (refine zC (id := 10) ?_; intro K hK; refine zp (k' := ?_); refine zH (k := ?_); (refine zD (hK _ _ ?_); clear hK K))
    | (refine zC (id := 13) ?_; intro K hK; refine zp (k' := ?_); refine zH (k := ?_); (refine zD (hK _ _ ?_); clear hK K))
    | (refine zC (id := 14) ?_; intro K hK; refine zp (k' := ?_); refine zH (k := ?_); (refine zD (hK _ _ ?_); clear hK K))
    | (refine zc (ht := (fun ht => ?_)) (hf := (fun ht => ?_)) <;> (try simp at ht) <;> (try (exfalso; omega))))
  all_goals exact ⟨Or.inr rfl, _, [GtP st S, X], (by (repeat (first | exact Ent.refl _ | exact Ent.nil | refine Ent.take (by (repeat (first | exact Out.head | apply Out.tail)); (first | done | fail)) ?_ | refine Ent.drop1 ?_))), res1 rfl rfl, rfl, rfl⟩
end specs
end Go.Proofs.YtnoggejkkjngjaaGreat
/- Package sorted: copies. No condition. -/
set_option maxHeartbeats 8000000
set_option linter.unusedVariables false
set_option linter.unusedSimpArgs false
set_option maxRecDepth 100000
namespace Go.Proofs.YtnoggejkkjngjaaGreat
open Go Go.Sl
attribute [local irreducible] Go.Sl.Wl Go.Sl.Wc Go.Sl.thenQ Go.Sl.blkQ Go.Sl.loopQ Go.Sl.Fspec

theorem Ent_foldMp {p : Nat} {a : Option Addr} {t : Tree} {A A1 A2 L : List Asn} (h1 : Out (cb p [.pointer a, .int .i64 t.size] 154) A A1) (h2 : Out (TrA t a) A1 A2)
    (h : Ent (MpA p t :: A2) L) : Ent A L :=
  ((Ent.perm (h1.perm.trans (h2.perm.cons _))).trans (mp_fold (A0 := A2) a (Ent.refl _))).trans h
section specs
variable {B : Base}
theorem tcopied_spec : ∀ (t : Tree) (a : Option Addr),
    Fspec Tryz.prog B 120 #[.pointer a] [TrA t a] (fun v A' => ∃ a', v = .pointer a' ∧ A' = [TrA t a, TrA t a'])
  | .nil, a => by
    refine spec_of (args := [_]) Tryz.func120 rfl rfl rfl ?_
    refine yS (fun e => ?_)
    subst e
    repeat' (first
      | refine zi ?_
      | refine zK ?_
      | refine zQ (h := ?_)
      | refine zU (h := ?_)
      | refine zj ?_
      | refine zR ?_
      | refine zW ?_
      | refine zN ?_
      | refine zV ?_
      | refine ze ?_
      | refine zP ?_
      | refine zY ?_
      | refine zS rfl ?_
      | refine zd ?_
      | refine zX ?_
      | refine zO ?_
      | refine zT ?_
      | refine zL ?_
      | (refine zC (id := 0) ?_; intro K hK; refine zH (k := ?_); (refine zD (hK _ _ ?_); clear hK K))
      | (refine zC (id := 1) ?_; intro K hK; refine zF (k := ?_); refine zf (k' := ?_); (refine zD (hK _ _ ?_); clear hK K))
      | (refine zC (id := 2) ?_; intro K hK; refine zH (k := ?_); (refine zD (hK _ _ ?_); clear hK K))
      | (refine zC (id := 3) ?_; intro K hK; refine zF (k := ?_); refine zJ (k := ?_); refine zo (k := ?_); (refine zw (k := ?_); intro r); refine zh (ho' := rfl) (k := ?_); (refine zD (hK _ _ ?_); clear hK K))
      | (refine z3 (id := 4) (h := ?_); intro K hK; refine zF (k := ?_); refine zJ (k := ?_); refine zB (k := ?_); refine zM (k := ?_))
      | (refine zC (id := 5) ?_; intro K hK; refine zH (k := ?_); (refine zD (hK _ _ ?_); clear hK K))
      | (refine zc (ht := (fun ht => ?_)) (hf := (fun ht => ?_)) <;> (try simp at ht) <;> (try (exfalso; omega))))
    exact ⟨Or.inr rfl, _, [TrA .nil none, TrA .nil none], Ent.trans tr_nil (Ent.cons _ tr_nil), res1 rfl rfl, none, rfl, rfl⟩
  | .node l k v lv rt, a => by
    have ihl := tcopied_spec l; have ihr := tcopied_spec rt
    refine spec_of (args := [_]) Tryz.func120 rfl rfl rfl ?_
    refine yQ (fun b la ra e => ?_)
    subst e
    repeat' (first
      | refine zi ?_
      | refine zK ?_
      | refine zQ (h := ?_)
      | refine zU (h := ?_)
      | refine zj ?_
      | refine zR ?_
      | refine zW ?_
      | refine zN ?_
      | refine zV ?_
      | refine ze ?_
      | refine zP ?_
      | refine zY ?_
      | refine zS rfl ?_
      | refine zd ?_
      | refine zX ?_
      | refine zO ?_
      | refine zT ?_
      | refine zL ?_
      | (refine zC (id := 0) ?_; intro K hK; refine zH (k := ?_); (refine zD (hK _ _ ?_); clear hK K))
      | (refine zC (id := 1) ?_; intro K hK; refine zF (k := ?_); refine zf (k' := ?_); (refine zD (hK _ _ ?_); clear hK K))
      | (refine zC (id := 2) ?_; intro K hK; refine zH (k := ?_); (refine zD (hK _ _ ?_); clear hK K))
      | (refine zC (id := 3) ?_; intro K hK; refine zF (k := ?_); refine zJ (k := ?_); refine zo (k := ?_); (refine zw (k := ?_); intro r); refine zh (ho' := rfl) (k := ?_); (refine zD (hK _ _ ?_); clear hK K))
      | (refine yp (id := 4) (M := ([cb b [.string k, .int .i64 v.a, .int .i64 v.b, .bool v.c, .string v.d, .int .i64 lv, .pointer la, .pointer ra] 173])) (Ls := [12, 17]) (hp := (Pick.perm (by (repeat (first | exact Pick.nil | apply Pick.cons (by (repeat (first | exact Out.head | apply Out.tail)); (first | done | fail)))); (first | done | fail)))) (h := ?_); intro K hK; refine zF (k := ?_); refine zJ (k := ?_); refine zB (k := ?_); refine z2 (k := ?_); ((refine zb (hs := (ihl la)) (k := ?_); rintro v A' ⟨la', rfl, rfl⟩; simp only [List.cons_append, List.nil_append])) <;> (refine zF (k := ?_); refine zJ (k := ?_); refine zB (k := ?_); refine z2 (k := ?_); ((refine zb (hs := (ihr ra)) (k := ?_); rintro v A' ⟨ra', rfl, rfl⟩; simp only [List.cons_append, List.nil_append])) <;> (refine zB (k := ?_); refine zy (ho := rfl) (k := ?_); refine zB (k := ?_); refine zy (ho := rfl) (k := ?_); (refine zD (hK _ _ ?_); clear hK K; try simp only [List.cons_append, List.nil_append]))))
      | (refine zC (id := 5) ?_; intro K hK; refine zH (k := ?_); (refine zD (hK _ _ ?_); clear hK K))
      | (refine zc (ht := (fun ht => ?_)) (hf := (fun ht => ?_)) <;> (try simp at ht) <;> (try (exfalso; omega))))
    exact ⟨Or.inr rfl, _, [TrA (.node l k v lv rt) (some ⟨b, 0, none⟩), TrA (.node l k v lv rt) (some ⟨r, 0, none⟩)], Ent_foldTr (b := r) (by (repeat (first | exact Out.head | apply Out.tail)); (first | done | fail)) (by (repeat (first | exact Out.head | apply Out.tail)); (first | done | fail)) (by (repeat (first | exact Out.head | apply Out.tail)); (first | done | fail)) (Ent_foldTr (b := b) (by (repeat (first | exact Out.head | apply Out.tail)); (first | done | fail)) (by (repeat (first | exact Out.head | apply Out.tail)); (first | done | fail)) (by (repeat (first | exact Out.head | apply Out.tail)); (first | done | fail)) (Ent.refl _)), res1 rfl rfl, some ⟨r, 0, none⟩, rfl, rfl⟩
theorem mcopy_spec (p : Nat) (t : Tree) :
    Fspec Tryz.prog B 112 #[.pointer (some ⟨p, 0, none⟩)] [MpA p t] (fun w A' => ∃ q, w = .pointer (some ⟨q, 0, none⟩) ∧ A' = [MpA q t, MpA p t]) := by
  refine spec_of (args := [_]) Tryz.func112 rfl rfl rfl ?_
  refine yE (fun a => ?_)
  simp only [MpX]
  simp only [List.cons_append, List.nil_append]
  repeat' (first
    | refine zi ?_
    | refine zK ?_
    | refine zQ (h := ?_)
    | refine zU (h := ?_)
    | refine zj ?_
    | refine zR ?_
    | refine zW ?_
    | refine zN ?_
    | refine zV ?_
    | refine ze ?_
    | refine zP ?_
    | refine zY ?_
    | refine zS rfl ?_
    | refine zd ?_
    | refine zX ?_
    | refine zO ?_
    | refine zT ?_
    | refine zL ?_
    | (refine zC (id := 0) ?_; intro K hK; refine zH (k := ?_); (refine zD (hK _ _ ?_); clear hK K))
    | (refine zC (id := 1) ?_; intro K hK; refine zF (k := ?_); refine zf (k' := ?_); (refine zD (hK _ _ ?_); clear hK K))
    | (refine zC (id := 2) ?_; intro K hK; refine zH (k := ?_); (refine zD (hK _ _ ?_); clear hK K))
    | (refine yp (id := 3) (M := ([cb p [.pointer a, .int .i64 t.size] 154])) (Ls := [8, 13]) (hp := (Pick.perm (by (repeat (first | exact Pick.nil | apply Pick.cons (by (repeat (first | exact Out.head | apply Out.tail)); (first | done | fail)))); (first | done | fail)))) (h := ?_); intro K hK; refine zF (k := ?_); refine zJ (k := ?_); refine zB (k := ?_); refine z2 (k := ?_); ((refine zb (hs := (tcopied_spec t a)) (k := ?_); rintro v A' ⟨a', rfl, rfl⟩; simp only [List.cons_append, List.nil_append])) <;> (refine zF (k := ?_); refine zJ (k := ?_); refine zB (k := ?_); refine z2 (k := ?_); refine zr (k := ?_); (refine zm (k := ?_); intro r); refine zH (k := ?_); (refine zD (hK _ _ ?_); clear hK K; try simp only [List.cons_append, List.nil_append])))
    | (refine zc (ht := (fun ht => ?_)) (hf := (fun ht => ?_)) <;> (try simp at ht) <;> (try (exfalso; omega))))
  exact ⟨Or.inr rfl, _, [MpA r t, MpA p t], Ent_foldMp (p := p) (a := a) (by (repeat (first | exact Out.head | apply Out.tail)); (first | done | fail)) (by (repeat (first | exact Out.head | apply Out.tail)); (first | done | fail)) (Ent_foldMp (p := r) (a := a') (by (repeat (first | exact Out.head | apply Out.tail)); (first | done | fail)) (by (repeat (first | exact Out.head | apply Out.tail)); (first | done | fail)) (Ent.refl _)), res1 rfl rfl, r, rfl, rfl⟩
end specs
end Go.Proofs.YtnoggejkkjngjaaGreat
/- Package sorted: all keys, by a range over a function. No condition. -/
set_option maxHeartbeats 8000000
set_option linter.unusedVariables false
set_option linter.unusedSimpArgs false
set_option maxRecDepth 100000
namespace Go.Proofs.YtnoggejkkjngjaaGreat
open Go Go.Sl
attribute [local irreducible] Go.Sl.Wl Go.Sl.Wc Go.Sl.thenQ Go.Sl.blkQ Go.Sl.loopQ Go.Sl.Fspec

theorem xV {P : Program} {B : Base} {N : Nat} {fm : Fm} {ops l : List Oper} {F : Fr} {A : List Asn} {K : Fr → List Asn → Prop} {x y : Asn} {L A1 A2 A3 : List Asn} (h1 : Out x A A1) (h2 : Out y A1 A2) (h3 : Out (lst L) A2 A3)
    (k : Wl P B N fm ops l F (lst (x :: y :: L) :: A3) K) : Wl P B N fm ops l F A K :=
  yB ((Ent.perm (h1.perm.trans ((h2.perm.trans (h3.perm.cons _)).cons _))).trans ((((Ent.lst_open L A3).cons y).cons x).trans (Ent.lst_shut (x :: y :: L) A3))) k
theorem Ent_only {A L A1 : List Asn} (h : Out (lst L) A A1) : Ent A L :=
  (Ent.perm h.perm).trans ((Ent.lst_open L A1).trans (by simpa using (Ent.nil : Ent A1 []).app L))
section specs
variable {B : Base}
theorem walk_spec (q : Nat) (J Jx : List (ByteArray × VX) → Asn) : ∀ (t : Tree) (a : Option Addr) (pre0 : List (ByteArray × VX)),
    (∀ pre x rest, t.inorder = pre ++ x :: rest → Yspec Tryz.prog B q #[.string x.1, .agg #[.int .i64 x.2.a, .int .i64 x.2.b, .bool x.2.c, .string x.2.d]] [J (pre0 ++ pre)] (fun v A' => (v = .bool true ∧ A' = [J (pre0 ++ pre ++ [x])]) ∨ (v = .bool false ∧ A' = [Jx (pre0 ++ pre ++ [x])]))) →
    Fspec Tryz.prog B 113 #[.pointer a, yv q] [TrA t a, J pre0] (fun v A' => (v = .bool true ∧ A' = [TrA t a, J (pre0 ++ t.inorder)]) ∨
      (v = .bool false ∧ ∃ pre x rest, t.inorder = pre ++ x :: rest ∧ A' = [TrA t a, Jx (pre0 ++ pre ++ [x])]))
  | .nil, a, pre0, _ => by
    refine spec_of (args := [_, _]) Tryz.func113 rfl rfl rfl ?_
    refine yS (fun e => ?_)
    subst e
    repeat' (first
      | refine zi ?_
      | refine zK ?_
      | refine zQ (h := ?_)
      | refine zU (h := ?_)
      | refine zj ?_
      | refine zR ?_
      | refine zW ?_
      | refine zN ?_
      | refine zV ?_
      | refine ze ?_
      | refine zP ?_
      | refine zY ?_
      | refine zS rfl ?_
      | refine zd ?_
      | refine zX ?_
      | refine zO ?_
      | refine zT ?_
      | refine zL ?_
      | (refine zC (id := 0) ?_; intro K hK; refine zH (k := ?_); (refine zD (hK _ _ ?_); clear hK K))
      | (refine z3 (id := 1) (h := ?_); intro K hK; refine zF (k := ?_); refine zf (k' := ?_); refine zF (k := ?_); ((first | (refine zA (k := ?_); refine zF (k := ?_)) | refine zE (k := ?_) | ((refine zG (yes := (fun ht => ?_)) (no := (fun ht => ?_)) <;> (try simp at ht) <;> (try (exfalso; omega))) <;> (first | (refine zA (k := ?_); refine zF (k := ?_)) | refine zE (k := ?_))))) <;> (((first | (refine zA (k := ?_); refine zJ (k := ?_)) | refine zE (k := ?_) | ((refine zG (yes := (fun ht => ?_)) (no := (fun ht => ?_)) <;> (try simp at ht) <;> (try (exfalso; omega))) <;> (first | (refine zA (k := ?_); refine zJ (k := ?_)) | refine zE (k := ?_))))) <;> (((first | (refine zA (k := ?_); refine zB (k := ?_)) | refine zE (k := ?_) | ((refine zG (yes := (fun ht => ?_)) (no := (fun ht => ?_)) <;> (try simp at ht) <;> (try (exfalso; omega))) <;> (first | (refine zA (k := ?_); refine zB (k := ?_)) | refine zE (k := ?_))))) <;> (((first | (refine zA (k := ?_); refine zM (k := ?_)) | refine zE (k := ?_) | ((refine zG (yes := (fun ht => ?_)) (no := (fun ht => ?_)) <;> (try simp at ht) <;> (try (exfalso; omega))) <;> (first | (refine zA (k := ?_); refine zM (k := ?_)) | refine zE (k := ?_))))) <;> (((first | (refine zA (k := ?_); refine zF (k := ?_)) | refine zE (k := ?_) | ((refine zG (yes := (fun ht => ?_)) (no := (fun ht => ?_)) <;> (try simp at ht) <;> (try (exfalso; omega))) <;> (first | (refine zA (k := ?_); refine zF (k := ?_)) | refine zE (k := ?_))))) <;> ((refine zE (k := ?_)) <;> (((first | (refine zA (k := ?_); refine zF (k := ?_)) | refine zE (k := ?_) | ((refine zG (yes := (fun ht => ?_)) (no := (fun ht => ?_)) <;> (try simp at ht) <;> (try (exfalso; omega))) <;> (first | (refine zA (k := ?_); refine zF (k := ?_)) | refine zE (k := ?_))))) <;> (((first | (refine zA (k := ?_); refine zF (k := ?_)) | refine zE (k := ?_) | ((refine zG (yes := (fun ht => ?_)) (no := (fun ht => ?_)) <;> (try simp at ht) <;> (try (exfalso; omega))) <;> (first | (refine zA (k := ?_); refine zF (k := ?_)) | refine zE (k := ?_))))) <;> (((first | (refine zA (k := ?_); refine zF (k := ?_)) | refine zE (k := ?_) | ((refine zG (yes := (fun ht => ?_)) (no := (fun ht => ?_)) <;> (try simp at ht) <;> (try (exfalso; omega))) <;> (first | (refine zA (k := ?_); refine zF (k := ?_)) | refine zE (k := ?_))))) <;> (((first | (refine zA (k := ?_); refine zJ (k := ?_)) | refine zE (k := ?_) | ((refine zG (yes := (fun ht => ?_)) (no := (fun ht => ?_)) <;> (try simp at ht) <;> (try (exfalso; omega))) <;> (first | (refine zA (k := ?_); refine zJ (k := ?_)) | refine zE (k := ?_))))) <;> (((first | (refine zA (k := ?_); refine zB (k := ?_)) | refine zE (k := ?_) | ((refine zG (yes := (fun ht => ?_)) (no := (fun ht => ?_)) <;> (try simp at ht) <;> (try (exfalso; omega))) <;> (first | (refine zA (k := ?_); refine zB (k := ?_)) | refine zE (k := ?_))))) <;> (((first | (refine zA (k := ?_); refine zM (k := ?_)) | refine zE (k := ?_) | ((refine zG (yes := (fun ht => ?_)) (no := (fun ht => ?_)) <;> (try simp at ht) <;> (try (exfalso; omega))) <;> (first | (refine zA (k := ?_); refine zM (k := ?_)) | refine zE (k := ?_))))) <;> (((first | (refine zA (k := ?_); refine zF (k := ?_)) | refine zE (k := ?_) | ((refine zG (yes := (fun ht => ?_)) (no := (fun ht => ?_)) <;> (try simp at ht) <;> (try (exfalso; omega))) <;> (first | (refine zA (k := ?_); refine zF (k := ?_)) | refine zE (k := ?_))))) <;> (((first | (refine zA (k := ?_); refine zJ (k := ?_)) | refine zE (k := ?_) | ((refine zG (yes := (fun ht => ?_)) (no := (fun ht => ?_)) <;> (try simp at ht) <;> (try (exfalso; omega))) <;> (first | (refine zA (k := ?_); refine zJ (k := ?_)) | refine zE (k := ?_))))) <;> (((first | (refine zA (k := ?_); refine zB (k := ?_)) | refine zE (k := ?_) | ((refine zG (yes := (fun ht => ?_)) (no := (fun ht => ?_)) <;> (try simp at ht) <;> (try (exfalso; omega))) <;> (first | (refine zA (k := ?_); refine zB (k := ?_)) | refine zE (k := ?_))))) <;> (((first | (refine zA (k := ?_); refine zo (k := ?_)) | refine zE (k := ?_) | ((refine zG (yes := (fun ht => ?_)) (no := (fun ht => ?_)) <;> (try simp at ht) <;> (try (exfalso; omega))) <;> (first | (refine zA (k := ?_); refine zo (k := ?_)) | refine zE (k := ?_))))) <;> ((refine zE (k := ?_)) <;> (((first | (refine zA (k := ?_); (first | refine zZ (k := ?_) | refine za (k := ?_) | refine zg (k := ?_))) | refine zE (k := ?_) | ((refine zG (yes := (fun ht => ?_)) (no := (fun ht => ?_)) <;> (try simp at ht) <;> (try (exfalso; omega))) <;> (first | (refine zA (k := ?_); (first | refine zZ (k := ?_) | refine za (k := ?_) | refine zg (k := ?_))) | refine zE (k := ?_))))) <;> (((first | (refine zA (k := ?_); refine zF (k := ?_)) | refine zE (k := ?_) | ((refine zG (yes := (fun ht => ?_)) (no := (fun ht => ?_)) <;> (try simp at ht) <;> (try (exfalso; omega))) <;> (first | (refine zA (k := ?_); refine zF (k := ?_)) | refine zE (k := ?_))))) <;> (((first | (refine zA (k := ?_); refine zF (k := ?_)) | refine zE (k := ?_) | ((refine zG (yes := (fun ht => ?_)) (no := (fun ht => ?_)) <;> (try simp at ht) <;> (try (exfalso; omega))) <;> (first | (refine zA (k := ?_); refine zF (k := ?_)) | refine zE (k := ?_))))) <;> (((first | (refine zA (k := ?_); refine zJ (k := ?_)) | refine zE (k := ?_) | ((refine zG (yes := (fun ht => ?_)) (no := (fun ht => ?_)) <;> (try simp at ht) <;> (try (exfalso; omega))) <;> (first | (refine zA (k := ?_); refine zJ (k := ?_)) | refine zE (k := ?_))))) <;> (((first | (refine zA (k := ?_); refine zB (k := ?_)) | refine zE (k := ?_) | ((refine zG (yes := (fun ht => ?_)) (no := (fun ht => ?_)) <;> (try simp at ht) <;> (try (exfalso; omega))) <;> (first | (refine zA (k := ?_); refine zB (k := ?_)) | refine zE (k := ?_))))) <;> (((first | (refine zA (k := ?_); refine zM (k := ?_)) | refine zE (k := ?_) | ((refine zG (yes := (fun ht => ?_)) (no := (fun ht => ?_)) <;> (try simp at ht) <;> (try (exfalso; omega))) <;> (first | (refine zA (k := ?_); refine zM (k := ?_)) | refine zE (k := ?_))))) <;> (((first | (refine zA (k := ?_); refine zF (k := ?_)) | refine zE (k := ?_) | ((refine zG (yes := (fun ht => ?_)) (no := (fun ht => ?_)) <;> (try simp at ht) <;> (try (exfalso; omega))) <;> (first | (refine zA (k := ?_); refine zF (k := ?_)) | refine zE (k := ?_))))) <;> ((refine zE (k := ?_)) <;> (((first | (refine zA (k := ?_); (first | refine zZ (k := ?_) | refine za (k := ?_) | refine zg (k := ?_))) | refine zE (k := ?_) | ((refine zG (yes := (fun ht => ?_)) (no := (fun ht => ?_)) <;> (try simp at ht) <;> (try (exfalso; omega))) <;> (first | (refine zA (k := ?_); (first | refine zZ (k := ?_) | refine za (k := ?_) | refine zg (k := ?_))) | refine zE (k := ?_))))) <;> ((first | refine zZ (k := ?_) | refine za (k := ?_) | refine zg (k := ?_)); refine zH (k := ?_); (refine zD (hK _ _ ?_); clear hK K))))))))))))))))))))))))))))
      | (refine zc (ht := (fun ht => ?_)) (hf := (fun ht => ?_)) <;> (try simp at ht) <;> (try (exfalso; omega))))
    exact ⟨Or.inr rfl, _, [TrA .nil none, J pre0], tr_nil, res1 rfl rfl, .inl ⟨rfl, by simp [Tree.inorder]⟩⟩
  | .node tl k n lv tr, a, pre0, hY => by
    have ihl := fun a => walk_spec q J Jx tl a pre0 (fun pre x rest hx => hY pre x (rest ++ (k, n) :: tr.inorder) (by simp [Tree.inorder, hx]))
    have hy := hY tl.inorder (k, n) tr.inorder rfl
    have ihr := fun a => walk_spec q J Jx tr a (pre0 ++ tl.inorder ++ [(k, n)]) (fun pre x rest hx => by
      have := hY (tl.inorder ++ (k, n) :: pre) x rest (by simp [Tree.inorder, hx])
      simpa using this)
    refine spec_of (args := [_, _]) Tryz.func113 rfl rfl rfl ?_
    refine yQ (fun b la ra e => ?_)
    subst e
    repeat' (first
      | refine zi ?_
      | refine zK ?_
      | refine zQ (h := ?_)
      | refine zU (h := ?_)
      | refine zj ?_
      | refine zR ?_
      | refine zW ?_
      | refine zN ?_
      | refine zV ?_
      | refine ze ?_
      | refine zP ?_
      | refine zY ?_
      | refine zS rfl ?_
      | refine zd ?_
      | refine zX ?_
      | refine zO ?_
      | refine zT ?_
      | refine zL ?_
      | (refine zC (id := 0) ?_; intro K hK; refine zH (k := ?_); (refine zD (hK _ _ ?_); clear hK K))
      | (refine yp (id := 1) (M := ([cb b [.string k, .int .i64 n.a, .int .i64 n.b, .bool n.c, .string n.d, .int .i64 lv, .pointer la, .pointer ra] 173])) (Ls := [6, 11, 19, 23, 30]) (hp := (Pick.perm (by (repeat (first | exact Pick.nil | apply Pick.cons (by (repeat (first | exact Out.head | apply Out.tail)); (first | done | fail)))); (first | done | fail)))) (h := ?_); intro K hK; refine zF (k := ?_); refine zf (k' := ?_); refine zF (k := ?_); ((first | (refine zA (k := ?_); refine zF (k := ?_)) | refine zE (k := ?_) | ((refine zG (yes := (fun ht => ?_)) (no := (fun ht => ?_)) <;> (try simp at ht) <;> (try (exfalso; omega))) <;> (first | (refine zA (k := ?_); refine zF (k := ?_)) | refine zE (k := ?_))))) <;> (((first | (refine zA (k := ?_); refine zJ (k := ?_)) | refine zE (k := ?_) | ((refine zG (yes := (fun ht => ?_)) (no := (fun ht => ?_)) <;> (try simp at ht) <;> (try (exfalso; omega))) <;> (first | (refine zA (k := ?_); refine zJ (k := ?_)) | refine zE (k := ?_))))) <;> (((first | (refine zA (k := ?_); refine zB (k := ?_)) | refine zE (k := ?_) | ((refine zG (yes := (fun ht => ?_)) (no := (fun ht => ?_)) <;> (try simp at ht) <;> (try (exfalso; omega))) <;> (first | (refine zA (k := ?_); refine zB (k := ?_)) | refine zE (k := ?_))))) <;> (((first | (refine zA (k := ?_); refine z2 (k := ?_)) | refine zE (k := ?_) | ((refine zG (yes := (fun ht => ?_)) (no := (fun ht => ?_)) <;> (try simp at ht) <;> (try (exfalso; omega))) <;> (first | (refine zA (k := ?_); refine z2 (k := ?_)) | refine zE (k := ?_))))) <;> (((first | (refine zA (k := ?_); refine zF (k := ?_)) | refine zE (k := ?_) | ((refine zG (yes := (fun ht => ?_)) (no := (fun ht => ?_)) <;> (try simp at ht) <;> (try (exfalso; omega))) <;> (first | (refine zA (k := ?_); refine zF (k := ?_)) | refine zE (k := ?_))))) <;> (((first | (refine zA (k := ?_); (refine zb (hs := (ihl la)) (k := ?_); rintro v A' (⟨rfl, rfl⟩ | ⟨rfl, pre, x, rest, hx, rfl⟩) <;> simp only [List.cons_append, List.nil_append])) | refine zE (k := ?_) | ((refine zG (yes := (fun ht => ?_)) (no := (fun ht => ?_)) <;> (try simp at ht) <;> (try (exfalso; omega))) <;> (first | (refine zA (k := ?_); (refine zb (hs := (ihl la)) (k := ?_); rintro v A' (⟨rfl, rfl⟩ | ⟨rfl, pre, x, rest, hx, rfl⟩) <;> simp only [List.cons_append, List.nil_append])) | refine zE (k := ?_))))) <;> (((first | (refine zA (k := ?_); refine zF (k := ?_)) | refine zE (k := ?_) | ((refine zG (yes := (fun ht => ?_)) (no := (fun ht => ?_)) <;> (try simp at ht) <;> (try (exfalso; omega))) <;> (first | (refine zA (k := ?_); refine zF (k := ?_)) | refine zE (k := ?_))))) <;> (((first | (refine zA (k := ?_); refine zF (k := ?_)) | refine zE (k := ?_) | ((refine zG (yes := (fun ht => ?_)) (no := (fun ht => ?_)) <;> (try simp at ht) <;> (try (exfalso; omega))) <;> (first | (refine zA (k := ?_); refine zF (k := ?_)) | refine zE (k := ?_))))) <;> (((first | (refine zA (k := ?_); refine zF (k := ?_)) | refine zE (k := ?_) | ((refine zG (yes := (fun ht => ?_)) (no := (fun ht => ?_)) <;> (try simp at ht) <;> (try (exfalso; omega))) <;> (first | (refine zA (k := ?_); refine zF (k := ?_)) | refine zE (k := ?_))))) <;> (((first | (refine zA (k := ?_); refine zJ (k := ?_)) | refine zE (k := ?_) | ((refine zG (yes := (fun ht => ?_)) (no := (fun ht => ?_)) <;> (try simp at ht) <;> (try (exfalso; omega))) <;> (first | (refine zA (k := ?_); refine zJ (k := ?_)) | refine zE (k := ?_))))) <;> (((first | (refine zA (k := ?_); refine zB (k := ?_)) | refine zE (k := ?_) | ((refine zG (yes := (fun ht => ?_)) (no := (fun ht => ?_)) <;> (try simp at ht) <;> (try (exfalso; omega))) <;> (first | (refine zA (k := ?_); refine zB (k := ?_)) | refine zE (k := ?_))))) <;> (((first | (refine zA (k := ?_); refine z2 (k := ?_)) | refine zE (k := ?_) | ((refine zG (yes := (fun ht => ?_)) (no := (fun ht => ?_)) <;> (try simp at ht) <;> (try (exfalso; omega))) <;> (first | (refine zA (k := ?_); refine z2 (k := ?_)) | refine zE (k := ?_))))) <;> (((first | (refine zA (k := ?_); refine zF (k := ?_)) | refine zE (k := ?_) | ((refine zG (yes := (fun ht => ?_)) (no := (fun ht => ?_)) <;> (try simp at ht) <;> (try (exfalso; omega))) <;> (first | (refine zA (k := ?_); refine zF (k := ?_)) | refine zE (k := ?_))))) <;> (((first | (refine zA (k := ?_); refine zJ (k := ?_)) | refine zE (k := ?_) | ((refine zG (yes := (fun ht => ?_)) (no := (fun ht => ?_)) <;> (try simp at ht) <;> (try (exfalso; omega))) <;> (first | (refine zA (k := ?_); refine zJ (k := ?_)) | refine zE (k := ?_))))) <;> (((first | (refine zA (k := ?_); refine zB (k := ?_)) | refine zE (k := ?_) | ((refine zG (yes := (fun ht => ?_)) (no := (fun ht => ?_)) <;> (try simp at ht) <;> (try (exfalso; omega))) <;> (first | (refine zA (k := ?_); refine zB (k := ?_)) | refine zE (k := ?_))))) <;> (((first | (refine zA (k := ?_); refine yC (k := ?_)) | refine zE (k := ?_) | ((refine zG (yes := (fun ht => ?_)) (no := (fun ht => ?_)) <;> (try simp at ht) <;> (try (exfalso; omega))) <;> (first | (refine zA (k := ?_); refine yC (k := ?_)) | refine zE (k := ?_))))) <;> (((first | (refine zA (k := ?_); (refine xA (hs := hy) (k := ?_); rintro v A' (⟨rfl, rfl⟩ | ⟨rfl, rfl⟩) <;> simp only [List.cons_append, List.nil_append])) | refine zE (k := ?_) | ((refine zG (yes := (fun ht => ?_)) (no := (fun ht => ?_)) <;> (try simp at ht) <;> (try (exfalso; omega))) <;> (first | (refine zA (k := ?_); (refine xA (hs := hy) (k := ?_); rintro v A' (⟨rfl, rfl⟩ | ⟨rfl, rfl⟩) <;> simp only [List.cons_append, List.nil_append])) | refine zE (k := ?_))))) <;> (((first | (refine zA (k := ?_); (first | refine zZ (k := ?_) | refine za (k := ?_) | refine zg (k := ?_))) | refine zE (k := ?_) | ((refine zG (yes := (fun ht => ?_)) (no := (fun ht => ?_)) <;> (try simp at ht) <;> (try (exfalso; omega))) <;> (first | (refine zA (k := ?_); (first | refine zZ (k := ?_) | refine za (k := ?_) | refine zg (k := ?_))) | refine zE (k := ?_))))) <;> (((first | (refine zA (k := ?_); refine zF (k := ?_)) | refine zE (k := ?_) | ((refine zG (yes := (fun ht => ?_)) (no := (fun ht => ?_)) <;> (try simp at ht) <;> (try (exfalso; omega))) <;> (first | (refine zA (k := ?_); refine zF (k := ?_)) | refine zE (k := ?_))))) <;> (((first | (refine zA (k := ?_); refine zF (k := ?_)) | refine zE (k := ?_) | ((refine zG (yes := (fun ht => ?_)) (no := (fun ht => ?_)) <;> (try simp at ht) <;> (try (exfalso; omega))) <;> (first | (refine zA (k := ?_); refine zF (k := ?_)) | refine zE (k := ?_))))) <;> (((first | (refine zA (k := ?_); refine zJ (k := ?_)) | refine zE (k := ?_) | ((refine zG (yes := (fun ht => ?_)) (no := (fun ht => ?_)) <;> (try simp at ht) <;> (try (exfalso; omega))) <;> (first | (refine zA (k := ?_); refine zJ (k := ?_)) | refine zE (k := ?_))))) <;> (((first | (refine zA (k := ?_); refine zB (k := ?_)) | refine zE (k := ?_) | ((refine zG (yes := (fun ht => ?_)) (no := (fun ht => ?_)) <;> (try simp at ht) <;> (try (exfalso; omega))) <;> (first | (refine zA (k := ?_); refine zB (k := ?_)) | refine zE (k := ?_))))) <;> (((first | (refine zA (k := ?_); refine z2 (k := ?_)) | refine zE (k := ?_) | ((refine zG (yes := (fun ht => ?_)) (no := (fun ht => ?_)) <;> (try simp at ht) <;> (try (exfalso; omega))) <;> (first | (refine zA (k := ?_); refine z2 (k := ?_)) | refine zE (k := ?_))))) <;> (((first | (refine zA (k := ?_); refine zF (k := ?_)) | refine zE (k := ?_) | ((refine zG (yes := (fun ht => ?_)) (no := (fun ht => ?_)) <;> (try simp at ht) <;> (try (exfalso; omega))) <;> (first | (refine zA (k := ?_); refine zF (k := ?_)) | refine zE (k := ?_))))) <;> (((first | (refine zA (k := ?_); (refine zb (hs := (ihr ra)) (k := ?_); rintro v A' (⟨rfl, rfl⟩ | ⟨rfl, pre, x, rest, hx, rfl⟩) <;> simp only [List.cons_append, List.nil_append])) | refine zE (k := ?_) | ((refine zG (yes := (fun ht => ?_)) (no := (fun ht => ?_)) <;> (try simp at ht) <;> (try (exfalso; omega))) <;> (first | (refine zA (k := ?_); (refine zb (hs := (ihr ra)) (k := ?_); rintro v A' (⟨rfl, rfl⟩ | ⟨rfl, pre, x, rest, hx, rfl⟩) <;> simp only [List.cons_append, List.nil_append])) | refine zE (k := ?_))))) <;> (((first | (refine zA (k := ?_); (first | refine zZ (k := ?_) | refine za (k := ?_) | refine zg (k := ?_))) | refine zE (k := ?_) | ((refine zG (yes := (fun ht => ?_)) (no := (fun ht => ?_)) <;> (try simp at ht) <;> (try (exfalso; omega))) <;> (first | (refine zA (k := ?_); (first | refine zZ (k := ?_) | refine za (k := ?_) | refine zg (k := ?_))) | refine zE (k := ?_))))) <;> ((first | refine zZ (k := ?_) | refine za (k := ?_) | refine zg (k := ?_)); refine zH (k := ?_); (refine zD (hK _ _ ?_); clear hK K; try simp only [List.cons_append, List.nil_append]))))))))))))))))))))))))))))
      | (refine zc (ht := (fun ht => ?_)) (hf := (fun ht => ?_)) <;> (try simp at ht) <;> (try (exfalso; omega))))
    · exact ⟨Or.inr rfl, _, [TrA (.node tl k n lv tr) (some ⟨b, 0, none⟩), J (pre0 ++ tl.inorder ++ [(k, n)] ++ tr.inorder)], Ent_foldTr (b := b) (by (repeat (first | exact Out.head | apply Out.tail)); (first | done | fail)) (by (repeat (first | exact Out.head | apply Out.tail)); (first | done | fail)) (by (repeat (first | exact Out.head | apply Out.tail)); (first | done | fail)) (Ent.refl _), res1 rfl rfl, .inl ⟨rfl, by simp [Tree.inorder]⟩⟩
    · exact ⟨Or.inr rfl, _, [TrA (.node tl k n lv tr) (some ⟨b, 0, none⟩), Jx (pre0 ++ tl.inorder ++ [(k, n)] ++ pre ++ [x])], Ent_foldTr (b := b) (by (repeat (first | exact Out.head | apply Out.tail)); (first | done | fail)) (by (repeat (first | exact Out.head | apply Out.tail)); (first | done | fail)) (by (repeat (first | exact Out.head | apply Out.tail)); (first | done | fail)) (Ent.refl _), res1 rfl rfl, .inr ⟨rfl, tl.inorder ++ (k, n) :: pre, x, rest, by simp [Tree.inorder, hx], by simp⟩⟩
    · exact ⟨Or.inr rfl, _, [TrA (.node tl k n lv tr) (some ⟨b, 0, none⟩), Jx (pre0 ++ tl.inorder ++ [(k, n)])], Ent_foldTr (b := b) (by (repeat (first | exact Out.head | apply Out.tail)); (first | done | fail)) (by (repeat (first | exact Out.head | apply Out.tail)); (first | done | fail)) (by (repeat (first | exact Out.head | apply Out.tail)); (first | done | fail)) (Ent.refl _), res1 rfl rfl, .inr ⟨rfl, tl.inorder, (k, n), tr.inorder, rfl, rfl⟩⟩
    · exact ⟨Or.inr rfl, _, [TrA (.node tl k n lv tr) (some ⟨b, 0, none⟩), Jx (pre0 ++ pre ++ [x])], Ent_foldTr (b := b) (by (repeat (first | exact Out.head | apply Out.tail)); (first | done | fail)) (by (repeat (first | exact Out.head | apply Out.tail)); (first | done | fail)) (by (repeat (first | exact Out.head | apply Out.tail)); (first | done | fail)) (Ent.refl _), res1 rfl rfl, .inr ⟨rfl, pre, x, rest ++ (k, n) :: tr.inorder, by simp [Tree.inorder, hx], rfl⟩⟩
theorem mall_spec (x : Value) (a : Option Addr) (hx : x = .pointer a) : Fspec Tryz.prog B 92 #[x] [] (fun v A' => ∃ r, v = .func (.func 111) #[] #[.pointer (some ⟨r, 0, none⟩)] ∧ A' = [cb r [.pointer a] 80]) := by
  subst hx
  refine spec_of (args := [_]) Tryz.func92 rfl rfl rfl ?_
  repeat' (first
    | refine zi ?_
    | refine zK ?_
    | refine zQ (h := ?_)
    | refine zU (h := ?_)
    | refine zj ?_
    | refine zR ?_
    | refine zW ?_
    | refine zN ?_
    | refine zV ?_
    | refine ze ?_
    | refine zP ?_
    | refine zY ?_
    | refine zS rfl ?_
    | refine zd ?_
    | refine zX ?_
    | refine zO ?_
    | refine zT ?_
    | refine zL ?_
    | (refine zC (id := 0) ?_; intro K hK; (refine xQ (k := ?_); intro r); refine zH (k := ?_); (refine zD (hK _ _ ?_); clear hK K))
    | (refine zC (id := 1) ?_; intro K hK; refine y2 (k' := ?_); refine zH (k := ?_); (refine zD (hK _ _ ?_); clear hK K))
    | (refine zc (ht := (fun ht => ?_)) (hf := (fun ht => ?_)) <;> (try simp at ht) <;> (try (exfalso; omega))))
  exact ⟨Or.inr rfl, _, _, Ent.refl _, res1 rfl rfl, _, rfl, rfl⟩
def encP (x : ByteArray × VX) : List Value := [.string x.1, .agg #[.int .i64 x.2.a, .int .i64 x.2.b, .bool x.2.c, .string x.2.d]]
theorem all_seq (r p : Nat) (t : Tree) : SeqSpec Tryz.prog B 111 [] [.pointer (some ⟨r, 0, none⟩)] encP t.inorder [cb r [.pointer (some ⟨p, 0, none⟩)] 80, MpA p t] := by
  intro q J Jx hY
  have hw := fun a => walk_spec (B := B) q (fun pre => lst (cb r [.pointer (some ⟨p, 0, none⟩)] 80 :: MpA p t :: J pre)) (fun pre => lst (cb r [.pointer (some ⟨p, 0, none⟩)] 80 :: MpA p t :: Jx pre)) t a [] (fun pre x rest hx =>
    ((hY pre x rest hx).ent (by simpa using Ent.lst_open (cb r [.pointer (some ⟨p, 0, none⟩)] 80 :: MpA p t :: J pre) [])).conv (by
      rintro v A' (⟨rfl, rfl⟩ | ⟨rfl, rfl⟩)
      · exact ⟨_, by simpa using Ent.lst_shut (cb r [.pointer (some ⟨p, 0, none⟩)] 80 :: MpA p t :: J (pre ++ [x])) [], .inl ⟨rfl, rfl⟩⟩
      · exact ⟨_, by simpa using Ent.lst_shut (cb r [.pointer (some ⟨p, 0, none⟩)] 80 :: MpA p t :: Jx (pre ++ [x])) [], .inr ⟨rfl, rfl⟩⟩))
  refine spec_of (args := [_, _]) Tryz.func111 rfl rfl rfl ?_
  refine y7 (A' := [cb r [.pointer (some ⟨p, 0, none⟩)] 80, MpA p t, lst (J [])]) (((by simpa using Ent.lst_shut (J []) [] : Ent (J []) [lst (J [])]).cons _).cons _) ?_
  repeat' (first
    | refine zi ?_
    | refine zK ?_
    | refine zQ (h := ?_)
    | refine zU (h := ?_)
    | refine zj ?_
    | refine zR ?_
    | refine zW ?_
    | refine zN ?_
    | refine zV ?_
    | refine ze ?_
    | refine zP ?_
    | refine zY ?_
    | refine zS rfl ?_
    | refine zd ?_
    | refine zX ?_
    | refine zO ?_
    | refine zT ?_
    | refine zL ?_
    | (refine zC (id := 0) ?_; intro K hK; refine zM (k := ?_); refine yG (k' := ?_); (refine zD (hK _ _ ?_); clear hK K))
    | (refine zC (id := 1) ?_; intro K hK; refine zM (k := ?_); ((refine zb (hs := (mcopy_spec p t)) (k := ?_); rintro v A' ⟨m2, rfl, rfl⟩; refine xY (fun a' => ?_); simp only [MpX]; simp only [List.cons_append, List.nil_append])) <;> (refine zJ (k := ?_); refine zB (k := ?_); refine zM (k := ?_); refine zF (k := ?_); ((refine xV (x := cb r [.pointer (some ⟨p, 0, none⟩)] 80) (y := MpA p t) (L := J []) (by (repeat (first | exact Out.head | apply Out.tail)); (first | done | fail)) (by (repeat (first | exact Out.head | apply Out.tail)); (first | done | fail)) (by (repeat (first | exact Out.head | apply Out.tail)); (first | done | fail)) ?_; refine zb (hs := (hw a')) (k := ?_); rintro v A' (⟨rfl, rfl⟩ | ⟨rfl, pre, x, rest, hx, rfl⟩) <;> simp only [List.cons_append, List.nil_append])) <;> ((refine zD (hK _ _ ?_); clear hK K))))
    | (refine zc (ht := (fun ht => ?_)) (hf := (fun ht => ?_)) <;> (try simp at ht) <;> (try (exfalso; omega))))
  · exact ⟨Or.inl rfl, _, _, Ent_only (by (repeat (first | exact Out.head | apply Out.tail)); (first | done | fail)), res0 rfl, .inl rfl⟩
  · exact ⟨Or.inl rfl, _, _, Ent_only (by (repeat (first | exact Out.head | apply Out.tail)); (first | done | fail)), res0 rfl, .inr ⟨pre, x, rest, hx, rfl⟩⟩
end specs
end Go.Proofs.YtnoggejkkjngjaaGreat
