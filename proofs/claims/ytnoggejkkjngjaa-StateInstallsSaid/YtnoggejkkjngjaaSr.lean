/- A range over a function: a call of yield; the statement. No condition. -/
import Derived.RangeFuncNested
import Derived.Test.YtnoggejkkjngjaaSh
set_option linter.unusedVariables false
namespace Go.Sl
open Go

/-! ### A call of yield -/
@[reducible] def yv (l : Nat) : Value := .func (.yield l) #[] #[]
/-- What a loop's body does when it is called with 'args'. -/
def Yspec (P : Program) (B : Base) (l : Nat) (args : Array Value) (A : List Asn) (post : Value → List Asn → Prop) : Prop :=
  ∀ R w, Sat B w (R :: A) → ∃ fn tmps as bd, (Instr.yield l args).run P w = .ok (.round l fn tmps as bd) w ∧
    RoundIn Fence.wide 0 P l fn tmps as bd w fun e w' => ∃ v A', e = .returned v ∧ Sat B w' (R :: A') ∧ post v A'
theorem Yspec.mono {P : Program} {B : Base} {l : Nat} {args : Array Value} {A : List Asn} {post post' : Value → List Asn → Prop}
    (h : Yspec P B l args A post) (hp : ∀ v A, post v A → post' v A) : Yspec P B l args A post' := fun R w hs => by
  obtain ⟨fn, tmps, as, bd, h1, h2⟩ := h R w hs
  exact ⟨fn, tmps, as, bd, h1, h2.mono fun e w' ⟨v, A', q1, q2, q3⟩ => ⟨v, A', q1, q2, hp _ _ q3⟩⟩
theorem Yspec.ent {P : Program} {B : Base} {l : Nat} {args : Array Value} {A A' : List Asn} {post : Value → List Asn → Prop}
    (he : Ent A A') (h : Yspec P B l args A' post) : Yspec P B l args A post := fun R w hs => h R w (hs.entR he)
/-- What is known behind it is said anew. -/
theorem Yspec.conv {P : Program} {B : Base} {l : Nat} {args : Array Value} {A : List Asn} {post post' : Value → List Asn → Prop}
    (h : Yspec P B l args A post) (hp : ∀ v A, post v A → ∃ A', Ent A A' ∧ post' v A') : Yspec P B l args A post' := fun R w hs => by
  obtain ⟨fn, tmps, as, bd, h1, h2⟩ := h R w hs
  refine ⟨fn, tmps, as, bd, h1, h2.mono fun e w' ⟨v, A', q1, q2, q3⟩ => ?_⟩
  obtain ⟨A2, he, hq⟩ := hp _ _ q3
  exact ⟨v, A2, q1, q2.entR he, hq⟩
/-- What the body does not need lies aside. -/
theorem Yspec.frame {P : Program} {B : Base} {l : Nat} {args : Array Value} {A M : List Asn} {post : Value → List Asn → Prop}
    (h : Yspec P B l args A post) : Yspec P B l args (M ++ A) (fun v A' => ∃ A2, A' = M ++ A2 ∧ post v A2) := fun R w hs => by
  obtain ⟨fn, tmps, as, bd, h1, h2⟩ := h (lst (R :: M)) w (hs.ent (Ent.lst_shut (R :: M) A))
  exact ⟨fn, tmps, as, bd, h1, h2.mono fun e w' ⟨v, A', q1, q2, q3⟩ => ⟨v, M ++ A', q1, q2.ent (Ent.lst_open (R :: M) A'), A', rfl, q3⟩⟩
theorem Fspec.frame {P : Program} {B : Base} {f : FuncId} {args : Array Value} {A M : List Asn} {post : Value → List Asn → Prop}
    (h : Fspec P B f args A post) : Fspec P B f args (M ++ A) (fun v A' => ∃ A2, A' = M ++ A2 ∧ post v A2) := fun R w hs =>
  (h (lst (R :: M)) w (hs.ent (Ent.lst_shut (R :: M) A))).mono fun e w' ⟨v, A', q1, q2, q3⟩ => ⟨v, M ++ A', q1, q2.ent (Ent.lst_open (R :: M) A'), A', rfl, q3⟩
theorem Fspec.conv {P : Program} {B : Base} {f : FuncId} {args : Array Value} {A : List Asn} {post post' : Value → List Asn → Prop}
    (h : Fspec P B f args A post) (hp : ∀ v A, post v A → ∃ A', Ent A A' ∧ post' v A') : Fspec P B f args A post' := fun R w hs => by
  refine (h R w hs).mono fun e w' ⟨v, A', q1, q2, q3⟩ => ?_
  obtain ⟨A2, he, hq⟩ := hp _ _ q3
  exact ⟨v, A2, q1, q2.entR he, hq⟩

section ops
variable {P : Program} {B : Base} {N : Nat} {fm : Fm} {ops rest : List Oper} {F : Fr} {A : List Asn} {K : Fr → List Asn → Prop} {d : Nat} {T : TypeId} {pos : String} {aft : Array Edge} {x : Operand}
theorem Wl_yield {l : Nat} {xs : List Operand} {ts : Array TypeId} {args : List Value} {A1 M : List Asn} {post : Value → List Asn → Prop} (hd : Nat.blt d N = true := by exact rfl)
    (hx : ev F x = yv l := by exact rfl) (ha : EvL F xs args := by (repeat (first | exact EvL.nil | apply EvL.cons (by (repeat (first | exact Ev.here | exact Ev.const | exact Ev.arg rfl | apply Ev.there rfl | exact Ev.none rfl | exact Ev.func | exact Ev.var)); (first | done | fail)))); (first | done | fail)) (hs : Yspec P B l args.toArray A1 post) (hp : Pick A A1 M := by (repeat (first | exact Pick.nil | apply Pick.cons (by (repeat (first | exact Out.head | apply Out.tail)); (first | done | fail)))); (first | done | fail))
    (k : ∀ v A', post v A' → Wl P B N fm ops rest (upd F d v) (A' ++ M) K) : Wl P B N fm ops (⟨some d, .call ⟨.value x, xs.toArray, ts⟩, T, pos, aft, none⟩ :: rest) F A K :=
  Wl_op rfl rfl fun R hE a w hr hsat => by
    have h1 : Sat B w (lst (R :: M) :: A1) := (hsat.perm ((hp.perm.cons R).trans (List.perm_middle.symm.trans List.perm_append_comm))).ent (Ent.lst_shut (R :: M) A1)
    obtain ⟨fn, tmps, as, bd, q1, q2⟩ := hs _ w h1
    have hrun : (execOp (ev F) ⟨some d, .call ⟨.value x, xs.toArray, ts⟩, T, pos, aft, none⟩).run P w = .ok (.round l fn tmps as bd) w := by
      have h2 := ha.eq
      subst h2
      simp only [execOp, resolve, hx, Deferred.ofValue, invoke, Sem.run_bind, Sem.run_pure, Result.andThen_ok]
      simpa using q1
    rw [hrun, Oper.upY_round]
    refine q2.mono ?_
    rintro e w' ⟨v, A', rfl, hsat', hpost⟩
    have h2 : Sat B w' (R :: (A' ++ M)) := (hsat'.ent (Ent.lst_open (R :: M) A')).perm (List.perm_append_comm.cons R)
    exact ⟨h2.hd, k v A' hpost R hE _ w' (hr.put (by simpa [Nat.blt_eq] using hd) v) h2⟩
end ops

/-! ### The statement -/
def ups (F : Fr) : List (Nat × Value) → Fr
  | [] => F
  | (d, v) :: r => ups (upd F d v) r
theorem Rep.ups {N : Nat} : ∀ (l : List (Nat × Value)) {t : Array Value} {F : Fr} {ds ds' : List Deferred}, Rep N ⟨t, ds⟩ F → (∀ p ∈ l, p.1 < N) →
    Rep N ⟨l.foldl (fun tmps (p : Nat × Value) => tmps.setIfInBounds p.1 p.2) t, ds'⟩ (ups F l)
  | [], _, _, _, _, h, _ => ⟨h.size, h.get⟩
  | (d, v) :: l, t, F, ds, ds', h, hl => by
    have h1 := h.put (hl (d, v) (List.mem_cons_self ..)) v
    exact Rep.ups l (ds := ds) (ds' := ds') (t := t.setIfInBounds d v) h1 (fun p hp => hl p (List.mem_cons_of_mem _ hp))

def jumpOf : Exit → Option Code
  | .ret => some .ret
  | .exit id => some (.exit id)
  | .goto t => some (.goto t)
  | _ => none

section stmt
variable {P : Program} {B : Base} {N : Nat} {F : Fr} {A : List Asn} {Q : Exit → Fr → List Asn → Prop}

/-- What the loop's record is while no round is under way; what is left when a round has ended the loop by a jump. -/
def jx {α : Type} (l : Nat) (r : Loop) (Ix : Code → List α → List Asn) (pre : List α) : Asn :=
  exN fun c : Code => pt l (.loop { r with state := .done, pending := some c }) :: Ix c pre

/-- One round: the assignment to the loop's variables, the body. -/
def Round (P : Program) (B : Base) (N : Nat) (F : Fr) (ps : List Nat) (assign body : Code) (vs : List Value) (A : List Asn) (good : List Asn) (bad : Code → List Asn) : Prop :=
  Wc P B N assign (ups F (ps.zip vs)) A (fun e F' A' => e = .normal ∧ Wc P B N body F' A' (fun e' _ A2 => (e' = .normal ∧ Ent A2 good) ∨ ∃ c, jumpOf e' = some c ∧ Ent A2 (bad c)))

theorem round_spec {F0 : Fr} {ps : List Nat} {assign body : Code} {vs : List Value} {A good : List Asn} {bad : Code → List Asn} {l : Nat} {r : Loop} {t0 : Array Value} {ds : List Deferred}
    (hrep : Rep N ⟨t0, ds⟩ F) (hps : ∀ p ∈ ps, p < N) (hlen : vs.length = ps.length) (hst : r.state = .ready) (hrp : r.params = ps.toArray) (hrt : r.tmps = t0) (hra : r.assign = assign) (hrb : r.body = body)
    (h : Round P B N F ps assign body vs A good bad) :
    Yspec P B l vs.toArray (pt l (.loop r) :: A) (fun v A' => (v = .bool true ∧ A' = pt l (.loop { r with state := .ready, pending := none }) :: good) ∨
      ∃ c, v = .bool false ∧ A' = pt l (.loop { r with state := .done, pending := some c }) :: bad c) := fun R w hs => by
  subst hra hrb
  have hp : Sat B w (pt l (.loop r) :: R :: A) := hs.perm (.swap ..)
  have hl := (hp.get (List.mem_cons_self ..)).2
  refine ⟨_, _, _, _, run_yield hl (by simp [hrp, hlen]), ?_⟩
  have lput : ∀ {w : World} {r1 : Loop} (r2 : Loop) {L : List Asn}, Sat B w (pt l (.loop r1) :: L) → Sat B (w.putObj l (.loop r2)) (pt l (.loop r2) :: L) := fun {w r1} r2 {L} h => by
    have hh := (h.get (List.mem_cons_self ..)).2
    exact Sat.put (w := w) (o := .loop r1) (show Io w (w.putObj l _) from ⟨rfl, rfl, rfl⟩) (by simp) (fun x hx => World.putObj_heap_other hx) (World.putObj_heap_same (Array.getElem?_eq_some_iff.1 hh).1) h
  have hk : ∀ r1 : Loop, Rk (some l) (lst [R, pt l (.loop r1)]) := fun r1 l' e => by
    cases e
    refine ⟨r1, (Ent.lst_open [R, pt l (.loop r1)] []).trans (Ent.drop R)⟩
  have hz : ((r.params.zip vs.toArray).foldl (fun tmps (t, a) => tmps.setIfInBounds t a) r.tmps) = (ps.zip vs).foldl (fun tmps (p : Nat × Value) => tmps.setIfInBounds p.1 p.2) t0 := by
    rw [hrp, hrt, List.zip_toArray, List.foldl_toArray]
  have hrep' : Rep N ⟨(r.params.zip vs.toArray).foldl (fun tmps (t, a) => tmps.setIfInBounds t a) r.tmps, []⟩ (ups F (ps.zip vs)) := by
    rw [hz]
    exact Rep.ups _ hrep (fun p hp => hps _ (List.of_mem_zip hp).1)
  refine roundIn_of_wpIn trivial ?_
  have s1 : Sat B w (lst [R, pt l (.loop r)] :: A) := hs.ent (Ent.lst_shut [R, pt l (.loop r)] A)
  refine wpIn_mono (h (some l) _ _ w (hk r) hrep' s1) ?_
  rintro e a1 w1 ⟨Ds, F1, A1, hd1, hr1, hs1, rfl, hb⟩
  have s2 : Sat B w1 (pt l (.loop r) :: R :: (List.map dk Ds ++ A1)) := (hs1.ent (Ent.lst_open [R, pt l (.loop r)] (List.map dk Ds ++ A1))).perm (.swap ..)
  have hl1 := (s2.get (List.mem_cons_self ..)).2
  have s3 := lput { r with state := .busy } s2
  refine ⟨_, run_beginRound hl1 hst, ?_⟩
  have s4 : Sat B (w1.putObj l (.loop { r with state := .busy })) (lst [R, pt l (.loop { r with state := .busy })] :: A1) :=
    ((s3.perm (.swap ..)).ent (((Ent.nil.trans (Ent.refl []) : Ent (List.map dk Ds) []).appR A1 |>.cons _).cons R)).ent (Ent.lst_shut [R, pt l (.loop { r with state := .busy })] A1)
  refine wpIn_mono (hb (some l) _ a1 _ (hk _) hr1 s4) ?_
  rintro e2 a2 w2 ⟨Ds2, F2, A2, hd2, hr2, hs2, hq⟩
  have s5 : Sat B w2 (pt l (.loop { r with state := .busy }) :: R :: A2) :=
    ((hs2.ent (Ent.lst_open [R, pt l (.loop { r with state := .busy })] (List.map dk Ds2 ++ A2))).ent ((((Ent.nil : Ent (List.map dk Ds2) []).appR A2).cons _).cons R)).perm (.swap ..)
  have hl2 := (s5.get (List.mem_cons_self ..)).2
  rcases hq with ⟨rfl, hE⟩ | ⟨c, hc, hE⟩
  · refine ⟨_, _, run_endRound none hl2, _, pt l (.loop { r with state := .ready, pending := none }) :: good, rfl, ?_, .inl ⟨rfl, rfl⟩⟩
    exact ((lput { r with state := .ready, pending := none } s5).ent ((hE.cons R).cons _)).perm (.swap ..)
  · have fin : ∀ c, Ent A2 (bad c) → ∃ v w', (Instr.endRound l (some c)).run P w2 = .ok v w' ∧ ∃ v' A', Ending.returned v = .returned v' ∧ Sat B w' (R :: A') ∧
        ((v' = .bool true ∧ A' = pt l (.loop { r with state := .ready, pending := none }) :: good) ∨ ∃ c, v' = .bool false ∧ A' = pt l (.loop { r with state := .done, pending := some c }) :: bad c) := fun c hE => by
      refine ⟨_, _, run_endRound (some c) hl2, _, pt l (.loop { r with state := .done, pending := some c }) :: bad c, rfl, ?_, .inr ⟨c, rfl, rfl⟩⟩
      exact ((lput { r with state := .done, pending := some c } s5).ent ((hE.cons R).cons _)).perm (.swap ..)
    cases e2 with
    | ret => cases hc; exact fin _ hE
    | exit id => cases hc; exact fin _ hE
    | goto t => cases hc; exact fin _ hE
    | normal => cases hc
    | panic _ => cases hc
    | outgrown => cases hc

/-- A truth that takes no place. -/
def pur (φ : Prop) : Asn := fun h => φ ∧ ∀ b, h b = none
theorem Ent.pur_in {φ : Prop} (h : φ) (K : List Asn) : Ent K (pur φ :: K) := fun _ _ hs => ⟨fun _ => none, ⟨h, fun _ => rfl⟩, by simp, hs.mono (by simp)⟩
theorem Wc_pur {c : Code} {φ : Prop} (h : φ → Wc P B N c F A Q) : Wc P B N c F (pur φ :: A) Q := fun ro R a w hk hr hs => by
  have hp : Sat B w (pur φ :: R :: A) := hs.perm (.swap ..)
  obtain ⟨x, hx, _, _⟩ := hp.own
  exact h hx.1 ro R a w hk hr (hp.ent (Ent.drop _))

/-- An iterator that is called with yield: whatever the loop keeps (J), whatever is left where the loop is broken off (Jx). -/
def SeqSpec {α : Type} (P : Program) (B : Base) (gf : FuncId) (vs us : List Value) (enc : α → List Value) (xs : List α) (S : List Asn) : Prop :=
  ∀ (l : Nat) (J Jx : List α → List Asn),
    (∀ pre x rest, xs = pre ++ x :: rest → Yspec P B l (enc x).toArray (S ++ J pre) (fun v A' => (v = .bool true ∧ A' = S ++ J (pre ++ [x])) ∨ (v = .bool false ∧ A' = S ++ Jx (pre ++ [x])))) →
    Fspec P B gf (vs ++ [yv l] ++ us).toArray (S ++ J []) (fun _ A' => A' = S ++ J xs ∨ ∃ pre x rest, xs = pre ++ x :: rest ∧ A' = S ++ Jx (pre ++ [x]))

theorem rangeTail {α : Type} {gf : FuncId} {vs us : List Value} {enc : α → List Value} {xs : List α} {S : List Asn} {I : List α → List Asn} {Ix : Code → List α → List Asn} {ps : List Nat} {assign body : Code}
    (hseq : SeqSpec P B gf vs us enc xs S) (hps : ∀ p ∈ ps, p < N) (hlen : ∀ x, (enc x).length = ps.length)
    (round : ∀ pre x rest, xs = pre ++ x :: rest → Round P B N F ps assign body (enc x) (S ++ I pre) (S ++ I (pre ++ [x])) (fun c => S ++ Ix c (pre ++ [x])))
    (hdone : Q .normal F (S ++ I xs))
    (hjump : ∀ c pre x rest, xs = pre ++ x :: rest → Wc P B N c F (S ++ Ix c (pre ++ [x])) Q)
    {ro : Option Nat} {R : Asn} {a : Act} {w1 : World} {l : Nat} {Ds : List Nat} {fn D : Nat} (hk : Rk ro R) (hr : Rep N a F)
    (hs : Sat B w1 (pt l (.loop { state := .ready, pending := none, fn := fn, tmps := a.tmps, params := ps.toArray, assign := assign, body := body, defers := D }) :: R :: (List.map dk Ds ++ (S ++ I [])))) :
    CallsIn (fen ro) 0 P gf (vs ++ [yv l] ++ us).toArray w1 (rangePost (fen ro) 0 P l (LiftQ B N R a.defers Q) { a with defers := List.map mark Ds ++ a.defers }) := by
  generalize hrd : ({ state := .ready, pending := none, fn := fn, tmps := a.tmps, params := ps.toArray, assign := assign, body := body, defers := D } : Loop) = r at hs
  have hrr : ({ r with state := .ready, pending := none } : Loop) = r := by rw [← hrd]
  have hY := hseq l (fun pre => pt l (.loop r) :: I pre) (fun pre => [jx l r Ix pre]) (fun pre x rest hx => by
    have h1 := round_spec (l := l) (r := r) (t0 := a.tmps) (ds := a.defers) (F0 := F) hr hps (hlen x) (by rw [← hrd]) (by rw [← hrd]) (by rw [← hrd]) (by rw [← hrd]) (by rw [← hrd]) (round pre x rest hx)
    rw [hrr] at h1
    refine (h1.ent (Ent.perm List.perm_middle)).conv ?_
    rintro v A' (⟨rfl, rfl⟩ | ⟨c, rfl, rfl⟩)
    · exact ⟨_, Ent.perm List.perm_middle.symm, .inl ⟨rfl, rfl⟩⟩
    · refine ⟨_, ?_, .inr ⟨rfl, rfl⟩⟩
      have e1 : Ent (pt l (.loop { r with state := .done, pending := some c }) :: (S ++ Ix c (pre ++ [x]))) ((pt l (.loop { r with state := .done, pending := some c }) :: Ix c (pre ++ [x])) ++ S) :=
        Ent.perm (List.perm_append_comm.cons _)
      refine e1.trans ((Ent.exN_shut (f := fun c : Code => pt l (.loop { r with state := .done, pending := some c }) :: Ix c (pre ++ [x])) c S).trans ?_)
      exact Ent.perm (List.perm_append_comm (l₁ := [jx l r Ix (pre ++ [x])])))
  have hs1 : Sat B w1 (lst (R :: List.map dk Ds) :: (S ++ pt l (.loop r) :: I [])) := by
    refine Sat.ent (L := (R :: List.map dk Ds) ++ (S ++ pt l (.loop r) :: I [])) (Ent.lst_shut _ _) (hs.perm ?_)
    refine (List.Perm.swap _ _ _).trans ?_
    rw [List.cons_append]
    refine List.Perm.cons R ?_
    rw [← List.append_assoc, ← List.append_assoc]
    exact List.perm_middle.symm
  have hput : ∀ {w : World} {r1 : Loop} (r2 : Loop) {L : List Asn}, Sat B w (pt l (.loop r1) :: L) → Sat B (w.putObj l (.loop r2)) L := fun {w r1} r2 {L} h => by
    have hh := (h.get (List.mem_cons_self ..)).2
    have h2 : Sat B (w.putObj l (.loop r2)) (pt l (.loop r2) :: L) :=
      Sat.put (w := w) (o := .loop r1) (show Io w (w.putObj l _) from ⟨rfl, rfl, rfl⟩) (by simp) (fun x hx => World.putObj_heap_other hx) (World.putObj_heap_same (Array.getElem?_eq_some_iff.1 hh).1) h
    exact h2.ent (Ent.drop _)
  have hc : CallsIn Fence.wide 0 P gf (vs ++ [yv l] ++ us).toArray w1 _ := callsIn_wide.2 (hY _ w1 hs1)
  refine CallsIn.mono (show CallsIn (fen ro) 0 P gf _ w1 _ from hc) ?_
  rintro e w3 ⟨v, A', rfl, hs3, hp⟩
  rcases hp with rfl | ⟨pre, x, rest, hx, rfl⟩
  · have s1 : Sat B w3 (pt l (.loop r) :: R :: (List.map dk Ds ++ (S ++ I xs))) := by
      refine (hs3.ent (Ent.lst_open (R :: List.map dk Ds) _)).perm ?_
      refine List.Perm.trans ?_ (List.Perm.swap _ _ _)
      rw [List.cons_append]
      refine List.Perm.cons R ?_
      rw [← List.append_assoc, ← List.append_assoc]
      exact List.perm_middle
    have hl := (s1.get (List.mem_cons_self ..)).2
    refine ⟨_, _, run_endLoop hl (by rw [← hrd]; simp), ?_⟩
    have hpend : r.pending = none := by rw [← hrd]
    rw [hpend]
    exact ⟨Ds, F, S ++ I xs, rfl, ⟨hr.size, hr.get⟩, hput _ s1, hdone⟩
  · have s0 : Sat B w3 (R :: jx l r Ix (pre ++ [x]) :: (List.map dk Ds ++ S)) := by
      refine (hs3.ent (Ent.lst_open (R :: List.map dk Ds) _)).perm ?_
      rw [List.cons_append]
      refine List.Perm.cons R ?_
      rw [← List.append_assoc]
      exact List.perm_append_comm
    obtain ⟨c, s1⟩ := exN_open_sat s0
    have s2 : Sat B w3 (pt l (.loop { r with state := .done, pending := some c }) :: R :: (List.map dk Ds ++ (S ++ Ix c (pre ++ [x])))) := by
      refine s1.perm ((List.Perm.swap _ _ _).trans (List.Perm.cons _ (List.Perm.cons R ?_)))
      rw [← List.append_assoc]
      exact List.perm_append_comm
    have hl := (s2.get (List.mem_cons_self ..)).2
    refine ⟨_, _, run_endLoop hl (by simp), ?_⟩
    exact Wc.go (hjump c pre x rest hx) hk rfl ⟨hr.size, hr.get⟩ (hput _ s2)

theorem Wc_rangeFunc {α : Type} {g : Operand} {gf : FuncId} {vs us : List Value} {ps : List Nat} {assign body : Code} [hb : HasBody P gf] (enc : α → List Value) (xs : List α) (S : List Asn)
    (I : List α → List Asn) (Ix : Code → List α → List Asn)
    (hg : ev F g = .func (.func gf) vs.toArray us.toArray := by exact rfl) (hA : Ent A (S ++ I []))
    (hseq : SeqSpec P B gf vs us enc xs S) (hps : ∀ p ∈ ps, p < N) (hlen : ∀ x, (enc x).length = ps.length)
    (round : ∀ pre x rest, xs = pre ++ x :: rest → Round P B N F ps assign body (enc x) (S ++ I pre) (S ++ I (pre ++ [x])) (fun c => S ++ Ix c (pre ++ [x])))
    (hdone : Q .normal F (S ++ I xs))
    (hjump : ∀ c pre x rest, xs = pre ++ x :: rest → Wc P B N c F (S ++ Ix c (pre ++ [x])) Q) : Wc P B N (.rangeFunc g ps.toArray assign body) F A Q := fun ro R a w hk hr hs => by
  have hres : ∀ (l : Nat) (w : World), (resolve a.eval (rangeCall g l) 0).run P w = .ok { target := .fn (.func gf) us.toArray, args := (vs ++ [yv l]).toArray } w := fun l w => by
    have hev : a.eval g = .func (.func gf) vs.toArray us.toArray := by rw [hr.eval]; exact hg
    have h2 : Array.map a.eval #[.const (yv l)] = #[yv l] := by simp [Act.eval]
    simp only [resolve]
    rw [h2, hev]
    simp [Deferred.ofValue]
  have hinv : ∀ (l : Nat) (w : World), (invoke (.fn (.func gf) us.toArray) (vs ++ [yv l]).toArray).run P w = .ok (.enter gf (vs ++ [yv l] ++ us).toArray) w := fun l w => by
    have := run_callFunc_body hb.out (vs ++ [yv l] ++ us).toArray w
    simpa [invoke] using this
  refine wpIn_rangeFunc fun fn _ => ?_
  cases ro with
  | none =>
    have hs1 := (Sat.push (w := w) (o := .deferred (some [])) (w' := w.alloc (.deferred (some []))) (by exact ⟨rfl, rfl, rfl⟩) rfl hs)
    have hs2 := (Sat.push (w := w.alloc (.deferred (some []))) (o := .loop { state := .ready, pending := none, fn := fn, tmps := a.tmps, params := ps.toArray, assign := assign, body := body, defers := w.heap.size })
      (w' := (w.alloc (.deferred (some []))).alloc (.loop { state := .ready, pending := none, fn := fn, tmps := a.tmps, params := ps.toArray, assign := assign, body := body, defers := w.heap.size })) (by exact ⟨rfl, rfl, rfl⟩) rfl hs1)
    rw [World.size_alloc] at hs2
    refine ⟨_, _, _, _, _, gf, _, _, run_enterLoop_outer fn a.tmps ps.toArray assign body, hres _ _, fun _ _ => trivial, hinv _ _, fun e => (by cases e), ?_⟩
    refine rangeTail (Ds := [w.heap.size]) (fn := fn) (D := w.heap.size) hseq hps hlen round hdone hjump hk hr ?_
    refine hs2.ent ?_
    refine (Ent.cons _ ?_)
    exact (Ent.perm (.swap ..)).trans ((hA.cons _).cons R)
  | some l0 =>
    obtain ⟨r0, hr0⟩ := hk l0 rfl
    have hl0 := ((hs.hd.ent hr0).get (List.mem_cons_self ..)).2
    have hs2 := (Sat.push (w := w) (o := .loop { state := .ready, pending := none, fn := fn, tmps := a.tmps, params := ps.toArray, assign := assign, body := body, defers := r0.defers })
      (w' := w.alloc (.loop { state := .ready, pending := none, fn := fn, tmps := a.tmps, params := ps.toArray, assign := assign, body := body, defers := r0.defers })) (by exact ⟨rfl, rfl, rfl⟩) rfl hs)
    refine ⟨_, _, _, _, _, gf, _, _, run_enterLoop_inner hl0 fn a.tmps ps.toArray assign body, hres _ _, fun _ _ => trivial, hinv _ _, fun e => (by cases e), ?_⟩
    exact rangeTail (Ds := []) (fn := fn) (D := r0.defers) hseq hps hlen round hdone hjump hk hr (hs2.ent ((hA.cons R).cons _))
end stmt
end Go.Sl
