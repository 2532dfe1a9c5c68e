/- Rows written and read in parts, told outright; results; function values. No condition. -/
import Derived.Test.YtnoggejkkjngjaaSg
set_option linter.unusedVariables false
set_option linter.unusedSimpArgs false
namespace Go.Sl
open Go
/-- Part of a row is turned, told outright. -/
inductive SetR : List Value → Nat → List Value → List Value → Prop
  | nil {l : List Value} : SetR l 0 [] l
  | put {x v : Value} {l l' cs : List Value} (h : SetR l 0 cs l') : SetR (x :: l) 0 (v :: cs) (v :: l')
  | skip {x : Value} {l l' cs : List Value} {n : Nat} (h : SetR l n cs l') : SetR (x :: l) (n + 1) cs (x :: l')
theorem SetR.out {l l' cs : List Value} {n : Nat} (h : SetR l n cs l') : n + cs.length ≤ l.length ∧ setL l n cs = l' := by
  induction h with
  | nil => simp [setL]
  | @put x v l l' cs h ih =>
    have h1 := ih.1; have h2 := ih.2
    refine ⟨by simp at h1 ⊢; omega, ?_⟩
    rw [setL_eq _ _ _ (by simp at h1 ⊢; omega)]
    rw [setL_eq _ _ _ (by omega)] at h2
    simp at h2
    simp [h2]
  | @skip x l l' cs n h ih =>
    have h1 := ih.1; have h2 := ih.2
    refine ⟨by simp; omega, ?_⟩
    rw [setL_eq _ _ _ (by simp; omega)]
    rw [setL_eq _ _ _ (by omega)] at h2
    rw [show n + 1 + cs.length = (n + cs.length) + 1 by omega]
    simp [h2]
/-- Part of a row, told outright. -/
inductive TakeR : List Value → Nat → Nat → List Value → Prop
  | nil {l : List Value} : TakeR l 0 0 []
  | take {x : Value} {l cs : List Value} {n : Nat} (h : TakeR l 0 n cs) : TakeR (x :: l) 0 (n + 1) (x :: cs)
  | skip {x : Value} {l cs : List Value} {off n : Nat} (h : TakeR l off n cs) : TakeR (x :: l) (off + 1) n cs
theorem TakeR.out {l cs : List Value} {off n : Nat} (h : TakeR l off n cs) : off + n ≤ l.length ∧ (l.drop off).take n = cs := by
  induction h with
  | nil => simp
  | take h ih => have := ih.1; have h2 := ih.2; simp at h2 ⊢; exact ⟨by omega, h2⟩
  | skip h ih => have := ih.1; simp [ih.2]; omega

theorem cInt {k : IntKind} {n : Int} : isCell (.int k n) = true := rfl
theorem cBool {b : Bool} : isCell (.bool b) = true := rfl
theorem cStr {s : ByteArray} : isCell (.string s) = true := rfl
theorem cPtr {a : Option Addr} : isCell (.pointer a) = true := rfl
theorem cSl {a : Option Addr} {m c : Nat} : isCell (.slice a m c) = true := rfl
theorem cByte {b : UInt8} : isCell (byteV b) = true := rfl
section ops
variable {P : Program} {B : Base} {N : Nat} {ops rest : List Oper} {F : Fr} {A : List Asn} {K : Fr → List Asn → Prop}
variable {T : TypeId} {pos : String} {aft : Array Edge} {d : Tmp} {fm : Fm} {x y : Operand} {U V : TypeId}
theorem Wl_loadR {b off n : Nat} {l cs : List Value} {E U : TypeId} {fz : Nat × Nat} {x : Operand} [ht : TAgg P U] [hz : TSize P U n] (hk : kindB fm (some d) (.load U x) ≠ 0 := by decide) (hd : Nat.blt d N = true := by exact rfl)
    (hx : ev F x = .pointer (some ⟨b, off, none⟩) := by exact rfl) (hr : Rd B b l E fz A := by (repeat (first | exact Rd.head | exact Rd.base (by assumption) | apply Rd.tail)); (first | done | fail)) (hc : TakeR l off n cs := by (repeat (first | exact TakeR.nil | apply TakeR.take | apply TakeR.skip)); (first | done | fail))
    (k : Wl P B N fm ops rest (upd F d (.agg cs.toArray)) A K) : Wl P B N fm ops (⟨some d, .load U x, T, pos, aft, none⟩ :: rest) F A K :=
  Wl_loadAgg hk hd hx hr hc.out.1 hc.out.2 k
theorem Wl_loadRF {M : List Asn} {Ls : List Nat} {b off n : Nat} {l cs : List Value} {E U : TypeId} {fz : Nat × Nat} {x : Operand} [ht : TAgg P U] [hz : TSize P U n] (hd : Nat.blt d N = true := by exact rfl)
    (hx : ev F x = .pointer (some ⟨b, off, none⟩) := by exact rfl) (hr : Rd B b l E fz M := by (repeat (first | exact Rd.head | exact Rd.base (by assumption) | apply Rd.tail)); (first | done | fail)) (hc : TakeR l off n cs := by (repeat (first | exact TakeR.nil | apply TakeR.take | apply TakeR.skip)); (first | done | fail))
    (k : Wl P B N (some (M, Ls)) ops rest (upd F d (.agg cs.toArray)) A K) : Wl P B N (some (M, Ls)) ops (⟨some d, .load U x, T, pos, aft, none⟩ :: rest) F A K :=
  Wl_loadAggF hd hx hr hc.out.1 hc.out.2 k
theorem Wl_fieldR {s i fo ft n : Nat} {cs ds : List Value} [hf : FieldOff P s i fo ft n] [hc : TAgg P ft] (hd : Nat.blt d N = true := by exact rfl) (hx : ev F x = .agg cs.toArray := by exact rfl) (hv : TakeR cs fo n ds := by (repeat (first | exact TakeR.nil | apply TakeR.take | apply TakeR.skip)); (first | done | fail))
    (k' : Wl P B N fm ops rest (upd F d (.agg ds.toArray)) A K) : Wl P B N fm ops (⟨some d, .field s x i, T, pos, aft, none⟩ :: rest) F A K := Wl_fieldAgg hd hx hv.out.2 k'
theorem Wl_storeR {b off n : Nat} {l l' cs : List Value} {E U : TypeId} {fz : Nat × Nat} {o' : Obj} {A' : List Asn} [ht : TSize P U n]
    (hx : ev F x = .pointer (some ⟨b, off, none⟩) := by exact rfl) (hy : Ev F y (.agg cs.toArray) := by (repeat (first | exact Ev.here | exact Ev.const | exact Ev.arg rfl | apply Ev.there rfl | exact Ev.none rfl | exact Ev.func | exact Ev.var)); (first | done | fail)) (hu : Upd b (.cells l.toArray E fz) o' A A' := by (repeat (first | exact Upd.head | apply Upd.tail)); (first | done | fail)) (hv : cs.all isCell = true := by first | rfl | assumption | (simp only [List.all_cons, List.all_nil, Bool.and_eq_true, Bool.and_true, cInt, cBool, cStr, cPtr, cSl, cByte, true_and, and_true] at *; first | done | assumption | simp only [*, and_self]) | simp [isCell, byteV]) (hl : cs.length = n := by exact rfl)
    (hs : SetR l off cs l' := by (repeat (first | exact SetR.nil | apply SetR.put | apply SetR.skip)); (first | done | fail)) (ho' : o' = .cells l'.toArray E fz) (hz : fz = (0, 0) := by exact rfl)
    (k : Wl P B N fm ops rest F A' K) : Wl P B N fm ops (⟨none, .store U x y, T, pos, aft, none⟩ :: rest) F A K :=
  Wl_storeRow hx hy hu hv hl (by rw [← hl]; exact hs.out.1) hs.out.2 ho' hz k

/-! literals of slices whose elements are cells -/
theorem bld_lits (len : Nat) : ∀ (vs : List Value) (k : Nat) (pre rest : List Value), pre.length = k → rest.length = vs.length → k + vs.length ≤ len → vs.all isCell = true →
    bld ((List.range len).map fun i => (i * 1, 1)) (pre ++ rest) ((List.range' k vs.length).zip vs) = some (pre ++ vs)
  | [], k, pre, rest, _, hr, _, _ => by
    have : rest = [] := List.length_eq_zero_iff.1 (by simpa using hr)
    simp [bld, this]
  | v :: vs, k, pre, rest, hp, hr, hk, hv => by
    cases rest with
    | nil => simp at hr
    | cons r rest =>
      simp only [List.all_cons, Bool.and_eq_true] at hv
      have hc : v.cells.toList = [v] := by cases v <;> first | rfl | (simp [isCell] at hv; done)
      simp only [List.length_cons] at hk hr
      have h1 : ((List.range len).map fun i => (i * 1, 1))[k]? = some (k, 1) := by
        rw [List.getElem?_map, List.getElem?_range (by omega)]; simp
      have h2 : setL (pre ++ r :: rest) k [v] = (pre ++ [v]) ++ rest := by
        simp only [setL]
        rw [List.set_append_right _ _ (by omega), hp, Nat.sub_self]; simp
      have ih := bld_lits len vs (k + 1) (pre ++ [v]) rest (by simp [hp]) (by omega) (by omega) hv.2
      simp only [List.length_cons, List.range'_succ, List.zip_cons_cons, bld, h1, hc]
      rw [if_pos (by simp [hp]), h2, ih]
      simp
theorem Wl_lits {E : Nat} {z : List Value} {len : Nat} {xs : List (Nat × Operand)} {vs : List Value} [h1 : TSl P U E] [h2 : TSize P E 1] [hz : TZero P E z] (hd : Nat.blt d N = true := by exact rfl)
    (hp : xs.map (·.1) = List.range len := by exact rfl) (hx : EvL F (xs.map (·.2)) vs := by (repeat (first | exact EvL.nil | apply EvL.cons (by (repeat (first | exact Ev.here | exact Ev.const | exact Ev.arg rfl | apply Ev.there rfl | exact Ev.none rfl | exact Ev.func | exact Ev.var)); (first | done | fail)))); (first | done | fail)) (hv : vs.all isCell = true := by first | rfl | assumption | (simp only [List.all_cons, List.all_nil, Bool.and_eq_true, Bool.and_true, cInt, cBool, cStr, cPtr, cSl, cByte, true_and, and_true] at *; first | done | assumption | simp only [*, and_self]) | simp [isCell, byteV]) (h24 : len ≤ 16777216 := by omega)
    (k : ∀ r, Wl P B N fm ops rest (upd F d (.slice (some ⟨r, 0, none⟩) len len)) (cb r vs E :: A) K) : Wl P B N fm ops (⟨some d, .buildSlice U len xs.toArray, T, pos, aft, none⟩ :: rest) F A K := by
  have hl : vs.length = len := by
    have e1 := congrArg List.length hx.eq
    have e2 := congrArg List.length hp
    simp at e1 e2; omega
  refine Wl_buildSlice (cells := vs) hd hx ?_ ?_ (by omega) k
  · rw [hp, List.range_eq_range', ← hl]
    have := bld_lits vs.length vs 0 [] (cyc z (vs.length * 1)) rfl (by simp [cyc_length]) (by omega) hv
    simpa [List.range_eq_range'] using this
  · intro p hp'
    have := List.of_mem_zip hp'
    rw [hp] at this
    simpa using this.1

/-! function values -/
theorem Wl_makeFunc {f : Nat} {xs cs : List Operand} {vs us : List Value} (hd : Nat.blt d N = true := by exact rfl) (ha : EvL F xs vs := by (repeat (first | exact EvL.nil | apply EvL.cons (by (repeat (first | exact Ev.here | exact Ev.const | exact Ev.arg rfl | apply Ev.there rfl | exact Ev.none rfl | exact Ev.func | exact Ev.var)); (first | done | fail)))); (first | done | fail)) (hc : EvL F cs us := by (repeat (first | exact EvL.nil | apply EvL.cons (by (repeat (first | exact Ev.here | exact Ev.const | exact Ev.arg rfl | apply Ev.there rfl | exact Ev.none rfl | exact Ev.func | exact Ev.var)); (first | done | fail)))); (first | done | fail))
    (k' : Wl P B N fm ops rest (upd F d (.func (.func f) vs.toArray us.toArray)) A K) : Wl P B N fm ops (⟨some d, .makeFunc (.func f) xs.toArray cs.toArray, T, pos, aft, none⟩ :: rest) F A K :=
  Wl_valP hd (fun w => by
    have h1 := ha.eq; have h2 := hc.eq
    subst h1 h2
    simp [execOp, Instr.makeFunc]) k'
theorem Wl_callV {f : FuncId} {xs : List Operand} {ts : Array TypeId} {vs us args : List Value} {A1 M : List Asn} {post : Value → List Asn → Prop} [hb : HasBody P f] (hd : Nat.blt d N = true := by exact rfl)
    (hx : ev F x = .func (.func f) vs.toArray us.toArray := by exact rfl) (ha : EvL F xs args := by (repeat (first | exact EvL.nil | apply EvL.cons (by (repeat (first | exact Ev.here | exact Ev.const | exact Ev.arg rfl | apply Ev.there rfl | exact Ev.none rfl | exact Ev.func | exact Ev.var)); (first | done | fail)))); (first | done | fail)) (hs : Fspec P B f (vs ++ args ++ us).toArray A1 post) (hp : Pick A A1 M := by (repeat (first | exact Pick.nil | apply Pick.cons (by (repeat (first | exact Out.head | apply Out.tail)); (first | done | fail)))); (first | done | fail))
    (k : ∀ v A', post v A' → Wl P B N fm ops rest (upd F d v) (A' ++ M) K) : Wl P B N fm ops (⟨some d, .call ⟨.value x, xs.toArray, ts⟩, T, pos, aft, none⟩ :: rest) F A K :=
  Wl_enter rfl hd (fun w => by
    have h1 := run_callFunc_body hb.out (vs ++ args ++ us).toArray w
    have h2 := ha.eq
    subst h2
    simp only [execOp, resolve, hx, Deferred.ofValue, invoke, Sem.run_bind, Sem.run_pure, Result.andThen_ok]
    simpa using h1) hs hp.perm k
/-- A method bound to its receiver. -/
theorem Wl_callB {f : FuncId} {xs : List Operand} {ts : Array TypeId} {r : Value} {args : List Value} {A1 M : List Asn} {post : Value → List Asn → Prop} [hb : HasBody P f] (hd : Nat.blt d N = true := by exact rfl)
    (hx : ev F x = .func (.func f) #[r] #[] := by exact rfl) (ha : EvL F xs args := by (repeat (first | exact EvL.nil | apply EvL.cons (by (repeat (first | exact Ev.here | exact Ev.const | exact Ev.arg rfl | apply Ev.there rfl | exact Ev.none rfl | exact Ev.func | exact Ev.var)); (first | done | fail)))); (first | done | fail)) (hs : Fspec P B f (r :: args).toArray A1 post) (hp : Pick A A1 M := by (repeat (first | exact Pick.nil | apply Pick.cons (by (repeat (first | exact Out.head | apply Out.tail)); (first | done | fail)))); (first | done | fail))
    (k : ∀ v A', post v A' → Wl P B N fm ops rest (upd F d v) (A' ++ M) K) : Wl P B N fm ops (⟨some d, .call ⟨.value x, xs.toArray, ts⟩, T, pos, aft, none⟩ :: rest) F A K :=
  Wl_callV (vs := [r]) (us := []) hd hx ha (by simpa using hs) hp k
end ops

/-! results -/
inductive ResL (P : Program) (B : Base) (F : Fr) (A : List Asn) : List ResultVar → List Value → Prop
  | nil : ResL P B F A [] []
  | tmp {t : Nat} {v : Value} {rs : List ResultVar} {vs : List Value} (h : Ev F (.tmp t) v) (k : ResL P B F A rs vs) : ResL P B F A (.tmp t :: rs) (v :: vs)
  | agg {t b off n : Nat} {l cs : List Value} {E U : TypeId} {fz : Nat × Nat} {rs : List ResultVar} {vs : List Value} [ht : TAgg P U] [hz : TSize P U n]
      (h : Ev F (.tmp t) (.pointer (some ⟨b, off, none⟩))) (hr : Rd B b l E fz A) (hc : TakeR l off n cs) (k : ResL P B F A rs vs) : ResL P B F A (.cell t U :: rs) (.agg cs.toArray :: vs)
  | cell {t b off : Nat} {l : List Value} {v : Value} {E U : TypeId} {fz : Nat × Nat} {rs : List ResultVar} {vs : List Value} [ht : TCell P U]
      (h : Ev F (.tmp t) (.pointer (some ⟨b, off, none⟩))) (hr : Rd B b l E fz A) (hc : l[off]? = some v) (k : ResL P B F A rs vs) : ResL P B F A (.cell t U :: rs) (v :: vs)
def retV : List Value → Value
  | [v] => v
  | vs => .tuple vs.toArray
theorem resL_run {P : Program} {B : Base} {F : Fr} {A : List Asn} {N : Nat} {rs : List ResultVar} {vs : List Value} {a : Act} {w : World} {R : Asn} (f : ResultVar → Sem Value)
    (f1 : ∀ t, f (.tmp t) = pure (a.tmps.getD t undef)) (f2 : ∀ b t, f (.cell b t) = (do loadVar t (← asAddr (a.tmps.getD b undef)))) (h : ResL P B F A rs vs) (hr : Rep N a F) (hs : Sat B w (R :: A)) :
    (rs.mapM f).run P w = .ok vs w := by
  induction h with
  | nil => rfl
  | @tmp t v rs vs h k ih =>
    have he : a.tmps.getD t undef = v := (hr.get t).trans h.eq
    rw [List.mapM_cons, f1, he]
    simp only [Sem.run_bind, Sem.run_pure, Result.andThen_ok, ih]
  | @agg t b off n l cs E U fz rs vs ht hz h hrd hc k ih =>
    have he : a.tmps.getD t undef = .pointer (some ⟨b, off, none⟩) := (hr.get t).trans h.eq
    have hl := run_loadCells P w (hrd.heap (hs.ent (Ent.drop _))) hc.out.1
    rw [hc.out.2] at hl
    have h1 : (f (.cell t U)).run P w = .ok (.agg cs.toArray) w := by
      rw [f2, he]
      simp [asAddr, loadVar, run_isAgg w U ht.out, run_sizeOf w U hz.out, hl]
    rw [List.mapM_cons]
    simp only [Sem.run_bind, Sem.run_pure, Result.andThen_ok, h1, ih]
  | @cell t b off l v E U fz rs vs ht h hrd hc k ih =>
    have he : a.tmps.getD t undef = .pointer (some ⟨b, off, none⟩) := (hr.get t).trans h.eq
    have hcc := cell_of_heap (hrd.heap (hs.ent (Ent.drop _))) hc
    have h1 : (f (.cell t U)).run P w = .ok v w := by
      rw [f2, he]
      simp [asAddr, loadVar, run_isAgg w U ht.out, hcc]
    rw [List.mapM_cons]
    simp only [Sem.run_bind, Sem.run_pure, Result.andThen_ok, h1, ih]
theorem resG {P : Program} {fn : Func} {N : Nat} {B : Base} {F : Fr} {A : List Asn} {rs : List ResultVar} {vs : List Value} {v : Value} (h : fn.results = rs.toArray) (hr : ResL P B F A rs vs) (hv : retV vs = v) :
    ∀ a w R, Rep N a F → Sat B w (R :: A) → (results fn a.tmps).run P w = .ok v w := fun a w R hrep hs => by
  subst hv
  unfold results
  rw [h, List.mapM_toArray]
  simp only [Sem.run_bind, Sem.run_map]
  rw [resL_run _ (fun _ => rfl) (fun _ _ => rfl) hr hrep hs]
  cases vs with
  | nil => rfl
  | cons v vs => cases vs <;> rfl
end Go.Sl
