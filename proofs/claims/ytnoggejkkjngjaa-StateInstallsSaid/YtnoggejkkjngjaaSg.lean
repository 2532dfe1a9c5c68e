/- Reads of an argument's memory at whatever address, in a region's order or out of its frame. No condition. -/
import Derived.Test.YtnoggejkkjngjaaSa
set_option linter.unusedVariables false
namespace Go.Sl
open Go
section ops
variable {P : Program} {B : Base} {N : Nat} {ops rest : List Oper} {F : Fr} {A : List Asn} {K : Fr → List Asn → Prop}
variable {T : TypeId} {pos : String} {aft : Array Edge} {d : Tmp} {fm : Fm} {x y : Operand} {U V : TypeId}

theorem add_add' (a : Addr) (i j : Nat) : (a.add i).add j = a.add (i + j) := by
  by_cases hi : i = 0
  · subst hi; simp [Addr.add]
  · by_cases hj : j = 0
    · subst hj; simp [Addr.add]
    · have : ¬ (i + j = 0) := by omega
      simp [Addr.add, hi, hj, Nat.add_assoc]
theorem rds_loadG {sz m c : Nat} {p : Addr} {vs : List Value} {w : World} (h : RdS P B A sz (some p) m c vs) (hs : Sat B w A) {i : Nat} {v : Value} (hv : vs[i]? = some v) : (load (p.add i)).run P w = .ok v w := by
  have hf := (h.src w hs).2 m (Nat.le_refl _)
  have hlen := h.len
  have ht : vs.take (m * sz) = vs := List.take_of_length_le (by omega)
  rw [ht] at hf
  have hl : (loadCellsFrom p 0 (m * sz) #[]).run P w = .ok vs.toArray w := by simpa [Builtin.firstCells, loadCells] using hf
  have hi : i < m * sz := by
    rcases Nat.lt_or_ge i vs.length with h' | h'
    · omega
    · rw [List.getElem?_eq_none h'] at hv; cases hv
  obtain ⟨u, hu, ha⟩ := (loads_of w p (m * sz) 0 #[] vs.toArray hl).2 i hi
  have hu' : (load (p.add i)).run P w = .ok u w := by simpa using hu
  have : vs[i]? = some u := by simpa using ha
  rw [hv] at this; obtain rfl := Option.some.inj this
  exact hu'
theorem loadFrom_of (w : World) (q : Addr) : ∀ (vs : List Value) (i : Nat) (acc : Array Value), (∀ j v, vs[j]? = some v → (load (q.add (i + j))).run P w = .ok v w) →
    (loadCellsFrom q i vs.length acc).run P w = .ok (acc ++ vs.toArray) w
  | [], i, acc, _ => by simp [loadCellsFrom]
  | v :: vs, i, acc, h => by
    have h0 : (load (q.add i)).run P w = .ok v w := h 0 v rfl
    have := loadFrom_of w q vs (i + 1) (acc.push v) (fun j x hx => by have := h (j + 1) x (by simpa using hx); rwa [show i + 1 + j = i + (j + 1) by omega])
    simp only [loadCellsFrom, List.length_cons, Sem.run_bind, h0, Result.andThen_ok, this]
    simp
theorem rds_loadsG {sz m c : Nat} {p : Addr} {vs cs : List Value} {w : World} (h : RdS P B A sz (some p) m c vs) (hs : Sat B w A) {j n : Nat} (hv : (vs.drop j).take n = cs) (hn : cs.length = n) : (loadCells (p.add j) n).run P w = .ok cs.toArray w := by
  have := loadFrom_of (P := P) w (p.add j) cs 0 #[] (fun k v hk => by
    rw [Nat.zero_add, add_add']
    refine rds_loadG h hs ?_
    subst hv
    rw [List.getElem?_take] at hk
    split at hk
    · rwa [List.getElem?_drop] at hk
    · cases hk)
  rw [hn] at this
  unfold loadCells
  rw [this]; simp
theorem Wl_fieldAddrG {s i fo ft n : Nat} {q : Addr} {x : Operand} [hf : FieldOff P s i fo ft n] (hd : Nat.blt d N = true := by exact rfl) (hx : ev F x = .pointer (some q) := by exact rfl) (hn : Nat.beq n 0 = false := by exact rfl)
    (k : Wl P B N fm ops rest (upd F d (.pointer (some (q.add fo)))) A K) : Wl P B N fm ops (⟨some d, .fieldAddr s x i, T, pos, aft, none⟩ :: rest) F A K :=
  Wl_valP hd (fun w => by
    have h := hf.out
    unfold fieldOf at h
    split at h
    · rename_i fs hu
      cases hfi : fs[i]? with
      | none => simp [hfi] at h
      | some f =>
        cases hi : P.info? f.type with
        | none => simp [hfi, hi] at h
        | some t =>
          simp [hfi, hi] at h
          obtain ⟨h1, h2, h3⟩ := h
          have hs : (sizeOf f.type).run P w = .ok n w := run_sizeOf w _ (by simp [tSize, hi, h3])
          have hn0 : n ≠ 0 := fun e => by subst e; simp at hn
          subst h1
          simp [execOp, hx, Instr.fieldAt, run_under w s hu, hfi, Instr.sureAddr, fieldPlace, hs, hn0]
    · cases h) k
theorem Wl_loadG {sz m c j : Nat} {p q : Addr} {v : Value} {vs : List Value} [ht : TCell P U] (hk : kindB fm (some d) (.load U x) ≠ 0 := by decide) (hd : Nat.blt d N = true := by exact rfl) (hx : ev F x = .pointer (some q) := by exact rfl) (hq : q = p.add j := by exact rfl) (hr : RdS P B A sz (some p) m c vs) (hv : vs[j]? = some v := by exact rfl)
    (k : Wl P B N fm ops rest (upd F d v) A K) : Wl P B N fm ops (⟨some d, .load U x, T, pos, aft, none⟩ :: rest) F A K :=
  Wl_rd hk hd (fun w R hs => by
    have hl := rds_loadG hr (hs.ent (Ent.drop _)) hv
    subst hq
    simp only [execOp, hx, Instr.loadAt, Instr.sureAddr, loadVar, Sem.run_bind, Sem.run_pure, Result.andThen_ok, run_isAgg w U ht.out]
    simp [hl]) k
theorem Wl_loadGF {M : List Asn} {Ls : List Nat} {sz m c j : Nat} {p q : Addr} {v : Value} {vs : List Value} [ht : TCell P U] (hd : Nat.blt d N = true := by exact rfl) (hx : ev F x = .pointer (some q) := by exact rfl) (hq : q = p.add j := by exact rfl) (hr : RdS P B M sz (some p) m c vs) (hv : vs[j]? = some v := by exact rfl)
    (k : Wl P B N (some (M, Ls)) ops rest (upd F d v) A K) : Wl P B N (some (M, Ls)) ops (⟨some d, .load U x, T, pos, aft, none⟩ :: rest) F A K :=
  Wl_rdF hd (fun w R hs => by
    have hl := rds_loadG hr (hs.ent (Ent.drop _)) hv
    subst hq
    simp only [execOp, hx, Instr.loadAt, Instr.sureAddr, loadVar, Sem.run_bind, Sem.run_pure, Result.andThen_ok, run_isAgg w U ht.out]
    simp [hl]) k
theorem Wl_loadAggG {sz m c j n : Nat} {p q : Addr} {cs vs : List Value} [ht : TAgg P U] [hz : TSize P U n] (hk : kindB fm (some d) (.load U x) ≠ 0 := by decide) (hd : Nat.blt d N = true := by exact rfl) (hx : ev F x = .pointer (some q) := by exact rfl) (hq : q = p.add j := by exact rfl) (hr : RdS P B A sz (some p) m c vs)
    (hv : (vs.drop j).take n = cs) (hn : cs.length = n := by exact rfl) (k : Wl P B N fm ops rest (upd F d (.agg cs.toArray)) A K) : Wl P B N fm ops (⟨some d, .load U x, T, pos, aft, none⟩ :: rest) F A K :=
  Wl_rd hk hd (fun w R hs => by
    have hl := rds_loadsG hr (hs.ent (Ent.drop _)) hv hn
    subst hq
    simp [execOp, hx, Instr.loadAt, Instr.sureAddr, loadVar, run_isAgg w U ht.out, run_sizeOf w U hz.out, hl]) k
theorem Wl_loadAggGF {M : List Asn} {Ls : List Nat} {sz m c j n : Nat} {p q : Addr} {cs vs : List Value} [ht : TAgg P U] [hz : TSize P U n] (hd : Nat.blt d N = true := by exact rfl) (hx : ev F x = .pointer (some q) := by exact rfl) (hq : q = p.add j := by exact rfl) (hr : RdS P B M sz (some p) m c vs)
    (hv : (vs.drop j).take n = cs) (hn : cs.length = n := by exact rfl) (k : Wl P B N (some (M, Ls)) ops rest (upd F d (.agg cs.toArray)) A K) : Wl P B N (some (M, Ls)) ops (⟨some d, .load U x, T, pos, aft, none⟩ :: rest) F A K :=
  Wl_rdF hd (fun w R hs => by
    have hl := rds_loadsG hr (hs.ent (Ent.drop _)) hv hn
    subst hq
    simp [execOp, hx, Instr.loadAt, Instr.sureAddr, loadVar, run_isAgg w U ht.out, run_sizeOf w U hz.out, hl]) k
theorem Wl_loadAggF {M : List Asn} {Ls : List Nat} {b off n : Nat} {l cs : List Value} {E U : TypeId} {fz : Nat × Nat} {x : Operand} [ht : TAgg P U] [hz : TSize P U n] (hd : Nat.blt d N = true := by exact rfl)
    (hx : ev F x = .pointer (some ⟨b, off, none⟩) := by exact rfl) (hr : Rd B b l E fz M := by (repeat (first | exact Rd.head | exact Rd.base (by assumption) | apply Rd.tail)); (first | done | fail)) (hv : off + n ≤ l.length) (hc : (l.drop off).take n = cs)
    (k : Wl P B N (some (M, Ls)) ops rest (upd F d (.agg cs.toArray)) A K) : Wl P B N (some (M, Ls)) ops (⟨some d, .load U x, T, pos, aft, none⟩ :: rest) F A K :=
  Wl_rdF hd (fun w R hs => by
    have hl := run_loadCells P w (hr.heap (hs.ent (Ent.drop _))) hv
    rw [hc] at hl
    simp [execOp, hx, Instr.loadAt, Instr.sureAddr, loadVar, run_isAgg w U ht.out, run_sizeOf w U hz.out, hl]) k
theorem Wl_appendV {E E3 sz by_ len cap m : Nat} {z cs vs : List Value} {a : Option Addr} {M : List Asn} {vy : Value} [h1 : TSl P U E] [h2 : TSize P E sz] [h3 : TBytes P E by_] [h4 : TZero P E z] [h5 : TSl P V E3]
    (hd : Nat.blt d N = true := by exact rfl) (hx : ev F x = .slice a len cap := by exact rfl) (hy : Ev F y vy := by (repeat (first | exact Ev.here | exact Ev.const | exact Ev.arg rfl | apply Ev.there rfl | exact Ev.none rfl | exact Ev.func | exact Ev.var)); (first | done | fail)) (hzl : z.length = sz := by exact rfl) (hby : 0 < by_ := by omega)
    (ho : Out (own a len cap sz cs E) A M := by (repeat (first | exact Out.head | apply Out.tail)); (first | done | fail)) (hsrc : Src P B A sz vy m vs) (hvl : vs.length = m * sz) (hvc : vs.all isCell = true := by first | rfl | assumption | (simp only [List.all_cons, List.all_nil, Bool.and_eq_true, Bool.and_true, cInt, cBool, cStr, cPtr, cSl, cByte, true_and, and_true] at *; first | done | assumption | simp only [*, and_self]) | simp [isCell, byteV]) (hbd : (3 * (len + m) + 2000) * by_ ≤ 281474976710656 ∨ (cap = 0 ∧ (len + m) * by_ ≤ 281474976710656))
    (k : ∀ a' cap', Wl P B N fm ops rest (upd F d (.slice a' (len + m) cap')) (own a' (len + m) cap' sz (cs ++ vs) E :: M) K) :
    Wl P B N fm ops (⟨some d, .call ⟨.builtin .append, #[x, y], #[U, V]⟩, T, pos, aft, none⟩ :: rest) F A K :=
  Wl_append hd hx hy (.inl (by rw [h5.out]; simp)) hzl hby ho hsrc hvl hvc hbd k
/-- What is known of what is owned. -/
theorem Wc_ownFacts {c : Code} {Q : Exit → Fr → List Asn → Prop} {a : Option Addr} {len cap sz : Nat} {cs : List Value} {E : TypeId}
    (h : cs.length = len * sz → len * sz ≤ cap * sz → (a = none → len = 0) → Wc P B N c F (own a len cap sz cs E :: A) Q) : Wc P B N c F (own a len cap sz cs E :: A) Q := fun ro R ac w hk hr hs => by
  have hs1 : Sat B w (own a len cap sz cs E :: R :: A) := hs.perm (.swap ..)
  rcases own_open hs1.own with ⟨e1, e2, e3, e4, _⟩ | ⟨r, spare, e1, e2, e3, _⟩
  · exact h (by simp [e2, e4]) (by simp [e2]) (fun _ => e2) ro R ac w hk hr hs
  · exact h e2 (by rw [← e2, ← e3]; simp) (fun e => by rw [e] at e1; cases e1) ro R ac w hk hr hs
/-- Two truths compared. -/
theorem run_bool_cmp {a b : Bool} (w : World) (n : Nat) (hU : P.underlying U = some .bool) : (Op.equalIn (n + 1) U (.bool a) (.bool b)).run P w = .ok (a == b) w := by
  unfold Op.equalIn
  simp [run_under w U hU]
theorem run_equal_bool {a b : Bool} (w : World) (hU : P.underlying U = some .bool) : (Op.equal U (.bool a) (.bool b)).run P w = .ok (a == b) w := run_bool_cmp w 9999 hU
theorem Wl_bool_eql {a b : Bool} (hU : P.underlying U = some .bool) (hd : Nat.blt d N = true := by exact rfl) (hx : ev F x = .bool a := by exact rfl) (hy : ev F y = .bool b := by exact rfl) (k' : Wl P B N fm ops rest (upd F d (.bool (a == b))) A K) :
    Wl P B N fm ops (⟨some d, .binOp .eql U x y V, T, pos, aft, none⟩ :: rest) F A K := Wl_valP hd (fun w => by
      have h1 := run_equal_bool (a := a) (b := b) w hU
      simp [execOp, hx, hy, eqGuard, binOp, h1]) k'
theorem Wl_bool_neq {a b : Bool} (hU : P.underlying U = some .bool) (hd : Nat.blt d N = true := by exact rfl) (hx : ev F x = .bool a := by exact rfl) (hy : ev F y = .bool b := by exact rfl) (k' : Wl P B N fm ops rest (upd F d (.bool (!(a == b)))) A K) :
    Wl P B N fm ops (⟨some d, .binOp .neq U x y V, T, pos, aft, none⟩ :: rest) F A K := Wl_valP hd (fun w => by
      have h1 := run_equal_bool (a := a) (b := b) w hU
      simp [execOp, hx, hy, eqGuard, binOp, h1]) k'
end ops
end Go.Sl
