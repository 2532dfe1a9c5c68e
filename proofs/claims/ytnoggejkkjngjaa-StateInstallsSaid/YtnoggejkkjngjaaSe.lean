/- Two structs of plain cells compared. No condition. -/
import Derived.Test.YtnoggejkkjngjaaSp
set_option linter.unusedVariables false
set_option linter.unusedSimpArgs false
namespace Go.Sl
open Go

inductive CK where
  | i (k : IntKind)
  | b
  | s
def ckOf : Value → Option CK
  | .int k _ => some (.i k)
  | .bool _ => some .b
  | .string _ => some .s
  | _ => none
def ceq : Value → Value → Bool
  | .int _ a, .int _ b => a == b
  | .bool a, .bool b => a == b
  | .string a, .string b => a == b
  | _, _ => false
def ceqL : List Value → List Value → Bool
  | [], [] => true
  | x :: xs, y :: ys => ceq x y && ceqL xs ys
  | _, _ => false
def eqFields (P : Program) (g : TypeId → Option (List CK)) : List Field → Nat → Option (List CK)
  | [], _ => some []
  | f :: fs, off => if f.name = "_" ∨ f.offset ≠ off then none else
    match g f.type with
    | some ks => if tSize P f.type = some ks.length ∧ (aggOf P f.type).isSome then (eqFields P g fs (off + ks.length)).map (ks ++ ·) else none
    | none => none
def eqKinds (P : Program) : Nat → TypeId → Option (List CK)
  | 0, _ => none
  | d + 1, t => match P.underlying t with
    | some .bool => some [.b]
    | some (.int k) => some [.i k]
    | some .string => some [.s]
    | some (.struct fs) => if P.stoodInHeld t then none else eqFields P (eqKinds P d) fs.toList 0
    | _ => none

theorem beq_bytes (a : ByteArray) : (a == a) = true := by
  cases a with
  | mk d => exact (by simp : (d == d) = true)
theorem ceqL_self : ∀ (l : List Value) (ks : List CK), l.map ckOf = ks.map some → ceqL l l = true
  | [], _, _ => rfl
  | v :: l, ks, h => by
    cases ks with
    | nil => simp at h
    | cons k ks =>
      simp only [List.map_cons, List.cons.injEq] at h
      have ih := ceqL_self l ks h.2
      have h1 : ceq v v = true := by
        cases v <;> simp [ckOf] at h <;> simp [ceq, beq_bytes]
      simp [ceqL, h1, ih]
def wrapV (P : Program) (t : TypeId) (cs : List Value) : Value := if aggOf P t = some true then .agg cs.toArray else cs.headD undef
theorem ceqL_append : ∀ (a b c d : List Value), a.length = b.length → ceqL (a ++ c) (b ++ d) = (ceqL a b && ceqL c d)
  | [], [], _, _, _ => by simp [ceqL]
  | x :: a, y :: b, c, d, h => by simp [ceqL, ceqL_append a b c d (by simpa using h), Bool.and_assoc]
  | [], _ :: _, _, _, h => by simp at h
  | _ :: _, [], _, _, h => by simp at h
theorem run_part {P : Program} {w : World} {t : TypeId} {n : Nat} {cs : List Value} {off : Nat} (hn : tSize P t = some n) (ha : (aggOf P t).isSome = true) (hl : off + n ≤ cs.length) (h1 : aggOf P t = some false → n = 1) :
    (part t cs.toArray off).run P w = .ok (wrapV P t ((cs.drop off).take n)) w := by
  obtain ⟨b, hb⟩ := Option.isSome_iff_exists.1 ha
  unfold part wrapV
  simp only [Sem.run_bind, run_isAgg w t hb, Result.andThen_ok]
  cases b with
  | true =>
    simp only [if_true, hb, Sem.run_bind, run_sizeOf w t hn, Result.andThen_ok, Sem.run_pure]
    congr 2
    simp [List.extract_toArray, List.extract_eq_take_drop]
  | false =>
    have h1 := h1 hb
    subst h1
    simp only [hb]
    have hlt : off < cs.length := by omega
    simp [hlt, List.head?_drop, List.take_one]
theorem kinds_len {l : List Value} {ks : List CK} (h : l.map ckOf = ks.map some) : l.length = ks.length := by
  have := congrArg List.length h; simpa using this
theorem cell_kinds1 {P : Program} {n : Nat} {t : TypeId} {ks : List CK} (h : eqKinds P n t = some ks) (ha : aggOf P t = some false) : ks.length = 1 := by
  cases n with
  | zero => simp [eqKinds] at h
  | succ n =>
    unfold eqKinds at h
    unfold aggOf at ha
    split at h <;> simp_all
    all_goals (subst h; rfl)
theorem run_eq_fields {P : Program} {n : Nat} (ih : ∀ (t : TypeId) (ks : List CK) (d : Nat) (xs ys : List Value) (w : World), eqKinds P n t = some ks → n ≤ d → xs.map ckOf = ks.map some → ys.map ckOf = ks.map some →
      (Op.equalIn d t (wrapV P t xs) (wrapV P t ys)).run P w = .ok (ceqL xs ys) w) (d : Nat) (hd : n ≤ d) (xs ys : List Value) (w : World) :
    ∀ (fs : List Field) (off : Nat) (ks : List CK), eqFields P (eqKinds P n) fs off = some ks → off ≤ xs.length → off ≤ ys.length → (xs.drop off).map ckOf = ks.map some → (ys.drop off).map ckOf = ks.map some →
    (forIn fs ((none, ()) : Option Bool × Unit) (fun f (_ : Option Bool × Unit) => (do
        if f.name ≠ "_" then
          if (!(← Op.equalIn d f.type (← part f.type xs.toArray f.offset) (← part f.type ys.toArray f.offset))) = true then pure (.done (some false, ())) else pure (.yield (none, ()))
        else pure (.yield (none, ())) : Sem (ForInStep (Option Bool × Unit))))).run P w = .ok (if ceqL (xs.drop off) (ys.drop off) then (none, ()) else (some false, ())) w
  | [], off, ks, h, hox, hoy, hx, hy => by
    simp [eqFields] at h; subst h
    have h1 : xs.drop off = [] := by simpa using hx
    have h2 : ys.drop off = [] := by simpa using hy
    simp [h1, h2, ceqL]
  | f :: fs, off, ks, h, hox, hoy, hx, hy => by
    unfold eqFields at h
    split at h
    · cases h
    rename_i hnm
    split at h
    · rename_i ks1 hk1
      split at h
      · rename_i hsz
        obtain ⟨ks2, hk2, rfl⟩ := Option.map_eq_some_iff.1 h
        have ho : f.offset = off := Decidable.byContradiction fun e => hnm (Or.inr e)
        have hne : f.name ≠ "_" := fun e => hnm (Or.inl e)
        have hxl := kinds_len hx; have hyl := kinds_len hy
        simp at hxl hyl
        have hx1 : ((xs.drop off).take ks1.length).map ckOf = ks1.map some := by rw [List.map_take, hx]; simp
        have hy1 : ((ys.drop off).take ks1.length).map ckOf = ks1.map some := by rw [List.map_take, hy]; simp
        have hx2 : (xs.drop (off + ks1.length)).map ckOf = ks2.map some := by rw [← List.drop_drop, List.map_drop, hx]; simp
        have hy2 : (ys.drop (off + ks1.length)).map ckOf = ks2.map some := by rw [← List.drop_drop, List.map_drop, hy]; simp
        have c1 := cell_kinds1 hk1
        have p1 := run_part (P := P) (w := w) (cs := xs) (off := off) hsz.1 hsz.2 (by omega) c1
        have p2 := run_part (P := P) (w := w) (cs := ys) (off := off) hsz.1 hsz.2 (by omega) c1
        have e1 := ih f.type ks1 d _ _ w hk1 hd hx1 hy1
        have rest := run_eq_fields ih d hd xs ys w fs (off + ks1.length) ks2 hk2 (by omega) (by omega) hx2 hy2
        have hsplit : ceqL (xs.drop off) (ys.drop off) = (ceqL ((xs.drop off).take ks1.length) ((ys.drop off).take ks1.length) && ceqL (xs.drop (off + ks1.length)) (ys.drop (off + ks1.length))) := by
          rw [← ceqL_append _ _ _ _ (by simp; omega), ← List.drop_drop, List.take_append_drop, ← List.drop_drop, List.take_append_drop]
        rw [List.forIn_cons]
        simp only [ho, if_pos hne, Sem.run_bind, p1, p2, e1, Result.andThen_ok]
        rw [hsplit]
        cases hc : ceqL ((xs.drop off).take ks1.length) ((ys.drop off).take ks1.length) with
        | false => simp
        | true => simpa using rest
      · cases h
    · cases h
theorem run_eqk {P : Program} : ∀ (n : Nat) (t : TypeId) (ks : List CK) (d : Nat) (xs ys : List Value) (w : World), eqKinds P n t = some ks → n ≤ d → xs.map ckOf = ks.map some → ys.map ckOf = ks.map some →
      (Op.equalIn d t (wrapV P t xs) (wrapV P t ys)).run P w = .ok (ceqL xs ys) w
  | 0, t, ks, d, xs, ys, w, h, _, _, _ => by simp [eqKinds] at h
  | n + 1, t, ks, 0, xs, ys, w, h, hd, _, _ => by omega
  | n + 1, t, ks, d + 1, xs, ys, w, h, hd, hx, hy => by
    unfold eqKinds at h
    split at h
    · rename_i hu
      obtain rfl : [CK.b] = ks := by simpa using h
      obtain ⟨x, rfl⟩ : ∃ x, xs = [x] := List.length_eq_one_iff.1 (kinds_len hx)
      obtain ⟨y, rfl⟩ : ∃ x, ys = [x] := List.length_eq_one_iff.1 (kinds_len hy)
      have ha : aggOf P t = some false := by simp [aggOf, hu]
      cases x <;> simp [ckOf] at hx
      cases y <;> simp [ckOf] at hy
      simp [wrapV, ha, Op.equalIn, run_under w t hu, ceqL, ceq]
    · rename_i k hu
      obtain rfl : [CK.i k] = ks := by simpa using h
      obtain ⟨x, rfl⟩ : ∃ x, xs = [x] := List.length_eq_one_iff.1 (kinds_len hx)
      obtain ⟨y, rfl⟩ : ∃ x, ys = [x] := List.length_eq_one_iff.1 (kinds_len hy)
      have ha : aggOf P t = some false := by simp [aggOf, hu]
      cases x <;> simp [ckOf] at hx
      cases y <;> simp [ckOf] at hy
      subst hx hy
      simp [wrapV, ha, Op.equalIn, run_under w t hu, ceqL, ceq]
    · rename_i hu
      obtain rfl : [CK.s] = ks := by simpa using h
      obtain ⟨x, rfl⟩ : ∃ x, xs = [x] := List.length_eq_one_iff.1 (kinds_len hx)
      obtain ⟨y, rfl⟩ : ∃ x, ys = [x] := List.length_eq_one_iff.1 (kinds_len hy)
      have ha : aggOf P t = some false := by simp [aggOf, hu]
      cases x <;> simp [ckOf] at hx
      cases y <;> simp [ckOf] at hy
      simp [wrapV, ha, Op.equalIn, run_under w t hu, ceqL, ceq]
    · rename_i fs hu
      split at h
      · cases h
      rename_i hst
      have ha : aggOf P t = some true := by simp [aggOf, hu]
      have := run_eq_fields (P := P) (n := n) (fun t ks d xs ys w => run_eqk n t ks d xs ys w) d (by omega) xs ys w fs.toList 0 ks h (by omega) (by omega) (by simpa using hx) (by simpa using hy)
      simp only [List.drop_zero] at this
      unfold Op.equalIn
      have hp : program.run P w = .ok P w := rfl
      simp only [wrapV, if_pos ha, Sem.run_bind, run_under w t hu, Result.andThen_ok, hp, if_neg hst]
      rw [← Array.forIn_toList]
      rw [this]
      cases ceqL xs ys <;> rfl
    · cases h
class TEq (P : Program) (T : TypeId) (ks : outParam (List CK)) : Prop where
  out : eqKinds P 20 T = some ks
  guard : P.eqGuardType P.depth T = false
section ops
variable {P : Program} {B : Base} {N : Nat} {ops rest : List Oper} {F : Fr} {A : List Asn} {K : Fr → List Asn → Prop}
variable {T : TypeId} {pos : String} {aft : Array Edge} {d : Tmp} {fm : Fm} {x y : Operand} {U V : TypeId}
theorem run_eq_agg {ks : List CK} {xs ys : List Value} (w : World) (h : eqKinds P 20 U = some ks) (ha : aggOf P U = some true) (hx : xs.map ckOf = ks.map some) (hy : ys.map ckOf = ks.map some) :
    (Op.equal U (.agg xs.toArray) (.agg ys.toArray)).run P w = .ok (ceqL xs ys) w := by
  have := run_eqk 20 U ks Op.maxDepth xs ys w h (by decide) hx hy
  simpa [wrapV, ha, Op.equal] using this
theorem Wl_agg_eql {ks : List CK} {xs ys : List Value} [h1 : TEq P U ks] [h2 : TAgg P U] (hd : Nat.blt d N = true := by exact rfl) (hx : ev F x = .agg xs.toArray := by exact rfl) (hy : ev F y = .agg ys.toArray := by exact rfl) (kx : xs.map ckOf = ks.map some := by exact rfl) (ky : ys.map ckOf = ks.map some := by exact rfl)
    (k' : Wl P B N fm ops rest (upd F d (.bool (ceqL xs ys))) A K) : Wl P B N fm ops (⟨some d, .binOp .eql U x y V, T, pos, aft, none⟩ :: rest) F A K := Wl_valP hd (fun w => by
      have h := run_eq_agg (P := P) (U := U) w h1.out h2.out kx ky
      simp [execOp, hx, hy, eqGuard, binOp, h, h1.guard]) k'
theorem Wl_agg_neq {ks : List CK} {xs ys : List Value} [h1 : TEq P U ks] [h2 : TAgg P U] (hd : Nat.blt d N = true := by exact rfl) (hx : ev F x = .agg xs.toArray := by exact rfl) (hy : ev F y = .agg ys.toArray := by exact rfl) (kx : xs.map ckOf = ks.map some := by exact rfl) (ky : ys.map ckOf = ks.map some := by exact rfl)
    (k' : Wl P B N fm ops rest (upd F d (.bool (!(ceqL xs ys)))) A K) : Wl P B N fm ops (⟨some d, .binOp .neq U x y V, T, pos, aft, none⟩ :: rest) F A K := Wl_valP hd (fun w => by
      have h := run_eq_agg (P := P) (U := U) w h1.out h2.out kx ky
      simp [execOp, hx, hy, eqGuard, binOp, h, h1.guard]) k'
theorem Wl_agg_eqlB {ks : List CK} {xs ys : List Value} {b : Bool} [h1 : TEq P U ks] [h2 : TAgg P U] (hd : Nat.blt d N = true := by exact rfl) (hx : ev F x = .agg xs.toArray := by exact rfl) (hy : ev F y = .agg ys.toArray := by exact rfl) (kx : xs.map ckOf = ks.map some := by exact rfl) (ky : ys.map ckOf = ks.map some := by exact rfl)
    (hb : ceqL xs ys = b) (k' : Wl P B N fm ops rest (upd F d (.bool b)) A K) : Wl P B N fm ops (⟨some d, .binOp .eql U x y V, T, pos, aft, none⟩ :: rest) F A K := Wl_agg_eql hd hx hy kx ky (by rw [hb]; exact k')
theorem Wl_agg_neqB {ks : List CK} {xs ys : List Value} {b : Bool} [h1 : TEq P U ks] [h2 : TAgg P U] (hd : Nat.blt d N = true := by exact rfl) (hx : ev F x = .agg xs.toArray := by exact rfl) (hy : ev F y = .agg ys.toArray := by exact rfl) (kx : xs.map ckOf = ks.map some := by exact rfl) (ky : ys.map ckOf = ks.map some := by exact rfl)
    (hb : ceqL xs ys = b) (k' : Wl P B N fm ops rest (upd F d (.bool (!b))) A K) : Wl P B N fm ops (⟨some d, .binOp .neq U x y V, T, pos, aft, none⟩ :: rest) F A K := Wl_agg_neq hd hx hy kx ky (by rw [hb]; exact k')
end ops
end Go.Sl
