/- More rules of single operations over the logic of XSl: numbers, slices, builtins, calls. No condition. -/
import Derived.Test.YtnoggejkkjngjaaSo
set_option linter.unusedVariables false
namespace Go.Sl
open Go
section ops
variable {P : Program} {B : Base} {N : Nat} {ops rest : List Oper} {F : Fr} {A : List Asn} {K : Fr → List Asn → Prop}
variable {T : TypeId} {pos : String} {aft : Array Edge} {d : Tmp} {fm : Fm} {x y : Operand} {U V : TypeId}

/-! numbers -/
theorem run_cmp {op : BinOp} {k : IntKind} {a b : Int} (w : World) (ho : op = .lss ∨ op = .leq ∨ op = .gtr ∨ op = .geq ∨ op = .eql ∨ op = .neq)
    (hx : ev F x = .int k a) (hy : ev F y = .int k b) :
    (execOp (ev F) ⟨some d, .binOp op U x y V, T, pos, aft, none⟩).run P w = ((Op.intCmp op a b).run P w).andThen fun v w' => .ok (.value v) w' := by
  rcases ho with rfl | rfl | rfl | rfl | rfl | rfl <;> simp [execOp, hx, hy, eqGuard, binOp]
theorem Wl_lss {k : IntKind} {a b : Int} (hd : Nat.blt d N = true := by exact rfl) (hx : ev F x = .int k a := by exact rfl) (hy : ev F y = .int k b := by exact rfl) (k' : Wl P B N fm ops rest (upd F d (.bool (decide (a < b)))) A K) :
    Wl P B N fm ops (⟨some d, .binOp .lss U x y V, T, pos, aft, none⟩ :: rest) F A K := Wl_valP hd (fun w => by rw [run_cmp w (by simp) hx hy]; rfl) k'
theorem Wl_leq {k : IntKind} {a b : Int} (hd : Nat.blt d N = true := by exact rfl) (hx : ev F x = .int k a := by exact rfl) (hy : ev F y = .int k b := by exact rfl) (k' : Wl P B N fm ops rest (upd F d (.bool (decide (a ≤ b)))) A K) :
    Wl P B N fm ops (⟨some d, .binOp .leq U x y V, T, pos, aft, none⟩ :: rest) F A K := Wl_valP hd (fun w => by rw [run_cmp w (by simp) hx hy]; rfl) k'
theorem Wl_gtr {k : IntKind} {a b : Int} (hd : Nat.blt d N = true := by exact rfl) (hx : ev F x = .int k a := by exact rfl) (hy : ev F y = .int k b := by exact rfl) (k' : Wl P B N fm ops rest (upd F d (.bool (decide (b < a)))) A K) :
    Wl P B N fm ops (⟨some d, .binOp .gtr U x y V, T, pos, aft, none⟩ :: rest) F A K := Wl_valP hd (fun w => by rw [run_cmp w (by simp) hx hy]; rfl) k'
theorem Wl_geq {k : IntKind} {a b : Int} (hd : Nat.blt d N = true := by exact rfl) (hx : ev F x = .int k a := by exact rfl) (hy : ev F y = .int k b := by exact rfl) (k' : Wl P B N fm ops rest (upd F d (.bool (decide (b ≤ a)))) A K) :
    Wl P B N fm ops (⟨some d, .binOp .geq U x y V, T, pos, aft, none⟩ :: rest) F A K := Wl_valP hd (fun w => by rw [run_cmp w (by simp) hx hy]; rfl) k'
theorem Wl_eql {k : IntKind} {a b : Int} (hd : Nat.blt d N = true := by exact rfl) (hx : ev F x = .int k a := by exact rfl) (hy : ev F y = .int k b := by exact rfl) (k' : Wl P B N fm ops rest (upd F d (.bool (decide (a = b)))) A K) :
    Wl P B N fm ops (⟨some d, .binOp .eql U x y V, T, pos, aft, none⟩ :: rest) F A K := Wl_valP hd (fun w => by rw [run_cmp w (by simp) hx hy]; rfl) k'
theorem Wl_neq {k : IntKind} {a b : Int} (hd : Nat.blt d N = true := by exact rfl) (hx : ev F x = .int k a := by exact rfl) (hy : ev F y = .int k b := by exact rfl) (k' : Wl P B N fm ops rest (upd F d (.bool (decide (a ≠ b)))) A K) :
    Wl P B N fm ops (⟨some d, .binOp .neq U x y V, T, pos, aft, none⟩ :: rest) F A K := Wl_valP hd (fun w => by
      rw [run_cmp w (by simp) hx hy]; have h2 : (a != b) = decide (a ≠ b) := by rw [Bool.eq_iff_iff]; simp
      simp only [Op.intCmp, h2]; rfl) k'

theorem run_arith {op : BinOp} {k : IntKind} {a b : Int} (w : World) (ho : op = .add ∨ op = .sub ∨ op = .mul) (hx : ev F x = .int k a) (hy : ev F y = .int k b) :
    (execOp (ev F) ⟨some d, .binOp op U x y V, T, pos, aft, none⟩).run P w = ((Op.intArith op k a b).run P w).andThen fun v w' => .ok (.value v) w' := by
  rcases ho with rfl | rfl | rfl <;> simp [execOp, hx, hy, eqGuard, binOp]
def fitsK (k : IntKind) (n : Int) : Prop := k.wrap n = n
theorem fits_i64 {n : Int} (h : -9223372036854775808 ≤ n ∧ n ≤ 9223372036854775807) : fitsK .i64 n := IntWalk.i64_in n h
theorem fits_u8 {n : Int} (h : 0 ≤ n ∧ n ≤ 255) : fitsK .u8 n := IntWalk.u8_in n h
theorem fits_u64 {n : Int} (h : 0 ≤ n ∧ n ≤ 18446744073709551615) : fitsK .u64 n := IntWalk.u64_in n h
theorem fits_u32 {n : Int} (h : 0 ≤ n ∧ n ≤ 4294967295) : fitsK .u32 n := IntWalk.u32_in n h
theorem Wl_add {k : IntKind} {a b : Int} (hd : Nat.blt d N = true := by exact rfl) (hx : ev F x = .int k a := by exact rfl) (hy : ev F y = .int k b := by exact rfl) (hf : fitsK k (a + b) := by first | exact fits_i64 (by omega) | exact fits_u8 (by omega) | exact fits_u64 (by omega) | exact fits_u32 (by omega)) (k' : Wl P B N fm ops rest (upd F d (.int k (a + b))) A K) :
    Wl P B N fm ops (⟨some d, .binOp .add U x y V, T, pos, aft, none⟩ :: rest) F A K := Wl_valP hd (fun w => by rw [run_arith w (by simp) hx hy]; simp only [Op.intArith]; rw [hf]; rfl) k'
theorem Wl_sub {k : IntKind} {a b : Int} (hd : Nat.blt d N = true := by exact rfl) (hx : ev F x = .int k a := by exact rfl) (hy : ev F y = .int k b := by exact rfl) (hf : fitsK k (a - b) := by first | exact fits_i64 (by omega) | exact fits_u8 (by omega) | exact fits_u64 (by omega) | exact fits_u32 (by omega)) (k' : Wl P B N fm ops rest (upd F d (.int k (a - b))) A K) :
    Wl P B N fm ops (⟨some d, .binOp .sub U x y V, T, pos, aft, none⟩ :: rest) F A K := Wl_valP hd (fun w => by rw [run_arith w (by simp) hx hy]; simp only [Op.intArith]; rw [hf]; rfl) k'
theorem Wl_mul {k : IntKind} {a b : Int} (hd : Nat.blt d N = true := by exact rfl) (hx : ev F x = .int k a := by exact rfl) (hy : ev F y = .int k b := by exact rfl) (hf : fitsK k (a * b) := by first | exact fits_i64 (by omega) | exact fits_u8 (by omega) | exact fits_u64 (by omega) | exact fits_u32 (by omega)) (k' : Wl P B N fm ops rest (upd F d (.int k (a * b))) A K) :
    Wl P B N fm ops (⟨some d, .binOp .mul U x y V, T, pos, aft, none⟩ :: rest) F A K := Wl_valP hd (fun w => by rw [run_arith w (by simp) hx hy]; simp only [Op.intArith]; rw [hf]; rfl) k'
theorem Wl_addW {k : IntKind} {a b : Int} (hd : Nat.blt d N = true := by exact rfl) (hx : ev F x = .int k a := by exact rfl) (hy : ev F y = .int k b := by exact rfl) (k' : Wl P B N fm ops rest (upd F d (.int k (k.wrap (a + b)))) A K) :
    Wl P B N fm ops (⟨some d, .binOp .add U x y V, T, pos, aft, none⟩ :: rest) F A K := Wl_valP hd (fun w => by rw [run_arith w (by simp) hx hy]; rfl) k'
theorem Wl_subW {k : IntKind} {a b : Int} (hd : Nat.blt d N = true := by exact rfl) (hx : ev F x = .int k a := by exact rfl) (hy : ev F y = .int k b := by exact rfl) (k' : Wl P B N fm ops rest (upd F d (.int k (k.wrap (a - b)))) A K) :
    Wl P B N fm ops (⟨some d, .binOp .sub U x y V, T, pos, aft, none⟩ :: rest) F A K := Wl_valP hd (fun w => by rw [run_arith w (by simp) hx hy]; rfl) k'
theorem Wl_mulW {k : IntKind} {a b : Int} (hd : Nat.blt d N = true := by exact rfl) (hx : ev F x = .int k a := by exact rfl) (hy : ev F y = .int k b := by exact rfl) (k' : Wl P B N fm ops rest (upd F d (.int k (k.wrap (a * b)))) A K) :
    Wl P B N fm ops (⟨some d, .binOp .mul U x y V, T, pos, aft, none⟩ :: rest) F A K := Wl_valP hd (fun w => by rw [run_arith w (by simp) hx hy]; rfl) k'
theorem Wl_rem {k : IntKind} {a b : Int} (hd : Nat.blt d N = true := by exact rfl) (hx : ev F x = .int k a := by exact rfl) (hy : ev F y = .int k b := by exact rfl) (hb : b ≠ 0 := by omega) (k' : Wl P B N fm ops rest (upd F d (.int k (a.tmod b))) A K) :
    Wl P B N fm ops (⟨some d, .binOp .rem U x y V, T, pos, aft, none⟩ :: rest) F A K := Wl_valP hd (fun w => by simp [execOp, hx, hy, eqGuard, binOp, Op.intDiv, hb]) k'
theorem Wl_quo {k : IntKind} {a b : Int} (hd : Nat.blt d N = true := by exact rfl) (hx : ev F x = .int k a := by exact rfl) (hy : ev F y = .int k b := by exact rfl) (hb : b ≠ 0 := by omega) (k' : Wl P B N fm ops rest (upd F d (.int k (k.wrap (a.tdiv b)))) A K) :
    Wl P B N fm ops (⟨some d, .binOp .quo U x y V, T, pos, aft, none⟩ :: rest) F A K := Wl_valP hd (fun w => by simp [execOp, hx, hy, eqGuard, binOp, Op.intDiv, hb]) k'
/-- '&', '|', '^', '&^', as the model reckons them. -/
def bitV (op : BinOp) (k : IntKind) (a b : Int) : Int :=
  k.wrap (match op with
    | .and => (BitVec.ofInt k.bits a &&& BitVec.ofInt k.bits b).toNat
    | .or => (BitVec.ofInt k.bits a ||| BitVec.ofInt k.bits b).toNat
    | .xor => (BitVec.ofInt k.bits a ^^^ BitVec.ofInt k.bits b).toNat
    | _ => (BitVec.ofInt k.bits a &&& ~~~ BitVec.ofInt k.bits b).toNat)
theorem Wl_and {k : IntKind} {a b : Int} (hd : Nat.blt d N = true := by exact rfl) (hx : ev F x = .int k a := by exact rfl) (hy : ev F y = .int k b := by exact rfl) (k' : Wl P B N fm ops rest (upd F d (.int k (bitV .and k a b))) A K) :
    Wl P B N fm ops (⟨some d, .binOp .and U x y V, T, pos, aft, none⟩ :: rest) F A K := Wl_valP hd (fun w => by simp [execOp, hx, hy, eqGuard, binOp, Op.intBits, bitV]) k'
theorem Wl_or {k : IntKind} {a b : Int} (hd : Nat.blt d N = true := by exact rfl) (hx : ev F x = .int k a := by exact rfl) (hy : ev F y = .int k b := by exact rfl) (k' : Wl P B N fm ops rest (upd F d (.int k (bitV .or k a b))) A K) :
    Wl P B N fm ops (⟨some d, .binOp .or U x y V, T, pos, aft, none⟩ :: rest) F A K := Wl_valP hd (fun w => by simp [execOp, hx, hy, eqGuard, binOp, Op.intBits, bitV]) k'
theorem Wl_xor {k : IntKind} {a b : Int} (hd : Nat.blt d N = true := by exact rfl) (hx : ev F x = .int k a := by exact rfl) (hy : ev F y = .int k b := by exact rfl) (k' : Wl P B N fm ops rest (upd F d (.int k (bitV .xor k a b))) A K) :
    Wl P B N fm ops (⟨some d, .binOp .xor U x y V, T, pos, aft, none⟩ :: rest) F A K := Wl_valP hd (fun w => by simp [execOp, hx, hy, eqGuard, binOp, Op.intBits, bitV]) k'
theorem Wl_shl {k k2 : IntKind} {a b : Int} (hd : Nat.blt d N = true := by exact rfl) (hx : ev F x = .int k a := by exact rfl) (hy : ev F y = .int k2 b := by exact rfl) (hb : 0 ≤ b := by omega) (k' : Wl P B N fm ops rest (upd F d (.int k (k.wrap (a * 2 ^ (min b.toNat k.bits))))) A K) :
    Wl P B N fm ops (⟨some d, .binOp .shl U x y V, T, pos, aft, none⟩ :: rest) F A K := Wl_valP hd (fun w => by simp [execOp, hx, hy, eqGuard, binOp, Op.shift, Int.not_lt.2 hb]) k'
theorem Wl_shr {k k2 : IntKind} {a b : Int} (hd : Nat.blt d N = true := by exact rfl) (hx : ev F x = .int k a := by exact rfl) (hy : ev F y = .int k2 b := by exact rfl) (hb : 0 ≤ b := by omega) (k' : Wl P B N fm ops rest (upd F d (.int k (a.fdiv (2 ^ (min b.toNat k.bits))))) A K) :
    Wl P B N fm ops (⟨some d, .binOp .shr U x y V, T, pos, aft, none⟩ :: rest) F A K := Wl_valP hd (fun w => by simp [execOp, hx, hy, eqGuard, binOp, Op.shift, Int.not_lt.2 hb]) k'
theorem Wl_not {b : Bool} (hd : Nat.blt d N = true := by exact rfl) (hx : ev F x = .bool b := by exact rfl) (k' : Wl P B N fm ops rest (upd F d (.bool (!b))) A K) :
    Wl P B N fm ops (⟨some d, .unOp .not U x, T, pos, aft, none⟩ :: rest) F A K := Wl_valP hd (fun w => by simp [execOp, hx, Op.unary]) k'
theorem Wl_neg {k : IntKind} {a : Int} (hd : Nat.blt d N = true := by exact rfl) (hx : ev F x = .int k a := by exact rfl) (k' : Wl P B N fm ops rest (upd F d (.int k (k.wrap (0 - a)))) A K) :
    Wl P B N fm ops (⟨some d, .unOp .neg U x, T, pos, aft, none⟩ :: rest) F A K := Wl_valP hd (fun w => by simp [execOp, hx, Op.unary, Op.intArith]) k'

theorem Wl_conv {k j : IntKind} {a : Int} [h1 : TInt P U k] [h2 : TInt P V j] (hd : Nat.blt d N = true := by exact rfl) (hx : ev F x = .int k a := by exact rfl) (hf : fitsK j a := by first | exact fits_i64 (by omega) | exact fits_u8 (by omega) | exact fits_u64 (by omega) | exact fits_u32 (by omega)) (k' : Wl P B N fm ops rest (upd F d (.int j a)) A K) :
    Wl P B N fm ops (⟨some d, .convert U V x, T, pos, aft, none⟩ :: rest) F A K := Wl_valP hd (fun w => by
      have h := hf; unfold fitsK at h
      simp [execOp, hx, convert, run_under w U (under_of_int h1.out), run_under w V (under_of_int h2.out), Conv.intToInt, h]) k'
theorem Wl_convW {k j : IntKind} {a : Int} [h1 : TInt P U k] [h2 : TInt P V j] (hd : Nat.blt d N = true := by exact rfl) (hx : ev F x = .int k a := by exact rfl) (k' : Wl P B N fm ops rest (upd F d (.int j (j.wrap a))) A K) :
    Wl P B N fm ops (⟨some d, .convert U V x, T, pos, aft, none⟩ :: rest) F A K := Wl_valP hd (fun w => by
      simp [execOp, hx, convert, run_under w U (under_of_int h1.out), run_under w V (under_of_int h2.out), Conv.intToInt]) k'

/-! pointers, slices, functions against nil -/
theorem run_equalIn_ptr {U E : TypeId} (n : Nat) (w : World) (p : Option Addr) (h : ptrOf P U = some E) : (Op.equalIn (n + 1) U (.pointer p) (.pointer none)).run P w = .ok p.isNone w := by
  rw [Op.equalIn]
  cases p <;> simp [run_under w U (under_of_ptr h)]
theorem run_equal_ptr {U E : TypeId} (w : World) (p : Option Addr) (h : ptrOf P U = some E) : (Op.equal U (.pointer p) (.pointer none)).run P w = .ok p.isNone w := run_equalIn_ptr 9999 w p h
theorem run_equalIn_slice {U E : TypeId} (n : Nat) (w : World) (p : Option Addr) (l c l' c' : Nat) (h : slOf P U = some E) : (Op.equalIn (n + 1) U (.slice p l c) (.slice none l' c')).run P w = .ok p.isNone w := by
  rw [Op.equalIn]
  cases p <;> simp [run_under w U (under_of_sl h)]
theorem run_equal_slice {U E : TypeId} (w : World) (p : Option Addr) (l c l' c' : Nat) (h : slOf P U = some E) : (Op.equal U (.slice p l c) (.slice none l' c')).run P w = .ok p.isNone w := run_equalIn_slice 9999 w p l c l' c' h
def isFnNil : Value → Bool
  | .nilFunc => true
  | _ => false
def isFn : Value → Bool
  | .nilFunc | .func _ _ _ => true
  | _ => false
def fnOf (P : Program) (T : Nat) : Bool := match P.underlying T with | some (.func _ _ _) => true | _ => false
class TFn (P : Program) (T : Nat) : Prop where out : fnOf P T = true
theorem run_equalIn_fn {U : TypeId} (n : Nat) (w : World) (v : Value) (h : fnOf P U = true) (hv : isFn v = true) : (Op.equalIn (n + 1) U v .nilFunc).run P w = .ok (isFnNil v) w := by
  unfold fnOf at h
  split at h
  · rename_i hu
    rw [Op.equalIn]
    cases v <;> first | (simp [isFn] at hv; done) | simp [run_under w U hu, isFnNil]
  · cases h
theorem run_equal_fn {U : TypeId} (w : World) (v : Value) (h : fnOf P U = true) (hv : isFn v = true) : (Op.equal U v .nilFunc).run P w = .ok (isFnNil v) w := run_equalIn_fn 9999 w v h hv
theorem Wl_ptr_eq_nil {U E : TypeId} {p : Option Addr} [h : TPtr P U E] (hd : Nat.blt d N = true := by exact rfl) (hx : ev F x = .pointer p := by exact rfl) (hy : ev F y = .pointer none := by exact rfl) (k' : Wl P B N fm ops rest (upd F d (.bool p.isNone)) A K) :
    Wl P B N fm ops (⟨some d, .binOp .eql U x y V, T, pos, aft, none⟩ :: rest) F A K := Wl_valP hd (fun w => by
      have h1 := run_equal_ptr w p h.out
      simp [execOp, hx, hy, eqGuard, binOp, h1]) k'
theorem Wl_ptr_neq_nil {U E : TypeId} {p : Option Addr} [h : TPtr P U E] (hd : Nat.blt d N = true := by exact rfl) (hx : ev F x = .pointer p := by exact rfl) (hy : ev F y = .pointer none := by exact rfl) (k' : Wl P B N fm ops rest (upd F d (.bool (!p.isNone))) A K) :
    Wl P B N fm ops (⟨some d, .binOp .neq U x y V, T, pos, aft, none⟩ :: rest) F A K := Wl_valP hd (fun w => by
      have h1 := run_equal_ptr w p h.out
      simp [execOp, hx, hy, eqGuard, binOp, h1]) k'
theorem Wl_sl_eq_nil {U E l c l' c' : Nat} {p : Option Addr} [h : TSl P U E] (hd : Nat.blt d N = true := by exact rfl) (hx : ev F x = .slice p l c := by exact rfl) (hy : ev F y = .slice none l' c' := by exact rfl) (k' : Wl P B N fm ops rest (upd F d (.bool p.isNone)) A K) :
    Wl P B N fm ops (⟨some d, .binOp .eql U x y V, T, pos, aft, none⟩ :: rest) F A K := Wl_valP hd (fun w => by
      have h1 := run_equal_slice w p l c l' c' h.out
      simp [execOp, hx, hy, eqGuard, binOp, h1]) k'
theorem Wl_sl_neq_nil {U E l c l' c' : Nat} {p : Option Addr} [h : TSl P U E] (hd : Nat.blt d N = true := by exact rfl) (hx : ev F x = .slice p l c := by exact rfl) (hy : ev F y = .slice none l' c' := by exact rfl) (k' : Wl P B N fm ops rest (upd F d (.bool (!p.isNone))) A K) :
    Wl P B N fm ops (⟨some d, .binOp .neq U x y V, T, pos, aft, none⟩ :: rest) F A K := Wl_valP hd (fun w => by
      have h1 := run_equal_slice w p l c l' c' h.out
      simp [execOp, hx, hy, eqGuard, binOp, h1]) k'
theorem Wl_fn_eq_nil {U : TypeId} {v : Value} [h : TFn P U] (hd : Nat.blt d N = true := by exact rfl) (hx : ev F x = v := by exact rfl) (hv : isFn v = true := by exact rfl) (hy : ev F y = .nilFunc := by exact rfl) (k' : Wl P B N fm ops rest (upd F d (.bool (isFnNil v))) A K) :
    Wl P B N fm ops (⟨some d, .binOp .eql U x y V, T, pos, aft, none⟩ :: rest) F A K := Wl_valP hd (fun w => by
      have h1 := run_equal_fn w v h.out hv
      cases v <;> first | (simp [isFn] at hv; done) | simp [execOp, hx, hy, eqGuard, binOp, h1]) k'
theorem Wl_fn_neq_nil {U : TypeId} {v : Value} [h : TFn P U] (hd : Nat.blt d N = true := by exact rfl) (hx : ev F x = v := by exact rfl) (hv : isFn v = true := by exact rfl) (hy : ev F y = .nilFunc := by exact rfl) (k' : Wl P B N fm ops rest (upd F d (.bool (!(isFnNil v)))) A K) :
    Wl P B N fm ops (⟨some d, .binOp .neq U x y V, T, pos, aft, none⟩ :: rest) F A K := Wl_valP hd (fun w => by
      have h1 := run_equal_fn w v h.out hv
      cases v <;> first | (simp [isFn] at hv; done) | simp [execOp, hx, hy, eqGuard, binOp, h1]) k'
theorem Wl_str_eql {a b : ByteArray} (hd : Nat.blt d N = true := by exact rfl) (hx : ev F x = .string a := by exact rfl) (hy : ev F y = .string b := by exact rfl) (k' : Wl P B N fm ops rest (upd F d (.bool (a.toList == b.toList))) A K) :
    Wl P B N fm ops (⟨some d, .binOp .eql U x y V, T, pos, aft, none⟩ :: rest) F A K := Wl_valP hd (fun w => by simp [execOp, hx, hy, eqGuard, binOp, Op.stringOp]) k'
theorem Wl_str_neq {a b : ByteArray} (hd : Nat.blt d N = true := by exact rfl) (hx : ev F x = .string a := by exact rfl) (hy : ev F y = .string b := by exact rfl) (k' : Wl P B N fm ops rest (upd F d (.bool (!(a.toList == b.toList)))) A K) :
    Wl P B N fm ops (⟨some d, .binOp .neq U x y V, T, pos, aft, none⟩ :: rest) F A K := Wl_valP hd (fun w => by simp [execOp, hx, hy, eqGuard, binOp, Op.stringOp]) k'
theorem Wl_str_lss {a b : ByteArray} (hd : Nat.blt d N = true := by exact rfl) (hx : ev F x = .string a := by exact rfl) (hy : ev F y = .string b := by exact rfl) (k' : Wl P B N fm ops rest (upd F d (.bool (Op.bytesLess a.toList b.toList))) A K) :
    Wl P B N fm ops (⟨some d, .binOp .lss U x y V, T, pos, aft, none⟩ :: rest) F A K := Wl_valP hd (fun w => by simp [execOp, hx, hy, eqGuard, binOp, Op.stringOp]) k'
theorem Wl_str_gtr {a b : ByteArray} (hd : Nat.blt d N = true := by exact rfl) (hx : ev F x = .string a := by exact rfl) (hy : ev F y = .string b := by exact rfl) (k' : Wl P B N fm ops rest (upd F d (.bool (!(Op.bytesLess a.toList b.toList || a.toList == b.toList)))) A K) :
    Wl P B N fm ops (⟨some d, .binOp .gtr U x y V, T, pos, aft, none⟩ :: rest) F A K := Wl_valP hd (fun w => by simp [execOp, hx, hy, eqGuard, binOp, Op.stringOp]) k'
theorem Wl_str_add {a b : ByteArray} (hd : Nat.blt d N = true := by exact rfl) (hx : ev F x = .string a := by exact rfl) (hy : ev F y = .string b := by exact rfl) (hl : ((a.size + b.size : Nat) : Int) ≤ 9223372036854775807)
    (k' : Wl P B N fm ops rest (upd F d (.string (a ++ b))) A K) :
    Wl P B N fm ops (⟨some d, .binOp .add U x y V, T, pos, aft, none⟩ :: rest) F A K := Wl_valP hd (fun w => by
      have h : ¬ (((a.size + b.size : Nat) : Int) > IntKind.i64.max) := by
        have : IntKind.i64.max = 9223372036854775807 := by decide
        rw [this]; omega
      simp only [execOp, hx, hy, eqGuard, binOp, Op.stringOp, Sem.run_bind, if_neg h]
      simp) k'

/-! parts of aggregates; tuples -/
theorem Wl_extract {vs : List Value} {i : Nat} {v : Value} (hd : Nat.blt d N = true := by exact rfl) (hx : ev F x = .tuple vs.toArray := by exact rfl) (hv : vs[i]? = some v := by exact rfl) (k' : Wl P B N fm ops rest (upd F d v) A K) :
    Wl P B N fm ops (⟨some d, .extract x i, T, pos, aft, none⟩ :: rest) F A K := Wl_valP hd (fun w => by simp [execOp, hx, Instr.extract, hv]) k'
theorem Wl_field {s i fo ft n : Nat} {cs : List Value} {v : Value} [hf : FieldOff P s i fo ft n] [hc : TCell P ft] (hd : Nat.blt d N = true := by exact rfl) (hx : ev F x = .agg cs.toArray := by exact rfl) (hv : cs[fo]? = some v := by exact rfl)
    (k' : Wl P B N fm ops rest (upd F d v) A K) : Wl P B N fm ops (⟨some d, .field s x i, T, pos, aft, none⟩ :: rest) F A K := Wl_valP hd (fun w => by
    have h := hf.out
    unfold fieldOf at h
    split at h
    · rename_i fs hu
      cases hfi : fs[i]? with
      | none => simp [hfi] at h
      | some f =>
        cases hi : P.info? f.type with
        | none => simp [hfi, hi] at h
        | some t =>
          simp [hfi, hi] at h
          obtain ⟨h1, h2, h3⟩ := h
          subst h1 h2
          simp [execOp, hx, Instr.field, run_under w s hu, hfi, part, run_isAgg w _ hc.out, asAgg, hv]
    · cases h) k'
theorem Wl_fieldAgg {s i fo ft n : Nat} {cs ds : List Value} [hf : FieldOff P s i fo ft n] [hc : TAgg P ft] (hd : Nat.blt d N = true := by exact rfl) (hx : ev F x = .agg cs.toArray := by exact rfl) (hv : (cs.drop fo).take n = ds)
    (k' : Wl P B N fm ops rest (upd F d (.agg ds.toArray)) A K) : Wl P B N fm ops (⟨some d, .field s x i, T, pos, aft, none⟩ :: rest) F A K := Wl_valP hd (fun w => by
    have h := hf.out
    unfold fieldOf at h
    split at h
    · rename_i fs hu
      cases hfi : fs[i]? with
      | none => simp [hfi] at h
      | some f =>
        cases hi : P.info? f.type with
        | none => simp [hfi, hi] at h
        | some t =>
          simp [hfi, hi] at h
          obtain ⟨h1, h2, h3⟩ := h
          subst h1 h2 hv
          have hs : (sizeOf f.type).run P w = .ok n w := run_sizeOf w _ (by simp [tSize, hi, h3])
          simp [execOp, hx, Instr.field, run_under w s hu, hfi, part, run_isAgg w _ hc.out, asAgg, hs]
    · cases h) k'

/-! indexes -/
theorem Wl_index_sl {E n b off len cap : Nat} {k : IntKind} {i : Int} [h1 : TSl P U E] [h2 : TSize P E n] (hd : Nat.blt d N = true := by exact rfl) (hx : ev F x = .slice (some ⟨b, off, none⟩) len cap := by exact rfl) (hy : ev F y = .int k i := by exact rfl)
    (h0 : 0 ≤ i := by omega) (hl : i < len := by omega) (k' : Wl P B N fm ops rest (upd F d (.pointer (some ⟨b, off + i.toNat * n, none⟩))) A K) :
    Wl P B N fm ops (⟨some d, .indexAddr U x y, T, pos, aft, none⟩ :: rest) F A K := Wl_valP hd (fun w => by
      have hadd := addr_add b off (i.toNat * n)
      simp [execOp, hx, hy, Instr.indexAt, asIntOf, run_under w U (under_of_sl h1.out), h0, hl, run_sizeOf w E h2.out, hadd]) k'
theorem Wl_index_arr {E m n b off : Nat} {k : IntKind} {i : Int} [h1 : TArr P U m E] [h2 : TSize P E n] (hd : Nat.blt d N = true := by exact rfl) (hx : ev F x = .pointer (some ⟨b, off, none⟩) := by exact rfl) (hy : ev F y = .int k i := by exact rfl)
    (h0 : 0 ≤ i := by omega) (hl : i < m := by omega) (k' : Wl P B N fm ops rest (upd F d (.pointer (some ⟨b, off + i.toNat * n, none⟩))) A K) :
    Wl P B N fm ops (⟨some d, .indexAddr U x y, T, pos, aft, none⟩ :: rest) F A K := Wl_valP hd (fun w => by
      have hadd := addr_add b off (i.toNat * n)
      simp [execOp, hx, hy, Instr.indexAt, asIntOf, run_under w U (under_of_arr h1.out), h0, hl, run_sizeOf w E h2.out, Instr.sureAddr, hadd]) k'
theorem Wl_index_str {s : ByteArray} {k : IntKind} {i : Int} {c : UInt8} [h1 : TStr P U] (hd : Nat.blt d N = true := by exact rfl) (hx : ev F x = .string s := by exact rfl) (hy : ev F y = .int k i := by exact rfl)
    (h0 : 0 ≤ i := by omega) (hl : s[i.toNat]? = some c) (k' : Wl P B N fm ops rest (upd F d (.int .u8 c.toNat)) A K) :
    Wl P B N fm ops (⟨some d, .index U x y, T, pos, aft, none⟩ :: rest) F A K := Wl_valP hd (fun w => by
      simp [execOp, hx, hy, Instr.index, asIntOf, run_under w U (under_of_str h1.out), h0, hl]) k'

/-! slicing -/
theorem run_bound {w : World} {v : Value} {k : IntKind} {i : Int} {m : Nat} {c : BoundsCode} (hv : v = .int k i) (h0 : 0 ≤ i) (h1 : i ≤ m) :
    (Instr.sliceBound v m c).run P w = .ok i.toNat w := by subst hv; simp [Instr.sliceBound, asIntOf, h0, h1]
def lowV (F : Fr) : Option Operand → Option Int → Prop
  | none, n => n = none
  | some o, some i => ∃ k, ev F o = .int k i
  | some _, none => False
theorem Wl_slice_sl {E n b off len cap : Nat} {lo hi : Option Operand} {l h : Nat} [h1 : TSl P U E] [h2 : TSize P E n] (hd : Nat.blt d N = true := by exact rfl) (hx : ev F x = .slice (some ⟨b, off, none⟩) len cap := by exact rfl)
    (hlo : match lo with | none => l = 0 | some o => ∃ k, ev F o = .int k l := by first | exact rfl | exact ⟨_, rfl⟩) (hhi : match hi with | none => h = len | some o => ∃ k, ev F o = .int k h := by first | exact rfl | exact ⟨_, rfl⟩) (hlh : l ≤ h := by omega) (hhc : h ≤ cap := by omega)
    (k' : Wl P B N fm ops rest (upd F d (.slice (some (if cap = l then ⟨b, off, none⟩ else ⟨b, off + l * n, none⟩)) (h - l) (cap - l))) A K) :
    Wl P B N fm ops (⟨some d, .slice U x lo hi none, T, pos, aft, none⟩ :: rest) F A K := Wl_valP hd (fun w => by
      have hadd := addr_add b off (l * n)
      have hb : ∀ s, (Instr.sliceBounds s len cap (lo.map (ev F)) (hi.map (ev F)) none).run P w = .ok (l, h, cap) w := by
        intro s
        cases lo with
        | none =>
          cases hi with
          | none => simp only at hlo hhi; subst hlo hhi; simp [Instr.sliceBounds]
          | some o =>
            obtain ⟨k, hk⟩ := hhi; simp only at hlo; subst hlo
            simp [Instr.sliceBounds, run_bound (P := P) (w := w) hk (Int.natCast_nonneg _) (Int.ofNat_le.2 hhc)]
        | some p =>
          obtain ⟨j, hj⟩ := hlo
          cases hi with
          | none =>
            simp only at hhi; subst hhi
            simp [Instr.sliceBounds, run_bound (P := P) (w := w) hj (Int.natCast_nonneg _) (Int.ofNat_le.2 hlh)]
          | some o =>
            obtain ⟨k, hk⟩ := hhi
            simp [Instr.sliceBounds, run_bound (P := P) (w := w) hk (Int.natCast_nonneg _) (Int.ofNat_le.2 hhc), run_bound (P := P) (w := w) hj (Int.natCast_nonneg _) (Int.ofNat_le.2 hlh)]
      simp [execOp, hx, Instr.sliceAt, Instr.slice, run_under w U (under_of_sl h1.out), hb, run_sizeOf w E h2.out, hadd]
      split <;> rfl) k'
theorem Wl_slice_arr {E m n b off : Nat} {lo hi : Option Operand} {l h : Nat} [h1 : TArr P U m E] [h2 : TSize P E n] (hd : Nat.blt d N = true := by exact rfl) (hx : ev F x = .pointer (some ⟨b, off, none⟩) := by exact rfl)
    (hlo : match lo with | none => l = 0 | some o => ∃ k, ev F o = .int k l := by first | exact rfl | exact ⟨_, rfl⟩) (hhi : match hi with | none => h = m | some o => ∃ k, ev F o = .int k h := by first | exact rfl | exact ⟨_, rfl⟩) (hlh : l ≤ h := by omega) (hhc : h ≤ m := by omega)
    (k' : Wl P B N fm ops rest (upd F d (.slice (some (if m = l then ⟨b, off, none⟩ else ⟨b, off + l * n, none⟩)) (h - l) (m - l))) A K) :
    Wl P B N fm ops (⟨some d, .slice U x lo hi none, T, pos, aft, none⟩ :: rest) F A K := Wl_valP hd (fun w => by
      have hadd := addr_add b off (l * n)
      have hb : ∀ s, (Instr.sliceBounds s m m (lo.map (ev F)) (hi.map (ev F)) none).run P w = .ok (l, h, m) w := by
        intro s
        cases lo with
        | none =>
          cases hi with
          | none => simp only at hlo hhi; subst hlo hhi; simp [Instr.sliceBounds]
          | some o =>
            obtain ⟨k, hk⟩ := hhi; simp only at hlo; subst hlo
            simp [Instr.sliceBounds, run_bound (P := P) (w := w) hk (Int.natCast_nonneg _) (Int.ofNat_le.2 hhc)]
        | some p =>
          obtain ⟨j, hj⟩ := hlo
          cases hi with
          | none =>
            simp only at hhi; subst hhi
            simp [Instr.sliceBounds, run_bound (P := P) (w := w) hj (Int.natCast_nonneg _) (Int.ofNat_le.2 hlh)]
          | some o =>
            obtain ⟨k, hk⟩ := hhi
            simp [Instr.sliceBounds, run_bound (P := P) (w := w) hk (Int.natCast_nonneg _) (Int.ofNat_le.2 hhc), run_bound (P := P) (w := w) hj (Int.natCast_nonneg _) (Int.ofNat_le.2 hlh)]
      simp [execOp, hx, Instr.sliceAt, run_under w U (under_of_arr h1.out), hb, run_sizeOf w E h2.out, hadd, Instr.sureAddr]) k'
theorem Wl_slice_str {s : ByteArray} {lo hi : Option Operand} {l h : Nat} [h1 : TStr P U] (hd : Nat.blt d N = true := by exact rfl) (hx : ev F x = .string s := by exact rfl)
    (hlo : match lo with | none => l = 0 | some o => ∃ k, ev F o = .int k l := by first | exact rfl | exact ⟨_, rfl⟩) (hhi : match hi with | none => h = s.size | some o => ∃ k, ev F o = .int k h := by first | exact rfl | exact ⟨_, rfl⟩) (hlh : l ≤ h := by omega) (hhc : h ≤ s.size := by omega)
    (k' : Wl P B N fm ops rest (upd F d (.string (s.extract l h))) A K) :
    Wl P B N fm ops (⟨some d, .slice U x lo hi none, T, pos, aft, none⟩ :: rest) F A K := Wl_valP hd (fun w => by
      have hb : ∀ t, (Instr.sliceBounds t s.size s.size (lo.map (ev F)) (hi.map (ev F)) none).run P w = .ok (l, h, s.size) w := by
        intro t
        cases lo with
        | none =>
          cases hi with
          | none => simp only at hlo hhi; subst hlo hhi; simp [Instr.sliceBounds]
          | some o =>
            obtain ⟨k, hk⟩ := hhi; simp only at hlo; subst hlo
            simp [Instr.sliceBounds, run_bound (P := P) (w := w) hk (Int.natCast_nonneg _) (Int.ofNat_le.2 hhc)]
        | some p =>
          obtain ⟨j, hj⟩ := hlo
          cases hi with
          | none =>
            simp only at hhi; subst hhi
            simp [Instr.sliceBounds, run_bound (P := P) (w := w) hj (Int.natCast_nonneg _) (Int.ofNat_le.2 hlh)]
          | some o =>
            obtain ⟨k, hk⟩ := hhi
            simp [Instr.sliceBounds, run_bound (P := P) (w := w) hk (Int.natCast_nonneg _) (Int.ofNat_le.2 hhc), run_bound (P := P) (w := w) hj (Int.natCast_nonneg _) (Int.ofNat_le.2 hlh)]
      simp [execOp, hx, Instr.sliceAt, Instr.slice, run_under w U (under_of_str h1.out), hb]) k'
theorem Wl_slice_arr0 {E m n b off : Nat} {hi : Option Operand} {h : Nat} [h1 : TArr P U m E] [h2 : TSize P E n] (hd : Nat.blt d N = true := by exact rfl) (hx : ev F x = .pointer (some ⟨b, off, none⟩) := by exact rfl)
    (hhi : match hi with | none => h = m | some o => ∃ k, ev F o = .int k h := by first | exact rfl | exact ⟨_, rfl⟩) (hhc : h ≤ m := by omega)
    (k' : Wl P B N fm ops rest (upd F d (.slice (some ⟨b, off, none⟩) h m)) A K) :
    Wl P B N fm ops (⟨some d, .slice U x none hi none, T, pos, aft, none⟩ :: rest) F A K :=
  Wl_slice_arr (l := 0) (h := h) hd hx rfl hhi (Nat.zero_le _) hhc (by simpa using k')
theorem Wl_slice_sl0 {E n b off len cap : Nat} {hi : Option Operand} {h : Nat} [h1 : TSl P U E] [h2 : TSize P E n] (hd : Nat.blt d N = true := by exact rfl) (hx : ev F x = .slice (some ⟨b, off, none⟩) len cap := by exact rfl)
    (hhi : match hi with | none => h = len | some o => ∃ k, ev F o = .int k h := by first | exact rfl | exact ⟨_, rfl⟩) (hhc : h ≤ cap := by omega)
    (k' : Wl P B N fm ops rest (upd F d (.slice (some ⟨b, off, none⟩) h cap)) A K) :
    Wl P B N fm ops (⟨some d, .slice U x none hi none, T, pos, aft, none⟩ :: rest) F A K :=
  Wl_slice_sl (l := 0) (h := h) hd hx rfl hhi (Nat.zero_le _) hhc (by simpa using k')
theorem Wl_slice_str0 {s : ByteArray} {hi : Option Operand} {h : Nat} [h1 : TStr P U] (hd : Nat.blt d N = true := by exact rfl) (hx : ev F x = .string s := by exact rfl)
    (hhi : match hi with | none => h = s.size | some o => ∃ k, ev F o = .int k h := by first | exact rfl | exact ⟨_, rfl⟩) (hhc : h ≤ s.size := by omega)
    (k' : Wl P B N fm ops rest (upd F d (.string (s.extract 0 h))) A K) :
    Wl P B N fm ops (⟨some d, .slice U x none hi none, T, pos, aft, none⟩ :: rest) F A K :=
  Wl_slice_str (l := 0) (h := h) hd hx rfl hhi (Nat.zero_le _) hhc k'
theorem Wl_toArrPtr {E m len cap : Nat} {a : Option Addr} [h1 : TArr P U m E] (hd : Nat.blt d N = true := by exact rfl) (hx : ev F x = .slice a len cap := by exact rfl) (hl : m ≤ len := by omega)
    (k' : Wl P B N fm ops rest (upd F d (.pointer a)) A K) : Wl P B N fm ops (⟨some d, .sliceToArrayPointer U x, T, pos, aft, none⟩ :: rest) F A K := Wl_valP hd (fun w => by
      simp [execOp, hx, Instr.arrayAt, run_under w U (under_of_arr h1.out), Nat.not_lt.2 hl]) k'

/-! builtins -/
theorem Wl_len_sl {E len cap : Nat} {a : Option Addr} [h1 : TSl P U E] (hd : Nat.blt d N = true := by exact rfl) (hx : ev F x = .slice a len cap := by exact rfl) (k' : Wl P B N fm ops rest (upd F d (.int .i64 len)) A K) :
    Wl P B N fm ops (⟨some d, .call ⟨.builtin .len, #[x], #[U]⟩, T, pos, aft, none⟩ :: rest) F A K := Wl_valP hd (fun w => by
      simp [execOp, hx, resolve, invoke, builtin, Builtin.len_, run_under w U (under_of_sl h1.out), goInt]) k'
theorem Wl_len_str {s : ByteArray} [h1 : TStr P U] (hd : Nat.blt d N = true := by exact rfl) (hx : ev F x = .string s := by exact rfl) (k' : Wl P B N fm ops rest (upd F d (.int .i64 s.size)) A K) :
    Wl P B N fm ops (⟨some d, .call ⟨.builtin .len, #[x], #[U]⟩, T, pos, aft, none⟩ :: rest) F A K := Wl_valP hd (fun w => by
      simp [execOp, hx, resolve, invoke, builtin, Builtin.len_, run_under w U (under_of_str h1.out), goInt]) k'
theorem Wl_min {k : IntKind} {a b : Int} {ts : Array TypeId} (hd : Nat.blt d N = true := by exact rfl) (hx : ev F x = .int k a := by exact rfl) (hy : ev F y = .int k b := by exact rfl) (k' : Wl P B N fm ops rest (upd F d (.int k (min a b))) A K) :
    Wl P B N fm ops (⟨some d, .call ⟨.builtin .min, #[x, y], ts⟩, T, pos, aft, none⟩ :: rest) F A K := Wl_valP hd (fun w => by
      have : (if b < a then b else a) = min a b := by omega
      simp [execOp, hx, hy, resolve, invoke, builtin, Builtin.min_, Builtin.min2, this]) k'
theorem Wl_max {k : IntKind} {a b : Int} {ts : Array TypeId} (hd : Nat.blt d N = true := by exact rfl) (hx : ev F x = .int k a := by exact rfl) (hy : ev F y = .int k b := by exact rfl) (k' : Wl P B N fm ops rest (upd F d (.int k (max a b))) A K) :
    Wl P B N fm ops (⟨some d, .call ⟨.builtin .max, #[x, y], ts⟩, T, pos, aft, none⟩ :: rest) F A K := Wl_valP hd (fun w => by
      have : (if a < b then b else a) = max a b := by omega
      simp [execOp, hx, hy, resolve, invoke, builtin, Builtin.max_, Builtin.max2, this]) k'

/-! calls of named functions -/
def bodyOf (P : Program) (f : Nat) : Bool := match P.funcs[f]? with | some fn => !(fn.name == "runtime.NumGoroutine") && fn.body.isSome | none => false
class HasBody (P : Program) (f : Nat) : Prop where out : bodyOf P f = true
theorem run_callFunc_body {f : Nat} (h : bodyOf P f = true) (args : Array Value) (w : World) : (callFunc f args).run P w = .ok (.enter f args) w := by
  unfold bodyOf at h
  cases hf : P.funcs[f]? with
  | none => simp [hf] at h
  | some fn =>
    simp only [hf, Bool.and_eq_true, Bool.not_eq_true'] at h
    obtain ⟨h1, h2⟩ := h
    have h3 : fn.name ≠ "runtime.NumGoroutine" := by simpa using h1
    have h4 : fn.body ≠ none := by intro e; simp [e] at h2
    simp [callFunc, program, Sem.run, hf, h3, h4]
theorem Wl_call {f : FuncId} {xs : List Operand} {ts : Array TypeId} {args : List Value} {A1 M : List Asn} {post : Value → List Asn → Prop} [hb : HasBody P f] (hd : Nat.blt d N = true := by exact rfl)
    (ha : EvL F xs args := by (repeat (first | exact EvL.nil | apply EvL.cons (by (repeat (first | exact Ev.here | exact Ev.const | exact Ev.arg rfl | apply Ev.there rfl | exact Ev.none rfl | exact Ev.func | exact Ev.var)); (first | done | fail)))); (first | done | fail)) (hs : Fspec P B f args.toArray A1 post) (hp : Pick A A1 M := by (repeat (first | exact Pick.nil | apply Pick.cons (by (repeat (first | exact Out.head | apply Out.tail)); (first | done | fail)))); (first | done | fail))
    (k : ∀ v A', post v A' → Wl P B N fm ops rest (upd F d v) (A' ++ M) K) : Wl P B N fm ops (⟨some d, .call ⟨.value (.func f), xs.toArray, ts⟩, T, pos, aft, none⟩ :: rest) F A K :=
  Wl_enter rfl hd (fun w => by
    have := run_callFunc_body hb.out args.toArray w
    rw [← ha.eq] at this ⊢
    simpa [execOp, resolve, ev, Deferred.ofValue, invoke] using this) hs hp.perm k
theorem Wl_callM {f : FuncId} {xs : List Operand} {ts : Array TypeId} {args : List Value} {A1 M M0 : List Asn} {Ls : List Nat} {post : Value → List Asn → Prop} [hb : HasBody P f] (hd : Nat.blt d N = true := by exact rfl)
    (ha : EvL F xs args := by (repeat (first | exact EvL.nil | apply EvL.cons (by (repeat (first | exact Ev.here | exact Ev.const | exact Ev.arg rfl | apply Ev.there rfl | exact Ev.none rfl | exact Ev.func | exact Ev.var)); (first | done | fail)))); (first | done | fail)) (hs : ∀ B' : Base, (∀ w L, Sat B' w L → Sat B w M0) → Fspec P B' f args.toArray A1 post) (hp : Pick A A1 M := by (repeat (first | exact Pick.nil | apply Pick.cons (by (repeat (first | exact Out.head | apply Out.tail)); (first | done | fail)))); (first | done | fail))
    (k : ∀ v A', post v A' → Wl P B N (some (M0, Ls)) ops rest (upd F d v) (A' ++ M) K) : Wl P B N (some (M0, Ls)) ops (⟨some d, .call ⟨.value (.func f), xs.toArray, ts⟩, T, pos, aft, none⟩ :: rest) F A K :=
  Wl_enterM rfl hd (fun w => by
    have := run_callFunc_body hb.out args.toArray w
    rw [← ha.eq] at this ⊢
    simpa [execOp, resolve, ev, Deferred.ofValue, invoke] using this) hs hp.perm k
theorem Wl_callN {f : FuncId} {xs : List Operand} {ts : Array TypeId} {args : List Value} {A1 M : List Asn} {post : Value → List Asn → Prop} [hb : HasBody P f]
    (ha : EvL F xs args := by (repeat (first | exact EvL.nil | apply EvL.cons (by (repeat (first | exact Ev.here | exact Ev.const | exact Ev.arg rfl | apply Ev.there rfl | exact Ev.none rfl | exact Ev.func | exact Ev.var)); (first | done | fail)))); (first | done | fail)) (hs : Fspec P B f args.toArray A1 post) (hp : Pick A A1 M := by (repeat (first | exact Pick.nil | apply Pick.cons (by (repeat (first | exact Out.head | apply Out.tail)); (first | done | fail)))); (first | done | fail))
    (k : ∀ v A', post v A' → Wl P B N fm ops rest F (A' ++ M) K) : Wl P B N fm ops (⟨none, .call ⟨.value (.func f), xs.toArray, ts⟩, T, pos, aft, none⟩ :: rest) F A K :=
  Wl_enterN rfl (fun w => by
    have := run_callFunc_body hb.out args.toArray w
    rw [← ha.eq] at this ⊢
    simpa [execOp, resolve, ev, Deferred.ofValue, invoke] using this) hs hp.perm k
/-- A call of a body-less function that the model runs in place. -/
theorem Wl_callX {f : FuncId} {xs : List Operand} {ts : Array TypeId} {args : List Value} {v : Value} {A' : List Asn} (hd : Nat.blt d N = true := by exact rfl) (ha : EvL F xs args := by (repeat (first | exact EvL.nil | apply EvL.cons (by (repeat (first | exact Ev.here | exact Ev.const | exact Ev.arg rfl | apply Ev.there rfl | exact Ev.none rfl | exact Ev.func | exact Ev.var)); (first | done | fail)))); (first | done | fail))
    (hrun : ∀ w R, Sat B w (R :: A) → ∃ w', (callFunc f args.toArray).run P w = .ok (.value v) w' ∧ Sat B w' (R :: A'))
    (k : Wl P B N fm ops rest (upd F d v) A' K) : Wl P B N fm ops (⟨some d, .call ⟨.value (.func f), xs.toArray, ts⟩, T, pos, aft, none⟩ :: rest) F A K :=
  Wl_val rfl hd (fun w R hs => by
    obtain ⟨w', h, hs'⟩ := hrun w R hs
    refine ⟨w', ?_, hs'⟩
    rw [← ha.eq] at h
    simpa [execOp, resolve, ev, Deferred.ofValue, invoke] using h) k
end ops
end Go.Sl
