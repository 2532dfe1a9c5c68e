/- Package client: what each of its functions does, told by plain functions over an operation's state. Conditions: none. -/
import Derived.Test.YtjmmmfibmdlclaaTy
import Derived.Test.YtjmmmfibmdlclaaOp
set_option maxHeartbeats 8000000
set_option linter.unusedVariables false
set_option linter.unusedSimpArgs false
set_option maxRecDepth 100000
namespace Go.Proofs.Ytjmmmfibmdlclaa
open Go Go.Sl
attribute [local irreducible] Go.Sl.Wl Go.Sl.Wc Go.Sl.thenQ Go.Sl.blkQ Go.Sl.loopQ Go.Sl.Fspec

structure VX where
  e : Int
  i : Int
  there : Bool
  text : ByteArray
structure PX where
  e : Int
  i : Int
structure AX where
  kind : Int
  v : VX
  p : Int
  token : Int
  gutter : Bool
structure WX where
  ask : Int
  a : AX
  v : VX
  at_ : PX
  err : Int
structure EX where
  what : Int
  a : AX
  covers : Bool
  reset : Bool
  v : VX
  at_ : PX
  err : Int
structure OX where
  kind : Int
  session : Int
  request : Int
  key : ByteArray
  text : ByteArray
  floor : PX
  ask : Int
  missed : Option AX
  ticks : Int
  fin : WX
def VX.c (v : VX) : List Value := [.int .i64 v.e, .int .i64 v.i, .bool v.there, .string v.text]
def PX.c (p : PX) : List Value := [.int .i64 p.e, .int .i64 p.i]
def AX.c (a : AX) : List Value := [.int .i64 a.kind, .int .i64 a.v.e, .int .i64 a.v.i, .bool a.v.there, .string a.v.text, .int .i64 a.p, .int .i64 a.token, .bool a.gutter]
def WX.c (w : WX) : List Value := [.int .i64 w.ask, .int .i64 w.a.kind, .int .i64 w.a.v.e, .int .i64 w.a.v.i, .bool w.a.v.there, .string w.a.v.text, .int .i64 w.a.p, .int .i64 w.a.token, .bool w.a.gutter,
  .int .i64 w.v.e, .int .i64 w.v.i, .bool w.v.there, .string w.v.text, .int .i64 w.at_.e, .int .i64 w.at_.i, .int .i64 w.err]
def EX.c (w : EX) : List Value := [.int .i64 w.what, .int .i64 w.a.kind, .int .i64 w.a.v.e, .int .i64 w.a.v.i, .bool w.a.v.there, .string w.a.v.text, .int .i64 w.a.p, .int .i64 w.a.token, .bool w.a.gutter,
  .bool w.covers, .bool w.reset, .int .i64 w.v.e, .int .i64 w.v.i, .bool w.v.there, .string w.v.text, .int .i64 w.at_.e, .int .i64 w.at_.i, .int .i64 w.err]
def OX.c (o : OX) (m : Value) : List Value := [.int .i64 o.kind, .int .i64 o.session, .int .i64 o.request, .string o.key, .string o.text, .int .i64 o.floor.e, .int .i64 o.floor.i, .int .i64 o.ask, m, .int .i64 o.ticks,
  .int .i64 o.fin.ask, .int .i64 o.fin.a.kind, .int .i64 o.fin.a.v.e, .int .i64 o.fin.a.v.i, .bool o.fin.a.v.there, .string o.fin.a.v.text, .int .i64 o.fin.a.p, .int .i64 o.fin.a.token, .bool o.fin.a.gutter,
  .int .i64 o.fin.v.e, .int .i64 o.fin.v.i, .bool o.fin.v.there, .string o.fin.v.text, .int .i64 o.fin.at_.e, .int .i64 o.fin.at_.i, .int .i64 o.fin.err]
def VX.z : VX := ⟨0, 0, false, ByteArray.empty⟩
def PX.z : PX := ⟨0, 0⟩
def AX.z : AX := ⟨0, .z, 0, 0, false⟩
def WX.z : WX := ⟨0, .z, .z, .z, 0⟩
def OpL (p : Nat) (o : OX) (q : Nat) : List Asn := match o.missed with
  | none => [cb p (o.c (.pointer none)) 100]
  | some a => [cb p (o.c (.pointer (some ⟨q, 0, none⟩))) 100, cb q a.c 72]
def OpP (p : Nat) (o : OX) : Asn := exN (OpL p o)
theorem fold_op {p : Nat} {o : OX} {X A0 : List Asn} (q : Nat) (h : Ent X (OpL p o q ++ A0)) : Ent X (OpP p o :: A0) := h.trans (Ent.exN_shut (f := OpL p o) q A0)

def OX.done (o : OX) (first : Int) (w : WX) : OX := { o with fin := { w with ask := 8 }, ask := first }
def OX.found (o : OX) (e : EX) : OX := o.done (if o.missed.isSome then 3 else 8) { WX.z with v := e.v, at_ := e.at_ }
def OX.cached (o : OX) (e : EX) : OX :=
  if e.a.kind = 1 then (if e.covers = true then ({ o with ask := 2 } : OX).done 8 { WX.z with v := e.a.v, at_ := e.at_ } else { o with ask := 2 })
  else if e.a.kind = 2 then { o with ask := 6 } else if e.a.kind = 3 then { o with ask := 2, missed := some e.a } else { o with ask := 2 }
def OX.stored (o : OX) (e : EX) : OX := if e.reset = true then o.done 8 { WX.z with err := 12, at_ := e.at_ } else if e.covers = true then o.found e else { o with ask := 6 }
def OX.marked (o : OX) (e : EX) : OX := if e.err = 0 then { o with ask := 6 } else ({ o with ask := 6 } : OX).done 8 { WX.z with err := e.err }
def OX.waits (o : OX) : OX := { o with ask := 7, ticks := 0 }
def OX.ends (o : OX) : OX := { o with ask := 8 }
def OX.tick (o : OX) : OX := if 4 ≤ o.ticks + 1 then { o with ticks := o.ticks + 1, ask := 6 } else { o with ticks := o.ticks + 1 }
def waitsOn (e : Int) : Prop := e = 14 ∨ e = 11 ∨ e = 10 ∨ e = 8 ∨ e = 7 ∨ e = 9
instance (e : Int) : Decidable (waitsOn e) := by unfold waitsOn; infer_instance
def OX.refused (o : OX) (e : EX) : OX := if waitsOn e.err then o else o.done 5 { WX.z with err := e.err, at_ := e.at_ }
def OX.reply (o : OX) (e : EX) : OX :=
  if o.kind = 1 ∧ e.err = 0 then o.found e else if o.kind = 1 ∧ e.err = 12 then o.done 8 { WX.z with err := e.err, at_ := e.at_ } else if o.kind = 1 then o
  else if e.err = 0 then o.done 8 { WX.z with at_ := e.at_ } else o.refused e
def OX.want (o : OX) : WX := if o.ask = 3 then { WX.z with ask := 3, a := o.missed.getD .z, v := o.fin.v, at_ := o.fin.at_ } else if o.ask = 8 then o.fin else { WX.z with ask := o.ask }
def OX.stop (o : OX) (err : Int) : OX := if o.ask = 8 then o else o.done 8 { WX.z with err := err, at_ := o.floor }
def OX.give (o : OX) (e : EX) : Bool × OX :=
  if o.ask = 7 ∧ e.what = 8 then (true, o.tick)
  else if e.what ≠ o.ask ∨ e.what < 1 ∨ 7 < e.what then (false, o)
  else (true, if e.what = 1 then o.cached e else if e.what = 2 then o.stored e else if e.what = 3 then o.ends else if e.what = 4 then o.marked e else if e.what = 5 then o.ends else if e.what = 6 then o.waits else o.reply e)
def numberOk (n : Int) : Bool := decide (1 ≤ n ∧ n ≤ 9007199254740992)
def OX.newErr (kind session request : Int) (key text : ByteArray) : Int :=
  if kind < 1 ∨ 3 < kind ∨ numberOk session = false ∨ numberOk request = false ∨ (kind ≠ 2 ∧ text.toList ≠ []) then 1
  else if (key.size : Int) < 1 ∨ 64 < (key.size : Int) ∨ 1024 < (text.size : Int) then 3 else 0
def OX.new (kind session request : Int) (key text : ByteArray) (floor : PX) : OX :=
  ⟨kind, session, request, key, text, floor, if kind = 1 then 1 else 4, none, 0, .z⟩
/-- Fill is asked for only where an Answer is remembered; ticks while it waits are few. -/
structure OX.ok (o : OX) : Prop where
  fill : o.ask = 3 → o.missed.isSome = true
  ticks : 0 ≤ o.ticks ∧ o.ticks ≤ 4
  wait : o.ask = 7 → o.ticks ≤ 3
  rng : 1 ≤ o.ask ∧ o.ask ≤ 8

theorem gv_no {o : OX} {e : EX} (h0 : ¬ (o.ask = 7 ∧ e.what = 8)) (h1 : e.what ≠ o.ask ∨ e.what < 1 ∨ 7 < e.what) : o.give e = (false, o) := by
  unfold OX.give; rw [if_neg h0, if_pos h1]
theorem gv_tick {o : OX} {e : EX} (h1 : o.ask = 7) (h2 : e.what = 8) : o.give e = (true, o.tick) := by
  unfold OX.give; rw [if_pos ⟨h1, h2⟩]
theorem gv_1 {o : OX} {e : EX} (h1 : e.what = o.ask) (h2 : e.what = 1) : o.give e = (true, o.cached e) := by
  unfold OX.give; rw [if_neg (by omega), if_neg (by omega), if_pos h2]
theorem gv_2 {o : OX} {e : EX} (h1 : e.what = o.ask) (h2 : e.what = 2) : o.give e = (true, o.stored e) := by
  unfold OX.give; rw [if_neg (by omega), if_neg (by omega), if_neg (by omega), if_pos h2]
theorem gv_35 {o : OX} {e : EX} (h1 : e.what = o.ask) (h2 : e.what = 3 ∨ e.what = 5) : o.give e = (true, o.ends) := by
  unfold OX.give; rw [if_neg (by omega), if_neg (by omega), if_neg (by omega), if_neg (by omega)]
  rcases h2 with h2 | h2 <;> simp [h2]
theorem gv_4 {o : OX} {e : EX} (h1 : e.what = o.ask) (h2 : e.what = 4) : o.give e = (true, o.marked e) := by
  unfold OX.give; rw [if_neg (by omega), if_neg (by omega), if_neg (by omega), if_neg (by omega), if_neg (by omega), if_pos h2]
theorem gv_6 {o : OX} {e : EX} (h1 : e.what = o.ask) (h2 : e.what = 6) : o.give e = (true, o.waits) := by
  unfold OX.give; rw [if_neg (by omega), if_neg (by omega), if_neg (by omega), if_neg (by omega), if_neg (by omega), if_neg (by omega), if_neg (by omega), if_pos h2]
theorem gv_7 {o : OX} {e : EX} (h1 : e.what = o.ask) (h2 : e.what = 7) : o.give e = (true, o.reply e) := by
  unfold OX.give; rw [if_neg (by omega), if_neg (by omega), if_neg (by omega), if_neg (by omega), if_neg (by omega), if_neg (by omega), if_neg (by omega), if_neg (by omega)]
theorem tick_1 {o : OX} (h : 4 ≤ o.ticks + 1) : o.tick = { o with ticks := o.ticks + 1, ask := 6 } := by unfold OX.tick; rw [if_pos h]
theorem tick_2 {o : OX} (h : o.ticks + 1 < 4) : o.tick = { o with ticks := o.ticks + 1 } := by unfold OX.tick; rw [if_neg (by omega)]
theorem cached_1 {o : OX} {e : EX} (h1 : e.a.kind = 1) (h2 : e.covers = true) : o.cached e = ({ o with ask := 2 } : OX).done 8 { WX.z with v := e.a.v, at_ := e.at_ } := by unfold OX.cached; rw [if_pos h1, if_pos h2]
theorem cached_2 {o : OX} {e : EX} (h1 : e.a.kind = 1) (h2 : e.covers = false) : o.cached e = { o with ask := 2 } := by unfold OX.cached; rw [if_pos h1, if_neg (by simp [h2])]
theorem cached_3 {o : OX} {e : EX} (h1 : e.a.kind ≠ 1) (h2 : e.a.kind ≠ 2 ∧ e.a.kind ≠ 3) : o.cached e = { o with ask := 2 } := by unfold OX.cached; rw [if_neg h1, if_neg h2.1, if_neg h2.2]
theorem cached_4 {o : OX} {e : EX} (h1 : e.a.kind = 2) : o.cached e = { o with ask := 6 } := by unfold OX.cached; rw [if_neg (by omega), if_pos h1]
theorem cached_5 {o : OX} {e : EX} (h1 : e.a.kind = 3) : o.cached e = { o with ask := 2, missed := some e.a } := by unfold OX.cached; rw [if_neg (by omega), if_neg (by omega), if_pos h1]
theorem stored_1 {o : OX} {e : EX} (h1 : e.reset = true) : o.stored e = o.done 8 { WX.z with err := 12, at_ := e.at_ } := by unfold OX.stored; rw [if_pos h1]
theorem stored_2 {o : OX} {e : EX} (h1 : e.reset = false) (h2 : e.covers = true) : o.stored e = o.found e := by unfold OX.stored; rw [if_neg (by simp [h1]), if_pos h2]
theorem stored_3 {o : OX} {e : EX} (h1 : e.reset = false) (h2 : e.covers = false) : o.stored e = { o with ask := 6 } := by unfold OX.stored; rw [if_neg (by simp [h1]), if_neg (by simp [h2])]
theorem marked_1 {o : OX} {e : EX} (h1 : e.err ≠ 0) : o.marked e = ({ o with ask := 6 } : OX).done 8 { WX.z with err := e.err } := by unfold OX.marked; rw [if_neg h1]
theorem marked_2 {o : OX} {e : EX} (h1 : e.err = 0) : o.marked e = { o with ask := 6 } := by unfold OX.marked; rw [if_pos h1]
theorem reply_1 {o : OX} {e : EX} (h1 : o.kind = 1) (h2 : e.err = 0) : o.reply e = o.found e := by unfold OX.reply; rw [if_pos ⟨h1, h2⟩]
theorem reply_2 {o : OX} {e : EX} (h1 : o.kind = 1) (h2 : e.err = 12) : o.reply e = o.done 8 { WX.z with err := e.err, at_ := e.at_ } := by unfold OX.reply; rw [if_neg (by omega), if_pos ⟨h1, h2⟩]
theorem reply_3 {o : OX} {e : EX} (h1 : o.kind = 1) (h2 : e.err ≠ 0) (h3 : e.err ≠ 12) : o.reply e = o := by unfold OX.reply; rw [if_neg (by omega), if_neg (by omega), if_pos h1]
theorem reply_4 {o : OX} {e : EX} (h1 : o.kind ≠ 1) (h2 : waitsOn e.err) : o.reply e = o := by
  unfold OX.reply; rw [if_neg (by omega), if_neg (by omega), if_neg h1, if_neg (by unfold waitsOn at h2; omega)]; unfold OX.refused; rw [if_pos h2]
theorem reply_5 {o : OX} {e : EX} (h1 : o.kind ≠ 1) (h2 : e.err = 0) : o.reply e = o.done 8 { WX.z with at_ := e.at_ } := by unfold OX.reply; rw [if_neg (by omega), if_neg (by omega), if_neg h1, if_pos h2]
theorem reply_6 {o : OX} {e : EX} (h1 : o.kind ≠ 1) (h2 : e.err ≠ 0) (h3 : ¬ waitsOn e.err) : o.reply e = o.done 5 { WX.z with err := e.err, at_ := e.at_ } := by
  unfold OX.reply; rw [if_neg (by omega), if_neg (by omega), if_neg h1, if_neg h2]; unfold OX.refused; rw [if_neg h3]
theorem found_0 {o : OX} {e : EX} (h : o.missed = none) : o.found e = o.done 8 { WX.z with v := e.v, at_ := e.at_ } := by unfold OX.found; rw [h]; rfl
theorem found_1 {o : OX} {e : EX} {a : AX} (h : o.missed = some a) : o.found e = o.done 3 { WX.z with v := e.v, at_ := e.at_ } := by unfold OX.found; rw [h]; rfl
theorem fold_op0 {p : Nat} {o : OX} {X A0 : List Asn} (hm : o.missed = none) (h : Ent X (cb p (o.c (.pointer none)) 100 :: A0)) : Ent X (OpP p o :: A0) := by
  refine fold_op 0 ?_
  unfold OpL; rw [hm]; exact h
theorem fold_op1 {p q : Nat} {o : OX} {a : AX} {X A0 : List Asn} (hm : o.missed = some a) (h : Ent X (cb p (o.c (.pointer (some ⟨q, 0, none⟩))) 100 :: cb q a.c 72 :: A0)) : Ent X (OpP p o :: A0) := by
  refine fold_op q ?_
  unfold OpL; rw [hm]; exact h
theorem gv_close0 {o o' : OX} {e : EX} {b : Bool} {X : List Asn} {p : Nat} (h : o.give e = (b, o')) (hm : o'.missed = none) (hE : Ent X [cb p (o'.c (.pointer none)) 100]) : Ent X [OpP p (o.give e).2] := by
  rw [h]; exact fold_op0 hm hE
theorem gv_close1 {o o' : OX} {e : EX} {b : Bool} {X : List Asn} {p q : Nat} {a : AX} (h : o.give e = (b, o')) (hm : o'.missed = some a) (hE : Ent X [cb p (o'.c (.pointer (some ⟨q, 0, none⟩))) 100, cb q a.c 72]) : Ent X [OpP p (o.give e).2] := by
  rw [h]; exact fold_op1 hm hE
theorem gv_val {o o' : OX} {e : EX} {b : Bool} (h : o.give e = (b, o')) : Value.bool b = .bool (o.give e).1 := by rw [h]
theorem gv_then {o o' o2 : OX} {e : EX} {b : Bool} (h : o.give e = (b, o')) (k : o' = o2) : o.give e = (b, o2) := k ▸ h

section specs
variable (B : Base)
theorem number25_spec (n : Int) : Fspec Try.prog B 43 #[.int .i64 n] [] (fun v A' => v = .bool (numberOk n) ∧ A' = []) := by
  refine spec_of (args := [_]) Try.func43 rfl rfl rfl ?_
  repeat' (first
    | refine Wc_seq ?_
    | refine thenQ_normal ?_
    | refine Wc_cond_t rfl ?_
    | refine Wc_cond_f rfl ?_
    | refine Wc_ret ?_
    | refine thenQ_ret ?_
    | refine Wc_block ?_
    | refine blkQ_normal ?_
    | refine blkQ_ret ?_
    | refine Wc_exit ?_
    | refine thenQ_exit ?_
    | refine blkQ_hit ?_
    | refine blkQ_miss rfl ?_
    | refine Wc_skip ?_
    | refine Wc_label ?_
    | refine loopQ_exit ?_
    | refine loopQ_ret ?_
    | refine loopQ_normal ?_
    | (refine Wc_region (id := 0) ?_; intro K hK; refine Wl_assign rfl (by (repeat (first | exact Ev.here | exact Ev.const | exact Ev.arg rfl | apply Ev.there rfl | exact Ev.none rfl | exact Ev.func | exact Ev.var)); (first | done | fail)) ?_; (refine Wl_nil (hK _ _ ?_); clear hK K))
    | (refine Wc_region (id := 1) ?_; intro K hK; refine Wl_move rfl (by (repeat (first | exact Ev.here | exact Ev.const | exact Ev.arg rfl | apply Ev.there rfl | exact Ev.none rfl | exact Ev.func | exact Ev.var)); (first | done | fail)) ?_; refine Wl_geq rfl rfl rfl ?_; refine Wl_move rfl (by (repeat (first | exact Ev.here | exact Ev.const | exact Ev.arg rfl | apply Ev.there rfl | exact Ev.none rfl | exact Ev.func | exact Ev.var)); (first | done | fail)) ?_; ((first | (refine Wl_guard rfl ?_; refine Wl_move rfl (by (repeat (first | exact Ev.here | exact Ev.const | exact Ev.arg rfl | apply Ev.there rfl | exact Ev.none rfl | exact Ev.func | exact Ev.var)); (first | done | fail)) ?_) | refine Wl_guard_no rfl rfl rfl ?_ | refine Wl_guard_un rfl rfl ?_ | ((refine Wl_split rfl rfl (fun ht => ?_) (fun ht => ?_) <;> (try simp at ht) <;> (try (exfalso; omega))) <;> (first | (refine Wl_guard rfl ?_; refine Wl_move rfl (by (repeat (first | exact Ev.here | exact Ev.const | exact Ev.arg rfl | apply Ev.there rfl | exact Ev.none rfl | exact Ev.func | exact Ev.var)); (first | done | fail)) ?_) | refine Wl_guard_no rfl rfl rfl ?_ | refine Wl_guard_un rfl rfl ?_)))) <;> (((first | (refine Wl_guard rfl ?_; refine Wl_leq rfl rfl rfl ?_) | refine Wl_guard_no rfl rfl rfl ?_ | refine Wl_guard_un rfl rfl ?_ | ((refine Wl_split rfl rfl (fun ht => ?_) (fun ht => ?_) <;> (try simp at ht) <;> (try (exfalso; omega))) <;> (first | (refine Wl_guard rfl ?_; refine Wl_leq rfl rfl rfl ?_) | refine Wl_guard_no rfl rfl rfl ?_ | refine Wl_guard_un rfl rfl ?_)))) <;> ((first | refine Wl_pick_t rfl rfl (by (repeat (first | exact Ev.here | exact Ev.const | exact Ev.arg rfl | apply Ev.there rfl | exact Ev.none rfl | exact Ev.func | exact Ev.var)); (first | done | fail)) ?_ | refine Wl_pick_f rfl rfl (by (repeat (first | exact Ev.here | exact Ev.const | exact Ev.arg rfl | apply Ev.there rfl | exact Ev.none rfl | exact Ev.func | exact Ev.var)); (first | done | fail)) ?_ | refine Wl_pick rfl rfl rfl ?_); refine Wl_assign rfl (by (repeat (first | exact Ev.here | exact Ev.const | exact Ev.arg rfl | apply Ev.there rfl | exact Ev.none rfl | exact Ev.func | exact Ev.var)); (first | done | fail)) ?_; (refine Wl_nil (hK _ _ ?_); clear hK K))))
    | (refine Wc_cond rfl (fun ht => ?_) (fun ht => ?_) <;> (try simp at ht) <;> (try (exfalso; omega))))
  · refine ⟨Or.inr rfl, _, _, Ent.refl _, resG rfl (by (repeat (first | exact ResL.nil | apply ResL.tmp (by (repeat (first | exact Ev.here | exact Ev.const | exact Ev.arg rfl | apply Ev.there rfl | exact Ev.none rfl | exact Ev.func | exact Ev.var)); (first | done | fail)) | apply ResL.agg (by (repeat (first | exact Ev.here | exact Ev.const | exact Ev.arg rfl | apply Ev.there rfl | exact Ev.none rfl | exact Ev.func | exact Ev.var)); (first | done | fail)) (by (repeat (first | exact Rd.head | exact Rd.base (by assumption) | apply Rd.tail)); (first | done | fail)) (by (repeat (first | exact TakeR.nil | apply TakeR.take | apply TakeR.skip)); (first | done | fail)) | apply ResL.cell (by (repeat (first | exact Ev.here | exact Ev.const | exact Ev.arg rfl | apply Ev.there rfl | exact Ev.none rfl | exact Ev.func | exact Ev.var)); (first | done | fail)) (by (repeat (first | exact Rd.head | exact Rd.base (by assumption) | apply Rd.tail)); (first | done | fail)) rfl)); (first | done | fail)) rfl, ?_⟩
    exact ⟨congrArg Value.bool (by unfold numberOk; simp [ht]), rfl⟩
  · refine ⟨Or.inr rfl, _, _, Ent.refl _, resG rfl (by (repeat (first | exact ResL.nil | apply ResL.tmp (by (repeat (first | exact Ev.here | exact Ev.const | exact Ev.arg rfl | apply Ev.there rfl | exact Ev.none rfl | exact Ev.func | exact Ev.var)); (first | done | fail)) | apply ResL.agg (by (repeat (first | exact Ev.here | exact Ev.const | exact Ev.arg rfl | apply Ev.there rfl | exact Ev.none rfl | exact Ev.func | exact Ev.var)); (first | done | fail)) (by (repeat (first | exact Rd.head | exact Rd.base (by assumption) | apply Rd.tail)); (first | done | fail)) (by (repeat (first | exact TakeR.nil | apply TakeR.take | apply TakeR.skip)); (first | done | fail)) | apply ResL.cell (by (repeat (first | exact Ev.here | exact Ev.const | exact Ev.arg rfl | apply Ev.there rfl | exact Ev.none rfl | exact Ev.func | exact Ev.var)); (first | done | fail)) (by (repeat (first | exact Rd.head | exact Rd.base (by assumption) | apply Rd.tail)); (first | done | fail)) rfl)); (first | done | fail)) rfl, ?_⟩
    exact ⟨congrArg Value.bool (by unfold numberOk; symm; simp; omega), rfl⟩
theorem done25_spec {p : Nat} {a1 a2 a3 a4 a5 a6 a7 ask m t f1 f2 f3 f4 f5 f6 f7 f8 f9 f10 f11 f12 f13 f14 f15 f16 w1 w2 w3 w4 w5 w6 w7 w8 w9 w10 w11 w12 w13 w14 w15 w16 : Value} {first : Int} (hw : [w2, w3, w4, w5, w6, w7, w8, w9, w10, w11, w12, w13, w14, w15, w16].all isCell = true) :
    Fspec Try.prog B 45 #[.pointer (some ⟨p, 0, none⟩), .int .i64 first, .agg #[w1, w2, w3, w4, w5, w6, w7, w8, w9, w10, w11, w12, w13, w14, w15, w16]] [cb p [a1, a2, a3, a4, a5, a6, a7, ask, m, t, f1, f2, f3, f4, f5, f6, f7, f8, f9, f10, f11, f12, f13, f14, f15, f16] 100]
      (fun v A' => v = .tuple #[] ∧ A' = [cb p [a1, a2, a3, a4, a5, a6, a7, .int .i64 first, m, t, .int .i64 8, w2, w3, w4, w5, w6, w7, w8, w9, w10, w11, w12, w13, w14, w15, w16] 100]) := by
  refine spec_of (args := [_, _, _]) Try.func45 rfl rfl rfl ?_
  repeat' (first
    | refine Wc_seq ?_
    | refine thenQ_normal ?_
    | refine Wc_cond_t rfl ?_
    | refine Wc_cond_f rfl ?_
    | refine Wc_ret ?_
    | refine thenQ_ret ?_
    | refine Wc_block ?_
    | refine blkQ_normal ?_
    | refine blkQ_ret ?_
    | refine Wc_exit ?_
    | refine thenQ_exit ?_
    | refine blkQ_hit ?_
    | refine blkQ_miss rfl ?_
    | refine Wc_skip ?_
    | refine Wc_label ?_
    | refine loopQ_exit ?_
    | refine loopQ_ret ?_
    | refine loopQ_normal ?_
    | (refine Wc_region (id := 0) ?_; intro K hK; (refine Wl_boxAgg rfl (by (repeat (first | exact Ev.here | exact Ev.const | exact Ev.arg rfl | apply Ev.there rfl | exact Ev.none rfl | exact Ev.func | exact Ev.var)); (first | done | fail)) ?_; intro r); (refine Wl_nil (hK _ _ ?_); clear hK K))
    | (refine Wc_region (id := 1) ?_; intro K hK; refine Wl_fieldAddr rfl rfl rfl ?_; refine Wl_store rfl (by (repeat (first | exact Ev.here | exact Ev.const | exact Ev.arg rfl | apply Ev.there rfl | exact Ev.none rfl | exact Ev.func | exact Ev.var)); (first | done | fail)) (by rfl) (by (repeat (first | exact Upd.head | apply Upd.tail)); (first | done | fail)) (by (repeat (first | exact SetAt.zero | apply SetAt.succ)); (first | done | fail)) rfl (by simp) ?_; (refine Wl_nil (hK _ _ ?_); clear hK K))
    | (refine Wc_region (id := 2) ?_; intro K hK; refine Wl_move rfl (by (repeat (first | exact Ev.here | exact Ev.const | exact Ev.arg rfl | apply Ev.there rfl | exact Ev.none rfl | exact Ev.func | exact Ev.var)); (first | done | fail)) ?_; refine Wl_move rfl (by (repeat (first | exact Ev.here | exact Ev.const | exact Ev.arg rfl | apply Ev.there rfl | exact Ev.none rfl | exact Ev.func | exact Ev.var)); (first | done | fail)) ?_; refine Wl_loadR (by decide) rfl rfl (by (repeat (first | exact Rd.head | exact Rd.base (by assumption) | apply Rd.tail)); (first | done | fail)) (by (repeat (first | exact TakeR.nil | apply TakeR.take | apply TakeR.skip)); (first | done | fail)) ?_; refine Wl_move rfl (by (repeat (first | exact Ev.here | exact Ev.const | exact Ev.arg rfl | apply Ev.there rfl | exact Ev.none rfl | exact Ev.func | exact Ev.var)); (first | done | fail)) ?_; refine Wl_nilCheck rfl rfl ?_; refine Wl_fieldAddr rfl rfl rfl ?_; refine Wl_storeR rfl (by (repeat (first | exact Ev.here | exact Ev.const | exact Ev.arg rfl | apply Ev.there rfl | exact Ev.none rfl | exact Ev.func | exact Ev.var)); (first | done | fail)) (by (repeat (first | exact Upd.head | apply Upd.tail)); (first | done | fail)) (by first | rfl | assumption | (simp only [List.all_cons, List.all_nil, Bool.and_eq_true, Bool.and_true, cInt, cBool, cStr, cPtr, cSl, cByte, true_and, and_true] at *; first | done | assumption | simp only [*, and_self]) | simp [isCell, byteV]) (by rfl) (by (repeat (first | exact SetR.nil | apply SetR.put | apply SetR.skip)); (first | done | fail)) rfl rfl ?_; refine Wl_nilCheck rfl rfl ?_; refine Wl_fieldAddr rfl rfl rfl ?_; refine Wl_store rfl (by (repeat (first | exact Ev.here | exact Ev.const | exact Ev.arg rfl | apply Ev.there rfl | exact Ev.none rfl | exact Ev.func | exact Ev.var)); (first | done | fail)) (by rfl) (by (repeat (first | exact Upd.head | apply Upd.tail)); (first | done | fail)) (by (repeat (first | exact SetAt.zero | apply SetAt.succ)); (first | done | fail)) rfl (by simp) ?_; (refine Wl_nil (hK _ _ ?_); clear hK K))
    | (refine Wc_cond rfl (fun ht => ?_) (fun ht => ?_) <;> (try simp at ht) <;> (try (exfalso; omega))))
  exact ⟨Or.inl rfl, _, [_], (by (repeat (first | exact Ent.refl _ | exact Ent.nil | refine Ent.take (by (repeat (first | exact Out.head | apply Out.tail)); (first | done | fail)) ?_ | refine Ent.drop1 ?_))), res0 rfl, rfl, rfl⟩
theorem found25_spec {p : Nat} {m : Option Addr} {a1 a2 a3 a4 a5 a6 a7 ask t f1 f2 f3 f4 f5 f6 f7 f8 f9 f10 f11 f12 f13 f14 f15 f16 e1 e2 e3 e4 e5 e6 e7 e8 e9 e10 e11 e12 e13 e14 e15 e16 e17 e18 : Value} (he : [e12, e13, e14, e15, e16, e17].all isCell = true) :
    Fspec Try.prog B 58 #[.pointer (some ⟨p, 0, none⟩), .agg #[e1, e2, e3, e4, e5, e6, e7, e8, e9, e10, e11, e12, e13, e14, e15, e16, e17, e18]] [cb p [a1, a2, a3, a4, a5, a6, a7, ask, .pointer m, t, f1, f2, f3, f4, f5, f6, f7, f8, f9, f10, f11, f12, f13, f14, f15, f16] 100]
      (fun v A' => v = .tuple #[] ∧ A' = [cb p [a1, a2, a3, a4, a5, a6, a7, .int .i64 (if m.isSome then 3 else 8), .pointer m, t, .int .i64 8, .int .i64 0, .int .i64 0, .int .i64 0, .bool false, .string ByteArray.empty, .int .i64 0, .int .i64 0, .bool false, e12, e13, e14, e15, e16, e17, .int .i64 0] 100]) := by
  refine spec_of (args := [_, _]) Try.func58 rfl rfl rfl ?_
  cases m
  all_goals
    repeat' (first
      | refine Wc_seq ?_
      | refine thenQ_normal ?_
      | refine Wc_cond_t rfl ?_
      | refine Wc_cond_f rfl ?_
      | refine Wc_ret ?_
      | refine thenQ_ret ?_
      | refine Wc_block ?_
      | refine blkQ_normal ?_
      | refine blkQ_ret ?_
      | refine Wc_exit ?_
      | refine thenQ_exit ?_
      | refine blkQ_hit ?_
      | refine blkQ_miss rfl ?_
      | refine Wc_skip ?_
      | refine Wc_label ?_
      | refine loopQ_exit ?_
      | refine loopQ_ret ?_
      | refine loopQ_normal ?_
      | (refine Wc_region (id := 0) ?_; intro K hK; (refine Wl_boxAgg rfl (by (repeat (first | exact Ev.here | exact Ev.const | exact Ev.arg rfl | apply Ev.there rfl | exact Ev.none rfl | exact Ev.func | exact Ev.var)); (first | done | fail)) ?_; intro r); (refine Wl_nil (hK _ _ ?_); clear hK K))
      | (refine Wc_region (id := 1) ?_; intro K hK; refine Wl_assign rfl (by (repeat (first | exact Ev.here | exact Ev.const | exact Ev.arg rfl | apply Ev.there rfl | exact Ev.none rfl | exact Ev.func | exact Ev.var)); (first | done | fail)) ?_; (refine Wl_nil (hK _ _ ?_); clear hK K))
      | (refine Wc_region (id := 2) ?_; intro K hK; refine Wl_move rfl (by (repeat (first | exact Ev.here | exact Ev.const | exact Ev.arg rfl | apply Ev.there rfl | exact Ev.none rfl | exact Ev.func | exact Ev.var)); (first | done | fail)) ?_; refine Wl_nilCheck rfl rfl ?_; refine Wl_fieldAddr rfl rfl rfl ?_; refine Wl_load (by decide) rfl rfl (by (repeat (first | exact Rd.head | exact Rd.base (by assumption) | apply Rd.tail)); (first | done | fail)) rfl ?_; refine Wl_ptr_neq_nil rfl rfl rfl ?_; (refine Wl_nil (hK _ _ ?_); clear hK K))
      | (refine Wc_region (id := 3) ?_; intro K hK; refine Wl_assign rfl (by (repeat (first | exact Ev.here | exact Ev.const | exact Ev.arg rfl | apply Ev.there rfl | exact Ev.none rfl | exact Ev.func | exact Ev.var)); (first | done | fail)) ?_; (refine Wl_nil (hK _ _ ?_); clear hK K))
      | (refine Wc_region (id := 4) ?_; intro K hK; refine Wl_move rfl (by (repeat (first | exact Ev.here | exact Ev.const | exact Ev.arg rfl | apply Ev.there rfl | exact Ev.none rfl | exact Ev.func | exact Ev.var)); (first | done | fail)) ?_; refine Wl_move rfl (by (repeat (first | exact Ev.here | exact Ev.const | exact Ev.arg rfl | apply Ev.there rfl | exact Ev.none rfl | exact Ev.func | exact Ev.var)); (first | done | fail)) ?_; refine Wl_fieldAddr rfl rfl rfl ?_; refine Wl_loadR (by decide) rfl rfl (by (repeat (first | exact Rd.head | exact Rd.base (by assumption) | apply Rd.tail)); (first | done | fail)) (by (repeat (first | exact TakeR.nil | apply TakeR.take | apply TakeR.skip)); (first | done | fail)) ?_; refine Wl_fieldAddr rfl rfl rfl ?_; refine Wl_loadR (by decide) rfl rfl (by (repeat (first | exact Rd.head | exact Rd.base (by assumption) | apply Rd.tail)); (first | done | fail)) (by (repeat (first | exact TakeR.nil | apply TakeR.take | apply TakeR.skip)); (first | done | fail)) ?_; refine Wl_build rfl (by (repeat (first | exact EvL.nil | apply EvL.cons (by (repeat (first | exact Ev.here | exact Ev.const | exact Ev.arg rfl | apply Ev.there rfl | exact Ev.none rfl | exact Ev.func | exact Ev.var)); (first | done | fail)))); (first | done | fail)) (by simp [bld, setL, Value.cells] <;> rfl) ?_; refine Wl_call rfl (by (repeat (first | exact EvL.nil | apply EvL.cons (by (repeat (first | exact Ev.here | exact Ev.const | exact Ev.arg rfl | apply Ev.there rfl | exact Ev.none rfl | exact Ev.func | exact Ev.var)); (first | done | fail)))); (first | done | fail)) (done25_spec B (by first | rfl | assumption | (simp only [List.all_cons, List.all_nil, Bool.and_eq_true, Bool.and_true, cInt, cBool, cStr, cPtr, cSl, cByte, true_and, and_true] at *; first | done | assumption | simp only [*, and_self]) | simp [isCell, byteV])) (by (repeat (first | exact Pick.nil | apply Pick.cons (by (repeat (first | exact Out.head | apply Out.tail)); (first | done | fail)))); (first | done | fail)) ?_; (rintro v A' ⟨rfl, rfl⟩ <;> (try simp only [List.cons_append, List.nil_append])); (refine Wl_nil (hK _ _ ?_); clear hK K))
      | (refine Wc_cond rfl (fun ht => ?_) (fun ht => ?_) <;> (try simp at ht) <;> (try (exfalso; omega))))
    exact ⟨Or.inl rfl, _, [_], (by (repeat (first | exact Ent.refl _ | exact Ent.nil | refine Ent.take (by (repeat (first | exact Out.head | apply Out.tail)); (first | done | fail)) ?_ | refine Ent.drop1 ?_))), res0 rfl, rfl, rfl⟩
theorem cached25_spec {p : Nat} {mv : Value} {a1 a2 a3 a4 a5 a6 a7 ask t f1 f2 f3 f4 f5 f6 f7 f8 f9 f10 f11 f12 f13 f14 f15 f16 e1 : Value} {kind : Int} {g3 g4 g5 g6 g7 g8 g9 : Value} {covers : Bool} {e11 e12 e13 e14 e15 e16 e17 e18 : Value}
    (hf : [g3, g4, g5, g6, g7, g8, g9].all isCell = true) (he : [e11, e12, e13, e14, e15, e16, e17, e18].all isCell = true) :
    Fspec Try.prog B 51 #[.pointer (some ⟨p, 0, none⟩), .agg #[e1, .int .i64 kind, g3, g4, g5, g6, g7, g8, g9, .bool covers, e11, e12, e13, e14, e15, e16, e17, e18]] [cb p [a1, a2, a3, a4, a5, a6, a7, ask, mv, t, f1, f2, f3, f4, f5, f6, f7, f8, f9, f10, f11, f12, f13, f14, f15, f16] 100]
      (fun v A' => v = .tuple #[] ∧ (
        (kind = 1 ∧ covers = true ∧ A' = [cb p [a1, a2, a3, a4, a5, a6, a7, .int .i64 8, mv, t, .int .i64 8, .int .i64 0, .int .i64 0, .int .i64 0, .bool false, .string ByteArray.empty, .int .i64 0, .int .i64 0, .bool false, g3, g4, g5, g6, e16, e17, .int .i64 0] 100]) ∨
        (((kind = 1 ∧ covers = false) ∨ (kind ≠ 1 ∧ kind ≠ 2 ∧ kind ≠ 3)) ∧ A' = [cb p [a1, a2, a3, a4, a5, a6, a7, .int .i64 2, mv, t, f1, f2, f3, f4, f5, f6, f7, f8, f9, f10, f11, f12, f13, f14, f15, f16] 100]) ∨
        (kind = 2 ∧ A' = [cb p [a1, a2, a3, a4, a5, a6, a7, .int .i64 6, mv, t, f1, f2, f3, f4, f5, f6, f7, f8, f9, f10, f11, f12, f13, f14, f15, f16] 100]) ∨
        (kind = 3 ∧ ∃ q, A' = [cb p [a1, a2, a3, a4, a5, a6, a7, .int .i64 2, .pointer (some ⟨q, 0, none⟩), t, f1, f2, f3, f4, f5, f6, f7, f8, f9, f10, f11, f12, f13, f14, f15, f16] 100, cb q [.int .i64 kind, g3, g4, g5, g6, g7, g8, g9] 72]))) := by
  refine spec_of (args := [_, _]) Try.func51 rfl rfl rfl ?_
  repeat' (first
    | refine Wc_seq ?_
    | refine thenQ_normal ?_
    | refine Wc_cond_t rfl ?_
    | refine Wc_cond_f rfl ?_
    | refine Wc_ret ?_
    | refine thenQ_ret ?_
    | refine Wc_block ?_
    | refine blkQ_normal ?_
    | refine blkQ_ret ?_
    | refine Wc_exit ?_
    | refine thenQ_exit ?_
    | refine blkQ_hit ?_
    | refine blkQ_miss rfl ?_
    | refine Wc_skip ?_
    | refine Wc_label ?_
    | refine loopQ_exit ?_
    | refine loopQ_ret ?_
    | refine loopQ_normal ?_
    | (refine Wc_region (id := 0) ?_; intro K hK; (refine Wl_boxAgg rfl (by (repeat (first | exact Ev.here | exact Ev.const | exact Ev.arg rfl | apply Ev.there rfl | exact Ev.none rfl | exact Ev.func | exact Ev.var)); (first | done | fail)) ?_; intro r); (refine Wl_nil (hK _ _ ?_); clear hK K))
    | (refine Wc_region (id := 1) ?_; intro K hK; refine Wl_move rfl (by (repeat (first | exact Ev.here | exact Ev.const | exact Ev.arg rfl | apply Ev.there rfl | exact Ev.none rfl | exact Ev.func | exact Ev.var)); (first | done | fail)) ?_; refine Wl_nilCheck rfl rfl ?_; refine Wl_fieldAddr rfl rfl rfl ?_; refine Wl_store rfl (by (repeat (first | exact Ev.here | exact Ev.const | exact Ev.arg rfl | apply Ev.there rfl | exact Ev.none rfl | exact Ev.func | exact Ev.var)); (first | done | fail)) (by rfl) (by (repeat (first | exact Upd.head | apply Upd.tail)); (first | done | fail)) (by (repeat (first | exact SetAt.zero | apply SetAt.succ)); (first | done | fail)) rfl (by simp) ?_; (refine Wl_nil (hK _ _ ?_); clear hK K))
    | (refine Wc_region (id := 2) ?_; intro K hK; refine Wl_fieldAddr rfl rfl rfl ?_; refine Wl_fieldAddr rfl rfl rfl ?_; refine Wl_load (by decide) rfl rfl (by (repeat (first | exact Rd.head | exact Rd.base (by assumption) | apply Rd.tail)); (first | done | fail)) rfl ?_; (refine Wl_nil (hK _ _ ?_); clear hK K))
    | (refine Wc_region (id := 3) ?_; intro K hK; refine Wl_eql rfl rfl rfl ?_; refine Wl_assign rfl (by (repeat (first | exact Ev.here | exact Ev.const | exact Ev.arg rfl | apply Ev.there rfl | exact Ev.none rfl | exact Ev.func | exact Ev.var)); (first | done | fail)) ?_; (refine Wl_nil (hK _ _ ?_); clear hK K))
    | (refine Wc_region (id := 4) ?_; intro K hK; refine Wl_fieldAddr rfl rfl rfl ?_; refine Wl_load (by decide) rfl rfl (by (repeat (first | exact Rd.head | exact Rd.base (by assumption) | apply Rd.tail)); (first | done | fail)) rfl ?_; (refine Wl_nil (hK _ _ ?_); clear hK K))
    | (refine Wc_region (id := 5) ?_; intro K hK; refine Wl_move rfl (by (repeat (first | exact Ev.here | exact Ev.const | exact Ev.arg rfl | apply Ev.there rfl | exact Ev.none rfl | exact Ev.func | exact Ev.var)); (first | done | fail)) ?_; refine Wl_fieldAddr rfl rfl rfl ?_; refine Wl_fieldAddr rfl rfl rfl ?_; refine Wl_loadR (by decide) rfl rfl (by (repeat (first | exact Rd.head | exact Rd.base (by assumption) | apply Rd.tail)); (first | done | fail)) (by (repeat (first | exact TakeR.nil | apply TakeR.take | apply TakeR.skip)); (first | done | fail)) ?_; refine Wl_fieldAddr rfl rfl rfl ?_; refine Wl_loadR (by decide) rfl rfl (by (repeat (first | exact Rd.head | exact Rd.base (by assumption) | apply Rd.tail)); (first | done | fail)) (by (repeat (first | exact TakeR.nil | apply TakeR.take | apply TakeR.skip)); (first | done | fail)) ?_; refine Wl_build rfl (by (repeat (first | exact EvL.nil | apply EvL.cons (by (repeat (first | exact Ev.here | exact Ev.const | exact Ev.arg rfl | apply Ev.there rfl | exact Ev.none rfl | exact Ev.func | exact Ev.var)); (first | done | fail)))); (first | done | fail)) (by simp [bld, setL, Value.cells] <;> rfl) ?_; refine Wl_call rfl (by (repeat (first | exact EvL.nil | apply EvL.cons (by (repeat (first | exact Ev.here | exact Ev.const | exact Ev.arg rfl | apply Ev.there rfl | exact Ev.none rfl | exact Ev.func | exact Ev.var)); (first | done | fail)))); (first | done | fail)) (done25_spec B (by first | rfl | assumption | (simp only [List.all_cons, List.all_nil, Bool.and_eq_true, Bool.and_true, cInt, cBool, cStr, cPtr, cSl, cByte, true_and, and_true] at *; first | done | assumption | simp only [*, and_self]) | simp [isCell, byteV])) (by (repeat (first | exact Pick.nil | apply Pick.cons (by (repeat (first | exact Out.head | apply Out.tail)); (first | done | fail)))); (first | done | fail)) ?_; (rintro v A' ⟨rfl, rfl⟩ <;> (try simp only [List.cons_append, List.nil_append])); (refine Wl_nil (hK _ _ ?_); clear hK K))
    | (refine Wc_region (id := 6) ?_; intro K hK; refine Wl_eql rfl rfl rfl ?_; refine Wl_assign rfl (by (repeat (first | exact Ev.here | exact Ev.const | exact Ev.arg rfl | apply Ev.there rfl | exact Ev.none rfl | exact Ev.func | exact Ev.var)); (first | done | fail)) ?_; (refine Wl_nil (hK _ _ ?_); clear hK K))
    | (refine Wc_region (id := 7) ?_; intro K hK; refine Wl_move rfl (by (repeat (first | exact Ev.here | exact Ev.const | exact Ev.arg rfl | apply Ev.there rfl | exact Ev.none rfl | exact Ev.func | exact Ev.var)); (first | done | fail)) ?_; refine Wl_nilCheck rfl rfl ?_; refine Wl_fieldAddr rfl rfl rfl ?_; refine Wl_store rfl (by (repeat (first | exact Ev.here | exact Ev.const | exact Ev.arg rfl | apply Ev.there rfl | exact Ev.none rfl | exact Ev.func | exact Ev.var)); (first | done | fail)) (by rfl) (by (repeat (first | exact Upd.head | apply Upd.tail)); (first | done | fail)) (by (repeat (first | exact SetAt.zero | apply SetAt.succ)); (first | done | fail)) rfl (by simp) ?_; (refine Wl_nil (hK _ _ ?_); clear hK K))
    | (refine Wc_region (id := 8) ?_; intro K hK; refine Wl_eql rfl rfl rfl ?_; refine Wl_assign rfl (by (repeat (first | exact Ev.here | exact Ev.const | exact Ev.arg rfl | apply Ev.there rfl | exact Ev.none rfl | exact Ev.func | exact Ev.var)); (first | done | fail)) ?_; (refine Wl_nil (hK _ _ ?_); clear hK K))
    | (refine Wc_region (id := 9) ?_; intro K hK; refine Wl_fieldAddr rfl rfl rfl ?_; refine Wl_loadR (by decide) rfl rfl (by (repeat (first | exact Rd.head | exact Rd.base (by assumption) | apply Rd.tail)); (first | done | fail)) (by (repeat (first | exact TakeR.nil | apply TakeR.take | apply TakeR.skip)); (first | done | fail)) ?_; (refine Wl_alloc rfl ?_; intro r); refine Wl_storeR rfl (by (repeat (first | exact Ev.here | exact Ev.const | exact Ev.arg rfl | apply Ev.there rfl | exact Ev.none rfl | exact Ev.func | exact Ev.var)); (first | done | fail)) (by (repeat (first | exact Upd.head | apply Upd.tail)); (first | done | fail)) (by first | rfl | assumption | (simp only [List.all_cons, List.all_nil, Bool.and_eq_true, Bool.and_true, cInt, cBool, cStr, cPtr, cSl, cByte, true_and, and_true] at *; first | done | assumption | simp only [*, and_self]) | simp [isCell, byteV]) (by rfl) (by (repeat (first | exact SetR.nil | apply SetR.put | apply SetR.skip)); (first | done | fail)) rfl rfl ?_; (refine Wl_nil (hK _ _ ?_); clear hK K))
    | (refine Wc_region (id := 10) ?_; intro K hK; refine Wl_move rfl (by (repeat (first | exact Ev.here | exact Ev.const | exact Ev.arg rfl | apply Ev.there rfl | exact Ev.none rfl | exact Ev.func | exact Ev.var)); (first | done | fail)) ?_; refine Wl_nilCheck rfl rfl ?_; refine Wl_fieldAddr rfl rfl rfl ?_; refine Wl_store rfl (by (repeat (first | exact Ev.here | exact Ev.const | exact Ev.arg rfl | apply Ev.there rfl | exact Ev.none rfl | exact Ev.func | exact Ev.var)); (first | done | fail)) (by rfl) (by (repeat (first | exact Upd.head | apply Upd.tail)); (first | done | fail)) (by (repeat (first | exact SetAt.zero | apply SetAt.succ)); (first | done | fail)) rfl (by simp) ?_; (refine Wl_nil (hK _ _ ?_); clear hK K))
    | (refine Wc_cond rfl (fun ht => ?_) (fun ht => ?_) <;> (try simp at ht) <;> (try (exfalso; omega))))
  · exact ⟨Or.inl rfl, _, [cb p _ _], (by (repeat (first | exact Ent.refl _ | exact Ent.nil | refine Ent.take (by (repeat (first | exact Out.head | apply Out.tail)); (first | done | fail)) ?_ | refine Ent.drop1 ?_))), res0 rfl, rfl, .inl ⟨by assumption, by assumption, rfl⟩⟩
  · exact ⟨Or.inl rfl, _, [cb p _ _], (by (repeat (first | exact Ent.refl _ | exact Ent.nil | refine Ent.take (by (repeat (first | exact Out.head | apply Out.tail)); (first | done | fail)) ?_ | refine Ent.drop1 ?_))), res0 rfl, rfl, .inr (.inl ⟨.inl ⟨by assumption, by assumption⟩, rfl⟩)⟩
  · exact ⟨Or.inl rfl, _, [cb p _ _], (by (repeat (first | exact Ent.refl _ | exact Ent.nil | refine Ent.take (by (repeat (first | exact Out.head | apply Out.tail)); (first | done | fail)) ?_ | refine Ent.drop1 ?_))), res0 rfl, rfl, .inr (.inr (.inl ⟨by assumption, rfl⟩))⟩
  · exact ⟨Or.inl rfl, _, [cb p _ _, cb _ [.int .i64 kind, g3, g4, g5, g6, g7, g8, g9] _], (by (repeat (first | exact Ent.refl _ | exact Ent.nil | refine Ent.take (by (repeat (first | exact Out.head | apply Out.tail)); (first | done | fail)) ?_ | refine Ent.drop1 ?_))), res0 rfl, rfl, .inr (.inr (.inr ⟨by assumption, _, rfl⟩))⟩
  · exact ⟨Or.inl rfl, _, [cb p _ _], (by (repeat (first | exact Ent.refl _ | exact Ent.nil | refine Ent.take (by (repeat (first | exact Out.head | apply Out.tail)); (first | done | fail)) ?_ | refine Ent.drop1 ?_))), res0 rfl, rfl, .inr (.inl ⟨.inr ⟨by assumption, by assumption, by assumption⟩, rfl⟩)⟩
theorem stored25_spec {p : Nat} {m : Option Addr} {a1 a2 a3 a4 a5 a6 a7 ask t f1 f2 f3 f4 f5 f6 f7 f8 f9 f10 f11 f12 f13 f14 f15 f16 e1 e2 e3 e4 e5 e6 e7 e8 e9 : Value} {covers reset : Bool} {e12 e13 e14 e15 e16 e17 e18 : Value} (he : [e12, e13, e14, e15, e16, e17, e18].all isCell = true) :
    Fspec Try.prog B 52 #[.pointer (some ⟨p, 0, none⟩), .agg #[e1, e2, e3, e4, e5, e6, e7, e8, e9, .bool covers, .bool reset, e12, e13, e14, e15, e16, e17, e18]] [cb p [a1, a2, a3, a4, a5, a6, a7, ask, .pointer m, t, f1, f2, f3, f4, f5, f6, f7, f8, f9, f10, f11, f12, f13, f14, f15, f16] 100]
      (fun v A' => v = .tuple #[] ∧ (
        (reset = true ∧ A' = [cb p [a1, a2, a3, a4, a5, a6, a7, .int .i64 8, .pointer m, t, .int .i64 8, .int .i64 0, .int .i64 0, .int .i64 0, .bool false, .string ByteArray.empty, .int .i64 0, .int .i64 0, .bool false, .int .i64 0, .int .i64 0, .bool false, .string ByteArray.empty, e16, e17, .int .i64 12] 100]) ∨
        (reset = false ∧ covers = true ∧ A' = [cb p [a1, a2, a3, a4, a5, a6, a7, .int .i64 (if m.isSome then 3 else 8), .pointer m, t, .int .i64 8, .int .i64 0, .int .i64 0, .int .i64 0, .bool false, .string ByteArray.empty, .int .i64 0, .int .i64 0, .bool false, e12, e13, e14, e15, e16, e17, .int .i64 0] 100]) ∨
        (reset = false ∧ covers = false ∧ A' = [cb p [a1, a2, a3, a4, a5, a6, a7, .int .i64 6, .pointer m, t, f1, f2, f3, f4, f5, f6, f7, f8, f9, f10, f11, f12, f13, f14, f15, f16] 100]))) := by
  refine spec_of (args := [_, _]) Try.func52 rfl rfl rfl ?_
  repeat' (first
    | refine Wc_seq ?_
    | refine thenQ_normal ?_
    | refine Wc_cond_t rfl ?_
    | refine Wc_cond_f rfl ?_
    | refine Wc_ret ?_
    | refine thenQ_ret ?_
    | refine Wc_block ?_
    | refine blkQ_normal ?_
    | refine blkQ_ret ?_
    | refine Wc_exit ?_
    | refine thenQ_exit ?_
    | refine blkQ_hit ?_
    | refine blkQ_miss rfl ?_
    | refine Wc_skip ?_
    | refine Wc_label ?_
    | refine loopQ_exit ?_
    | refine loopQ_ret ?_
    | refine loopQ_normal ?_
    | (refine Wc_region (id := 0) ?_; intro K hK; (refine Wl_boxAgg rfl (by (repeat (first | exact Ev.here | exact Ev.const | exact Ev.arg rfl | apply Ev.there rfl | exact Ev.none rfl | exact Ev.func | exact Ev.var)); (first | done | fail)) ?_; intro r); (refine Wl_nil (hK _ _ ?_); clear hK K))
    | (refine Wc_region (id := 1) ?_; intro K hK; refine Wl_move rfl (by (repeat (first | exact Ev.here | exact Ev.const | exact Ev.arg rfl | apply Ev.there rfl | exact Ev.none rfl | exact Ev.func | exact Ev.var)); (first | done | fail)) ?_; refine Wl_nilCheck rfl rfl ?_; refine Wl_fieldAddr rfl rfl rfl ?_; refine Wl_store rfl (by (repeat (first | exact Ev.here | exact Ev.const | exact Ev.arg rfl | apply Ev.there rfl | exact Ev.none rfl | exact Ev.func | exact Ev.var)); (first | done | fail)) (by rfl) (by (repeat (first | exact Upd.head | apply Upd.tail)); (first | done | fail)) (by (repeat (first | exact SetAt.zero | apply SetAt.succ)); (first | done | fail)) rfl (by simp) ?_; (refine Wl_nil (hK _ _ ?_); clear hK K))
    | (refine Wc_region (id := 2) ?_; intro K hK; refine Wl_fieldAddr rfl rfl rfl ?_; refine Wl_load (by decide) rfl rfl (by (repeat (first | exact Rd.head | exact Rd.base (by assumption) | apply Rd.tail)); (first | done | fail)) rfl ?_; refine Wl_assign rfl (by (repeat (first | exact Ev.here | exact Ev.const | exact Ev.arg rfl | apply Ev.there rfl | exact Ev.none rfl | exact Ev.func | exact Ev.var)); (first | done | fail)) ?_; (refine Wl_nil (hK _ _ ?_); clear hK K))
    | (refine Wc_region (id := 3) ?_; intro K hK; refine Wl_move rfl (by (repeat (first | exact Ev.here | exact Ev.const | exact Ev.arg rfl | apply Ev.there rfl | exact Ev.none rfl | exact Ev.func | exact Ev.var)); (first | done | fail)) ?_; refine Wl_fieldAddr rfl rfl rfl ?_; refine Wl_loadR (by decide) rfl rfl (by (repeat (first | exact Rd.head | exact Rd.base (by assumption) | apply Rd.tail)); (first | done | fail)) (by (repeat (first | exact TakeR.nil | apply TakeR.take | apply TakeR.skip)); (first | done | fail)) ?_; refine Wl_build rfl (by (repeat (first | exact EvL.nil | apply EvL.cons (by (repeat (first | exact Ev.here | exact Ev.const | exact Ev.arg rfl | apply Ev.there rfl | exact Ev.none rfl | exact Ev.func | exact Ev.var)); (first | done | fail)))); (first | done | fail)) (by simp [bld, setL, Value.cells] <;> rfl) ?_; refine Wl_call rfl (by (repeat (first | exact EvL.nil | apply EvL.cons (by (repeat (first | exact Ev.here | exact Ev.const | exact Ev.arg rfl | apply Ev.there rfl | exact Ev.none rfl | exact Ev.func | exact Ev.var)); (first | done | fail)))); (first | done | fail)) (done25_spec B (by first | rfl | assumption | (simp only [List.all_cons, List.all_nil, Bool.and_eq_true, Bool.and_true, cInt, cBool, cStr, cPtr, cSl, cByte, true_and, and_true] at *; first | done | assumption | simp only [*, and_self]) | simp [isCell, byteV])) (by (repeat (first | exact Pick.nil | apply Pick.cons (by (repeat (first | exact Out.head | apply Out.tail)); (first | done | fail)))); (first | done | fail)) ?_; (rintro v A' ⟨rfl, rfl⟩ <;> (try simp only [List.cons_append, List.nil_append])); (refine Wl_nil (hK _ _ ?_); clear hK K))
    | (refine Wc_region (id := 4) ?_; intro K hK; refine Wl_fieldAddr rfl rfl rfl ?_; refine Wl_load (by decide) rfl rfl (by (repeat (first | exact Rd.head | exact Rd.base (by assumption) | apply Rd.tail)); (first | done | fail)) rfl ?_; refine Wl_assign rfl (by (repeat (first | exact Ev.here | exact Ev.const | exact Ev.arg rfl | apply Ev.there rfl | exact Ev.none rfl | exact Ev.func | exact Ev.var)); (first | done | fail)) ?_; (refine Wl_nil (hK _ _ ?_); clear hK K))
    | (refine Wc_region (id := 5) ?_; intro K hK; refine Wl_move rfl (by (repeat (first | exact Ev.here | exact Ev.const | exact Ev.arg rfl | apply Ev.there rfl | exact Ev.none rfl | exact Ev.func | exact Ev.var)); (first | done | fail)) ?_; refine Wl_loadR (by decide) rfl rfl (by (repeat (first | exact Rd.head | exact Rd.base (by assumption) | apply Rd.tail)); (first | done | fail)) (by (repeat (first | exact TakeR.nil | apply TakeR.take | apply TakeR.skip)); (first | done | fail)) ?_; refine Wl_call rfl (by (repeat (first | exact EvL.nil | apply EvL.cons (by (repeat (first | exact Ev.here | exact Ev.const | exact Ev.arg rfl | apply Ev.there rfl | exact Ev.none rfl | exact Ev.func | exact Ev.var)); (first | done | fail)))); (first | done | fail)) (found25_spec B (by first | rfl | assumption | (simp only [List.all_cons, List.all_nil, Bool.and_eq_true, Bool.and_true, cInt, cBool, cStr, cPtr, cSl, cByte, true_and, and_true] at *; first | done | assumption | simp only [*, and_self]) | simp [isCell, byteV])) (by (repeat (first | exact Pick.nil | apply Pick.cons (by (repeat (first | exact Out.head | apply Out.tail)); (first | done | fail)))); (first | done | fail)) ?_; (rintro v A' ⟨rfl, rfl⟩ <;> (try simp only [List.cons_append, List.nil_append])); (refine Wl_nil (hK _ _ ?_); clear hK K))
    | (refine Wc_cond rfl (fun ht => ?_) (fun ht => ?_) <;> (try simp at ht) <;> (try (exfalso; omega))))
  · exact ⟨Or.inl rfl, _, [cb p _ _], (by (repeat (first | exact Ent.refl _ | exact Ent.nil | refine Ent.take (by (repeat (first | exact Out.head | apply Out.tail)); (first | done | fail)) ?_ | refine Ent.drop1 ?_))), res0 rfl, rfl, .inl ⟨by assumption, rfl⟩⟩
  · exact ⟨Or.inl rfl, _, [cb p _ _], (by (repeat (first | exact Ent.refl _ | exact Ent.nil | refine Ent.take (by (repeat (first | exact Out.head | apply Out.tail)); (first | done | fail)) ?_ | refine Ent.drop1 ?_))), res0 rfl, rfl, .inr (.inl ⟨by assumption, by assumption, rfl⟩)⟩
  · exact ⟨Or.inl rfl, _, [cb p _ _], (by (repeat (first | exact Ent.refl _ | exact Ent.nil | refine Ent.take (by (repeat (first | exact Out.head | apply Out.tail)); (first | done | fail)) ?_ | refine Ent.drop1 ?_))), res0 rfl, rfl, .inr (.inr ⟨by assumption, by assumption, rfl⟩)⟩
theorem marked25_spec {p : Nat} {m : Value} {a1 a2 a3 a4 a5 a6 a7 ask t f1 f2 f3 f4 f5 f6 f7 f8 f9 f10 f11 f12 f13 f14 f15 f16 e1 e2 e3 e4 e5 e6 e7 e8 e9 e10 e11 e12 e13 e14 e15 e16 e17 : Value} {err : Int} :
    Fspec Try.prog B 54 #[.pointer (some ⟨p, 0, none⟩), .agg #[e1, e2, e3, e4, e5, e6, e7, e8, e9, e10, e11, e12, e13, e14, e15, e16, e17, .int .i64 err]] [cb p [a1, a2, a3, a4, a5, a6, a7, ask, m, t, f1, f2, f3, f4, f5, f6, f7, f8, f9, f10, f11, f12, f13, f14, f15, f16] 100]
      (fun v A' => v = .tuple #[] ∧ (
        (err ≠ 0 ∧ A' = [cb p [a1, a2, a3, a4, a5, a6, a7, .int .i64 8, m, t, .int .i64 8, .int .i64 0, .int .i64 0, .int .i64 0, .bool false, .string ByteArray.empty, .int .i64 0, .int .i64 0, .bool false, .int .i64 0, .int .i64 0, .bool false, .string ByteArray.empty, .int .i64 0, .int .i64 0, .int .i64 err] 100]) ∨
        (err = 0 ∧ A' = [cb p [a1, a2, a3, a4, a5, a6, a7, .int .i64 6, m, t, f1, f2, f3, f4, f5, f6, f7, f8, f9, f10, f11, f12, f13, f14, f15, f16] 100]))) := by
  refine spec_of (args := [_, _]) Try.func54 rfl rfl rfl ?_
  repeat' (first
    | refine Wc_seq ?_
    | refine thenQ_normal ?_
    | refine Wc_cond_t rfl ?_
    | refine Wc_cond_f rfl ?_
    | refine Wc_ret ?_
    | refine thenQ_ret ?_
    | refine Wc_block ?_
    | refine blkQ_normal ?_
    | refine blkQ_ret ?_
    | refine Wc_exit ?_
    | refine thenQ_exit ?_
    | refine blkQ_hit ?_
    | refine blkQ_miss rfl ?_
    | refine Wc_skip ?_
    | refine Wc_label ?_
    | refine loopQ_exit ?_
    | refine loopQ_ret ?_
    | refine loopQ_normal ?_
    | (refine Wc_region (id := 0) ?_; intro K hK; (refine Wl_boxAgg rfl (by (repeat (first | exact Ev.here | exact Ev.const | exact Ev.arg rfl | apply Ev.there rfl | exact Ev.none rfl | exact Ev.func | exact Ev.var)); (first | done | fail)) ?_; intro r); (refine Wl_nil (hK _ _ ?_); clear hK K))
    | (refine Wc_region (id := 1) ?_; intro K hK; refine Wl_move rfl (by (repeat (first | exact Ev.here | exact Ev.const | exact Ev.arg rfl | apply Ev.there rfl | exact Ev.none rfl | exact Ev.func | exact Ev.var)); (first | done | fail)) ?_; refine Wl_nilCheck rfl rfl ?_; refine Wl_fieldAddr rfl rfl rfl ?_; refine Wl_store rfl (by (repeat (first | exact Ev.here | exact Ev.const | exact Ev.arg rfl | apply Ev.there rfl | exact Ev.none rfl | exact Ev.func | exact Ev.var)); (first | done | fail)) (by rfl) (by (repeat (first | exact Upd.head | apply Upd.tail)); (first | done | fail)) (by (repeat (first | exact SetAt.zero | apply SetAt.succ)); (first | done | fail)) rfl (by simp) ?_; (refine Wl_nil (hK _ _ ?_); clear hK K))
    | (refine Wc_region (id := 2) ?_; intro K hK; refine Wl_fieldAddr rfl rfl rfl ?_; refine Wl_load (by decide) rfl rfl (by (repeat (first | exact Rd.head | exact Rd.base (by assumption) | apply Rd.tail)); (first | done | fail)) rfl ?_; refine Wl_neq rfl rfl rfl ?_; (refine Wl_nil (hK _ _ ?_); clear hK K))
    | (refine Wc_region (id := 3) ?_; intro K hK; refine Wl_move rfl (by (repeat (first | exact Ev.here | exact Ev.const | exact Ev.arg rfl | apply Ev.there rfl | exact Ev.none rfl | exact Ev.func | exact Ev.var)); (first | done | fail)) ?_; refine Wl_fieldAddr rfl rfl rfl ?_; refine Wl_load (by decide) rfl rfl (by (repeat (first | exact Rd.head | exact Rd.base (by assumption) | apply Rd.tail)); (first | done | fail)) rfl ?_; refine Wl_build rfl (by (repeat (first | exact EvL.nil | apply EvL.cons (by (repeat (first | exact Ev.here | exact Ev.const | exact Ev.arg rfl | apply Ev.there rfl | exact Ev.none rfl | exact Ev.func | exact Ev.var)); (first | done | fail)))); (first | done | fail)) (by simp [bld, setL, Value.cells] <;> rfl) ?_; refine Wl_call rfl (by (repeat (first | exact EvL.nil | apply EvL.cons (by (repeat (first | exact Ev.here | exact Ev.const | exact Ev.arg rfl | apply Ev.there rfl | exact Ev.none rfl | exact Ev.func | exact Ev.var)); (first | done | fail)))); (first | done | fail)) (done25_spec B (by first | rfl | assumption | (simp only [List.all_cons, List.all_nil, Bool.and_eq_true, Bool.and_true, cInt, cBool, cStr, cPtr, cSl, cByte, true_and, and_true] at *; first | done | assumption | simp only [*, and_self]) | simp [isCell, byteV])) (by (repeat (first | exact Pick.nil | apply Pick.cons (by (repeat (first | exact Out.head | apply Out.tail)); (first | done | fail)))); (first | done | fail)) ?_; (rintro v A' ⟨rfl, rfl⟩ <;> (try simp only [List.cons_append, List.nil_append])); (refine Wl_nil (hK _ _ ?_); clear hK K))
    | (refine Wc_cond rfl (fun ht => ?_) (fun ht => ?_) <;> (try simp at ht) <;> (try (exfalso; omega))))
  · exact ⟨Or.inl rfl, _, [cb p _ _], (by (repeat (first | exact Ent.refl _ | exact Ent.nil | refine Ent.take (by (repeat (first | exact Out.head | apply Out.tail)); (first | done | fail)) ?_ | refine Ent.drop1 ?_))), res0 rfl, rfl, .inl ⟨by assumption, rfl⟩⟩
  · exact ⟨Or.inl rfl, _, [cb p _ _], (by (repeat (first | exact Ent.refl _ | exact Ent.nil | refine Ent.take (by (repeat (first | exact Out.head | apply Out.tail)); (first | done | fail)) ?_ | refine Ent.drop1 ?_))), res0 rfl, rfl, .inr ⟨by assumption, rfl⟩⟩
theorem waits25_spec {p : Nat} {m : Value} {e : List Value} {a1 a2 a3 a4 a5 a6 a7 ask t f1 f2 f3 f4 f5 f6 f7 f8 f9 f10 f11 f12 f13 f14 f15 f16 : Value} :
    Fspec Try.prog B 55 #[.pointer (some ⟨p, 0, none⟩), .agg e.toArray] [cb p [a1, a2, a3, a4, a5, a6, a7, ask, m, t, f1, f2, f3, f4, f5, f6, f7, f8, f9, f10, f11, f12, f13, f14, f15, f16] 100]
      (fun v A' => v = .tuple #[] ∧ A' = [cb p [a1, a2, a3, a4, a5, a6, a7, .int .i64 7, m, .int .i64 0, f1, f2, f3, f4, f5, f6, f7, f8, f9, f10, f11, f12, f13, f14, f15, f16] 100]) := by
  refine spec_of (args := [_, _]) Try.func55 rfl rfl rfl ?_
  repeat' (first
    | refine Wc_seq ?_
    | refine thenQ_normal ?_
    | refine Wc_cond_t rfl ?_
    | refine Wc_cond_f rfl ?_
    | refine Wc_ret ?_
    | refine thenQ_ret ?_
    | refine Wc_block ?_
    | refine blkQ_normal ?_
    | refine blkQ_ret ?_
    | refine Wc_exit ?_
    | refine thenQ_exit ?_
    | refine blkQ_hit ?_
    | refine blkQ_miss rfl ?_
    | refine Wc_skip ?_
    | refine Wc_label ?_
    | refine loopQ_exit ?_
    | refine loopQ_ret ?_
    | refine loopQ_normal ?_
    | (refine Wc_region (id := 0) ?_; intro K hK; (refine Wl_boxAgg rfl (by (repeat (first | exact Ev.here | exact Ev.const | exact Ev.arg rfl | apply Ev.there rfl | exact Ev.none rfl | exact Ev.func | exact Ev.var)); (first | done | fail)) ?_; intro r); (refine Wl_nil (hK _ _ ?_); clear hK K))
    | (refine Wc_region (id := 1) ?_; intro K hK; refine Wl_move rfl (by (repeat (first | exact Ev.here | exact Ev.const | exact Ev.arg rfl | apply Ev.there rfl | exact Ev.none rfl | exact Ev.func | exact Ev.var)); (first | done | fail)) ?_; refine Wl_move rfl (by (repeat (first | exact Ev.here | exact Ev.const | exact Ev.arg rfl | apply Ev.there rfl | exact Ev.none rfl | exact Ev.func | exact Ev.var)); (first | done | fail)) ?_; refine Wl_nilCheck rfl rfl ?_; refine Wl_fieldAddr rfl rfl rfl ?_; refine Wl_store rfl (by (repeat (first | exact Ev.here | exact Ev.const | exact Ev.arg rfl | apply Ev.there rfl | exact Ev.none rfl | exact Ev.func | exact Ev.var)); (first | done | fail)) (by rfl) (by (repeat (first | exact Upd.head | apply Upd.tail)); (first | done | fail)) (by (repeat (first | exact SetAt.zero | apply SetAt.succ)); (first | done | fail)) rfl (by simp) ?_; refine Wl_nilCheck rfl rfl ?_; refine Wl_fieldAddr rfl rfl rfl ?_; refine Wl_store rfl (by (repeat (first | exact Ev.here | exact Ev.const | exact Ev.arg rfl | apply Ev.there rfl | exact Ev.none rfl | exact Ev.func | exact Ev.var)); (first | done | fail)) (by rfl) (by (repeat (first | exact Upd.head | apply Upd.tail)); (first | done | fail)) (by (repeat (first | exact SetAt.zero | apply SetAt.succ)); (first | done | fail)) rfl (by simp) ?_; (refine Wl_nil (hK _ _ ?_); clear hK K))
    | (refine Wc_cond rfl (fun ht => ?_) (fun ht => ?_) <;> (try simp at ht) <;> (try (exfalso; omega))))
  exact ⟨Or.inl rfl, _, [cb p _ _], (by (repeat (first | exact Ent.refl _ | exact Ent.nil | refine Ent.take (by (repeat (first | exact Out.head | apply Out.tail)); (first | done | fail)) ?_ | refine Ent.drop1 ?_))), res0 rfl, rfl, rfl⟩
theorem ends25_spec {p : Nat} {m : Value} {e : List Value} {a1 a2 a3 a4 a5 a6 a7 ask t f1 f2 f3 f4 f5 f6 f7 f8 f9 f10 f11 f12 f13 f14 f15 f16 : Value} :
    Fspec Try.prog B 53 #[.pointer (some ⟨p, 0, none⟩), .agg e.toArray] [cb p [a1, a2, a3, a4, a5, a6, a7, ask, m, t, f1, f2, f3, f4, f5, f6, f7, f8, f9, f10, f11, f12, f13, f14, f15, f16] 100]
      (fun v A' => v = .tuple #[] ∧ A' = [cb p [a1, a2, a3, a4, a5, a6, a7, .int .i64 8, m, t, f1, f2, f3, f4, f5, f6, f7, f8, f9, f10, f11, f12, f13, f14, f15, f16] 100]) := by
  refine spec_of (args := [_, _]) Try.func53 rfl rfl rfl ?_
  repeat' (first
    | refine Wc_seq ?_
    | refine thenQ_normal ?_
    | refine Wc_cond_t rfl ?_
    | refine Wc_cond_f rfl ?_
    | refine Wc_ret ?_
    | refine thenQ_ret ?_
    | refine Wc_block ?_
    | refine blkQ_normal ?_
    | refine blkQ_ret ?_
    | refine Wc_exit ?_
    | refine thenQ_exit ?_
    | refine blkQ_hit ?_
    | refine blkQ_miss rfl ?_
    | refine Wc_skip ?_
    | refine Wc_label ?_
    | refine loopQ_exit ?_
    | refine loopQ_ret ?_
    | refine loopQ_normal ?_
    | (refine Wc_region (id := 0) ?_; intro K hK; (refine Wl_boxAgg rfl (by (repeat (first | exact Ev.here | exact Ev.const | exact Ev.arg rfl | apply Ev.there rfl | exact Ev.none rfl | exact Ev.func | exact Ev.var)); (first | done | fail)) ?_; intro r); (refine Wl_nil (hK _ _ ?_); clear hK K))
    | (refine Wc_region (id := 1) ?_; intro K hK; refine Wl_move rfl (by (repeat (first | exact Ev.here | exact Ev.const | exact Ev.arg rfl | apply Ev.there rfl | exact Ev.none rfl | exact Ev.func | exact Ev.var)); (first | done | fail)) ?_; refine Wl_nilCheck rfl rfl ?_; refine Wl_fieldAddr rfl rfl rfl ?_; refine Wl_store rfl (by (repeat (first | exact Ev.here | exact Ev.const | exact Ev.arg rfl | apply Ev.there rfl | exact Ev.none rfl | exact Ev.func | exact Ev.var)); (first | done | fail)) (by rfl) (by (repeat (first | exact Upd.head | apply Upd.tail)); (first | done | fail)) (by (repeat (first | exact SetAt.zero | apply SetAt.succ)); (first | done | fail)) rfl (by simp) ?_; (refine Wl_nil (hK _ _ ?_); clear hK K))
    | (refine Wc_cond rfl (fun ht => ?_) (fun ht => ?_) <;> (try simp at ht) <;> (try (exfalso; omega))))
  exact ⟨Or.inl rfl, _, [cb p _ _], (by (repeat (first | exact Ent.refl _ | exact Ent.nil | refine Ent.take (by (repeat (first | exact Out.head | apply Out.tail)); (first | done | fail)) ?_ | refine Ent.drop1 ?_))), res0 rfl, rfl, rfl⟩
theorem tick25_spec {p : Nat} {m : Value} {e : List Value} {t : Int} {a1 a2 a3 a4 a5 a6 a7 ask f1 f2 f3 f4 f5 f6 f7 f8 f9 f10 f11 f12 f13 f14 f15 f16 : Value} (ht : 0 ≤ t ∧ t ≤ 1000000) :
    Fspec Try.prog B 50 #[.pointer (some ⟨p, 0, none⟩), .agg e.toArray] [cb p [a1, a2, a3, a4, a5, a6, a7, ask, m, .int .i64 t, f1, f2, f3, f4, f5, f6, f7, f8, f9, f10, f11, f12, f13, f14, f15, f16] 100]
      (fun v A' => v = .tuple #[] ∧ (
        (4 ≤ t + 1 ∧ A' = [cb p [a1, a2, a3, a4, a5, a6, a7, .int .i64 6, m, .int .i64 (t + 1), f1, f2, f3, f4, f5, f6, f7, f8, f9, f10, f11, f12, f13, f14, f15, f16] 100]) ∨
        (t + 1 < 4 ∧ A' = [cb p [a1, a2, a3, a4, a5, a6, a7, ask, m, .int .i64 (t + 1), f1, f2, f3, f4, f5, f6, f7, f8, f9, f10, f11, f12, f13, f14, f15, f16] 100]))) := by
  refine spec_of (args := [_, _]) Try.func50 rfl rfl rfl ?_
  repeat' (first
    | refine Wc_seq ?_
    | refine thenQ_normal ?_
    | refine Wc_cond_t rfl ?_
    | refine Wc_cond_f rfl ?_
    | refine Wc_ret ?_
    | refine thenQ_ret ?_
    | refine Wc_block ?_
    | refine blkQ_normal ?_
    | refine blkQ_ret ?_
    | refine Wc_exit ?_
    | refine thenQ_exit ?_
    | refine blkQ_hit ?_
    | refine blkQ_miss rfl ?_
    | refine Wc_skip ?_
    | refine Wc_label ?_
    | refine loopQ_exit ?_
    | refine loopQ_ret ?_
    | refine loopQ_normal ?_
    | (refine Wc_region (id := 0) ?_; intro K hK; (refine Wl_boxAgg rfl (by (repeat (first | exact Ev.here | exact Ev.const | exact Ev.arg rfl | apply Ev.there rfl | exact Ev.none rfl | exact Ev.func | exact Ev.var)); (first | done | fail)) ?_; intro r); (refine Wl_nil (hK _ _ ?_); clear hK K))
    | (refine Wc_region (id := 1) ?_; intro K hK; refine Wl_move rfl (by (repeat (first | exact Ev.here | exact Ev.const | exact Ev.arg rfl | apply Ev.there rfl | exact Ev.none rfl | exact Ev.func | exact Ev.var)); (first | done | fail)) ?_; refine Wl_nilCheck rfl rfl ?_; refine Wl_fieldAddr rfl rfl rfl ?_; refine Wl_load (by decide) rfl rfl (by (repeat (first | exact Rd.head | exact Rd.base (by assumption) | apply Rd.tail)); (first | done | fail)) rfl ?_; refine Wl_add rfl rfl rfl (by first | exact fits_i64 (by omega) | exact fits_u8 (by omega) | exact fits_u64 (by omega) | exact fits_u32 (by omega)) ?_; refine Wl_nilCheck rfl rfl ?_; refine Wl_fieldAddr rfl rfl rfl ?_; refine Wl_store rfl (by (repeat (first | exact Ev.here | exact Ev.const | exact Ev.arg rfl | apply Ev.there rfl | exact Ev.none rfl | exact Ev.func | exact Ev.var)); (first | done | fail)) (by rfl) (by (repeat (first | exact Upd.head | apply Upd.tail)); (first | done | fail)) (by (repeat (first | exact SetAt.zero | apply SetAt.succ)); (first | done | fail)) rfl (by simp) ?_; (refine Wl_nil (hK _ _ ?_); clear hK K))
    | (refine Wc_region (id := 2) ?_; intro K hK; refine Wl_move rfl (by (repeat (first | exact Ev.here | exact Ev.const | exact Ev.arg rfl | apply Ev.there rfl | exact Ev.none rfl | exact Ev.func | exact Ev.var)); (first | done | fail)) ?_; refine Wl_nilCheck rfl rfl ?_; refine Wl_fieldAddr rfl rfl rfl ?_; refine Wl_load (by decide) rfl rfl (by (repeat (first | exact Rd.head | exact Rd.base (by assumption) | apply Rd.tail)); (first | done | fail)) rfl ?_; refine Wl_geq rfl rfl rfl ?_; (refine Wl_nil (hK _ _ ?_); clear hK K))
    | (refine Wc_region (id := 3) ?_; intro K hK; refine Wl_move rfl (by (repeat (first | exact Ev.here | exact Ev.const | exact Ev.arg rfl | apply Ev.there rfl | exact Ev.none rfl | exact Ev.func | exact Ev.var)); (first | done | fail)) ?_; refine Wl_nilCheck rfl rfl ?_; refine Wl_fieldAddr rfl rfl rfl ?_; refine Wl_store rfl (by (repeat (first | exact Ev.here | exact Ev.const | exact Ev.arg rfl | apply Ev.there rfl | exact Ev.none rfl | exact Ev.func | exact Ev.var)); (first | done | fail)) (by rfl) (by (repeat (first | exact Upd.head | apply Upd.tail)); (first | done | fail)) (by (repeat (first | exact SetAt.zero | apply SetAt.succ)); (first | done | fail)) rfl (by simp) ?_; (refine Wl_nil (hK _ _ ?_); clear hK K))
    | (refine Wc_cond rfl (fun ht => ?_) (fun ht => ?_) <;> (try simp at ht) <;> (try (exfalso; omega))))
  · exact ⟨Or.inl rfl, _, [cb p _ _], (by (repeat (first | exact Ent.refl _ | exact Ent.nil | refine Ent.take (by (repeat (first | exact Out.head | apply Out.tail)); (first | done | fail)) ?_ | refine Ent.drop1 ?_))), res0 rfl, rfl, .inl ⟨by omega, rfl⟩⟩
  · exact ⟨Or.inl rfl, _, [cb p _ _], (by (repeat (first | exact Ent.refl _ | exact Ent.nil | refine Ent.take (by (repeat (first | exact Out.head | apply Out.tail)); (first | done | fail)) ?_ | refine Ent.drop1 ?_))), res0 rfl, rfl, .inr ⟨by omega, rfl⟩⟩
theorem refused25_spec {p : Nat} {m : Value} {a1 a2 a3 a4 a5 a6 a7 ask t f1 f2 f3 f4 f5 f6 f7 f8 f9 f10 f11 f12 f13 f14 f15 f16 e1 e2 e3 e4 e5 e6 e7 e8 e9 e10 e11 e12 e13 e14 e15 e16 e17 : Value} {err : Int} (he : [e12, e13, e14, e15, e16, e17].all isCell = true) :
    Fspec Try.prog B 59 #[.pointer (some ⟨p, 0, none⟩), .agg #[e1, e2, e3, e4, e5, e6, e7, e8, e9, e10, e11, e12, e13, e14, e15, e16, e17, .int .i64 err]] [cb p [a1, a2, a3, a4, a5, a6, a7, ask, m, t, f1, f2, f3, f4, f5, f6, f7, f8, f9, f10, f11, f12, f13, f14, f15, f16] 100]
      (fun v A' => v = .tuple #[] ∧ (
        (¬ waitsOn err ∧ A' = [cb p [a1, a2, a3, a4, a5, a6, a7, .int .i64 5, m, t, .int .i64 8, .int .i64 0, .int .i64 0, .int .i64 0, .bool false, .string ByteArray.empty, .int .i64 0, .int .i64 0, .bool false, .int .i64 0, .int .i64 0, .bool false, .string ByteArray.empty, e16, e17, .int .i64 err] 100]) ∨
        (waitsOn err ∧ A' = [cb p [a1, a2, a3, a4, a5, a6, a7, ask, m, t, f1, f2, f3, f4, f5, f6, f7, f8, f9, f10, f11, f12, f13, f14, f15, f16] 100]))) := by
  refine spec_of (args := [_, _]) Try.func59 rfl rfl rfl ?_
  repeat' (first
    | refine Wc_seq ?_
    | refine thenQ_normal ?_
    | refine Wc_cond_t rfl ?_
    | refine Wc_cond_f rfl ?_
    | refine Wc_ret ?_
    | refine thenQ_ret ?_
    | refine Wc_block ?_
    | refine blkQ_normal ?_
    | refine blkQ_ret ?_
    | refine Wc_exit ?_
    | refine thenQ_exit ?_
    | refine blkQ_hit ?_
    | refine blkQ_miss rfl ?_
    | refine Wc_skip ?_
    | refine Wc_label ?_
    | refine loopQ_exit ?_
    | refine loopQ_ret ?_
    | refine loopQ_normal ?_
    | (refine Wc_region (id := 0) ?_; intro K hK; (refine Wl_boxAgg rfl (by (repeat (first | exact Ev.here | exact Ev.const | exact Ev.arg rfl | apply Ev.there rfl | exact Ev.none rfl | exact Ev.func | exact Ev.var)); (first | done | fail)) ?_; intro r); (refine Wl_nil (hK _ _ ?_); clear hK K))
    | (refine Wc_region (id := 1) ?_; intro K hK; refine Wl_fieldAddr rfl rfl rfl ?_; refine Wl_load (by decide) rfl rfl (by (repeat (first | exact Rd.head | exact Rd.base (by assumption) | apply Rd.tail)); (first | done | fail)) rfl ?_; (refine Wl_nil (hK _ _ ?_); clear hK K))
    | (refine Wc_region (id := 2) ?_; intro K hK; refine Wl_eql rfl rfl rfl ?_; refine Wl_assign rfl (by (repeat (first | exact Ev.here | exact Ev.const | exact Ev.arg rfl | apply Ev.there rfl | exact Ev.none rfl | exact Ev.func | exact Ev.var)); (first | done | fail)) ?_; (refine Wl_nil (hK _ _ ?_); clear hK K))
    | (refine Wc_region (id := 3) ?_; intro K hK; refine Wl_eql rfl rfl rfl ?_; refine Wl_assign rfl (by (repeat (first | exact Ev.here | exact Ev.const | exact Ev.arg rfl | apply Ev.there rfl | exact Ev.none rfl | exact Ev.func | exact Ev.var)); (first | done | fail)) ?_; (refine Wl_nil (hK _ _ ?_); clear hK K))
    | (refine Wc_region (id := 4) ?_; intro K hK; refine Wl_eql rfl rfl rfl ?_; refine Wl_assign rfl (by (repeat (first | exact Ev.here | exact Ev.const | exact Ev.arg rfl | apply Ev.there rfl | exact Ev.none rfl | exact Ev.func | exact Ev.var)); (first | done | fail)) ?_; (refine Wl_nil (hK _ _ ?_); clear hK K))
    | (refine Wc_region (id := 5) ?_; intro K hK; refine Wl_eql rfl rfl rfl ?_; refine Wl_assign rfl (by (repeat (first | exact Ev.here | exact Ev.const | exact Ev.arg rfl | apply Ev.there rfl | exact Ev.none rfl | exact Ev.func | exact Ev.var)); (first | done | fail)) ?_; (refine Wl_nil (hK _ _ ?_); clear hK K))
    | (refine Wc_region (id := 6) ?_; intro K hK; refine Wl_eql rfl rfl rfl ?_; refine Wl_assign rfl (by (repeat (first | exact Ev.here | exact Ev.const | exact Ev.arg rfl | apply Ev.there rfl | exact Ev.none rfl | exact Ev.func | exact Ev.var)); (first | done | fail)) ?_; (refine Wl_nil (hK _ _ ?_); clear hK K))
    | (refine Wc_region (id := 7) ?_; intro K hK; refine Wl_eql rfl rfl rfl ?_; refine Wl_assign rfl (by (repeat (first | exact Ev.here | exact Ev.const | exact Ev.arg rfl | apply Ev.there rfl | exact Ev.none rfl | exact Ev.func | exact Ev.var)); (first | done | fail)) ?_; (refine Wl_nil (hK _ _ ?_); clear hK K))
    | (refine Wc_region (id := 8) ?_; intro K hK; refine Wl_move rfl (by (repeat (first | exact Ev.here | exact Ev.const | exact Ev.arg rfl | apply Ev.there rfl | exact Ev.none rfl | exact Ev.func | exact Ev.var)); (first | done | fail)) ?_; refine Wl_fieldAddr rfl rfl rfl ?_; refine Wl_load (by decide) rfl rfl (by (repeat (first | exact Rd.head | exact Rd.base (by assumption) | apply Rd.tail)); (first | done | fail)) rfl ?_; refine Wl_fieldAddr rfl rfl rfl ?_; refine Wl_loadR (by decide) rfl rfl (by (repeat (first | exact Rd.head | exact Rd.base (by assumption) | apply Rd.tail)); (first | done | fail)) (by (repeat (first | exact TakeR.nil | apply TakeR.take | apply TakeR.skip)); (first | done | fail)) ?_; refine Wl_build rfl (by (repeat (first | exact EvL.nil | apply EvL.cons (by (repeat (first | exact Ev.here | exact Ev.const | exact Ev.arg rfl | apply Ev.there rfl | exact Ev.none rfl | exact Ev.func | exact Ev.var)); (first | done | fail)))); (first | done | fail)) (by simp [bld, setL, Value.cells] <;> rfl) ?_; refine Wl_call rfl (by (repeat (first | exact EvL.nil | apply EvL.cons (by (repeat (first | exact Ev.here | exact Ev.const | exact Ev.arg rfl | apply Ev.there rfl | exact Ev.none rfl | exact Ev.func | exact Ev.var)); (first | done | fail)))); (first | done | fail)) (done25_spec B (by first | rfl | assumption | (simp only [List.all_cons, List.all_nil, Bool.and_eq_true, Bool.and_true, cInt, cBool, cStr, cPtr, cSl, cByte, true_and, and_true] at *; first | done | assumption | simp only [*, and_self]) | simp [isCell, byteV])) (by (repeat (first | exact Pick.nil | apply Pick.cons (by (repeat (first | exact Out.head | apply Out.tail)); (first | done | fail)))); (first | done | fail)) ?_; (rintro v A' ⟨rfl, rfl⟩ <;> (try simp only [List.cons_append, List.nil_append])); (refine Wl_nil (hK _ _ ?_); clear hK K))
    | (refine Wc_cond rfl (fun ht => ?_) (fun ht => ?_) <;> (try simp at ht) <;> (try (exfalso; omega))))
  all_goals first
    | exact ⟨Or.inr rfl, _, [cb p _ _], (by (repeat (first | exact Ent.refl _ | exact Ent.nil | refine Ent.take (by (repeat (first | exact Out.head | apply Out.tail)); (first | done | fail)) ?_ | refine Ent.drop1 ?_))), res0 rfl, rfl, .inr ⟨by unfold waitsOn; omega, rfl⟩⟩
    | exact ⟨Or.inl rfl, _, [cb p _ _], (by (repeat (first | exact Ent.refl _ | exact Ent.nil | refine Ent.take (by (repeat (first | exact Out.head | apply Out.tail)); (first | done | fail)) ?_ | refine Ent.drop1 ?_))), res0 rfl, rfl, .inl ⟨by unfold waitsOn; omega, rfl⟩⟩
theorem reply25_spec {p : Nat} {m : Option Addr} {kind : Int} {a2 a3 a4 a5 a6 a7 ask t f1 f2 f3 f4 f5 f6 f7 f8 f9 f10 f11 f12 f13 f14 f15 f16 e1 e2 e3 e4 e5 e6 e7 e8 e9 e10 e11 e12 e13 e14 e15 e16 e17 : Value} {err : Int} (he : [e12, e13, e14, e15, e16, e17].all isCell = true) :
    Fspec Try.prog B 56 #[.pointer (some ⟨p, 0, none⟩), .agg #[e1, e2, e3, e4, e5, e6, e7, e8, e9, e10, e11, e12, e13, e14, e15, e16, e17, .int .i64 err]] [cb p [.int .i64 kind, a2, a3, a4, a5, a6, a7, ask, .pointer m, t, f1, f2, f3, f4, f5, f6, f7, f8, f9, f10, f11, f12, f13, f14, f15, f16] 100]
      (fun v A' => v = .tuple #[] ∧ (
        (kind = 1 ∧ err = 0 ∧ A' = [cb p [.int .i64 kind, a2, a3, a4, a5, a6, a7, .int .i64 (if m.isSome then 3 else 8), .pointer m, t, .int .i64 8, .int .i64 0, .int .i64 0, .int .i64 0, .bool false, .string ByteArray.empty, .int .i64 0, .int .i64 0, .bool false, e12, e13, e14, e15, e16, e17, .int .i64 0] 100]) ∨
        (kind = 1 ∧ err = 12 ∧ A' = [cb p [.int .i64 kind, a2, a3, a4, a5, a6, a7, .int .i64 8, .pointer m, t, .int .i64 8, .int .i64 0, .int .i64 0, .int .i64 0, .bool false, .string ByteArray.empty, .int .i64 0, .int .i64 0, .bool false, .int .i64 0, .int .i64 0, .bool false, .string ByteArray.empty, e16, e17, .int .i64 err] 100]) ∨
        (((kind = 1 ∧ err ≠ 0 ∧ err ≠ 12) ∨ (kind ≠ 1 ∧ waitsOn err)) ∧ A' = [cb p [.int .i64 kind, a2, a3, a4, a5, a6, a7, ask, .pointer m, t, f1, f2, f3, f4, f5, f6, f7, f8, f9, f10, f11, f12, f13, f14, f15, f16] 100]) ∨
        (kind ≠ 1 ∧ err = 0 ∧ A' = [cb p [.int .i64 kind, a2, a3, a4, a5, a6, a7, .int .i64 8, .pointer m, t, .int .i64 8, .int .i64 0, .int .i64 0, .int .i64 0, .bool false, .string ByteArray.empty, .int .i64 0, .int .i64 0, .bool false, .int .i64 0, .int .i64 0, .bool false, .string ByteArray.empty, e16, e17, .int .i64 0] 100]) ∨
        (kind ≠ 1 ∧ err ≠ 0 ∧ ¬ waitsOn err ∧ A' = [cb p [.int .i64 kind, a2, a3, a4, a5, a6, a7, .int .i64 5, .pointer m, t, .int .i64 8, .int .i64 0, .int .i64 0, .int .i64 0, .bool false, .string ByteArray.empty, .int .i64 0, .int .i64 0, .bool false, .int .i64 0, .int .i64 0, .bool false, .string ByteArray.empty, e16, e17, .int .i64 err] 100]))) := by
  refine spec_of (args := [_, _]) Try.func56 rfl rfl rfl ?_
  repeat' (first
    | refine Wc_seq ?_
    | refine thenQ_normal ?_
    | refine Wc_cond_t rfl ?_
    | refine Wc_cond_f rfl ?_
    | refine Wc_ret ?_
    | refine thenQ_ret ?_
    | refine Wc_block ?_
    | refine blkQ_normal ?_
    | refine blkQ_ret ?_
    | refine Wc_exit ?_
    | refine thenQ_exit ?_
    | refine blkQ_hit ?_
    | refine blkQ_miss rfl ?_
    | refine Wc_skip ?_
    | refine Wc_label ?_
    | refine loopQ_exit ?_
    | refine loopQ_ret ?_
    | refine loopQ_normal ?_
    | (refine Wc_region (id := 0) ?_; intro K hK; (refine Wl_boxAgg rfl (by (repeat (first | exact Ev.here | exact Ev.const | exact Ev.arg rfl | apply Ev.there rfl | exact Ev.none rfl | exact Ev.func | exact Ev.var)); (first | done | fail)) ?_; intro r); (refine Wl_nil (hK _ _ ?_); clear hK K))
    | (refine Wc_region (id := 1) ?_; intro K hK; refine Wl_move rfl (by (repeat (first | exact Ev.here | exact Ev.const | exact Ev.arg rfl | apply Ev.there rfl | exact Ev.none rfl | exact Ev.func | exact Ev.var)); (first | done | fail)) ?_; refine Wl_loadR (by decide) rfl rfl (by (repeat (first | exact Rd.head | exact Rd.base (by assumption) | apply Rd.tail)); (first | done | fail)) (by (repeat (first | exact TakeR.nil | apply TakeR.take | apply TakeR.skip)); (first | done | fail)) ?_; (refine Wl_call rfl (by (repeat (first | exact EvL.nil | apply EvL.cons (by (repeat (first | exact Ev.here | exact Ev.const | exact Ev.arg rfl | apply Ev.there rfl | exact Ev.none rfl | exact Ev.func | exact Ev.var)); (first | done | fail)))); (first | done | fail)) (refused25_spec B (by first | rfl | assumption | (simp only [List.all_cons, List.all_nil, Bool.and_eq_true, Bool.and_true, cInt, cBool, cStr, cPtr, cSl, cByte, true_and, and_true] at *; first | done | assumption | simp only [*, and_self]) | simp [isCell, byteV])) (by (repeat (first | exact Pick.nil | apply Pick.cons (by (repeat (first | exact Out.head | apply Out.tail)); (first | done | fail)))); (first | done | fail)) ?_; (rintro v A' ⟨rfl, ⟨hwo, rfl⟩ | ⟨hwo, rfl⟩⟩ <;> (try simp only [List.cons_append, List.nil_append]))) <;> ((refine Wl_nil (hK _ _ ?_); clear hK K)))
    | (refine Wc_region (id := 2) ?_; intro K hK; refine Wl_move rfl (by (repeat (first | exact Ev.here | exact Ev.const | exact Ev.arg rfl | apply Ev.there rfl | exact Ev.none rfl | exact Ev.func | exact Ev.var)); (first | done | fail)) ?_; refine Wl_nilCheck rfl rfl ?_; refine Wl_fieldAddr rfl rfl rfl ?_; refine Wl_load (by decide) rfl rfl (by (repeat (first | exact Rd.head | exact Rd.base (by assumption) | apply Rd.tail)); (first | done | fail)) rfl ?_; refine Wl_eql rfl rfl rfl ?_; refine Wl_move rfl (by (repeat (first | exact Ev.here | exact Ev.const | exact Ev.arg rfl | apply Ev.there rfl | exact Ev.none rfl | exact Ev.func | exact Ev.var)); (first | done | fail)) ?_; ((first | (refine Wl_guard rfl ?_; refine Wl_fieldAddr rfl rfl rfl ?_) | refine Wl_guard_no rfl rfl rfl ?_ | refine Wl_guard_un rfl rfl ?_ | ((refine Wl_split rfl rfl (fun ht => ?_) (fun ht => ?_) <;> (try simp at ht) <;> (try (exfalso; omega))) <;> (first | (refine Wl_guard rfl ?_; refine Wl_fieldAddr rfl rfl rfl ?_) | refine Wl_guard_no rfl rfl rfl ?_ | refine Wl_guard_un rfl rfl ?_)))) <;> (((first | (refine Wl_guard rfl ?_; refine Wl_load (by decide) rfl rfl (by (repeat (first | exact Rd.head | exact Rd.base (by assumption) | apply Rd.tail)); (first | done | fail)) rfl ?_) | refine Wl_guard_no rfl rfl rfl ?_ | refine Wl_guard_un rfl rfl ?_ | ((refine Wl_split rfl rfl (fun ht => ?_) (fun ht => ?_) <;> (try simp at ht) <;> (try (exfalso; omega))) <;> (first | (refine Wl_guard rfl ?_; refine Wl_load (by decide) rfl rfl (by (repeat (first | exact Rd.head | exact Rd.base (by assumption) | apply Rd.tail)); (first | done | fail)) rfl ?_) | refine Wl_guard_no rfl rfl rfl ?_ | refine Wl_guard_un rfl rfl ?_)))) <;> (((first | (refine Wl_guard rfl ?_; refine Wl_eql rfl rfl rfl ?_) | refine Wl_guard_no rfl rfl rfl ?_ | refine Wl_guard_un rfl rfl ?_ | ((refine Wl_split rfl rfl (fun ht => ?_) (fun ht => ?_) <;> (try simp at ht) <;> (try (exfalso; omega))) <;> (first | (refine Wl_guard rfl ?_; refine Wl_eql rfl rfl rfl ?_) | refine Wl_guard_no rfl rfl rfl ?_ | refine Wl_guard_un rfl rfl ?_)))) <;> ((first | refine Wl_pick_t rfl rfl (by (repeat (first | exact Ev.here | exact Ev.const | exact Ev.arg rfl | apply Ev.there rfl | exact Ev.none rfl | exact Ev.func | exact Ev.var)); (first | done | fail)) ?_ | refine Wl_pick_f rfl rfl (by (repeat (first | exact Ev.here | exact Ev.const | exact Ev.arg rfl | apply Ev.there rfl | exact Ev.none rfl | exact Ev.func | exact Ev.var)); (first | done | fail)) ?_ | refine Wl_pick rfl rfl rfl ?_); refine Wl_assign rfl (by (repeat (first | exact Ev.here | exact Ev.const | exact Ev.arg rfl | apply Ev.there rfl | exact Ev.none rfl | exact Ev.func | exact Ev.var)); (first | done | fail)) ?_; (refine Wl_nil (hK _ _ ?_); clear hK K)))))
    | (refine Wc_region (id := 3) ?_; intro K hK; refine Wl_move rfl (by (repeat (first | exact Ev.here | exact Ev.const | exact Ev.arg rfl | apply Ev.there rfl | exact Ev.none rfl | exact Ev.func | exact Ev.var)); (first | done | fail)) ?_; refine Wl_loadR (by decide) rfl rfl (by (repeat (first | exact Rd.head | exact Rd.base (by assumption) | apply Rd.tail)); (first | done | fail)) (by (repeat (first | exact TakeR.nil | apply TakeR.take | apply TakeR.skip)); (first | done | fail)) ?_; refine Wl_call rfl (by (repeat (first | exact EvL.nil | apply EvL.cons (by (repeat (first | exact Ev.here | exact Ev.const | exact Ev.arg rfl | apply Ev.there rfl | exact Ev.none rfl | exact Ev.func | exact Ev.var)); (first | done | fail)))); (first | done | fail)) (found25_spec B (by first | rfl | assumption | (simp only [List.all_cons, List.all_nil, Bool.and_eq_true, Bool.and_true, cInt, cBool, cStr, cPtr, cSl, cByte, true_and, and_true] at *; first | done | assumption | simp only [*, and_self]) | simp [isCell, byteV])) (by (repeat (first | exact Pick.nil | apply Pick.cons (by (repeat (first | exact Out.head | apply Out.tail)); (first | done | fail)))); (first | done | fail)) ?_; (rintro v A' ⟨rfl, rfl⟩ <;> (try simp only [List.cons_append, List.nil_append])); (refine Wl_nil (hK _ _ ?_); clear hK K))
    | (refine Wc_region (id := 4) ?_; intro K hK; refine Wl_move rfl (by (repeat (first | exact Ev.here | exact Ev.const | exact Ev.arg rfl | apply Ev.there rfl | exact Ev.none rfl | exact Ev.func | exact Ev.var)); (first | done | fail)) ?_; refine Wl_nilCheck rfl rfl ?_; refine Wl_fieldAddr rfl rfl rfl ?_; refine Wl_load (by decide) rfl rfl (by (repeat (first | exact Rd.head | exact Rd.base (by assumption) | apply Rd.tail)); (first | done | fail)) rfl ?_; refine Wl_eql rfl rfl rfl ?_; refine Wl_move rfl (by (repeat (first | exact Ev.here | exact Ev.const | exact Ev.arg rfl | apply Ev.there rfl | exact Ev.none rfl | exact Ev.func | exact Ev.var)); (first | done | fail)) ?_; ((first | (refine Wl_guard rfl ?_; refine Wl_fieldAddr rfl rfl rfl ?_) | refine Wl_guard_no rfl rfl rfl ?_ | refine Wl_guard_un rfl rfl ?_ | ((refine Wl_split rfl rfl (fun ht => ?_) (fun ht => ?_) <;> (try simp at ht) <;> (try (exfalso; omega))) <;> (first | (refine Wl_guard rfl ?_; refine Wl_fieldAddr rfl rfl rfl ?_) | refine Wl_guard_no rfl rfl rfl ?_ | refine Wl_guard_un rfl rfl ?_)))) <;> (((first | (refine Wl_guard rfl ?_; refine Wl_load (by decide) rfl rfl (by (repeat (first | exact Rd.head | exact Rd.base (by assumption) | apply Rd.tail)); (first | done | fail)) rfl ?_) | refine Wl_guard_no rfl rfl rfl ?_ | refine Wl_guard_un rfl rfl ?_ | ((refine Wl_split rfl rfl (fun ht => ?_) (fun ht => ?_) <;> (try simp at ht) <;> (try (exfalso; omega))) <;> (first | (refine Wl_guard rfl ?_; refine Wl_load (by decide) rfl rfl (by (repeat (first | exact Rd.head | exact Rd.base (by assumption) | apply Rd.tail)); (first | done | fail)) rfl ?_) | refine Wl_guard_no rfl rfl rfl ?_ | refine Wl_guard_un rfl rfl ?_)))) <;> (((first | (refine Wl_guard rfl ?_; refine Wl_eql rfl rfl rfl ?_) | refine Wl_guard_no rfl rfl rfl ?_ | refine Wl_guard_un rfl rfl ?_ | ((refine Wl_split rfl rfl (fun ht => ?_) (fun ht => ?_) <;> (try simp at ht) <;> (try (exfalso; omega))) <;> (first | (refine Wl_guard rfl ?_; refine Wl_eql rfl rfl rfl ?_) | refine Wl_guard_no rfl rfl rfl ?_ | refine Wl_guard_un rfl rfl ?_)))) <;> ((first | refine Wl_pick_t rfl rfl (by (repeat (first | exact Ev.here | exact Ev.const | exact Ev.arg rfl | apply Ev.there rfl | exact Ev.none rfl | exact Ev.func | exact Ev.var)); (first | done | fail)) ?_ | refine Wl_pick_f rfl rfl (by (repeat (first | exact Ev.here | exact Ev.const | exact Ev.arg rfl | apply Ev.there rfl | exact Ev.none rfl | exact Ev.func | exact Ev.var)); (first | done | fail)) ?_ | refine Wl_pick rfl rfl rfl ?_); refine Wl_assign rfl (by (repeat (first | exact Ev.here | exact Ev.const | exact Ev.arg rfl | apply Ev.there rfl | exact Ev.none rfl | exact Ev.func | exact Ev.var)); (first | done | fail)) ?_; (refine Wl_nil (hK _ _ ?_); clear hK K)))))
    | (refine Wc_region (id := 5) ?_; intro K hK; refine Wl_move rfl (by (repeat (first | exact Ev.here | exact Ev.const | exact Ev.arg rfl | apply Ev.there rfl | exact Ev.none rfl | exact Ev.func | exact Ev.var)); (first | done | fail)) ?_; refine Wl_fieldAddr rfl rfl rfl ?_; refine Wl_load (by decide) rfl rfl (by (repeat (first | exact Rd.head | exact Rd.base (by assumption) | apply Rd.tail)); (first | done | fail)) rfl ?_; refine Wl_fieldAddr rfl rfl rfl ?_; refine Wl_loadR (by decide) rfl rfl (by (repeat (first | exact Rd.head | exact Rd.base (by assumption) | apply Rd.tail)); (first | done | fail)) (by (repeat (first | exact TakeR.nil | apply TakeR.take | apply TakeR.skip)); (first | done | fail)) ?_; refine Wl_build rfl (by (repeat (first | exact EvL.nil | apply EvL.cons (by (repeat (first | exact Ev.here | exact Ev.const | exact Ev.arg rfl | apply Ev.there rfl | exact Ev.none rfl | exact Ev.func | exact Ev.var)); (first | done | fail)))); (first | done | fail)) (by simp [bld, setL, Value.cells] <;> rfl) ?_; refine Wl_call rfl (by (repeat (first | exact EvL.nil | apply EvL.cons (by (repeat (first | exact Ev.here | exact Ev.const | exact Ev.arg rfl | apply Ev.there rfl | exact Ev.none rfl | exact Ev.func | exact Ev.var)); (first | done | fail)))); (first | done | fail)) (done25_spec B (by first | rfl | assumption | (simp only [List.all_cons, List.all_nil, Bool.and_eq_true, Bool.and_true, cInt, cBool, cStr, cPtr, cSl, cByte, true_and, and_true] at *; first | done | assumption | simp only [*, and_self]) | simp [isCell, byteV])) (by (repeat (first | exact Pick.nil | apply Pick.cons (by (repeat (first | exact Out.head | apply Out.tail)); (first | done | fail)))); (first | done | fail)) ?_; (rintro v A' ⟨rfl, rfl⟩ <;> (try simp only [List.cons_append, List.nil_append])); (refine Wl_nil (hK _ _ ?_); clear hK K))
    | (refine Wc_region (id := 6) ?_; intro K hK; refine Wl_move rfl (by (repeat (first | exact Ev.here | exact Ev.const | exact Ev.arg rfl | apply Ev.there rfl | exact Ev.none rfl | exact Ev.func | exact Ev.var)); (first | done | fail)) ?_; refine Wl_nilCheck rfl rfl ?_; refine Wl_fieldAddr rfl rfl rfl ?_; refine Wl_load (by decide) rfl rfl (by (repeat (first | exact Rd.head | exact Rd.base (by assumption) | apply Rd.tail)); (first | done | fail)) rfl ?_; refine Wl_eql rfl rfl rfl ?_; refine Wl_assign rfl (by (repeat (first | exact Ev.here | exact Ev.const | exact Ev.arg rfl | apply Ev.there rfl | exact Ev.none rfl | exact Ev.func | exact Ev.var)); (first | done | fail)) ?_; (refine Wl_nil (hK _ _ ?_); clear hK K))
    | (refine Wc_region (id := 7) ?_; intro K hK; refine Wl_fieldAddr rfl rfl rfl ?_; refine Wl_load (by decide) rfl rfl (by (repeat (first | exact Rd.head | exact Rd.base (by assumption) | apply Rd.tail)); (first | done | fail)) rfl ?_; refine Wl_eql rfl rfl rfl ?_; refine Wl_assign rfl (by (repeat (first | exact Ev.here | exact Ev.const | exact Ev.arg rfl | apply Ev.there rfl | exact Ev.none rfl | exact Ev.func | exact Ev.var)); (first | done | fail)) ?_; (refine Wl_nil (hK _ _ ?_); clear hK K))
    | (refine Wc_region (id := 8) ?_; intro K hK; refine Wl_move rfl (by (repeat (first | exact Ev.here | exact Ev.const | exact Ev.arg rfl | apply Ev.there rfl | exact Ev.none rfl | exact Ev.func | exact Ev.var)); (first | done | fail)) ?_; refine Wl_fieldAddr rfl rfl rfl ?_; refine Wl_loadR (by decide) rfl rfl (by (repeat (first | exact Rd.head | exact Rd.base (by assumption) | apply Rd.tail)); (first | done | fail)) (by (repeat (first | exact TakeR.nil | apply TakeR.take | apply TakeR.skip)); (first | done | fail)) ?_; refine Wl_build rfl (by (repeat (first | exact EvL.nil | apply EvL.cons (by (repeat (first | exact Ev.here | exact Ev.const | exact Ev.arg rfl | apply Ev.there rfl | exact Ev.none rfl | exact Ev.func | exact Ev.var)); (first | done | fail)))); (first | done | fail)) (by simp [bld, setL, Value.cells] <;> rfl) ?_; refine Wl_call rfl (by (repeat (first | exact EvL.nil | apply EvL.cons (by (repeat (first | exact Ev.here | exact Ev.const | exact Ev.arg rfl | apply Ev.there rfl | exact Ev.none rfl | exact Ev.func | exact Ev.var)); (first | done | fail)))); (first | done | fail)) (done25_spec B (by first | rfl | assumption | (simp only [List.all_cons, List.all_nil, Bool.and_eq_true, Bool.and_true, cInt, cBool, cStr, cPtr, cSl, cByte, true_and, and_true] at *; first | done | assumption | simp only [*, and_self]) | simp [isCell, byteV])) (by (repeat (first | exact Pick.nil | apply Pick.cons (by (repeat (first | exact Out.head | apply Out.tail)); (first | done | fail)))); (first | done | fail)) ?_; (rintro v A' ⟨rfl, rfl⟩ <;> (try simp only [List.cons_append, List.nil_append])); (refine Wl_nil (hK _ _ ?_); clear hK K))
    | (refine Wc_cond rfl (fun ht => ?_) (fun ht => ?_) <;> (try simp at ht) <;> (try (exfalso; omega))))
  · exact ⟨Or.inl rfl, _, [cb p _ _], (by (repeat (first | exact Ent.refl _ | exact Ent.nil | refine Ent.take (by (repeat (first | exact Out.head | apply Out.tail)); (first | done | fail)) ?_ | refine Ent.drop1 ?_))), res0 rfl, rfl, .inl ⟨by assumption, by assumption, rfl⟩⟩
  · exact ⟨Or.inl rfl, _, [cb p _ _], (by (repeat (first | exact Ent.refl _ | exact Ent.nil | refine Ent.take (by (repeat (first | exact Out.head | apply Out.tail)); (first | done | fail)) ?_ | refine Ent.drop1 ?_))), res0 rfl, rfl, .inr (.inl ⟨by assumption, by assumption, rfl⟩)⟩
  · exact ⟨Or.inl rfl, _, [cb p _ _], (by (repeat (first | exact Ent.refl _ | exact Ent.nil | refine Ent.take (by (repeat (first | exact Out.head | apply Out.tail)); (first | done | fail)) ?_ | refine Ent.drop1 ?_))), res0 rfl, rfl, .inr (.inr (.inl ⟨.inl ⟨by assumption, by assumption, by assumption⟩, rfl⟩))⟩
  · exact ⟨Or.inl rfl, _, [cb p _ _], (by (repeat (first | exact Ent.refl _ | exact Ent.nil | refine Ent.take (by (repeat (first | exact Out.head | apply Out.tail)); (first | done | fail)) ?_ | refine Ent.drop1 ?_))), res0 rfl, rfl, .inr (.inr (.inr (.inl ⟨by assumption, by assumption, rfl⟩)))⟩
  · exact ⟨Or.inl rfl, _, [cb p _ _], (by (repeat (first | exact Ent.refl _ | exact Ent.nil | refine Ent.take (by (repeat (first | exact Out.head | apply Out.tail)); (first | done | fail)) ?_ | refine Ent.drop1 ?_))), res0 rfl, rfl, .inr (.inr (.inr (.inr ⟨by assumption, by assumption, by assumption, rfl⟩)))⟩
  · exact ⟨Or.inl rfl, _, [cb p _ _], (by (repeat (first | exact Ent.refl _ | exact Ent.nil | refine Ent.take (by (repeat (first | exact Out.head | apply Out.tail)); (first | done | fail)) ?_ | refine Ent.drop1 ?_))), res0 rfl, rfl, .inr (.inr (.inl ⟨.inr ⟨by assumption, by assumption⟩, rfl⟩))⟩
theorem awaits25_spec {p : Nat} {m : Value} {ask what : Int} {a1 a2 a3 a4 a5 a6 a7 t f1 f2 f3 f4 f5 f6 f7 f8 f9 f10 f11 f12 f13 f14 f15 f16 : Value} :
    Fspec Try.prog B 44 #[.pointer (some ⟨p, 0, none⟩), .int .i64 what] [cb p [a1, a2, a3, a4, a5, a6, a7, .int .i64 ask, m, t, f1, f2, f3, f4, f5, f6, f7, f8, f9, f10, f11, f12, f13, f14, f15, f16] 100]
      (fun v A' => A' = [cb p [a1, a2, a3, a4, a5, a6, a7, .int .i64 ask, m, t, f1, f2, f3, f4, f5, f6, f7, f8, f9, f10, f11, f12, f13, f14, f15, f16] 100] ∧ (
        (ask = 7 ∧ what = 8 ∧ v = .func (.func 50) #[.pointer (some ⟨p, 0, none⟩)] #[]) ∨
        (¬ (ask = 7 ∧ what = 8) ∧ (what ≠ ask ∨ what < 1 ∨ 7 < what) ∧ v = .nilFunc) ∨
        (what = ask ∧ what = 1 ∧ v = .func (.func 51) #[.pointer (some ⟨p, 0, none⟩)] #[]) ∨
        (what = ask ∧ what = 2 ∧ v = .func (.func 52) #[.pointer (some ⟨p, 0, none⟩)] #[]) ∨
        (what = ask ∧ (what = 3 ∨ what = 5) ∧ v = .func (.func 53) #[.pointer (some ⟨p, 0, none⟩)] #[]) ∨
        (what = ask ∧ what = 4 ∧ v = .func (.func 54) #[.pointer (some ⟨p, 0, none⟩)] #[]) ∨
        (what = ask ∧ what = 6 ∧ v = .func (.func 55) #[.pointer (some ⟨p, 0, none⟩)] #[]) ∨
        (what = ask ∧ what = 7 ∧ v = .func (.func 56) #[.pointer (some ⟨p, 0, none⟩)] #[]))) := by
  refine spec_of (args := [_, _]) Try.func44 rfl rfl rfl ?_
  repeat' (first
    | refine Wc_seq ?_
    | refine thenQ_normal ?_
    | refine Wc_cond_t rfl ?_
    | refine Wc_cond_f rfl ?_
    | refine Wc_ret ?_
    | refine thenQ_ret ?_
    | refine Wc_block ?_
    | refine blkQ_normal ?_
    | refine blkQ_ret ?_
    | refine Wc_exit ?_
    | refine thenQ_exit ?_
    | refine blkQ_hit ?_
    | refine blkQ_miss rfl ?_
    | refine Wc_skip ?_
    | refine Wc_label ?_
    | refine loopQ_exit ?_
    | refine loopQ_ret ?_
    | refine loopQ_normal ?_
    | (refine Wc_region (id := 0) ?_; intro K hK; refine Wl_assign rfl (by (repeat (first | exact Ev.here | exact Ev.const | exact Ev.arg rfl | apply Ev.there rfl | exact Ev.none rfl | exact Ev.func | exact Ev.var)); (first | done | fail)) ?_; (refine Wl_nil (hK _ _ ?_); clear hK K))
    | (refine Wc_region (id := 1) ?_; intro K hK; refine Wl_move rfl (by (repeat (first | exact Ev.here | exact Ev.const | exact Ev.arg rfl | apply Ev.there rfl | exact Ev.none rfl | exact Ev.func | exact Ev.var)); (first | done | fail)) ?_; refine Wl_nilCheck rfl rfl ?_; refine Wl_fieldAddr rfl rfl rfl ?_; refine Wl_load (by decide) rfl rfl (by (repeat (first | exact Rd.head | exact Rd.base (by assumption) | apply Rd.tail)); (first | done | fail)) rfl ?_; refine Wl_eql rfl rfl rfl ?_; refine Wl_move rfl (by (repeat (first | exact Ev.here | exact Ev.const | exact Ev.arg rfl | apply Ev.there rfl | exact Ev.none rfl | exact Ev.func | exact Ev.var)); (first | done | fail)) ?_; ((first | (refine Wl_guard rfl ?_; refine Wl_move rfl (by (repeat (first | exact Ev.here | exact Ev.const | exact Ev.arg rfl | apply Ev.there rfl | exact Ev.none rfl | exact Ev.func | exact Ev.var)); (first | done | fail)) ?_) | refine Wl_guard_no rfl rfl rfl ?_ | refine Wl_guard_un rfl rfl ?_ | ((refine Wl_split rfl rfl (fun ht => ?_) (fun ht => ?_) <;> (try simp at ht) <;> (try (exfalso; omega))) <;> (first | (refine Wl_guard rfl ?_; refine Wl_move rfl (by (repeat (first | exact Ev.here | exact Ev.const | exact Ev.arg rfl | apply Ev.there rfl | exact Ev.none rfl | exact Ev.func | exact Ev.var)); (first | done | fail)) ?_) | refine Wl_guard_no rfl rfl rfl ?_ | refine Wl_guard_un rfl rfl ?_)))) <;> (((first | (refine Wl_guard rfl ?_; refine Wl_eql rfl rfl rfl ?_) | refine Wl_guard_no rfl rfl rfl ?_ | refine Wl_guard_un rfl rfl ?_ | ((refine Wl_split rfl rfl (fun ht => ?_) (fun ht => ?_) <;> (try simp at ht) <;> (try (exfalso; omega))) <;> (first | (refine Wl_guard rfl ?_; refine Wl_eql rfl rfl rfl ?_) | refine Wl_guard_no rfl rfl rfl ?_ | refine Wl_guard_un rfl rfl ?_)))) <;> ((first | refine Wl_pick_t rfl rfl (by (repeat (first | exact Ev.here | exact Ev.const | exact Ev.arg rfl | apply Ev.there rfl | exact Ev.none rfl | exact Ev.func | exact Ev.var)); (first | done | fail)) ?_ | refine Wl_pick_f rfl rfl (by (repeat (first | exact Ev.here | exact Ev.const | exact Ev.arg rfl | apply Ev.there rfl | exact Ev.none rfl | exact Ev.func | exact Ev.var)); (first | done | fail)) ?_ | refine Wl_pick rfl rfl rfl ?_); (refine Wl_nil (hK _ _ ?_); clear hK K))))
    | (refine Wc_region (id := 2) ?_; intro K hK; refine Wl_move rfl (by (repeat (first | exact Ev.here | exact Ev.const | exact Ev.arg rfl | apply Ev.there rfl | exact Ev.none rfl | exact Ev.func | exact Ev.var)); (first | done | fail)) ?_; refine Wl_makeFunc rfl (by (repeat (first | exact EvL.nil | apply EvL.cons (by (repeat (first | exact Ev.here | exact Ev.const | exact Ev.arg rfl | apply Ev.there rfl | exact Ev.none rfl | exact Ev.func | exact Ev.var)); (first | done | fail)))); (first | done | fail)) (by (repeat (first | exact EvL.nil | apply EvL.cons (by (repeat (first | exact Ev.here | exact Ev.const | exact Ev.arg rfl | apply Ev.there rfl | exact Ev.none rfl | exact Ev.func | exact Ev.var)); (first | done | fail)))); (first | done | fail)) ?_; refine Wl_assign rfl (by (repeat (first | exact Ev.here | exact Ev.const | exact Ev.arg rfl | apply Ev.there rfl | exact Ev.none rfl | exact Ev.func | exact Ev.var)); (first | done | fail)) ?_; (refine Wl_nil (hK _ _ ?_); clear hK K))
    | (refine Wc_region (id := 3) ?_; intro K hK; refine Wl_move rfl (by (repeat (first | exact Ev.here | exact Ev.const | exact Ev.arg rfl | apply Ev.there rfl | exact Ev.none rfl | exact Ev.func | exact Ev.var)); (first | done | fail)) ?_; refine Wl_move rfl (by (repeat (first | exact Ev.here | exact Ev.const | exact Ev.arg rfl | apply Ev.there rfl | exact Ev.none rfl | exact Ev.func | exact Ev.var)); (first | done | fail)) ?_; refine Wl_nilCheck rfl rfl ?_; refine Wl_fieldAddr rfl rfl rfl ?_; refine Wl_load (by decide) rfl rfl (by (repeat (first | exact Rd.head | exact Rd.base (by assumption) | apply Rd.tail)); (first | done | fail)) rfl ?_; refine Wl_neq rfl rfl rfl ?_; refine Wl_move rfl (by (repeat (first | exact Ev.here | exact Ev.const | exact Ev.arg rfl | apply Ev.there rfl | exact Ev.none rfl | exact Ev.func | exact Ev.var)); (first | done | fail)) ?_; ((first | (refine Wl_guard rfl ?_; refine Wl_move rfl (by (repeat (first | exact Ev.here | exact Ev.const | exact Ev.arg rfl | apply Ev.there rfl | exact Ev.none rfl | exact Ev.func | exact Ev.var)); (first | done | fail)) ?_) | refine Wl_guard_no rfl rfl rfl ?_ | refine Wl_guard_un rfl rfl ?_ | ((refine Wl_split rfl rfl (fun ht => ?_) (fun ht => ?_) <;> (try simp at ht) <;> (try (exfalso; omega))) <;> (first | (refine Wl_guard rfl ?_; refine Wl_move rfl (by (repeat (first | exact Ev.here | exact Ev.const | exact Ev.arg rfl | apply Ev.there rfl | exact Ev.none rfl | exact Ev.func | exact Ev.var)); (first | done | fail)) ?_) | refine Wl_guard_no rfl rfl rfl ?_ | refine Wl_guard_un rfl rfl ?_)))) <;> (((first | (refine Wl_guard rfl ?_; refine Wl_lss rfl rfl rfl ?_) | refine Wl_guard_no rfl rfl rfl ?_ | refine Wl_guard_un rfl rfl ?_ | ((refine Wl_split rfl rfl (fun ht => ?_) (fun ht => ?_) <;> (try simp at ht) <;> (try (exfalso; omega))) <;> (first | (refine Wl_guard rfl ?_; refine Wl_lss rfl rfl rfl ?_) | refine Wl_guard_no rfl rfl rfl ?_ | refine Wl_guard_un rfl rfl ?_)))) <;> ((first | refine Wl_pick_t rfl rfl (by (repeat (first | exact Ev.here | exact Ev.const | exact Ev.arg rfl | apply Ev.there rfl | exact Ev.none rfl | exact Ev.func | exact Ev.var)); (first | done | fail)) ?_ | refine Wl_pick_f rfl rfl (by (repeat (first | exact Ev.here | exact Ev.const | exact Ev.arg rfl | apply Ev.there rfl | exact Ev.none rfl | exact Ev.func | exact Ev.var)); (first | done | fail)) ?_ | refine Wl_pick rfl rfl rfl ?_); refine Wl_move rfl (by (repeat (first | exact Ev.here | exact Ev.const | exact Ev.arg rfl | apply Ev.there rfl | exact Ev.none rfl | exact Ev.func | exact Ev.var)); (first | done | fail)) ?_; ((first | (refine Wl_guard rfl ?_; refine Wl_move rfl (by (repeat (first | exact Ev.here | exact Ev.const | exact Ev.arg rfl | apply Ev.there rfl | exact Ev.none rfl | exact Ev.func | exact Ev.var)); (first | done | fail)) ?_) | refine Wl_guard_no rfl rfl rfl ?_ | refine Wl_guard_un rfl rfl ?_ | ((refine Wl_split rfl rfl (fun ht => ?_) (fun ht => ?_) <;> (try simp at ht) <;> (try (exfalso; omega))) <;> (first | (refine Wl_guard rfl ?_; refine Wl_move rfl (by (repeat (first | exact Ev.here | exact Ev.const | exact Ev.arg rfl | apply Ev.there rfl | exact Ev.none rfl | exact Ev.func | exact Ev.var)); (first | done | fail)) ?_) | refine Wl_guard_no rfl rfl rfl ?_ | refine Wl_guard_un rfl rfl ?_)))) <;> (((first | (refine Wl_guard rfl ?_; refine Wl_gtr rfl rfl rfl ?_) | refine Wl_guard_no rfl rfl rfl ?_ | refine Wl_guard_un rfl rfl ?_ | ((refine Wl_split rfl rfl (fun ht => ?_) (fun ht => ?_) <;> (try simp at ht) <;> (try (exfalso; omega))) <;> (first | (refine Wl_guard rfl ?_; refine Wl_gtr rfl rfl rfl ?_) | refine Wl_guard_no rfl rfl rfl ?_ | refine Wl_guard_un rfl rfl ?_)))) <;> ((first | refine Wl_pick_t rfl rfl (by (repeat (first | exact Ev.here | exact Ev.const | exact Ev.arg rfl | apply Ev.there rfl | exact Ev.none rfl | exact Ev.func | exact Ev.var)); (first | done | fail)) ?_ | refine Wl_pick_f rfl rfl (by (repeat (first | exact Ev.here | exact Ev.const | exact Ev.arg rfl | apply Ev.there rfl | exact Ev.none rfl | exact Ev.func | exact Ev.var)); (first | done | fail)) ?_ | refine Wl_pick rfl rfl rfl ?_); (refine Wl_nil (hK _ _ ?_); clear hK K))))))
    | (refine Wc_region (id := 4) ?_; intro K hK; refine Wl_assign rfl (by (repeat (first | exact Ev.here | exact Ev.const | exact Ev.arg rfl | apply Ev.there rfl | exact Ev.none rfl | exact Ev.func | exact Ev.var)); (first | done | fail)) ?_; (refine Wl_nil (hK _ _ ?_); clear hK K))
    | (refine Wc_region (id := 5) ?_; intro K hK; refine Wl_move rfl (by (repeat (first | exact Ev.here | exact Ev.const | exact Ev.arg rfl | apply Ev.there rfl | exact Ev.none rfl | exact Ev.func | exact Ev.var)); (first | done | fail)) ?_; refine Wl_makeFunc rfl (by (repeat (first | exact EvL.nil | apply EvL.cons (by (repeat (first | exact Ev.here | exact Ev.const | exact Ev.arg rfl | apply Ev.there rfl | exact Ev.none rfl | exact Ev.func | exact Ev.var)); (first | done | fail)))); (first | done | fail)) (by (repeat (first | exact EvL.nil | apply EvL.cons (by (repeat (first | exact Ev.here | exact Ev.const | exact Ev.arg rfl | apply Ev.there rfl | exact Ev.none rfl | exact Ev.func | exact Ev.var)); (first | done | fail)))); (first | done | fail)) ?_; refine Wl_move rfl (by (repeat (first | exact Ev.here | exact Ev.const | exact Ev.arg rfl | apply Ev.there rfl | exact Ev.none rfl | exact Ev.func | exact Ev.var)); (first | done | fail)) ?_; refine Wl_makeFunc rfl (by (repeat (first | exact EvL.nil | apply EvL.cons (by (repeat (first | exact Ev.here | exact Ev.const | exact Ev.arg rfl | apply Ev.there rfl | exact Ev.none rfl | exact Ev.func | exact Ev.var)); (first | done | fail)))); (first | done | fail)) (by (repeat (first | exact EvL.nil | apply EvL.cons (by (repeat (first | exact Ev.here | exact Ev.const | exact Ev.arg rfl | apply Ev.there rfl | exact Ev.none rfl | exact Ev.func | exact Ev.var)); (first | done | fail)))); (first | done | fail)) ?_; refine Wl_move rfl (by (repeat (first | exact Ev.here | exact Ev.const | exact Ev.arg rfl | apply Ev.there rfl | exact Ev.none rfl | exact Ev.func | exact Ev.var)); (first | done | fail)) ?_; refine Wl_makeFunc rfl (by (repeat (first | exact EvL.nil | apply EvL.cons (by (repeat (first | exact Ev.here | exact Ev.const | exact Ev.arg rfl | apply Ev.there rfl | exact Ev.none rfl | exact Ev.func | exact Ev.var)); (first | done | fail)))); (first | done | fail)) (by (repeat (first | exact EvL.nil | apply EvL.cons (by (repeat (first | exact Ev.here | exact Ev.const | exact Ev.arg rfl | apply Ev.there rfl | exact Ev.none rfl | exact Ev.func | exact Ev.var)); (first | done | fail)))); (first | done | fail)) ?_; refine Wl_move rfl (by (repeat (first | exact Ev.here | exact Ev.const | exact Ev.arg rfl | apply Ev.there rfl | exact Ev.none rfl | exact Ev.func | exact Ev.var)); (first | done | fail)) ?_; refine Wl_makeFunc rfl (by (repeat (first | exact EvL.nil | apply EvL.cons (by (repeat (first | exact Ev.here | exact Ev.const | exact Ev.arg rfl | apply Ev.there rfl | exact Ev.none rfl | exact Ev.func | exact Ev.var)); (first | done | fail)))); (first | done | fail)) (by (repeat (first | exact EvL.nil | apply EvL.cons (by (repeat (first | exact Ev.here | exact Ev.const | exact Ev.arg rfl | apply Ev.there rfl | exact Ev.none rfl | exact Ev.func | exact Ev.var)); (first | done | fail)))); (first | done | fail)) ?_; refine Wl_move rfl (by (repeat (first | exact Ev.here | exact Ev.const | exact Ev.arg rfl | apply Ev.there rfl | exact Ev.none rfl | exact Ev.func | exact Ev.var)); (first | done | fail)) ?_; refine Wl_makeFunc rfl (by (repeat (first | exact EvL.nil | apply EvL.cons (by (repeat (first | exact Ev.here | exact Ev.const | exact Ev.arg rfl | apply Ev.there rfl | exact Ev.none rfl | exact Ev.func | exact Ev.var)); (first | done | fail)))); (first | done | fail)) (by (repeat (first | exact EvL.nil | apply EvL.cons (by (repeat (first | exact Ev.here | exact Ev.const | exact Ev.arg rfl | apply Ev.there rfl | exact Ev.none rfl | exact Ev.func | exact Ev.var)); (first | done | fail)))); (first | done | fail)) ?_; refine Wl_move rfl (by (repeat (first | exact Ev.here | exact Ev.const | exact Ev.arg rfl | apply Ev.there rfl | exact Ev.none rfl | exact Ev.func | exact Ev.var)); (first | done | fail)) ?_; refine Wl_makeFunc rfl (by (repeat (first | exact EvL.nil | apply EvL.cons (by (repeat (first | exact Ev.here | exact Ev.const | exact Ev.arg rfl | apply Ev.there rfl | exact Ev.none rfl | exact Ev.func | exact Ev.var)); (first | done | fail)))); (first | done | fail)) (by (repeat (first | exact EvL.nil | apply EvL.cons (by (repeat (first | exact Ev.here | exact Ev.const | exact Ev.arg rfl | apply Ev.there rfl | exact Ev.none rfl | exact Ev.func | exact Ev.var)); (first | done | fail)))); (first | done | fail)) ?_; refine Wl_move rfl (by (repeat (first | exact Ev.here | exact Ev.const | exact Ev.arg rfl | apply Ev.there rfl | exact Ev.none rfl | exact Ev.func | exact Ev.var)); (first | done | fail)) ?_; refine Wl_makeFunc rfl (by (repeat (first | exact EvL.nil | apply EvL.cons (by (repeat (first | exact Ev.here | exact Ev.const | exact Ev.arg rfl | apply Ev.there rfl | exact Ev.none rfl | exact Ev.func | exact Ev.var)); (first | done | fail)))); (first | done | fail)) (by (repeat (first | exact EvL.nil | apply EvL.cons (by (repeat (first | exact Ev.here | exact Ev.const | exact Ev.arg rfl | apply Ev.there rfl | exact Ev.none rfl | exact Ev.func | exact Ev.var)); (first | done | fail)))); (first | done | fail)) ?_; (refine Wl_lits rfl rfl (by (repeat (first | exact EvL.nil | apply EvL.cons (by (repeat (first | exact Ev.here | exact Ev.const | exact Ev.arg rfl | apply Ev.there rfl | exact Ev.none rfl | exact Ev.func | exact Ev.var)); (first | done | fail)))); (first | done | fail)) (by first | rfl | assumption | (simp only [List.all_cons, List.all_nil, Bool.and_eq_true, Bool.and_true, cInt, cBool, cStr, cPtr, cSl, cByte, true_and, and_true] at *; first | done | assumption | simp only [*, and_self]) | simp [isCell, byteV]) (by omega) ?_; intro r); refine Wl_move rfl (by (repeat (first | exact Ev.here | exact Ev.const | exact Ev.arg rfl | apply Ev.there rfl | exact Ev.none rfl | exact Ev.func | exact Ev.var)); (first | done | fail)) ?_; refine Wl_sub rfl rfl rfl (by first | exact fits_i64 (by omega) | exact fits_u8 (by omega) | exact fits_u64 (by omega) | exact fits_u32 (by omega)) ?_; refine Wl_index_sl rfl rfl rfl (by omega) (by omega) ?_; (((rcases (by omega : what = 1 ∨ what = 2 ∨ what = 3 ∨ what = 4 ∨ what = 5 ∨ what = 6 ∨ what = 7) with h | h | h | h | h | h | h) <;> (subst h; refine Wl_load (by decide) rfl rfl (by (repeat (first | exact Rd.head | exact Rd.base (by assumption) | apply Rd.tail)); (first | done | fail)) rfl ?_))) <;> (refine Wl_assign rfl (by (repeat (first | exact Ev.here | exact Ev.const | exact Ev.arg rfl | apply Ev.there rfl | exact Ev.none rfl | exact Ev.func | exact Ev.var)); (first | done | fail)) ?_; (refine Wl_nil (hK _ _ ?_); clear hK K)))
    | (refine Wc_cond rfl (fun ht => ?_) (fun ht => ?_) <;> (try simp at ht) <;> (try (exfalso; omega))))
  all_goals
    refine ⟨Or.inr rfl, _, [cb p _ _], (by (repeat (first | exact Ent.refl _ | exact Ent.nil | refine Ent.take (by (repeat (first | exact Out.head | apply Out.tail)); (first | done | fail)) ?_ | refine Ent.drop1 ?_))), res1 rfl rfl, rfl, ?_⟩
    first
    | exact .inl ⟨by omega, by omega, rfl⟩
    | exact .inr (.inl ⟨by omega, by omega, rfl⟩)
    | exact .inr (.inr (.inl ⟨by omega, by omega, rfl⟩))
    | exact .inr (.inr (.inr (.inl ⟨by omega, by omega, rfl⟩)))
    | exact .inr (.inr (.inr (.inr (.inl ⟨by omega, by omega, rfl⟩))))
    | exact .inr (.inr (.inr (.inr (.inr (.inl ⟨by omega, by omega, rfl⟩)))))
    | exact .inr (.inr (.inr (.inr (.inr (.inr (.inl ⟨by omega, by omega, rfl⟩))))))
    | exact .inr (.inr (.inr (.inr (.inr (.inr (.inr ⟨by omega, by omega, rfl⟩))))))
end specs
section specs
variable (B : Base)
theorem give25_spec (p : Nat) (o : OX) (e : EX) (ho : o.ok) :
    Fspec Try.prog B 33 #[.pointer (some ⟨p, 0, none⟩), .agg e.c.toArray] [OpP p o] (fun v A' => v = .bool (o.give e).1 ∧ A' = [OpP p (o.give e).2]) := by
  refine spec_of (args := [_, _]) Try.func33 rfl rfl rfl ?_
  refine Wc_exN (fun q => ?_)
  have hot := ho.ticks
  cases hm : o.missed with
  | none =>
    simp only [OpL, hm, OX.c, EX.c]
    simp only [List.cons_append, List.nil_append]
    repeat' (first
      | refine Wc_seq ?_
      | refine thenQ_normal ?_
      | refine Wc_cond_t rfl ?_
      | refine Wc_cond_f rfl ?_
      | refine Wc_ret ?_
      | refine thenQ_ret ?_
      | refine Wc_block ?_
      | refine blkQ_normal ?_
      | refine blkQ_ret ?_
      | refine Wc_exit ?_
      | refine thenQ_exit ?_
      | refine blkQ_hit ?_
      | refine blkQ_miss rfl ?_
      | refine Wc_skip ?_
      | refine Wc_label ?_
      | refine loopQ_exit ?_
      | refine loopQ_ret ?_
      | refine loopQ_normal ?_
      | (refine Wc_region (id := 0) ?_; intro K hK; (refine Wl_boxAgg rfl (by (repeat (first | exact Ev.here | exact Ev.const | exact Ev.arg rfl | apply Ev.there rfl | exact Ev.none rfl | exact Ev.func | exact Ev.var)); (first | done | fail)) ?_; intro r); refine Wl_assign rfl (by (repeat (first | exact Ev.here | exact Ev.const | exact Ev.arg rfl | apply Ev.there rfl | exact Ev.none rfl | exact Ev.func | exact Ev.var)); (first | done | fail)) ?_; (refine Wl_nil (hK _ _ ?_); clear hK K))
      | (refine Wc_region (id := 1) ?_; intro K hK; refine Wl_move rfl (by (repeat (first | exact Ev.here | exact Ev.const | exact Ev.arg rfl | apply Ev.there rfl | exact Ev.none rfl | exact Ev.func | exact Ev.var)); (first | done | fail)) ?_; refine Wl_ptr_eq_nil rfl rfl rfl ?_; (refine Wl_nil (hK _ _ ?_); clear hK K))
      | (refine Wc_region (id := 2) ?_; intro K hK; refine Wl_assign rfl (by (repeat (first | exact Ev.here | exact Ev.const | exact Ev.arg rfl | apply Ev.there rfl | exact Ev.none rfl | exact Ev.func | exact Ev.var)); (first | done | fail)) ?_; (refine Wl_nil (hK _ _ ?_); clear hK K))
      | (refine Wc_region (id := 3) ?_; intro K hK; refine Wl_move rfl (by (repeat (first | exact Ev.here | exact Ev.const | exact Ev.arg rfl | apply Ev.there rfl | exact Ev.none rfl | exact Ev.func | exact Ev.var)); (first | done | fail)) ?_; refine Wl_fieldAddr rfl rfl rfl ?_; refine Wl_load (by decide) rfl rfl (by (repeat (first | exact Rd.head | exact Rd.base (by assumption) | apply Rd.tail)); (first | done | fail)) rfl ?_; ((refine Wl_call rfl (by (repeat (first | exact EvL.nil | apply EvL.cons (by (repeat (first | exact Ev.here | exact Ev.const | exact Ev.arg rfl | apply Ev.there rfl | exact Ev.none rfl | exact Ev.func | exact Ev.var)); (first | done | fail)))); (first | done | fail)) (awaits25_spec B) (by (repeat (first | exact Pick.nil | apply Pick.cons (by (repeat (first | exact Out.head | apply Out.tail)); (first | done | fail)))); (first | done | fail)) ?_; (rintro v A' ⟨rfl, ⟨h1, h2, rfl⟩ | ⟨h0, h1, rfl⟩ | ⟨h1, h2, rfl⟩ | ⟨h1, h2, rfl⟩ | ⟨h1, h2, rfl⟩ | ⟨h1, h2, rfl⟩ | ⟨h1, h2, rfl⟩ | ⟨h1, h2, rfl⟩⟩ <;> (try simp only [List.cons_append, List.nil_append])))) <;> (refine Wl_assign rfl (by (repeat (first | exact Ev.here | exact Ev.const | exact Ev.arg rfl | apply Ev.there rfl | exact Ev.none rfl | exact Ev.func | exact Ev.var)); (first | done | fail)) ?_; (refine Wl_nil (hK _ _ ?_); clear hK K)))
      | (refine Wc_region (id := 4) ?_; intro K hK; refine Wl_move rfl (by (repeat (first | exact Ev.here | exact Ev.const | exact Ev.arg rfl | apply Ev.there rfl | exact Ev.none rfl | exact Ev.func | exact Ev.var)); (first | done | fail)) ?_; refine Wl_fn_eq_nil rfl rfl rfl rfl ?_; (refine Wl_nil (hK _ _ ?_); clear hK K))
      | (refine Wc_region (id := 5) ?_; intro K hK; refine Wl_assign rfl (by (repeat (first | exact Ev.here | exact Ev.const | exact Ev.arg rfl | apply Ev.there rfl | exact Ev.none rfl | exact Ev.func | exact Ev.var)); (first | done | fail)) ?_; (refine Wl_nil (hK _ _ ?_); clear hK K))
      | (refine Wc_region (id := 6) ?_; intro K hK; refine Wl_move rfl (by (repeat (first | exact Ev.here | exact Ev.const | exact Ev.arg rfl | apply Ev.there rfl | exact Ev.none rfl | exact Ev.func | exact Ev.var)); (first | done | fail)) ?_; refine Wl_loadR (by decide) rfl rfl (by (repeat (first | exact Rd.head | exact Rd.base (by assumption) | apply Rd.tail)); (first | done | fail)) (by (repeat (first | exact TakeR.nil | apply TakeR.take | apply TakeR.skip)); (first | done | fail)) ?_; ((first | (refine Wl_callB (f := 50) rfl rfl (by (repeat (first | exact EvL.nil | apply EvL.cons (by (repeat (first | exact Ev.here | exact Ev.const | exact Ev.arg rfl | apply Ev.there rfl | exact Ev.none rfl | exact Ev.func | exact Ev.var)); (first | done | fail)))); (first | done | fail)) (tick25_spec B (t := o.ticks) (by omega)) (by (repeat (first | exact Pick.nil | apply Pick.cons (by (repeat (first | exact Out.head | apply Out.tail)); (first | done | fail)))); (first | done | fail)) ?_; (rintro v A' ⟨rfl, ⟨hx1, rfl⟩ | ⟨hx1, rfl⟩⟩ <;> (try simp only [List.cons_append, List.nil_append]))) | (refine Wl_callB (f := 51) rfl rfl (by (repeat (first | exact EvL.nil | apply EvL.cons (by (repeat (first | exact Ev.here | exact Ev.const | exact Ev.arg rfl | apply Ev.there rfl | exact Ev.none rfl | exact Ev.func | exact Ev.var)); (first | done | fail)))); (first | done | fail)) (cached25_spec B (by first | rfl | assumption | (simp only [List.all_cons, List.all_nil, Bool.and_eq_true, Bool.and_true, cInt, cBool, cStr, cPtr, cSl, cByte, true_and, and_true] at *; first | done | assumption | simp only [*, and_self]) | simp [isCell, byteV]) (by first | rfl | assumption | (simp only [List.all_cons, List.all_nil, Bool.and_eq_true, Bool.and_true, cInt, cBool, cStr, cPtr, cSl, cByte, true_and, and_true] at *; first | done | assumption | simp only [*, and_self]) | simp [isCell, byteV])) (by (repeat (first | exact Pick.nil | apply Pick.cons (by (repeat (first | exact Out.head | apply Out.tail)); (first | done | fail)))); (first | done | fail)) ?_; (rintro v A' ⟨rfl, ⟨hx1, hx2, rfl⟩ | ⟨⟨hx1, hx2⟩ | ⟨hx1, hx2⟩, rfl⟩ | ⟨hx1, rfl⟩ | ⟨hx1, q2, rfl⟩⟩ <;> (try simp only [List.cons_append, List.nil_append]))) | (refine Wl_callB (f := 52) rfl rfl (by (repeat (first | exact EvL.nil | apply EvL.cons (by (repeat (first | exact Ev.here | exact Ev.const | exact Ev.arg rfl | apply Ev.there rfl | exact Ev.none rfl | exact Ev.func | exact Ev.var)); (first | done | fail)))); (first | done | fail)) (stored25_spec B (by first | rfl | assumption | (simp only [List.all_cons, List.all_nil, Bool.and_eq_true, Bool.and_true, cInt, cBool, cStr, cPtr, cSl, cByte, true_and, and_true] at *; first | done | assumption | simp only [*, and_self]) | simp [isCell, byteV])) (by (repeat (first | exact Pick.nil | apply Pick.cons (by (repeat (first | exact Out.head | apply Out.tail)); (first | done | fail)))); (first | done | fail)) ?_; (rintro v A' ⟨rfl, ⟨hx1, rfl⟩ | ⟨hx1, hx2, rfl⟩ | ⟨hx1, hx2, rfl⟩⟩ <;> (try simp only [List.cons_append, List.nil_append]))) | (refine Wl_callB (f := 53) rfl rfl (by (repeat (first | exact EvL.nil | apply EvL.cons (by (repeat (first | exact Ev.here | exact Ev.const | exact Ev.arg rfl | apply Ev.there rfl | exact Ev.none rfl | exact Ev.func | exact Ev.var)); (first | done | fail)))); (first | done | fail)) (ends25_spec B) (by (repeat (first | exact Pick.nil | apply Pick.cons (by (repeat (first | exact Out.head | apply Out.tail)); (first | done | fail)))); (first | done | fail)) ?_; rintro v A' ⟨rfl, rfl⟩; simp only [List.cons_append, List.nil_append]) | (refine Wl_callB (f := 54) rfl rfl (by (repeat (first | exact EvL.nil | apply EvL.cons (by (repeat (first | exact Ev.here | exact Ev.const | exact Ev.arg rfl | apply Ev.there rfl | exact Ev.none rfl | exact Ev.func | exact Ev.var)); (first | done | fail)))); (first | done | fail)) (marked25_spec B) (by (repeat (first | exact Pick.nil | apply Pick.cons (by (repeat (first | exact Out.head | apply Out.tail)); (first | done | fail)))); (first | done | fail)) ?_; (rintro v A' ⟨rfl, ⟨hx1, rfl⟩ | ⟨hx1, rfl⟩⟩ <;> (try simp only [List.cons_append, List.nil_append]))) | (refine Wl_callB (f := 55) rfl rfl (by (repeat (first | exact EvL.nil | apply EvL.cons (by (repeat (first | exact Ev.here | exact Ev.const | exact Ev.arg rfl | apply Ev.there rfl | exact Ev.none rfl | exact Ev.func | exact Ev.var)); (first | done | fail)))); (first | done | fail)) (waits25_spec B) (by (repeat (first | exact Pick.nil | apply Pick.cons (by (repeat (first | exact Out.head | apply Out.tail)); (first | done | fail)))); (first | done | fail)) ?_; rintro v A' ⟨rfl, rfl⟩; simp only [List.cons_append, List.nil_append]) | (refine Wl_callB (f := 56) rfl rfl (by (repeat (first | exact EvL.nil | apply EvL.cons (by (repeat (first | exact Ev.here | exact Ev.const | exact Ev.arg rfl | apply Ev.there rfl | exact Ev.none rfl | exact Ev.func | exact Ev.var)); (first | done | fail)))); (first | done | fail)) (reply25_spec B (by first | rfl | assumption | (simp only [List.all_cons, List.all_nil, Bool.and_eq_true, Bool.and_true, cInt, cBool, cStr, cPtr, cSl, cByte, true_and, and_true] at *; first | done | assumption | simp only [*, and_self]) | simp [isCell, byteV])) (by (repeat (first | exact Pick.nil | apply Pick.cons (by (repeat (first | exact Out.head | apply Out.tail)); (first | done | fail)))); (first | done | fail)) ?_; (rintro v A' ⟨rfl, ⟨hx1, hx2, rfl⟩ | ⟨hx1, hx2, rfl⟩ | ⟨⟨hx1, hx2, hx3⟩ | ⟨hx1, hx2⟩, rfl⟩ | ⟨hx1, hx2, rfl⟩ | ⟨hx1, hx2, hx3, rfl⟩⟩ <;> (try simp only [List.cons_append, List.nil_append]))))) <;> ((refine Wl_nil (hK _ _ ?_); clear hK K)))
      | (refine Wc_region (id := 7) ?_; intro K hK; refine Wl_assign rfl (by (repeat (first | exact Ev.here | exact Ev.const | exact Ev.arg rfl | apply Ev.there rfl | exact Ev.none rfl | exact Ev.func | exact Ev.var)); (first | done | fail)) ?_; (refine Wl_nil (hK _ _ ?_); clear hK K))
      | (refine Wc_cond rfl (fun ht => ?_) (fun ht => ?_) <;> (try simp at ht) <;> (try (exfalso; omega))))
    · exact ⟨Or.inr rfl, _, [OpP p _], gv_close0 (gv_then (gv_tick h1 h2) (tick_1 hx1)) hm (by (repeat (first | exact Ent.refl _ | exact Ent.nil | refine Ent.take (by (repeat (first | exact Out.head | apply Out.tail)); (first | done | fail)) ?_ | refine Ent.drop1 ?_))), res1 rfl rfl, gv_val (gv_then (gv_tick h1 h2) (tick_1 hx1)), rfl⟩
    · exact ⟨Or.inr rfl, _, [OpP p _], gv_close0 (gv_then (gv_tick h1 h2) (tick_2 hx1)) hm (by (repeat (first | exact Ent.refl _ | exact Ent.nil | refine Ent.take (by (repeat (first | exact Out.head | apply Out.tail)); (first | done | fail)) ?_ | refine Ent.drop1 ?_))), res1 rfl rfl, gv_val (gv_then (gv_tick h1 h2) (tick_2 hx1)), rfl⟩
    · exact ⟨Or.inr rfl, _, [OpP p _], gv_close0 (gv_no h0 h1) hm (by (repeat (first | exact Ent.refl _ | exact Ent.nil | refine Ent.take (by (repeat (first | exact Out.head | apply Out.tail)); (first | done | fail)) ?_ | refine Ent.drop1 ?_))), res1 rfl rfl, gv_val (gv_no h0 h1), rfl⟩
    · exact ⟨Or.inr rfl, _, [OpP p _], gv_close0 (gv_then (gv_1 h1 h2) (cached_1 hx1 hx2)) hm (by (repeat (first | exact Ent.refl _ | exact Ent.nil | refine Ent.take (by (repeat (first | exact Out.head | apply Out.tail)); (first | done | fail)) ?_ | refine Ent.drop1 ?_))), res1 rfl rfl, gv_val (gv_then (gv_1 h1 h2) (cached_1 hx1 hx2)), rfl⟩
    · exact ⟨Or.inr rfl, _, [OpP p _], gv_close0 (gv_then (gv_1 h1 h2) (cached_2 hx1 hx2)) hm (by (repeat (first | exact Ent.refl _ | exact Ent.nil | refine Ent.take (by (repeat (first | exact Out.head | apply Out.tail)); (first | done | fail)) ?_ | refine Ent.drop1 ?_))), res1 rfl rfl, gv_val (gv_then (gv_1 h1 h2) (cached_2 hx1 hx2)), rfl⟩
    · exact ⟨Or.inr rfl, _, [OpP p _], gv_close0 (gv_then (gv_1 h1 h2) (cached_3 hx1 hx2)) hm (by (repeat (first | exact Ent.refl _ | exact Ent.nil | refine Ent.take (by (repeat (first | exact Out.head | apply Out.tail)); (first | done | fail)) ?_ | refine Ent.drop1 ?_))), res1 rfl rfl, gv_val (gv_then (gv_1 h1 h2) (cached_3 hx1 hx2)), rfl⟩
    · exact ⟨Or.inr rfl, _, [OpP p _], gv_close0 (gv_then (gv_1 h1 h2) (cached_4 hx1)) hm (by (repeat (first | exact Ent.refl _ | exact Ent.nil | refine Ent.take (by (repeat (first | exact Out.head | apply Out.tail)); (first | done | fail)) ?_ | refine Ent.drop1 ?_))), res1 rfl rfl, gv_val (gv_then (gv_1 h1 h2) (cached_4 hx1)), rfl⟩
    · exact ⟨Or.inr rfl, _, [OpP p _], gv_close1 (q := q2) (gv_then (gv_1 h1 h2) (cached_5 hx1)) rfl (by (repeat (first | exact Ent.refl _ | exact Ent.nil | refine Ent.take (by (repeat (first | exact Out.head | apply Out.tail)); (first | done | fail)) ?_ | refine Ent.drop1 ?_))), res1 rfl rfl, gv_val (gv_then (gv_1 h1 h2) (cached_5 hx1)), rfl⟩
    · exact ⟨Or.inr rfl, _, [OpP p _], gv_close0 (gv_then (gv_2 h1 h2) (stored_1 hx1)) hm (by (repeat (first | exact Ent.refl _ | exact Ent.nil | refine Ent.take (by (repeat (first | exact Out.head | apply Out.tail)); (first | done | fail)) ?_ | refine Ent.drop1 ?_))), res1 rfl rfl, gv_val (gv_then (gv_2 h1 h2) (stored_1 hx1)), rfl⟩
    · exact ⟨Or.inr rfl, _, [OpP p _], gv_close0 (gv_then (gv_2 h1 h2) ((stored_2 hx1 hx2).trans (found_0 hm))) hm (by (repeat (first | exact Ent.refl _ | exact Ent.nil | refine Ent.take (by (repeat (first | exact Out.head | apply Out.tail)); (first | done | fail)) ?_ | refine Ent.drop1 ?_))), res1 rfl rfl, gv_val (gv_then (gv_2 h1 h2) ((stored_2 hx1 hx2).trans (found_0 hm))), rfl⟩
    · exact ⟨Or.inr rfl, _, [OpP p _], gv_close0 (gv_then (gv_2 h1 h2) (stored_3 hx1 hx2)) hm (by (repeat (first | exact Ent.refl _ | exact Ent.nil | refine Ent.take (by (repeat (first | exact Out.head | apply Out.tail)); (first | done | fail)) ?_ | refine Ent.drop1 ?_))), res1 rfl rfl, gv_val (gv_then (gv_2 h1 h2) (stored_3 hx1 hx2)), rfl⟩
    · exact ⟨Or.inr rfl, _, [OpP p _], gv_close0 (gv_35 h1 h2) hm (by (repeat (first | exact Ent.refl _ | exact Ent.nil | refine Ent.take (by (repeat (first | exact Out.head | apply Out.tail)); (first | done | fail)) ?_ | refine Ent.drop1 ?_))), res1 rfl rfl, gv_val (gv_35 h1 h2), rfl⟩
    · exact ⟨Or.inr rfl, _, [OpP p _], gv_close0 (gv_then (gv_4 h1 h2) (marked_1 hx1)) hm (by (repeat (first | exact Ent.refl _ | exact Ent.nil | refine Ent.take (by (repeat (first | exact Out.head | apply Out.tail)); (first | done | fail)) ?_ | refine Ent.drop1 ?_))), res1 rfl rfl, gv_val (gv_then (gv_4 h1 h2) (marked_1 hx1)), rfl⟩
    · exact ⟨Or.inr rfl, _, [OpP p _], gv_close0 (gv_then (gv_4 h1 h2) (marked_2 hx1)) hm (by (repeat (first | exact Ent.refl _ | exact Ent.nil | refine Ent.take (by (repeat (first | exact Out.head | apply Out.tail)); (first | done | fail)) ?_ | refine Ent.drop1 ?_))), res1 rfl rfl, gv_val (gv_then (gv_4 h1 h2) (marked_2 hx1)), rfl⟩
    · exact ⟨Or.inr rfl, _, [OpP p _], gv_close0 (gv_6 h1 h2) hm (by (repeat (first | exact Ent.refl _ | exact Ent.nil | refine Ent.take (by (repeat (first | exact Out.head | apply Out.tail)); (first | done | fail)) ?_ | refine Ent.drop1 ?_))), res1 rfl rfl, gv_val (gv_6 h1 h2), rfl⟩
    · exact ⟨Or.inr rfl, _, [OpP p _], gv_close0 (gv_then (gv_7 h1 h2) ((reply_1 hx1 hx2).trans (found_0 hm))) hm (by (repeat (first | exact Ent.refl _ | exact Ent.nil | refine Ent.take (by (repeat (first | exact Out.head | apply Out.tail)); (first | done | fail)) ?_ | refine Ent.drop1 ?_))), res1 rfl rfl, gv_val (gv_then (gv_7 h1 h2) ((reply_1 hx1 hx2).trans (found_0 hm))), rfl⟩
    · exact ⟨Or.inr rfl, _, [OpP p _], gv_close0 (gv_then (gv_7 h1 h2) (reply_2 hx1 hx2)) hm (by (repeat (first | exact Ent.refl _ | exact Ent.nil | refine Ent.take (by (repeat (first | exact Out.head | apply Out.tail)); (first | done | fail)) ?_ | refine Ent.drop1 ?_))), res1 rfl rfl, gv_val (gv_then (gv_7 h1 h2) (reply_2 hx1 hx2)), rfl⟩
    · exact ⟨Or.inr rfl, _, [OpP p _], gv_close0 (gv_then (gv_7 h1 h2) (reply_3 hx1 hx2 hx3)) hm (by (repeat (first | exact Ent.refl _ | exact Ent.nil | refine Ent.take (by (repeat (first | exact Out.head | apply Out.tail)); (first | done | fail)) ?_ | refine Ent.drop1 ?_))), res1 rfl rfl, gv_val (gv_then (gv_7 h1 h2) (reply_3 hx1 hx2 hx3)), rfl⟩
    · exact ⟨Or.inr rfl, _, [OpP p _], gv_close0 (gv_then (gv_7 h1 h2) (reply_4 hx1 hx2)) hm (by (repeat (first | exact Ent.refl _ | exact Ent.nil | refine Ent.take (by (repeat (first | exact Out.head | apply Out.tail)); (first | done | fail)) ?_ | refine Ent.drop1 ?_))), res1 rfl rfl, gv_val (gv_then (gv_7 h1 h2) (reply_4 hx1 hx2)), rfl⟩
    · exact ⟨Or.inr rfl, _, [OpP p _], gv_close0 (gv_then (gv_7 h1 h2) (reply_5 hx1 hx2)) hm (by (repeat (first | exact Ent.refl _ | exact Ent.nil | refine Ent.take (by (repeat (first | exact Out.head | apply Out.tail)); (first | done | fail)) ?_ | refine Ent.drop1 ?_))), res1 rfl rfl, gv_val (gv_then (gv_7 h1 h2) (reply_5 hx1 hx2)), rfl⟩
    · exact ⟨Or.inr rfl, _, [OpP p _], gv_close0 (gv_then (gv_7 h1 h2) (reply_6 hx1 hx2 hx3)) hm (by (repeat (first | exact Ent.refl _ | exact Ent.nil | refine Ent.take (by (repeat (first | exact Out.head | apply Out.tail)); (first | done | fail)) ?_ | refine Ent.drop1 ?_))), res1 rfl rfl, gv_val (gv_then (gv_7 h1 h2) (reply_6 hx1 hx2 hx3)), rfl⟩
  | some ma =>
    simp only [OpL, hm, OX.c, EX.c]
    simp only [List.cons_append, List.nil_append]
    repeat' (first
      | refine Wc_seq ?_
      | refine thenQ_normal ?_
      | refine Wc_cond_t rfl ?_
      | refine Wc_cond_f rfl ?_
      | refine Wc_ret ?_
      | refine thenQ_ret ?_
      | refine Wc_block ?_
      | refine blkQ_normal ?_
      | refine blkQ_ret ?_
      | refine Wc_exit ?_
      | refine thenQ_exit ?_
      | refine blkQ_hit ?_
      | refine blkQ_miss rfl ?_
      | refine Wc_skip ?_
      | refine Wc_label ?_
      | refine loopQ_exit ?_
      | refine loopQ_ret ?_
      | refine loopQ_normal ?_
      | (refine Wc_region (id := 0) ?_; intro K hK; (refine Wl_boxAgg rfl (by (repeat (first | exact Ev.here | exact Ev.const | exact Ev.arg rfl | apply Ev.there rfl | exact Ev.none rfl | exact Ev.func | exact Ev.var)); (first | done | fail)) ?_; intro r); refine Wl_assign rfl (by (repeat (first | exact Ev.here | exact Ev.const | exact Ev.arg rfl | apply Ev.there rfl | exact Ev.none rfl | exact Ev.func | exact Ev.var)); (first | done | fail)) ?_; (refine Wl_nil (hK _ _ ?_); clear hK K))
      | (refine Wc_region (id := 1) ?_; intro K hK; refine Wl_move rfl (by (repeat (first | exact Ev.here | exact Ev.const | exact Ev.arg rfl | apply Ev.there rfl | exact Ev.none rfl | exact Ev.func | exact Ev.var)); (first | done | fail)) ?_; refine Wl_ptr_eq_nil rfl rfl rfl ?_; (refine Wl_nil (hK _ _ ?_); clear hK K))
      | (refine Wc_region (id := 2) ?_; intro K hK; refine Wl_assign rfl (by (repeat (first | exact Ev.here | exact Ev.const | exact Ev.arg rfl | apply Ev.there rfl | exact Ev.none rfl | exact Ev.func | exact Ev.var)); (first | done | fail)) ?_; (refine Wl_nil (hK _ _ ?_); clear hK K))
      | (refine Wc_region (id := 3) ?_; intro K hK; refine Wl_move rfl (by (repeat (first | exact Ev.here | exact Ev.const | exact Ev.arg rfl | apply Ev.there rfl | exact Ev.none rfl | exact Ev.func | exact Ev.var)); (first | done | fail)) ?_; refine Wl_fieldAddr rfl rfl rfl ?_; refine Wl_load (by decide) rfl rfl (by (repeat (first | exact Rd.head | exact Rd.base (by assumption) | apply Rd.tail)); (first | done | fail)) rfl ?_; ((refine Wl_call rfl (by (repeat (first | exact EvL.nil | apply EvL.cons (by (repeat (first | exact Ev.here | exact Ev.const | exact Ev.arg rfl | apply Ev.there rfl | exact Ev.none rfl | exact Ev.func | exact Ev.var)); (first | done | fail)))); (first | done | fail)) (awaits25_spec B) (by (repeat (first | exact Pick.nil | apply Pick.cons (by (repeat (first | exact Out.head | apply Out.tail)); (first | done | fail)))); (first | done | fail)) ?_; (rintro v A' ⟨rfl, ⟨h1, h2, rfl⟩ | ⟨h0, h1, rfl⟩ | ⟨h1, h2, rfl⟩ | ⟨h1, h2, rfl⟩ | ⟨h1, h2, rfl⟩ | ⟨h1, h2, rfl⟩ | ⟨h1, h2, rfl⟩ | ⟨h1, h2, rfl⟩⟩ <;> (try simp only [List.cons_append, List.nil_append])))) <;> (refine Wl_assign rfl (by (repeat (first | exact Ev.here | exact Ev.const | exact Ev.arg rfl | apply Ev.there rfl | exact Ev.none rfl | exact Ev.func | exact Ev.var)); (first | done | fail)) ?_; (refine Wl_nil (hK _ _ ?_); clear hK K)))
      | (refine Wc_region (id := 4) ?_; intro K hK; refine Wl_move rfl (by (repeat (first | exact Ev.here | exact Ev.const | exact Ev.arg rfl | apply Ev.there rfl | exact Ev.none rfl | exact Ev.func | exact Ev.var)); (first | done | fail)) ?_; refine Wl_fn_eq_nil rfl rfl rfl rfl ?_; (refine Wl_nil (hK _ _ ?_); clear hK K))
      | (refine Wc_region (id := 5) ?_; intro K hK; refine Wl_assign rfl (by (repeat (first | exact Ev.here | exact Ev.const | exact Ev.arg rfl | apply Ev.there rfl | exact Ev.none rfl | exact Ev.func | exact Ev.var)); (first | done | fail)) ?_; (refine Wl_nil (hK _ _ ?_); clear hK K))
      | (refine Wc_region (id := 6) ?_; intro K hK; refine Wl_move rfl (by (repeat (first | exact Ev.here | exact Ev.const | exact Ev.arg rfl | apply Ev.there rfl | exact Ev.none rfl | exact Ev.func | exact Ev.var)); (first | done | fail)) ?_; refine Wl_loadR (by decide) rfl rfl (by (repeat (first | exact Rd.head | exact Rd.base (by assumption) | apply Rd.tail)); (first | done | fail)) (by (repeat (first | exact TakeR.nil | apply TakeR.take | apply TakeR.skip)); (first | done | fail)) ?_; ((first | (refine Wl_callB (f := 50) rfl rfl (by (repeat (first | exact EvL.nil | apply EvL.cons (by (repeat (first | exact Ev.here | exact Ev.const | exact Ev.arg rfl | apply Ev.there rfl | exact Ev.none rfl | exact Ev.func | exact Ev.var)); (first | done | fail)))); (first | done | fail)) (tick25_spec B (t := o.ticks) (by omega)) (by (repeat (first | exact Pick.nil | apply Pick.cons (by (repeat (first | exact Out.head | apply Out.tail)); (first | done | fail)))); (first | done | fail)) ?_; (rintro v A' ⟨rfl, ⟨hx1, rfl⟩ | ⟨hx1, rfl⟩⟩ <;> (try simp only [List.cons_append, List.nil_append]))) | (refine Wl_callB (f := 51) rfl rfl (by (repeat (first | exact EvL.nil | apply EvL.cons (by (repeat (first | exact Ev.here | exact Ev.const | exact Ev.arg rfl | apply Ev.there rfl | exact Ev.none rfl | exact Ev.func | exact Ev.var)); (first | done | fail)))); (first | done | fail)) (cached25_spec B (by first | rfl | assumption | (simp only [List.all_cons, List.all_nil, Bool.and_eq_true, Bool.and_true, cInt, cBool, cStr, cPtr, cSl, cByte, true_and, and_true] at *; first | done | assumption | simp only [*, and_self]) | simp [isCell, byteV]) (by first | rfl | assumption | (simp only [List.all_cons, List.all_nil, Bool.and_eq_true, Bool.and_true, cInt, cBool, cStr, cPtr, cSl, cByte, true_and, and_true] at *; first | done | assumption | simp only [*, and_self]) | simp [isCell, byteV])) (by (repeat (first | exact Pick.nil | apply Pick.cons (by (repeat (first | exact Out.head | apply Out.tail)); (first | done | fail)))); (first | done | fail)) ?_; (rintro v A' ⟨rfl, ⟨hx1, hx2, rfl⟩ | ⟨⟨hx1, hx2⟩ | ⟨hx1, hx2⟩, rfl⟩ | ⟨hx1, rfl⟩ | ⟨hx1, q2, rfl⟩⟩ <;> (try simp only [List.cons_append, List.nil_append]))) | (refine Wl_callB (f := 52) rfl rfl (by (repeat (first | exact EvL.nil | apply EvL.cons (by (repeat (first | exact Ev.here | exact Ev.const | exact Ev.arg rfl | apply Ev.there rfl | exact Ev.none rfl | exact Ev.func | exact Ev.var)); (first | done | fail)))); (first | done | fail)) (stored25_spec B (by first | rfl | assumption | (simp only [List.all_cons, List.all_nil, Bool.and_eq_true, Bool.and_true, cInt, cBool, cStr, cPtr, cSl, cByte, true_and, and_true] at *; first | done | assumption | simp only [*, and_self]) | simp [isCell, byteV])) (by (repeat (first | exact Pick.nil | apply Pick.cons (by (repeat (first | exact Out.head | apply Out.tail)); (first | done | fail)))); (first | done | fail)) ?_; (rintro v A' ⟨rfl, ⟨hx1, rfl⟩ | ⟨hx1, hx2, rfl⟩ | ⟨hx1, hx2, rfl⟩⟩ <;> (try simp only [List.cons_append, List.nil_append]))) | (refine Wl_callB (f := 53) rfl rfl (by (repeat (first | exact EvL.nil | apply EvL.cons (by (repeat (first | exact Ev.here | exact Ev.const | exact Ev.arg rfl | apply Ev.there rfl | exact Ev.none rfl | exact Ev.func | exact Ev.var)); (first | done | fail)))); (first | done | fail)) (ends25_spec B) (by (repeat (first | exact Pick.nil | apply Pick.cons (by (repeat (first | exact Out.head | apply Out.tail)); (first | done | fail)))); (first | done | fail)) ?_; rintro v A' ⟨rfl, rfl⟩; simp only [List.cons_append, List.nil_append]) | (refine Wl_callB (f := 54) rfl rfl (by (repeat (first | exact EvL.nil | apply EvL.cons (by (repeat (first | exact Ev.here | exact Ev.const | exact Ev.arg rfl | apply Ev.there rfl | exact Ev.none rfl | exact Ev.func | exact Ev.var)); (first | done | fail)))); (first | done | fail)) (marked25_spec B) (by (repeat (first | exact Pick.nil | apply Pick.cons (by (repeat (first | exact Out.head | apply Out.tail)); (first | done | fail)))); (first | done | fail)) ?_; (rintro v A' ⟨rfl, ⟨hx1, rfl⟩ | ⟨hx1, rfl⟩⟩ <;> (try simp only [List.cons_append, List.nil_append]))) | (refine Wl_callB (f := 55) rfl rfl (by (repeat (first | exact EvL.nil | apply EvL.cons (by (repeat (first | exact Ev.here | exact Ev.const | exact Ev.arg rfl | apply Ev.there rfl | exact Ev.none rfl | exact Ev.func | exact Ev.var)); (first | done | fail)))); (first | done | fail)) (waits25_spec B) (by (repeat (first | exact Pick.nil | apply Pick.cons (by (repeat (first | exact Out.head | apply Out.tail)); (first | done | fail)))); (first | done | fail)) ?_; rintro v A' ⟨rfl, rfl⟩; simp only [List.cons_append, List.nil_append]) | (refine Wl_callB (f := 56) rfl rfl (by (repeat (first | exact EvL.nil | apply EvL.cons (by (repeat (first | exact Ev.here | exact Ev.const | exact Ev.arg rfl | apply Ev.there rfl | exact Ev.none rfl | exact Ev.func | exact Ev.var)); (first | done | fail)))); (first | done | fail)) (reply25_spec B (by first | rfl | assumption | (simp only [List.all_cons, List.all_nil, Bool.and_eq_true, Bool.and_true, cInt, cBool, cStr, cPtr, cSl, cByte, true_and, and_true] at *; first | done | assumption | simp only [*, and_self]) | simp [isCell, byteV])) (by (repeat (first | exact Pick.nil | apply Pick.cons (by (repeat (first | exact Out.head | apply Out.tail)); (first | done | fail)))); (first | done | fail)) ?_; (rintro v A' ⟨rfl, ⟨hx1, hx2, rfl⟩ | ⟨hx1, hx2, rfl⟩ | ⟨⟨hx1, hx2, hx3⟩ | ⟨hx1, hx2⟩, rfl⟩ | ⟨hx1, hx2, rfl⟩ | ⟨hx1, hx2, hx3, rfl⟩⟩ <;> (try simp only [List.cons_append, List.nil_append]))))) <;> ((refine Wl_nil (hK _ _ ?_); clear hK K)))
      | (refine Wc_region (id := 7) ?_; intro K hK; refine Wl_assign rfl (by (repeat (first | exact Ev.here | exact Ev.const | exact Ev.arg rfl | apply Ev.there rfl | exact Ev.none rfl | exact Ev.func | exact Ev.var)); (first | done | fail)) ?_; (refine Wl_nil (hK _ _ ?_); clear hK K))
      | (refine Wc_cond rfl (fun ht => ?_) (fun ht => ?_) <;> (try simp at ht) <;> (try (exfalso; omega))))
    · exact ⟨Or.inr rfl, _, [OpP p _], gv_close1 (gv_then (gv_tick h1 h2) (tick_1 hx1)) hm (by (repeat (first | exact Ent.refl _ | exact Ent.nil | refine Ent.take (by (repeat (first | exact Out.head | apply Out.tail)); (first | done | fail)) ?_ | refine Ent.drop1 ?_))), res1 rfl rfl, gv_val (gv_then (gv_tick h1 h2) (tick_1 hx1)), rfl⟩
    · exact ⟨Or.inr rfl, _, [OpP p _], gv_close1 (gv_then (gv_tick h1 h2) (tick_2 hx1)) hm (by (repeat (first | exact Ent.refl _ | exact Ent.nil | refine Ent.take (by (repeat (first | exact Out.head | apply Out.tail)); (first | done | fail)) ?_ | refine Ent.drop1 ?_))), res1 rfl rfl, gv_val (gv_then (gv_tick h1 h2) (tick_2 hx1)), rfl⟩
    · exact ⟨Or.inr rfl, _, [OpP p _], gv_close1 (gv_no h0 h1) hm (by (repeat (first | exact Ent.refl _ | exact Ent.nil | refine Ent.take (by (repeat (first | exact Out.head | apply Out.tail)); (first | done | fail)) ?_ | refine Ent.drop1 ?_))), res1 rfl rfl, gv_val (gv_no h0 h1), rfl⟩
    · exact ⟨Or.inr rfl, _, [OpP p _], gv_close1 (gv_then (gv_1 h1 h2) (cached_1 hx1 hx2)) hm (by (repeat (first | exact Ent.refl _ | exact Ent.nil | refine Ent.take (by (repeat (first | exact Out.head | apply Out.tail)); (first | done | fail)) ?_ | refine Ent.drop1 ?_))), res1 rfl rfl, gv_val (gv_then (gv_1 h1 h2) (cached_1 hx1 hx2)), rfl⟩
    · exact ⟨Or.inr rfl, _, [OpP p _], gv_close1 (gv_then (gv_1 h1 h2) (cached_2 hx1 hx2)) hm (by (repeat (first | exact Ent.refl _ | exact Ent.nil | refine Ent.take (by (repeat (first | exact Out.head | apply Out.tail)); (first | done | fail)) ?_ | refine Ent.drop1 ?_))), res1 rfl rfl, gv_val (gv_then (gv_1 h1 h2) (cached_2 hx1 hx2)), rfl⟩
    · exact ⟨Or.inr rfl, _, [OpP p _], gv_close1 (gv_then (gv_1 h1 h2) (cached_3 hx1 hx2)) hm (by (repeat (first | exact Ent.refl _ | exact Ent.nil | refine Ent.take (by (repeat (first | exact Out.head | apply Out.tail)); (first | done | fail)) ?_ | refine Ent.drop1 ?_))), res1 rfl rfl, gv_val (gv_then (gv_1 h1 h2) (cached_3 hx1 hx2)), rfl⟩
    · exact ⟨Or.inr rfl, _, [OpP p _], gv_close1 (gv_then (gv_1 h1 h2) (cached_4 hx1)) hm (by (repeat (first | exact Ent.refl _ | exact Ent.nil | refine Ent.take (by (repeat (first | exact Out.head | apply Out.tail)); (first | done | fail)) ?_ | refine Ent.drop1 ?_))), res1 rfl rfl, gv_val (gv_then (gv_1 h1 h2) (cached_4 hx1)), rfl⟩
    · exact ⟨Or.inr rfl, _, [OpP p _], gv_close1 (q := q2) (gv_then (gv_1 h1 h2) (cached_5 hx1)) rfl (by (repeat (first | exact Ent.refl _ | exact Ent.nil | refine Ent.take (by (repeat (first | exact Out.head | apply Out.tail)); (first | done | fail)) ?_ | refine Ent.drop1 ?_))), res1 rfl rfl, gv_val (gv_then (gv_1 h1 h2) (cached_5 hx1)), rfl⟩
    · exact ⟨Or.inr rfl, _, [OpP p _], gv_close1 (gv_then (gv_2 h1 h2) (stored_1 hx1)) hm (by (repeat (first | exact Ent.refl _ | exact Ent.nil | refine Ent.take (by (repeat (first | exact Out.head | apply Out.tail)); (first | done | fail)) ?_ | refine Ent.drop1 ?_))), res1 rfl rfl, gv_val (gv_then (gv_2 h1 h2) (stored_1 hx1)), rfl⟩
    · exact ⟨Or.inr rfl, _, [OpP p _], gv_close1 (gv_then (gv_2 h1 h2) ((stored_2 hx1 hx2).trans (found_1 hm))) hm (by (repeat (first | exact Ent.refl _ | exact Ent.nil | refine Ent.take (by (repeat (first | exact Out.head | apply Out.tail)); (first | done | fail)) ?_ | refine Ent.drop1 ?_))), res1 rfl rfl, gv_val (gv_then (gv_2 h1 h2) ((stored_2 hx1 hx2).trans (found_1 hm))), rfl⟩
    · exact ⟨Or.inr rfl, _, [OpP p _], gv_close1 (gv_then (gv_2 h1 h2) (stored_3 hx1 hx2)) hm (by (repeat (first | exact Ent.refl _ | exact Ent.nil | refine Ent.take (by (repeat (first | exact Out.head | apply Out.tail)); (first | done | fail)) ?_ | refine Ent.drop1 ?_))), res1 rfl rfl, gv_val (gv_then (gv_2 h1 h2) (stored_3 hx1 hx2)), rfl⟩
    · exact ⟨Or.inr rfl, _, [OpP p _], gv_close1 (gv_35 h1 h2) hm (by (repeat (first | exact Ent.refl _ | exact Ent.nil | refine Ent.take (by (repeat (first | exact Out.head | apply Out.tail)); (first | done | fail)) ?_ | refine Ent.drop1 ?_))), res1 rfl rfl, gv_val (gv_35 h1 h2), rfl⟩
    · exact ⟨Or.inr rfl, _, [OpP p _], gv_close1 (gv_then (gv_4 h1 h2) (marked_1 hx1)) hm (by (repeat (first | exact Ent.refl _ | exact Ent.nil | refine Ent.take (by (repeat (first | exact Out.head | apply Out.tail)); (first | done | fail)) ?_ | refine Ent.drop1 ?_))), res1 rfl rfl, gv_val (gv_then (gv_4 h1 h2) (marked_1 hx1)), rfl⟩
    · exact ⟨Or.inr rfl, _, [OpP p _], gv_close1 (gv_then (gv_4 h1 h2) (marked_2 hx1)) hm (by (repeat (first | exact Ent.refl _ | exact Ent.nil | refine Ent.take (by (repeat (first | exact Out.head | apply Out.tail)); (first | done | fail)) ?_ | refine Ent.drop1 ?_))), res1 rfl rfl, gv_val (gv_then (gv_4 h1 h2) (marked_2 hx1)), rfl⟩
    · exact ⟨Or.inr rfl, _, [OpP p _], gv_close1 (gv_6 h1 h2) hm (by (repeat (first | exact Ent.refl _ | exact Ent.nil | refine Ent.take (by (repeat (first | exact Out.head | apply Out.tail)); (first | done | fail)) ?_ | refine Ent.drop1 ?_))), res1 rfl rfl, gv_val (gv_6 h1 h2), rfl⟩
    · exact ⟨Or.inr rfl, _, [OpP p _], gv_close1 (gv_then (gv_7 h1 h2) ((reply_1 hx1 hx2).trans (found_1 hm))) hm (by (repeat (first | exact Ent.refl _ | exact Ent.nil | refine Ent.take (by (repeat (first | exact Out.head | apply Out.tail)); (first | done | fail)) ?_ | refine Ent.drop1 ?_))), res1 rfl rfl, gv_val (gv_then (gv_7 h1 h2) ((reply_1 hx1 hx2).trans (found_1 hm))), rfl⟩
    · exact ⟨Or.inr rfl, _, [OpP p _], gv_close1 (gv_then (gv_7 h1 h2) (reply_2 hx1 hx2)) hm (by (repeat (first | exact Ent.refl _ | exact Ent.nil | refine Ent.take (by (repeat (first | exact Out.head | apply Out.tail)); (first | done | fail)) ?_ | refine Ent.drop1 ?_))), res1 rfl rfl, gv_val (gv_then (gv_7 h1 h2) (reply_2 hx1 hx2)), rfl⟩
    · exact ⟨Or.inr rfl, _, [OpP p _], gv_close1 (gv_then (gv_7 h1 h2) (reply_3 hx1 hx2 hx3)) hm (by (repeat (first | exact Ent.refl _ | exact Ent.nil | refine Ent.take (by (repeat (first | exact Out.head | apply Out.tail)); (first | done | fail)) ?_ | refine Ent.drop1 ?_))), res1 rfl rfl, gv_val (gv_then (gv_7 h1 h2) (reply_3 hx1 hx2 hx3)), rfl⟩
    · exact ⟨Or.inr rfl, _, [OpP p _], gv_close1 (gv_then (gv_7 h1 h2) (reply_4 hx1 hx2)) hm (by (repeat (first | exact Ent.refl _ | exact Ent.nil | refine Ent.take (by (repeat (first | exact Out.head | apply Out.tail)); (first | done | fail)) ?_ | refine Ent.drop1 ?_))), res1 rfl rfl, gv_val (gv_then (gv_7 h1 h2) (reply_4 hx1 hx2)), rfl⟩
    · exact ⟨Or.inr rfl, _, [OpP p _], gv_close1 (gv_then (gv_7 h1 h2) (reply_5 hx1 hx2)) hm (by (repeat (first | exact Ent.refl _ | exact Ent.nil | refine Ent.take (by (repeat (first | exact Out.head | apply Out.tail)); (first | done | fail)) ?_ | refine Ent.drop1 ?_))), res1 rfl rfl, gv_val (gv_then (gv_7 h1 h2) (reply_5 hx1 hx2)), rfl⟩
    · exact ⟨Or.inr rfl, _, [OpP p _], gv_close1 (gv_then (gv_7 h1 h2) (reply_6 hx1 hx2 hx3)) hm (by (repeat (first | exact Ent.refl _ | exact Ent.nil | refine Ent.take (by (repeat (first | exact Out.head | apply Out.tail)); (first | done | fail)) ?_ | refine Ent.drop1 ?_))), res1 rfl rfl, gv_val (gv_then (gv_7 h1 h2) (reply_6 hx1 hx2 hx3)), rfl⟩
end specs
end Go.Proofs.Ytjmmmfibmdlclaa
