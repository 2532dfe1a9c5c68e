/- Rules for what is built, made, appended to and copied. No condition. -/
import Derived.Test.YtnoggejkkjngjaaSp
set_option linter.unusedVariables false
namespace Go.Sl
open Go
section ops
variable {P : Program} {B : Base} {N : Nat} {ops rest : List Oper} {F : Fr} {A : List Asn} {K : Fr → List Asn → Prop}
variable {T : TypeId} {pos : String} {aft : Array Edge} {d : Tmp} {fm : Fm} {x y : Operand} {U V : TypeId}

/-- Parts laid into a row of cells. -/
def bld (fs : List (Nat × Nat)) (z : List Value) : List (Nat × Value) → Option (List Value)
  | [] => some z
  | (i, v) :: r => match fs[i]? with
    | some (off, sz) => if v.cells.toList.length = sz ∧ off + sz ≤ z.length then bld fs (setL z off v.cells.toList) r else none
    | none => none

theorem fold_setL : ∀ (vs : List Value) (z : Array Value) (off k : Nat),
    (vs.zipIdx k).foldl (fun cs (p : Value × Nat) => cs.setIfInBounds (off + p.2) p.1) z = (setL z.toList (off + k) vs).toArray
  | [], z, off, k => by simp [setL]
  | v :: vs, z, off, k => by
    have := fold_setL vs (z.setIfInBounds (off + k) v) off (k + 1)
    simp only [List.zipIdx_cons, List.foldl_cons]
    rw [this]
    simp [setL, Nat.add_assoc]

theorem fill_bld (fs : List (Nat × Nat)) (place : Nat → Option (Nat × Nat)) : ∀ (ps : List (Nat × Value)) (z cells : List Value), (∀ p ∈ ps, place p.1 = fs[p.1]?) → bld fs z ps = some cells →
    Instr.fill place z.toArray ps = some cells.toArray
  | [], z, cells, _, h => by simp [bld] at h; subst h; rfl
  | (i, v) :: r, z, cells, hp, h => by
    unfold bld at h
    unfold Instr.fill
    rw [hp _ (List.mem_cons_self ..)]
    cases hi : fs[i]? with
    | none => simp [hi] at h
    | some q =>
      obtain ⟨off, sz⟩ := q
      simp only [hi] at h ⊢
      split at h
      · rename_i hc
        have hsz : v.cells.size = sz := by simpa using hc.1
        have h2 := hc.2
        rw [if_neg (by simp [hsz]; omega)]
        have hf := fold_setL v.cells.toList z.toArray off 0
        have key : (v.cells.zipIdx.foldl (fun cs (p : Value × Nat) => cs.setIfInBounds (off + p.2) p.1) z.toArray) = (setL z off v.cells.toList).toArray := by
          rw [← Array.foldl_toList, Array.toList_zipIdx]; simpa using hf
        rw [key]
        exact fill_bld fs place r _ cells (fun p hm => hp p (List.mem_cons_of_mem _ hm)) h
      · cases h

/-- A struct of one cell and a row behind it. -/
theorem bld_cell_row (v x : Value) (zs cs : List Value) (n : Nat) (h : zs.length = n) (hc : cs.length = n) (hv : isCell v = true) :
    bld [(0, 1), (1, n)] (x :: zs) [(0, v), (1, .agg cs.toArray)] = some (v :: cs) := by
  have hcells : v.cells = #[v] := by cases v <;> first | rfl | simp [isCell] at hv
  simp only [bld, List.getElem?_cons_zero, List.getElem?_cons_succ, hcells]
  rw [if_pos (by simp)]
  have h1 : setL (x :: zs) 0 [v] = v :: zs := rfl
  simp only [List.toList_toArray, h1, Value.cells]
  rw [if_pos (by simp [h, hc]; omega), setL_eq _ _ _ (by simp [h, hc]; omega)]
  simp [h, hc, Nat.add_comm 1 n]

theorem mapM_places (P : Program) (w : World) : ∀ (fs : List Field), (∀ f ∈ fs, (P.info? f.type).isSome) →
    (fs.mapM fun f => (Prod.mk f.offset <$> sizeOf f.type : Sem (Nat × Nat))).run P w = .ok (fs.map fun f => (f.offset, ((P.info? f.type).map (·.size)).getD 0)) w
  | [], _ => rfl
  | f :: fs, hs => by
    obtain ⟨i, hi⟩ := Option.isSome_iff_exists.1 (hs f (List.mem_cons_self ..))
    have h2 : (sizeOf f.type).run P w = .ok i.size w := run_sizeOf w _ (by simp [tSize, hi])
    have h3 := mapM_places P w fs (fun g hg => hs g (List.mem_cons_of_mem _ hg))
    rw [List.mapM_cons]
    simp only [Sem.run_bind, Sem.run_map, h2, Result.andThen_ok, h3, Sem.run_pure]
    simp [hi]

def structOk (P : Program) (T : Nat) : Bool := match P.underlying T with | some (.struct fs) => fs.toList.all fun f => (P.info? f.type).isSome | _ => false
class TStructOk (P : Program) (T : Nat) : Prop where out : structOk P T = true

theorem run_build (w : World) {ps : List (Nat × Value)} {fs : List (Nat × Nat)} {z cells : List Value} (h1 : structOf P T = some fs) (h2 : structOk P T = true) (hz : zeroOf P T = some z)
    (hb : bld fs z ps = some cells) : (Instr.build T ps.toArray).run P w = .ok (.agg cells.toArray) w := by
  obtain ⟨v, hv, hvc⟩ := run_zero (P := P) w T hz
  unfold structOf at h1
  unfold structOk at h2
  split at h1
  · rename_i gs hu
    rw [hu] at h2
    simp only at h2
    have hm := mapM_places P w gs.toList (fun f hf => List.all_eq_true.1 h2 f hf)
    have hfs : (gs.toList.map fun f => (f.offset, ((P.info? f.type).map (·.size)).getD 0)) = fs := by simpa using h1
    rw [hfs] at hm
    have hm2 : (gs.mapM fun f => (Prod.mk f.offset <$> sizeOf f.type : Sem (Nat × Nat))).run P w = .ok fs.toArray w := by
      rw [Array.mapM_eq_mapM_toList]; simp only [Sem.run_map, hm, Result.andThen_ok]
    have hfill := fill_bld fs (fun i => fs[i]?) ps z cells (fun _ _ => rfl) hb
    simp [Instr.build, hv, hvc, run_under w T hu, hm2, hfill]
  · cases h1

theorem zip_ev {xs : List (Nat × Operand)} {vs : List Value} (hx : EvL F (xs.map (·.2)) vs) : (xs.map fun p => (p.1, ev F p.2)) = (xs.map (·.1)).zip vs := by
  have := hx.eq
  clear hx
  induction xs generalizing vs with
  | nil => simp at this; subst this; rfl
  | cons q xs ih =>
    cases vs with
    | nil => simp at this
    | cons v vs =>
      simp only [List.map_cons, List.cons.injEq, List.zip_cons_cons] at this ⊢
      exact ⟨by rw [this.1], ih this.2⟩
theorem Wl_build {xs : List (Nat × Operand)} {vs : List Value} {fs : List (Nat × Nat)} {z cells : List Value} [h1 : TStruct P U fs] [h2 : TStructOk P U] [hz : TZero P U z] (hd : Nat.blt d N = true := by exact rfl)
    (hx : EvL F (xs.map (·.2)) vs := by (repeat (first | exact EvL.nil | apply EvL.cons (by (repeat (first | exact Ev.here | exact Ev.const | exact Ev.arg rfl | apply Ev.there rfl | exact Ev.none rfl | exact Ev.func | exact Ev.var)); (first | done | fail)))); (first | done | fail)) (hb : bld fs z ((xs.map (·.1)).zip vs) = some cells := by simp [bld, setL, Value.cells] <;> rfl)
    (k : Wl P B N fm ops rest (upd F d (.agg cells.toArray)) A K) : Wl P B N fm ops (⟨some d, .build U xs.toArray, T, pos, aft, none⟩ :: rest) F A K :=
  Wl_valP hd (fun w => by
    have hps := zip_ev hx
    have hr := run_build (P := P) (T := U) w h1.out h2.out hz.out hb
    rw [← hps] at hr
    simpa [execOp] using congrArg (fun r => r.andThen fun v w' => Result.ok (Next.value v) w') hr) k

/-! rows that a slice owns -/
/-- A slice value that owns its array: nil, or the head of a row of its own; 'cs' the cells of its elements. -/
def own (a : Option Addr) (len cap sz : Nat) (cs : List Value) (E : TypeId) : Asn := fun h =>
  (a = none ∧ len = 0 ∧ cap = 0 ∧ cs = [] ∧ ∀ b, h b = none) ∨
  ∃ r spare, a = some ⟨r, 0, none⟩ ∧ pt r (.cells (cs ++ spare).toArray E (0, 0)) h ∧ cs.length = len * sz ∧ (cs ++ spare).length = cap * sz

theorem own_open {m : Hp} {a : Option Addr} {len cap sz : Nat} {cs : List Value} {E : TypeId} {L : List Asn} {W : Nat → Prop} (h : SatL m (own a len cap sz cs E :: L) W) :
    (a = none ∧ len = 0 ∧ cap = 0 ∧ cs = [] ∧ SatL m L W) ∨
    ∃ r spare, a = some ⟨r, 0, none⟩ ∧ cs.length = len * sz ∧ (cs ++ spare).length = cap * sz ∧ SatL m (cb r (cs ++ spare) E :: L) W := by
  obtain ⟨x, hx, hs, hr⟩ := h
  rcases hx with ⟨h1, h2, h3, h4, h5⟩ | ⟨r, spare, h1, h2, h3, h4⟩
  · exact .inl ⟨h1, h2, h3, h4, hr.mono fun _ h => .inl h⟩
  · exact .inr ⟨r, spare, h1, h3, h4, x, h2, hs, hr⟩
theorem own_shut (r : Nat) (len cap sz : Nat) (cs spare : List Value) (E : TypeId) (L : List Asn) (h1 : cs.length = len * sz) (h2 : (cs ++ spare).length = cap * sz) :
    Ent (cb r (cs ++ spare) E :: L) (own (some ⟨r, 0, none⟩) len cap sz cs E :: L) := fun _ _ ⟨x, hx, hs, hr⟩ => ⟨x, .inr ⟨r, spare, rfl, hx, h1, h2⟩, hs, hr⟩
theorem own_nil (sz : Nat) (E : TypeId) (L : List Asn) : Ent L (own none 0 0 sz [] E :: L) := fun _ _ h =>
  ⟨fun _ => none, .inl ⟨rfl, rfl, rfl, rfl, fun _ => rfl⟩, by simp, h.mono (by simp)⟩
/-- Open an owned row inside a walk: nil, or a block. -/
theorem Wc_own {c : Code} {Q : Exit → Fr → List Asn → Prop} {a : Option Addr} {len cap sz : Nat} {cs : List Value} {E : TypeId}
    (h0 : a = none → len = 0 → cap = 0 → cs = [] → Wc P B N c F A Q)
    (h1 : ∀ r spare, a = some ⟨r, 0, none⟩ → cs.length = len * sz → (cs ++ spare).length = cap * sz → Wc P B N c F (cb r (cs ++ spare) E :: A) Q) :
    Wc P B N c F (own a len cap sz cs E :: A) Q := fun ro R ac w hk hr hs => by
  have hs1 : Sat B w (own a len cap sz cs E :: R :: A) := hs.perm (.swap ..)
  rcases own_open hs1.own with ⟨e1, e2, e3, e4, e5⟩ | ⟨r, spare, e1, e2, e3, e4⟩
  · exact h0 e1 e2 e3 e4 ro R ac w hk hr ⟨hs.size, hs.io, hs.base, e5⟩
  · exact h1 r spare e1 e2 e3 ro R ac w hk hr ⟨hs.size, hs.io, hs.base, e4.perm (.swap ..)⟩
theorem Wl_own {l : List Oper} {a : Option Addr} {len cap sz : Nat} {cs : List Value} {E : TypeId}
    (h0 : a = none → len = 0 → cap = 0 → cs = [] → Wl P B N fm ops l F A K)
    (h1 : ∀ r spare, a = some ⟨r, 0, none⟩ → cs.length = len * sz → (cs ++ spare).length = cap * sz → Wl P B N fm ops l F (cb r (cs ++ spare) E :: A) K) :
    Wl P B N fm ops l F (own a len cap sz cs E :: A) K := fun R hE ac w hr hs => by
  have hs1 : Sat B w (own a len cap sz cs E :: R :: A) := hs.perm (.swap ..)
  rcases own_open hs1.own with ⟨e1, e2, e3, e4, e5⟩ | ⟨r, spare, e1, e2, e3, e4⟩
  · exact h0 e1 e2 e3 e4 R hE ac w hr ⟨hs.size, hs.io, hs.base, e5⟩
  · exact h1 r spare e1 e2 e3 R hE ac w hr ⟨hs.size, hs.io, hs.base, e4.perm (.swap ..)⟩

/-! make, literals -/
theorem map_mod (z : Value) (n : Nat) : (Array.range n).map (fun i => #[z][i % 1]!) = (List.replicate n z).toArray := by
  apply Array.ext (by simp)
  intro i h1 h2
  simp [Nat.mod_one]
def cyc (z : List Value) (n : Nat) : List Value := (List.range n).map fun i => z.toArray[i % z.length]!
theorem cyc_eq (z : List Value) (n : Nat) : (Array.range n).map (fun i => z.toArray[i % z.toArray.size]!) = (cyc z n).toArray := by
  rw [cyc, ← List.map_toArray, List.toArray_range]; simp
theorem cyc_length (z : List Value) (n : Nat) : (cyc z n).length = n := by simp [cyc]
theorem cyc_rep (v : Value) (m n : Nat) (hm : 0 < m) : cyc (List.replicate m v) n = List.replicate n v := by
  apply List.ext_getElem (by simp [cyc])
  intro i h1 h2
  have : i % m < m := Nat.mod_lt _ hm
  simp [cyc, List.getElem_replicate, this]

theorem Wl_makeSlice {E sz by_ : Nat} {z : List Value} {len cap : Nat} [h1 : TSl P U E] [h2 : TSize P E sz] [h3 : TBytes P E by_] [hz : TZero P E z] (hd : Nat.blt d N = true := by exact rfl)
    (hx : ev F x = .int .i64 len := by exact rfl) (hy : ev F y = .int .i64 cap := by exact rfl) (hle : len ≤ cap := by omega) (hb : by_ * cap ≤ 281474976710656) (hc : cap ≤ 9223372036854775807 := by omega)
    (k : ∀ r, Wl P B N fm ops rest (upd F d (.slice (some ⟨r, 0, none⟩) len cap)) (cb r (cyc z (cap * sz)) E :: A) K) :
    Wl P B N fm ops (⟨some d, .makeSlice U x y, T, pos, aft, none⟩ :: rest) F A K :=
  Wl_new (val := fun r => .slice (some ⟨r, 0, none⟩) len cap) rfl hd (fun w R hs => by
    obtain ⟨v, hv, hvc⟩ := run_zero (P := P) w E hz.out
    have hinfo : ∃ i, P.info? E = some i ∧ i.bytes = by_ := by
      have h := h3.out; unfold tBytes at h
      cases hi : P.info? E with
      | none => rw [hi] at h; cases h
      | some i => rw [hi] at h; exact ⟨i, rfl, Option.some.inj h⟩
    obtain ⟨i, hi, hib⟩ := hinfo
    have wl : IntKind.i64.wrap (len : Int) = len := IntWalk.i64_in _ (by omega)
    have wc : IntKind.i64.wrap (cap : Int) = cap := IntWalk.i64_in _ (by omega)
    have hbi : ((by_ : Int) * (cap : Int)) ≤ 281474976710656 := by
      have h := Int.ofNat_le.2 hb
      rw [Int.natCast_mul] at h
      omega
    have hti : (typeInfo E).run P w = .ok i w := by simp [typeInfo, program, Sem.run, hi]
    have h48 : ¬ ((281474976710656 : Int) < (by_ : Int) * (cap : Int)) := by omega
    refine ⟨{ w with heap := w.heap.push (.cells (cyc z (cap * sz)).toArray E) }, ?_, rfl, Io.refl w⟩
    have hroom : ∀ n, (askRoom n).run P w = .ok () w := by intro n; unfold askRoom; split <;> rfl
    have hcy : (Array.range (cap * sz)).map (fun j => (if cap * sz = 0 then #[] else z.toArray)[j % (if cap * sz = 0 then #[] else z.toArray).size]!) = (cyc z (cap * sz)).toArray := by
      by_cases hn : cap * sz = 0
      · simp [hn, cyc]
      · simp only [if_neg hn]; exact cyc_eq z _
    have hmake : (Instr.makeSlice U (.int .i64 len) (.int .i64 cap)).run P w = .ok (.slice (some ⟨w.heap.size, 0, none⟩) len cap) { w with heap := w.heap.push (.cells (cyc z (cap * sz)).toArray E) } := by
      unfold Instr.makeSlice
      simp only [Sem.run_bind, run_under w U (under_of_sl h1.out), Result.andThen_ok, asInt, asIntOf, Sem.run_pure, wl, wc, hti, hib]
      rw [if_neg (by simp [h48, hle])]
      simp only [Sem.run_bind, Result.andThen_ok, hroom, run_sizeOf w E h2.out, Int.toNat_natCast]
      by_cases hn : cap * sz = 0
      · simp only [if_pos hn] at hcy ⊢
        simp only [Sem.run_bind, Sem.run_pure, Result.andThen_ok, hcy, run_newRow]
      · simp only [if_neg hn] at hcy ⊢
        simp only [Sem.run_bind, Sem.run_pure, Result.andThen_ok, hv, hvc, hcy, run_newRow]
    simp only [execOp, hx, hy, Sem.run_bind, hmake, Result.andThen_ok, Sem.run_pure]) k

theorem run_buildSlice (w : World) {E sz len : Nat} {z : List Value} {ps : List (Nat × Value)} {cells : List Value} (h1 : slOf P U = some E) (h2 : tSize P E = some sz) (hz : zeroOf P E = some z)
    (hb : bld ((List.range len).map fun i => (i * sz, sz)) (cyc z (len * sz)) ps = some cells) (hlt : ∀ p ∈ ps, p.1 < len) (h24 : len * sz ≤ 16777216) :
    (Instr.buildSlice U len ps.toArray).run P w = .ok (.slice (some ⟨w.heap.size, 0, none⟩) len len) { w with heap := w.heap.push (.cells cells.toArray E) } := by
  obtain ⟨v, hv, hvc⟩ := run_zero (P := P) w E hz
  have hcy : (Array.range (len * sz)).map (fun j => (if len * sz = 0 then #[] else z.toArray)[j % (if len * sz = 0 then #[] else z.toArray).size]!) = (cyc z (len * sz)).toArray := by
    by_cases hn : len * sz = 0
    · simp [hn, cyc]
    · simp only [if_neg hn]; exact cyc_eq z _
  have hfill := fill_bld ((List.range len).map fun i => (i * sz, sz)) (fun i => some (i * sz, sz)) ps (cyc z (len * sz)) cells (fun p hp => by
    have := hlt p hp
    simp [this]) hb
  have h24' : ¬ (len * sz > 2 ^ 24) := by simp; omega
  unfold Instr.buildSlice
  simp only [Sem.run_bind, run_under w U (under_of_sl h1), Result.andThen_ok, run_sizeOf w E h2]
  rw [if_neg h24']
  by_cases hn : len * sz = 0
  · simp only [if_pos hn] at hcy ⊢
    simp only [Sem.run_bind, Sem.run_pure, Result.andThen_ok, hcy, hfill, run_newRow]
  · simp only [if_neg hn] at hcy ⊢
    simp only [Sem.run_bind, Sem.run_pure, Result.andThen_ok, hv, hvc, hcy, hfill, run_newRow]

theorem Wl_buildSlice {E sz len : Nat} {z : List Value} {xs : List (Nat × Operand)} {vs : List Value} {cells : List Value} [h1 : TSl P U E] [h2 : TSize P E sz] [hz : TZero P E z] (hd : Nat.blt d N = true := by exact rfl)
    (hx : EvL F (xs.map (·.2)) vs := by (repeat (first | exact EvL.nil | apply EvL.cons (by (repeat (first | exact Ev.here | exact Ev.const | exact Ev.arg rfl | apply Ev.there rfl | exact Ev.none rfl | exact Ev.func | exact Ev.var)); (first | done | fail)))); (first | done | fail)) (hb : bld ((List.range len).map fun i => (i * sz, sz)) (cyc z (len * sz)) ((xs.map (·.1)).zip vs) = some cells) (hlt : ∀ p ∈ (xs.map (·.1)).zip vs, p.1 < len) (h24 : len * sz ≤ 16777216)
    (k : ∀ r, Wl P B N fm ops rest (upd F d (.slice (some ⟨r, 0, none⟩) len len)) (cb r cells E :: A) K) : Wl P B N fm ops (⟨some d, .buildSlice U len xs.toArray, T, pos, aft, none⟩ :: rest) F A K :=
  Wl_new (val := fun r => .slice (some ⟨r, 0, none⟩) len len) rfl hd (fun w R hs => by
    have hps := zip_ev hx
    have hr := run_buildSlice (P := P) (U := U) w h1.out h2.out hz.out hb hlt h24
    rw [← hps] at hr
    exact ⟨{ w with heap := w.heap.push (.cells cells.toArray E) }, by simpa [execOp] using congrArg (fun r => r.andThen fun v w' => Result.ok (Next.value v) w') hr, rfl, Io.refl w⟩) k
/-- A literal of no element. -/
theorem Wl_lit0 {E sz : Nat} {z : List Value} [h1 : TSl P U E] [h2 : TSize P E sz] [hz : TZero P E z] (hd : Nat.blt d N = true := by exact rfl)
    (k : ∀ r, Wl P B N fm ops rest (upd F d (.slice (some ⟨r, 0, none⟩) 0 0)) (cb r [] E :: A) K) : Wl P B N fm ops (⟨some d, .buildSlice U 0 #[], T, pos, aft, none⟩ :: rest) F A K :=
  Wl_buildSlice (xs := []) (vs := []) hd .nil (by simp [bld, cyc]) (by simp) (by omega) k
/-- A literal of no element, as a row that is owned. -/
theorem Wl_lit0o {E sz : Nat} {z : List Value} [h1 : TSl P U E] [h2 : TSize P E sz] [hz : TZero P E z] (hd : Nat.blt d N = true := by exact rfl)
    (k : ∀ r, Wl P B N fm ops rest (upd F d (.slice (some ⟨r, 0, none⟩) 0 0)) (own (some ⟨r, 0, none⟩) 0 0 sz [] E :: A) K) : Wl P B N fm ops (⟨some d, .buildSlice U 0 #[], T, pos, aft, none⟩ :: rest) F A K :=
  Wl_lit0 hd fun r => Wl_ent (own_shut r 0 0 sz [] [] E A (by simp) (by simp)) (k r)
/-- A literal of one element. -/
theorem Wl_lit1 {E sz : Nat} {z cs : List Value} {v : Value} [h1 : TSl P U E] [h2 : TSize P E sz] [hz : TZero P E z] (hd : Nat.blt d N = true := by exact rfl) (hx : Ev F x v := by (repeat (first | exact Ev.here | exact Ev.const | exact Ev.arg rfl | apply Ev.there rfl | exact Ev.none rfl | exact Ev.func | exact Ev.var)); (first | done | fail)) (hv : v.cells = cs.toArray := by exact rfl) (hl : cs.length = sz := by exact rfl) (h24 : sz ≤ 16777216 := by omega)
    (k : ∀ r, Wl P B N fm ops rest (upd F d (.slice (some ⟨r, 0, none⟩) 1 1)) (cb r cs E :: A) K) : Wl P B N fm ops (⟨some d, .buildSlice U 1 #[(0, x)], T, pos, aft, none⟩ :: rest) F A K :=
  Wl_buildSlice (xs := [(0, x)]) (vs := [v]) hd (.cons hx .nil) (by
    have e : (cyc z sz).length = sz := cyc_length z sz
    rw [Nat.one_mul]
    simp only [bld, List.map_cons, List.map_nil, List.zip_cons_cons, List.zip_nil_right, List.range_succ, List.range_zero, List.nil_append, List.map_cons, List.map_nil, Nat.zero_mul, List.getElem?_cons_zero, hv]
    rw [if_pos (by simp [hl, e])]
    rw [setL_eq _ _ _ (by simp [hl, e])]
    simp [hl, e]) (by simp) (by omega) k

theorem Wl_lit1a {E sz : Nat} {z cs : List Value} [h1 : TSl P U E] [h2 : TSize P E sz] [hz : TZero P E z] (hd : Nat.blt d N = true := by exact rfl) (hx : Ev F x (.agg cs.toArray) := by (repeat (first | exact Ev.here | exact Ev.const | exact Ev.arg rfl | apply Ev.there rfl | exact Ev.none rfl | exact Ev.func | exact Ev.var)); (first | done | fail)) (hl : cs.length = sz := by exact rfl) (h24 : sz ≤ 16777216 := by omega)
    (k : ∀ r, Wl P B N fm ops rest (upd F d (.slice (some ⟨r, 0, none⟩) 1 1)) (cb r cs E :: A) K) : Wl P B N fm ops (⟨some d, .buildSlice U 1 #[(0, x)], T, pos, aft, none⟩ :: rest) F A K :=
  Wl_lit1 hd hx rfl hl h24 k

/-- What an append or a copy reads. -/
def Src (P : Program) (B : Base) (A : List Asn) (sz : Nat) (y : Value) (m : Nat) (vs : List Value) : Prop :=
  ∀ w, Sat B w A → (Builtin.lenOf y).run P w = .ok m w ∧ ∀ n, n ≤ m → (Builtin.firstCells sz n y).run P w = .ok (vs.take (n * sz)).toArray w
theorem src_sl {b off m c sz : Nat} {l vs : List Value} {E : TypeId} {fz : Nat × Nat} (hr : Rd B b l E fz A) (ho : off + m * sz ≤ l.length) (hv : (l.drop off).take (m * sz) = vs) :
    Src P B A sz (.slice (some ⟨b, off, none⟩) m c) m vs := fun w hs => ⟨rfl, fun n hn => by
    have hmn : n * sz ≤ m * sz := Nat.mul_le_mul_right _ hn
    have := run_loadCells P w (b := b) (off := off) (n := n * sz) (hr.heap hs) (by omega)
    subst hv
    rw [List.take_take, Nat.min_eq_left hmn]
    exact this⟩
theorem src_nil {c sz : Nat} : Src P B A sz (.slice none 0 c) 0 [] := by
  intro w hs
  refine ⟨rfl, ?_⟩
  intro n hn
  obtain rfl : n = 0 := Nat.le_zero.1 hn
  simp [Builtin.firstCells]
def byteV (c : UInt8) : Value := .int .u8 c.toNat
theorem src_str {s : ByteArray} : Src P B A 1 (.string s) s.size (s.data.toList.map byteV) := fun w hs => ⟨rfl, fun n hn => by
    have h2 : (Array.map (fun b : UInt8 => Value.int IntKind.u8 b.toNat) s.data).extract 0 n = (List.take n (List.map byteV s.data.toList)).toArray := by
      apply Array.ext'
      simp
      rfl
    simp [Builtin.firstCells, h2]⟩
theorem Src.weak {sz m : Nat} {y : Value} {vs : List Value} {A' : List Asn} (h : Src P B A sz y m vs) (he : ∀ w, Sat B w A' → Sat B w A) : Src P B A' sz y m vs := fun w hs => h w (he w hs)

theorem Src.tail {sz m : Nat} {y : Value} {vs : List Value} {b : Asn} (h : Src P B A sz y m vs) : Src P B (b :: A) sz y m vs := h.weak fun w hs => hs.ent (Ent.drop _)
theorem Ent.take {y : Asn} {X Y M : List Asn} (h : Out y X M) (k : Ent M Y) : Ent X (y :: Y) := (Ent.perm h.perm).trans (k.cons y)
theorem Ent.drop1 {y : Asn} {X Y : List Asn} (k : Ent X Y) : Ent (y :: X) Y := (Ent.drop y).trans k
theorem Wl_loadAgg_src {a : Option Addr} {m c n : Nat} {vs cs : List Value} [ht : TAgg P U] [hz : TSize P U n] (hk : kindB fm (some d) (.load U x) ≠ 0 := by decide) (hd : Nat.blt d N = true := by exact rfl) (hx : ev F x = .pointer a := by exact rfl) (hsrc : Src P B A 1 (.slice a m c) m vs)
    (hvl : vs.length = m) (hn : n ≤ m := by omega) (h0 : 0 < n := by omega) (hc : vs.take n = cs) (k : Wl P B N fm ops rest (upd F d (.agg cs.toArray)) A K) : Wl P B N fm ops (⟨some d, .load U x, T, pos, aft, none⟩ :: rest) F A K :=
  Wl_rd hk hd (fun w R hs => by
    subst hc
    have hf := (hsrc w (hs.ent (Ent.drop _))).2 n hn
    rw [Nat.mul_one] at hf
    cases a with
    | none =>
      exfalso
      have : (#[] : Array Value) = (vs.take n).toArray := by simpa [Builtin.firstCells] using hf
      have h2 : (vs.take n).length = n := by simp; omega
      have h3 := congrArg Array.size this
      simp only [List.size_toArray, h2] at h3
      simp at h3; omega
    | some p =>
      have hl : (loadCells p n).run P w = .ok (vs.take n).toArray w := by simpa [Builtin.firstCells] using hf
      simp [execOp, hx, Instr.loadAt, Instr.sureAddr, loadVar, run_isAgg w U ht.out, run_sizeOf w U hz.out, hl]) k

theorem nextcap_le (n c m : Nat) (h : c < n) (hm : 3 * n + 2000 ≤ m) : Builtin.nextslicecap n c ≤ m := by
  unfold Builtin.nextslicecap
  split
  · omega
  · split
    · omega
    · simp only [Builtin.growBy]
      split
      · omega
      · split
        · omega
        · split
          · omega
          · split <;> omega

set_option maxHeartbeats 1000000 in
/-- append(x, y...) on a row of one's own. -/
theorem run_append {E sz by_ len cap m : Nat} {z cs vs : List Value} {a : Option Addr} {M : List Asn} {R : Asn} {w : World} (h1 : slOf P U = some E) (h2 : tSize P E = some sz) (h3 : tBytes P E = some by_) (h4 : zeroOf P E = some z)
    (hV : slOf P V ≠ none ∨ strOf P V = true) (hzl : z.length = sz) (hby : 0 < by_)
    (hs : Sat B w (R :: own a len cap sz cs E :: M)) {vy : Value} (hy : (Builtin.lenOf vy).run P w = .ok m w) (hf1 : ∀ w, Sat B w (R :: own a len cap sz cs E :: M) → (Builtin.firstCells sz m vy).run P w = .ok vs.toArray w) (hvl : vs.length = m * sz) (hvc : vs.all isCell = true)
    (hbd : (3 * (len + m) + 2000) * by_ ≤ 281474976710656 ∨ (cap = 0 ∧ (len + m) * by_ ≤ 281474976710656)) :
    ∃ a' cap' w', (Builtin.append_ #[U, V] T #[.slice a len cap, vy]).run P w = .ok (.slice a' (len + m) cap') w' ∧ Sat B w' (R :: own a' (len + m) cap' sz (cs ++ vs) E :: M) := by
  obtain ⟨v, hv, hvc'⟩ := run_zero (P := P) w E h4
  have hvz : v.cells.size = sz := by rw [hvc']; simpa using hzl
  have hinfo : ∃ i, P.info? E = some i ∧ i.bytes = by_ := by
    have h := h3; unfold tBytes at h
    cases hi : P.info? E with
    | none => rw [hi] at h; cases h
    | some i => rw [hi] at h; exact ⟨i, rfl, Option.some.inj h⟩
  obtain ⟨i, hi, hib⟩ := hinfo
  have hti : ∀ w, (typeInfo E).run P w = .ok i w := by intro w; simp [typeInfo, program, Sem.run, hi]
  have hroom : ∀ n w, (askRoom n).run P w = .ok () w := by intro n w; unfold askRoom; split <;> rfl
  have hund : (∃ e, P.underlying V = some (.slice e)) ∨ P.underlying V = some .string := by
    rcases hV with hV | hV
    · cases h : slOf P V with
      | none => exact absurd h hV
      | some e => exact .inl ⟨_, under_of_sl h⟩
    · exact .inr (under_of_str hV)
  have hs1 : Sat B w (own a len cap sz cs E :: R :: M) := hs.perm (.swap ..)
  have hf := hf1 w hs
  have hnb : ¬ by_ = 0 := by omega
  have hpre1 : len + m ≤ cap → (Builtin.append_ #[U, V] T #[.slice a len cap, vy]).run P w =
      (do
          let new ← Builtin.firstCells sz m vy
          if let some p := a then storeCells (p.add (len * sz)) new.toList
          pure (.slice a (len + m) cap) : Sem Value).run P w := by
    intro hfit
    unfold Builtin.append_
    rcases hund with ⟨e, hD⟩ | hD <;> simp [run_under w U (under_of_sl h1), run_sizeOf w E h2, run_under w V hD, hy, hfit] <;> cases a <;> rfl
  have hpre2 : ¬ len + m ≤ cap → (¬ 281474976710656 < Builtin.nextslicecap (len + m) cap * by_) → (Builtin.append_ #[U, V] T #[.slice a len cap, vy]).run P w =
      (do
          let newCap ← choose (.appendCap (len + m) cap E)
          askRoom (newCap * by_)
          let old ← Builtin.firstCells sz len (.slice a len cap)
          let new ← Builtin.firstCells sz m vy
          let rest := Builtin.zeroCells (← zeroValue E).cells (newCap - (len + m))
          pure (.slice (some (← newRow E (old ++ new ++ rest))) (len + m) newCap) : Sem Value).run P w := by
    intro hfit hnx
    unfold Builtin.append_
    rcases hund with ⟨e, hD⟩ | hD <;> simp [run_under w U (under_of_sl h1), run_sizeOf w E h2, run_under w V hD, hy, hfit, hti, hib, hnb, hnx]
  by_cases hfit : len + m ≤ cap
  · rw [hpre1 hfit]
    have hff : (Builtin.firstCells sz m vy).run P w = .ok vs.toArray w := hf
    rcases own_open hs1.own with ⟨e1, e2, e3, e4, e5⟩ | ⟨r, spare, e1, e2, e3, e4⟩
    · subst e1 e2 e3 e4
      obtain rfl : m = 0 := by omega
      have hvs : vs = [] := List.length_eq_zero_iff.1 (by simpa using hvl)
      subst hvs
      exact ⟨none, 0, w, by simp [hff], hs⟩
    · subst e1
      have hs2 : Sat B w (cb r (cs ++ spare) E :: R :: M) := ⟨hs.size, hs.io, hs.base, e4⟩
      have hb := (hs2.get (List.mem_cons_self ..)).2
      have hle : len * sz + m * sz ≤ cap * sz := by rw [← Nat.add_mul]; exact Nat.mul_le_mul_right _ hfit
      have hlen : (cs ++ spare).length = cs.length + spare.length := List.length_append
      obtain ⟨w', hw, hio, hsz, hne, hb'⟩ := run_storeCells P (b := r) (off := len * sz) vs 0 w (cs ++ spare) hb (by rw [e3, hvl]; omega) (fun j _ _ => by simp) hvc
      have hset : setL (cs ++ spare) (len * sz + 0) vs = (cs ++ vs) ++ spare.drop vs.length := by
        rw [Nat.add_zero, setL_eq _ _ _ (by rw [e3, hvl]; omega), ← e2]
        rw [List.take_left, ← List.drop_drop, List.drop_left, List.append_assoc]
      rw [hset] at hb'
      have hs3 : Sat B w' (cb r ((cs ++ vs) ++ spare.drop vs.length) E :: R :: M) := hs2.put hio hsz.symm hne hb'
      refine ⟨some ⟨r, 0, none⟩, cap, w', ?_, ((hs3.ent (own_shut r (len + m) cap sz (cs ++ vs) _ E _ ?_ ?_)).perm (.swap ..))⟩
      · simp only [Sem.run_bind, hff, Result.andThen_ok, addr_add, Nat.zero_add]
        simp only [hw, Sem.run_pure, Result.andThen_ok]
      · simp [e2, hvl, Nat.add_mul]
      · rw [e3.symm, hlen]; simp only [List.length_append, List.length_drop]; omega
  · have hnx : Builtin.nextslicecap (len + m) cap * by_ ≤ 281474976710656 := by
      rcases hbd with hbd | ⟨h0, hbd⟩
      · exact Nat.le_trans (Nat.mul_le_mul_right _ (nextcap_le (len + m) cap (3 * (len + m) + 2000) (by omega) (Nat.le_refl _))) hbd
      · have : Builtin.nextslicecap (len + m) cap = len + m := by
          subst h0
          unfold Builtin.nextslicecap
          rw [if_pos (by omega)]
        rw [this]; exact hbd
    rw [hpre2 hfit (by omega)]
    -- the new capacity
    have hch : ∃ nc w1, (choose (.appendCap (len + m) cap E)).run P w = .ok nc w1 ∧ len + m ≤ nc ∧ w1.heap = w.heap ∧ Io w w1 := by
      refine ⟨_, _, rfl, ?_, rfl, Io.refl w⟩
      simp only [Question.cut]; omega
    obtain ⟨nc, w1, hc, hnc, hw1, hio1⟩ := hch
    have hs1' : Sat B w1 (R :: own a len cap sz cs E :: M) := hs.heap hio1 hw1
    have hold : ∃ M', (Builtin.firstCells sz len (.slice a len cap)).run P w1 = .ok cs.toArray w1 ∧ Sat B w1 (R :: M') ∧ M' = M := by
      have hs1a : Sat B w1 (own a len cap sz cs E :: R :: M) := hs1'.perm (.swap ..)
      rcases own_open hs1a.own with ⟨e1, e2, e3, e4, e5⟩ | ⟨r, spare, e1, e2, e3, e4⟩
      · subst e1 e2 e3 e4; exact ⟨M, rfl, ⟨hs1'.size, hs1'.io, hs1'.base, e5⟩, rfl⟩
      · subst e1
        have hs2 : Sat B w1 (cb r (cs ++ spare) E :: R :: M) := ⟨hs1'.size, hs1'.io, hs1'.base, e4⟩
        have hb := (hs2.get (List.mem_cons_self ..)).2
        have hl := run_loadCells P w1 (b := r) (off := 0) (n := len * sz) hb (by simp; omega)
        refine ⟨M, ?_, hs2.ent (Ent.drop _), rfl⟩
        have : List.take (len * sz) (List.drop 0 (cs ++ spare)) = cs := by rw [List.drop_zero, ← e2, List.take_left]
        rw [this] at hl
        exact hl
    obtain ⟨M', hold, hsM, rfl⟩ := hold
    have hnew : (Builtin.firstCells sz m vy).run P w1 = .ok vs.toArray w1 := hf1 w1 hs1'
    obtain ⟨v1, hv1, hvc1⟩ := run_zero (P := P) w1 E h4
    have hz1 : v1.cells.size = sz := by rw [hvc1]; simpa using hzl
    have hmon : ∀ n w, (askRoom n).run P w = .ok () w := hroom
    refine ⟨some ⟨w1.heap.size, 0, none⟩, nc, { w1 with heap := w1.heap.push (.cells ((cs ++ vs) ++ (Builtin.zeroCells v1.cells (nc - (len + m))).toList).toArray E) }, ?_, ?_⟩
    · have hq : cs.toArray ++ vs.toArray ++ Builtin.zeroCells v1.cells (nc - (len + m)) = ((cs ++ vs) ++ (Builtin.zeroCells v1.cells (nc - (len + m))).toList).toArray := by
        apply Array.ext'; simp
      simp only [Sem.run_bind, Sem.run_pure, hc, Result.andThen_ok, hmon, hold, hnew, hv1, run_newRow, hq]
    · have hp := hsM.push (Io.refl w1) (o := .cells ((cs ++ vs) ++ (Builtin.zeroCells v1.cells (nc - (len + m))).toList).toArray E) (w' := { w1 with heap := w1.heap.push (.cells ((cs ++ vs) ++ (Builtin.zeroCells v1.cells (nc - (len + m))).toList).toArray E) }) rfl
      have hcs : cs.length = len * sz := by
        rcases own_open (hs1'.perm (.swap ..)).own with ⟨e1, e2, e3, e4, e5⟩ | ⟨r, spare, e1, e2, e3, e4⟩
        · subst e2 e4; simp
        · exact e2
      refine (hp.ent (own_shut w1.heap.size (len + m) nc sz (cs ++ vs) _ E _ ?_ ?_)).perm (.swap ..)
      · simp [hcs, hvl, Nat.add_mul]
      · simp only [List.length_append, hcs, hvl, Builtin.zeroCells, Array.length_toList, Array.size_map, Array.size_range, hz1]
        rw [← Nat.add_mul, ← Nat.add_mul]
        congr 1; omega

theorem Wl_append {E sz by_ len cap m : Nat} {z cs vs : List Value} {a : Option Addr} {M : List Asn} {vy : Value} [h1 : TSl P U E] [h2 : TSize P E sz] [h3 : TBytes P E by_] [h4 : TZero P E z]
    (hd : Nat.blt d N = true := by exact rfl) (hx : ev F x = .slice a len cap := by exact rfl) (hy : Ev F y vy := by (repeat (first | exact Ev.here | exact Ev.const | exact Ev.arg rfl | apply Ev.there rfl | exact Ev.none rfl | exact Ev.func | exact Ev.var)); (first | done | fail)) (hV : slOf P V ≠ none ∨ strOf P V = true) (hzl : z.length = sz := by exact rfl) (hby : 0 < by_ := by omega)
    (ho : Out (own a len cap sz cs E) A M := by (repeat (first | exact Out.head | apply Out.tail)); (first | done | fail)) (hsrc : Src P B A sz vy m vs) (hvl : vs.length = m * sz) (hvc : vs.all isCell = true := by first | rfl | assumption | (simp only [List.all_cons, List.all_nil, Bool.and_eq_true, Bool.and_true, cInt, cBool, cStr, cPtr, cSl, cByte, true_and, and_true] at *; first | done | assumption | simp only [*, and_self]) | simp [isCell, byteV]) (hbd : (3 * (len + m) + 2000) * by_ ≤ 281474976710656 ∨ (cap = 0 ∧ (len + m) * by_ ≤ 281474976710656))
    (k : ∀ a' cap', Wl P B N fm ops rest (upd F d (.slice a' (len + m) cap')) (own a' (len + m) cap' sz (cs ++ vs) E :: M) K) :
    Wl P B N fm ops (⟨some d, .call ⟨.builtin .append, #[x, y], #[U, V]⟩, T, pos, aft, none⟩ :: rest) F A K :=
  Wl_op rfl rfl fun R hE ac w hr hs => by
    have hp : ∀ w, Sat B w (R :: own a len cap sz cs E :: M) → Sat B w A := fun w h => (h.perm (ho.perm.symm.cons R)).ent (Ent.drop R)
    have hs1 : Sat B w (R :: own a len cap sz cs E :: M) := hs.perm (ho.perm.cons R)
    obtain ⟨a', cap', w', hrun, hs'⟩ := run_append (P := P) (B := B) (T := T) (U := U) (V := V) h1.out h2.out h3.out h4.out hV hzl hby hs1 (hsrc w (hp w hs1)).1
      (fun w hw => by have := (hsrc w (hp w hw)).2 m (Nat.le_refl _); rwa [← hvl, List.take_length] at this) hvl hvc hbd
    have he : (execOp (ev F) ⟨some d, .call ⟨.builtin .append, #[x, y], #[U, V]⟩, T, pos, aft, none⟩).run P w = .ok (.value (.slice a' (len + m) cap')) w' := by
      simp [execOp, resolve, invoke, builtin, hx, hy.eq, hrun]
    rw [he, Oper.upY_value]
    exact ⟨hs'.hd, k a' cap' R hE _ w' (hr.put (by simpa [Nat.blt_eq] using hd) _) hs'⟩

/-- append(x, v): one element, out of the row that the literal made. -/
theorem Wl_append1 {E E2 E3 sz by_ len cap r c : Nat} {z cs vs : List Value} {a : Option Addr} {M : List Asn} {fz : Nat × Nat} [h1 : TSl P U E] [h2 : TSize P E sz] [h3 : TBytes P E by_] [h4 : TZero P E z] [h5 : TSl P V E3]
    (hd : Nat.blt d N = true := by exact rfl) (hx : ev F x = .slice a len cap := by exact rfl) (hy : Ev F y (.slice (some ⟨r, 0, none⟩) 1 c) := by (repeat (first | exact Ev.here | exact Ev.const | exact Ev.arg rfl | apply Ev.there rfl | exact Ev.none rfl | exact Ev.func | exact Ev.var)); (first | done | fail)) (hzl : z.length = sz := by exact rfl) (hby : 0 < by_ := by omega)
    (ho : Out (own a len cap sz cs E) A M := by (repeat (first | exact Out.head | apply Out.tail)); (first | done | fail)) (hsrc : Rd B r vs E2 fz A := by (repeat (first | exact Rd.head | exact Rd.base (by assumption) | apply Rd.tail)); (first | done | fail)) (hvl : vs.length = sz) (hvc : vs.all isCell = true := by first | rfl | assumption | (simp only [List.all_cons, List.all_nil, Bool.and_eq_true, Bool.and_true, cInt, cBool, cStr, cPtr, cSl, cByte, true_and, and_true] at *; first | done | assumption | simp only [*, and_self]) | simp [isCell, byteV]) (hbd : (3 * (len + 1) + 2000) * by_ ≤ 281474976710656 ∨ (cap = 0 ∧ (len + 1) * by_ ≤ 281474976710656))
    (k : ∀ a' cap', Wl P B N fm ops rest (upd F d (.slice a' (len + 1) cap')) (own a' (len + 1) cap' sz (cs ++ vs) E :: M) K) :
    Wl P B N fm ops (⟨some d, .call ⟨.builtin .append, #[x, y], #[U, V]⟩, T, pos, aft, none⟩ :: rest) F A K :=
  Wl_append hd hx hy (.inl (by rw [h5.out]; simp)) hzl hby ho (src_sl hsrc (by omega) (by rw [List.drop_zero]; exact List.take_of_length_le (by omega))) (by omega) hvc hbd k

/-- append(x, y...): a row that can be read. -/
theorem Wl_appendS {E E2 E3 sz by_ len cap b off m c : Nat} {z cs vs l : List Value} {a : Option Addr} {M : List Asn} {fz : Nat × Nat} [h1 : TSl P U E] [h2 : TSize P E sz] [h3 : TBytes P E by_] [h4 : TZero P E z] [h5 : TSl P V E3]
    (hd : Nat.blt d N = true := by exact rfl) (hx : ev F x = .slice a len cap := by exact rfl) (hy : Ev F y (.slice (some ⟨b, off, none⟩) m c) := by (repeat (first | exact Ev.here | exact Ev.const | exact Ev.arg rfl | apply Ev.there rfl | exact Ev.none rfl | exact Ev.func | exact Ev.var)); (first | done | fail)) (hzl : z.length = sz := by exact rfl) (hby : 0 < by_ := by omega)
    (ho : Out (own a len cap sz cs E) A M := by (repeat (first | exact Out.head | apply Out.tail)); (first | done | fail)) (hsrc : Rd B b l E2 fz A := by (repeat (first | exact Rd.head | exact Rd.base (by assumption) | apply Rd.tail)); (first | done | fail)) (hol : off + m * sz ≤ l.length) (hvs : (l.drop off).take (m * sz) = vs) (hvc : vs.all isCell = true := by first | rfl | assumption | (simp only [List.all_cons, List.all_nil, Bool.and_eq_true, Bool.and_true, cInt, cBool, cStr, cPtr, cSl, cByte, true_and, and_true] at *; first | done | assumption | simp only [*, and_self]) | simp [isCell, byteV]) (hbd : (3 * (len + m) + 2000) * by_ ≤ 281474976710656 ∨ (cap = 0 ∧ (len + m) * by_ ≤ 281474976710656))
    (k : ∀ a' cap', Wl P B N fm ops rest (upd F d (.slice a' (len + m) cap')) (own a' (len + m) cap' sz (cs ++ vs) E :: M) K) :
    Wl P B N fm ops (⟨some d, .call ⟨.builtin .append, #[x, y], #[U, V]⟩, T, pos, aft, none⟩ :: rest) F A K :=
  Wl_append hd hx hy (.inl (by rw [h5.out]; simp)) hzl hby ho (src_sl hsrc hol hvs) (by subst hvs; simp; omega) hvc hbd k

/-- copy(x, y) into a block of one's own. -/
theorem Wl_copy {E E2 sz b off len cap m n : Nat} {l l' vs : List Value} {fz : Nat × Nat} {o' : Obj} {A' : List Asn} {vy : Value} [h1 : TSl P U E] [h2 : TSize P E sz]
    (hx : ev F x = .slice (some ⟨b, off, none⟩) len cap := by exact rfl) (hy : Ev F y vy := by (repeat (first | exact Ev.here | exact Ev.const | exact Ev.arg rfl | apply Ev.there rfl | exact Ev.none rfl | exact Ev.func | exact Ev.var)); (first | done | fail)) (hn : Nat.min m len = n) (hsrc : Src P B A sz vy m vs) (hvl : n * sz ≤ vs.length) (hvc : vs.all isCell = true := by first | rfl | assumption | (simp only [List.all_cons, List.all_nil, Bool.and_eq_true, Bool.and_true, cInt, cBool, cStr, cPtr, cSl, cByte, true_and, and_true] at *; first | done | assumption | simp only [*, and_self]) | simp [isCell, byteV])
    (hu : Upd b (.cells l.toArray E2 fz) o' A A' := by (repeat (first | exact Upd.head | apply Upd.tail)); (first | done | fail)) (ho : off + n * sz ≤ l.length) (hst : setL l off (vs.take (n * sz)) = l') (ho' : o' = .cells l'.toArray E2 fz) (hz : fz = (0, 0) := by exact rfl)
    (hd : Nat.blt d N = true := by exact rfl) (k : Wl P B N fm ops rest (upd F d (.int .i64 n)) A' K) :
    Wl P B N fm ops (⟨some d, .call ⟨.builtin .copy, #[x, y], #[U, V]⟩, T, pos, aft, none⟩ :: rest) F A K :=
  Wl_val rfl hd (fun w R hs => by
    subst hst ho' hz
    have hsA := hs.ent (Ent.drop R)
    obtain ⟨hm, hf⟩ := hsrc w hsA
    have hf' := hf n (by subst hn; exact Nat.min_le_left _ _)
    have hh := (hs.get (List.mem_cons_of_mem R hu.mem)).2
    have htl : (vs.take (n * sz)).length = n * sz := by simp; omega
    have hall : (vs.take (n * sz)).all isCell = true := by
      rw [List.all_eq_true] at hvc ⊢
      exact fun x hx => hvc x (List.mem_of_mem_take hx)
    obtain ⟨w', hw, hio, hsz, hne, hb⟩ := run_storeCells P (off := off) (vs.take (n * sz)) 0 w l hh (by rw [htl]; omega) (fun j _ _ => by simp) hall
    refine ⟨w', ?_, hu.sat hio hsz.symm hne hb hs⟩
    simp only [execOp, Sem.run_bind, resolve, invoke, builtin]
    have hcopy : (Builtin.copy_ #[U, V] T #[.slice (some ⟨b, off, none⟩) len cap, vy]).run P w = .ok (.int .i64 n) w' := by
      unfold Builtin.copy_
      simp [run_under w U (under_of_sl h1.out), hm, hn, run_sizeOf w E h2.out, hf', hw, goInt]
    simp [hx, hy.eq, hcopy]) k

theorem Wc_take {c : Code} {Q : Exit → Fr → List Asn → Prop} {y : Asn} {M : List Asn} (h : Out y A M := by (repeat (first | exact Out.head | apply Out.tail)); (first | done | fail)) (k : Wc P B N c F (y :: M) Q) : Wc P B N c F A Q := Wc_ent (Ent.perm h.perm) k
theorem Wl_take {l : List Oper} {y : Asn} {M : List Asn} (h : Out y A M := by (repeat (first | exact Out.head | apply Out.tail)); (first | done | fail)) (k : Wl P B N fm ops l F (y :: M) K) : Wl P B N fm ops l F A K := Wl_ent (Ent.perm h.perm) k
/-- A loop that is left in its first round. -/
theorem Wc_loop0 {c : Code} {Q : Exit → Fr → List Asn → Prop} (h : Wc P B N c F A (loopQ (fun _ _ => False) Q)) : Wc P B N (.loop c) F A Q := fun ro R a w hk hr hs =>
  wpIn_loop_once (wpIn_mono (h ro R a w hk hr hs) (fun e a' w' ⟨Ds, F', A', hd, h1, h2, h3⟩ => by
    cases e with
    | normal => exact h3.elim
    | _ => exact ⟨Ds, F', A', hd, h1, h2, h3⟩))
theorem setL_all (l cs : List Value) (h : l.length = cs.length) : setL l 0 cs = cs := by
  rw [setL_eq _ _ _ (by omega)]
  simp [← h]
/-- A row of cells is turned, told outright. -/
theorem Wl_storeRow {b off n : Nat} {l l' cs : List Value} {E U : TypeId} {fz : Nat × Nat} {o' : Obj} {A' : List Asn} [ht : TSize P U n]
    (hx : ev F x = .pointer (some ⟨b, off, none⟩) := by exact rfl) (hy : Ev F y (.agg cs.toArray) := by (repeat (first | exact Ev.here | exact Ev.const | exact Ev.arg rfl | apply Ev.there rfl | exact Ev.none rfl | exact Ev.func | exact Ev.var)); (first | done | fail)) (hu : Upd b (.cells l.toArray E fz) o' A A' := by (repeat (first | exact Upd.head | apply Upd.tail)); (first | done | fail)) (hv : cs.all isCell = true := by first | rfl | assumption | (simp only [List.all_cons, List.all_nil, Bool.and_eq_true, Bool.and_true, cInt, cBool, cStr, cPtr, cSl, cByte, true_and, and_true] at *; first | done | assumption | simp only [*, and_self]) | simp [isCell, byteV]) (hl : cs.length = n := by exact rfl)
    (ho : off + n ≤ l.length) (hs : setL l off cs = l') (ho' : o' = .cells l'.toArray E fz) (hz : fz = (0, 0) := by exact rfl)
    (k : Wl P B N fm ops rest F A' K) : Wl P B N fm ops (⟨none, .store U x y, T, pos, aft, none⟩ :: rest) F A K := by
  subst hs ho' hz
  exact Wl_storeAgg hx hy.eq hv hl hu ho (fun j _ _ => by simp) k

/-! a slice that can be read, wherever it lies -/
structure RdS (P : Program) (B : Base) (A : List Asn) (sz : Nat) (a : Option Addr) (m c : Nat) (vs : List Value) : Prop where
  len : vs.length = m * sz
  nil : a = none → m = 0
  cap : m ≤ c
  src : Src P B A sz (.slice a m c) m vs
theorem RdS.tail {sz m c : Nat} {a : Option Addr} {vs : List Value} {b : Asn} (h : RdS P B A sz a m c vs) : RdS P B (b :: A) sz a m c vs := ⟨h.len, h.nil, h.cap, h.src.tail⟩
theorem rds_sl {b off m c sz : Nat} {l vs : List Value} {E : TypeId} {fz : Nat × Nat} (hr : Rd B b l E fz A) (ho : off + m * sz ≤ l.length) (hv : (l.drop off).take (m * sz) = vs) (hc : m ≤ c) :
    RdS P B A sz (some ⟨b, off, none⟩) m c vs := ⟨by subst hv; simp; omega, by simp, hc, src_sl hr ho hv⟩
theorem rds_nil {c sz : Nat} : RdS P B A sz none 0 c [] := ⟨by simp, fun _ => rfl, Nat.zero_le _, src_nil⟩
theorem src_own {a : Option Addr} {len cap sz : Nat} {cs : List Value} {E : TypeId} (hl : cs.length = len * sz) : Src P B (own a len cap sz cs E :: A) sz (.slice a len cap) len cs := by
  intro w hs
  refine ⟨rfl, fun n hn => ?_⟩
  have hmn : n * sz ≤ len * sz := Nat.mul_le_mul_right _ hn
  rcases own_open hs.own with ⟨e1, e2, e3, e4, e5⟩ | ⟨r, spare, e1, e2, e3, e4⟩
  · subst e1 e2 e3 e4
    obtain rfl : n = 0 := Nat.le_zero.1 hn
    simp [Builtin.firstCells]
  · subst e1
    have hs2 : Sat B w (cb r (cs ++ spare) E :: A) := ⟨hs.size, hs.io, hs.base, e4⟩
    have hb := (hs2.get (List.mem_cons_self ..)).2
    have := run_loadCells P w (b := r) (off := 0) (n := n * sz) hb (by simp; omega)
    rw [List.drop_zero, List.take_append_of_le_length (by omega)] at this
    exact this

theorem src_out {a : Option Addr} {len cap sz : Nat} {cs : List Value} {E : TypeId} {M : List Asn} (h : Out (own a len cap sz cs E) A M) (hl : cs.length = len * sz) : Src P B A sz (.slice a len cap) len cs :=
  (src_own hl).weak fun w hs => hs.perm h.perm
theorem RdS.any {sz m c : Nat} {a : Option Addr} {vs : List Value} (h : RdS P B [] sz a m c vs) : RdS P B A sz a m c vs := ⟨h.len, h.nil, h.cap, h.src.weak fun w hs => hs.ent Ent.nil⟩
/-- A slice's end part. -/
theorem src_cut {b len cap k c' : Nat} {l vs : List Value} {E : TypeId} {fz : Nat × Nat} (hr : Rd B b l E fz A) (hv : l.take len = vs) (hl : len ≤ l.length) (hk : k ≤ len) (hc : len ≤ cap) :
    Src P B A 1 (.slice (some (if cap = k then ⟨b, 0, none⟩ else ⟨b, 0 + k * 1, none⟩)) (len - k) c') (len - k) (vs.drop k) := by
  by_cases h : cap = k
  · have : len - k = 0 := by omega
    rw [this, if_pos h]
    have hd : vs.drop k = [] := List.drop_eq_nil_of_le (by subst hv; simp; omega)
    rw [hd]
    exact src_sl (off := 0) hr (by omega) (by simp)
  · rw [if_neg h]
    refine src_sl hr (by omega) ?_
    subst hv
    rw [Nat.zero_add, Nat.mul_one, Nat.mul_one, List.drop_take]

theorem loads_of (w : World) (a : Addr) : ∀ (n i : Nat) (acc arr : Array Value), (loadCellsFrom a i n acc).run P w = .ok arr w →
    (∀ j, j < acc.size → arr[j]? = acc[j]?) ∧ ∀ j, j < n → ∃ v, (load (a.add (i + j))).run P w = .ok v w ∧ arr[acc.size + j]? = some v
  | 0, i, acc, arr, h => by
    simp [loadCellsFrom] at h; subst h
    exact ⟨fun _ _ => rfl, fun j hj => by omega⟩
  | n + 1, i, acc, arr, h => by
    simp only [loadCellsFrom, Sem.run_bind] at h
    have hl : ∃ v, (load (a.add i)).run P w = .ok v w := by
      rw [run_load]
      cases hc : w.cell? (a.add i) with
      | some v => exact ⟨v, rfl⟩
      | none =>
        rw [run_load, hc] at h
        simp only at h ⊢
        cases hf : w.farLoad P (a.add i) (Mode.plain == Mode.atomic) with
        | ok x => obtain ⟨v, l⟩ := x; exact ⟨v, rfl⟩
        | error e => rw [hf] at h; simp only [Result.andThen_halt] at h; cases h
    obtain ⟨v, hv⟩ := hl
    rw [hv, Result.andThen_ok] at h
    obtain ⟨h1, h2⟩ := loads_of w a n (i + 1) (acc.push v) arr h
    refine ⟨fun j hj => by rw [h1 j (by simp; omega)]; simp [Array.getElem?_push]; omega, fun j hj => ?_⟩
    cases j with
    | zero => exact ⟨v, by simpa using hv, by rw [Nat.add_zero, h1 _ (by simp)]; simp⟩
    | succ j =>
      obtain ⟨u, hu, ha⟩ := h2 j (by omega)
      exact ⟨u, by rw [show i + (j + 1) = i + 1 + j by omega]; exact hu, by rw [← ha]; congr 1; simp; omega⟩

theorem RdS.load {w : World} {p : Addr} {m c : Nat} {vs : List Value} (h : RdS P B A 1 (some p) m c vs) (hs : Sat B w A) {i : Nat} (hi : i < m) : ∃ v, vs[i]? = some v ∧ (load (p.add i)).run P w = .ok v w := by
  have hf := (h.src w hs).2 m (Nat.le_refl _)
  have hlen := h.len
  have ht : vs.take (m * 1) = vs := List.take_of_length_le (by omega)
  rw [ht] at hf
  have hl : (loadCellsFrom p 0 m #[]).run P w = .ok vs.toArray w := by simpa [Builtin.firstCells, loadCells] using hf
  obtain ⟨v, hv, ha⟩ := (loads_of w p m 0 #[] vs.toArray hl).2 i hi
  exact ⟨v, by simpa using ha, by simpa using hv⟩

theorem Wl_index_any {E n len cap : Nat} {p : Addr} {k : IntKind} {i : Int} [h1 : TSl P U E] [h2 : TSize P E n] (hd : Nat.blt d N = true := by exact rfl) (hx : ev F x = .slice (some p) len cap := by exact rfl) (hy : ev F y = .int k i := by exact rfl)
    (h0 : 0 ≤ i := by omega) (hl : i < len := by omega) (k' : Wl P B N fm ops rest (upd F d (.pointer (some (p.add (i.toNat * n))))) A K) :
    Wl P B N fm ops (⟨some d, .indexAddr U x y, T, pos, aft, none⟩ :: rest) F A K := Wl_valP hd (fun w => by
      simp [execOp, hx, hy, Instr.indexAt, asIntOf, run_under w U (under_of_sl h1.out), h0, hl, run_sizeOf w E h2.out]) k'
theorem Wl_load_any {m c i : Nat} {p : Addr} {v : Value} {vs : List Value} [ht : TCell P U] (hk : kindB fm (some d) (.load U x) ≠ 0 := by decide) (hd : Nat.blt d N = true := by exact rfl) (hx : ev F x = .pointer (some (p.add (i * 1))) := by exact rfl) (hr : RdS P B A 1 (some p) m c vs) (hi : i < m := by omega) (hv : vs[i]? = some v := by exact rfl)
    (k : Wl P B N fm ops rest (upd F d v) A K) : Wl P B N fm ops (⟨some d, .load U x, T, pos, aft, none⟩ :: rest) F A K :=
  Wl_rd hk hd (fun w R hs => by
    obtain ⟨u, hu, hl⟩ := hr.load (hs.ent (Ent.drop _)) hi
    rw [hv] at hu; obtain rfl := Option.some.inj hu
    rw [Nat.mul_one] at hx
    simp only [execOp, hx, Instr.loadAt, Instr.sureAddr, loadVar, Sem.run_bind, Sem.run_pure, Result.andThen_ok, run_isAgg w U ht.out]
    simp [hl]) k

/-! texts and bytes -/
def bytesOf (l : List UInt8) : ByteArray := ⟨l.toArray⟩
theorem run_bytes_push (P : Program) (w : World) (f : Value → ByteArray → Sem (ForInStep ByteArray)) (hf : ∀ c s, f (byteV c) s = pure (.yield (s.push c))) : ∀ (cs : List UInt8) (s : ByteArray),
    (forIn (cs.map byteV) s f).run P w = .ok ⟨(s.data.toList ++ cs).toArray⟩ w
  | [], s => by simp
  | c :: cs, s => by
    have ih := run_bytes_push P w f hf cs (s.push c)
    rw [List.map_cons, List.forIn_cons, hf]
    simp only [pure_bind]
    rw [ih]
    simp [ByteArray.push]

theorem Wl_bytes_str {E len cap : Nat} {a : Option Addr} {cs : List UInt8} [h1 : TSl P U E] [h2 : TInt P E .u8] [h3 : TStr P V] (hk : kindB fm (some d) (.convert U V x) ≠ 0 := by decide) (hd : Nat.blt d N = true := by exact rfl) (hx : ev F x = .slice a len cap := by exact rfl)
    (hsrc : Src P B A 1 (.slice a len cap) len (cs.map byteV)) (hl : cs.length = len)
    (k : Wl P B N fm ops rest (upd F d (.string (bytesOf cs))) A K) : Wl P B N fm ops (⟨some d, .convert U V x, T, pos, aft, none⟩ :: rest) F A K :=
  Wl_rd hk hd (fun w R hs => by
    obtain ⟨_, hf⟩ := hsrc w (hs.ent (Ent.drop R))
    have hf' := hf len (Nat.le_refl _)
    have ht : (cs.map byteV).take (len * 1) = cs.map byteV := List.take_of_length_le (by simp [hl])
    rw [ht] at hf'
    have hc : (Conv.bytesToString (.slice a len cap)).run P w = .ok (.string (bytesOf cs)) w := by
      unfold Conv.bytesToString
      cases a with
      | none =>
        have : (#[] : Array Value) = (cs.map byteV).toArray := by simpa [Builtin.firstCells] using hf'
        have hcs : cs = [] := by cases cs with
          | nil => rfl
          | cons c cs => simp at this
        subst hcs; rfl
      | some p =>
        have hl' : (loadCells p len).run P w = .ok (cs.map byteV).toArray w := by simpa [Builtin.firstCells] using hf'
        simp only [Sem.run_bind, hl', Result.andThen_ok]
        rw [List.forIn_toArray, run_bytes_push P w _ (fun c s => by simp [byteV]) cs ByteArray.empty]
        simp [bytesOf]
    have hV : P.underlying V = some .string := under_of_str h3.out
    simp [execOp, hx, convert, run_under w U (under_of_sl h1.out), run_under w V hV, run_under w E (under_of_int h2.out), hc]) k

theorem Wl_bytes_strF {M : List Asn} {Ls : List Nat} {E len cap : Nat} {a : Option Addr} {cs : List UInt8} [h1 : TSl P U E] [h2 : TInt P E .u8] [h3 : TStr P V] (hd : Nat.blt d N = true := by exact rfl) (hx : ev F x = .slice a len cap := by exact rfl)
    (hsrc : Src P B M 1 (.slice a len cap) len (cs.map byteV)) (hl : cs.length = len)
    (k : Wl P B N (some (M, Ls)) ops rest (upd F d (.string (bytesOf cs))) A K) : Wl P B N (some (M, Ls)) ops (⟨some d, .convert U V x, T, pos, aft, none⟩ :: rest) F A K :=
  Wl_rdF hd (fun w R hs => by
    obtain ⟨_, hf⟩ := hsrc w (hs.ent (Ent.drop R))
    have hf' := hf len (Nat.le_refl _)
    have ht : (cs.map byteV).take (len * 1) = cs.map byteV := List.take_of_length_le (by simp [hl])
    rw [ht] at hf'
    have hc : (Conv.bytesToString (.slice a len cap)).run P w = .ok (.string (bytesOf cs)) w := by
      unfold Conv.bytesToString
      cases a with
      | none =>
        have : (#[] : Array Value) = (cs.map byteV).toArray := by simpa [Builtin.firstCells] using hf'
        have hcs : cs = [] := by cases cs with
          | nil => rfl
          | cons c cs => simp at this
        subst hcs; rfl
      | some p =>
        have hl' : (loadCells p len).run P w = .ok (cs.map byteV).toArray w := by simpa [Builtin.firstCells] using hf'
        simp only [Sem.run_bind, hl', Result.andThen_ok]
        rw [List.forIn_toArray, run_bytes_push P w _ (fun c s => by simp [byteV]) cs ByteArray.empty]
        simp [bytesOf]
    have hV : P.underlying V = some .string := under_of_str h3.out
    simp [execOp, hx, convert, run_under w U (under_of_sl h1.out), run_under w V hV, run_under w E (under_of_int h2.out), hc]) k
end ops
end Go.Sl
