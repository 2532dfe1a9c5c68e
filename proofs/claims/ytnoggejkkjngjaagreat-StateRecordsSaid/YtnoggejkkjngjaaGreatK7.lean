/- From what a claim gives of its arguments to what the specs want; and back. No program in sight. -/
import Derived.Test.YtnoggejkkjngjaaGreatK6
import Derived.ProofKit
import Derived.OpenShut
import Derived.ShutString
import Derived.ChangeOld
import Derived.Below
import Derived.Carry
import Derived.Deep.Slices
import Derived.SizedLaws
set_option linter.unusedVariables false
namespace Go.Sl
open Go.ChangeShapes Go.WideShapes Go.RowKit

def baseOf (W : World) : Base := ⟨W.heap.size, (· < W.heap.size), fun _ h => h, fun b => W.heap[b]?, W⟩
theorem sat_base (W : World) : Sat (baseOf W) W [fun h => ∀ x, h x = none] :=
  ⟨Nat.le_refl _, Io.refl W, fun _ _ => rfl, fun _ => none, fun _ => rfl, by simp, trivial⟩
theorem Sat.below {W w' : World} {L : List Asn} (h : Sat (baseOf W) w' L) : Below W.heap.size W w' :=
  ⟨h.io.1, h.io.2.1, h.io.2.2, h.size, fun k hk => h.base k hk⟩
theorem Fspec.below {P : Program} {W : World} {f : FuncId} {args : Array Value} {post : Value → List Asn → Prop} {u : Value} (h : Fspec P (baseOf W) f args [] post) (hp : ∀ v A', post v A' → v = u) :
    Calls P f args W fun e w' => e = .returned u ∧ Below W.heap.size W w' :=
  (h _ W (sat_base W)).mono fun e w' ⟨v, A', he, hs, hq⟩ => ⟨by rw [he, hp v A' hq], hs.below⟩

def Opens (P : Program) (W : World) (t : TypeId) (φ : List Value → Prop) : Prop :=
  ∀ (H : Type) (enc : TypeId × Value → H) (fuel : Nat) (cs : List Value) (x : DataW H × List MemPlace), DataW.trod enc P W 0 (fun _ => true) true fuel t cs = some x → (∀ n ∈ x.1.weights P t, n ≤ reachBytes) → φ cs
section
variable {P : Program} {W : World} {t : TypeId}
theorem opens_int {k : IntKind} (ht : P.underlying t = some (.int k)) : Opens P W t (fun cs => ∃ n, cs = [.int k n] ∧ (Lit.int k n).wf = true) := fun H enc fuel cs x h _ => by
  obtain ⟨n, h1, _, h2⟩ := DataW.trod_int ht h; exact ⟨n, h1, h2⟩
theorem opens_bool (ht : P.underlying t = some .bool) : Opens P W t (fun cs => ∃ b, cs = [.bool b]) := fun H enc fuel cs x h _ => by
  obtain ⟨n, h1, _⟩ := DataW.trod_bool ht h; exact ⟨n, h1⟩
theorem opens_string (ht : P.underlying t = some .string) : Opens P W t (fun cs => ∃ s : ByteArray, cs = [.string s] ∧ s.size ≤ 140737488351232) := fun H enc fuel cs x h hw => by
  obtain ⟨n, h1, h3, h2⟩ := DataW.trod_string ht h
  refine ⟨n, h1, ?_⟩
  have := hw n.size (by rw [h3]; simp [DataW.weights])
  unfold reachBytes at this; omega
theorem Opens.mono {φ ψ : List Value → Prop} (h : Opens P W t φ) (k : ∀ cs, φ cs → ψ cs) : Opens P W t ψ := fun H enc fuel cs x hx hw => k cs (h H enc fuel cs x hx hw)

/-- The fields of a struct, one behind the other. -/
def Parts : List (List Value → Prop) → List Value → Prop
  | [], cs => cs = []
  | φ :: φs, cs => ∃ c r, cs = c ++ r ∧ φ c ∧ Parts φs r
inductive OpF (P : Program) (W : World) : Nat → List Field → List (List Value → Prop) → Nat → Prop
  | nil {off : Nat} : OpF P W off [] [] off
  | cons {off n tot : Nat} {f : Field} {fs : List Field} {φ : List Value → Prop} {φs : List (List Value → Prop)} (ho : f.offset = off) (hs : P.cellsOf f.type = n) (h : Opens P W f.type φ) (r : OpF P W (off + n) fs φs tot) : OpF P W off (f :: fs) (φ :: φs) tot
theorem OpF.parts {H : Type} {enc : TypeId × Value → H} {n : Nat} {cs : List Value} {tot off : Nat} {fs : List Field} {φs : List (List Value → Prop)} (h : OpF P W off fs φs tot)
    (hl : cs.length = tot) (hf : ∀ f ∈ fs, ∃ y, DataW.trod enc P W 0 (fun _ => true) true n f.type ((cs.drop f.offset).take (P.cellsOf f.type)) = some y ∧ ∀ n ∈ y.1.weights P f.type, n ≤ reachBytes) : Parts φs (cs.drop off) := by
  induction h with
  | nil => rw [← hl]; simp [Parts]
  | @cons off m tot f fs φ φs ho hs h r ih =>
    obtain ⟨y, hy, hyw⟩ := hf f (List.mem_cons_self ..)
    refine ⟨(cs.drop off).take m, cs.drop (off + m), by rw [← List.drop_drop, List.take_append_drop], ?_, ih hl (fun g hg => hf g (List.mem_cons_of_mem _ hg))⟩
    rw [ho, hs] at hy
    exact h _ _ _ _ _ hy hyw
theorem opens_struct {fs : Array Field} {φs : List (List Value → Prop)} {tot : Nat} (ht : P.underlying t = some (.struct fs)) (hC : P.cellsOf t = tot) (hF : OpF P W 0 fs.toList φs tot) : Opens P W t (Parts φs) := fun H enc fuel cs x h hw => by
  obtain ⟨xs, n, _, hx, hl, hlen, hf⟩ := DataW.trod_struct ht h
  subst hx
  have := hF.parts (enc := enc) (n := n) (hl.trans hC) (fun f hf' => by
    obtain ⟨i, hi⟩ := List.getElem?_of_mem hf'
    have hi' : fs[i]? = some f := by simpa using hi
    have hlt : i < xs.length := by
      rw [hlen]
      exact (Array.getElem?_eq_some_iff.1 hi').1
    refine ⟨xs[i], by rw [hf i f hi', List.getElem?_eq_getElem hlt], fun n hn => hw n ?_⟩
    simp only [DataW.weights, ht]
    exact DataW.weights_mem_each (j := i) (by rw [List.getElem?_map, hi]; rfl) (by rw [List.getElem?_map, List.getElem?_eq_getElem hlt]; rfl) n hn)
  simpa using this

theorem cells_flat {a : Addr} {sz : Nat} {R : Nat → List Value} : ∀ (len : Nat), (∀ i, i < len → (R i).length = sz ∧ ∀ r, r < sz → W.cell? (a.add (i * sz + r)) = (R i)[r]?) →
    ((List.range len).map R).flatten.length = len * sz ∧ ∀ j, j < len * sz → W.cell? (a.add j) = (((List.range len).map R).flatten)[j]?
  | 0, _ => by simp
  | len + 1, h => by
    obtain ⟨h1, h2⟩ := cells_flat len (fun i hi => h i (by omega))
    obtain ⟨h3, h4⟩ := h len (by omega)
    have hs : (len + 1) * sz = len * sz + sz := by rw [Nat.add_mul, Nat.one_mul]
    rw [List.range_succ, List.map_append, List.flatten_append]
    simp only [List.map_cons, List.map_nil, List.flatten_cons, List.flatten_nil, List.append_nil]
    refine ⟨by rw [List.length_append, h1, h3, hs], fun j hj => ?_⟩
    by_cases hjl : j < len * sz
    · rw [List.getElem?_append_left (by omega)]; exact h2 j hjl
    · rw [List.getElem?_append_right (by omega), h1]
      have := h4 (j - len * sz) (by omega)
      rw [← this]; congr 2; omega
theorem rds_cells {a : Addr} {m c sz : Nat} {vs : List Value} (hl : vs.length = m * sz) (hc : m ≤ c) (h : ∀ j, j < m * sz → W.cell? (a.add j) = vs[j]?) : RdS P (baseOf W) [] sz (some a) m c vs := by
  refine ⟨hl, by simp, hc, fun w hs => ⟨rfl, fun n hn => ?_⟩⟩
  have hle : n * sz ≤ m * sz := Nat.mul_le_mul_right _ hn
  have hlen : (vs.take (n * sz)).length = n * sz := by simp; omega
  have := run_loadCellsFrom P w a (vs.take (n * sz)) 0 #[] (fun j v hj => by
    rw [List.getElem?_take] at hj
    split at hj
    · rename_i hjn
      have hW := h j (by omega)
      rw [hj] at hW
      rw [Nat.zero_add]
      have hlt : a.block < W.heap.size := by
        have hb : (a.add j).block = a.block := by unfold Addr.add; split <;> rfl
        unfold World.cell? at hW
        rw [hb] at hW
        rcases Nat.lt_or_ge a.block W.heap.size with h' | h'
        · exact h'
        · rw [Array.getElem?_eq_none h'] at hW; cases hW
      have hbl : w.heap[(a.add j).block]? = W.heap[(a.add j).block]? := by
        have hb : (a.add j).block = a.block := by unfold Addr.add; split <;> rfl
        rw [hb]; exact hs.base _ hlt
      rw [World.cell?_of_block hbl]; exact hW
    · cases hj)
  rw [hlen] at this
  simpa [Builtin.firstCells, loadCells] using this
theorem weightsAll_mem {H : Type} {e : TypeId} {n : Nat} : ∀ {ds : List (DataW H)} {d : DataW H}, d ∈ ds → n ∈ d.weights P e → n ∈ DataW.weightsAll P e ds
  | d0 :: ds, d, h, hn => by
    simp only [DataW.weightsAll, List.mem_append]
    rcases List.mem_cons.1 h with rfl | h
    · exact .inl hn
    · exact .inr (weightsAll_mem h hn)
/-- A slice: its rows. -/
def SlR (P : Program) (W : World) (sz bt : Nat) (φ : List Value → Prop) (cs : List Value) : Prop :=
  ∃ a m c, cs = [.slice a m c] ∧ (m ≤ 9223372036854775807 ∧ m * bt ≤ 140737488351232) ∧ ∃ rows : List (List Value), rows.length = m ∧ (∀ r ∈ rows, φ r ∧ r.length = sz) ∧ RdS P (baseOf W) [] sz a m c rows.flatten
theorem opens_slice {e : TypeId} {sz bt : Nat} {φ : List Value → Prop} (ht : P.underlying t = some (.slice e)) (hz : P.cellsOf e = sz) (hbt : P.bytesOf e = bt) (he : Opens P W e φ) : Opens P W t (SlR P W sz bt φ) := fun H enc fuel cs x h hw => by
  rcases Go.Deep.open_slice ht h with ⟨rfl, _⟩ | ⟨a, len, cap, m, n, D, Pl, rfl, hb, hl, hm, hmm, hxx, hx⟩
  · exact ⟨none, 0, 0, rfl, ⟨by omega, by simp⟩, [], rfl, by simp, rds_nil⟩
  · simp only [if_true] at hmm
    subst hmm
    rw [hz] at hx
    subst hxx
    have hw1 := hw ((((List.range len).map D).length + ((List.range (m - len)).map fun j => D (len + j)).length) * P.bytesOf e) (by simp only [DataW.weights, ht]; exact List.mem_cons_self ..)
    rw [hbt] at hw1
    simp only [List.length_map, List.length_range, reachBytes] at hw1
    have hw2 : len * bt ≤ 140737488351232 := by
      have : len * bt ≤ (len + (m - len)) * bt := Nat.mul_le_mul_right _ (by omega)
      omega
    obtain ⟨R, hR⟩ := Go.Deep.choose_lt (α := List Value) (n := len) (p := fun i cs' => W.cells? 0 (a.add (i * sz)) sz = some cs' ∧ φ cs') (fun i hi => by
      obtain ⟨cs', h1, h2⟩ := hx i (by omega)
      refine ⟨cs', h1, he _ _ _ _ _ h2 fun n hn => hw n ?_⟩
      simp only [DataW.weights, ht]
      exact List.mem_cons_of_mem _ (List.mem_append_left _ (weightsAll_mem (List.mem_map.2 ⟨i, List.mem_range.2 hi, rfl⟩) hn)))
    have hfl := cells_flat (W := W) (a := a) (sz := sz) (R := R) len (fun i hi => by
      obtain ⟨_, h2, h3⟩ := World.cells?_some (hR i hi).1
      exact ⟨h2, fun r hr => by rw [← h3 r hr, Go.Deep.add_add]⟩)
    refine ⟨some a, len, m, rfl, ⟨by unfold maxLen at hm; omega, hw2⟩, (List.range len).map R, by simp, ?_, rds_cells hfl.1 hl hfl.2⟩
    intro r hr
    obtain ⟨i, hi, rfl⟩ := List.mem_map.1 hr
    have hi' : i < len := by simpa using hi
    obtain ⟨_, h2, _⟩ := World.cells?_some (hR i hi').1
    exact ⟨(hR i hi').2, h2⟩
def BytesR (P : Program) (W : World) (cs : List Value) : Prop := ∃ a m c, ∃ bs : List UInt8, cs = [.slice a m c] ∧ (m ≤ 9223372036854775807 ∧ m * 1 ≤ 140737488351232) ∧ RdS P (baseOf W) [] 1 a m c (bs.map byteV)
theorem byteV_of {n : Int} (h : (Lit.int .u8 n).wf = true) : ∃ b : UInt8, Value.int .u8 n = byteV b := by
  have h2 : 0 ≤ n ∧ n ≤ 255 := by simpa [Lit.wf, IntKind.min, IntKind.max, IntKind.signed, IntKind.bits] using h
  refine ⟨UInt8.ofNat n.toNat, ?_⟩
  unfold byteV
  have : (UInt8.ofNat n.toNat).toNat = n.toNat := by simp [UInt8.toNat_ofNat']; omega
  rw [this]
  congr 1; omega
theorem opens_bytes {e : TypeId} (ht : P.underlying t = some (.slice e)) (hz : P.cellsOf e = 1) (hbt : P.bytesOf e = 1) (he : P.underlying e = some (.int .u8)) : Opens P W t (BytesR P W) :=
  (opens_slice ht hz hbt (opens_int he)).mono fun cs ⟨a, m, c, h1, h2, rows, h3, h4, h5⟩ => by
    have hbs : ∃ bs : List UInt8, rows.flatten = bs.map byteV := by
      clear h3 h5
      induction rows with
      | nil => exact ⟨[], rfl⟩
      | cons r rows ih =>
        obtain ⟨bs, hbs⟩ := ih (fun x hx => h4 x (List.mem_cons_of_mem _ hx))
        obtain ⟨⟨n, rfl, hn⟩, _⟩ := h4 r (List.mem_cons_self ..)
        obtain ⟨b, hb⟩ := byteV_of hn
        exact ⟨b :: bs, by simp [hbs, hb]⟩
    obtain ⟨bs, hbs⟩ := hbs
    exact ⟨a, m, c, bs, h1, h2, hbs ▸ h5⟩

/-! arguments -/
variable {H : Type} {enc : TypeId × Value → H} {v : Value} {d : DataW H} {p : List MemPlace} {r : Reach} {b0 : Nat} {φ : List Value → Prop}
theorem arg_agg {fs : Array Field} (ht : P.underlying t = some (.struct fs)) (hv : Value.okWide P W r b0 t v) (h : DataW.Trod enc P W 0 (fun _ => true) true t v d p) (hw : ∀ n ∈ d.weights P t, n ≤ reachBytes) (ho : Opens P W t φ) : ∃ cs : List Value, v = .agg cs.toArray ∧ φ cs := by
  obtain ⟨cs, rfl, _⟩ := okWide_struct ht hv
  obtain ⟨fuel, hf⟩ := h
  exact ⟨cs.toList, by simp, by simpa [Value.cells] using ho _ _ _ _ _ hf hw⟩
theorem arg_slice {e : TypeId} (ht : P.underlying t = some (.slice e)) (hv : Value.okWide P W r b0 t v) (h : DataW.Trod enc P W 0 (fun _ => true) true t v d p) (hw : ∀ n ∈ d.weights P t, n ≤ reachBytes) (ho : Opens P W t φ) : φ [v] := by
  obtain ⟨a, l, c, rfl⟩ := okWide_slice ht hv
  obtain ⟨fuel, hf⟩ := h
  simpa [Value.cells] using ho _ _ _ _ _ hf hw
theorem okW {b1 : Nat} (h : Value.okWide P W .any b0 t v) : Value.okWide P W .any b1 t v := h
end
end Go.Sl
/- Package pos: which tables are right; where an index is on the branch. Conditions: none but the kinds' bounds. -/
set_option maxHeartbeats 8000000
set_option linter.unusedVariables false
set_option linter.unusedSimpArgs false
set_option maxRecDepth 100000
namespace Go.Proofs.YtnoggejkkjngjaaGreat
open Go Go.Sl
attribute [local irreducible] Go.Sl.Wl Go.Sl.Wc Go.Sl.thenQ Go.Sl.blkQ Go.Sl.loopQ Go.Sl.Fspec

theorem flatMap_row {α : Type} {f : α → List Value} {sz : Nat} : ∀ {l : List α} {j : Nat} {q : α}, (∀ x ∈ l, (f x).length = sz) → l[j]? = some q → ((l.flatMap f).drop (j * sz)).take sz = f q
  | x :: l, 0, q, h, hj => by
    simp at hj; subst hj
    rw [List.flatMap_cons, Nat.zero_mul, List.drop_zero, List.take_append_of_le_length (by rw [h x (List.mem_cons_self ..)]; omega), List.take_of_length_le (by rw [h x (List.mem_cons_self ..)]; omega)]
  | x :: l, j + 1, q, h, hj => by
    have hx := h x (List.mem_cons_self ..)
    have := flatMap_row (l := l) (j := j) (q := q) (fun y hy => h y (List.mem_cons_of_mem _ hy)) (by simpa using hj)
    rw [List.flatMap_cons, show (j + 1) * sz = (f x).length + j * sz by rw [hx, Nat.add_mul, Nat.one_mul]; omega, ← List.drop_drop, List.drop_left]
    exact this
theorem flatMap_cell {α : Type} {f : α → List Value} {sz : Nat} {l : List α} {j r : Nat} {q : α} {v : Value} (h : ∀ x ∈ l, (f x).length = sz) (hj : l[j]? = some q) (hr : r < sz) (hv : (f q)[r]? = some v) : (l.flatMap f)[j * sz + r]? = some v := by
  have h1 := flatMap_row h hj
  rw [← List.getElem?_drop, ← hv, ← h1, List.getElem?_take, if_pos hr]
structure Ep where
  master : Int
  cut : Int
  forced : Bool
def epC (e : Ep) : List Value := [.int .i64 e.master, .int .i64 e.cut, .bool e.forced]
def epsC (t : List Ep) : List Value := t.flatMap epC
theorem epsC_row {t : List Ep} {k : Nat} {e : Ep} (h : t[k]? = some e) : ((epsC t).drop (k * 3)).take 3 = epC e := flatMap_row (fun _ _ => rfl) h
theorem epsC_cell {t : List Ep} {k r : Nat} {e : Ep} {v : Value} (h : t[k]? = some e) (hr : r < 3) (hv : (epC e)[r]? = some v) : (epsC t)[k * 3 + r]? = some v := flatMap_cell (fun _ _ => rfl) h hr hv
theorem epsC_all (t : List Ep) : (epsC t).all isCell = true := by
  induction t with
  | nil => rfl
  | cons e t ih => simp only [epsC] at ih; simp [epsC, epC, ih, isCell]
def Ep.fair (e : Ep) : Prop := 1 ≤ e.master ∧ e.master ≤ 4 ∧ 0 ≤ e.cut ∧ e.cut ≤ 512
instance (e : Ep) : Decidable e.fair := by unfold Ep.fair; infer_instance
/-- Which tables are right. -/
def rightT (t : List Ep) : Bool := match t with
  | [] => false
  | e :: l => decide ((e :: l).length ≤ 64) && decide (e.cut = 0) && !e.forced && (e :: l).all (fun x => decide x.fair)
theorem rightT_out {t : List Ep} (h : rightT t = true) : 0 < t.length ∧ t.length ≤ 64 ∧ (∀ e ∈ t, e.fair) ∧ ∃ e, t[0]? = some e ∧ e.cut = 0 ∧ e.forced = false := by
  cases t with
  | nil => simp [rightT] at h
  | cons e l =>
    simp only [rightT, Bool.and_eq_true, decide_eq_true_eq, Bool.not_eq_true', List.all_eq_true] at h
    exact ⟨by simp, h.1.1.1, h.2, e, rfl, h.1.1.2, h.1.2⟩
/-- The epoch that an index is of. -/
def atE (t : List Ep) (n : Nat) (i : Int) : Nat := match n with
  | 0 => 0
  | n + 1 => match t[n]? with
    | some e => if e.cut < i then n + 1 else atE t n i
    | none => atE t n i
/-- The position on the branch of an index. -/
def atT (t : List Ep) (i : Int) : Int × Int :=
  if rightT t = false ∨ i < 1 ∨ 512 < i then (0, 0) else if atE t t.length i = 0 then (0, 0) else (((atE t t.length i : Nat) : Int), i)
theorem int_succ (k : Nat) : Value.int .i64 ((k : Int) + 1) = Value.int .i64 ((k + 1 : Nat) : Int) := by simp
theorem addr_two (q : Addr) (a b : Nat) : (q.add a).add b = q.add (a + b) := by
  unfold Addr.add
  by_cases ha : a = 0
  · subst ha; simp
  · by_cases hb : b = 0
    · subst hb; simp [ha]
    · simp [ha, hb]; omega
theorem RdS.under {P : Program} {B : Base} {A : List Asn} {x : Asn} {sz m c : Nat} {a : Option Addr} {vs : List Value} (h : RdS P B A sz a m c vs) : RdS P B (x :: A) sz a m c vs :=
  ⟨h.len, h.nil, h.cap, h.src.weak fun w hs => hs.ent (Ent.drop x)⟩
section specs
variable {B : Base}
theorem right_spec (A0 : List Asn) (t : List Ep) (a : Option Addr) (c : Nat) (h : RdS Tryz.prog B A0 3 a t.length c (epsC t)) (hsz : t.length ≤ 1000000) :
    Fspec Tryz.prog B 34 #[.slice a t.length c] A0 (fun v A' => v = .bool (rightT t) ∧ A' = A0) := by
  refine spec_of (args := [_]) Tryz.func34 rfl rfl rfl ?_
  cases t with
  | nil =>
    repeat' (first
      | refine zi ?_
      | refine zK ?_
      | refine zQ (h := ?_)
      | refine zU (h := ?_)
      | refine zj ?_
      | refine zR ?_
      | refine zW ?_
      | refine zN ?_
      | refine zV ?_
      | refine ze ?_
      | refine zP ?_
      | refine zY ?_
      | refine zS rfl ?_
      | refine zd ?_
      | refine zX ?_
      | refine zO ?_
      | refine zT ?_
      | refine zL ?_
      | (refine zC (id := 0) ?_; intro K hK; refine zH (k := ?_); (refine zD (hK _ _ ?_); clear hK K))
      | (refine zC (id := 1) ?_; intro K hK; refine zF (k := ?_); refine zn (k' := ?_); refine z6 (k' := ?_); refine zF (k := ?_); ((first | (refine zA (k := ?_); refine zF (k := ?_)) | refine zE (k := ?_) | ((refine zG (yes := (fun ht => ?_)) (no := (fun ht => ?_)) <;> (try simp at ht) <;> (try (exfalso; omega))) <;> (first | (refine zA (k := ?_); refine zF (k := ?_)) | refine zE (k := ?_))))) <;> (((first | (refine zA (k := ?_); refine zn (k' := ?_)) | refine zE (k := ?_) | ((refine zG (yes := (fun ht => ?_)) (no := (fun ht => ?_)) <;> (try simp at ht) <;> (try (exfalso; omega))) <;> (first | (refine zA (k := ?_); refine zn (k' := ?_)) | refine zE (k := ?_))))) <;> (((first | (refine zA (k := ?_); refine z0 (k' := ?_)) | refine zE (k := ?_) | ((refine zG (yes := (fun ht => ?_)) (no := (fun ht => ?_)) <;> (try simp at ht) <;> (try (exfalso; omega))) <;> (first | (refine zA (k := ?_); refine z0 (k' := ?_)) | refine zE (k := ?_))))) <;> ((first | refine zZ (k := ?_) | refine za (k := ?_) | refine zg (k := ?_)); refine zF (k := ?_); ((first | (refine zA (k := ?_); refine zF (k := ?_)) | refine zE (k := ?_) | ((refine zG (yes := (fun ht => ?_)) (no := (fun ht => ?_)) <;> (try simp at ht) <;> (try (exfalso; omega))) <;> (first | (refine zA (k := ?_); refine zF (k := ?_)) | refine zE (k := ?_))))) <;> (((first | (refine zA (k := ?_); refine z9 (k' := ?_)) | refine zE (k := ?_) | ((refine zG (yes := (fun ht => ?_)) (no := (fun ht => ?_)) <;> (try simp at ht) <;> (try (exfalso; omega))) <;> (first | (refine zA (k := ?_); refine z9 (k' := ?_)) | refine zE (k := ?_))))) <;> (((first | (refine zA (k := ?_); refine zB (k := ?_)) | refine zE (k := ?_) | ((refine zG (yes := (fun ht => ?_)) (no := (fun ht => ?_)) <;> (try simp at ht) <;> (try (exfalso; omega))) <;> (first | (refine zA (k := ?_); refine zB (k := ?_)) | refine zE (k := ?_))))) <;> (((first | (refine zA (k := ?_); refine zM (k := ?_)) | refine zE (k := ?_) | ((refine zG (yes := (fun ht => ?_)) (no := (fun ht => ?_)) <;> (try simp at ht) <;> (try (exfalso; omega))) <;> (first | (refine zA (k := ?_); refine zM (k := ?_)) | refine zE (k := ?_))))) <;> (((first | (refine zA (k := ?_); refine z8 (k' := ?_)) | refine zE (k := ?_) | ((refine zG (yes := (fun ht => ?_)) (no := (fun ht => ?_)) <;> (try simp at ht) <;> (try (exfalso; omega))) <;> (first | (refine zA (k := ?_); refine z8 (k' := ?_)) | refine zE (k := ?_))))) <;> ((first | refine zZ (k := ?_) | refine za (k := ?_) | refine zg (k := ?_)); refine zF (k := ?_); ((first | (refine zA (k := ?_); refine zF (k := ?_)) | refine zE (k := ?_) | ((refine zG (yes := (fun ht => ?_)) (no := (fun ht => ?_)) <;> (try simp at ht) <;> (try (exfalso; omega))) <;> (first | (refine zA (k := ?_); refine zF (k := ?_)) | refine zE (k := ?_))))) <;> (((first | (refine zA (k := ?_); refine z9 (k' := ?_)) | refine zE (k := ?_) | ((refine zG (yes := (fun ht => ?_)) (no := (fun ht => ?_)) <;> (try simp at ht) <;> (try (exfalso; omega))) <;> (first | (refine zA (k := ?_); refine z9 (k' := ?_)) | refine zE (k := ?_))))) <;> (((first | (refine zA (k := ?_); refine zB (k := ?_)) | refine zE (k := ?_) | ((refine zG (yes := (fun ht => ?_)) (no := (fun ht => ?_)) <;> (try simp at ht) <;> (try (exfalso; omega))) <;> (first | (refine zA (k := ?_); refine zB (k := ?_)) | refine zE (k := ?_))))) <;> (((first | (refine zA (k := ?_); refine zM (k := ?_)) | refine zE (k := ?_) | ((refine zG (yes := (fun ht => ?_)) (no := (fun ht => ?_)) <;> (try simp at ht) <;> (try (exfalso; omega))) <;> (first | (refine zA (k := ?_); refine zM (k := ?_)) | refine zE (k := ?_))))) <;> ((first | refine zZ (k := ?_) | refine za (k := ?_) | refine zg (k := ?_)); (refine zD (hK _ _ ?_); clear hK K))))))))))))))
      | (refine zC (id := 2) ?_; intro K hK; refine zH (k := ?_); (refine zD (hK _ _ ?_); clear hK K))
      | (refine zc (ht := (fun ht => ?_)) (hf := (fun ht => ?_)) <;> (try simp at ht) <;> (try (exfalso; omega))))
    exact ⟨Or.inr rfl, _, A0, Ent.refl _, res1 rfl rfl, rfl, rfl⟩
  | cons e l =>
    obtain ⟨q, rfl⟩ : ∃ q, a = some q := by
      cases a with
      | none => have := h.nil rfl; simp at this
      | some q => exact ⟨q, rfl⟩
    have hpos : 0 < (e :: l).length := by simp
    generalize ht : e :: l = t at h hsz hpos ⊢
    have he0 : t[0]? = some e := by rw [← ht]; rfl
    have hR : rightT t = (decide (t.length ≤ 64) && decide (e.cut = 0) && !e.forced && t.all (fun x => decide x.fair)) := by rw [← ht]; rfl
    rw [hR]
    by_cases h64 : t.length ≤ 64
    rotate_left
    · repeat' (first
        | refine zi ?_
        | refine zK ?_
        | refine zQ (h := ?_)
        | refine zU (h := ?_)
        | refine zj ?_
        | refine zR ?_
        | refine zW ?_
        | refine zN ?_
        | refine zV ?_
        | refine ze ?_
        | refine zP ?_
        | refine zY ?_
        | refine zS rfl ?_
        | refine zd ?_
        | refine zX ?_
        | refine zO ?_
        | refine zT ?_
        | refine zL ?_
        | (refine zC (id := 0) ?_; intro K hK; refine zH (k := ?_); (refine zD (hK _ _ ?_); clear hK K))
        | (refine zC (id := 1) ?_; intro K hK; refine zF (k := ?_); refine zn (k' := ?_); refine z6 (k' := ?_); refine zF (k := ?_); ((first | (refine zA (k := ?_); refine zF (k := ?_)) | refine zE (k := ?_) | ((refine zG (yes := (fun ht => ?_)) (no := (fun ht => ?_)) <;> (try simp at ht) <;> (try (exfalso; omega))) <;> (first | (refine zA (k := ?_); refine zF (k := ?_)) | refine zE (k := ?_))))) <;> (((first | (refine zA (k := ?_); refine zn (k' := ?_)) | refine zE (k := ?_) | ((refine zG (yes := (fun ht => ?_)) (no := (fun ht => ?_)) <;> (try simp at ht) <;> (try (exfalso; omega))) <;> (first | (refine zA (k := ?_); refine zn (k' := ?_)) | refine zE (k := ?_))))) <;> (((first | (refine zA (k := ?_); refine z0 (k' := ?_)) | refine zE (k := ?_) | ((refine zG (yes := (fun ht => ?_)) (no := (fun ht => ?_)) <;> (try simp at ht) <;> (try (exfalso; omega))) <;> (first | (refine zA (k := ?_); refine z0 (k' := ?_)) | refine zE (k := ?_))))) <;> ((first | refine zZ (k := ?_) | refine za (k := ?_) | refine zg (k := ?_)); refine zF (k := ?_); ((first | (refine zA (k := ?_); refine zF (k := ?_)) | refine zE (k := ?_) | ((refine zG (yes := (fun ht => ?_)) (no := (fun ht => ?_)) <;> (try simp at ht) <;> (try (exfalso; omega))) <;> (first | (refine zA (k := ?_); refine zF (k := ?_)) | refine zE (k := ?_))))) <;> (((first | (refine zA (k := ?_); refine z9 (k' := ?_)) | refine zE (k := ?_) | ((refine zG (yes := (fun ht => ?_)) (no := (fun ht => ?_)) <;> (try simp at ht) <;> (try (exfalso; omega))) <;> (first | (refine zA (k := ?_); refine z9 (k' := ?_)) | refine zE (k := ?_))))) <;> (((first | (refine zA (k := ?_); refine zB (k := ?_)) | refine zE (k := ?_) | ((refine zG (yes := (fun ht => ?_)) (no := (fun ht => ?_)) <;> (try simp at ht) <;> (try (exfalso; omega))) <;> (first | (refine zA (k := ?_); refine zB (k := ?_)) | refine zE (k := ?_))))) <;> (((first | (refine zA (k := ?_); refine zM (k := ?_)) | refine zE (k := ?_) | ((refine zG (yes := (fun ht => ?_)) (no := (fun ht => ?_)) <;> (try simp at ht) <;> (try (exfalso; omega))) <;> (first | (refine zA (k := ?_); refine zM (k := ?_)) | refine zE (k := ?_))))) <;> (((first | (refine zA (k := ?_); refine z8 (k' := ?_)) | refine zE (k := ?_) | ((refine zG (yes := (fun ht => ?_)) (no := (fun ht => ?_)) <;> (try simp at ht) <;> (try (exfalso; omega))) <;> (first | (refine zA (k := ?_); refine z8 (k' := ?_)) | refine zE (k := ?_))))) <;> ((first | refine zZ (k := ?_) | refine za (k := ?_) | refine zg (k := ?_)); refine zF (k := ?_); ((first | (refine zA (k := ?_); refine zF (k := ?_)) | refine zE (k := ?_) | ((refine zG (yes := (fun ht => ?_)) (no := (fun ht => ?_)) <;> (try simp at ht) <;> (try (exfalso; omega))) <;> (first | (refine zA (k := ?_); refine zF (k := ?_)) | refine zE (k := ?_))))) <;> (((first | (refine zA (k := ?_); refine z9 (k' := ?_)) | refine zE (k := ?_) | ((refine zG (yes := (fun ht => ?_)) (no := (fun ht => ?_)) <;> (try simp at ht) <;> (try (exfalso; omega))) <;> (first | (refine zA (k := ?_); refine z9 (k' := ?_)) | refine zE (k := ?_))))) <;> (((first | (refine zA (k := ?_); refine zB (k := ?_)) | refine zE (k := ?_) | ((refine zG (yes := (fun ht => ?_)) (no := (fun ht => ?_)) <;> (try simp at ht) <;> (try (exfalso; omega))) <;> (first | (refine zA (k := ?_); refine zB (k := ?_)) | refine zE (k := ?_))))) <;> (((first | (refine zA (k := ?_); refine zM (k := ?_)) | refine zE (k := ?_) | ((refine zG (yes := (fun ht => ?_)) (no := (fun ht => ?_)) <;> (try simp at ht) <;> (try (exfalso; omega))) <;> (first | (refine zA (k := ?_); refine zM (k := ?_)) | refine zE (k := ?_))))) <;> ((first | refine zZ (k := ?_) | refine za (k := ?_) | refine zg (k := ?_)); (refine zD (hK _ _ ?_); clear hK K))))))))))))))
        | (refine zC (id := 2) ?_; intro K hK; refine zH (k := ?_); (refine zD (hK _ _ ?_); clear hK K))
        | (refine zc (ht := (fun ht => ?_)) (hf := (fun ht => ?_)) <;> (try simp at ht) <;> (try (exfalso; omega))))
      exact ⟨Or.inr rfl, _, A0, Ent.refl _, res1 rfl rfl, congrArg Value.bool (by simp [h64]), rfl⟩
    repeat' (first
      | refine zi ?_
      | refine zK ?_
      | refine zQ (h := ?_)
      | refine zU (h := ?_)
      | refine zj ?_
      | refine zR ?_
      | refine zW ?_
      | refine zN ?_
      | refine zV ?_
      | refine ze ?_
      | refine zP ?_
      | refine zY ?_
      | refine zS rfl ?_
      | refine zd ?_
      | refine zX ?_
      | refine zO ?_
      | refine zT ?_
      | refine zL ?_
      | (refine zC (id := 0) ?_; intro K hK; refine zH (k := ?_); (refine zD (hK _ _ ?_); clear hK K))
      | (refine zC (id := 1) ?_; intro K hK; refine zF (k := ?_); refine zn (k' := ?_); refine z6 (k' := ?_); refine zF (k := ?_); ((first | (refine zA (k := ?_); refine zF (k := ?_)) | refine zE (k := ?_) | ((refine zG (yes := (fun ht => ?_)) (no := (fun ht => ?_)) <;> (try simp at ht) <;> (try (exfalso; omega))) <;> (first | (refine zA (k := ?_); refine zF (k := ?_)) | refine zE (k := ?_))))) <;> (((first | (refine zA (k := ?_); refine zn (k' := ?_)) | refine zE (k := ?_) | ((refine zG (yes := (fun ht => ?_)) (no := (fun ht => ?_)) <;> (try simp at ht) <;> (try (exfalso; omega))) <;> (first | (refine zA (k := ?_); refine zn (k' := ?_)) | refine zE (k := ?_))))) <;> (((first | (refine zA (k := ?_); refine z0 (k' := ?_)) | refine zE (k := ?_) | ((refine zG (yes := (fun ht => ?_)) (no := (fun ht => ?_)) <;> (try simp at ht) <;> (try (exfalso; omega))) <;> (first | (refine zA (k := ?_); refine z0 (k' := ?_)) | refine zE (k := ?_))))) <;> ((first | refine zZ (k := ?_) | refine za (k := ?_) | refine zg (k := ?_)); refine zF (k := ?_); ((first | (refine zA (k := ?_); refine zF (k := ?_)) | refine zE (k := ?_) | ((refine zG (yes := (fun ht => ?_)) (no := (fun ht => ?_)) <;> (try simp at ht) <;> (try (exfalso; omega))) <;> (first | (refine zA (k := ?_); refine zF (k := ?_)) | refine zE (k := ?_))))) <;> (((first | (refine zA (k := ?_); (refine zq (k' := ?_))) | refine zE (k := ?_) | ((refine zG (yes := (fun ht => ?_)) (no := (fun ht => ?_)) <;> (try simp at ht) <;> (try (exfalso; omega))) <;> (first | (refine zA (k := ?_); (refine zq (k' := ?_))) | refine zE (k := ?_))))) <;> (((first | (refine zA (k := ?_); (refine zz (k := ?_))) | refine zE (k := ?_) | ((refine zG (yes := (fun ht => ?_)) (no := (fun ht => ?_)) <;> (try simp at ht) <;> (try (exfalso; omega))) <;> (first | (refine zA (k := ?_); (refine zz (k := ?_))) | refine zE (k := ?_))))) <;> (((first | (refine zA (k := ?_); (refine z4 (v := .int .i64 e.cut) (j := 1) (hq := by simp [Addr.add]) (hr := h) (hv := by simpa using epsC_cell (r := 1) he0 (by omega) rfl) (k := ?_))) | refine zE (k := ?_) | ((refine zG (yes := (fun ht => ?_)) (no := (fun ht => ?_)) <;> (try simp at ht) <;> (try (exfalso; omega))) <;> (first | (refine zA (k := ?_); (refine z4 (v := .int .i64 e.cut) (j := 1) (hq := by simp [Addr.add]) (hr := h) (hv := by simpa using epsC_cell (r := 1) he0 (by omega) rfl) (k := ?_))) | refine zE (k := ?_))))) <;> (((first | (refine zA (k := ?_); refine z8 (k' := ?_)) | refine zE (k := ?_) | ((refine zG (yes := (fun ht => ?_)) (no := (fun ht => ?_)) <;> (try simp at ht) <;> (try (exfalso; omega))) <;> (first | (refine zA (k := ?_); refine z8 (k' := ?_)) | refine zE (k := ?_))))) <;> ((first | refine zZ (k := ?_) | refine za (k := ?_) | refine zg (k := ?_)); refine zF (k := ?_); ((first | (refine zA (k := ?_); refine zF (k := ?_)) | refine zE (k := ?_) | ((refine zG (yes := (fun ht => ?_)) (no := (fun ht => ?_)) <;> (try simp at ht) <;> (try (exfalso; omega))) <;> (first | (refine zA (k := ?_); refine zF (k := ?_)) | refine zE (k := ?_))))) <;> (((first | (refine zA (k := ?_); (refine zq (k' := ?_))) | refine zE (k := ?_) | ((refine zG (yes := (fun ht => ?_)) (no := (fun ht => ?_)) <;> (try simp at ht) <;> (try (exfalso; omega))) <;> (first | (refine zA (k := ?_); (refine zq (k' := ?_))) | refine zE (k := ?_))))) <;> (((first | (refine zA (k := ?_); (refine zz (k := ?_))) | refine zE (k := ?_) | ((refine zG (yes := (fun ht => ?_)) (no := (fun ht => ?_)) <;> (try simp at ht) <;> (try (exfalso; omega))) <;> (first | (refine zA (k := ?_); (refine zz (k := ?_))) | refine zE (k := ?_))))) <;> (((first | (refine zA (k := ?_); (refine z4 (v := .bool e.forced) (j := 2) (hq := by simp [Addr.add]) (hr := h) (hv := by simpa using epsC_cell (r := 2) he0 (by omega) rfl) (k := ?_))) | refine zE (k := ?_) | ((refine zG (yes := (fun ht => ?_)) (no := (fun ht => ?_)) <;> (try simp at ht) <;> (try (exfalso; omega))) <;> (first | (refine zA (k := ?_); (refine z4 (v := .bool e.forced) (j := 2) (hq := by simp [Addr.add]) (hr := h) (hv := by simpa using epsC_cell (r := 2) he0 (by omega) rfl) (k := ?_))) | refine zE (k := ?_))))) <;> ((first | refine zZ (k := ?_) | refine za (k := ?_) | refine zg (k := ?_)); (refine zD (hK _ _ ?_); clear hK K))))))))))))))
      | (refine zC (id := 2) ?_; intro K hK; refine zH (k := ?_); (refine zD (hK _ _ ?_); clear hK K))
      | (refine zC (id := 3) ?_; intro K hK; refine zF (k := ?_); refine zn (k' := ?_); refine zF (k := ?_); (refine zD (hK _ _ ?_); clear hK K))
      | (refine zc (ht := (fun ht => ?_)) (hf := (fun ht => ?_)) <;> (try simp at ht) <;> (try (exfalso; omega))))
    · have hbad : ¬ e.cut = 0 := by assumption
      exact ⟨Or.inr rfl, _, A0, Ent.refl _, res1 rfl rfl, congrArg Value.bool (by simp [hbad]), rfl⟩
    · have hbad : e.forced = true := by assumption
      exact ⟨Or.inr rfl, _, A0, Ent.refl _, res1 rfl rfl, congrArg Value.bool (by simp [hbad]), rfl⟩
    have hc0 : e.cut = 0 := by assumption
    have hf0 : e.forced = false := by assumption
    have hR2 : rightT t = t.all (fun x => decide x.fair) := by rw [hR]; simp [h64, hc0, hf0]
    rw [← hR, hR2]
    refine yI (α := Nat) (fun k => [(26, .slice (some q) t.length c), (27, .int .i64 t.length), (28, .int .i64 k)])
      (fun _ => A0) (fun k => k ≤ t.length ∧ ∀ x ∈ t.take k, x.fair) (fun k => t.length - k) 0 ⟨by omega, by simp⟩ ⟨rfl, rfl, rfl, trivial⟩ (Ent.refl _) ?_
    rintro k G ⟨hk, hall⟩
    simp only [ov]
    by_cases hlt : k < t.length
    · obtain ⟨y, hy⟩ : ∃ y, t[k]? = some y := ⟨_, List.getElem?_eq_getElem hlt⟩
      have hmem := List.mem_of_getElem? hy
      repeat' (first
        | refine zi ?_
        | refine zK ?_
        | refine zQ (h := ?_)
        | refine zU (h := ?_)
        | refine zj ?_
        | refine zR ?_
        | refine zW ?_
        | refine zN ?_
        | refine zV ?_
        | refine ze ?_
        | refine zP ?_
        | refine zY ?_
        | refine zS rfl ?_
        | refine zd ?_
        | refine zX ?_
        | refine zO ?_
        | refine zT ?_
        | refine zL ?_
        | (refine zC (id := 4) ?_; intro K hK; refine z6 (k' := ?_); (refine zD (hK _ _ ?_); clear hK K))
        | (refine zC (id := 5) ?_; intro K hK; ((refine zq (k' := ?_))) <;> (((refine yD (j := k * 3) (cs := epC y) (hq := by simp) (hr := h) (hv := epsC_row hy) (k := ?_))) <;> (((refine zw (k := ?_); intro er)) <;> (refine zh (ho' := rfl) (k := ?_); (refine zD (hK _ _ ?_); clear hK K)))))
        | (refine zC (id := 6) ?_; intro K hK; refine zB (k := ?_); refine zM (k := ?_); refine z6 (k' := ?_); refine zF (k := ?_); ((first | (refine zA (k := ?_); refine zB (k := ?_)) | refine zE (k := ?_) | ((refine zG (yes := (fun ht => ?_)) (no := (fun ht => ?_)) <;> (try simp at ht) <;> (try (exfalso; omega))) <;> (first | (refine zA (k := ?_); refine zB (k := ?_)) | refine zE (k := ?_))))) <;> (((first | (refine zA (k := ?_); refine zM (k := ?_)) | refine zE (k := ?_) | ((refine zG (yes := (fun ht => ?_)) (no := (fun ht => ?_)) <;> (try simp at ht) <;> (try (exfalso; omega))) <;> (first | (refine zA (k := ?_); refine zM (k := ?_)) | refine zE (k := ?_))))) <;> (((first | (refine zA (k := ?_); refine z0 (k' := ?_)) | refine zE (k := ?_) | ((refine zG (yes := (fun ht => ?_)) (no := (fun ht => ?_)) <;> (try simp at ht) <;> (try (exfalso; omega))) <;> (first | (refine zA (k := ?_); refine z0 (k' := ?_)) | refine zE (k := ?_))))) <;> ((first | refine zZ (k := ?_) | refine za (k := ?_) | refine zg (k := ?_)); refine zF (k := ?_); ((first | (refine zA (k := ?_); refine zB (k := ?_)) | refine zE (k := ?_) | ((refine zG (yes := (fun ht => ?_)) (no := (fun ht => ?_)) <;> (try simp at ht) <;> (try (exfalso; omega))) <;> (first | (refine zA (k := ?_); refine zB (k := ?_)) | refine zE (k := ?_))))) <;> (((first | (refine zA (k := ?_); refine zM (k := ?_)) | refine zE (k := ?_) | ((refine zG (yes := (fun ht => ?_)) (no := (fun ht => ?_)) <;> (try simp at ht) <;> (try (exfalso; omega))) <;> (first | (refine zA (k := ?_); refine zM (k := ?_)) | refine zE (k := ?_))))) <;> (((first | (refine zA (k := ?_); refine z6 (k' := ?_)) | refine zE (k := ?_) | ((refine zG (yes := (fun ht => ?_)) (no := (fun ht => ?_)) <;> (try simp at ht) <;> (try (exfalso; omega))) <;> (first | (refine zA (k := ?_); refine z6 (k' := ?_)) | refine zE (k := ?_))))) <;> ((first | refine zZ (k := ?_) | refine za (k := ?_) | refine zg (k := ?_)); refine zF (k := ?_); ((first | (refine zA (k := ?_); refine zB (k := ?_)) | refine zE (k := ?_) | ((refine zG (yes := (fun ht => ?_)) (no := (fun ht => ?_)) <;> (try simp at ht) <;> (try (exfalso; omega))) <;> (first | (refine zA (k := ?_); refine zB (k := ?_)) | refine zE (k := ?_))))) <;> (((first | (refine zA (k := ?_); refine zM (k := ?_)) | refine zE (k := ?_) | ((refine zG (yes := (fun ht => ?_)) (no := (fun ht => ?_)) <;> (try simp at ht) <;> (try (exfalso; omega))) <;> (first | (refine zA (k := ?_); refine zM (k := ?_)) | refine zE (k := ?_))))) <;> (((first | (refine zA (k := ?_); refine z0 (k' := ?_)) | refine zE (k := ?_) | ((refine zG (yes := (fun ht => ?_)) (no := (fun ht => ?_)) <;> (try simp at ht) <;> (try (exfalso; omega))) <;> (first | (refine zA (k := ?_); refine z0 (k' := ?_)) | refine zE (k := ?_))))) <;> ((first | refine zZ (k := ?_) | refine za (k := ?_) | refine zg (k := ?_)); (refine zD (hK _ _ ?_); clear hK K)))))))))))
        | (refine zC (id := 7) ?_; intro K hK; refine zH (k := ?_); (refine zD (hK _ _ ?_); clear hK K))
        | (refine zC (id := 8) ?_; intro K hK; refine zl (k' := ?_); refine zF (k := ?_); (refine zD (hK _ _ ?_); clear hK K))
        | (refine zc (ht := (fun ht => ?_)) (hf := (fun ht => ?_)) <;> (try simp at ht) <;> (try (exfalso; omega))))
      all_goals first
        | (refine ⟨Or.inr rfl, _, A0, ?_, res1 rfl rfl, ?_, rfl⟩
           · (repeat (first | exact Ent.refl _ | exact Ent.nil | refine Ent.take (by (repeat (first | exact Out.head | apply Out.tail)); (first | done | fail)) ?_ | refine Ent.drop1 ?_))
           · refine congrArg Value.bool (Eq.symm ?_)
             refine List.all_eq_false.2 ⟨y, hmem, ?_⟩
             simp only [decide_eq_true_eq]
             unfold Ep.fair; omega)
        | (refine ⟨k + 1, ⟨by omega, ?_⟩, by omega, ⟨rfl, rfl, int_succ k, trivial⟩, ?_⟩
           · intro x hx
             rw [List.take_add_one, hy] at hx
             rcases List.mem_append.1 hx with hx | hx
             · exact hall x hx
             · simp at hx; subst hx; unfold Ep.fair; omega
           · (repeat (first | exact Ent.refl _ | exact Ent.nil | refine Ent.take (by (repeat (first | exact Out.head | apply Out.tail)); (first | done | fail)) ?_ | refine Ent.drop1 ?_)))
    · obtain rfl : k = t.length := by omega
      rw [List.take_length] at hall
      repeat' (first
        | refine zi ?_
        | refine zK ?_
        | refine zQ (h := ?_)
        | refine zU (h := ?_)
        | refine zj ?_
        | refine zR ?_
        | refine zW ?_
        | refine zN ?_
        | refine zV ?_
        | refine ze ?_
        | refine zP ?_
        | refine zY ?_
        | refine zS rfl ?_
        | refine zd ?_
        | refine zX ?_
        | refine zO ?_
        | refine zT ?_
        | refine zL ?_
        | (refine zC (id := 4) ?_; intro K hK; refine z6 (k' := ?_); (refine zD (hK _ _ ?_); clear hK K))
        | (refine zC (id := 9) ?_; intro K hK; refine zH (k := ?_); (refine zD (hK _ _ ?_); clear hK K))
        | (refine zc (ht := (fun ht => ?_)) (hf := (fun ht => ?_)) <;> (try simp at ht) <;> (try (exfalso; omega))))
      exact ⟨Or.inr rfl, _, A0, Ent.refl _, res1 rfl rfl, congrArg Value.bool (Eq.symm (List.all_eq_true.2 fun x hx => decide_eq_true (hall x hx))), rfl⟩
theorem Pick_under (x : Asn) : ∀ A0 : List Asn, Pick (x :: A0) A0 [x]
  | [] => .nil
  | _ :: A0 => .cons (.tail .head) (Pick_under x A0)
theorem at_spec (A0 : List Asn) (t : List Ep) (a : Option Addr) (c : Nat) (h : RdS Tryz.prog B A0 3 a t.length c (epsC t)) (hsz : t.length ≤ 1000000) (i : Int) :
    Fspec Tryz.prog B 78 #[.slice a t.length c, .int .i64 i] A0 (fun v A' => v = .agg #[.int .i64 (atT t i).1, .int .i64 (atT t i).2] ∧ A' = A0) := by
  refine spec_of (args := [_, _]) Tryz.func78 rfl rfl rfl ?_
  have hr := right_spec (B := B) A0 t a c h hsz
  by_cases hg : rightT t = false ∨ i < 1 ∨ 512 < i
  · have e : atT t i = (0, 0) := if_pos hg
    rw [e]
    cases hb : rightT t with
    | false =>
      rw [hb] at hr
      repeat' (first
        | refine zi ?_
        | refine zK ?_
        | refine zQ (h := ?_)
        | refine zU (h := ?_)
        | refine zj ?_
        | refine zR ?_
        | refine zW ?_
        | refine zN ?_
        | refine zV ?_
        | refine ze ?_
        | refine zP ?_
        | refine zY ?_
        | refine zS rfl ?_
        | refine zd ?_
        | refine zX ?_
        | refine zO ?_
        | refine zT ?_
        | refine zL ?_
        | (refine zC (id := 0) ?_; intro K hK; ((refine zw (k := ?_); intro r4)) <;> ((refine zD (hK _ _ ?_); clear hK K)))
        | (refine zC (id := 1) ?_; intro K hK; refine zF (k := ?_); ((refine zb (hs := hr) (hp := Pick_under _ _) (k := ?_); rintro v A' ⟨rfl, hA⟩; subst A'; refine yB (Ent.perm (List.perm_append_comm (l₁ := A0) (l₂ := [_]))) ?_; simp only [List.cons_append, List.nil_append])) <;> (refine z7 (k' := ?_); refine zF (k := ?_); ((first | (refine zA (k := ?_); refine zF (k := ?_)) | refine zE (k := ?_) | ((refine zG (yes := (fun ht => ?_)) (no := (fun ht => ?_)) <;> (try simp at ht) <;> (try (exfalso; omega))) <;> (first | (refine zA (k := ?_); refine zF (k := ?_)) | refine zE (k := ?_))))) <;> (((first | (refine zA (k := ?_); refine z6 (k' := ?_)) | refine zE (k := ?_) | ((refine zG (yes := (fun ht => ?_)) (no := (fun ht => ?_)) <;> (try simp at ht) <;> (try (exfalso; omega))) <;> (first | (refine zA (k := ?_); refine z6 (k' := ?_)) | refine zE (k := ?_))))) <;> ((first | refine zZ (k := ?_) | refine za (k := ?_) | refine zg (k := ?_)); refine zF (k := ?_); ((first | (refine zA (k := ?_); refine zF (k := ?_)) | refine zE (k := ?_) | ((refine zG (yes := (fun ht => ?_)) (no := (fun ht => ?_)) <;> (try simp at ht) <;> (try (exfalso; omega))) <;> (first | (refine zA (k := ?_); refine zF (k := ?_)) | refine zE (k := ?_))))) <;> (((first | (refine zA (k := ?_); refine z0 (k' := ?_)) | refine zE (k := ?_) | ((refine zG (yes := (fun ht => ?_)) (no := (fun ht => ?_)) <;> (try simp at ht) <;> (try (exfalso; omega))) <;> (first | (refine zA (k := ?_); refine z0 (k' := ?_)) | refine zE (k := ?_))))) <;> ((first | refine zZ (k := ?_) | refine za (k := ?_) | refine zg (k := ?_)); (refine zD (hK _ _ ?_); clear hK K)))))))
        | (refine zC (id := 2) ?_; intro K hK; refine zr (k := ?_); refine zh (ho' := rfl) (k := ?_); (refine zD (hK _ _ ?_); clear hK K))
        | (refine zc (ht := (fun ht => ?_)) (hf := (fun ht => ?_)) <;> (try simp at ht) <;> (try (exfalso; omega))))
      exact ⟨Or.inr rfl, _, A0, Ent.drop _, resG rfl (by (repeat (first | exact ResL.nil | apply ResL.tmp (by (repeat (first | exact Ev.here | exact Ev.const | exact Ev.arg rfl | apply Ev.there rfl | exact Ev.none rfl | exact Ev.func | exact Ev.var)); (first | done | fail)) | apply ResL.agg (by (repeat (first | exact Ev.here | exact Ev.const | exact Ev.arg rfl | apply Ev.there rfl | exact Ev.none rfl | exact Ev.func | exact Ev.var)); (first | done | fail)) (by (repeat (first | exact Rd.head | exact Rd.base (by assumption) | apply Rd.tail)); (first | done | fail)) (by (repeat (first | exact TakeR.nil | apply TakeR.take | apply TakeR.skip)); (first | done | fail)) | apply ResL.cell (by (repeat (first | exact Ev.here | exact Ev.const | exact Ev.arg rfl | apply Ev.there rfl | exact Ev.none rfl | exact Ev.func | exact Ev.var)); (first | done | fail)) (by (repeat (first | exact Rd.head | exact Rd.base (by assumption) | apply Rd.tail)); (first | done | fail)) rfl)); (first | done | fail)) rfl, rfl, rfl⟩
    | true =>
      rw [hb] at hr hg
      have hg2 : i < 1 ∨ 512 < i := by simpa using hg
      by_cases h1 : i < 1
      · repeat' (first
          | refine zi ?_
          | refine zK ?_
          | refine zQ (h := ?_)
          | refine zU (h := ?_)
          | refine zj ?_
          | refine zR ?_
          | refine zW ?_
          | refine zN ?_
          | refine zV ?_
          | refine ze ?_
          | refine zP ?_
          | refine zY ?_
          | refine zS rfl ?_
          | refine zd ?_
          | refine zX ?_
          | refine zO ?_
          | refine zT ?_
          | refine zL ?_
          | (refine zC (id := 0) ?_; intro K hK; ((refine zw (k := ?_); intro r4)) <;> ((refine zD (hK _ _ ?_); clear hK K)))
          | (refine zC (id := 1) ?_; intro K hK; refine zF (k := ?_); ((refine zb (hs := hr) (hp := Pick_under _ _) (k := ?_); rintro v A' ⟨rfl, hA⟩; subst A'; refine yB (Ent.perm (List.perm_append_comm (l₁ := A0) (l₂ := [_]))) ?_; simp only [List.cons_append, List.nil_append])) <;> (refine z7 (k' := ?_); refine zF (k := ?_); ((first | (refine zA (k := ?_); refine zF (k := ?_)) | refine zE (k := ?_) | ((refine zG (yes := (fun ht => ?_)) (no := (fun ht => ?_)) <;> (try simp at ht) <;> (try (exfalso; omega))) <;> (first | (refine zA (k := ?_); refine zF (k := ?_)) | refine zE (k := ?_))))) <;> (((first | (refine zA (k := ?_); refine z6 (k' := ?_)) | refine zE (k := ?_) | ((refine zG (yes := (fun ht => ?_)) (no := (fun ht => ?_)) <;> (try simp at ht) <;> (try (exfalso; omega))) <;> (first | (refine zA (k := ?_); refine z6 (k' := ?_)) | refine zE (k := ?_))))) <;> ((first | refine zZ (k := ?_) | refine za (k := ?_) | refine zg (k := ?_)); refine zF (k := ?_); ((first | (refine zA (k := ?_); refine zF (k := ?_)) | refine zE (k := ?_) | ((refine zG (yes := (fun ht => ?_)) (no := (fun ht => ?_)) <;> (try simp at ht) <;> (try (exfalso; omega))) <;> (first | (refine zA (k := ?_); refine zF (k := ?_)) | refine zE (k := ?_))))) <;> (((first | (refine zA (k := ?_); refine z0 (k' := ?_)) | refine zE (k := ?_) | ((refine zG (yes := (fun ht => ?_)) (no := (fun ht => ?_)) <;> (try simp at ht) <;> (try (exfalso; omega))) <;> (first | (refine zA (k := ?_); refine z0 (k' := ?_)) | refine zE (k := ?_))))) <;> ((first | refine zZ (k := ?_) | refine za (k := ?_) | refine zg (k := ?_)); (refine zD (hK _ _ ?_); clear hK K)))))))
          | (refine zC (id := 2) ?_; intro K hK; refine zr (k := ?_); refine zh (ho' := rfl) (k := ?_); (refine zD (hK _ _ ?_); clear hK K))
          | (refine zc (ht := (fun ht => ?_)) (hf := (fun ht => ?_)) <;> (try simp at ht) <;> (try (exfalso; omega))))
        exact ⟨Or.inr rfl, _, A0, Ent.drop _, resG rfl (by (repeat (first | exact ResL.nil | apply ResL.tmp (by (repeat (first | exact Ev.here | exact Ev.const | exact Ev.arg rfl | apply Ev.there rfl | exact Ev.none rfl | exact Ev.func | exact Ev.var)); (first | done | fail)) | apply ResL.agg (by (repeat (first | exact Ev.here | exact Ev.const | exact Ev.arg rfl | apply Ev.there rfl | exact Ev.none rfl | exact Ev.func | exact Ev.var)); (first | done | fail)) (by (repeat (first | exact Rd.head | exact Rd.base (by assumption) | apply Rd.tail)); (first | done | fail)) (by (repeat (first | exact TakeR.nil | apply TakeR.take | apply TakeR.skip)); (first | done | fail)) | apply ResL.cell (by (repeat (first | exact Ev.here | exact Ev.const | exact Ev.arg rfl | apply Ev.there rfl | exact Ev.none rfl | exact Ev.func | exact Ev.var)); (first | done | fail)) (by (repeat (first | exact Rd.head | exact Rd.base (by assumption) | apply Rd.tail)); (first | done | fail)) rfl)); (first | done | fail)) rfl, rfl, rfl⟩
      · have h2 : 512 < i := by omega
        repeat' (first
          | refine zi ?_
          | refine zK ?_
          | refine zQ (h := ?_)
          | refine zU (h := ?_)
          | refine zj ?_
          | refine zR ?_
          | refine zW ?_
          | refine zN ?_
          | refine zV ?_
          | refine ze ?_
          | refine zP ?_
          | refine zY ?_
          | refine zS rfl ?_
          | refine zd ?_
          | refine zX ?_
          | refine zO ?_
          | refine zT ?_
          | refine zL ?_
          | (refine zC (id := 0) ?_; intro K hK; ((refine zw (k := ?_); intro r4)) <;> ((refine zD (hK _ _ ?_); clear hK K)))
          | (refine zC (id := 1) ?_; intro K hK; refine zF (k := ?_); ((refine zb (hs := hr) (hp := Pick_under _ _) (k := ?_); rintro v A' ⟨rfl, hA⟩; subst A'; refine yB (Ent.perm (List.perm_append_comm (l₁ := A0) (l₂ := [_]))) ?_; simp only [List.cons_append, List.nil_append])) <;> (refine z7 (k' := ?_); refine zF (k := ?_); ((first | (refine zA (k := ?_); refine zF (k := ?_)) | refine zE (k := ?_) | ((refine zG (yes := (fun ht => ?_)) (no := (fun ht => ?_)) <;> (try simp at ht) <;> (try (exfalso; omega))) <;> (first | (refine zA (k := ?_); refine zF (k := ?_)) | refine zE (k := ?_))))) <;> (((first | (refine zA (k := ?_); refine z6 (k' := ?_)) | refine zE (k := ?_) | ((refine zG (yes := (fun ht => ?_)) (no := (fun ht => ?_)) <;> (try simp at ht) <;> (try (exfalso; omega))) <;> (first | (refine zA (k := ?_); refine z6 (k' := ?_)) | refine zE (k := ?_))))) <;> ((first | refine zZ (k := ?_) | refine za (k := ?_) | refine zg (k := ?_)); refine zF (k := ?_); ((first | (refine zA (k := ?_); refine zF (k := ?_)) | refine zE (k := ?_) | ((refine zG (yes := (fun ht => ?_)) (no := (fun ht => ?_)) <;> (try simp at ht) <;> (try (exfalso; omega))) <;> (first | (refine zA (k := ?_); refine zF (k := ?_)) | refine zE (k := ?_))))) <;> (((first | (refine zA (k := ?_); refine z0 (k' := ?_)) | refine zE (k := ?_) | ((refine zG (yes := (fun ht => ?_)) (no := (fun ht => ?_)) <;> (try simp at ht) <;> (try (exfalso; omega))) <;> (first | (refine zA (k := ?_); refine z0 (k' := ?_)) | refine zE (k := ?_))))) <;> ((first | refine zZ (k := ?_) | refine za (k := ?_) | refine zg (k := ?_)); (refine zD (hK _ _ ?_); clear hK K)))))))
          | (refine zC (id := 2) ?_; intro K hK; refine zr (k := ?_); refine zh (ho' := rfl) (k := ?_); (refine zD (hK _ _ ?_); clear hK K))
          | (refine zc (ht := (fun ht => ?_)) (hf := (fun ht => ?_)) <;> (try simp at ht) <;> (try (exfalso; omega))))
        exact ⟨Or.inr rfl, _, A0, Ent.drop _, resG rfl (by (repeat (first | exact ResL.nil | apply ResL.tmp (by (repeat (first | exact Ev.here | exact Ev.const | exact Ev.arg rfl | apply Ev.there rfl | exact Ev.none rfl | exact Ev.func | exact Ev.var)); (first | done | fail)) | apply ResL.agg (by (repeat (first | exact Ev.here | exact Ev.const | exact Ev.arg rfl | apply Ev.there rfl | exact Ev.none rfl | exact Ev.func | exact Ev.var)); (first | done | fail)) (by (repeat (first | exact Rd.head | exact Rd.base (by assumption) | apply Rd.tail)); (first | done | fail)) (by (repeat (first | exact TakeR.nil | apply TakeR.take | apply TakeR.skip)); (first | done | fail)) | apply ResL.cell (by (repeat (first | exact Ev.here | exact Ev.const | exact Ev.arg rfl | apply Ev.there rfl | exact Ev.none rfl | exact Ev.func | exact Ev.var)); (first | done | fail)) (by (repeat (first | exact Rd.head | exact Rd.base (by assumption) | apply Rd.tail)); (first | done | fail)) rfl)); (first | done | fail)) rfl, rfl, rfl⟩
  have e : atT t i = if atE t t.length i = 0 then (0, 0) else (((atE t t.length i : Nat) : Int), i) := if_neg hg
  rw [e]
  have hb : rightT t = true := by cases hb : rightT t with
    | true => rfl
    | false => exact absurd (Or.inl hb) hg
  rw [hb] at hr
  have hi : 1 ≤ i ∧ i ≤ 512 := by
    constructor
    · exact Int.not_lt.1 fun h => hg (.inr (.inl h))
    · exact Int.not_lt.1 fun h => hg (.inr (.inr h))
  obtain ⟨p, rfl⟩ : ∃ p, a = some p := by
    cases a with
    | none => have := h.nil rfl; have := (rightT_out hb).1; omega
    | some p => exact ⟨p, rfl⟩
  repeat' (first
    | refine zi ?_
    | refine zK ?_
    | refine zQ (h := ?_)
    | refine zU (h := ?_)
    | refine zj ?_
    | refine zR ?_
    | refine zW ?_
    | refine zN ?_
    | refine zV ?_
    | refine ze ?_
    | refine zP ?_
    | refine zY ?_
    | refine zS rfl ?_
    | refine zd ?_
    | refine zX ?_
    | refine zO ?_
    | refine zT ?_
    | refine zL ?_
    | (refine zC (id := 0) ?_; intro K hK; ((refine zw (k := ?_); intro r4)) <;> ((refine zD (hK _ _ ?_); clear hK K)))
    | (refine zC (id := 1) ?_; intro K hK; refine zF (k := ?_); ((refine zb (hs := hr) (hp := Pick_under _ _) (k := ?_); rintro v A' ⟨rfl, hA⟩; subst A'; refine yB (Ent.perm (List.perm_append_comm (l₁ := A0) (l₂ := [_]))) ?_; simp only [List.cons_append, List.nil_append])) <;> (refine z7 (k' := ?_); refine zF (k := ?_); ((first | (refine zA (k := ?_); refine zF (k := ?_)) | refine zE (k := ?_) | ((refine zG (yes := (fun ht => ?_)) (no := (fun ht => ?_)) <;> (try simp at ht) <;> (try (exfalso; omega))) <;> (first | (refine zA (k := ?_); refine zF (k := ?_)) | refine zE (k := ?_))))) <;> (((first | (refine zA (k := ?_); refine z6 (k' := ?_)) | refine zE (k := ?_) | ((refine zG (yes := (fun ht => ?_)) (no := (fun ht => ?_)) <;> (try simp at ht) <;> (try (exfalso; omega))) <;> (first | (refine zA (k := ?_); refine z6 (k' := ?_)) | refine zE (k := ?_))))) <;> ((first | refine zZ (k := ?_) | refine za (k := ?_) | refine zg (k := ?_)); refine zF (k := ?_); ((first | (refine zA (k := ?_); refine zF (k := ?_)) | refine zE (k := ?_) | ((refine zG (yes := (fun ht => ?_)) (no := (fun ht => ?_)) <;> (try simp at ht) <;> (try (exfalso; omega))) <;> (first | (refine zA (k := ?_); refine zF (k := ?_)) | refine zE (k := ?_))))) <;> (((first | (refine zA (k := ?_); refine z0 (k' := ?_)) | refine zE (k := ?_) | ((refine zG (yes := (fun ht => ?_)) (no := (fun ht => ?_)) <;> (try simp at ht) <;> (try (exfalso; omega))) <;> (first | (refine zA (k := ?_); refine z0 (k' := ?_)) | refine zE (k := ?_))))) <;> ((first | refine zZ (k := ?_) | refine za (k := ?_) | refine zg (k := ?_)); (refine zD (hK _ _ ?_); clear hK K)))))))
    | (refine zC (id := 2) ?_; intro K hK; refine zr (k := ?_); refine zh (ho' := rfl) (k := ?_); (refine zD (hK _ _ ?_); clear hK K))
    | (refine zC (id := 3) ?_; intro K hK; refine zF (k := ?_); refine zn (k' := ?_); refine yL (k' := ?_); refine zH (k := ?_); (refine zD (hK _ _ ?_); clear hK K))
    | (refine zc (ht := (fun ht => ?_)) (hf := (fun ht => ?_)) <;> (try simp at ht) <;> (try (exfalso; omega))))
  refine yI (α := Nat) (fun n => [(0, .slice (some p) t.length c), (1, .int .i64 i), (4, .pointer (some ⟨r4, 0, none⟩)), (5, .int .i64 ((n : Int) - 1))])
    (fun n => cb r4 [.int .i64 0, .int .i64 0] 33 :: A0) (fun n => n ≤ t.length ∧ atE t t.length i = atE t n i) (fun n => n) t.length ⟨Nat.le_refl _, rfl⟩ ⟨rfl, rfl, rfl, rfl, trivial⟩ (Ent.refl _) ?_
  rintro n G ⟨hn, hE⟩
  simp only [ov]
  cases n with
  | zero =>
    have h0 : atE t t.length i = 0 := by rw [hE]; rfl
    rw [h0]
    repeat' (first
      | refine zi ?_
      | refine zK ?_
      | refine zQ (h := ?_)
      | refine zU (h := ?_)
      | refine zj ?_
      | refine zR ?_
      | refine zW ?_
      | refine zN ?_
      | refine zV ?_
      | refine ze ?_
      | refine zP ?_
      | refine zY ?_
      | refine zS rfl ?_
      | refine zd ?_
      | refine zX ?_
      | refine zO ?_
      | refine zT ?_
      | refine zL ?_
      | (refine zC (id := 4) ?_; intro K hK; refine zF (k := ?_); refine yV (k' := ?_); (refine zD (hK _ _ ?_); clear hK K))
      | (refine zC (id := 8) ?_; intro K hK; refine zr (k := ?_); refine zh (ho' := rfl) (k := ?_); (refine zD (hK _ _ ?_); clear hK K))
      | (refine zc (ht := (fun ht => ?_)) (hf := (fun ht => ?_)) <;> (try simp at ht) <;> (try (exfalso; omega))))
    exact ⟨Or.inr rfl, _, A0, Ent.drop _, resG rfl (by (repeat (first | exact ResL.nil | apply ResL.tmp (by (repeat (first | exact Ev.here | exact Ev.const | exact Ev.arg rfl | apply Ev.there rfl | exact Ev.none rfl | exact Ev.func | exact Ev.var)); (first | done | fail)) | apply ResL.agg (by (repeat (first | exact Ev.here | exact Ev.const | exact Ev.arg rfl | apply Ev.there rfl | exact Ev.none rfl | exact Ev.func | exact Ev.var)); (first | done | fail)) (by (repeat (first | exact Rd.head | exact Rd.base (by assumption) | apply Rd.tail)); (first | done | fail)) (by (repeat (first | exact TakeR.nil | apply TakeR.take | apply TakeR.skip)); (first | done | fail)) | apply ResL.cell (by (repeat (first | exact Ev.here | exact Ev.const | exact Ev.arg rfl | apply Ev.there rfl | exact Ev.none rfl | exact Ev.func | exact Ev.var)); (first | done | fail)) (by (repeat (first | exact Rd.head | exact Rd.base (by assumption) | apply Rd.tail)); (first | done | fail)) rfl)); (first | done | fail)) rfl, rfl, rfl⟩
  | succ n =>
    obtain ⟨y, hy⟩ : ∃ y, t[n]? = some y := ⟨_, List.getElem?_eq_getElem (by omega)⟩
    have hn1 : ((n + 1 : Nat) : Int) - 1 = (n : Nat) := by omega
    have hst : atE t (n + 1) i = if y.cut < i then n + 1 else atE t n i := by simp only [atE, hy]
    by_cases hc : y.cut < i
    · have h0 : atE t t.length i = n + 1 := by rw [hE, hst, if_pos hc]
      rw [h0]
      repeat' (first
        | refine zi ?_
        | refine zK ?_
        | refine zQ (h := ?_)
        | refine zU (h := ?_)
        | refine zj ?_
        | refine zR ?_
        | refine zW ?_
        | refine zN ?_
        | refine zV ?_
        | refine ze ?_
        | refine zP ?_
        | refine zY ?_
        | refine zS rfl ?_
        | refine zd ?_
        | refine zX ?_
        | refine zO ?_
        | refine zT ?_
        | refine zL ?_
        | (refine zC (id := 4) ?_; intro K hK; refine zF (k := ?_); ((rw [hn1]; refine yV (k' := ?_))) <;> ((refine zD (hK _ _ ?_); clear hK K)))
        | (refine zC (id := 6) ?_; intro K hK; refine zF (k := ?_); refine zF (k := ?_); ((refine zq (k' := ?_))) <;> (((refine zz (k := ?_))) <;> (((refine z4 (v := .int .i64 y.cut) (j := n * 3 + 1) (hq := by rw [Int.toNat_natCast]; exact addr_two _ _ _) (hr := RdS.under h) (hv := epsC_cell (r := 1) hy (by omega) rfl) (k := ?_))) <;> (refine zF (k := ?_); refine z6 (k' := ?_); (refine zD (hK _ _ ?_); clear hK K)))))
        | (refine zC (id := 7) ?_; intro K hK; refine zF (k := ?_); refine zl (k' := ?_); refine zF (k := ?_); refine zr (k := ?_); refine zh (ho' := rfl) (k := ?_); (refine zD (hK _ _ ?_); clear hK K))
        | (refine zc (ht := (fun ht => ?_)) (hf := (fun ht => ?_)) <;> (try simp at ht) <;> (try (exfalso; omega))))
      exact ⟨Or.inr rfl, _, A0, Ent.drop _, resG rfl (by (repeat (first | exact ResL.nil | apply ResL.tmp (by (repeat (first | exact Ev.here | exact Ev.const | exact Ev.arg rfl | apply Ev.there rfl | exact Ev.none rfl | exact Ev.func | exact Ev.var)); (first | done | fail)) | apply ResL.agg (by (repeat (first | exact Ev.here | exact Ev.const | exact Ev.arg rfl | apply Ev.there rfl | exact Ev.none rfl | exact Ev.func | exact Ev.var)); (first | done | fail)) (by (repeat (first | exact Rd.head | exact Rd.base (by assumption) | apply Rd.tail)); (first | done | fail)) (by (repeat (first | exact TakeR.nil | apply TakeR.take | apply TakeR.skip)); (first | done | fail)) | apply ResL.cell (by (repeat (first | exact Ev.here | exact Ev.const | exact Ev.arg rfl | apply Ev.there rfl | exact Ev.none rfl | exact Ev.func | exact Ev.var)); (first | done | fail)) (by (repeat (first | exact Rd.head | exact Rd.base (by assumption) | apply Rd.tail)); (first | done | fail)) rfl)); (first | done | fail)) rfl, rfl, rfl⟩
    · have h0 : atE t t.length i = atE t n i := by rw [hE, hst, if_neg hc]
      repeat' (first
        | refine zi ?_
        | refine zK ?_
        | refine zQ (h := ?_)
        | refine zU (h := ?_)
        | refine zj ?_
        | refine zR ?_
        | refine zW ?_
        | refine zN ?_
        | refine zV ?_
        | refine ze ?_
        | refine zP ?_
        | refine zY ?_
        | refine zS rfl ?_
        | refine zd ?_
        | refine zX ?_
        | refine zO ?_
        | refine zT ?_
        | refine zL ?_
        | (refine zC (id := 4) ?_; intro K hK; refine zF (k := ?_); ((rw [hn1]; refine yV (k' := ?_))) <;> ((refine zD (hK _ _ ?_); clear hK K)))
        | (refine zC (id := 5) ?_; intro K hK; refine zF (k := ?_); refine yL (k' := ?_); refine zH (k := ?_); (refine zD (hK _ _ ?_); clear hK K))
        | (refine zC (id := 6) ?_; intro K hK; refine zF (k := ?_); refine zF (k := ?_); ((refine zq (k' := ?_))) <;> (((refine zz (k := ?_))) <;> (((refine z4 (v := .int .i64 y.cut) (j := n * 3 + 1) (hq := by rw [Int.toNat_natCast]; exact addr_two _ _ _) (hr := RdS.under h) (hv := epsC_cell (r := 1) hy (by omega) rfl) (k := ?_))) <;> (refine zF (k := ?_); refine z6 (k' := ?_); (refine zD (hK _ _ ?_); clear hK K)))))
        | (refine zc (ht := (fun ht => ?_)) (hf := (fun ht => ?_)) <;> (try simp at ht) <;> (try (exfalso; omega))))
      exact ⟨n, ⟨by omega, h0⟩, by omega, ⟨rfl, rfl, rfl, rfl, trivial⟩, Ent.refl _⟩
end specs
end Go.Proofs.YtnoggejkkjngjaaGreat
