/- From what a claim gives of its arguments to what the specs want; and back. No program in sight. -/
import Derived.Test.YtnoggejkkjngjaaSa
import Derived.WalkKit
import Derived.ProofKit
import Derived.OpenShut
import Derived.ShutString
import Derived.ChangeOld
import Derived.Below
import Derived.Carry
import Derived.Deep.Slices
import Derived.SizedLaws
set_option linter.unusedVariables false
namespace Go.Sl
open Go.ChangeShapes Go.WideShapes Go.RowKit

def baseOf (W : World) : Base := ⟨W.heap.size, (· < W.heap.size), fun _ h => h, fun b => W.heap[b]?, W⟩
theorem sat_base (W : World) : Sat (baseOf W) W [fun h => ∀ x, h x = none] :=
  ⟨Nat.le_refl _, Io.refl W, fun _ _ => rfl, fun _ => none, fun _ => rfl, by simp, trivial⟩
theorem Sat.below {W w' : World} {L : List Asn} (h : Sat (baseOf W) w' L) : Below W.heap.size W w' :=
  ⟨h.io.1, h.io.2.1, h.io.2.2, h.size, fun k hk => h.base k hk⟩
theorem Fspec.below {P : Program} {W : World} {f : FuncId} {args : Array Value} {post : Value → List Asn → Prop} {u : Value} (h : Fspec P (baseOf W) f args [] post) (hp : ∀ v A', post v A' → v = u) :
    Calls P f args W fun e w' => e = .returned u ∧ Below W.heap.size W w' :=
  (h _ W (sat_base W)).mono fun e w' ⟨v, A', he, hs, hq⟩ => ⟨by rw [he, hp v A' hq], hs.below⟩

def Opens (P : Program) (W : World) (t : TypeId) (φ : List Value → Prop) : Prop :=
  ∀ (H : Type) (enc : TypeId × Value → H) (fuel : Nat) (cs : List Value) (x : DataW H × List MemPlace), DataW.trod enc P W 0 (fun _ => true) true fuel t cs = some x → (∀ n ∈ x.1.weights P t, n ≤ reachBytes) → φ cs
section
variable {P : Program} {W : World} {t : TypeId}
theorem opens_int {k : IntKind} (ht : P.underlying t = some (.int k)) : Opens P W t (fun cs => ∃ n, cs = [.int k n] ∧ (Lit.int k n).wf = true) := fun H enc fuel cs x h _ => by
  obtain ⟨n, h1, _, h2⟩ := DataW.trod_int ht h; exact ⟨n, h1, h2⟩
theorem opens_bool (ht : P.underlying t = some .bool) : Opens P W t (fun cs => ∃ b, cs = [.bool b]) := fun H enc fuel cs x h _ => by
  obtain ⟨n, h1, _⟩ := DataW.trod_bool ht h; exact ⟨n, h1⟩
theorem opens_string (ht : P.underlying t = some .string) : Opens P W t (fun cs => ∃ s : ByteArray, cs = [.string s] ∧ s.size ≤ 140737488351232) := fun H enc fuel cs x h hw => by
  obtain ⟨n, h1, h3, h2⟩ := DataW.trod_string ht h
  refine ⟨n, h1, ?_⟩
  have := hw n.size (by rw [h3]; simp [DataW.weights])
  unfold reachBytes at this; omega
theorem Opens.mono {φ ψ : List Value → Prop} (h : Opens P W t φ) (k : ∀ cs, φ cs → ψ cs) : Opens P W t ψ := fun H enc fuel cs x hx hw => k cs (h H enc fuel cs x hx hw)

/-- The fields of a struct, one behind the other. -/
def Parts : List (List Value → Prop) → List Value → Prop
  | [], cs => cs = []
  | φ :: φs, cs => ∃ c r, cs = c ++ r ∧ φ c ∧ Parts φs r
inductive OpF (P : Program) (W : World) : Nat → List Field → List (List Value → Prop) → Nat → Prop
  | nil {off : Nat} : OpF P W off [] [] off
  | cons {off n tot : Nat} {f : Field} {fs : List Field} {φ : List Value → Prop} {φs : List (List Value → Prop)} (ho : f.offset = off) (hs : P.cellsOf f.type = n) (h : Opens P W f.type φ) (r : OpF P W (off + n) fs φs tot) : OpF P W off (f :: fs) (φ :: φs) tot
theorem OpF.parts {H : Type} {enc : TypeId × Value → H} {n : Nat} {cs : List Value} {tot off : Nat} {fs : List Field} {φs : List (List Value → Prop)} (h : OpF P W off fs φs tot)
    (hl : cs.length = tot) (hf : ∀ f ∈ fs, ∃ y, DataW.trod enc P W 0 (fun _ => true) true n f.type ((cs.drop f.offset).take (P.cellsOf f.type)) = some y ∧ ∀ n ∈ y.1.weights P f.type, n ≤ reachBytes) : Parts φs (cs.drop off) := by
  induction h with
  | nil => rw [← hl]; simp [Parts]
  | @cons off m tot f fs φ φs ho hs h r ih =>
    obtain ⟨y, hy, hyw⟩ := hf f (List.mem_cons_self ..)
    refine ⟨(cs.drop off).take m, cs.drop (off + m), by rw [← List.drop_drop, List.take_append_drop], ?_, ih hl (fun g hg => hf g (List.mem_cons_of_mem _ hg))⟩
    rw [ho, hs] at hy
    exact h _ _ _ _ _ hy hyw
theorem opens_struct {fs : Array Field} {φs : List (List Value → Prop)} {tot : Nat} (ht : P.underlying t = some (.struct fs)) (hC : P.cellsOf t = tot) (hF : OpF P W 0 fs.toList φs tot) : Opens P W t (Parts φs) := fun H enc fuel cs x h hw => by
  obtain ⟨xs, n, _, hx, hl, hlen, hf⟩ := DataW.trod_struct ht h
  subst hx
  have := hF.parts (enc := enc) (n := n) (hl.trans hC) (fun f hf' => by
    obtain ⟨i, hi⟩ := List.getElem?_of_mem hf'
    have hi' : fs[i]? = some f := by simpa using hi
    have hlt : i < xs.length := by
      rw [hlen]
      exact (Array.getElem?_eq_some_iff.1 hi').1
    refine ⟨xs[i], by rw [hf i f hi', List.getElem?_eq_getElem hlt], fun n hn => hw n ?_⟩
    simp only [DataW.weights, ht]
    exact DataW.weights_mem_each (j := i) (by rw [List.getElem?_map, hi]; rfl) (by rw [List.getElem?_map, List.getElem?_eq_getElem hlt]; rfl) n hn)
  simpa using this

theorem cells_flat {a : Addr} {sz : Nat} {R : Nat → List Value} : ∀ (len : Nat), (∀ i, i < len → (R i).length = sz ∧ ∀ r, r < sz → W.cell? (a.add (i * sz + r)) = (R i)[r]?) →
    ((List.range len).map R).flatten.length = len * sz ∧ ∀ j, j < len * sz → W.cell? (a.add j) = (((List.range len).map R).flatten)[j]?
  | 0, _ => by simp
  | len + 1, h => by
    obtain ⟨h1, h2⟩ := cells_flat len (fun i hi => h i (by omega))
    obtain ⟨h3, h4⟩ := h len (by omega)
    have hs : (len + 1) * sz = len * sz + sz := by rw [Nat.add_mul, Nat.one_mul]
    rw [List.range_succ, List.map_append, List.flatten_append]
    simp only [List.map_cons, List.map_nil, List.flatten_cons, List.flatten_nil, List.append_nil]
    refine ⟨by rw [List.length_append, h1, h3, hs], fun j hj => ?_⟩
    by_cases hjl : j < len * sz
    · rw [List.getElem?_append_left (by omega)]; exact h2 j hjl
    · rw [List.getElem?_append_right (by omega), h1]
      have := h4 (j - len * sz) (by omega)
      rw [← this]; congr 2; omega
theorem rds_cells {a : Addr} {m c sz : Nat} {vs : List Value} (hl : vs.length = m * sz) (hc : m ≤ c) (h : ∀ j, j < m * sz → W.cell? (a.add j) = vs[j]?) : RdS P (baseOf W) [] sz (some a) m c vs := by
  refine ⟨hl, by simp, hc, fun w hs => ⟨rfl, fun n hn => ?_⟩⟩
  have hle : n * sz ≤ m * sz := Nat.mul_le_mul_right _ hn
  have hlen : (vs.take (n * sz)).length = n * sz := by simp; omega
  have := run_loadCellsFrom P w a (vs.take (n * sz)) 0 #[] (fun j v hj => by
    rw [List.getElem?_take] at hj
    split at hj
    · rename_i hjn
      have hW := h j (by omega)
      rw [hj] at hW
      rw [Nat.zero_add]
      have hlt : a.block < W.heap.size := by
        have hb : (a.add j).block = a.block := by unfold Addr.add; split <;> rfl
        unfold World.cell? at hW
        rw [hb] at hW
        rcases Nat.lt_or_ge a.block W.heap.size with h' | h'
        · exact h'
        · rw [Array.getElem?_eq_none h'] at hW; cases hW
      have hbl : w.heap[(a.add j).block]? = W.heap[(a.add j).block]? := by
        have hb : (a.add j).block = a.block := by unfold Addr.add; split <;> rfl
        rw [hb]; exact hs.base _ hlt
      rw [World.cell?_of_block hbl]; exact hW
    · cases hj)
  rw [hlen] at this
  simpa [Builtin.firstCells, loadCells] using this
theorem weightsAll_mem {H : Type} {e : TypeId} {n : Nat} : ∀ {ds : List (DataW H)} {d : DataW H}, d ∈ ds → n ∈ d.weights P e → n ∈ DataW.weightsAll P e ds
  | d0 :: ds, d, h, hn => by
    simp only [DataW.weightsAll, List.mem_append]
    rcases List.mem_cons.1 h with rfl | h
    · exact .inl hn
    · exact .inr (weightsAll_mem h hn)
/-- A slice: its rows. -/
def SlR (P : Program) (W : World) (sz bt : Nat) (φ : List Value → Prop) (cs : List Value) : Prop :=
  ∃ a m c, cs = [.slice a m c] ∧ (m ≤ 9223372036854775807 ∧ m * bt ≤ 140737488351232) ∧ ∃ rows : List (List Value), rows.length = m ∧ (∀ r ∈ rows, φ r ∧ r.length = sz) ∧ RdS P (baseOf W) [] sz a m c rows.flatten
theorem opens_slice {e : TypeId} {sz bt : Nat} {φ : List Value → Prop} (ht : P.underlying t = some (.slice e)) (hz : P.cellsOf e = sz) (hbt : P.bytesOf e = bt) (he : Opens P W e φ) : Opens P W t (SlR P W sz bt φ) := fun H enc fuel cs x h hw => by
  rcases Go.Deep.open_slice ht h with ⟨rfl, _⟩ | ⟨a, len, cap, m, n, D, Pl, rfl, hb, hl, hm, hmm, hxx, hx⟩
  · exact ⟨none, 0, 0, rfl, ⟨by omega, by simp⟩, [], rfl, by simp, rds_nil⟩
  · simp only [if_true] at hmm
    subst hmm
    rw [hz] at hx
    subst hxx
    have hw1 := hw ((((List.range len).map D).length + ((List.range (m - len)).map fun j => D (len + j)).length) * P.bytesOf e) (by simp only [DataW.weights, ht]; exact List.mem_cons_self ..)
    rw [hbt] at hw1
    simp only [List.length_map, List.length_range, reachBytes] at hw1
    have hw2 : len * bt ≤ 140737488351232 := by
      have : len * bt ≤ (len + (m - len)) * bt := Nat.mul_le_mul_right _ (by omega)
      omega
    obtain ⟨R, hR⟩ := Go.Deep.choose_lt (α := List Value) (n := len) (p := fun i cs' => W.cells? 0 (a.add (i * sz)) sz = some cs' ∧ φ cs') (fun i hi => by
      obtain ⟨cs', h1, h2⟩ := hx i (by omega)
      refine ⟨cs', h1, he _ _ _ _ _ h2 fun n hn => hw n ?_⟩
      simp only [DataW.weights, ht]
      exact List.mem_cons_of_mem _ (List.mem_append_left _ (weightsAll_mem (List.mem_map.2 ⟨i, List.mem_range.2 hi, rfl⟩) hn)))
    have hfl := cells_flat (W := W) (a := a) (sz := sz) (R := R) len (fun i hi => by
      obtain ⟨_, h2, h3⟩ := World.cells?_some (hR i hi).1
      exact ⟨h2, fun r hr => by rw [← h3 r hr, Go.Deep.add_add]⟩)
    refine ⟨some a, len, m, rfl, ⟨by unfold maxLen at hm; omega, hw2⟩, (List.range len).map R, by simp, ?_, rds_cells hfl.1 hl hfl.2⟩
    intro r hr
    obtain ⟨i, hi, rfl⟩ := List.mem_map.1 hr
    have hi' : i < len := by simpa using hi
    obtain ⟨_, h2, _⟩ := World.cells?_some (hR i hi').1
    exact ⟨(hR i hi').2, h2⟩
def BytesR (P : Program) (W : World) (cs : List Value) : Prop := ∃ a m c, ∃ bs : List UInt8, cs = [.slice a m c] ∧ (m ≤ 9223372036854775807 ∧ m * 1 ≤ 140737488351232) ∧ RdS P (baseOf W) [] 1 a m c (bs.map byteV)
theorem byteV_of {n : Int} (h : (Lit.int .u8 n).wf = true) : ∃ b : UInt8, Value.int .u8 n = byteV b := by
  have h2 : 0 ≤ n ∧ n ≤ 255 := by simpa [Lit.wf, IntKind.min, IntKind.max, IntKind.signed, IntKind.bits] using h
  refine ⟨UInt8.ofNat n.toNat, ?_⟩
  unfold byteV
  have : (UInt8.ofNat n.toNat).toNat = n.toNat := by simp [UInt8.toNat_ofNat']; omega
  rw [this]
  congr 1; omega
theorem opens_bytes {e : TypeId} (ht : P.underlying t = some (.slice e)) (hz : P.cellsOf e = 1) (hbt : P.bytesOf e = 1) (he : P.underlying e = some (.int .u8)) : Opens P W t (BytesR P W) :=
  (opens_slice ht hz hbt (opens_int he)).mono fun cs ⟨a, m, c, h1, h2, rows, h3, h4, h5⟩ => by
    have hbs : ∃ bs : List UInt8, rows.flatten = bs.map byteV := by
      clear h3 h5
      induction rows with
      | nil => exact ⟨[], rfl⟩
      | cons r rows ih =>
        obtain ⟨bs, hbs⟩ := ih (fun x hx => h4 x (List.mem_cons_of_mem _ hx))
        obtain ⟨⟨n, rfl, hn⟩, _⟩ := h4 r (List.mem_cons_self ..)
        obtain ⟨b, hb⟩ := byteV_of hn
        exact ⟨b :: bs, by simp [hbs, hb]⟩
    obtain ⟨bs, hbs⟩ := hbs
    exact ⟨a, m, c, bs, h1, h2, hbs ▸ h5⟩

/-! arguments -/
variable {H : Type} {enc : TypeId × Value → H} {v : Value} {d : DataW H} {p : List MemPlace} {r : Reach} {b0 : Nat} {φ : List Value → Prop}
theorem arg_agg {fs : Array Field} (ht : P.underlying t = some (.struct fs)) (hv : Value.okWide P W r b0 t v) (h : DataW.Trod enc P W 0 (fun _ => true) true t v d p) (hw : ∀ n ∈ d.weights P t, n ≤ reachBytes) (ho : Opens P W t φ) : ∃ cs : List Value, v = .agg cs.toArray ∧ φ cs := by
  obtain ⟨cs, rfl, _⟩ := okWide_struct ht hv
  obtain ⟨fuel, hf⟩ := h
  exact ⟨cs.toList, by simp, by simpa [Value.cells] using ho _ _ _ _ _ hf hw⟩
theorem arg_slice {e : TypeId} (ht : P.underlying t = some (.slice e)) (hv : Value.okWide P W r b0 t v) (h : DataW.Trod enc P W 0 (fun _ => true) true t v d p) (hw : ∀ n ∈ d.weights P t, n ≤ reachBytes) (ho : Opens P W t φ) : φ [v] := by
  obtain ⟨a, l, c, rfl⟩ := okWide_slice ht hv
  obtain ⟨fuel, hf⟩ := h
  simpa [Value.cells] using ho _ _ _ _ _ hf hw
theorem arg_int {k : IntKind} (ht : P.underlying t = some (.int k)) (hv : Value.okWide P W r b0 t v) (h : DataW.Trod enc P W 0 (fun _ => true) true t v d p) : ∃ n, v = .int k n ∧ (Lit.int k n).wf = true := by
  obtain ⟨n, rfl, _, _, hw⟩ := open_int ht hv h
  exact ⟨n, rfl, hw⟩
theorem arg_string (ht : P.underlying t = some .string) (hv : Value.okWide P W r b0 t v) (h : DataW.Trod enc P W 0 (fun _ => true) true t v d p) (hw : ∀ n ∈ d.weights P t, n ≤ reachBytes) : ∃ s : ByteArray, v = .string s ∧ s.size ≤ 140737488351232 := by
  obtain ⟨s, rfl⟩ := okWide_string ht hv
  obtain ⟨fuel, hf⟩ := h
  obtain ⟨s', h1, h2⟩ := opens_string ht _ _ _ _ _ hf hw
  simp [Value.cells] at h1; subst h1
  exact ⟨s, rfl, h2⟩
theorem okW {b1 : Nat} (h : Value.okWide P W .any b0 t v) : Value.okWide P W .any b1 t v := h
theorem wf_i64 {n : Int} (h : (Lit.int .i64 n).wf = true) : -9223372036854775808 ≤ n ∧ n ≤ 9223372036854775807 := by
  simpa [Lit.wf, IntKind.min, IntKind.max, IntKind.signed, IntKind.bits] using h
end
end Go.Sl
