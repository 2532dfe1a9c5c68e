/- Rules for maps: how many keys, none any more. No condition. -/
import Derived.Test.YtnoggejkkjngjaaSm
set_option linter.unusedVariables false
set_option linter.unusedSimpArgs false
namespace Go.Sl
open Go
section ops
variable {P : Program} {B : Base} {N : Nat} {ops rest : List Oper} {F : Fr} {A : List Asn} {K : Fr → List Asn → Prop}
variable {T : TypeId} {pos : String} {aft : Array Edge} {d : Tmp} {fm : Fm} {x y z : Operand} {U V : TypeId}
theorem Mok.len {kT : TypeId} {es : List MapEntry} {f : Value → Option Value} (h : Mok P kT es f) {ks : List Value} (hn : ks.Nodup) (hk : ∀ k, k ∈ ks ↔ ∃ v, f k = some v) : es.length = ks.length := by
  have h1 : (es.map (·.key)).Nodup := List.pairwise_map.2 h.apart
  have h2 : ∀ k, k ∈ es.map (·.key) ↔ k ∈ ks := fun k => by
    rw [hk]
    constructor
    · intro hm
      obtain ⟨e, he, rfl⟩ := List.mem_map.1 hm
      exact ⟨_, h.has e he⟩
    · rintro ⟨v, hv⟩
      obtain ⟨e, he, rfl⟩ := h.only k v hv
      exact List.mem_map.2 ⟨e, he, rfl⟩
  have := ((List.perm_ext_iff_of_nodup h1 hn).2 h2).length_eq
  simpa using this
theorem Wl_len_map {kT E r : Nat} {f : Value → Option Value} {ks : List Value} {M : List Asn} [hU : TMap P U kT E] (hk : kindB fm (some d) (.call ⟨.builtin .len, #[x], #[U]⟩) ≠ 0 := by decide) (hd : Nat.blt d N = true := by exact rfl) (hx : ev F x = .map (some r) := by exact rfl) (ho : Out (mpA P kT r f) A M := by (repeat (first | exact Out.head | apply Out.tail)); (first | done | fail))
    (hn : ks.Nodup) (hks : ∀ k, k ∈ ks ↔ ∃ v, f k = some v) (k' : Wl P B N fm ops rest (upd F d (.int .i64 ks.length)) A K) :
    Wl P B N fm ops (⟨some d, .call ⟨.builtin .len, #[x], #[U]⟩, T, pos, aft, none⟩ :: rest) F A K :=
  Wl_rd hk hd (fun w R hs => by
    obtain ⟨es, c, hok, hs1⟩ := mpA_open ((hs.perm (ho.perm.cons R)).perm (.swap ..))
    have hb : w.heap[r]? = some (.map es c) := (hs1.get (List.mem_cons_self ..)).2
    have hl : es.size = ks.length := by have := hok.len hn hks; simpa using this
    simp [execOp, hx, resolve, invoke, builtin, Builtin.len_, run_under w U (under_of_map hU.out), Go.MapKept.run_getObj_map hb, goInt, hl]) k'
theorem Wl_clear {kT E r : Nat} {f : Value → Option Value} {M : List Asn} [hU : TMap P U kT E] (hx : ev F x = .map (some r) := by exact rfl) (ho : Out (mpA P kT r f) A M := by (repeat (first | exact Out.head | apply Out.tail)); (first | done | fail))
    (k' : Wl P B N fm ops rest F (mpA P kT r (fun _ => none) :: M) K) :
    Wl P B N fm ops (⟨none, .call ⟨.builtin .clear, #[x], #[U]⟩, T, pos, aft, none⟩ :: rest) F A K :=
  Wl_valN rfl (fun w R hs => by
    obtain ⟨es, c, hok, hs1⟩ := mpA_open ((hs.perm (ho.perm.cons R)).perm (.swap ..))
    have hb : w.heap[r]? = some (.map es c) := (hs1.get (List.mem_cons_self ..)).2
    have hlt : r < w.heap.size := (Array.getElem?_eq_some_iff.1 hb).1
    have hput : Sat B { w with heap := w.heap.setIfInBounds r (.map #[] c) } (pt r (.map #[] c) :: (R :: M)) :=
      hs1.put (w' := { w with heap := w.heap.setIfInBounds r (.map #[] c) }) (Io.refl w) (by simp) (fun x hx => by simp [Array.getElem?_setIfInBounds, Ne.symm hx]) (by simp [hlt])
    refine ⟨{ w with heap := w.heap.setIfInBounds r (.map #[] c) }, .value (.tuple #[]), ?_, .inr ⟨_, rfl⟩, (hput.ent (mpA_shut ⟨by simp, by simp, by simp, by simp⟩ _)).perm (.swap ..)⟩
    simp [execOp, hx, resolve, invoke, builtin, Builtin.clear_, run_under w U (under_of_map hU.out), Go.MapKept.run_getObj_map hb, Go.MapKept.run_setObj_map _ hb]) k'
end ops
end Go.Sl
