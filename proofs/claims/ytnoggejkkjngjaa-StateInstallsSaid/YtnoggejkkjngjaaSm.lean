/- Rules for maps. No condition. -/
import Derived.Test.YtnoggejkkjngjaaSa
import Derived.Maps.Keyed
set_option linter.unusedVariables false
set_option linter.unusedSimpArgs false
namespace Go.Sl
open Go
section ops
variable {P : Program} {B : Base} {N : Nat} {ops rest : List Oper} {F : Fr} {A : List Asn} {K : Fr → List Asn → Prop}
variable {T : TypeId} {pos : String} {aft : Array Edge} {d : Tmp} {fm : Fm} {x y z : Operand} {U V : TypeId}

structure Mok (P : Program) (kT : TypeId) (es : List MapEntry) (f : Value → Option Value) : Prop where
  keys : ∀ e ∈ es, ∃ l, keyOf P kT e.key = some l
  apart : es.Pairwise (fun a b => a.key ≠ b.key)
  has : ∀ e ∈ es, f e.key = some e.val
  only : ∀ k v, f k = some v → ∃ e ∈ es, e.key = k
/-- A map: what it has at each key. -/
def mpA (P : Program) (kT : TypeId) (r : Nat) (f : Value → Option Value) : Asn := exA fun x : Array MapEntry × Nat => puA (Mok P kT x.1.toList f ∧ Go.MapKept.Stamped x.1 x.2) (pt r (.map x.1 x.2))
open Classical in
noncomputable def mput (f : Value → Option Value) (k v : Value) : Value → Option Value := fun x => if x = k then some v else f x
theorem mput_same (f : Value → Option Value) (k v : Value) : mput f k v k = some v := by simp [mput]
theorem mput_ne (f : Value → Option Value) {k k' : Value} (v : Value) (h : k' ≠ k) : mput f k v k' = f k' := by simp [mput, h]
theorem mpA_openS {B : Base} {w : World} {kT : TypeId} {r : Nat} {f : Value → Option Value} {L : List Asn} (h : Sat B w (mpA P kT r f :: L)) : ∃ es c, Mok P kT (es : Array MapEntry).toList f ∧ Go.MapKept.Stamped es c ∧ Sat B w (pt r (.map es c) :: L) := by
  obtain ⟨⟨es, c⟩, h1⟩ := SatL.exA_open h.own
  obtain ⟨⟨h2, h4⟩, h3⟩ := SatL.puA_open h1
  exact ⟨es, c, h2, h4, h.size, h.io, h.base, h3⟩
theorem mpA_open {B : Base} {w : World} {kT : TypeId} {r : Nat} {f : Value → Option Value} {L : List Asn} (h : Sat B w (mpA P kT r f :: L)) : ∃ es c, Mok P kT (es : Array MapEntry).toList f ∧ Sat B w (pt r (.map es c) :: L) := by
  obtain ⟨es, c, h1, _, h2⟩ := mpA_openS h
  exact ⟨es, c, h1, h2⟩
theorem mpA_shut {kT : TypeId} {r : Nat} {f : Value → Option Value} {es : Array MapEntry} {c : Nat} (h : Mok P kT es.toList f) (hst : Go.MapKept.Stamped es c) (L : List Asn) : Ent (pt r (.map es c) :: L) (mpA P kT r f :: L) :=
  (Ent.puA_shut ⟨h, hst⟩ L).trans (Ent.exA_shut (f := fun x : Array MapEntry × Nat => puA (Mok P kT x.1.toList f ∧ Go.MapKept.Stamped x.1 x.2) (pt r (.map x.1 x.2))) (es, c) L)
theorem Wl_makeMap {kT E : Nat} (hd : Nat.blt d N = true := by exact rfl) (k : ∀ r, Wl P B N fm ops rest (upd F d (.map (some r))) (mpA P kT r (fun _ => none) :: A) K) :
    Wl P B N fm ops (⟨some d, .makeMap U none, T, pos, aft, none⟩ :: rest) F A K :=
  Wl_new (val := fun r => .map (some r)) (o := .map #[] 0) rfl hd (fun w R hs => ⟨{ w with heap := w.heap.push (.map #[] 0) }, by simp [execOp, Instr.makeMap, newObj, Sem.run], rfl, Io.refl w⟩)
    (fun r => Wl_ent (mpA_shut ⟨by simp, by simp, by simp, by simp⟩ (Go.MapKept.stamped_empty 0) A) (k r))
theorem Mok.push {kT : TypeId} {es : List MapEntry} {f : Value → Option Value} (h : Mok P kT es f) {key val : Value} {c : Nat} {l : Lit} (hk : keyOf P kT key = some l) (hn : ∀ e ∈ es, e.key ≠ key) :
    Mok P kT (es ++ [⟨key, val, c⟩]) (mput f key val) := by
  refine ⟨fun e he => ?_, ?_, fun e he => ?_, fun k v hv => ?_⟩
  · rcases List.mem_append.1 he with he | he
    · exact h.keys e he
    · simp at he; subst he; exact ⟨l, hk⟩
  · refine List.pairwise_append.2 ⟨h.apart, by simp, fun a ha b hb => ?_⟩
    simp at hb; subst hb; exact hn a ha
  · rcases List.mem_append.1 he with he | he
    · rw [mput_ne _ _ (hn e he)]; exact h.has e he
    · simp at he; subst he; exact mput_same ..
  · by_cases e : k = key
    · exact ⟨⟨key, val, c⟩, by simp, e.symm⟩
    · rw [mput_ne _ _ e] at hv
      obtain ⟨e1, h1, h2⟩ := h.only k v hv
      exact ⟨e1, List.mem_append_left _ h1, h2⟩
theorem Mok.set {kT : TypeId} {es : List MapEntry} {f : Value → Option Value} (h : Mok P kT es f) {key val : Value} {j : Nat} {e0 : MapEntry} (hj : es[j]? = some e0) (hk : e0.key = key) :
    Mok P kT (es.set j { e0 with key := key, val := val }) (mput f key val) := by
  have hjl : j < es.length := by rcases Nat.lt_or_ge j es.length with h' | h'; exact h'; rw [List.getElem?_eq_none h'] at hj; cases hj
  have hkeys : (es.set j { e0 with key := key, val := val }).map (·.key) = es.map (·.key) := by
    apply List.ext_getElem?
    intro i
    rw [List.getElem?_map, List.getElem?_map, List.getElem?_set]
    by_cases hi : j = i
    · subst hi; rw [if_pos rfl, if_pos hjl, hj]; simp [hk]
    · simp [hi]
  have hap : (es.set j { e0 with key := key, val := val }).Pairwise (fun a b => a.key ≠ b.key) := by
    have h1 : (es.map (·.key)).Pairwise (· ≠ ·) := List.pairwise_map.2 h.apart
    rw [← hkeys] at h1
    exact List.pairwise_map.1 h1
  have who : ∀ e ∈ es.set j { e0 with key := key, val := val }, e = { e0 with key := key, val := val } ∨ (e ∈ es ∧ e.key ≠ key) := by
    intro e he
    obtain ⟨i, hi, ex⟩ := List.getElem_of_mem he
    rw [List.getElem_set] at ex
    by_cases hji : j = i
    · rw [if_pos hji] at ex; exact .inl ex.symm
    · rw [if_neg hji] at ex
      have hi' : i < es.length := by simpa using hi
      refine .inr ⟨ex ▸ List.getElem_mem hi', fun e1 => hji ?_⟩
      have h1 : (es.map (·.key)).Nodup := List.pairwise_map.2 h.apart
      have h2 : (es.map (·.key))[j]? = (es.map (·.key))[i]? := by
        rw [List.getElem?_map, List.getElem?_map, hj, List.getElem?_eq_getElem hi', ex]
        simp [hk, e1]
      exact (List.getElem?_inj (by simpa using hjl) h1).1 h2
  refine ⟨fun e he => ?_, hap, fun e he => ?_, fun k v hv => ?_⟩
  · rcases who e he with rfl | ⟨h1, _⟩
    · subst hk; exact h.keys e0 (List.mem_of_getElem? hj)
    · exact h.keys e h1
  · rcases who e he with rfl | ⟨h1, h2⟩
    · exact mput_same ..
    · rw [mput_ne _ _ h2]; exact h.has e h1
  · by_cases e : k = key
    · exact ⟨{ e0 with key := key, val := val }, List.mem_of_getElem? (i := j) (by simp [hjl]), e.symm⟩
    · rw [mput_ne _ _ e] at hv
      obtain ⟨e1, h1, h2⟩ := h.only k v hv
      have : k ∈ (es.set j { e0 with key := key, val := val }).map (·.key) := by rw [hkeys]; exact List.mem_map.2 ⟨e1, h1, h2⟩
      obtain ⟨e2, h3, h4⟩ := List.mem_map.1 this
      exact ⟨e2, h3, h4⟩
theorem run_mapUpdate {kT E r : Nat} {f : Value → Option Value} {key val : Value} {l : Lit} {M : List Asn} {w : World} (hU : mapOf P U = some (kT, E)) (hK : Go.Maps.Keyed P kT) (hk : keyOf P kT key = some l)
    (hs : Sat B w (mpA P kT r f :: M)) : ∃ w', (Instr.mapUpdate U (.map (some r)) key val).run P w = .ok () w' ∧ Sat B w' (mpA P kT r (mput f key val) :: M) := by
  obtain ⟨es, c, hok, hst, hs1⟩ := mpA_openS hs
  have hb : w.heap[r]? = some (.map es c) := (hs1.get (List.mem_cons_self ..)).2
  have hlt : r < w.heap.size := (Array.getElem?_eq_some_iff.1 hb).1
  have hput : ∀ o, Sat B { w with heap := w.heap.setIfInBounds r o } (pt r o :: M) := fun o =>
    hs1.put (w' := { w with heap := w.heap.setIfInBounds r o }) (Io.refl w) (by simp) (fun x hx => by simp [Array.getElem?_setIfInBounds, Ne.symm hx]) (by simp [hlt])
  rcases hK.find w hk es.toList hok.keys with ⟨h1, h2⟩ | ⟨j, e0, h1, h2, h3⟩
  · refine ⟨{ w with heap := w.heap.setIfInBounds r (.map (es.push ⟨key, val, c⟩) (c + 1)) }, ?_, (hput _).ent (mpA_shut ?_ (Go.MapKept.stamped_push hst h2) M)⟩
    · simp [Instr.mapUpdate, run_under w U (under_of_map hU), Go.MapKept.run_getObj_map hb, hK.check w false hk, h1, Go.MapKept.run_setObj_map _ hb]
    · rw [Array.toList_push]; exact hok.push hk h2
  · have hj : es[j]? = some e0 := by simpa using h2
    have hst2 : Go.MapKept.Stamped (es.modify j (fun e' => { e' with key := key, val := val })) c := Go.MapKept.stamped_modify hst j _ (fun _ _ => rfl) (fun e _ hej => by
      rw [hj] at hej
      have he0 : e0 = e := Option.some.inj hej
      rw [← he0]; exact h3.symm)
    have hlist : (es.modify j (fun e' => { e' with key := key, val := val })).toList = es.toList.set j { e0 with key := key, val := val } := by rw [Array.toList_modify, Go.ChangeMaps.modify_eq_set _ _ _ _ h2]
    refine ⟨{ w with heap := w.heap.setIfInBounds r (.map (es.modify j (fun e' => { e' with key := key, val := val })) c) }, ?_, (hput _).ent (mpA_shut ?_ hst2 M)⟩
    · simp [Instr.mapUpdate, run_under w U (under_of_map hU), Go.MapKept.run_getObj_map hb, hK.check w false hk, h1, hj, h3, hK.stays w hk, Go.MapKept.run_setObj_map _ hb]
    · rw [hlist]; exact hok.set h2 h3
theorem Wl_mapUpdate {kT E r : Nat} {f : Value → Option Value} {key val : Value} {l : Lit} {M : List Asn} [hU : TMap P U kT E] (hK : Go.Maps.Keyed P kT) (hx : ev F x = .map (some r) := by exact rfl) (hy : Ev F y key := by (repeat (first | exact Ev.here | exact Ev.const | exact Ev.arg rfl | apply Ev.there rfl | exact Ev.none rfl | exact Ev.func | exact Ev.var)); (first | done | fail)) (hz : Ev F z val := by (repeat (first | exact Ev.here | exact Ev.const | exact Ev.arg rfl | apply Ev.there rfl | exact Ev.none rfl | exact Ev.func | exact Ev.var)); (first | done | fail))
    (ho : Out (mpA P kT r f) A M := by (repeat (first | exact Out.head | apply Out.tail)); (first | done | fail)) (hk : keyOf P kT key = some l) (k : Wl P B N fm ops rest F (mpA P kT r (mput f key val) :: M) K) :
    Wl P B N fm ops (⟨none, .mapUpdate U x y z, T, pos, aft, none⟩ :: rest) F A K :=
  Wl_valN rfl (fun w R hs => by
    obtain ⟨w', h1, h2⟩ := run_mapUpdate (P := P) (U := U) (val := val) hU.out hK hk ((hs.perm (ho.perm.cons R)).perm (.swap ..))
    exact ⟨w', .skip, by simp [execOp, hx, hy.eq, hz.eq, h1], .inl rfl, h2.perm (.swap ..)⟩) k
theorem run_look {kT E r : Nat} {f : Value → Option Value} {key : Value} {l : Lit} {M : List Asn} {w : World} (c : Bool) (hU : mapOf P U = some (kT, E)) (hK : Go.Maps.Keyed P kT) (hk : keyOf P kT key = some l)
    (hs : Sat B w (mpA P kT r f :: M)) {zv : Value} (hz : (zeroValue E).run P w = .ok zv w) :
    (Instr.lookup U (.map (some r)) key c).run P w = .ok (match f key with | some v => if c then .tuple #[v, .bool true] else v | none => if c then .tuple #[zv, .bool false] else zv) w := by
  obtain ⟨es, cl, hok, hs1⟩ := mpA_open hs
  have hb : w.heap[r]? = some (.map es cl) := (hs1.get (List.mem_cons_self ..)).2
  rcases hK.find w hk es.toList hok.keys with ⟨h1, h2⟩ | ⟨j, e0, h1, h2, h3⟩
  · have hn : f key = none := by
      cases hf : f key with
      | none => rfl
      | some v => obtain ⟨e, he, hke⟩ := hok.only key v hf; exact absurd hke (h2 e he)
    rw [hn]
    simp [Instr.lookup, run_under w U (under_of_map hU), Go.MapKept.run_getObj_map hb, hK.check w _ hk, h1, hz]
  · have hn : f key = some e0.val := by rw [← h3]; exact hok.has e0 (List.mem_of_getElem? h2)
    rw [hn]
    simp [Instr.lookup, run_under w U (under_of_map hU), Go.MapKept.run_getObj_map hb, hK.check w _ hk, h1]
def zeroV (P : Program) (T : Nat) : Option Value := (P.info? T).bind fun i => i.zero
theorem run_zeroV {E : Nat} {zv : Value} (w : World) (h : zeroV P E = some zv) : (zeroValue E).run P w = .ok zv w := by
  unfold zeroV at h
  cases hi : P.info? E with
  | none => simp [hi] at h
  | some i => simp [hi] at h; simp [zeroValue, typeInfo, program, Sem.run, hi, h]
theorem Wl_lookup {kT E r : Nat} {f : Value → Option Value} {key zv res : Value} {l : Lit} {M : List Asn} {c : Bool} [hU : TMap P U kT E] (hK : Go.Maps.Keyed P kT) (hd : Nat.blt d N = true := by exact rfl) (hx : ev F x = .map (some r) := by exact rfl) (hy : Ev F y key := by (repeat (first | exact Ev.here | exact Ev.const | exact Ev.arg rfl | apply Ev.there rfl | exact Ev.none rfl | exact Ev.func | exact Ev.var)); (first | done | fail))
    (ho : Out (mpA P kT r f) A M := by (repeat (first | exact Out.head | apply Out.tail)); (first | done | fail)) (hk : keyOf P kT key = some l) (hz : zeroV P E = some zv) (hres : (match f key with | some v => if c then Value.tuple #[v, .bool true] else v | none => if c then .tuple #[zv, .bool false] else zv) = res)
    (k : Wl P B N fm ops rest (upd F d res) A K) :
    Wl P B N fm ops (⟨some d, .lookup U x y c, T, pos, aft, none⟩ :: rest) F A K :=
  Wl_val rfl hd (fun w R hs => by
    have h1 := run_look (P := P) (U := U) c hU.out hK hk ((hs.perm (ho.perm.cons R)).perm (.swap ..)) (run_zeroV w hz)
    rw [hres] at h1
    exact ⟨w, by simp [execOp, hx, hy.eq, h1], hs⟩) k
end ops
end Go.Sl
