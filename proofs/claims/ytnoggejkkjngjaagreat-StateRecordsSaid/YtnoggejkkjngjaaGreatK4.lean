/- Rules for maps. No condition. -/
import Derived.Test.YtnoggejkkjngjaaGreatK3
import Derived.Maps.Keyed
set_option linter.unusedVariables false
set_option linter.unusedSimpArgs false
namespace Go.Sl
open Go
section ops
variable {P : Program} {B : Base} {N : Nat} {ops rest : List Oper} {F : Fr} {A : List Asn} {K : Fr → List Asn → Prop}
variable {T : TypeId} {pos : String} {aft : Array Edge} {d : Tmp} {fm : Fm} {x y z : Operand} {U V : TypeId}

structure Mok (P : Program) (kT : TypeId) (es : List MapEntry) (f : Value → Option Value) : Prop where
  keys : ∀ e ∈ es, ∃ l, keyOf P kT e.key = some l
  apart : es.Pairwise (fun a b => a.key ≠ b.key)
  has : ∀ e ∈ es, f e.key = some e.val
  only : ∀ k v, f k = some v → ∃ e ∈ es, e.key = k
/-- A map: what it has at each key. -/
def mpA (P : Program) (kT : TypeId) (r : Nat) (f : Value → Option Value) : Asn := exA fun x : Array MapEntry × Nat => puA (Mok P kT x.1.toList f ∧ Go.MapKept.Stamped x.1 x.2) (pt r (.map x.1 x.2))
open Classical in
noncomputable def mput (f : Value → Option Value) (k v : Value) : Value → Option Value := fun x => if x = k then some v else f x
theorem mput_same (f : Value → Option Value) (k v : Value) : mput f k v k = some v := by simp [mput]
theorem mput_ne (f : Value → Option Value) {k k' : Value} (v : Value) (h : k' ≠ k) : mput f k v k' = f k' := by simp [mput, h]
theorem mpA_openS {B : Base} {w : World} {kT : TypeId} {r : Nat} {f : Value → Option Value} {L : List Asn} (h : Sat B w (mpA P kT r f :: L)) : ∃ es c, Mok P kT (es : Array MapEntry).toList f ∧ Go.MapKept.Stamped es c ∧ Sat B w (pt r (.map es c) :: L) := by
  obtain ⟨⟨es, c⟩, h1⟩ := SatL.exA_open h.own
  obtain ⟨⟨h2, h4⟩, h3⟩ := SatL.puA_open h1
  exact ⟨es, c, h2, h4, h.size, h.io, h.base, h3⟩
theorem mpA_open {B : Base} {w : World} {kT : TypeId} {r : Nat} {f : Value → Option Value} {L : List Asn} (h : Sat B w (mpA P kT r f :: L)) : ∃ es c, Mok P kT (es : Array MapEntry).toList f ∧ Sat B w (pt r (.map es c) :: L) := by
  obtain ⟨es, c, h1, _, h2⟩ := mpA_openS h
  exact ⟨es, c, h1, h2⟩
theorem mpA_shut {kT : TypeId} {r : Nat} {f : Value → Option Value} {es : Array MapEntry} {c : Nat} (h : Mok P kT es.toList f) (hst : Go.MapKept.Stamped es c) (L : List Asn) : Ent (pt r (.map es c) :: L) (mpA P kT r f :: L) :=
  (Ent.puA_shut ⟨h, hst⟩ L).trans (Ent.exA_shut (f := fun x : Array MapEntry × Nat => puA (Mok P kT x.1.toList f ∧ Go.MapKept.Stamped x.1 x.2) (pt r (.map x.1 x.2))) (es, c) L)
theorem xE {kT E : Nat} (hd : Nat.blt d N = true := by exact rfl) (k : ∀ r, Wl P B N fm ops rest (upd F d (.map (some r))) (mpA P kT r (fun _ => none) :: A) K) :
    Wl P B N fm ops (⟨some d, .makeMap U none, T, pos, aft, none⟩ :: rest) F A K :=
  y8 (val := fun r => .map (some r)) (o := .map #[] 0) rfl hd (fun w R hs => ⟨{ w with heap := w.heap.push (.map #[] 0) }, by simp [execOp, Instr.makeMap, newObj, Sem.run], rfl, Io.refl w⟩)
    (fun r => yB (mpA_shut ⟨by simp, by simp, by simp, by simp⟩ (Go.MapKept.stamped_empty 0) A) (k r))
theorem Mok.push {kT : TypeId} {es : List MapEntry} {f : Value → Option Value} (h : Mok P kT es f) {key val : Value} {c : Nat} {l : Lit} (hk : keyOf P kT key = some l) (hn : ∀ e ∈ es, e.key ≠ key) :
    Mok P kT (es ++ [⟨key, val, c⟩]) (mput f key val) := by
  refine ⟨fun e he => ?_, ?_, fun e he => ?_, fun k v hv => ?_⟩
  · rcases List.mem_append.1 he with he | he
    · exact h.keys e he
    · simp at he; subst he; exact ⟨l, hk⟩
  · refine List.pairwise_append.2 ⟨h.apart, by simp, fun a ha b hb => ?_⟩
    simp at hb; subst hb; exact hn a ha
  · rcases List.mem_append.1 he with he | he
    · rw [mput_ne _ _ (hn e he)]; exact h.has e he
    · simp at he; subst he; exact mput_same ..
  · by_cases e : k = key
    · exact ⟨⟨key, val, c⟩, by simp, e.symm⟩
    · rw [mput_ne _ _ e] at hv
      obtain ⟨e1, h1, h2⟩ := h.only k v hv
      exact ⟨e1, List.mem_append_left _ h1, h2⟩
theorem Mok.set {kT : TypeId} {es : List MapEntry} {f : Value → Option Value} (h : Mok P kT es f) {key val : Value} {j : Nat} {e0 : MapEntry} (hj : es[j]? = some e0) (hk : e0.key = key) :
    Mok P kT (es.set j { e0 with key := key, val := val }) (mput f key val) := by
  have hjl : j < es.length := by rcases Nat.lt_or_ge j es.length with h' | h'; exact h'; rw [List.getElem?_eq_none h'] at hj; cases hj
  have hkeys : (es.set j { e0 with key := key, val := val }).map (·.key) = es.map (·.key) := by
    apply List.ext_getElem?
    intro i
    rw [List.getElem?_map, List.getElem?_map, List.getElem?_set]
    by_cases hi : j = i
    · subst hi; rw [if_pos rfl, if_pos hjl, hj]; simp [hk]
    · simp [hi]
  have hap : (es.set j { e0 with key := key, val := val }).Pairwise (fun a b => a.key ≠ b.key) := by
    have h1 : (es.map (·.key)).Pairwise (· ≠ ·) := List.pairwise_map.2 h.apart
    rw [← hkeys] at h1
    exact List.pairwise_map.1 h1
  have who : ∀ e ∈ es.set j { e0 with key := key, val := val }, e = { e0 with key := key, val := val } ∨ (e ∈ es ∧ e.key ≠ key) := by
    intro e he
    obtain ⟨i, hi, ex⟩ := List.getElem_of_mem he
    rw [List.getElem_set] at ex
    by_cases hji : j = i
    · rw [if_pos hji] at ex; exact .inl ex.symm
    · rw [if_neg hji] at ex
      have hi' : i < es.length := by simpa using hi
      refine .inr ⟨ex ▸ List.getElem_mem hi', fun e1 => hji ?_⟩
      have h1 : (es.map (·.key)).Nodup := List.pairwise_map.2 h.apart
      have h2 : (es.map (·.key))[j]? = (es.map (·.key))[i]? := by
        rw [List.getElem?_map, List.getElem?_map, hj, List.getElem?_eq_getElem hi', ex]
        simp [hk, e1]
      exact (List.getElem?_inj (by simpa using hjl) h1).1 h2
  refine ⟨fun e he => ?_, hap, fun e he => ?_, fun k v hv => ?_⟩
  · rcases who e he with rfl | ⟨h1, _⟩
    · subst hk; exact h.keys e0 (List.mem_of_getElem? hj)
    · exact h.keys e h1
  · rcases who e he with rfl | ⟨h1, h2⟩
    · exact mput_same ..
    · rw [mput_ne _ _ h2]; exact h.has e h1
  · by_cases e : k = key
    · exact ⟨{ e0 with key := key, val := val }, List.mem_of_getElem? (i := j) (by simp [hjl]), e.symm⟩
    · rw [mput_ne _ _ e] at hv
      obtain ⟨e1, h1, h2⟩ := h.only k v hv
      have : k ∈ (es.set j { e0 with key := key, val := val }).map (·.key) := by rw [hkeys]; exact List.mem_map.2 ⟨e1, h1, h2⟩
      obtain ⟨e2, h3, h4⟩ := List.mem_map.1 this
      exact ⟨e2, h3, h4⟩
theorem run_mapUpdate {kT E r : Nat} {f : Value → Option Value} {key val : Value} {l : Lit} {M : List Asn} {w : World} (hU : mapOf P U = some (kT, E)) (hK : Go.Maps.Keyed P kT) (hk : keyOf P kT key = some l)
    (hs : Sat B w (mpA P kT r f :: M)) : ∃ w', (Instr.mapUpdate U (.map (some r)) key val).run P w = .ok () w' ∧ Sat B w' (mpA P kT r (mput f key val) :: M) := by
  obtain ⟨es, c, hok, hst, hs1⟩ := mpA_openS hs
  have hb : w.heap[r]? = some (.map es c) := (hs1.get (List.mem_cons_self ..)).2
  have hlt : r < w.heap.size := (Array.getElem?_eq_some_iff.1 hb).1
  have hput : ∀ o, Sat B { w with heap := w.heap.setIfInBounds r o } (pt r o :: M) := fun o =>
    hs1.put (w' := { w with heap := w.heap.setIfInBounds r o }) (Io.refl w) (by simp) (fun x hx => by simp [Array.getElem?_setIfInBounds, Ne.symm hx]) (by simp [hlt])
  rcases hK.find w hk es.toList hok.keys with ⟨h1, h2⟩ | ⟨j, e0, h1, h2, h3⟩
  · refine ⟨{ w with heap := w.heap.setIfInBounds r (.map (es.push ⟨key, val, c⟩) (c + 1)) }, ?_, (hput _).ent (mpA_shut ?_ (Go.MapKept.stamped_push hst h2) M)⟩
    · simp [Instr.mapUpdate, run_under w U (under_of_map hU), Go.MapKept.run_getObj_map hb, hK.check w false hk, h1, Go.MapKept.run_setObj_map _ hb]
    · rw [Array.toList_push]; exact hok.push hk h2
  · have hj : es[j]? = some e0 := by simpa using h2
    have hst2 : Go.MapKept.Stamped (es.modify j (fun e' => { e' with key := key, val := val })) c := Go.MapKept.stamped_modify hst j _ (fun _ _ => rfl) (fun e _ hej => by
      rw [hj] at hej
      have he0 : e0 = e := Option.some.inj hej
      rw [← he0]; exact h3.symm)
    have hlist : (es.modify j (fun e' => { e' with key := key, val := val })).toList = es.toList.set j { e0 with key := key, val := val } := by rw [Array.toList_modify, Go.ChangeMaps.modify_eq_set _ _ _ _ h2]
    refine ⟨{ w with heap := w.heap.setIfInBounds r (.map (es.modify j (fun e' => { e' with key := key, val := val })) c) }, ?_, (hput _).ent (mpA_shut ?_ hst2 M)⟩
    · simp [Instr.mapUpdate, run_under w U (under_of_map hU), Go.MapKept.run_getObj_map hb, hK.check w false hk, h1, hj, h3, hK.stays w hk, Go.MapKept.run_setObj_map _ hb]
    · rw [hlist]; exact hok.set h2 h3
theorem yi {kT E r : Nat} {f : Value → Option Value} {key val : Value} {l : Lit} {M : List Asn} [hU : TMap P U kT E] (hK : Go.Maps.Keyed P kT) (hx : ev F x = .map (some r) := by exact rfl) (hy : Ev F y key := by (repeat (first | exact Ev.here | exact Ev.const | exact Ev.arg rfl | apply Ev.there rfl | exact Ev.none rfl | exact Ev.func | exact Ev.var)); (first | done | fail)) (hz : Ev F z val := by (repeat (first | exact Ev.here | exact Ev.const | exact Ev.arg rfl | apply Ev.there rfl | exact Ev.none rfl | exact Ev.func | exact Ev.var)); (first | done | fail))
    (ho : Out (mpA P kT r f) A M := by (repeat (first | exact Out.head | apply Out.tail)); (first | done | fail)) (hk : keyOf P kT key = some l) (k : Wl P B N fm ops rest F (mpA P kT r (mput f key val) :: M) K) :
    Wl P B N fm ops (⟨none, .mapUpdate U x y z, T, pos, aft, none⟩ :: rest) F A K :=
  yq rfl (fun w R hs => by
    obtain ⟨w', h1, h2⟩ := run_mapUpdate (P := P) (U := U) (val := val) hU.out hK hk ((hs.perm (ho.perm.cons R)).perm (.swap ..))
    exact ⟨w', .skip, by simp [execOp, hx, hy.eq, hz.eq, h1], .inl rfl, h2.perm (.swap ..)⟩) k
theorem run_look {kT E r : Nat} {f : Value → Option Value} {key : Value} {l : Lit} {M : List Asn} {w : World} (c : Bool) (hU : mapOf P U = some (kT, E)) (hK : Go.Maps.Keyed P kT) (hk : keyOf P kT key = some l)
    (hs : Sat B w (mpA P kT r f :: M)) {zv : Value} (hz : (zeroValue E).run P w = .ok zv w) :
    (Instr.lookup U (.map (some r)) key c).run P w = .ok (match f key with | some v => if c then .tuple #[v, .bool true] else v | none => if c then .tuple #[zv, .bool false] else zv) w := by
  obtain ⟨es, cl, hok, hs1⟩ := mpA_open hs
  have hb : w.heap[r]? = some (.map es cl) := (hs1.get (List.mem_cons_self ..)).2
  rcases hK.find w hk es.toList hok.keys with ⟨h1, h2⟩ | ⟨j, e0, h1, h2, h3⟩
  · have hn : f key = none := by
      cases hf : f key with
      | none => rfl
      | some v => obtain ⟨e, he, hke⟩ := hok.only key v hf; exact absurd hke (h2 e he)
    rw [hn]
    simp [Instr.lookup, run_under w U (under_of_map hU), Go.MapKept.run_getObj_map hb, hK.check w _ hk, h1, hz]
  · have hn : f key = some e0.val := by rw [← h3]; exact hok.has e0 (List.mem_of_getElem? h2)
    rw [hn]
    simp [Instr.lookup, run_under w U (under_of_map hU), Go.MapKept.run_getObj_map hb, hK.check w _ hk, h1]
def zeroV (P : Program) (T : Nat) : Option Value := (P.info? T).bind fun i => i.zero
theorem run_zeroV {E : Nat} {zv : Value} (w : World) (h : zeroV P E = some zv) : (zeroValue E).run P w = .ok zv w := by
  unfold zeroV at h
  cases hi : P.info? E with
  | none => simp [hi] at h
  | some i => simp [hi] at h; simp [zeroValue, typeInfo, program, Sem.run, hi, h]
theorem yk {kT E r : Nat} {f : Value → Option Value} {key zv res : Value} {l : Lit} {M : List Asn} {c : Bool} [hU : TMap P U kT E] (hK : Go.Maps.Keyed P kT) (hd : Nat.blt d N = true := by exact rfl) (hx : ev F x = .map (some r) := by exact rfl) (hy : Ev F y key := by (repeat (first | exact Ev.here | exact Ev.const | exact Ev.arg rfl | apply Ev.there rfl | exact Ev.none rfl | exact Ev.func | exact Ev.var)); (first | done | fail))
    (ho : Out (mpA P kT r f) A M := by (repeat (first | exact Out.head | apply Out.tail)); (first | done | fail)) (hk : keyOf P kT key = some l) (hz : zeroV P E = some zv) (hres : (match f key with | some v => if c then Value.tuple #[v, .bool true] else v | none => if c then .tuple #[zv, .bool false] else zv) = res)
    (k : Wl P B N fm ops rest (upd F d res) A K) :
    Wl P B N fm ops (⟨some d, .lookup U x y c, T, pos, aft, none⟩ :: rest) F A K :=
  xO rfl hd (fun w R hs => by
    have h1 := run_look (P := P) (U := U) c hU.out hK hk ((hs.perm (ho.perm.cons R)).perm (.swap ..)) (run_zeroV w hz)
    rw [hres] at h1
    exact ⟨w, by simp [execOp, hx, hy.eq, h1], hs⟩) k
end ops
end Go.Sl
/- Slices of whatever address: parts of them, rows that are owned read as they are. No condition. -/
set_option linter.unusedVariables false
namespace Go.Sl
open Go
def slAdd (a : Option Addr) (cap l n : Nat) : Option Addr := if cap = l then a else a.map fun p => p.add (l * n)
section ops
variable {P : Program} {B : Base} {N : Nat} {ops rest : List Oper} {F : Fr} {A : List Asn} {K : Fr → List Asn → Prop}
variable {T : TypeId} {pos : String} {aft : Array Edge} {d : Tmp} {fm : Fm} {x y : Operand} {U V : TypeId}
theorem yc {E n len cap : Nat} {a : Option Addr} {lo hi : Option Operand} {l h : Nat} [h1 : TSl P U E] [h2 : TSize P E n] (hd : Nat.blt d N = true := by exact rfl) (hx : ev F x = .slice a len cap := by exact rfl)
    (hlo : match lo with | none => l = 0 | some o => ∃ k, ev F o = .int k l := by first | exact rfl | exact ⟨_, rfl⟩) (hhi : match hi with | none => h = len | some o => ∃ k, ev F o = .int k h := by first | exact rfl | exact ⟨_, rfl⟩) (hlh : l ≤ h := by omega) (hhc : h ≤ cap := by omega)
    (k' : Wl P B N fm ops rest (upd F d (.slice (slAdd a cap l n) (h - l) (cap - l))) A K) :
    Wl P B N fm ops (⟨some d, .slice U x lo hi none, T, pos, aft, none⟩ :: rest) F A K := yA hd (fun w => by
      have hb : ∀ s, (Instr.sliceBounds s len cap (lo.map (ev F)) (hi.map (ev F)) none).run P w = .ok (l, h, cap) w := by
        intro s
        cases lo with
        | none =>
          cases hi with
          | none => simp only at hlo hhi; subst hlo hhi; simp [Instr.sliceBounds]
          | some o =>
            obtain ⟨k, hk⟩ := hhi; simp only at hlo; subst hlo
            simp [Instr.sliceBounds, run_bound (P := P) (w := w) hk (Int.natCast_nonneg _) (Int.ofNat_le.2 hhc)]
        | some p =>
          obtain ⟨j, hj⟩ := hlo
          cases hi with
          | none =>
            simp only at hhi; subst hhi
            simp [Instr.sliceBounds, run_bound (P := P) (w := w) hj (Int.natCast_nonneg _) (Int.ofNat_le.2 hlh)]
          | some o =>
            obtain ⟨k, hk⟩ := hhi
            simp [Instr.sliceBounds, run_bound (P := P) (w := w) hk (Int.natCast_nonneg _) (Int.ofNat_le.2 hhc), run_bound (P := P) (w := w) hj (Int.natCast_nonneg _) (Int.ofNat_le.2 hlh)]
      simp [execOp, hx, Instr.sliceAt, Instr.slice, run_under w U (under_of_sl h1.out), hb, run_sizeOf w E h2.out, slAdd]) k'
theorem yf {E n len cap : Nat} {a : Option Addr} {hi : Option Operand} {h : Nat} [h1 : TSl P U E] [h2 : TSize P E n] (hd : Nat.blt d N = true := by exact rfl) (hx : ev F x = .slice a len cap := by exact rfl)
    (hhi : match hi with | none => h = len | some o => ∃ k, ev F o = .int k h := by first | exact rfl | exact ⟨_, rfl⟩) (hhc : h ≤ cap := by omega)
    (k' : Wl P B N fm ops rest (upd F d (.slice a h cap)) A K) :
    Wl P B N fm ops (⟨some d, .slice U x none hi none, T, pos, aft, none⟩ :: rest) F A K :=
  yc (l := 0) (h := h) hd hx rfl hhi (Nat.zero_le _) hhc (by
    have e : slAdd a cap 0 n = a := by unfold slAdd; split; rfl; cases a <;> simp [Addr.add]
    simpa [e] using k')
theorem RdS.cut {sz m c l h : Nat} {a : Option Addr} {vs : List Value} (hr : RdS P B A sz a m c vs) (hl : l ≤ h) (hh : h ≤ m) : RdS P B A sz (slAdd a c l sz) (h - l) (c - l) ((vs.drop (l * sz)).take ((h - l) * sz)) := by
  have hcap := hr.cap
  have hle : h * sz ≤ m * sz := Nat.mul_le_mul_right _ hh
  have hls : l * sz ≤ h * sz := Nat.mul_le_mul_right _ hl
  have hsub : (h - l) * sz = h * sz - l * sz := Nat.sub_mul ..
  have hlen := hr.len
  refine ⟨by rw [List.length_take, List.length_drop]; omega, fun e => ?_, by omega, fun w hs => ⟨rfl, fun n hn => ?_⟩⟩
  · unfold slAdd at e
    split at e
    · omega
    · cases a with
      | none => have := hr.nil rfl; omega
      | some p => cases e
  · have hnn : n * sz ≤ (h - l) * sz := Nat.mul_le_mul_right _ hn
    rw [List.take_take, Nat.min_eq_left hnn]
    unfold slAdd
    cases a with
    | none =>
      have := hr.nil rfl
      have hm : m * sz = 0 := by rw [this, Nat.zero_mul]
      have : vs = [] := List.length_eq_zero_iff.1 (by omega)
      subst this
      split <;> simp [Builtin.firstCells]
    | some p =>
      split
      · have h0 : n * sz = 0 := by
          have : n = 0 := by omega
          rw [this, Nat.zero_mul]
        rw [h0]
        simp [Builtin.firstCells, h0, loadCells, loadCellsFrom]
      · have := rds_loadsG hr hs (j := l * sz) (n := n * sz) (cs := (vs.drop (l * sz)).take (n * sz)) rfl (by rw [List.length_take, List.length_drop]; omega)
        simpa [Builtin.firstCells] using this
theorem RdS.take {sz m c h : Nat} {a : Option Addr} {vs : List Value} (hr : RdS P B A sz a m c vs) (hh : h ≤ m) : RdS P B A sz a h c (vs.take (h * sz)) := by
  have e : slAdd a c 0 sz = a := by unfold slAdd; split; rfl; cases a <;> simp [Addr.add]
  have := hr.cut (Nat.zero_le h) hh
  simpa [e] using this
/-- What is known of a row that is owned. -/
structure OwnF (a : Option Addr) (len cap sz : Nat) (cs : List Value) : Prop where
  e1 : cs.length = len * sz
  e2 : len ≤ cap
  e3 : a = none → len = 0
theorem OwnF.some {a : Option Addr} {len cap sz : Nat} {cs : List Value} (h : OwnF a len cap sz cs) (hl : 0 < len) : ∃ p, a = some p := by
  cases a with
  | none => have := h.e3 rfl; omega
  | some p => exact ⟨p, rfl⟩
theorem OwnF.rd {a : Option Addr} {len cap sz : Nat} {cs : List Value} {E : TypeId} {M : List Asn} (h : OwnF a len cap sz cs) (ho : Out (own a len cap sz cs E) A M) : RdS P B A sz a len cap cs :=
  ⟨h.e1, h.e3, h.e2, src_out ho h.e1⟩
theorem own_ownF {w : World} {a : Option Addr} {len cap sz : Nat} {cs : List Value} {E : TypeId} {L : List Asn} (h0 : 0 < sz) (hs : Sat B w (own a len cap sz cs E :: L)) : OwnF a len cap sz cs := by
  rcases own_open hs.own with ⟨e1, e2, e3, e4, _⟩ | ⟨r, spare, e1, e2, e3, _⟩
  · exact ⟨by simp [e2, e4], by omega, fun _ => e2⟩
  · refine ⟨e2, ?_, fun e => by rw [e] at e1; cases e1⟩
    have : len * sz ≤ cap * sz := by rw [← e2, ← e3]; simp
    exact Nat.le_of_mul_le_mul_right this h0
theorem yW {c : Code} {Q : Exit → Fr → List Asn → Prop} {a : Option Addr} {len cap sz : Nat} {cs : List Value} {E : TypeId} {M : List Asn} (ho : Out (own a len cap sz cs E) A M := by (repeat (first | exact Out.head | apply Out.tail)); (first | done | fail)) (h0 : 0 < sz := by omega)
    (h : OwnF a len cap sz cs → Wc P B N c F A Q) : Wc P B N c F A Q := fun ro R ac w hk hr hs =>
  h (own_ownF (B := B) (w := w) h0 ((hs.perm (ho.perm.cons R)).perm (.swap ..))) ro R ac w hk hr hs
theorem yF {l : List Oper} {a : Option Addr} {len cap sz : Nat} {cs : List Value} {E : TypeId} {M : List Asn} (ho : Out (own a len cap sz cs E) A M := by (repeat (first | exact Out.head | apply Out.tail)); (first | done | fail)) (h0 : 0 < sz := by omega)
    (h : OwnF a len cap sz cs → Wl P B N fm ops l F A K) : Wl P B N fm ops l F A K := fun R hE ac w hr hs =>
  h (own_ownF (B := B) (w := w) h0 ((hs.perm (ho.perm.cons R)).perm (.swap ..))) R hE ac w hr hs
/-- append(x, y...), y whatever can be read. -/
theorem yN {E E3 sz by_ len cap m c : Nat} {z cs vs : List Value} {a b : Option Addr} {M : List Asn} [h1 : TSl P U E] [h2 : TSize P E sz] [h3 : TBytes P E by_] [h4 : TZero P E z] [h5 : TSl P V E3]
    (hd : Nat.blt d N = true := by exact rfl) (hx : ev F x = .slice a len cap := by exact rfl) (hy : Ev F y (.slice b m c) := by (repeat (first | exact Ev.here | exact Ev.const | exact Ev.arg rfl | apply Ev.there rfl | exact Ev.none rfl | exact Ev.func | exact Ev.var)); (first | done | fail)) (hzl : z.length = sz := by exact rfl) (hby : 0 < by_ := by omega)
    (ho : Out (own a len cap sz cs E) A M := by (repeat (first | exact Out.head | apply Out.tail)); (first | done | fail)) (hsrc : RdS P B A sz b m c vs) (hvc : vs.all isCell = true := by first | rfl | assumption | (simp only [List.all_cons, List.all_nil, Bool.and_eq_true, Bool.and_true, cInt, cBool, cStr, cPtr, cSl, cByte, true_and, and_true] at *; first | done | assumption | simp only [*, and_self]) | simp [isCell, byteV]) (hbd : (5 * (len + m) + 3000) * by_ ≤ 1125899906842624 ∨ (cap = 0 ∧ (len + m) * by_ ≤ 281474976710656))
    (k : ∀ a' cap', Wl P B N fm ops rest (upd F d (.slice a' (len + m) cap')) (own a' (len + m) cap' sz (cs ++ vs) E :: M) K) :
    Wl P B N fm ops (⟨some d, .call ⟨.builtin .append, #[x, y], #[U, V]⟩, T, pos, aft, none⟩ :: rest) F A K :=
  xG hd hx hy hzl hby ho hsrc.src hsrc.len hvc hbd k
theorem ye {a b : ByteArray} (hd : Nat.blt d N = true := by exact rfl) (hx : ev F x = .string a := by exact rfl) (hy : ev F y = .string b := by exact rfl) (k' : Wl P B N fm ops rest (upd F d (.bool (Op.bytesLess a.toList b.toList || a.toList == b.toList))) A K) :
    Wl P B N fm ops (⟨some d, .binOp .leq U x y V, T, pos, aft, none⟩ :: rest) F A K := yA hd (fun w => by simp [execOp, hx, hy, eqGuard, binOp, Op.stringOp]) k'
end ops
end Go.Sl
