/- Rules for maps: how many keys, none any more. No condition. -/
import Derived.Test.YtnoggejkkjngjaaSm
import Derived.Maps.RangeRun
set_option linter.unusedVariables false
set_option linter.unusedSimpArgs false
namespace Go.Sl
open Go
section ops
variable {P : Program} {B : Base} {N : Nat} {ops rest : List Oper} {F : Fr} {A : List Asn} {K : Fr → List Asn → Prop}
variable {T : TypeId} {pos : String} {aft : Array Edge} {d : Tmp} {fm : Fm} {x y z : Operand} {U V : TypeId}
theorem Mok.len {kT : TypeId} {es : List MapEntry} {f : Value → Option Value} (h : Mok P kT es f) {ks : List Value} (hn : ks.Nodup) (hk : ∀ k, k ∈ ks ↔ ∃ v, f k = some v) : es.length = ks.length := by
  have h1 : (es.map (·.key)).Nodup := List.pairwise_map.2 h.apart
  have h2 : ∀ k, k ∈ es.map (·.key) ↔ k ∈ ks := fun k => by
    rw [hk]
    constructor
    · intro hm
      obtain ⟨e, he, rfl⟩ := List.mem_map.1 hm
      exact ⟨_, h.has e he⟩
    · rintro ⟨v, hv⟩
      obtain ⟨e, he, rfl⟩ := h.only k v hv
      exact List.mem_map.2 ⟨e, he, rfl⟩
  have := ((List.perm_ext_iff_of_nodup h1 hn).2 h2).length_eq
  simpa using this
theorem Wl_len_map {kT E r : Nat} {f : Value → Option Value} {ks : List Value} {M : List Asn} [hU : TMap P U kT E] (hk : kindB fm (some d) (.call ⟨.builtin .len, #[x], #[U]⟩) ≠ 0 := by decide) (hd : Nat.blt d N = true := by exact rfl) (hx : ev F x = .map (some r) := by exact rfl) (ho : Out (mpA P kT r f) A M := by (repeat (first | exact Out.head | apply Out.tail)); (first | done | fail))
    (hn : ks.Nodup) (hks : ∀ k, k ∈ ks ↔ ∃ v, f k = some v) (k' : Wl P B N fm ops rest (upd F d (.int .i64 ks.length)) A K) :
    Wl P B N fm ops (⟨some d, .call ⟨.builtin .len, #[x], #[U]⟩, T, pos, aft, none⟩ :: rest) F A K :=
  Wl_rd hk hd (fun w R hs => by
    obtain ⟨es, c, hok, hs1⟩ := mpA_open ((hs.perm (ho.perm.cons R)).perm (.swap ..))
    have hb : w.heap[r]? = some (.map es c) := (hs1.get (List.mem_cons_self ..)).2
    have hl : es.size = ks.length := by have := hok.len hn hks; simpa using this
    simp [execOp, hx, resolve, invoke, builtin, Builtin.len_, run_under w U (under_of_map hU.out), Go.MapKept.run_getObj_map hb, goInt, hl]) k'
theorem Wl_clear {kT E r : Nat} {f : Value → Option Value} {M : List Asn} [hU : TMap P U kT E] (hx : ev F x = .map (some r) := by exact rfl) (ho : Out (mpA P kT r f) A M := by (repeat (first | exact Out.head | apply Out.tail)); (first | done | fail))
    (k' : Wl P B N fm ops rest F (mpA P kT r (fun _ => none) :: M) K) :
    Wl P B N fm ops (⟨none, .call ⟨.builtin .clear, #[x], #[U]⟩, T, pos, aft, none⟩ :: rest) F A K :=
  Wl_valN rfl (fun w R hs => by
    obtain ⟨es, c, hok, hs1⟩ := mpA_open ((hs.perm (ho.perm.cons R)).perm (.swap ..))
    have hb : w.heap[r]? = some (.map es c) := (hs1.get (List.mem_cons_self ..)).2
    have hlt : r < w.heap.size := (Array.getElem?_eq_some_iff.1 hb).1
    have hput : Sat B { w with heap := w.heap.setIfInBounds r (.map #[] c) } (pt r (.map #[] c) :: (R :: M)) :=
      hs1.put (w' := { w with heap := w.heap.setIfInBounds r (.map #[] c) }) (Io.refl w) (by simp) (fun x hx => by simp [Array.getElem?_setIfInBounds, Ne.symm hx]) (by simp [hlt])
    refine ⟨{ w with heap := w.heap.setIfInBounds r (.map #[] c) }, .value (.tuple #[]), ?_, .inr ⟨_, rfl⟩, (hput.ent (mpA_shut ⟨by simp, by simp, by simp, by simp⟩ (Go.MapKept.stamped_empty c) _)).perm (.swap ..)⟩
    simp [execOp, hx, resolve, invoke, builtin, Builtin.clear_, run_under w U (under_of_map hU.out), Go.MapKept.run_getObj_map hb, Go.MapKept.run_setObj_map _ hb]) k'
/-- A map that is ranged over: which keys were told. -/
def itA (P : Program) (kT : TypeId) (r it : Nat) (f : Value → Option Value) (done : List Value) : Asn := exN fun x : Array MapEntry × Nat × Nat × Array Nat × Nat =>
  [puA (Mok P kT x.1.toList f ∧ Go.MapKept.Stamped x.1 x.2.1 ∧ (∀ e ∈ x.1.toList, e.born < x.2.2.1) ∧ (x.2.2.1 ≤ x.2.2.2.2 ∧ x.2.2.1 ≤ x.2.1) ∧ (∀ e ∈ x.1.toList, (x.2.2.2.1.contains e.born = true ↔ e.key ∈ done)) ∧ (∀ k ∈ done, ∃ v, f k = some v)) (pt r (.map x.1 x.2.1)), pt it (.mapIter (some r) x.2.2.1 x.2.2.2.1 x.2.2.2.2)]
theorem itA_open {B : Base} {w : World} {kT : TypeId} {r it : Nat} {f : Value → Option Value} {done : List Value} {L : List Asn} (h : Sat B w (itA P kT r it f done :: L)) : ∃ (es : Array MapEntry) (c since : Nat) (seen : Array Nat) (last : Nat),
    Mok P kT es.toList f ∧ Go.MapKept.Stamped es c ∧ (∀ e ∈ es.toList, e.born < since) ∧ (since ≤ last ∧ since ≤ c) ∧ (∀ e ∈ es.toList, (seen.contains e.born = true ↔ e.key ∈ done)) ∧ (∀ k ∈ done, ∃ v, f k = some v) ∧ Sat B w (pt it (.mapIter (some r) since seen last) :: pt r (.map es c) :: L) := by
  obtain ⟨x, hx⟩ := SatL.exN_open h.own
  obtain ⟨es, c, since, seen, last⟩ := x
  obtain ⟨hp, h3⟩ := SatL.puA_open hx
  exact ⟨es, c, since, seen, last, hp.1, hp.2.1, hp.2.2.1, hp.2.2.2.1, hp.2.2.2.2.1, hp.2.2.2.2.2, (Sat.mk h.size h.io h.base h3 : Sat B w (pt r (.map es c) :: pt it (.mapIter (some r) since seen last) :: L)).perm (.swap ..)⟩
theorem itA_shut {kT : TypeId} {r it : Nat} {f : Value → Option Value} {done : List Value} {es : Array MapEntry} {c since : Nat} {seen : Array Nat} {last : Nat} (h : Mok P kT es.toList f) (hst : Go.MapKept.Stamped es c) (h1 : ∀ e ∈ es.toList, e.born < since) (h2 : since ≤ last ∧ since ≤ c)
    (h3 : ∀ e ∈ es.toList, (seen.contains e.born = true ↔ e.key ∈ done)) (h4 : ∀ k ∈ done, ∃ v, f k = some v) (L : List Asn) : Ent (pt it (.mapIter (some r) since seen last) :: pt r (.map es c) :: L) (itA P kT r it f done :: L) :=
  (Ent.perm (List.Perm.swap ..)).trans ((Ent.puA_shut ⟨h, hst, h1, h2, h3, h4⟩ _).trans (Ent.exN_shut (f := fun x : Array MapEntry × Nat × Nat × Array Nat × Nat =>
  [puA (Mok P kT x.1.toList f ∧ Go.MapKept.Stamped x.1 x.2.1 ∧ (∀ e ∈ x.1.toList, e.born < x.2.2.1) ∧ (x.2.2.1 ≤ x.2.2.2.2 ∧ x.2.2.1 ≤ x.2.1) ∧ (∀ e ∈ x.1.toList, (x.2.2.2.1.contains e.born = true ↔ e.key ∈ done)) ∧ (∀ k ∈ done, ∃ v, f k = some v)) (pt r (.map x.1 x.2.1)), pt it (.mapIter (some r) x.2.2.1 x.2.2.2.1 x.2.2.2.2)]) (es, c, since, seen, last) L))
/-- Behind the range the map is as it was. -/
theorem itA_back {kT : TypeId} {r it : Nat} {f : Value → Option Value} {done : List Value} (L : List Asn) : Ent (itA P kT r it f done :: L) (mpA P kT r f :: L) := fun m U hs => by
  obtain ⟨x, hx⟩ := SatL.exN_open hs
  obtain ⟨hp, h3⟩ := SatL.puA_open hx
  exact mpA_shut hp.1 hp.2.1 L m U ((Ent.perm (List.Perm.swap ..)).trans (Ent.drop _) m U h3)
theorem Wl_rangeMap {kT E r : Nat} {f : Value → Option Value} {M : List Asn} [hU : TMap P U kT E] (hd : Nat.blt d N = true := by exact rfl) (hx : ev F x = .map (some r) := by exact rfl) (ho : Out (mpA P kT r f) A M := by (repeat (first | exact Out.head | apply Out.tail)); (first | done | fail))
    (k : ∀ it, Wl P B N fm ops rest (upd F d (.pointer (some ⟨it, 0, none⟩))) (itA P kT r it f [] :: M) K) :
    Wl P B N fm ops (⟨some d, .range U x, T, pos, aft, none⟩ :: rest) F A K :=
  Wl_ent (Ent.perm ho.perm) (Wl_op rfl rfl fun R hE a w hr hs => by
    have hs0 : Sat B w (mpA P kT r f :: R :: M) := hs.perm (.swap ..)
    obtain ⟨es, c, hok, hst, hs1⟩ := mpA_openS hs0
    have hb : w.heap[r]? = some (.map es c) := (hs1.get (List.mem_cons_self ..)).2
    have hrun : (execOp (ev F) ⟨some d, .range U x, T, pos, aft, none⟩).run P w = .ok (.value (.pointer (some ⟨w.heap.size, 0, none⟩))) { w with heap := w.heap.push (.mapIter (some r) c #[] c) } := by
      simp [execOp, hx, Instr.range, run_under w U (under_of_map hU.out), Go.MapKept.run_getObj_map hb, newObj, Sem.run]
    rw [hrun, Oper.upY_value]
    have hs2 : Sat B { w with heap := w.heap.push (.mapIter (some r) c #[] c) } (pt w.heap.size (.mapIter (some r) c #[] c) :: pt r (.map es c) :: R :: M) := hs1.push (Io.refl w) rfl
    have hs3 : Sat B { w with heap := w.heap.push (.mapIter (some r) c #[] c) } (itA P kT r w.heap.size f [] :: R :: M) := hs2.ent (itA_shut hok hst ((Go.MapKept.stamped_iff es c).1 hst).1 ⟨Nat.le_refl c, Nat.le_refl c⟩ (fun e _ => by simp) (by simp) _)
    have hs4 : Sat B { w with heap := w.heap.push (.mapIter (some r) c #[] c) } (R :: itA P kT r w.heap.size f [] :: M) := hs3.perm (.swap ..)
    exact ⟨hs4.hd, k w.heap.size R hE _ _ (hr.put (by simpa [Nat.blt_eq] using hd) _) hs4⟩)
/-- .. behind a step: what was told last. -/
def itE (P : Program) (kT : TypeId) (r it : Nat) (f : Value → Option Value) (done : List Value) (key v : Value) : Asn := exN fun x : (Array MapEntry × Nat × Nat × Array Nat) × MapEntry =>
  [puA (Mok P kT x.1.1.toList f ∧ Go.MapKept.Stamped x.1.1 x.1.2.1 ∧ (∀ e ∈ x.1.1.toList, e.born < x.1.2.2.1) ∧ x.1.2.2.1 ≤ x.1.2.1 ∧ (∀ e ∈ x.1.1.toList, (x.1.2.2.2.contains e.born = true ↔ e.key ∈ done)) ∧ (∀ k ∈ done, ∃ v, f k = some v) ∧ x.2 ∈ x.1.1.toList ∧ x.2.key = key ∧ x.2.val = v) (pt r (.map x.1.1 x.1.2.1)), pt it (.mapIter (some r) x.1.2.2.1 (x.1.2.2.2.push x.2.born) x.1.2.1)]
theorem itE_done {kT : TypeId} {r it : Nat} {f : Value → Option Value} {done : List Value} {key v : Value} (L : List Asn) : Ent (itE P kT r it f done key v :: L) (itA P kT r it f (key :: done) :: L) := fun m U hs => by
  obtain ⟨⟨⟨es, c, since, seen⟩, e⟩, hx⟩ := SatL.exN_open hs
  obtain ⟨⟨h1, h2, h3, h4, h5, h6, h7, h8, h9⟩, h10⟩ := SatL.puA_open hx
  simp only at h1 h2 h3 h4 h5 h6 h7 h8 h9
  have hst := (Go.MapKept.stamped_iff es c).1 h2
  refine itA_shut h1 h2 h3 ⟨h4, h4⟩ (fun x hx' => ?_) (fun k hk => ?_) L m U ((Ent.perm (List.Perm.swap ..)) m U h10)
  · simp only [Array.contains_push, Bool.or_eq_true, beq_iff_eq, List.mem_cons]
    rw [h5 x hx']
    constructor
    · rintro (h | h)
      · exact .inr h
      · left
        rw [← h8]
        obtain ⟨i, hi, rfl⟩ := List.getElem_of_mem hx'
        obtain ⟨j, hj, rfl⟩ := List.getElem_of_mem h7
        have : i = j := (List.getElem?_inj (by simpa using hi) hst.2.1).1 (by rw [List.getElem?_map, List.getElem?_map, List.getElem?_eq_getElem hi, List.getElem?_eq_getElem hj]; simpa using h)
        subst this; rfl
    · rintro (h | h)
      · right
        have hn : (es.toList.map (·.key)).Nodup := List.pairwise_map.2 hst.2.2
        obtain ⟨i, hi, rfl⟩ := List.getElem_of_mem hx'
        obtain ⟨j, hj, rfl⟩ := List.getElem_of_mem h7
        have : i = j := (List.getElem?_inj (by simpa using hi) hn).1 (by rw [List.getElem?_map, List.getElem?_map, List.getElem?_eq_getElem hi, List.getElem?_eq_getElem hj]; simpa using h.trans h8.symm)
        subst this; rfl
      · exact .inl h
  · rcases List.mem_cons.1 hk with rfl | hk
    · exact ⟨_, by rw [← h8]; exact h1.has e h7⟩
    · exact h6 k hk
theorem Wl_nextMap {kT r it : Nat} {f : Value → Option Value} {done : List Value} {M : List Asn} (hd : Nat.blt d N = true := by exact rfl) (hx : ev F x = .pointer (some ⟨it, 0, none⟩) := by exact rfl) (ho : Out (itA P kT r it f done) A M := by (repeat (first | exact Out.head | apply Out.tail)); (first | done | fail))
    (k0 : (∀ key v, f key = some v → key ∈ done) → Wl P B N fm ops rest (upd F d (.tuple #[.bool false])) (itA P kT r it f done :: M) K)
    (kn : ∀ key v, f key = some v → key ∉ done → Wl P B N fm ops rest (upd F d (.tuple #[.bool true, key, v])) (itE P kT r it f done key v :: M) K) :
    Wl P B N fm ops (⟨some d, .next x false, T, pos, aft, none⟩ :: rest) F A K :=
  Wl_ent (Ent.perm ho.perm) (Wl_op rfl rfl fun R hE a w hr hs => by
    have hs0 : Sat B w (itA P kT r it f done :: R :: M) := hs.perm (.swap ..)
    obtain ⟨es, c, since, seen, last, hok, hst, g1, g2, g3, g4, hs1⟩ := itA_open hs0
    have hi : w.heap[it]? = some (.mapIter (some r) since seen last) := (hs1.get (List.mem_cons_self ..)).2
    have hb : w.heap[r]? = some (.map es c) := (hs1.get (List.mem_cons_of_mem _ (List.mem_cons_self ..))).2
    rcases run_next_at (P := P) w T it r since last seen es c hi hb g1 g2.1 with ⟨h0, hrun⟩ | ⟨e, he, w1, hw1, hrun⟩
    · have hrun' : (execOp (ev F) ⟨some d, .next x false, T, pos, aft, none⟩).run P w = .ok (.value (.tuple #[.bool false])) w := by simp [execOp, hx, hrun]
      rw [hrun', Oper.upY_value]
      refine ⟨hs.hd, k0 (fun key v hv => ?_) R hE _ _ (hr.put (by simpa [Nat.blt_eq] using hd) _) hs⟩
      obtain ⟨e, he, rfl⟩ := hok.only key v hv
      exact (g3 e he).1 (all_seen es seen h0 e he)
    · obtain ⟨hem, hes⟩ := mem_left he
      have hnd : e.key ∉ done := fun h => by have := (g3 e hem).2 h; rw [hes] at this; cases this
      have hrun' : (execOp (ev F) ⟨some d, .next x false, T, pos, aft, none⟩).run P w = .ok (.value (.tuple #[.bool true, e.key, e.val])) (Go.ChangeMaps.setBlock w1 it (.mapIter (some r) since (seen.push e.born) c)) := by simp [execOp, hx, hrun]
      rw [hrun', Oper.upY_value]
      have hsw : Sat B w1 (pt it (.mapIter (some r) since seen last) :: pt r (.map es c) :: R :: M) := by
        rcases hw1 with rfl | rfl
        · exact hs1
        · exact hs1.ext ⟨Nat.le_refl _, ⟨rfl, rfl, rfl⟩, fun _ _ => rfl⟩
      have hlt : it < w1.heap.size := (Array.getElem?_eq_some_iff.1 (hsw.get (List.mem_cons_self ..)).2).1
      have hs2 : Sat B (Go.ChangeMaps.setBlock w1 it (.mapIter (some r) since (seen.push e.born) c)) (pt it (.mapIter (some r) since (seen.push e.born) c) :: pt r (.map es c) :: R :: M) :=
        Sat.put (w := w1) (w' := Go.ChangeMaps.setBlock w1 it (.mapIter (some r) since (seen.push e.born) c)) (o := .mapIter (some r) since seen last) ⟨rfl, rfl, rfl⟩ (by simp [Go.ChangeMaps.setBlock]) (fun y hy => by simp [Go.ChangeMaps.setBlock, Array.getElem?_setIfInBounds, Ne.symm hy]) (by simp [Go.ChangeMaps.setBlock, hlt]) hsw
      have hsc : since ≤ c := g2.2
      have hs3 : Sat B (Go.ChangeMaps.setBlock w1 it (.mapIter (some r) since (seen.push e.born) c)) (itE P kT r it f done e.key e.val :: R :: M) :=
        (hs2.perm (.swap ..)).ent ((Ent.puA_shut (φ := Mok P kT es.toList f ∧ Go.MapKept.Stamped es c ∧ (∀ e ∈ es.toList, e.born < since) ∧ since ≤ c ∧ (∀ e ∈ es.toList, (seen.contains e.born = true ↔ e.key ∈ done)) ∧ (∀ k ∈ done, ∃ v, f k = some v) ∧ e ∈ es.toList ∧ e.key = e.key ∧ e.val = e.val) ⟨hok, hst, g1, hsc, g3, g4, hem, rfl, rfl⟩ _).trans (Ent.exN_shut (f := fun x : (Array MapEntry × Nat × Nat × Array Nat) × MapEntry =>
  [puA (Mok P kT x.1.1.toList f ∧ Go.MapKept.Stamped x.1.1 x.1.2.1 ∧ (∀ e ∈ x.1.1.toList, e.born < x.1.2.2.1) ∧ x.1.2.2.1 ≤ x.1.2.1 ∧ (∀ e ∈ x.1.1.toList, (x.1.2.2.2.contains e.born = true ↔ e.key ∈ done)) ∧ (∀ k ∈ done, ∃ v, f k = some v) ∧ x.2 ∈ x.1.1.toList ∧ x.2.key = e.key ∧ x.2.val = e.val) (pt r (.map x.1.1 x.1.2.1)), pt it (.mapIter (some r) x.1.2.2.1 (x.1.2.2.2.push x.2.born) x.1.2.1)]) ((es, c, since, seen), e) _))
      have hs4 : Sat B (Go.ChangeMaps.setBlock w1 it (.mapIter (some r) since (seen.push e.born) c)) (R :: itE P kT r it f done e.key e.val :: M) := hs3.perm (.swap ..)
      exact ⟨hs4.hd, kn e.key e.val (hok.has e hem) hnd R hE _ _ (hr.put (by simpa [Nat.blt_eq] using hd) _) hs4⟩)
theorem Wl_entryMap {kT r it : Nat} {f : Value → Option Value} {done : List Value} {key v : Value} {M : List Asn} (hd : Nat.blt d N = true := by exact rfl) (hx : ev F x = .pointer (some ⟨it, 0, none⟩) := by exact rfl) (ho : Out (itE P kT r it f done key v) A M := by (repeat (first | exact Out.head | apply Out.tail)); (first | done | fail))
    (k : Wl P B N fm ops rest (upd F d (.tuple #[key, v])) (itE P kT r it f done key v :: M) K) :
    Wl P B N fm ops (⟨some d, .entry x, T, pos, aft, none⟩ :: rest) F A K :=
  Wl_ent (Ent.perm ho.perm) (Wl_val rfl hd (fun w R hs => by
    have hs0 : Sat B w (itE P kT r it f done key v :: R :: M) := hs.perm (.swap ..)
    obtain ⟨⟨⟨es, c, since, seen⟩, e⟩, hx2⟩ := SatL.exN_open hs0.own
    obtain ⟨hp, h3⟩ := SatL.puA_open hx2
    have hs1 : Sat B w (pt r (.map es c) :: pt it (.mapIter (some r) since (seen.push e.born) c) :: R :: M) := Sat.mk hs0.size hs0.io hs0.base h3
    have hb : w.heap[r]? = some (.map es c) := (hs1.get (List.mem_cons_self ..)).2
    have hi : w.heap[it]? = some (.mapIter (some r) since (seen.push e.born) c) := (hs1.get (List.mem_cons_of_mem _ (List.mem_cons_self ..))).2
    have hrun := run_entry_at (P := P) w it r since seen es c e hi hb hp.2.2.2.2.2.2.1 ((Go.MapKept.stamped_iff es c).1 hp.2.1).2.1
    have e1 : e.key = key := hp.2.2.2.2.2.2.2.1
    have e2 : e.val = v := hp.2.2.2.2.2.2.2.2
    exact ⟨w, by simp [execOp, hx, hrun, e1, e2], hs⟩) k)
end ops
end Go.Sl
