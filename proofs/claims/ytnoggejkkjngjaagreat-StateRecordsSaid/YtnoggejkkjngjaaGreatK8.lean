/- Rules for maps: how many keys, none any more. No condition. -/
import Derived.Test.YtnoggejkkjngjaaGreatK7
import Derived.Maps.RangeRun
set_option linter.unusedVariables false
set_option linter.unusedSimpArgs false
namespace Go.Sl
open Go
section ops
variable {P : Program} {B : Base} {N : Nat} {ops rest : List Oper} {F : Fr} {A : List Asn} {K : Fr → List Asn → Prop}
variable {T : TypeId} {pos : String} {aft : Array Edge} {d : Tmp} {fm : Fm} {x y z : Operand} {U V : TypeId}
theorem Mok.len {kT : TypeId} {es : List MapEntry} {f : Value → Option Value} (h : Mok P kT es f) {ks : List Value} (hn : ks.Nodup) (hk : ∀ k, k ∈ ks ↔ ∃ v, f k = some v) : es.length = ks.length := by
  have h1 : (es.map (·.key)).Nodup := List.pairwise_map.2 h.apart
  have h2 : ∀ k, k ∈ es.map (·.key) ↔ k ∈ ks := fun k => by
    rw [hk]
    constructor
    · intro hm
      obtain ⟨e, he, rfl⟩ := List.mem_map.1 hm
      exact ⟨_, h.has e he⟩
    · rintro ⟨v, hv⟩
      obtain ⟨e, he, rfl⟩ := h.only k v hv
      exact List.mem_map.2 ⟨e, he, rfl⟩
  have := ((List.perm_ext_iff_of_nodup h1 hn).2 h2).length_eq
  simpa using this
theorem yU {kT E r : Nat} {f : Value → Option Value} {ks : List Value} {M : List Asn} [hU : TMap P U kT E] (hk : kindB fm (some d) (.call ⟨.builtin .len, #[x], #[U]⟩) ≠ 0 := by decide) (hd : Nat.blt d N = true := by exact rfl) (hx : ev F x = .map (some r) := by exact rfl) (ho : Out (mpA P kT r f) A M := by (repeat (first | exact Out.head | apply Out.tail)); (first | done | fail))
    (hn : ks.Nodup) (hks : ∀ k, k ∈ ks ↔ ∃ v, f k = some v) (k' : Wl P B N fm ops rest (upd F d (.int .i64 ks.length)) A K) :
    Wl P B N fm ops (⟨some d, .call ⟨.builtin .len, #[x], #[U]⟩, T, pos, aft, none⟩ :: rest) F A K :=
  xH hk hd (fun w R hs => by
    obtain ⟨es, c, hok, hs1⟩ := mpA_open ((hs.perm (ho.perm.cons R)).perm (.swap ..))
    have hb : w.heap[r]? = some (.map es c) := (hs1.get (List.mem_cons_self ..)).2
    have hl : es.size = ks.length := by have := hok.len hn hks; simpa using this
    simp [execOp, hx, resolve, invoke, builtin, Builtin.len_, run_under w U (under_of_map hU.out), Go.MapKept.run_getObj_map hb, goInt, hl]) k'
theorem xL {kT E r : Nat} {f : Value → Option Value} {M : List Asn} [hU : TMap P U kT E] (hx : ev F x = .map (some r) := by exact rfl) (ho : Out (mpA P kT r f) A M := by (repeat (first | exact Out.head | apply Out.tail)); (first | done | fail))
    (k' : Wl P B N fm ops rest F (mpA P kT r (fun _ => none) :: M) K) :
    Wl P B N fm ops (⟨none, .call ⟨.builtin .clear, #[x], #[U]⟩, T, pos, aft, none⟩ :: rest) F A K :=
  yq rfl (fun w R hs => by
    obtain ⟨es, c, hok, hs1⟩ := mpA_open ((hs.perm (ho.perm.cons R)).perm (.swap ..))
    have hb : w.heap[r]? = some (.map es c) := (hs1.get (List.mem_cons_self ..)).2
    have hlt : r < w.heap.size := (Array.getElem?_eq_some_iff.1 hb).1
    have hput : Sat B { w with heap := w.heap.setIfInBounds r (.map #[] c) } (pt r (.map #[] c) :: (R :: M)) :=
      hs1.put (w' := { w with heap := w.heap.setIfInBounds r (.map #[] c) }) (Io.refl w) (by simp) (fun x hx => by simp [Array.getElem?_setIfInBounds, Ne.symm hx]) (by simp [hlt])
    refine ⟨{ w with heap := w.heap.setIfInBounds r (.map #[] c) }, .value (.tuple #[]), ?_, .inr ⟨_, rfl⟩, (hput.ent (mpA_shut ⟨by simp, by simp, by simp, by simp⟩ (Go.MapKept.stamped_empty c) _)).perm (.swap ..)⟩
    simp [execOp, hx, resolve, invoke, builtin, Builtin.clear_, run_under w U (under_of_map hU.out), Go.MapKept.run_getObj_map hb, Go.MapKept.run_setObj_map _ hb]) k'
/-- A map that is ranged over: which keys were told. -/
def itA (P : Program) (kT : TypeId) (r it : Nat) (f : Value → Option Value) (done : List Value) : Asn := exN fun x : Array MapEntry × Nat × Nat × Array Nat × Nat =>
  [puA (Mok P kT x.1.toList f ∧ Go.MapKept.Stamped x.1 x.2.1 ∧ (∀ e ∈ x.1.toList, e.born < x.2.2.1) ∧ (x.2.2.1 ≤ x.2.2.2.2 ∧ x.2.2.1 ≤ x.2.1) ∧ (∀ e ∈ x.1.toList, (x.2.2.2.1.contains e.born = true ↔ e.key ∈ done)) ∧ (∀ k ∈ done, ∃ v, f k = some v)) (pt r (.map x.1 x.2.1)), pt it (.mapIter (some r) x.2.2.1 x.2.2.2.1 x.2.2.2.2)]
theorem itA_open {B : Base} {w : World} {kT : TypeId} {r it : Nat} {f : Value → Option Value} {done : List Value} {L : List Asn} (h : Sat B w (itA P kT r it f done :: L)) : ∃ (es : Array MapEntry) (c since : Nat) (seen : Array Nat) (last : Nat),
    Mok P kT es.toList f ∧ Go.MapKept.Stamped es c ∧ (∀ e ∈ es.toList, e.born < since) ∧ (since ≤ last ∧ since ≤ c) ∧ (∀ e ∈ es.toList, (seen.contains e.born = true ↔ e.key ∈ done)) ∧ (∀ k ∈ done, ∃ v, f k = some v) ∧ Sat B w (pt it (.mapIter (some r) since seen last) :: pt r (.map es c) :: L) := by
  obtain ⟨x, hx⟩ := SatL.exN_open h.own
  obtain ⟨es, c, since, seen, last⟩ := x
  obtain ⟨hp, h3⟩ := SatL.puA_open hx
  exact ⟨es, c, since, seen, last, hp.1, hp.2.1, hp.2.2.1, hp.2.2.2.1, hp.2.2.2.2.1, hp.2.2.2.2.2, (Sat.mk h.size h.io h.base h3 : Sat B w (pt r (.map es c) :: pt it (.mapIter (some r) since seen last) :: L)).perm (.swap ..)⟩
theorem itA_shut {kT : TypeId} {r it : Nat} {f : Value → Option Value} {done : List Value} {es : Array MapEntry} {c since : Nat} {seen : Array Nat} {last : Nat} (h : Mok P kT es.toList f) (hst : Go.MapKept.Stamped es c) (h1 : ∀ e ∈ es.toList, e.born < since) (h2 : since ≤ last ∧ since ≤ c)
    (h3 : ∀ e ∈ es.toList, (seen.contains e.born = true ↔ e.key ∈ done)) (h4 : ∀ k ∈ done, ∃ v, f k = some v) (L : List Asn) : Ent (pt it (.mapIter (some r) since seen last) :: pt r (.map es c) :: L) (itA P kT r it f done :: L) :=
  (Ent.perm (List.Perm.swap ..)).trans ((Ent.puA_shut ⟨h, hst, h1, h2, h3, h4⟩ _).trans (Ent.exN_shut (f := fun x : Array MapEntry × Nat × Nat × Array Nat × Nat =>
  [puA (Mok P kT x.1.toList f ∧ Go.MapKept.Stamped x.1 x.2.1 ∧ (∀ e ∈ x.1.toList, e.born < x.2.2.1) ∧ (x.2.2.1 ≤ x.2.2.2.2 ∧ x.2.2.1 ≤ x.2.1) ∧ (∀ e ∈ x.1.toList, (x.2.2.2.1.contains e.born = true ↔ e.key ∈ done)) ∧ (∀ k ∈ done, ∃ v, f k = some v)) (pt r (.map x.1 x.2.1)), pt it (.mapIter (some r) x.2.2.1 x.2.2.2.1 x.2.2.2.2)]) (es, c, since, seen, last) L))
/-- Behind the range the map is as it was. -/
theorem itA_back {kT : TypeId} {r it : Nat} {f : Value → Option Value} {done : List Value} (L : List Asn) : Ent (itA P kT r it f done :: L) (mpA P kT r f :: L) := fun m U hs => by
  obtain ⟨x, hx⟩ := SatL.exN_open hs
  obtain ⟨hp, h3⟩ := SatL.puA_open hx
  exact mpA_shut hp.1 hp.2.1 L m U ((Ent.perm (List.Perm.swap ..)).trans (Ent.drop _) m U h3)
theorem yz {kT E r : Nat} {f : Value → Option Value} {M : List Asn} [hU : TMap P U kT E] (hd : Nat.blt d N = true := by exact rfl) (hx : ev F x = .map (some r) := by exact rfl) (ho : Out (mpA P kT r f) A M := by (repeat (first | exact Out.head | apply Out.tail)); (first | done | fail))
    (k : ∀ it, Wl P B N fm ops rest (upd F d (.pointer (some ⟨it, 0, none⟩))) (itA P kT r it f [] :: M) K) :
    Wl P B N fm ops (⟨some d, .range U x, T, pos, aft, none⟩ :: rest) F A K :=
  yB (Ent.perm ho.perm) (y0 rfl rfl fun R hE a w hr hs => by
    have hs0 : Sat B w (mpA P kT r f :: R :: M) := hs.perm (.swap ..)
    obtain ⟨es, c, hok, hst, hs1⟩ := mpA_openS hs0
    have hb : w.heap[r]? = some (.map es c) := (hs1.get (List.mem_cons_self ..)).2
    have hrun : (execOp (ev F) ⟨some d, .range U x, T, pos, aft, none⟩).run P w = .ok (.value (.pointer (some ⟨w.heap.size, 0, none⟩))) { w with heap := w.heap.push (.mapIter (some r) c #[] c) } := by
      simp [execOp, hx, Instr.range, run_under w U (under_of_map hU.out), Go.MapKept.run_getObj_map hb, newObj, Sem.run]
    rw [hrun, Oper.upY_value]
    have hs2 : Sat B { w with heap := w.heap.push (.mapIter (some r) c #[] c) } (pt w.heap.size (.mapIter (some r) c #[] c) :: pt r (.map es c) :: R :: M) := hs1.push (Io.refl w) rfl
    have hs3 : Sat B { w with heap := w.heap.push (.mapIter (some r) c #[] c) } (itA P kT r w.heap.size f [] :: R :: M) := hs2.ent (itA_shut hok hst ((Go.MapKept.stamped_iff es c).1 hst).1 ⟨Nat.le_refl c, Nat.le_refl c⟩ (fun e _ => by simp) (by simp) _)
    have hs4 : Sat B { w with heap := w.heap.push (.mapIter (some r) c #[] c) } (R :: itA P kT r w.heap.size f [] :: M) := hs3.perm (.swap ..)
    exact ⟨hs4.hd, k w.heap.size R hE _ _ (hr.put (by simpa [Nat.blt_eq] using hd) _) hs4⟩)
/-- .. behind a step: what was told last. -/
def itE (P : Program) (kT : TypeId) (r it : Nat) (f : Value → Option Value) (done : List Value) (key v : Value) : Asn := exN fun x : (Array MapEntry × Nat × Nat × Array Nat) × MapEntry =>
  [puA (Mok P kT x.1.1.toList f ∧ Go.MapKept.Stamped x.1.1 x.1.2.1 ∧ (∀ e ∈ x.1.1.toList, e.born < x.1.2.2.1) ∧ x.1.2.2.1 ≤ x.1.2.1 ∧ (∀ e ∈ x.1.1.toList, (x.1.2.2.2.contains e.born = true ↔ e.key ∈ done)) ∧ (∀ k ∈ done, ∃ v, f k = some v) ∧ x.2 ∈ x.1.1.toList ∧ x.2.key = key ∧ x.2.val = v) (pt r (.map x.1.1 x.1.2.1)), pt it (.mapIter (some r) x.1.2.2.1 (x.1.2.2.2.push x.2.born) x.1.2.1)]
theorem itE_done {kT : TypeId} {r it : Nat} {f : Value → Option Value} {done : List Value} {key v : Value} (L : List Asn) : Ent (itE P kT r it f done key v :: L) (itA P kT r it f (key :: done) :: L) := fun m U hs => by
  obtain ⟨⟨⟨es, c, since, seen⟩, e⟩, hx⟩ := SatL.exN_open hs
  obtain ⟨⟨h1, h2, h3, h4, h5, h6, h7, h8, h9⟩, h10⟩ := SatL.puA_open hx
  simp only at h1 h2 h3 h4 h5 h6 h7 h8 h9
  have hst := (Go.MapKept.stamped_iff es c).1 h2
  refine itA_shut h1 h2 h3 ⟨h4, h4⟩ (fun x hx' => ?_) (fun k hk => ?_) L m U ((Ent.perm (List.Perm.swap ..)) m U h10)
  · simp only [Array.contains_push, Bool.or_eq_true, beq_iff_eq, List.mem_cons]
    rw [h5 x hx']
    constructor
    · rintro (h | h)
      · exact .inr h
      · left
        rw [← h8]
        obtain ⟨i, hi, rfl⟩ := List.getElem_of_mem hx'
        obtain ⟨j, hj, rfl⟩ := List.getElem_of_mem h7
        have : i = j := (List.getElem?_inj (by simpa using hi) hst.2.1).1 (by rw [List.getElem?_map, List.getElem?_map, List.getElem?_eq_getElem hi, List.getElem?_eq_getElem hj]; simpa using h)
        subst this; rfl
    · rintro (h | h)
      · right
        have hn : (es.toList.map (·.key)).Nodup := List.pairwise_map.2 hst.2.2
        obtain ⟨i, hi, rfl⟩ := List.getElem_of_mem hx'
        obtain ⟨j, hj, rfl⟩ := List.getElem_of_mem h7
        have : i = j := (List.getElem?_inj (by simpa using hi) hn).1 (by rw [List.getElem?_map, List.getElem?_map, List.getElem?_eq_getElem hi, List.getElem?_eq_getElem hj]; simpa using h.trans h8.symm)
        subst this; rfl
      · exact .inl h
  · rcases List.mem_cons.1 hk with rfl | hk
    · exact ⟨_, by rw [← h8]; exact h1.has e h7⟩
    · exact h6 k hk
theorem xF {kT r it : Nat} {f : Value → Option Value} {done : List Value} {M : List Asn} (hd : Nat.blt d N = true := by exact rfl) (hx : ev F x = .pointer (some ⟨it, 0, none⟩) := by exact rfl) (ho : Out (itA P kT r it f done) A M := by (repeat (first | exact Out.head | apply Out.tail)); (first | done | fail))
    (k0 : (∀ key v, f key = some v → key ∈ done) → Wl P B N fm ops rest (upd F d (.tuple #[.bool false])) (itA P kT r it f done :: M) K)
    (kn : ∀ key v, f key = some v → key ∉ done → Wl P B N fm ops rest (upd F d (.tuple #[.bool true, key, v])) (itE P kT r it f done key v :: M) K) :
    Wl P B N fm ops (⟨some d, .next x false, T, pos, aft, none⟩ :: rest) F A K :=
  yB (Ent.perm ho.perm) (y0 rfl rfl fun R hE a w hr hs => by
    have hs0 : Sat B w (itA P kT r it f done :: R :: M) := hs.perm (.swap ..)
    obtain ⟨es, c, since, seen, last, hok, hst, g1, g2, g3, g4, hs1⟩ := itA_open hs0
    have hi : w.heap[it]? = some (.mapIter (some r) since seen last) := (hs1.get (List.mem_cons_self ..)).2
    have hb : w.heap[r]? = some (.map es c) := (hs1.get (List.mem_cons_of_mem _ (List.mem_cons_self ..))).2
    rcases run_next_at (P := P) w T it r since last seen es c hi hb g1 g2.1 with ⟨h0, hrun⟩ | ⟨e, he, w1, hw1, hrun⟩
    · have hrun' : (execOp (ev F) ⟨some d, .next x false, T, pos, aft, none⟩).run P w = .ok (.value (.tuple #[.bool false])) w := by simp [execOp, hx, hrun]
      rw [hrun', Oper.upY_value]
      refine ⟨hs.hd, k0 (fun key v hv => ?_) R hE _ _ (hr.put (by simpa [Nat.blt_eq] using hd) _) hs⟩
      obtain ⟨e, he, rfl⟩ := hok.only key v hv
      exact (g3 e he).1 (all_seen es seen h0 e he)
    · obtain ⟨hem, hes⟩ := mem_left he
      have hnd : e.key ∉ done := fun h => by have := (g3 e hem).2 h; rw [hes] at this; cases this
      have hrun' : (execOp (ev F) ⟨some d, .next x false, T, pos, aft, none⟩).run P w = .ok (.value (.tuple #[.bool true, e.key, e.val])) (Go.ChangeMaps.setBlock w1 it (.mapIter (some r) since (seen.push e.born) c)) := by simp [execOp, hx, hrun]
      rw [hrun', Oper.upY_value]
      have hsw : Sat B w1 (pt it (.mapIter (some r) since seen last) :: pt r (.map es c) :: R :: M) := by
        rcases hw1 with rfl | rfl
        · exact hs1
        · exact hs1.ext ⟨Nat.le_refl _, ⟨rfl, rfl, rfl⟩, fun _ _ => rfl⟩
      have hlt : it < w1.heap.size := (Array.getElem?_eq_some_iff.1 (hsw.get (List.mem_cons_self ..)).2).1
      have hs2 : Sat B (Go.ChangeMaps.setBlock w1 it (.mapIter (some r) since (seen.push e.born) c)) (pt it (.mapIter (some r) since (seen.push e.born) c) :: pt r (.map es c) :: R :: M) :=
        Sat.put (w := w1) (w' := Go.ChangeMaps.setBlock w1 it (.mapIter (some r) since (seen.push e.born) c)) (o := .mapIter (some r) since seen last) ⟨rfl, rfl, rfl⟩ (by simp [Go.ChangeMaps.setBlock]) (fun y hy => by simp [Go.ChangeMaps.setBlock, Array.getElem?_setIfInBounds, Ne.symm hy]) (by simp [Go.ChangeMaps.setBlock, hlt]) hsw
      have hsc : since ≤ c := g2.2
      have hs3 : Sat B (Go.ChangeMaps.setBlock w1 it (.mapIter (some r) since (seen.push e.born) c)) (itE P kT r it f done e.key e.val :: R :: M) :=
        (hs2.perm (.swap ..)).ent ((Ent.puA_shut (φ := Mok P kT es.toList f ∧ Go.MapKept.Stamped es c ∧ (∀ e ∈ es.toList, e.born < since) ∧ since ≤ c ∧ (∀ e ∈ es.toList, (seen.contains e.born = true ↔ e.key ∈ done)) ∧ (∀ k ∈ done, ∃ v, f k = some v) ∧ e ∈ es.toList ∧ e.key = e.key ∧ e.val = e.val) ⟨hok, hst, g1, hsc, g3, g4, hem, rfl, rfl⟩ _).trans (Ent.exN_shut (f := fun x : (Array MapEntry × Nat × Nat × Array Nat) × MapEntry =>
  [puA (Mok P kT x.1.1.toList f ∧ Go.MapKept.Stamped x.1.1 x.1.2.1 ∧ (∀ e ∈ x.1.1.toList, e.born < x.1.2.2.1) ∧ x.1.2.2.1 ≤ x.1.2.1 ∧ (∀ e ∈ x.1.1.toList, (x.1.2.2.2.contains e.born = true ↔ e.key ∈ done)) ∧ (∀ k ∈ done, ∃ v, f k = some v) ∧ x.2 ∈ x.1.1.toList ∧ x.2.key = e.key ∧ x.2.val = e.val) (pt r (.map x.1.1 x.1.2.1)), pt it (.mapIter (some r) x.1.2.2.1 (x.1.2.2.2.push x.2.born) x.1.2.1)]) ((es, c, since, seen), e) _))
      have hs4 : Sat B (Go.ChangeMaps.setBlock w1 it (.mapIter (some r) since (seen.push e.born) c)) (R :: itE P kT r it f done e.key e.val :: M) := hs3.perm (.swap ..)
      exact ⟨hs4.hd, kn e.key e.val (hok.has e hem) hnd R hE _ _ (hr.put (by simpa [Nat.blt_eq] using hd) _) hs4⟩)
theorem y5 {kT r it : Nat} {f : Value → Option Value} {done : List Value} {key v : Value} {M : List Asn} (hd : Nat.blt d N = true := by exact rfl) (hx : ev F x = .pointer (some ⟨it, 0, none⟩) := by exact rfl) (ho : Out (itE P kT r it f done key v) A M := by (repeat (first | exact Out.head | apply Out.tail)); (first | done | fail))
    (k : Wl P B N fm ops rest (upd F d (.tuple #[key, v])) (itE P kT r it f done key v :: M) K) :
    Wl P B N fm ops (⟨some d, .entry x, T, pos, aft, none⟩ :: rest) F A K :=
  yB (Ent.perm ho.perm) (xO rfl hd (fun w R hs => by
    have hs0 : Sat B w (itE P kT r it f done key v :: R :: M) := hs.perm (.swap ..)
    obtain ⟨⟨⟨es, c, since, seen⟩, e⟩, hx2⟩ := SatL.exN_open hs0.own
    obtain ⟨hp, h3⟩ := SatL.puA_open hx2
    have hs1 : Sat B w (pt r (.map es c) :: pt it (.mapIter (some r) since (seen.push e.born) c) :: R :: M) := Sat.mk hs0.size hs0.io hs0.base h3
    have hb : w.heap[r]? = some (.map es c) := (hs1.get (List.mem_cons_self ..)).2
    have hi : w.heap[it]? = some (.mapIter (some r) since (seen.push e.born) c) := (hs1.get (List.mem_cons_of_mem _ (List.mem_cons_self ..))).2
    have hrun := run_entry_at (P := P) w it r since seen es c e hi hb hp.2.2.2.2.2.2.1 ((Go.MapKept.stamped_iff es c).1 hp.2.1).2.1
    have e1 : e.key = key := hp.2.2.2.2.2.2.2.1
    have e2 : e.val = v := hp.2.2.2.2.2.2.2.2
    exact ⟨w, by simp [execOp, hx, hrun, e1, e2], hs⟩) k)
end ops
end Go.Sl
/- Package dedupe: the last request of each session. Conditions: sessions are numbers of the kind. -/
set_option maxHeartbeats 8000000
set_option linter.unusedVariables false
set_option linter.unusedSimpArgs false
set_option maxRecDepth 100000
namespace Go.Proofs.YtnoggejkkjngjaaGreat
open Go Go.Sl
attribute [local irreducible] Go.Sl.Wl Go.Sl.Wc Go.Sl.thenQ Go.Sl.blkQ Go.Sl.loopQ Go.Sl.Fspec

/-- A session's last request and where it was written. -/
structure SX where
  s : Int
  r : Int
  e : Int
  i : Int
def SX.c (x : SX) : List Value := [.int .i64 x.s, .int .i64 x.r, .int .i64 x.e, .int .i64 x.i]
def SX.l (x : SX) : Value := .agg #[.int .i64 x.r, .int .i64 x.e, .int .i64 x.i]
def SX.ok (x : SX) : Prop := -9223372036854775808 ≤ x.s ∧ x.s ≤ 9223372036854775807
def dget (L : List SX) (s : Int) : Option SX := L.find? fun x => x.s == s
def dput : List SX → SX → List SX
  | [], x => [x]
  | y :: l, x => if x.s < y.s then x :: y :: l else if y.s < x.s then y :: dput l x else x :: l
def RisS (L : List SX) : Prop := L.Pairwise fun x y => x.s < y.s
theorem dget_some {L : List SX} {s : Int} {x : SX} (h : dget L s = some x) : x ∈ L ∧ x.s = s := by
  unfold dget at h
  exact ⟨List.mem_of_find?_eq_some h, by have := List.find?_some h; simpa using this⟩
theorem dput_mem {x : SX} : ∀ {L : List SX} {y : SX}, y ∈ dput L x → y = x ∨ y ∈ L
  | [], y, h => by simp [dput] at h; exact .inl h
  | z :: l, y, h => by
    unfold dput at h
    split at h
    · rcases List.mem_cons.1 h with h | h
      · exact .inl h
      · exact .inr h
    · split at h
      · rcases List.mem_cons.1 h with h | h
        · exact .inr (by simp [h])
        · rcases dput_mem h with h | h
          · exact .inl h
          · exact .inr (List.mem_cons_of_mem _ h)
      · rcases List.mem_cons.1 h with h | h
        · exact .inl h
        · exact .inr (List.mem_cons_of_mem _ h)
theorem RisS.put {x : SX} : ∀ {L : List SX}, RisS L → RisS (dput L x)
  | [], _ => by simp [dput, RisS]
  | z :: l, h => by
    have h1 := List.pairwise_cons.1 h
    unfold dput
    split
    · rename_i hx
      exact List.pairwise_cons.2 ⟨fun y hy => by
        rcases List.mem_cons.1 hy with rfl | hy
        · exact hx
        · have := h1.1 y hy; omega, h⟩
    · split
      · rename_i hz
        exact List.pairwise_cons.2 ⟨fun y hy => by
          rcases dput_mem hy with rfl | hy
          · exact hz
          · exact h1.1 y hy, RisS.put h1.2⟩
      · rename_i ha hb
        have he : x.s = z.s := by omega
        exact List.pairwise_cons.2 ⟨fun y hy => by have := h1.1 y hy; omega, h1.2⟩
theorem dget_put {x : SX} {s : Int} : ∀ {L : List SX}, RisS L → dget (dput L x) s = if s = x.s then some x else dget L s
  | [], _ => by
    simp only [dput, dget, List.find?_cons, List.find?_nil]
    by_cases h : s = x.s
    · subst h; simp
    · have : (x.s == s) = false := by simpa using Ne.symm h
      simp [this, h]
  | z :: l, h => by
    have h1 := List.pairwise_cons.1 h
    have ih := dget_put (x := x) (s := s) h1.2
    unfold dput
    split
    · rename_i hx
      simp only [dget, List.find?_cons]
      by_cases hs : s = x.s
      · subst hs; simp
      · have : (x.s == s) = false := by simpa using Ne.symm hs
        simp [this, hs]
    · split
      · rename_i hz
        simp only [dget, List.find?_cons] at ih ⊢
        by_cases hs : s = z.s
        · subst hs
          rw [if_neg (by omega)]; simp
        · have : (z.s == s) = false := by simpa using Ne.symm hs
          simp only [this]
          exact ih
      · rename_i ha hb
        have he : x.s = z.s := by omega
        simp only [dget, List.find?_cons, he]
        by_cases hs : s = z.s
        · subst hs; simp
        · have : (z.s == s) = false := by simpa using Ne.symm hs
          simp [this, hs]
/-- The map's answers. -/
def fS (L : List SX) : Value → Option Value
  | .int .i64 s => (dget L s).map SX.l
  | _ => none
theorem fS_nil : fS [] = fun _ => none := by
  funext k
  unfold fS
  split <;> simp [dget]
theorem fS_put {L : List SX} {x : SX} (h : RisS L) : mput (fS L) (.int .i64 x.s) x.l = fS (dput L x) := by
  funext k
  by_cases hk : k = .int .i64 x.s
  · subst hk
    rw [mput_same]
    simp only [fS]; rw [dget_put h, if_pos rfl]; rfl
  · rw [mput_ne _ _ hk]
    unfold fS
    split
    · rename_i s
      have hs : s ≠ x.s := fun e => hk (by rw [e])
      rw [dget_put h, if_neg hs]
    · rfl
def sKeys (L : List SX) : List Value := L.map fun x => .int .i64 x.s
theorem sKeys_nodup {L : List SX} (h : RisS L) : (sKeys L).Nodup := by
  unfold sKeys
  refine List.pairwise_map.2 (List.Pairwise.imp ?_ h)
  intro x y hxy e
  have : x.s = y.s := by simpa using e
  omega
theorem sKeys_has {L : List SX} (k : Value) : k ∈ sKeys L ↔ ∃ v, fS L k = some v := by
  unfold sKeys
  constructor
  · intro h
    obtain ⟨x, hx, rfl⟩ := List.mem_map.1 h
    simp only [fS]
    cases hd : dget L x.s with
    | some y => exact ⟨_, rfl⟩
    | none =>
      unfold dget at hd
      have := List.find?_eq_none.1 hd x hx
      simp at this
  · rintro ⟨v, hv⟩
    unfold fS at hv
    split at hv
    · rename_i s
      cases hd : dget L s with
      | none => rw [hd] at hv; cases hv
      | some y => obtain ⟨h1, h2⟩ := dget_some hd; exact List.mem_map.2 ⟨y, h1, by rw [h2]⟩
    · cases hv
def lookV (L : List SX) (lim s r : Int) : Int × Int × Int := match dget L s with
  | none => if lim ≤ L.length then (4, 0, 0) else (1, 0, 0)
  | some x => if x.r < r then (1, 0, 0) else if r < x.r then (3, 0, 0) else (2, x.e, x.i)
def noteV (L : List SX) (lim : Int) (x : SX) : List SX := if (lookV L lim x.s x.r).1 = 1 then dput L x else L
def DeX (p : Nat) (lim : Int) (L : List SX) (r : Nat) : List Asn := [cb p [.int .i64 lim, .map (some r)] 157, mpA Tryz.prog 3 r (fS L)]
def DeP (p : Nat) (lim : Int) (L : List SX) : Asn := exN (DeX p lim L)
theorem de_fold {p : Nat} {lim : Int} {L : List SX} {X A0 : List Asn} (r : Nat) (h : Ent X (DeX p lim L r ++ A0)) : Ent X (DeP p lim L :: A0) := h.trans (Ent.exN_shut (f := DeX p lim L) r A0)
theorem wf_int {n : Int} (h : -9223372036854775808 ≤ n ∧ n ≤ 9223372036854775807) : (Lit.int .i64 n).wf = true := by
  simpa [Lit.wf, IntKind.min, IntKind.max, IntKind.signed, IntKind.bits] using h
section specs
variable {B : Base}
theorem dnew_spec (lim : Int) : Fspec Tryz.prog B 77 #[.int .i64 lim] [] (fun v A' => ∃ p, v = .pointer (some ⟨p, 0, none⟩) ∧ A' = [DeP p lim []]) := by
  refine spec_of (args := [_]) Tryz.func77 rfl rfl rfl ?_
  repeat' (first
    | refine zi ?_
    | refine zK ?_
    | refine zQ (h := ?_)
    | refine zU (h := ?_)
    | refine zj ?_
    | refine zR ?_
    | refine zW ?_
    | refine zN ?_
    | refine zV ?_
    | refine ze ?_
    | refine zP ?_
    | refine zY ?_
    | refine zS rfl ?_
    | refine zd ?_
    | refine zX ?_
    | refine zO ?_
    | refine zT ?_
    | refine zL ?_
    | (refine zC (id := 0) ?_; intro K hK; refine zH (k := ?_); (refine zD (hK _ _ ?_); clear hK K))
    | (refine zC (id := 1) ?_; intro K hK; refine zF (k := ?_); ((refine xE (kT := 3) (E := 0) (k := ?_); intro rm)) <;> (refine zr (k := ?_); ((refine zm (k := ?_); intro rp)) <;> (refine zH (k := ?_); (refine zD (hK _ _ ?_); clear hK K))))
    | (refine zc (ht := (fun ht => ?_)) (hf := (fun ht => ?_)) <;> (try simp at ht) <;> (try (exfalso; omega))))
  exact ⟨Or.inr rfl, _, [DeP rp lim []], de_fold (A0 := []) rm (by simp only [DeX, fS_nil]; simp only [List.cons_append, List.nil_append]; (repeat (first | exact Ent.refl _ | exact Ent.nil | refine Ent.take (by (repeat (first | exact Out.head | apply Out.tail)); (first | done | fail)) ?_ | refine Ent.drop1 ?_))), res1 rfl rfl, rp, rfl, rfl⟩
theorem look_spec (p : Nat) (lim : Int) (L : List SX) (hL : RisS L) (s r : Int) (hs : -9223372036854775808 ≤ s ∧ s ≤ 9223372036854775807) :
    Fspec Tryz.prog B 80 #[.pointer (some ⟨p, 0, none⟩), .int .i64 s, .int .i64 r] [DeP p lim L]
      (fun v A' => v = .tuple #[.int .i64 (lookV L lim s r).1, .agg #[.int .i64 (lookV L lim s r).2.1, .int .i64 (lookV L lim s r).2.2]] ∧ A' = [DeP p lim L]) := by
  have hKd := Go.Maps.int_keyed (P := Tryz.prog) Tryz.underlying3
  have hkey : keyOf Tryz.prog 3 (.int .i64 s) = some (.int .i64 s) := Go.Maps.keyOf_int_mk Tryz.underlying3 (wf_int hs)
  have hlen : (sKeys L).length = L.length := by simp [sKeys]
  refine spec_of (args := [_, _, _]) Tryz.func80 rfl rfl rfl ?_
  refine yE (fun rm => ?_)
  simp only [DeX]
  simp only [List.cons_append, List.nil_append]
  cases hg : dget L s with
  | none =>
    have hf : fS L (.int .i64 s) = none := by simp [fS, hg]
    by_cases hl : lim ≤ L.length
    · have e : lookV L lim s r = (4, 0, 0) := by unfold lookV; rw [hg]; exact if_pos hl
      rw [e]
      repeat' (first
        | refine zi ?_
        | refine zK ?_
        | refine zQ (h := ?_)
        | refine zU (h := ?_)
        | refine zj ?_
        | refine zR ?_
        | refine zW ?_
        | refine zN ?_
        | refine zV ?_
        | refine ze ?_
        | refine zP ?_
        | refine zY ?_
        | refine zS rfl ?_
        | refine zd ?_
        | refine zX ?_
        | refine zO ?_
        | refine zT ?_
        | refine zL ?_
        | (refine zC (id := 0) ?_; intro K hK; refine zH (k := ?_); ((refine zw (k := ?_); intro r7)) <;> ((refine zD (hK _ _ ?_); clear hK K)))
        | (refine zC (id := 1) ?_; intro K hK; refine zF (k := ?_); refine zf (k' := ?_); (refine zD (hK _ _ ?_); clear hK K))
        | (refine zC (id := 2) ?_; intro K hK; refine zr (k := ?_); refine zH (k := ?_); refine zh (ho' := rfl) (k := ?_); (refine zD (hK _ _ ?_); clear hK K))
        | (refine zC (id := 3) ?_; intro K hK; refine zF (k := ?_); refine zJ (k := ?_); refine zB (k := ?_); refine zM (k := ?_); refine zF (k := ?_); ((refine yk (zv := .agg #[.int .i64 0, .int .i64 0, .int .i64 0]) (res := .tuple #[.agg #[.int .i64 0, .int .i64 0, .int .i64 0], .bool false]) (hK := hKd) (hk := hkey) (hz := by kernel_rfl) (hres := by rw [hf]; rfl) (k := ?_))) <;> (refine zF (k := ?_); refine zu (k' := ?_); refine zu (k' := ?_); ((refine zw (k := ?_); intro r8)) <;> (refine zh (ho' := rfl) (k := ?_); refine zH (k := ?_); (refine zD (hK _ _ ?_); clear hK K))))
        | (refine z3 (id := 4) (h := ?_); intro K hK; refine zF (k := ?_); refine z7 (k' := ?_); refine zF (k := ?_); ((first | (refine zA (k := ?_); refine zF (k := ?_)) | refine zE (k := ?_) | ((refine zG (yes := (fun ht => ?_)) (no := (fun ht => ?_)) <;> (try simp at ht) <;> (try (exfalso; omega))) <;> (first | (refine zA (k := ?_); refine zF (k := ?_)) | refine zE (k := ?_))))) <;> (((first | (refine zA (k := ?_); refine zJ (k := ?_)) | refine zE (k := ?_) | ((refine zG (yes := (fun ht => ?_)) (no := (fun ht => ?_)) <;> (try simp at ht) <;> (try (exfalso; omega))) <;> (first | (refine zA (k := ?_); refine zJ (k := ?_)) | refine zE (k := ?_))))) <;> (((first | (refine zA (k := ?_); refine zB (k := ?_)) | refine zE (k := ?_) | ((refine zG (yes := (fun ht => ?_)) (no := (fun ht => ?_)) <;> (try simp at ht) <;> (try (exfalso; omega))) <;> (first | (refine zA (k := ?_); refine zB (k := ?_)) | refine zE (k := ?_))))) <;> (((first | (refine zA (k := ?_); refine zM (k := ?_)) | refine zE (k := ?_) | ((refine zG (yes := (fun ht => ?_)) (no := (fun ht => ?_)) <;> (try simp at ht) <;> (try (exfalso; omega))) <;> (first | (refine zA (k := ?_); refine zM (k := ?_)) | refine zE (k := ?_))))) <;> (((first | (refine zA (k := ?_); (refine yU (ks := sKeys L) (hk := by decide) (hn := sKeys_nodup hL) (hks := sKeys_has) (k' := ?_); rw [hlen])) | refine zE (k := ?_) | ((refine zG (yes := (fun ht => ?_)) (no := (fun ht => ?_)) <;> (try simp at ht) <;> (try (exfalso; omega))) <;> (first | (refine zA (k := ?_); (refine yU (ks := sKeys L) (hk := by decide) (hn := sKeys_nodup hL) (hks := sKeys_has) (k' := ?_); rw [hlen])) | refine zE (k := ?_))))) <;> (((first | (refine zA (k := ?_); refine zF (k := ?_)) | refine zE (k := ?_) | ((refine zG (yes := (fun ht => ?_)) (no := (fun ht => ?_)) <;> (try simp at ht) <;> (try (exfalso; omega))) <;> (first | (refine zA (k := ?_); refine zF (k := ?_)) | refine zE (k := ?_))))) <;> (((first | (refine zA (k := ?_); refine zJ (k := ?_)) | refine zE (k := ?_) | ((refine zG (yes := (fun ht => ?_)) (no := (fun ht => ?_)) <;> (try simp at ht) <;> (try (exfalso; omega))) <;> (first | (refine zA (k := ?_); refine zJ (k := ?_)) | refine zE (k := ?_))))) <;> (((first | (refine zA (k := ?_); refine zB (k := ?_)) | refine zE (k := ?_) | ((refine zG (yes := (fun ht => ?_)) (no := (fun ht => ?_)) <;> (try simp at ht) <;> (try (exfalso; omega))) <;> (first | (refine zA (k := ?_); refine zB (k := ?_)) | refine zE (k := ?_))))) <;> (((first | (refine zA (k := ?_); refine zM (k := ?_)) | refine zE (k := ?_) | ((refine zG (yes := (fun ht => ?_)) (no := (fun ht => ?_)) <;> (try simp at ht) <;> (try (exfalso; omega))) <;> (first | (refine zA (k := ?_); refine zM (k := ?_)) | refine zE (k := ?_))))) <;> (((first | (refine zA (k := ?_); refine yV (k' := ?_)) | refine zE (k := ?_) | ((refine zG (yes := (fun ht => ?_)) (no := (fun ht => ?_)) <;> (try simp at ht) <;> (try (exfalso; omega))) <;> (first | (refine zA (k := ?_); refine yV (k' := ?_)) | refine zE (k := ?_))))) <;> ((first | refine zZ (k := ?_) | refine za (k := ?_) | refine zg (k := ?_)); refine zH (k := ?_); (refine zD (hK _ _ ?_); clear hK K))))))))))))
        | (refine zC (id := 5) ?_; intro K hK; refine zr (k := ?_); refine zH (k := ?_); refine zh (ho' := rfl) (k := ?_); (refine zD (hK _ _ ?_); clear hK K))
        | (refine zC (id := 6) ?_; intro K hK; refine zF (k := ?_); refine z7 (k' := ?_); refine zF (k := ?_); ((first | (refine zA (k := ?_); refine zF (k := ?_)) | refine zE (k := ?_) | ((refine zG (yes := (fun ht => ?_)) (no := (fun ht => ?_)) <;> (try simp at ht) <;> (try (exfalso; omega))) <;> (first | (refine zA (k := ?_); refine zF (k := ?_)) | refine zE (k := ?_))))) <;> (((first | (refine zA (k := ?_); refine zB (k := ?_)) | refine zE (k := ?_) | ((refine zG (yes := (fun ht => ?_)) (no := (fun ht => ?_)) <;> (try simp at ht) <;> (try (exfalso; omega))) <;> (first | (refine zA (k := ?_); refine zB (k := ?_)) | refine zE (k := ?_))))) <;> (((first | (refine zA (k := ?_); refine zM (k := ?_)) | refine zE (k := ?_) | ((refine zG (yes := (fun ht => ?_)) (no := (fun ht => ?_)) <;> (try simp at ht) <;> (try (exfalso; omega))) <;> (first | (refine zA (k := ?_); refine zM (k := ?_)) | refine zE (k := ?_))))) <;> (((first | (refine zA (k := ?_); refine z0 (k' := ?_)) | refine zE (k := ?_) | ((refine zG (yes := (fun ht => ?_)) (no := (fun ht => ?_)) <;> (try simp at ht) <;> (try (exfalso; omega))) <;> (first | (refine zA (k := ?_); refine z0 (k' := ?_)) | refine zE (k := ?_))))) <;> ((first | refine zZ (k := ?_) | refine za (k := ?_) | refine zg (k := ?_)); refine zH (k := ?_); (refine zD (hK _ _ ?_); clear hK K))))))
        | (refine zC (id := 7) ?_; intro K hK; refine zr (k := ?_); refine zH (k := ?_); refine zh (ho' := rfl) (k := ?_); (refine zD (hK _ _ ?_); clear hK K))
        | (refine zC (id := 8) ?_; intro K hK; refine zF (k := ?_); refine zB (k := ?_); refine zM (k := ?_); refine z6 (k' := ?_); refine zH (k := ?_); (refine zD (hK _ _ ?_); clear hK K))
        | (refine zC (id := 9) ?_; intro K hK; refine zr (k := ?_); refine zH (k := ?_); refine zh (ho' := rfl) (k := ?_); (refine zD (hK _ _ ?_); clear hK K))
        | (refine z3 (id := 10) (h := ?_); intro K hK; refine zB (k := ?_); refine zo (k := ?_); refine zH (k := ?_); refine zh (ho' := rfl) (k := ?_); (refine zD (hK _ _ ?_); clear hK K))
        | (refine zc (ht := (fun ht => ?_)) (hf := (fun ht => ?_)) <;> (try simp at ht) <;> (try (exfalso; omega))))
      exact ⟨Or.inr rfl, _, [DeP p lim L], de_fold (A0 := []) rm (by simp only [DeX]; simp only [List.cons_append, List.nil_append]; (repeat (first | exact Ent.refl _ | exact Ent.nil | refine Ent.take (by (repeat (first | exact Out.head | apply Out.tail)); (first | done | fail)) ?_ | refine Ent.drop1 ?_))), resG rfl (by (repeat (first | exact ResL.nil | apply ResL.tmp (by (repeat (first | exact Ev.here | exact Ev.const | exact Ev.arg rfl | apply Ev.there rfl | exact Ev.none rfl | exact Ev.func | exact Ev.var)); (first | done | fail)) | apply ResL.agg (by (repeat (first | exact Ev.here | exact Ev.const | exact Ev.arg rfl | apply Ev.there rfl | exact Ev.none rfl | exact Ev.func | exact Ev.var)); (first | done | fail)) (by (repeat (first | exact Rd.head | exact Rd.base (by assumption) | apply Rd.tail)); (first | done | fail)) (by (repeat (first | exact TakeR.nil | apply TakeR.take | apply TakeR.skip)); (first | done | fail)) | apply ResL.cell (by (repeat (first | exact Ev.here | exact Ev.const | exact Ev.arg rfl | apply Ev.there rfl | exact Ev.none rfl | exact Ev.func | exact Ev.var)); (first | done | fail)) (by (repeat (first | exact Rd.head | exact Rd.base (by assumption) | apply Rd.tail)); (first | done | fail)) rfl)); (first | done | fail)) rfl, rfl, rfl⟩
    · have e : lookV L lim s r = (1, 0, 0) := by unfold lookV; rw [hg]; exact if_neg hl
      rw [e]
      repeat' (first
        | refine zi ?_
        | refine zK ?_
        | refine zQ (h := ?_)
        | refine zU (h := ?_)
        | refine zj ?_
        | refine zR ?_
        | refine zW ?_
        | refine zN ?_
        | refine zV ?_
        | refine ze ?_
        | refine zP ?_
        | refine zY ?_
        | refine zS rfl ?_
        | refine zd ?_
        | refine zX ?_
        | refine zO ?_
        | refine zT ?_
        | refine zL ?_
        | (refine zC (id := 0) ?_; intro K hK; refine zH (k := ?_); ((refine zw (k := ?_); intro r7)) <;> ((refine zD (hK _ _ ?_); clear hK K)))
        | (refine zC (id := 1) ?_; intro K hK; refine zF (k := ?_); refine zf (k' := ?_); (refine zD (hK _ _ ?_); clear hK K))
        | (refine zC (id := 2) ?_; intro K hK; refine zr (k := ?_); refine zH (k := ?_); refine zh (ho' := rfl) (k := ?_); (refine zD (hK _ _ ?_); clear hK K))
        | (refine zC (id := 3) ?_; intro K hK; refine zF (k := ?_); refine zJ (k := ?_); refine zB (k := ?_); refine zM (k := ?_); refine zF (k := ?_); ((refine yk (zv := .agg #[.int .i64 0, .int .i64 0, .int .i64 0]) (res := .tuple #[.agg #[.int .i64 0, .int .i64 0, .int .i64 0], .bool false]) (hK := hKd) (hk := hkey) (hz := by kernel_rfl) (hres := by rw [hf]; rfl) (k := ?_))) <;> (refine zF (k := ?_); refine zu (k' := ?_); refine zu (k' := ?_); ((refine zw (k := ?_); intro r8)) <;> (refine zh (ho' := rfl) (k := ?_); refine zH (k := ?_); (refine zD (hK _ _ ?_); clear hK K))))
        | (refine z3 (id := 4) (h := ?_); intro K hK; refine zF (k := ?_); refine z7 (k' := ?_); refine zF (k := ?_); ((first | (refine zA (k := ?_); refine zF (k := ?_)) | refine zE (k := ?_) | ((refine zG (yes := (fun ht => ?_)) (no := (fun ht => ?_)) <;> (try simp at ht) <;> (try (exfalso; omega))) <;> (first | (refine zA (k := ?_); refine zF (k := ?_)) | refine zE (k := ?_))))) <;> (((first | (refine zA (k := ?_); refine zJ (k := ?_)) | refine zE (k := ?_) | ((refine zG (yes := (fun ht => ?_)) (no := (fun ht => ?_)) <;> (try simp at ht) <;> (try (exfalso; omega))) <;> (first | (refine zA (k := ?_); refine zJ (k := ?_)) | refine zE (k := ?_))))) <;> (((first | (refine zA (k := ?_); refine zB (k := ?_)) | refine zE (k := ?_) | ((refine zG (yes := (fun ht => ?_)) (no := (fun ht => ?_)) <;> (try simp at ht) <;> (try (exfalso; omega))) <;> (first | (refine zA (k := ?_); refine zB (k := ?_)) | refine zE (k := ?_))))) <;> (((first | (refine zA (k := ?_); refine zM (k := ?_)) | refine zE (k := ?_) | ((refine zG (yes := (fun ht => ?_)) (no := (fun ht => ?_)) <;> (try simp at ht) <;> (try (exfalso; omega))) <;> (first | (refine zA (k := ?_); refine zM (k := ?_)) | refine zE (k := ?_))))) <;> (((first | (refine zA (k := ?_); (refine yU (ks := sKeys L) (hk := by decide) (hn := sKeys_nodup hL) (hks := sKeys_has) (k' := ?_); rw [hlen])) | refine zE (k := ?_) | ((refine zG (yes := (fun ht => ?_)) (no := (fun ht => ?_)) <;> (try simp at ht) <;> (try (exfalso; omega))) <;> (first | (refine zA (k := ?_); (refine yU (ks := sKeys L) (hk := by decide) (hn := sKeys_nodup hL) (hks := sKeys_has) (k' := ?_); rw [hlen])) | refine zE (k := ?_))))) <;> (((first | (refine zA (k := ?_); refine zF (k := ?_)) | refine zE (k := ?_) | ((refine zG (yes := (fun ht => ?_)) (no := (fun ht => ?_)) <;> (try simp at ht) <;> (try (exfalso; omega))) <;> (first | (refine zA (k := ?_); refine zF (k := ?_)) | refine zE (k := ?_))))) <;> (((first | (refine zA (k := ?_); refine zJ (k := ?_)) | refine zE (k := ?_) | ((refine zG (yes := (fun ht => ?_)) (no := (fun ht => ?_)) <;> (try simp at ht) <;> (try (exfalso; omega))) <;> (first | (refine zA (k := ?_); refine zJ (k := ?_)) | refine zE (k := ?_))))) <;> (((first | (refine zA (k := ?_); refine zB (k := ?_)) | refine zE (k := ?_) | ((refine zG (yes := (fun ht => ?_)) (no := (fun ht => ?_)) <;> (try simp at ht) <;> (try (exfalso; omega))) <;> (first | (refine zA (k := ?_); refine zB (k := ?_)) | refine zE (k := ?_))))) <;> (((first | (refine zA (k := ?_); refine zM (k := ?_)) | refine zE (k := ?_) | ((refine zG (yes := (fun ht => ?_)) (no := (fun ht => ?_)) <;> (try simp at ht) <;> (try (exfalso; omega))) <;> (first | (refine zA (k := ?_); refine zM (k := ?_)) | refine zE (k := ?_))))) <;> (((first | (refine zA (k := ?_); refine yV (k' := ?_)) | refine zE (k := ?_) | ((refine zG (yes := (fun ht => ?_)) (no := (fun ht => ?_)) <;> (try simp at ht) <;> (try (exfalso; omega))) <;> (first | (refine zA (k := ?_); refine yV (k' := ?_)) | refine zE (k := ?_))))) <;> ((first | refine zZ (k := ?_) | refine za (k := ?_) | refine zg (k := ?_)); refine zH (k := ?_); (refine zD (hK _ _ ?_); clear hK K))))))))))))
        | (refine zC (id := 5) ?_; intro K hK; refine zr (k := ?_); refine zH (k := ?_); refine zh (ho' := rfl) (k := ?_); (refine zD (hK _ _ ?_); clear hK K))
        | (refine zC (id := 6) ?_; intro K hK; refine zF (k := ?_); refine z7 (k' := ?_); refine zF (k := ?_); ((first | (refine zA (k := ?_); refine zF (k := ?_)) | refine zE (k := ?_) | ((refine zG (yes := (fun ht => ?_)) (no := (fun ht => ?_)) <;> (try simp at ht) <;> (try (exfalso; omega))) <;> (first | (refine zA (k := ?_); refine zF (k := ?_)) | refine zE (k := ?_))))) <;> (((first | (refine zA (k := ?_); refine zB (k := ?_)) | refine zE (k := ?_) | ((refine zG (yes := (fun ht => ?_)) (no := (fun ht => ?_)) <;> (try simp at ht) <;> (try (exfalso; omega))) <;> (first | (refine zA (k := ?_); refine zB (k := ?_)) | refine zE (k := ?_))))) <;> (((first | (refine zA (k := ?_); refine zM (k := ?_)) | refine zE (k := ?_) | ((refine zG (yes := (fun ht => ?_)) (no := (fun ht => ?_)) <;> (try simp at ht) <;> (try (exfalso; omega))) <;> (first | (refine zA (k := ?_); refine zM (k := ?_)) | refine zE (k := ?_))))) <;> (((first | (refine zA (k := ?_); refine z0 (k' := ?_)) | refine zE (k := ?_) | ((refine zG (yes := (fun ht => ?_)) (no := (fun ht => ?_)) <;> (try simp at ht) <;> (try (exfalso; omega))) <;> (first | (refine zA (k := ?_); refine z0 (k' := ?_)) | refine zE (k := ?_))))) <;> ((first | refine zZ (k := ?_) | refine za (k := ?_) | refine zg (k := ?_)); refine zH (k := ?_); (refine zD (hK _ _ ?_); clear hK K))))))
        | (refine zC (id := 7) ?_; intro K hK; refine zr (k := ?_); refine zH (k := ?_); refine zh (ho' := rfl) (k := ?_); (refine zD (hK _ _ ?_); clear hK K))
        | (refine zC (id := 8) ?_; intro K hK; refine zF (k := ?_); refine zB (k := ?_); refine zM (k := ?_); refine z6 (k' := ?_); refine zH (k := ?_); (refine zD (hK _ _ ?_); clear hK K))
        | (refine zC (id := 9) ?_; intro K hK; refine zr (k := ?_); refine zH (k := ?_); refine zh (ho' := rfl) (k := ?_); (refine zD (hK _ _ ?_); clear hK K))
        | (refine z3 (id := 10) (h := ?_); intro K hK; refine zB (k := ?_); refine zo (k := ?_); refine zH (k := ?_); refine zh (ho' := rfl) (k := ?_); (refine zD (hK _ _ ?_); clear hK K))
        | (refine zc (ht := (fun ht => ?_)) (hf := (fun ht => ?_)) <;> (try simp at ht) <;> (try (exfalso; omega))))
      exact ⟨Or.inr rfl, _, [DeP p lim L], de_fold (A0 := []) rm (by simp only [DeX]; simp only [List.cons_append, List.nil_append]; (repeat (first | exact Ent.refl _ | exact Ent.nil | refine Ent.take (by (repeat (first | exact Out.head | apply Out.tail)); (first | done | fail)) ?_ | refine Ent.drop1 ?_))), resG rfl (by (repeat (first | exact ResL.nil | apply ResL.tmp (by (repeat (first | exact Ev.here | exact Ev.const | exact Ev.arg rfl | apply Ev.there rfl | exact Ev.none rfl | exact Ev.func | exact Ev.var)); (first | done | fail)) | apply ResL.agg (by (repeat (first | exact Ev.here | exact Ev.const | exact Ev.arg rfl | apply Ev.there rfl | exact Ev.none rfl | exact Ev.func | exact Ev.var)); (first | done | fail)) (by (repeat (first | exact Rd.head | exact Rd.base (by assumption) | apply Rd.tail)); (first | done | fail)) (by (repeat (first | exact TakeR.nil | apply TakeR.take | apply TakeR.skip)); (first | done | fail)) | apply ResL.cell (by (repeat (first | exact Ev.here | exact Ev.const | exact Ev.arg rfl | apply Ev.there rfl | exact Ev.none rfl | exact Ev.func | exact Ev.var)); (first | done | fail)) (by (repeat (first | exact Rd.head | exact Rd.base (by assumption) | apply Rd.tail)); (first | done | fail)) rfl)); (first | done | fail)) rfl, rfl, rfl⟩
  | some x =>
    have hf : fS L (.int .i64 s) = some x.l := by simp [fS, hg]
    have e : lookV L lim s r = if x.r < r then (1, 0, 0) else if r < x.r then (3, 0, 0) else (2, x.e, x.i) := by unfold lookV; rw [hg]
    rw [e]
    repeat' (first
      | refine zi ?_
      | refine zK ?_
      | refine zQ (h := ?_)
      | refine zU (h := ?_)
      | refine zj ?_
      | refine zR ?_
      | refine zW ?_
      | refine zN ?_
      | refine zV ?_
      | refine ze ?_
      | refine zP ?_
      | refine zY ?_
      | refine zS rfl ?_
      | refine zd ?_
      | refine zX ?_
      | refine zO ?_
      | refine zT ?_
      | refine zL ?_
      | (refine zC (id := 0) ?_; intro K hK; refine zH (k := ?_); ((refine zw (k := ?_); intro r7)) <;> ((refine zD (hK _ _ ?_); clear hK K)))
      | (refine zC (id := 1) ?_; intro K hK; refine zF (k := ?_); refine zf (k' := ?_); (refine zD (hK _ _ ?_); clear hK K))
      | (refine zC (id := 2) ?_; intro K hK; refine zr (k := ?_); refine zH (k := ?_); refine zh (ho' := rfl) (k := ?_); (refine zD (hK _ _ ?_); clear hK K))
      | (refine zC (id := 3) ?_; intro K hK; refine zF (k := ?_); refine zJ (k := ?_); refine zB (k := ?_); refine zM (k := ?_); refine zF (k := ?_); ((refine yk (zv := .agg #[.int .i64 0, .int .i64 0, .int .i64 0]) (res := .tuple #[x.l, .bool true]) (hK := hKd) (hk := hkey) (hz := by kernel_rfl) (hres := by rw [hf]; rfl) (k := ?_); simp only [SX.l])) <;> (refine zF (k := ?_); refine zu (k' := ?_); refine zu (k' := ?_); ((refine zw (k := ?_); intro r8)) <;> (refine zh (ho' := rfl) (k := ?_); refine zH (k := ?_); (refine zD (hK _ _ ?_); clear hK K))))
      | (refine z3 (id := 4) (h := ?_); intro K hK; refine zF (k := ?_); refine z7 (k' := ?_); refine zF (k := ?_); ((first | (refine zA (k := ?_); refine zF (k := ?_)) | refine zE (k := ?_) | ((refine zG (yes := (fun ht => ?_)) (no := (fun ht => ?_)) <;> (try simp at ht) <;> (try (exfalso; omega))) <;> (first | (refine zA (k := ?_); refine zF (k := ?_)) | refine zE (k := ?_))))) <;> (((first | (refine zA (k := ?_); refine zJ (k := ?_)) | refine zE (k := ?_) | ((refine zG (yes := (fun ht => ?_)) (no := (fun ht => ?_)) <;> (try simp at ht) <;> (try (exfalso; omega))) <;> (first | (refine zA (k := ?_); refine zJ (k := ?_)) | refine zE (k := ?_))))) <;> (((first | (refine zA (k := ?_); refine zB (k := ?_)) | refine zE (k := ?_) | ((refine zG (yes := (fun ht => ?_)) (no := (fun ht => ?_)) <;> (try simp at ht) <;> (try (exfalso; omega))) <;> (first | (refine zA (k := ?_); refine zB (k := ?_)) | refine zE (k := ?_))))) <;> (((first | (refine zA (k := ?_); refine zM (k := ?_)) | refine zE (k := ?_) | ((refine zG (yes := (fun ht => ?_)) (no := (fun ht => ?_)) <;> (try simp at ht) <;> (try (exfalso; omega))) <;> (first | (refine zA (k := ?_); refine zM (k := ?_)) | refine zE (k := ?_))))) <;> (((first | (refine zA (k := ?_); (refine yU (ks := sKeys L) (hk := by decide) (hn := sKeys_nodup hL) (hks := sKeys_has) (k' := ?_); rw [hlen])) | refine zE (k := ?_) | ((refine zG (yes := (fun ht => ?_)) (no := (fun ht => ?_)) <;> (try simp at ht) <;> (try (exfalso; omega))) <;> (first | (refine zA (k := ?_); (refine yU (ks := sKeys L) (hk := by decide) (hn := sKeys_nodup hL) (hks := sKeys_has) (k' := ?_); rw [hlen])) | refine zE (k := ?_))))) <;> (((first | (refine zA (k := ?_); refine zF (k := ?_)) | refine zE (k := ?_) | ((refine zG (yes := (fun ht => ?_)) (no := (fun ht => ?_)) <;> (try simp at ht) <;> (try (exfalso; omega))) <;> (first | (refine zA (k := ?_); refine zF (k := ?_)) | refine zE (k := ?_))))) <;> (((first | (refine zA (k := ?_); refine zJ (k := ?_)) | refine zE (k := ?_) | ((refine zG (yes := (fun ht => ?_)) (no := (fun ht => ?_)) <;> (try simp at ht) <;> (try (exfalso; omega))) <;> (first | (refine zA (k := ?_); refine zJ (k := ?_)) | refine zE (k := ?_))))) <;> (((first | (refine zA (k := ?_); refine zB (k := ?_)) | refine zE (k := ?_) | ((refine zG (yes := (fun ht => ?_)) (no := (fun ht => ?_)) <;> (try simp at ht) <;> (try (exfalso; omega))) <;> (first | (refine zA (k := ?_); refine zB (k := ?_)) | refine zE (k := ?_))))) <;> (((first | (refine zA (k := ?_); refine zM (k := ?_)) | refine zE (k := ?_) | ((refine zG (yes := (fun ht => ?_)) (no := (fun ht => ?_)) <;> (try simp at ht) <;> (try (exfalso; omega))) <;> (first | (refine zA (k := ?_); refine zM (k := ?_)) | refine zE (k := ?_))))) <;> (((first | (refine zA (k := ?_); refine yV (k' := ?_)) | refine zE (k := ?_) | ((refine zG (yes := (fun ht => ?_)) (no := (fun ht => ?_)) <;> (try simp at ht) <;> (try (exfalso; omega))) <;> (first | (refine zA (k := ?_); refine yV (k' := ?_)) | refine zE (k := ?_))))) <;> ((first | refine zZ (k := ?_) | refine za (k := ?_) | refine zg (k := ?_)); refine zH (k := ?_); (refine zD (hK _ _ ?_); clear hK K))))))))))))
      | (refine zC (id := 5) ?_; intro K hK; refine zr (k := ?_); refine zH (k := ?_); refine zh (ho' := rfl) (k := ?_); (refine zD (hK _ _ ?_); clear hK K))
      | (refine zC (id := 6) ?_; intro K hK; refine zF (k := ?_); refine z7 (k' := ?_); refine zF (k := ?_); ((first | (refine zA (k := ?_); refine zF (k := ?_)) | refine zE (k := ?_) | ((refine zG (yes := (fun ht => ?_)) (no := (fun ht => ?_)) <;> (try simp at ht) <;> (try (exfalso; omega))) <;> (first | (refine zA (k := ?_); refine zF (k := ?_)) | refine zE (k := ?_))))) <;> (((first | (refine zA (k := ?_); refine zB (k := ?_)) | refine zE (k := ?_) | ((refine zG (yes := (fun ht => ?_)) (no := (fun ht => ?_)) <;> (try simp at ht) <;> (try (exfalso; omega))) <;> (first | (refine zA (k := ?_); refine zB (k := ?_)) | refine zE (k := ?_))))) <;> (((first | (refine zA (k := ?_); refine zM (k := ?_)) | refine zE (k := ?_) | ((refine zG (yes := (fun ht => ?_)) (no := (fun ht => ?_)) <;> (try simp at ht) <;> (try (exfalso; omega))) <;> (first | (refine zA (k := ?_); refine zM (k := ?_)) | refine zE (k := ?_))))) <;> (((first | (refine zA (k := ?_); refine z0 (k' := ?_)) | refine zE (k := ?_) | ((refine zG (yes := (fun ht => ?_)) (no := (fun ht => ?_)) <;> (try simp at ht) <;> (try (exfalso; omega))) <;> (first | (refine zA (k := ?_); refine z0 (k' := ?_)) | refine zE (k := ?_))))) <;> ((first | refine zZ (k := ?_) | refine za (k := ?_) | refine zg (k := ?_)); refine zH (k := ?_); (refine zD (hK _ _ ?_); clear hK K))))))
      | (refine zC (id := 7) ?_; intro K hK; refine zr (k := ?_); refine zH (k := ?_); refine zh (ho' := rfl) (k := ?_); (refine zD (hK _ _ ?_); clear hK K))
      | (refine zC (id := 8) ?_; intro K hK; refine zF (k := ?_); refine zB (k := ?_); refine zM (k := ?_); refine z6 (k' := ?_); refine zH (k := ?_); (refine zD (hK _ _ ?_); clear hK K))
      | (refine zC (id := 9) ?_; intro K hK; refine zr (k := ?_); refine zH (k := ?_); refine zh (ho' := rfl) (k := ?_); (refine zD (hK _ _ ?_); clear hK K))
      | (refine z3 (id := 10) (h := ?_); intro K hK; refine zB (k := ?_); refine zo (k := ?_); refine zH (k := ?_); refine zh (ho' := rfl) (k := ?_); (refine zD (hK _ _ ?_); clear hK K))
      | (refine zc (ht := (fun ht => ?_)) (hf := (fun ht => ?_)) <;> (try simp at ht) <;> (try (exfalso; omega))))
    all_goals first
      | (rw [if_pos (by assumption)]; exact ⟨Or.inr rfl, _, [DeP p lim L], de_fold (A0 := []) rm (by simp only [DeX]; simp only [List.cons_append, List.nil_append]; ((repeat (first | exact Ent.refl _ | exact Ent.nil | refine Ent.take (by (repeat (first | exact Out.head | apply Out.tail)); (first | done | fail)) ?_ | refine Ent.drop1 ?_)); done)), resG rfl (by (repeat (first | exact ResL.nil | apply ResL.tmp (by (repeat (first | exact Ev.here | exact Ev.const | exact Ev.arg rfl | apply Ev.there rfl | exact Ev.none rfl | exact Ev.func | exact Ev.var)); (first | done | fail)) | apply ResL.agg (by (repeat (first | exact Ev.here | exact Ev.const | exact Ev.arg rfl | apply Ev.there rfl | exact Ev.none rfl | exact Ev.func | exact Ev.var)); (first | done | fail)) (by (repeat (first | exact Rd.head | exact Rd.base (by assumption) | apply Rd.tail)); (first | done | fail)) (by (repeat (first | exact TakeR.nil | apply TakeR.take | apply TakeR.skip)); (first | done | fail)) | apply ResL.cell (by (repeat (first | exact Ev.here | exact Ev.const | exact Ev.arg rfl | apply Ev.there rfl | exact Ev.none rfl | exact Ev.func | exact Ev.var)); (first | done | fail)) (by (repeat (first | exact Rd.head | exact Rd.base (by assumption) | apply Rd.tail)); (first | done | fail)) rfl)); (first | done | fail)) rfl, rfl, rfl⟩)
      | (rw [if_neg (by omega), if_pos (by omega)]; exact ⟨Or.inr rfl, _, [DeP p lim L], de_fold (A0 := []) rm (by simp only [DeX]; simp only [List.cons_append, List.nil_append]; ((repeat (first | exact Ent.refl _ | exact Ent.nil | refine Ent.take (by (repeat (first | exact Out.head | apply Out.tail)); (first | done | fail)) ?_ | refine Ent.drop1 ?_)); done)), resG rfl (by (repeat (first | exact ResL.nil | apply ResL.tmp (by (repeat (first | exact Ev.here | exact Ev.const | exact Ev.arg rfl | apply Ev.there rfl | exact Ev.none rfl | exact Ev.func | exact Ev.var)); (first | done | fail)) | apply ResL.agg (by (repeat (first | exact Ev.here | exact Ev.const | exact Ev.arg rfl | apply Ev.there rfl | exact Ev.none rfl | exact Ev.func | exact Ev.var)); (first | done | fail)) (by (repeat (first | exact Rd.head | exact Rd.base (by assumption) | apply Rd.tail)); (first | done | fail)) (by (repeat (first | exact TakeR.nil | apply TakeR.take | apply TakeR.skip)); (first | done | fail)) | apply ResL.cell (by (repeat (first | exact Ev.here | exact Ev.const | exact Ev.arg rfl | apply Ev.there rfl | exact Ev.none rfl | exact Ev.func | exact Ev.var)); (first | done | fail)) (by (repeat (first | exact Rd.head | exact Rd.base (by assumption) | apply Rd.tail)); (first | done | fail)) rfl)); (first | done | fail)) rfl, rfl, rfl⟩)
      | (rw [if_neg (by omega), if_neg (by omega)]; exact ⟨Or.inr rfl, _, [DeP p lim L], de_fold (A0 := []) rm (by simp only [DeX]; simp only [List.cons_append, List.nil_append]; ((repeat (first | exact Ent.refl _ | exact Ent.nil | refine Ent.take (by (repeat (first | exact Out.head | apply Out.tail)); (first | done | fail)) ?_ | refine Ent.drop1 ?_)); done)), resG rfl (by (repeat (first | exact ResL.nil | apply ResL.tmp (by (repeat (first | exact Ev.here | exact Ev.const | exact Ev.arg rfl | apply Ev.there rfl | exact Ev.none rfl | exact Ev.func | exact Ev.var)); (first | done | fail)) | apply ResL.agg (by (repeat (first | exact Ev.here | exact Ev.const | exact Ev.arg rfl | apply Ev.there rfl | exact Ev.none rfl | exact Ev.func | exact Ev.var)); (first | done | fail)) (by (repeat (first | exact Rd.head | exact Rd.base (by assumption) | apply Rd.tail)); (first | done | fail)) (by (repeat (first | exact TakeR.nil | apply TakeR.take | apply TakeR.skip)); (first | done | fail)) | apply ResL.cell (by (repeat (first | exact Ev.here | exact Ev.const | exact Ev.arg rfl | apply Ev.there rfl | exact Ev.none rfl | exact Ev.func | exact Ev.var)); (first | done | fail)) (by (repeat (first | exact Rd.head | exact Rd.base (by assumption) | apply Rd.tail)); (first | done | fail)) rfl)); (first | done | fail)) rfl, rfl, rfl⟩)
theorem note_spec (p : Nat) (lim : Int) (L : List SX) (hL : RisS L) (x : SX) (hs : x.ok) :
    Fspec Tryz.prog B 90 #[.pointer (some ⟨p, 0, none⟩), .int .i64 x.s, .int .i64 x.r, .agg #[.int .i64 x.e, .int .i64 x.i]] [DeP p lim L]
      (fun v A' => ∃ b, v = .bool b ∧ A' = [DeP p lim (noteV L lim x)]) := by
  have hKd := Go.Maps.int_keyed (P := Tryz.prog) Tryz.underlying3
  have hkey : keyOf Tryz.prog 3 (.int .i64 x.s) = some (.int .i64 x.s) := Go.Maps.keyOf_int_mk Tryz.underlying3 (wf_int hs)
  refine spec_of (args := [_, _, _, _]) Tryz.func90 rfl rfl rfl ?_
  unfold noteV
  by_cases h1 : (lookV L lim x.s x.r).1 = 1
  · rw [if_pos h1]
    repeat' (first
      | refine zi ?_
      | refine zK ?_
      | refine zQ (h := ?_)
      | refine zU (h := ?_)
      | refine zj ?_
      | refine zR ?_
      | refine zW ?_
      | refine zN ?_
      | refine zV ?_
      | refine ze ?_
      | refine zP ?_
      | refine zY ?_
      | refine zS rfl ?_
      | refine zd ?_
      | refine zX ?_
      | refine zO ?_
      | refine zT ?_
      | refine zL ?_
      | (refine zC (id := 0) ?_; intro K hK; ((refine zm (k := ?_); intro r7)) <;> (refine zH (k := ?_); (refine zD (hK _ _ ?_); clear hK K)))
      | (refine zC (id := 1) ?_; intro K hK; refine zF (k := ?_); refine zF (k := ?_); refine zF (k := ?_); ((refine zb (hs := look_spec p lim L hL x.s x.r hs) (k := ?_); rintro v A' ⟨rfl, rfl⟩; simp only [List.cons_append, List.nil_append]; rw [h1])) <;> (refine zF (k := ?_); refine zu (k' := ?_); refine zu (k' := ?_); ((refine zw (k := ?_); intro r10)) <;> (refine zH (k := ?_); refine zh (ho' := rfl) (k := ?_); (refine zD (hK _ _ ?_); clear hK K))))
      | (refine zC (id := 2) ?_; intro K hK; refine zF (k := ?_); refine z8 (k' := ?_); (refine zD (hK _ _ ?_); clear hK K))
      | (refine zc (ht := (fun ht => ?_)) (hf := (fun ht => ?_)) <;> (try simp at ht) <;> (try (exfalso; omega))))
    refine yJ (y := DeP p lim L) (k := ?_)
    refine yE (fun rm => ?_)
    simp only [DeX]
    simp only [List.cons_append, List.nil_append]
    repeat' (first
      | refine zi ?_
      | refine zK ?_
      | refine zQ (h := ?_)
      | refine zU (h := ?_)
      | refine zj ?_
      | refine zR ?_
      | refine zW ?_
      | refine zN ?_
      | refine zV ?_
      | refine ze ?_
      | refine zP ?_
      | refine zY ?_
      | refine zS rfl ?_
      | refine zd ?_
      | refine zX ?_
      | refine zO ?_
      | refine zT ?_
      | refine zL ?_
      | (refine z3 (id := 4) (h := ?_); intro K hK; refine zF (k := ?_); refine zJ (k := ?_); refine zB (k := ?_); refine zM (k := ?_); refine zF (k := ?_); refine zF (k := ?_); refine zo (k := ?_); refine zr (k := ?_); ((refine yi (val := x.l) (hK := hKd) (hk := hkey) (k := ?_); rw [fS_put hL])) <;> ((refine zD (hK _ _ ?_); clear hK K)))
      | (refine zC (id := 5) ?_; intro K hK; refine zH (k := ?_); (refine zD (hK _ _ ?_); clear hK K))
      | (refine zc (ht := (fun ht => ?_)) (hf := (fun ht => ?_)) <;> (try simp at ht) <;> (try (exfalso; omega))))
    exact ⟨Or.inr rfl, _, [DeP p lim (dput L x)], de_fold (A0 := []) rm (by simp only [DeX]; simp only [List.cons_append, List.nil_append]; (repeat (first | exact Ent.refl _ | exact Ent.nil | refine Ent.take (by (repeat (first | exact Out.head | apply Out.tail)); (first | done | fail)) ?_ | refine Ent.drop1 ?_))), res1 rfl rfl, _, rfl, rfl⟩
  · rw [if_neg h1]
    repeat' (first
      | refine zi ?_
      | refine zK ?_
      | refine zQ (h := ?_)
      | refine zU (h := ?_)
      | refine zj ?_
      | refine zR ?_
      | refine zW ?_
      | refine zN ?_
      | refine zV ?_
      | refine ze ?_
      | refine zP ?_
      | refine zY ?_
      | refine zS rfl ?_
      | refine zd ?_
      | refine zX ?_
      | refine zO ?_
      | refine zT ?_
      | refine zL ?_
      | (refine zC (id := 0) ?_; intro K hK; ((refine zm (k := ?_); intro r7)) <;> (refine zH (k := ?_); (refine zD (hK _ _ ?_); clear hK K)))
      | (refine zC (id := 1) ?_; intro K hK; refine zF (k := ?_); refine zF (k := ?_); refine zF (k := ?_); ((refine zb (hs := look_spec p lim L hL x.s x.r hs) (k := ?_); rintro v A' ⟨rfl, rfl⟩; simp only [List.cons_append, List.nil_append])) <;> (refine zF (k := ?_); refine zu (k' := ?_); refine zu (k' := ?_); ((refine zw (k := ?_); intro r10)) <;> (refine zH (k := ?_); refine zh (ho' := rfl) (k := ?_); (refine zD (hK _ _ ?_); clear hK K))))
      | (refine zC (id := 2) ?_; intro K hK; refine zF (k := ?_); refine z8 (k' := ?_); (refine zD (hK _ _ ?_); clear hK K))
      | (refine zC (id := 3) ?_; intro K hK; refine zH (k := ?_); (refine zD (hK _ _ ?_); clear hK K))
      | (refine zc (ht := (fun ht => ?_)) (hf := (fun ht => ?_)) <;> (try simp at ht) <;> (try (exfalso; omega))))
    exact ⟨Or.inr rfl, _, [DeP p lim L], (by (repeat (first | exact Ent.refl _ | exact Ent.nil | refine Ent.take (by (repeat (first | exact Out.head | apply Out.tail)); (first | done | fail)) ?_ | refine Ent.drop1 ?_))), res1 rfl rfl, _, rfl, rfl⟩
end specs
end Go.Proofs.YtnoggejkkjngjaaGreat
/- Package sorted: its trees, and what each function on them does, told by plain functions. Conditions: levels are bounded. -/
set_option maxHeartbeats 8000000
set_option linter.unusedVariables false
set_option linter.unusedSimpArgs false
set_option maxRecDepth 100000
namespace Go.Proofs.YtnoggejkkjngjaaGreat
open Go Go.Sl
attribute [local irreducible] Go.Sl.Wl Go.Sl.Wc Go.Sl.thenQ Go.Sl.blkQ Go.Sl.loopQ Go.Sl.Fspec

/-- A value: where it was written, whether it is there, its text. -/
structure VX where
  a : Int
  b : Int
  c : Bool
  d : ByteArray
def VX.zero : VX := ⟨0, 0, false, ByteArray.empty⟩
def VX.C (v : VX) : List Value := [.int .i64 v.a, .int .i64 v.b, .bool v.c, .string v.d]
inductive Tree where
  | nil
  | node (l : Tree) (k : ByteArray) (v : VX) (lv : Int) (r : Tree)
def klt (a b : ByteArray) : Bool := Op.bytesLess a.toList b.toList
def kgt (a b : ByteArray) : Bool := !(Op.bytesLess a.toList b.toList || a.toList == b.toList)
def Tree.lev : Tree → Int
  | .nil => 0
  | .node _ _ _ lv _ => lv
def Tree.size : Tree → Nat
  | .nil => 0
  | .node l _ _ _ r => l.size + r.size + 1
def Tree.depth : Tree → Nat
  | .nil => 0
  | .node l _ _ _ r => 1 + max l.depth r.depth
def Tree.LB (N : Int) : Tree → Prop
  | .nil => True
  | .node l _ _ lv r => (0 ≤ lv ∧ lv ≤ N) ∧ l.LB N ∧ r.LB N
def Tree.skew : Tree → Tree
  | .node (.node ll lk lx llv lr) k v lv r => if llv = lv then .node ll lk lx llv (.node lr k v lv r) else .node (.node ll lk lx llv lr) k v lv r
  | t => t
def Tree.split : Tree → Tree
  | .node l k v lv (.node rl rk rx rlv (.node rrl rrk rrx rrlv rrr)) =>
    if rrlv = lv then .node (.node l k v lv rl) rk rx (rlv + 1) (.node rrl rrk rrx rrlv rrr) else .node l k v lv (.node rl rk rx rlv (.node rrl rrk rrx rrlv rrr))
  | t => t
def Tree.set : Tree → ByteArray → VX → Tree
  | .nil, k, v => .node .nil k v 1 .nil
  | .node l k' v' lv r, k, v => if klt k k' then (Tree.node (l.set k v) k' v' lv r).skew.split else if kgt k k' then (Tree.node l k' v' lv (r.set k v)).skew.split else .node l k' v lv r
def Tree.news : Tree → ByteArray → Bool
  | .nil, _ => true
  | .node l k' _ _ r, k => if klt k k' then l.news k else if kgt k k' then r.news k else false
/-- The great child's level, where it is above, comes down. -/
def Tree.cut (N : Int) : Tree → Tree
  | .nil => .nil
  | .node l k v lv r => if N < lv then .node l k v N r else .node l k v lv r
def Tree.onGreat (f : Tree → Tree) : Tree → Tree
  | .nil => .nil
  | .node l k v lv r => .node l k v lv (f r)
def Tree.low1 : Tree → Tree
  | .nil => .nil
  | .node l k v lv r => if min l.lev r.lev + 1 < lv then .node l k v (min l.lev r.lev + 1) (r.cut (min l.lev r.lev + 1)) else .node l k v lv r
def Tree.lower (t : Tree) : Tree := ((t.low1.skew.onGreat fun r => r.skew.onGreat Tree.skew).split).onGreat Tree.split
def Tree.least : Tree → ByteArray × VX
  | .nil => (ByteArray.empty, VX.zero)
  | .node .nil k v _ _ => (k, v)
  | .node l _ _ _ _ => l.least
def Tree.most : Tree → ByteArray × VX
  | .nil => (ByteArray.empty, VX.zero)
  | .node _ k v _ .nil => (k, v)
  | .node _ _ _ _ r => r.most
def Tree.top (l r : Tree) (dl dr : ByteArray → Tree) (lv : Int) : Tree :=
  match l, r with
  | .nil, .nil => .nil
  | .nil, .node rl rk rx rlv rr => (Tree.node .nil (Tree.node rl rk rx rlv rr).least.1 (Tree.node rl rk rx rlv rr).least.2 lv (dr (Tree.node rl rk rx rlv rr).least.1)).lower
  | .node ll lk lx llv lr, r => (Tree.node (dl (Tree.node ll lk lx llv lr).most.1) (Tree.node ll lk lx llv lr).most.1 (Tree.node ll lk lx llv lr).most.2 lv r).lower
def Tree.del : Tree → ByteArray → Tree
  | .nil, _ => .nil
  | .node l k' v' lv r, k => if klt k k' = true then (Tree.node (l.del k) k' v' lv r).lower else if kgt k k' = true then (Tree.node l k' v' lv (r.del k)).lower else
    Tree.top l r (fun q => l.del q) (fun q => r.del q) lv
def TrX (tl tr : Option Addr → Asn) (k : ByteArray) (v : VX) (lv : Int) (a : Option Addr) (x : Nat × Option Addr × Option Addr) : List Asn :=
  [puA (a = some ⟨x.1, 0, none⟩) (cb x.1 [.string k, .int .i64 v.a, .int .i64 v.b, .bool v.c, .string v.d, .int .i64 lv, .pointer x.2.1, .pointer x.2.2] 173), tl x.2.1, tr x.2.2]
def TrA : Tree → Option Addr → Asn
  | .nil, a => puA (a = none) (lst [])
  | .node l k v lv r, a => exN (TrX (TrA l) (TrA r) k v lv a)
theorem tr_nil {A : List Asn} : Ent A (TrA .nil none :: A) := (Ent.lst_shut [] A).trans (Ent.puA_shut rfl A)
theorem tr_fold {b : Nat} {la ra : Option Addr} {l r : Tree} {k : ByteArray} {v : VX} {lv : Int} {A : List Asn} :
    Ent (cb b [.string k, .int .i64 v.a, .int .i64 v.b, .bool v.c, .string v.d, .int .i64 lv, .pointer la, .pointer ra] 173 :: TrA l la :: TrA r ra :: A) (TrA (.node l k v lv r) (some ⟨b, 0, none⟩) :: A) :=
  (Ent.puA_shut (φ := some (⟨b, 0, none⟩ : Addr) = some ⟨b, 0, none⟩) rfl _).trans (Ent.exN_shut (f := TrX (TrA l) (TrA r) k v lv (some ⟨b, 0, none⟩)) (b, la, ra) A)
section rules
variable {P : Program} {B : Base} {N : Nat} {F : Fr} {A : List Asn} {Q : Exit → Fr → List Asn → Prop} {fm : Fm} {ops l : List Oper} {K : Fr → List Asn → Prop}
theorem yS {c : Code} {a : Option Addr} (h : a = none → Wc P B N c F A Q) : Wc P B N c F (TrA .nil a :: A) Q :=
  xP fun ha => y7 (Ent.drop _) (h ha)
theorem yQ {c : Code} {a : Option Addr} {tl tr : Tree} {k : ByteArray} {v : VX} {lv : Int} (h : ∀ b la ra, a = some ⟨b, 0, none⟩ →
    Wc P B N c F (cb b [.string k, .int .i64 v.a, .int .i64 v.b, .bool v.c, .string v.d, .int .i64 lv, .pointer la, .pointer ra] 173 :: TrA tl la :: TrA tr ra :: A) Q) : Wc P B N c F (TrA (.node tl k v lv tr) a :: A) Q :=
  yE fun x => xP fun ha => h x.1 x.2.1 x.2.2 ha
theorem yw {b : Nat} {la ra : Option Addr} {tl tr : Tree} {k : ByteArray} {v : VX} {lv : Int} {A1 A2 A3 : List Asn} (h1 : Out (cb b [.string k, .int .i64 v.a, .int .i64 v.b, .bool v.c, .string v.d, .int .i64 lv, .pointer la, .pointer ra] 173) A A1) (h2 : Out (TrA tl la) A1 A2) (h3 : Out (TrA tr ra) A2 A3)
    (h : Wl P B N fm ops l F (TrA (.node tl k v lv tr) (some ⟨b, 0, none⟩) :: A3) K) : Wl P B N fm ops l F A K :=
  yB ((Ent.perm (h1.perm.trans ((h2.perm.trans (h3.perm.cons _)).cons _))).trans tr_fold) h
theorem Ent_foldTr {b : Nat} {la ra : Option Addr} {tl tr : Tree} {k : ByteArray} {v : VX} {lv : Int} {A1 A2 A3 L : List Asn} (h1 : Out (cb b [.string k, .int .i64 v.a, .int .i64 v.b, .bool v.c, .string v.d, .int .i64 lv, .pointer la, .pointer ra] 173) A A1) (h2 : Out (TrA tl la) A1 A2) (h3 : Out (TrA tr ra) A2 A3)
    (h : Ent (TrA (.node tl k v lv tr) (some ⟨b, 0, none⟩) :: A3) L) : Ent A L :=
  ((Ent.perm (h1.perm.trans ((h2.perm.trans (h3.perm.cons _)).cons _))).trans tr_fold).trans h
end rules

section specs
variable (B : Base)
theorem skew_spec (t : Tree) (a : Option Addr) :
    Fspec Tryz.prog B 116 #[.pointer a] [TrA t a] (fun v A' => ∃ a', v = .pointer a' ∧ A' = [TrA t.skew a']) := by
  refine spec_of (args := [_]) Tryz.func116 rfl rfl rfl ?_
  cases t with
  | nil =>
    refine yS (fun e => ?_)
    subst e
    repeat' (first
      | refine zi ?_
      | refine zK ?_
      | refine zQ (h := ?_)
      | refine zU (h := ?_)
      | refine zj ?_
      | refine zR ?_
      | refine zW ?_
      | refine zN ?_
      | refine zV ?_
      | refine ze ?_
      | refine zP ?_
      | refine zY ?_
      | refine zS rfl ?_
      | refine zd ?_
      | refine zX ?_
      | refine zO ?_
      | refine zT ?_
      | refine zL ?_
      | (refine zC (id := 0) ?_; intro K hK; refine zH (k := ?_); (refine zD (hK _ _ ?_); clear hK K))
      | (refine z3 (id := 1) (h := ?_); intro K hK; refine zF (k := ?_); refine zf (k' := ?_); refine zF (k := ?_); ((first | (refine zA (k := ?_); refine zF (k := ?_)) | refine zE (k := ?_) | ((refine zG (yes := (fun ht => ?_)) (no := (fun ht => ?_)) <;> (try simp at ht) <;> (try (exfalso; omega))) <;> (first | (refine zA (k := ?_); refine zF (k := ?_)) | refine zE (k := ?_))))) <;> (((first | (refine zA (k := ?_); refine zJ (k := ?_)) | refine zE (k := ?_) | ((refine zG (yes := (fun ht => ?_)) (no := (fun ht => ?_)) <;> (try simp at ht) <;> (try (exfalso; omega))) <;> (first | (refine zA (k := ?_); refine zJ (k := ?_)) | refine zE (k := ?_))))) <;> (((first | (refine zA (k := ?_); refine zB (k := ?_)) | refine zE (k := ?_) | ((refine zG (yes := (fun ht => ?_)) (no := (fun ht => ?_)) <;> (try simp at ht) <;> (try (exfalso; omega))) <;> (first | (refine zA (k := ?_); refine zB (k := ?_)) | refine zE (k := ?_))))) <;> (((first | (refine zA (k := ?_); refine zM (k := ?_)) | refine zE (k := ?_) | ((refine zG (yes := (fun ht => ?_)) (no := (fun ht => ?_)) <;> (try simp at ht) <;> (try (exfalso; omega))) <;> (first | (refine zA (k := ?_); refine zM (k := ?_)) | refine zE (k := ?_))))) <;> (((first | (refine zA (k := ?_); refine zf (k' := ?_)) | refine zE (k := ?_) | ((refine zG (yes := (fun ht => ?_)) (no := (fun ht => ?_)) <;> (try simp at ht) <;> (try (exfalso; omega))) <;> (first | (refine zA (k := ?_); refine zf (k' := ?_)) | refine zE (k := ?_))))) <;> ((first | refine zZ (k := ?_) | refine za (k := ?_) | refine zg (k := ?_)); refine zF (k := ?_); ((first | (refine zA (k := ?_); refine zF (k := ?_)) | refine zE (k := ?_) | ((refine zG (yes := (fun ht => ?_)) (no := (fun ht => ?_)) <;> (try simp at ht) <;> (try (exfalso; omega))) <;> (first | (refine zA (k := ?_); refine zF (k := ?_)) | refine zE (k := ?_))))) <;> (((first | (refine zA (k := ?_); refine zJ (k := ?_)) | refine zE (k := ?_) | ((refine zG (yes := (fun ht => ?_)) (no := (fun ht => ?_)) <;> (try simp at ht) <;> (try (exfalso; omega))) <;> (first | (refine zA (k := ?_); refine zJ (k := ?_)) | refine zE (k := ?_))))) <;> (((first | (refine zA (k := ?_); refine zB (k := ?_)) | refine zE (k := ?_) | ((refine zG (yes := (fun ht => ?_)) (no := (fun ht => ?_)) <;> (try simp at ht) <;> (try (exfalso; omega))) <;> (first | (refine zA (k := ?_); refine zB (k := ?_)) | refine zE (k := ?_))))) <;> (((first | (refine zA (k := ?_); refine zM (k := ?_)) | refine zE (k := ?_) | ((refine zG (yes := (fun ht => ?_)) (no := (fun ht => ?_)) <;> (try simp at ht) <;> (try (exfalso; omega))) <;> (first | (refine zA (k := ?_); refine zM (k := ?_)) | refine zE (k := ?_))))) <;> (((first | (refine zA (k := ?_); refine zJ (k := ?_)) | refine zE (k := ?_) | ((refine zG (yes := (fun ht => ?_)) (no := (fun ht => ?_)) <;> (try simp at ht) <;> (try (exfalso; omega))) <;> (first | (refine zA (k := ?_); refine zJ (k := ?_)) | refine zE (k := ?_))))) <;> (((first | (refine zA (k := ?_); refine zB (k := ?_)) | refine zE (k := ?_) | ((refine zG (yes := (fun ht => ?_)) (no := (fun ht => ?_)) <;> (try simp at ht) <;> (try (exfalso; omega))) <;> (first | (refine zA (k := ?_); refine zB (k := ?_)) | refine zE (k := ?_))))) <;> (((first | (refine zA (k := ?_); refine zM (k := ?_)) | refine zE (k := ?_) | ((refine zG (yes := (fun ht => ?_)) (no := (fun ht => ?_)) <;> (try simp at ht) <;> (try (exfalso; omega))) <;> (first | (refine zA (k := ?_); refine zM (k := ?_)) | refine zE (k := ?_))))) <;> (((first | (refine zA (k := ?_); refine zF (k := ?_)) | refine zE (k := ?_) | ((refine zG (yes := (fun ht => ?_)) (no := (fun ht => ?_)) <;> (try simp at ht) <;> (try (exfalso; omega))) <;> (first | (refine zA (k := ?_); refine zF (k := ?_)) | refine zE (k := ?_))))) <;> (((first | (refine zA (k := ?_); refine zJ (k := ?_)) | refine zE (k := ?_) | ((refine zG (yes := (fun ht => ?_)) (no := (fun ht => ?_)) <;> (try simp at ht) <;> (try (exfalso; omega))) <;> (first | (refine zA (k := ?_); refine zJ (k := ?_)) | refine zE (k := ?_))))) <;> (((first | (refine zA (k := ?_); refine zB (k := ?_)) | refine zE (k := ?_) | ((refine zG (yes := (fun ht => ?_)) (no := (fun ht => ?_)) <;> (try simp at ht) <;> (try (exfalso; omega))) <;> (first | (refine zA (k := ?_); refine zB (k := ?_)) | refine zE (k := ?_))))) <;> (((first | (refine zA (k := ?_); refine zM (k := ?_)) | refine zE (k := ?_) | ((refine zG (yes := (fun ht => ?_)) (no := (fun ht => ?_)) <;> (try simp at ht) <;> (try (exfalso; omega))) <;> (first | (refine zA (k := ?_); refine zM (k := ?_)) | refine zE (k := ?_))))) <;> (((first | (refine zA (k := ?_); refine z8 (k' := ?_)) | refine zE (k := ?_) | ((refine zG (yes := (fun ht => ?_)) (no := (fun ht => ?_)) <;> (try simp at ht) <;> (try (exfalso; omega))) <;> (first | (refine zA (k := ?_); refine z8 (k' := ?_)) | refine zE (k := ?_))))) <;> ((first | refine zZ (k := ?_) | refine za (k := ?_) | refine zg (k := ?_)); (refine zD (hK _ _ ?_); clear hK K)))))))))))))))))))
      | (refine zC (id := 2) ?_; intro K hK; refine zF (k := ?_); refine zH (k := ?_); (refine zD (hK _ _ ?_); clear hK K))
      | (refine zC (id := 3) ?_; intro K hK; refine zF (k := ?_); refine zJ (k := ?_); refine zB (k := ?_); refine zM (k := ?_); refine zH (k := ?_); (refine zD (hK _ _ ?_); clear hK K))
      | (refine zC (id := 4) ?_; intro K hK; refine zF (k := ?_); refine zF (k := ?_); refine zF (k := ?_); refine zJ (k := ?_); refine zB (k := ?_); refine zM (k := ?_); refine zF (k := ?_); refine zJ (k := ?_); refine zB (k := ?_); refine zy (ho := rfl) (k := ?_); refine zJ (k := ?_); refine zB (k := ?_); refine zy (ho := rfl) (k := ?_); (refine zD (hK _ _ ?_); clear hK K))
      | (refine zC (id := 5) ?_; intro K hK; refine zF (k := ?_); refine zH (k := ?_); (refine zD (hK _ _ ?_); clear hK K))
      | (refine zc (ht := (fun ht => ?_)) (hf := (fun ht => ?_)) <;> (try simp at ht) <;> (try (exfalso; omega))))
    exact ⟨Or.inr rfl, _, [TrA .nil none], tr_nil, res1 rfl rfl, none, rfl, rfl⟩
  | node l k v lv r =>
    refine yQ (fun b la ra e => ?_)
    subst e
    cases l with
    | nil =>
      refine yJ (y := TrA .nil la) (k := (yS (fun e => ?_)))
      subst e
      repeat' (first
        | refine zi ?_
        | refine zK ?_
        | refine zQ (h := ?_)
        | refine zU (h := ?_)
        | refine zj ?_
        | refine zR ?_
        | refine zW ?_
        | refine zN ?_
        | refine zV ?_
        | refine ze ?_
        | refine zP ?_
        | refine zY ?_
        | refine zS rfl ?_
        | refine zd ?_
        | refine zX ?_
        | refine zO ?_
        | refine zT ?_
        | refine zL ?_
        | (refine zC (id := 0) ?_; intro K hK; refine zH (k := ?_); (refine zD (hK _ _ ?_); clear hK K))
        | (refine z3 (id := 1) (h := ?_); intro K hK; refine zF (k := ?_); refine zf (k' := ?_); refine zF (k := ?_); ((first | (refine zA (k := ?_); refine zF (k := ?_)) | refine zE (k := ?_) | ((refine zG (yes := (fun ht => ?_)) (no := (fun ht => ?_)) <;> (try simp at ht) <;> (try (exfalso; omega))) <;> (first | (refine zA (k := ?_); refine zF (k := ?_)) | refine zE (k := ?_))))) <;> (((first | (refine zA (k := ?_); refine zJ (k := ?_)) | refine zE (k := ?_) | ((refine zG (yes := (fun ht => ?_)) (no := (fun ht => ?_)) <;> (try simp at ht) <;> (try (exfalso; omega))) <;> (first | (refine zA (k := ?_); refine zJ (k := ?_)) | refine zE (k := ?_))))) <;> (((first | (refine zA (k := ?_); refine zB (k := ?_)) | refine zE (k := ?_) | ((refine zG (yes := (fun ht => ?_)) (no := (fun ht => ?_)) <;> (try simp at ht) <;> (try (exfalso; omega))) <;> (first | (refine zA (k := ?_); refine zB (k := ?_)) | refine zE (k := ?_))))) <;> (((first | (refine zA (k := ?_); refine zM (k := ?_)) | refine zE (k := ?_) | ((refine zG (yes := (fun ht => ?_)) (no := (fun ht => ?_)) <;> (try simp at ht) <;> (try (exfalso; omega))) <;> (first | (refine zA (k := ?_); refine zM (k := ?_)) | refine zE (k := ?_))))) <;> (((first | (refine zA (k := ?_); refine zf (k' := ?_)) | refine zE (k := ?_) | ((refine zG (yes := (fun ht => ?_)) (no := (fun ht => ?_)) <;> (try simp at ht) <;> (try (exfalso; omega))) <;> (first | (refine zA (k := ?_); refine zf (k' := ?_)) | refine zE (k := ?_))))) <;> ((first | refine zZ (k := ?_) | refine za (k := ?_) | refine zg (k := ?_)); refine zF (k := ?_); ((first | (refine zA (k := ?_); refine zF (k := ?_)) | refine zE (k := ?_) | ((refine zG (yes := (fun ht => ?_)) (no := (fun ht => ?_)) <;> (try simp at ht) <;> (try (exfalso; omega))) <;> (first | (refine zA (k := ?_); refine zF (k := ?_)) | refine zE (k := ?_))))) <;> (((first | (refine zA (k := ?_); refine zJ (k := ?_)) | refine zE (k := ?_) | ((refine zG (yes := (fun ht => ?_)) (no := (fun ht => ?_)) <;> (try simp at ht) <;> (try (exfalso; omega))) <;> (first | (refine zA (k := ?_); refine zJ (k := ?_)) | refine zE (k := ?_))))) <;> (((first | (refine zA (k := ?_); refine zB (k := ?_)) | refine zE (k := ?_) | ((refine zG (yes := (fun ht => ?_)) (no := (fun ht => ?_)) <;> (try simp at ht) <;> (try (exfalso; omega))) <;> (first | (refine zA (k := ?_); refine zB (k := ?_)) | refine zE (k := ?_))))) <;> (((first | (refine zA (k := ?_); refine zM (k := ?_)) | refine zE (k := ?_) | ((refine zG (yes := (fun ht => ?_)) (no := (fun ht => ?_)) <;> (try simp at ht) <;> (try (exfalso; omega))) <;> (first | (refine zA (k := ?_); refine zM (k := ?_)) | refine zE (k := ?_))))) <;> (((first | (refine zA (k := ?_); refine zJ (k := ?_)) | refine zE (k := ?_) | ((refine zG (yes := (fun ht => ?_)) (no := (fun ht => ?_)) <;> (try simp at ht) <;> (try (exfalso; omega))) <;> (first | (refine zA (k := ?_); refine zJ (k := ?_)) | refine zE (k := ?_))))) <;> (((first | (refine zA (k := ?_); refine zB (k := ?_)) | refine zE (k := ?_) | ((refine zG (yes := (fun ht => ?_)) (no := (fun ht => ?_)) <;> (try simp at ht) <;> (try (exfalso; omega))) <;> (first | (refine zA (k := ?_); refine zB (k := ?_)) | refine zE (k := ?_))))) <;> (((first | (refine zA (k := ?_); refine zM (k := ?_)) | refine zE (k := ?_) | ((refine zG (yes := (fun ht => ?_)) (no := (fun ht => ?_)) <;> (try simp at ht) <;> (try (exfalso; omega))) <;> (first | (refine zA (k := ?_); refine zM (k := ?_)) | refine zE (k := ?_))))) <;> (((first | (refine zA (k := ?_); refine zF (k := ?_)) | refine zE (k := ?_) | ((refine zG (yes := (fun ht => ?_)) (no := (fun ht => ?_)) <;> (try simp at ht) <;> (try (exfalso; omega))) <;> (first | (refine zA (k := ?_); refine zF (k := ?_)) | refine zE (k := ?_))))) <;> (((first | (refine zA (k := ?_); refine zJ (k := ?_)) | refine zE (k := ?_) | ((refine zG (yes := (fun ht => ?_)) (no := (fun ht => ?_)) <;> (try simp at ht) <;> (try (exfalso; omega))) <;> (first | (refine zA (k := ?_); refine zJ (k := ?_)) | refine zE (k := ?_))))) <;> (((first | (refine zA (k := ?_); refine zB (k := ?_)) | refine zE (k := ?_) | ((refine zG (yes := (fun ht => ?_)) (no := (fun ht => ?_)) <;> (try simp at ht) <;> (try (exfalso; omega))) <;> (first | (refine zA (k := ?_); refine zB (k := ?_)) | refine zE (k := ?_))))) <;> (((first | (refine zA (k := ?_); refine zM (k := ?_)) | refine zE (k := ?_) | ((refine zG (yes := (fun ht => ?_)) (no := (fun ht => ?_)) <;> (try simp at ht) <;> (try (exfalso; omega))) <;> (first | (refine zA (k := ?_); refine zM (k := ?_)) | refine zE (k := ?_))))) <;> (((first | (refine zA (k := ?_); refine z8 (k' := ?_)) | refine zE (k := ?_) | ((refine zG (yes := (fun ht => ?_)) (no := (fun ht => ?_)) <;> (try simp at ht) <;> (try (exfalso; omega))) <;> (first | (refine zA (k := ?_); refine z8 (k' := ?_)) | refine zE (k := ?_))))) <;> ((first | refine zZ (k := ?_) | refine za (k := ?_) | refine zg (k := ?_)); (refine zD (hK _ _ ?_); clear hK K)))))))))))))))))))
        | (refine zC (id := 2) ?_; intro K hK; refine zF (k := ?_); refine zH (k := ?_); (refine zD (hK _ _ ?_); clear hK K))
        | (refine zC (id := 3) ?_; intro K hK; refine zF (k := ?_); refine zJ (k := ?_); refine zB (k := ?_); refine zM (k := ?_); refine zH (k := ?_); (refine zD (hK _ _ ?_); clear hK K))
        | (refine zC (id := 4) ?_; intro K hK; refine zF (k := ?_); refine zF (k := ?_); refine zF (k := ?_); refine zJ (k := ?_); refine zB (k := ?_); refine zM (k := ?_); refine zF (k := ?_); refine zJ (k := ?_); refine zB (k := ?_); refine zy (ho := rfl) (k := ?_); refine zJ (k := ?_); refine zB (k := ?_); refine zy (ho := rfl) (k := ?_); (refine zD (hK _ _ ?_); clear hK K))
        | (refine zC (id := 5) ?_; intro K hK; refine zF (k := ?_); refine zH (k := ?_); (refine zD (hK _ _ ?_); clear hK K))
        | (refine zc (ht := (fun ht => ?_)) (hf := (fun ht => ?_)) <;> (try simp at ht) <;> (try (exfalso; omega))))
      exact ⟨Or.inr rfl, _, [TrA (.node .nil k v lv r) _], tr_nil.trans (Ent_foldTr (b := b) (by (repeat (first | exact Out.head | apply Out.tail)); (first | done | fail)) (by (repeat (first | exact Out.head | apply Out.tail)); (first | done | fail)) (by (repeat (first | exact Out.head | apply Out.tail)); (first | done | fail)) (Ent.refl _)), res1 rfl rfl, _, rfl, rfl⟩
    | node ll lk lx llv lr =>
      refine yJ (y := TrA (.node ll lk lx llv lr) la) (k := (yQ (fun lb lla lra e => ?_)))
      subst e
      by_cases hlv : llv = lv
      · have hs : (Tree.node (.node ll lk lx llv lr) k v lv r).skew = .node ll lk lx llv (.node lr k v lv r) := by simp [Tree.skew, hlv]
        rw [hs]
        repeat' (first
          | refine zi ?_
          | refine zK ?_
          | refine zQ (h := ?_)
          | refine zU (h := ?_)
          | refine zj ?_
          | refine zR ?_
          | refine zW ?_
          | refine zN ?_
          | refine zV ?_
          | refine ze ?_
          | refine zP ?_
          | refine zY ?_
          | refine zS rfl ?_
          | refine zd ?_
          | refine zX ?_
          | refine zO ?_
          | refine zT ?_
          | refine zL ?_
          | (refine zC (id := 0) ?_; intro K hK; refine zH (k := ?_); (refine zD (hK _ _ ?_); clear hK K))
          | (refine z3 (id := 1) (h := ?_); intro K hK; refine zF (k := ?_); refine zf (k' := ?_); refine zF (k := ?_); ((first | (refine zA (k := ?_); refine zF (k := ?_)) | refine zE (k := ?_) | ((refine zG (yes := (fun ht => ?_)) (no := (fun ht => ?_)) <;> (try simp at ht) <;> (try (exfalso; omega))) <;> (first | (refine zA (k := ?_); refine zF (k := ?_)) | refine zE (k := ?_))))) <;> (((first | (refine zA (k := ?_); refine zJ (k := ?_)) | refine zE (k := ?_) | ((refine zG (yes := (fun ht => ?_)) (no := (fun ht => ?_)) <;> (try simp at ht) <;> (try (exfalso; omega))) <;> (first | (refine zA (k := ?_); refine zJ (k := ?_)) | refine zE (k := ?_))))) <;> (((first | (refine zA (k := ?_); refine zB (k := ?_)) | refine zE (k := ?_) | ((refine zG (yes := (fun ht => ?_)) (no := (fun ht => ?_)) <;> (try simp at ht) <;> (try (exfalso; omega))) <;> (first | (refine zA (k := ?_); refine zB (k := ?_)) | refine zE (k := ?_))))) <;> (((first | (refine zA (k := ?_); refine zM (k := ?_)) | refine zE (k := ?_) | ((refine zG (yes := (fun ht => ?_)) (no := (fun ht => ?_)) <;> (try simp at ht) <;> (try (exfalso; omega))) <;> (first | (refine zA (k := ?_); refine zM (k := ?_)) | refine zE (k := ?_))))) <;> (((first | (refine zA (k := ?_); refine zf (k' := ?_)) | refine zE (k := ?_) | ((refine zG (yes := (fun ht => ?_)) (no := (fun ht => ?_)) <;> (try simp at ht) <;> (try (exfalso; omega))) <;> (first | (refine zA (k := ?_); refine zf (k' := ?_)) | refine zE (k := ?_))))) <;> ((first | refine zZ (k := ?_) | refine za (k := ?_) | refine zg (k := ?_)); refine zF (k := ?_); ((first | (refine zA (k := ?_); refine zF (k := ?_)) | refine zE (k := ?_) | ((refine zG (yes := (fun ht => ?_)) (no := (fun ht => ?_)) <;> (try simp at ht) <;> (try (exfalso; omega))) <;> (first | (refine zA (k := ?_); refine zF (k := ?_)) | refine zE (k := ?_))))) <;> (((first | (refine zA (k := ?_); refine zJ (k := ?_)) | refine zE (k := ?_) | ((refine zG (yes := (fun ht => ?_)) (no := (fun ht => ?_)) <;> (try simp at ht) <;> (try (exfalso; omega))) <;> (first | (refine zA (k := ?_); refine zJ (k := ?_)) | refine zE (k := ?_))))) <;> (((first | (refine zA (k := ?_); refine zB (k := ?_)) | refine zE (k := ?_) | ((refine zG (yes := (fun ht => ?_)) (no := (fun ht => ?_)) <;> (try simp at ht) <;> (try (exfalso; omega))) <;> (first | (refine zA (k := ?_); refine zB (k := ?_)) | refine zE (k := ?_))))) <;> (((first | (refine zA (k := ?_); refine zM (k := ?_)) | refine zE (k := ?_) | ((refine zG (yes := (fun ht => ?_)) (no := (fun ht => ?_)) <;> (try simp at ht) <;> (try (exfalso; omega))) <;> (first | (refine zA (k := ?_); refine zM (k := ?_)) | refine zE (k := ?_))))) <;> (((first | (refine zA (k := ?_); refine zJ (k := ?_)) | refine zE (k := ?_) | ((refine zG (yes := (fun ht => ?_)) (no := (fun ht => ?_)) <;> (try simp at ht) <;> (try (exfalso; omega))) <;> (first | (refine zA (k := ?_); refine zJ (k := ?_)) | refine zE (k := ?_))))) <;> (((first | (refine zA (k := ?_); refine zB (k := ?_)) | refine zE (k := ?_) | ((refine zG (yes := (fun ht => ?_)) (no := (fun ht => ?_)) <;> (try simp at ht) <;> (try (exfalso; omega))) <;> (first | (refine zA (k := ?_); refine zB (k := ?_)) | refine zE (k := ?_))))) <;> (((first | (refine zA (k := ?_); refine zM (k := ?_)) | refine zE (k := ?_) | ((refine zG (yes := (fun ht => ?_)) (no := (fun ht => ?_)) <;> (try simp at ht) <;> (try (exfalso; omega))) <;> (first | (refine zA (k := ?_); refine zM (k := ?_)) | refine zE (k := ?_))))) <;> (((first | (refine zA (k := ?_); refine zF (k := ?_)) | refine zE (k := ?_) | ((refine zG (yes := (fun ht => ?_)) (no := (fun ht => ?_)) <;> (try simp at ht) <;> (try (exfalso; omega))) <;> (first | (refine zA (k := ?_); refine zF (k := ?_)) | refine zE (k := ?_))))) <;> (((first | (refine zA (k := ?_); refine zJ (k := ?_)) | refine zE (k := ?_) | ((refine zG (yes := (fun ht => ?_)) (no := (fun ht => ?_)) <;> (try simp at ht) <;> (try (exfalso; omega))) <;> (first | (refine zA (k := ?_); refine zJ (k := ?_)) | refine zE (k := ?_))))) <;> (((first | (refine zA (k := ?_); refine zB (k := ?_)) | refine zE (k := ?_) | ((refine zG (yes := (fun ht => ?_)) (no := (fun ht => ?_)) <;> (try simp at ht) <;> (try (exfalso; omega))) <;> (first | (refine zA (k := ?_); refine zB (k := ?_)) | refine zE (k := ?_))))) <;> (((first | (refine zA (k := ?_); refine zM (k := ?_)) | refine zE (k := ?_) | ((refine zG (yes := (fun ht => ?_)) (no := (fun ht => ?_)) <;> (try simp at ht) <;> (try (exfalso; omega))) <;> (first | (refine zA (k := ?_); refine zM (k := ?_)) | refine zE (k := ?_))))) <;> (((first | (refine zA (k := ?_); refine z8 (k' := ?_)) | refine zE (k := ?_) | ((refine zG (yes := (fun ht => ?_)) (no := (fun ht => ?_)) <;> (try simp at ht) <;> (try (exfalso; omega))) <;> (first | (refine zA (k := ?_); refine z8 (k' := ?_)) | refine zE (k := ?_))))) <;> ((first | refine zZ (k := ?_) | refine za (k := ?_) | refine zg (k := ?_)); (refine zD (hK _ _ ?_); clear hK K)))))))))))))))))))
          | (refine zC (id := 2) ?_; intro K hK; refine zF (k := ?_); refine zH (k := ?_); (refine zD (hK _ _ ?_); clear hK K))
          | (refine zC (id := 3) ?_; intro K hK; refine zF (k := ?_); refine zJ (k := ?_); refine zB (k := ?_); refine zM (k := ?_); refine zH (k := ?_); (refine zD (hK _ _ ?_); clear hK K))
          | (refine zC (id := 4) ?_; intro K hK; refine zF (k := ?_); refine zF (k := ?_); refine zF (k := ?_); refine zJ (k := ?_); refine zB (k := ?_); refine zM (k := ?_); refine zF (k := ?_); refine zJ (k := ?_); refine zB (k := ?_); refine zy (ho := rfl) (k := ?_); refine zJ (k := ?_); refine zB (k := ?_); refine zy (ho := rfl) (k := ?_); (refine zD (hK _ _ ?_); clear hK K))
          | (refine zC (id := 5) ?_; intro K hK; refine zF (k := ?_); refine zH (k := ?_); (refine zD (hK _ _ ?_); clear hK K))
          | (refine zc (ht := (fun ht => ?_)) (hf := (fun ht => ?_)) <;> (try simp at ht) <;> (try (exfalso; omega))))
        exact ⟨Or.inr rfl, _, [TrA _ (some ⟨lb, 0, none⟩)], Ent_foldTr (b := b) (by (repeat (first | exact Out.head | apply Out.tail)); (first | done | fail)) (by (repeat (first | exact Out.head | apply Out.tail)); (first | done | fail)) (by (repeat (first | exact Out.head | apply Out.tail)); (first | done | fail)) (Ent_foldTr (b := lb) (by (repeat (first | exact Out.head | apply Out.tail)); (first | done | fail)) (by (repeat (first | exact Out.head | apply Out.tail)); (first | done | fail)) (by (repeat (first | exact Out.head | apply Out.tail)); (first | done | fail)) (Ent.refl _)), res1 rfl rfl, _, rfl, rfl⟩
      · have hs : (Tree.node (.node ll lk lx llv lr) k v lv r).skew = .node (.node ll lk lx llv lr) k v lv r := by simp [Tree.skew, hlv]
        rw [hs]
        repeat' (first
          | refine zi ?_
          | refine zK ?_
          | refine zQ (h := ?_)
          | refine zU (h := ?_)
          | refine zj ?_
          | refine zR ?_
          | refine zW ?_
          | refine zN ?_
          | refine zV ?_
          | refine ze ?_
          | refine zP ?_
          | refine zY ?_
          | refine zS rfl ?_
          | refine zd ?_
          | refine zX ?_
          | refine zO ?_
          | refine zT ?_
          | refine zL ?_
          | (refine zC (id := 0) ?_; intro K hK; refine zH (k := ?_); (refine zD (hK _ _ ?_); clear hK K))
          | (refine z3 (id := 1) (h := ?_); intro K hK; refine zF (k := ?_); refine zf (k' := ?_); refine zF (k := ?_); ((first | (refine zA (k := ?_); refine zF (k := ?_)) | refine zE (k := ?_) | ((refine zG (yes := (fun ht => ?_)) (no := (fun ht => ?_)) <;> (try simp at ht) <;> (try (exfalso; omega))) <;> (first | (refine zA (k := ?_); refine zF (k := ?_)) | refine zE (k := ?_))))) <;> (((first | (refine zA (k := ?_); refine zJ (k := ?_)) | refine zE (k := ?_) | ((refine zG (yes := (fun ht => ?_)) (no := (fun ht => ?_)) <;> (try simp at ht) <;> (try (exfalso; omega))) <;> (first | (refine zA (k := ?_); refine zJ (k := ?_)) | refine zE (k := ?_))))) <;> (((first | (refine zA (k := ?_); refine zB (k := ?_)) | refine zE (k := ?_) | ((refine zG (yes := (fun ht => ?_)) (no := (fun ht => ?_)) <;> (try simp at ht) <;> (try (exfalso; omega))) <;> (first | (refine zA (k := ?_); refine zB (k := ?_)) | refine zE (k := ?_))))) <;> (((first | (refine zA (k := ?_); refine zM (k := ?_)) | refine zE (k := ?_) | ((refine zG (yes := (fun ht => ?_)) (no := (fun ht => ?_)) <;> (try simp at ht) <;> (try (exfalso; omega))) <;> (first | (refine zA (k := ?_); refine zM (k := ?_)) | refine zE (k := ?_))))) <;> (((first | (refine zA (k := ?_); refine zf (k' := ?_)) | refine zE (k := ?_) | ((refine zG (yes := (fun ht => ?_)) (no := (fun ht => ?_)) <;> (try simp at ht) <;> (try (exfalso; omega))) <;> (first | (refine zA (k := ?_); refine zf (k' := ?_)) | refine zE (k := ?_))))) <;> ((first | refine zZ (k := ?_) | refine za (k := ?_) | refine zg (k := ?_)); refine zF (k := ?_); ((first | (refine zA (k := ?_); refine zF (k := ?_)) | refine zE (k := ?_) | ((refine zG (yes := (fun ht => ?_)) (no := (fun ht => ?_)) <;> (try simp at ht) <;> (try (exfalso; omega))) <;> (first | (refine zA (k := ?_); refine zF (k := ?_)) | refine zE (k := ?_))))) <;> (((first | (refine zA (k := ?_); refine zJ (k := ?_)) | refine zE (k := ?_) | ((refine zG (yes := (fun ht => ?_)) (no := (fun ht => ?_)) <;> (try simp at ht) <;> (try (exfalso; omega))) <;> (first | (refine zA (k := ?_); refine zJ (k := ?_)) | refine zE (k := ?_))))) <;> (((first | (refine zA (k := ?_); refine zB (k := ?_)) | refine zE (k := ?_) | ((refine zG (yes := (fun ht => ?_)) (no := (fun ht => ?_)) <;> (try simp at ht) <;> (try (exfalso; omega))) <;> (first | (refine zA (k := ?_); refine zB (k := ?_)) | refine zE (k := ?_))))) <;> (((first | (refine zA (k := ?_); refine zM (k := ?_)) | refine zE (k := ?_) | ((refine zG (yes := (fun ht => ?_)) (no := (fun ht => ?_)) <;> (try simp at ht) <;> (try (exfalso; omega))) <;> (first | (refine zA (k := ?_); refine zM (k := ?_)) | refine zE (k := ?_))))) <;> (((first | (refine zA (k := ?_); refine zJ (k := ?_)) | refine zE (k := ?_) | ((refine zG (yes := (fun ht => ?_)) (no := (fun ht => ?_)) <;> (try simp at ht) <;> (try (exfalso; omega))) <;> (first | (refine zA (k := ?_); refine zJ (k := ?_)) | refine zE (k := ?_))))) <;> (((first | (refine zA (k := ?_); refine zB (k := ?_)) | refine zE (k := ?_) | ((refine zG (yes := (fun ht => ?_)) (no := (fun ht => ?_)) <;> (try simp at ht) <;> (try (exfalso; omega))) <;> (first | (refine zA (k := ?_); refine zB (k := ?_)) | refine zE (k := ?_))))) <;> (((first | (refine zA (k := ?_); refine zM (k := ?_)) | refine zE (k := ?_) | ((refine zG (yes := (fun ht => ?_)) (no := (fun ht => ?_)) <;> (try simp at ht) <;> (try (exfalso; omega))) <;> (first | (refine zA (k := ?_); refine zM (k := ?_)) | refine zE (k := ?_))))) <;> (((first | (refine zA (k := ?_); refine zF (k := ?_)) | refine zE (k := ?_) | ((refine zG (yes := (fun ht => ?_)) (no := (fun ht => ?_)) <;> (try simp at ht) <;> (try (exfalso; omega))) <;> (first | (refine zA (k := ?_); refine zF (k := ?_)) | refine zE (k := ?_))))) <;> (((first | (refine zA (k := ?_); refine zJ (k := ?_)) | refine zE (k := ?_) | ((refine zG (yes := (fun ht => ?_)) (no := (fun ht => ?_)) <;> (try simp at ht) <;> (try (exfalso; omega))) <;> (first | (refine zA (k := ?_); refine zJ (k := ?_)) | refine zE (k := ?_))))) <;> (((first | (refine zA (k := ?_); refine zB (k := ?_)) | refine zE (k := ?_) | ((refine zG (yes := (fun ht => ?_)) (no := (fun ht => ?_)) <;> (try simp at ht) <;> (try (exfalso; omega))) <;> (first | (refine zA (k := ?_); refine zB (k := ?_)) | refine zE (k := ?_))))) <;> (((first | (refine zA (k := ?_); refine zM (k := ?_)) | refine zE (k := ?_) | ((refine zG (yes := (fun ht => ?_)) (no := (fun ht => ?_)) <;> (try simp at ht) <;> (try (exfalso; omega))) <;> (first | (refine zA (k := ?_); refine zM (k := ?_)) | refine zE (k := ?_))))) <;> (((first | (refine zA (k := ?_); refine z8 (k' := ?_)) | refine zE (k := ?_) | ((refine zG (yes := (fun ht => ?_)) (no := (fun ht => ?_)) <;> (try simp at ht) <;> (try (exfalso; omega))) <;> (first | (refine zA (k := ?_); refine z8 (k' := ?_)) | refine zE (k := ?_))))) <;> ((first | refine zZ (k := ?_) | refine za (k := ?_) | refine zg (k := ?_)); (refine zD (hK _ _ ?_); clear hK K)))))))))))))))))))
          | (refine zC (id := 2) ?_; intro K hK; refine zF (k := ?_); refine zH (k := ?_); (refine zD (hK _ _ ?_); clear hK K))
          | (refine zC (id := 3) ?_; intro K hK; refine zF (k := ?_); refine zJ (k := ?_); refine zB (k := ?_); refine zM (k := ?_); refine zH (k := ?_); (refine zD (hK _ _ ?_); clear hK K))
          | (refine zC (id := 4) ?_; intro K hK; refine zF (k := ?_); refine zF (k := ?_); refine zF (k := ?_); refine zJ (k := ?_); refine zB (k := ?_); refine zM (k := ?_); refine zF (k := ?_); refine zJ (k := ?_); refine zB (k := ?_); refine zy (ho := rfl) (k := ?_); refine zJ (k := ?_); refine zB (k := ?_); refine zy (ho := rfl) (k := ?_); (refine zD (hK _ _ ?_); clear hK K))
          | (refine zC (id := 5) ?_; intro K hK; refine zF (k := ?_); refine zH (k := ?_); (refine zD (hK _ _ ?_); clear hK K))
          | (refine zc (ht := (fun ht => ?_)) (hf := (fun ht => ?_)) <;> (try simp at ht) <;> (try (exfalso; omega))))
        exact ⟨Or.inr rfl, _, [TrA _ (some ⟨b, 0, none⟩)], Ent_foldTr (b := lb) (by (repeat (first | exact Out.head | apply Out.tail)); (first | done | fail)) (by (repeat (first | exact Out.head | apply Out.tail)); (first | done | fail)) (by (repeat (first | exact Out.head | apply Out.tail)); (first | done | fail)) (Ent_foldTr (b := b) (by (repeat (first | exact Out.head | apply Out.tail)); (first | done | fail)) (by (repeat (first | exact Out.head | apply Out.tail)); (first | done | fail)) (by (repeat (first | exact Out.head | apply Out.tail)); (first | done | fail)) (Ent.refl _)), res1 rfl rfl, _, rfl, rfl⟩
theorem split_spec (t : Tree) (a : Option Addr) (N : Int) (hN : N ≤ 4611686018427387904) (ht : t.LB N) :
    Fspec Tryz.prog B 115 #[.pointer a] [TrA t a] (fun v A' => ∃ a', v = .pointer a' ∧ A' = [TrA t.split a']) := by
  refine spec_of (args := [_]) Tryz.func115 rfl rfl rfl ?_
  cases t with
  | nil =>
    refine yS (fun e => ?_)
    subst e
    repeat' (first
      | refine zi ?_
      | refine zK ?_
      | refine zQ (h := ?_)
      | refine zU (h := ?_)
      | refine zj ?_
      | refine zR ?_
      | refine zW ?_
      | refine zN ?_
      | refine zV ?_
      | refine ze ?_
      | refine zP ?_
      | refine zY ?_
      | refine zS rfl ?_
      | refine zd ?_
      | refine zX ?_
      | refine zO ?_
      | refine zT ?_
      | refine zL ?_
      | (refine zC (id := 0) ?_; intro K hK; refine zH (k := ?_); (refine zD (hK _ _ ?_); clear hK K))
      | (refine z3 (id := 1) (h := ?_); intro K hK; refine zF (k := ?_); refine zf (k' := ?_); refine zF (k := ?_); ((first | (refine zA (k := ?_); refine zF (k := ?_)) | refine zE (k := ?_) | ((refine zG (yes := (fun ht => ?_)) (no := (fun ht => ?_)) <;> (try simp at ht) <;> (try (exfalso; omega))) <;> (first | (refine zA (k := ?_); refine zF (k := ?_)) | refine zE (k := ?_))))) <;> (((first | (refine zA (k := ?_); refine zJ (k := ?_)) | refine zE (k := ?_) | ((refine zG (yes := (fun ht => ?_)) (no := (fun ht => ?_)) <;> (try simp at ht) <;> (try (exfalso; omega))) <;> (first | (refine zA (k := ?_); refine zJ (k := ?_)) | refine zE (k := ?_))))) <;> (((first | (refine zA (k := ?_); refine zB (k := ?_)) | refine zE (k := ?_) | ((refine zG (yes := (fun ht => ?_)) (no := (fun ht => ?_)) <;> (try simp at ht) <;> (try (exfalso; omega))) <;> (first | (refine zA (k := ?_); refine zB (k := ?_)) | refine zE (k := ?_))))) <;> (((first | (refine zA (k := ?_); refine zM (k := ?_)) | refine zE (k := ?_) | ((refine zG (yes := (fun ht => ?_)) (no := (fun ht => ?_)) <;> (try simp at ht) <;> (try (exfalso; omega))) <;> (first | (refine zA (k := ?_); refine zM (k := ?_)) | refine zE (k := ?_))))) <;> (((first | (refine zA (k := ?_); refine zf (k' := ?_)) | refine zE (k := ?_) | ((refine zG (yes := (fun ht => ?_)) (no := (fun ht => ?_)) <;> (try simp at ht) <;> (try (exfalso; omega))) <;> (first | (refine zA (k := ?_); refine zf (k' := ?_)) | refine zE (k := ?_))))) <;> ((first | refine zZ (k := ?_) | refine za (k := ?_) | refine zg (k := ?_)); refine zF (k := ?_); ((first | (refine zA (k := ?_); refine zF (k := ?_)) | refine zE (k := ?_) | ((refine zG (yes := (fun ht => ?_)) (no := (fun ht => ?_)) <;> (try simp at ht) <;> (try (exfalso; omega))) <;> (first | (refine zA (k := ?_); refine zF (k := ?_)) | refine zE (k := ?_))))) <;> (((first | (refine zA (k := ?_); refine zJ (k := ?_)) | refine zE (k := ?_) | ((refine zG (yes := (fun ht => ?_)) (no := (fun ht => ?_)) <;> (try simp at ht) <;> (try (exfalso; omega))) <;> (first | (refine zA (k := ?_); refine zJ (k := ?_)) | refine zE (k := ?_))))) <;> (((first | (refine zA (k := ?_); refine zB (k := ?_)) | refine zE (k := ?_) | ((refine zG (yes := (fun ht => ?_)) (no := (fun ht => ?_)) <;> (try simp at ht) <;> (try (exfalso; omega))) <;> (first | (refine zA (k := ?_); refine zB (k := ?_)) | refine zE (k := ?_))))) <;> (((first | (refine zA (k := ?_); refine zM (k := ?_)) | refine zE (k := ?_) | ((refine zG (yes := (fun ht => ?_)) (no := (fun ht => ?_)) <;> (try simp at ht) <;> (try (exfalso; omega))) <;> (first | (refine zA (k := ?_); refine zM (k := ?_)) | refine zE (k := ?_))))) <;> (((first | (refine zA (k := ?_); refine zJ (k := ?_)) | refine zE (k := ?_) | ((refine zG (yes := (fun ht => ?_)) (no := (fun ht => ?_)) <;> (try simp at ht) <;> (try (exfalso; omega))) <;> (first | (refine zA (k := ?_); refine zJ (k := ?_)) | refine zE (k := ?_))))) <;> (((first | (refine zA (k := ?_); refine zB (k := ?_)) | refine zE (k := ?_) | ((refine zG (yes := (fun ht => ?_)) (no := (fun ht => ?_)) <;> (try simp at ht) <;> (try (exfalso; omega))) <;> (first | (refine zA (k := ?_); refine zB (k := ?_)) | refine zE (k := ?_))))) <;> (((first | (refine zA (k := ?_); refine zM (k := ?_)) | refine zE (k := ?_) | ((refine zG (yes := (fun ht => ?_)) (no := (fun ht => ?_)) <;> (try simp at ht) <;> (try (exfalso; omega))) <;> (first | (refine zA (k := ?_); refine zM (k := ?_)) | refine zE (k := ?_))))) <;> (((first | (refine zA (k := ?_); refine zf (k' := ?_)) | refine zE (k := ?_) | ((refine zG (yes := (fun ht => ?_)) (no := (fun ht => ?_)) <;> (try simp at ht) <;> (try (exfalso; omega))) <;> (first | (refine zA (k := ?_); refine zf (k' := ?_)) | refine zE (k := ?_))))) <;> ((first | refine zZ (k := ?_) | refine za (k := ?_) | refine zg (k := ?_)); refine zF (k := ?_); ((first | (refine zA (k := ?_); refine zF (k := ?_)) | refine zE (k := ?_) | ((refine zG (yes := (fun ht => ?_)) (no := (fun ht => ?_)) <;> (try simp at ht) <;> (try (exfalso; omega))) <;> (first | (refine zA (k := ?_); refine zF (k := ?_)) | refine zE (k := ?_))))) <;> (((first | (refine zA (k := ?_); refine zJ (k := ?_)) | refine zE (k := ?_) | ((refine zG (yes := (fun ht => ?_)) (no := (fun ht => ?_)) <;> (try simp at ht) <;> (try (exfalso; omega))) <;> (first | (refine zA (k := ?_); refine zJ (k := ?_)) | refine zE (k := ?_))))) <;> (((first | (refine zA (k := ?_); refine zB (k := ?_)) | refine zE (k := ?_) | ((refine zG (yes := (fun ht => ?_)) (no := (fun ht => ?_)) <;> (try simp at ht) <;> (try (exfalso; omega))) <;> (first | (refine zA (k := ?_); refine zB (k := ?_)) | refine zE (k := ?_))))) <;> (((first | (refine zA (k := ?_); refine zM (k := ?_)) | refine zE (k := ?_) | ((refine zG (yes := (fun ht => ?_)) (no := (fun ht => ?_)) <;> (try simp at ht) <;> (try (exfalso; omega))) <;> (first | (refine zA (k := ?_); refine zM (k := ?_)) | refine zE (k := ?_))))) <;> (((first | (refine zA (k := ?_); refine zJ (k := ?_)) | refine zE (k := ?_) | ((refine zG (yes := (fun ht => ?_)) (no := (fun ht => ?_)) <;> (try simp at ht) <;> (try (exfalso; omega))) <;> (first | (refine zA (k := ?_); refine zJ (k := ?_)) | refine zE (k := ?_))))) <;> (((first | (refine zA (k := ?_); refine zB (k := ?_)) | refine zE (k := ?_) | ((refine zG (yes := (fun ht => ?_)) (no := (fun ht => ?_)) <;> (try simp at ht) <;> (try (exfalso; omega))) <;> (first | (refine zA (k := ?_); refine zB (k := ?_)) | refine zE (k := ?_))))) <;> (((first | (refine zA (k := ?_); refine zM (k := ?_)) | refine zE (k := ?_) | ((refine zG (yes := (fun ht => ?_)) (no := (fun ht => ?_)) <;> (try simp at ht) <;> (try (exfalso; omega))) <;> (first | (refine zA (k := ?_); refine zM (k := ?_)) | refine zE (k := ?_))))) <;> (((first | (refine zA (k := ?_); refine zJ (k := ?_)) | refine zE (k := ?_) | ((refine zG (yes := (fun ht => ?_)) (no := (fun ht => ?_)) <;> (try simp at ht) <;> (try (exfalso; omega))) <;> (first | (refine zA (k := ?_); refine zJ (k := ?_)) | refine zE (k := ?_))))) <;> (((first | (refine zA (k := ?_); refine zB (k := ?_)) | refine zE (k := ?_) | ((refine zG (yes := (fun ht => ?_)) (no := (fun ht => ?_)) <;> (try simp at ht) <;> (try (exfalso; omega))) <;> (first | (refine zA (k := ?_); refine zB (k := ?_)) | refine zE (k := ?_))))) <;> (((first | (refine zA (k := ?_); refine zM (k := ?_)) | refine zE (k := ?_) | ((refine zG (yes := (fun ht => ?_)) (no := (fun ht => ?_)) <;> (try simp at ht) <;> (try (exfalso; omega))) <;> (first | (refine zA (k := ?_); refine zM (k := ?_)) | refine zE (k := ?_))))) <;> (((first | (refine zA (k := ?_); refine zF (k := ?_)) | refine zE (k := ?_) | ((refine zG (yes := (fun ht => ?_)) (no := (fun ht => ?_)) <;> (try simp at ht) <;> (try (exfalso; omega))) <;> (first | (refine zA (k := ?_); refine zF (k := ?_)) | refine zE (k := ?_))))) <;> (((first | (refine zA (k := ?_); refine zJ (k := ?_)) | refine zE (k := ?_) | ((refine zG (yes := (fun ht => ?_)) (no := (fun ht => ?_)) <;> (try simp at ht) <;> (try (exfalso; omega))) <;> (first | (refine zA (k := ?_); refine zJ (k := ?_)) | refine zE (k := ?_))))) <;> (((first | (refine zA (k := ?_); refine zB (k := ?_)) | refine zE (k := ?_) | ((refine zG (yes := (fun ht => ?_)) (no := (fun ht => ?_)) <;> (try simp at ht) <;> (try (exfalso; omega))) <;> (first | (refine zA (k := ?_); refine zB (k := ?_)) | refine zE (k := ?_))))) <;> (((first | (refine zA (k := ?_); refine zM (k := ?_)) | refine zE (k := ?_) | ((refine zG (yes := (fun ht => ?_)) (no := (fun ht => ?_)) <;> (try simp at ht) <;> (try (exfalso; omega))) <;> (first | (refine zA (k := ?_); refine zM (k := ?_)) | refine zE (k := ?_))))) <;> (((first | (refine zA (k := ?_); refine z8 (k' := ?_)) | refine zE (k := ?_) | ((refine zG (yes := (fun ht => ?_)) (no := (fun ht => ?_)) <;> (try simp at ht) <;> (try (exfalso; omega))) <;> (first | (refine zA (k := ?_); refine z8 (k' := ?_)) | refine zE (k := ?_))))) <;> ((first | refine zZ (k := ?_) | refine za (k := ?_) | refine zg (k := ?_)); (refine zD (hK _ _ ?_); clear hK K))))))))))))))))))))))))))))))
      | (refine zC (id := 2) ?_; intro K hK; refine zF (k := ?_); refine zH (k := ?_); (refine zD (hK _ _ ?_); clear hK K))
      | (refine zC (id := 3) ?_; intro K hK; refine zF (k := ?_); refine zJ (k := ?_); refine zB (k := ?_); refine zM (k := ?_); refine zH (k := ?_); (refine zD (hK _ _ ?_); clear hK K))
      | (refine zC (id := 4) ?_; intro K hK; refine zF (k := ?_); refine zF (k := ?_); refine zF (k := ?_); refine zJ (k := ?_); refine zB (k := ?_); refine zM (k := ?_); refine zF (k := ?_); refine zJ (k := ?_); refine zB (k := ?_); refine zy (ho := rfl) (k := ?_); refine zJ (k := ?_); refine zB (k := ?_); refine zy (ho := rfl) (k := ?_); (refine zD (hK _ _ ?_); clear hK K))
      | (refine zC (id := 5) ?_; intro K hK; refine zF (k := ?_); refine zJ (k := ?_); refine zB (k := ?_); refine zM (k := ?_); refine zl (k' := ?_); refine zJ (k := ?_); refine zB (k := ?_); refine zy (ho := rfl) (k := ?_); (refine zD (hK _ _ ?_); clear hK K))
      | (refine zC (id := 6) ?_; intro K hK; refine zF (k := ?_); refine zH (k := ?_); (refine zD (hK _ _ ?_); clear hK K))
      | (refine zc (ht := (fun ht => ?_)) (hf := (fun ht => ?_)) <;> (try simp at ht) <;> (try (exfalso; omega))))
    exact ⟨Or.inr rfl, _, [TrA .nil none], tr_nil, res1 rfl rfl, none, rfl, rfl⟩
  | node l k v lv r =>
    refine yQ (fun b la ra e => ?_)
    subst e
    cases r with
    | nil =>
      refine yJ (y := TrA .nil ra) (k := (yS (fun e => ?_)))
      subst e
      repeat' (first
        | refine zi ?_
        | refine zK ?_
        | refine zQ (h := ?_)
        | refine zU (h := ?_)
        | refine zj ?_
        | refine zR ?_
        | refine zW ?_
        | refine zN ?_
        | refine zV ?_
        | refine ze ?_
        | refine zP ?_
        | refine zY ?_
        | refine zS rfl ?_
        | refine zd ?_
        | refine zX ?_
        | refine zO ?_
        | refine zT ?_
        | refine zL ?_
        | (refine zC (id := 0) ?_; intro K hK; refine zH (k := ?_); (refine zD (hK _ _ ?_); clear hK K))
        | (refine z3 (id := 1) (h := ?_); intro K hK; refine zF (k := ?_); refine zf (k' := ?_); refine zF (k := ?_); ((first | (refine zA (k := ?_); refine zF (k := ?_)) | refine zE (k := ?_) | ((refine zG (yes := (fun ht => ?_)) (no := (fun ht => ?_)) <;> (try simp at ht) <;> (try (exfalso; omega))) <;> (first | (refine zA (k := ?_); refine zF (k := ?_)) | refine zE (k := ?_))))) <;> (((first | (refine zA (k := ?_); refine zJ (k := ?_)) | refine zE (k := ?_) | ((refine zG (yes := (fun ht => ?_)) (no := (fun ht => ?_)) <;> (try simp at ht) <;> (try (exfalso; omega))) <;> (first | (refine zA (k := ?_); refine zJ (k := ?_)) | refine zE (k := ?_))))) <;> (((first | (refine zA (k := ?_); refine zB (k := ?_)) | refine zE (k := ?_) | ((refine zG (yes := (fun ht => ?_)) (no := (fun ht => ?_)) <;> (try simp at ht) <;> (try (exfalso; omega))) <;> (first | (refine zA (k := ?_); refine zB (k := ?_)) | refine zE (k := ?_))))) <;> (((first | (refine zA (k := ?_); refine zM (k := ?_)) | refine zE (k := ?_) | ((refine zG (yes := (fun ht => ?_)) (no := (fun ht => ?_)) <;> (try simp at ht) <;> (try (exfalso; omega))) <;> (first | (refine zA (k := ?_); refine zM (k := ?_)) | refine zE (k := ?_))))) <;> (((first | (refine zA (k := ?_); refine zf (k' := ?_)) | refine zE (k := ?_) | ((refine zG (yes := (fun ht => ?_)) (no := (fun ht => ?_)) <;> (try simp at ht) <;> (try (exfalso; omega))) <;> (first | (refine zA (k := ?_); refine zf (k' := ?_)) | refine zE (k := ?_))))) <;> ((first | refine zZ (k := ?_) | refine za (k := ?_) | refine zg (k := ?_)); refine zF (k := ?_); ((first | (refine zA (k := ?_); refine zF (k := ?_)) | refine zE (k := ?_) | ((refine zG (yes := (fun ht => ?_)) (no := (fun ht => ?_)) <;> (try simp at ht) <;> (try (exfalso; omega))) <;> (first | (refine zA (k := ?_); refine zF (k := ?_)) | refine zE (k := ?_))))) <;> (((first | (refine zA (k := ?_); refine zJ (k := ?_)) | refine zE (k := ?_) | ((refine zG (yes := (fun ht => ?_)) (no := (fun ht => ?_)) <;> (try simp at ht) <;> (try (exfalso; omega))) <;> (first | (refine zA (k := ?_); refine zJ (k := ?_)) | refine zE (k := ?_))))) <;> (((first | (refine zA (k := ?_); refine zB (k := ?_)) | refine zE (k := ?_) | ((refine zG (yes := (fun ht => ?_)) (no := (fun ht => ?_)) <;> (try simp at ht) <;> (try (exfalso; omega))) <;> (first | (refine zA (k := ?_); refine zB (k := ?_)) | refine zE (k := ?_))))) <;> (((first | (refine zA (k := ?_); refine zM (k := ?_)) | refine zE (k := ?_) | ((refine zG (yes := (fun ht => ?_)) (no := (fun ht => ?_)) <;> (try simp at ht) <;> (try (exfalso; omega))) <;> (first | (refine zA (k := ?_); refine zM (k := ?_)) | refine zE (k := ?_))))) <;> (((first | (refine zA (k := ?_); refine zJ (k := ?_)) | refine zE (k := ?_) | ((refine zG (yes := (fun ht => ?_)) (no := (fun ht => ?_)) <;> (try simp at ht) <;> (try (exfalso; omega))) <;> (first | (refine zA (k := ?_); refine zJ (k := ?_)) | refine zE (k := ?_))))) <;> (((first | (refine zA (k := ?_); refine zB (k := ?_)) | refine zE (k := ?_) | ((refine zG (yes := (fun ht => ?_)) (no := (fun ht => ?_)) <;> (try simp at ht) <;> (try (exfalso; omega))) <;> (first | (refine zA (k := ?_); refine zB (k := ?_)) | refine zE (k := ?_))))) <;> (((first | (refine zA (k := ?_); refine zM (k := ?_)) | refine zE (k := ?_) | ((refine zG (yes := (fun ht => ?_)) (no := (fun ht => ?_)) <;> (try simp at ht) <;> (try (exfalso; omega))) <;> (first | (refine zA (k := ?_); refine zM (k := ?_)) | refine zE (k := ?_))))) <;> (((first | (refine zA (k := ?_); refine zf (k' := ?_)) | refine zE (k := ?_) | ((refine zG (yes := (fun ht => ?_)) (no := (fun ht => ?_)) <;> (try simp at ht) <;> (try (exfalso; omega))) <;> (first | (refine zA (k := ?_); refine zf (k' := ?_)) | refine zE (k := ?_))))) <;> ((first | refine zZ (k := ?_) | refine za (k := ?_) | refine zg (k := ?_)); refine zF (k := ?_); ((first | (refine zA (k := ?_); refine zF (k := ?_)) | refine zE (k := ?_) | ((refine zG (yes := (fun ht => ?_)) (no := (fun ht => ?_)) <;> (try simp at ht) <;> (try (exfalso; omega))) <;> (first | (refine zA (k := ?_); refine zF (k := ?_)) | refine zE (k := ?_))))) <;> (((first | (refine zA (k := ?_); refine zJ (k := ?_)) | refine zE (k := ?_) | ((refine zG (yes := (fun ht => ?_)) (no := (fun ht => ?_)) <;> (try simp at ht) <;> (try (exfalso; omega))) <;> (first | (refine zA (k := ?_); refine zJ (k := ?_)) | refine zE (k := ?_))))) <;> (((first | (refine zA (k := ?_); refine zB (k := ?_)) | refine zE (k := ?_) | ((refine zG (yes := (fun ht => ?_)) (no := (fun ht => ?_)) <;> (try simp at ht) <;> (try (exfalso; omega))) <;> (first | (refine zA (k := ?_); refine zB (k := ?_)) | refine zE (k := ?_))))) <;> (((first | (refine zA (k := ?_); refine zM (k := ?_)) | refine zE (k := ?_) | ((refine zG (yes := (fun ht => ?_)) (no := (fun ht => ?_)) <;> (try simp at ht) <;> (try (exfalso; omega))) <;> (first | (refine zA (k := ?_); refine zM (k := ?_)) | refine zE (k := ?_))))) <;> (((first | (refine zA (k := ?_); refine zJ (k := ?_)) | refine zE (k := ?_) | ((refine zG (yes := (fun ht => ?_)) (no := (fun ht => ?_)) <;> (try simp at ht) <;> (try (exfalso; omega))) <;> (first | (refine zA (k := ?_); refine zJ (k := ?_)) | refine zE (k := ?_))))) <;> (((first | (refine zA (k := ?_); refine zB (k := ?_)) | refine zE (k := ?_) | ((refine zG (yes := (fun ht => ?_)) (no := (fun ht => ?_)) <;> (try simp at ht) <;> (try (exfalso; omega))) <;> (first | (refine zA (k := ?_); refine zB (k := ?_)) | refine zE (k := ?_))))) <;> (((first | (refine zA (k := ?_); refine zM (k := ?_)) | refine zE (k := ?_) | ((refine zG (yes := (fun ht => ?_)) (no := (fun ht => ?_)) <;> (try simp at ht) <;> (try (exfalso; omega))) <;> (first | (refine zA (k := ?_); refine zM (k := ?_)) | refine zE (k := ?_))))) <;> (((first | (refine zA (k := ?_); refine zJ (k := ?_)) | refine zE (k := ?_) | ((refine zG (yes := (fun ht => ?_)) (no := (fun ht => ?_)) <;> (try simp at ht) <;> (try (exfalso; omega))) <;> (first | (refine zA (k := ?_); refine zJ (k := ?_)) | refine zE (k := ?_))))) <;> (((first | (refine zA (k := ?_); refine zB (k := ?_)) | refine zE (k := ?_) | ((refine zG (yes := (fun ht => ?_)) (no := (fun ht => ?_)) <;> (try simp at ht) <;> (try (exfalso; omega))) <;> (first | (refine zA (k := ?_); refine zB (k := ?_)) | refine zE (k := ?_))))) <;> (((first | (refine zA (k := ?_); refine zM (k := ?_)) | refine zE (k := ?_) | ((refine zG (yes := (fun ht => ?_)) (no := (fun ht => ?_)) <;> (try simp at ht) <;> (try (exfalso; omega))) <;> (first | (refine zA (k := ?_); refine zM (k := ?_)) | refine zE (k := ?_))))) <;> (((first | (refine zA (k := ?_); refine zF (k := ?_)) | refine zE (k := ?_) | ((refine zG (yes := (fun ht => ?_)) (no := (fun ht => ?_)) <;> (try simp at ht) <;> (try (exfalso; omega))) <;> (first | (refine zA (k := ?_); refine zF (k := ?_)) | refine zE (k := ?_))))) <;> (((first | (refine zA (k := ?_); refine zJ (k := ?_)) | refine zE (k := ?_) | ((refine zG (yes := (fun ht => ?_)) (no := (fun ht => ?_)) <;> (try simp at ht) <;> (try (exfalso; omega))) <;> (first | (refine zA (k := ?_); refine zJ (k := ?_)) | refine zE (k := ?_))))) <;> (((first | (refine zA (k := ?_); refine zB (k := ?_)) | refine zE (k := ?_) | ((refine zG (yes := (fun ht => ?_)) (no := (fun ht => ?_)) <;> (try simp at ht) <;> (try (exfalso; omega))) <;> (first | (refine zA (k := ?_); refine zB (k := ?_)) | refine zE (k := ?_))))) <;> (((first | (refine zA (k := ?_); refine zM (k := ?_)) | refine zE (k := ?_) | ((refine zG (yes := (fun ht => ?_)) (no := (fun ht => ?_)) <;> (try simp at ht) <;> (try (exfalso; omega))) <;> (first | (refine zA (k := ?_); refine zM (k := ?_)) | refine zE (k := ?_))))) <;> (((first | (refine zA (k := ?_); refine z8 (k' := ?_)) | refine zE (k := ?_) | ((refine zG (yes := (fun ht => ?_)) (no := (fun ht => ?_)) <;> (try simp at ht) <;> (try (exfalso; omega))) <;> (first | (refine zA (k := ?_); refine z8 (k' := ?_)) | refine zE (k := ?_))))) <;> ((first | refine zZ (k := ?_) | refine za (k := ?_) | refine zg (k := ?_)); (refine zD (hK _ _ ?_); clear hK K))))))))))))))))))))))))))))))
        | (refine zC (id := 2) ?_; intro K hK; refine zF (k := ?_); refine zH (k := ?_); (refine zD (hK _ _ ?_); clear hK K))
        | (refine zC (id := 3) ?_; intro K hK; refine zF (k := ?_); refine zJ (k := ?_); refine zB (k := ?_); refine zM (k := ?_); refine zH (k := ?_); (refine zD (hK _ _ ?_); clear hK K))
        | (refine zC (id := 4) ?_; intro K hK; refine zF (k := ?_); refine zF (k := ?_); refine zF (k := ?_); refine zJ (k := ?_); refine zB (k := ?_); refine zM (k := ?_); refine zF (k := ?_); refine zJ (k := ?_); refine zB (k := ?_); refine zy (ho := rfl) (k := ?_); refine zJ (k := ?_); refine zB (k := ?_); refine zy (ho := rfl) (k := ?_); (refine zD (hK _ _ ?_); clear hK K))
        | (refine zC (id := 5) ?_; intro K hK; refine zF (k := ?_); refine zJ (k := ?_); refine zB (k := ?_); refine zM (k := ?_); refine zl (k' := ?_); refine zJ (k := ?_); refine zB (k := ?_); refine zy (ho := rfl) (k := ?_); (refine zD (hK _ _ ?_); clear hK K))
        | (refine zC (id := 6) ?_; intro K hK; refine zF (k := ?_); refine zH (k := ?_); (refine zD (hK _ _ ?_); clear hK K))
        | (refine zc (ht := (fun ht => ?_)) (hf := (fun ht => ?_)) <;> (try simp at ht) <;> (try (exfalso; omega))))
      exact ⟨Or.inr rfl, _, [TrA (.node l k v lv .nil) _], tr_nil.trans (Ent_foldTr (b := b) (by (repeat (first | exact Out.head | apply Out.tail)); (first | done | fail)) (by (repeat (first | exact Out.head | apply Out.tail)); (first | done | fail)) (by (repeat (first | exact Out.head | apply Out.tail)); (first | done | fail)) (Ent.refl _)), res1 rfl rfl, _, rfl, rfl⟩
    | node rl rk rx rlv rr =>
      refine yJ (y := TrA (.node rl rk rx rlv rr) ra) (k := (yQ (fun rb rla rra e => ?_)))
      subst e
      cases rr with
      | nil =>
        refine yJ (y := TrA .nil rra) (k := (yS (fun e => ?_)))
        subst e
        repeat' (first
          | refine zi ?_
          | refine zK ?_
          | refine zQ (h := ?_)
          | refine zU (h := ?_)
          | refine zj ?_
          | refine zR ?_
          | refine zW ?_
          | refine zN ?_
          | refine zV ?_
          | refine ze ?_
          | refine zP ?_
          | refine zY ?_
          | refine zS rfl ?_
          | refine zd ?_
          | refine zX ?_
          | refine zO ?_
          | refine zT ?_
          | refine zL ?_
          | (refine zC (id := 0) ?_; intro K hK; refine zH (k := ?_); (refine zD (hK _ _ ?_); clear hK K))
          | (refine z3 (id := 1) (h := ?_); intro K hK; refine zF (k := ?_); refine zf (k' := ?_); refine zF (k := ?_); ((first | (refine zA (k := ?_); refine zF (k := ?_)) | refine zE (k := ?_) | ((refine zG (yes := (fun ht => ?_)) (no := (fun ht => ?_)) <;> (try simp at ht) <;> (try (exfalso; omega))) <;> (first | (refine zA (k := ?_); refine zF (k := ?_)) | refine zE (k := ?_))))) <;> (((first | (refine zA (k := ?_); refine zJ (k := ?_)) | refine zE (k := ?_) | ((refine zG (yes := (fun ht => ?_)) (no := (fun ht => ?_)) <;> (try simp at ht) <;> (try (exfalso; omega))) <;> (first | (refine zA (k := ?_); refine zJ (k := ?_)) | refine zE (k := ?_))))) <;> (((first | (refine zA (k := ?_); refine zB (k := ?_)) | refine zE (k := ?_) | ((refine zG (yes := (fun ht => ?_)) (no := (fun ht => ?_)) <;> (try simp at ht) <;> (try (exfalso; omega))) <;> (first | (refine zA (k := ?_); refine zB (k := ?_)) | refine zE (k := ?_))))) <;> (((first | (refine zA (k := ?_); refine zM (k := ?_)) | refine zE (k := ?_) | ((refine zG (yes := (fun ht => ?_)) (no := (fun ht => ?_)) <;> (try simp at ht) <;> (try (exfalso; omega))) <;> (first | (refine zA (k := ?_); refine zM (k := ?_)) | refine zE (k := ?_))))) <;> (((first | (refine zA (k := ?_); refine zf (k' := ?_)) | refine zE (k := ?_) | ((refine zG (yes := (fun ht => ?_)) (no := (fun ht => ?_)) <;> (try simp at ht) <;> (try (exfalso; omega))) <;> (first | (refine zA (k := ?_); refine zf (k' := ?_)) | refine zE (k := ?_))))) <;> ((first | refine zZ (k := ?_) | refine za (k := ?_) | refine zg (k := ?_)); refine zF (k := ?_); ((first | (refine zA (k := ?_); refine zF (k := ?_)) | refine zE (k := ?_) | ((refine zG (yes := (fun ht => ?_)) (no := (fun ht => ?_)) <;> (try simp at ht) <;> (try (exfalso; omega))) <;> (first | (refine zA (k := ?_); refine zF (k := ?_)) | refine zE (k := ?_))))) <;> (((first | (refine zA (k := ?_); refine zJ (k := ?_)) | refine zE (k := ?_) | ((refine zG (yes := (fun ht => ?_)) (no := (fun ht => ?_)) <;> (try simp at ht) <;> (try (exfalso; omega))) <;> (first | (refine zA (k := ?_); refine zJ (k := ?_)) | refine zE (k := ?_))))) <;> (((first | (refine zA (k := ?_); refine zB (k := ?_)) | refine zE (k := ?_) | ((refine zG (yes := (fun ht => ?_)) (no := (fun ht => ?_)) <;> (try simp at ht) <;> (try (exfalso; omega))) <;> (first | (refine zA (k := ?_); refine zB (k := ?_)) | refine zE (k := ?_))))) <;> (((first | (refine zA (k := ?_); refine zM (k := ?_)) | refine zE (k := ?_) | ((refine zG (yes := (fun ht => ?_)) (no := (fun ht => ?_)) <;> (try simp at ht) <;> (try (exfalso; omega))) <;> (first | (refine zA (k := ?_); refine zM (k := ?_)) | refine zE (k := ?_))))) <;> (((first | (refine zA (k := ?_); refine zJ (k := ?_)) | refine zE (k := ?_) | ((refine zG (yes := (fun ht => ?_)) (no := (fun ht => ?_)) <;> (try simp at ht) <;> (try (exfalso; omega))) <;> (first | (refine zA (k := ?_); refine zJ (k := ?_)) | refine zE (k := ?_))))) <;> (((first | (refine zA (k := ?_); refine zB (k := ?_)) | refine zE (k := ?_) | ((refine zG (yes := (fun ht => ?_)) (no := (fun ht => ?_)) <;> (try simp at ht) <;> (try (exfalso; omega))) <;> (first | (refine zA (k := ?_); refine zB (k := ?_)) | refine zE (k := ?_))))) <;> (((first | (refine zA (k := ?_); refine zM (k := ?_)) | refine zE (k := ?_) | ((refine zG (yes := (fun ht => ?_)) (no := (fun ht => ?_)) <;> (try simp at ht) <;> (try (exfalso; omega))) <;> (first | (refine zA (k := ?_); refine zM (k := ?_)) | refine zE (k := ?_))))) <;> (((first | (refine zA (k := ?_); refine zf (k' := ?_)) | refine zE (k := ?_) | ((refine zG (yes := (fun ht => ?_)) (no := (fun ht => ?_)) <;> (try simp at ht) <;> (try (exfalso; omega))) <;> (first | (refine zA (k := ?_); refine zf (k' := ?_)) | refine zE (k := ?_))))) <;> ((first | refine zZ (k := ?_) | refine za (k := ?_) | refine zg (k := ?_)); refine zF (k := ?_); ((first | (refine zA (k := ?_); refine zF (k := ?_)) | refine zE (k := ?_) | ((refine zG (yes := (fun ht => ?_)) (no := (fun ht => ?_)) <;> (try simp at ht) <;> (try (exfalso; omega))) <;> (first | (refine zA (k := ?_); refine zF (k := ?_)) | refine zE (k := ?_))))) <;> (((first | (refine zA (k := ?_); refine zJ (k := ?_)) | refine zE (k := ?_) | ((refine zG (yes := (fun ht => ?_)) (no := (fun ht => ?_)) <;> (try simp at ht) <;> (try (exfalso; omega))) <;> (first | (refine zA (k := ?_); refine zJ (k := ?_)) | refine zE (k := ?_))))) <;> (((first | (refine zA (k := ?_); refine zB (k := ?_)) | refine zE (k := ?_) | ((refine zG (yes := (fun ht => ?_)) (no := (fun ht => ?_)) <;> (try simp at ht) <;> (try (exfalso; omega))) <;> (first | (refine zA (k := ?_); refine zB (k := ?_)) | refine zE (k := ?_))))) <;> (((first | (refine zA (k := ?_); refine zM (k := ?_)) | refine zE (k := ?_) | ((refine zG (yes := (fun ht => ?_)) (no := (fun ht => ?_)) <;> (try simp at ht) <;> (try (exfalso; omega))) <;> (first | (refine zA (k := ?_); refine zM (k := ?_)) | refine zE (k := ?_))))) <;> (((first | (refine zA (k := ?_); refine zJ (k := ?_)) | refine zE (k := ?_) | ((refine zG (yes := (fun ht => ?_)) (no := (fun ht => ?_)) <;> (try simp at ht) <;> (try (exfalso; omega))) <;> (first | (refine zA (k := ?_); refine zJ (k := ?_)) | refine zE (k := ?_))))) <;> (((first | (refine zA (k := ?_); refine zB (k := ?_)) | refine zE (k := ?_) | ((refine zG (yes := (fun ht => ?_)) (no := (fun ht => ?_)) <;> (try simp at ht) <;> (try (exfalso; omega))) <;> (first | (refine zA (k := ?_); refine zB (k := ?_)) | refine zE (k := ?_))))) <;> (((first | (refine zA (k := ?_); refine zM (k := ?_)) | refine zE (k := ?_) | ((refine zG (yes := (fun ht => ?_)) (no := (fun ht => ?_)) <;> (try simp at ht) <;> (try (exfalso; omega))) <;> (first | (refine zA (k := ?_); refine zM (k := ?_)) | refine zE (k := ?_))))) <;> (((first | (refine zA (k := ?_); refine zJ (k := ?_)) | refine zE (k := ?_) | ((refine zG (yes := (fun ht => ?_)) (no := (fun ht => ?_)) <;> (try simp at ht) <;> (try (exfalso; omega))) <;> (first | (refine zA (k := ?_); refine zJ (k := ?_)) | refine zE (k := ?_))))) <;> (((first | (refine zA (k := ?_); refine zB (k := ?_)) | refine zE (k := ?_) | ((refine zG (yes := (fun ht => ?_)) (no := (fun ht => ?_)) <;> (try simp at ht) <;> (try (exfalso; omega))) <;> (first | (refine zA (k := ?_); refine zB (k := ?_)) | refine zE (k := ?_))))) <;> (((first | (refine zA (k := ?_); refine zM (k := ?_)) | refine zE (k := ?_) | ((refine zG (yes := (fun ht => ?_)) (no := (fun ht => ?_)) <;> (try simp at ht) <;> (try (exfalso; omega))) <;> (first | (refine zA (k := ?_); refine zM (k := ?_)) | refine zE (k := ?_))))) <;> (((first | (refine zA (k := ?_); refine zF (k := ?_)) | refine zE (k := ?_) | ((refine zG (yes := (fun ht => ?_)) (no := (fun ht => ?_)) <;> (try simp at ht) <;> (try (exfalso; omega))) <;> (first | (refine zA (k := ?_); refine zF (k := ?_)) | refine zE (k := ?_))))) <;> (((first | (refine zA (k := ?_); refine zJ (k := ?_)) | refine zE (k := ?_) | ((refine zG (yes := (fun ht => ?_)) (no := (fun ht => ?_)) <;> (try simp at ht) <;> (try (exfalso; omega))) <;> (first | (refine zA (k := ?_); refine zJ (k := ?_)) | refine zE (k := ?_))))) <;> (((first | (refine zA (k := ?_); refine zB (k := ?_)) | refine zE (k := ?_) | ((refine zG (yes := (fun ht => ?_)) (no := (fun ht => ?_)) <;> (try simp at ht) <;> (try (exfalso; omega))) <;> (first | (refine zA (k := ?_); refine zB (k := ?_)) | refine zE (k := ?_))))) <;> (((first | (refine zA (k := ?_); refine zM (k := ?_)) | refine zE (k := ?_) | ((refine zG (yes := (fun ht => ?_)) (no := (fun ht => ?_)) <;> (try simp at ht) <;> (try (exfalso; omega))) <;> (first | (refine zA (k := ?_); refine zM (k := ?_)) | refine zE (k := ?_))))) <;> (((first | (refine zA (k := ?_); refine z8 (k' := ?_)) | refine zE (k := ?_) | ((refine zG (yes := (fun ht => ?_)) (no := (fun ht => ?_)) <;> (try simp at ht) <;> (try (exfalso; omega))) <;> (first | (refine zA (k := ?_); refine z8 (k' := ?_)) | refine zE (k := ?_))))) <;> ((first | refine zZ (k := ?_) | refine za (k := ?_) | refine zg (k := ?_)); (refine zD (hK _ _ ?_); clear hK K))))))))))))))))))))))))))))))
          | (refine zC (id := 2) ?_; intro K hK; refine zF (k := ?_); refine zH (k := ?_); (refine zD (hK _ _ ?_); clear hK K))
          | (refine zC (id := 3) ?_; intro K hK; refine zF (k := ?_); refine zJ (k := ?_); refine zB (k := ?_); refine zM (k := ?_); refine zH (k := ?_); (refine zD (hK _ _ ?_); clear hK K))
          | (refine zC (id := 4) ?_; intro K hK; refine zF (k := ?_); refine zF (k := ?_); refine zF (k := ?_); refine zJ (k := ?_); refine zB (k := ?_); refine zM (k := ?_); refine zF (k := ?_); refine zJ (k := ?_); refine zB (k := ?_); refine zy (ho := rfl) (k := ?_); refine zJ (k := ?_); refine zB (k := ?_); refine zy (ho := rfl) (k := ?_); (refine zD (hK _ _ ?_); clear hK K))
          | (refine zC (id := 5) ?_; intro K hK; refine zF (k := ?_); refine zJ (k := ?_); refine zB (k := ?_); refine zM (k := ?_); refine zl (k' := ?_); refine zJ (k := ?_); refine zB (k := ?_); refine zy (ho := rfl) (k := ?_); (refine zD (hK _ _ ?_); clear hK K))
          | (refine zC (id := 6) ?_; intro K hK; refine zF (k := ?_); refine zH (k := ?_); (refine zD (hK _ _ ?_); clear hK K))
          | (refine zc (ht := (fun ht => ?_)) (hf := (fun ht => ?_)) <;> (try simp at ht) <;> (try (exfalso; omega))))
        exact ⟨Or.inr rfl, _, [TrA (.node l k v lv (.node rl rk rx rlv .nil)) _], tr_nil.trans (Ent_foldTr (b := rb) (by (repeat (first | exact Out.head | apply Out.tail)); (first | done | fail)) (by (repeat (first | exact Out.head | apply Out.tail)); (first | done | fail)) (by (repeat (first | exact Out.head | apply Out.tail)); (first | done | fail)) (Ent_foldTr (b := b) (by (repeat (first | exact Out.head | apply Out.tail)); (first | done | fail)) (by (repeat (first | exact Out.head | apply Out.tail)); (first | done | fail)) (by (repeat (first | exact Out.head | apply Out.tail)); (first | done | fail)) (Ent.refl _))), res1 rfl rfl, _, rfl, rfl⟩
      | node ql qk qx qlv qr =>
        refine yJ (y := TrA (.node ql qk qx qlv qr) rra) (k := (yQ (fun qb qla qra e => ?_)))
        subst e
        have hr := ht.2.2.1
        by_cases hlv : qlv = lv
        · have hs : (Tree.node l k v lv (.node rl rk rx rlv (.node ql qk qx qlv qr))).split = .node (.node l k v lv rl) rk rx (rlv + 1) (.node ql qk qx qlv qr) := by simp [Tree.split, hlv]
          rw [hs]
          repeat' (first
            | refine zi ?_
            | refine zK ?_
            | refine zQ (h := ?_)
            | refine zU (h := ?_)
            | refine zj ?_
            | refine zR ?_
            | refine zW ?_
            | refine zN ?_
            | refine zV ?_
            | refine ze ?_
            | refine zP ?_
            | refine zY ?_
            | refine zS rfl ?_
            | refine zd ?_
            | refine zX ?_
            | refine zO ?_
            | refine zT ?_
            | refine zL ?_
            | (refine zC (id := 0) ?_; intro K hK; refine zH (k := ?_); (refine zD (hK _ _ ?_); clear hK K))
            | (refine z3 (id := 1) (h := ?_); intro K hK; refine zF (k := ?_); refine zf (k' := ?_); refine zF (k := ?_); ((first | (refine zA (k := ?_); refine zF (k := ?_)) | refine zE (k := ?_) | ((refine zG (yes := (fun ht => ?_)) (no := (fun ht => ?_)) <;> (try simp at ht) <;> (try (exfalso; omega))) <;> (first | (refine zA (k := ?_); refine zF (k := ?_)) | refine zE (k := ?_))))) <;> (((first | (refine zA (k := ?_); refine zJ (k := ?_)) | refine zE (k := ?_) | ((refine zG (yes := (fun ht => ?_)) (no := (fun ht => ?_)) <;> (try simp at ht) <;> (try (exfalso; omega))) <;> (first | (refine zA (k := ?_); refine zJ (k := ?_)) | refine zE (k := ?_))))) <;> (((first | (refine zA (k := ?_); refine zB (k := ?_)) | refine zE (k := ?_) | ((refine zG (yes := (fun ht => ?_)) (no := (fun ht => ?_)) <;> (try simp at ht) <;> (try (exfalso; omega))) <;> (first | (refine zA (k := ?_); refine zB (k := ?_)) | refine zE (k := ?_))))) <;> (((first | (refine zA (k := ?_); refine zM (k := ?_)) | refine zE (k := ?_) | ((refine zG (yes := (fun ht => ?_)) (no := (fun ht => ?_)) <;> (try simp at ht) <;> (try (exfalso; omega))) <;> (first | (refine zA (k := ?_); refine zM (k := ?_)) | refine zE (k := ?_))))) <;> (((first | (refine zA (k := ?_); refine zf (k' := ?_)) | refine zE (k := ?_) | ((refine zG (yes := (fun ht => ?_)) (no := (fun ht => ?_)) <;> (try simp at ht) <;> (try (exfalso; omega))) <;> (first | (refine zA (k := ?_); refine zf (k' := ?_)) | refine zE (k := ?_))))) <;> ((first | refine zZ (k := ?_) | refine za (k := ?_) | refine zg (k := ?_)); refine zF (k := ?_); ((first | (refine zA (k := ?_); refine zF (k := ?_)) | refine zE (k := ?_) | ((refine zG (yes := (fun ht => ?_)) (no := (fun ht => ?_)) <;> (try simp at ht) <;> (try (exfalso; omega))) <;> (first | (refine zA (k := ?_); refine zF (k := ?_)) | refine zE (k := ?_))))) <;> (((first | (refine zA (k := ?_); refine zJ (k := ?_)) | refine zE (k := ?_) | ((refine zG (yes := (fun ht => ?_)) (no := (fun ht => ?_)) <;> (try simp at ht) <;> (try (exfalso; omega))) <;> (first | (refine zA (k := ?_); refine zJ (k := ?_)) | refine zE (k := ?_))))) <;> (((first | (refine zA (k := ?_); refine zB (k := ?_)) | refine zE (k := ?_) | ((refine zG (yes := (fun ht => ?_)) (no := (fun ht => ?_)) <;> (try simp at ht) <;> (try (exfalso; omega))) <;> (first | (refine zA (k := ?_); refine zB (k := ?_)) | refine zE (k := ?_))))) <;> (((first | (refine zA (k := ?_); refine zM (k := ?_)) | refine zE (k := ?_) | ((refine zG (yes := (fun ht => ?_)) (no := (fun ht => ?_)) <;> (try simp at ht) <;> (try (exfalso; omega))) <;> (first | (refine zA (k := ?_); refine zM (k := ?_)) | refine zE (k := ?_))))) <;> (((first | (refine zA (k := ?_); refine zJ (k := ?_)) | refine zE (k := ?_) | ((refine zG (yes := (fun ht => ?_)) (no := (fun ht => ?_)) <;> (try simp at ht) <;> (try (exfalso; omega))) <;> (first | (refine zA (k := ?_); refine zJ (k := ?_)) | refine zE (k := ?_))))) <;> (((first | (refine zA (k := ?_); refine zB (k := ?_)) | refine zE (k := ?_) | ((refine zG (yes := (fun ht => ?_)) (no := (fun ht => ?_)) <;> (try simp at ht) <;> (try (exfalso; omega))) <;> (first | (refine zA (k := ?_); refine zB (k := ?_)) | refine zE (k := ?_))))) <;> (((first | (refine zA (k := ?_); refine zM (k := ?_)) | refine zE (k := ?_) | ((refine zG (yes := (fun ht => ?_)) (no := (fun ht => ?_)) <;> (try simp at ht) <;> (try (exfalso; omega))) <;> (first | (refine zA (k := ?_); refine zM (k := ?_)) | refine zE (k := ?_))))) <;> (((first | (refine zA (k := ?_); refine zf (k' := ?_)) | refine zE (k := ?_) | ((refine zG (yes := (fun ht => ?_)) (no := (fun ht => ?_)) <;> (try simp at ht) <;> (try (exfalso; omega))) <;> (first | (refine zA (k := ?_); refine zf (k' := ?_)) | refine zE (k := ?_))))) <;> ((first | refine zZ (k := ?_) | refine za (k := ?_) | refine zg (k := ?_)); refine zF (k := ?_); ((first | (refine zA (k := ?_); refine zF (k := ?_)) | refine zE (k := ?_) | ((refine zG (yes := (fun ht => ?_)) (no := (fun ht => ?_)) <;> (try simp at ht) <;> (try (exfalso; omega))) <;> (first | (refine zA (k := ?_); refine zF (k := ?_)) | refine zE (k := ?_))))) <;> (((first | (refine zA (k := ?_); refine zJ (k := ?_)) | refine zE (k := ?_) | ((refine zG (yes := (fun ht => ?_)) (no := (fun ht => ?_)) <;> (try simp at ht) <;> (try (exfalso; omega))) <;> (first | (refine zA (k := ?_); refine zJ (k := ?_)) | refine zE (k := ?_))))) <;> (((first | (refine zA (k := ?_); refine zB (k := ?_)) | refine zE (k := ?_) | ((refine zG (yes := (fun ht => ?_)) (no := (fun ht => ?_)) <;> (try simp at ht) <;> (try (exfalso; omega))) <;> (first | (refine zA (k := ?_); refine zB (k := ?_)) | refine zE (k := ?_))))) <;> (((first | (refine zA (k := ?_); refine zM (k := ?_)) | refine zE (k := ?_) | ((refine zG (yes := (fun ht => ?_)) (no := (fun ht => ?_)) <;> (try simp at ht) <;> (try (exfalso; omega))) <;> (first | (refine zA (k := ?_); refine zM (k := ?_)) | refine zE (k := ?_))))) <;> (((first | (refine zA (k := ?_); refine zJ (k := ?_)) | refine zE (k := ?_) | ((refine zG (yes := (fun ht => ?_)) (no := (fun ht => ?_)) <;> (try simp at ht) <;> (try (exfalso; omega))) <;> (first | (refine zA (k := ?_); refine zJ (k := ?_)) | refine zE (k := ?_))))) <;> (((first | (refine zA (k := ?_); refine zB (k := ?_)) | refine zE (k := ?_) | ((refine zG (yes := (fun ht => ?_)) (no := (fun ht => ?_)) <;> (try simp at ht) <;> (try (exfalso; omega))) <;> (first | (refine zA (k := ?_); refine zB (k := ?_)) | refine zE (k := ?_))))) <;> (((first | (refine zA (k := ?_); refine zM (k := ?_)) | refine zE (k := ?_) | ((refine zG (yes := (fun ht => ?_)) (no := (fun ht => ?_)) <;> (try simp at ht) <;> (try (exfalso; omega))) <;> (first | (refine zA (k := ?_); refine zM (k := ?_)) | refine zE (k := ?_))))) <;> (((first | (refine zA (k := ?_); refine zJ (k := ?_)) | refine zE (k := ?_) | ((refine zG (yes := (fun ht => ?_)) (no := (fun ht => ?_)) <;> (try simp at ht) <;> (try (exfalso; omega))) <;> (first | (refine zA (k := ?_); refine zJ (k := ?_)) | refine zE (k := ?_))))) <;> (((first | (refine zA (k := ?_); refine zB (k := ?_)) | refine zE (k := ?_) | ((refine zG (yes := (fun ht => ?_)) (no := (fun ht => ?_)) <;> (try simp at ht) <;> (try (exfalso; omega))) <;> (first | (refine zA (k := ?_); refine zB (k := ?_)) | refine zE (k := ?_))))) <;> (((first | (refine zA (k := ?_); refine zM (k := ?_)) | refine zE (k := ?_) | ((refine zG (yes := (fun ht => ?_)) (no := (fun ht => ?_)) <;> (try simp at ht) <;> (try (exfalso; omega))) <;> (first | (refine zA (k := ?_); refine zM (k := ?_)) | refine zE (k := ?_))))) <;> (((first | (refine zA (k := ?_); refine zF (k := ?_)) | refine zE (k := ?_) | ((refine zG (yes := (fun ht => ?_)) (no := (fun ht => ?_)) <;> (try simp at ht) <;> (try (exfalso; omega))) <;> (first | (refine zA (k := ?_); refine zF (k := ?_)) | refine zE (k := ?_))))) <;> (((first | (refine zA (k := ?_); refine zJ (k := ?_)) | refine zE (k := ?_) | ((refine zG (yes := (fun ht => ?_)) (no := (fun ht => ?_)) <;> (try simp at ht) <;> (try (exfalso; omega))) <;> (first | (refine zA (k := ?_); refine zJ (k := ?_)) | refine zE (k := ?_))))) <;> (((first | (refine zA (k := ?_); refine zB (k := ?_)) | refine zE (k := ?_) | ((refine zG (yes := (fun ht => ?_)) (no := (fun ht => ?_)) <;> (try simp at ht) <;> (try (exfalso; omega))) <;> (first | (refine zA (k := ?_); refine zB (k := ?_)) | refine zE (k := ?_))))) <;> (((first | (refine zA (k := ?_); refine zM (k := ?_)) | refine zE (k := ?_) | ((refine zG (yes := (fun ht => ?_)) (no := (fun ht => ?_)) <;> (try simp at ht) <;> (try (exfalso; omega))) <;> (first | (refine zA (k := ?_); refine zM (k := ?_)) | refine zE (k := ?_))))) <;> (((first | (refine zA (k := ?_); refine z8 (k' := ?_)) | refine zE (k := ?_) | ((refine zG (yes := (fun ht => ?_)) (no := (fun ht => ?_)) <;> (try simp at ht) <;> (try (exfalso; omega))) <;> (first | (refine zA (k := ?_); refine z8 (k' := ?_)) | refine zE (k := ?_))))) <;> ((first | refine zZ (k := ?_) | refine za (k := ?_) | refine zg (k := ?_)); (refine zD (hK _ _ ?_); clear hK K))))))))))))))))))))))))))))))
            | (refine zC (id := 2) ?_; intro K hK; refine zF (k := ?_); refine zH (k := ?_); (refine zD (hK _ _ ?_); clear hK K))
            | (refine zC (id := 3) ?_; intro K hK; refine zF (k := ?_); refine zJ (k := ?_); refine zB (k := ?_); refine zM (k := ?_); refine zH (k := ?_); (refine zD (hK _ _ ?_); clear hK K))
            | (refine zC (id := 4) ?_; intro K hK; refine zF (k := ?_); refine zF (k := ?_); refine zF (k := ?_); refine zJ (k := ?_); refine zB (k := ?_); refine zM (k := ?_); refine zF (k := ?_); refine zJ (k := ?_); refine zB (k := ?_); refine zy (ho := rfl) (k := ?_); refine zJ (k := ?_); refine zB (k := ?_); refine zy (ho := rfl) (k := ?_); (refine zD (hK _ _ ?_); clear hK K))
            | (refine zC (id := 5) ?_; intro K hK; refine zF (k := ?_); refine zJ (k := ?_); refine zB (k := ?_); refine zM (k := ?_); refine zl (k' := ?_); refine zJ (k := ?_); refine zB (k := ?_); refine zy (ho := rfl) (k := ?_); (refine zD (hK _ _ ?_); clear hK K))
            | (refine zC (id := 6) ?_; intro K hK; refine zF (k := ?_); refine zH (k := ?_); (refine zD (hK _ _ ?_); clear hK K))
            | (refine zc (ht := (fun ht => ?_)) (hf := (fun ht => ?_)) <;> (try simp at ht) <;> (try (exfalso; omega))))
          exact ⟨Or.inr rfl, _, [TrA _ (some ⟨rb, 0, none⟩)], Ent_foldTr (b := qb) (by (repeat (first | exact Out.head | apply Out.tail)); (first | done | fail)) (by (repeat (first | exact Out.head | apply Out.tail)); (first | done | fail)) (by (repeat (first | exact Out.head | apply Out.tail)); (first | done | fail)) (Ent_foldTr (b := b) (by (repeat (first | exact Out.head | apply Out.tail)); (first | done | fail)) (by (repeat (first | exact Out.head | apply Out.tail)); (first | done | fail)) (by (repeat (first | exact Out.head | apply Out.tail)); (first | done | fail)) (Ent_foldTr (b := rb) (by (repeat (first | exact Out.head | apply Out.tail)); (first | done | fail)) (by (repeat (first | exact Out.head | apply Out.tail)); (first | done | fail)) (by (repeat (first | exact Out.head | apply Out.tail)); (first | done | fail)) (Ent.refl _))), res1 rfl rfl, _, rfl, rfl⟩
        · have hs : (Tree.node l k v lv (.node rl rk rx rlv (.node ql qk qx qlv qr))).split = .node l k v lv (.node rl rk rx rlv (.node ql qk qx qlv qr)) := by simp [Tree.split, hlv]
          rw [hs]
          repeat' (first
            | refine zi ?_
            | refine zK ?_
            | refine zQ (h := ?_)
            | refine zU (h := ?_)
            | refine zj ?_
            | refine zR ?_
            | refine zW ?_
            | refine zN ?_
            | refine zV ?_
            | refine ze ?_
            | refine zP ?_
            | refine zY ?_
            | refine zS rfl ?_
            | refine zd ?_
            | refine zX ?_
            | refine zO ?_
            | refine zT ?_
            | refine zL ?_
            | (refine zC (id := 0) ?_; intro K hK; refine zH (k := ?_); (refine zD (hK _ _ ?_); clear hK K))
            | (refine z3 (id := 1) (h := ?_); intro K hK; refine zF (k := ?_); refine zf (k' := ?_); refine zF (k := ?_); ((first | (refine zA (k := ?_); refine zF (k := ?_)) | refine zE (k := ?_) | ((refine zG (yes := (fun ht => ?_)) (no := (fun ht => ?_)) <;> (try simp at ht) <;> (try (exfalso; omega))) <;> (first | (refine zA (k := ?_); refine zF (k := ?_)) | refine zE (k := ?_))))) <;> (((first | (refine zA (k := ?_); refine zJ (k := ?_)) | refine zE (k := ?_) | ((refine zG (yes := (fun ht => ?_)) (no := (fun ht => ?_)) <;> (try simp at ht) <;> (try (exfalso; omega))) <;> (first | (refine zA (k := ?_); refine zJ (k := ?_)) | refine zE (k := ?_))))) <;> (((first | (refine zA (k := ?_); refine zB (k := ?_)) | refine zE (k := ?_) | ((refine zG (yes := (fun ht => ?_)) (no := (fun ht => ?_)) <;> (try simp at ht) <;> (try (exfalso; omega))) <;> (first | (refine zA (k := ?_); refine zB (k := ?_)) | refine zE (k := ?_))))) <;> (((first | (refine zA (k := ?_); refine zM (k := ?_)) | refine zE (k := ?_) | ((refine zG (yes := (fun ht => ?_)) (no := (fun ht => ?_)) <;> (try simp at ht) <;> (try (exfalso; omega))) <;> (first | (refine zA (k := ?_); refine zM (k := ?_)) | refine zE (k := ?_))))) <;> (((first | (refine zA (k := ?_); refine zf (k' := ?_)) | refine zE (k := ?_) | ((refine zG (yes := (fun ht => ?_)) (no := (fun ht => ?_)) <;> (try simp at ht) <;> (try (exfalso; omega))) <;> (first | (refine zA (k := ?_); refine zf (k' := ?_)) | refine zE (k := ?_))))) <;> ((first | refine zZ (k := ?_) | refine za (k := ?_) | refine zg (k := ?_)); refine zF (k := ?_); ((first | (refine zA (k := ?_); refine zF (k := ?_)) | refine zE (k := ?_) | ((refine zG (yes := (fun ht => ?_)) (no := (fun ht => ?_)) <;> (try simp at ht) <;> (try (exfalso; omega))) <;> (first | (refine zA (k := ?_); refine zF (k := ?_)) | refine zE (k := ?_))))) <;> (((first | (refine zA (k := ?_); refine zJ (k := ?_)) | refine zE (k := ?_) | ((refine zG (yes := (fun ht => ?_)) (no := (fun ht => ?_)) <;> (try simp at ht) <;> (try (exfalso; omega))) <;> (first | (refine zA (k := ?_); refine zJ (k := ?_)) | refine zE (k := ?_))))) <;> (((first | (refine zA (k := ?_); refine zB (k := ?_)) | refine zE (k := ?_) | ((refine zG (yes := (fun ht => ?_)) (no := (fun ht => ?_)) <;> (try simp at ht) <;> (try (exfalso; omega))) <;> (first | (refine zA (k := ?_); refine zB (k := ?_)) | refine zE (k := ?_))))) <;> (((first | (refine zA (k := ?_); refine zM (k := ?_)) | refine zE (k := ?_) | ((refine zG (yes := (fun ht => ?_)) (no := (fun ht => ?_)) <;> (try simp at ht) <;> (try (exfalso; omega))) <;> (first | (refine zA (k := ?_); refine zM (k := ?_)) | refine zE (k := ?_))))) <;> (((first | (refine zA (k := ?_); refine zJ (k := ?_)) | refine zE (k := ?_) | ((refine zG (yes := (fun ht => ?_)) (no := (fun ht => ?_)) <;> (try simp at ht) <;> (try (exfalso; omega))) <;> (first | (refine zA (k := ?_); refine zJ (k := ?_)) | refine zE (k := ?_))))) <;> (((first | (refine zA (k := ?_); refine zB (k := ?_)) | refine zE (k := ?_) | ((refine zG (yes := (fun ht => ?_)) (no := (fun ht => ?_)) <;> (try simp at ht) <;> (try (exfalso; omega))) <;> (first | (refine zA (k := ?_); refine zB (k := ?_)) | refine zE (k := ?_))))) <;> (((first | (refine zA (k := ?_); refine zM (k := ?_)) | refine zE (k := ?_) | ((refine zG (yes := (fun ht => ?_)) (no := (fun ht => ?_)) <;> (try simp at ht) <;> (try (exfalso; omega))) <;> (first | (refine zA (k := ?_); refine zM (k := ?_)) | refine zE (k := ?_))))) <;> (((first | (refine zA (k := ?_); refine zf (k' := ?_)) | refine zE (k := ?_) | ((refine zG (yes := (fun ht => ?_)) (no := (fun ht => ?_)) <;> (try simp at ht) <;> (try (exfalso; omega))) <;> (first | (refine zA (k := ?_); refine zf (k' := ?_)) | refine zE (k := ?_))))) <;> ((first | refine zZ (k := ?_) | refine za (k := ?_) | refine zg (k := ?_)); refine zF (k := ?_); ((first | (refine zA (k := ?_); refine zF (k := ?_)) | refine zE (k := ?_) | ((refine zG (yes := (fun ht => ?_)) (no := (fun ht => ?_)) <;> (try simp at ht) <;> (try (exfalso; omega))) <;> (first | (refine zA (k := ?_); refine zF (k := ?_)) | refine zE (k := ?_))))) <;> (((first | (refine zA (k := ?_); refine zJ (k := ?_)) | refine zE (k := ?_) | ((refine zG (yes := (fun ht => ?_)) (no := (fun ht => ?_)) <;> (try simp at ht) <;> (try (exfalso; omega))) <;> (first | (refine zA (k := ?_); refine zJ (k := ?_)) | refine zE (k := ?_))))) <;> (((first | (refine zA (k := ?_); refine zB (k := ?_)) | refine zE (k := ?_) | ((refine zG (yes := (fun ht => ?_)) (no := (fun ht => ?_)) <;> (try simp at ht) <;> (try (exfalso; omega))) <;> (first | (refine zA (k := ?_); refine zB (k := ?_)) | refine zE (k := ?_))))) <;> (((first | (refine zA (k := ?_); refine zM (k := ?_)) | refine zE (k := ?_) | ((refine zG (yes := (fun ht => ?_)) (no := (fun ht => ?_)) <;> (try simp at ht) <;> (try (exfalso; omega))) <;> (first | (refine zA (k := ?_); refine zM (k := ?_)) | refine zE (k := ?_))))) <;> (((first | (refine zA (k := ?_); refine zJ (k := ?_)) | refine zE (k := ?_) | ((refine zG (yes := (fun ht => ?_)) (no := (fun ht => ?_)) <;> (try simp at ht) <;> (try (exfalso; omega))) <;> (first | (refine zA (k := ?_); refine zJ (k := ?_)) | refine zE (k := ?_))))) <;> (((first | (refine zA (k := ?_); refine zB (k := ?_)) | refine zE (k := ?_) | ((refine zG (yes := (fun ht => ?_)) (no := (fun ht => ?_)) <;> (try simp at ht) <;> (try (exfalso; omega))) <;> (first | (refine zA (k := ?_); refine zB (k := ?_)) | refine zE (k := ?_))))) <;> (((first | (refine zA (k := ?_); refine zM (k := ?_)) | refine zE (k := ?_) | ((refine zG (yes := (fun ht => ?_)) (no := (fun ht => ?_)) <;> (try simp at ht) <;> (try (exfalso; omega))) <;> (first | (refine zA (k := ?_); refine zM (k := ?_)) | refine zE (k := ?_))))) <;> (((first | (refine zA (k := ?_); refine zJ (k := ?_)) | refine zE (k := ?_) | ((refine zG (yes := (fun ht => ?_)) (no := (fun ht => ?_)) <;> (try simp at ht) <;> (try (exfalso; omega))) <;> (first | (refine zA (k := ?_); refine zJ (k := ?_)) | refine zE (k := ?_))))) <;> (((first | (refine zA (k := ?_); refine zB (k := ?_)) | refine zE (k := ?_) | ((refine zG (yes := (fun ht => ?_)) (no := (fun ht => ?_)) <;> (try simp at ht) <;> (try (exfalso; omega))) <;> (first | (refine zA (k := ?_); refine zB (k := ?_)) | refine zE (k := ?_))))) <;> (((first | (refine zA (k := ?_); refine zM (k := ?_)) | refine zE (k := ?_) | ((refine zG (yes := (fun ht => ?_)) (no := (fun ht => ?_)) <;> (try simp at ht) <;> (try (exfalso; omega))) <;> (first | (refine zA (k := ?_); refine zM (k := ?_)) | refine zE (k := ?_))))) <;> (((first | (refine zA (k := ?_); refine zF (k := ?_)) | refine zE (k := ?_) | ((refine zG (yes := (fun ht => ?_)) (no := (fun ht => ?_)) <;> (try simp at ht) <;> (try (exfalso; omega))) <;> (first | (refine zA (k := ?_); refine zF (k := ?_)) | refine zE (k := ?_))))) <;> (((first | (refine zA (k := ?_); refine zJ (k := ?_)) | refine zE (k := ?_) | ((refine zG (yes := (fun ht => ?_)) (no := (fun ht => ?_)) <;> (try simp at ht) <;> (try (exfalso; omega))) <;> (first | (refine zA (k := ?_); refine zJ (k := ?_)) | refine zE (k := ?_))))) <;> (((first | (refine zA (k := ?_); refine zB (k := ?_)) | refine zE (k := ?_) | ((refine zG (yes := (fun ht => ?_)) (no := (fun ht => ?_)) <;> (try simp at ht) <;> (try (exfalso; omega))) <;> (first | (refine zA (k := ?_); refine zB (k := ?_)) | refine zE (k := ?_))))) <;> (((first | (refine zA (k := ?_); refine zM (k := ?_)) | refine zE (k := ?_) | ((refine zG (yes := (fun ht => ?_)) (no := (fun ht => ?_)) <;> (try simp at ht) <;> (try (exfalso; omega))) <;> (first | (refine zA (k := ?_); refine zM (k := ?_)) | refine zE (k := ?_))))) <;> (((first | (refine zA (k := ?_); refine z8 (k' := ?_)) | refine zE (k := ?_) | ((refine zG (yes := (fun ht => ?_)) (no := (fun ht => ?_)) <;> (try simp at ht) <;> (try (exfalso; omega))) <;> (first | (refine zA (k := ?_); refine z8 (k' := ?_)) | refine zE (k := ?_))))) <;> ((first | refine zZ (k := ?_) | refine za (k := ?_) | refine zg (k := ?_)); (refine zD (hK _ _ ?_); clear hK K))))))))))))))))))))))))))))))
            | (refine zC (id := 2) ?_; intro K hK; refine zF (k := ?_); refine zH (k := ?_); (refine zD (hK _ _ ?_); clear hK K))
            | (refine zC (id := 3) ?_; intro K hK; refine zF (k := ?_); refine zJ (k := ?_); refine zB (k := ?_); refine zM (k := ?_); refine zH (k := ?_); (refine zD (hK _ _ ?_); clear hK K))
            | (refine zC (id := 4) ?_; intro K hK; refine zF (k := ?_); refine zF (k := ?_); refine zF (k := ?_); refine zJ (k := ?_); refine zB (k := ?_); refine zM (k := ?_); refine zF (k := ?_); refine zJ (k := ?_); refine zB (k := ?_); refine zy (ho := rfl) (k := ?_); refine zJ (k := ?_); refine zB (k := ?_); refine zy (ho := rfl) (k := ?_); (refine zD (hK _ _ ?_); clear hK K))
            | (refine zC (id := 5) ?_; intro K hK; refine zF (k := ?_); refine zJ (k := ?_); refine zB (k := ?_); refine zM (k := ?_); refine zl (k' := ?_); refine zJ (k := ?_); refine zB (k := ?_); refine zy (ho := rfl) (k := ?_); (refine zD (hK _ _ ?_); clear hK K))
            | (refine zC (id := 6) ?_; intro K hK; refine zF (k := ?_); refine zH (k := ?_); (refine zD (hK _ _ ?_); clear hK K))
            | (refine zc (ht := (fun ht => ?_)) (hf := (fun ht => ?_)) <;> (try simp at ht) <;> (try (exfalso; omega))))
          exact ⟨Or.inr rfl, _, [TrA _ (some ⟨b, 0, none⟩)], Ent_foldTr (b := qb) (by (repeat (first | exact Out.head | apply Out.tail)); (first | done | fail)) (by (repeat (first | exact Out.head | apply Out.tail)); (first | done | fail)) (by (repeat (first | exact Out.head | apply Out.tail)); (first | done | fail)) (Ent_foldTr (b := rb) (by (repeat (first | exact Out.head | apply Out.tail)); (first | done | fail)) (by (repeat (first | exact Out.head | apply Out.tail)); (first | done | fail)) (by (repeat (first | exact Out.head | apply Out.tail)); (first | done | fail)) (Ent_foldTr (b := b) (by (repeat (first | exact Out.head | apply Out.tail)); (first | done | fail)) (by (repeat (first | exact Out.head | apply Out.tail)); (first | done | fail)) (by (repeat (first | exact Out.head | apply Out.tail)); (first | done | fail)) (Ent.refl _))), res1 rfl rfl, _, rfl, rfl⟩
end specs
end Go.Proofs.YtnoggejkkjngjaaGreat
/- Package sorted: setting and deleting. Conditions: levels and counts are bounded. -/
set_option maxHeartbeats 8000000
set_option linter.unusedVariables false
set_option linter.unusedSimpArgs false
set_option maxRecDepth 100000
namespace Go.Proofs.YtnoggejkkjngjaaGreat
open Go Go.Sl
attribute [local irreducible] Go.Sl.Wl Go.Sl.Wc Go.Sl.thenQ Go.Sl.blkQ Go.Sl.loopQ Go.Sl.Fspec

theorem Tree.LB.mono {N M : Int} (h : N ≤ M) : ∀ {t : Tree}, t.LB N → t.LB M
  | .nil, _ => trivial
  | .node _ _ _ _ _, ⟨h1, h2, h3⟩ => ⟨by omega, h2.mono h, h3.mono h⟩
theorem Tree.LB.lev {N : Int} {t : Tree} (hN : 0 ≤ N) (h : t.LB N) : 0 ≤ t.lev ∧ t.lev ≤ N := by
  cases t with
  | nil => exact ⟨Int.le_refl _, hN⟩
  | node => exact h.1
theorem Tree.LB.skew {N : Int} {t : Tree} (h : t.LB N) : t.skew.LB N := by
  unfold Tree.skew
  split
  · split
    · exact ⟨h.2.1.1, h.2.1.2.1, h.1, h.2.1.2.2, h.2.2⟩
    · exact h
  · exact h
theorem Tree.LB.split {N : Int} {t : Tree} (h : t.LB N) : t.split.LB (N + 1) := by
  have h' : t.LB (N + 1) := h.mono (by omega)
  unfold Tree.split
  split
  · split
    · have h1 := h.2.2.1
      exact ⟨by omega, ⟨h'.1, h'.2.1, h'.2.2.2.1⟩, h'.2.2.2.2⟩
    · exact h'
  · exact h'
theorem Tree.LB.cut {N M : Int} {t : Tree} (h : t.LB N) (hM : 0 ≤ M) : (t.cut M).LB N := by
  cases t with
  | nil => trivial
  | node l k v lv r =>
    have := h.1
    simp only [Tree.cut]
    split
    · exact ⟨by omega, h.2⟩
    · exact h
theorem Tree.LB.low1 {N : Int} {t : Tree} (h : t.LB N) : t.low1.LB N := by
  cases t with
  | nil => trivial
  | node l k v lv r =>
    have h1 := h.1
    have hl := h.2.1.lev (by omega); have hr := h.2.2.lev (by omega)
    simp only [Tree.low1]
    split
    · exact ⟨by omega, h.2.1, h.2.2.cut (by omega)⟩
    · exact h
theorem Tree.LB.onGreat {N : Int} {t : Tree} {f : Tree → Tree} (h : t.LB N) (hf : ∀ r : Tree, r.LB N → (f r).LB N) : (t.onGreat f).LB N := by
  cases t with
  | nil => trivial
  | node l k v lv r => exact ⟨h.1, h.2.1, hf r h.2.2⟩
theorem Tree.LB.lower {N : Int} {t : Tree} (h : t.LB N) : t.lower.LB (N + 2) := by
  unfold Tree.lower
  have h3 : ((t.low1.skew.onGreat fun r => r.skew.onGreat Tree.skew).split).LB (N + 1) := (h.low1.skew.onGreat fun r hr => hr.skew.onGreat fun q hq => hq.skew).split
  have h4 : ((t.low1.skew.onGreat fun r => r.skew.onGreat Tree.skew).split).LB (N + 2) := h3.mono (by omega)
  revert h3 h4
  generalize (t.low1.skew.onGreat fun r => r.skew.onGreat Tree.skew).split = u
  intro h3 h4
  cases u with
  | nil => trivial
  | node l k v lv r => exact ⟨h4.1, h4.2.1, by have := h3.2.2.split; rwa [show N + 1 + 1 = N + 2 by omega] at this⟩
section specs
variable (B : Base)
end specs
end Go.Proofs.YtnoggejkkjngjaaGreat
/- Package sorted: setting and deleting in a tree. Conditions: levels and counts are bounded. -/
set_option maxHeartbeats 8000000
set_option linter.unusedVariables false
set_option linter.unusedSimpArgs false
set_option maxRecDepth 100000
namespace Go.Proofs.YtnoggejkkjngjaaGreat
open Go Go.Sl
attribute [local irreducible] Go.Sl.Wl Go.Sl.Wc Go.Sl.thenQ Go.Sl.blkQ Go.Sl.loopQ Go.Sl.Fspec

theorem Tree.LB.set {N : Int} (hN : 1 ≤ N) {k : ByteArray} {v : VX} : ∀ {t : Tree}, t.LB N → (t.set k v).LB (N + t.size)
  | .nil, _ => ⟨by simp only [Tree.size]; omega, trivial, trivial⟩
  | .node l k' v' lv r, h => by
    have hl := LB.set hN (k := k) (v := v) h.2.1; have hr := LB.set hN (k := k) (v := v) h.2.2
    simp only [Tree.set, Tree.size]
    split
    · have h1 : (Tree.node (l.set k v) k' v' lv r).LB (N + l.size) := ⟨by have := h.1; omega, hl, h.2.2.mono (by omega)⟩
      exact h1.skew.split.mono (by omega)
    · split
      · have h1 : (Tree.node l k' v' lv (r.set k v)).LB (N + r.size) := ⟨by have := h.1; omega, h.2.1.mono (by omega), hr⟩
        exact h1.skew.split.mono (by omega)
      · exact ⟨by have := h.1; omega, h.2.1.mono (by omega), h.2.2.mono (by omega)⟩
theorem Tree.LB.del {N : Int} : ∀ {t : Tree} {k : ByteArray}, t.LB N → (t.del k).LB (N + 2 * t.size)
  | .nil, _, _ => trivial
  | .node l k' v' lv r, k, h => by
    have hl : ∀ {q : ByteArray}, (l.del q).LB (N + 2 * l.size) := LB.del h.2.1
    have hr : ∀ {q : ByteArray}, (r.del q).LB (N + 2 * r.size) := LB.del h.2.2
    have h1 := h.1
    have kl : ∀ {q q2 : ByteArray} {x : VX}, (Tree.node (l.del q) q2 x lv r).lower.LB (N + 2 * (l.size + r.size + 1 : Nat)) := fun {q q2 x} => by
      have h1 : (Tree.node (l.del q) q2 x lv r).LB (N + 2 * l.size) := ⟨by omega, hl, h.2.2.mono (by omega)⟩
      exact h1.lower.mono (by omega)
    have kr : ∀ {q q2 : ByteArray} {x : VX}, (Tree.node l q2 x lv (r.del q)).lower.LB (N + 2 * (l.size + r.size + 1 : Nat)) := fun {q q2 x} => by
      have h1 : (Tree.node l q2 x lv (r.del q)).LB (N + 2 * r.size) := ⟨by omega, h.2.1.mono (by omega), hr⟩
      exact h1.lower.mono (by omega)
    simp only [Tree.del, Tree.size]
    split
    · exact kl
    · split
      · exact kr
      · cases l with
        | nil =>
          cases r with
          | nil => trivial
          | node => exact kr
        | node => exact kl
section specs
variable (B : Base)
theorem set_spec : ∀ (t : Tree) (a : Option Addr) (k : ByteArray) (v : VX) (N n : Int) (x : Value) (p : Nat), 1 ≤ N → N + t.size ≤ 4611686018427387800 → t.LB N → 0 ≤ n ∧ n ≤ 4611686018427387904 →
    Fspec Tryz.prog B 107 #[.pointer (some ⟨p, 0, none⟩), .pointer a, .string k, .agg #[.int .i64 v.a, .int .i64 v.b, .bool v.c, .string v.d]] [cb p [x, .int .i64 n] 154, TrA t a]
      (fun w A' => ∃ a', w = .pointer a' ∧ A' = [cb p [x, .int .i64 (n + (if t.news k then 1 else 0))] 154, TrA (t.set k v) a'])
  | .nil, a, k, v, N, n, x, p, hN, hs, ht, hn => by
    refine spec_of (args := [_, _, _, _]) Tryz.func107 rfl rfl rfl ?_
    refine yJ (y := TrA .nil a) (k := (yS (fun e => ?_)))
    subst e
    repeat' (first
      | refine zi ?_
      | refine zK ?_
      | refine zQ (h := ?_)
      | refine zU (h := ?_)
      | refine zj ?_
      | refine zR ?_
      | refine zW ?_
      | refine zN ?_
      | refine zV ?_
      | refine ze ?_
      | refine zP ?_
      | refine zY ?_
      | refine zS rfl ?_
      | refine zd ?_
      | refine zX ?_
      | refine zO ?_
      | refine zT ?_
      | refine zL ?_
      | (refine zC (id := 0) ?_; intro K hK; ((refine zm (k := ?_); intro r7)) <;> (refine zH (k := ?_); (refine zD (hK _ _ ?_); clear hK K)))
      | (refine zC (id := 1) ?_; intro K hK; refine zF (k := ?_); refine zf (k' := ?_); (refine zD (hK _ _ ?_); clear hK K))
      | (refine zC (id := 2) ?_; intro K hK; refine zF (k := ?_); refine zJ (k := ?_); refine zB (k := ?_); refine zM (k := ?_); refine zl (k' := ?_); refine zJ (k := ?_); refine zB (k := ?_); refine zy (ho := rfl) (k := ?_); (refine zD (hK _ _ ?_); clear hK K))
      | (refine zC (id := 3) ?_; intro K hK; refine zF (k := ?_); refine zo (k := ?_); refine zr (k := ?_); (refine zm (k := ?_); intro r); refine zH (k := ?_); (refine zD (hK _ _ ?_); clear hK K))
      | (refine zc (ht := (fun ht => ?_)) (hf := (fun ht => ?_)) <;> (try simp at ht) <;> (try (exfalso; omega))))
    refine ⟨Or.inr rfl, _, [cb p _ _, TrA (.node .nil k v 1 .nil) (some ⟨r, 0, none⟩)], ?_, res1 rfl rfl, _, rfl, rfl⟩
    refine tr_nil.trans (tr_nil.trans (Ent_foldTr (b := r) (by (repeat (first | exact Out.head | apply Out.tail)); (first | done | fail)) (by (repeat (first | exact Out.head | apply Out.tail)); (first | done | fail)) (by (repeat (first | exact Out.head | apply Out.tail)); (first | done | fail)) ?_))
    (repeat (first | exact Ent.refl _ | exact Ent.nil | refine Ent.take (by (repeat (first | exact Out.head | apply Out.tail)); (first | done | fail)) ?_ | refine Ent.drop1 ?_))
  | .node l k' v' lv r, a, k, v, N, n, x, p, hN, hs, ht, hn => by
    have hs' : N + ((l.size + r.size + 1 : Nat) : Int) ≤ 4611686018427387800 := hs
    have ihl := set_spec l; have ihr := set_spec r
    have h1 := ht.1
    refine spec_of (args := [_, _, _, _]) Tryz.func107 rfl rfl rfl ?_
    refine yJ (y := TrA (.node l k' v' lv r) a) (k := (yQ (fun b la ra e => ?_)))
    subst e
    cases hlt : klt k k' with
    | true =>
      have hlt' : Op.bytesLess k.toList k'.toList = true := hlt
      have e1 : (Tree.node l k' v' lv r).set k v = (Tree.node (l.set k v) k' v' lv r).skew.split := by simp [Tree.set, hlt]
      have e2 : (Tree.node l k' v' lv r).news k = l.news k := by simp [Tree.news, hlt]
      have hl := Tree.LB.set hN (k := k) (v := v) ht.2.1
      have hb : (Tree.node (l.set k v) k' v' lv r).LB (N + l.size) := ⟨by omega, hl, ht.2.2.mono (by omega)⟩
      rw [e1, e2]
      repeat' (first
        | refine zi ?_
        | refine zK ?_
        | refine zQ (h := ?_)
        | refine zU (h := ?_)
        | refine zj ?_
        | refine zR ?_
        | refine zW ?_
        | refine zN ?_
        | refine zV ?_
        | refine ze ?_
        | refine zP ?_
        | refine zY ?_
        | refine zS rfl ?_
        | refine zd ?_
        | refine zX ?_
        | refine zO ?_
        | refine zT ?_
        | refine zL ?_
        | (refine zC (id := 0) ?_; intro K hK; ((refine zm (k := ?_); intro r7)) <;> (refine zH (k := ?_); (refine zD (hK _ _ ?_); clear hK K)))
        | (refine zC (id := 1) ?_; intro K hK; refine zF (k := ?_); refine zf (k' := ?_); (refine zD (hK _ _ ?_); clear hK K))
        | (refine zC (id := 6) ?_; intro K hK; refine zF (k := ?_); refine zF (k := ?_); refine zJ (k := ?_); refine zB (k := ?_); refine zM (k := ?_); ((refine yZ (k' := ?_); rw [hlt'])) <;> (refine zH (k := ?_); (refine zD (hK _ _ ?_); clear hK K)))
        | (refine z3 (id := 7) (h := ?_); intro K hK; refine zF (k := ?_); refine zF (k := ?_); refine zF (k := ?_); refine zJ (k := ?_); refine zB (k := ?_); refine zM (k := ?_); refine zF (k := ?_); refine zo (k := ?_); ((refine zb (hs := (ihl la k v N n x p hN (by omega) ht.2.1 hn)) (k := ?_); rintro w A' ⟨a1, rfl, rfl⟩; simp only [List.cons_append, List.nil_append])) <;> (refine zJ (k := ?_); refine zB (k := ?_); refine zy (ho := rfl) (k := ?_); (refine zD (hK _ _ ?_); clear hK K)))
        | (refine zC (id := 10) ?_; intro K hK; refine zF (k := ?_); ((refine yw (b := b) (by (repeat (first | exact Out.head | apply Out.tail)); (first | done | fail)) (by (repeat (first | exact Out.head | apply Out.tail)); (first | done | fail)) (by (repeat (first | exact Out.head | apply Out.tail)); (first | done | fail)) ?_; refine zb (hs := (skew_spec B (.node (l.set k v) k' v' lv r) (some ⟨b, 0, none⟩))) (k := ?_); rintro w A' ⟨a2, rfl, rfl⟩; simp only [List.cons_append, List.nil_append])) <;> (((refine zb (hs := (split_spec B _ a2 (N + l.size) (by omega) hb.skew)) (k := ?_); rintro w A' ⟨a3, rfl, rfl⟩; simp only [List.cons_append, List.nil_append])) <;> (refine zH (k := ?_); (refine zD (hK _ _ ?_); clear hK K))))
        | (refine zc (ht := (fun ht => ?_)) (hf := (fun ht => ?_)) <;> (try simp at ht) <;> (try (exfalso; omega))))
      exact ⟨Or.inr rfl, _, [cb p _ _, TrA _ a3], (by (repeat (first | exact Ent.refl _ | exact Ent.nil | refine Ent.take (by (repeat (first | exact Out.head | apply Out.tail)); (first | done | fail)) ?_ | refine Ent.drop1 ?_))), res1 rfl rfl, _, rfl, rfl⟩
    | false =>
      have hlt' : Op.bytesLess k.toList k'.toList = false := hlt
      cases hgt : kgt k k' with
      | true =>
        have hgt' : (!(Op.bytesLess k.toList k'.toList || k.toList == k'.toList)) = true := hgt
        have e1 : (Tree.node l k' v' lv r).set k v = (Tree.node l k' v' lv (r.set k v)).skew.split := by simp [Tree.set, hlt, hgt]
        have e2 : (Tree.node l k' v' lv r).news k = r.news k := by simp [Tree.news, hlt, hgt]
        have hr := Tree.LB.set hN (k := k) (v := v) ht.2.2
        have hb : (Tree.node l k' v' lv (r.set k v)).LB (N + r.size) := ⟨by omega, ht.2.1.mono (by omega), hr⟩
        rw [e1, e2]
        repeat' (first
          | refine zi ?_
          | refine zK ?_
          | refine zQ (h := ?_)
          | refine zU (h := ?_)
          | refine zj ?_
          | refine zR ?_
          | refine zW ?_
          | refine zN ?_
          | refine zV ?_
          | refine ze ?_
          | refine zP ?_
          | refine zY ?_
          | refine zS rfl ?_
          | refine zd ?_
          | refine zX ?_
          | refine zO ?_
          | refine zT ?_
          | refine zL ?_
          | (refine zC (id := 0) ?_; intro K hK; ((refine zm (k := ?_); intro r7)) <;> (refine zH (k := ?_); (refine zD (hK _ _ ?_); clear hK K)))
          | (refine zC (id := 1) ?_; intro K hK; refine zF (k := ?_); refine zf (k' := ?_); (refine zD (hK _ _ ?_); clear hK K))
          | (refine zC (id := 6) ?_; intro K hK; refine zF (k := ?_); refine zF (k := ?_); refine zJ (k := ?_); refine zB (k := ?_); refine zM (k := ?_); ((refine yZ (k' := ?_); rw [hlt'])) <;> (refine zH (k := ?_); (refine zD (hK _ _ ?_); clear hK K)))
          | (refine zC (id := 8) ?_; intro K hK; refine zF (k := ?_); refine zF (k := ?_); refine zJ (k := ?_); refine zB (k := ?_); refine zM (k := ?_); ((refine yo (k' := ?_); rw [hgt'])) <;> (refine zH (k := ?_); (refine zD (hK _ _ ?_); clear hK K)))
          | (refine z3 (id := 9) (h := ?_); intro K hK; refine zF (k := ?_); refine zF (k := ?_); refine zF (k := ?_); refine zJ (k := ?_); refine zB (k := ?_); refine zM (k := ?_); refine zF (k := ?_); refine zo (k := ?_); ((refine zb (hs := (ihr ra k v N n x p hN (by omega) ht.2.2 hn)) (k := ?_); rintro w A' ⟨a1, rfl, rfl⟩; simp only [List.cons_append, List.nil_append])) <;> (refine zJ (k := ?_); refine zB (k := ?_); refine zy (ho := rfl) (k := ?_); (refine zD (hK _ _ ?_); clear hK K)))
          | (refine zC (id := 10) ?_; intro K hK; refine zF (k := ?_); ((refine yw (b := b) (by (repeat (first | exact Out.head | apply Out.tail)); (first | done | fail)) (by (repeat (first | exact Out.head | apply Out.tail)); (first | done | fail)) (by (repeat (first | exact Out.head | apply Out.tail)); (first | done | fail)) ?_; refine zb (hs := (skew_spec B (.node l k' v' lv (r.set k v)) (some ⟨b, 0, none⟩))) (k := ?_); rintro w A' ⟨a2, rfl, rfl⟩; simp only [List.cons_append, List.nil_append])) <;> (((refine zb (hs := (split_spec B _ a2 (N + r.size) (by omega) hb.skew)) (k := ?_); rintro w A' ⟨a3, rfl, rfl⟩; simp only [List.cons_append, List.nil_append])) <;> (refine zH (k := ?_); (refine zD (hK _ _ ?_); clear hK K))))
          | (refine zc (ht := (fun ht => ?_)) (hf := (fun ht => ?_)) <;> (try simp at ht) <;> (try (exfalso; omega))))
        exact ⟨Or.inr rfl, _, [cb p _ _, TrA _ a3], (by (repeat (first | exact Ent.refl _ | exact Ent.nil | refine Ent.take (by (repeat (first | exact Out.head | apply Out.tail)); (first | done | fail)) ?_ | refine Ent.drop1 ?_))), res1 rfl rfl, _, rfl, rfl⟩
      | false =>
        have hgt' : (!(Op.bytesLess k.toList k'.toList || k.toList == k'.toList)) = false := hgt
        have e1 : (Tree.node l k' v' lv r).set k v = .node l k' v lv r := by simp [Tree.set, hlt, hgt]
        have e2 : (Tree.node l k' v' lv r).news k = false := by simp [Tree.news, hlt, hgt]
        rw [e1, e2]
        repeat' (first
          | refine zi ?_
          | refine zK ?_
          | refine zQ (h := ?_)
          | refine zU (h := ?_)
          | refine zj ?_
          | refine zR ?_
          | refine zW ?_
          | refine zN ?_
          | refine zV ?_
          | refine ze ?_
          | refine zP ?_
          | refine zY ?_
          | refine zS rfl ?_
          | refine zd ?_
          | refine zX ?_
          | refine zO ?_
          | refine zT ?_
          | refine zL ?_
          | (refine zC (id := 0) ?_; intro K hK; ((refine zm (k := ?_); intro r7)) <;> (refine zH (k := ?_); (refine zD (hK _ _ ?_); clear hK K)))
          | (refine zC (id := 1) ?_; intro K hK; refine zF (k := ?_); refine zf (k' := ?_); (refine zD (hK _ _ ?_); clear hK K))
          | (refine zC (id := 4) ?_; intro K hK; refine zF (k := ?_); refine zo (k := ?_); refine zJ (k := ?_); refine zB (k := ?_); refine zh (ho' := rfl) (k := ?_); (refine zD (hK _ _ ?_); clear hK K))
          | (refine zC (id := 5) ?_; intro K hK; refine zF (k := ?_); refine zH (k := ?_); (refine zD (hK _ _ ?_); clear hK K))
          | (refine zC (id := 6) ?_; intro K hK; refine zF (k := ?_); refine zF (k := ?_); refine zJ (k := ?_); refine zB (k := ?_); refine zM (k := ?_); ((refine yZ (k' := ?_); rw [hlt'])) <;> (refine zH (k := ?_); (refine zD (hK _ _ ?_); clear hK K)))
          | (refine zC (id := 8) ?_; intro K hK; refine zF (k := ?_); refine zF (k := ?_); refine zJ (k := ?_); refine zB (k := ?_); refine zM (k := ?_); ((refine yo (k' := ?_); rw [hgt'])) <;> (refine zH (k := ?_); (refine zD (hK _ _ ?_); clear hK K)))
          | (refine zc (ht := (fun ht => ?_)) (hf := (fun ht => ?_)) <;> (try simp at ht) <;> (try (exfalso; omega))))
        refine ⟨Or.inr rfl, _, [cb p [x, .int .i64 n] 154, TrA (.node l k' v lv r) (some ⟨b, 0, none⟩)], ?_, res1 rfl rfl, _, rfl, by simp⟩
        refine Ent_foldTr (b := b) (by (repeat (first | exact Out.head | apply Out.tail)); (first | done | fail)) (by (repeat (first | exact Out.head | apply Out.tail)); (first | done | fail)) (by (repeat (first | exact Out.head | apply Out.tail)); (first | done | fail)) ?_
        (repeat (first | exact Ent.refl _ | exact Ent.nil | refine Ent.take (by (repeat (first | exact Out.head | apply Out.tail)); (first | done | fail)) ?_ | refine Ent.drop1 ?_))
end specs
end Go.Proofs.YtnoggejkkjngjaaGreat
/- Trees whose levels keep them low: what setting and deleting leave right. No program in sight. No condition. -/
set_option linter.unusedVariables false
set_option linter.unusedSimpArgs false
namespace Go.Proofs.YtnoggejkkjngjaaGreat
open Go Go.Sl
namespace Tree
def le : Tree → Tree
  | .nil => .nil
  | .node l _ _ _ _ => l
def gr : Tree → Tree
  | .nil => .nil
  | .node _ _ _ _ r => r
theorem lev_node {l r : Tree} {k : ByteArray} {v : VX} {lv : Int} : (Tree.node l k v lv r).lev = lv := rfl
theorem gr_node {l r : Tree} {k : ByteArray} {v : VX} {lv : Int} : (Tree.node l k v lv r).gr = r := rfl
theorem le_node {l r : Tree} {k : ByteArray} {v : VX} {lv : Int} : (Tree.node l k v lv r).le = l := rfl
theorem lev_nil : Tree.nil.lev = 0 := rfl
theorem gr_nil : Tree.nil.gr = .nil := rfl
def AA : Tree → Prop
  | .nil => True
  | .node l _ _ lv r => l.AA ∧ r.AA ∧ lv = l.lev + 1 ∧ (r.lev + 1 = lv ∨ (r.lev = lv ∧ r.gr.lev + 1 = lv))
theorem AA.pos : ∀ {t : Tree}, t.AA → 0 ≤ t.lev
  | .nil, _ => Int.le_refl _
  | .node l _ _ lv r, h => by have := h.1.pos; have := h.2.2.1; simp only [lev_node]; omega
/-- A tree with a level above nought is a place. -/
theorem of_lev {t : Tree} (h : t.lev ≠ 0) : ∃ l k v lv r, t = .node l k v lv r := by
  cases t with
  | nil => exact absurd rfl h
  | node l k v lv r => exact ⟨l, k, v, lv, r, rfl⟩
theorem AA.gr_le {t : Tree} (h : t.AA) : t.gr.lev ≤ t.lev ∧ t.gr.lev + 1 ≥ t.lev := by
  cases t with
  | nil => exact ⟨Int.le_refl _, by simp [gr_nil, lev_nil]⟩
  | node l k v lv r => have := h.2.2.2; simp only [gr_node, lev_node]; omega
theorem AA.gr {t : Tree} (h : t.AA) : t.gr.AA := by
  cases t with
  | nil => trivial
  | node l k v lv r => exact h.2.1
theorem skew_none {l r : Tree} {k : ByteArray} {v : VX} {lv : Int} (h : l.lev ≠ lv) : (Tree.node l k v lv r).skew = .node l k v lv r := by
  cases l with
  | nil => rfl
  | node a b c d e => simp only [skew]; exact if_neg (fun e => h e)
theorem skew_rot {a b r : Tree} {k k2 : ByteArray} {v v2 : VX} {lv : Int} : (Tree.node (.node a k2 v2 lv b) k v lv r).skew = .node a k2 v2 lv (.node b k v lv r) := by
  simp [skew]
theorem split_none {l r : Tree} {k : ByteArray} {v : VX} {lv : Int} (h : r.gr.lev ≠ lv) : (Tree.node l k v lv r).split = .node l k v lv r := by
  cases r with
  | nil => rfl
  | node a b c d e =>
    cases e with
    | nil => rfl
    | node f g i j m => simp only [split]; exact if_neg (fun e => h e)
theorem split_rot {l a b : Tree} {k k2 : ByteArray} {v v2 : VX} {lv lv2 : Int} (h : b.lev = lv) (h0 : lv ≠ 0) : (Tree.node l k v lv (.node a k2 v2 lv2 b)).split = .node (.node l k v lv a) k2 v2 (lv2 + 1) b := by
  obtain ⟨f, g, i, j, m, rfl⟩ := of_lev (t := b) (by omega)
  simp only [split]; exact if_pos h
theorem AA.skew {t : Tree} (h : t.AA) : t.skew = t := by
  cases t with
  | nil => rfl
  | node l k v lv r => exact skew_none (by have := h.2.2.1; omega)
theorem AA.split {t : Tree} (h : t.AA) : t.split = t := by
  cases t with
  | nil => rfl
  | node l k v lv r =>
    refine split_none ?_
    have h2 := h.2.2.2
    have := h.2.1.gr_le
    omega
theorem AA.onGreat_skew {t : Tree} (h : t.AA) : t.onGreat Tree.skew = t := by
  cases t with
  | nil => rfl
  | node l k v lv r => simp only [onGreat, h.2.1.skew]
/-- What setting a key may do to a tree. -/
structure Grow (t u : Tree) : Prop where
  aa : u.AA
  lv : u.lev = t.lev ∨ (u.lev = t.lev + 1 ∧ u.gr.lev = t.lev ∧ u.le.lev = t.lev)
  sn : t.gr.lev < t.lev → u.lev = t.lev
theorem Grow.left {l l' r : Tree} {k : ByteArray} {v : VX} {lv : Int} (h : (Tree.node l k v lv r).AA) (g : Grow l l') : Grow (.node l k v lv r) (Tree.node l' k v lv r).skew.split := by
  obtain ⟨hl, hr, hv, hrr⟩ := h
  have hp := hl.pos
  have hg := hr.gr_le
  rcases g.lv with e | ⟨e1, e2, e3⟩
  · rw [skew_none (by omega), split_none (by omega)]
    exact ⟨⟨g.aa, hr, by omega, hrr⟩, .inl rfl, fun _ => rfl⟩
  · obtain ⟨a, k2, v2, lv2, b, rfl⟩ := of_lev (t := l') (by omega)
    simp only [lev_node, gr_node, le_node] at e1 e2 e3
    obtain rfl : lv2 = lv := by omega
    obtain ⟨ha, hb, hab, hbb⟩ := g.aa
    rw [skew_rot]
    rcases hrr with h1 | ⟨h1, h2⟩
    · rw [split_none (by simp only [gr_node]; omega)]
      exact ⟨⟨ha, ⟨hb, hr, by omega, .inl h1⟩, by omega, .inr ⟨rfl, by simp only [gr_node]; omega⟩⟩, .inl rfl, fun _ => rfl⟩
    · rw [split_rot h1 (by omega)]
      refine ⟨⟨⟨ha, hb, hab, hbb⟩, hr, by simp only [lev_node], .inl (by omega)⟩, .inr ⟨rfl, h1, rfl⟩, fun h => ?_⟩
      simp only [gr_node, lev_node] at h; omega
theorem Grow.right {l r r' : Tree} {k : ByteArray} {v : VX} {lv : Int} (h : (Tree.node l k v lv r).AA) (g : Grow r r') : Grow (.node l k v lv r) (Tree.node l k v lv r').skew.split := by
  obtain ⟨hl, hr, hv, hrr⟩ := h
  have hp := hl.pos
  have hg := g.aa.gr_le
  rw [skew_none (by omega)]
  rcases g.lv with e | ⟨e1, e2, e3⟩
  · by_cases hs : r'.gr.lev = lv
    · obtain ⟨a, k2, v2, lv2, b, rfl⟩ := of_lev (t := r') (by omega)
      simp only [gr_node, lev_node] at hs e hg
      obtain ⟨ha, hb, hab, hbb⟩ := g.aa
      rw [split_rot hs (by omega)]
      refine ⟨⟨⟨hl, ha, hv, .inl (by omega)⟩, hb, by simp only [lev_node]; omega, .inl (by omega)⟩, .inr ⟨by simp only [lev_node]; omega, hs, rfl⟩, fun h => ?_⟩
      simp only [gr_node, lev_node] at h; omega
    · rw [split_none hs]
      exact ⟨⟨hl, g.aa, hv, by omega⟩, .inl rfl, fun _ => rfl⟩
  · rcases hrr with h1 | ⟨h1, h2⟩
    · rw [split_none (by omega)]
      exact ⟨⟨hl, g.aa, hv, .inr ⟨by omega, by omega⟩⟩, .inl rfl, fun _ => rfl⟩
    · have := g.sn (by omega); omega
theorem set_AA (k : ByteArray) (v : VX) : ∀ (t : Tree), t.AA → Grow t (t.set k v)
  | .nil, _ => ⟨⟨trivial, trivial, rfl, .inl rfl⟩, .inr ⟨rfl, rfl, rfl⟩, fun h => by simp [gr_nil, lev_nil] at h⟩
  | .node l k' v' lv r, h => by
    simp only [set]
    split
    · exact Grow.left h (set_AA k v l h.1)
    · split
      · exact Grow.right h (set_AA k v r h.2.1)
      · exact ⟨h, .inl rfl, fun _ => rfl⟩

/-- What deleting a key may do to a tree. -/
structure Fall (t u : Tree) : Prop where
  aa : u.AA
  lv : u.lev = t.lev ∨ u.lev + 1 = t.lev
  sn : t.gr.lev < t.lev → u.lev = t.lev → u.gr.lev < u.lev
theorem low1_pos {l r : Tree} {k : ByteArray} {v : VX} {lv : Int} (h : min l.lev r.lev + 1 < lv) : (Tree.node l k v lv r).low1 = .node l k v (min l.lev r.lev + 1) (r.cut (min l.lev r.lev + 1)) := by
  simp only [low1]; exact if_pos h
theorem low1_neg {l r : Tree} {k : ByteArray} {v : VX} {lv : Int} (h : ¬ min l.lev r.lev + 1 < lv) : (Tree.node l k v lv r).low1 = .node l k v lv r := by
  simp only [low1]; exact if_neg h
theorem cut_pos {l r : Tree} {k : ByteArray} {v : VX} {lv M : Int} (h : M < lv) : (Tree.node l k v lv r).cut M = .node l k v M r := by
  simp only [cut]; exact if_pos h
theorem cut_neg {t : Tree} {M : Int} (h : t.lev ≤ M) : t.cut M = t := by
  cases t with
  | nil => rfl
  | node l k v lv r => simp only [lev_node] at h; simp only [cut]; exact if_neg (by omega)
theorem onGreat_node {l r : Tree} {k : ByteArray} {v : VX} {lv : Int} {f : Tree → Tree} : (Tree.node l k v lv r).onGreat f = .node l k v lv (f r) := rfl
theorem lower_same {l r : Tree} {k : ByteArray} {v : VX} {lv : Int} (h : (Tree.node l k v lv r).AA) : (Tree.node l k v lv r).lower = .node l k v lv r := by
  have h0 := h
  obtain ⟨hl, hr, hv, hrr⟩ := h
  have := hl.pos
  unfold lower
  rw [low1_neg (by omega), h0.skew, onGreat_node, hr.skew, hr.onGreat_skew, h0.split, onGreat_node, hr.split]
/-- Down by one, or as it was. -/
structure Low (h : Int) (φ : Prop) (u : Tree) : Prop where
  aa : u.AA
  lv : u.lev = h ∨ u.lev + 1 = h
  sn : φ → u.lev = h → u.gr.lev < u.lev
theorem lower_left {l r : Tree} {k : ByteArray} {v : VX} {lv : Int} (hl : l.AA) (hr : r.AA) (hv : lv = l.lev + 2) (hrr : r.lev + 1 = lv ∨ (r.lev = lv ∧ r.gr.lev + 1 = lv)) : Low lv (r.lev < lv) (Tree.node l k v lv r).lower := by
  have hp := hl.pos
  have hg := hr.gr_le
  have hm : min l.lev r.lev + 1 = lv - 1 := by omega
  unfold lower
  rw [low1_pos (by omega), hm]
  rcases hrr with h1 | ⟨h1, h2⟩
  · rw [cut_neg (by omega), skew_none (by omega), onGreat_node, hr.skew, hr.onGreat_skew]
    by_cases hs : r.gr.lev = lv - 1
    · obtain ⟨a, k2, v2, lv2, b, rfl⟩ := of_lev (t := r) (by omega)
      simp only [lev_node, gr_node] at h1 hs hg ⊢
      obtain ⟨ha, hb, hab, hbb⟩ := hr
      rw [split_rot hs (by omega), onGreat_node, hb.split]
      exact ⟨⟨⟨hl, ha, by omega, .inl (by omega)⟩, hb, by simp only [lev_node]; omega, .inl (by omega)⟩, .inl (by simp only [lev_node]; omega), fun _ _ => by simp only [lev_node, gr_node]; omega⟩
    · rw [split_none hs, onGreat_node, hr.split]
      exact ⟨⟨hl, hr, by omega, .inr ⟨by omega, by omega⟩⟩, .inr (by simp only [lev_node]; omega), fun _ h => by simp only [lev_node] at h; omega⟩
  · obtain ⟨a, k2, v2, lv2, b, rfl⟩ := of_lev (t := r) (by omega)
    simp only [lev_node, gr_node] at h1 h2 hg ⊢
    obtain ⟨ha, hb, hab, hbb⟩ := hr
    rw [cut_pos (by omega), skew_none (by omega), onGreat_node]
    obtain ⟨c, k3, v3, lv3, d, rfl⟩ := of_lev (t := a) (by omega)
    simp only [lev_node] at hab
    obtain rfl : lv3 = lv - 1 := by omega
    obtain ⟨hc, hd, hcd, hdd⟩ := ha
    have hbg := hb.gr_le
    rw [skew_rot, onGreat_node]
    by_cases hred : d.lev = lv - 1
    · obtain ⟨f, k4, v4, lv4, g, rfl⟩ := of_lev (t := d) (by omega)
      simp only [lev_node, gr_node] at hred hdd
      obtain rfl : lv4 = lv - 1 := by omega
      obtain ⟨hf, hgg, hfg, hggg⟩ := hd
      rw [skew_rot, split_rot (by simp only [lev_node]) (by omega), onGreat_node, split_rot (by omega) (by omega)]
      refine ⟨⟨⟨hl, hc, by omega, .inl (by omega)⟩, ⟨⟨hf, hgg, by omega, .inl (by omega)⟩, hb, by simp only [lev_node], .inl (by omega)⟩, by simp only [lev_node], .inr ⟨by simp only [lev_node], by simp only [gr_node]; omega⟩⟩, .inl (by simp only [lev_node]; omega), fun h => by omega⟩
    · rw [skew_none (by omega), split_rot (by simp only [lev_node]) (by omega), onGreat_node]
      by_cases hs : b.gr.lev = lv - 1
      · obtain ⟨f, k4, v4, lv4, g, rfl⟩ := of_lev (t := b) (by omega)
        simp only [lev_node, gr_node] at hs h2 hbg
        obtain ⟨hf, hgg, hfg, hggg⟩ := hb
        rw [split_rot hs (by omega)]
        refine ⟨⟨⟨hl, hc, by omega, .inl (by omega)⟩, ⟨⟨hd, hf, by omega, .inl (by omega)⟩, hgg, by simp only [lev_node]; omega, .inl (by omega)⟩, by simp only [lev_node], .inr ⟨by simp only [lev_node]; omega, by simp only [gr_node]; omega⟩⟩, .inl (by simp only [lev_node]; omega), fun h => by omega⟩
      · rw [split_none hs]
        refine ⟨⟨⟨hl, hc, by omega, .inl (by omega)⟩, ⟨hd, hb, by omega, .inr ⟨by omega, by omega⟩⟩, by simp only [lev_node], .inl (by simp only [lev_node])⟩, .inl (by simp only [lev_node]; omega), fun h => by omega⟩
theorem lower_right {l r : Tree} {k : ByteArray} {v : VX} {lv : Int} (hl : l.AA) (hr : r.AA) (hv : lv = l.lev + 1) (hrr : r.lev + 2 = lv) : Low lv True (Tree.node l k v lv r).lower := by
  have hp := hr.pos
  have hm : min l.lev r.lev + 1 = lv - 1 := by omega
  have hg := hr.gr_le
  unfold lower
  rw [low1_pos (by omega), hm, cut_neg (by omega)]
  obtain ⟨a, k2, v2, lv2, b, rfl⟩ := of_lev (t := l) (by omega)
  simp only [lev_node] at hv
  obtain rfl : lv2 = lv - 1 := by omega
  obtain ⟨ha, hb, hab, hbb⟩ := hl
  rw [skew_rot, onGreat_node]
  by_cases hred : b.lev = lv - 1
  · obtain ⟨f, k4, v4, lv4, g, rfl⟩ := of_lev (t := b) (by omega)
    simp only [lev_node, gr_node] at hred hbb
    obtain rfl : lv4 = lv - 1 := by omega
    obtain ⟨hf, hgg, hfg, hggg⟩ := hb
    rw [skew_rot, onGreat_node, skew_none (by omega), split_rot (by simp only [lev_node]) (by omega), onGreat_node, split_none (by omega)]
    exact ⟨⟨⟨ha, hf, by omega, .inl (by omega)⟩, ⟨hgg, hr, by omega, .inl (by omega)⟩, by simp only [lev_node], .inl (by simp only [lev_node])⟩, .inl (by simp only [lev_node]; omega), fun _ _ => by simp only [lev_node, gr_node]; omega⟩
  · rw [skew_none (by omega), onGreat_node, hr.skew, split_none (by simp only [gr_node]; omega), onGreat_node, split_none (by omega)]
    exact ⟨⟨ha, ⟨hb, hr, by omega, .inl (by omega)⟩, by omega, .inr ⟨by simp only [lev_node], by simp only [gr_node]; omega⟩⟩, .inr (by simp only [lev_node]; omega), fun _ h => by simp only [lev_node] at h; omega⟩
theorem Fall.left {l l' r : Tree} {k k2 : ByteArray} {v v2 : VX} {lv : Int} (h : (Tree.node l k v lv r).AA) (g : Fall l l') : Fall (.node l k v lv r) (Tree.node l' k2 v2 lv r).lower := by
  obtain ⟨hl, hr, hv, hrr⟩ := h
  rcases g.lv with e | e
  · have h1 : (Tree.node l' k2 v2 lv r).AA := ⟨g.aa, hr, by omega, hrr⟩
    rw [lower_same h1]
    exact ⟨h1, .inl rfl, fun h _ => h⟩
  · have := lower_left (k := k2) (v := v2) g.aa hr (by omega) hrr
    exact ⟨this.aa, this.lv, fun h e => this.sn h e⟩
theorem Fall.right {l r r' : Tree} {k k2 : ByteArray} {v v2 : VX} {lv : Int} (h : (Tree.node l k v lv r).AA) (g : Fall r r') : Fall (.node l k v lv r) (Tree.node l k2 v2 lv r').lower := by
  obtain ⟨hl, hr, hv, hrr⟩ := h
  have hg := g.aa.gr_le
  by_cases hlow : r'.lev + 2 = lv
  · have := lower_right (k := k2) (v := v2) hl g.aa hv hlow
    exact ⟨this.aa, this.lv, fun _ e => this.sn trivial e⟩
  · have h1 : (Tree.node l k2 v2 lv r').AA := by
      refine ⟨hl, g.aa, hv, ?_⟩
      rcases g.lv with e | e
      · rcases hrr with h1 | ⟨h1, h2⟩
        · exact .inl (by omega)
        · have := g.sn (by omega) e
          exact .inr ⟨by omega, by omega⟩
      · rcases hrr with h1 | ⟨h1, h2⟩
        · omega
        · exact .inl (by omega)
    rw [lower_same h1]
    refine ⟨h1, .inl rfl, fun h _ => ?_⟩
    simp only [gr_node, lev_node] at h ⊢
    rcases g.lv with e | e <;> omega
/-! how deep -/
theorem AA.levs : ∀ {t : Tree}, t.AA → t.LB t.lev
  | .nil, _ => trivial
  | .node l k v lv r, h => by
    obtain ⟨hl, hr, hv, hrr⟩ := h
    have hp := hl.pos
    exact ⟨⟨by omega, Int.le_refl _⟩, (AA.levs hl).mono (by simp only [lev_node]; omega), (AA.levs hr).mono (by simp only [lev_node]; omega)⟩
theorem AA.lev_le : ∀ {t : Tree}, t.AA → t.lev ≤ t.size
  | .nil, _ => Int.le_refl _
  | .node l k v lv r, h => by have := AA.lev_le h.1; have := h.2.2.1; simp only [lev_node, size]; omega
theorem AA.LB_size {t : Tree} (h : t.AA) : t.LB t.size := h.levs.mono h.lev_le

/-! how many -/
theorem size_skew (t : Tree) : t.skew.size = t.size := by
  unfold skew
  split
  · split <;> simp only [size]; omega
  · rfl
theorem size_split (t : Tree) : t.split.size = t.size := by
  unfold split
  split
  · split <;> simp only [size]; omega
  · rfl
theorem size_set (k : ByteArray) (v : VX) : ∀ t : Tree, (t.set k v).size = t.size + (if t.news k then 1 else 0)
  | .nil => rfl
  | .node l k' v' lv r => by
    have hl := size_set k v l; have hr := size_set k v r
    simp only [set, news]
    split
    · rw [size_split, size_skew]; simp only [size, hl]; omega
    · split
      · rw [size_split, size_skew]; simp only [size, hr]; omega
      · simp [size]
end Tree
end Go.Proofs.YtnoggejkkjngjaaGreat
/- Package sorted: a map's own functions. Conditions: a map has not too many keys. -/
set_option maxHeartbeats 8000000
set_option linter.unusedVariables false
set_option linter.unusedSimpArgs false
set_option maxRecDepth 100000
namespace Go.Proofs.YtnoggejkkjngjaaGreat
open Go Go.Sl
attribute [local irreducible] Go.Sl.Wl Go.Sl.Wc Go.Sl.thenQ Go.Sl.blkQ Go.Sl.loopQ Go.Sl.Fspec

def MpX (p : Nat) (t : Tree) (a : Option Addr) : List Asn := [cb p [.pointer a, .int .i64 t.size] 154, TrA t a]
def MpA (p : Nat) (t : Tree) : Asn := exN (MpX p t)
theorem mp_fold {p : Nat} {t : Tree} {X A0 : List Asn} (a : Option Addr) (h : Ent X (MpX p t a ++ A0)) : Ent X (MpA p t :: A0) := h.trans (Ent.exN_shut (f := MpX p t) a A0)
section specs
variable (B : Base)
theorem mnew_spec : Fspec Tryz.prog B 76 #[] [] (fun v A' => ∃ p, v = .pointer (some ⟨p, 0, none⟩) ∧ A' = [MpA p .nil]) := by
  refine spec_of (args := []) Tryz.func76 rfl rfl rfl ?_
  repeat' (first
    | refine zi ?_
    | refine zK ?_
    | refine zQ (h := ?_)
    | refine zU (h := ?_)
    | refine zj ?_
    | refine zR ?_
    | refine zW ?_
    | refine zN ?_
    | refine zV ?_
    | refine ze ?_
    | refine zP ?_
    | refine zY ?_
    | refine zS rfl ?_
    | refine zd ?_
    | refine zX ?_
    | refine zO ?_
    | refine zT ?_
    | refine zL ?_
    | (refine zC (id := 0) ?_; intro K hK; refine zH (k := ?_); (refine zD (hK _ _ ?_); clear hK K))
    | (refine zC (id := 1) ?_; intro K hK; refine zr (k := ?_); (refine zm (k := ?_); intro r); refine zH (k := ?_); (refine zD (hK _ _ ?_); clear hK K))
    | (refine zc (ht := (fun ht => ?_)) (hf := (fun ht => ?_)) <;> (try simp at ht) <;> (try (exfalso; omega))))
  exact ⟨Or.inr rfl, _, [MpA _ .nil], tr_nil.trans (mp_fold (A0 := []) none (by (repeat (first | exact Ent.refl _ | exact Ent.nil | refine Ent.take (by (repeat (first | exact Out.head | apply Out.tail)); (first | done | fail)) ?_ | refine Ent.drop1 ?_)))), res1 rfl rfl, _, rfl, rfl⟩
theorem mset_spec (p : Nat) (t : Tree) (k : ByteArray) (v : VX) (h : t.AA) (hs : t.size ≤ 1000000) :
    Fspec Tryz.prog B 89 #[.pointer (some ⟨p, 0, none⟩), .string k, .agg #[.int .i64 v.a, .int .i64 v.b, .bool v.c, .string v.d]] [MpA p t] (fun w A' => w = .bool (t.news k) ∧ A' = [MpA p (t.set k v)]) := by
  have hz := Tree.size_set k v t
  refine spec_of (args := [_, _, _]) Tryz.func89 rfl rfl rfl ?_
  refine yE (fun a => ?_)
  simp only [MpX]
  simp only [List.cons_append, List.nil_append]
  repeat' (first
    | refine zi ?_
    | refine zK ?_
    | refine zQ (h := ?_)
    | refine zU (h := ?_)
    | refine zj ?_
    | refine zR ?_
    | refine zW ?_
    | refine zN ?_
    | refine zV ?_
    | refine ze ?_
    | refine zP ?_
    | refine zY ?_
    | refine zS rfl ?_
    | refine zd ?_
    | refine zX ?_
    | refine zO ?_
    | refine zT ?_
    | refine zL ?_
    | (refine zC (id := 0) ?_; intro K hK; (refine zm (k := ?_); intro r); refine zH (k := ?_); (refine zD (hK _ _ ?_); clear hK K))
    | (refine zC (id := 1) ?_; intro K hK; refine zF (k := ?_); refine zf (k' := ?_); (refine zD (hK _ _ ?_); clear hK K))
    | (refine zC (id := 2) ?_; intro K hK; refine zH (k := ?_); (refine zD (hK _ _ ?_); clear hK K))
    | (refine zC (id := 3) ?_; intro K hK; refine zF (k := ?_); refine zJ (k := ?_); refine zB (k := ?_); refine zM (k := ?_); refine zH (k := ?_); (refine zD (hK _ _ ?_); clear hK K))
    | (refine z3 (id := 4) (h := ?_); intro K hK; refine zF (k := ?_); refine zF (k := ?_); refine zF (k := ?_); refine zJ (k := ?_); refine zB (k := ?_); refine zM (k := ?_); refine zF (k := ?_); refine zo (k := ?_); ((refine zb (hs := (set_spec B t a k v ((t.size : Int) + 1) t.size (.pointer a) p (by omega) (by omega) (h.LB_size.mono (by omega)) (by omega))) (k := ?_); rintro w A' ⟨a1, rfl, rfl⟩; simp only [List.cons_append, List.nil_append])) <;> (refine zJ (k := ?_); refine zB (k := ?_); refine zy (ho := rfl) (k := ?_); (refine zD (hK _ _ ?_); clear hK K)))
    | (refine zC (id := 5) ?_; intro K hK; refine zF (k := ?_); refine zJ (k := ?_); refine zB (k := ?_); refine zM (k := ?_); refine zF (k := ?_); refine z0 (k' := ?_); refine zH (k := ?_); (refine zD (hK _ _ ?_); clear hK K))
    | (refine zc (ht := (fun ht => ?_)) (hf := (fun ht => ?_)) <;> (try simp at ht) <;> (try (exfalso; omega))))
  have hv : decide ((t.size : Int) < (t.size : Int) + (if t.news k then 1 else 0)) = t.news k := by cases t.news k <;> simp <;> omega
  have hc : (t.size : Int) + (if t.news k then 1 else 0) = ((t.set k v).size : Nat) := by rw [hz]; cases t.news k <;> simp
  refine ⟨Or.inr rfl, _, [MpA p _], mp_fold (A0 := []) a1 ?_, res1 rfl rfl, congrArg Value.bool hv, rfl⟩
  simp only [MpX, ← hc]
  (repeat (first | exact Ent.refl _ | exact Ent.nil | refine Ent.take (by (repeat (first | exact Out.head | apply Out.tail)); (first | done | fail)) ?_ | refine Ent.drop1 ?_))
end specs
end Go.Proofs.YtnoggejkkjngjaaGreat
