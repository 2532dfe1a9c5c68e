/- slices.SortFunc at rows of sessions: the library's contract, laid at this program. No condition. -/
import Derived.Test.YtnoggejkkjngjaaGreatK11
import Derived.Shelf.SlSortCmp.WholeK
import Derived.Shelf.SlicesG.Cmp
import Derived.Shelf.Lay
import Derived.Ground.SlsfProg
import Derived.Ground.SlgcProg
namespace Go.Proofs
open Go.Shelf Go.RowKit Go.Lib Go.Sort
shelf_lay_g SlLaysF0.n6 Slsf 6 at Tryz 108 as Tryz.sortSeen
shelf_lay_g SlLaysC2.n5 Slgc 5 at Tryz 110 as Tryz.cmpInt
end Go.Proofs
namespace Go.Proofs.YtnoggejkkjngjaaGreat
open Go Go.Shelf Go.RowKit Go.Lib Go.Sort Go.Proofs
def cfS (x y : SX) : Int := Lib.compareInt x.s y.s
instance : Inhabited SX := ⟨⟨0, 0, 0, 0⟩⟩
theorem ltS (x y : SX) : ltOf cfS x y = decide (x.s < y.s) := by
  unfold ltOf cfS Lib.compareInt
  by_cases h1 : x.s < y.s
  · simp [h1]
  · by_cases h2 : y.s < x.s <;> simp [h1, h2]
theorem swoS : SWO (ltOf cfS) where
  irrefl x := by rw [ltS]; simp
  trans x y z h1 h2 := by rw [ltS] at *; simp at *; omega
  ntrans x y z h1 h2 := by rw [ltS] at *; simp at *; omega
set_option maxHeartbeats 1000000 in
theorem closureS (x y : SX) (W : World) : Calls Tryz.prog 109 #[.agg #[.int .i64 x.s, .int .i64 x.r, .int .i64 x.e, .int .i64 x.i], .agg #[.int .i64 y.s, .int .i64 y.r, .int .i64 y.e, .int .i64 y.i]] W fun e w' => e = .returned (.int .i64 (cfS x y)) ∧ ∃ q os', w' = grow (W.drewN q) os' := by
  have hcon := fun W' => AnyG.cmp_Compare_int Tryz.cmpInt x.s y.s W'
  change ∀ W', Calls Tryz.prog 110 _ _ _ at hcon
  unfold cfS
  generalize Lib.compareInt x.s y.s = r at hcon ⊢
  go_enter Tryz.func109, Tryz.ntmps109
  go_wp2_with (go_at_call 110; refine (hcon _).mono ?_; rintro e w' ⟨rfl, rfl⟩)
  go_ret
  exact ⟨rfl, 0, _, by rw [alloc_eq_grow, alloc_eq_grow, grow_grow]; rfl⟩
theorem cmpLaysS (blk off size : Nat) (w : World) : CmpLays Tryz.prog 109 #[] SX.c 4 cfS blk off size w := fun _ _ _ _ x y => closureS x y _
/-- The library's contract, at this program. -/
theorem sortS_calls (blk cap : Nat) (d : Array SX) (w : World) (hH : HoldsK SX.c 4 w blk 0 d) (hblk : blk < w.heap.size) (hsz : d.size < 1000000) :
    Calls Tryz.prog 108 #[.slice (some ⟨blk, 0, none⟩) d.size cap, .func (.func 109) #[] #[]] w fun e w' => e = .returned (.tuple #[]) ∧ ∃ d' n os, PermIn 0 d.size d d' ∧ SortedIn (ltOf cfS) 0 d.size d' ∧ w' = sortWorldK SX.c 4 w blk 0 n d' os := by
  have eg : ∀ args w, (callFunc 109 args).run Tryz.prog w = .ok (.enter 109 args) w := enters_of Tryz.func109 (by kernel_rfl) rfl
  exact AnyQ.slices_SortFunc Tryz.sortSeen 4 Tryz.isAgg111 Tryz.sizeOf111 SX.c (fun _ => rfl) (fun x v hv => by simp [SX.c] at hv; rcases hv with rfl | rfl | rfl | rfl <;> rfl) cfS swoS 109 #[] blk 0 cap d w eg (cmpLaysS blk 0 d.size w) hH hblk (by omega)
end Go.Proofs.YtnoggejkkjngjaaGreat
/- slices.SortFunc at rows of sessions, as a spec. Conditions: not too many sessions, each once. -/
set_option maxHeartbeats 8000000
set_option linter.unusedVariables false
set_option linter.unusedSimpArgs false
set_option maxRecDepth 100000
namespace Go.Proofs.YtnoggejkkjngjaaGreat
open Go Go.Sl
attribute [local irreducible] Go.Sl.Wl Go.Sl.Wc Go.Sl.thenQ Go.Sl.blkQ Go.Sl.loopQ Go.Sl.Fspec
open Go.Sort

theorem flat_ss (d : Array SX) : flatK SX.c 4 d = (ssC d.toList).toArray := by
  apply Array.ext_getElem?
  intro t
  by_cases ht : t < d.size * 4
  · have h1 : t / 4 < d.size := by omega
    have hx : d.toList[t / 4]? = some d[t / 4] := by simp [h1]
    have h4 : t % 4 < 4 := Nat.mod_lt _ (by omega)
    have e : t = t / 4 * 4 + t % 4 := by omega
    have h44 : t % 4 < (d[t / 4]).c.length := h4
    obtain ⟨v, hv⟩ : ∃ v, (d[t / 4]).c[t % 4]? = some v := ⟨_, List.getElem?_eq_getElem h44⟩
    have h2 : (ssC d.toList)[t]? = some v := by
      rw [e]; exact ssC_cell hx h4 hv
    have h3 : (flatK SX.c 4 d)[t]! = v := by
      rw [get_flatK SX.c 4 d t ht]
      have : d[t / 4]! = d[t / 4] := by simp [h1]
      rw [this]
      rw [List.getElem!_eq_getElem?_getD, hv]; rfl
    have h5 : (flatK SX.c 4 d)[t]? = some (flatK SX.c 4 d)[t]! := by
      have h6 : t < (flatK SX.c 4 d).size := by rw [size_flatK]; exact ht
      rw [Array.getElem?_eq_getElem h6, getElem!_pos _ t h6]
    rw [h5, h3]
    simpa using h2.symm
  · rw [Array.getElem?_eq_none (by rw [size_flatK]; omega), Array.getElem?_eq_none (by simp [ssC_len]; omega)]
theorem put_ss (l : List SX) (d' : Array SX) (hd : d'.size = l.length) (spare : List Value) : putCells id 0 (flatK SX.c 4 d') (ssC l ++ spare).toArray = (ssC d'.toList ++ spare).toArray := by
  rw [flat_ss]
  have h1 := ssC_len l
  have h2 := ssC_len d'.toList
  have h3 : d'.toList.length = l.length := by simpa using hd
  apply Array.ext_getElem?
  intro t
  unfold putCells
  simp only [Array.getElem?_mapIdx, List.getElem?_toArray, Nat.zero_le, true_and, Nat.zero_add, Nat.sub_zero, id]
  by_cases ht : t < (ssC d'.toList).length
  · have e1 : (ssC l ++ spare)[t]? = some (ssC l)[t] := by rw [List.getElem?_append_left (by omega), List.getElem?_eq_getElem (by omega)]
    rw [e1, List.getElem?_append_left ht, List.getElem?_eq_getElem ht]
    simp [ht]
  · rw [List.getElem?_append_right (by omega), List.getElem?_append_right (by omega), h1, h2, h3]
    cases spare[t - l.length * 4]? with
    | none => rfl
    | some v => simp [ht]
section specs
variable {B : Base}
theorem sortS_spec (l : List SX) (r cap : Nat) (hd : (l.map (·.s)).Nodup) (hl : l.length < 1000000) :
    Fspec Tryz.prog B 108 #[.slice (some ⟨r, 0, none⟩) l.length cap, .func (.func 109) #[] #[]] [own (some ⟨r, 0, none⟩) l.length cap 4 (ssC l) 111]
      (fun v A' => ∃ l', v = .tuple #[] ∧ l'.Perm l ∧ RisS l' ∧ A' = [own (some ⟨r, 0, none⟩) l.length cap 4 (ssC l') 111]) := by
  unfold Fspec
  intro R w hs
  have hs1 : Sat B w (own (some ⟨r, 0, none⟩) l.length cap 4 (ssC l) 111 :: [R]) := hs.perm (.swap ..)
  rcases own_open hs1.own with ⟨h1, _⟩ | ⟨r', spare, h1, h2, h3, h4⟩
  · cases h1
  have hrr : r = r' := by simpa using h1
  subst hrr
  have hsat : Sat B w (cb r (ssC l ++ spare) 111 :: [R]) := ⟨hs1.size, hs1.io, hs1.base, h4⟩
  have hb : w.heap[r]? = some (.cells (ssC l ++ spare).toArray 111 (0, 0)) := (hsat.get (List.mem_cons_self ..)).2
  have hlt : r < w.heap.size := (Array.getElem?_eq_some_iff.1 hb).1
  have hH : HoldsK SX.c 4 w r 0 l.toArray := by
    intro j hj
    have hj' : j < l.length * 4 := by simpa using hj
    have hll := ssC_len l
    rw [flat_ss]
    refine ⟨?_, ?_⟩
    · simp only [World.cell?, hb, Nat.zero_add]
      have : j < (ssC l).length := by omega
      simp [List.getElem?_append_left this, this]
    · simp [World.frozen?, hb]
  refine (sortS_calls r cap l.toArray w hH hlt (by simpa using hl)).mono ?_
  rintro e w' ⟨rfl, d', n, os, hp, hso, rfl⟩
  have hsz : d'.size = l.length := by simpa using hp.1
  have hperm : d'.toList.Perm l := by
    have h9 := hp.2.2
    have h7 : d'.extract 0 l.toArray.size = d' := by
      rw [show l.toArray.size = d'.size by simp [hsz]]; simp
    rw [h7] at h9
    simpa using h9
  refine ⟨.tuple #[], [own (some ⟨r, 0, none⟩) l.length cap 4 (ssC d'.toList) 111], rfl, ?_, d'.toList, rfl, hperm, ?_, rfl⟩
  · have s1 : Sat B (Sort.ahead w n) (cb r (ssC l ++ spare) 111 :: [R]) := hsat.ext ⟨Nat.le_refl _, Io.refl w, fun _ _ => rfl⟩
    have s2 : Sat B (putRowK SX.c 4 (Sort.ahead w n) r 0 d') (cb r (ssC d'.toList ++ spare) 111 :: [R]) := by
      refine Sat.put (w := Sort.ahead w n) ⟨rfl, rfl, rfl⟩ (by simp [putRowK]) (fun x hx => ?_) ?_ s1
      · unfold putRowK putRow mapBlock
        simp [Array.getElem?_modify, Ne.symm hx]
      · unfold putRowK putRow mapBlock
        have hb2 : (Sort.ahead w n).heap[r]? = some (.cells (ssC l ++ spare).toArray 111 (0, 0)) := hb
        simp only [Array.getElem?_modify, if_true, hb2, Option.map_some, onCells]
        rw [put_ss l d' hsz]
    have s3 : Sat B (grow (putRowK SX.c 4 (Sort.ahead w n) r 0 d') os) (cb r (ssC d'.toList ++ spare) 111 :: [R]) :=
      s2.ext ⟨by simp [grow], ⟨rfl, rfl, rfl⟩, fun b hb => by simp [grow, Array.getElem?_append_left hb]⟩
    have hl2 := ssC_len d'.toList
    have hl1 := ssC_len l
    have hl3 : d'.toList.length = l.length := by simpa using hsz
    have s4 := s3.ent (own_shut r l.length cap 4 (ssC d'.toList) spare 111 [R] (by omega) (by rw [List.length_append] at h3 ⊢; omega))
    exact s4.perm (.swap ..)
  · have hnd : (d'.toList.map (·.s)).Nodup := (hperm.map (·.s)).nodup_iff.2 hd
    unfold RisS
    refine List.pairwise_iff_getElem.2 fun i j hi hj hij => ?_
    have hj' : j < l.toArray.size := by have h8 : j < d'.size := by simpa using hj
                                        simp; omega
    have h5 := hso i j (Nat.zero_le _) hij hj'
    have hi2 : i < d'.size := by simpa using hi
    have hj2 : j < d'.size := by simpa using hj
    rw [ltS, getElem!_pos d' i hi2, getElem!_pos d' j hj2] at h5
    have h6 : d'[i].s ≠ d'[j].s := by
      intro he
      have hmi : (d'.toList.map (·.s))[i]? = (d'.toList.map (·.s))[j]? := by
        rw [List.getElem?_map, List.getElem?_map, List.getElem?_eq_getElem hi, List.getElem?_eq_getElem hj]
        simp only [Option.map_some, Array.getElem_toList, he]
      have := (List.getElem?_inj (by simpa using hi) hnd).1 hmi
      omega
    simp only [Array.getElem_toList]
    have h5' : ¬ d'[j].s < d'[i].s := by simpa using h5
    omega
end specs
end Go.Proofs.YtnoggejkkjngjaaGreat
