/- slices.SortFunc at rows of sessions: the library's contract, laid at this program. No condition. -/
import Derived.Test.YtnoggejkkjngjaaDed
import Derived.Shelf.SlSortCmp.WholeK
import Derived.Shelf.SlicesG.Cmp
import Derived.Shelf.Lay
import Derived.Ground.SlsfProg
import Derived.Ground.SlgcProg
namespace Go.Proofs
open Go.Shelf Go.RowKit Go.Lib Go.Sort
shelf_lay_g SlLaysF0.n6 Slsf 6 at Try 72 as Try.sortSeen
shelf_lay_g SlLaysC2.n5 Slgc 5 at Try 74 as Try.cmpInt
end Go.Proofs
namespace Go.Proofs.Ytnoggejkkjngjaa
open Go Go.Shelf Go.RowKit Go.Lib Go.Sort Go.Proofs
def cfS (x y : SX) : Int := Lib.compareInt x.s y.s
instance : Inhabited SX := ⟨⟨0, 0, 0, 0⟩⟩
theorem ltS (x y : SX) : ltOf cfS x y = decide (x.s < y.s) := by
  unfold ltOf cfS Lib.compareInt
  by_cases h1 : x.s < y.s
  · simp [h1]
  · by_cases h2 : y.s < x.s <;> simp [h1, h2]
theorem swoS : SWO (ltOf cfS) where
  irrefl x := by rw [ltS]; simp
  trans x y z h1 h2 := by rw [ltS] at *; simp at *; omega
  ntrans x y z h1 h2 := by rw [ltS] at *; simp at *; omega
set_option maxHeartbeats 1000000 in
theorem closureS (x y : SX) (W : World) : Calls Try.prog 73 #[.agg #[.int .i64 x.s, .int .i64 x.r, .int .i64 x.e, .int .i64 x.i], .agg #[.int .i64 y.s, .int .i64 y.r, .int .i64 y.e, .int .i64 y.i]] W fun e w' => e = .returned (.int .i64 (cfS x y)) ∧ ∃ q os', w' = grow (W.drewN q) os' := by
  have hcon := fun W' => AnyG.cmp_Compare_int Try.cmpInt x.s y.s W'
  change ∀ W', Calls Try.prog 74 _ _ _ at hcon
  unfold cfS
  generalize Lib.compareInt x.s y.s = r at hcon ⊢
  go_enter Try.func73, Try.ntmps73
  go_wp2_with (go_at_call 74; refine (hcon _).mono ?_; rintro e w' ⟨rfl, rfl⟩)
  go_ret
  exact ⟨rfl, 0, _, by rw [alloc_eq_grow, alloc_eq_grow, grow_grow]; rfl⟩
theorem cmpLaysS (blk off size : Nat) (w : World) : CmpLays Try.prog 73 #[] SX.c 4 cfS blk off size w := fun _ _ _ _ x y => closureS x y _
/-- The library's contract, at this program. -/
theorem sortS_calls (blk cap : Nat) (d : Array SX) (w : World) (hH : HoldsK SX.c 4 w blk 0 d) (hblk : blk < w.heap.size) (hsz : d.size < 1000000) :
    Calls Try.prog 72 #[.slice (some ⟨blk, 0, none⟩) d.size cap, .func (.func 73) #[] #[]] w fun e w' => e = .returned (.tuple #[]) ∧ ∃ d' n os, PermIn 0 d.size d d' ∧ SortedIn (ltOf cfS) 0 d.size d' ∧ w' = sortWorldK SX.c 4 w blk 0 n d' os := by
  have eg : ∀ args w, (callFunc 73 args).run Try.prog w = .ok (.enter 73 args) w := enters_of Try.func73 (by kernel_rfl) rfl
  exact AnyQ.slices_SortFunc Try.sortSeen 4 Try.isAgg69 Try.sizeOf69 SX.c (fun _ => rfl) (fun x v hv => by simp [SX.c] at hv; rcases hv with rfl | rfl | rfl | rfl <;> rfl) cfS swoS 73 #[] blk 0 cap d w eg (cmpLaysS blk 0 d.size w) hH hblk (by omega)
end Go.Proofs.Ytnoggejkkjngjaa
