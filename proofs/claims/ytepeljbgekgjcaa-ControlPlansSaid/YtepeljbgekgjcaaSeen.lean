/- What is seen of a disk, behind writes and a sync. No condition. -/
import Derived.Test.YtepeljbgekgjcaaPlainA
set_option maxHeartbeats 8000000
set_option linter.unusedVariables false
set_option linter.unusedSimpArgs false
set_option maxRecDepth 100000
namespace Go.Proofs.Ytepeljbgekgjcaa
open Go Go.Sl
attribute [local irreducible] Go.Sl.Wl Go.Sl.Wc Go.Sl.thenQ Go.Sl.blkQ Go.Sl.loopQ Go.Sl.Fspec

theorem seen_put (D : Dk) (j i : Nat) (b : List UInt8) : (D.put j b).seen i = if j = i then b else D.seen i := by
  simp only [Dk.seen, Dk.put, Dk.tick, List.foldl_append, List.foldl_cons, List.foldl_nil, seen1]
theorem sec_flush (n i : Nat) : ∀ (l : List (Nat × List UInt8)) (K : List UInt8), K.length = 64 * n → (∀ q ∈ l, q.1 < n ∧ q.2.length = 64) → sec (flush K l) i = l.foldl (seen1 i) (sec K i)
  | [], _, _, _ => rfl
  | q :: l, K, hK, h => by
    obtain ⟨h1, h2⟩ := h q (List.mem_cons_self ..)
    have ih := sec_flush n i l (putK K q) (putK_length K q n hK h1 h2) (fun x hx => h x (List.mem_cons_of_mem _ hx))
    show sec (flush (putK K q) l) i = _
    rw [ih, List.foldl_cons]
    congr 1
    unfold seen1
    by_cases e : q.1 = i
    · rw [if_pos e]; subst e; exact sec_put K q.1 q.2 (by omega) h2
    · rw [if_neg e]; exact sec_put_ne K q.1 i q.2 (by omega) h2 (fun e' => e e'.symm)
theorem seen_sync {D : Dk} {n : Nat} (h : D.ok n) (i : Nat) : D.sync.seen i = D.seen i := by
  have := sec_flush n i D.pend D.kept h.len h.pend
  simpa [Dk.seen, Dk.sync, sec] using this
theorem seen_new (n k : Nat) (h : k < n) : (Dk.new n).seen k = List.replicate 64 0 := by
  simp only [Dk.seen, Dk.new, List.foldl_nil, List.drop_replicate, List.take_replicate]
  congr 1; omega
end Go.Proofs.Ytepeljbgekgjcaa
