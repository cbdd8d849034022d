/- package mem: New, and the law's example. -/
import Derived.Test.YtllibgjajlgnbabMem
import Derived.Laws.OwnMore
namespace Go.Proofs.Ytllibgjajlgnbab.New
open Go Go.RowKit Go.Proofs.Ytllibgjajlgnbab.Only Go.Proofs.Ytllibgjajlgnbab.Mem
set_option linter.unusedVariables false
set_option linter.unusedSimpArgs false

theorem info_u64 : (Try.prog.info? 28).map (fun i => (i.zero, i.size, i.bytes)) = some (some (.int .u64 0), 1, 8) := by kernel_rfl

/-- A Mem that is known from a higher base is known from a lower one. -/
theorem lower {B B' p : Nat} {v : Value} {C : List Int} {n : Int} {w : World} (h : MemAt B p v C n w) (hB : B' ≤ B) : MemAt B' p v C n w := by
  refine ⟨Nat.le_trans hB h.base, h.blk, ?_, h.ne⟩
  obtain ⟨h1, h2⟩ := h.own
  refine ⟨h1, ?_⟩
  rcases h2 with h2 | ⟨g, cap, cur, hg, hb, r⟩
  · exact .inl h2
  · exact .inr ⟨g, cap, cur, hg, Nat.le_trans hB hb, r⟩
theorem MemAt.gbase {B p : Nat} {v : Value} {C : List Int} {n : Int} {w : World} (h : MemAt B p v C n w) {k : Nat} (hk : v.ownBlock = some k) : B ≤ k := by
  rcases h.own.2 with ⟨h2, _⟩ | ⟨g, cap, cur, hg, hb, r⟩
  · subst h2; cases hk
  · subst hg; cases hk; exact hb
theorem footB {B p : Nat} {v : Value} {C : List Int} {n : Int} {w w' : World} (h : MemAt B p v C n w) (ho : Only (Foot p v) w w') (hB : B ≤ w.heap.size) : Below B w w' :=
  ho.toBelow B hB (fun k _ hk => hk.elim (fun e => e ▸ h.base) (fun e => MemAt.gbase h e))

set_option maxHeartbeats 1000000 in
set_option maxRecDepth 100000 in
theorem new (N : Nat) (hN : N ≤ 65536) (W : World) :
    Calls Try.prog 23 #[.int .i64 N] W fun e w' => ∃ p v, e = .returned (.pointer (some ⟨p, 0, none⟩)) ∧ MemAt W.heap.size p v (List.replicate N 0) 0 w' ∧ Below W.heap.size W w' := by
  have hmk := run_make_row' (P := Try.prog) 33 28 (.int .u64 0) 8 Try.underlying33 info_u64 rfl .i64 .i64 N (by omega) (by omega)
  have b1 : decide ((N : Int) < 0) = false := by simp
  have b2 : decide ((65536 : Int) < N) = false := by simp; omega
  go_enter Try.func23, Try.ntmps23
  go_wp2
  go_ret
  refine ⟨W.heap.size + 1, .slice (some ⟨W.heap.size, 0, none⟩) N N, rfl, ⟨?_, ?_, ?_, ?_⟩, ?_⟩
  · omega
  · have := heap_alloc_new (W.alloc (.cells (madeCells #[.int .u64 0] N) 28)) (.cells #[Value.slice (some ⟨W.heap.size, 0, none⟩) N N, Value.int IntKind.i64 0] 110)
    rw [show (W.alloc (.cells (madeCells #[.int .u64 0] N) 28)).heap.size = W.heap.size + 1 by simp] at this
    exact this
  · have h := World.ownsRow_lit (base := W.heap.size) W (madeCells #[.int .u64 0] N) (size := 1) (e := 28) N (Nat.le_refl _) (by simp [maxLen]; omega) (by rw [size_madeCells]; omega)
    rw [toList_madeCells_one] at h
    have h2 := h.kept (row := none) (World.grownBy_alloc _ (.cells #[Value.slice (some ⟨W.heap.size, 0, none⟩) N N, Value.int IntKind.i64 0] 110) none) (.inr (by simp [Value.ownBlock]))
    simpa using h2
  · simp [Value.ownBlock]
  · exact ((Below.refl _ _).alloc (Nat.le_refl _) _).alloc (by simp) _

end Go.Proofs.Ytllibgjajlgnbab.New
