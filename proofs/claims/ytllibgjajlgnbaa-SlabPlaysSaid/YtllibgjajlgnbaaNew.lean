/- package mem: New, and the law's example. -/
import Derived.Test.YtllibgjajlgnbaaMem
import Derived.Laws.OwnMore
namespace Go.Proofs.Ytllibgjajlgnbaa.New
open Go Go.RowKit Go.Proofs.Ytllibgjajlgnbaa.Only Go.Proofs.Ytllibgjajlgnbaa.Mem
set_option linter.unusedVariables false
set_option linter.unusedSimpArgs false

theorem info_u64 : (Try.prog.info? 26).map (fun i => (i.zero, i.size, i.bytes)) = some (some (.int .u64 0), 1, 8) := by kernel_rfl

/-- A Mem that is known from a higher base is known from a lower one. -/
theorem lower {B B' p : Nat} {v : Value} {C : List Int} {n : Int} {w : World} (h : MemAt B p v C n w) (hB : B' ≤ B) : MemAt B' p v C n w := by
  refine ⟨Nat.le_trans hB h.base, h.blk, ?_, h.ne⟩
  obtain ⟨h1, h2⟩ := h.own
  refine ⟨h1, ?_⟩
  rcases h2 with h2 | ⟨g, cap, cur, hg, hb, r⟩
  · exact .inl h2
  · exact .inr ⟨g, cap, cur, hg, Nat.le_trans hB hb, r⟩
theorem MemAt.gbase {B p : Nat} {v : Value} {C : List Int} {n : Int} {w : World} (h : MemAt B p v C n w) {k : Nat} (hk : v.ownBlock = some k) : B ≤ k := by
  rcases h.own.2 with ⟨h2, _⟩ | ⟨g, cap, cur, hg, hb, r⟩
  · subst h2; cases hk
  · subst hg; cases hk; exact hb
theorem footB {B p : Nat} {v : Value} {C : List Int} {n : Int} {w w' : World} (h : MemAt B p v C n w) (ho : Only (Foot p v) w w') (hB : B ≤ w.heap.size) : Below B w w' :=
  ho.toBelow B hB (fun k _ hk => hk.elim (fun e => e ▸ h.base) (fun e => MemAt.gbase h e))

set_option maxHeartbeats 1000000 in
set_option maxRecDepth 100000 in
theorem new (N : Nat) (hN : N ≤ 65536) (W : World) :
    Calls Try.prog 14 #[.int .i64 N] W fun e w' => ∃ p v, e = .returned (.pointer (some ⟨p, 0, none⟩)) ∧ MemAt W.heap.size p v (List.replicate N 0) 0 w' ∧ Below W.heap.size W w' := by
  have hmk := run_make_row' (P := Try.prog) 22 26 (.int .u64 0) 8 Try.underlying22 info_u64 rfl .i64 .i64 N (by omega) (by omega)
  have b1 : decide ((N : Int) < 0) = false := by simp
  have b2 : decide ((65536 : Int) < N) = false := by simp; omega
  go_enter Try.func14, Try.ntmps14
  go_wp2
  go_ret
  refine ⟨W.heap.size + 1, .slice (some ⟨W.heap.size, 0, none⟩) N N, rfl, ⟨?_, ?_, ?_, ?_⟩, ?_⟩
  · omega
  · have := heap_alloc_new (W.alloc (.cells (madeCells #[.int .u64 0] N) 26)) (.cells #[Value.slice (some ⟨W.heap.size, 0, none⟩) N N, Value.int IntKind.i64 0] 80)
    rw [show (W.alloc (.cells (madeCells #[.int .u64 0] N) 26)).heap.size = W.heap.size + 1 by simp] at this
    exact this
  · have h := World.ownsRow_lit (base := W.heap.size) W (madeCells #[.int .u64 0] N) (size := 1) (e := 26) N (Nat.le_refl _) (by simp [maxLen]; omega) (by rw [size_madeCells]; omega)
    rw [toList_madeCells_one] at h
    have h2 := h.kept (row := none) (World.grownBy_alloc _ (.cells #[Value.slice (some ⟨W.heap.size, 0, none⟩) N N, Value.int IntKind.i64 0] 80) none) (.inr (by simp [Value.ownBlock]))
    simpa using h2
  · simp [Value.ownBlock]
  · exact ((Below.refl _ _).alloc (Nat.le_refl _) _).alloc (by simp) _

set_option maxHeartbeats 2000000 in
set_option maxRecDepth 100000 in
theorem awake (W : World) : Calls Try.prog 13 #[] W fun e w' => e = .returned (.bool true) ∧ Below W.heap.size W w' := by
  go_enter Try.func13, Try.ntmps13
  go_wp2_with fail
  refine (new 4 (by omega) W).mono ?_
  rintro e w1 ⟨p, v, rfl, h1, hb1⟩
  have s1 := hb1.size
  go_wp2_with fail
  refine (Mem.store h1 3 5 (by omega) (by omega)).mono ?_
  rintro e w2 ⟨rfl, h2, ho⟩
  have hb2 := Lib.hid (hb1.trans (footB h1 ho s1))
  have s2 := Nat.le_trans s1 ho.size
  rw [show errAt (List.replicate 4 0) 3 = 0 from rfl]
  rw [show setAt (List.replicate 4 0) 3 5 = [0, 0, 0, 5] from rfl, show 0 + hit (List.replicate 4 0) 3 = 1 from rfl] at h2
  clear ho
  go_wp2_with fail
  refine (Mem.cas h2 3 5 7 (by omega) (by omega)).mono ?_
  rintro e w3 ⟨rfl, h3, ho⟩
  have hb3 := Lib.hid (hb2.out.trans (footB h2 ho s2))
  have s3 := Nat.le_trans s2 ho.size
  rw [show rdAt [0, 0, 0, 5] 3 = 5 from rfl, show casB [0, 0, 0, 5] 3 5 = true from rfl]
  rw [show casAt [0, 0, 0, 5] 3 5 7 = [0, 0, 0, 7] from rfl, show 1 + hit [0, 0, 0, 5] 3 = 2 from rfl] at h3
  clear ho
  go_wp2_with fail
  refine (Mem.cas h3 3 5 9 (by omega) (by omega)).mono ?_
  rintro e w4 ⟨rfl, h4, ho⟩
  have hb4 := Lib.hid (hb3.out.trans (footB h3 ho s3))
  have s4 := Nat.le_trans s3 ho.size
  rw [show rdAt [0, 0, 0, 7] 3 = 7 from rfl, show casB [0, 0, 0, 7] 3 5 = false from rfl]
  rw [show casAt [0, 0, 0, 7] 3 5 9 = [0, 0, 0, 7] from rfl, show 2 + hit [0, 0, 0, 7] 3 = 3 from rfl] at h4
  clear ho
  go_wp2_with fail
  refine (Mem.add h4 3 1 (by omega) (by omega)).mono ?_
  rintro e w5 ⟨rfl, h5, ho⟩
  have hb5 := Lib.hid (hb4.out.trans (footB h4 ho s4))
  have s5 := Nat.le_trans s4 ho.size
  rw [show rdAt [0, 0, 0, 7] 3 = 7 from rfl, show errAt [0, 0, 0, 7] 3 = 0 from rfl]
  rw [show addAt [0, 0, 0, 7] 3 1 = [0, 0, 0, 8] from rfl, show 3 + hit [0, 0, 0, 7] 3 = 4 from rfl] at h5
  clear ho
  go_wp2_with fail
  refine (Mem.load h5 3 (by omega) (by omega)).mono ?_
  rintro e w6 ⟨rfl, h6, ho⟩
  have hb6 := Lib.hid (hb5.out.trans (footB h5 ho s5))
  have s6 := Nat.le_trans s5 ho.size
  rw [show rdAt [0, 0, 0, 8] 3 = 8 from rfl, show errAt [0, 0, 0, 8] 3 = 0 from rfl]
  rw [show 4 + hit [0, 0, 0, 8] 3 = 5 from rfl] at h6
  clear ho h1 h2 h3 h4 h5
  go_wp2_with fail
  refine (Mem.count h6).mono ?_
  rintro e w7 ⟨rfl, rfl⟩
  go_wp2_with fail
  refine (Mem.len h6).mono ?_
  rintro e w8 ⟨rfl, rfl⟩
  go_wp2
  go_ret
  exact ⟨rfl, hb6.out⟩
end Go.Proofs.Ytllibgjajlgnbaa.New
