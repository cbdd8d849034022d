/- The law's word: what a claim, or a note, thinks its cell has. Laid by gendoring.py. -/
import Derived.Test.YtllibgjajlgnbabRingRef4
namespace Go.Proofs.Ytllibgjajlgnbab.RingDo
open Go Go.RowKit Go.Proofs.Ytllibgjajlgnbab.Only Go.Proofs.Ytllibgjajlgnbab.Mem Go.Proofs.Ytllibgjajlgnbab.New Go.Proofs.Ytllibgjajlgnbab.Ref Go.Proofs.Ytllibgjajlgnbab.Ring Go.Proofs.Ytllibgjajlgnbab.RingRef
set_option linter.unusedVariables false
set_option linter.unusedSimpArgs false

def wordD (D : List Int) (row N raw : Int) (odd : Bool) : Int := if odd then raw else lookW D row N

theorem cell11 {w : World} {j : Nat} {c0 c1 c2 c3 c4 c5 c6 c7 c8 c9 c10 : Value} {T : TypeId} (h : w.heap[j]? = some (.cells #[c0, c1, c2, c3, c4, c5, c6, c7, c8, c9, c10] T (0, 0))) :
    w.cell? ⟨j, 0, none⟩ = some c0 ∧ w.cell? ⟨j, 1, none⟩ = some c1 ∧ w.cell? ⟨j, 2, none⟩ = some c2 ∧ w.cell? ⟨j, 3, none⟩ = some c3 ∧ w.cell? ⟨j, 4, none⟩ = some c4 ∧ w.cell? ⟨j, 5, none⟩ = some c5 ∧ w.cell? ⟨j, 6, none⟩ = some c6 ∧ w.cell? ⟨j, 7, none⟩ = some c7 ∧ w.cell? ⟨j, 8, none⟩ = some c8 ∧ w.cell? ⟨j, 9, none⟩ = some c9 ∧ w.cell? ⟨j, 10, none⟩ = some c10 := by
  simp [World.cell?, h]

set_option maxHeartbeats 4000000 in
set_option maxRecDepth 100000 in
theorem word (s : Value) (D : List Int) (w : World) (B : Nat) (h : RefAt B s D w) (hl : D.length = 35) (hD : ∀ x ∈ D, 0 ≤ x ∧ x ≤ 18446744073709551615) (hB : B ≤ w.heap.size) (cnt : Int) (hc : 0 ≤ cnt ∧ cnt < 4611686018427387904) (row : Int) (hrow : row = 0 ∨ row = 1) (k N wh a0 a1 a2 d0 d1 d2 raw : Int) (odd : Bool) (hN : -9223372036854775808 ≤ N ∧ N ≤ 9223372036854775807) :
    Calls Try.prog 48 #[.agg #[s, .int .i64 cnt, .int .i64 2], .int .i64 row, .agg #[.int .i64 k, .int .i64 N, .int .i64 wh, .int .i64 a0, .int .i64 a1, .int .i64 a2, .int .i64 d0, .int .i64 d1, .int .i64 d2, .int .u64 raw, .bool odd]] w fun e w' => e = .returned (.int .u64 (wordD D row N raw odd)) ∧ Below w.heap.size w w' := by
  obtain ⟨A, cap, rfl, hcap⟩ := own_any h.own
  have hb2 : Below w.heap.size w ((w.alloc (.cells #[.slice A D.length cap, .int .i64 cnt, .int .i64 2] 37)).alloc (.cells #[.int .i64 k, .int .i64 N, .int .i64 wh, .int .i64 a0, .int .i64 a1, .int .i64 a2, .int .i64 d0, .int .i64 d1, .int .i64 d2, .int .u64 raw, .bool odd] 43)) := ((Below.refl _ _).alloc (Nat.le_refl _) _).alloc (by simp) _
  have G : ((w.alloc (.cells #[.slice A D.length cap, .int .i64 cnt, .int .i64 2] 37)).alloc (.cells #[.int .i64 k, .int .i64 N, .int .i64 wh, .int .i64 a0, .int .i64 a1, .int .i64 a2, .int .i64 d0, .int .i64 d1, .int .i64 d2, .int .u64 raw, .bool odd] 43)).heap[w.heap.size + 1]? = some (.cells #[.int .i64 k, .int .i64 N, .int .i64 wh, .int .i64 a0, .int .i64 a1, .int .i64 a2, .int .i64 d0, .int .i64 d1, .int .i64 d2, .int .u64 raw, .bool odd] 43 (0, 0)) := by
    have := heap_alloc_new (w.alloc (.cells #[.slice A D.length cap, .int .i64 cnt, .int .i64 2] 37)) (.cells #[.int .i64 k, .int .i64 N, .int .i64 wh, .int .i64 a0, .int .i64 a1, .int .i64 a2, .int .i64 d0, .int .i64 d1, .int .i64 d2, .int .u64 raw, .bool odd] 43)
    simpa using this
  have h2 := h.below hb2
  have G := Lib.hid G
  have hb2 := Lib.hid hb2
  replace hl := Lib.hid hl
  clear h
  go_enter Try.func48, Try.ntmps48
  go_wp2_with fail
  refine (RingRef.look _ D _ B h2 hl.out hD (Nat.le_trans hB hb2.out.size) cnt hc row N hrow hN).mono ?_
  rintro e w3 ⟨s', rfl, h3⟩
  obtain ⟨A3, cap3, hs3, hcap3⟩ := own_any h3.ref.own
  subst hs3
  have G3 := (h3.bel.block _ (lt_of_heap G.out)).trans G.out
  have hb3 := Lib.hid (hb2.out.trans (h3.bel.mono hb2.out.size))
  obtain ⟨g0, g1, g2, g3, g4, g5, g6, g7, g8, g9, g10⟩ := cell11 G3
  have hl3 := lt_of_heap G3
  clear h3 h2 G3
  cases odd with
  | true =>
    go_wp2
    go_ret
    exact ⟨rfl, hb3.out.alloc (by omega) _⟩
  | false =>
    go_wp2
    go_ret
    exact ⟨rfl, hb3.out.alloc (by omega) _⟩
end Go.Proofs.Ytllibgjajlgnbab.RingDo
