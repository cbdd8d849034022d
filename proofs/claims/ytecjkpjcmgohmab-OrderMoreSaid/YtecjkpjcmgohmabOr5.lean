/- fits: the calls of one key. -/
import Derived.Test.YtecjkpjcmgohmabOr4
import Derived.Laws.EntriesVeiled
namespace Go.Proofs.Ytecjkpjcmgohmab.Or
open Go Go.RowKit Go.Maps Go.Proofs.Ytecjkpjcmgohmab.Only Go.Proofs.Ytecjkpjcmgohmab.Pu Go.Proofs.YtecjkpjcmgohmabW.PrintLast
set_option linter.unusedVariables false
set_option linter.unusedSimpArgs false

theorem ub0 : ub 0 = fun _ => true := by funext i; unfold ub; simp
/-- What the calls of one key answer. -/
def fitB (l : List C) (b : Bool) : Bool := can does l l.length (fun _ => true) b
theorem four_blocks (w : World) (u : Value) : ∃ w4, w4 = ((((w.alloc (.cells #[u] 25)).alloc (.map #[] 0)).alloc (.cells #[.map (some (w.heap.size + 1))] 48)).alloc (.cells #[.nilFunc] 49)) ∧
    w4.heap[w.heap.size]? = some (.cells #[u] 25 (0, 0)) ∧ w4.ownsMap Try.prog 51 heldR (w.heap.size + 1) 0 (.map []) ∧ w4.heap[w.heap.size + 1 + 1]? = some (.cells #[.map (some (w.heap.size + 1))] 48 (0, 0)) ∧
    w4.heap[w.heap.size + 1 + 1 + 1]? = some (.cells #[.nilFunc] 49 (0, 0)) ∧ Below w.heap.size w w4 := by
  have s1 : (w.alloc (.cells #[u] 25)).heap.size = w.heap.size + 1 := by simp
  have m := World.ownsMap_made (w.alloc (.cells #[u] 25)) Try.prog 51 heldR
  rw [s1] at m
  refine ⟨_, rfl, ?_, (m.alloc _).alloc _, ?_, ?_, ?_⟩
  · rw [heap_alloc_old _ _ (by simp; omega), heap_alloc_old _ _ (by simp; omega), heap_alloc_old _ _ (by simp)]
    exact heap_alloc_new w _
  · rw [heap_alloc_old _ _ (by simp)]
    have := heap_alloc_new ((w.alloc (.cells #[u] 25)).alloc (.map #[] 0)) (.cells #[.map (some (w.heap.size + 1))] 48)
    simpa using this
  · have := heap_alloc_new (((w.alloc (.cells #[u] 25)).alloc (.map #[] 0)).alloc (.cells #[.map (some (w.heap.size + 1))] 48)) (.cells #[.nilFunc] 49)
    simpa using this
  · exact ((((Below.refl _ _).alloc (Nat.le_refl _) _).alloc (by simp) _).alloc (by simp; omega) _).alloc (by simp; omega) _
theorem cell_of {w : World} {k : Nat} {u : Value} {T : TypeId} (h : w.heap[k]? = some (.cells #[u] T (0, 0))) : w.cell? ⟨k, 0, none⟩ = some u ∧ w.frozen? ⟨k, 0, none⟩ = false := by simp [World.cell?, World.frozen?, h]
set_option maxHeartbeats 4000000 in
set_option maxRecDepth 100000 in
theorem fitsC {w : World} {B : Nat} {v : Value} {l : List C} (h : Own w B v l) (hl : l.length ≤ 12) (hv : ∀ c ∈ l, ahd c c = false) (b : Bool) :
    Calls Try.prog 18 #[.bool b, v] w fun e w' => e = .returned (.bool (fitB l b)) ∧ Below w.heap.size w w' := by
  have hmm := @run_makeMap Try.prog
  have hmf : ∀ (fn : Fn) (first cap : Array Value) (w : World), (Instr.makeFunc fn first cap).run Try.prog w = .ok (.func fn first cap) w := fun _ _ _ _ => rfl
  obtain ⟨A, cap, rfl, -, -⟩ := own_any h
  have hlow : ∀ k, (Value.slice A l.length cap).ownBlock = some k → k < w.heap.size := fun k hk => (own_blk h hk).2.1
  go_enter Try.func18, Try.ntmps18
  go_upto_region 3 with fail
  obtain ⟨w4, e4, b0, M, b2, b3, hb⟩ := four_blocks w (.slice A l.length cap)
  rw [← e4]
  clear e4
  obtain ⟨x0, -⟩ := cell_of b0
  obtain ⟨x2, -⟩ := cell_of b2
  obtain ⟨x3, y3⟩ := cell_of b3
  go_upto_region 4 with fail
  obtain ⟨w5, e5, o5⟩ : ∃ w5, w5 = w4.setCell ⟨w.heap.size + 1 + 1 + 1, 0, none⟩ (Value.func (.func 23) #[] #[.pointer (some ⟨w.heap.size + 1 + 1, 0, none⟩), .pointer (some ⟨w.heap.size, 0, none⟩), .pointer (some ⟨w.heap.size + 1 + 1 + 1, 0, none⟩)]) ∧ Only (fun k => k = w.heap.size + 1 + 1 + 1) w4 w5 := ⟨_, rfl, (refl (fun k => k = w.heap.size + 1 + 1 + 1) w4).setCell (p := ⟨w.heap.size + 1 + 1 + 1, 0, none⟩) (fun _ => rfl) _⟩
  rw [← e5]
  have hb5 : Below w.heap.size w w5 := hb.trans (o5.toBelow _ hb.size (fun k _ e => by have e : k = _ := e; omega))
  have E : Env w5 (w.heap.size + 1 + 1) w.heap.size (w.heap.size + 1 + 1 + 1) (w.heap.size + 1) (.slice A l.length cap) l := ⟨
    (o5.cell (p := ⟨w.heap.size + 1 + 1, 0, none⟩) (cell_lt x2) (fun e : w.heap.size + 1 + 1 = w.heap.size + 1 + 1 + 1 => by omega)).trans x2,
    (o5.cell (p := ⟨w.heap.size, 0, none⟩) (cell_lt x0) (fun e : w.heap.size = w.heap.size + 1 + 1 + 1 => by omega)).trans x0,
    by rw [e5]; exact Go.World.cell?_setCell_same w4 _ _ x3,
    own_mono (own_below h (hb5)) (Nat.zero_le _), by omega, by omega, by omega, fun e => by have := hlow _ e; omega⟩
  have M5 : w5.ownsMap Try.prog 51 heldR (w.heap.size + 1) 0 (.map []) := by rw [e5]; exact M.setCell (fun e : w.heap.size + 1 = w.heap.size + 1 + 1 + 1 => by omega) _
  have h13 : 13 ^ l.length ≤ 13 ^ 12 := Nat.pow_le_pow_right (by omega) hl
  have LK := look hl hv l.length 0 b w5 0 (.map []) [] (rem_le _ _) hl (Nat.pow_pos (by omega)) E M5 seen_nil (by omega) (fun q hq => by simp at hq)
  have c3 := E.c3
  unfold Looked at LK
  have hk : okB l 0 b = fitB l b := by unfold okB fitB; rw [ub0]
  rw [hk] at LK
  replace LK := Lib.hid LK
  have hc : ((0 : Nat) : Int) = 0 := rfl
  clear E M5 e5 x0 x2 x3 y3 M b0 b2 b3 hk
  replace hb5 := Lib.hid hb5
  replace hb := Lib.hid hb
  go_wp2_with (refine LK.out.mono ?_; rintro e w6 ⟨rfl, o6, -⟩)
  go_ret
  exact ⟨rfl, hb5.out.trans (o6.toBelow _ hb5.out.size (fun k _ e => by have e : k = _ := e; omega))⟩
end Go.Proofs.Ytecjkpjcmgohmab.Or
