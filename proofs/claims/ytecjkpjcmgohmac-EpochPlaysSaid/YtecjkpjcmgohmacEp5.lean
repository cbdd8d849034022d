/- A pool: Repeat, New. -/
import Derived.Test.YtecjkpjcmgohmacEp4
import Derived.Laws.CopyOwn
import Derived.Deep.OwnRows
import Derived.Deep.RegionLaw
namespace Go.Proofs.Ytecjkpjcmgohmac.Ep
open Go Go.RowKit Go.Maps Go.Proofs.Ytecjkpjcmgohmac.Only
set_option linter.unusedVariables false
set_option linter.unusedSimpArgs false

/-- Of c cells m are -1. -/
def part (c m : Nat) : List Value := List.replicate m (Value.int .i64 (-1)) ++ List.replicate (c - m) (.int .i64 0)
theorem part_len (c m : Nat) (h : m ≤ c) : (part c m).length = c := by unfold part; simp; omega
theorem part_at (c m j : Nat) (h : j < m) : (part c m)[j]? = some (.int .i64 (-1)) := by
  unfold part
  rw [List.getElem?_append_left (by simp; omega)]
  simp [h]
theorem part_splice (c m k : Nat) (h : m + k ≤ c) : splice (part c m) m (List.replicate k (.int .i64 (-1))) = part c (m + k) := by
  unfold splice part
  rw [List.take_left' (by simp)]
  rw [List.length_replicate, List.drop_append, List.drop_of_length_le (by simp)]
  simp only [List.length_replicate, List.nil_append, List.drop_replicate]
  rw [← List.append_assoc, List.replicate_append_replicate]
  congr 2
  omega
theorem part_made (c : Nat) : part c 0 = (madeCells #[.int .i64 0] c).toList := by
  rw [toList_madeCells_one]
  unfold part
  simp
theorem hsz_int : (Try.prog.info? 3).map (·.size) = some 1 := by kernel_rfl
theorem cell_of {w : World} {g : Nat} {L : List Value} {T : TypeId} (h : w.heap[g]? = some (.cells L.toArray T (0, 0))) {j : Nat} {v : Value} (hj : L[j]? = some v) : w.cell? ((⟨g, 0, none⟩ : Addr).add j) = some v := by
  have e : (⟨g, 0, none⟩ : Addr).add j = ⟨g, j, none⟩ := by unfold Addr.add; split <;> simp_all
  rw [e]
  simp [World.cell?, h, hj]
set_option maxHeartbeats 8000000 in
set_option maxRecDepth 100000 in
theorem repeats (c : Nat) (hc : 1 ≤ c) (h8 : c ≤ 8) (g0 : Nat) (w : World) (hx : w.cell? ⟨g0, 0, none⟩ = some (.int .i64 (-1))) :
    Calls Try.prog 32 #[.slice (some ⟨g0, 0, none⟩) 1 1, .int .i64 c] w fun e w' => e = .returned (.slice (some ⟨w.heap.size, 0, none⟩) c c) ∧ w'.heap[w.heap.size]? = some (.cells (part c c).toArray 3 (0, 0)) ∧ Below w.heap.size w w' := by
  have hM := Try.bits_Mul 1 c (by omega) (by omega) w
  have m1 : 1 * c / 18446744073709551616 = 0 := by omega
  have m2 : 1 * c % 18446744073709551616 = c := by omega
  rw [m1, m2] at hM
  have mk : (Instr.makeSlice 32 (.int .i64 c) (.int .i64 c)).run Try.prog w = .ok (.slice (some ⟨w.heap.size, 0, none⟩) c c) (w.alloc (.cells (madeCells #[.int .i64 0] c) 3)) := run_make_row' (P := Try.prog) 32 3 (.int .i64 0) 8 Try.underlying32 info_int rfl .i64 .i64 c (by omega) (by omega) w
  have hg0 : (w.alloc (.cells (madeCells #[.int .i64 0] c) 3)).heap[w.heap.size]? = some (.cells (part c 0).toArray 3 (0, 0)) := by
    rw [part_made]
    simpa using heap_alloc_new w (.cells (madeCells #[.int .i64 0] c) 3)
  have hb0 : Below w.heap.size w (w.alloc (.cells (madeCells #[.int .i64 0] c) 3)) := (Below.refl _ _).alloc (Nat.le_refl _) _
  have hlt0 : g0 < w.heap.size := by
    simp only [World.cell?] at hx
    split at hx
    · rename_i h; exact lt_of_heap h
    · cases hx
  have hx1 : ∀ j v, [Value.int .i64 (-1)][j]? = some v → (w.alloc (.cells (madeCells #[.int .i64 0] c) 3)).cell? ((⟨g0, 0, none⟩ : Addr).add j) = some v := by
    intro j v hj
    match j, hj with
    | 0, hj =>
      simp at hj
      subst hj
      exact (hb0.cell (p := ⟨g0, 0, none⟩) hlt0).trans hx
    | j + 1, hj => simp at hj
  have hmin : [Value.int .i64 (-1)].length = Nat.min 1 c := (Nat.min_eq_left hc).symm
  have hfit : 0 + [Value.int .i64 (-1)].length ≤ (part c 0).length := by rw [part_len _ _ (by omega)]; exact (by omega : 0 + 1 ≤ c)
  have one_one : ∀ v ∈ [Value.int .i64 (-1)], v.oneCell' = true := ints_one [-1]
  replace hmin := Lib.hid hmin
  replace hfit := Lib.hid hfit
  replace one_one := Lib.hid one_one
  have b1 : decide ((c : Int) < 0) = false := by simp
  have b2 : decide ((9223372036854775807 : Int) < (c : Int)) = false := decide_eq_false (by omega)
  replace hM := Lib.hid hM
  replace hg0 := Lib.hid hg0
  replace hb0 := Lib.hid hb0
  replace hx1 := Lib.hid hx1
  clear m1 m2 hx
  go_enter Try.func32, Try.ntmps32
  go_wp2_with fail
  refine hM.out.mono ?_
  rintro e w' ⟨rfl, rfl⟩
  go_wp2_with (first
    | (with_reducible refine wpList_copy_splice (o := ⟨some 33, _, _, _, _, _⟩) rfl (.tmp 31) (.tmp 32) 32 32 rfl 3 Try.underlying32 hsz_int _ _ c c 1 1 rfl rfl w'.heap.size 0 (part c 0) 3 hg0.out [.int .i64 (-1)] hmin.out (fun _ => ⟨rfl, _, rfl, hx1.out⟩) hfit.out one_one.out w'.heap.size w' hb0.out (Nat.le_refl _) ?_; intro w2 hg2 hb2)
    | go_in)
  have hg2' := hg2.out
  rw [show [Value.int .i64 (-1)] = List.replicate 1 (.int .i64 (-1)) from rfl, part_splice c 0 1 (by omega)] at hg2'
  replace hg2' := Lib.hid hg2'
  replace hb2 := Lib.hid hb2
  clear hg2 hmin hfit
  go_wp2_with fail
  go_loopw [8] (fun nv wr => ∃ m : Nat, 1 ≤ m ∧ m ≤ c ∧ nv = .int .i64 m ∧ Hid (wr.heap[w'.heap.size]? = some (.cells (part c m).toArray 3 (0, 0))) ∧ Hid (Below w'.heap.size w' wr))
    (fun nv _ => c - (intOf nv).toNat)
  case atStart => exact ⟨1, by omega, hc, rfl, hg2', hb2⟩
  case round =>
    clear hg2' hb2
    obtain ⟨m, hm1, hmc, rfl, hg, hb⟩ := hrel
    by_cases hlt : m < c
    · have b3 : decide ((m : Int) < (c : Int)) = true := by simp; omega
      obtain ⟨k, hk⟩ : ∃ k, Nat.min m (c - m) = k := ⟨_, rfl⟩
      have hk1 : 1 ≤ k ∧ k ≤ m ∧ m + k ≤ c := by rw [← hk]; simp [Nat.min_def]; split <;> omega
      have hn : (List.replicate k (Value.int .i64 (-1))).length = Nat.min m (c - m) := by rw [List.length_replicate, hk]
      have hs : ∀ j v, (List.replicate k (Value.int .i64 (-1)))[j]? = some v → wr.drew.cell? ((⟨w'.heap.size, 0, none⟩ : Addr).add j) = some v := by
        intro j v hj
        obtain ⟨hjl, e⟩ := List.getElem?_eq_some_iff.1 hj
        simp at hjl e
        subst e
        exact cell_of (w := wr.drew) hg.out (part_at c m j (by omega))
      have hf : m + (List.replicate k (Value.int .i64 (-1))).length ≤ (part c m).length := by rw [part_len _ _ hmc, List.length_replicate]; omega
      have h1 : ∀ v ∈ List.replicate k (Value.int .i64 (-1)), v.oneCell' = true := fun v hv => by rw [List.eq_of_mem_replicate hv]; rfl
      have hsp := part_splice c m k hk1.2.2
      have hlen : (List.replicate k (Value.int .i64 (-1))).length = k := List.length_replicate
      have b4 : decide ((m : Int) ≤ (c : Int)) = true := by simp; omega
      generalize List.replicate k (Value.int .i64 (-1)) = cs at *
      replace hs := Lib.hid hs
      replace hf := Lib.hid hf
      replace h1 := Lib.hid h1
      replace hn := Lib.hid hn
      replace hsp := Lib.hid hsp
      replace hk := Lib.hid hk
      replace hlen := Lib.hid hlen
      go_wp2_with fail
      go_region_law (refine step_copy_splice rfl (.tmp 41) (.tmp 44) 32 32 rfl 3 Try.underlying32 hsz_int (some ⟨w'.heap.size, m, none⟩) (some ⟨w'.heap.size, 0, none⟩) (c - m) (c - m) m c (by simp [Act.eval, Act.put]; omega) (by simp [Act.eval, Act.put]) w'.heap.size m (part c m) 3 hg.out cs hn.out (fun _ => ⟨rfl, _, rfl, hs.out⟩) hf.out h1.out w'.heap.size w' (below_drew hb.out) (Nat.le_refl _) ?_; intro w4 hg4 hb4)
      rw [hlen.out]
      have hg5 := hg4.out
      rw [hsp.out] at hg5
      replace hg5 := Lib.hid hg5
      replace hb4 := Lib.hid hb4
      have e9 : IntKind.i64.wrap ((m : Int) + (k : Int)) = ((m + k : Nat) : Int) := by rw [IntWalk.i64_in _ (by omega)]; omega
      rw [e9]
      clear hg4
      go_wp2
      go_roundw
      case rel => exact ⟨m + k, by omega, by omega, by simp, hg5⟩
      case measure => simp [intOf]; omega
    · have b3 : decide ((m : Int) < (c : Int)) = false := by simp; omega
      obtain rfl : m = c := by omega
      go_wp2
      go_ret
      exact ⟨rfl, hg.out, hb.out⟩

def newI (c : Nat) : List Int := List.replicate c (-1)
theorem part_full (c : Nat) : part c c = (newI c).map (Value.int .i64) := by unfold part newI; simp
/-- What New leaves. -/
def Newed (c : Nat) (w : World) (e : Ending) (w' : World) : Prop :=
  ∃ pb mb vin, e = .returned (.pointer (some ⟨pb, 0, none⟩)) ∧ PoolR w.heap.size pb mb vin (newI c) 0 [] w' ∧ Below w.heap.size w w'
set_option maxHeartbeats 4000000 in
set_option maxRecDepth 100000 in
theorem new (c : Nat) (hc : 1 ≤ c) (h8 : c ≤ 8) (w : World) :
    Calls Try.prog 20 #[.int .i64 c] w (Newed c w) := by
  have RP := repeats c hc h8 w.heap.size (w.alloc (.cells #[.int .i64 (-1)] 3)) (by simp)
  have b1 : decide ((c : Int) < 1) = false := decide_eq_false (by omega)
  have b2 : decide ((8 : Int) < (c : Int)) = false := decide_eq_false (by omega)
  have hmm := @run_makeMap Try.prog
  replace RP := Lib.hid RP
  go_enter Try.func20, Try.ntmps20
  go_wp2_with fail
  refine RP.out.mono ?_
  rintro e w2 ⟨rfl, h2, b2'⟩
  have bw := Lib.hid (((Below.refl _ _).alloc (Nat.le_refl _) _).trans (b2'.mono (by simp)) : Below w.heap.size w w2)
  have h2' := Lib.hid h2
  have b2' := Lib.hid b2'
  clear RP h2
  go_wp2
  go_ret
  have hw1 : (w.alloc (.cells #[.int .i64 (-1)] 3)).heap.size = w.heap.size + 1 := by simp
  have h2 := h2'.out
  rw [hw1] at h2
  have hl2 := lt_of_heap h2
  have hbb := bw.out.size
  have h3 : ((w2.alloc (.map #[] 0)).alloc (.cells #[.slice (some ⟨w.heap.size + 1, 0, none⟩) c c, .int .i64 0, .map (some w2.heap.size)] 52)).heap[w.heap.size + 1]? = some (.cells (part c c).toArray 3 (0, 0)) :=
    (heap_alloc_old _ _ (by simp; omega)).trans ((heap_alloc_old _ _ hl2).trans h2)
  refine ⟨w2.heap.size + 1, w2.heap.size, .slice (some ⟨w.heap.size + 1, 0, none⟩) c c, rfl, ⟨?_, ?_, ?_, fun g hg => by simp at hg, fun g hg => by simp at hg, by simp, fun g hg => by simp at hg, by omega, hbb⟩, (bw.out.alloc hbb _).alloc (by simp; omega) _⟩
  · have := heap_alloc_new (w2.alloc (.map #[] 0)) (.cells #[.slice (some ⟨w.heap.size + 1, 0, none⟩) c c, .int .i64 0, .map (some w2.heap.size)] 52)
    simpa using this
  · have hlen : (newI c).length = c := by unfold newI; simp
    rw [hlen]
    refine ⟨by rw [List.length_map, hlen]; simp, .inr ⟨w.heap.size + 1, c, (part c c).toArray, rfl, by omega, h3, Nat.le_refl _, by unfold maxLen; omega, ?_, ?_⟩⟩
    · simp [part_len c c (Nat.le_refl _)]
    · rw [part_full]
      show List.take (c * 1) _ = _
      rw [List.take_of_length_le (by simp [hlen])]
  · have h4 := World.ownsMap_made w2 Try.prog 3 heldR
    exact h4.alloc _
theorem new_bad (c : Int) (hc : c < 1 ∨ 8 < c) (w : World) : Calls Try.prog 20 #[.int .i64 c] w fun e w' => e = .returned (.pointer none) ∧ w = w' := by
  by_cases h1 : c < 1
  · have b1 : decide (c < 1) = true := decide_eq_true h1
    go_enter Try.func20, Try.ntmps20
    go_wp2
    go_ret
    exact ⟨rfl, rfl⟩
  · have b1 : decide (c < 1) = false := decide_eq_false h1
    have b2 : decide (8 < c) = true := decide_eq_true (by omega)
    go_enter Try.func20, Try.ntmps20
    go_wp2
    go_ret
    exact ⟨rfl, rfl⟩
end Go.Proofs.Ytecjkpjcmgohmac.Ep
