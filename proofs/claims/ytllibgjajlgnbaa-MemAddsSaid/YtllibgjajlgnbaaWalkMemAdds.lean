/- MemAdds: the walk. -/
import Derived.Test.YtllibgjajlgnbaaNew
import Derived.Test.YtllibgjajlgnbaaArgs
import Derived.LoopTactic
namespace Go.Proofs.Ytllibgjajlgnbaa.WalkMemAdds
open Go Go.RowKit Go.Proofs.Ytllibgjajlgnbaa.Only Go.Proofs.Ytllibgjajlgnbaa.Mem Go.Proofs.Ytllibgjajlgnbaa.New Go.Proofs.Ytllibgjajlgnbaa.Args
set_option linter.unusedVariables false
set_option linter.unusedSimpArgs false

def sumK (zs : List Int) : Nat → Int
  | 0 => 0
  | k + 1 => (sumK zs k + zs.getD k 0) % 18446744073709551616

theorem sumK_range (zs : List Int) : ∀ k, 0 ≤ sumK zs k ∧ sumK zs k ≤ 18446744073709551615
  | 0 => by simp [sumK]
  | k + 1 => by simp only [sumK]; omega

/-- The cells behind k adds to cell c. -/
def cellsK (c : Nat) (zs : List Int) (k : Nat) : List Int := (List.replicate 8 0).set c (sumK zs k)
theorem cells_zero (c : Nat) (zs : List Int) : List.replicate 8 0 = cellsK c zs 0 := by
  unfold cellsK sumK
  exact (List.set_replicate_self).symm
theorem cells_in (c : Nat) (hc : c < 8) (zs : List Int) (k : Nat) : inR (cellsK c zs k) c = true := by
  rw [inR_true]; unfold cellsK; simp; omega
theorem cells_rd (c : Nat) (hc : c < 8) (zs : List Int) (k : Nat) : rdAt (cellsK c zs k) c = sumK zs k := by
  unfold rdAt; rw [if_pos (cells_in c hc zs k)]; unfold cellsK; simp [List.getD, hc]
theorem cells_err (c : Nat) (hc : c < 8) (zs : List Int) (k : Nat) : errAt (cellsK c zs k) c = 0 := by
  unfold errAt; rw [if_pos (cells_in c hc zs k)]
theorem cells_hit (c : Nat) (hc : c < 8) (zs : List Int) (k : Nat) : hit (cellsK c zs k) c = 1 := by
  unfold hit; rw [if_pos (cells_in c hc zs k)]
theorem cells_add (c : Nat) (hc : c < 8) (zs : List Int) (k : Nat) : addAt (cellsK c zs k) c (zs.getD k 0) = cellsK c zs (k + 1) := by
  unfold addAt setAt
  rw [if_pos (cells_in c hc zs k), cells_rd c hc]
  unfold cellsK
  simp [sumK]

set_option maxHeartbeats 2000000 in
set_option maxRecDepth 100000 in
theorem walk (V : Value) (zs : List Int) (a : Int) (ha : 0 ≤ a ∧ a ≤ 255) (W : World) (hV : Ints .u64 W V zs) :
    Calls Try.prog 3 #[V, .int .u8 a] W fun e w' => e = .returned (.bool true) ∧ Below W.heap.size W w' := by
  obtain ⟨⟨A, cap, rfl, hl, hx⟩, hr⟩ := hV
  obtain ⟨c, rfl⟩ := Int.eq_ofNat_of_zero_le ha.1
  unfold maxLen at hl
  have hx := Lib.hid hx
  have hr := Lib.hid hr
  go_enter Try.func3, Try.ntmps3
  go_wp2_with fail
  refine (New.awake W).mono ?_
  rintro e w1 ⟨rfl, hb1⟩
  have hb1 := Lib.hid hb1
  go_wp2_with fail
  refine (New.new 8 (by omega) w1).mono ?_
  rintro e w2 ⟨p, v, rfl, h2, hb2⟩
  have h2 := Lib.hid h2
  have hb2 := Lib.hid hb2
  go_wp2_with fail
  rw [show ((c : Int) % 8) = ((c % 8 : Nat) : Int) from rfl]
  have hk8 : c % 8 < 8 := Nat.mod_lt _ (by omega)
  generalize c % 8 = q at *
  go_loopw [8, 9] (fun s i wr => ∃ k : Nat, k ≤ zs.length ∧ k ≤ 60 ∧ i = .int .i64 k ∧ s = .int .u64 (sumK zs k) ∧ Hid (MemAt w1.heap.size p v (cellsK q zs k) k wr) ∧ Hid (Below w1.heap.size w1 wr))
    (fun _ i _ => 60 - (intOf i).toNat)
  case atStart => exact ⟨0, by omega, by omega, rfl, rfl, by rw [← cells_zero]; exact h2, hb2⟩
  case round =>
    obtain ⟨k, hk, hk60, rfl, rfl, hm, hb⟩ := hrel
    have fin : ∀ w', Below w1.heap.size w1 w' → Hid (Below W.heap.size W w') := fun w' h => Lib.hid (hb1.out.trans (h.mono hb1.out.size))
    by_cases hlt : k < zs.length ∧ k < 60
    · obtain ⟨hlt, hlt60⟩ := hlt
      obtain ⟨x, rfl, hxb, hxc⟩ := hx.out k hlt
      have b1 : decide ((k : Int) < zs.length) = true := by simp; omega
      have b2 : decide ((k : Int) < 60) = true := by simp; omega
      have hc : wr.cell? (x.add k) = some (.int .u64 (zs.getD k 0)) := ((fin wr hb.out).out.cell (by rw [add_block]; exact hxb)).trans hxc
      have hz : zs.getD k 0 ∈ zs := by rw [List.getD, List.getElem?_eq_getElem hlt]; exact List.getElem_mem hlt
      have hz := hr.out _ hz
      have e1 := cells_rd q hk8 zs k
      have e2 := cells_err q hk8 zs k
      have e3 := cells_hit q hk8 zs k
      have e4 := cells_add q hk8 zs k
      have hs := sumK_range zs k
      have e5 : IntKind.u64.wrap (sumK zs k + zs.getD k 0) = sumK zs (k + 1) := wrap_u64 _
      have E := Lib.hid (And.intro e1 (And.intro e2 (And.intro e3 (And.intro e4 e5))))
      clear e1 e2 e3 e4 e5
      generalize zs.getD k 0 = y at *
      go_wp2_with fail
      refine (Mem.add hm.out q y (by omega) (by omega)).mono ?_
      rintro e w3 ⟨rfl, h3, ho⟩
      obtain ⟨e1, e2, e3, e4, e5⟩ := E.out
      rw [e1, e2]
      rw [e3, e4] at h3
      have hb3 := Lib.hid (hb.out.trans (footB hm.out ho hb.out.size))
      have h3 := Lib.hid h3
      have hc3 : w3.cell? (x.add k) = some (.int .u64 y) := ((fin w3 hb3.out).out.cell (by rw [add_block]; exact hxb)).trans hxc
      clear ho e1 e2 e3 e4 E
      go_wp2
      go_roundw
      case rel => exact ⟨k + 1, by omega, by omega, by go_num, by rw [← e5], h3, hb3⟩
      case measure => simp [intOf]; omega
    · have e1 := cells_rd q hk8 zs k
      have e2 := cells_err q hk8 zs k
      by_cases hlt2 : k < zs.length
      · have b1 : decide ((k : Int) < zs.length) = true := by simp; omega
        have b2 : decide ((k : Int) < 60) = false := by simp; omega
        go_wp2_with fail
        refine (Mem.load hm.out q (by omega) (by omega)).mono ?_
        rintro e w3 ⟨rfl, h3, ho⟩
        rw [e1, e2]
        have hb3 := hb.out.trans (footB hm.out ho hb.out.size)
        have hb3 := fin _ hb3
        clear ho
        go_wp2
        go_ret
        exact ⟨rfl, hb3.out⟩
      · have b1 : decide ((k : Int) < zs.length) = false := by simp; omega
        go_wp2_with fail
        refine (Mem.load hm.out q (by omega) (by omega)).mono ?_
        rintro e w3 ⟨rfl, h3, ho⟩
        rw [e1, e2]
        have hb3 := hb.out.trans (footB hm.out ho hb.out.size)
        have hb3 := fin _ hb3
        clear ho
        go_wp2
        go_ret
        exact ⟨rfl, hb3.out⟩
end Go.Proofs.Ytllibgjajlgnbaa.WalkMemAdds
