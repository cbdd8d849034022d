/- Two states below 4 with their infos of 32 bits have one word just if they are the same, and a word is clean just if its state is 0. No condition. -/
import Derived.Test.YtpblbokdeappgaaFs
import Derived.Deep.QuietTactic
import Derived.BigQuiet
namespace Go.Proofs.Ytpblbokdeappgaa.WalkWordOnes
open Go Go.RowKit Go.Proofs.Ytpblbokdeappgaa.Q Go.Proofs.Ytpblbokdeappgaa.Bits Go.Proofs.Ytpblbokdeappgaa.Fs Go.Proofs.YtpblbokdeappgaaW.PrintWords
set_option linter.unusedVariables false

theorem state_any (x : Int) (w : World) (h₀ : 0 ≤ x) (h₁ : x < 18446744073709551616) (n : Nat) :
    Calls Try.prog 12 #[.int .u64 x] (w.drewN n) fun e w' => e = .returned (.int .i64 (x % 4)) ∧ ∃ m, w' = w.drewN m :=
  (word_State.calls x (x % 4) (w.drewN n) (state_f x h₀ h₁)).mono fun e w' ⟨he, hd⟩ => ⟨he, by obtain ⟨m, hm⟩ := hd.out; exact ⟨n + m, by rw [hm, World.drewN_drewN]⟩⟩

theorem pack_any (s i : Int) (x : Int) (h : Hid (pack s i = x)) (w : World) : Calls Try.prog 10 #[.int .i64 s, .int .i64 i] w fun e w' => e = .returned (.int .u64 x) ∧ Drawn0 w w' :=
  word_Pack.calls s i x w (by rw [pack_f, h.out])

theorem below_drewN {B : Nat} {a w : World} (h : Below B a w) (n : Nat) : Below B a (w.drewN n) := ⟨h.os, h.tape, h.output, h.size, h.block⟩

set_option maxHeartbeats 2000000 in
set_option maxRecDepth 100000 in
theorem walk_at (a b c d : Int) (ha : 0 ≤ a ∧ a ≤ 4294967295) (hb : 0 ≤ b ∧ b ≤ 4294967295) (hc : 0 ≤ c ∧ c ≤ 4294967295) (hd : 0 ≤ d ∧ d ≤ 4294967295) (x y : Int) (hx : 0 ≤ x ∧ x < 18446744073709551616) (hy : 0 ≤ y ∧ y < 18446744073709551616)
    (px : Hid (pack (a % 4) b = x)) (py : Hid (pack (c % 4) d = y)) (g1 g2 g3 : Bool) (t0 : (a.tmod 4 == c.tmod 4) = g1) (t1 : (b == d) = g2) (t2 : (x == y) = (g1 && g2)) (t3 : (a.tmod 4 == 0) = g3) (t4 : (x % 4 == 0) = g3) (w : World) :
    Calls Try.prog 8 #[.agg #[.int .u32 a, .int .u32 b], .agg #[.int .u32 c, .int .u32 d]] w fun e w' => e = .returned (.bool true) ∧ Below w.heap.size w w' := by
  go_enter Try.func8, Try.ntmps8
  go_wp2_with fail
  refine (impostlaw12_awake.calls true _ awake_true).mono ?_
  rintro e w1 ⟨rfl, hb1⟩
  have c0 := hb1.cell (p := ⟨w.heap.size, 0, none⟩) (by simp; omega)
  have c1 := hb1.cell (p := ⟨w.heap.size, 1, none⟩) (by simp; omega)
  have c2 := hb1.cell (p := ⟨w.heap.size + 1, 0, none⟩) (by simp)
  have c3 := hb1.cell (p := ⟨w.heap.size + 1, 1, none⟩) (by simp)
  have HB : Hid (Below w.heap.size w w1) := (((Below.refl _ _).alloc (Nat.le_refl _) _).alloc (by simp) _).trans (hb1.mono (by simp; omega))
  clear hb1
  go_wp2_with fail
  refine (pack_any (a % 4) b x px _).mono ?_
  rintro e w2 ⟨rfl, hd2⟩
  obtain ⟨n2, rfl⟩ := hd2.out
  go_wp2_with fail
  refine (pack_any (c % 4) d y py _).mono ?_
  rintro e w3 ⟨rfl, hd3⟩
  obtain ⟨n3, hw3⟩ := hd3.out
  have HB3 : Hid (Below w.heap.size w w3) := by rw [hw3]; exact below_drewN (below_drewN HB.out _) _
  replace c0 : w3.cell? ⟨w.heap.size, 0, none⟩ = some (.int .u32 a) := by rw [hw3]; go_simp
  replace c1 : w3.cell? ⟨w.heap.size, 1, none⟩ = some (.int .u32 b) := by rw [hw3]; go_simp
  replace c2 : w3.cell? ⟨w.heap.size + 1, 0, none⟩ = some (.int .u32 c) := by rw [hw3]; go_simp
  replace c3 : w3.cell? ⟨w.heap.size + 1, 1, none⟩ = some (.int .u32 d) := by rw [hw3]; go_simp
  clear hw3 hd3 HB
  go_wp2_with fail
  cases g1 <;> cases g2 <;> cases g3
  all_goals
    simp only [Bool.and_true, Bool.and_false] at t2
    go_quiet ((go_at_call 12; exact state_any x _ hx.1 hx.2 _))
    go_wp2
    go_ret
    exact ⟨rfl, below_drewN HB3.out _⟩

theorem walk (a b c d : Int) (ha : 0 ≤ a ∧ a ≤ 4294967295) (hb : 0 ≤ b ∧ b ≤ 4294967295) (hc : 0 ≤ c ∧ c ≤ 4294967295) (hd : 0 ≤ d ∧ d ≤ 4294967295) (w : World) :
    Calls Try.prog 8 #[.agg #[.int .u32 a, .int .u32 b], .agg #[.int .u32 c, .int .u32 d]] w fun e w' => e = .returned (.bool true) ∧ Below w.heap.size w w' := by
  have e1 : a.tmod 4 = a % 4 := Int.tmod_eq_emod_of_nonneg (by omega)
  have e2 : c.tmod 4 = c % 4 := Int.tmod_eq_emod_of_nonneg (by omega)
  have p1 : pack (a % 4) b = 4 * b + a % 4 := by unfold pack; omega
  have p2 : pack (c % 4) d = 4 * d + c % 4 := by unfold pack; omega
  refine walk_at a b c d ha hb hc hd _ _ (by omega) (by omega) p1 p2 _ _ _ rfl rfl ?_ rfl ?_ w
  · rw [e1, e2, Bool.eq_iff_iff]; simp; omega
  · rw [e1, Bool.eq_iff_iff]; simp; try omega
end Go.Proofs.Ytpblbokdeappgaa.WalkWordOnes
