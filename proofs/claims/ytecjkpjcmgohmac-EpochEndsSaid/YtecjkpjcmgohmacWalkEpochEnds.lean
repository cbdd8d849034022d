/- EpochEnds: with nobody inside all is free behind two steps, in turn. -/
import Derived.Test.YtecjkpjcmgohmacEpLaw
namespace Go.Proofs.Ytecjkpjcmgohmac.WalkEpochEnds
open Go Go.RowKit Go.Maps Go.Proofs.Ytecjkpjcmgohmac.Only Go.Proofs.Ytecjkpjcmgohmac.Ep Go.Proofs.Ytecjkpjcmgohmac.EpRef Go.Proofs.Ytecjkpjcmgohmac.EpDo Go.Proofs.Ytecjkpjcmgohmac.Args
set_option linter.unusedVariables false
set_option linter.unusedSimpArgs false

/-- The pool with its bounds. -/
structure Pl (W0 : World) (pb mb : Nat) (vin : Value) (n : Nat) (inn : List Int) (ep : Int) (G : List Grp) (w : World) : Prop where
  p : PoolR W0.heap.size pb mb vin inn ep G w
  b : PB 4 n inn ep G
  bel : Below W0.heap.size W0 w
section
variable {W0 : World} {pb mb : Nat} {vin : Value} {n : Nat} {inn inn2 : List Int} {ep ep2 : Int} {G G2 : List Grp} {w w' : World}
theorem Pl.next (h : Pl W0 pb mb vin n inn ep G w) (p : PoolR W0.heap.size pb mb vin inn2 ep2 G2 w') (o : Only (PoolF pb mb vin G) w w') {m : Nat} (b : PB 4 m inn2 ep2 G2) : Pl W0 pb mb vin m inn2 ep2 G2 w' :=
  ⟨p, b, h.bel.trans (poolB h.p o h.bel.size)⟩
theorem Pl.below (h : Pl W0 pb mb vin n inn ep G w) (b : Below w.heap.size w w') : Pl W0 pb mb vin n inn ep G w' :=
  ⟨h.p.below b, h.b, h.bel.trans (b.mono h.bel.size)⟩
end
set_option maxHeartbeats 16000000 in
set_option maxRecDepth 2000000 in
theorem walk (V : Value) (ds : List (List Int)) (X : Value) (xs : List Int) (W : World) (hV : Structs ks3 W V ds) (hX : Ints .u64 W X xs) :
    Calls Try.prog 7 #[V, X] W fun e w' => e = .returned (.bool true) ∧ Below W.heap.size W w' := by
  obtain ⟨A, cap, rfl, hl, hxx⟩ := hX.shape
  unfold maxLen at hl
  have hV := Lib.hid hV
  have hX := Lib.hid hX
  have hxx := Lib.hid hxx
  go_enter Try.func7, Try.ntmps7
  go_wp2_with fail
  refine (awake W).mono ?_
  rintro e wA ⟨rfl, hbA⟩
  have sA := hbA.size
  have hVA := Lib.hid (structs_below hV.out hbA)
  replace hbA := Lib.hid hbA
  go_wp2_with fail
  refine (ran _ ds wA hVA.out).mono ?_
  rintro e w1 ⟨pb, mb, vin, inn, ep, G, kr, rfl, p1, pb1, b1, -⟩
  have P : Pl wA pb mb vin 80 inn ep G w1 := ⟨p1, pb1, b1⟩
  replace P := Lib.hid P
  clear p1 pb1 b1
  by_cases h50 : 50 < xs.length
  · have c50 : decide ((50 : Int) < (xs.length : Int)) = true := decide_eq_true (by omega)
    have fin := Lib.hid (hbA.out.trans (P.out.bel.mono sA))
    go_wp2
    go_ret
    exact ⟨rfl, fin.out⟩
  have c50 : decide ((50 : Int) < (xs.length : Int)) = false := decide_eq_false (by omega)
  have hT : ∀ g ∈ G, g.e ≤ ep := P.out.p.top
  replace hT := Lib.hid hT
  go_wp2_with fail
  go_loopw [7] (fun tv wr => ∃ (t : Nat) (inn : List Int), t ≤ 4 ∧ tv = .int .i64 t ∧ Hid (outTo inn t) ∧ Hid (Pl wA pb mb vin 80 inn ep G wr))
    (fun tv _ => 4 - (intOf tv).toNat)
  case atStart => exact ⟨0, inn, by omega, rfl, Lib.hid (fun j hj => by omega), P⟩
  case round =>
    clear P
    obtain ⟨t, inn, ht4, rfl, hto, P⟩ := hrel
    by_cases hlt : t < 4
    · have b1 : decide ((t : Int) < 4) = true := by simp; omega
      have C1 := Lib.hid (Ep.exit P.out.p t)
      go_wp2_with fail
      refine C1.out.mono ?_
      rintro e w3 ⟨rfl, p3, o3⟩
      have P3 := Lib.hid (P.out.next p3 o3 (P.out.b.exit t))
      have t3 := Lib.hid hto.out.step
      clear p3 o3
      go_wp2
      go_roundw
      case rel => exact ⟨t + 1, _, by omega, by go_num, t3, P3⟩
      case measure => simp [intOf]; omega
    · obtain rfl : t = 4 := by omega
      have hall : ∀ a ∈ inn, a = -1 := outTo.all (by rw [P.out.b.len]; exact hto.out)
      obtain ⟨ha, hae⟩ := adv_all (ep := ep) hall
      obtain ⟨hb, hbe⟩ := adv_all (ep := ep + 1) hall
      obtain ⟨hc, hce⟩ := adv_all (ep := ep + 1 + 1) hall
      obtain ⟨hd, hde⟩ := adv_all (ep := ep + 1 + 1 + 1) hall
      have he0 := P.out.b.e0
      have hek := P.out.b.ek
      have hkept := kept_all (ep := ep + 1 + 1) hT.out (by omega)
      replace hall := Lib.hid hall
      replace hkept := Lib.hid hkept
      replace hc := Lib.hid hc
      replace hd := Lib.hid hd
      replace hce := Lib.hid hce
      replace hde := Lib.hid hde
      have b1 : decide (((4 : Nat) : Int) < 4) = false := by simp
      have C1 := advanceB P.out.p P.out.b (by omega) (by omega) (by omega)
      rw [ha, hae] at C1
      replace C1 := Lib.hid C1
      go_wp2_with fail
      refine C1.out.mono ?_
      rintro e w3 ⟨rfl, p3, o3⟩
      have P3 := Lib.hid (P.out.next p3 o3 (by have := P.out.b.adv; rw [hae] at this; exact this))
      clear p3 o3 C1 P
      have C1 := advanceB P3.out.p P3.out.b (by omega) (by omega) (by omega)
      rw [hb, hbe] at C1
      replace C1 := Lib.hid C1
      go_wp2_with fail
      refine C1.out.mono ?_
      rintro e w4 ⟨rfl, p4, o4⟩
      have P4 := Lib.hid (P3.out.next p4 o4 (by have := P3.out.b.adv; rw [hbe] at this; exact this))
      clear p4 o4 C1 P3
      have C1 := Lib.hid (freeB P4.out.p P4.out.b (by omega) P4.out.bel.size)
      go_wp2_with fail
      refine C1.out.mono ?_
      rintro e w5 ⟨v5, rfl, -, p5, o5⟩
      rw [hkept.out] at p5
      have P5 := Lib.hid (P4.out.next p5 o5 (by have := P4.out.b.free; rw [hkept.out] at this; exact this))
      clear p5 o5 C1 P4
      have C1 := Lib.hid (leftB P5.out.p P5.out.b (by omega))
      go_wp2_with fail
      refine C1.out.mono ?_
      rintro e w6 ⟨rfl, b6⟩
      rw [show sumL [] = 0 from rfl]
      have P6 := Lib.hid (P5.out.below b6)
      clear b6 C1 P5 hkept ha hae hb hbe
      go_wp2_with fail
      go_loopw [10] (fun iv wr => ∃ (i : Nat) (G : List Grp), i ≤ xs.length ∧ iv = .int .i64 i ∧ Hid (Ones (ep + 1 + 1) (xs.take i) G) ∧ Hid (Pl wA pb mb vin (82 + i) inn (ep + 1 + 1) G wr))
        (fun iv _ => xs.length - (intOf iv).toNat)
      case atStart => exact ⟨0, _, by omega, rfl, Lib.hid (.inl ⟨rfl, rfl⟩), P6⟩
      case round =>
        clear P6
        obtain ⟨i, G, hi, rfl, hon, P6⟩ := hrel
        by_cases hlt : i < xs.length
        · have b1 : decide ((i : Int) < (xs.length : Int)) = true := by simp; omega
          obtain ⟨x, rfl, hxl, hxc⟩ := hxx.out i hlt
          have xc := ((hbA.out.trans (P6.out.bel.mono sA)).cell (by rw [add_block]; exact hxl)).trans hxc
          have C1 := Lib.hid (retireB P6.out.p P6.out.b (by omega) P6.out.bel.size (xs.getD i 0))
          have htk : xs.take (i + 1) = xs.take i ++ [xs.getD i 0] := by rw [take_next hlt]; simp [List.getD, hlt]
          replace htk := Lib.hid htk
          generalize xs.getD i 0 = y at *
          go_wp2_with fail
          refine C1.out.mono ?_
          rintro e w7 ⟨rfl, v7, p7, o7, -⟩
          have P7 := Lib.hid (P6.out.next p7 o7 (P6.out.b.retire P6.out.p.asc v7 y))
          have on7 := hon.out.step v7 y
          rw [← htk.out] at on7
          replace on7 := Lib.hid on7
          clear p7 o7 C1
          go_wp2
          go_roundw
          case rel => exact ⟨i + 1, _, by omega, by go_num, on7, P7⟩
          case measure => simp [intOf]; omega
        · obtain rfl : i = xs.length := by omega
          have hon := hon.out
          rw [List.take_length] at hon
          obtain ⟨hy1, hy2⟩ := hon.young (ep := ep + 1 + 1 + 1) (by omega)
          obtain ⟨ho1, ho2⟩ := hon.old (ep := ep + 1 + 1 + 1 + 1) (by omega)
          replace hon := Lib.hid hon
          have b1 : decide ((xs.length : Int) < (xs.length : Int)) = false := by simp
          have C1 := advanceB P6.out.p P6.out.b (by omega) (by omega) (by omega)
          rw [hc.out, hce.out] at C1
          replace C1 := Lib.hid C1
          go_wp2_with fail
          refine C1.out.mono ?_
          rintro e w7 ⟨rfl, p7, o7⟩
          have P7 := Lib.hid (P6.out.next p7 o7 (by have := P6.out.b.adv; rw [hce.out] at this; exact this))
          clear p7 o7 C1 P6
          have C1 := Lib.hid (freeB P7.out.p P7.out.b (by omega) P7.out.bel.size)
          go_wp2_with fail
          refine C1.out.mono ?_
          rintro e w8 ⟨v8, rfl, l8, p8, o8⟩
          rw [hy2] at p8
          rw [hy1] at l8
          obtain ⟨A8, c8, e8, -⟩ := own_any l8
          subst e8
          have P8 := Lib.hid (P7.out.next p8 o8 (m := 82 + xs.length + 1) (by have := P7.out.b.free; rw [hy2] at this; exact this))
          clear p8 o8 C1 P7 l8 hy1 hy2
          have C1 := advanceB P8.out.p P8.out.b (by omega) (by omega) (by omega)
          rw [hd.out, hde.out] at C1
          replace C1 := Lib.hid C1
          go_wp2_with fail
          refine C1.out.mono ?_
          rintro e w9 ⟨rfl, p9, o9⟩
          have P9 := Lib.hid (P8.out.next p9 o9 (by have := P8.out.b.adv; rw [hde.out] at this; exact this))
          clear p9 o9 C1 P8
          have C1 := Lib.hid (freeB P9.out.p P9.out.b (by omega) P9.out.bel.size)
          go_wp2_with fail
          refine C1.out.mono ?_
          rintro e wB ⟨vB, rfl, lB, pB, oB⟩
          rw [ho2] at pB
          rw [ho1] at lB
          have PB' := Lib.hid (P9.out.next pB oB (m := 82 + xs.length + 1 + 1) (by have := P9.out.b.free; rw [ho2] at this; exact this))
          have S1 := same (reads_own lB) ((reads_ints hX.out).below (hbA.out.trans (PB'.out.bel.mono sA) |>.mono (Nat.le_refl _))) (by omega) (by omega)
          rw [decide_eq_true rfl] at S1
          replace S1 := Lib.hid S1
          replace lB := Lib.hid lB
          clear pB oB C1 P9
          go_wp2_with fail
          refine S1.out.mono ?_
          rintro e wC ⟨rfl, bC⟩
          have PC := Lib.hid (PB'.out.below bC)
          have C1 := Lib.hid (leftB PC.out.p PC.out.b (by omega))
          clear S1 bC PB'
          go_wp2_with fail
          refine C1.out.mono ?_
          rintro e wD ⟨rfl, bD⟩
          rw [show sumL [] = 0 from rfl]
          have fin := Lib.hid (hbA.out.trans ((PC.out.below bD).bel.mono sA))
          clear bD C1 PC
          go_wp2
          go_ret
          exact ⟨rfl, fin.out⟩
end Go.Proofs.Ytecjkpjcmgohmac.WalkEpochEnds
