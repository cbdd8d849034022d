/- EpochOnce: as much is free, and left, as was retired. -/
import Derived.Test.YtecjkpjcmgohmacEpKit
namespace Go.Proofs.Ytecjkpjcmgohmac.WalkEpochOnce
open Go Go.RowKit Go.Maps Go.Proofs.Ytecjkpjcmgohmac.Only Go.Proofs.Ytecjkpjcmgohmac.Ep Go.Proofs.Ytecjkpjcmgohmac.Args
set_option linter.unusedVariables false
set_option linter.unusedSimpArgs false

/-- What holds at each round. -/
structure Rd (W0 : World) (pb mb : Nat) (vin : Value) (k : Nat) (i o : Int) (inn : List Int) (ep : Int) (G : List Grp) (wr : World) : Prop where
  p : PoolR W0.heap.size pb mb vin inn ep G wr
  b : PB 4 k inn ep G
  s : (sumL G : Int) = i - o
  i0 : 0 ≤ o ∧ i ≤ k
  bel : Below W0.heap.size W0 wr
set_option maxHeartbeats 16000000 in
set_option maxRecDepth 2000000 in
theorem walk (V : Value) (ds : List (List Int)) (W : World) (hV : Structs ks3 W V ds) :
    Calls Try.prog 8 #[V] W fun e w' => e = .returned (.bool true) ∧ Below W.heap.size W w' := by
  obtain ⟨A, cap, rfl, hl, -⟩ := hV.shape
  unfold maxLen at hl
  have hV := Lib.hid hV
  go_enter Try.func8, Try.ntmps8
  go_wp2_with fail
  refine (awake W).mono ?_
  rintro e wA ⟨rfl, hbA⟩
  have sA := hbA.size
  have hVA := Lib.hid (structs_below hV.out hbA)
  replace hbA := Lib.hid hbA
  go_wp2_with fail
  refine (new 4 (by omega) (by omega) wA).mono ?_
  rintro e w2 ⟨pb, mb, vin, rfl, p2, b2⟩
  have R : Rd wA pb mb vin 0 0 0 (newI 4) 0 [] w2 := ⟨p2, PB.new 4, by simp [sumL], by omega, b2⟩
  replace R := Lib.hid R
  clear p2 b2
  go_wp2_with fail
  go_loopw [5, 6, 7] (fun iv ov kv wr => ∃ (k : Nat) (i o : Int) (inn : List Int) (ep : Int) (G : List Grp), k ≤ ds.length ∧ k ≤ 80 ∧ kv = .int .i64 k ∧ iv = .int .i64 i ∧ ov = .int .i64 o ∧ Hid (Rd wA pb mb vin k i o inn ep G wr))
    (fun _ _ kv _ => 80 - (intOf kv).toNat)
  case atStart => exact ⟨0, 0, 0, _, _, _, by omega, by omega, rfl, rfl, rfl, R⟩
  case round =>
    clear R
    obtain ⟨k, i, o, inn, ep, G, hk, hk80, rfl, rfl, rfl, R⟩ := hrel
    have hi0 := R.out.i0
    have hB := R.out.bel.size
    by_cases hlt : k < ds.length ∧ k < 80
    · obtain ⟨hlt, hlt80⟩ := hlt
      obtain ⟨x, rfl, ht, hxx, hdc⟩ := deedCells hVA.out hlt
      generalize deedOf (ds.getD k []) = dd at *
      obtain ⟨dk, dt, dx⟩ := dd
      dsimp only at hdc ht hxx
      have b1 : decide ((k : Int) < ds.length) = true := by simp; omega
      have b2 : decide ((k : Int) < 80) = true := by simp; omega
      obtain ⟨⟨f0, f1, f2⟩, hxb⟩ := hdc wr R.out.bel
      have hxw : (x.add (k * 3)).block < wr.heap.size := by rw [Args.add_block]; omega
      clear hdc
      by_cases h1 : dk = 1
      · subst h1
        have C1 := Lib.hid (Ep.enter R.out.p dt)
        go_wp2_with fail
        refine C1.out.mono ?_
        rintro e w3 ⟨rfl, p3, o3⟩
        have c3 := poolB R.out.p o3 hB
        have nx : Rd wA pb mb vin (k + 1) i o _ ep G w3 := ⟨p3, (R.out.b.enter dt).mono (by omega), R.out.s, by omega, R.out.bel.trans c3⟩
        have L3 := Lib.hid (leftB p3 nx.b (by omega))
        have hs := nx.s
        have nx := Lib.hid nx
        clear R C1 o3 p3 c3
        replace hs := Lib.hid hs
        go_wp2_with fail
        refine L3.out.mono ?_
        rintro e w4 ⟨rfl, b4⟩
        have hs4 := hs.out
        have e8 : IntKind.i64.wrap (i - o) = i - o := IntWalk.i64_in _ (by omega)
        have nx4 : Rd wA pb mb vin (k + 1) i o _ _ _ w4 := ⟨nx.out.p.below b4, nx.out.b, nx.out.s, nx.out.i0, nx.out.bel.trans (b4.mono nx.out.bel.size)⟩
        rw [hs4]
        replace nx4 := Lib.hid nx4
        clear nx L3 b4 hs4 hs
        go_wp2
        go_roundw
        case rel => exact ⟨k + 1, i, o, _, _, _, by omega, by omega, by go_num, rfl, rfl, nx4⟩
        case measure => simp [intOf]; omega
      by_cases h2 : dk = 2
      · subst h2
        have C1 := Lib.hid (Ep.exit R.out.p dt)
        go_wp2_with fail
        refine C1.out.mono ?_
        rintro e w3 ⟨rfl, p3, o3⟩
        have c3 := poolB R.out.p o3 hB
        have nx : Rd wA pb mb vin (k + 1) i o _ ep G w3 := ⟨p3, (R.out.b.exit dt).mono (by omega), R.out.s, by omega, R.out.bel.trans c3⟩
        have L3 := Lib.hid (leftB p3 nx.b (by omega))
        have hs := nx.s
        have nx := Lib.hid nx
        clear R C1 o3 p3 c3
        replace hs := Lib.hid hs
        go_wp2_with fail
        refine L3.out.mono ?_
        rintro e w4 ⟨rfl, b4⟩
        have hs4 := hs.out
        have e8 : IntKind.i64.wrap (i - o) = i - o := IntWalk.i64_in _ (by omega)
        have nx4 : Rd wA pb mb vin (k + 1) i o _ _ _ w4 := ⟨nx.out.p.below b4, nx.out.b, nx.out.s, nx.out.i0, nx.out.bel.trans (b4.mono nx.out.bel.size)⟩
        rw [hs4]
        replace nx4 := Lib.hid nx4
        clear nx L3 b4 hs4 hs
        go_wp2
        go_roundw
        case rel => exact ⟨k + 1, i, o, _, _, _, by omega, by omega, by go_num, rfl, rfl, nx4⟩
        case measure => simp [intOf]; omega
      by_cases h3 : dk = 3
      · subst h3
        have C1 := Lib.hid (retireB R.out.p R.out.b (by omega) hB dx)
        have hs0' := R.out.s
        have e9 : IntKind.i64.wrap (i + 1) = i + 1 := IntWalk.i64_in _ (by omega)
        go_wp2_with fail
        refine C1.out.mono ?_
        rintro e w3 ⟨rfl, v3, p3, o3, -⟩
        have c3 := poolB R.out.p o3 hB
        have hsum := retire_sum R.out.p.asc ep v3 dx
        have hs0 := R.out.s
        have nx : Rd wA pb mb vin (k + 1) (i + 1) o _ ep _ w3 := ⟨p3, R.out.b.retire R.out.p.asc v3 dx, by rw [hsum]; omega, by omega, R.out.bel.trans c3⟩
        have L3 := Lib.hid (leftB p3 nx.b (by omega))
        have hs := nx.s
        have nx := Lib.hid nx
        clear hsum
        generalize (cut G ep ++ [⟨ep, v3, xsOf G ep ++ [dx]⟩]) = G3 at *
        clear R C1 o3 p3 c3
        replace hs := Lib.hid hs
        go_wp2_with fail
        refine L3.out.mono ?_
        rintro e w4 ⟨rfl, b4⟩
        have hs4 := hs.out
        have e8 : IntKind.i64.wrap ((i + 1) - o) = (i + 1) - o := IntWalk.i64_in _ (by omega)
        have nx4 : Rd wA pb mb vin (k + 1) (i + 1) o _ _ _ w4 := ⟨nx.out.p.below b4, nx.out.b, nx.out.s, nx.out.i0, nx.out.bel.trans (b4.mono nx.out.bel.size)⟩
        rw [hs4]
        replace nx4 := Lib.hid nx4
        clear nx L3 b4 hs4 hs
        go_wp2
        go_roundw
        case rel => exact ⟨k + 1, (i + 1), o, _, _, _, by omega, by omega, by go_num, rfl, rfl, nx4⟩
        case measure => simp [intOf]; omega
      by_cases h4 : dk = 4
      · subst h4
        have C1 := Lib.hid (advanceB R.out.p R.out.b (by omega) (by omega) (by omega))
        go_wp2_with fail
        refine C1.out.mono ?_
        rintro e w3 ⟨rfl, p3, o3⟩
        have c3 := poolB R.out.p o3 hB
        have nx : Rd wA pb mb vin (k + 1) i o inn (advE inn ep) G w3 := ⟨p3, R.out.b.adv, R.out.s, by omega, R.out.bel.trans c3⟩
        have L3 := Lib.hid (leftB p3 nx.b (by omega))
        have hs := nx.s
        have nx := Lib.hid nx
        clear R C1 o3 p3 c3
        replace hs := Lib.hid hs
        go_wp2_with fail
        refine L3.out.mono ?_
        rintro e w4 ⟨rfl, b4⟩
        have hs4 := hs.out
        have e8 : IntKind.i64.wrap (i - o) = i - o := IntWalk.i64_in _ (by omega)
        have nx4 : Rd wA pb mb vin (k + 1) i o _ _ _ w4 := ⟨nx.out.p.below b4, nx.out.b, nx.out.s, nx.out.i0, nx.out.bel.trans (b4.mono nx.out.bel.size)⟩
        rw [hs4]
        replace nx4 := Lib.hid nx4
        clear nx L3 b4 hs4 hs
        go_wp2
        go_roundw
        case rel => exact ⟨k + 1, i, o, _, _, _, by omega, by omega, by go_num, rfl, rfl, nx4⟩
        case measure => simp [intOf]; omega
      · have C1 := Lib.hid (freeB R.out.p R.out.b (by omega) hB)
        have n1 : decide (dk = 1) = false := decide_eq_false h1
        have n2 : decide (dk = 2) = false := decide_eq_false h2
        have n3 : decide (dk = 3) = false := decide_eq_false h3
        have n4 : decide (dk = 4) = false := decide_eq_false h4
        have hfl := freed_len ep G
        have hs0 := R.out.s
        have hsu := R.out.b.sum
        generalize hfr : freedL ep G = fr at *
        have e9 : IntKind.i64.wrap (o + fr.length) = o + fr.length := IntWalk.i64_in _ (by omega)
        go_wp2_with fail
        refine C1.out.mono ?_
        rintro e w3 ⟨v3, rfl, r3, p3, o3⟩
        rw [hfr] at r3
        obtain ⟨A3, c3', e3, -⟩ := own_any r3
        subst e3
        have c3 := poolB R.out.p o3 hB
        have nx : Rd wA pb mb vin (k + 1) i (o + fr.length) inn ep (keptG ep G) w3 := ⟨p3, R.out.b.free.mono (by omega), by omega, by omega, R.out.bel.trans c3⟩
        have L3 := Lib.hid (leftB p3 nx.b (by omega))
        have hs := nx.s
        have nx := Lib.hid nx
        replace hfr := Lib.hid hfr
        clear R C1 o3 p3 c3
        replace hs := Lib.hid hs
        go_wp2_with fail
        refine L3.out.mono ?_
        rintro e w4 ⟨rfl, b4⟩
        have hs4 := hs.out
        have e8 : IntKind.i64.wrap (i - (o + fr.length)) = i - (o + fr.length) := IntWalk.i64_in _ (by omega)
        have nx4 : Rd wA pb mb vin (k + 1) i (o + fr.length) _ _ _ w4 := ⟨nx.out.p.below b4, nx.out.b, nx.out.s, nx.out.i0, nx.out.bel.trans (b4.mono nx.out.bel.size)⟩
        rw [hs4]
        replace nx4 := Lib.hid nx4
        clear nx L3 b4 hs4 hs
        go_wp2
        go_roundw
        case rel => exact ⟨k + 1, i, (o + fr.length), _, _, _, by omega, by omega, by go_num, rfl, rfl, nx4⟩
        case measure => simp [intOf]; omega
    · have fin := Lib.hid (hbA.out.trans (R.out.bel.mono hbA.out.size))
      by_cases hlt2 : k < ds.length
      · have b1 : decide ((k : Int) < ds.length) = true := by simp; omega
        have b2 : decide ((k : Int) < 80) = false := by simp; omega
        go_wp2
        go_ret
        exact ⟨rfl, fin.out⟩
      · have b1 : decide ((k : Int) < ds.length) = false := by simp; omega
        go_wp2
        go_ret
        exact ⟨rfl, fin.out⟩
end Go.Proofs.Ytecjkpjcmgohmac.WalkEpochOnce
