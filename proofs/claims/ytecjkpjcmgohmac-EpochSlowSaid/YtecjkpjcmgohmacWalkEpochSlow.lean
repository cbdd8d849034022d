/- EpochSlow: as long as a thread is inside the epoch goes on once at most. -/
import Derived.Test.YtecjkpjcmgohmacEpLaw2
namespace Go.Proofs.Ytecjkpjcmgohmac.WalkEpochSlow
open Go Go.RowKit Go.Maps Go.Proofs.Ytecjkpjcmgohmac.Only Go.Proofs.Ytecjkpjcmgohmac.Ep Go.Proofs.Ytecjkpjcmgohmac.EpRef Go.Proofs.Ytecjkpjcmgohmac.EpDo Go.Proofs.Ytecjkpjcmgohmac.Args
set_option linter.unusedVariables false
set_option linter.unusedSimpArgs false

set_option maxHeartbeats 16000000 in
set_option maxRecDepth 2000000 in
theorem walk (V : Value) (ds : List (List Int)) (M : Value) (es : List (List Int)) (t : Int) (ht : 0 ≤ t ∧ t ≤ 255) (W : World) (hV : Structs ks3 W V ds) (hM : Structs ks3 W M es) :
    Calls Try.prog 3 #[V, M, .int .u8 t] W fun e w' => e = .returned (.bool true) ∧ Below W.heap.size W w' := by
  obtain ⟨A, cap, rfl, hl, -⟩ := hM.shape
  unfold maxLen at hl
  have hV := Lib.hid hV
  have hM := Lib.hid hM
  obtain ⟨q, hq, hq4⟩ : ∃ q : Nat, t % 4 = (q : Int) ∧ q < 4 := ⟨(t % 4).toNat, by omega, by omega⟩
  go_enter Try.func3, Try.ntmps3
  go_wp2_with fail
  refine (awake W).mono ?_
  rintro e wA ⟨rfl, hbA⟩
  have sA := hbA.size
  have hVA := Lib.hid (structs_below hV.out hbA)
  have hMA := Lib.hid (structs_below hM.out hbA)
  replace hbA := Lib.hid hbA
  go_wp2_with fail
  refine (ran _ ds wA hVA.out).mono ?_
  rintro e w1 ⟨pb, mb, vin, inn, ep, G, kr, rfl, p1, pb1, b1, -⟩
  have P : Pl wA pb mb vin 80 inn ep G w1 := ⟨p1, pb1, b1⟩
  replace P := Lib.hid P
  clear p1 pb1 b1
  have hql : q < inn.length := by rw [P.out.b.len]; exact hq4
  have St := Stay.fresh (ep := ep) hql P.out.b.e0
  have C1 := Lib.hid (Ep.exit P.out.p q)
  go_wp2_with fail
  refine C1.out.mono ?_
  rintro e w3 ⟨rfl, p3, o3⟩
  have P3 := Lib.hid (P.out.next p3 o3 (P.out.b.exit q))
  clear p3 o3 C1 P
  have C1 := Lib.hid (Ep.enter P3.out.p q)
  go_wp2_with fail
  refine C1.out.mono ?_
  rintro e w4 ⟨rfl, p4, o4⟩
  have P4 := Lib.hid (P3.out.next p4 o4 (P3.out.b.enter q))
  clear p4 o4 C1 P3
  generalize enterI (exitI inn (q : Int)) ep (q : Int) = inn at *
  have C1 := Lib.hid (Ep.epoch P4.out.p)
  go_wp2_with fail
  refine C1.out.mono ?_
  rintro e w' ⟨rfl, rfl⟩
  have v0 := St.v0
  have hek := P4.out.b.ek
  obtain ⟨was, hwas⟩ : ∃ was, ep = was := ⟨_, rfl⟩
  rw [show Stay q ep inn ep = Stay q was inn ep by rw [hwas]] at St
  rw [hwas] at v0 hek
  have P4' : Hid (Pl wA pb mb vin 80 inn ep G w4) := P4
  rw [hwas]
  replace St := Lib.hid St
  clear C1 hql hwas
  go_wp2_with fail
  go_loopw [11] (fun iv wr => ∃ (k : Nat) (inn : List Int) (ep : Int) (G : List Grp), k ≤ es.length ∧ k ≤ 80 ∧ iv = .int .i64 k ∧ Hid (Stay q was inn ep) ∧ Hid (Pl wA pb mb vin (80 + k) inn ep G wr))
    (fun iv _ => 80 - (intOf iv).toNat)
  case atStart => exact ⟨0, _, _, _, by omega, by omega, rfl, St, P4⟩
  case round =>
    clear St P4 P4'
    obtain ⟨k, inn, ep, G, hk, hk80, rfl, St, P⟩ := hrel
    by_cases hlt : k < es.length ∧ k < 80
    · obtain ⟨hlt, hlt80⟩ := hlt
      obtain ⟨x, rfl, -, -, hdc⟩ := deedCells hMA.out hlt
      generalize deedOf (es.getD k []) = dd at *
      obtain ⟨dk, dt, dx⟩ := dd
      dsimp only at hdc
      have b1 : decide ((k : Int) < es.length) = true := by simp; omega
      have b2 : decide ((k : Int) < 80) = true := by simp; omega
      have hxb := (hdc wA (Below.refl _ _)).2
      have hcell := Lib.hid (fun w' hb => (hdc w' hb).1)
      clear hdc
      obtain ⟨f0, f1, f2⟩ := hcell.out wr P.out.bel
      have sr := P.out.bel.size
      by_cases hsk : dk = 2 ∧ dt = q
      · obtain ⟨h2, h3⟩ := hsk
        subst h2 h3
        have nx := Lib.hid (P.out.mono (m := 80 + (k + 1)) (by omega))
        go_wp2
        go_roundw
        case rel => exact ⟨k + 1, _, _, _, by omega, by omega, by go_num, St, nx⟩
        case measure => simp [intOf]; omega
      · have hdo : ∀ {w' : World} (P' : Pl wA pb mb vin (80 + k) inn ep G w') {vI vR : Value} {w4 : World} (b4 : Below w'.heap.size w' w4) (r4 : RefP w'.heap.size vI (newI 4) vR [] w4), Calls Try.prog 14 #[.pointer (some ⟨pb, 0, none⟩), .agg (xv vI 0 vR), .agg #[.int .i64 dk, .int .i64 dt, .int .u64 dx]] w4 (Did wA.heap.size pb mb vin inn ep G (newI 4) 0 [] ⟨dk, dt, dx⟩ w4) := fun {w'} P' {vI vR w4} b4 r4 =>
          doAny (P'.fresh b4 r4) P'.b ((RB.new 4 (by omega)).mono (by omega)) (by omega) (by omega) (by omega) (Nat.le_trans P'.bel.size b4.size) ⟨dk, dt, dx⟩
        have hdo := Lib.hid (fun w' P' vI vR w4 => @hdo w' P' vI vR w4)
        have P1 := Lib.hid (P.out.below (below_drew (Below.refl _ _)))
        replace hsk : Hid (¬ (dk = 2 ∧ dt = (q : Int))) := Lib.hid hsk
        have hgo : (dk ≠ 2) ∨ (dk = 2 ∧ dt ≠ q) := by have := hsk.out; omega
        rcases hgo with h2 | ⟨h2, h3⟩
        · have n2 : decide (dk = 2) = false := decide_eq_false h2
          have n2' : (dk != 2) = true := by simp [h2]
          clear h2
          go_wp2_with fail
          go_region_held3 (fun w' => w'.cell? (x.add (k * 3)) = some (.int .i64 dk) ∧ w'.cell? ⟨(x.add (k * 3)).block, (x.add (k * 3)).off + 1, none⟩ = some (.int .i64 dt) ∧ w'.cell? ⟨(x.add (k * 3)).block, (x.add (k * 3)).off + 2, none⟩ = some (.int .u64 dx))
            (first | go_keep | exact S5)
            (first
              | (go_at_call 15 ; refine (rnew 4 (by omega) _).mono ?_ ; rintro e w4 ⟨vI, rfl, r4, b4⟩ ; obtain ⟨AI, cI, e1, -⟩ := own_any' r4.i ; subst e1 ; have S5 := hcell.out w4 (P1.out.below b4).bel ; have P4 := Lib.hid (P1.out.below b4) ; have D4 := Lib.hid (hdo.out _ P1.out _ _ _ b4 r4) ; replace r4 := Lib.hid r4 ; replace b4 := Lib.hid b4 ; unfold xv)
              | (go_at_call 14 ; refine D4.out.mono ?_ ; rintro e w5 ⟨inn5, ep5, G5, vI5, vR5, ans, rfl, sp5, b5, -, o5⟩ ; have P5 := P4.out.step sp5 b5 o5 ; have S5 := hcell.out w5 P5.bel ; replace P5 := Lib.hid P5 ; have St5 := Lib.hid (St.out.step sp5 hsk.out) ; clear sp5 b5 o5))
          go_wp2
          go_roundw
          case rel => exact ⟨k + 1, _, _, _, by omega, by omega, by go_num, St5, P5⟩
          case measure => simp [intOf]; omega
        · have n2 : decide (dk = 2) = true := decide_eq_true h2
          have n2' : (dk != 2) = false := by simp [h2]
          have n3 : decide (dt = (q : Int)) = false := decide_eq_false h3
          have n3' : (dt != (q : Int)) = true := by simp [h3]
          clear h2 h3
          go_wp2_with fail
          go_region_held3 (fun w' => w'.cell? (x.add (k * 3)) = some (.int .i64 dk) ∧ w'.cell? ⟨(x.add (k * 3)).block, (x.add (k * 3)).off + 1, none⟩ = some (.int .i64 dt) ∧ w'.cell? ⟨(x.add (k * 3)).block, (x.add (k * 3)).off + 2, none⟩ = some (.int .u64 dx))
            (first | go_keep | exact S5)
            (first
              | (go_at_call 15 ; refine (rnew 4 (by omega) _).mono ?_ ; rintro e w4 ⟨vI, rfl, r4, b4⟩ ; obtain ⟨AI, cI, e1, -⟩ := own_any' r4.i ; subst e1 ; have S5 := hcell.out w4 (P1.out.below b4).bel ; have P4 := Lib.hid (P1.out.below b4) ; have D4 := Lib.hid (hdo.out _ P1.out _ _ _ b4 r4) ; replace r4 := Lib.hid r4 ; replace b4 := Lib.hid b4 ; unfold xv)
              | (go_at_call 14 ; refine D4.out.mono ?_ ; rintro e w5 ⟨inn5, ep5, G5, vI5, vR5, ans, rfl, sp5, b5, -, o5⟩ ; have P5 := P4.out.step sp5 b5 o5 ; have S5 := hcell.out w5 P5.bel ; replace P5 := Lib.hid P5 ; have St5 := Lib.hid (St.out.step sp5 hsk.out) ; clear sp5 b5 o5))
          go_wp2
          go_roundw
          case rel => exact ⟨k + 1, _, _, _, by omega, by omega, by go_num, St5, P5⟩
          case measure => simp [intOf]; omega
    · have s1 := St.out.le
      have s2 := St.out.ge
      have c1 : decide (was ≤ ep) = true := decide_eq_true s1
      have c2 : decide (ep ≤ was + 1) = true := decide_eq_true s2
      have e9 : IntKind.i64.wrap (was + 1) = was + 1 := IntWalk.i64_in _ (by omega)
      have C1 := Lib.hid (Ep.epoch P.out.p)
      have fin := Lib.hid (hbA.out.trans (P.out.bel.mono sA))
      by_cases hlt2 : k < es.length
      · have b1 : decide ((k : Int) < es.length) = true := by simp; omega
        have b2 : decide ((k : Int) < 80) = false := by simp; omega
        go_wp2_with fail
        refine C1.out.mono ?_
        rintro e w' ⟨rfl, rfl⟩
        go_wp2_with fail
        refine C1.out.mono ?_
        rintro e w' ⟨rfl, rfl⟩
        go_wp2
        go_ret
        exact ⟨rfl, fin.out⟩
      · have b1 : decide ((k : Int) < es.length) = false := by simp; omega
        go_wp2_with fail
        refine C1.out.mono ?_
        rintro e w' ⟨rfl, rfl⟩
        go_wp2_with fail
        refine C1.out.mono ?_
        rintro e w' ⟨rfl, rfl⟩
        go_wp2
        go_ret
        exact ⟨rfl, fin.out⟩
end Go.Proofs.Ytecjkpjcmgohmac.WalkEpochSlow
