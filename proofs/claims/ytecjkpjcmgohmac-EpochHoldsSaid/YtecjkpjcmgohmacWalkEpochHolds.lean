/- EpochHolds: what is retired while a thread is inside stays as long as that thread. Laid by genholds.py. -/
import Derived.Test.YtecjkpjcmgohmacEpLaw2
namespace Go.Proofs.Ytecjkpjcmgohmac.WalkEpochHolds
open Go Go.RowKit Go.Maps Go.Proofs.Ytecjkpjcmgohmac.Only Go.Proofs.Ytecjkpjcmgohmac.Ep Go.Proofs.Ytecjkpjcmgohmac.EpRef Go.Proofs.Ytecjkpjcmgohmac.EpDo Go.Proofs.Ytecjkpjcmgohmac.Args
set_option linter.unusedVariables false
set_option linter.unusedSimpArgs false

def noY (ds : List (List Int)) (k : Nat) : Prop := ∀ j, j < k → (deedOf (ds.getD j [])).x ≠ 1152921504606846976
def D3' (q : Nat) (dk dt dx : Int) (w : World) : Prop := w.heap[q]? = some (.cells #[.int .i64 dk, .int .i64 dt, .int .u64 dx] 31 (0, 0))
theorem not_mem_getD {l : List Int} {y : Int} (h : y ∉ l) {i : Nat} (hi : i < l.length) : ¬ l.getD i 0 = y := by
  intro e
  apply h
  rw [← e]
  simp [List.getD, hi]
theorem Ep.PoolR.box_ne {B pb mb : Nat} {vin : Value} {inn : List Int} {ep : Int} {G : List Grp} {w : World} (h : PoolR B pb mb vin inn ep G w) {q : Nat} {a b c : Int} (hx : D3' q a b c w) : ¬ PoolF pb mb vin G q := by
  rintro (e | e | e | ⟨g, hg, e⟩)
  · exact ty_ne (by decide) hx h.blk e
  · exact h.map_ne hx e
  · exact own_ty h.inn hx (by decide) e
  · exact own_ty (h.rows g hg) hx (by decide) e
set_option maxHeartbeats 16000000 in
set_option maxRecDepth 2000000 in
theorem walk (V : Value) (ds : List (List Int)) (M : Value) (es : List (List Int)) (t : Int) (ht : 0 ≤ t ∧ t ≤ 255) (W : World) (hV : Structs ks3 W V ds) (hM : Structs ks3 W M es) :
    Calls Try.prog 6 #[V, M, .int .u8 t] W fun e w' => e = .returned (.bool true) ∧ Below W.heap.size W w' := by
  obtain ⟨A, cap, rfl, hl, -⟩ := hM.shape
  obtain ⟨A', cap', rfl, hl', -⟩ := hV.shape
  unfold maxLen at hl hl'
  have hV := Lib.hid hV
  have hM := Lib.hid hM
  obtain ⟨q, hq, hq4⟩ : ∃ q : Nat, t % 4 = (q : Int) ∧ q < 4 := ⟨(t % 4).toNat, by omega, by omega⟩
  go_enter Try.func6, Try.ntmps6
  go_wp2_with fail
  refine (awake W).mono ?_
  rintro e wA ⟨rfl, hbA⟩
  have sA := hbA.size
  have hVA := Lib.hid (structs_below hV.out hbA)
  have hMA := Lib.hid (structs_below hM.out hbA)
  replace hbA := Lib.hid hbA
  go_wp2_with fail
  refine (ran _ ds wA hVA.out).mono ?_
  rintro e w1 ⟨pb, mb, vin, inn, ep, G, kr, rfl, p1, pb1, b1, hre⟩
  have P : Pl wA pb mb vin 80 inn ep G w1 := ⟨p1, pb1, b1⟩
  replace P := Lib.hid P
  replace hre := Lib.hid hre
  clear p1 pb1 b1
  go_wp2_with fail
  go_loopw [10] (fun iv wr => ∃ (k : Nat), k ≤ ds.length ∧ iv = .int .i64 k ∧ Hid (noY ds k) ∧ Hid (Pl wA pb mb vin 80 inn ep G wr))
    (fun iv _ => ds.length - (intOf iv).toNat)
  case atStart => exact ⟨0, by omega, rfl, Lib.hid (fun j hj => by omega), P⟩
  case round =>
    clear P
    obtain ⟨k, hk, rfl, hno, P⟩ := hrel
    by_cases hlt : k < ds.length
    · obtain ⟨x, rfl, -, -, hdc⟩ := deedCells hVA.out hlt
      have b1 : decide ((k : Int) < ds.length) = true := by simp; omega
      obtain ⟨⟨f0, f1, f2⟩, -⟩ := hdc wr P.out.bel
      clear hdc
      by_cases hy : (deedOf (ds.getD k [])).x = 1152921504606846976
      · have fin := Lib.hid (hbA.out.trans (P.out.bel.mono sA))
        rw [hy] at f2
        clear hy
        go_wp2
        go_ret
        exact ⟨rfl, fin.out⟩
      · have nx : noY ds (k + 1) := fun j hj => by
          by_cases e : j = k
          · rw [e]; exact hy
          · exact hno.out j (by omega)
        replace nx := Lib.hid nx
        generalize (deedOf (ds.getD k [])).x = z at *
        have n1 : decide (z = 1152921504606846976) = false := decide_eq_false hy
        have n1' : (z == 1152921504606846976) = false := by exact n1
        clear hy
        go_wp2
        go_roundw
        case rel => exact ⟨k + 1, by omega, by go_num, nx, P⟩
        case measure => simp [intOf]; omega
    · obtain rfl : k = ds.length := by omega
      have b1 : decide ((ds.length : Int) < (ds.length : Int)) = false := by simp
      have hn0 := Reach.noX hre.out (y := 1152921504606846976) hno.out
      have hok := hre.out.inOk
      have he0 := hre.out.ep0
      have hn1 : ∀ g ∈ keptG ep G, (1152921504606846976 : Int) ∉ g.xs := fun g hg => hn0 g (List.mem_filter.1 hg).1
      have hql : q < inn.length := by rw [P.out.b.len]; exact hq4
      obtain ⟨v, St⟩ := Stay.enter hql he0 hok
      have C1 := Lib.hid (freeB P.out.p P.out.b (by omega) P.out.bel.size)
      replace hn1 := Lib.hid hn1
      replace St := Lib.hid St
      clear hn0 hok hre hno hql
      go_wp2_with fail
      refine C1.out.mono ?_
      rintro e w3 ⟨v3, rfl, -, p3, o3⟩
      have P3 := Lib.hid (P.out.next p3 o3 P.out.b.free)
      clear p3 o3 C1 P
      have C1 := Lib.hid (Ep.enter P3.out.p q)
      go_wp2_with fail
      refine C1.out.mono ?_
      rintro e w4 ⟨rfl, p4, o4⟩
      have P4 := Lib.hid (P3.out.next p4 o4 (P3.out.b.enter q))
      clear p4 o4 C1 P3
      generalize enterI inn ep (q : Int) = inn at *
      have C1 := Lib.hid (retireB P4.out.p P4.out.b (by omega) P4.out.bel.size 1152921504606846976)
      go_wp2_with fail
      refine C1.out.mono ?_
      rintro e w5 ⟨rfl, v5, p5, o5, -⟩
      have P5 := Lib.hid (P4.out.next p5 o5 (P4.out.b.retire P4.out.p.asc v5 _))
      have Hd : Hid (Held 1152921504606846976 v _) := Lib.hid (Held.new v5 hn1.out St.out.le)
      generalize (cut (keptG ep G) ep ++ [⟨ep, v5, xsOf (keptG ep G) ep ++ [1152921504606846976]⟩]) = G at *
      clear p5 o5 C1 P4 hn1
      go_wp2_with fail
      go_loopw [11] (fun iv wr => ∃ (k : Nat) (inn : List Int) (ep : Int) (G : List Grp), k ≤ es.length ∧ k ≤ 80 ∧ iv = .int .i64 k ∧ Hid (Stay q v inn ep) ∧ Hid (Held 1152921504606846976 v G) ∧ Hid (Pl wA pb mb vin (81 + k) inn ep G wr))
        (fun iv _ => 80 - (intOf iv).toNat)
      case atStart => exact ⟨0, _, _, _, by omega, by omega, rfl, St, Hd, P5⟩
      case round =>
        clear St P5 Hd
        obtain ⟨k, inn, ep, G, hk, hk80, rfl, St, Hd, P⟩ := hrel
        by_cases hlt : k < es.length ∧ k < 80
        · obtain ⟨hlt, hlt80⟩ := hlt
          obtain ⟨x, rfl, -, -, hdc⟩ := deedCells hMA.out hlt
          generalize deedOf (es.getD k []) = dd at *
          obtain ⟨dk, dt, dx⟩ := dd
          dsimp only at hdc
          have b1 : decide ((k : Int) < es.length) = true := by simp; omega
          have b2 : decide ((k : Int) < 80) = true := by simp; omega
          obtain ⟨⟨f0, f1, f2⟩, hxb⟩ := hdc wr P.out.bel
          clear hdc
          have sr := P.out.bel.size
          have P1 : Pl wA pb mb vin (81 + k) inn ep G (wr.alloc (.cells #[.int .i64 dk, .int .i64 dt, .int .u64 dx] 31)) := P.out.below ((Below.refl _ _).alloc (Nat.le_refl _) _)
          have B1 : D3' wr.heap.size dk dt dx (wr.alloc (.cells #[.int .i64 dk, .int .i64 dt, .int .u64 dx] 31)) := heap_alloc_new wr _
          replace P1 := Lib.hid P1
          replace B1 := Lib.hid B1
          go_upto_region 18 with fail
          generalize (wr.alloc (.cells #[.int .i64 dk, .int .i64 dt, .int .u64 dx] 31)) = w6 at *
          generalize wr.heap.size = qb at *
          obtain ⟨⟨g0, g1, g2⟩, -⟩ := cells3 B1.out
          have hqb := lt_of_heap B1.out
          clear f0 f1 f2 hxb P
          have s6 := P1.out.bel.size
          by_cases hsk : dk = 2 ∧ dt = q
          · have nx := Lib.hid (P1.out.mono (m := 81 + (k + 1)) (by omega))
            have n1 : decide (dk = 2) = true := decide_eq_true hsk.1
            have n1' : (dk == 2) = true := by exact n1
            have n2 : decide (dt = (q : Int)) = true := decide_eq_true hsk.2
            have n2' : (dt == (q : Int)) = true := by exact n2
            clear hsk
            go_wp2
            go_roundw
            case rel => exact ⟨k + 1, _, _, _, by omega, by omega, by go_num, St, Hd, nx⟩
            case measure => simp [intOf]; omega
          by_cases hy : dx = 1152921504606846976
          · have nx := Lib.hid (P1.out.mono (m := 81 + (k + 1)) (by omega))
            have n3 : decide (dx = 1152921504606846976) = true := decide_eq_true hy
            have n3' : (dx == 1152921504606846976) = true := by exact n3
            replace hy := Lib.hid hy
            have hgo : (dk ≠ 2) ∨ (dk = 2 ∧ dt ≠ q) := by omega
            rcases hgo with h2 | ⟨h2, h3⟩
            · have n2 : decide (dk = 2) = false := decide_eq_false h2
              have n2' : (dk == 2) = false := by exact n2
              clear h2 hsk
              go_wp2
              go_roundw
              case rel => exact ⟨k + 1, _, _, _, by omega, by omega, by go_num, St, Hd, nx⟩
              case measure => simp [intOf]; omega
            · have n1 : decide (dk = 2) = true := decide_eq_true h2
              have n1' : (dk == 2) = true := by exact n1
              have n2 : decide (dt = (q : Int)) = false := decide_eq_false h3
              have n2' : (dt == (q : Int)) = false := by exact n2
              clear h2 h3 hsk
              go_wp2
              go_roundw
              case rel => exact ⟨k + 1, _, _, _, by omega, by omega, by go_num, St, Hd, nx⟩
              case measure => simp [intOf]; omega
          · have n3 : decide (dx = 1152921504606846976) = false := decide_eq_false hy
            have n3' : (dx == 1152921504606846976) = false := by exact n3
            have hgo : (dk ≠ 2) ∨ (dk = 2 ∧ dt ≠ q) := by omega
            replace hy := Lib.hid hy
            replace hsk := Lib.hid hsk
            by_cases hin : 1 ≤ dk ∧ dk ≤ 4
            · have m1 : decide (1 ≤ dk) = true := decide_eq_true hin.1
              have m2 : decide (dk ≤ 4) = true := decide_eq_true hin.2
              clear hin
              have hdo : ∀ {w' : World} (P' : Pl wA pb mb vin (81 + k) inn ep G w') {vI vR : Value} {w4 : World} (b4 : Below w'.heap.size w' w4) (r4 : RefP w'.heap.size vI (newI 4) vR [] w4), Calls Try.prog 14 #[.pointer (some ⟨pb, 0, none⟩), .agg (xv vI 0 vR), .agg #[.int .i64 dk, .int .i64 dt, .int .u64 dx]] w4 (Did wA.heap.size pb mb vin inn ep G (newI 4) 0 [] ⟨dk, dt, dx⟩ w4) := fun {w'} P' {vI vR w4} b4 r4 =>
                doAny (P'.fresh b4 r4) P'.b ((RB.new 4 (by omega)).mono (by omega)) (by omega) (by omega) (by omega) (Nat.le_trans P'.bel.size b4.size) ⟨dk, dt, dx⟩
              have hdo := Lib.hid (fun w' P' vI vR w4 => @hdo w' P' vI vR w4)
              have P2 := Lib.hid (P1.out.below (below_drew (Below.refl _ _)))
              have B2 : Hid (D3' qb dk dt dx w6.drew) := B1
              rcases hgo with h2 | ⟨h2, h3⟩
              · have n2 : decide (dk = 2) = false := decide_eq_false h2
                have n2' : (dk == 2) = false := by exact n2
                clear h2
                go_wp2_with fail
                go_region_held3 (fun w' => w'.cell? ⟨qb, 0, none⟩ = some (.int .i64 dk) ∧ w'.cell? ⟨qb, 1, none⟩ = some (.int .i64 dt) ∧ w'.cell? ⟨qb, 2, none⟩ = some (.int .u64 dx))
                  (first | go_keep | exact S5)
                  (first
                    | (go_at_call 15 ; refine (rnew 4 (by omega) _).mono ?_ ; rintro e w7 ⟨vI, rfl, r4, b4⟩ ; obtain ⟨AI, cI, e1, -⟩ := own_any' r4.i ; subst e1 ; have B7 : D3' qb dk dt dx w7 := (b4.block _ (lt_of_heap B2.out)).trans B2.out ; have S5 := (cells3 B7).1 ; have P4 := Lib.hid (P2.out.below b4) ; have D4 := Lib.hid (hdo.out _ P2.out _ _ _ b4 r4) ; replace B7 := Lib.hid B7 ; replace r4 := Lib.hid r4 ; replace b4 := Lib.hid b4 ; unfold xv)
                    | (go_at_call 14 ; refine D4.out.mono ?_ ; rintro e w8 ⟨inn5, ep5, G5, vI5, vR5, ans, rfl, sp5, b5, -, o5⟩ ; have P5 := P4.out.step sp5 b5 o5 ; have B8 : D3' qb dk dt dx w8 := (o5.block _ (lt_of_heap B7.out) (fun hF => (Ep.PoolR.box_ne P4.out.p B7.out) hF)).trans B7.out ; have S5 := (cells3 B8).1 ; replace P5 := Lib.hid P5 ; have St5 := Lib.hid (St.out.step sp5 hsk.out) ; have Hd5 := Lib.hid (Hd.out.step St.out P4.out.p.asc sp5 hy.out) ; clear sp5 b5 o5 B8))
                go_wp2
                go_roundw
                case rel => exact ⟨k + 1, _, _, _, by omega, by omega, by go_num, St5, Hd5, P5⟩
                case measure => simp [intOf]; omega
              · have n1 : decide (dk = 2) = true := decide_eq_true h2
                have n1' : (dk == 2) = true := by exact n1
                have n2 : decide (dt = (q : Int)) = false := decide_eq_false h3
                have n2' : (dt == (q : Int)) = false := by exact n2
                clear h2 h3
                go_wp2_with fail
                go_region_held3 (fun w' => w'.cell? ⟨qb, 0, none⟩ = some (.int .i64 dk) ∧ w'.cell? ⟨qb, 1, none⟩ = some (.int .i64 dt) ∧ w'.cell? ⟨qb, 2, none⟩ = some (.int .u64 dx))
                  (first | go_keep | exact S5)
                  (first
                    | (go_at_call 15 ; refine (rnew 4 (by omega) _).mono ?_ ; rintro e w7 ⟨vI, rfl, r4, b4⟩ ; obtain ⟨AI, cI, e1, -⟩ := own_any' r4.i ; subst e1 ; have B7 : D3' qb dk dt dx w7 := (b4.block _ (lt_of_heap B2.out)).trans B2.out ; have S5 := (cells3 B7).1 ; have P4 := Lib.hid (P2.out.below b4) ; have D4 := Lib.hid (hdo.out _ P2.out _ _ _ b4 r4) ; replace B7 := Lib.hid B7 ; replace r4 := Lib.hid r4 ; replace b4 := Lib.hid b4 ; unfold xv)
                    | (go_at_call 14 ; refine D4.out.mono ?_ ; rintro e w8 ⟨inn5, ep5, G5, vI5, vR5, ans, rfl, sp5, b5, -, o5⟩ ; have P5 := P4.out.step sp5 b5 o5 ; have B8 : D3' qb dk dt dx w8 := (o5.block _ (lt_of_heap B7.out) (fun hF => (Ep.PoolR.box_ne P4.out.p B7.out) hF)).trans B7.out ; have S5 := (cells3 B8).1 ; replace P5 := Lib.hid P5 ; have St5 := Lib.hid (St.out.step sp5 hsk.out) ; have Hd5 := Lib.hid (Hd.out.step St.out P4.out.p.asc sp5 hy.out) ; clear sp5 b5 o5 B8))
                go_wp2
                go_roundw
                case rel => exact ⟨k + 1, _, _, _, by omega, by omega, by go_num, St5, Hd5, P5⟩
                case measure => simp [intOf]; omega
            · have h2 : dk ≠ 2 := by omega
              have n2 : decide (dk = 2) = false := decide_eq_false h2
              have n2' : (dk == 2) = false := by exact n2
              have C1 := Lib.hid (freeB P1.out.p P1.out.b (by omega) P1.out.bel.size)
              obtain ⟨Hk, Hf⟩ := Hd.out.free St.out.ge
              replace Hk := Lib.hid Hk
              have hfl := freed_len ep G
              have hsu := P1.out.b.sum
              generalize hfr : freedL ep G = fr at *
              have hfrl : fr.length ≤ 1000 := by omega
              replace Hf := Lib.hid Hf
              clear h2 hgo hfl hsu
              have hin2 : ¬ 1 ≤ dk ∨ (1 ≤ dk ∧ ¬ dk ≤ 4) := by omega
              clear hin
              rcases hin2 with m0 | ⟨m0, m1⟩
              · have m1 : decide (1 ≤ dk) = false := decide_eq_false m0
                clear m0
                go_wp2_with fail
                refine C1.out.mono ?_
                rintro e w7 ⟨v7, rfl, l7, p7, o7⟩
                rw [hfr] at l7
                have P7 := Lib.hid (P1.out.next p7 o7 P1.out.b.free)
                obtain ⟨A7, c7, e7, -⟩ := own_any l7
                subst e7
                replace l7 := Lib.hid l7
                clear p7 o7 C1 g0 g1 g2
                go_wp2_with fail
                go_loopw [14] (fun jv wr => ∃ (j : Nat), j ≤ fr.length ∧ jv = .int .i64 j ∧ Hid (wr.ownsRow w6.heap.size 29 1 (.slice A7 fr.length c7) fr.length (fr.map (Value.int .u64))) ∧ Hid (Pl wA pb mb vin (81 + k) inn ep (keptG ep G) wr))
                  (fun jv _ => fr.length - (intOf jv).toNat)
                case atStart => exact ⟨0, by omega, rfl, l7, P7⟩
                case round =>
                  clear l7 P7
                  obtain ⟨j, hj, rfl, l7, P7⟩ := hrel
                  by_cases hjl : j < fr.length
                  · have j1 : decide ((j : Int) < fr.length) = true := by simp; omega
                    obtain ⟨g, c, e1, -, -, -, hlg, hxi, hfi⟩ := own_shape l7.out (by omega)
                    injection e1 with z1 z2 z3
                    subst z1 z3
                    have xi := hxi j hjl
                    rw [show (fr.map (Value.int .u64)).getD j (.bool false) = .int .u64 (fr.getD j 0) by simp [List.getD, hjl]] at xi
                    have ny := not_mem_getD Hf.out hjl
                    generalize fr.getD j 0 = z at *
                    have n9 : decide (z = 1152921504606846976) = false := decide_eq_false ny
                    have n9' : (z == 1152921504606846976) = false := by exact n9
                    clear ny hxi hfi
                    go_wp2
                    go_roundw
                    case rel => exact ⟨j + 1, by omega, by go_num, l7, P7⟩
                    case measure => simp [intOf]; omega
                  · have j1 : decide ((j : Int) < fr.length) = false := by simp; omega
                    have nx := Lib.hid (P7.out.mono (m := 81 + (k + 1)) (by omega))
                    go_wp2
                    go_roundw
                    case rel => exact ⟨k + 1, _, _, _, by omega, by omega, by go_num, St, Hk, nx⟩
                    case measure => simp [intOf]; omega
              · have m2 : decide (1 ≤ dk) = true := decide_eq_true m0
                have m3 : decide (dk ≤ 4) = false := decide_eq_false m1
                clear m0 m1
                go_wp2_with fail
                refine C1.out.mono ?_
                rintro e w7 ⟨v7, rfl, l7, p7, o7⟩
                rw [hfr] at l7
                have P7 := Lib.hid (P1.out.next p7 o7 P1.out.b.free)
                obtain ⟨A7, c7, e7, -⟩ := own_any l7
                subst e7
                replace l7 := Lib.hid l7
                clear p7 o7 C1 g0 g1 g2
                go_wp2_with fail
                go_loopw [14] (fun jv wr => ∃ (j : Nat), j ≤ fr.length ∧ jv = .int .i64 j ∧ Hid (wr.ownsRow w6.heap.size 29 1 (.slice A7 fr.length c7) fr.length (fr.map (Value.int .u64))) ∧ Hid (Pl wA pb mb vin (81 + k) inn ep (keptG ep G) wr))
                  (fun jv _ => fr.length - (intOf jv).toNat)
                case atStart => exact ⟨0, by omega, rfl, l7, P7⟩
                case round =>
                  clear l7 P7
                  obtain ⟨j, hj, rfl, l7, P7⟩ := hrel
                  by_cases hjl : j < fr.length
                  · have j1 : decide ((j : Int) < fr.length) = true := by simp; omega
                    obtain ⟨g, c, e1, -, -, -, hlg, hxi, hfi⟩ := own_shape l7.out (by omega)
                    injection e1 with z1 z2 z3
                    subst z1 z3
                    have xi := hxi j hjl
                    rw [show (fr.map (Value.int .u64)).getD j (.bool false) = .int .u64 (fr.getD j 0) by simp [List.getD, hjl]] at xi
                    have ny := not_mem_getD Hf.out hjl
                    generalize fr.getD j 0 = z at *
                    have n9 : decide (z = 1152921504606846976) = false := decide_eq_false ny
                    have n9' : (z == 1152921504606846976) = false := by exact n9
                    clear ny hxi hfi
                    go_wp2
                    go_roundw
                    case rel => exact ⟨j + 1, by omega, by go_num, l7, P7⟩
                    case measure => simp [intOf]; omega
                  · have j1 : decide ((j : Int) < fr.length) = false := by simp; omega
                    have nx := Lib.hid (P7.out.mono (m := 81 + (k + 1)) (by omega))
                    go_wp2
                    go_roundw
                    case rel => exact ⟨k + 1, _, _, _, by omega, by omega, by go_num, St, Hk, nx⟩
                    case measure => simp [intOf]; omega
        · have hs := Hd.out.sum
          have hsu := P.out.b.sum
          have c1 : decide ((1 : Int) ≤ ((sumL G : Nat) : Int)) = true := decide_eq_true (by omega)
          have C1 := Lib.hid (leftB P.out.p P.out.b (by omega))
          have fin := Lib.hid (fun w' (b' : Below wr.heap.size wr w') => hbA.out.trans ((P.out.below b').bel.mono sA))
          by_cases hlt2 : k < es.length
          · have b1 : decide ((k : Int) < es.length) = true := by simp; omega
            have b2 : decide ((k : Int) < 80) = false := by simp; omega
            go_wp2_with fail
            refine C1.out.mono ?_
            rintro e w' ⟨rfl, b'⟩
            have f := Lib.hid (fin.out w' b')
            go_wp2
            go_ret
            exact ⟨rfl, f.out⟩
          · have b1 : decide ((k : Int) < es.length) = false := by simp; omega
            go_wp2_with fail
            refine C1.out.mono ?_
            rintro e w' ⟨rfl, b'⟩
            have f := Lib.hid (fin.out w' b')
            go_wp2
            go_ret
            exact ⟨rfl, f.out⟩
end Go.Proofs.Ytecjkpjcmgohmac.WalkEpochHolds
