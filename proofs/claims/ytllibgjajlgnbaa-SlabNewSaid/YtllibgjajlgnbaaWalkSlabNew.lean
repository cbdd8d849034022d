/- SlabNew: a record that is taken has cells of 0. Laid by genlaws02.py. -/
import Derived.Test.YtllibgjajlgnbaaSlabKit
namespace Go.Proofs.Ytllibgjajlgnbaa.WalkSlabNew
open Go Go.RowKit Go.Proofs.Ytllibgjajlgnbaa.Only Go.Proofs.Ytllibgjajlgnbaa.Mem Go.Proofs.Ytllibgjajlgnbaa.New Go.Proofs.Ytllibgjajlgnbaa.Ref Go.Proofs.Ytllibgjajlgnbaa.Slab Go.Proofs.Ytllibgjajlgnbaa.SlabRef Go.Proofs.Ytllibgjajlgnbaa.SlabDo Go.Proofs.Ytllibgjajlgnbaa.SlabLaw Go.Proofs.Ytllibgjajlgnbaa.SlabRan Go.Proofs.Ytllibgjajlgnbaa.SlabKit Go.Proofs.Ytllibgjajlgnbaa.Args
set_option linter.unusedVariables false
set_option linter.unusedSimpArgs false

set_option maxHeartbeats 8000000 in
set_option maxRecDepth 2000000 in
theorem walk (V : Value) (ds : List (List Int)) (W : World) (hV : Structs ks5 W V ds) :
    Calls Try.prog 11 #[V] W fun e w' => e = .returned (.bool true) ∧ Below W.heap.size W w' := by
  have hV := Lib.hid hV
  go_enter Try.func11, Try.ntmps11
  go_wp2_with fail
  refine (SlabAwake.awake _).mono ?_
  rintro e wA ⟨rfl, hbA⟩
  have hVA := Lib.hid (structs_below hV.out hbA)
  replace hbA := Lib.hid hbA
  clear hV
  go_wp2_with fail
  refine (SlabRan.ran V ds _ hVA.out).mono ?_
  rintro e w2 ⟨sb, p, v, vg, vt, vr, xC, xG, xT, xR, vL, n, cnt, st, rfl, b2, I, hn0, hn1, -, -, B2⟩
  clear hVA
  obtain ⟨AC, cC, e1, -⟩ := own_any b2.x.c.own
  obtain ⟨AG, cG, e2, -⟩ := own_any b2.x.g
  obtain ⟨AT, cT, e3, -⟩ := own_any b2.x.t
  obtain ⟨AR, cR, e4, -⟩ := own_any b2.x.r
  obtain ⟨AL, cL, e5, -⟩ := own_any b2.l
  subst e1 e2 e3 e4 e5
  have hLL := I.ll
  have s2 := B2.size
  unfold bv
  go_upto_region 3 with fail
  have R : Sd w2.heap.size sb p v vg vt vr #[.pointer (some ⟨sb, 0, none⟩), .pointer (some ⟨p, 0, none⟩), .slice AC st.C.length cC, .int .i64 cnt, .int .i64 st.s.first, .int .i64 st.s.words, .slice AG st.s.gens.length cG, .slice AT st.s.taken.length cT, .slice AR st.s.row.length cR, .slice AL st.L.length cL] n st.C st.s wA (w2.alloc (.cells #[.pointer (some ⟨sb, 0, none⟩), .pointer (some ⟨p, 0, none⟩), .slice AC st.C.length cC, .int .i64 cnt, .int .i64 st.s.first, .int .i64 st.s.words, .slice AG st.s.gens.length cG, .slice AT st.s.taken.length cT, .slice AR st.s.row.length cR, .slice AL st.L.length cL] 54)) :=
    ⟨b2.sl.alloc _, heap_alloc_new w2 _, B2.alloc s2 _⟩
  have l3 := own_alloc b2.l (.cells #[.pointer (some ⟨sb, 0, none⟩), .pointer (some ⟨p, 0, none⟩), .slice AC st.C.length cC, .int .i64 cnt, .int .i64 st.s.first, .int .i64 st.s.words, .slice AG st.s.gens.length cG, .slice AT st.s.taken.length cT, .slice AR st.s.row.length cR, .slice AL st.L.length cL] 54)
  have far : ∀ k, SlF sb p v vg vt vr k → (Value.slice AL st.L.length cL).ownBlock ≠ some k := fun k hk => (b2.far k hk).2.2.2.2
  generalize (w2.alloc (.cells #[.pointer (some ⟨sb, 0, none⟩), .pointer (some ⟨p, 0, none⟩), .slice AC st.C.length cC, .int .i64 cnt, .int .i64 st.s.first, .int .i64 st.s.words, .slice AG st.s.gens.length cG, .slice AT st.s.taken.length cT, .slice AR st.s.row.length cR, .slice AL st.L.length cL] 54)) = w3 at *
  generalize w2.heap.size = q at *
  replace R := Lib.hid R
  replace l3 := Lib.hid l3
  replace far := Lib.hid far
  replace I := Lib.hid I
  clear b2 B2
  obtain ⟨⟨a0, a1, a2, a3, a4, a5, a6, a7, a8, a9⟩, -⟩ := cells10 R.out.x
  have ok := I.out.ok bd4 (by omega) (by omega)
  have L1 := Slab.live R.out.sl ok
  rw [I.out.gl] at L1
  replace L1 := Lib.hid L1
  go_wp2_with fail
  refine L1.out.mono ?_
  rintro e w4 ⟨rfl, b4⟩
  have hrl := ok.rows
  rw [I.out.gl] at hrl
  have R4 := Lib.hid (R.out.below b4)
  clear L1 R b4 ok
  have e5 : IntKind.i64.wrap (4 - (((4 : Nat) : Int) - (st.s.row.length : Int))) = (st.s.row.length : Int) := by rw [IntWalk.i64_in _ (by omega)]; omega
  have K4 := Lib.hid (And.intro R4.out (And.intro I.out (show st.s.row.length = 0 + st.s.row.length by omega)))
  clear R4
  go_upto_region 6 with fail
  rw [show (4 : Int) - (4 - (st.s.row.length : Int)) = (st.s.row.length : Int) by omega]
  obtain ⟨rl, erl⟩ : ∃ rl, st.s.row.length = rl := ⟨_, rfl⟩
  have K4 := Lib.hid (show Sd q sb p v vg vt vr #[.pointer (some ⟨sb, 0, none⟩), .pointer (some ⟨p, 0, none⟩), .slice AC st.C.length cC, .int .i64 cnt, .int .i64 st.s.first, .int .i64 st.s.words, .slice AG st.s.gens.length cG, .slice AT st.s.taken.length cT, .slice AR st.s.row.length cR, .slice AL st.L.length cL] n st.C st.s wA w4 ∧ SlabLaw.Inv 3 3 4 60 st ∧ rl = 0 + st.s.row.length from ⟨K4.out.1, K4.out.2.1, by omega⟩)
  rw [show ((st.s.row.length : Nat) : Int) = (rl : Int) by rw [erl]]
  replace erl := Lib.hid erl
  have hrl' : rl ≤ 4 := by have := erl.out; omega
  clear e5 hrl
  go_wp2_with fail
  go_loopw [6] (fun i wr => ∃ (k : Nat) (vr : Value) (n : Int) (st' : St), k ≤ rl ∧ i = .int .i64 k ∧ 0 ≤ n ∧ n ≤ 4000000 + 6 * k ∧ Hid (Sd q sb p v vg vt vr #[.pointer (some ⟨sb, 0, none⟩), .pointer (some ⟨p, 0, none⟩), .slice AC st.C.length cC, .int .i64 cnt, .int .i64 st.s.first, .int .i64 st.s.words, .slice AG st.s.gens.length cG, .slice AT st.s.taken.length cT, .slice AR st.s.row.length cR, .slice AL st.L.length cL] n st'.C st'.s wA wr ∧ SlabLaw.Inv 3 3 4 (60 + k) st' ∧ rl = k + st'.s.row.length))
    (fun i _ => rl - (intOf i).toNat)
  case atStart => exact ⟨0, _, _, _, by omega, rfl, hn0, by omega, K4⟩
  case round =>
    clear K4
    obtain ⟨k, vr, n, st', hk, rfl, hn0, hn1, K⟩ := hrel
    clear a0 a1 a2 a3 a4 a5 a6 a7 a8 a9
    obtain ⟨⟨a0, a1, a2, a3, a4, a5, a6, a7, a8, a9⟩, -⟩ := cells10 K.out.1.x
    have ok' := K.out.2.1.ok bd4 (by omega) (by omega)
    by_cases hlt : k < rl
    · have b1 : decide ((k : Int) < (rl : Int)) = true := by simp; omega
      obtain ⟨px, t, hrow⟩ : ∃ px t, st'.s.row = px :: t := by
        cases hr : st'.s.row with
        | nil => have := K.out.2.2; rw [hr] at this; simp at this; omega
        | cons px t => exact ⟨px, t, rfl⟩
      have A1 := Slab.alloc K.out.1.sl ok' (by omega) px t hrow (Nat.le_refl _)
      have I5 := K.out.2.1.alloc bd4
      obtain ⟨hr0, hr1, fr⟩ := fresh K.out.2.1 bd4 (by omega) hrow
      have ew := K.out.2.1.words
      have er := row_alloc hrow
      have e1 : zeros st'.C (st'.s.first + px * st'.s.words) st'.s.words.toNat = (allocS' st').C := by unfold allocS'; rw [hrow]
      have e2 : allocS st'.s px t = (allocS' st').s := by unfold allocS'; rw [hrow]
      have hlen : rl = k + 1 + t.length := by have := K.out.2.2; rw [hrow] at this; simp at this; omega
      unfold Allocd at A1
      generalize refOf px (st'.s.gens.getD px.toNat 0 + 1) = r at *
      rw [e1, e2] at A1
      rw [ew] at A1
      generalize allocS' st' = st5 at *
      replace A1 := Lib.hid A1
      replace I5 := Lib.hid I5
      replace fr := Lib.hid fr
      replace er := Lib.hid er
      replace hlen := Lib.hid hlen
      have ok5 := Lib.hid (I5.out.ok bd4 (by omega) (by omega))
      clear ok' ew e1 e2 hrow
      go_wp2_with fail
      refine A1.out.mono ?_
      rintro e w5 ⟨rfl, vr5, n5, n5a, n5b, -, sl5, o5⟩
      have R5 := K.out.1.step sl5 o5
      clear A1 a0 a1 a2 a3 a4 a5 a6 a7 a8 a9
      replace R5 := Lib.hid R5
      clear sl5 o5
      go_wp2_with fail
      go_loopw [9] (fun i wq => ∃ (k2 : Nat) (n' : Int), k2 ≤ 3 ∧ i = .int .i64 k2 ∧ n5 ≤ n' ∧ n' ≤ n5 + k2 ∧ Hid (Sd q sb p v vg vt vr5 #[.pointer (some ⟨sb, 0, none⟩), .pointer (some ⟨p, 0, none⟩), .slice AC st.C.length cC, .int .i64 cnt, .int .i64 st.s.first, .int .i64 st.s.words, .slice AG st.s.gens.length cG, .slice AT st.s.taken.length cT, .slice AR st.s.row.length cR, .slice AL st.L.length cL] n' st5.C st5.s wA wq))
        (fun i _ => 3 - (intOf i).toNat)
      case atStart => exact ⟨0, n5, by omega, rfl, by omega, by omega, R5⟩
      case round =>
        clear R5
        obtain ⟨k2, n', hk2, rfl, m1, m2, R6⟩ := hrel
        obtain ⟨⟨a0, a1, a2, a3, a4, a5, a6, a7, a8, a9⟩, -⟩ := cells10 R6.out.x
        by_cases hlt2 : k2 < 3
        · have b2 : decide ((k2 : Int) < 3) = true := by simp; omega
          obtain ⟨cn, c1, c2, c3, c4, c5, c6⟩ := fr.out k2 (by omega)
          have C1 := Slab.cell R6.out.sl ok5.out r k2 ⟨hr0, hr1⟩ (by omega)
          rw [c1, c2] at C1
          have M1 := fun (w7 : World) (b7 : Below _ _ w7) => Mem.load (R6.out.below b7).sl.mem cn (by omega) (by omega)
          rw [c3, c4] at M1
          have hh := hit_le st5.C cn
          replace C1 := Lib.hid C1
          replace M1 := Lib.hid M1
          clear c1 c2 c3 c4
          go_wp2_with fail
          refine C1.out.mono ?_
          rintro e w7 ⟨rfl, b7⟩
          have R7 := R6.out.below b7
          have M2 := Lib.hid (M1.out w7 b7)
          clear C1 M1 a0 a1 a2 a3 a4 a5 a6 a7 a8 a9
          obtain ⟨⟨a0, a1, a2, a3, a4, a5, a6, a7, a8, a9⟩, -⟩ := cells10 R7.x
          replace R7 := Lib.hid R7
          go_wp2_with fail
          refine M2.out.mono ?_
          rintro e w8 ⟨rfl, m8, o8⟩
          have R8 := Lib.hid (R7.out.load m8 o8)
          clear M2 m8 o8
          go_wp2
          go_roundw
          case rel => exact ⟨k2 + 1, _, by omega, by go_num, by omega, by omega, R8⟩
          case measure => simp [intOf]; omega
        · have b2 : decide ((k2 : Int) < 3) = false := by simp; omega
          go_wp2
          go_roundw
          case rel => exact ⟨k + 1, _, _, st5, by omega, by go_num, by omega, by omega, Lib.hid ⟨R6.out, I5.out, by rw [er.out]; exact hlen.out⟩⟩
          case measure => simp [intOf]; omega
    · have b1 : decide ((k : Int) < (rl : Int)) = false := by simp; omega
      have hrow : st'.s.row = [] := List.eq_nil_of_length_eq_zero (by have := K.out.2.2; omega)
      have A1 := Slab.alloc_no K.out.1.sl hrow
      have L1 := Slab.live K.out.1.sl ok'
      rw [K.out.2.1.gl, hrow] at L1
      replace A1 := Lib.hid A1
      replace L1 := Lib.hid L1
      have R5 := Lib.hid K.out.1
      clear hrow ok'
      go_wp2_with fail
      refine A1.out.mono ?_
      rintro e w' ⟨rfl, rfl⟩
      go_wp2_with fail
      refine L1.out.mono ?_
      rintro e w6 ⟨rfl, b6⟩
      have B6 := Lib.hid (hbA.out.trans ((R5.out.bel.trans (b6.mono R5.out.bel.size)).mono hbA.out.size))
      clear b6 R5 A1 L1
      go_wp2
      go_ret
      exact ⟨rfl, B6.out⟩
end Go.Proofs.Ytllibgjajlgnbaa.WalkSlabNew
