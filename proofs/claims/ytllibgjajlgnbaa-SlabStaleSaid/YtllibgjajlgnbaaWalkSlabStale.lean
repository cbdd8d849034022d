/- SlabStale: what was freed can't be asked. Laid by genlaws02.py. -/
import Derived.Test.YtllibgjajlgnbaaSlabKit
namespace Go.Proofs.Ytllibgjajlgnbaa.WalkSlabStale
open Go Go.RowKit Go.Proofs.Ytllibgjajlgnbaa.Only Go.Proofs.Ytllibgjajlgnbaa.Mem Go.Proofs.Ytllibgjajlgnbaa.New Go.Proofs.Ytllibgjajlgnbaa.Ref Go.Proofs.Ytllibgjajlgnbaa.Slab Go.Proofs.Ytllibgjajlgnbaa.SlabRef Go.Proofs.Ytllibgjajlgnbaa.SlabDo Go.Proofs.Ytllibgjajlgnbaa.SlabLaw Go.Proofs.Ytllibgjajlgnbaa.SlabRan Go.Proofs.Ytllibgjajlgnbaa.SlabKit Go.Proofs.Ytllibgjajlgnbaa.Args
set_option linter.unusedVariables false
set_option linter.unusedSimpArgs false

set_option maxHeartbeats 8000000 in
set_option maxRecDepth 2000000 in
theorem walk (V : Value) (ds : List (List Int)) (N M : Int) (hN : 0 ≤ N ∧ N ≤ 255) (hM : 0 ≤ M ∧ M ≤ 255) (W : World) (hV : Structs ks5 W V ds) :
    Calls Try.prog 9 #[V, .int .u8 N, .int .u8 M] W fun e w' => e = .returned (.bool true) ∧ Below W.heap.size W w' := by
  have hV := Lib.hid hV
  go_enter Try.func9, Try.ntmps9
  go_wp2_with fail
  refine (SlabAwake.awake _).mono ?_
  rintro e wA ⟨rfl, hbA⟩
  have hVA := Lib.hid (structs_below hV.out hbA)
  replace hbA := Lib.hid hbA
  clear hV
  go_wp2_with fail
  refine (SlabRan.ran V ds _ hVA.out).mono ?_
  rintro e w2 ⟨sb, p, v, vg, vt, vr, xC, xG, xT, xR, vL, n, cnt, st, rfl, b2, I, hn0, hn1, -, -, B2⟩
  clear hVA
  obtain ⟨AC, cC, e1, -⟩ := own_any b2.x.c.own
  obtain ⟨AG, cG, e2, -⟩ := own_any b2.x.g
  obtain ⟨AT, cT, e3, -⟩ := own_any b2.x.t
  obtain ⟨AR, cR, e4, -⟩ := own_any b2.x.r
  obtain ⟨AL, cL, e5, -⟩ := own_any b2.l
  subst e1 e2 e3 e4 e5
  have hLL := I.ll
  have s2 := B2.size
  unfold bv
  go_upto_region 3 with fail
  have R : Sd w2.heap.size sb p v vg vt vr #[.pointer (some ⟨sb, 0, none⟩), .pointer (some ⟨p, 0, none⟩), .slice AC st.C.length cC, .int .i64 cnt, .int .i64 st.s.first, .int .i64 st.s.words, .slice AG st.s.gens.length cG, .slice AT st.s.taken.length cT, .slice AR st.s.row.length cR, .slice AL st.L.length cL] n st.C st.s wA (w2.alloc (.cells #[.pointer (some ⟨sb, 0, none⟩), .pointer (some ⟨p, 0, none⟩), .slice AC st.C.length cC, .int .i64 cnt, .int .i64 st.s.first, .int .i64 st.s.words, .slice AG st.s.gens.length cG, .slice AT st.s.taken.length cT, .slice AR st.s.row.length cR, .slice AL st.L.length cL] 54)) :=
    ⟨b2.sl.alloc _, heap_alloc_new w2 _, B2.alloc s2 _⟩
  have l3 := own_alloc b2.l (.cells #[.pointer (some ⟨sb, 0, none⟩), .pointer (some ⟨p, 0, none⟩), .slice AC st.C.length cC, .int .i64 cnt, .int .i64 st.s.first, .int .i64 st.s.words, .slice AG st.s.gens.length cG, .slice AT st.s.taken.length cT, .slice AR st.s.row.length cR, .slice AL st.L.length cL] 54)
  have far : ∀ k, SlF sb p v vg vt vr k → (Value.slice AL st.L.length cL).ownBlock ≠ some k := fun k hk => (b2.far k hk).2.2.2.2
  generalize (w2.alloc (.cells #[.pointer (some ⟨sb, 0, none⟩), .pointer (some ⟨p, 0, none⟩), .slice AC st.C.length cC, .int .i64 cnt, .int .i64 st.s.first, .int .i64 st.s.words, .slice AG st.s.gens.length cG, .slice AT st.s.taken.length cT, .slice AR st.s.row.length cR, .slice AL st.L.length cL] 54)) = w3 at *
  generalize w2.heap.size = q at *
  replace R := Lib.hid R
  replace l3 := Lib.hid l3
  replace far := Lib.hid far
  replace I := Lib.hid I
  clear b2 B2
  obtain ⟨⟨a0, a1, a2, a3, a4, a5, a6, a7, a8, a9⟩, -⟩ := cells10 R.out.x
  obtain ⟨N, rfl⟩ := Int.eq_ofNat_of_zero_le hN.1
  have TT := told l3.out (by omega) N (by omega)
  have hr := I.out.told bd4 (by omega) N
  have hrm := toldV_mem st.L N
  generalize toldV st.L N = r at *
  have F1 := freeAny R.out (I.out.ok bd4 (by omega) (by omega)) r hr
  replace TT := Lib.hid TT
  replace F1 := Lib.hid F1
  replace hrm := Lib.hid hrm
  go_wp2_with fail
  refine TT.out.mono ?_
  rintro e w' ⟨rfl, rfl⟩
  clear TT
  go_wp2_with fail
  refine F1.out.mono ?_
  rintro e w4 ⟨c4, vr4, rfl, R4⟩
  have I4 := I.out.free r
  have g4 := gone_free I.out r
  have m4 := free_mem (x := r) hrm.out
  generalize freeS' st r = st4 at *
  have K4 := Lib.hid (And.intro R4 (And.intro I4 (And.intro g4 m4)))
  clear R4 I4 g4 m4 F1 R
  go_wp2_with fail
  go_loopw [10] (fun i wr => ∃ (k : Nat) (vr : Value) (n : Int) (st' : St), k ≤ 5 ∧ i = .int .i64 k ∧ 0 ≤ n ∧ n ≤ 4000000 + 3 * k ∧ Hid (Sd q sb p v vg vt vr #[.pointer (some ⟨sb, 0, none⟩), .pointer (some ⟨p, 0, none⟩), .slice AC st.C.length cC, .int .i64 cnt, .int .i64 st.s.first, .int .i64 st.s.words, .slice AG st.s.gens.length cG, .slice AT st.s.taken.length cT, .slice AR st.s.row.length cR, .slice AL st.L.length cL] n st'.C st'.s wA wr ∧ SlabLaw.Inv 3 3 4 (60 + k) st' ∧ thereB st'.s r = false ∧ (r = 0 ∨ r ∈ st'.L)))
    (fun i _ => 60 - (intOf i).toNat)
  case atStart => exact ⟨0, _, _, _, by omega, rfl, hn0, by omega, K4⟩
  case round =>
    clear K4
    obtain ⟨k, vr, n, st', hk, rfl, hn0, hn1, K⟩ := hrel
    clear a0 a1 a2 a3 a4 a5 a6 a7 a8 a9
    obtain ⟨⟨a0, a1, a2, a3, a4, a5, a6, a7, a8, a9⟩, -⟩ := cells10 K.out.1.x
    have ok' := K.out.2.1.ok bd4 (by omega) (by omega)
    by_cases hlt : (k : Int) < M % 6
    · have b1 : decide ((k : Int) < M % 6) = true := by simp; omega
      have A1 := allocAny K.out.1 ok' (by omega)
      have ew := K.out.2.1.words
      replace A1 := Lib.hid A1
      replace ew := Lib.hid ew
      clear ok'
      have nx := Lib.hid (And.intro (K.out.2.1.alloc bd4) (And.intro (gone_alloc K.out.2.1 bd4 K.out.2.2.2 K.out.2.2.1) (alloc_mem K.out.2.2.2)))
      go_wp2_with fail
      refine A1.out.mono ?_
      rintro e w5 ⟨a, c, vr', n', rfl, n1, n2, R5⟩
      rw [ew.out] at n2
      replace R5 := Lib.hid R5
      clear A1 a0 a1 a2 a3 a4 a5 a6 a7 a8 a9
      go_wp2
      go_roundw
      case rel => exact ⟨k + 1, vr', n', allocS' st', by omega, by go_num, by omega, by omega, Lib.hid ⟨R5.out, nx.out.1, nx.out.2.1, nx.out.2.2⟩⟩
      case measure => simp [intOf]; omega
    · have b1 : decide ((k : Int) < M % 6) = false := by simp; omega
      have C1 := Slab.cell K.out.1.sl ok' r 0 hr (by omega)
      rw [cellE_gone K.out.2.2.1] at C1
      have F2 := fun (w5 : World) (b5 : Below wr.heap.size wr w5) => Slab.free_no (K.out.1.below b5).sl ok' r hr K.out.2.2.1
      generalize cellN st'.s r 0 = cn at *
      replace C1 := Lib.hid C1
      replace F2 := Lib.hid F2
      clear ok'
      go_wp2_with fail
      refine C1.out.mono ?_
      rintro e w5 ⟨rfl, b5⟩
      have R5 := K.out.1.below b5
      have F3 := Lib.hid (F2.out w5 b5)
      clear C1 F2 a0 a1 a2 a3 a4 a5 a6 a7 a8 a9
      obtain ⟨⟨a0, a1, a2, a3, a4, a5, a6, a7, a8, a9⟩, -⟩ := cells10 R5.x
      have B5 := Lib.hid (hbA.out.trans (R5.bel.mono hbA.out.size))
      have s5 := B5.out.size
      clear R5
      go_wp2_with fail
      refine F3.out.mono ?_
      rintro e w6 ⟨rfl, b6⟩
      have B6 := Lib.hid (B5.out.trans (b6.mono s5))
      clear F3 b6
      go_wp2
      go_ret
      exact ⟨rfl, B6.out⟩
end Go.Proofs.Ytllibgjajlgnbaa.WalkSlabStale
