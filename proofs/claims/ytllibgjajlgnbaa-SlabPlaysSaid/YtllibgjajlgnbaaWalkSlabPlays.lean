/- SlabPlays: whatever is taken, freed, asked, and stored: each answer, and at last all cells. Laid by genplays02.py. -/
import Derived.Test.YtllibgjajlgnbaaSlabBad
import Derived.Test.YtllibgjajlgnbaaWLast
namespace Go.Proofs.Ytllibgjajlgnbaa.WalkSlabPlays
open Go Go.RowKit Go.Proofs.Ytllibgjajlgnbaa.Only Go.Proofs.Ytllibgjajlgnbaa.Mem Go.Proofs.Ytllibgjajlgnbaa.New Go.Proofs.Ytllibgjajlgnbaa.Ref Go.Proofs.Ytllibgjajlgnbaa.Slab Go.Proofs.Ytllibgjajlgnbaa.SlabRef Go.Proofs.Ytllibgjajlgnbaa.SlabDo Go.Proofs.Ytllibgjajlgnbaa.SlabLaw Go.Proofs.Ytllibgjajlgnbaa.SlabRan Go.Proofs.Ytllibgjajlgnbaa.SlabKit Go.Proofs.Ytllibgjajlgnbaa.SlabBad Go.Proofs.Ytllibgjajlgnbaa.Args Go.Proofs.YtllibgjajlgnbaaW.PrintLast
set_option linter.unusedVariables false
set_option linter.unusedSimpArgs false

theorem both_load {B sb p : Nat} {v vg vt vr xC xG xT xR vL : Value} {n n' : Int} {C : List Int} {s : Sl} {L : List Int} {w w' : World} (h : BothAt B sb p v n vg vt vr xC xG xT xR vL C s L w) (hm : MemAt B p v C n' w') (ho : Only (Foot p v) w w') : BothAt B sb p v n' vg vt vr xC xG xT xR vL C s L w' :=
  ⟨h.sl.setM hm ho, h.x.keep ho (fun k hk e => by
    obtain ⟨q1, q2, q3, q4, -⟩ := h.far k (.inr (.inl e))
    rcases hk with hk | hk | hk | hk
    · exact q1 hk
    · exact q2 hk
    · exact q3 hk
    · exact q4 hk), own_keep h.l ho (fun k hk e => (h.far k (.inr (.inl e))).2.2.2.2 hk), h.far⟩

set_option maxHeartbeats 8000000 in
set_option maxRecDepth 2000000 in
theorem plays (words most : Nat) (hw : 1 ≤ words) (hm : 1 ≤ most) (hfit : words * most ≤ 500) (V : Value) (ds : List (List Int)) (W : World) (hV : Structs ks5 W V ds) :
    Calls Try.prog 12 #[.int .i64 words, .int .i64 most, V] W fun e w' => e = .returned (.bool true) ∧ Below W.heap.size W w' := by
  have hww : words ≤ words * most := Nat.le_mul_of_pos_right _ hm
  have hmm : most ≤ words * most := Nat.le_mul_of_pos_left _ hw
  have hq : (most : Int) ≤ 500 / (words : Int) := by
    rw [Int.le_ediv_iff_mul_le (by omega)]
    have : ((words * most : Nat) : Int) = (most : Int) * words := by rw [Nat.mul_comm]; simp
    omega
  have g1 : decide ((500 : Int) < (words : Int)) = false := decide_eq_false (by omega)
  have g2 : decide ((500 : Int) < (most : Int)) = false := decide_eq_false (by omega)
  have g3 : decide ((0 : Int) < (words : Int)) = true := decide_eq_true (by omega)
  have g4 : decide ((500 : Int) / (words : Int) < (most : Int)) = false := decide_eq_false (by omega)
  have bd : Bd 3 words most := ⟨by omega, by omega, by
    have : ((words * most : Nat) : Int) = (most : Int) * words := by rw [Nat.mul_comm]; simp
    omega⟩
  obtain ⟨A, cap, rfl, hl, -⟩ := hV.shape
  unfold maxLen at hl
  have hV := Lib.hid hV
  replace bd := Lib.hid bd
  replace hfit := Lib.hid hfit
  go_enter Try.func12, Try.ntmps12
  go_wp2_with fail
  refine (SlabAwake.awake _).mono ?_
  rintro e w1 ⟨rfl, hbA⟩
  replace hV := Lib.hid (structs_below hV.out hbA)
  have hbW := Lib.hid hbA
  clear hbA
  go_wp2_with fail
  refine (SlabDo.begun words most hw hm hfit.out w1).mono ?_
  rintro e w2 ⟨sb, p, v, vg, vt, vr, xC, xG, xT, xR, rfl, b2, B2⟩
  have I0 : SlabLaw.Inv 3 words most 0 ⟨List.replicate (3 + words * most) 0, newS 3 words most most, []⟩ := Inv.new 3 words most
  obtain ⟨st0, hst0⟩ : ∃ st0, (⟨List.replicate (3 + words * most) 0, newS 3 words most most, []⟩ : St) = st0 := ⟨_, rfl⟩
  rw [hst0] at I0
  have ec : List.replicate (3 + words * most) (0 : Int) = st0.C := by rw [← hst0]
  have es' : newS 3 words most most = st0.s := by rw [← hst0]
  have el : st0.L = [] := by rw [← hst0]
  rw [ec, es'] at b2
  rw [es']
  obtain ⟨AC, cC, e1, -⟩ := own_any b2.x.c.own
  obtain ⟨AG, cG, e2, -⟩ := own_any b2.x.g
  obtain ⟨AT, cT, e3, -⟩ := own_any b2.x.t
  obtain ⟨AR, cR, e4, -⟩ := own_any b2.x.r
  subst e1 e2 e3 e4
  rw [← el] at b2
  have hq2 := B2.size
  have R : Round w1 w2.heap.size sb p v vg vt vr (.slice AC st0.C.length cC) (.slice AG st0.s.gens.length cG) (.slice AT st0.s.taken.length cT) (.slice AR st0.s.row.length cR) (.slice none 0 0) 0 0 3 words most 0 st0 (w2.alloc (.cells #[.pointer (some ⟨sb, 0, none⟩), .pointer (some ⟨p, 0, none⟩), .slice AC st0.C.length cC, .int .i64 0, .int .i64 st0.s.first, .int .i64 st0.s.words, .slice AG st0.s.gens.length cG, .slice AT st0.s.taken.length cT, .slice AR st0.s.row.length cR, .slice none 0 0] 54)) :=
    ⟨BothAt.below b2 ((Below.refl _ _).alloc (Nat.le_refl _) _), I0, heap_alloc_new w2 _, hq2, by omega, by omega, by omega, by omega, B2.alloc hq2 _⟩
  have RX := R.x
  replace R := Lib.hid R
  clear b2 B2 hst0 ec es' el I0 g1 g2 g3 g4 hq hww hmm
  unfold bv
  go_upto_region 5 with fail
  generalize (w2.alloc (.cells #[.pointer (some ⟨sb, 0, none⟩), .pointer (some ⟨p, 0, none⟩), .slice AC st0.C.length cC, .int .i64 0, .int .i64 st0.s.first, .int .i64 st0.s.words, .slice AG st0.s.gens.length cG, .slice AT st0.s.taken.length cT, .slice AR st0.s.row.length cR, .slice none 0 0] 54)) = w3 at *
  generalize w2.heap.size = q at *
  obtain ⟨⟨a0, a1, a2, a3, a4, a5, a6, a7, a8, a9⟩, -⟩ := cells10 RX
  clear RX
  go_wp2_with fail
  clear a0 a1 a2 a3 a4 a5 a6 a7 a8 a9
  go_loopw [10] (fun i wr => ∃ (k : Nat) (vr xC xG xT xR vL : Value) (n cnt : Int) (st : St), k ≤ ds.length ∧ k ≤ 60 ∧ i = .int .i64 k ∧ Hid (Round w1 q sb p v vg vt vr xC xG xT xR vL n cnt 3 words most k st wr))
    (fun i _ => 60 - (intOf i).toNat)
  case atStart => exact ⟨0, _, _, _, _, _, _, _, _, _, by omega, by omega, rfl, R⟩
  case round =>
    clear R
    obtain ⟨k, vr, xC, xG, xT, xR, vL, n, cnt, st, hk, hk60, rfl, R⟩ := hrel
    obtain ⟨AC, cC, e1, -⟩ := own_any R.out.both.x.c.own
    obtain ⟨AG, cG, e2, -⟩ := own_any R.out.both.x.g
    obtain ⟨AT, cT, e3, -⟩ := own_any R.out.both.x.t
    obtain ⟨AR, cR, e4, -⟩ := own_any R.out.both.x.r
    obtain ⟨AL, cL, e5, -⟩ := own_any R.out.both.l
    subst e1 e2 e3 e4 e5
    have RX := R.out.x
    unfold bv at RX
    obtain ⟨⟨a0, a1, a2, a3, a4, a5, a6, a7, a8, a9⟩, -⟩ := cells10 RX
    clear RX
    by_cases hlt : k < ds.length ∧ k < 60
    · obtain ⟨hlt, hlt60⟩ := hlt
      obtain ⟨x, rfl, dOk, hdc⟩ := deedCells hV.out hlt
      generalize deedOf (ds.getD k []) = dd at *
      obtain ⟨dk, di, dN, dV, dr⟩ := dd
      dsimp only at hdc
      have b1 : decide ((k : Int) < ds.length) = true := by simp; omega
      have b2 : decide ((k : Int) < 60) = true := by simp; omega
      have hOk := Lib.hid dOk
      have hxb := (hdc w1 (Below.refl _ _)).2
      have hcell := Lib.hid (fun w' hb => (hdc w' hb).1)
      clear hdc dOk
      obtain ⟨f0, f1, f2, f3, f4⟩ := hcell.out wr R.out.bel
      obtain ⟨st5, hst5⟩ : ∃ st5, doS st ⟨dk, di, dN, dV, dr⟩ = st5 := ⟨_, rfl⟩
      have I5 := R.out.inv.step bd.out ⟨dk, di, dN, dV, dr⟩
      rw [hst5] at I5
      replace I5 := Lib.hid I5
      replace hst5 := Lib.hid hst5
      go_wp2_with fail
      have Rd := Lib.hid R.out.drew
      have Rd2 := Lib.hid (R.out.next ((Below.refl _ _).alloc (Nat.le_refl _) (.cells #[.pointer none, .pointer none, .slice none 0 0, .int .i64 0, .int .i64 0, .int .i64 0, .slice none 0 0, .slice none 0 0, .slice none 0 0, .slice none 0 0] 54))).drew
      have hqw := lt_of_heap R.out.x
      have hWw := R.out.bel.size
      have ne1 : ¬ wr.heap.size = q := by omega
      have ne2 : ¬ wr.heap.size = (x.add (k * 5)).block := by rw [Args.add_block]; omega
      have ne3 : ∀ o, ¬ (⟨wr.heap.size, o, none⟩ : Addr) = x.add (k * 5) := fun o e => ne2 (by rw [← e])
      have ne4 : ¬ q = wr.heap.size := by omega
      have ne5 : ¬ (x.add (k * 5)).block = wr.heap.size := fun e => ne2 e.symm
      have ne6 : ∀ o, ¬ x.add (k * 5) = (⟨wr.heap.size, o, none⟩ : Addr) := fun o e => ne3 o e.symm
      go_wp2_with fail
      go_region_held3 (fun w' => w'.cell? ⟨q, 0, none⟩ = some (.pointer (some ⟨sb, 0, none⟩)) ∧ w'.cell? ⟨q, 1, none⟩ = some (.pointer (some ⟨p, 0, none⟩)) ∧ w'.cell? ⟨q, 2, none⟩ = some (.slice AC st.C.length cC) ∧ w'.cell? ⟨q, 3, none⟩ = some (.int .i64 cnt) ∧ w'.cell? ⟨q, 4, none⟩ = some (.int .i64 st.s.first) ∧ w'.cell? ⟨q, 5, none⟩ = some (.int .i64 st.s.words) ∧ w'.cell? ⟨q, 6, none⟩ = some (.slice AG st.s.gens.length cG) ∧ w'.cell? ⟨q, 7, none⟩ = some (.slice AT st.s.taken.length cT) ∧ w'.cell? ⟨q, 8, none⟩ = some (.slice AR st.s.row.length cR) ∧ w'.cell? ⟨q, 9, none⟩ = some (.slice AL st.L.length cL) ∧ w'.cell? (x.add (k * 5)) = some (.int .i64 dk) ∧ w'.cell? ⟨(x.add (k * 5)).block, (x.add (k * 5)).off + 1, none⟩ = some (.int .i64 di) ∧ w'.cell? ⟨(x.add (k * 5)).block, (x.add (k * 5)).off + 2, none⟩ = some (.int .u8 dN) ∧ w'.cell? ⟨(x.add (k * 5)).block, (x.add (k * 5)).off + 3, none⟩ = some (.int .u64 dV) ∧ w'.cell? ⟨(x.add (k * 5)).block, (x.add (k * 5)).off + 4, none⟩ = some (.int .u64 dr))
        (first | go_keep | exact S5)
        (first
          | (go_at_call 36 ; refine (deed Rd.out.both Rd.out.inv bd.out hm (by omega) (by have := Rd.out.n0 ; have := Rd.out.nk ; omega) cnt (by have := Rd.out.c0 ; have := Rd.out.ck ; omega) ⟨dk, di, dN, dV, dr⟩ hOk.out).mono ?_ ; rintro e w5 hdid ; rw [hst5.out] at hdid ; obtain ⟨n5, cnt5, vr5, xC5, xG5, xT5, xR5, vL5, rfl, n5a, n5b, c5a, c5b, b5, o5⟩ := hdid ; obtain ⟨BC, bC, e1, -⟩ := own_any b5.x.c.own ; obtain ⟨BG, bG, e2, -⟩ := own_any b5.x.g ; obtain ⟨BT, bT, e3, -⟩ := own_any b5.x.t ; obtain ⟨BR, bR, e4, -⟩ := own_any b5.x.r ; obtain ⟨BL, bL, e5, -⟩ := own_any b5.l ; subst e1 e2 e3 e4 e5 ; have x5 := (o5.block _ (lt_of_heap Rd.out.x) (slab_ty Rd.out.both.sl Rd.out.x)).trans Rd.out.x ; obtain ⟨⟨y0, y1, y2, y3, y4, y5, y6, y7, y8, y9⟩, -⟩ := cells10 x5 ; have B5 := Rd.out.bel.trans (foot_base Rd.out.both o5 Rd.out.bel.size) ; have S5 := And.intro y0 (And.intro y1 (And.intro y2 (And.intro y3 (And.intro y4 (And.intro y5 (And.intro y6 (And.intro y7 (And.intro y8 (And.intro y9 (hcell.out w5 B5)))))))))) ; replace b5 := Lib.hid b5 ; replace o5 := Lib.hid o5 ; replace x5 := Lib.hid x5 ; replace B5 := Lib.hid B5 ; unfold bv)
          | (go_at_call 36 ; refine (deed Rd2.out.both Rd2.out.inv bd.out hm (by omega) (by have := Rd2.out.n0 ; have := Rd2.out.nk ; omega) cnt (by have := Rd2.out.c0 ; have := Rd2.out.ck ; omega) ⟨dk, di, dN, dV, dr⟩ hOk.out).mono ?_ ; rintro e w5 hdid ; rw [hst5.out] at hdid ; obtain ⟨n5, cnt5, vr5, xC5, xG5, xT5, xR5, vL5, rfl, n5a, n5b, c5a, c5b, b5, o5⟩ := hdid ; obtain ⟨BC, bC, e1, -⟩ := own_any b5.x.c.own ; obtain ⟨BG, bG, e2, -⟩ := own_any b5.x.g ; obtain ⟨BT, bT, e3, -⟩ := own_any b5.x.t ; obtain ⟨BR, bR, e4, -⟩ := own_any b5.x.r ; obtain ⟨BL, bL, e5, -⟩ := own_any b5.l ; subst e1 e2 e3 e4 e5 ; have x5 := (o5.block _ (lt_of_heap Rd2.out.x) (slab_ty Rd2.out.both.sl Rd2.out.x)).trans Rd2.out.x ; obtain ⟨⟨y0, y1, y2, y3, y4, y5, y6, y7, y8, y9⟩, -⟩ := cells10 x5 ; have B5 := Rd2.out.bel.trans (foot_base Rd2.out.both o5 Rd2.out.bel.size) ; have S5 := And.intro y0 (And.intro y1 (And.intro y2 (And.intro y3 (And.intro y4 (And.intro y5 (And.intro y6 (And.intro y7 (And.intro y8 (And.intro y9 (hcell.out w5 B5)))))))))) ; have t5 := (o5.block wr.heap.size (by simp) (fun e => by have h1 := (R.out.both.sl.low _ e).2 ; omega)).trans (heap_alloc_new wr (.cells #[.pointer none, .pointer none, .slice none 0 0, .int .i64 0, .int .i64 0, .int .i64 0, .slice none 0 0, .slice none 0 0, .slice none 0 0, .slice none 0 0] 54)) ; obtain ⟨⟨z0, z1, z2, z3, z4, z5, z6, z7, z8, z9⟩, fz⟩ := cells10 t5 ; have h0 := fz 0 ; have h1 := fz 1 ; have h2 := fz 2 ; have h3 := fz 3 ; have h4 := fz 4 ; have h5 := fz 5 ; have h6 := fz 6 ; have h7 := fz 7 ; have h8 := fz 8 ; have h9 := fz 9 ; clear fz ; replace t5 := Lib.hid t5 ; replace b5 := Lib.hid b5 ; replace o5 := Lib.hid o5 ; replace x5 := Lib.hid x5 ; replace B5 := Lib.hid B5 ; unfold bv))

      · obtain ⟨w6, e6, q6⟩ : ∃ w6, w6 = w5.alloc (.cells #[.pointer (some ⟨sb, 0, none⟩), .pointer (some ⟨p, 0, none⟩), .slice BC st5.C.length bC, .int .i64 cnt5, .int .i64 st5.s.first, .int .i64 st5.s.words, .slice BG st5.s.gens.length bG, .slice BT st5.s.taken.length bT, .slice BR st5.s.row.length bR, .slice BL st5.L.length bL] 54) ∧ X10 q #[.pointer (some ⟨sb, 0, none⟩), .pointer (some ⟨p, 0, none⟩), .slice AC st.C.length cC, .int .i64 cnt, .int .i64 st.s.first, .int .i64 st.s.words, .slice AG st.s.gens.length cG, .slice AT st.s.taken.length cT, .slice AR st.s.row.length cR, .slice AL st.L.length cL] w6 := ⟨_, rfl, (heap_alloc_old _ _ (lt_of_heap x5.out)).trans x5.out⟩
        have t6 : X10 w5.heap.size #[.pointer (some ⟨sb, 0, none⟩), .pointer (some ⟨p, 0, none⟩), .slice BC st5.C.length bC, .int .i64 cnt5, .int .i64 st5.s.first, .int .i64 st5.s.words, .slice BG st5.s.gens.length bG, .slice BT st5.s.taken.length bT, .slice BR st5.s.row.length bR, .slice BL st5.L.length bL] w6 := by rw [e6]; exact heap_alloc_new _ _
        have o6 : Only (fun k => k = q ∨ k = w5.heap.size) w5 w6 := by rw [e6]; exact ofBelow ((Below.refl _ _).alloc (Nat.le_refl _) _)
        have hqt : q ≠ w5.heap.size := by have := lt_of_heap x5.out; omega
        go_upto_region 11 with fail
        rw [← e6]
        clear e6
        have hlt6 : w5.heap.size < w6.heap.size := lt_of_heap t6
        obtain ⟨⟨u0, u1, u2, u3, u4, u5, u6, u7, u8, u9⟩, -⟩ := cells10 t6
        obtain ⟨⟨v0, v1, v2, v3, v4, v5, v6, v7, v8, v9⟩, fv⟩ := cells10 q6
        have h0 := fv 0
        have h1 := fv 1
        have h2 := fv 2
        have h3 := fv 3
        have h4 := fv 4
        have h5 := fv 5
        have h6 := fv 6
        have h7 := fv 7
        have h8 := fv 8
        have h9 := fv 9
        clear fv
        have hlt7 : q < w6.heap.size := lt_of_heap q6
        obtain ⟨w7, e7, -, -, o7⟩ := end10 q6 (Below.refl 0 w6) (Nat.zero_le _) (.pointer (some ⟨sb, 0, none⟩)) (.pointer (some ⟨p, 0, none⟩)) (.slice BC st5.C.length bC) (.int .i64 cnt5) (.int .i64 st5.s.first) (.int .i64 st5.s.words) (.slice BG st5.s.gens.length bG) (.slice BT st5.s.taken.length bT) (.slice BR st5.s.row.length bR) (.slice BL st5.L.length bL)
        have x7 := put10 q6 (.pointer (some ⟨sb, 0, none⟩)) (.pointer (some ⟨p, 0, none⟩)) (.slice BC st5.C.length bC) (.int .i64 cnt5) (.int .i64 st5.s.first) (.int .i64 st5.s.words) (.slice BG st5.s.gens.length bG) (.slice BT st5.s.taken.length bT) (.slice BR st5.s.row.length bR) (.slice BL st5.L.length bL)
        rw [← e7] at x7
        have o67 : Only (fun k => k = q ∨ k = w5.heap.size) w5 w7 := o6.trans (o7.mono (fun _ _ e => .inl e)) (fun _ _ e => e)
        have fin := Lib.hid (Round.step R.out I5.out b5.out n5a n5b c5a c5b B5.out x5.out ((.inr (Nat.le_refl _) : X10 w5.heap.size #[] w5 ∨ w5.heap.size ≤ w5.heap.size)) (B5.out.size) o67 x7)
        replace e7 := Lib.hid e7
        clear o6 o7 o67 x7 q6 t6
        go_upto_region 12 with fail
        rw [← e7.out]
        clear e7 a0 a1 a2 a3 a4 a5 a6 a7 a8 a9 u0 u1 u2 u3 u4 u5 u6 u7 u8 u9 v0 v1 v2 v3 v4 v5 v6 v7 v8 v9 h0 h1 h2 h3 h4 h5 h6 h7 h8 h9 y0 y1 y2 y3 y4 y5 y6 y7 y8 y9
        obtain ⟨⟨a0, a1, a2, a3, a4, a5, a6, a7, a8, a9⟩, -⟩ := cells10 (show X10 q _ _ from fin.out.x)
        have ok5 := I5.out.ok bd.out hm (by omega)
        clear b5 o5 x5 B5
        go_wp2_with fail
        refine start_ (n := 11) (S := fun w' => w'.cell? ⟨q, 0, none⟩ = some (.pointer (some ⟨sb, 0, none⟩)) ∧ w'.cell? ⟨q, 2, none⟩ = some (.slice BC st5.C.length bC) ∧ w'.cell? ⟨q, 3, none⟩ = some (.int .i64 cnt5) ∧ w'.cell? ⟨q, 4, none⟩ = some (.int .i64 st5.s.first) ∧ w'.cell? ⟨q, 5, none⟩ = some (.int .i64 st5.s.words) ∧ w'.cell? ⟨q, 6, none⟩ = some (.slice BG st5.s.gens.length bG) ∧ w'.cell? ⟨q, 7, none⟩ = some (.slice BT st5.s.taken.length bT) ∧ w'.cell? ⟨q, 8, none⟩ = some (.slice BR st5.s.row.length bR)) (ds := []) #[false, false, false, false, false, false, false, false, false, false, false] (by kernel_rfl) rfl rfl ⟨a0, a2, a3, a4, a5, a6, a7, a8⟩ (fun hHeld => ?_)
        refine pure_ (i := 0) (N := some 71) (v := ?_) (a' := ?_) #[true, false, false, false, false, false, false, false, false, false, false] rfl rfl (by kernel_rfl) (fun _ _ _ h => h) (Or.inl ⟨by rfl, ?_⟩) ?_ ?_
        rotate_left
        · intro w'
          go_simp
          with_reducible rfl
        rotate_left
        · simp only [Act.put, List.setIfInBounds_toArray, List.set_cons_zero, List.set_cons_succ, i64_w, i32_w]
          rfl
        refine pure_ (i := 1) (N := some 72) (v := ?_) (a' := ?_) #[true, true, false, false, false, false, false, false, false, false, false] rfl rfl (by kernel_rfl) (fun _ _ _ h => h) (Or.inl ⟨by rfl, ?_⟩) ?_ ?_
        rotate_left
        · intro w'
          go_simp
          with_reducible rfl
        rotate_left
        · simp only [Act.put, List.setIfInBounds_toArray, List.set_cons_zero, List.set_cons_succ, i64_w, i32_w]
          rfl
        refine pure_ (i := 2) (N := some 73) (v := ?_) (a' := ?_) #[true, true, true, false, false, false, false, false, false, false, false] rfl rfl (by kernel_rfl) (fun _ _ _ h => h) (Or.inl ⟨by rfl, ?_⟩) ?_ ?_
        rotate_left
        · intro w'
          go_simp
          with_reducible rfl
        rotate_left
        · simp only [Act.put, List.setIfInBounds_toArray, List.set_cons_zero, List.set_cons_succ, i64_w, i32_w]
          rfl
        refine pure_ (i := 3) (N := some 74) (v := ?_) (a' := ?_) #[true, true, true, true, false, false, false, false, false, false, false] rfl rfl (by kernel_rfl) (fun _ _ _ h => h) (Or.inl ⟨by rfl, ?_⟩) ?_ ?_
        rotate_left
        · intro w'
          go_simp
          with_reducible rfl
        rotate_left
        · simp only [Act.put, List.setIfInBounds_toArray, List.set_cons_zero, List.set_cons_succ, i64_w, i32_w]
          rfl
        refine pure_ (i := 6) (N := some 77) (v := ?_) (a' := ?_) #[true, true, true, true, false, false, true, false, false, false, false] rfl rfl (by kernel_rfl) (fun _ _ _ h => h) (Or.inl ⟨by rfl, ?_⟩) ?_ ?_
        rotate_left
        · intro w'
          go_simp
          with_reducible rfl
        rotate_left
        · simp only [Act.put, List.setIfInBounds_toArray, List.set_cons_zero, List.set_cons_succ, i64_w, i32_w]
          rfl
        refine take_ (i := 4) (N := some 75) (v := ?_) (a' := ?_) #[true, true, true, true, true, false, true, false, false, false, false] rfl rfl (by kernel_rfl) (fun _ _ _ h => h) (Or.inl ⟨by rfl, ?_⟩) hHeld ?_ ?_
        rotate_left
        · rintro w' ⟨s0, s1, s2, s3, s4, s5, s6, s7⟩
          go_simp
          with_reducible rfl
        rotate_left
        · simp only [Act.put, List.setIfInBounds_toArray, List.set_cons_zero, List.set_cons_succ, i64_w, i32_w]
          rfl
        refine take_ (i := 7) (N := some 78) (v := ?_) (a' := ?_) #[true, true, true, true, true, false, true, true, false, false, false] rfl rfl (by kernel_rfl) (fun _ _ _ h => h) (Or.inl ⟨by rfl, ?_⟩) hHeld ?_ ?_
        rotate_left
        · rintro w' ⟨s0, s1, s2, s3, s4, s5, s6, s7⟩
          go_simp
          with_reducible rfl
        rotate_left
        · simp only [Act.put, List.setIfInBounds_toArray, List.set_cons_zero, List.set_cons_succ, i64_w, i32_w]
          rfl
        refine one_ (i := 5) (N := some 76) #[true, true, true, true, true, true, true, true, false, false, false] rfl rfl (by kernel_rfl) (by decide) (fun K hK => ?_)
        refine goes_ Try.func28 (by kernel_rfl) rfl #[.pointer (some ⟨sb, 0, none⟩)] (by rfl) rfl rfl (by simp only [List.map_toArray, List.map_cons, List.map_nil]; rfl) ?_
        with_reducible refine (Slab.live fin.out.drew.both.sl ok5).mono ?_
        rintro e w8 ⟨rfl, b8⟩
        have R8 := Lib.hid (fin.out.drew.next b8)
        obtain ⟨⟨k0, k1, k2, k3, k4, k5, k6, k7, k8, k9⟩, -⟩ := cells10 (show X10 q _ _ from R8.out.x)
        clear b8
        have RL := Lib.hid (rlive R8.out.both.x ok5 cnt5)
        unfold xv at RL
        refine ⟨_, rfl, ?_⟩
        refine hK.out _ _ ⟨k0, k2, k3, k4, k5, k6, k7, k8⟩ (fun hHeld => ?_)
        clear hK K
        refine norm_ (a' := ?_) ?_ ?_
        rotate_left
        · show Act.put _ (some 76) _ = _
          simp only [Act.put, List.setIfInBounds_toArray, List.set_cons_zero, List.set_cons_succ, i64_w, i32_w]
          rfl
        refine one_ (i := 8) (N := some 79) #[true, true, true, true, true, true, true, true, true, false, false] rfl rfl (by kernel_rfl) (by decide) (fun K hK => ?_)
        refine goes_ Try.func37 (by kernel_rfl) rfl #[.agg #[.slice BC st5.C.length bC, .int .i64 cnt5, .int .i64 st5.s.first, .int .i64 st5.s.words, .slice BG st5.s.gens.length bG, .slice BT st5.s.taken.length bT, .slice BR st5.s.row.length bR]] (by rfl) rfl rfl (by simp only [List.map_toArray, List.map_cons, List.map_nil]; rfl) ?_
        with_reducible refine (RL.out).mono ?_
        rintro e w9 ⟨rfl, b9⟩
        have R9 := Lib.hid (R8.out.next b9)
        obtain ⟨⟨l0, l1, l2, l3, l4, l5, l6, l7, l8, l9⟩, -⟩ := cells10 (show X10 q _ _ from R9.out.x)
        clear b9
        refine ⟨_, rfl, ?_⟩
        refine hK.out _ _ ⟨l0, l2, l3, l4, l5, l6, l7, l8⟩ (fun hHeld => ?_)
        clear hK K
        refine norm_ (a' := ?_) ?_ ?_
        rotate_left
        · show Act.put _ (some 79) _ = _
          simp only [Act.put, List.setIfInBounds_toArray, List.set_cons_zero, List.set_cons_succ, i64_w, i32_w]
          rfl
        refine pure_ (i := 9) (N := some 80) (v := ?_) (a' := ?_) #[true, true, true, true, true, true, true, true, true, true, false] rfl rfl (by kernel_rfl) (fun _ _ _ h => h) (Or.inl ⟨by rfl, ?_⟩) ?_ ?_
        rotate_left
        · intro w'
          go_simp
          with_reducible rfl
        rotate_left
        · simp only [Act.put, List.setIfInBounds_toArray, List.set_cons_zero, List.set_cons_succ, i64_w, i32_w]
          rfl
        refine pure_ (i := 10) (N := some 81) (v := ?_) (a' := ?_) #[true, true, true, true, true, true, true, true, true, true, true] rfl rfl (by kernel_rfl) (fun _ _ _ h => h) (Or.inl ⟨by rfl, ?_⟩) ?_ ?_
        rotate_left
        · intro w'
          go_simp
          with_reducible rfl
        rotate_left
        · simp only [Act.put, List.setIfInBounds_toArray, List.set_cons_zero, List.set_cons_succ, i64_w, i32_w]
          rfl
        refine done_ (by kernel_rfl) ?_
        go_wp2
        go_roundw
        case rel => exact ⟨k + 1, _, _, _, _, _, _, _, _, _, by omega, by omega, by go_num, R9⟩
        case measure => simp [intOf]; omega
      · have hqt : q ≠ wr.heap.size := ne4
        obtain ⟨w6, e6, t6, q6, o6', -⟩ := turnT x5.out t5.out hqt (.pointer (some ⟨sb, 0, none⟩)) (.pointer (some ⟨p, 0, none⟩)) (.slice BC st5.C.length bC) (.int .i64 cnt5) (.int .i64 st5.s.first) (.int .i64 st5.s.words) (.slice BG st5.s.gens.length bG) (.slice BT st5.s.taken.length bT) (.slice BR st5.s.row.length bR) (.slice BL st5.L.length bL)
        have o6 : Only (fun k => k = q ∨ k = wr.heap.size) w5 w6 := o6'.mono (fun _ _ e => .inr e)
        clear o6'
        go_upto_region 11 with fail
        rw [← e6]
        clear e6 h0 h1 h2 h3 h4 h5 h6 h7 h8 h9 z0 z1 z2 z3 z4 z5 z6 z7 z8 z9
        have hlt6 : wr.heap.size < w6.heap.size := lt_of_heap t6
        obtain ⟨⟨u0, u1, u2, u3, u4, u5, u6, u7, u8, u9⟩, -⟩ := cells10 t6
        obtain ⟨⟨v0, v1, v2, v3, v4, v5, v6, v7, v8, v9⟩, fv⟩ := cells10 q6
        have h0 := fv 0
        have h1 := fv 1
        have h2 := fv 2
        have h3 := fv 3
        have h4 := fv 4
        have h5 := fv 5
        have h6 := fv 6
        have h7 := fv 7
        have h8 := fv 8
        have h9 := fv 9
        clear fv
        have hlt7 : q < w6.heap.size := lt_of_heap q6
        obtain ⟨w7, e7, -, -, o7⟩ := end10 q6 (Below.refl 0 w6) (Nat.zero_le _) (.pointer (some ⟨sb, 0, none⟩)) (.pointer (some ⟨p, 0, none⟩)) (.slice BC st5.C.length bC) (.int .i64 cnt5) (.int .i64 st5.s.first) (.int .i64 st5.s.words) (.slice BG st5.s.gens.length bG) (.slice BT st5.s.taken.length bT) (.slice BR st5.s.row.length bR) (.slice BL st5.L.length bL)
        have x7 := put10 q6 (.pointer (some ⟨sb, 0, none⟩)) (.pointer (some ⟨p, 0, none⟩)) (.slice BC st5.C.length bC) (.int .i64 cnt5) (.int .i64 st5.s.first) (.int .i64 st5.s.words) (.slice BG st5.s.gens.length bG) (.slice BT st5.s.taken.length bT) (.slice BR st5.s.row.length bR) (.slice BL st5.L.length bL)
        rw [← e7] at x7
        have o67 : Only (fun k => k = q ∨ k = wr.heap.size) w5 w7 := o6.trans (o7.mono (fun _ _ e => .inl e)) (fun _ _ e => e)
        have fin := Lib.hid (Round.step R.out I5.out b5.out n5a n5b c5a c5b B5.out x5.out (.inl t5.out) (hWw) o67 x7)
        replace e7 := Lib.hid e7
        clear o6 o7 o67 x7 q6 t6
        go_upto_region 12 with fail
        rw [← e7.out]
        clear e7 a0 a1 a2 a3 a4 a5 a6 a7 a8 a9 u0 u1 u2 u3 u4 u5 u6 u7 u8 u9 v0 v1 v2 v3 v4 v5 v6 v7 v8 v9 h0 h1 h2 h3 h4 h5 h6 h7 h8 h9 y0 y1 y2 y3 y4 y5 y6 y7 y8 y9
        obtain ⟨⟨a0, a1, a2, a3, a4, a5, a6, a7, a8, a9⟩, -⟩ := cells10 (show X10 q _ _ from fin.out.x)
        have ok5 := I5.out.ok bd.out hm (by omega)
        clear b5 o5 x5 B5
        go_wp2_with fail
        refine start_ (n := 11) (S := fun w' => w'.cell? ⟨q, 0, none⟩ = some (.pointer (some ⟨sb, 0, none⟩)) ∧ w'.cell? ⟨q, 2, none⟩ = some (.slice BC st5.C.length bC) ∧ w'.cell? ⟨q, 3, none⟩ = some (.int .i64 cnt5) ∧ w'.cell? ⟨q, 4, none⟩ = some (.int .i64 st5.s.first) ∧ w'.cell? ⟨q, 5, none⟩ = some (.int .i64 st5.s.words) ∧ w'.cell? ⟨q, 6, none⟩ = some (.slice BG st5.s.gens.length bG) ∧ w'.cell? ⟨q, 7, none⟩ = some (.slice BT st5.s.taken.length bT) ∧ w'.cell? ⟨q, 8, none⟩ = some (.slice BR st5.s.row.length bR)) (ds := []) #[false, false, false, false, false, false, false, false, false, false, false] (by kernel_rfl) rfl rfl ⟨a0, a2, a3, a4, a5, a6, a7, a8⟩ (fun hHeld => ?_)
        refine pure_ (i := 0) (N := some 71) (v := ?_) (a' := ?_) #[true, false, false, false, false, false, false, false, false, false, false] rfl rfl (by kernel_rfl) (fun _ _ _ h => h) (Or.inl ⟨by rfl, ?_⟩) ?_ ?_
        rotate_left
        · intro w'
          go_simp
          with_reducible rfl
        rotate_left
        · simp only [Act.put, List.setIfInBounds_toArray, List.set_cons_zero, List.set_cons_succ, i64_w, i32_w]
          rfl
        refine pure_ (i := 1) (N := some 72) (v := ?_) (a' := ?_) #[true, true, false, false, false, false, false, false, false, false, false] rfl rfl (by kernel_rfl) (fun _ _ _ h => h) (Or.inl ⟨by rfl, ?_⟩) ?_ ?_
        rotate_left
        · intro w'
          go_simp
          with_reducible rfl
        rotate_left
        · simp only [Act.put, List.setIfInBounds_toArray, List.set_cons_zero, List.set_cons_succ, i64_w, i32_w]
          rfl
        refine pure_ (i := 2) (N := some 73) (v := ?_) (a' := ?_) #[true, true, true, false, false, false, false, false, false, false, false] rfl rfl (by kernel_rfl) (fun _ _ _ h => h) (Or.inl ⟨by rfl, ?_⟩) ?_ ?_
        rotate_left
        · intro w'
          go_simp
          with_reducible rfl
        rotate_left
        · simp only [Act.put, List.setIfInBounds_toArray, List.set_cons_zero, List.set_cons_succ, i64_w, i32_w]
          rfl
        refine pure_ (i := 3) (N := some 74) (v := ?_) (a' := ?_) #[true, true, true, true, false, false, false, false, false, false, false] rfl rfl (by kernel_rfl) (fun _ _ _ h => h) (Or.inl ⟨by rfl, ?_⟩) ?_ ?_
        rotate_left
        · intro w'
          go_simp
          with_reducible rfl
        rotate_left
        · simp only [Act.put, List.setIfInBounds_toArray, List.set_cons_zero, List.set_cons_succ, i64_w, i32_w]
          rfl
        refine pure_ (i := 6) (N := some 77) (v := ?_) (a' := ?_) #[true, true, true, true, false, false, true, false, false, false, false] rfl rfl (by kernel_rfl) (fun _ _ _ h => h) (Or.inl ⟨by rfl, ?_⟩) ?_ ?_
        rotate_left
        · intro w'
          go_simp
          with_reducible rfl
        rotate_left
        · simp only [Act.put, List.setIfInBounds_toArray, List.set_cons_zero, List.set_cons_succ, i64_w, i32_w]
          rfl
        refine take_ (i := 4) (N := some 75) (v := ?_) (a' := ?_) #[true, true, true, true, true, false, true, false, false, false, false] rfl rfl (by kernel_rfl) (fun _ _ _ h => h) (Or.inl ⟨by rfl, ?_⟩) hHeld ?_ ?_
        rotate_left
        · rintro w' ⟨s0, s1, s2, s3, s4, s5, s6, s7⟩
          go_simp
          with_reducible rfl
        rotate_left
        · simp only [Act.put, List.setIfInBounds_toArray, List.set_cons_zero, List.set_cons_succ, i64_w, i32_w]
          rfl
        refine take_ (i := 7) (N := some 78) (v := ?_) (a' := ?_) #[true, true, true, true, true, false, true, true, false, false, false] rfl rfl (by kernel_rfl) (fun _ _ _ h => h) (Or.inl ⟨by rfl, ?_⟩) hHeld ?_ ?_
        rotate_left
        · rintro w' ⟨s0, s1, s2, s3, s4, s5, s6, s7⟩
          go_simp
          with_reducible rfl
        rotate_left
        · simp only [Act.put, List.setIfInBounds_toArray, List.set_cons_zero, List.set_cons_succ, i64_w, i32_w]
          rfl
        refine one_ (i := 5) (N := some 76) #[true, true, true, true, true, true, true, true, false, false, false] rfl rfl (by kernel_rfl) (by decide) (fun K hK => ?_)
        refine goes_ Try.func28 (by kernel_rfl) rfl #[.pointer (some ⟨sb, 0, none⟩)] (by rfl) rfl rfl (by simp only [List.map_toArray, List.map_cons, List.map_nil]; rfl) ?_
        with_reducible refine (Slab.live fin.out.drew.both.sl ok5).mono ?_
        rintro e w8 ⟨rfl, b8⟩
        have R8 := Lib.hid (fin.out.drew.next b8)
        obtain ⟨⟨k0, k1, k2, k3, k4, k5, k6, k7, k8, k9⟩, -⟩ := cells10 (show X10 q _ _ from R8.out.x)
        clear b8
        have RL := Lib.hid (rlive R8.out.both.x ok5 cnt5)
        unfold xv at RL
        refine ⟨_, rfl, ?_⟩
        refine hK.out _ _ ⟨k0, k2, k3, k4, k5, k6, k7, k8⟩ (fun hHeld => ?_)
        clear hK K
        refine norm_ (a' := ?_) ?_ ?_
        rotate_left
        · show Act.put _ (some 76) _ = _
          simp only [Act.put, List.setIfInBounds_toArray, List.set_cons_zero, List.set_cons_succ, i64_w, i32_w]
          rfl
        refine one_ (i := 8) (N := some 79) #[true, true, true, true, true, true, true, true, true, false, false] rfl rfl (by kernel_rfl) (by decide) (fun K hK => ?_)
        refine goes_ Try.func37 (by kernel_rfl) rfl #[.agg #[.slice BC st5.C.length bC, .int .i64 cnt5, .int .i64 st5.s.first, .int .i64 st5.s.words, .slice BG st5.s.gens.length bG, .slice BT st5.s.taken.length bT, .slice BR st5.s.row.length bR]] (by rfl) rfl rfl (by simp only [List.map_toArray, List.map_cons, List.map_nil]; rfl) ?_
        with_reducible refine (RL.out).mono ?_
        rintro e w9 ⟨rfl, b9⟩
        have R9 := Lib.hid (R8.out.next b9)
        obtain ⟨⟨l0, l1, l2, l3, l4, l5, l6, l7, l8, l9⟩, -⟩ := cells10 (show X10 q _ _ from R9.out.x)
        clear b9
        refine ⟨_, rfl, ?_⟩
        refine hK.out _ _ ⟨l0, l2, l3, l4, l5, l6, l7, l8⟩ (fun hHeld => ?_)
        clear hK K
        refine norm_ (a' := ?_) ?_ ?_
        rotate_left
        · show Act.put _ (some 79) _ = _
          simp only [Act.put, List.setIfInBounds_toArray, List.set_cons_zero, List.set_cons_succ, i64_w, i32_w]
          rfl
        refine pure_ (i := 9) (N := some 80) (v := ?_) (a' := ?_) #[true, true, true, true, true, true, true, true, true, true, false] rfl rfl (by kernel_rfl) (fun _ _ _ h => h) (Or.inl ⟨by rfl, ?_⟩) ?_ ?_
        rotate_left
        · intro w'
          go_simp
          with_reducible rfl
        rotate_left
        · simp only [Act.put, List.setIfInBounds_toArray, List.set_cons_zero, List.set_cons_succ, i64_w, i32_w]
          rfl
        refine pure_ (i := 10) (N := some 81) (v := ?_) (a' := ?_) #[true, true, true, true, true, true, true, true, true, true, true] rfl rfl (by kernel_rfl) (fun _ _ _ h => h) (Or.inl ⟨by rfl, ?_⟩) ?_ ?_
        rotate_left
        · intro w'
          go_simp
          with_reducible rfl
        rotate_left
        · simp only [Act.put, List.setIfInBounds_toArray, List.set_cons_zero, List.set_cons_succ, i64_w, i32_w]
          rfl
        refine done_ (by kernel_rfl) ?_
        go_wp2
        go_roundw
        case rel => exact ⟨k + 1, _, _, _, _, _, _, _, _, _, by omega, by omega, by go_num, R9⟩
        case measure => simp [intOf]; omega
    · by_cases hlt2 : k < ds.length
      · have b1 : decide ((k : Int) < ds.length) = true := by simp; omega
        have b2 : decide ((k : Int) < 60) = false := by simp; omega
        clear hlt
        have F := Lib.hid (And.intro R.out.both (And.intro R.out.x R.out.bel))
        have hn1 := R.out.n0
        have hn2 := R.out.nk
        have hCl : st.C.length ≤ 65536 := by have h1 := R.out.inv.cl; have h2 := bd.out.fit; omega
        clear R
        go_wp2_with fail
        go_loopw [13] (fun i wq => ∃ (k2 : Nat) (n' : Int), k2 ≤ st.C.length ∧ i = .int .i64 k2 ∧ 0 ≤ n' ∧ n' ≤ 4000000 + k2 ∧ Hid (BothAt w1.heap.size sb p v n' vg vt vr (.slice AC st.C.length cC) (.slice AG st.s.gens.length cG) (.slice AT st.s.taken.length cT) (.slice AR st.s.row.length cR) (.slice AL st.L.length cL) st.C st.s st.L wq ∧ X10 q #[.pointer (some ⟨sb, 0, none⟩), .pointer (some ⟨p, 0, none⟩), .slice AC st.C.length cC, .int .i64 cnt, .int .i64 st.s.first, .int .i64 st.s.words, .slice AG st.s.gens.length cG, .slice AT st.s.taken.length cT, .slice AR st.s.row.length cR, .slice AL st.L.length cL] wq ∧ Below w1.heap.size w1 wq))
          (fun i _ => st.C.length - (intOf i).toNat)
        case atStart => exact ⟨0, n, by omega, rfl, by omega, by omega, F⟩
        case round =>
          clear F a0 a1 a2 a3 a4 a5 a6 a7 a8 a9
          obtain ⟨k2, n', hk2, rfl, m1, m2, K⟩ := hrel
          obtain ⟨⟨a0, a1, a2, a3, a4, a5, a6, a7, a8, a9⟩, -⟩ := cells10 K.out.2.1
          by_cases hlt2 : k2 < st.C.length
          · have b3 : decide ((k2 : Int) < (st.C.length : Int)) = true := by simp; omega
            obtain ⟨gC, c', e1, -, -, -, hlg, hx, -⟩ := own_shape K.out.1.x.c.own (by omega)
            injection e1 with e2 e3 e4
            subst e2 e4
            have ek : (st.C.map (Value.int .u64)).getD k2 (.bool false) = .int .u64 (st.C.getD k2 0) := by simp [List.getD, hlt2]
            have hx2 := hx k2 hlt2
            rw [ek] at hx2
            have hin : inR st.C k2 = true := by unfold inR; simp; omega
            have M1 := Mem.load K.out.1.sl.mem (k2 : Int) (by omega) (by omega)
            have er : rdAt st.C k2 = st.C.getD k2 0 := by unfold rdAt; rw [if_pos hin]; rfl
            have ee : errAt st.C k2 = 0 := by unfold errAt; rw [if_pos hin]
            rw [er, ee] at M1
            have hh := hit_le st.C k2
            have nf : ¬ Foot p v gC := fun e => (K.out.1.far gC (.inr (.inl e))).1 rfl
            have nq : ¬ Foot p v q := fun e => slab_ty K.out.1.sl K.out.2.1 (.inr (.inl e))
            have sW := K.out.2.2.size
            have low := fun k (e : Foot p v k) => (K.out.1.sl.low k (.inr (.inl e))).1
            generalize st.C.getD k2 0 = cv at *
            replace M1 := Lib.hid M1
            replace low := Lib.hid low
            clear hx ek hin er ee
            go_wp2_with fail
            refine M1.out.mono ?_
            rintro e w8 ⟨rfl, m8, o8⟩
            have b8 := both_load K.out.1 m8 o8
            have x8 : X10 q #[.pointer (some ⟨sb, 0, none⟩), .pointer (some ⟨p, 0, none⟩), .slice (some ⟨gC, 0, none⟩) st.C.length cC, .int .i64 cnt, .int .i64 st.s.first, .int .i64 st.s.words, .slice AG st.s.gens.length cG, .slice AT st.s.taken.length cT, .slice AR st.s.row.length cR, .slice AL st.L.length cL] w8 := (o8.block _ (lt_of_heap K.out.2.1) nq).trans K.out.2.1
            have bl8 := K.out.2.2.trans (o8.toBelow _ sW (fun k _ e => low.out k e))
            have hx8 : w8.cell? ⟨gC, k2, none⟩ = some (.int .u64 cv) := (o8.cell (p := ⟨gC, k2, none⟩) hlg nf).trans hx2
            clear a0 a1 a2 a3 a4 a5 a6 a7 a8 a9 hx2 M1
            obtain ⟨⟨a0, a1, a2, a3, a4, a5, a6, a7, a8, a9⟩, -⟩ := cells10 x8
            have K8 := Lib.hid (And.intro b8 (And.intro x8 bl8))
            have hqw : q < w8.heap.size := lt_of_heap x8
            clear b8 x8 bl8 m8 o8 K low nf nq
            go_wp2
            go_roundw
            case rel => exact ⟨k2 + 1, _, by omega, by go_num, by omega, by omega, K8⟩
            case measure => simp [intOf]; omega
          · have b3 : decide ((k2 : Int) < (st.C.length : Int)) = false := by simp; omega
            have fin := Lib.hid (hbW.out.trans (K.out.2.2.mono hbW.out.size))
            have KB := Lib.hid K.out.1.sl
            go_wp2_with fail
            refine start_ (n := 13) (S := fun w' => w'.cell? ⟨q, 1, none⟩ = some (.pointer (some ⟨p, 0, none⟩)) ∧ w'.cell? ⟨q, 2, none⟩ = some (.slice AC st.C.length cC)) (ds := []) #[false, false, false, false, false, false, false, false, false, false, false, false, false] (by kernel_rfl) rfl rfl ⟨a1, a2⟩ (fun hHeld => ?_)
            refine pure_ (i := 0) (N := some 111) (v := ?_) (a' := ?_) #[true, false, false, false, false, false, false, false, false, false, false, false, false] rfl rfl (by kernel_rfl) (fun _ _ _ h => h) (Or.inl ⟨by rfl, ?_⟩) ?_ ?_
            rotate_left
            · intro w'
              go_simp
              with_reducible rfl
            rotate_left
            · simp only [Act.put, List.setIfInBounds_toArray, List.set_cons_zero, List.set_cons_succ, i64_w, i32_w]
              rfl
            refine pure_ (i := 1) (N := some 112) (v := ?_) (a' := ?_) #[true, true, false, false, false, false, false, false, false, false, false, false, false] rfl rfl (by kernel_rfl) (fun _ _ _ h => h) (Or.inl ⟨by rfl, ?_⟩) ?_ ?_
            rotate_left
            · intro w'
              go_simp
              with_reducible rfl
            rotate_left
            · simp only [Act.put, List.setIfInBounds_toArray, List.set_cons_zero, List.set_cons_succ, i64_w, i32_w]
              rfl
            refine pure_ (i := 2) (N := some 113) (v := ?_) (a' := ?_) #[true, true, true, false, false, false, false, false, false, false, false, false, false] rfl rfl (by kernel_rfl) (fun _ _ _ h => h) (Or.inl ⟨by rfl, ?_⟩) ?_ ?_
            rotate_left
            · intro w'
              go_simp
              with_reducible rfl
            rotate_left
            · simp only [Act.put, List.setIfInBounds_toArray, List.set_cons_zero, List.set_cons_succ, i64_w, i32_w]
              rfl
            refine pure_ (i := 5) (N := some 116) (v := ?_) (a' := ?_) #[true, true, true, false, false, true, false, false, false, false, false, false, false] rfl rfl (by kernel_rfl) (fun _ _ _ h => h) (Or.inl ⟨by rfl, ?_⟩) ?_ ?_
            rotate_left
            · intro w'
              go_simp
              with_reducible rfl
            rotate_left
            · simp only [Act.put, List.setIfInBounds_toArray, List.set_cons_zero, List.set_cons_succ, i64_w, i32_w]
              rfl
            refine pure_ (i := 6) (N := some 117) (v := ?_) (a' := ?_) #[true, true, true, false, false, true, true, false, false, false, false, false, false] rfl rfl (by kernel_rfl) (fun _ _ _ h => h) (Or.inl ⟨by rfl, ?_⟩) ?_ ?_
            rotate_left
            · intro w'
              go_simp
              with_reducible rfl
            rotate_left
            · simp only [Act.put, List.setIfInBounds_toArray, List.set_cons_zero, List.set_cons_succ, i64_w, i32_w]
              rfl
            refine pure_ (i := 7) (N := some 118) (v := ?_) (a' := ?_) #[true, true, true, false, false, true, true, true, false, false, false, false, false] rfl rfl (by kernel_rfl) (fun _ _ _ h => h) (Or.inl ⟨by rfl, ?_⟩) ?_ ?_
            rotate_left
            · intro w'
              go_simp
              with_reducible rfl
            rotate_left
            · simp only [Act.put, List.setIfInBounds_toArray, List.set_cons_zero, List.set_cons_succ, i64_w, i32_w]
              rfl
            refine take_ (i := 3) (N := some 114) (v := ?_) (a' := ?_) #[true, true, true, true, false, true, true, true, false, false, false, false, false] rfl rfl (by kernel_rfl) (fun _ _ _ h => h) (Or.inl ⟨by rfl, ?_⟩) hHeld ?_ ?_
            rotate_left
            · rintro w' ⟨s0, s1⟩
              go_simp
              with_reducible rfl
            rotate_left
            · simp only [Act.put, List.setIfInBounds_toArray, List.set_cons_zero, List.set_cons_succ, i64_w, i32_w]
              rfl
            refine take_ (i := 8) (N := some 119) (v := ?_) (a' := ?_) #[true, true, true, true, false, true, true, true, true, false, false, false, false] rfl rfl (by kernel_rfl) (fun _ _ _ h => h) (Or.inl ⟨by rfl, ?_⟩) hHeld ?_ ?_
            rotate_left
            · rintro w' ⟨s0, s1⟩
              go_simp
              with_reducible rfl
            rotate_left
            · simp only [Act.put, List.setIfInBounds_toArray, List.set_cons_zero, List.set_cons_succ, i64_w, i32_w]
              rfl
            refine pure_ (i := 9) (N := some 120) (v := ?_) (a' := ?_) #[true, true, true, true, false, true, true, true, true, true, false, false, false] rfl rfl (by kernel_rfl) (fun _ _ _ h => h) (Or.inl ⟨by rfl, ?_⟩) ?_ ?_
            rotate_left
            · intro w'
              go_simp
              with_reducible rfl
            rotate_left
            · simp only [Act.put, List.setIfInBounds_toArray, List.set_cons_zero, List.set_cons_succ, i64_w, i32_w]
              rfl
            refine one_ (i := 4) (N := some 115) #[true, true, true, true, true, true, true, true, true, true, false, false, false] rfl rfl (by kernel_rfl) (by decide) (fun K hK => ?_)
            refine goes_ Try.func21 (by kernel_rfl) rfl #[.pointer (some ⟨p, 0, none⟩)] (by rfl) rfl rfl (by simp only [List.map_toArray, List.map_cons, List.map_nil]; rfl) ?_
            with_reducible refine (Mem.len KB.out.drew.mem).mono ?_
            rintro e w9 ⟨rfl, e9⟩
            subst e9
            refine ⟨_, rfl, ?_⟩
            refine hK.out _ _ ⟨a1, a2⟩ (fun hHeld => ?_)
            clear hK K
            refine norm_ (a' := ?_) ?_ ?_
            rotate_left
            · show Act.put _ (some 115) _ = _
              simp only [Act.put, List.setIfInBounds_toArray, List.set_cons_zero, List.set_cons_succ, i64_w, i32_w]
              rfl
            refine pure_ (i := 10) (N := some 121) (v := ?_) (a' := ?_) #[true, true, true, true, true, true, true, true, true, true, true, false, false] rfl rfl (by kernel_rfl) (fun _ _ _ h => h) (Or.inl ⟨by rfl, ?_⟩) ?_ ?_
            rotate_left
            · intro w'
              go_simp
              with_reducible rfl
            rotate_left
            · simp only [Act.put, List.setIfInBounds_toArray, List.set_cons_zero, List.set_cons_succ, i64_w, i32_w]
              rfl
            refine pure_ (i := 11) (N := some 122) (v := ?_) (a' := ?_) #[true, true, true, true, true, true, true, true, true, true, true, true, false] rfl rfl (by kernel_rfl) (fun _ _ _ h => h) (Or.inl ⟨by rfl, ?_⟩) ?_ ?_
            rotate_left
            · intro w'
              go_simp
              with_reducible rfl
            rotate_left
            · simp only [Act.put, List.setIfInBounds_toArray, List.set_cons_zero, List.set_cons_succ, i64_w, i32_w]
              rfl
            refine pure_ (i := 12) (N := some 6) (v := ?_) (a' := ?_) #[true, true, true, true, true, true, true, true, true, true, true, true, true] rfl rfl (by kernel_rfl) (fun _ _ _ h => h) (Or.inl ⟨by rfl, ?_⟩) ?_ ?_
            rotate_left
            · intro w'
              go_simp
              with_reducible rfl
            rotate_left
            · simp only [Act.put, List.setIfInBounds_toArray, List.set_cons_zero, List.set_cons_succ, i64_w, i32_w]
              rfl
            refine done_ (by kernel_rfl) ?_
            go_wp2
            go_ret
            exact ⟨rfl, below_drew fin.out⟩
      · have b1 : decide ((k : Int) < ds.length) = false := by simp; omega
        clear hlt
        have F := Lib.hid (And.intro R.out.both (And.intro R.out.x R.out.bel))
        have hn1 := R.out.n0
        have hn2 := R.out.nk
        have hCl : st.C.length ≤ 65536 := by have h1 := R.out.inv.cl; have h2 := bd.out.fit; omega
        clear R
        go_wp2_with fail
        go_loopw [13] (fun i wq => ∃ (k2 : Nat) (n' : Int), k2 ≤ st.C.length ∧ i = .int .i64 k2 ∧ 0 ≤ n' ∧ n' ≤ 4000000 + k2 ∧ Hid (BothAt w1.heap.size sb p v n' vg vt vr (.slice AC st.C.length cC) (.slice AG st.s.gens.length cG) (.slice AT st.s.taken.length cT) (.slice AR st.s.row.length cR) (.slice AL st.L.length cL) st.C st.s st.L wq ∧ X10 q #[.pointer (some ⟨sb, 0, none⟩), .pointer (some ⟨p, 0, none⟩), .slice AC st.C.length cC, .int .i64 cnt, .int .i64 st.s.first, .int .i64 st.s.words, .slice AG st.s.gens.length cG, .slice AT st.s.taken.length cT, .slice AR st.s.row.length cR, .slice AL st.L.length cL] wq ∧ Below w1.heap.size w1 wq))
          (fun i _ => st.C.length - (intOf i).toNat)
        case atStart => exact ⟨0, n, by omega, rfl, by omega, by omega, F⟩
        case round =>
          clear F a0 a1 a2 a3 a4 a5 a6 a7 a8 a9
          obtain ⟨k2, n', hk2, rfl, m1, m2, K⟩ := hrel
          obtain ⟨⟨a0, a1, a2, a3, a4, a5, a6, a7, a8, a9⟩, -⟩ := cells10 K.out.2.1
          by_cases hlt2 : k2 < st.C.length
          · have b3 : decide ((k2 : Int) < (st.C.length : Int)) = true := by simp; omega
            obtain ⟨gC, c', e1, -, -, -, hlg, hx, -⟩ := own_shape K.out.1.x.c.own (by omega)
            injection e1 with e2 e3 e4
            subst e2 e4
            have ek : (st.C.map (Value.int .u64)).getD k2 (.bool false) = .int .u64 (st.C.getD k2 0) := by simp [List.getD, hlt2]
            have hx2 := hx k2 hlt2
            rw [ek] at hx2
            have hin : inR st.C k2 = true := by unfold inR; simp; omega
            have M1 := Mem.load K.out.1.sl.mem (k2 : Int) (by omega) (by omega)
            have er : rdAt st.C k2 = st.C.getD k2 0 := by unfold rdAt; rw [if_pos hin]; rfl
            have ee : errAt st.C k2 = 0 := by unfold errAt; rw [if_pos hin]
            rw [er, ee] at M1
            have hh := hit_le st.C k2
            have nf : ¬ Foot p v gC := fun e => (K.out.1.far gC (.inr (.inl e))).1 rfl
            have nq : ¬ Foot p v q := fun e => slab_ty K.out.1.sl K.out.2.1 (.inr (.inl e))
            have sW := K.out.2.2.size
            have low := fun k (e : Foot p v k) => (K.out.1.sl.low k (.inr (.inl e))).1
            generalize st.C.getD k2 0 = cv at *
            replace M1 := Lib.hid M1
            replace low := Lib.hid low
            clear hx ek hin er ee
            go_wp2_with fail
            refine M1.out.mono ?_
            rintro e w8 ⟨rfl, m8, o8⟩
            have b8 := both_load K.out.1 m8 o8
            have x8 : X10 q #[.pointer (some ⟨sb, 0, none⟩), .pointer (some ⟨p, 0, none⟩), .slice (some ⟨gC, 0, none⟩) st.C.length cC, .int .i64 cnt, .int .i64 st.s.first, .int .i64 st.s.words, .slice AG st.s.gens.length cG, .slice AT st.s.taken.length cT, .slice AR st.s.row.length cR, .slice AL st.L.length cL] w8 := (o8.block _ (lt_of_heap K.out.2.1) nq).trans K.out.2.1
            have bl8 := K.out.2.2.trans (o8.toBelow _ sW (fun k _ e => low.out k e))
            have hx8 : w8.cell? ⟨gC, k2, none⟩ = some (.int .u64 cv) := (o8.cell (p := ⟨gC, k2, none⟩) hlg nf).trans hx2
            clear a0 a1 a2 a3 a4 a5 a6 a7 a8 a9 hx2 M1
            obtain ⟨⟨a0, a1, a2, a3, a4, a5, a6, a7, a8, a9⟩, -⟩ := cells10 x8
            have K8 := Lib.hid (And.intro b8 (And.intro x8 bl8))
            have hqw : q < w8.heap.size := lt_of_heap x8
            clear b8 x8 bl8 m8 o8 K low nf nq
            go_wp2
            go_roundw
            case rel => exact ⟨k2 + 1, _, by omega, by go_num, by omega, by omega, K8⟩
            case measure => simp [intOf]; omega
          · have b3 : decide ((k2 : Int) < (st.C.length : Int)) = false := by simp; omega
            have fin := Lib.hid (hbW.out.trans (K.out.2.2.mono hbW.out.size))
            have KB := Lib.hid K.out.1.sl
            go_wp2_with fail
            refine start_ (n := 13) (S := fun w' => w'.cell? ⟨q, 1, none⟩ = some (.pointer (some ⟨p, 0, none⟩)) ∧ w'.cell? ⟨q, 2, none⟩ = some (.slice AC st.C.length cC)) (ds := []) #[false, false, false, false, false, false, false, false, false, false, false, false, false] (by kernel_rfl) rfl rfl ⟨a1, a2⟩ (fun hHeld => ?_)
            refine pure_ (i := 0) (N := some 111) (v := ?_) (a' := ?_) #[true, false, false, false, false, false, false, false, false, false, false, false, false] rfl rfl (by kernel_rfl) (fun _ _ _ h => h) (Or.inl ⟨by rfl, ?_⟩) ?_ ?_
            rotate_left
            · intro w'
              go_simp
              with_reducible rfl
            rotate_left
            · simp only [Act.put, List.setIfInBounds_toArray, List.set_cons_zero, List.set_cons_succ, i64_w, i32_w]
              rfl
            refine pure_ (i := 1) (N := some 112) (v := ?_) (a' := ?_) #[true, true, false, false, false, false, false, false, false, false, false, false, false] rfl rfl (by kernel_rfl) (fun _ _ _ h => h) (Or.inl ⟨by rfl, ?_⟩) ?_ ?_
            rotate_left
            · intro w'
              go_simp
              with_reducible rfl
            rotate_left
            · simp only [Act.put, List.setIfInBounds_toArray, List.set_cons_zero, List.set_cons_succ, i64_w, i32_w]
              rfl
            refine pure_ (i := 2) (N := some 113) (v := ?_) (a' := ?_) #[true, true, true, false, false, false, false, false, false, false, false, false, false] rfl rfl (by kernel_rfl) (fun _ _ _ h => h) (Or.inl ⟨by rfl, ?_⟩) ?_ ?_
            rotate_left
            · intro w'
              go_simp
              with_reducible rfl
            rotate_left
            · simp only [Act.put, List.setIfInBounds_toArray, List.set_cons_zero, List.set_cons_succ, i64_w, i32_w]
              rfl
            refine pure_ (i := 5) (N := some 116) (v := ?_) (a' := ?_) #[true, true, true, false, false, true, false, false, false, false, false, false, false] rfl rfl (by kernel_rfl) (fun _ _ _ h => h) (Or.inl ⟨by rfl, ?_⟩) ?_ ?_
            rotate_left
            · intro w'
              go_simp
              with_reducible rfl
            rotate_left
            · simp only [Act.put, List.setIfInBounds_toArray, List.set_cons_zero, List.set_cons_succ, i64_w, i32_w]
              rfl
            refine pure_ (i := 6) (N := some 117) (v := ?_) (a' := ?_) #[true, true, true, false, false, true, true, false, false, false, false, false, false] rfl rfl (by kernel_rfl) (fun _ _ _ h => h) (Or.inl ⟨by rfl, ?_⟩) ?_ ?_
            rotate_left
            · intro w'
              go_simp
              with_reducible rfl
            rotate_left
            · simp only [Act.put, List.setIfInBounds_toArray, List.set_cons_zero, List.set_cons_succ, i64_w, i32_w]
              rfl
            refine pure_ (i := 7) (N := some 118) (v := ?_) (a' := ?_) #[true, true, true, false, false, true, true, true, false, false, false, false, false] rfl rfl (by kernel_rfl) (fun _ _ _ h => h) (Or.inl ⟨by rfl, ?_⟩) ?_ ?_
            rotate_left
            · intro w'
              go_simp
              with_reducible rfl
            rotate_left
            · simp only [Act.put, List.setIfInBounds_toArray, List.set_cons_zero, List.set_cons_succ, i64_w, i32_w]
              rfl
            refine take_ (i := 3) (N := some 114) (v := ?_) (a' := ?_) #[true, true, true, true, false, true, true, true, false, false, false, false, false] rfl rfl (by kernel_rfl) (fun _ _ _ h => h) (Or.inl ⟨by rfl, ?_⟩) hHeld ?_ ?_
            rotate_left
            · rintro w' ⟨s0, s1⟩
              go_simp
              with_reducible rfl
            rotate_left
            · simp only [Act.put, List.setIfInBounds_toArray, List.set_cons_zero, List.set_cons_succ, i64_w, i32_w]
              rfl
            refine take_ (i := 8) (N := some 119) (v := ?_) (a' := ?_) #[true, true, true, true, false, true, true, true, true, false, false, false, false] rfl rfl (by kernel_rfl) (fun _ _ _ h => h) (Or.inl ⟨by rfl, ?_⟩) hHeld ?_ ?_
            rotate_left
            · rintro w' ⟨s0, s1⟩
              go_simp
              with_reducible rfl
            rotate_left
            · simp only [Act.put, List.setIfInBounds_toArray, List.set_cons_zero, List.set_cons_succ, i64_w, i32_w]
              rfl
            refine pure_ (i := 9) (N := some 120) (v := ?_) (a' := ?_) #[true, true, true, true, false, true, true, true, true, true, false, false, false] rfl rfl (by kernel_rfl) (fun _ _ _ h => h) (Or.inl ⟨by rfl, ?_⟩) ?_ ?_
            rotate_left
            · intro w'
              go_simp
              with_reducible rfl
            rotate_left
            · simp only [Act.put, List.setIfInBounds_toArray, List.set_cons_zero, List.set_cons_succ, i64_w, i32_w]
              rfl
            refine one_ (i := 4) (N := some 115) #[true, true, true, true, true, true, true, true, true, true, false, false, false] rfl rfl (by kernel_rfl) (by decide) (fun K hK => ?_)
            refine goes_ Try.func21 (by kernel_rfl) rfl #[.pointer (some ⟨p, 0, none⟩)] (by rfl) rfl rfl (by simp only [List.map_toArray, List.map_cons, List.map_nil]; rfl) ?_
            with_reducible refine (Mem.len KB.out.drew.mem).mono ?_
            rintro e w9 ⟨rfl, e9⟩
            subst e9
            refine ⟨_, rfl, ?_⟩
            refine hK.out _ _ ⟨a1, a2⟩ (fun hHeld => ?_)
            clear hK K
            refine norm_ (a' := ?_) ?_ ?_
            rotate_left
            · show Act.put _ (some 115) _ = _
              simp only [Act.put, List.setIfInBounds_toArray, List.set_cons_zero, List.set_cons_succ, i64_w, i32_w]
              rfl
            refine pure_ (i := 10) (N := some 121) (v := ?_) (a' := ?_) #[true, true, true, true, true, true, true, true, true, true, true, false, false] rfl rfl (by kernel_rfl) (fun _ _ _ h => h) (Or.inl ⟨by rfl, ?_⟩) ?_ ?_
            rotate_left
            · intro w'
              go_simp
              with_reducible rfl
            rotate_left
            · simp only [Act.put, List.setIfInBounds_toArray, List.set_cons_zero, List.set_cons_succ, i64_w, i32_w]
              rfl
            refine pure_ (i := 11) (N := some 122) (v := ?_) (a' := ?_) #[true, true, true, true, true, true, true, true, true, true, true, true, false] rfl rfl (by kernel_rfl) (fun _ _ _ h => h) (Or.inl ⟨by rfl, ?_⟩) ?_ ?_
            rotate_left
            · intro w'
              go_simp
              with_reducible rfl
            rotate_left
            · simp only [Act.put, List.setIfInBounds_toArray, List.set_cons_zero, List.set_cons_succ, i64_w, i32_w]
              rfl
            refine pure_ (i := 12) (N := some 6) (v := ?_) (a' := ?_) #[true, true, true, true, true, true, true, true, true, true, true, true, true] rfl rfl (by kernel_rfl) (fun _ _ _ h => h) (Or.inl ⟨by rfl, ?_⟩) ?_ ?_
            rotate_left
            · intro w'
              go_simp
              with_reducible rfl
            rotate_left
            · simp only [Act.put, List.setIfInBounds_toArray, List.set_cons_zero, List.set_cons_succ, i64_w, i32_w]
              rfl
            refine done_ (by kernel_rfl) ?_
            go_wp2
            go_ret
            exact ⟨rfl, below_drew fin.out⟩

set_option maxHeartbeats 8000000 in
set_option maxRecDepth 2000000 in
theorem nobody (words most : Int) (hw : -9223372036854775808 ≤ words ∧ words ≤ 9223372036854775807) (hm : -9223372036854775808 ≤ most ∧ most ≤ 9223372036854775807) (h : ¬ (500 < words ∨ 500 < most ∨ (0 < words ∧ 500 / words < most))) (hb : words < 1 ∨ most < 1) (V : Value) (W : World) :
    Calls Try.prog 12 #[.int .i64 words, .int .i64 most, V] W fun e w' => e = .returned (.bool true) ∧ Below W.heap.size W w' := by
  have g1 : decide ((500 : Int) < words) = false := decide_eq_false (by omega)
  have g2 : decide ((500 : Int) < most) = false := decide_eq_false (by omega)
  have main : ∀ w1, Below W.heap.size W w1 → Calls Try.prog 32 #[.int .i64 words, .int .i64 most] w1 fun e w' => (∃ p, e = .returned (.tuple #[.agg #[.pointer none, .pointer (some ⟨p, 0, none⟩), .slice none 0 0, .int .i64 0, .int .i64 0, .int .i64 0, .slice none 0 0, .slice none 0 0, .slice none 0 0, .slice none 0 0], .bool true])) ∧ Below w1.heap.size w1 w' := fun w1 _ => begun_bad words most hb hw hm w1
  replace main := Lib.hid main
  by_cases h0 : 0 < words
  · have g3 : decide ((0 : Int) < words) = true := decide_eq_true h0
    have g4 : decide ((500 : Int) / words < most) = false := decide_eq_false (fun e => h (.inr (.inr ⟨h0, e⟩)))
    clear h hb
    go_enter Try.func12, Try.ntmps12
    go_wp2_with fail
    refine (SlabAwake.awake _).mono ?_
    rintro e w1 ⟨rfl, hbA⟩
    have M1 := Lib.hid (main.out w1 hbA)
    replace hbA := Lib.hid hbA
    go_wp2_with fail
    refine M1.out.mono ?_
    rintro e w2 ⟨⟨p, rfl⟩, b2⟩
    have fin := Lib.hid ((hbA.out.trans (b2.mono hbA.out.size)).alloc (Nat.le_trans hbA.out.size b2.size) (.cells #[.pointer none, .pointer (some ⟨p, 0, none⟩), .slice none 0 0, .int .i64 0, .int .i64 0, .int .i64 0, .slice none 0 0, .slice none 0 0, .slice none 0 0, .slice none 0 0] 54))
    clear main M1 hbA b2
    go_wp2
    go_ret
    exact ⟨rfl, fin.out⟩
  · have g3 : decide ((0 : Int) < words) = false := decide_eq_false h0
    clear h hb
    go_enter Try.func12, Try.ntmps12
    go_wp2_with fail
    refine (SlabAwake.awake _).mono ?_
    rintro e w1 ⟨rfl, hbA⟩
    have M1 := Lib.hid (main.out w1 hbA)
    replace hbA := Lib.hid hbA
    go_wp2_with fail
    refine M1.out.mono ?_
    rintro e w2 ⟨⟨p, rfl⟩, b2⟩
    have fin := Lib.hid ((hbA.out.trans (b2.mono hbA.out.size)).alloc (Nat.le_trans hbA.out.size b2.size) (.cells #[.pointer none, .pointer (some ⟨p, 0, none⟩), .slice none 0 0, .int .i64 0, .int .i64 0, .int .i64 0, .slice none 0 0, .slice none 0 0, .slice none 0 0, .slice none 0 0] 54))
    clear main M1 hbA b2
    go_wp2
    go_ret
    exact ⟨rfl, fin.out⟩

set_option maxHeartbeats 8000000 in
set_option maxRecDepth 2000000 in
theorem many (words most : Int) (hw : -9223372036854775808 ≤ words ∧ words ≤ 9223372036854775807) (hm : -9223372036854775808 ≤ most ∧ most ≤ 9223372036854775807) (h : 500 < words ∨ 500 < most ∨ (0 < words ∧ 500 / words < most)) (V : Value) (W : World) :
    Calls Try.prog 12 #[.int .i64 words, .int .i64 most, V] W fun e w' => e = .returned (.bool true) ∧ Below W.heap.size W w' := by
  have aw := Lib.hid (SlabAwake.awake W)
  by_cases h1 : 500 < words
  · have g1 : decide ((500 : Int) < words) = true := decide_eq_true h1
    clear h
    go_enter Try.func12, Try.ntmps12
    go_wp2_with fail
    refine aw.out.mono ?_
    rintro e w1 ⟨rfl, hbA⟩
    go_wp2
    go_ret
    exact ⟨rfl, hbA⟩
  by_cases h2 : 500 < most
  · have g1 : decide ((500 : Int) < words) = false := decide_eq_false h1
    have g2 : decide ((500 : Int) < most) = true := decide_eq_true h2
    clear h
    go_enter Try.func12, Try.ntmps12
    go_wp2_with fail
    refine aw.out.mono ?_
    rintro e w1 ⟨rfl, hbA⟩
    go_wp2
    go_ret
    exact ⟨rfl, hbA⟩
  · have h3 : 0 < words ∧ 500 / words < most := by rcases h with q | q | q; exact absurd q h1; exact absurd q h2; exact q
    have g1 : decide ((500 : Int) < words) = false := decide_eq_false h1
    have g2 : decide ((500 : Int) < most) = false := decide_eq_false h2
    have g3 : decide ((0 : Int) < words) = true := decide_eq_true h3.1
    have g4 : decide ((500 : Int) / words < most) = true := decide_eq_true h3.2
    have h4 := h3.1
    clear h h3
    go_enter Try.func12, Try.ntmps12
    go_wp2_with fail
    refine aw.out.mono ?_
    rintro e w1 ⟨rfl, hbA⟩
    go_wp2
    go_ret
    exact ⟨rfl, hbA⟩

theorem walk (words most : Int) (V : Value) (ds : List (List Int)) (hw : -9223372036854775808 ≤ words ∧ words ≤ 9223372036854775807) (hm : -9223372036854775808 ≤ most ∧ most ≤ 9223372036854775807) (W : World) (hV : Structs ks5 W V ds) :
    Calls Try.prog 12 #[.int .i64 words, .int .i64 most, V] W fun e w' => e = .returned (.bool true) ∧ Below W.heap.size W w' := by
  by_cases h : 500 < words ∨ 500 < most ∨ (0 < words ∧ 500 / words < most)
  · exact many words most hw hm h V W
  by_cases hb : words < 1 ∨ most < 1
  · exact nobody words most hw hm h hb V W
  obtain ⟨a, rfl⟩ := Int.eq_ofNat_of_zero_le (show 0 ≤ words by omega)
  obtain ⟨b, rfl⟩ := Int.eq_ofNat_of_zero_le (show 0 ≤ most by omega)
  refine plays a b (by omega) (by omega) ?_ V ds W hV
  have h5 : (b : Int) ≤ 500 / (a : Int) := by
    rcases Int.lt_or_le (500 / (a : Int)) b with q | q
    · exact absurd (.inr (.inr ⟨by omega, q⟩)) h
    · exact q
  rw [Int.le_ediv_iff_mul_le (by omega)] at h5
  have : ((a * b : Nat) : Int) = (b : Int) * a := by rw [Nat.mul_comm]; simp
  omega
end Go.Proofs.Ytllibgjajlgnbaa.WalkSlabPlays
