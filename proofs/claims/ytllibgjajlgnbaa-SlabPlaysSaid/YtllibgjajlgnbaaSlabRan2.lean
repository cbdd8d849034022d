/- Both slabs behind deeds. Laid by genslabran.py. -/
import Derived.Test.YtllibgjajlgnbaaSlabAwake
namespace Go.Proofs.Ytllibgjajlgnbaa.SlabRan
open Go Go.RowKit Go.Proofs.Ytllibgjajlgnbaa.Only Go.Proofs.Ytllibgjajlgnbaa.Mem Go.Proofs.Ytllibgjajlgnbaa.New Go.Proofs.Ytllibgjajlgnbaa.Ref Go.Proofs.Ytllibgjajlgnbaa.Slab Go.Proofs.Ytllibgjajlgnbaa.SlabRef Go.Proofs.Ytllibgjajlgnbaa.SlabDo Go.Proofs.Ytllibgjajlgnbaa.SlabLaw Go.Proofs.Ytllibgjajlgnbaa.Args
set_option linter.unusedVariables false
set_option linter.unusedSimpArgs false

theorem BothAt.mono {B B' sb p : Nat} {v vg vt vr xC xG xT xR vL : Value} {n : Int} {C : List Int} {s : Sl} {L : List Int} {w : World} (h : BothAt B sb p v n vg vt vr xC xG xT xR vL C s L w) (hB : B' ≤ B) : BothAt B' sb p v n vg vt vr xC xG xT xR vL C s L w :=
  ⟨slab_mono h.sl hB, h.x.mono hB, own_mono h.l hB, h.far⟩

/-- What ran leaves. -/
def RanTo (W : World) (e : Ending) (w' : World) : Prop :=
  ∃ sb p v vg vt vr xC xG xT xR vL n cnt st, e = .returned (.agg (bv sb p xC cnt st.s xG xT xR vL)) ∧ BothAt W.heap.size sb p v n vg vt vr xC xG xT xR vL st.C st.s st.L w' ∧ SlabLaw.Inv 3 3 4 60 st ∧ 0 ≤ n ∧ n ≤ 4000000 ∧ 0 ≤ cnt ∧ cnt ≤ 4000000 ∧ Below W.heap.size W w'
theorem bd4 : Bd 3 3 4 := ⟨by omega, by omega, by omega⟩

set_option maxHeartbeats 8000000 in
set_option maxRecDepth 2000000 in
theorem ran (V : Value) (ds : List (List Int)) (W : World) (hV : Structs ks5 W V ds) :
    Calls Try.prog 24 #[V] W (RanTo W) := by
  obtain ⟨A, cap, rfl, hl, -⟩ := hV.shape
  unfold maxLen at hl
  have hV := Lib.hid hV
  have bd := bd4
  have hm : 1 ≤ 4 := by omega
  have BG := SlabDo.begun 3 4 (by omega) (by omega) (by omega) (W.alloc (.cells #[.pointer none, .pointer none, .slice none 0 0, .int .i64 0, .int .i64 0, .int .i64 0, .slice none 0 0, .slice none 0 0, .slice none 0 0, .slice none 0 0] 54))
  have hr0 := heap_alloc_new W (.cells #[.pointer none, .pointer none, .slice none 0 0, .int .i64 0, .int .i64 0, .int .i64 0, .slice none 0 0, .slice none 0 0, .slice none 0 0, .slice none 0 0] 54)
  have hbW : Below W.heap.size W (W.alloc (.cells #[.pointer none, .pointer none, .slice none 0 0, .int .i64 0, .int .i64 0, .int .i64 0, .slice none 0 0, .slice none 0 0, .slice none 0 0, .slice none 0 0] 54)) := (Below.refl _ _).alloc (Nat.le_refl _) _
  generalize hw1 : (W.alloc (.cells #[.pointer none, .pointer none, .slice none 0 0, .int .i64 0, .int .i64 0, .int .i64 0, .slice none 0 0, .slice none 0 0, .slice none 0 0, .slice none 0 0] 54)) = w1 at *
  have BG := Lib.hid BG
  replace hw1 := Lib.hid hw1
  replace bd := Lib.hid bd
  go_enter Try.func24, Try.ntmps24
  go_wp2_with fail
  rw [hw1.out]
  refine BG.out.mono ?_
  rintro e w2 ⟨sb, p, v, vg, vt, vr, xC, xG, xT, xR, rfl, b2, B2⟩
  clear BG hw1
  have I0 : SlabLaw.Inv 3 3 4 0 ⟨List.replicate (3 + 3 * 4) 0, newS 3 3 4 4, []⟩ := Inv.new 3 3 4
  obtain ⟨st0, hst0⟩ : ∃ st0, (⟨List.replicate (3 + 3 * 4) 0, newS 3 3 4 4, []⟩ : St) = st0 := ⟨_, rfl⟩
  rw [hst0] at I0
  have ec : List.replicate (3 + 3 * 4) (0 : Int) = st0.C := by rw [← hst0]
  have es' : newS 3 3 4 4 = st0.s := by rw [← hst0]
  have el : st0.L = [] := by rw [← hst0]
  rw [ec, es'] at b2
  rw [es']
  obtain ⟨AC, cC, e1, -⟩ := own_any b2.x.c.own
  obtain ⟨AG, cG, e2, -⟩ := own_any b2.x.g
  obtain ⟨AT, cT, e3, -⟩ := own_any b2.x.t
  obtain ⟨AR, cR, e4, -⟩ := own_any b2.x.r
  subst e1 e2 e3 e4
  rw [← el] at b2
  have hq2 := B2.size
  have R : Round w1 w2.heap.size sb p v vg vt vr (.slice AC st0.C.length cC) (.slice AG st0.s.gens.length cG) (.slice AT st0.s.taken.length cT) (.slice AR st0.s.row.length cR) (.slice none 0 0) 0 0 3 3 4 0 st0 (w2.alloc (.cells #[.pointer (some ⟨sb, 0, none⟩), .pointer (some ⟨p, 0, none⟩), .slice AC st0.C.length cC, .int .i64 0, .int .i64 st0.s.first, .int .i64 st0.s.words, .slice AG st0.s.gens.length cG, .slice AT st0.s.taken.length cT, .slice AR st0.s.row.length cR, .slice none 0 0] 54)) :=
    ⟨BothAt.below b2 ((Below.refl _ _).alloc (Nat.le_refl _) _), I0, heap_alloc_new w2 _, hq2, by omega, by omega, by omega, by omega, B2.alloc hq2 _⟩
  replace R := Lib.hid R
  replace hV := Lib.hid (structs_below hV.out hbW)
  replace hbW := Lib.hid hbW
  replace hr0 := Lib.hid hr0
  clear b2 B2 hst0 ec es' el I0
  unfold bv
  go_upto_region 2 with fail
  generalize (w2.alloc (.cells #[.pointer (some ⟨sb, 0, none⟩), .pointer (some ⟨p, 0, none⟩), .slice AC st0.C.length cC, .int .i64 0, .int .i64 st0.s.first, .int .i64 st0.s.words, .slice AG st0.s.gens.length cG, .slice AT st0.s.taken.length cT, .slice AR st0.s.row.length cR, .slice none 0 0] 54)) = w3 at *
  generalize w2.heap.size = q at *
  go_wp2_with fail
  go_loopw [5] (fun i wr => ∃ k vr xC xG xT xR vL n cnt st, k ≤ ds.length ∧ k ≤ 60 ∧ i = .int .i64 k ∧ Hid (Round w1 q sb p v vg vt vr xC xG xT xR vL n cnt 3 3 4 k st wr))
    (fun i _ => 60 - (intOf i).toNat)
  case atStart => exact ⟨0, _, _, _, _, _, _, _, _, _, by omega, by omega, rfl, R⟩
  case round =>
    clear R
    obtain ⟨k, vr, xC, xG, xT, xR, vL, n, cnt, st, hk, hk60, rfl, R⟩ := hrel
    obtain ⟨AC, cC, e1, -⟩ := own_any R.out.both.x.c.own
    obtain ⟨AG, cG, e2, -⟩ := own_any R.out.both.x.g
    obtain ⟨AT, cT, e3, -⟩ := own_any R.out.both.x.t
    obtain ⟨AR, cR, e4, -⟩ := own_any R.out.both.x.r
    obtain ⟨AL, cL, e5, -⟩ := own_any R.out.both.l
    subst e1 e2 e3 e4 e5
    have RX := R.out.x
    unfold bv at RX
    obtain ⟨⟨a0, a1, a2, a3, a4, a5, a6, a7, a8, a9⟩, -⟩ := cells10 RX
    clear RX
    by_cases hlt : k < ds.length ∧ k < 60
    · obtain ⟨hlt, hlt60⟩ := hlt
      obtain ⟨x, rfl, dOk, hdc⟩ := deedCells hV.out hlt
      generalize deedOf (ds.getD k []) = dd at *
      obtain ⟨dk, di, dN, dV, dr⟩ := dd
      dsimp only at hdc
      have b1 : decide ((k : Int) < ds.length) = true := by simp; omega
      have b2 : decide ((k : Int) < 60) = true := by simp; omega
      have hOk := Lib.hid dOk
      have hxb := (hdc w1 (Below.refl _ _)).2
      have hcell := Lib.hid (fun w' hb => (hdc w' hb).1)
      clear hdc dOk
      obtain ⟨f0, f1, f2, f3, f4⟩ := hcell.out wr R.out.bel
      obtain ⟨st5, hst5⟩ : ∃ st5, doS st ⟨dk, di, dN, dV, dr⟩ = st5 := ⟨_, rfl⟩
      have I5 := R.out.inv.step bd.out ⟨dk, di, dN, dV, dr⟩
      rw [hst5] at I5
      replace I5 := Lib.hid I5
      replace hst5 := Lib.hid hst5
      go_wp2_with fail
      have Rd := Lib.hid R.out.drew
      have Rd2 := Lib.hid (R.out.next ((Below.refl _ _).alloc (Nat.le_refl _) (.cells #[.pointer none, .pointer none, .slice none 0 0, .int .i64 0, .int .i64 0, .int .i64 0, .slice none 0 0, .slice none 0 0, .slice none 0 0, .slice none 0 0] 54))).drew
      have hqw := lt_of_heap R.out.x
      have hWw := R.out.bel.size
      have ne1 : ¬ wr.heap.size = q := by omega
      have ne2 : ¬ wr.heap.size = (x.add (k * 5)).block := by rw [Args.add_block]; omega
      have ne3 : ∀ o, ¬ (⟨wr.heap.size, o, none⟩ : Addr) = x.add (k * 5) := fun o e => ne2 (by rw [← e])
      have ne4 : ¬ q = wr.heap.size := by omega
      have ne5 : ¬ (x.add (k * 5)).block = wr.heap.size := fun e => ne2 e.symm
      have ne6 : ∀ o, ¬ x.add (k * 5) = (⟨wr.heap.size, o, none⟩ : Addr) := fun o e => ne3 o e.symm
      go_wp2_with fail
      go_region_held3 (fun w' => w'.cell? ⟨q, 0, none⟩ = some (.pointer (some ⟨sb, 0, none⟩)) ∧ w'.cell? ⟨q, 1, none⟩ = some (.pointer (some ⟨p, 0, none⟩)) ∧ w'.cell? ⟨q, 2, none⟩ = some (.slice AC st.C.length cC) ∧ w'.cell? ⟨q, 3, none⟩ = some (.int .i64 cnt) ∧ w'.cell? ⟨q, 4, none⟩ = some (.int .i64 st.s.first) ∧ w'.cell? ⟨q, 5, none⟩ = some (.int .i64 st.s.words) ∧ w'.cell? ⟨q, 6, none⟩ = some (.slice AG st.s.gens.length cG) ∧ w'.cell? ⟨q, 7, none⟩ = some (.slice AT st.s.taken.length cT) ∧ w'.cell? ⟨q, 8, none⟩ = some (.slice AR st.s.row.length cR) ∧ w'.cell? ⟨q, 9, none⟩ = some (.slice AL st.L.length cL) ∧ w'.cell? (x.add (k * 5)) = some (.int .i64 dk) ∧ w'.cell? ⟨(x.add (k * 5)).block, (x.add (k * 5)).off + 1, none⟩ = some (.int .i64 di) ∧ w'.cell? ⟨(x.add (k * 5)).block, (x.add (k * 5)).off + 2, none⟩ = some (.int .u8 dN) ∧ w'.cell? ⟨(x.add (k * 5)).block, (x.add (k * 5)).off + 3, none⟩ = some (.int .u64 dV) ∧ w'.cell? ⟨(x.add (k * 5)).block, (x.add (k * 5)).off + 4, none⟩ = some (.int .u64 dr))
        (first | go_keep | exact S5)
        (first
          | (go_at_call 36 ; refine (deed Rd.out.both Rd.out.inv bd.out hm (by omega) (by have := Rd.out.n0 ; have := Rd.out.nk ; omega) cnt (by have := Rd.out.c0 ; have := Rd.out.ck ; omega) ⟨dk, di, dN, dV, dr⟩ hOk.out).mono ?_ ; rintro e w5 hdid ; rw [hst5.out] at hdid ; obtain ⟨n5, cnt5, vr5, xC5, xG5, xT5, xR5, vL5, rfl, n5a, n5b, c5a, c5b, b5, o5⟩ := hdid ; obtain ⟨BC, bC, e1, -⟩ := own_any b5.x.c.own ; obtain ⟨BG, bG, e2, -⟩ := own_any b5.x.g ; obtain ⟨BT, bT, e3, -⟩ := own_any b5.x.t ; obtain ⟨BR, bR, e4, -⟩ := own_any b5.x.r ; obtain ⟨BL, bL, e5, -⟩ := own_any b5.l ; subst e1 e2 e3 e4 e5 ; have x5 := (o5.block _ (lt_of_heap Rd.out.x) (slab_ty Rd.out.both.sl Rd.out.x)).trans Rd.out.x ; obtain ⟨⟨y0, y1, y2, y3, y4, y5, y6, y7, y8, y9⟩, -⟩ := cells10 x5 ; have B5 := Rd.out.bel.trans (foot_base Rd.out.both o5 Rd.out.bel.size) ; have S5 := And.intro y0 (And.intro y1 (And.intro y2 (And.intro y3 (And.intro y4 (And.intro y5 (And.intro y6 (And.intro y7 (And.intro y8 (And.intro y9 (hcell.out w5 B5)))))))))) ; replace b5 := Lib.hid b5 ; replace o5 := Lib.hid o5 ; replace x5 := Lib.hid x5 ; replace B5 := Lib.hid B5 ; unfold bv)
          | (go_at_call 36 ; refine (deed Rd2.out.both Rd2.out.inv bd.out hm (by omega) (by have := Rd2.out.n0 ; have := Rd2.out.nk ; omega) cnt (by have := Rd2.out.c0 ; have := Rd2.out.ck ; omega) ⟨dk, di, dN, dV, dr⟩ hOk.out).mono ?_ ; rintro e w5 hdid ; rw [hst5.out] at hdid ; obtain ⟨n5, cnt5, vr5, xC5, xG5, xT5, xR5, vL5, rfl, n5a, n5b, c5a, c5b, b5, o5⟩ := hdid ; obtain ⟨BC, bC, e1, -⟩ := own_any b5.x.c.own ; obtain ⟨BG, bG, e2, -⟩ := own_any b5.x.g ; obtain ⟨BT, bT, e3, -⟩ := own_any b5.x.t ; obtain ⟨BR, bR, e4, -⟩ := own_any b5.x.r ; obtain ⟨BL, bL, e5, -⟩ := own_any b5.l ; subst e1 e2 e3 e4 e5 ; have x5 := (o5.block _ (lt_of_heap Rd2.out.x) (slab_ty Rd2.out.both.sl Rd2.out.x)).trans Rd2.out.x ; obtain ⟨⟨y0, y1, y2, y3, y4, y5, y6, y7, y8, y9⟩, -⟩ := cells10 x5 ; have B5 := Rd2.out.bel.trans (foot_base Rd2.out.both o5 Rd2.out.bel.size) ; have S5 := And.intro y0 (And.intro y1 (And.intro y2 (And.intro y3 (And.intro y4 (And.intro y5 (And.intro y6 (And.intro y7 (And.intro y8 (And.intro y9 (hcell.out w5 B5)))))))))) ; have t5 := (o5.block wr.heap.size (by simp) (fun e => by have h1 := (R.out.both.sl.low _ e).2 ; omega)).trans (heap_alloc_new wr (.cells #[.pointer none, .pointer none, .slice none 0 0, .int .i64 0, .int .i64 0, .int .i64 0, .slice none 0 0, .slice none 0 0, .slice none 0 0, .slice none 0 0] 54)) ; obtain ⟨⟨z0, z1, z2, z3, z4, z5, z6, z7, z8, z9⟩, fz⟩ := cells10 t5 ; have h0 := fz 0 ; have h1 := fz 1 ; have h2 := fz 2 ; have h3 := fz 3 ; have h4 := fz 4 ; have h5 := fz 5 ; have h6 := fz 6 ; have h7 := fz 7 ; have h8 := fz 8 ; have h9 := fz 9 ; clear fz ; replace t5 := Lib.hid t5 ; replace b5 := Lib.hid b5 ; replace o5 := Lib.hid o5 ; replace x5 := Lib.hid x5 ; replace B5 := Lib.hid B5 ; unfold bv))
      · obtain ⟨w6, e6, q6⟩ : ∃ w6, w6 = w5.alloc (.cells #[.pointer (some ⟨sb, 0, none⟩), .pointer (some ⟨p, 0, none⟩), .slice BC st5.C.length bC, .int .i64 cnt5, .int .i64 st5.s.first, .int .i64 st5.s.words, .slice BG st5.s.gens.length bG, .slice BT st5.s.taken.length bT, .slice BR st5.s.row.length bR, .slice BL st5.L.length bL] 54) ∧ X10 q #[.pointer (some ⟨sb, 0, none⟩), .pointer (some ⟨p, 0, none⟩), .slice AC st.C.length cC, .int .i64 cnt, .int .i64 st.s.first, .int .i64 st.s.words, .slice AG st.s.gens.length cG, .slice AT st.s.taken.length cT, .slice AR st.s.row.length cR, .slice AL st.L.length cL] w6 := ⟨_, rfl, (heap_alloc_old _ _ (lt_of_heap x5.out)).trans x5.out⟩
        have t6 : X10 w5.heap.size #[.pointer (some ⟨sb, 0, none⟩), .pointer (some ⟨p, 0, none⟩), .slice BC st5.C.length bC, .int .i64 cnt5, .int .i64 st5.s.first, .int .i64 st5.s.words, .slice BG st5.s.gens.length bG, .slice BT st5.s.taken.length bT, .slice BR st5.s.row.length bR, .slice BL st5.L.length bL] w6 := by rw [e6]; exact heap_alloc_new _ _
        have o6 : Only (fun k => k = q ∨ k = w5.heap.size) w5 w6 := by rw [e6]; exact ofBelow ((Below.refl _ _).alloc (Nat.le_refl _) _)
        have hqt : q ≠ w5.heap.size := by have := lt_of_heap x5.out; omega
        go_upto_region 6 with fail
        rw [← e6]
        clear e6
        have hlt6 : w5.heap.size < w6.heap.size := lt_of_heap t6
        obtain ⟨⟨u0, u1, u2, u3, u4, u5, u6, u7, u8, u9⟩, -⟩ := cells10 t6
        obtain ⟨⟨v0, v1, v2, v3, v4, v5, v6, v7, v8, v9⟩, fv⟩ := cells10 q6
        have h0 := fv 0
        have h1 := fv 1
        have h2 := fv 2
        have h3 := fv 3
        have h4 := fv 4
        have h5 := fv 5
        have h6 := fv 6
        have h7 := fv 7
        have h8 := fv 8
        have h9 := fv 9
        clear fv
        have hlt7 : q < w6.heap.size := lt_of_heap q6
        obtain ⟨w7, e7, -, -, o7⟩ := end10 q6 (Below.refl 0 w6) (Nat.zero_le _) (.pointer (some ⟨sb, 0, none⟩)) (.pointer (some ⟨p, 0, none⟩)) (.slice BC st5.C.length bC) (.int .i64 cnt5) (.int .i64 st5.s.first) (.int .i64 st5.s.words) (.slice BG st5.s.gens.length bG) (.slice BT st5.s.taken.length bT) (.slice BR st5.s.row.length bR) (.slice BL st5.L.length bL)
        have x7 := put10 q6 (.pointer (some ⟨sb, 0, none⟩)) (.pointer (some ⟨p, 0, none⟩)) (.slice BC st5.C.length bC) (.int .i64 cnt5) (.int .i64 st5.s.first) (.int .i64 st5.s.words) (.slice BG st5.s.gens.length bG) (.slice BT st5.s.taken.length bT) (.slice BR st5.s.row.length bR) (.slice BL st5.L.length bL)
        rw [← e7] at x7
        have o67 : Only (fun k => k = q ∨ k = w5.heap.size) w5 w7 := o6.trans (o7.mono (fun _ _ e => .inl e)) (fun _ _ e => e)
        have fin := Lib.hid (Round.step R.out I5.out b5.out n5a n5b c5a c5b B5.out x5.out ((.inr (Nat.le_refl _) : X10 w5.heap.size #[] w5 ∨ w5.heap.size ≤ w5.heap.size)) (B5.out.size) o67 x7)
        replace e7 := Lib.hid e7
        clear o6 o7 o67 x7 q6 t6
        go_wp2
        rw [← e7.out]
        go_roundw
        case rel => exact ⟨k + 1, _, _, _, _, _, _, _, _, _, by omega, by omega, by go_num, fin⟩
        case measure => simp [intOf]; omega
      · have hqt : q ≠ wr.heap.size := ne4
        obtain ⟨w6, e6, t6, q6, o6', -⟩ := turnT x5.out t5.out hqt (.pointer (some ⟨sb, 0, none⟩)) (.pointer (some ⟨p, 0, none⟩)) (.slice BC st5.C.length bC) (.int .i64 cnt5) (.int .i64 st5.s.first) (.int .i64 st5.s.words) (.slice BG st5.s.gens.length bG) (.slice BT st5.s.taken.length bT) (.slice BR st5.s.row.length bR) (.slice BL st5.L.length bL)
        have o6 : Only (fun k => k = q ∨ k = wr.heap.size) w5 w6 := o6'.mono (fun _ _ e => .inr e)
        clear o6'
        go_upto_region 6 with fail
        rw [← e6]
        clear e6 h0 h1 h2 h3 h4 h5 h6 h7 h8 h9 z0 z1 z2 z3 z4 z5 z6 z7 z8 z9
        have hlt6 : wr.heap.size < w6.heap.size := lt_of_heap t6
        obtain ⟨⟨u0, u1, u2, u3, u4, u5, u6, u7, u8, u9⟩, -⟩ := cells10 t6
        obtain ⟨⟨v0, v1, v2, v3, v4, v5, v6, v7, v8, v9⟩, fv⟩ := cells10 q6
        have h0 := fv 0
        have h1 := fv 1
        have h2 := fv 2
        have h3 := fv 3
        have h4 := fv 4
        have h5 := fv 5
        have h6 := fv 6
        have h7 := fv 7
        have h8 := fv 8
        have h9 := fv 9
        clear fv
        have hlt7 : q < w6.heap.size := lt_of_heap q6
        obtain ⟨w7, e7, -, -, o7⟩ := end10 q6 (Below.refl 0 w6) (Nat.zero_le _) (.pointer (some ⟨sb, 0, none⟩)) (.pointer (some ⟨p, 0, none⟩)) (.slice BC st5.C.length bC) (.int .i64 cnt5) (.int .i64 st5.s.first) (.int .i64 st5.s.words) (.slice BG st5.s.gens.length bG) (.slice BT st5.s.taken.length bT) (.slice BR st5.s.row.length bR) (.slice BL st5.L.length bL)
        have x7 := put10 q6 (.pointer (some ⟨sb, 0, none⟩)) (.pointer (some ⟨p, 0, none⟩)) (.slice BC st5.C.length bC) (.int .i64 cnt5) (.int .i64 st5.s.first) (.int .i64 st5.s.words) (.slice BG st5.s.gens.length bG) (.slice BT st5.s.taken.length bT) (.slice BR st5.s.row.length bR) (.slice BL st5.L.length bL)
        rw [← e7] at x7
        have o67 : Only (fun k => k = q ∨ k = wr.heap.size) w5 w7 := o6.trans (o7.mono (fun _ _ e => .inl e)) (fun _ _ e => e)
        have fin := Lib.hid (Round.step R.out I5.out b5.out n5a n5b c5a c5b B5.out x5.out (.inl t5.out) (hWw) o67 x7)
        replace e7 := Lib.hid e7
        clear o6 o7 o67 x7 q6 t6
        go_wp2
        rw [← e7.out]
        go_roundw
        case rel => exact ⟨k + 1, _, _, _, _, _, _, _, _, _, by omega, by omega, by go_num, fin⟩
        case measure => simp [intOf]; omega
    · have r0 := (R.out.bel.block _ (lt_of_heap hr0.out)).trans hr0.out
      have hlt0 : W.heap.size < wr.heap.size := lt_of_heap r0
      obtain ⟨⟨z0, z1, z2, z3, z4, z5, z6, z7, z8, z9⟩, fz⟩ := cells10 (g := W.heap.size) r0
      have h0 := fz 0
      have h1 := fz 1
      have h2 := fz 2
      have h3 := fz 3
      have h4 := fz 4
      have h5 := fz 5
      have h6 := fz 6
      have h7 := fz 7
      have h8 := fz 8
      have h9 := fz 9
      clear fz
      obtain ⟨w9, e9, ⟨y0, y1, y2, y3, y4, y5, y6, y7, y8, y9⟩, -, on9⟩ := end10 (g := W.heap.size) r0 (Below.refl 0 wr) (Nat.zero_le _) (.pointer (some ⟨sb, 0, none⟩)) (.pointer (some ⟨p, 0, none⟩)) (.slice AC st.C.length cC) (.int .i64 cnt) (.int .i64 st.s.first) (.int .i64 st.s.words) (.slice AG st.s.gens.length cG) (.slice AT st.s.taken.length cT) (.slice AR st.s.row.length cR) (.slice AL st.L.length cL)
      have x9 : X10 W.heap.size _ wr := r0
      have hbs := hbW.out.size
      have s1r := R.out.bel.size
      have b9 := BothAt.mono (BothAt.keepX R.out.both x9 x9 (on9.mono (fun k _ e => .inl e))) hbs
      have bel9 : Below W.heap.size W w9 := (hbW.out.trans (R.out.bel.mono hbs)).trans (on9.toBelow _ (by omega) (fun k _ e => by have e : k = W.heap.size := e; omega))
      have I9 := R.out.inv.mono hk60
      have hn1 := R.out.n0
      have hn2 := R.out.nk
      have hc1 := R.out.c0
      have hc2 := R.out.ck
      replace b9 := Lib.hid b9
      replace bel9 := Lib.hid bel9
      replace I9 := Lib.hid I9
      replace e9 := Lib.hid e9
      clear r0 x9 on9
      by_cases hlt2 : k < ds.length
      · have b1 : decide ((k : Int) < ds.length) = true := by simp; omega
        have b2 : decide ((k : Int) < 60) = false := by simp; omega
        go_wp2
        rw [← e9.out]
        exact bodyPost_ret (v := .agg #[.pointer (some ⟨sb, 0, none⟩), .pointer (some ⟨p, 0, none⟩), .slice AC st.C.length cC, .int .i64 cnt, .int .i64 st.s.first, .int .i64 st.s.words, .slice AG st.s.gens.length cG, .slice AT st.s.taken.length cT, .slice AR st.s.row.length cR, .slice AL st.L.length cL]) (by simp [results, Try.results24, go_sem, y0, y1, y2, y3, y4, y5, y6, y7, y8, y9]) rfl ⟨sb, p, v, vg, vt, vr, _, _, _, _, _, n, cnt, st, rfl, b9.out, I9.out, hn1, by omega, hc1, by omega, bel9.out⟩
      · have b1 : decide ((k : Int) < ds.length) = false := by simp; omega
        go_wp2
        rw [← e9.out]
        exact bodyPost_ret (v := .agg #[.pointer (some ⟨sb, 0, none⟩), .pointer (some ⟨p, 0, none⟩), .slice AC st.C.length cC, .int .i64 cnt, .int .i64 st.s.first, .int .i64 st.s.words, .slice AG st.s.gens.length cG, .slice AT st.s.taken.length cT, .slice AR st.s.row.length cR, .slice AL st.L.length cL]) (by simp [results, Try.results24, go_sem, y0, y1, y2, y3, y4, y5, y6, y7, y8, y9]) rfl ⟨sb, p, v, vg, vt, vr, _, _, _, _, _, n, cnt, st, rfl, b9.out, I9.out, hn1, by omega, hc1, by omega, bel9.out⟩
end Go.Proofs.Ytllibgjajlgnbaa.SlabRan
