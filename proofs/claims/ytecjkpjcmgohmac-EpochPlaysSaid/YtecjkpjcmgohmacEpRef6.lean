/- The reference's pool: Same, New. -/
import Derived.Test.YtecjkpjcmgohmacEpRef5
namespace Go.Proofs.Ytecjkpjcmgohmac.EpRef
open Go Go.RowKit Go.Maps Go.Proofs.Ytecjkpjcmgohmac.Only Go.Proofs.Ytecjkpjcmgohmac.Ep Go.Proofs.Ytecjkpjcmgohmac.Args
set_option linter.unusedVariables false
set_option linter.unusedSimpArgs false

/-- A slice of numbers: what it reads. -/
def Reads (w : World) (v : Value) (xs : List Int) : Prop :=
  ∃ a cap, v = .slice a xs.length cap ∧ ∀ i, i < xs.length → ∃ x, a = some x ∧ x.block < w.heap.size ∧ w.cell? (x.add i) = some (.int .u64 (xs.getD i 0))
theorem Reads.below {w w' : World} {v : Value} {xs : List Int} (h : Reads w v xs) (hb : Below w.heap.size w w') : Reads w' v xs := by
  obtain ⟨a, cap, hv, hx⟩ := h
  refine ⟨a, cap, hv, fun i hi => ?_⟩
  obtain ⟨x, ha, hxb, hc⟩ := hx i hi
  exact ⟨x, ha, Nat.lt_of_lt_of_le hxb hb.size, (hb.cell (by rw [add_block]; exact hxb)).trans hc⟩
theorem reads_ints {w : World} {v : Value} {xs : List Int} (h : Ints .u64 w v xs) : Reads w v xs := by
  obtain ⟨a, cap, hv, -, hx⟩ := h.shape
  exact ⟨a, cap, hv, hx⟩
theorem reads_own {w : World} {B : Nat} {v : Value} {xs : List Int} (h : w.ownsRow B 29 1 v xs.length (xs.map (Value.int .u64))) : Reads w v xs := by
  obtain ⟨A, cap, e, -⟩ := own_any h
  refine ⟨A, cap, e, fun i hi => ?_⟩
  obtain ⟨g, c, e1, -, -, -, hl, hx, -⟩ := own_shape h (by omega)
  rw [e] at e1
  injection e1 with e2 e3 e4
  refine ⟨_, e2, hl, ?_⟩
  have := hx i hi
  rw [show (⟨g, 0, none⟩ : Addr).add i = ⟨g, i, none⟩ by unfold Addr.add; split <;> simp_all]
  rw [this]
  simp [List.getD, hi]
def eqTo (xs ys : List Int) (k : Nat) : Prop := ∀ j, j < k → xs.getD j 0 = ys.getD j 0
theorem eq_of {xs ys : List Int} (hl : xs.length = ys.length) (h : eqTo xs ys xs.length) : xs = ys := by
  refine List.ext_getElem hl (fun i h1 h2 => ?_)
  have := h i h1
  simpa [List.getD, h1, h2] using this

set_option maxHeartbeats 8000000 in
set_option maxRecDepth 100000 in
theorem same {w : World} {va vb : Value} {xs ys : List Int} (ha : Reads w va xs) (hb : Reads w vb ys) (hx : xs.length ≤ 100000) (hy : ys.length ≤ 9223372036854775807) :
    Calls Try.prog 21 #[va, vb] w fun e w' => e = .returned (.bool (decide (xs = ys))) ∧ Below w.heap.size w w' := by
  obtain ⟨A, ca, e1, hxa⟩ := ha
  obtain ⟨C, cb, e2, hxb⟩ := hb
  subst e1 e2
  by_cases hl : xs.length = ys.length
  · have b0 : decide ((xs.length : Int) = (ys.length : Int)) = true := decide_eq_true (by omega)
    have b0' : ((xs.length : Int) != (ys.length : Int)) = false := by simp [hl]
    replace hxa := Lib.hid hxa
    replace hxb := Lib.hid hxb
    obtain ⟨N, hN⟩ : ∃ N, xs.length = N := ⟨_, rfl⟩
    have hN2 : ys.length = N := by omega
    obtain ⟨ans, hans⟩ : ∃ b, decide (xs = ys) = b := ⟨_, rfl⟩
    rw [hans, hN, hN2]
    rw [hN] at b0 b0'
    rw [hN2] at b0 b0'
    have hN3 : N ≤ 100000 := by omega
    replace hN := Lib.hid hN
    replace hN2 := Lib.hid hN2
    replace hans := Lib.hid hans
    clear hl hx hy
    go_enter Try.func21, Try.ntmps21
    go_wp2_with fail
    go_loopw [5] (fun kv wr => ∃ k : Nat, k ≤ N ∧ kv = .int .i64 k ∧ Hid (eqTo xs ys k) ∧ Hid (Below w.heap.size w wr))
      (fun kv _ => N - (intOf kv).toNat)
    case atStart => exact ⟨0, by omega, rfl, Lib.hid (fun j hj => by omega), Lib.hid (Below.refl _ _)⟩
    case round =>
      obtain ⟨k, hk, rfl, hto, hbr⟩ := hrel
      by_cases hlt : k < N
      · have b1 : decide ((k : Int) < (N : Int)) = true := by simp; omega
        obtain ⟨x, rfl, hxl, hxc⟩ := hxa.out k (by have := hN.out; omega)
        obtain ⟨y, rfl, hyl, hyc⟩ := hxb.out k (by have := hN2.out; omega)
        have xc := (hbr.out.cell (by rw [add_block]; exact hxl)).trans hxc
        have yc := (hbr.out.cell (by rw [add_block]; exact hyl)).trans hyc
        have hbd : ∀ a, Below w.heap.size w (wr.drewN a) := fun a => hbr.out.trans ((below_drewN _ _).mono hbr.out.size)
        replace hbd := Lib.hid hbd
        by_cases he : xs.getD k 0 = ys.getD k 0
        · have nx : eqTo xs ys (k + 1) := fun j hj => by
            by_cases e : j = k
            · rw [e]; exact he
            · exact hto.out j (by omega)
          replace nx := Lib.hid nx
          rw [he] at xc
          generalize ys.getD k 0 = z at *
          clear he hxc hyc hxl hyl
          go_wp2_with fail
          go_quiet (fail)
          go_wp2
          go_roundw
          case rel => exact ⟨k + 1, by omega, by go_num, nx, Lib.hid (hbd.out _)⟩
          case measure => simp [intOf]; omega
        · have no : ans = false := by
            rw [← hans.out]
            exact decide_eq_false (fun e => he (by rw [e]))
          generalize xs.getD k 0 = z1 at *
          generalize ys.getD k 0 = z2 at *
          have b3 : decide (z1 = z2) = false := decide_eq_false he
          have b4 : (z1 == z2) = false := by simp [he]
          have b5 : (z1 != z2) = true := by simp [he]
          replace no := Lib.hid no
          clear hxc hyc hxl hyl
          go_wp2_with fail
          go_quiet (fail)
          go_wp2
          go_ret
          exact ⟨by rw [no.out]; rfl, hbd.out _⟩
      · obtain rfl : k = N := by omega
        have b1 : decide ((k : Int) < (k : Int)) = false := by simp
        have yes : ans = true := by
          rw [← hans.out]
          exact decide_eq_true (eq_of (hN.out.trans hN2.out.symm) (by rw [hN.out]; exact hto.out))
        replace yes := Lib.hid yes
        go_wp2
        go_ret
        exact ⟨by rw [yes.out]; rfl, hbr.out⟩
  · have b0 : decide ((xs.length : Int) = (ys.length : Int)) = false := decide_eq_false (by omega)
    have b0' : ((xs.length : Int) != (ys.length : Int)) = true := by simp; omega
    rw [decide_eq_false (fun e => hl (by rw [e]))]
    clear hxa hxb
    go_enter Try.func21, Try.ntmps21
    go_wp2
    go_ret
    exact ⟨rfl, Below.refl _ _⟩

/-- What New leaves. -/
def RNew (c : Nat) (w : World) (e : Ending) (w' : World) : Prop :=
  ∃ vI, e = .returned (.agg (xv vI 0 (.slice none 0 0))) ∧ RefP w.heap.size vI (newI c) (.slice none 0 0) [] w' ∧ Below w.heap.size w w'
structure NR (w : World) (k : Nat) (vI : Value) (wr : World) : Prop where
  p : X3 (w.heap.size + 1) #[vI, .int .i64 0, .slice none 0 0] wr
  r : X3 w.heap.size #[.slice none 0 0, .int .i64 0, .slice none 0 0] wr
  i : wr.ownsRow w.heap.size 3 1 vI k ((newI k).map (Value.int .i64))
  bel : Below w.heap.size w wr
theorem newI_next (k : Nat) : newI (k + 1) = newI k ++ [-1] := by
  unfold newI
  rw [List.replicate_succ']
set_option maxHeartbeats 8000000 in
set_option maxRecDepth 100000 in
theorem rnew (c : Nat) (hc : c ≤ 100) (w : World) : Calls Try.prog 15 #[.int .i64 c] w (RNew c w) := by
  obtain ⟨i0, hi, hzz⟩ := Option.map_eq_some_iff.1 info_int
  simp only [Prod.mk.injEq] at hzz
  obtain ⟨hz0, hz1, hz2⟩ := hzz
  obtain ⟨Q, hQ⟩ : ∃ Q, RNew c w = Q := ⟨_, rfl⟩
  rw [hQ]
  replace hQ := Lib.hid hQ
  have N0 : NR w 0 (.slice none 0 0) ((w.alloc (.cells #[.slice none 0 0, .int .i64 0, .slice none 0 0] 35)).alloc (.cells #[.slice none 0 0, .int .i64 0, .slice none 0 0] 35)) := by
    obtain ⟨w1, e1, h1, h2, h3, h4⟩ := two3 w #[.slice none 0 0, .int .i64 0, .slice none 0 0] (.slice none 0 0) (.slice none 0 0)
    rw [← e1]
    exact ⟨h2, h1, ⟨by simp [newI], .inl ⟨rfl, rfl⟩⟩, h3⟩
  replace N0 := Lib.hid N0
  go_enter Try.func15, Try.ntmps15
  go_wp2_with fail
  go_loopw [4] (fun kv wr => ∃ (k : Nat) (vI : Value), k ≤ c ∧ kv = .int .i64 k ∧ Hid (NR w k vI wr))
    (fun kv _ => c - (intOf kv).toNat)
  case atStart => exact ⟨0, _, by omega, rfl, N0⟩
  case round =>
    clear N0
    obtain ⟨k, vI, hk, rfl, F⟩ := hrel
    have hp := F.out.p.lt
    obtain ⟨A, cap, e1, -⟩ := own_any F.out.i
    subst e1
    obtain ⟨⟨c0, c1, c2⟩, fc⟩ := cellsX F.out.p
    obtain ⟨⟨d0, d1, d2⟩, fd⟩ := cellsX F.out.r
    have hr0 : w.heap.size < wr.heap.size := by omega
    by_cases hlt : k < c
    · have b1 : decide ((k : Int) < c) = true := by simp; omega
      have hb2 : Below w.heap.size w (wr.alloc (.cells #[.int .i64 (-1)] 3)) := F.out.bel.alloc F.out.bel.size _
      have hm1 : k + 1 ≤ maxLen := by unfold maxLen; omega
      have hn1 : (k + 1) * 8 ≤ 140737488355328 := by omega
      have hI := Lib.hid (own_alloc F.out.i (.cells #[.int .i64 (-1)] 3))
      go_wp2_with (at_builtin; refine wpList_append_own_at _ rfl _ _ 32 rfl w.heap.size 3 i0 (.int .i64 0) 1 8 Try.underlying32 hi hz0 hz1 hz2 rfl (by decide) _ _ _ rfl hI.out ⟨wr.heap.size, 0, none⟩ 1 1 [.int .i64 (-1)] rfl rfl (cell_one_new _ _ _) (ints_one [-1]) hm1 hn1 hb2.size ?_)
      intro v3 w3 hv3 hg3 _ hat3
      have P3 := (F.out.p.alloc (.cells #[.int .i64 (-1)] 3)).grown hI.out hg3 (by decide)
      have R3 := (F.out.r.alloc (.cells #[.int .i64 (-1)] 3)).grown hI.out hg3 (by decide)
      have B3 : Below w.heap.size w w3 := hb2.grown hg3 hb2.size (fun j hj => (own_blk hI.out hj).1)
      obtain ⟨A3, k3, e3, -⟩ := own_any hv3
      subst e3
      have n1 : ¬ w.heap.size = w.heap.size + 1 := by omega
      have nx : NR w (k + 1) (.slice A3 (k + 1) k3) (w3.setCell ⟨w.heap.size + 1, 0, none⟩ (.slice A3 (k + 1) k3)) := by
        refine ⟨set3_0 P3 _, R3.set n1 _, ?_, B3.setCell (p := ⟨w.heap.size + 1, 0, none⟩) (by show w.heap.size ≤ w.heap.size + 1; omega) _⟩
        have := own_far (k := w.heap.size + 1) (o := 0) hv3 (P3.ne hv3 (by decide)) (.slice A3 (k + 1) k3)
        rw [newI_next]
        simpa using this
      obtain ⟨⟨m0, m1, m2⟩, fm⟩ := cellsX P3
      have fm0 := fm 0
      replace nx := Lib.hid nx
      clear c0 c1 c2 d0 d1 d2 fc fd fm P3 R3 hv3 hg3 hat3
      go_wp2
      go_roundw
      case rel => exact ⟨k + 1, _, by omega, by go_num, nx⟩
      case measure => simp [intOf]; omega
    · obtain rfl : k = c := by omega
      have b1 : decide ((k : Int) < k) = false := by simp
      have fd0 := fd 0
      have fd1 := fd 1
      have fd2 := fd 2
      obtain ⟨w9, e9, ⟨y0, y1, y2⟩, b9, on9⟩ := end3 F.out.r F.out.bel (Nat.le_refl _) (.slice A k cap) (.int .i64 0) (.slice none 0 0)
      have P0 : RefP w.heap.size (.slice A k cap) (newI k) (.slice none 0 0) [] wr := ⟨by rw [show (newI k).length = k by unfold newI; simp]; exact F.out.i, ⟨by simp [things], .inl ⟨rfl, rfl⟩⟩⟩
      have P9 := P0.keepX F.out.r on9
      have fin : Q (.returned (.agg #[.slice A k cap, .int .i64 0, .slice none 0 0])) w9 := by
        rw [← hQ.out]
        exact ⟨_, rfl, P9, b9⟩
      replace fin := Lib.hid fin
      replace e9 := Lib.hid e9
      clear P0 P9 on9 b9 fc fd
      go_wp2
      rw [← e9.out]
      exact bodyPost_ret (v := .agg #[.slice A k cap, .int .i64 0, .slice none 0 0]) (by simp [results, Try.results15, go_sem, y0, y1, y2]) rfl fin.out
end Go.Proofs.Ytecjkpjcmgohmac.EpRef
