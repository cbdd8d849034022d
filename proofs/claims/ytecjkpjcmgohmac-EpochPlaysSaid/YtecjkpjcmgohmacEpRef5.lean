/- The reference's pool: Free. Laid by genepref5.py. -/
import Derived.Test.YtecjkpjcmgohmacEpRef4
import Derived.Test.YtecjkpjcmgohmacWLast
namespace Go.Proofs.Ytecjkpjcmgohmac.EpRef
open Go Go.RowKit Go.Maps Go.Proofs.Ytecjkpjcmgohmac.Only Go.Proofs.Ytecjkpjcmgohmac.Ep Go.Proofs.YtecjkpjcmgohmacW.PrintLast
set_option linter.unusedVariables false
set_option linter.unusedSimpArgs false

/-- 'append' of one thing, as an arm. -/
theorem append2_arm {ops : Array Oper} {Q : Exit → Act → World → Prop} {oi : Oper} {N : Option Tmp} {a : Act} {w : World} {K : Act → World → Prop} {so xo : Operand}
    (hw : Region.wanted oi (yielded ops a.tmps) = true) (hN : oi.dst = N) (ho : oi.op = .call { callee := .builtin .append, args := #[so, xo], argTypes := #[33, 33] }) (i : TypeInfo) (hi : Try.prog.info? 66 = some i) (hz : i.zero = some (.agg #[.int .u64 0, .int .i64 0])) (hsz : i.size = 2) (hby : i.bytes = 16)
    {B : Nat} {v : Value} {n : Nat} {xs : List Value} (hs : a.eval so = v) (f c : Nat) (hx : a.eval xo = .slice (some ⟨f, 0, none⟩) 1 c) (h : w.ownsRow B 66 2 v n xs) (hB : B ≤ w.heap.size) (x e : Int) (hnews : ∀ j y, [Value.int .u64 x, .int .i64 e][j]? = some y → w.cell? ((⟨f, 0, none⟩ : Addr).add j) = some y) (h63 : n + 1 ≤ maxLen) (hbytes : (n + 1) * 16 ≤ 140737488355328)
    (hk : ∀ v' w', w'.ownsRow B 66 2 v' (n + 1) (xs ++ [.int .u64 x, .int .i64 e]) → w.grownBy w' v.ownBlock → (v'.ownBlock = v.ownBlock ∨ v'.ownBlock = some w.heap.size) → K (a.put N v') w') :
    if Region.wanted oi (yielded ops a.tmps) = true then Oper.wp Try.prog oi a w K Q else K (a.put N undef) w := by
  obtain ⟨v', w', hr, h1, h2, -, h3⟩ := run_append_own_at (P := Try.prog) w B _ oi.type _ i _ 2 16 Try.underlying33 hi hz hsz hby rfl (by decide) v n xs h ⟨f, 0, none⟩ 1 c [.int .u64 x, .int .i64 e] rfl hnews (things_one [(x, e)]) h63 hbytes hB
  refine value_ (w1 := w') (v := v') hw hN ?_ (hk v' w' h1 h2 h3)
  unfold execOp
  simp only [ho, resolve, invoke, builtin, Sem.run_bind, Sem.run_pure, Result.andThen_ok, List.map_toArray, List.map_cons, List.map_nil, hs, hx, hr]

def rold (ep : Int) (t : Int × Int) : Bool := decide (t.2 + 2 ≤ ep)
def rfreed (ep : Int) (R : List (Int × Int)) : List Int := (R.filter (rold ep)).map Prod.fst
def rkept (ep : Int) (R : List (Int × Int)) : List (Int × Int) := R.filter (fun t => !rold ep t)
theorem take_next {α : Type} {R : List α} {k : Nat} (h : k < R.length) : R.take (k + 1) = R.take k ++ [R[k]] := by
  rw [List.take_add_one]
  simp [h]
theorem freed_old {ep : Int} {R : List (Int × Int)} {k : Nat} (h : k < R.length) (ho : rold ep R[k] = true) : rfreed ep (R.take (k + 1)) = rfreed ep (R.take k) ++ [R[k].1] ∧ rkept ep (R.take (k + 1)) = rkept ep (R.take k) := by
  unfold rfreed rkept
  rw [take_next h, List.filter_append, List.filter_append]
  simp [ho]
theorem freed_new {ep : Int} {R : List (Int × Int)} {k : Nat} (h : k < R.length) (ho : rold ep R[k] = false) : rfreed ep (R.take (k + 1)) = rfreed ep (R.take k) ∧ rkept ep (R.take (k + 1)) = rkept ep (R.take k) ++ [R[k]] := by
  unfold rfreed rkept
  rw [take_next h, List.filter_append, List.filter_append]
  simp [ho]
theorem freed_le (ep : Int) (R : List (Int × Int)) (k : Nat) : (rfreed ep (R.take k)).length ≤ R.length ∧ (rkept ep (R.take k)).length ≤ R.length := by
  unfold rfreed rkept
  have h1 := List.length_filter_le (rold ep) (R.take k)
  have h2 := List.length_filter_le (fun t => !rold ep t) (R.take k)
  have h3 := List.length_take_le' k R
  rw [List.length_map]
  omega

/-- What holds at each round. -/
structure FR (w1 : World) (vI : Value) (ep : Int) (R : List (Int × Int)) (k : Nat) (lv vr : Value) (wr : World) : Prop where
  out : X3 w1.heap.size #[vI, .int .i64 ep, vr] wr
  row : wr.ownsRow w1.heap.size 66 2 vr (rkept ep (R.take k)).length (things (rkept ep (R.take k)))
  l : wr.ownsRow w1.heap.size 29 1 lv (rfreed ep (R.take k)).length ((rfreed ep (R.take k)).map (Value.int .u64))
  bel : Below w1.heap.size w1 wr
section
variable {w1 : World} {vI : Value} {ep : Int} {R : List (Int × Int)} {k : Nat} {lv vr : Value} {wr w2 w3 : World}
theorem FR.below (F : FR w1 vI ep R k lv vr wr) (hb : Below wr.heap.size wr w2) : FR w1 vI ep R k lv vr w2 :=
  ⟨F.out.below hb, own_keep F.row (ofBelow (S := fun _ => False) hb) (fun _ _ x => x), own_keep F.l (ofBelow (S := fun _ => False) hb) (fun _ _ x => x), F.bel.trans (hb.mono F.bel.size)⟩
theorem apart_ty {B1 B2 n m s1 s2 : Nat} {T U : TypeId} {u v : Value} {xs ys : List Value} (h : wr.ownsRow B1 T s1 u n xs) (g : wr.ownsRow B2 U s2 v m ys) (hT : T ≠ U) : ∀ k, u.ownBlock = some k → v.ownBlock ≠ some k := fun k hk e => by
  obtain ⟨cs, hc⟩ := (own_blk h hk).2.2
  exact own_ty g hc (fun e => hT e.symm) e
theorem FR.old {lv' : Value} (F : FR w1 vI ep R k lv vr wr) (hk : k < R.length) (ho : rold ep R[k] = true)
    (hr : w3.ownsRow w1.heap.size 29 1 lv' ((rfreed ep (R.take k)).length + 1) ((rfreed ep (R.take k)).map (Value.int .u64) ++ [.int .u64 R[k].1])) (hg : wr.grownBy w3 lv.ownBlock) : FR w1 vI ep R (k + 1) lv' vr w3 := by
  obtain ⟨e1, e2⟩ := freed_old hk ho
  refine ⟨F.out.grown F.l hg (by decide), ?_, ?_, F.bel.grown hg F.bel.size (fun j hj => (own_blk F.l hj).1)⟩
  · rw [e2]; exact own_grown F.row hg (fun j hj e => apart_ty F.row F.l (by decide) j hj e)
  · rw [e1]; simpa using hr
theorem FR.young {vr' : Value} (F : FR w1 vI ep R k lv vr wr) (hk : k < R.length) (ho : rold ep R[k] = false)
    (hr : w3.ownsRow w1.heap.size 66 2 vr' ((rkept ep (R.take k)).length + 1) (things (rkept ep (R.take k)) ++ [.int .u64 R[k].1, .int .i64 R[k].2])) (hg : wr.grownBy w3 vr.ownBlock) : X3 w1.heap.size #[vI, .int .i64 ep, vr] w3 ∧ Below w1.heap.size w1 w3 ∧ FR w1 vI ep R (k + 1) lv vr' (w3.setCell ⟨w1.heap.size, 2, none⟩ vr') := by
  obtain ⟨e1, e2⟩ := freed_new hk ho
  have X := F.out.grown F.row hg (by decide)
  have Bl := F.bel.grown hg F.bel.size (fun j hj => (own_blk F.row hj).1)
  have L := own_grown F.l hg (fun j hj e => apart_ty F.l F.row (by decide) j hj e)
  refine ⟨X, Bl, set3_2 X _, ?_, ?_, Bl.setCell (p := ⟨w1.heap.size, 2, none⟩) (Nat.le_refl _) _⟩
  · rw [e2, things_app]
    have := own_far (k := w1.heap.size) (o := 2) hr (X.ne hr (by decide)) vr'
    simpa [things] using this
  · rw [e1]; exact own_far (k := w1.heap.size) (o := 2) L (X.ne L (by decide)) vr'
end
/-- What Free leaves. -/
def RFreed (B : Nat) (vI vR : Value) (inn : List Int) (ep : Int) (R : List (Int × Int)) (w : World) (e : Ending) (w' : World) : Prop :=
  ∃ vI' vR' lv, e = .returned (.tuple #[.agg (xv vI' ep vR'), lv]) ∧ RefP B vI' inn vR' (rkept ep R) w' ∧ w'.ownsRow w.heap.size 29 1 lv (rfreed ep R).length ((rfreed ep R).map (Value.int .u64)) ∧ Below w.heap.size w w' ∧ ∀ k, OwnP vI' vR' k → OwnP vI vR k ∨ w.heap.size ≤ k
section
variable {B : Nat} {vI vR : Value} {inn : List Int} {R : List (Int × Int)} {w : World}
set_option maxHeartbeats 16000000 in
set_option maxRecDepth 100000 in
theorem rfree (h : RefP B vI inn vR R w) (hB : B ≤ w.heap.size) (hl : R.length ≤ 1000) (ep : Int) (hR : ∀ t ∈ R, 0 ≤ t.2 ∧ t.2 ≤ 1000000) :
    Calls Try.prog 27 #[.agg (xv vI ep vR)] w (RFreed B vI vR inn ep R w) := by
  obtain ⟨i0, hi, hzz⟩ := Option.map_eq_some_iff.1 info_thing
  simp only [Prod.mk.injEq] at hzz
  obtain ⟨hz0, hz1, hz2⟩ := hzz
  obtain ⟨i1, hi1, hzz⟩ := Option.map_eq_some_iff.1 info_u64
  simp only [Prod.mk.injEq] at hzz
  obtain ⟨hy0, hy1, hy2⟩ := hzz
  obtain ⟨AI, cI, e1, -⟩ := own_any' h.i
  obtain ⟨AR, cR, e2, -⟩ := own_any' h.r
  subst e1 e2
  obtain ⟨w1, hw1, ha, hx, hb, s1⟩ := two3 w (xv (.slice AI inn.length cI) ep (.slice AR R.length cR)) (.slice none 0 0) (.slice none 0 0)
  have RF := h.below hb
  unfold xv at *
  obtain ⟨⟨c0, c1, c2⟩, -⟩ := cellsX ha
  replace hw1 := Lib.hid hw1.symm
  have hlt0 : w.heap.size < w1.heap.size := by omega
  have hlt1 : w.heap.size + 1 < w1.heap.size := by omega
  have q1 : w.heap.size ≤ w1.heap.size := by omega
  replace ha := Lib.hid ha
  replace hx := Lib.hid hx
  replace hb := Lib.hid hb
  replace RF := Lib.hid RF
  replace hR := Lib.hid hR
  obtain ⟨Q, hQ⟩ : ∃ Q, RFreed B (.slice AI inn.length cI) (.slice AR R.length cR) inn ep R w = Q := ⟨_, rfl⟩
  rw [hQ]
  replace hQ := Lib.hid hQ
  clear h
  have F0 : FR w1 (.slice AI inn.length cI) ep R 0 (.slice none 0 0) (.slice none 0 0) (w1.alloc (.cells #[.slice AI inn.length cI, .int .i64 ep, .slice none 0 0] 35)) :=
    ⟨heap_alloc_new w1 _, ⟨by simp [rkept, things], .inl ⟨rfl, by simp [rkept]⟩⟩, ⟨by simp [rfreed], .inl ⟨rfl, by simp [rfreed]⟩⟩, (Below.refl _ _).alloc (Nat.le_refl _) _⟩
  replace F0 := Lib.hid F0
  go_enter Try.func27, Try.ntmps27
  go_upto_region 1 with fail
  rw [hw1.out]
  go_wp2_with fail
  go_loopw [5, 6] (fun lv kv wr => ∃ (k : Nat) (vr : Value), k ≤ R.length ∧ kv = .int .i64 k ∧ Hid (FR w1 (.slice AI inn.length cI) ep R k lv vr wr))
    (fun _ kv _ => R.length - (intOf kv).toNat)
  case atStart => exact ⟨0, _, by omega, rfl, F0⟩
  case round =>
    clear F0 c0 c1 c2
    obtain ⟨k, vr, hk, rfl, F⟩ := hrel
    have hle := freed_le ep R k
    have sr := F.out.bel.size
    have hor := F.out.out.lt
    obtain ⟨⟨c0, c1, c2⟩, -⟩ := cellsX (ha.out.below F.out.bel)
    obtain ⟨Ar, kr, e1, -⟩ := own_any' F.out.row
    subst e1
    obtain ⟨Al, kl, e2, -⟩ := own_any' F.out.l
    subst e2
    have hr0 : w.heap.size < wr.heap.size := by omega
    have hr1 : w.heap.size + 1 < wr.heap.size := by omega
    by_cases hlt : k < R.length
    · have b1 : decide ((k : Int) < R.length) = true := by simp; omega
      have b1' : decide ((k : Int) < (R.length : Int)) = true := by simp; omega
      obtain ⟨g, cap, e1, hgl, g0, g1⟩ := thingCells (RF.out.below F.out.bel).r hlt
      injection e1 with q1' q2 q3
      subst q1' q3
      have hx2 := hR.out _ (List.getElem_mem hlt)
      obtain ⟨⟨x, e⟩, hxe⟩ : ∃ t, R[k] = t := ⟨_, rfl⟩
      rw [hxe] at g0 g1 hx2
      dsimp only at g0 g1 hx2
      have e8 : IntKind.i64.wrap (e + 2) = e + 2 := IntWalk.i64_in _ (by omega)
      have hbd : ∀ a, Below wr.heap.size wr (wr.drewN a) := below_drewN wr
      replace hbd := Lib.hid hbd
      replace hxe := Lib.hid hxe
      by_cases hold : e + 2 ≤ ep
      · have b2 : decide (e + 2 ≤ ep) = true := decide_eq_true hold
        have ho : rold ep R[k] = true := by rw [hxe.out]; exact b2
        replace ho := Lib.hid ho
        go_wp2_with fail
        go_quiet (fail)
        have F2 := F.out.below (hbd.out nq)
        have hb2 := hbd.out nq
        generalize wr.drewN nq = w2 at *
        have s2 := hb2.size
        obtain ⟨⟨u0, u1, u2⟩, -⟩ := cellsX (ha.out.below F2.bel)
        obtain ⟨g', cap', e1, -, v0, v1⟩ := thingCells (RF.out.below F2.bel).r hlt
        injection e1 with q1' q2 q3
        injection q1' with q1'
        injection q1' with q1'
        subst q1' q3
        rw [hxe.out] at v0 v1
        dsimp only at v0 v1
        have hm1 : (rfreed ep (R.take k)).length + 1 ≤ maxLen := by unfold maxLen; omega
        have hn1 : ((rfreed ep (R.take k)).length + 1) * 8 ≤ 140737488355328 := by omega
        have w2l : w1.heap.size ≤ w2.heap.size := F2.bel.size
        clear c0 c1 c2 g0 g1 hr0 hr1
        have hr0 : w.heap.size < w2.heap.size := by omega
        have hg2l : g < w2.heap.size := by omega
        have Fa := F2.below ((Below.refl w2.heap.size w2).alloc (Nat.le_refl _) (.cells #[.int .u64 x] 29))
        replace Fa := Lib.hid Fa
        replace F2 := Lib.hid F2
        replace hb2 := Lib.hid hb2
        go_wp2_with (at_builtin; refine wpList_append_own_at _ rfl _ _ 41 rfl w1.heap.size 29 i1 (.int .u64 0) 1 8 Try.underlying41 hi1 hy0 hy1 hy2 rfl (by decide) _ _ _ rfl Fa.out.l ⟨w2.heap.size, 0, none⟩ 1 1 [.int .u64 x] rfl rfl (cell_one_new _ _ _) (u64s_one [x]) hm1 hn1 (le_alloc w2l _) ?_)
        intro v3 w3 hv3 hg3 _ _
        have nx := Fa.out.old hlt ho.out (lv' := v3) (w3 := w3) (by rw [hxe.out]; exact hv3) hg3
        replace nx := Lib.hid nx
        clear hv3 hg3
        go_wp2
        go_roundw
        case rel => exact ⟨k + 1, _, by omega, by go_num, nx⟩
        case measure => simp [intOf]; omega
      · have b2 : decide (e + 2 ≤ ep) = false := decide_eq_false hold
        have ho : rold ep R[k] = false := by rw [hxe.out]; exact b2
        replace ho := Lib.hid ho
        go_wp2_with fail
        go_quiet (fail)
        have F2 := F.out.below (hbd.out nq)
        have hb2 := hbd.out nq
        generalize wr.drewN nq = w2 at *
        have s2 := hb2.size
        have F3 := F2.below (below_drew (Below.refl _ _))
        have hb4 : Below w2.heap.size w2 (w2.drew.alloc (.cells #[.int .u64 x, .int .i64 e] 66)) := (below_drew (Below.refl _ _)).alloc (Nat.le_refl _) _
        have F4 := F2.below hb4
        have cellsF : ∀ w', Below w1.heap.size w1 w' → w'.cell? ⟨w.heap.size, 2, none⟩ = some (.slice (some ⟨g, 0, none⟩) R.length cR) ∧ w'.cell? ⟨g, k * 2, none⟩ = some (.int .u64 x) ∧ w'.cell? ⟨g, k * 2 + 1, none⟩ = some (.int .i64 e) := fun w' hb' => by
          obtain ⟨⟨u0, u1, u2⟩, -⟩ := cellsX (ha.out.below hb')
          obtain ⟨g', cap', e1, -, v0, v1⟩ := thingCells (RF.out.below hb').r hlt
          injection e1 with q1' q2 q3
          injection q1' with q1'
          injection q1' with q1'
          subst q1' q3
          rw [hxe.out] at v0 v1
          exact ⟨u2, v0, v1⟩
        obtain ⟨k1, k2, k3⟩ := cellsF _ F3.bel
        have k0 := (cellsX F3.out).1.2.2
        obtain ⟨j1, j2, j3⟩ := cellsF _ F4.bel
        have j0 := (cellsX F4.out).1.2.2
        have hm1 : (rkept ep (R.take k)).length + 1 ≤ maxLen := by unfold maxLen; omega
        have hn1 : ((rkept ep (R.take k)).length + 1) * 16 ≤ 140737488355328 := by omega
        have hap : ∀ v4 w4, w4.ownsRow w1.heap.size 66 2 v4 ((rkept ep (R.take k)).length + 1) (things (rkept ep (R.take k)) ++ [.int .u64 x, .int .i64 e]) → (w2.drew.alloc (.cells #[.int .u64 x, .int .i64 e] 66)).grownBy w4 (Value.slice Ar (rkept ep (R.take k)).length kr).ownBlock →
            (w4.cell? ⟨w1.heap.size, 2, none⟩ = some (.slice Ar (rkept ep (R.take k)).length kr) ∧ w4.cell? ⟨w.heap.size, 2, none⟩ = some (.slice (some ⟨g, 0, none⟩) R.length cR) ∧ w4.cell? ⟨g, k * 2, none⟩ = some (.int .u64 x) ∧ w4.cell? ⟨g, k * 2 + 1, none⟩ = some (.int .i64 e)) ∧ w4.frozen? ⟨w1.heap.size, 2, none⟩ = false ∧ FR w1 (.slice AI inn.length cI) ep R (k + 1) (.slice Al (rfreed ep (R.take k)).length kl) v4 (w4.setCell ⟨w1.heap.size, 2, none⟩ v4) := fun v4 w4 hr4 hg4 => by
          obtain ⟨y1, y2, y3⟩ := F4.young hlt ho.out (vr' := v4) (w3 := w4) (by rw [hxe.out]; exact hr4) hg4
          exact ⟨⟨(cellsX y1).1.2.2, cellsF _ y2⟩, (cellsX y1).2 2, y3⟩
        have w4l : w1.heap.size ≤ (w2.drew.alloc (.cells #[.int .u64 x, .int .i64 e] 66)).heap.size := F4.bel.size
        have hV := F4.row
        replace hV := Lib.hid hV
        replace hap := Lib.hid hap
        replace F2 := Lib.hid F2
        replace F3 := Lib.hid F3
        replace F4 := Lib.hid F4
        replace hb2 := Lib.hid hb2
        replace hb4 := Lib.hid hb4
        replace cellsF := Lib.hid cellsF
        clear c0 c1 c2 g0 g1
        have hgl2 : g < w2.heap.size := by omega
        have hol2 : w1.heap.size < w2.heap.size := by omega
        go_wp2_with fail
        refine start_ (n := 11) (S := fun w' => w'.cell? ⟨w1.heap.size, 2, none⟩ = some (.slice Ar (rkept ep (R.take k)).length kr) ∧ w'.cell? ⟨w.heap.size, 2, none⟩ = some (.slice (some ⟨g, 0, none⟩) R.length cR) ∧ w'.cell? ⟨g, k * 2, none⟩ = some (.int .u64 x) ∧ w'.cell? ⟨g, k * 2 + 1, none⟩ = some (.int .i64 e)) (ds := [10]) #[false, false, false, false, false, false, false, false, false, false, false] (by kernel_rfl) rfl rfl ⟨k0, k1, k2, k3⟩ (fun hHeld => ?_)
        refine pure_ (i := 0) (N := some 35) (v := ?_) (a' := ?_) #[true, false, false, false, false, false, false, false, false, false, false] rfl rfl (by kernel_rfl) (fun _ _ _ h => h) (Or.inl ⟨by rfl, ?_⟩) ?_ ?_
        rotate_left
        · intro w'
          go_simp
          with_reducible rfl
        rotate_left
        · simp only [Act.put, List.setIfInBounds_toArray, List.set_cons_zero, List.set_cons_succ, i64_w, i32_w]
          rfl
        refine pure_ (i := 2) (N := some 37) (v := ?_) (a' := ?_) #[true, false, true, false, false, false, false, false, false, false, false] rfl rfl (by kernel_rfl) (fun _ _ _ h => h) (Or.inl ⟨by rfl, ?_⟩) ?_ ?_
        rotate_left
        · intro w'
          go_simp
          with_reducible rfl
        rotate_left
        · simp only [Act.put, List.setIfInBounds_toArray, List.set_cons_zero, List.set_cons_succ, i64_w, i32_w]
          rfl
        refine pure_ (i := 4) (N := some 39) (v := ?_) (a' := ?_) #[true, false, true, false, true, false, false, false, false, false, false] rfl rfl (by kernel_rfl) (fun _ _ _ h => h) (Or.inl ⟨by rfl, ?_⟩) ?_ ?_
        rotate_left
        · intro w'
          go_simp
          with_reducible rfl
        rotate_left
        · simp only [Act.put, List.setIfInBounds_toArray, List.set_cons_zero, List.set_cons_succ, i64_w, i32_w]
          rfl
        refine take_ (i := 1) (N := some 36) (v := ?_) (a' := ?_) #[true, true, true, false, true, false, false, false, false, false, false] rfl rfl (by kernel_rfl) (fun _ _ _ h => h) (Or.inl ⟨by rfl, ?_⟩) hHeld ?_ ?_
        rotate_left
        · rintro w' ⟨s0, s1, s2, s3⟩
          go_simp
          with_reducible rfl
        rotate_left
        · simp only [Act.put, List.setIfInBounds_toArray, List.set_cons_zero, List.set_cons_succ, i64_w, i32_w]
          rfl
        refine take_ (i := 3) (N := some 38) (v := ?_) (a' := ?_) #[true, true, true, true, true, false, false, false, false, false, false] rfl rfl (by kernel_rfl) (fun _ _ _ h => h) (Or.inl ⟨by rfl, ?_⟩) hHeld ?_ ?_
        rotate_left
        · rintro w' ⟨s0, s1, s2, s3⟩
          go_simp
          with_reducible rfl
        rotate_left
        · simp only [Act.put, List.setIfInBounds_toArray, List.set_cons_zero, List.set_cons_succ, i64_w, i32_w]
          rfl
        refine pure_ (i := 5) (N := some 40) (v := ?_) (a' := ?_) #[true, true, true, true, true, true, false, false, false, false, false] rfl rfl (by kernel_rfl) (fun _ _ _ h => h) (Or.inl ⟨by rfl, ?_⟩) ?_ ?_
        rotate_left
        · intro w'
          go_simp
          with_reducible rfl
        rotate_left
        · simp only [Act.put, List.setIfInBounds_toArray, List.set_cons_zero, List.set_cons_succ, i64_w, i32_w]
          rfl
        refine take_ (i := 6) (N := some 41) (v := ?_) (a' := ?_) #[true, true, true, true, true, true, true, false, false, false, false] rfl rfl (by kernel_rfl) (fun _ _ _ h => h) (Or.inl ⟨by rfl, ?_⟩) hHeld ?_ ?_
        rotate_left
        · rintro w' ⟨s0, s1, s2, s3⟩
          go_simp
          with_reducible rfl
        rotate_left
        · simp only [Act.put, List.setIfInBounds_toArray, List.set_cons_zero, List.set_cons_succ, i64_w, i32_w]
          rfl
        refine one_ (i := 7) (N := some 42) #[true, true, true, true, true, true, true, true, false, false, false] rfl rfl (by kernel_rfl) (by decide) (fun K hK => ?_)
        refine value_ (w1 := ?_) (v := ?_) (by rfl) rfl ?_ ?_
        rotate_left 2
        · go_simp
          constructor
          · rfl
          · rfl
        refine hK.out _ _ ⟨j0, j1, j2, j3⟩ (fun hHeld => ?_)
        clear hK K
        refine norm_ (a' := ?_) ?_ ?_
        rotate_left
        · show Act.put _ (some 42) _ = _
          simp only [Act.put, List.setIfInBounds_toArray, List.set_cons_zero, List.set_cons_succ, i64_w, i32_w]
          rfl
        refine one_ (i := 8) (N := some 43) #[true, true, true, true, true, true, true, true, true, false, false] rfl rfl (by kernel_rfl) (by decide) (fun K hK => ?_)
        refine append2_arm (v := .slice Ar (rkept ep (R.take k)).length kr) (by rfl) rfl rfl i0 hi hz0 hz1 hz2 (n := (rkept ep (R.take k)).length) (xs := things (rkept ep (R.take k))) rfl _ _ rfl hV.out w4l x e (two_cells _ _ _ _) hm1 hn1 ?_
        intro v4 w4 hr4 hg4 hat4
        obtain ⟨⟨m0, m1, m2, m3⟩, mz, nx⟩ := hap.out v4 w4 hr4 hg4
        obtain ⟨A4, k4, e4, -⟩ := own_any' hr4
        subst e4
        replace nx := Lib.hid nx
        clear hr4 hg4 hat4
        refine hK.out _ _ ⟨m0, m1, m2, m3⟩ (fun hHeld => ?_)
        clear hK K
        refine norm_ (a' := ?_) ?_ ?_
        rotate_left
        · show Act.put _ (some 43) _ = _
          simp only [Act.put, List.setIfInBounds_toArray, List.set_cons_zero, List.set_cons_succ, i64_w, i32_w]
          rfl
        refine pure_ (i := 9) (N := some 44) (v := ?_) (a' := ?_) #[true, true, true, true, true, true, true, true, true, true, false] rfl rfl (by kernel_rfl) (fun _ _ _ h => h) (Or.inl ⟨by rfl, ?_⟩) ?_ ?_
        rotate_left
        · intro w'
          go_simp
          with_reducible rfl
        rotate_left
        · simp only [Act.put, List.setIfInBounds_toArray, List.set_cons_zero, List.set_cons_succ, i64_w, i32_w]
          rfl
        refine last_ (i := 10) (N := none) #[true, true, true, true, true, true, true, true, true, true, true] rfl rfl (by kernel_rfl) (by decide) (fun K hK => ?_)
        refine skip_ (w1 := ?_) (by rfl) rfl ?_ ?_
        rotate_left
        · go_simp
          rfl
        refine hK.out _ _ ?_
        clear hK K
        refine done_ (by kernel_rfl) ?_
        go_wp2
        go_roundw
        case rel => exact ⟨k + 1, _, by omega, by go_num, nx⟩
        case measure => simp [intOf]; omega
    · obtain rfl : k = R.length := by omega
      have b1 : decide ((R.length : Int) < R.length) = false := by simp
      have X5 := hx.out.below F.out.bel
      have bw := hb.out.trans (F.out.bel.mono hb.out.size)
      have hL := F.out.l
      have hW := F.out.row
      have hO := F.out.out
      rw [List.take_length] at hL hW hO ⊢
      obtain ⟨⟨o0, o1, o2⟩, -⟩ := cellsX hO
      obtain ⟨⟨d0, d1, d2⟩, fd⟩ := cellsX X5
      have fd0 := fd 0
      have fd1 := fd 1
      have fd2 := fd 2
      obtain ⟨w9, e9, ⟨y0, y1, y2⟩, b9, on9⟩ := end3 X5 bw (by omega) (.slice AI inn.length cI) (.int .i64 ep) (.slice Ar (rkept ep R).length kr)
      have PP : RefP B (.slice AI inn.length cI) inn (.slice Ar (rkept ep R).length kr) (rkept ep R) wr := ⟨(RF.out.below F.out.bel).i, own_mono hW (by omega)⟩
      have P9 := PP.keepX X5 on9
      have L9 := own_mono (own_keep hL on9 (fun j hj e => by have e : j = w.heap.size + 1 := e; have := (own_blk hL hj).1; omega)) q1
      have fin : Q (.returned (.tuple #[.agg #[.slice AI inn.length cI, .int .i64 ep, .slice Ar (rkept ep R).length kr], .slice Al (rfreed ep R).length kl])) w9 := by
        rw [← hQ.out]
        refine ⟨_, _, _, rfl, P9, L9, b9, fun j hj => ?_⟩
        rcases hj with e | e
        · exact .inl (.inl e)
        · exact .inr (by have := (own_blk hW e).1; omega)
      replace fin := Lib.hid fin
      replace e9 := Lib.hid e9
      clear X5 bw hL hW hO on9 PP P9 L9 b9 fd
      go_wp2
      rw [← e9.out]
      exact bodyPost_ret (v := .tuple #[.agg #[.slice AI inn.length cI, .int .i64 ep, .slice Ar (rkept ep R).length kr], .slice Al (rfreed ep R).length kl]) (by simp [results, Try.results27, go_sem, y0, y1, y2]) rfl fin.out
end
end Go.Proofs.Ytecjkpjcmgohmac.EpRef
