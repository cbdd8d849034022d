/- The laws' do: Enter, Exit, Advance. Laid by genepdo.py. -/
import Derived.Test.YtecjkpjcmgohmacEpDo
import Derived.Test.YtecjkpjcmgohmacWLast
namespace Go.Proofs.Ytecjkpjcmgohmac.EpDo
open Go Go.RowKit Go.Maps Go.Proofs.Ytecjkpjcmgohmac.Only Go.Proofs.Ytecjkpjcmgohmac.Ep Go.Proofs.Ytecjkpjcmgohmac.EpRef Go.Proofs.Ytecjkpjcmgohmac.Args Go.Proofs.YtecjkpjcmgohmacW.PrintLast
set_option linter.unusedVariables false
set_option linter.unusedSimpArgs false

section
variable {B pb mb : Nat} {vin : Value} {c n : Nat} {inn : List Int} {ep rep : Int} {G : List Grp} {vI vR : Value} {rin : List Int} {R : List (Int × Int)} {w : World}
set_option maxHeartbeats 16000000 in
set_option maxRecDepth 100000 in
theorem do1 (h : BothR B pb mb vin inn ep G vI vR rin R w) (b : PB c n inn ep G) (rb : RB n rin rep R) (hn : n ≤ 900) (hc : 1 ≤ c) (h8 : c ≤ 8) (hB : B ≤ w.heap.size) (t x : Int) :
    Calls Try.prog 14 #[.pointer (some ⟨pb, 0, none⟩), .agg (xv vI rep vR), .agg #[.int .i64 1, .int .i64 t, .int .u64 x]] w (Did B pb mb vin inn ep G rin rep R ⟨1, t, x⟩ w) := by
  have rlen := rb.len
  have re0 := rb.e0
  have rrl := rb.rl
  obtain ⟨AI, cI, e1, -⟩ := own_any' h.ref.i
  obtain ⟨AR, cR, e2, -⟩ := own_any' h.ref.r
  subst e1 e2
  obtain ⟨w1, hw1, xa, xd, xz, hb, s1⟩ := three w (xv (.slice AI rin.length cI) rep (.slice AR R.length cR)) ⟨1, t, x⟩
  have hB1 : B ≤ w1.heap.size := by omega
  have hp1 := h.pool.below hb
  have C1 := Ep.enter hp1 t
  have C2 := fun (w2 : World) (o2 : Only (PoolF pb mb vin G) w1 w2) => renter (ref_mid h hb o2) (by have := o2.size; omega) (by omega) rep t
  obtain ⟨a, ha⟩ : ∃ a, enterE inn t = a := ⟨_, rfl⟩
  obtain ⟨q, hq⟩ : ∃ q, renterE rin t = q := ⟨_, rfl⟩
  rw [ha] at C1
  rw [hq] at C2
  replace ha := Lib.hid ha
  replace hq := Lib.hid hq
  obtain ⟨Q, hQ⟩ : ∃ Q, Did B pb mb vin inn ep G rin rep R ⟨1, t, x⟩ w = Q := ⟨_, rfl⟩
  rw [hQ]
  replace hQ := Lib.hid hQ
  unfold xv at *
  unfold D3 at xd
  dsimp only at xd hw1
  have hlt0 : w.heap.size < w1.heap.size := by omega
  have hlt1 : w.heap.size + 1 < w1.heap.size := by omega
  have hlt2 : w.heap.size + 2 < w1.heap.size := by omega
  obtain ⟨⟨g0, g1, g2⟩, -⟩ := cells3 xd
  replace hw1 := Lib.hid hw1.symm
  replace xa := Lib.hid xa
  replace xd := Lib.hid xd
  replace xz := Lib.hid xz
  replace hb := Lib.hid hb
  replace C1 := Lib.hid C1
  replace C2 := Lib.hid C2
  replace h := Lib.hid h
  replace b := Lib.hid b
  replace rb := Lib.hid rb
  clear hp1
  go_enter Try.func14, Try.ntmps14
  go_upto_region 1 with fail
  rw [hw1.out]
  clear hw1
  go_wp2_with fail
  refine C1.out.mono ?_
  rintro e w2 ⟨rfl, p2, o2⟩
  have hF : ∀ k, PoolF pb mb vin G k → PoolF pb mb vin G k ∨ w1.heap.size ≤ k := fun k e => .inl e
  have xa2 : X3 w.heap.size _ w2 := box_mid h.out o2 (Nat.le_refl _) xa.out
  have xd2 := box_mid h.out o2 (by omega) xd.out
  have xz2 : X3 (w.heap.size + 2) _ w2 := box_mid h.out o2 (by omega) xz.out
  have s2 := o2.size
  clear g0 g1 g2
  obtain ⟨⟨g0, g1, g2⟩, -⟩ := cells3 xd2
  obtain ⟨⟨a0, a1, a2⟩, -⟩ := cellsX xa2
  have D2 := Lib.hid (C2.out w2 o2)
  have hle0 : w.heap.size < w2.heap.size := by omega
  have hle1 : w.heap.size + 1 < w2.heap.size := by omega
  replace xa2 := Lib.hid xa2
  replace xd2 := Lib.hid xd2
  replace xz2 := Lib.hid xz2
  replace p2 := Lib.hid p2
  replace o2 := Lib.hid o2
  replace hF := Lib.hid hF
  clear C1 C2 xa xd xz hlt0 hlt1 hlt2
  go_wp2_with fail
  refine D2.out.mono ?_
  rintro e w3 ⟨vI2, vR2, rfl, r3, b3, fr3⟩
  try unfold xv
  obtain ⟨A2, c2, e2, -⟩ := own_any' r3.i
  obtain ⟨A3, c3, e3, -⟩ := own_any' r3.r
  subst e2 e3
  have s3 := b3.size
  have xz3 := xz2.out.below b3
  obtain ⟨⟨d0, d1, d2⟩, fd⟩ := cellsX xz3
  have fd0 := fd 0
  have fd1 := fd 1
  have fd2 := fd 2
  have hm2 : w.heap.size + 2 < w3.heap.size := xz3.lt
  obtain ⟨w9, e9, ⟨y0, y1, y2⟩, -, on9⟩ := end3 xz3 (Below.refl w.heap.size w3) (by omega) (.slice A2 (renterI rin rep t).length c2) (.int .i64 rep) (.slice A3 (R).length c3)
  have N := both_next h.out hb.out o2.out p2.out hF.out b3 r3 fr3 (on9.mono (fun k _ e => by have e : k = w.heap.size + 2 := e; omega))
  have m9 : w.heap.size + 2 < w9.heap.size := by have := on9.size; omega
  have N2 : BothR B pb mb vin _ _ _ _ _ _ _ (w9.alloc (.cells #[.slice A2 (renterI rin rep t).length c2, .int .i64 rep, .slice A3 (R).length c3] 35)) ∧ Only (PoolF pb mb vin G) w (w9.alloc (.cells #[.slice A2 (renterI rin rep t).length c2, .int .i64 rep, .slice A3 (R).length c3] 35)) := ⟨⟨N.1.pool.below ((Below.refl _ _).alloc (Nat.le_refl _) _), N.1.ref.below ((Below.refl _ _).alloc (Nat.le_refl _) _), N.1.far⟩, N.2.trans (ofBelow (S := PoolF pb mb vin G) ((Below.refl _ _).alloc (Nat.le_refl _) _)) (fun _ _ e => e)⟩
  have fin : Q (.returned (.tuple #[.agg #[.slice A2 (renterI rin rep t).length c2, .int .i64 rep, .slice A3 (R).length c3], .bool (a == q)])) (w9.alloc (.cells #[.slice A2 (renterI rin rep t).length c2, .int .i64 rep, .slice A3 (R).length c3] 35)) := by
    rw [← hQ.out]
    refine ⟨_, _, _, _, _, _, rfl, (.enter rfl : Sp ⟨1, t, x⟩ inn ep G (enterI inn ep t) ep G), N2.1, fun hag => by (have hag : enterE inn t = renterE rin t := hag); rw [← ha.out, ← hq.out, hag]; simp, N2.2⟩
  replace fin := Lib.hid fin
  replace e9 := Lib.hid e9
  replace r3 := Lib.hid r3
  replace b3 := Lib.hid b3
  replace fr3 := Lib.hid fr3
  clear N N2 on9 xz3 fd
  go_wp2
  rw [← e9.out]
  exact bodyPost_ret (v := .tuple #[.agg #[.slice A2 (renterI rin rep t).length c2, .int .i64 rep, .slice A3 (R).length c3], .bool (a == q)]) (by simp [results, Try.results14, go_sem, y0, y1, y2, m9]) rfl fin.out
set_option maxHeartbeats 16000000 in
set_option maxRecDepth 100000 in
theorem do2 (h : BothR B pb mb vin inn ep G vI vR rin R w) (b : PB c n inn ep G) (rb : RB n rin rep R) (hn : n ≤ 900) (hc : 1 ≤ c) (h8 : c ≤ 8) (hB : B ≤ w.heap.size) (t x : Int) :
    Calls Try.prog 14 #[.pointer (some ⟨pb, 0, none⟩), .agg (xv vI rep vR), .agg #[.int .i64 2, .int .i64 t, .int .u64 x]] w (Did B pb mb vin inn ep G rin rep R ⟨2, t, x⟩ w) := by
  have rlen := rb.len
  have re0 := rb.e0
  have rrl := rb.rl
  obtain ⟨AI, cI, e1, -⟩ := own_any' h.ref.i
  obtain ⟨AR, cR, e2, -⟩ := own_any' h.ref.r
  subst e1 e2
  obtain ⟨w1, hw1, xa, xd, xz, hb, s1⟩ := three w (xv (.slice AI rin.length cI) rep (.slice AR R.length cR)) ⟨2, t, x⟩
  have hB1 : B ≤ w1.heap.size := by omega
  have hp1 := h.pool.below hb
  have C1 := Ep.exit hp1 t
  have C2 := fun (w2 : World) (o2 : Only (PoolF pb mb vin G) w1 w2) => rexit (ref_mid h hb o2) (by have := o2.size; omega) (by omega) rep t
  obtain ⟨a, ha⟩ : ∃ a, exitE inn t = a := ⟨_, rfl⟩
  obtain ⟨q, hq⟩ : ∃ q, rexitE rin t = q := ⟨_, rfl⟩
  rw [ha] at C1
  rw [hq] at C2
  replace ha := Lib.hid ha
  replace hq := Lib.hid hq
  obtain ⟨Q, hQ⟩ : ∃ Q, Did B pb mb vin inn ep G rin rep R ⟨2, t, x⟩ w = Q := ⟨_, rfl⟩
  rw [hQ]
  replace hQ := Lib.hid hQ
  unfold xv at *
  unfold D3 at xd
  dsimp only at xd hw1
  have hlt0 : w.heap.size < w1.heap.size := by omega
  have hlt1 : w.heap.size + 1 < w1.heap.size := by omega
  have hlt2 : w.heap.size + 2 < w1.heap.size := by omega
  obtain ⟨⟨g0, g1, g2⟩, -⟩ := cells3 xd
  replace hw1 := Lib.hid hw1.symm
  replace xa := Lib.hid xa
  replace xd := Lib.hid xd
  replace xz := Lib.hid xz
  replace hb := Lib.hid hb
  replace C1 := Lib.hid C1
  replace C2 := Lib.hid C2
  replace h := Lib.hid h
  replace b := Lib.hid b
  replace rb := Lib.hid rb
  clear hp1
  go_enter Try.func14, Try.ntmps14
  go_upto_region 1 with fail
  rw [hw1.out]
  clear hw1
  go_wp2_with fail
  refine C1.out.mono ?_
  rintro e w2 ⟨rfl, p2, o2⟩
  have hF : ∀ k, PoolF pb mb vin G k → PoolF pb mb vin G k ∨ w1.heap.size ≤ k := fun k e => .inl e
  have xa2 : X3 w.heap.size _ w2 := box_mid h.out o2 (Nat.le_refl _) xa.out
  have xd2 := box_mid h.out o2 (by omega) xd.out
  have xz2 : X3 (w.heap.size + 2) _ w2 := box_mid h.out o2 (by omega) xz.out
  have s2 := o2.size
  clear g0 g1 g2
  obtain ⟨⟨g0, g1, g2⟩, -⟩ := cells3 xd2
  obtain ⟨⟨a0, a1, a2⟩, -⟩ := cellsX xa2
  have D2 := Lib.hid (C2.out w2 o2)
  have hle0 : w.heap.size < w2.heap.size := by omega
  have hle1 : w.heap.size + 1 < w2.heap.size := by omega
  replace xa2 := Lib.hid xa2
  replace xd2 := Lib.hid xd2
  replace xz2 := Lib.hid xz2
  replace p2 := Lib.hid p2
  replace o2 := Lib.hid o2
  replace hF := Lib.hid hF
  clear C1 C2 xa xd xz hlt0 hlt1 hlt2
  go_wp2_with fail
  refine D2.out.mono ?_
  rintro e w3 ⟨vI2, vR2, rfl, r3, b3, fr3⟩
  try unfold xv
  obtain ⟨A2, c2, e2, -⟩ := own_any' r3.i
  obtain ⟨A3, c3, e3, -⟩ := own_any' r3.r
  subst e2 e3
  have s3 := b3.size
  have xz3 := xz2.out.below b3
  obtain ⟨⟨d0, d1, d2⟩, fd⟩ := cellsX xz3
  have fd0 := fd 0
  have fd1 := fd 1
  have fd2 := fd 2
  have hm2 : w.heap.size + 2 < w3.heap.size := xz3.lt
  obtain ⟨w9, e9, ⟨y0, y1, y2⟩, -, on9⟩ := end3 xz3 (Below.refl w.heap.size w3) (by omega) (.slice A2 (rexitI rin t).length c2) (.int .i64 rep) (.slice A3 (R).length c3)
  have N := both_next h.out hb.out o2.out p2.out hF.out b3 r3 fr3 (on9.mono (fun k _ e => by have e : k = w.heap.size + 2 := e; omega))
  have m9 : w.heap.size + 2 < w9.heap.size := by have := on9.size; omega
  have N2 : BothR B pb mb vin _ _ _ _ _ _ _ (w9.alloc (.cells #[.slice A2 (rexitI rin t).length c2, .int .i64 rep, .slice A3 (R).length c3] 35)) ∧ Only (PoolF pb mb vin G) w (w9.alloc (.cells #[.slice A2 (rexitI rin t).length c2, .int .i64 rep, .slice A3 (R).length c3] 35)) := ⟨⟨N.1.pool.below ((Below.refl _ _).alloc (Nat.le_refl _) _), N.1.ref.below ((Below.refl _ _).alloc (Nat.le_refl _) _), N.1.far⟩, N.2.trans (ofBelow (S := PoolF pb mb vin G) ((Below.refl _ _).alloc (Nat.le_refl _) _)) (fun _ _ e => e)⟩
  have fin : Q (.returned (.tuple #[.agg #[.slice A2 (rexitI rin t).length c2, .int .i64 rep, .slice A3 (R).length c3], .bool (a == q)])) (w9.alloc (.cells #[.slice A2 (rexitI rin t).length c2, .int .i64 rep, .slice A3 (R).length c3] 35)) := by
    rw [← hQ.out]
    refine ⟨_, _, _, _, _, _, rfl, (.exit rfl : Sp ⟨2, t, x⟩ inn ep G (exitI inn t) ep G), N2.1, fun hag => by (have hag : exitE inn t = rexitE rin t := hag); rw [← ha.out, ← hq.out, hag]; simp, N2.2⟩
  replace fin := Lib.hid fin
  replace e9 := Lib.hid e9
  replace r3 := Lib.hid r3
  replace b3 := Lib.hid b3
  replace fr3 := Lib.hid fr3
  clear N N2 on9 xz3 fd
  go_wp2
  rw [← e9.out]
  exact bodyPost_ret (v := .tuple #[.agg #[.slice A2 (rexitI rin t).length c2, .int .i64 rep, .slice A3 (R).length c3], .bool (a == q)]) (by simp [results, Try.results14, go_sem, y0, y1, y2, m9]) rfl fin.out
set_option maxHeartbeats 16000000 in
set_option maxRecDepth 100000 in
theorem do4 (h : BothR B pb mb vin inn ep G vI vR rin R w) (b : PB c n inn ep G) (rb : RB n rin rep R) (hn : n ≤ 900) (hc : 1 ≤ c) (h8 : c ≤ 8) (hB : B ≤ w.heap.size) (t x : Int) :
    Calls Try.prog 14 #[.pointer (some ⟨pb, 0, none⟩), .agg (xv vI rep vR), .agg #[.int .i64 4, .int .i64 t, .int .u64 x]] w (Did B pb mb vin inn ep G rin rep R ⟨4, t, x⟩ w) := by
  have rlen := rb.len
  have re0 := rb.e0
  have rrl := rb.rl
  obtain ⟨AI, cI, e1, -⟩ := own_any' h.ref.i
  obtain ⟨AR, cR, e2, -⟩ := own_any' h.ref.r
  subst e1 e2
  obtain ⟨w1, hw1, xa, xd, xz, hb, s1⟩ := three w (xv (.slice AI rin.length cI) rep (.slice AR R.length cR)) ⟨4, t, x⟩
  have hB1 : B ≤ w1.heap.size := by omega
  have hp1 := h.pool.below hb
  have C1 := advanceB hp1 b (by omega) hc h8
  have C2 := fun (w2 : World) (o2 : Only (PoolF pb mb vin G) w1 w2) => radvance (ref_mid h hb o2) (by have := o2.size; omega) (by omega) rep (by omega)
  obtain ⟨a, ha⟩ : ∃ a, advB inn ep = a := ⟨_, rfl⟩
  obtain ⟨q, hq⟩ : ∃ q, radvB rin rep = q := ⟨_, rfl⟩
  rw [ha] at C1
  rw [hq] at C2
  replace ha := Lib.hid ha
  replace hq := Lib.hid hq
  obtain ⟨Q, hQ⟩ : ∃ Q, Did B pb mb vin inn ep G rin rep R ⟨4, t, x⟩ w = Q := ⟨_, rfl⟩
  rw [hQ]
  replace hQ := Lib.hid hQ
  unfold xv at *
  unfold D3 at xd
  dsimp only at xd hw1
  have hlt0 : w.heap.size < w1.heap.size := by omega
  have hlt1 : w.heap.size + 1 < w1.heap.size := by omega
  have hlt2 : w.heap.size + 2 < w1.heap.size := by omega
  obtain ⟨⟨g0, g1, g2⟩, -⟩ := cells3 xd
  replace hw1 := Lib.hid hw1.symm
  replace xa := Lib.hid xa
  replace xd := Lib.hid xd
  replace xz := Lib.hid xz
  replace hb := Lib.hid hb
  replace C1 := Lib.hid C1
  replace C2 := Lib.hid C2
  replace h := Lib.hid h
  replace b := Lib.hid b
  replace rb := Lib.hid rb
  clear hp1
  go_enter Try.func14, Try.ntmps14
  go_upto_region 1 with fail
  rw [hw1.out]
  clear hw1
  go_wp2_with fail
  refine C1.out.mono ?_
  rintro e w2 ⟨rfl, p2, o2⟩
  have hF : ∀ k, PoolF pb mb vin G k → PoolF pb mb vin G k ∨ w1.heap.size ≤ k := fun k e => .inl e
  have xa2 : X3 w.heap.size _ w2 := box_mid h.out o2 (Nat.le_refl _) xa.out
  have xd2 := box_mid h.out o2 (by omega) xd.out
  have xz2 : X3 (w.heap.size + 2) _ w2 := box_mid h.out o2 (by omega) xz.out
  have s2 := o2.size
  clear g0 g1 g2
  obtain ⟨⟨g0, g1, g2⟩, -⟩ := cells3 xd2
  obtain ⟨⟨a0, a1, a2⟩, -⟩ := cellsX xa2
  have D2 := Lib.hid (C2.out w2 o2)
  have hle0 : w.heap.size < w2.heap.size := by omega
  have hle1 : w.heap.size + 1 < w2.heap.size := by omega
  replace xa2 := Lib.hid xa2
  replace xd2 := Lib.hid xd2
  replace xz2 := Lib.hid xz2
  replace p2 := Lib.hid p2
  replace o2 := Lib.hid o2
  replace hF := Lib.hid hF
  clear C1 C2 xa xd xz hlt0 hlt1 hlt2
  go_wp2_with fail
  refine D2.out.mono ?_
  rintro e w3 ⟨vI2, vR2, rfl, r3, b3, fr3⟩
  try unfold xv
  obtain ⟨A2, c2, e2, -⟩ := own_any' r3.i
  obtain ⟨A3, c3, e3, -⟩ := own_any' r3.r
  subst e2 e3
  have s3 := b3.size
  have xz3 := xz2.out.below b3
  obtain ⟨⟨d0, d1, d2⟩, fd⟩ := cellsX xz3
  have fd0 := fd 0
  have fd1 := fd 1
  have fd2 := fd 2
  have hm2 : w.heap.size + 2 < w3.heap.size := xz3.lt
  obtain ⟨w9, e9, ⟨y0, y1, y2⟩, -, on9⟩ := end3 xz3 (Below.refl w.heap.size w3) (by omega) (.slice A2 (rin).length c2) (.int .i64 (radvE rin rep)) (.slice A3 (R).length c3)
  have N := both_next h.out hb.out o2.out p2.out hF.out b3 r3 fr3 (on9.mono (fun k _ e => by have e : k = w.heap.size + 2 := e; omega))
  have m9 : w.heap.size + 2 < w9.heap.size := by have := on9.size; omega
  have N2 : BothR B pb mb vin _ _ _ _ _ _ _ (w9.alloc (.cells #[.slice A2 (rin).length c2, .int .i64 (radvE rin rep), .slice A3 (R).length c3] 35)) ∧ Only (PoolF pb mb vin G) w (w9.alloc (.cells #[.slice A2 (rin).length c2, .int .i64 (radvE rin rep), .slice A3 (R).length c3] 35)) := ⟨⟨N.1.pool.below ((Below.refl _ _).alloc (Nat.le_refl _) _), N.1.ref.below ((Below.refl _ _).alloc (Nat.le_refl _) _), N.1.far⟩, N.2.trans (ofBelow (S := PoolF pb mb vin G) ((Below.refl _ _).alloc (Nat.le_refl _) _)) (fun _ _ e => e)⟩
  have fin : Q (.returned (.tuple #[.agg #[.slice A2 (rin).length c2, .int .i64 (radvE rin rep), .slice A3 (R).length c3], .bool (a == q)])) (w9.alloc (.cells #[.slice A2 (rin).length c2, .int .i64 (radvE rin rep), .slice A3 (R).length c3] 35)) := by
    rw [← hQ.out]
    refine ⟨_, _, _, _, _, _, rfl, (.advance rfl : Sp ⟨4, t, x⟩ inn ep G inn (advE inn ep) G), N2.1, fun hag => by (have hag : advB inn ep = radvB rin rep := hag); rw [← ha.out, ← hq.out, hag]; simp, N2.2⟩
  replace fin := Lib.hid fin
  replace e9 := Lib.hid e9
  replace r3 := Lib.hid r3
  replace b3 := Lib.hid b3
  replace fr3 := Lib.hid fr3
  clear N N2 on9 xz3 fd
  go_wp2
  rw [← e9.out]
  exact bodyPost_ret (v := .tuple #[.agg #[.slice A2 (rin).length c2, .int .i64 (radvE rin rep), .slice A3 (R).length c3], .bool (a == q)]) (by simp [results, Try.results14, go_sem, y0, y1, y2, m9]) rfl fin.out
end
end Go.Proofs.Ytecjkpjcmgohmac.EpDo
