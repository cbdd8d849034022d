/- The laws' do: Retire, Free. Laid by genepdo.py. -/
import Derived.Test.YtecjkpjcmgohmacEpDo1
namespace Go.Proofs.Ytecjkpjcmgohmac.EpDo
open Go Go.RowKit Go.Maps Go.Proofs.Ytecjkpjcmgohmac.Only Go.Proofs.Ytecjkpjcmgohmac.Ep Go.Proofs.Ytecjkpjcmgohmac.EpRef Go.Proofs.Ytecjkpjcmgohmac.Args Go.Proofs.YtecjkpjcmgohmacW.PrintLast
set_option linter.unusedVariables false
set_option linter.unusedSimpArgs false

section
variable {B pb mb : Nat} {vin : Value} {c n : Nat} {inn : List Int} {ep rep : Int} {G : List Grp} {vI vR : Value} {rin : List Int} {R : List (Int × Int)} {w : World}
set_option maxHeartbeats 16000000 in
set_option maxRecDepth 100000 in
theorem do3 (h : BothR B pb mb vin inn ep G vI vR rin R w) (b : PB c n inn ep G) (rb : RB n rin rep R) (hn : n ≤ 900) (hc : 1 ≤ c) (h8 : c ≤ 8) (hB : B ≤ w.heap.size) (t x : Int) :
    Calls Try.prog 14 #[.pointer (some ⟨pb, 0, none⟩), .agg (xv vI rep vR), .agg #[.int .i64 3, .int .i64 t, .int .u64 x]] w (Did B pb mb vin inn ep G rin rep R ⟨3, t, x⟩ w) := by
  have rlen := rb.len
  have re0 := rb.e0
  have rrl := rb.rl
  obtain ⟨AI, cI, e1, -⟩ := own_any' h.ref.i
  obtain ⟨AR, cR, e2, -⟩ := own_any' h.ref.r
  subst e1 e2
  obtain ⟨w1, hw1, xa, xd, xz, hb, s1⟩ := three w (xv (.slice AI rin.length cI) rep (.slice AR R.length cR)) ⟨3, t, x⟩
  have hB1 : B ≤ w1.heap.size := by omega
  have hp1 := h.pool.below hb
  have C1 := retireB hp1 b (by omega) hB1 x
  have C2 := fun (w2 : World) (o2 : Only (PoolF pb mb vin G) w1 w2) => rretire (ref_mid h hb o2) (by have := o2.size; omega) (by omega) rep x
  obtain ⟨Q, hQ⟩ : ∃ Q, Did B pb mb vin inn ep G rin rep R ⟨3, t, x⟩ w = Q := ⟨_, rfl⟩
  rw [hQ]
  replace hQ := Lib.hid hQ
  unfold xv at *
  unfold D3 at xd
  dsimp only at xd hw1
  have hlt0 : w.heap.size < w1.heap.size := by omega
  have hlt1 : w.heap.size + 1 < w1.heap.size := by omega
  have hlt2 : w.heap.size + 2 < w1.heap.size := by omega
  obtain ⟨⟨g0, g1, g2⟩, -⟩ := cells3 xd
  replace hw1 := Lib.hid hw1.symm
  replace xa := Lib.hid xa
  replace xd := Lib.hid xd
  replace xz := Lib.hid xz
  replace hb := Lib.hid hb
  replace C1 := Lib.hid C1
  replace C2 := Lib.hid C2
  replace h := Lib.hid h
  replace b := Lib.hid b
  replace rb := Lib.hid rb
  clear hp1
  go_enter Try.func14, Try.ntmps14
  go_upto_region 1 with fail
  rw [hw1.out]
  clear hw1
  go_wp2_with fail
  refine C1.out.mono ?_
  rintro e w2 ⟨rfl, v2, p2, o2, hv2⟩
  have hF : ∀ k, PoolF pb mb vin (cut G ep ++ [⟨ep, v2, xsOf G ep ++ [x]⟩]) k → PoolF pb mb vin G k ∨ w1.heap.size ≤ k := fun k e => by
    rcases e with e | e | e | ⟨g, hg, e⟩
    · exact .inl (.inl e)
    · exact .inl (.inr (.inl e))
    · exact .inl (.inr (.inr (.inl e)))
    · rcases List.mem_append.1 hg with q | q
      · exact .inl (.inr (.inr (.inr ⟨g, (mem_cut.1 q).1, e⟩)))
      · have q := List.mem_singleton.1 q
        subst q
        exact hv2 k e
  have xa2 : X3 w.heap.size _ w2 := box_mid h.out o2 (Nat.le_refl _) xa.out
  have xd2 := box_mid h.out o2 (by omega) xd.out
  have xz2 : X3 (w.heap.size + 2) _ w2 := box_mid h.out o2 (by omega) xz.out
  have s2 := o2.size
  clear g0 g1 g2
  obtain ⟨⟨g0, g1, g2⟩, -⟩ := cells3 xd2
  obtain ⟨⟨a0, a1, a2⟩, -⟩ := cellsX xa2
  have D2 := Lib.hid (C2.out w2 o2)
  have hle0 : w.heap.size < w2.heap.size := by omega
  have hle1 : w.heap.size + 1 < w2.heap.size := by omega
  replace xa2 := Lib.hid xa2
  replace xd2 := Lib.hid xd2
  replace xz2 := Lib.hid xz2
  replace p2 := Lib.hid p2
  replace o2 := Lib.hid o2
  replace hF := Lib.hid hF
  clear C1 C2 xa xd xz hlt0 hlt1 hlt2
  go_wp2_with fail
  refine D2.out.mono ?_
  rintro e w3 ⟨vI2, vR2, rfl, r3, b3, fr3⟩
  try unfold xv
  obtain ⟨A2, c2, e2, -⟩ := own_any' r3.i
  obtain ⟨A3, c3, e3, -⟩ := own_any' r3.r
  simp only [List.length_append, List.length_cons, List.length_nil, Nat.zero_add] at e3
  subst e2 e3
  have s3 := b3.size
  have xz3 := xz2.out.below b3
  obtain ⟨⟨d0, d1, d2⟩, fd⟩ := cellsX xz3
  have fd0 := fd 0
  have fd1 := fd 1
  have fd2 := fd 2
  have hm2 : w.heap.size + 2 < w3.heap.size := xz3.lt
  obtain ⟨w9, e9, ⟨y0, y1, y2⟩, -, on9⟩ := end3 xz3 (Below.refl w.heap.size w3) (by omega) (.slice A2 (rin).length c2) (.int .i64 rep) (.slice A3 (R.length + 1) c3)
  have N := both_next h.out hb.out o2.out p2.out hF.out b3 r3 fr3 (on9.mono (fun k _ e => by have e : k = w.heap.size + 2 := e; omega))
  have m9 : w.heap.size + 2 < w9.heap.size := by have := on9.size; omega
  have N2 := N
  have fin : Q (.returned (.tuple #[.agg #[.slice A2 (rin).length c2, .int .i64 rep, .slice A3 (R.length + 1) c3], .bool true])) w9 := by
    rw [← hQ.out]
    refine ⟨_, _, _, _, _, _, rfl, (.retire rfl v2 : Sp ⟨3, t, x⟩ inn ep G inn ep _), N2.1, fun _ => rfl, N2.2⟩
  replace fin := Lib.hid fin
  replace e9 := Lib.hid e9
  replace r3 := Lib.hid r3
  replace b3 := Lib.hid b3
  replace fr3 := Lib.hid fr3
  clear N N2 on9 xz3 fd
  go_wp2
  rw [← e9.out]
  exact bodyPost_ret (v := .tuple #[.agg #[.slice A2 (rin).length c2, .int .i64 rep, .slice A3 (R.length + 1) c3], .bool true]) (by simp [results, Try.results14, go_sem, y0, y1, y2]) rfl fin.out
set_option maxHeartbeats 16000000 in
set_option maxRecDepth 100000 in
theorem doF (h : BothR B pb mb vin inn ep G vI vR rin R w) (b : PB c n inn ep G) (rb : RB n rin rep R) (hn : n ≤ 900) (hc : 1 ≤ c) (h8 : c ≤ 8) (hB : B ≤ w.heap.size) (kk t x : Int) (h1 : kk ≠ 1) (h2 : kk ≠ 2) (h3 : kk ≠ 3) (h4 : kk ≠ 4) :
    Calls Try.prog 14 #[.pointer (some ⟨pb, 0, none⟩), .agg (xv vI rep vR), .agg #[.int .i64 kk, .int .i64 t, .int .u64 x]] w (Did B pb mb vin inn ep G rin rep R ⟨kk, t, x⟩ w) := by
  have rlen := rb.len
  have re0 := rb.e0
  have rrl := rb.rl
  obtain ⟨AI, cI, e1, -⟩ := own_any' h.ref.i
  obtain ⟨AR, cR, e2, -⟩ := own_any' h.ref.r
  subst e1 e2
  obtain ⟨w1, hw1, xa, xd, xz, hb, s1⟩ := three w (xv (.slice AI rin.length cI) rep (.slice AR R.length cR)) ⟨kk, t, x⟩
  have hB1 : B ≤ w1.heap.size := by omega
  have hp1 := h.pool.below hb
  have C1 := freeB hp1 b (by omega) hB1
  have C2 := fun (w2 : World) (o2 : Only (PoolF pb mb vin G) w1 w2) => rfree (ref_mid h hb o2) (by have := o2.size; omega) (by omega) rep (fun t ht => by have := rb.rt t ht; omega)
  have n1 : decide (kk = 1) = false := decide_eq_false h1
  have n2 : decide (kk = 2) = false := decide_eq_false h2
  have n3 : decide (kk = 3) = false := decide_eq_false h3
  have n4 : decide (kk = 4) = false := decide_eq_false h4
  have hsum := freed_len ep G
  have hsu := b.sum
  have hrf : (rfreed rep R).length ≤ R.length := by
    have := (freed_le rep R R.length).1
    rwa [List.take_length] at this
  obtain ⟨Q, hQ⟩ : ∃ Q, Did B pb mb vin inn ep G rin rep R ⟨kk, t, x⟩ w = Q := ⟨_, rfl⟩
  rw [hQ]
  replace hQ := Lib.hid hQ
  unfold xv at *
  unfold D3 at xd
  dsimp only at xd hw1
  have hlt0 : w.heap.size < w1.heap.size := by omega
  have hlt1 : w.heap.size + 1 < w1.heap.size := by omega
  have hlt2 : w.heap.size + 2 < w1.heap.size := by omega
  obtain ⟨⟨g0, g1, g2⟩, -⟩ := cells3 xd
  replace hw1 := Lib.hid hw1.symm
  replace xa := Lib.hid xa
  replace xd := Lib.hid xd
  replace xz := Lib.hid xz
  replace hb := Lib.hid hb
  replace C1 := Lib.hid C1
  replace C2 := Lib.hid C2
  replace h := Lib.hid h
  replace b := Lib.hid b
  replace rb := Lib.hid rb
  clear hp1
  go_enter Try.func14, Try.ntmps14
  go_upto_region 1 with fail
  rw [hw1.out]
  clear hw1
  go_wp2_with fail
  refine C1.out.mono ?_
  rintro e w2 ⟨v2, rfl, l2, p2, o2⟩
  obtain ⟨A4, c4, e4, -⟩ := own_any l2
  subst e4
  replace l2 := Lib.hid l2
  have hF : ∀ k, PoolF pb mb vin (keptG ep G) k → PoolF pb mb vin G k ∨ w1.heap.size ≤ k := fun k e => by
    rcases e with e | e | e | ⟨g, hg, e⟩
    · exact .inl (.inl e)
    · exact .inl (.inr (.inl e))
    · exact .inl (.inr (.inr (.inl e)))
    · exact .inl (.inr (.inr (.inr ⟨g, (List.mem_filter.1 hg).1, e⟩)))
  have xa2 : X3 w.heap.size _ w2 := box_mid h.out o2 (Nat.le_refl _) xa.out
  have xd2 := box_mid h.out o2 (by omega) xd.out
  have xz2 : X3 (w.heap.size + 2) _ w2 := box_mid h.out o2 (by omega) xz.out
  have s2 := o2.size
  clear g0 g1 g2
  obtain ⟨⟨g0, g1, g2⟩, -⟩ := cells3 xd2
  obtain ⟨⟨a0, a1, a2⟩, -⟩ := cellsX xa2
  have D2 := Lib.hid (C2.out w2 o2)
  have hle0 : w.heap.size < w2.heap.size := by omega
  have hle1 : w.heap.size + 1 < w2.heap.size := by omega
  replace xa2 := Lib.hid xa2
  replace xd2 := Lib.hid xd2
  replace xz2 := Lib.hid xz2
  replace p2 := Lib.hid p2
  replace o2 := Lib.hid o2
  replace hF := Lib.hid hF
  clear C1 C2 xa xd xz hlt0 hlt1 hlt2
  go_wp2_with fail
  refine D2.out.mono ?_
  rintro e w3 ⟨vI2, vR2, lv, rfl, r3, l3, b3, fr3⟩
  try unfold xv
  obtain ⟨A5, c5, e5, -⟩ := own_any l3
  subst e5
  obtain ⟨A2, c2, e2, -⟩ := own_any' r3.i
  obtain ⟨A3, c3, e3, -⟩ := own_any' r3.r
  subst e2 e3
  have s3 := b3.size
  have hb4 : Below w3.heap.size w3 (w3.alloc (.cells #[.slice A2 rin.length c2, .int .i64 rep, .slice A3 (rkept rep R).length c3] 35)) := (Below.refl _ _).alloc (Nat.le_refl _) _
  have xy4 : X3 w3.heap.size #[.slice A2 rin.length c2, .int .i64 rep, .slice A3 (rkept rep R).length c3] (w3.alloc (.cells #[.slice A2 rin.length c2, .int .i64 rep, .slice A3 (rkept rep R).length c3] 35)) := heap_alloc_new w3 _
  go_upto_region 19 with fail
  generalize (w3.alloc (.cells #[.slice A2 rin.length c2, .int .i64 rep, .slice A3 (rkept rep R).length c3] 35)) = w4 at *
  have hb5 : Below w3.heap.size w3 w4.drew := below_drew hb4
  have xy5 : X3 w3.heap.size #[.slice A2 rin.length c2, .int .i64 rep, .slice A3 (rkept rep R).length c3] w4.drew := xy4
  obtain ⟨⟨k0, k1, k2⟩, -⟩ := cellsX xy5
  have S5 := same (reads_own ((own_keep l2.out (ofBelow (S := fun _ => False) (b3.trans (hb5.mono s3))) (fun _ _ x => x)))) (reads_own (own_keep l3 (ofBelow (S := fun _ => False) hb5) (fun _ _ x => x))) (by omega) (by omega)
  have fin : ∀ w5, Below w4.drew.heap.size w4.drew w5 → X3 w3.heap.size #[.slice A2 rin.length c2, .int .i64 rep, .slice A3 (rkept rep R).length c3] w5 ∧ X3 (w.heap.size + 2) #[.slice none 0 0, .int .i64 0, .slice none 0 0] w5 ∧ ∃ w9, w9 = (((w5.setCell ⟨w.heap.size + 2, 0, none⟩ (.slice A2 rin.length c2)).setCell ⟨w.heap.size + 2, 1, none⟩ (.int .i64 rep)).setCell ⟨w.heap.size + 2, 2, none⟩ (.slice A3 (rkept rep R).length c3)) ∧ (w9.cell? ⟨w.heap.size + 2, 0, none⟩ = some (.slice A2 rin.length c2) ∧ w9.cell? ⟨w.heap.size + 2, 1, none⟩ = some (.int .i64 rep) ∧ w9.cell? ⟨w.heap.size + 2, 2, none⟩ = some (.slice A3 (rkept rep R).length c3)) ∧ Q (.returned (.tuple #[.agg #[.slice A2 rin.length c2, .int .i64 rep, .slice A3 (rkept rep R).length c3], .bool (decide (freedL ep G = rfreed rep R))])) w9 := fun w5 hb6 => by
    have b35 : Below w3.heap.size w3 w5 := hb5.trans (hb6.mono hb5.size)
    have b25 := b3.trans (b35.mono s3)
    have xz5 := xz2.out.below b25
    obtain ⟨w9, e9, hy, -, on9⟩ := end3 xz5 (Below.refl w.heap.size w5) (by omega) (.slice A2 rin.length c2) (.int .i64 rep) (.slice A3 (rkept rep R).length c3)
    have N := both_next h.out hb.out o2.out p2.out hF.out b25 (r3.below b35) fr3 (on9.mono (fun k _ e => by have e : k = w.heap.size + 2 := e; omega))
    refine ⟨xy5.below hb6, xz5, w9, e9, hy, ?_⟩
    rw [← hQ.out]
    refine ⟨inn, ep, keptG ep G, .slice A2 rin.length c2, .slice A3 (rkept rep R).length c3, decide (freedL ep G = rfreed rep R), ?_, (.free h1 h2 h3 h4 : Sp ⟨kk, t, x⟩ inn ep G inn ep _), ?_, fun hag => (decide_eq_true ?_ : decide (freedL ep G = rfreed rep R) = true), N.2⟩
    rotate_left
    · have e1 : rI ⟨kk, t, x⟩ rin rep = rin := by unfold rI; rw [if_neg h1, if_neg h2]
      have e2 : rR ⟨kk, t, x⟩ rep R = rkept rep R := by unfold rR; rw [if_neg h3, if_neg (by rintro (e | e | e); exact h1 e; exact h2 e; exact h4 e)]
      rw [e1, e2]
      exact N.1
    · unfold Agree at hag
      rw [if_neg h1, if_neg h2, if_neg h3, if_neg h4] at hag
      exact hag
    · have e3 : rE ⟨kk, t, x⟩ rin rep = rep := by unfold rE; rw [if_neg h4]
      rw [e3]
      rfl
  replace S5 := Lib.hid S5
  replace fin := Lib.hid fin
  replace r3 := Lib.hid r3
  replace l3 := Lib.hid l3
  replace b3 := Lib.hid b3
  replace fr3 := Lib.hid fr3
  replace hb4 := Lib.hid hb4
  replace hb5 := Lib.hid hb5
  replace xy4 := Lib.hid xy4
  replace xy5 := Lib.hid xy5
  clear a0 a1 a2 g0 g1 g2 D2 hle0 hle1
  go_wp2_with fail
  refine start_ (n := 6) (S := fun w' => w'.cell? ⟨w3.heap.size, 0, none⟩ = some (.slice A2 rin.length c2) ∧ w'.cell? ⟨w3.heap.size, 1, none⟩ = some (.int .i64 rep) ∧ w'.cell? ⟨w3.heap.size, 2, none⟩ = some (.slice A3 (rkept rep R).length c3)) (ds := [4]) #[false, false, false, false, false, false] (by kernel_rfl) rfl rfl ⟨k0, k1, k2⟩ (fun hHeld => ?_)
  refine pure_ (i := 1) (N := some 87) (v := ?_) (a' := ?_) #[false, true, false, false, false, false] rfl rfl (by kernel_rfl) (fun _ _ _ h => h) (Or.inl ⟨by rfl, ?_⟩) ?_ ?_
  rotate_left
  · intro w'
    go_simp
    with_reducible rfl
  rotate_left
  · simp only [Act.put, List.setIfInBounds_toArray, List.set_cons_zero, List.set_cons_succ, i64_w, i32_w]
    rfl
  refine pure_ (i := 2) (N := some 88) (v := ?_) (a' := ?_) #[false, true, true, false, false, false] rfl rfl (by kernel_rfl) (fun _ _ _ h => h) (Or.inl ⟨by rfl, ?_⟩) ?_ ?_
  rotate_left
  · intro w'
    go_simp
    with_reducible rfl
  rotate_left
  · simp only [Act.put, List.setIfInBounds_toArray, List.set_cons_zero, List.set_cons_succ, i64_w, i32_w]
    rfl
  refine take_ (i := 0) (N := some 86) (v := ?_) (a' := ?_) #[true, true, true, false, false, false] rfl rfl (by kernel_rfl) (fun _ _ _ h => h) (Or.inl ⟨by rfl, ?_⟩) hHeld ?_ ?_
  rotate_left
  · rintro w' ⟨s0, s1, s2⟩
    go_simp
    with_reducible rfl
  rotate_left
  · simp only [Act.put, List.setIfInBounds_toArray, List.set_cons_zero, List.set_cons_succ, i64_w, i32_w]
    rfl
  refine one_ (i := 3) (N := some 89) #[true, true, true, true, false, false] rfl rfl (by kernel_rfl) (by decide) (fun K hK => ?_)
  refine goes_ Try.func21 (by kernel_rfl) rfl #[.slice A4 (freedL ep G).length c4, .slice A5 (rfreed rep R).length c5] (by rfl) rfl rfl (by simp only [List.map_toArray, List.map_cons, List.map_nil]; rfl) ?_
  with_reducible refine (S5.out).mono ?_
  rintro e w5 ⟨rfl, hb6⟩
  obtain ⟨xy6, xz6, w9, e9, ⟨y0, y1, y2⟩, fin9⟩ := fin.out w5 hb6
  obtain ⟨⟨m0, m1, m2⟩, -⟩ := cellsX xy6
  obtain ⟨⟨d0, d1, d2⟩, fd⟩ := cellsX xz6
  have fd0 := fd 0
  have fd1 := fd 1
  have fd2 := fd 2
  replace fin9 := Lib.hid fin9
  replace e9 := Lib.hid e9
  clear fd xy6 xz6
  refine ⟨_, rfl, ?_⟩
  refine hK.out _ _ ⟨m0, m1, m2⟩ (fun hHeld => ?_)
  clear hK K
  refine norm_ (a' := ?_) ?_ ?_
  rotate_left
  · show Act.put _ (some 89) _ = _
    simp only [Act.put, List.setIfInBounds_toArray, List.set_cons_zero, List.set_cons_succ, i64_w, i32_w]
    rfl
  refine last_ (i := 4) (N := none) #[true, true, true, true, true, false] rfl rfl (by kernel_rfl) (by decide) (fun K hK => ?_)
  refine skip_ (w1 := ?_) (by rfl) rfl ?_ ?_
  rotate_left
  · go_simp
    rfl
  refine hK.out _ _ ?_
  clear hK K
  refine pure_ (i := 5) (N := some 7) (v := ?_) (a' := ?_) #[true, true, true, true, true, true] rfl rfl (by kernel_rfl) (fun _ _ _ h => h) (Or.inl ⟨by rfl, ?_⟩) ?_ ?_
  rotate_left
  · intro w'
    go_simp
    with_reducible rfl
  rotate_left
  · simp only [Act.put, List.setIfInBounds_toArray, List.set_cons_zero, List.set_cons_succ, i64_w, i32_w]
    rfl
  refine done_ (by kernel_rfl) ?_
  go_wp2
  rw [← e9.out]
  exact bodyPost_ret (v := .tuple #[.agg #[.slice A2 rin.length c2, .int .i64 rep, .slice A3 (rkept rep R).length c3], .bool (decide (freedL ep G = rfreed rep R))]) (by simp [results, Try.results14, go_sem, y0, y1, y2]) rfl fin9.out
end
end Go.Proofs.Ytecjkpjcmgohmac.EpDo
