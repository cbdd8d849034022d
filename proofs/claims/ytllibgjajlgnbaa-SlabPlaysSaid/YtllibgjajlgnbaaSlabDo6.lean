/- The laws' do: Store. Laid by gendo.py. -/
import Derived.Test.YtllibgjajlgnbaaSlabDo5
import Derived.Test.YtllibgjajlgnbaaWLast
namespace Go.Proofs.Ytllibgjajlgnbaa.SlabDo
open Go Go.RowKit Go.Proofs.Ytllibgjajlgnbaa.Only Go.Proofs.Ytllibgjajlgnbaa.Mem Go.Proofs.Ytllibgjajlgnbaa.New Go.Proofs.Ytllibgjajlgnbaa.Ref Go.Proofs.Ytllibgjajlgnbaa.Slab Go.Proofs.Ytllibgjajlgnbaa.SlabRef Go.Proofs.YtllibgjajlgnbaaW.PrintLast
set_option linter.unusedVariables false
set_option linter.unusedSimpArgs false

set_option maxHeartbeats 8000000 in
set_option maxRecDepth 100000 in
theorem do4_no {B sb p : Nat} {v : Value} {n : Int} {vg vt vr xC xG xT xR vL : Value} {C : List Int} {s : Sl} {L : List Int} {w : World} (h : BothAt B sb p v n vg vt vr xC xG xT xR vL C s L w) (hL : L.length ≤ 1000) (ok : s.Ok) (cnt : Int)  (i : Int) (hi64 : -9223372036854775808 ≤ i ∧ i ≤ 9223372036854775807) (N : Nat) (hN : N ≤ 255) (V raw : Int) (r : Int) (hr : 0 ≤ r ∧ r ≤ 18446744073709551615) (hrr : r = toldV L N) (hne : cellE s r i ≠ 0) :
    Calls Try.prog 36 #[.agg (bv sb p xC cnt s xG xT xR vL), .agg (dv 4 i N V raw)] w (Did B sb p v vg vt vr n cnt C s L w) := by
  have f0 := Fr.start (fun k hk => (h.sl.low k hk).2) (bv sb p xC cnt s xG xT xR vL) (dv 4 i N V raw) z10
  have H := Lib.hid h
  obtain ⟨AC, cC, e1, -⟩ := own_any h.x.c.own
  obtain ⟨AG, cG, e2, -⟩ := own_any h.x.g
  obtain ⟨AT, cT, e3, -⟩ := own_any h.x.t
  obtain ⟨AR, cR, e4, -⟩ := own_any h.x.r
  obtain ⟨AL, cL, e5, -⟩ := own_any h.l
  subst e1 e2 e3 e4 e5
  have ho0 := own_keep h.l (ofBelow (S := fun _ => False) ((((Below.refl w.heap.size w).alloc (Nat.le_refl _) (.cells (bv sb p (.slice AC C.length cC) cnt s (.slice AG s.gens.length cG) (.slice AT s.taken.length cT) (.slice AR s.row.length cR) (.slice AL L.length cL)) 54)).alloc (by simp) (.cells (dv 4 i N V raw) 75)).alloc (by simp <;> omega) (.cells z10 54))) (fun _ _ x => x)
  have TT := told ho0 hL N hN
  obtain ⟨Q, hQ⟩ : ∃ Q, Did B sb p v vg vt vr n cnt C s L w = Q := ⟨_, rfl⟩
  rw [hQ]
  have sB : B ≤ w.heap.size := by have := H.out.sl.low sb (.inl rfl); omega
  subst hrr
  generalize toldV L N = tv at *
  clear h ho0
  unfold bv dv z10 at *
  generalize hw1 : (((w.alloc (.cells _ _)).alloc (.cells _ _)).alloc (.cells _ _)) = w1 at *
  have s1 := f0.size
  have f0' : Hid (Below w.heap.size w w1) := Lib.hid (hw1 ▸ ((((Below.refl w.heap.size w).alloc (Nat.le_refl _) _).alloc (by simp) _).alloc (by simp <;> omega) _))
  obtain ⟨⟨d0, d1, d2, d3, d4, d5, d6, d7, d8, d9⟩, -⟩ := cells10 f0.b
  obtain ⟨g0, g1, g2, g3, g4⟩ := cells5 f0.c
  have hlt0 : w.heap.size < w1.heap.size := by omega
  have hlt1 : w.heap.size + 1 < w1.heap.size := by omega
  replace f0 := Lib.hid f0
  replace TT := Lib.hid TT
  replace hw1 := Lib.hid hw1
  have A1 := rcell (H.out.x.below f0'.out) ok cnt tv i hr hi64
  generalize cellN s tv i = cn at *
  generalize cellE s tv i = ce at *
  have bce : decide (ce = 0) = false := decide_eq_false hne
  replace A1 := Lib.hid A1
  replace hQ := Lib.hid hQ
  clear ok hr
  go_enter Try.func36, Try.ntmps36
  go_wp2_with fail
  rw [hw1.out]
  refine TT.out.mono ?_
  rintro e w' ⟨rfl, rfl⟩
  clear TT hw1
  go_wp2_with fail
  refine A1.out.mono ?_
  rintro e w2 ⟨rfl, b12⟩
  clear A1
  have f5 := f0.out.below b12
  clear g0 g1 g2 g3 g4
  have s5 := f5.size
  have hlt5 : w.heap.size < w2.heap.size := by omega
  have hlt6 : w.heap.size + 1 + 1 < w2.heap.size := by omega
  clear d0 d1 d2 d3 d4 d5 d6 d7 d8 d9
  obtain ⟨⟨d0, d1, d2, d3, d4, d5, d6, d7, d8, d9⟩, -⟩ := cells10 f5.b
  obtain ⟨⟨z0, z1, z2, z3, z4, z5, z6, z7, z8, z9⟩, fz⟩ := cells10 f5.z
  have h0 := fz 0
  have h1 := fz 1
  have h2 := fz 2
  have h3 := fz 3
  have h4 := fz 4
  have h5 := fz 5
  have h6 := fz 6
  have h7 := fz 7
  have h8 := fz 8
  have h9 := fz 9
  clear fz
  obtain ⟨w9, e9, ⟨y0, y1, y2, y3, y4, y5, y6, y7, y8, y9⟩, -, on9⟩ := end10 f5.z (Below.refl 0 w2) (Nat.zero_le _) (.pointer (some ⟨sb, 0, none⟩)) (.pointer (some ⟨p, 0, none⟩)) (.slice AC C.length cC) (.int .i64 cnt) (.int .i64 s.first) (.int .i64 s.words) (.slice AG s.gens.length cG) (.slice AT s.taken.length cT) (.slice AR s.row.length cR) (.slice AL L.length cL)
  replace f5 := Lib.hid f5
  replace on9 := Lib.hid on9
  replace e9 := Lib.hid e9
  go_wp2
  rw [← e9.out, ← hQ.out]
  have on : Only (fun k => k = w.heap.size ∨ k = w.heap.size + 1 + 1) w2 w9 := on9.out.mono (fun _ _ e => .inr e)
  have b01 := f0'.out
  have F := fin H.out (H.out.sl.below b01) (ofBelow b01) (fun _ e => .inl e) ((H.out.x.below b01).below b12) (fun _ e => .inl e) b12 f0.out.b f0.out.z on (own_keep (own_keep (own_keep H.out.l (ofBelow (S := fun _ => False) b01) (fun _ _ x => x)) (ofBelow (S := fun _ => False) b12) (fun _ _ x => x)) on (fun k e => by have := (own_lt H.out.l e).2; omega)) (fun _ e => .inl e)
  exact bodyPost_ret (v := .tuple #[.agg #[.pointer (some ⟨sb, 0, none⟩), .pointer (some ⟨p, 0, none⟩), .slice AC C.length cC, .int .i64 cnt, .int .i64 s.first, .int .i64 s.words, .slice AG s.gens.length cG, .slice AT s.taken.length cT, .slice AR s.row.length cR, .slice AL L.length cL], .bool true]) (by simp [results, Try.results36, go_sem, y0, y1, y2, y3, y4, y5, y6, y7, y8, y9]) rfl ⟨n, cnt, vr, _, _, _, _, _, rfl, by omega, by omega, by omega, by omega, F.1, F.2⟩

set_option maxHeartbeats 8000000 in
set_option maxRecDepth 100000 in
theorem do4_ok {B sb p : Nat} {v : Value} {n : Int} {vg vt vr xC xG xT xR vL : Value} {C : List Int} {s : Sl} {L : List Int} {w : World} (h : BothAt B sb p v n vg vt vr xC xG xT xR vL C s L w) (hL : L.length ≤ 1000) (ok : s.Ok) (cnt : Int) (hn : 0 ≤ n ∧ n < 1000000000) (hc : 0 ≤ cnt ∧ cnt < 1000000000) (i : Int) (hi64 : -9223372036854775808 ≤ i ∧ i ≤ 9223372036854775807) (N : Nat) (hN : N ≤ 255) (V raw : Int) (r : Int) (hr : 0 ≤ r ∧ r ≤ 18446744073709551615) (hrr : r = toldV L N) (he0 : cellE s r i = 0) (hin : inR C (cellN s r i) = true) (hcn : 0 ≤ cellN s r i ∧ cellN s r i ≤ 65536) :
    Calls Try.prog 36 #[.agg (bv sb p xC cnt s xG xT xR vL), .agg (dv 4 i N V raw)] w (Did B sb p v vg vt vr n cnt (setAt C (cellN s r i) V) s L w) := by
  have f0 := Fr.start (fun k hk => (h.sl.low k hk).2) (bv sb p xC cnt s xG xT xR vL) (dv 4 i N V raw) z10
  have H := Lib.hid h
  obtain ⟨AC, cC, e1, -⟩ := own_any h.x.c.own
  obtain ⟨AG, cG, e2, -⟩ := own_any h.x.g
  obtain ⟨AT, cT, e3, -⟩ := own_any h.x.t
  obtain ⟨AR, cR, e4, -⟩ := own_any h.x.r
  obtain ⟨AL, cL, e5, -⟩ := own_any h.l
  subst e1 e2 e3 e4 e5
  have ho0 := own_keep h.l (ofBelow (S := fun _ => False) ((((Below.refl w.heap.size w).alloc (Nat.le_refl _) (.cells (bv sb p (.slice AC C.length cC) cnt s (.slice AG s.gens.length cG) (.slice AT s.taken.length cT) (.slice AR s.row.length cR) (.slice AL L.length cL)) 54)).alloc (by simp) (.cells (dv 4 i N V raw) 75)).alloc (by simp <;> omega) (.cells z10 54))) (fun _ _ x => x)
  have TT := told ho0 hL N hN
  obtain ⟨Q, hQ⟩ : ∃ Q, Did B sb p v vg vt vr n cnt (setAt C (cellN s r i) V) s L w = Q := ⟨_, rfl⟩
  rw [hQ]
  have sB : B ≤ w.heap.size := by have := H.out.sl.low sb (.inl rfl); omega
  subst hrr
  generalize toldV L N = tv at *
  clear h ho0
  unfold bv dv z10 at *
  generalize hw1 : (((w.alloc (.cells _ _)).alloc (.cells _ _)).alloc (.cells _ _)) = w1 at *
  have s1 := f0.size
  have f0' : Hid (Below w.heap.size w w1) := Lib.hid (hw1 ▸ ((((Below.refl w.heap.size w).alloc (Nat.le_refl _) _).alloc (by simp) _).alloc (by simp <;> omega) _))
  obtain ⟨⟨d0, d1, d2, d3, d4, d5, d6, d7, d8, d9⟩, -⟩ := cells10 f0.b
  obtain ⟨g0, g1, g2, g3, g4⟩ := cells5 f0.c
  have hlt0 : w.heap.size < w1.heap.size := by omega
  have hlt1 : w.heap.size + 1 < w1.heap.size := by omega
  replace f0 := Lib.hid f0
  replace TT := Lib.hid TT
  replace hw1 := Lib.hid hw1
  have A1 := rcell (H.out.x.below f0'.out) ok cnt tv i hr hi64
  obtain ⟨cn, ecn⟩ : ∃ cn, cellN s tv i = cn := ⟨_, rfl⟩
  rw [ecn] at A1 hin hcn hQ
  rw [he0] at A1
  have eE : errAt C cn = 0 := by unfold errAt; rw [if_pos hin]
  have hh := hit_le C cn
  have eS := fun (w2 : World) (b12 : Below w1.heap.size w1 w2) => RefX.store _ C w2 B ((H.out.x.below f0'.out).below b12).c (Nat.le_trans sB (Nat.le_trans f0'.out.size b12.size)) cnt cn V
  have hcl := cntN_le C cn cnt (by omega)
  replace A1 := Lib.hid A1
  replace hQ := Lib.hid hQ
  replace eE := Lib.hid eE
  replace eS := Lib.hid eS
  clear ok hr he0 ecn hin
  go_enter Try.func36, Try.ntmps36
  go_wp2_with fail
  rw [hw1.out]
  refine TT.out.mono ?_
  rintro e w' ⟨rfl, rfl⟩
  clear TT hw1
  go_wp2_with fail
  refine A1.out.mono ?_
  rintro e w2 ⟨rfl, b12⟩
  clear A1
  have f2 := f0.out.below b12
  have s2 := f2.size
  have hlt2 : w.heap.size < w2.heap.size := by omega
  have hlt3 : w.heap.size + 1 < w2.heap.size := by omega
  clear d0 d1 d2 d3 d4 d5 d6 d7 d8 d9 g0 g1 g2 g3 g4
  obtain ⟨⟨d0, d1, d2, d3, d4, d5, d6, d7, d8, d9⟩, fd⟩ := cells10 f2.b
  obtain ⟨g0, g1, g2, g3, g4⟩ := cells5 f2.c
  clear fd
  replace f2 := Lib.hid f2
  have R2 := Lib.hid (eS.out w2 b12)
  replace b12 := Lib.hid b12
  clear eS
  go_wp2_with fail
  refine R2.out.mono ?_
  rintro e w3 ⟨s', he, nx⟩
  generalize RefX.cntN C cn cnt = cnt' at *
  rw [eE.out] at he
  subst he
  obtain ⟨A3, c3, e3, -⟩ := own_any nx.ref.own
  subst e3
  have f3 := f2.out.below nx.bel
  have s3 := f3.size
  have hlt4 : w.heap.size < w3.heap.size := by omega
  have hlt5 : w.heap.size + 1 < w3.heap.size := by omega
  clear d0 d1 d2 d3 d4 d5 d6 d7 d8 d9 g0 g1 g2 g3 g4
  obtain ⟨⟨d0, d1, d2, d3, d4, d5, d6, d7, d8, d9⟩, fd⟩ := cells10 f3.b
  obtain ⟨g0, g1, g2, g3, g4⟩ := cells5 f3.c
  have fd2 := fd 2
  have fd3 := fd 3
  clear R2 fd
  replace nx := Lib.hid nx
  replace f3 := Lib.hid f3
  go_upto_region 23 with fail
  obtain ⟨w5, e5, x5, on5⟩ := putM f3.out.b (.slice A3 (setAt C cn V).length c3) (.int .i64 cnt') (.cells #[.slice A3 (setAt C cn V).length c3, .int .i64 cnt'] 37)
  rw [← e5]
  clear e5
  have f5 := f3.out.putB x5 on5
  have s5 := f5.size
  clear d0 d1 d2 d3 d4 d5 d6 d7 d8 d9 g0 g1 g2 g3 g4
  obtain ⟨⟨d0, d1, d2, d3, d4, d5, d6, d7, d8, d9⟩, fd⟩ := cells10 f5.b
  obtain ⟨g0, g1, g2, g3, g4⟩ := cells5 f5.c
  clear fd fd2 fd3
  have sl3 := (((H.out.sl.below f0'.out).below b12.out).below nx.out.bel)
  have sl5 := sl3.keep on5 (fun k hk e => by have e : k = w.heap.size := e; subst e; exact slab_ty sl3 f3.out.b hk)
  replace f5 := Lib.hid f5
  replace sl3 := Lib.hid sl3
  replace sl5 := Lib.hid sl5
  replace on5 := Lib.hid on5
  clear x5
  go_wp2_with fail
  refine start_ (n := 10) (S := fun w' => w'.cell? ⟨w.heap.size, 0, none⟩ = some (.pointer (some ⟨sb, 0, none⟩)) ∧ w'.cell? ⟨w.heap.size, 1, none⟩ = some (.pointer (some ⟨p, 0, none⟩)) ∧ w'.cell? ⟨w.heap.size, 2, none⟩ = some (.slice A3 (setAt C cn V).length c3) ∧ w'.cell? ⟨w.heap.size, 3, none⟩ = some (.int .i64 cnt') ∧ w'.cell? ⟨w.heap.size, 4, none⟩ = some (.int .i64 s.first) ∧ w'.cell? ⟨w.heap.size, 5, none⟩ = some (.int .i64 s.words) ∧ w'.cell? ⟨w.heap.size, 6, none⟩ = some (.slice AG s.gens.length cG) ∧ w'.cell? ⟨w.heap.size, 7, none⟩ = some (.slice AT s.taken.length cT) ∧ w'.cell? ⟨w.heap.size, 8, none⟩ = some (.slice AR s.row.length cR) ∧ w'.cell? ⟨w.heap.size, 9, none⟩ = some (.slice AL L.length cL) ∧ w'.cell? ⟨w.heap.size + 1, 3, none⟩ = some (.int .u64 V)) (ds := [8]) #[false, false, false, false, false, false, false, false, false, false] (by kernel_rfl) rfl rfl ⟨d0, d1, d2, d3, d4, d5, d6, d7, d8, d9, g3⟩ (fun hHeld => ?_)
  refine pure_ (i := 1) (N := some 123) (v := ?_) (a' := ?_) #[false, true, false, false, false, false, false, false, false, false] rfl rfl (by kernel_rfl) (fun _ _ _ h => h) (Or.inl ⟨by rfl, ?_⟩) ?_ ?_
  rotate_left
  · intro w'
    go_simp
    with_reducible rfl
  rotate_left
  · simp only [Act.put, List.setIfInBounds_toArray, List.set_cons_zero, List.set_cons_succ, i64_w, i32_w]
    rfl
  refine pure_ (i := 3) (N := some 125) (v := ?_) (a' := ?_) #[false, true, false, true, false, false, false, false, false, false] rfl rfl (by kernel_rfl) (fun _ _ _ h => h) (Or.inl ⟨by rfl, ?_⟩) ?_ ?_
  rotate_left
  · intro w'
    go_simp
    with_reducible rfl
  rotate_left
  · simp only [Act.put, List.setIfInBounds_toArray, List.set_cons_zero, List.set_cons_succ, i64_w, i32_w]
    rfl
  refine pure_ (i := 4) (N := some 126) (v := ?_) (a' := ?_) #[false, true, false, true, true, false, false, false, false, false] rfl rfl (by kernel_rfl) (fun _ _ _ h => h) (Or.inl ⟨by rfl, ?_⟩) ?_ ?_
  rotate_left
  · intro w'
    go_simp
    with_reducible rfl
  rotate_left
  · simp only [Act.put, List.setIfInBounds_toArray, List.set_cons_zero, List.set_cons_succ, i64_w, i32_w]
    rfl
  refine take_ (i := 0) (N := some 122) (v := ?_) (a' := ?_) #[true, true, false, true, true, false, false, false, false, false] rfl rfl (by kernel_rfl) (fun _ _ _ h => h) (Or.inl ⟨by rfl, ?_⟩) hHeld ?_ ?_
  rotate_left
  · rintro w' ⟨s0, s1, s2, s3, s4, s5, s6, s7, s8, s9, s10⟩
    go_simp
    with_reducible rfl
  rotate_left
  · simp only [Act.put, List.setIfInBounds_toArray, List.set_cons_zero, List.set_cons_succ, i64_w, i32_w]
    rfl
  refine take_ (i := 2) (N := some 124) (v := ?_) (a' := ?_) #[true, true, true, true, true, false, false, false, false, false] rfl rfl (by kernel_rfl) (fun _ _ _ h => h) (Or.inl ⟨by rfl, ?_⟩) hHeld ?_ ?_
  rotate_left
  · rintro w' ⟨s0, s1, s2, s3, s4, s5, s6, s7, s8, s9, s10⟩
    go_simp
    with_reducible rfl
  rotate_left
  · simp only [Act.put, List.setIfInBounds_toArray, List.set_cons_zero, List.set_cons_succ, i64_w, i32_w]
    rfl
  refine take_ (i := 5) (N := some 127) (v := ?_) (a' := ?_) #[true, true, true, true, true, true, false, false, false, false] rfl rfl (by kernel_rfl) (fun _ _ _ h => h) (Or.inl ⟨by rfl, ?_⟩) hHeld ?_ ?_
  rotate_left
  · rintro w' ⟨s0, s1, s2, s3, s4, s5, s6, s7, s8, s9, s10⟩
    go_simp
    with_reducible rfl
  rotate_left
  · simp only [Act.put, List.setIfInBounds_toArray, List.set_cons_zero, List.set_cons_succ, i64_w, i32_w]
    rfl
  refine one_ (i := 6) (N := some 128) #[true, true, true, true, true, true, true, false, false, false] rfl rfl (by kernel_rfl) (by decide) (fun K hK => ?_)
  refine goes_ Try.func38 (by kernel_rfl) rfl #[.pointer (some ⟨p, 0, none⟩), .int .i64 cn, .int .u64 V] (by rfl) rfl rfl (by simp only [List.map_toArray, List.map_cons, List.map_nil]; rfl) ?_
  with_reducible refine (Mem.store sl5.out.drew.mem cn V (by omega) (by omega)).mono ?_
  rintro e w6 ⟨he6, m6, o6⟩
  rw [eE.out] at he6
  subst he6
  have on6 := (Only.mono o6 (fun _ _ e => (.inr (.inl e) : SlF sb p v vg vt vr _)))
  have f6 := (f5.out.below (below_drew (Below.refl _ _))).step on6
  obtain ⟨⟨k0, k1, k2, k3, k4, k5, k6, k7, k8, k9⟩, -⟩ := cells10 f6.b
  obtain ⟨-, -, -, kg, -⟩ := cells5 f6.c
  obtain ⟨⟨z0, z1, z2, z3, z4, z5, z6, z7, z8, z9⟩, fz⟩ := cells10 f6.z
  have h0 := fz 0
  have h1 := fz 1
  have h2 := fz 2
  have h3 := fz 3
  have h4 := fz 4
  have h5 := fz 5
  have h6 := fz 6
  have h7 := fz 7
  have h8 := fz 8
  have h9 := fz 9
  have s6 := f6.size
  have hlt6 : w.heap.size + 1 + 1 < w6.heap.size := by omega
  clear fz
  replace m6 := Lib.hid m6
  replace o6 := Lib.hid o6
  replace on6 := Lib.hid on6
  replace f6 := Lib.hid f6
  refine ⟨_, rfl, ?_⟩
  refine hK.out _ _ ⟨k0, k1, k2, k3, k4, k5, k6, k7, k8, k9, kg⟩ (fun hHeld => ?_)
  clear hK K
  refine norm_ (a' := ?_) ?_ ?_
  rotate_left
  · show Act.put _ (some 128) _ = _
    simp only [Act.put, List.setIfInBounds_toArray, List.set_cons_zero, List.set_cons_succ, i64_w, i32_w]
    rfl
  refine pure_ (i := 7) (N := some 129) (v := ?_) (a' := ?_) #[true, true, true, true, true, true, true, true, false, false] rfl rfl (by kernel_rfl) (fun _ _ _ h => h) (Or.inl ⟨by rfl, ?_⟩) ?_ ?_
  rotate_left
  · intro w'
    go_simp
    with_reducible rfl
  rotate_left
  · simp only [Act.put, List.setIfInBounds_toArray, List.set_cons_zero, List.set_cons_succ, i64_w, i32_w]
    rfl
  refine last_ (i := 8) (N := none) #[true, true, true, true, true, true, true, true, true, false] rfl rfl (by kernel_rfl) (by decide) (fun K hK => ?_)
  refine skip_ (w1 := ?_) (by rfl) rfl ?_ ?_
  rotate_left
  · go_simp
    rfl
  refine hK.out _ _ ?_
  clear hK K
  refine pure_ (i := 9) (N := some 5) (v := ?_) (a' := ?_) #[true, true, true, true, true, true, true, true, true, true] rfl rfl (by kernel_rfl) (fun _ _ _ h => h) (Or.inl ⟨by rfl, ?_⟩) ?_ ?_
  rotate_left
  · intro w'
    go_simp
    with_reducible rfl
  rotate_left
  · simp only [Act.put, List.setIfInBounds_toArray, List.set_cons_zero, List.set_cons_succ, i64_w, i32_w]
    rfl
  refine done_ (by kernel_rfl) ?_
  obtain ⟨w9, e9, ⟨y0, y1, y2, y3, y4, y5, y6, y7, y8, y9⟩, -, on9⟩ := end10 f6.out.z (Below.refl 0 w6) (Nat.zero_le _) (.pointer (some ⟨sb, 0, none⟩)) (.pointer (some ⟨p, 0, none⟩)) (.slice A3 (setAt C cn V).length c3) (.int .i64 cnt') (.int .i64 s.first) (.int .i64 s.words) (.slice AG s.gens.length cG) (.slice AT s.taken.length cT) (.slice AR s.row.length cR) (.slice AL L.length cL)
  replace on9 := Lib.hid on9
  replace e9 := Lib.hid e9
  clear k0 k1 k2 k3 k4 k5 k6 k7 k8 k9 kg hHeld
  go_wp2
  rw [← e9.out, ← hQ.out]
  have sl6 := SlabAt.setM (sl5.out.drew) m6.out o6.out
  have far : ∀ k, OwnX (.slice A3 (setAt C cn V).length c3) (.slice AG s.gens.length cG) (.slice AT s.taken.length cT) (.slice AR s.row.length cR) k → OwnX (.slice AC C.length cC) (.slice AG s.gens.length cG) (.slice AT s.taken.length cT) (.slice AR s.row.length cR) k ∨ w.heap.size ≤ k := by
    rintro k (e | e)
    · rcases nx.out.new with q | q
      · exact .inl (.inl (q ▸ e))
      · exact .inr (by have := q k e; omega)
    · exact .inl (.inr e)
  have rs1 := (H.out.x.below f0'.out).below b12.out
  have rs2 := rs1.below nx.out.bel
  have rs3 : RefSl B (.slice A3 (setAt C cn V).length c3) (.slice AG s.gens.length cG) (.slice AT s.taken.length cT) (.slice AR s.row.length cR) (setAt C cn V) s w3 := ⟨nx.out.ref, rs2.g, rs2.t, rs2.r, rs2.rn⟩
  have rs5 := (rs3.keep on5.out (fun k hk e => by have e : k = w.heap.size := e; subst e; exact ref_ty rs3 f3.out.b hk)).below (below_drew (Below.refl _ w5))
  have low0 := H.out.sl.low
  have rs6 := rs5.keep on6.out (fun k hk e => by
    rcases far k hk with q | q
    · obtain ⟨q1, q2, q3, q4, -⟩ := H.out.far k e
      rcases q with q | q | q | q
      · exact q1 q
      · exact q2 q
      · exact q3 q
      · exact q4 q
    · have := (low0 k e).2; omega)
  have on : Only (fun k => k = w.heap.size ∨ k = w.heap.size + 1 + 1) w6 w9 := on9.out.mono (fun _ _ e => .inr e)
  have L1 := own_keep H.out.l f6.out.on (fun k hk e => (H.out.far k e).2.2.2.2 hk)
  have L9 := own_keep L1 on (fun k e => by have := (own_lt H.out.l e).2; omega)
  have F := fin2 H.out sl6 f6.out.on rs6 far f6.out.b f6.out.z on L9 (fun _ e => .inl e)
  exact bodyPost_ret (v := .tuple #[.agg #[.pointer (some ⟨sb, 0, none⟩), .pointer (some ⟨p, 0, none⟩), .slice A3 (setAt C cn V).length c3, .int .i64 cnt', .int .i64 s.first, .int .i64 s.words, .slice AG s.gens.length cG, .slice AT s.taken.length cT, .slice AR s.row.length cR, .slice AL L.length cL], .bool true]) (by simp [results, Try.results36, go_sem, y0, y1, y2, y3, y4, y5, y6, y7, y8, y9]) rfl ⟨_, cnt', vr, _, _, _, _, _, rfl, by omega, by omega, by omega, by omega, F.1, F.2⟩

end Go.Proofs.Ytllibgjajlgnbaa.SlabDo
