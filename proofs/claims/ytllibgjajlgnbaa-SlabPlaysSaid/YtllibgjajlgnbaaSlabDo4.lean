/- The laws' do: Free. Laid by gendo.py. -/
import Derived.Test.YtllibgjajlgnbaaSlabDo3
namespace Go.Proofs.Ytllibgjajlgnbaa.SlabDo
open Go Go.RowKit Go.Proofs.Ytllibgjajlgnbaa.Only Go.Proofs.Ytllibgjajlgnbaa.Mem Go.Proofs.Ytllibgjajlgnbaa.New Go.Proofs.Ytllibgjajlgnbaa.Ref Go.Proofs.Ytllibgjajlgnbaa.Slab Go.Proofs.Ytllibgjajlgnbaa.SlabRef
set_option linter.unusedVariables false
set_option linter.unusedSimpArgs false

set_option maxHeartbeats 8000000 in
set_option maxRecDepth 100000 in
theorem do2_no {B sb p : Nat} {v : Value} {n : Int} {vg vt vr xC xG xT xR vL : Value} {C : List Int} {s : Sl} {L : List Int} {w : World} (h : BothAt B sb p v n vg vt vr xC xG xT xR vL C s L w) (hL : L.length ≤ 1000) (ok : s.Ok) (cnt : Int)  (i : Int) (hi64 : -9223372036854775808 ≤ i ∧ i ≤ 9223372036854775807) (N : Nat) (hN : N ≤ 255) (V raw : Int) (r : Int) (hr : 0 ≤ r ∧ r ≤ 18446744073709551615) (hrr : r = toldV L N) (hno : thereB s r = false) :
    Calls Try.prog 36 #[.agg (bv sb p xC cnt s xG xT xR vL), .agg (dv 2 i N V raw)] w (Did B sb p v vg vt vr n cnt C s L w) := by
  have f0 := Fr.start (fun k hk => (h.sl.low k hk).2) (bv sb p xC cnt s xG xT xR vL) (dv 2 i N V raw) z10
  have H := Lib.hid h
  obtain ⟨AC, cC, e1, -⟩ := own_any h.x.c.own
  obtain ⟨AG, cG, e2, -⟩ := own_any h.x.g
  obtain ⟨AT, cT, e3, -⟩ := own_any h.x.t
  obtain ⟨AR, cR, e4, -⟩ := own_any h.x.r
  obtain ⟨AL, cL, e5, -⟩ := own_any h.l
  subst e1 e2 e3 e4 e5
  have ho0 := own_keep h.l (ofBelow (S := fun _ => False) ((((Below.refl w.heap.size w).alloc (Nat.le_refl _) (.cells (bv sb p (.slice AC C.length cC) cnt s (.slice AG s.gens.length cG) (.slice AT s.taken.length cT) (.slice AR s.row.length cR) (.slice AL L.length cL)) 54)).alloc (by simp) (.cells (dv 2 i N V raw) 75)).alloc (by simp <;> omega) (.cells z10 54))) (fun _ _ x => x)
  have TT := told ho0 hL N hN
  obtain ⟨Q, hQ⟩ : ∃ Q, Did B sb p v vg vt vr n cnt C s L w = Q := ⟨_, rfl⟩
  rw [hQ]
  have sB : B ≤ w.heap.size := by have := H.out.sl.low sb (.inl rfl); omega
  subst hrr
  generalize toldV L N = tv at *
  clear h ho0
  unfold bv dv z10 at *
  generalize hw1 : (((w.alloc (.cells _ _)).alloc (.cells _ _)).alloc (.cells _ _)) = w1 at *
  have s1 := f0.size
  have f0' : Hid (Below w.heap.size w w1) := Lib.hid (hw1 ▸ ((((Below.refl w.heap.size w).alloc (Nat.le_refl _) _).alloc (by simp) _).alloc (by simp <;> omega) _))
  obtain ⟨⟨d0, d1, d2, d3, d4, d5, d6, d7, d8, d9⟩, -⟩ := cells10 f0.b
  obtain ⟨g0, g1, g2, g3, g4⟩ := cells5 f0.c
  have hlt0 : w.heap.size < w1.heap.size := by omega
  have hlt1 : w.heap.size + 1 < w1.heap.size := by omega
  replace f0 := Lib.hid f0
  replace TT := Lib.hid TT
  replace hw1 := Lib.hid hw1
  have A1 := free_no (H.out.sl.below f0'.out) ok tv hr hno
  have A2 := fun (w2 : World) (b12 : Below w1.heap.size w1 w2) => rfree_no ((H.out.x.below f0'.out).below b12) ok cnt tv hr hno
  replace A1 := Lib.hid A1
  replace A2 := Lib.hid A2
  replace hQ := Lib.hid hQ
  clear ok hr hno
  go_enter Try.func36, Try.ntmps36
  go_wp2_with fail
  rw [hw1.out]
  refine TT.out.mono ?_
  rintro e w' ⟨rfl, rfl⟩
  clear TT hw1
  go_wp2_with fail
  refine A1.out.mono ?_
  rintro e w2 ⟨rfl, b12⟩
  clear A1
  have f2 := f0.out.below b12
  have s2 := f2.size
  have hlt2 : w.heap.size < w2.heap.size := by omega
  have hlt3 : w.heap.size + 1 < w2.heap.size := by omega
  clear d0 d1 d2 d3 d4 d5 d6 d7 d8 d9 g0 g1 g2 g3 g4
  obtain ⟨⟨d0, d1, d2, d3, d4, d5, d6, d7, d8, d9⟩, fd⟩ := cells10 f2.b
  obtain ⟨g0, g1, g2, g3, g4⟩ := cells5 f2.c
  clear fd
  replace f2 := Lib.hid f2
  have R2 := Lib.hid (A2.out w2 b12)
  replace b12 := Lib.hid b12
  clear A2
  go_wp2_with fail
  refine R2.out.mono ?_
  rintro e w3 ⟨rfl, b23⟩
  have f3 := f2.out.below b23
  have s3 := f3.size
  have hlt4 : w.heap.size < w3.heap.size := by omega
  clear d0 d1 d2 d3 d4 d5 d6 d7 d8 d9
  obtain ⟨⟨d0, d1, d2, d3, d4, d5, d6, d7, d8, d9⟩, fd⟩ := cells10 f3.b
  have fd2 := fd 2
  have fd3 := fd 3
  have fd4 := fd 4
  have fd5 := fd 5
  have fd6 := fd 6
  have fd7 := fd 7
  have fd8 := fd 8
  clear fd
  clear R2 g0 g1 g2 g3 g4
  replace b23 := Lib.hid b23
  replace f3 := Lib.hid f3
  unfold xv
  go_upto_region 17 with fail
  obtain ⟨w5, e5, x5, on5⟩ := putX f3.out.b (.slice AC C.length cC) (.int .i64 cnt) (.int .i64 s.first) (.int .i64 s.words) (.slice AG s.gens.length cG) (.slice AT s.taken.length cT) (.slice AR s.row.length cR) (.cells #[.slice AC C.length cC, .int .i64 cnt, .int .i64 s.first, .int .i64 s.words, .slice AG s.gens.length cG, .slice AT s.taken.length cT, .slice AR s.row.length cR] 52)
  rw [← e5]
  clear e5
  have f5 := f3.out.putB x5 on5
  replace on5 := Lib.hid on5
  clear x5
  have s5 := f5.size
  have hlt5 : w.heap.size < w5.heap.size := by omega
  have hlt6 : w.heap.size + 1 + 1 < w5.heap.size := by omega
  clear d0 d1 d2 d3 d4 d5 d6 d7 d8 d9 fd2 fd3 fd4 fd5 fd6 fd7 fd8
  obtain ⟨⟨d0, d1, d2, d3, d4, d5, d6, d7, d8, d9⟩, -⟩ := cells10 f5.b
  obtain ⟨⟨z0, z1, z2, z3, z4, z5, z6, z7, z8, z9⟩, fz⟩ := cells10 f5.z
  have h0 := fz 0
  have h1 := fz 1
  have h2 := fz 2
  have h3 := fz 3
  have h4 := fz 4
  have h5 := fz 5
  have h6 := fz 6
  have h7 := fz 7
  have h8 := fz 8
  have h9 := fz 9
  clear fz
  obtain ⟨w9, e9, ⟨y0, y1, y2, y3, y4, y5, y6, y7, y8, y9⟩, -, on9⟩ := end10 f5.z (Below.refl 0 w5) (Nat.zero_le _) (.pointer (some ⟨sb, 0, none⟩)) (.pointer (some ⟨p, 0, none⟩)) (.slice AC C.length cC) (.int .i64 cnt) (.int .i64 s.first) (.int .i64 s.words) (.slice AG s.gens.length cG) (.slice AT s.taken.length cT) (.slice AR s.row.length cR) (.slice AL L.length cL)
  replace f5 := Lib.hid f5
  replace on9 := Lib.hid on9
  replace e9 := Lib.hid e9
  go_wp2
  rw [← e9.out, ← hQ.out]
  have on : Only (fun k => k = w.heap.size ∨ k = w.heap.size + 1 + 1) w3 w9 := (on5.out.mono (fun _ _ e => .inl e)).trans (on9.out.mono (fun _ _ e => .inr e)) (fun _ _ e => e)
  have b01 : Below w.heap.size w w2 := f0'.out.trans (b12.out.mono f0'.out.size)
  have F := fin H.out (H.out.sl.below b01) (ofBelow b01) (fun _ e => .inl e) ((H.out.x.below b01).below b23.out) (fun _ e => .inl e) b23.out f2.out.b f2.out.z on (own_keep (own_keep (own_keep H.out.l (ofBelow (S := fun _ => False) b01) (fun _ _ x => x)) (ofBelow (S := fun _ => False) b23.out) (fun _ _ x => x)) on (fun k e => by have := (own_lt H.out.l e).2; omega)) (fun _ e => .inl e)
  exact bodyPost_ret (v := .tuple #[.agg #[.pointer (some ⟨sb, 0, none⟩), .pointer (some ⟨p, 0, none⟩), .slice AC C.length cC, .int .i64 cnt, .int .i64 s.first, .int .i64 s.words, .slice AG s.gens.length cG, .slice AT s.taken.length cT, .slice AR s.row.length cR, .slice AL L.length cL], .bool true]) (by simp [results, Try.results36, go_sem, y0, y1, y2, y3, y4, y5, y6, y7, y8, y9]) rfl ⟨n, cnt, vr, _, _, _, _, _, rfl, by omega, by omega, by omega, by omega, F.1, F.2⟩

set_option maxHeartbeats 8000000 in
set_option maxRecDepth 100000 in
theorem do2_ok {B sb p : Nat} {v : Value} {n : Int} {vg vt vr xC xG xT xR vL : Value} {C : List Int} {s : Sl} {L : List Int} {w : World} (h : BothAt B sb p v n vg vt vr xC xG xT xR vL C s L w) (hL : L.length ≤ 1000) (ok : s.Ok) (cnt : Int)  (i : Int) (hi64 : -9223372036854775808 ≤ i ∧ i ≤ 9223372036854775807) (N : Nat) (hN : N ≤ 255) (V raw : Int) (r : Int) (hr : 0 ≤ r ∧ r ≤ 18446744073709551615) (hrr : r = toldV L N) (hyes : thereB s r = true) :
    Calls Try.prog 36 #[.agg (bv sb p xC cnt s xG xT xR vL), .agg (dv 2 i N V raw)] w (Did B sb p v vg vt vr n cnt C (freeS s r) L w) := by
  have f0 := Fr.start (fun k hk => (h.sl.low k hk).2) (bv sb p xC cnt s xG xT xR vL) (dv 2 i N V raw) z10
  have H := Lib.hid h
  obtain ⟨AC, cC, e1, -⟩ := own_any h.x.c.own
  obtain ⟨AG, cG, e2, -⟩ := own_any h.x.g
  obtain ⟨AT, cT, e3, -⟩ := own_any h.x.t
  obtain ⟨AR, cR, e4, -⟩ := own_any h.x.r
  obtain ⟨AL, cL, e5, -⟩ := own_any h.l
  subst e1 e2 e3 e4 e5
  have ho0 := own_keep h.l (ofBelow (S := fun _ => False) ((((Below.refl w.heap.size w).alloc (Nat.le_refl _) (.cells (bv sb p (.slice AC C.length cC) cnt s (.slice AG s.gens.length cG) (.slice AT s.taken.length cT) (.slice AR s.row.length cR) (.slice AL L.length cL)) 54)).alloc (by simp) (.cells (dv 2 i N V raw) 75)).alloc (by simp <;> omega) (.cells z10 54))) (fun _ _ x => x)
  have TT := told ho0 hL N hN
  obtain ⟨Q, hQ⟩ : ∃ Q, Did B sb p v vg vt vr n cnt C (freeS s r) L w = Q := ⟨_, rfl⟩
  rw [hQ]
  have sB : B ≤ w.heap.size := by have := H.out.sl.low sb (.inl rfl); omega
  subst hrr
  generalize toldV L N = tv at *
  clear h ho0
  unfold bv dv z10 at *
  generalize hw1 : (((w.alloc (.cells _ _)).alloc (.cells _ _)).alloc (.cells _ _)) = w1 at *
  have s1 := f0.size
  have f0' : Hid (Below w.heap.size w w1) := Lib.hid (hw1 ▸ ((((Below.refl w.heap.size w).alloc (Nat.le_refl _) _).alloc (by simp) _).alloc (by simp <;> omega) _))
  obtain ⟨⟨d0, d1, d2, d3, d4, d5, d6, d7, d8, d9⟩, -⟩ := cells10 f0.b
  obtain ⟨g0, g1, g2, g3, g4⟩ := cells5 f0.c
  have hlt0 : w.heap.size < w1.heap.size := by omega
  have hlt1 : w.heap.size + 1 < w1.heap.size := by omega
  replace f0 := Lib.hid f0
  replace TT := Lib.hid TT
  replace hw1 := Lib.hid hw1
  have A1 := free (H.out.sl.below f0'.out) (Nat.le_trans sB f0'.out.size) ok tv hr hyes
  have A2 := fun (w2 : World) (on2 : Only (SlF sb p v vg vt vr) w1 w2) => rfree ((H.out.x.below f0'.out).keep on2 (fun k hk e => by
    obtain ⟨q1, q2, q3, q4, -⟩ := H.out.far k e
    rcases hk with hk | hk | hk | hk
    · exact q1 hk
    · exact q2 hk
    · exact q3 hk
    · exact q4 hk)) (Nat.le_trans sB (Nat.le_trans f0'.out.size on2.size)) ok cnt tv hr hyes
  obtain ⟨S2, hS2⟩ : ∃ S2, freeS s tv = S2 := ⟨_, rfl⟩
  rw [hS2] at hQ
  replace hS2 := Lib.hid hS2
  replace A1 := Lib.hid A1
  replace A2 := Lib.hid A2
  replace hQ := Lib.hid hQ
  clear ok hr hyes
  go_enter Try.func36, Try.ntmps36
  go_wp2_with fail
  rw [hw1.out]
  refine TT.out.mono ?_
  rintro e w' ⟨rfl, rfl⟩
  clear TT hw1
  go_wp2_with fail
  refine A1.out.mono ?_
  rintro e w2 ⟨rfl, vr', sl2, on2, hvr⟩
  rw [hS2.out] at sl2
  clear A1
  have f2 := f0.out.step on2
  have s2 := f2.size
  have hlt2 : w.heap.size < w2.heap.size := by omega
  have hlt3 : w.heap.size + 1 < w2.heap.size := by omega
  clear d0 d1 d2 d3 d4 d5 d6 d7 d8 d9 g0 g1 g2 g3 g4
  obtain ⟨⟨d0, d1, d2, d3, d4, d5, d6, d7, d8, d9⟩, fd⟩ := cells10 f2.b
  obtain ⟨g0, g1, g2, g3, g4⟩ := cells5 f2.c
  clear fd
  replace f2 := Lib.hid f2
  have R2 := Lib.hid (A2.out w2 on2)
  replace on2 := Lib.hid on2
  replace sl2 := Lib.hid sl2
  replace hvr := Lib.hid hvr
  clear A2
  go_wp2_with fail
  refine R2.out.mono ?_
  rintro e w3 ⟨xC', xG', xT', xR', he, rs, b23, fr⟩
  rw [hS2.out] at he rs
  subst he
  obtain ⟨BC, bC, e1, -⟩ := own_any rs.c.own
  obtain ⟨BG, bG, e2, -⟩ := own_any rs.g
  obtain ⟨BT, bT, e3, -⟩ := own_any rs.t
  obtain ⟨BR, bR, e4, -⟩ := own_any rs.r
  subst e1 e2 e3 e4
  have f3 := f2.out.below b23
  have s3 := f3.size
  have hlt4 : w.heap.size < w3.heap.size := by omega
  clear d0 d1 d2 d3 d4 d5 d6 d7 d8 d9
  obtain ⟨⟨d0, d1, d2, d3, d4, d5, d6, d7, d8, d9⟩, fd⟩ := cells10 f3.b
  have fd2 := fd 2
  have fd3 := fd 3
  have fd4 := fd 4
  have fd5 := fd 5
  have fd6 := fd 6
  have fd7 := fd 7
  have fd8 := fd 8
  clear fd
  clear R2 g0 g1 g2 g3 g4
  replace rs := Lib.hid rs
  replace b23 := Lib.hid b23
  replace f3 := Lib.hid f3
  replace fr := Lib.hid fr
  unfold xv
  go_upto_region 17 with fail
  obtain ⟨w5, e5, x5, on5⟩ := putX f3.out.b (.slice BC C.length bC) (.int .i64 cnt) (.int .i64 S2.first) (.int .i64 S2.words) (.slice BG S2.gens.length bG) (.slice BT S2.taken.length bT) (.slice BR S2.row.length bR) (.cells #[.slice BC C.length bC, .int .i64 cnt, .int .i64 S2.first, .int .i64 S2.words, .slice BG S2.gens.length bG, .slice BT S2.taken.length bT, .slice BR S2.row.length bR] 52)
  rw [← e5]
  clear e5
  have f5 := f3.out.putB x5 on5
  replace on5 := Lib.hid on5
  clear x5
  have s5 := f5.size
  have hlt5 : w.heap.size < w5.heap.size := by omega
  have hlt6 : w.heap.size + 1 + 1 < w5.heap.size := by omega
  clear d0 d1 d2 d3 d4 d5 d6 d7 d8 d9 fd2 fd3 fd4 fd5 fd6 fd7 fd8
  obtain ⟨⟨d0, d1, d2, d3, d4, d5, d6, d7, d8, d9⟩, -⟩ := cells10 f5.b
  obtain ⟨⟨z0, z1, z2, z3, z4, z5, z6, z7, z8, z9⟩, fz⟩ := cells10 f5.z
  have h0 := fz 0
  have h1 := fz 1
  have h2 := fz 2
  have h3 := fz 3
  have h4 := fz 4
  have h5 := fz 5
  have h6 := fz 6
  have h7 := fz 7
  have h8 := fz 8
  have h9 := fz 9
  clear fz
  obtain ⟨w9, e9, ⟨y0, y1, y2, y3, y4, y5, y6, y7, y8, y9⟩, -, on9⟩ := end10 f5.z (Below.refl 0 w5) (Nat.zero_le _) (.pointer (some ⟨sb, 0, none⟩)) (.pointer (some ⟨p, 0, none⟩)) (.slice BC C.length bC) (.int .i64 cnt) (.int .i64 S2.first) (.int .i64 S2.words) (.slice BG S2.gens.length bG) (.slice BT S2.taken.length bT) (.slice BR S2.row.length bR) (.slice AL L.length cL)
  replace f5 := Lib.hid f5
  replace on9 := Lib.hid on9
  replace e9 := Lib.hid e9
  go_wp2
  rw [← e9.out, ← hQ.out]
  have on : Only (fun k => k = w.heap.size ∨ k = w.heap.size + 1 + 1) w3 w9 := (on5.out.mono (fun _ _ e => .inl e)).trans (on9.out.mono (fun _ _ e => .inr e)) (fun _ _ e => e)
  have L1 := own_keep H.out.l (ofBelow (S := fun _ => False) f0'.out) (fun _ _ x => x)
  have L2 := own_keep L1 on2.out (fun k hk e => (H.out.far k e).2.2.2.2 hk)
  have L3 := own_keep L2 (ofBelow (S := fun _ => False) b23.out) (fun _ _ x => x)
  have L9 := own_keep L3 on (fun k e => by have := (own_lt H.out.l e).2; omega)
  have F := fin H.out sl2.out ((ofBelow (S := SlF sb p v vg vt vr) f0'.out).trans on2.out (fun _ _ e => e)) (fun k e => by
    rcases hvr.out with q | q
    · exact .inl (q ▸ e)
    · exact .inr (by have := q k e; omega)) rs.out fr.out b23.out f2.out.b f2.out.z on L9 (fun _ e => .inl e)
  exact bodyPost_ret (v := .tuple #[.agg #[.pointer (some ⟨sb, 0, none⟩), .pointer (some ⟨p, 0, none⟩), .slice BC C.length bC, .int .i64 cnt, .int .i64 S2.first, .int .i64 S2.words, .slice BG S2.gens.length bG, .slice BT S2.taken.length bT, .slice BR S2.row.length bR, .slice AL L.length cL], .bool true]) (by simp [results, Try.results36, go_sem, y0, y1, y2, y3, y4, y5, y6, y7, y8, y9]) rfl ⟨n, cnt, vr', _, _, _, _, _, rfl, by omega, by omega, by omega, by omega, F.1, F.2⟩

set_option maxHeartbeats 8000000 in
set_option maxRecDepth 100000 in
theorem do5_no {B sb p : Nat} {v : Value} {n : Int} {vg vt vr xC xG xT xR vL : Value} {C : List Int} {s : Sl} {L : List Int} {w : World} (h : BothAt B sb p v n vg vt vr xC xG xT xR vL C s L w) (hL : L.length ≤ 1000) (ok : s.Ok) (cnt : Int)  (i : Int) (hi64 : -9223372036854775808 ≤ i ∧ i ≤ 9223372036854775807) (N : Nat) (hN : N ≤ 255) (V raw : Int) (r : Int) (hr : 0 ≤ r ∧ r ≤ 18446744073709551615) (hrr : r = raw) (hno : thereB s r = false) :
    Calls Try.prog 36 #[.agg (bv sb p xC cnt s xG xT xR vL), .agg (dv 5 i N V raw)] w (Did B sb p v vg vt vr n cnt C s L w) := by
  have f0 := Fr.start (fun k hk => (h.sl.low k hk).2) (bv sb p xC cnt s xG xT xR vL) (dv 5 i N V raw) z10
  have H := Lib.hid h
  obtain ⟨AC, cC, e1, -⟩ := own_any h.x.c.own
  obtain ⟨AG, cG, e2, -⟩ := own_any h.x.g
  obtain ⟨AT, cT, e3, -⟩ := own_any h.x.t
  obtain ⟨AR, cR, e4, -⟩ := own_any h.x.r
  obtain ⟨AL, cL, e5, -⟩ := own_any h.l
  subst e1 e2 e3 e4 e5
  have ho0 := own_keep h.l (ofBelow (S := fun _ => False) ((((Below.refl w.heap.size w).alloc (Nat.le_refl _) (.cells (bv sb p (.slice AC C.length cC) cnt s (.slice AG s.gens.length cG) (.slice AT s.taken.length cT) (.slice AR s.row.length cR) (.slice AL L.length cL)) 54)).alloc (by simp) (.cells (dv 5 i N V raw) 75)).alloc (by simp <;> omega) (.cells z10 54))) (fun _ _ x => x)
  have TT := told ho0 hL N hN
  obtain ⟨Q, hQ⟩ : ∃ Q, Did B sb p v vg vt vr n cnt C s L w = Q := ⟨_, rfl⟩
  rw [hQ]
  have sB : B ≤ w.heap.size := by have := H.out.sl.low sb (.inl rfl); omega
  subst hrr
  generalize toldV L N = tv at *
  clear h ho0
  unfold bv dv z10 at *
  generalize hw1 : (((w.alloc (.cells _ _)).alloc (.cells _ _)).alloc (.cells _ _)) = w1 at *
  have s1 := f0.size
  have f0' : Hid (Below w.heap.size w w1) := Lib.hid (hw1 ▸ ((((Below.refl w.heap.size w).alloc (Nat.le_refl _) _).alloc (by simp) _).alloc (by simp <;> omega) _))
  obtain ⟨⟨d0, d1, d2, d3, d4, d5, d6, d7, d8, d9⟩, -⟩ := cells10 f0.b
  obtain ⟨g0, g1, g2, g3, g4⟩ := cells5 f0.c
  have hlt0 : w.heap.size < w1.heap.size := by omega
  have hlt1 : w.heap.size + 1 < w1.heap.size := by omega
  replace f0 := Lib.hid f0
  replace TT := Lib.hid TT
  replace hw1 := Lib.hid hw1
  have A1 := free_no (H.out.sl.below f0'.out) ok r hr hno
  have A2 := fun (w2 : World) (b12 : Below w1.heap.size w1 w2) => rfree_no ((H.out.x.below f0'.out).below b12) ok cnt r hr hno
  replace A1 := Lib.hid A1
  replace A2 := Lib.hid A2
  replace hQ := Lib.hid hQ
  clear ok hr hno
  go_enter Try.func36, Try.ntmps36
  go_wp2_with fail
  rw [hw1.out]
  refine TT.out.mono ?_
  rintro e w' ⟨rfl, rfl⟩
  clear TT hw1
  go_wp2_with fail
  refine A1.out.mono ?_
  rintro e w2 ⟨rfl, b12⟩
  clear A1
  have f2 := f0.out.below b12
  have s2 := f2.size
  have hlt2 : w.heap.size < w2.heap.size := by omega
  have hlt3 : w.heap.size + 1 < w2.heap.size := by omega
  clear d0 d1 d2 d3 d4 d5 d6 d7 d8 d9 g0 g1 g2 g3 g4
  obtain ⟨⟨d0, d1, d2, d3, d4, d5, d6, d7, d8, d9⟩, fd⟩ := cells10 f2.b
  obtain ⟨g0, g1, g2, g3, g4⟩ := cells5 f2.c
  clear fd
  replace f2 := Lib.hid f2
  have R2 := Lib.hid (A2.out w2 b12)
  replace b12 := Lib.hid b12
  clear A2
  go_wp2_with fail
  refine R2.out.mono ?_
  rintro e w3 ⟨rfl, b23⟩
  have f3 := f2.out.below b23
  have s3 := f3.size
  have hlt4 : w.heap.size < w3.heap.size := by omega
  clear d0 d1 d2 d3 d4 d5 d6 d7 d8 d9
  obtain ⟨⟨d0, d1, d2, d3, d4, d5, d6, d7, d8, d9⟩, fd⟩ := cells10 f3.b
  have fd2 := fd 2
  have fd3 := fd 3
  have fd4 := fd 4
  have fd5 := fd 5
  have fd6 := fd 6
  have fd7 := fd 7
  have fd8 := fd 8
  clear fd
  clear R2 g0 g1 g2 g3 g4
  replace b23 := Lib.hid b23
  replace f3 := Lib.hid f3
  unfold xv
  go_upto_region 17 with fail
  obtain ⟨w5, e5, x5, on5⟩ := putX f3.out.b (.slice AC C.length cC) (.int .i64 cnt) (.int .i64 s.first) (.int .i64 s.words) (.slice AG s.gens.length cG) (.slice AT s.taken.length cT) (.slice AR s.row.length cR) (.cells #[.slice AC C.length cC, .int .i64 cnt, .int .i64 s.first, .int .i64 s.words, .slice AG s.gens.length cG, .slice AT s.taken.length cT, .slice AR s.row.length cR] 52)
  rw [← e5]
  clear e5
  have f5 := f3.out.putB x5 on5
  replace on5 := Lib.hid on5
  clear x5
  have s5 := f5.size
  have hlt5 : w.heap.size < w5.heap.size := by omega
  have hlt6 : w.heap.size + 1 + 1 < w5.heap.size := by omega
  clear d0 d1 d2 d3 d4 d5 d6 d7 d8 d9 fd2 fd3 fd4 fd5 fd6 fd7 fd8
  obtain ⟨⟨d0, d1, d2, d3, d4, d5, d6, d7, d8, d9⟩, -⟩ := cells10 f5.b
  obtain ⟨⟨z0, z1, z2, z3, z4, z5, z6, z7, z8, z9⟩, fz⟩ := cells10 f5.z
  have h0 := fz 0
  have h1 := fz 1
  have h2 := fz 2
  have h3 := fz 3
  have h4 := fz 4
  have h5 := fz 5
  have h6 := fz 6
  have h7 := fz 7
  have h8 := fz 8
  have h9 := fz 9
  clear fz
  obtain ⟨w9, e9, ⟨y0, y1, y2, y3, y4, y5, y6, y7, y8, y9⟩, -, on9⟩ := end10 f5.z (Below.refl 0 w5) (Nat.zero_le _) (.pointer (some ⟨sb, 0, none⟩)) (.pointer (some ⟨p, 0, none⟩)) (.slice AC C.length cC) (.int .i64 cnt) (.int .i64 s.first) (.int .i64 s.words) (.slice AG s.gens.length cG) (.slice AT s.taken.length cT) (.slice AR s.row.length cR) (.slice AL L.length cL)
  replace f5 := Lib.hid f5
  replace on9 := Lib.hid on9
  replace e9 := Lib.hid e9
  go_wp2
  rw [← e9.out, ← hQ.out]
  have on : Only (fun k => k = w.heap.size ∨ k = w.heap.size + 1 + 1) w3 w9 := (on5.out.mono (fun _ _ e => .inl e)).trans (on9.out.mono (fun _ _ e => .inr e)) (fun _ _ e => e)
  have b01 : Below w.heap.size w w2 := f0'.out.trans (b12.out.mono f0'.out.size)
  have F := fin H.out (H.out.sl.below b01) (ofBelow b01) (fun _ e => .inl e) ((H.out.x.below b01).below b23.out) (fun _ e => .inl e) b23.out f2.out.b f2.out.z on (own_keep (own_keep (own_keep H.out.l (ofBelow (S := fun _ => False) b01) (fun _ _ x => x)) (ofBelow (S := fun _ => False) b23.out) (fun _ _ x => x)) on (fun k e => by have := (own_lt H.out.l e).2; omega)) (fun _ e => .inl e)
  exact bodyPost_ret (v := .tuple #[.agg #[.pointer (some ⟨sb, 0, none⟩), .pointer (some ⟨p, 0, none⟩), .slice AC C.length cC, .int .i64 cnt, .int .i64 s.first, .int .i64 s.words, .slice AG s.gens.length cG, .slice AT s.taken.length cT, .slice AR s.row.length cR, .slice AL L.length cL], .bool true]) (by simp [results, Try.results36, go_sem, y0, y1, y2, y3, y4, y5, y6, y7, y8, y9]) rfl ⟨n, cnt, vr, _, _, _, _, _, rfl, by omega, by omega, by omega, by omega, F.1, F.2⟩

set_option maxHeartbeats 8000000 in
set_option maxRecDepth 100000 in
theorem do5_ok {B sb p : Nat} {v : Value} {n : Int} {vg vt vr xC xG xT xR vL : Value} {C : List Int} {s : Sl} {L : List Int} {w : World} (h : BothAt B sb p v n vg vt vr xC xG xT xR vL C s L w) (hL : L.length ≤ 1000) (ok : s.Ok) (cnt : Int)  (i : Int) (hi64 : -9223372036854775808 ≤ i ∧ i ≤ 9223372036854775807) (N : Nat) (hN : N ≤ 255) (V raw : Int) (r : Int) (hr : 0 ≤ r ∧ r ≤ 18446744073709551615) (hrr : r = raw) (hyes : thereB s r = true) :
    Calls Try.prog 36 #[.agg (bv sb p xC cnt s xG xT xR vL), .agg (dv 5 i N V raw)] w (Did B sb p v vg vt vr n cnt C (freeS s r) L w) := by
  have f0 := Fr.start (fun k hk => (h.sl.low k hk).2) (bv sb p xC cnt s xG xT xR vL) (dv 5 i N V raw) z10
  have H := Lib.hid h
  obtain ⟨AC, cC, e1, -⟩ := own_any h.x.c.own
  obtain ⟨AG, cG, e2, -⟩ := own_any h.x.g
  obtain ⟨AT, cT, e3, -⟩ := own_any h.x.t
  obtain ⟨AR, cR, e4, -⟩ := own_any h.x.r
  obtain ⟨AL, cL, e5, -⟩ := own_any h.l
  subst e1 e2 e3 e4 e5
  have ho0 := own_keep h.l (ofBelow (S := fun _ => False) ((((Below.refl w.heap.size w).alloc (Nat.le_refl _) (.cells (bv sb p (.slice AC C.length cC) cnt s (.slice AG s.gens.length cG) (.slice AT s.taken.length cT) (.slice AR s.row.length cR) (.slice AL L.length cL)) 54)).alloc (by simp) (.cells (dv 5 i N V raw) 75)).alloc (by simp <;> omega) (.cells z10 54))) (fun _ _ x => x)
  have TT := told ho0 hL N hN
  obtain ⟨Q, hQ⟩ : ∃ Q, Did B sb p v vg vt vr n cnt C (freeS s r) L w = Q := ⟨_, rfl⟩
  rw [hQ]
  have sB : B ≤ w.heap.size := by have := H.out.sl.low sb (.inl rfl); omega
  subst hrr
  generalize toldV L N = tv at *
  clear h ho0
  unfold bv dv z10 at *
  generalize hw1 : (((w.alloc (.cells _ _)).alloc (.cells _ _)).alloc (.cells _ _)) = w1 at *
  have s1 := f0.size
  have f0' : Hid (Below w.heap.size w w1) := Lib.hid (hw1 ▸ ((((Below.refl w.heap.size w).alloc (Nat.le_refl _) _).alloc (by simp) _).alloc (by simp <;> omega) _))
  obtain ⟨⟨d0, d1, d2, d3, d4, d5, d6, d7, d8, d9⟩, -⟩ := cells10 f0.b
  obtain ⟨g0, g1, g2, g3, g4⟩ := cells5 f0.c
  have hlt0 : w.heap.size < w1.heap.size := by omega
  have hlt1 : w.heap.size + 1 < w1.heap.size := by omega
  replace f0 := Lib.hid f0
  replace TT := Lib.hid TT
  replace hw1 := Lib.hid hw1
  have A1 := free (H.out.sl.below f0'.out) (Nat.le_trans sB f0'.out.size) ok r hr hyes
  have A2 := fun (w2 : World) (on2 : Only (SlF sb p v vg vt vr) w1 w2) => rfree ((H.out.x.below f0'.out).keep on2 (fun k hk e => by
    obtain ⟨q1, q2, q3, q4, -⟩ := H.out.far k e
    rcases hk with hk | hk | hk | hk
    · exact q1 hk
    · exact q2 hk
    · exact q3 hk
    · exact q4 hk)) (Nat.le_trans sB (Nat.le_trans f0'.out.size on2.size)) ok cnt r hr hyes
  obtain ⟨S2, hS2⟩ : ∃ S2, freeS s r = S2 := ⟨_, rfl⟩
  rw [hS2] at hQ
  replace hS2 := Lib.hid hS2
  replace A1 := Lib.hid A1
  replace A2 := Lib.hid A2
  replace hQ := Lib.hid hQ
  clear ok hr hyes
  go_enter Try.func36, Try.ntmps36
  go_wp2_with fail
  rw [hw1.out]
  refine TT.out.mono ?_
  rintro e w' ⟨rfl, rfl⟩
  clear TT hw1
  go_wp2_with fail
  refine A1.out.mono ?_
  rintro e w2 ⟨rfl, vr', sl2, on2, hvr⟩
  rw [hS2.out] at sl2
  clear A1
  have f2 := f0.out.step on2
  have s2 := f2.size
  have hlt2 : w.heap.size < w2.heap.size := by omega
  have hlt3 : w.heap.size + 1 < w2.heap.size := by omega
  clear d0 d1 d2 d3 d4 d5 d6 d7 d8 d9 g0 g1 g2 g3 g4
  obtain ⟨⟨d0, d1, d2, d3, d4, d5, d6, d7, d8, d9⟩, fd⟩ := cells10 f2.b
  obtain ⟨g0, g1, g2, g3, g4⟩ := cells5 f2.c
  clear fd
  replace f2 := Lib.hid f2
  have R2 := Lib.hid (A2.out w2 on2)
  replace on2 := Lib.hid on2
  replace sl2 := Lib.hid sl2
  replace hvr := Lib.hid hvr
  clear A2
  go_wp2_with fail
  refine R2.out.mono ?_
  rintro e w3 ⟨xC', xG', xT', xR', he, rs, b23, fr⟩
  rw [hS2.out] at he rs
  subst he
  obtain ⟨BC, bC, e1, -⟩ := own_any rs.c.own
  obtain ⟨BG, bG, e2, -⟩ := own_any rs.g
  obtain ⟨BT, bT, e3, -⟩ := own_any rs.t
  obtain ⟨BR, bR, e4, -⟩ := own_any rs.r
  subst e1 e2 e3 e4
  have f3 := f2.out.below b23
  have s3 := f3.size
  have hlt4 : w.heap.size < w3.heap.size := by omega
  clear d0 d1 d2 d3 d4 d5 d6 d7 d8 d9
  obtain ⟨⟨d0, d1, d2, d3, d4, d5, d6, d7, d8, d9⟩, fd⟩ := cells10 f3.b
  have fd2 := fd 2
  have fd3 := fd 3
  have fd4 := fd 4
  have fd5 := fd 5
  have fd6 := fd 6
  have fd7 := fd 7
  have fd8 := fd 8
  clear fd
  clear R2 g0 g1 g2 g3 g4
  replace rs := Lib.hid rs
  replace b23 := Lib.hid b23
  replace f3 := Lib.hid f3
  replace fr := Lib.hid fr
  unfold xv
  go_upto_region 17 with fail
  obtain ⟨w5, e5, x5, on5⟩ := putX f3.out.b (.slice BC C.length bC) (.int .i64 cnt) (.int .i64 S2.first) (.int .i64 S2.words) (.slice BG S2.gens.length bG) (.slice BT S2.taken.length bT) (.slice BR S2.row.length bR) (.cells #[.slice BC C.length bC, .int .i64 cnt, .int .i64 S2.first, .int .i64 S2.words, .slice BG S2.gens.length bG, .slice BT S2.taken.length bT, .slice BR S2.row.length bR] 52)
  rw [← e5]
  clear e5
  have f5 := f3.out.putB x5 on5
  replace on5 := Lib.hid on5
  clear x5
  have s5 := f5.size
  have hlt5 : w.heap.size < w5.heap.size := by omega
  have hlt6 : w.heap.size + 1 + 1 < w5.heap.size := by omega
  clear d0 d1 d2 d3 d4 d5 d6 d7 d8 d9 fd2 fd3 fd4 fd5 fd6 fd7 fd8
  obtain ⟨⟨d0, d1, d2, d3, d4, d5, d6, d7, d8, d9⟩, -⟩ := cells10 f5.b
  obtain ⟨⟨z0, z1, z2, z3, z4, z5, z6, z7, z8, z9⟩, fz⟩ := cells10 f5.z
  have h0 := fz 0
  have h1 := fz 1
  have h2 := fz 2
  have h3 := fz 3
  have h4 := fz 4
  have h5 := fz 5
  have h6 := fz 6
  have h7 := fz 7
  have h8 := fz 8
  have h9 := fz 9
  clear fz
  obtain ⟨w9, e9, ⟨y0, y1, y2, y3, y4, y5, y6, y7, y8, y9⟩, -, on9⟩ := end10 f5.z (Below.refl 0 w5) (Nat.zero_le _) (.pointer (some ⟨sb, 0, none⟩)) (.pointer (some ⟨p, 0, none⟩)) (.slice BC C.length bC) (.int .i64 cnt) (.int .i64 S2.first) (.int .i64 S2.words) (.slice BG S2.gens.length bG) (.slice BT S2.taken.length bT) (.slice BR S2.row.length bR) (.slice AL L.length cL)
  replace f5 := Lib.hid f5
  replace on9 := Lib.hid on9
  replace e9 := Lib.hid e9
  go_wp2
  rw [← e9.out, ← hQ.out]
  have on : Only (fun k => k = w.heap.size ∨ k = w.heap.size + 1 + 1) w3 w9 := (on5.out.mono (fun _ _ e => .inl e)).trans (on9.out.mono (fun _ _ e => .inr e)) (fun _ _ e => e)
  have L1 := own_keep H.out.l (ofBelow (S := fun _ => False) f0'.out) (fun _ _ x => x)
  have L2 := own_keep L1 on2.out (fun k hk e => (H.out.far k e).2.2.2.2 hk)
  have L3 := own_keep L2 (ofBelow (S := fun _ => False) b23.out) (fun _ _ x => x)
  have L9 := own_keep L3 on (fun k e => by have := (own_lt H.out.l e).2; omega)
  have F := fin H.out sl2.out ((ofBelow (S := SlF sb p v vg vt vr) f0'.out).trans on2.out (fun _ _ e => e)) (fun k e => by
    rcases hvr.out with q | q
    · exact .inl (q ▸ e)
    · exact .inr (by have := q k e; omega)) rs.out fr.out b23.out f2.out.b f2.out.z on L9 (fun _ e => .inl e)
  exact bodyPost_ret (v := .tuple #[.agg #[.pointer (some ⟨sb, 0, none⟩), .pointer (some ⟨p, 0, none⟩), .slice BC C.length bC, .int .i64 cnt, .int .i64 S2.first, .int .i64 S2.words, .slice BG S2.gens.length bG, .slice BT S2.taken.length bT, .slice BR S2.row.length bR, .slice AL L.length cL], .bool true]) (by simp [results, Try.results36, go_sem, y0, y1, y2, y3, y4, y5, y6, y7, y8, y9]) rfl ⟨n, cnt, vr', _, _, _, _, _, rfl, by omega, by omega, by omega, by omega, F.1, F.2⟩

end Go.Proofs.Ytllibgjajlgnbaa.SlabDo
